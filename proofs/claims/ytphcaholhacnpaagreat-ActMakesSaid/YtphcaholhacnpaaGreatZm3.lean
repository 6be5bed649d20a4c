/- Pd: span: Norm, Lead, and the library's Clone at runs. Conditions: sizes. Pn: span: the canonical form in plain words. Conditions: none. Pe: past: what the sets come to. Conditions: sizes. Pf: past: dots, and the set of dots. Conditions: sizes. Pg: past: the sets that pasts mean. Conditions: sizes. Ph: past: Norm. Conditions: sizes. Pi: past: the library's Equal, IsNorm. Conditions: sizes. Pj: past: Has. Conditions: none. Ra: the document's past: dots, Has, Same, sorted. Conditions: sizes. Rb: the document's turns: sorted (by halves). Conditions: sizes. Rh: the past in plain words: what is in a set in form. Conditions: none. Rt: the document's turns, in plain words: a sweep over where runs begin and end. Conditions: none. Pl: runs: how many numbers, the greatest. Conditions: none. Rk: turns: how many there are, the last. Conditions: none. Pp: span: what is in both, what is in neither, in plain words. Conditions: none. Rd: the document's turns. Conditions: sizes. Re: the document's Mean. Conditions: sizes. Rf: the document's Form. Conditions: the runs are in form. Rg: the document's Norm, Of, IsNorm. Conditions: sizes. Pu: how many dots; the greatest of a replica: in plain words. Conditions: none. Pk: span.Size, span.Last, past.Size, Empty, Last, Next. Conditions: sizes. Pm: span.Meet, others, Minus; past.Minus, Join. Conditions: sizes. -/
import Derived.Below
import Derived.OwnWalk
import Derived.WalkKit
import Derived.KernelRfl
import Derived.Laws.MakeOwn
import Derived.Laws.OwnMore
import Derived.Laws.Slices
import Derived.Laws.CopyOwn
import Derived.Laws.AppendOwnNone
import Derived.Laws.Rows
import Derived.Orders
import Derived.Test.YtphcaholhacnpaaGreatProg
import Derived.DataReads
import Derived.ChangeOld
import Derived.DataElems
import Derived.SizedLaws
import Derived.ChangeKeysEq
import Derived.Sort.LotA
import Derived.Shelf.SlSortFuncK.RowK2
import Derived.Shelf.SlSortCmp.NoneTotal
import Derived.Lib.Walk
import Derived.Shelf.SlLaysE0
import Derived.Shelf.RegionOpenPlain
import Derived.Deep.LoopGhost
import Derived.Lib.SliceRun
import Derived.Test.YtphcaholhacnpaaGreatZm2
set_option linter.unusedVariables false
set_option linter.unusedSimpArgs false
namespace Go.Proofs.YtphcaholhacnpaaGreat
open Go.E
set_option maxRecDepth 100000
set_option maxHeartbeats 4000000
open Go Go.Shelf Go.Proofs
def renClR:Go.Shelf.Ren:=⟨fun | 41=>208 | n=>n,fun | 4=>4 | 22=>201 | 23=>206 | n=>n,fun n=>n⟩
theorem B4r:Go.Proofs.SlLaysE0.n41 Tryz.prog renClR:={ mixed:=by kernel_rfl,f41:=⟨Tryz.f208.name,by decide,Tryz.func208.trans (congrArg some (by kernel_rfl))⟩,t4:=Tryz.underlying4,a4:=Tryz.isAgg4,z4:=Tryz.sizeOf4,v4:=Tryz.zeroValue4,t22:=Tryz.underlying201,a22:=Tryz.isAgg201,z22:=Tryz.sizeOf201,v22:=Tryz.zeroValue201 }
theorem con208(es:List Run)(hl:es.length*16≤140737488355328):A4u Tryz.prog 208 [.sl (es.map c206)] 206 (.row 2 (es.map c206)) :=
 A46 (T:=tab) B4r B3 (te:=_) rfl ⟨_,Tryz.func208,by kernel_rfl,by kernel_rfl⟩ (by kernel_rfl) (by decide +kernel) (fun r hr=>by obtain⟨x,_,rfl⟩:=List.mem_map.1 hr;kernel_rfl) (by rw[List.length_map];exact hl)
def renClI:Go.Shelf.Ren:=⟨fun | 41=>164 | n=>n,fun | 4=>4 | 22=>23 | 23=>3 | n=>n,fun n=>n⟩
theorem B4s:Go.Proofs.SlLaysE0.n41 Tryz.prog renClI:={ mixed:=by kernel_rfl,f41:=⟨Tryz.f164.name,by decide,Tryz.func164.trans (congrArg some (by kernel_rfl))⟩,t4:=Tryz.underlying4,a4:=Tryz.isAgg4,z4:=Tryz.sizeOf4,v4:=Tryz.zeroValue4,t22:=Tryz.underlying23,a22:=Tryz.isAgg23,z22:=Tryz.sizeOf23,v22:=Tryz.zeroValue23 }
theorem con164(es:List Int)(hl:es.length*8≤140737488355328):A4u Tryz.prog 164 [.sl (es.map c3)] 3 (.row 1 (es.map c3)) :=
 A46 (T:=tab) B4s B3 (te:=_) rfl ⟨_,Tryz.func164,by kernel_rfl,by kernel_rfl⟩ (by kernel_rfl) (by decide +kernel) (fun r hr=>by obtain⟨x,_,rfl⟩:=List.mem_map.1 hr;kernel_rfl) (by rw[List.length_map];exact hl)
def nrm(a:List Run):List Run:=unR [a]
def B8(n:List Run):Int×List Run:=if n.length=0∨¬ n[0]!.lo=1 then(0,n)else(n[0]!.hi,n.drop 1)
theorem Aq3(l:List Run):(Aj0 l).length≤l.length:=by
 have:∀(l out:List Run),(l.foldl A1g out).length≤out.length+l.length:=by
  intro l
  induction l with
  | nil=>intro out;simp
  | cons r l ih =>
   intro out
   have h1:=ih (A1g out r)
   have h2:=Ac1 out r
   simp only [List.foldl_cons,List.length_cons]
   omega
 have h:=this l []
 simpa [Aj0]using h
theorem A0t(a:List Run):(nrm a).length≤a.length:=by
 have h1:=Aq3 (X1 (J3 [a].flatten))
 have h2:=(Q0 (l:=J3 [a].flatten) fun r hr=>(H2 r hr).1).length_eq
 have h3:=U6 [a].flatten
 unfold nrm unR
 simp only [List.flatten_cons,List.flatten_nil,List.append_nil]at *
 omega
theorem B30(a:List Run)(hb:a.length*16≤140737488351232):Con Tryz.prog 207 [.sl (a.map c206)] (.sl ((nrm a).map c206)) :=
 by
 refine lN 0 c206 (a) Tryz.func207 fun hl_0=>sC B3 [.tmp 2] 6 Tryz.func207 ?_
 intro e0 cx
 refine sq<|rG cx [0] [] z0<|sn<|sq<|rG cx [2] [5] (fT (con239 ([a]) ?g0) (oV 2 { val:=some (.own (206:Nat) (2:Nat)),rows:=some (List.map c206 (unR [a])) } z0)) ?_;rotate_left
 refine sn<|rT<|qR (.sl (((E.look [(2,{ val:=some (AV.own (206:Nat) (2:Nat)),rows:=some (List.map c206 (unR [a])):Ov })] (2)).getD {:Ov }).rows.getD [])) (.eq ?g1);rotate_left
 case g0=>exact(by simpa using hb)
 case g1=>exact rfl
theorem con163(a:List Run)(hb:a.length*16≤140737488351232):Con Tryz.prog 163 [.sl (a.map c206)] (.tup [.i .i64 (B8 (nrm a)).1,.sl ((B8 (nrm a)).2.map c206)]) :=
 by
 have hn:=A0t a
 refine lN 0 c206 (a) Tryz.func163 fun hl_0=>sC B3 [.tmp 2,.tmp 3] 25 Tryz.func163 ?_
 intro e0 cx
 refine sq<|rG cx [0] [] z0<|sn<|sq ?_
 have hl_0:=(A0t a)
 refine rG cx [4] [] (fT (B30 (a) (by(with_reducible assumption))) (oA 1 (.sl (List.map c206 (nrm a))) z0))<|sn<|sq<|sq<|A9 (σ':=⟨[(4,.sl (List.map c206 (nrm a))),(16,.b (decide ((↑(nrm a).length:Int)=0∨¬(nrm a)[(0:Nat)]!.lo=1)))],[]⟩) ?_ ?_
 refine A6 ((↑(nrm a).length:Int)=0) (fun h2=>?_) (fun h2=>?_)
 refine rG cx [4,16] [] (tL 1 c206 (nrm a) (tT 2 (A4 h2) (tD 9 true ((↑(nrm a).length:Int)=0∨¬(nrm a)[(0:Nat)]!.lo=1) (by simp only [eq_true h2,tsl]) z0))) ?_
 exact⟨rfl,by kernel_rfl⟩
 refine rG cx [4,16] [] (tL 1 c206 (nrm a) (tT 2 (A0 h2) (fO ((0:Int)≤(0:Int)) (fP ((List.map c206 (nrm a))[Int.toNat (0:Int)]?=some (c206 (nrm a)[(0:Nat)]!)) (by exact G6 (by omega)) (fR 2 (tN 8 ((nrm a)[(0:Nat)]!.lo) (1:Int) (tD 9 (decide ¬(nrm a)[(0:Nat)]!.lo=1) ((↑(nrm a).length:Int)=0∨¬(nrm a)[(0:Nat)]!.lo=1) (by simp only [eq_false h2,tsl]) (oR 5 (c206 (nrm a)[(0:Nat)]!) z0)))))))) ?_
 exact⟨rfl,by kernel_rfl⟩
 refine sn<|dC ((↑(nrm a).length:Int)=0∨¬(nrm a)[(0:Nat)]!.lo=1) (fun h3=>?_) fun h3=>?_
 refine sq<|rG cx [2,3] [] z0<|sn<|rT<|nR<|qR (.tup [.i .i64 ((0:Int)),.sl (List.map c206 (nrm a))]) (A7.tup (ZLe.cons (A7.eq (show AV.i .i64 0=AV.i .i64 (B8 (nrm a)).1 from(by unfold B8;rw[if_pos (h3.imp (fun k=>by omega) id)]))) (ZLe.cons (A7.eq (show AV.sl (List.map c206 (nrm a))=AV.sl (List.map c206 (B8 (nrm a)).2)from(by unfold B8;rw[if_pos (h3.imp (fun k=>by omega) id)]))) ZLe.nil)))
 refine sK<|sn<|sq<|rA cx [2,3] [24] (fO ((0:Int)≤(0:Int)) (fP ((List.map c206 (nrm a))[Int.toNat (0:Int)]?=some (c206 (nrm a)[(0:Nat)]!)) (by exact G6 (by omega)) (fR 2 (tT 5 (Ab5 c206 (nrm a) (Int.toNat (1:Int)):AV.sl (List.drop (Int.toNat (1:Int)) (List.take (none.getD (↑(List.map c206 (nrm a)).length:Int)).toNat (List.map c206 (nrm a))))=AV.sl (List.map c206 (List.drop (Int.toNat (1:Int)) (nrm a)))) (fO ((0:Int)≤(1:Int)) (fP (1≤none.getD (↑(List.map c206 (nrm a)).length:Int)) (by have:¬((nrm a).length:Int)=0:=fun k=>h3 (.inl k);simp only [Option.getD_none,List.length_map];omega) (fP (none.getD (↑(List.map c206 (nrm a)).length:Int)≤(↑(List.map c206 (nrm a)).length:Int)) (by exact Int.le_refl _) (fX c206 (nrm a) 2 (fT (con208 (List.drop (Int.toNat (1:Int)) (nrm a)) (by rw[List.length_drop];omega)) (oR 1 (c206 (nrm a)[(0:Nat)]!) (oV 6 { val:=some (.own (206:Nat) (2:Nat)),rows:=some (List.map c206 (List.drop (Int.toNat (1:Int)) (nrm a))) } z0))))))))))) ?_
 refine sn<|rT<|qR (.tup [.i .i64 ((nrm a)[(0:Nat)]!.hi),.sl (((E.look [(6,{ val:=some (AV.own (206:Nat) (2:Nat)),rows:=some (List.map c206 (List.drop (Int.toNat (1:Int)) (nrm a))):Ov })] (6)).getD {:Ov }).rows.getD [])]) (A7.tup (ZLe.cons (A7.eq (show AV.i .i64 (nrm a)[(0:Nat)]!.hi=AV.i .i64 (B8 (nrm a)).1 from(by unfold B8;rw[if_neg (fun k=>h3 (k.imp (fun k=>by omega) id))]))) (ZLe.cons (A7.eq (show AV.sl (((E.look [(6,{ val:=some (AV.own (206:Nat) (2:Nat)),rows:=some (List.map c206 (List.drop (Int.toNat (1:Int)) (nrm a))):Ov })] (6)).getD {:Ov }).rows.getD [])=AV.sl (List.map c206 (B8 (nrm a)).2)from(by show AV.sl (List.map c206 (List.drop 1 (nrm a)))=_;unfold B8;rw[if_neg (fun k=>h3 (k.imp (fun k=>by omega) id))]))) ZLe.nil)))
end Go.Proofs.YtphcaholhacnpaaGreat
namespace Go.Proofs.YtphcaholhacnpaaGreat
open Go.E
set_option maxRecDepth 100000
set_option maxHeartbeats 4000000
def S7(l:List Run):Prop:=l.Pairwise (fun x y=>x.hi+1 < y.lo)∧∀ r∈l,1≤r.lo∧r.lo≤r.hi∧r.hi≤1000000000
def inR(l:List Run)(n:Int):Prop:=∃ r∈l,r.lo≤n∧n≤r.hi
theorem Aq4{α:Type}[Inhabited α]{l:List α}(h:0 <(l.length:Int)):∃ p,l=p++[l[((l.length:Int)-1).toNat]!]:=by
 refine⟨l.take (l.length-1),?_⟩
 have e:((l.length:Int)-1).toNat=l.length-1:=by omega
 rw[e]
 have h1:=List.take_succ_eq_append_getElem (l:=l) (i:=l.length-1) (by omega)
 rw[getElem!_pos l (l.length-1) (by omega),← h1,List.take_of_length_le (by omega)]
theorem A7n(p:List Run)(x r:Run):A1g (p++[x]) r=if r.lo≤x.hi+1 then p++[⟨x.lo,max x.hi r.hi⟩]else p++[x]++[r]:=by
 have e:(((p++[x]).length:Int)-1).toNat=p.length:=by rw[List.length_append,List.length_singleton];omega
 have hx:A5j (p++[x])=x:=by unfold A5j;rw[e];simp
 unfold A1g
 rw[hx,e]
 by_cases h:r.lo≤x.hi+1
 ·rw[if_pos ⟨by rw[List.length_append,List.length_singleton];omega,h⟩,if_pos h]
  simp
 ·rw[if_neg (fun k=>h k.2),if_neg h]
theorem Ac2(r:Run):A1g [] r=[r]:=by simp [A1g]
theorem A5l:S7 []:=⟨List.Pairwise.nil,fun r hr=>by cases hr⟩
theorem B0y {out : List Run} {r : Run} (h : S7 out) (hr : A05 r) : S7 (A1g out r) := by
  unfold A05 okR at hr
  by_cases h0:out=[]
  · subst h0
    rw[Ac2]
    exact ⟨by simp, fun x hx => by have : x = r := by simpa using hx
                                   subst this;omega⟩
  · obtain ⟨p, hp⟩ := Aq4 (l := out) (by have := List.length_pos_iff.2 h0; omega)
    generalize out[((out.length:Int)-1).toNat]! = x at hp
    subst hp
    obtain⟨h1,h2⟩:=h
    rw[List.pairwise_append]at h1
    obtain⟨q1,_,q3⟩:=h1
    have hx:=h2 x (by simp)
    rw[A7n]
    split
    · refine ⟨List.pairwise_append.2 ⟨q1, by simp, fun a ha b hb => ?_⟩, fun a ha => ?_⟩
      · have : b = ⟨x.lo, max x.hi r.hi⟩ := by simpa using hb
        subst this
        exact q3 a ha x (by simp)
      · rcases List.mem_append.1 ha with ha | ha
        · exact h2 a (by simp [ha])
        · have : a = ⟨x.lo, max x.hi r.hi⟩ := by simpa using ha
          subst this
          simp only
          omega
    · rename_i hn
      refine⟨List.pairwise_append.2 ⟨List.pairwise_append.2 ⟨q1,by simp,q3⟩,by simp,fun a ha b hb=>?_⟩,fun a ha=>?_⟩
      · have : b = r := by simpa using hb
        subst this
        rcases List.mem_append.1 ha with ha | ha
        · have:=q3 a ha x (by simp);omega
        · have : a = x := by simpa using ha
          subst this
          omega
      · rcases List.mem_append.1 ha with ha | ha
        · exact h2 a ha
        · have : a = r := by simpa using ha
          subst this
          omega
theorem B4t{out:List Run}{r:Run}(hl:∀ x∈out,x.lo≤r.lo)(hs:S7 out)(n:Int):inR (A1g out r) n↔inR out n∨(r.lo≤n∧n≤r.hi):=by
 by_cases h0:out=[]
 ·subst h0
  rw[Ac2]
  simp [inR]
 ·obtain⟨p,hp⟩:=Aq4 (l:=out) (by have:=List.length_pos_iff.2 h0;omega)
  generalize out[((out.length:Int)-1).toNat]! = x at hp
  subst hp
  have hx:=hs.2 x (by simp)
  have hlx:=hl x (by simp)
  rw[A7n]
  have app:∀(a b:List Run),inR (a++b) n↔inR a n∨inR b n:=by
   intro a b
   unfold inR
   constructor
   ·rintro⟨y,hy,h⟩
    rcases List.mem_append.1 hy with hy | hy
    ·exact .inl ⟨y,hy,h⟩
    ·exact .inr ⟨y,hy,h⟩
   ·rintro(⟨y,hy,h⟩ | ⟨y,hy,h⟩)
    ·exact⟨y,List.mem_append.2 (.inl hy),h⟩
    ·exact⟨y,List.mem_append.2 (.inr hy),h⟩
  have one:∀ y:Run,inR [y] n↔(y.lo≤n∧n≤y.hi):=by intro y;simp [inR]
  split
  ·rw[app,app,one,one,or_assoc]
   refine or_congr_right ?_
   simp only
   omega
  ·rw[app,one]
theorem A47(l:List Run):∀(out:List Run),S7 out→(∀ r∈l,A05 r)→l.Pairwise (fun x y=>x.lo≤y.lo)→(∀ x∈out,∀ r∈l,x.lo≤r.lo) →
  S7 (l.foldl A1g out)∧∀ n,inR (l.foldl A1g out) n↔inR out n∨inR l n:=by
 induction l with
 | nil=>intro out h _ _ _;exact⟨h,fun n=>by simp [inR]⟩
 | cons r l ih =>
  intro out h hg hp hl
  rw[List.pairwise_cons]at hp
  have hlo:∀ x∈A1g out r,∀ y∈l,x.lo≤y.lo:=by
   intro x hx y hy
   have hy1:=hp.1 y hy
   unfold A1g at hx
   split at hx
   ·rename_i hc
    rcases List.mem_or_eq_of_mem_set hx with hx | rfl
    ·have:=hl x hx r (by simp);omega
    ·have:=hl _ (E1 (l:=out) (i:=((out.length:Int)-1).toNat) (by omega)) r (by simp)
     unfold A5j
     simp only
     omega
   ·rcases List.mem_append.1 hx with hx | hx
    ·have:=hl x hx r (by simp);omega
    ·have:x=r:=by simpa using hx
     subst this
     exact hy1
  obtain⟨g1,g2⟩:=ih (A1g out r) (B0y h (hg r (by simp))) (fun y hy=>hg y (by simp [hy])) hp.2 hlo
  refine⟨g1,fun n=>?_⟩
  rw[List.foldl_cons,g2 n,B4t (fun x hx=>hl x hx r (by simp)) h n,or_assoc]
  refine or_congr_right ?_
  simp [inR]
theorem B4u(ss:List (List Run)):S7 (unR ss):=by
 have hg:∀ r∈J3 ss.flatten,A05 r:=H2
 exact(A47 _ [] A5l (Y3 hg) (A42 _) (fun x hx=>by cases hx)).1
theorem unR_in(ss:List (List Run))(n:Int):inR (unR ss) n↔1≤n∧n≤1000000000∧inR ss.flatten n:=by
 have hg:∀ r∈J3 ss.flatten,A05 r:=H2
 have h:=(A47 _ [] A5l (Y3 hg) (A42 _) (fun x hx=>by cases hx)).2 n
 unfold unR Aj0
 rw[h]
 have hp:=Q0 (l:=J3 ss.flatten) fun r hr=>(hg r hr).1
 constructor
 ·rintro(⟨r,hr,_⟩ | ⟨r,hr,h1,h2⟩)
  ·cases hr
  ·have hr:=hp.subset hr
   unfold J3 at hr
   obtain⟨hr,_⟩:=List.mem_filter.1 hr
   obtain⟨x,hx,rfl⟩:=List.mem_map.1 hr
   simp only [D1]at h1 h2
   exact⟨by omega,by omega,x,hx,by omega,by omega⟩
 ·rintro⟨h1,h2,x,hx,h3,h4⟩
  refine .inr ⟨D1 x,hp.symm.subset ?_,?_,?_⟩
  ·unfold J3
   refine List.mem_filter.2 ⟨List.mem_map.2 ⟨x,hx,rfl⟩,?_⟩
   show decide ((D1 x).lo≤(D1 x).hi)=true
   rw[decide_eq_true_iff]
   show max x.lo 1≤min x.hi 1000000000
   omega
  ·simp only [D1];omega
  ·simp only [D1];omega
theorem A95{l:List Run}(h:S7 l):∀ i:Nat,i < l.length→2*(i:Int)+1≤l[i]!.lo
 | 0,hi=>by have:=h.2 _ (E1 hi);omega
 | i+1,hi=>by
  have h1:=A95 h i (by omega)
  have h2:=List.pairwise_iff_getElem.1 h.1 i (i+1) (by omega) hi (by omega)
  rw[← getElem!_pos l i (by omega),← getElem!_pos l (i+1) hi]at h2
  have h3:=h.2 _ (E1 (l:=l) (i:=i) (by omega))
  omega
theorem W3{l:List Run}(h:S7 l):l.length≤500000000:=by
 by_cases h0:l.length=0
 ·omega
 ·have h1:=A95 h (l.length-1) (by omega)
  have h2:=h.2 _ (E1 (l:=l) (i:=l.length-1) (by omega))
  omega
theorem E2(a:List Run):S7 (nrm a):=B4u [a]
theorem O3(a:List Run)(n:Int):inR (nrm a) n↔1≤n∧n≤1000000000∧inR a n:=by
 have:=unR_in [a] n
 simpa [nrm]using this
theorem W4:∀ {a b:List Run},S7 a→S7 b→(∀ n,inR a n↔inR b n)→a=b
 | [],[],_,_,_=>rfl
 | [],y :: b,_,hb,h=>by
  have:=hb.2 y (by simp)
  obtain⟨r,hr,_⟩:=(h y.lo).2 ⟨y,by simp,by omega,by omega⟩
  cases hr
 | x :: a,[],ha,_,h=>by
  have:=ha.2 x (by simp)
  obtain⟨r,hr,_⟩:=(h x.lo).1 ⟨x,by simp,by omega,by omega⟩
  cases hr
 | x :: a,y :: b,ha,hb,h=>by
  have hx:=ha.2 x (by simp)
  have hy:=hb.2 y (by simp)
  have pa:=List.pairwise_cons.1 ha.1
  have pb:=List.pairwise_cons.1 hb.1
  have la:∀ n,inR a n→x.hi+1 < n:=fun n ⟨r,hr,h1,_⟩=>by have:=pa.1 r hr;omega
  have lb:∀ n,inR b n→y.hi+1 < n:=fun n ⟨r,hr,h1,_⟩=>by have:=pb.1 r hr;omega
  have ca:∀ n,inR (x :: a) n↔(x.lo≤n∧n≤x.hi)∨inR a n:=fun n=>by simp [inR]
  have cb:∀ n,inR (y :: b) n↔(y.lo≤n∧n≤y.hi)∨inR b n:=fun n=>by simp [inR]
  have e1:x.lo=y.lo:=by
   have h1:=(cb x.lo).1 ((h x.lo).1 ((ca x.lo).2 (.inl (by omega))))
   have h2:=(ca y.lo).1 ((h y.lo).2 ((cb y.lo).2 (.inl (by omega))))
   rcases h1 with h1 | h1
   ·rcases h2 with h2 | h2
    ·omega
    ·have:=la _ h2;omega
   ·have:=lb _ h1
    rcases h2 with h2 | h2
    ·omega
    ·have:=la _ h2;omega
  have e2:x.hi=y.hi:=by
   have h1:=(cb x.hi).1 ((h x.hi).1 ((ca x.hi).2 (.inl (by omega))))
   have h2:=(ca y.hi).1 ((h y.hi).2 ((cb y.hi).2 (.inl (by omega))))
   have h3:¬ x.hi < y.hi:=fun k=>by
    have:=(ca (x.hi+1)).1 ((h (x.hi+1)).2 ((cb (x.hi+1)).2 (.inl (by omega))))
    rcases this with g | g
    ·omega
    ·have:=la _ g;omega
   have h4:¬ y.hi < x.hi:=fun k=>by
    have:=(cb (y.hi+1)).1 ((h (y.hi+1)).1 ((ca (y.hi+1)).2 (.inl (by omega))))
    rcases this with g | g
    ·omega
    ·have:=lb _ g;omega
   omega
  have e:x=y:=by cases x;cases y;simp only at e1 e2;rw[e1,e2]
  subst e
  rw[W4 (a:=a) (b:=b) ⟨pa.2,fun r hr=>ha.2 r (by simp [hr])⟩ ⟨pb.2,fun r hr=>hb.2 r (by simp [hr])⟩ fun n=>?_]
  have:=h n
  rw[ca,cb]at this
  constructor
  ·intro g
   have g1:=la n g
   rcases this.1 (.inr g)with k | k
   ·omega
   ·exact k
  ·intro g
   have g1:=lb n g
   rcases this.2 (.inr g)with k | k
   ·omega
   ·exact k
end Go.Proofs.YtphcaholhacnpaaGreat
namespace Go.Proofs.YtphcaholhacnpaaGreat
open Go.E
set_option maxRecDepth 100000
set_option maxHeartbeats 4000000
def Y4(T:Nat→List Run)(r:Nat):Int:=(B8 (nrm (T r))).1
def R9(T:Nat→List Run)(r:Nat):List Span:=(B8 (nrm (T r))).2.map fun x=>⟨r,x.lo,x.hi⟩
def szT(T:Nat→List Run):Nat→Int
 | 0=>0
 | n+1=>if 0 < Y4 T n then n+1 else szT T n
def H3(T:Nat→List Run):Nat→List Span
 | 0=>[]
 | n+1=>H3 T n++R9 T n
def A48(T:Nat→List Run)(n:Nat):List Int:=(List.range n).map (Y4 T)++List.replicate (16-n) 0
def H9(T:Nat→List Run):Past:=⟨(A48 T 16).take (szT T 16).toNat,H3 T 16⟩
def Aq5(T:Nat→List Run)(r s:Int):Prop:=s=szT T r.toNat
def Y5(T:Nat→List Run)(r:Int)(v:List Int):Prop:=v=A48 T r.toNat
def I7(T:Nat→List Run)(r:Int)(c:List Span):Prop:=c=H3 T r.toNat
def I3(T:Nat→List Run)(r j:Int)(c:List Span):Prop:=c=H3 T r.toNat++(R9 T r.toNat).take j.toNat
def Ac3(T:Nat→List Run)(s r:Int)(v:List Int)(c:List Span):Prop:=0≤r∧r≤16∧0≤s∧s≤r∧v.length=16∧Aq5 T r s∧Y5 T r v∧I7 T r c
def dec81a(s r:Int)(v:List Int)(c:List Span):Nat:=(16-r).toNat
def A49(T:Nat→List Run)(r:Int)(w:List Int)(j:Int)(v:List Int)(c:List Span):Prop:=v=w∧0≤j∧j≤(B8 (nrm (T r.toNat))).2.length∧I3 T r j c
def B31(T:Nat→List Run)(r:Int)(j:Int)(v:List Int)(c:List Span):Nat:=((B8 (nrm (T r.toNat))).2.length-j).toNat
theorem A1o(T:Nat→List Run)(r:Nat):(B8 (nrm (T r))).2.length≤500000000:=by
 have h:=W3 (E2 (T r))
 unfold B8
 split
 ·exact h
 ·simp only [List.length_drop];omega
theorem A07(T:Nat→List Run):∀ n:Nat,(H3 T n).length≤n*500000000
 | 0=>by simp [H3]
 | n+1=>by
  have h1:=A07 T n
  have h2:=A1o T n
  rw[H3,List.length_append,R9,List.length_map]
  omega
theorem W5{T:Nat→List Run}{r j:Int}{c:List Span}(h0:0≤r)(h1:r < 16)(hc:I3 T r j c):c.length≤8000000000:=by
 unfold I3 at hc
 have h2:=A07 T r.toNat
 have h3:=A1o T r.toNat
 rw[hc,List.length_append,List.length_take,R9,List.length_map]
 omega
theorem A1c{T:Nat→List Run}{r:Int}{c:List Span}(hc:I7 T r c):I3 T r 0 c:=by
 unfold I7 I3 at *
 simpa using hc
theorem A2m{T:Nat→List Run}{r j:Int}{c:List Span}(h0:0≤r)(j0:0≤j)(jl:j <(B8 (nrm (T r.toNat))).2.length)(hc:I3 T r j c) :
  I3 T r (j+1) (c++[⟨r,((B8 (nrm (T r.toNat))).2[j.toNat]!).lo,((B8 (nrm (T r.toNat))).2[j.toNat]!).hi⟩]):=by
 unfold I3 at *
 have hl:(j:Int) <(R9 T r.toNat).length:=by rw[R9,List.length_map];exact jl
 rw[← D9 j0 hl,← List.append_assoc,← hc]
 have e:(R9 T r.toNat)[j.toNat]! =⟨r,((B8 (nrm (T r.toNat))).2[j.toNat]!).lo,((B8 (nrm (T r.toNat))).2[j.toNat]!).hi⟩:=by
  have hj:j.toNat <(B8 (nrm (T r.toNat))).2.length:=by omega
  rw[getElem!_pos (R9 T r.toNat) j.toNat (by omega),getElem!_pos (B8 (nrm (T r.toNat))).2 j.toNat hj]
  simp only [R9,List.getElem_map]
  congr 1
  omega
 rw[e]
theorem A4a{T:Nat→List Run}{r j:Int}{c:List Span}(h0:0≤r)(jl:¬ j <(B8 (nrm (T r.toNat))).2.length)(hc:I3 T r j c):I7 T (r+1) c:=by
 unfold I3 I7 at *
 rw[hc,show(r+1).toNat=r.toNat+1 by omega,H3,List.take_of_length_le (by rw[R9,List.length_map];omega)]
theorem A5m{T:Nat→List Run}{r:Int}{v:List Int}(h0:0≤r)(h1:r < 16)(hv:Y5 T r v):Y5 T (r+1) (v.set r.toNat (B8 (nrm (T r.toNat))).1):=by
 unfold Y5 at *
 rw[hv,show(r+1).toNat=r.toNat+1 by omega]
 unfold A48
 generalize hn:r.toNat=n
 have hn':n < 16:=by omega
 rw[List.set_append_right _ _ (by simp),List.length_map,List.length_range,Nat.sub_self,show 16-n=(16-(n+1))+1 by omega,List.replicate_succ,List.set_cons_zero,List.range_succ,List.map_append,List.append_assoc]
 rfl
theorem A96{T:Nat→List Run}{r s:Int}(h0:0≤r)(hs:Aq5 T r s):Aq5 T (r+1) (if 0 <(B8 (nrm (T r.toNat))).1 then r+1 else s):=by
 unfold Aq5 at *
 rw[show(r+1).toNat=r.toNat+1 by omega,szT,Y4,hs]
 split
 ·omega
 ·rfl
theorem A5n{T:Nat→List Run}{r s:Int}{v:List Int}{c:List Span}(h1:r≤16)(h:¬ r < 16)(hs:Aq5 T r s)(hv:Y5 T r v)(hc:I7 T r c):H9 T=⟨v.take s.toNat,c⟩:=by
 unfold Aq5 Y5 I7 at *
 have:r.toNat=16:=by omega
 rw[this]at hs hv hc
 unfold H9
 rw[hs,hv,hc]
theorem B4v(t:Nat→List Run)(hb:∀ r:Nat,r < 16→(t r).length*16≤140737488351232):Con Tryz.prog 93 [.eptr (F9 c206 16 t)] (.agg (c26 (H9 t))) :=
 by
 refine sC B3 [.cell 2 26] 59 Tryz.func93 ?_
 intro e0 cx
 refine sq<|rG cx [0,2] [2] z0<|sn<|sq<|rG cx [0,2,3] [2,3] z0<|sn<|sq<|rG cx [0,2,3,4] [2,3,11] (fR (↑(16:Nat):Int) (fR (↑(16:Nat):Int) (fO ((8:Nat)*(16:Nat)≤(281474976710656:Nat)) (fP ((16:Nat)≤maxLen) (by(simp only [Go.maxLen];omega)) (fR 1 (fP (ZLe [AV.i .i64 (0:Int)] [AV.i .i64 (0:Int)]) (by(with_reducible exact ZLe.refl _)) (fP (List.replicate (16:Nat) [AV.i .i64 (0:Int)]=List.map c3 (List.replicate (16:Nat) (0:Int))) (by(with_reducible refine A5c ?_;kernel_rfl)) (oV 0 { row:=[.i .i64 ((0:Int))],rows:=some (List.map c3 (List.replicate (16:Nat) (0:Int))),n:=(16:Nat) } z0)))))))) ?_
 refine sn<|sq<|rG cx [0,2,3,4,5] [2,3,11] z0<|sn<|sq<|sq<|rG cx [0,2,3,4,5,12] [2,3,11] z0<|sn<|bL 0<|A3y 3 141 3 1 5301 (σ':=⟨[(0,.eptr (F9 c206 16 t)),(2,.ptr (2) (0) (0) (0)),(3,.ptr (3) (0) (0) (0)),(4,.own 11 0),(5,.i .i64 ((0:Int))),(12,.i .i64 ((0:Int)))],[(2,⟨0,26,.var [.nl,.nl]⟩),(3,⟨0,26,.var [.nl,.own 5301 0]⟩),(11,⟨0,3,.row 1 (List.map c3 (List.replicate (16:Nat) (0:Int)))⟩),(5301,⟨0,141,.row 3 (List.map B1 [])⟩)]⟩) (by kernel_rfl)<|sL (X:=Int×Int×List Int×List Span) (fun x=>⟨[(0,.eptr (F9 c206 16 t)),(2,.ptr (2) (0) (0) (0)),(3,.ptr (3) (0) (0) (0)),(4,.own 11 0),(5,.i .i64 (x.1)),(12,.i .i64 (x.2.1))],[(2,⟨0,26,.var [.nl,.nl]⟩),(3,⟨0,26,.var [.nl,.own 5301 0]⟩),(11,⟨0,3,.row 1 (List.map c3 x.2.2.1)⟩),(5301,⟨0,141,.row 3 (List.map B1 x.2.2.2)⟩)]⟩) (fun x ↦ dec81a x.1 x.2.1 x.2.2.1 x.2.2.2) (fun x ↦ Ac3 t x.1 x.2.1 x.2.2.1 x.2.2.2) [0,2,3,4,5,12] [2,3,11,5301] (((0:Int),(0:Int),List.replicate (16:Nat) (0:Int),[])) (show Ac3 t (0:Int) (0:Int) (List.replicate (16:Nat) (0:Int)) []from ?g0) ?_;rotate_left
 rintro⟨s0,r1,v2,cc3⟩ h_4
 obtain⟨hh5,hh6,hh7,hh8,hh9,h10,h11,h12⟩:0≤r1∧r1≤16∧0≤s0∧s0≤r1∧v2.length=(16:Nat)∧Aq5 t r1 s0∧Y5 t r1 v2∧I7 t r1 cc3:=h_4
 refine rE cx [0,2,3,4,5,12,13] [2,3,11,5301] (zB 0 (r1 <(16:Int))) (fun h13=>?_) fun h13=>?_
 refine sK<|sn<|sq<|bL 1<|sq<|rG cx [0,2,3,4,5,12,6] [2,3,11,5301] z0<|sn<|sq ?_
 have hl_14:=(A0t (t r1.toNat))
 refine rG cx [0,2,3,4,5,12,6,7,8] [2,3,11,5301] (fA (0≤r1) (fO (r1 <(↑(16:Nat):Int)) (fP ((List.drop (r1.toNat*(1:Nat)) (F9 c206 16 t))[(0:Nat)]?=some (AV.sl (List.map c206 (t r1.toNat)))) (by(exact A5e (by omega))) (fT (con163 (t r1.toNat) ?g1) (oR 4 [.sl (List.map c206 (t r1.toNat))] (oA 5 (.tup [.i .i64 ((B8 (nrm (t r1.toNat))).1),.sl (List.map c206 (B8 (nrm (t r1.toNat))).2)]) z0)))))) ?_;rotate_left
 refine sn<|sq<|rG cx [0,2,3,4,5,12,6,7,8] [2,3,11,5301] (fA (0≤r1) (fP (r1.toNat <(List.map c3 v2).length) (by(first | omega | (simp only [List.length_map];omega))) (fR 1 (fG c3 v2 r1.toNat (fR 1 (fP (0+(1:Nat)≤1) (by(first | omega | (simp only [List.length_map];omega))) (fP ((List.map c3 v2).set r1.toNat (List.take (0) (c3 v2[r1.toNat]!)++E0 (AV.i .i64 (B8 (nrm (t r1.toNat))).1)++List.drop (0+(1:Nat)) (c3 v2[r1.toNat]!))=List.map c3 (v2.set r1.toNat (B8 (nrm (t r1.toNat))).1)) (by(with_reducible refine A2c ?_;kernel_rfl)) (oV 4 { row:=(c3 v2[r1.toNat]!),rows:=some (List.map c3 (v2.set r1.toNat (B8 (nrm (t r1.toNat))).1)) } z0)))))))) ?_
 refine sn<|sq<|rD cx [0,2,3,4,5,12,6,8,29] [2,3,11,5301] (zB 1 ((0:Int) <(B8 (nrm (t r1.toNat))).1)) (fun h_15=>?_) fun h_15=>?_
 refine rG cx [0,2,3,4,5,12,6,8] [2,3,11,5301] (tW 1 (r1+1) z0)<|sn<|sq<|rG cx [0,2,3,4,5,12,6,32,33,34] [2,3,11,5301] (tL 1 c206 ((B8 (nrm (t r1.toNat))).2) z0)<|sn<|bL 2<|sL (X:=Int×List Int×List Span) (fun x=>⟨[(0,.eptr (F9 c206 16 t)),(2,.ptr (2) (0) (0) (0)),(3,.ptr (3) (0) (0) (0)),(4,.own 11 0),(5,.i .i64 (r1+1)),(12,.i .i64 (r1)),(6,.i .i64 (r1)),(32,.sl (List.map c206 (B8 (nrm (t r1.toNat))).2)),(33,.i .i64 ((↑(B8 (nrm (t r1.toNat))).2.length:Int))),(34,.i .i64 (x.1))],[(2,⟨0,26,.var [.nl,.nl]⟩),(3,⟨0,26,.var [.nl,.own 5301 0]⟩),(11,⟨0,3,.row 1 (List.map c3 x.2.1)⟩),(5301,⟨0,141,.row 3 (List.map B1 x.2.2)⟩)]⟩) (fun x ↦ B31 t r1 x.1 x.2.1 x.2.2) (fun x ↦ A49 t r1 (v2.set r1.toNat (B8 (nrm (t r1.toNat))).1) x.1 x.2.1 x.2.2) [0,2,3,4,5,12,6,32,33,34] [2,3,11,5301] (((0:Int),v2.set r1.toNat (B8 (nrm (t r1.toNat))).1,cc3)) (show A49 t r1 (v2.set r1.toNat (B8 (nrm (t r1.toNat))).1) (0:Int) (v2.set r1.toNat (B8 (nrm (t r1.toNat))).1) cc3 from ?g2) ?_;rotate_left
 rintro⟨j_16,v_17,c_18⟩ h_19
 obtain⟨h_20,h_21,h_22,h_23⟩:v_17=v2.set r1.toNat (B8 (nrm (t r1.toNat))).1∧0≤j_16∧j_16≤(↑(B8 (nrm (t r1.toNat))).2.length:Int)∧I3 t r1 j_16 c_18:=h_19
 refine rE cx [0,2,3,4,5,12,6,32,33,34,35] [2,3,11,5301] (zB 0 (j_16 <(↑(B8 (nrm (t r1.toNat))).2.length:Int))) (fun h_24=>?_) fun h_24=>?_
 refine sK<|sn<|sq<|bL 3<|sq<|rG cx [0,2,3,4,5,12,6,32,33,34,10] [2,3,11,5301,10] (fA (0≤j_16) (fG c206 ((B8 (nrm (t r1.toNat))).2) j_16.toNat (fR 2 (fN 2 2 (oR 0 (c206 (B8 (nrm (t r1.toNat))).2[j_16.toNat]!) z0)))))<|sn<|rG cx [0,2,3,4,5,12,6,32,33,34] [2,3,11,5301] (fR 141 (fR 3 (fR 3 (fX B1 [{ rep:=r1,lo:=(B8 (nrm (t r1.toNat))).2[j_16.toNat]!.lo,hi:=(B8 (nrm (t r1.toNat))).2[j_16.toNat]!.hi:Span }] 3 (fP ((List.map B1 c_18).length+(List.map B1 [{ rep:=r1,lo:=(B8 (nrm (t r1.toNat))).2[j_16.toNat]!.lo,hi:=(B8 (nrm (t r1.toNat))).2[j_16.toNat]!.hi:Span }]).length≤maxLen) ?g3 (fP (((List.map B1 c_18).length+(List.map B1 [{ rep:=r1,lo:=(B8 (nrm (t r1.toNat))).2[j_16.toNat]!.lo,hi:=(B8 (nrm (t r1.toNat))).2[j_16.toNat]!.hi:Span }]).length)*(24:Nat)≤(140737488355328:Nat)) ?g4 (fM B1 c_18 [{ rep:=r1,lo:=(B8 (nrm (t r1.toNat))).2[j_16.toNat]!.lo,hi:=(B8 (nrm (t r1.toNat))).2[j_16.toNat]!.hi:Span }] (oV 9 { rows:=some (List.map B1 (c_18++[{ rep:=r1,lo:=(B8 (nrm (t r1.toNat))).2[j_16.toNat]!.lo,hi:=(B8 (nrm (t r1.toNat))).2[j_16.toNat]!.hi:Span }])) } z0)))))))) ?_;rotate_left 2
 refine bN<|sn<|rG cx [0,2,3,4,5,12,6,32,33,34] [2,3,11,5301] (tT 0 (B4 (by omega) ?g5:AV.i .i64 (IntKind.i64.wrap (j_16+1))=AV.i .i64 (j_16+1)) z0) ?_;rotate_left
 refine sn<|nX ((j_16+1,v_17,c_18++[{ rep:=r1,lo:=(B8 (nrm (t r1.toNat))).2[j_16.toNat]!.lo,hi:=(B8 (nrm (t r1.toNat))).2[j_16.toNat]!.hi:Span }])) (show((↑(B8 (nrm (t r1.toNat))).2.length:Int)-(j_16+1)).toNat <((↑(B8 (nrm (t r1.toNat))).2.length:Int)-j_16).toNat from(by omega)) (show A49 t r1 (v2.set r1.toNat (B8 (nrm (t r1.toNat))).1) (j_16+1) v_17 (c_18++[{ rep:=r1,lo:=(B8 (nrm (t r1.toNat))).2[j_16.toNat]!.lo,hi:=(B8 (nrm (t r1.toNat))).2[j_16.toNat]!.hi:Span }])from ?g6);rotate_left
 refine eX 2<|nE<|nE<|bH<|bN<|sn<|rG cx [0,2,3,4,5,12] [2,3,11,5301] (tW 0 (r1+1) z0)<|sn<|nX ((r1+1,r1+1,v_17,c_18)) (show(16-(r1+1)).toNat <(16-r1).toNat from(by omega)) (show Ac3 t (r1+1) (r1+1) v_17 c_18 from ?g7);rotate_left
 refine sK<|sn<|sq<|rG cx [0,2,3,4,5,12,6,32,33,34] [2,3,11,5301] (tL 1 c206 ((B8 (nrm (t r1.toNat))).2) z0)<|sn<|bL 2<|sL (X:=Int×List Int×List Span) (fun x=>⟨[(0,.eptr (F9 c206 16 t)),(2,.ptr (2) (0) (0) (0)),(3,.ptr (3) (0) (0) (0)),(4,.own 11 0),(5,.i .i64 (s0)),(12,.i .i64 (r1)),(6,.i .i64 (r1)),(32,.sl (List.map c206 (B8 (nrm (t r1.toNat))).2)),(33,.i .i64 ((↑(B8 (nrm (t r1.toNat))).2.length:Int))),(34,.i .i64 (x.1))],[(2,⟨0,26,.var [.nl,.nl]⟩),(3,⟨0,26,.var [.nl,.own 5301 0]⟩),(11,⟨0,3,.row 1 (List.map c3 x.2.1)⟩),(5301,⟨0,141,.row 3 (List.map B1 x.2.2)⟩)]⟩) (fun x ↦ B31 t r1 x.1 x.2.1 x.2.2) (fun x ↦ A49 t r1 (v2.set r1.toNat (B8 (nrm (t r1.toNat))).1) x.1 x.2.1 x.2.2) [0,2,3,4,5,12,6,32,33,34] [2,3,11,5301] (((0:Int),v2.set r1.toNat (B8 (nrm (t r1.toNat))).1,cc3)) (show A49 t r1 (v2.set r1.toNat (B8 (nrm (t r1.toNat))).1) (0:Int) (v2.set r1.toNat (B8 (nrm (t r1.toNat))).1) cc3 from ?g8) ?_;rotate_left
 rintro⟨j_25,v_26,c_27⟩ h_28
 obtain⟨h_29,h_30,h_31,h_32⟩:v_26=v2.set r1.toNat (B8 (nrm (t r1.toNat))).1∧0≤j_25∧j_25≤(↑(B8 (nrm (t r1.toNat))).2.length:Int)∧I3 t r1 j_25 c_27:=h_28
 refine rE cx [0,2,3,4,5,12,6,32,33,34,35] [2,3,11,5301] (zB 0 (j_25 <(↑(B8 (nrm (t r1.toNat))).2.length:Int))) (fun h_33=>?_) fun h_33=>?_
 refine sK<|sn<|sq<|bL 3<|sq<|rG cx [0,2,3,4,5,12,6,32,33,34,10] [2,3,11,5301,10] (fA (0≤j_25) (fG c206 ((B8 (nrm (t r1.toNat))).2) j_25.toNat (fR 2 (fN 2 2 (oR 0 (c206 (B8 (nrm (t r1.toNat))).2[j_25.toNat]!) z0)))))<|sn<|rG cx [0,2,3,4,5,12,6,32,33,34] [2,3,11,5301] (fR 141 (fR 3 (fR 3 (fX B1 [{ rep:=r1,lo:=(B8 (nrm (t r1.toNat))).2[j_25.toNat]!.lo,hi:=(B8 (nrm (t r1.toNat))).2[j_25.toNat]!.hi:Span }] 3 (fP ((List.map B1 c_27).length+(List.map B1 [{ rep:=r1,lo:=(B8 (nrm (t r1.toNat))).2[j_25.toNat]!.lo,hi:=(B8 (nrm (t r1.toNat))).2[j_25.toNat]!.hi:Span }]).length≤maxLen) ?g9 (fP (((List.map B1 c_27).length+(List.map B1 [{ rep:=r1,lo:=(B8 (nrm (t r1.toNat))).2[j_25.toNat]!.lo,hi:=(B8 (nrm (t r1.toNat))).2[j_25.toNat]!.hi:Span }]).length)*(24:Nat)≤(140737488355328:Nat)) ?g10 (fM B1 c_27 [{ rep:=r1,lo:=(B8 (nrm (t r1.toNat))).2[j_25.toNat]!.lo,hi:=(B8 (nrm (t r1.toNat))).2[j_25.toNat]!.hi:Span }] (oV 9 { rows:=some (List.map B1 (c_27++[{ rep:=r1,lo:=(B8 (nrm (t r1.toNat))).2[j_25.toNat]!.lo,hi:=(B8 (nrm (t r1.toNat))).2[j_25.toNat]!.hi:Span }])) } z0)))))))) ?_;rotate_left 2
 refine bN<|sn<|rG cx [0,2,3,4,5,12,6,32,33,34] [2,3,11,5301] (tT 0 (B4 (by omega) ?g11:AV.i .i64 (IntKind.i64.wrap (j_25+1))=AV.i .i64 (j_25+1)) z0) ?_;rotate_left
 refine sn<|nX ((j_25+1,v_26,c_27++[{ rep:=r1,lo:=(B8 (nrm (t r1.toNat))).2[j_25.toNat]!.lo,hi:=(B8 (nrm (t r1.toNat))).2[j_25.toNat]!.hi:Span }])) (show((↑(B8 (nrm (t r1.toNat))).2.length:Int)-(j_25+1)).toNat <((↑(B8 (nrm (t r1.toNat))).2.length:Int)-j_25).toNat from(by omega)) (show A49 t r1 (v2.set r1.toNat (B8 (nrm (t r1.toNat))).1) (j_25+1) v_26 (c_27++[{ rep:=r1,lo:=(B8 (nrm (t r1.toNat))).2[j_25.toNat]!.lo,hi:=(B8 (nrm (t r1.toNat))).2[j_25.toNat]!.hi:Span }])from ?g12);rotate_left
 refine eX 2<|nE<|nE<|bH<|bN<|sn<|rG cx [0,2,3,4,5,12] [2,3,11,5301] (tW 0 (r1+1) z0)<|sn<|nX ((s0,r1+1,v_26,c_27)) (show(16-(r1+1)).toNat <(16-r1).toNat from(by omega)) (show Ac3 t s0 (r1+1) v_26 c_27 from ?g13);rotate_left
 refine eX 0<|nE<|nE<|bH<|sn<|sq<|rD cx [2,3,4,5,52] [2,3,11,5301] (zB 1 ((0:Int) < s0)) (fun h34=>?_) fun h34=>?_
 refine rG cx [2,3] [2,3,5301,56] (fO ((0:Int)≤(0:Int)) (fA (0≤s0) (fP (s0≤(↑(List.map c3 v2).length:Int)) (by(first | omega | (simp only [List.length_map];omega))) (fP ((0:Int) <(↑(List.map c3 v2).length:Int)) (by(first | omega | (simp only [List.length_map];omega))) (fR (some (1)) (fP (A4u Tryz.prog (164:Nat) [AV.sl (List.take (s0-0).toNat (List.drop (0) (List.map c3 v2)))] (3:Nat) (BK.row (1:Nat) (List.map c3 (List.take (s0-0).toNat (List.drop (0) v2))))) (A4u.le (con164 (List.take (s0-0).toNat (List.drop (0) v2)) ?g14) (ZLe.cons (A7.eq (by simp only [List.map_take,List.map_drop])) ZLe.nil)) (oV 3 { val:=some (.own (3:Nat) (1:Nat)),rows:=some (List.map c3 (List.take (s0-0).toNat (List.drop (0) v2))) } z0))))))) ?_;rotate_left
 refine sn<|sq<|L8 [56,5301] [2,3] [2,3] (σ':=⟨[(2,.ptr (2) (0) (0) (0)),(3,.ptr (3) (0) (0) (0))],[(2,⟨0,26,.var [.nl,.nl]⟩),(3,⟨0,26,.var [.sl (((E.look [(3,{ val:=some (AV.own (3:Nat) (1:Nat)),rows:=some (List.map c3 (List.take (s0-0).toNat (List.drop (0) v2))):Ov })] (3)).getD {:Ov }).rows.getD []),.sl (List.map B1 cc3)]⟩)]⟩) (by kernel_rfl)<|rG cx [2] [2,3] z0<|sn<|rT<|qR (.agg [.sl (((E.look [(3,{ val:=some (AV.own (3:Nat) (1:Nat)),rows:=some (List.map c3 (List.take (s0-0).toNat (List.drop (0) v2))):Ov })] (3)).getD {:Ov }).rows.getD []),.sl (List.map B1 cc3)]) (.eq ?g15);rotate_left
 refine sK<|sn<|sq<|L8 [5301] [2,3,4,5,52] [2,3,11] (σ':=⟨[(2,.ptr (2) (0) (0) (0)),(3,.ptr (3) (0) (0) (0)),(4,.own 11 0),(5,.i .i64 (s0)),(52,.b (decide ((0:Int) < s0)))],[(2,⟨0,26,.var [.nl,.nl]⟩),(3,⟨0,26,.var [.nl,.sl (List.map B1 cc3)]⟩),(11,⟨0,3,.row 1 (List.map c3 v2)⟩)]⟩) (by kernel_rfl)<|rG cx [2] [2] z0<|sn<|rT<|qR (.agg [.nl,.sl (List.map B1 cc3)]) (A7.agg (ZLe.cons (A7.nl' (show List.map c3 (H9 t).vec=[]from ?g17)) (ZLe.cons (A7.eq (show AV.sl (List.map B1 cc3)=AV.sl (List.map B1 (H9 t).cloud)from ?g16)) ZLe.nil)));rotate_left 2
 rotate_left
 clear hl_14;revert s0 r1 v2 cc3 hh5 hh6 hh7 hh8 hh9 h10 h11 h12 h13;rotate_left
 clear hl_14;revert s0 r1 v2 cc3 hh5 hh6 hh7 hh8 hh9 h10 h11 h12 h13 h_15;rotate_left
 clear hl_14;revert s0 r1 v2 cc3 hh5 hh6 hh7 hh8 hh9 h10 h11 h12 h13 h_15 j_16 v_17 c_18 h_20 h_21 h_22 h_23 h_24;rotate_left
 clear hl_14;revert s0 r1 v2 cc3 hh5 hh6 hh7 hh8 hh9 h10 h11 h12 h13 h_15 j_16 v_17 c_18 h_20 h_21 h_22 h_23 h_24;rotate_left
 clear hl_14;revert s0 r1 v2 cc3 hh5 hh6 hh7 hh8 hh9 h10 h11 h12 h13 h_15 j_16 v_17 c_18 h_20 h_21 h_22 h_23 h_24;rotate_left
 clear hl_14;revert s0 r1 v2 cc3 hh5 hh6 hh7 hh8 hh9 h10 h11 h12 h13 h_15 j_16 v_17 c_18 h_20 h_21 h_22 h_23 h_24;rotate_left
 clear hl_14;revert s0 r1 v2 cc3 hh5 hh6 hh7 hh8 hh9 h10 h11 h12 h13 h_15 j_16 v_17 c_18 h_20 h_21 h_22 h_23 h_24;rotate_left
 clear hl_14;revert s0 r1 v2 cc3 hh5 hh6 hh7 hh8 hh9 h10 h11 h12 h13 h_15;rotate_left
 clear hl_14;revert s0 r1 v2 cc3 hh5 hh6 hh7 hh8 hh9 h10 h11 h12 h13 h_15 j_25 v_26 c_27 h_29 h_30 h_31 h_32 h_33;rotate_left
 clear hl_14;revert s0 r1 v2 cc3 hh5 hh6 hh7 hh8 hh9 h10 h11 h12 h13 h_15 j_25 v_26 c_27 h_29 h_30 h_31 h_32 h_33;rotate_left
 clear hl_14;revert s0 r1 v2 cc3 hh5 hh6 hh7 hh8 hh9 h10 h11 h12 h13 h_15 j_25 v_26 c_27 h_29 h_30 h_31 h_32 h_33;rotate_left
 clear hl_14;revert s0 r1 v2 cc3 hh5 hh6 hh7 hh8 hh9 h10 h11 h12 h13 h_15 j_25 v_26 c_27 h_29 h_30 h_31 h_32 h_33;rotate_left
 clear hl_14;revert s0 r1 v2 cc3 hh5 hh6 hh7 hh8 hh9 h10 h11 h12 h13 h_15 j_25 v_26 c_27 h_29 h_30 h_31 h_32 h_33;rotate_left
 revert s0 r1 v2 cc3 hh5 hh6 hh7 hh8 hh9 h10 h11 h12 h13 h34;rotate_left
 revert s0 r1 v2 cc3 hh5 hh6 hh7 hh8 hh9 h10 h11 h12 h13 h34;rotate_left
 revert s0 r1 v2 cc3 hh5 hh6 hh7 hh8 hh9 h10 h11 h12 h13 h34;rotate_left
 revert s0 r1 v2 cc3 hh5 hh6 hh7 hh8 hh9 h10 h11 h12 h13 h34;rotate_left
 case g0=>exact⟨by omega,by omega,by omega,by omega,by simp,rfl,by simp [Y5,A48],rfl⟩
 case g1=>intro s r v c h0 h1 h2 h3 h4 h5 h6 h7 h8;exact hb _ (by omega)
 case g2=>intro s r v c h0 h1 h2 h3 h4 h5 h6 h7 h8 h9;exact⟨rfl,by omega,by omega,A1c h7⟩
 case g8=>intro s r v c h0 h1 h2 h3 h4 h5 h6 h7 h8 h9;exact⟨rfl,by omega,by omega,A1c h7⟩
 case g3=>intro s r v c h0 h1 h2 h3 h4 h5 h6 h7 h8 h9 j w d k0 k1 k2 k3 k4;have:=W5 h0 h8 k3;simp only [List.length_map,List.length_cons,List.length_nil,Go.maxLen];omega
 case g9=>intro s r v c h0 h1 h2 h3 h4 h5 h6 h7 h8 h9 j w d k0 k1 k2 k3 k4;have:=W5 h0 h8 k3;simp only [List.length_map,List.length_cons,List.length_nil,Go.maxLen];omega
 case g4=>intro s r v c h0 h1 h2 h3 h4 h5 h6 h7 h8 h9 j w d k0 k1 k2 k3 k4;have:=W5 h0 h8 k3;simp only [List.length_map,List.length_cons,List.length_nil];omega
 case g10=>intro s r v c h0 h1 h2 h3 h4 h5 h6 h7 h8 h9 j w d k0 k1 k2 k3 k4;have:=W5 h0 h8 k3;simp only [List.length_map,List.length_cons,List.length_nil];omega
 case g5=>intro s r v c h0 h1 h2 h3 h4 h5 h6 h7 h8 h9 j w d k0 k1 k2 k3 k4;have:=A1o t r.toNat;omega
 case g11=>intro s r v c h0 h1 h2 h3 h4 h5 h6 h7 h8 h9 j w d k0 k1 k2 k3 k4;have:=A1o t r.toNat;omega
 case g6=>intro s r v c h0 h1 h2 h3 h4 h5 h6 h7 h8 h9 j w d k0 k1 k2 k3 k4;exact⟨k0,by omega,by omega,A2m h0 k1 k4 k3⟩
 case g12=>intro s r v c h0 h1 h2 h3 h4 h5 h6 h7 h8 h9 j w d k0 k1 k2 k3 k4;exact⟨k0,by omega,by omega,A2m h0 k1 k4 k3⟩
 case g7 =>
  intro s r v c h0 h1 h2 h3 h4 h5 h6 h7 h8 h9 j w d k0 k1 k2 k3 k4
  have hs:=A96 h0 h5
  rw[if_pos h9]at hs
  subst k0
  exact⟨by omega,by omega,by omega,by omega,by simpa using h4,hs,A5m h0 h8 h6,A4a h0 k4 k3⟩
 case g13 =>
  intro s r v c h0 h1 h2 h3 h4 h5 h6 h7 h8 h9 j w d k0 k1 k2 k3 k4
  have hs:=A96 h0 h5
  rw[if_neg h9]at hs
  subst k0
  exact⟨by omega,by omega,by omega,by omega,by simpa using h4,hs,A5m h0 h8 h6,A4a h0 k4 k3⟩
 case g14=>intro s r v c h0 h1 h2 h3 h4 h5 h6 h7 h8 h9;rw[List.drop_zero,List.length_take];omega
 case g15 =>
  intro s r v c h0 h1 h2 h3 h4 h5 h6 h7 h8 h9
  rw[A5n h1 h8 h5 h6 h7]
  show AV.agg [AV.sl (List.map c3 (List.take (s-0).toNat (List.drop 0 v))),AV.sl (List.map B1 c)]=_
  rw[List.drop_zero,Int.sub_zero]
  rfl
 case g16=>intro s r v c h0 h1 h2 h3 h4 h5 h6 h7 h8 h9;rw[A5n h1 h8 h5 h6 h7]
 case g17=>intro s r v c h0 h1 h2 h3 h4 h5 h6 h7 h8 h9;rw[A5n h1 h8 h5 h6 h7,show s.toNat=0 by omega];rfl
end Go.Proofs.YtphcaholhacnpaaGreat
namespace Go.Proofs.YtphcaholhacnpaaGreat
open Go.E
set_option maxRecDepth 100000
set_option maxHeartbeats 4000000
def J4(d:Dot):Bool:=decide (0≤d.rep∧d.rep < 16∧1≤d.num∧d.num≤1000000000)
def ofT(dots:List Dot)(r:Nat):List Run:=(dots.filter fun d=>J4 d && decide (d.rep=r)).map fun d=>⟨d.num,d.num⟩
def A97(dots:List Dot)(i:Int)(T:Nat→List Run):Prop:=∀ r:Nat,r < 16→T r=ofT (dots.take i.toNat) r
def B0z(dots:List Dot)(i:Int)(T:Nat→List Run):Prop:=0≤i∧i≤dots.length∧A97 dots i T
def dec62(dots:List Dot)(i:Int)(T:Nat→List Run):Nat:=(dots.length-i).toNat
theorem A0u{T U:Nat→List Run}(h:∀ r:Nat,r < 16→T r=U r):H9 T=H9 U:=by
 have hl:∀ n:Nat,n≤16→szT T n=szT U n∧H3 T n=H3 U n:=by
  intro n
  induction n with
  | zero=>intro _;exact⟨rfl,rfl⟩
  | succ n ih =>
   intro hn
   obtain⟨h1,h2⟩:=ih (by omega)
   have e:=h n (by omega)
   exact⟨by rw[szT,szT,h1,Y4,Y4,e],by rw[H3,H3,h2,R9,R9,e]⟩
 have hv:A48 T 16=A48 U 16:=by
  unfold A48
  congr 1
  refine List.map_congr_left fun r hr=>?_
  have hr:r < 16:=by simpa using hr
  rw[Y4,Y4,h r hr]
 unfold H9
 rw[(hl 16 (Nat.le_refl _)).1,(hl 16 (Nat.le_refl _)).2,hv]
theorem B4w(dots:List Dot)(r:Nat):(ofT dots r).length≤dots.length:=by
 unfold ofT
 rw[List.length_map]
 exact List.length_filter_le _ _
theorem Aq6(a:List Dot)(d:Dot)(r:Nat):ofT (a++[d]) r=ofT a r++if J4 d=true∧d.rep=(r:Int)then[⟨d.num,d.num⟩]else[]:=by
 unfold ofT
 rw[List.filter_append,List.map_append]
 congr 1
 by_cases h:J4 d=true∧d.rep=(r:Int)
 ·rw[if_pos h];simp [List.filter_cons,h.1,h.2]
 ·rw[if_neg h]
  have:(J4 d && decide (d.rep=(r:Int)))=false:=by
   rw[Bool.and_eq_false_iff]
   by_cases h1:J4 d=true
   ·exact .inr (by simpa using fun h2=>h ⟨h1,h2⟩)
   ·exact .inl (by simpa using h1)
  simp [List.filter_cons,this]
theorem G3{d:Dot}(h:J4 d=true):0≤d.rep∧d.rep < 16∧1≤d.num∧d.num≤1000000000:=by
 unfold J4 at h
 simpa using h
theorem A98{dots:List Dot}{i:Int}{T:Nat→List Run}(h1:i≤dots.length)(ht:A97 dots i T){r:Nat}(hr:r < 16):((T r).length:Int)≤i∨(T r).length=0:=by
 rw[ht r hr]
 have:=B4w (dots.take i.toNat) r
 rw[List.length_take]at this
 omega
theorem tab_in{dots:List Dot}{i:Int}{T:Nat→List Run}(h0:0≤i)(h1:i < dots.length)(ht:A97 dots i T)(hd:J4 dots[i.toNat]! = true) :
  A97 dots (i+1) (M0 T dots[i.toNat]!.rep.toNat (T dots[i.toNat]!.rep.toNat++[⟨dots[i.toNat]!.num,dots[i.toNat]!.num⟩])):=by
 intro r hr
 have hb:=G3 hd
 rw[← D9 h0 h1,Aq6]
 unfold M0
 by_cases e:r=dots[i.toNat]!.rep.toNat
 ·rw[if_pos e,if_pos ⟨hd,by omega⟩,← e,ht r hr]
 ·rw[if_neg e,if_neg (fun k=>e (by omega)),List.append_nil,ht r hr]
theorem B4x{dots:List Dot}{i:Int}{T:Nat→List Run}(h0:0≤i)(h1:i < dots.length)(ht:A97 dots i T)(hd:J4 dots[i.toNat]! = false):A97 dots (i+1) T:=by
 intro r hr
 rw[← D9 h0 h1,Aq6,if_neg (fun k=>by rw[hd]at k;cases k.1),List.append_nil,ht r hr]
theorem B32(d:Dot):Con Tryz.prog 172 [.agg (c44 d)] (.b (J4 d)) :=
 by
 refine sC B3 [.tmp 2] 21 Tryz.func172 ?_
 intro e0 cx
 refine sq<|rG cx [1] [1] z0<|sn<|sq<|A9 (σ':=⟨[(2,.b (decide (0≤d.rep∧d.rep <(16:Int)∧1≤d.num∧d.num≤1000000000)))],[]⟩) ?_ ?_
 refine A6 (0≤d.rep) (fun h_1=>?_) (fun h_1=>?_)
 refine A6 (d.rep <(16:Int)) (fun h_2=>?_) (fun h_2=>?_)
 refine A6 (1≤d.num) (fun h_3=>?_) (fun h_3=>?_)
 refine rG cx [2] [] (tT 2 (A4 h_1) (tT 6 (A4 h_2) (tT 11 (A4 h_3) (tB 16 (d.num≤1000000000) (tD 18 (decide (d.num≤1000000000)) (0≤d.rep∧d.rep <(16:Int)∧1≤d.num∧d.num≤1000000000) (by simp only [eq_true h_1,eq_true h_2,eq_true h_3,tsl]) z0))))) ?_
 exact⟨rfl,by kernel_rfl⟩
 refine rG cx [2] [] (tT 2 (A4 h_1) (tT 6 (A4 h_2) (tT 11 (A0 h_3) (tD 18 false (0≤d.rep∧d.rep <(16:Int)∧1≤d.num∧d.num≤1000000000) (by simp only [eq_true h_1,eq_true h_2,eq_false h_3,tsl]) z0)))) ?_
 exact⟨rfl,by kernel_rfl⟩
 refine rG cx [2] [] (tT 2 (A4 h_1) (tT 6 (A0 h_2) (tD 18 false (0≤d.rep∧d.rep <(16:Int)∧1≤d.num∧d.num≤1000000000) (by simp only [eq_true h_1,eq_false h_2,tsl]) z0))) ?_
 exact⟨rfl,by kernel_rfl⟩
 refine rG cx [2] [] (tT 2 (A0 h_1) (tD 18 false (0≤d.rep∧d.rep <(16:Int)∧1≤d.num∧d.num≤1000000000) (by simp only [eq_false h_1,tsl]) z0)) ?_
 exact⟨rfl,by kernel_rfl⟩
 refine sn<|rT<|qR (.b (decide (0≤d.rep∧d.rep <(16:Int)∧1≤d.num∧d.num≤1000000000))) (.eq ?g0);rotate_left
 case g0=>exact rfl
theorem con108(dots:List Dot)(hb:dots.length*16≤140737488351232):Con Tryz.prog 108 [.sl (dots.map c44)] (.agg (c26 (H9 (ofT dots)))) :=
 by
 refine lN 0 c44 (dots) Tryz.func108 fun hl_0=>sC B3 [.cell 2 26] 37 Tryz.func108 ?_
 intro e0 cx
 refine sq<|rG cx [0,2] [2] z0<|sn<|sq<|rG cx [0,2,3] [2,7] z0<|sn<|sq<|sq<|rG cx [2,3,8,9,10] [2,7] (tL 1 c44 dots z0)<|sn<|bL 0<|A03 7 206 2 100700 16 (σ':=⟨[(2,.ptr (2) (0) (0) (0)),(3,.ptr (7) (0) (0) (0)),(8,.sl (List.map c44 dots)),(9,.i .i64 ((↑dots.length:Int))),(10,.i .i64 ((0:Int)))],[(2,⟨0,26,.var [.nl,.nl]⟩),(7,⟨0,204,.var (F3 100700 16)⟩)]++C4 100700 206 2 16 (c206) (fun x ↦ [])⟩) (by kernel_rfl)<|sL (X:=Int×(Nat→List Run)) (fun x=>⟨[(2,.ptr (2) (0) (0) (0)),(3,.ptr (7) (0) (0) (0)),(8,.sl (List.map c44 dots)),(9,.i .i64 ((↑dots.length:Int))),(10,.i .i64 (x.1))],[(2,⟨0,26,.var [.nl,.nl]⟩),(7,⟨0,204,.var (F3 100700 16)⟩)]++C4 100700 206 2 16 (c206) (x.2)⟩) (fun x ↦ dec62 dots x.1 x.2) (fun x ↦ B0z dots x.1 x.2) [2,3,8,9,10] ([2,7]++List.range' 100700 16) (((0:Int),fun x ↦ [])) (show B0z dots (0:Int) fun x ↦ []from(by exact⟨by omega,by omega,fun r _=>by simp [ofT]⟩)) ?_
 rintro⟨i0,T1⟩ h_2
 obtain⟨hh3,hh4,h5⟩:0≤i0∧i0≤(↑dots.length:Int)∧A97 dots i0 T1:=h_2
 refine rE cx [2,3,8,9,10,11] ([2,7]++List.range' 100700 16) (zB 0 (i0 <(↑dots.length:Int))) (fun h6=>?_) fun h6=>?_
 refine sK<|sn<|sq<|bL 1<|sq<|rG cx [2,3,8,9,10,5] ([2,7]++List.range' 100700 16++[5]) (fA (0≤i0) (fG c44 dots i0.toNat (fR 2 (fN 2 2 (oR 0 (c44 dots[i0.toNat]!) z0)))))<|sn<|sq<|rG cx [2,3,8,9,10,5,15] ([2,7]++List.range' 100700 16++[5]) (fT (B32 (dots[i0.toNat]!)) (oA 1 (.b (J4 dots[i0.toNat]!)) z0))<|sn<|A2d (J4 dots[i0.toNat]!) (by kernel_rfl) (by kernel_rfl) (fun h7=>?_) (fun h7=>?_)
 refine W0 (F:=fun kx=>⟨[(2,.ptr (2) (0) (0) (0)),(3,.ptr (7) (0) (0) (0)),(8,.sl (List.map c44 dots)),(9,.i .i64 ((↑dots.length:Int))),(10,.i .i64 (i0)),(5,.ptr (5) (0) (0) (0)),(15,.b (J4 dots[i0.toNat]!))],[(2,⟨0,26,.var [.nl,.nl]⟩),(7,⟨0,204,.var (F3 100700 16)⟩)]++C4 100700 206 2 16 (c206) (T1)++[(5,⟨0,44,.var [.i .i64 (kx),.i .i64 (dots[i0.toNat]!.num)]⟩)]⟩) (G:=fun kx=>⟨[(2,.ptr (2) (0) (0) (0)),(3,.ptr (7) (0) (0) (0)),(8,.sl (List.map c44 dots)),(9,.i .i64 ((↑dots.length:Int))),(10,.i .i64 (i0))],[(2,⟨0,26,.var [.nl,.nl]⟩),(7,⟨0,204,.var (F3 100700 16)⟩)]++C4 100700 206 2 16 (c206) (M0 T1 kx.toNat (T1 kx.toNat++[{ lo:=dots[i0.toNat]!.num,hi:=dots[i0.toNat]!.num:Run }]))⟩) (A:=fun kx=>(0≤kx)∧(kx <(↑(16:Nat):Int))∧(206=(206:Nat))∧((2:Nat)=2)∧([AV.i .i64 (0:Int),AV.i .i64 (0:Int)].length=(2:Nat))∧(∀(r:List AV),r∈List.map c206 [{ lo:=dots[i0.toNat]!.num,hi:=dots[i0.toNat]!.num:Run }]→r.length=2)∧((List.map c206 (T1 kx.toNat)).length+(List.map c206 [{ lo:=dots[i0.toNat]!.num,hi:=dots[i0.toNat]!.num:Run }]).length≤maxLen)∧(((List.map c206 (T1 kx.toNat)).length+(List.map c206 [{ lo:=dots[i0.toNat]!.num,hi:=dots[i0.toNat]!.num:Run }]).length)*(16:Nat)≤(140737488355328:Nat))∧(List.map c206 (T1 kx.toNat)++List.map c206 [{ lo:=dots[i0.toNat]!.num,hi:=dots[i0.toNat]!.num:Run }]=List.map c206 (T1 kx.toNat++[{ lo:=dots[i0.toNat]!.num,hi:=dots[i0.toNat]!.num:Run }]))∧(0≤kx)∧(kx <(↑(16:Nat):Int))) cx (fun kx=>[(15,{ rows:=some (List.map c206 (T1 kx.toNat++[{ lo:=dots[i0.toNat]!.num,hi:=dots[i0.toNat]!.num:Run }])) })]) [2,3,8,9,10] ([2,7]++List.range' 100700 16) (dots[i0.toNat]!.rep) (by exact(G3 h7).1) (by exact(G3 h7).2.1) (by kernel_rfl) (by kernel_rfl) ⟨(by show _=_;kernel_rfl),(by show _=_;kernel_rfl),(by show _=_;kernel_rfl),(by show _=_;kernel_rfl),(by show _=_;kernel_rfl),(by show _=_;kernel_rfl),(by show _=_;kernel_rfl),(by show _=_;kernel_rfl),(by show _=_;kernel_rfl),(by show _=_;kernel_rfl),(by show _=_;kernel_rfl),(by show _=_;kernel_rfl),(by show _=_;kernel_rfl),(by show _=_;kernel_rfl),(by show _=_;kernel_rfl),(by show _=_;kernel_rfl)⟩ ⟨(by exact(G3 h7).1),(by exact(G3 h7).2.1),(by kernel_rfl),(by kernel_rfl),(by kernel_rfl),(by(with_reducible refine P1 (fun _=>?_) _;kernel_rfl)),(by have hd:=G3 h7;have:=A98 hh4 h5 (r:=dots[i0.toNat]!.rep.toNat) (by omega);simp only [List.length_map,List.length_cons,List.length_nil,Go.maxLen];omega),(by have hd:=G3 h7;have:=A98 hh4 h5 (r:=dots[i0.toNat]!.rep.toNat) (by omega);simp only [List.length_map,List.length_cons,List.length_nil];omega),(by(with_reducible refine U4 ?_;kernel_rfl)),(by exact(G3 h7).1),(by exact(G3 h7).2.1)⟩ ?_
 refine bN<|sn<|rG cx [2,3,8,9,10] ([2,7]++List.range' 100700 16) (tW 0 (i0+1) z0)<|sn<|nX ((i0+1,M0 T1 dots[i0.toNat]!.rep.toNat (T1 dots[i0.toNat]!.rep.toNat++[{ lo:=dots[i0.toNat]!.num,hi:=dots[i0.toNat]!.num:Run }]))) (show((↑dots.length:Int)-(i0+1)).toNat <((↑dots.length:Int)-i0).toNat from(by omega)) (show B0z dots (i0+1) (M0 T1 dots[i0.toNat]!.rep.toNat (T1 dots[i0.toNat]!.rep.toNat++[{ lo:=dots[i0.toNat]!.num,hi:=dots[i0.toNat]!.num:Run }]))from(by exact⟨by omega,by omega,tab_in hh3 h6 h5 h7⟩))
 refine sK<|bN<|sn<|rG cx [2,3,8,9,10] ([2,7]++List.range' 100700 16) (tW 0 (i0+1) z0)<|sn<|nX ((i0+1,T1)) (show((↑dots.length:Int)-(i0+1)).toNat <((↑dots.length:Int)-i0).toNat from(by omega)) (show B0z dots (i0+1) T1 from(by exact⟨by omega,by omega,B4x hh3 h6 h5 h7⟩))
 refine eX 0<|nE<|nE<|bH<|sn<|sq<|L8 (List.range' 100700 16) [2,3,8,9,10,11] [2,7] (σ':=⟨[(2,.ptr (2) (0) (0) (0)),(3,.ptr (7) (0) (0) (0)),(8,.sl (List.map c44 dots)),(9,.i .i64 ((↑dots.length:Int))),(10,.i .i64 (i0)),(11,.b (decide (i0 <(↑dots.length:Int))))],[(2,⟨0,26,.var [.nl,.nl]⟩),(7,⟨0,204,.var [.sl (List.map c206 (T1 (0))),.sl (List.map c206 (T1 (1))),.sl (List.map c206 (T1 (2))),.sl (List.map c206 (T1 (3))),.sl (List.map c206 (T1 (4))),.sl (List.map c206 (T1 (5))),.sl (List.map c206 (T1 (6))),.sl (List.map c206 (T1 (7))),.sl (List.map c206 (T1 (8))),.sl (List.map c206 (T1 (9))),.sl (List.map c206 (T1 (10))),.sl (List.map c206 (T1 (11))),.sl (List.map c206 (T1 (12))),.sl (List.map c206 (T1 (13))),.sl (List.map c206 (T1 (14))),.sl (List.map c206 (T1 (15)))]⟩)]⟩) (by kernel_rfl)<|I9 7 ⟨0,204,.var [.sl (List.map c206 (T1 (0))),.sl (List.map c206 (T1 (1))),.sl (List.map c206 (T1 (2))),.sl (List.map c206 (T1 (3))),.sl (List.map c206 (T1 (4))),.sl (List.map c206 (T1 (5))),.sl (List.map c206 (T1 (6))),.sl (List.map c206 (T1 (7))),.sl (List.map c206 (T1 (8))),.sl (List.map c206 (T1 (9))),.sl (List.map c206 (T1 (10))),.sl (List.map c206 (T1 (11))),.sl (List.map c206 (T1 (12))),.sl (List.map c206 (T1 (13))),.sl (List.map c206 (T1 (14))),.sl (List.map c206 (T1 (15)))]⟩ [.sl (List.map c206 (T1 (0))),.sl (List.map c206 (T1 (1))),.sl (List.map c206 (T1 (2))),.sl (List.map c206 (T1 (3))),.sl (List.map c206 (T1 (4))),.sl (List.map c206 (T1 (5))),.sl (List.map c206 (T1 (6))),.sl (List.map c206 (T1 (7))),.sl (List.map c206 (T1 (8))),.sl (List.map c206 (T1 (9))),.sl (List.map c206 (T1 (10))),.sl (List.map c206 (T1 (11))),.sl (List.map c206 (T1 (12))),.sl (List.map c206 (T1 (13))),.sl (List.map c206 (T1 (14))),.sl (List.map c206 (T1 (15)))] (F9 c206 16 T1) (σ':=⟨[(2,.ptr (2) (0) (0) (0)),(3,.ptr (7) (0) (0) (0)),(8,.sl (List.map c44 dots)),(9,.i .i64 ((↑dots.length:Int))),(10,.i .i64 (i0)),(11,.b (decide (i0 <(↑dots.length:Int))))],[(2,⟨0,26,.var [.nl,.nl]⟩),(7,⟨0,204,.arr (F9 c206 16 T1)⟩)]⟩) (by kernel_rfl) (by kernel_rfl) (by kernel_rfl) (by kernel_rfl) (ZLe.of_eq (by kernel_rfl)) (by kernel_rfl)<|rG cx [2] [2] (fT (B4v (T1) ?g11) (oA 1 (.agg [.sl (List.map c3 (H9 T1).vec),.sl (List.map B1 (H9 T1).cloud)]) z0)) ?_;rotate_left
 refine sn<|rT<|qR (.agg [.sl (List.map c3 (H9 T1).vec),.sl (List.map B1 (H9 T1).cloud)]) (.eq ?g12);rotate_left
 case g11=>revert i0 T1 hh3 hh4 h5 h6;intro i T h0 h1 h2 h3 r hr;have:=A98 h1 h2 hr;omega
 case g12 =>
  have e:H9 T1=H9 (ofT dots):=A0u fun r hr=>by rw[h5 r hr,List.take_of_length_le (by omega)]
  rw[e]
  rfl
end Go.Proofs.YtphcaholhacnpaaGreat
namespace Go.Proofs.YtphcaholhacnpaaGreat
open Go.E
set_option maxRecDepth 100000
set_option maxHeartbeats 4000000
def Aj4(v:List Int)(r:Nat):List Run:=if r < v.length then[⟨1,v[r]!⟩]else[]
def O4(c:List Span)(r:Nat):List Run:=(c.filter fun(s:Span)=>decide (s.rep=(r:Int))).map fun s=>⟨s.lo,s.hi⟩
def A3(ps:List Past)(r:Nat):List Run:=(ps.map fun p=>Aj4 p.vec r++O4 p.cloud r).flatten
def A4b(ps:List Past)(i:Int)(T:Nat→List Run):Prop:=∀ r:Nat,r < 16→T r=A3 (ps.take i.toNat) r
def S4(ps:List Past)(i j:Int)(T:Nat→List Run):Prop:=∀ r:Nat,r < 16→T r=A3 (ps.take i.toNat) r++if(r:Int) < j then Aj4 (ps[i.toNat]!).vec r else[]
def N1(ps:List Past)(i j:Int)(T:Nat→List Run):Prop:=∀ r:Nat,r < 16→T r=A3 (ps.take i.toNat) r++Aj4 (ps[i.toNat]!).vec r++O4 ((ps[i.toNat]!).cloud.take j.toNat) r
def A99(ps:List Past)(i:Int)(T:Nat→List Run):Prop:=0≤i∧i≤ps.length∧A4b ps i T
def B4y(ps:List Past)(i:Int)(T:Nat→List Run):Nat:=(ps.length-i).toNat
def A9a(ps:List Past)(i:Int)(n:Int)(j:Int)(T:Nat→List Run)(v:List Int)(c:List Span):Prop:=v=(ps[i.toNat]!).vec∧c=(ps[i.toNat]!).cloud∧0≤j∧j≤n∧S4 ps i j T
def B4z(n:Int)(j:Int)(T:Nat→List Run)(v:List Int)(c:List Span):Nat:=(n-j).toNat
def A5o(ps:List Past)(i:Int)(j:Int)(T:Nat→List Run):Prop:=0≤j∧j≤(ps[i.toNat]!).cloud.length∧N1 ps i j T
def B50(ps:List Past)(i:Int)(j:Int)(T:Nat→List Run):Nat:=((ps[i.toNat]!).cloud.length-j).toNat
def A1p(ps:List Past):Nat:=(ps.map fun p=>p.cloud.length+1).sum
theorem Aq7(a:List Past)(p:Past)(r:Nat):A3 (a++[p]) r=A3 a r++(Aj4 p.vec r++O4 p.cloud r):=by simp [A3]
theorem Ac4(v:List Int)(r:Nat):(Aj4 v r).length≤1:=by unfold Aj4;split <;> simp
theorem A4c(c:List Span)(r:Nat):(O4 c r).length≤c.length:=by
 unfold O4
 rw[List.length_map]
 exact List.length_filter_le _ _
theorem N2(r:Nat):∀ ps:List Past,(A3 ps r).length≤A1p ps
 | []=>by simp [A3]
 | p :: ps=>by
  have h1:=N2 r ps
  have h2:=Ac4 p.vec r
  have h3:=A4c p.cloud r
  simp only [A3,A1p,List.map_cons,List.flatten_cons,List.length_append,List.sum_cons]at *
  omega
theorem B10(a b:List Past):A1p (a++b)=A1p a+A1p b:=by simp [A1p]
theorem A7o{ps:List Past}{i:Int}(h0:0≤i)(h:i < ps.length):A1p (ps.take i.toNat)+(ps[i.toNat]!).cloud.length+1≤A1p ps:=by
 have e:A1p ps=A1p (ps.take (i+1).toNat)+A1p (ps.drop (i+1).toNat):=by
  rw[← B10,List.take_append_drop]
 rw[← D9 h0 h]at e
 simp only [A1p,List.map_append,List.sum_append,List.map_cons,List.map_nil,List.sum_cons,List.sum_nil]at *
 omega
theorem A2n{ps:List Past}{i:Int}{T:Nat→List Run}(h:A4b ps i T):S4 ps i 0 T:=fun r hr=>by
 rw[h r hr,if_neg (by omega),List.append_nil]
theorem A4d{ps:List Past}{i j:Int}{T:Nat→List Run}(j0:0≤j)(jl:j <(ps[i.toNat]!).vec.length)(h:S4 ps i j T) :
  S4 ps i (j+1) (M0 T j.toNat (T j.toNat++[⟨1,(ps[i.toNat]!).vec[j.toNat]!⟩])):=by
 intro r hr
 unfold M0
 by_cases e:r=j.toNat
 ·rw[if_pos e,← e,h r hr,if_neg (by omega),if_pos (by omega),List.append_nil,Aj4,if_pos (by omega)]
 ·rw[if_neg e,h r hr]
  by_cases k:(r:Int) < j
  ·rw[if_pos k,if_pos (by omega)]
  ·rw[if_neg k,if_neg (by omega)]
theorem A2o{ps:List Past}{i j:Int}{T:Nat→List Run}(j1:j≤min ((ps[i.toNat]!).vec.length:Int) 16)(jl:¬ j < min ((ps[i.toNat]!).vec.length:Int) 16)(h:S4 ps i j T):N1 ps i 0 T:=by
 intro r hr
 rw[h r hr,show(0:Int).toNat=0 from rfl,List.take_zero,show O4 [] r=[]from rfl,List.append_nil]
 by_cases k:(r:Int) < j
 ·rw[if_pos k]
 ·rw[if_neg k,Aj4,if_neg (by omega)]
theorem A4e(c:List Span)(s:Span)(r:Nat):O4 (c++[s]) r=O4 c r++if s.rep=(r:Int)then[⟨s.lo,s.hi⟩]else[]:=by
 unfold O4
 rw[List.filter_append,List.map_append]
 congr 1
 by_cases h:s.rep=(r:Int)
 ·rw[if_pos h];simp [List.filter_cons,h]
 ·rw[if_neg h];simp [List.filter_cons,h]
theorem Ac5{ps:List Past}{i j:Int}{T:Nat→List Run}(j0:0≤j)(jl:j <(ps[i.toNat]!).cloud.length)(hr:0≤((ps[i.toNat]!).cloud[j.toNat]!).rep∧((ps[i.toNat]!).cloud[j.toNat]!).rep < 16)(h:N1 ps i j T) :
  N1 ps i (j+1) (M0 T ((ps[i.toNat]!).cloud[j.toNat]!).rep.toNat (T ((ps[i.toNat]!).cloud[j.toNat]!).rep.toNat++[⟨((ps[i.toNat]!).cloud[j.toNat]!).lo,((ps[i.toNat]!).cloud[j.toNat]!).hi⟩])):=by
 intro r hr'
 rw[← D9 j0 jl,A4e]
 unfold M0
 by_cases e:r=((ps[i.toNat]!).cloud[j.toNat]!).rep.toNat
 ·rw[if_pos e,if_pos (by omega),← e,h r hr',List.append_assoc,List.append_assoc]
 ·rw[if_neg e,if_neg (by omega),List.append_nil,h r hr']
theorem A7p{ps:List Past}{i j:Int}{T:Nat→List Run}(j0:0≤j)(jl:j <(ps[i.toNat]!).cloud.length)(hr:¬(0≤((ps[i.toNat]!).cloud[j.toNat]!).rep∧((ps[i.toNat]!).cloud[j.toNat]!).rep < 16))(h:N1 ps i j T):N1 ps i (j+1) T:=by
 intro r hr'
 rw[← D9 j0 jl,A4e,if_neg (by omega),List.append_nil,h r hr']
theorem A7q{ps:List Past}{i j:Int}{T:Nat→List Run}(h0:0≤i)(h1:i < ps.length)(jl:¬ j <(ps[i.toNat]!).cloud.length)(h:N1 ps i j T):A4b ps (i+1) T:=by
 intro r hr
 rw[← D9 h0 h1,Aq7,h r hr,List.take_of_length_le (l:=(ps[i.toNat]!).cloud) (by omega),List.append_assoc]
theorem A2p{ps:List Past}{i j:Int}{T:Nat→List Run}(h0:0≤i)(h1:i < ps.length)(h:S4 ps i j T){r:Nat}(hr:r < 16)(k:¬(r:Int) < j):(T r).length+1≤A1p ps:=by
 rw[h r hr,if_neg k,List.append_nil]
 have:=N2 r (ps.take i.toNat)
 have:=A7o h0 h1
 omega
theorem Q1{ps:List Past}{i j:Int}{T:Nat→List Run}(h0:0≤i)(h1:i < ps.length)(j0:0≤j)(jl:j <(ps[i.toNat]!).cloud.length)(h:N1 ps i j T){r:Nat}(hr:r < 16):(T r).length+1≤A1p ps+1∧j+1≤A1p ps:=by
 rw[h r hr,List.length_append,List.length_append]
 have:=N2 r (ps.take i.toNat)
 have:=A7o h0 h1
 have:=Ac4 (ps[i.toNat]!).vec r
 have:=A4c ((ps[i.toNat]!).cloud.take j.toNat) r
 rw[List.length_take]at this
 omega
theorem B12(ps:List Past)(hb:A1p ps*16≤140737488351232):A4u Tryz.prog 92 [.sl (ps.map c26)] 204 (.arr (F9 c206 16 (A3 ps))) :=
 by
 refine A7j 0 (c26) (ps) (by kernel_rfl) Tryz.func92 (by kernel_rfl) fun hl_0=>Ap1 B3 (by kernel_rfl) (.tmp 2) 78 Tryz.func92 (by kernel_rfl) (by kernel_rfl) ?_
 intro e0 cx
 refine sq<|rG cx [0] [] z0<|sn<|sq<|rG cx [0,3] [10] z0<|sn<|sq<|sq<|rG cx [3,11,12,13] [10] (tL 1 c26 ps z0)<|sn<|bL 0<|A03 10 206 2 101000 16 (σ':=⟨[(3,.ptr (10) (0) (0) (0)),(11,.sl (List.map c26 ps)),(12,.i .i64 ((↑ps.length:Int))),(13,.i .i64 ((0:Int)))],[(10,⟨0,204,.var (F3 101000 16)⟩)]++C4 101000 206 2 16 (c206) (fun x ↦ [])⟩) (by kernel_rfl)<|sL (X:=Int×(Nat→List Run)) (fun x=>⟨[(3,.ptr (10) (0) (0) (0)),(11,.sl (List.map c26 ps)),(12,.i .i64 ((↑ps.length:Int))),(13,.i .i64 (x.1))],[(10,⟨0,204,.var (F3 101000 16)⟩)]++C4 101000 206 2 16 (c206) (x.2)⟩) (fun x ↦ B4y ps x.1 x.2) (fun x ↦ A99 ps x.1 x.2) [3,11,12,13] ([10]++List.range' 101000 16) (((0:Int),fun x ↦ [])) (show A99 ps (0:Int) fun x ↦ []from(by exact⟨by omega,by omega,fun r _=>rfl⟩)) ?_
 rintro⟨i0,T1⟩ h_2
 obtain⟨hh3,h4,h5⟩:0≤i0∧i0≤(↑ps.length:Int)∧A4b ps i0 T1:=h_2
 refine rE cx [3,11,12,13,14] ([10]++List.range' 101000 16) (zB 0 (i0 <(↑ps.length:Int))) (fun h6=>?_) fun h6=>?_
 refine sK<|sn<|sq<|bL 1<|sq<|rG cx [3,11,12,13,5] ([10]++List.range' 101000 16++[5]) (fA (0≤i0) (fG c26 ps i0.toNat (fR 2 (fN 2 2 (oR 0 (c26 ps[i0.toNat]!) z0)))))<|sn<|sq<|sq<|rG cx [3,11,12,13,5,20,21] ([10]++List.range' 101000 16++[5]) (tL 2 c3 ps[i0.toNat]!.vec (tT 3 (A1n:AV.i .i64 (if(16:Int) <(↑ps[i0.toNat]!.vec.length:Int)then(16:Int)else(↑ps[i0.toNat]!.vec.length:Int))=AV.i .i64 (min (↑ps[i0.toNat]!.vec.length:Int) (16:Int))) z0))<|sn<|bL 2<|sL (X:=Int×(Nat→List Run)×List Int×List Span) (fun x=>⟨[(3,.ptr (10) (0) (0) (0)),(11,.sl (List.map c26 ps)),(12,.i .i64 ((↑ps.length:Int))),(13,.i .i64 (i0)),(5,.ptr (5) (0) (0) (0)),(20,.i .i64 (min (↑ps[i0.toNat]!.vec.length:Int) (16:Int))),(21,.i .i64 (x.1))],[(10,⟨0,204,.var (F3 101000 16)⟩)]++C4 101000 206 2 16 (c206) (x.2.1)++[(5,⟨0,26,.var [.sl (List.map c3 x.2.2.1),.sl (List.map B1 x.2.2.2)]⟩)]⟩) (fun x ↦ B4z (min (↑ps[i0.toNat]!.vec.length:Int) (16:Int)) x.1 x.2.1 x.2.2.1 x.2.2.2) (fun x ↦ A9a ps i0 (min (↑ps[i0.toNat]!.vec.length:Int) (16:Int)) x.1 x.2.1 x.2.2.1 x.2.2.2) [3,11,12,13,5,20,21] ([10]++List.range' 101000 16++[5]) (((0:Int),T1,ps[i0.toNat]!.vec,ps[i0.toNat]!.cloud)) (show A9a ps i0 (min (↑ps[i0.toNat]!.vec.length:Int) (16:Int)) (0:Int) T1 ps[i0.toNat]!.vec ps[i0.toNat]!.cloud from(by exact⟨rfl,rfl,by omega,by omega,A2n h5⟩)) ?_
 rintro⟨j7,T8,v9,c10⟩ h_11
 obtain⟨h12,h13,h14,h15,h16⟩:v9=ps[i0.toNat]!.vec∧c10=ps[i0.toNat]!.cloud∧0≤j7∧j7≤min (↑ps[i0.toNat]!.vec.length:Int) (16:Int)∧S4 ps i0 j7 T8:=h_11
 refine rE cx [3,11,12,13,5,20,21,22] ([10]++List.range' 101000 16++[5]) (zB 0 (j7 < min (↑ps[i0.toNat]!.vec.length:Int) (16:Int))) (fun h17=>?_) fun h17=>?_
 refine sK<|sn<|sq<|bL 3<|sq<|rG cx [3,11,12,13,5,20,21,6] ([10]++List.range' 101000 16++[5]) z0<|sn<|W0 (F:=fun kx=>⟨[(3,.ptr (10) (0) (0) (0)),(11,.sl (List.map c26 ps)),(12,.i .i64 ((↑ps.length:Int))),(13,.i .i64 (i0)),(5,.ptr (5) (0) (0) (0)),(20,.i .i64 (min (↑ps[i0.toNat]!.vec.length:Int) (16:Int))),(21,.i .i64 (kx)),(6,.i .i64 (kx))],[(10,⟨0,204,.var (F3 101000 16)⟩)]++C4 101000 206 2 16 (c206) (T8)++[(5,⟨0,26,.var [.sl (List.map c3 v9),.sl (List.map B1 c10)]⟩)]⟩) (G:=fun kx=>⟨[(3,.ptr (10) (0) (0) (0)),(11,.sl (List.map c26 ps)),(12,.i .i64 ((↑ps.length:Int))),(13,.i .i64 (i0)),(5,.ptr (5) (0) (0) (0)),(20,.i .i64 (min (↑ps[i0.toNat]!.vec.length:Int) (16:Int))),(21,.i .i64 (kx))],[(10,⟨0,204,.var (F3 101000 16)⟩)]++C4 101000 206 2 16 (c206) (M0 T8 kx.toNat (T8 kx.toNat++[{ lo:=(1:Int),hi:=v9[kx.toNat]!:Run }]))++[(5,⟨0,26,.var [.sl (List.map c3 v9),.sl (List.map B1 c10)]⟩)]⟩) (A:=fun kx=>(0≤kx)∧(kx <(↑(16:Nat):Int))∧(0≤kx)∧((List.map c3 v9)[kx.toNat]?=some (c3 v9[kx.toNat]!))∧((c3 v9[kx.toNat]!).length=(1:Nat))∧(206=(206:Nat))∧((2:Nat)=2)∧([AV.i .i64 (0:Int),AV.i .i64 (0:Int)].length=(2:Nat))∧(∀(r:List AV),r∈List.map c206 [{ lo:=(1:Int),hi:=v9[kx.toNat]!:Run }]→r.length=2)∧((List.map c206 (T8 kx.toNat)).length+(List.map c206 [{ lo:=(1:Int),hi:=v9[kx.toNat]!:Run }]).length≤maxLen)∧(((List.map c206 (T8 kx.toNat)).length+(List.map c206 [{ lo:=(1:Int),hi:=v9[kx.toNat]!:Run }]).length)*(16:Nat)≤(140737488355328:Nat))∧(List.map c206 (T8 kx.toNat)++List.map c206 [{ lo:=(1:Int),hi:=v9[kx.toNat]!:Run }]=List.map c206 (T8 kx.toNat++[{ lo:=(1:Int),hi:=v9[kx.toNat]!:Run }]))∧(0≤kx)∧(kx <(↑(16:Nat):Int))) cx (fun kx=>[(10,{ row:=(c3 v9[kx.toNat]!) }),(14,{ rows:=some (List.map c206 (T8 kx.toNat++[{ lo:=(1:Int),hi:=v9[kx.toNat]!:Run }])) })]) [3,11,12,13,5,20,21] ([10]++List.range' 101000 16++[5]) (j7) (by(with_reducible assumption)) (by omega) (by kernel_rfl) (by kernel_rfl) ⟨(by show _=_;kernel_rfl),(by show _=_;kernel_rfl),(by show _=_;kernel_rfl),(by show _=_;kernel_rfl),(by show _=_;kernel_rfl),(by show _=_;kernel_rfl),(by show _=_;kernel_rfl),(by show _=_;kernel_rfl),(by show _=_;kernel_rfl),(by show _=_;kernel_rfl),(by show _=_;kernel_rfl),(by show _=_;kernel_rfl),(by show _=_;kernel_rfl),(by show _=_;kernel_rfl),(by show _=_;kernel_rfl),(by show _=_;kernel_rfl)⟩ ⟨(by(with_reducible assumption)),(by omega),(by(with_reducible assumption)),(by subst_vars;exact G6 (by omega)),(by kernel_rfl),(by kernel_rfl),(by kernel_rfl),(by kernel_rfl),(by(with_reducible refine P1 (fun _=>?_) _;kernel_rfl)),(by have:=A2p hh3 h6 h16 (r:=j7.toNat) (by omega) (by omega);simp only [List.length_map,List.length_cons,List.length_nil,Go.maxLen];omega),(by have:=A2p hh3 h6 h16 (r:=j7.toNat) (by omega) (by omega);simp only [List.length_map,List.length_cons,List.length_nil];omega),(by(with_reducible refine U4 ?_;kernel_rfl)),(by(with_reducible assumption)),(by omega)⟩ ?_
 refine bN<|sn<|rG cx [3,11,12,13,5,20,21] ([10]++List.range' 101000 16++[5]) (tW 0 (j7+1) z0)<|sn<|nX ((j7+1,M0 T8 j7.toNat (T8 j7.toNat++[{ lo:=(1:Int),hi:=v9[j7.toNat]!:Run }]),v9,c10)) (show(min (↑ps[i0.toNat]!.vec.length:Int) 16-(j7+1)).toNat <(min (↑ps[i0.toNat]!.vec.length:Int) 16-j7).toNat from(by omega)) (show A9a ps i0 (min (↑ps[i0.toNat]!.vec.length:Int) (16:Int)) (j7+1) (M0 T8 j7.toNat (T8 j7.toNat++[{ lo:=(1:Int),hi:=v9[j7.toNat]!:Run }])) v9 c10 from(by subst h12 h13;exact⟨rfl,rfl,by omega,by omega,A4d h14 (by omega) h16⟩))
 refine eX 2<|nE<|nE<|bH<|sn<|sq<|rG cx [3,11,12,13,43,44,45] ([10]++List.range' 101000 16) (tL 2 B1 c10 z0)<|sn<|bL 4<|sL (X:=Int×(Nat→List Run)) (fun x=>⟨[(3,.ptr (10) (0) (0) (0)),(11,.sl (List.map c26 ps)),(12,.i .i64 ((↑ps.length:Int))),(13,.i .i64 (i0)),(43,.sl (List.map B1 c10)),(44,.i .i64 ((↑c10.length:Int))),(45,.i .i64 (x.1))],[(10,⟨0,204,.var (F3 101000 16)⟩)]++C4 101000 206 2 16 (c206) (x.2)⟩) (fun x ↦ B50 ps i0 x.1 x.2) (fun x ↦ A5o ps i0 x.1 x.2) [3,11,12,13,43,44,45] ([10]++List.range' 101000 16) (((0:Int),T8)) (show A5o ps i0 (0:Int) T8 from(by exact⟨by omega,by omega,A2o h15 h17 h16⟩)) ?_
 rintro⟨j18,T19⟩ h_20
 obtain⟨h21,h22,h23⟩:0≤j18∧j18≤(↑ps[i0.toNat]!.cloud.length:Int)∧N1 ps i0 j18 T19:=h_20
 refine rE cx [3,11,12,13,43,44,45,46] ([10]++List.range' 101000 16) (zB 0 (j18 <(↑c10.length:Int))) (fun h24=>?_) fun h24=>?_
 refine sK<|sn<|sq<|bL 5<|sq<|rG cx [3,11,12,13,43,44,45,8] ([10]++List.range' 101000 16++[8]) (fA (0≤j18) (fG B1 c10 j18.toNat (fR 3 (fN 3 3 (oR 0 (B1 c10[j18.toNat]!) z0)))))<|sn<|sq<|A9 (σ':=⟨[(3,.ptr (10) (0) (0) (0)),(11,.sl (List.map c26 ps)),(12,.i .i64 ((↑ps.length:Int))),(13,.i .i64 (i0)),(43,.sl (List.map B1 c10)),(44,.i .i64 ((↑c10.length:Int))),(45,.i .i64 (j18)),(8,.ptr (8) (0) (0) (0)),(56,.b (decide (0≤c10[j18.toNat]!.rep∧c10[j18.toNat]!.rep <(16:Int))))],[(10,⟨0,204,.var (F3 101000 16)⟩)]++C4 101000 206 2 16 (c206) (T19)++[(8,⟨0,141,.var [.i .i64 (c10[j18.toNat]!.rep),.i .i64 (c10[j18.toNat]!.lo),.i .i64 (c10[j18.toNat]!.hi)]⟩)]⟩) ?_ ?_
 refine A6 (0≤c10[j18.toNat]!.rep) (fun h_26=>?_) (fun h_26=>?_)
 refine rG cx [3,11,12,13,43,44,45,8,56] ([10]++List.range' 101000 16++[8]) (tT 2 (A4 h_26) (tB 6 (c10[j18.toNat]!.rep <(16:Int)) (tD 7 (decide (c10[j18.toNat]!.rep <(16:Int))) (0≤c10[j18.toNat]!.rep∧c10[j18.toNat]!.rep <(16:Int)) (by simp only [eq_true h_26,tsl]) z0))) ?_
 exact⟨rfl,by kernel_rfl⟩
 refine rG cx [3,11,12,13,43,44,45,8,56] ([10]++List.range' 101000 16++[8]) (tT 2 (A0 h_26) (tD 7 false (0≤c10[j18.toNat]!.rep∧c10[j18.toNat]!.rep <(16:Int)) (by simp only [eq_false h_26,tsl]) z0)) ?_
 exact⟨rfl,by kernel_rfl⟩
 refine sn<|dC (0≤c10[j18.toNat]!.rep∧c10[j18.toNat]!.rep <(16:Int)) (fun h27=>?_) fun h27=>?_
 refine W0 (F:=fun kx=>⟨[(3,.ptr (10) (0) (0) (0)),(11,.sl (List.map c26 ps)),(12,.i .i64 ((↑ps.length:Int))),(13,.i .i64 (i0)),(43,.sl (List.map B1 c10)),(44,.i .i64 ((↑c10.length:Int))),(45,.i .i64 (j18)),(8,.ptr (8) (0) (0) (0)),(56,.b (decide (0≤kx∧kx <(16:Int))))],[(10,⟨0,204,.var (F3 101000 16)⟩)]++C4 101000 206 2 16 (c206) (T19)++[(8,⟨0,141,.var [.i .i64 (kx),.i .i64 (c10[j18.toNat]!.lo),.i .i64 (c10[j18.toNat]!.hi)]⟩)]⟩) (G:=fun kx=>⟨[(3,.ptr (10) (0) (0) (0)),(11,.sl (List.map c26 ps)),(12,.i .i64 ((↑ps.length:Int))),(13,.i .i64 (i0)),(43,.sl (List.map B1 c10)),(44,.i .i64 ((↑c10.length:Int))),(45,.i .i64 (j18))],[(10,⟨0,204,.var (F3 101000 16)⟩)]++C4 101000 206 2 16 (c206) (M0 T19 kx.toNat (T19 kx.toNat++[{ lo:=c10[j18.toNat]!.lo,hi:=c10[j18.toNat]!.hi:Run }]))⟩) (A:=fun kx=>(0≤kx)∧(kx <(↑(16:Nat):Int))∧(206=(206:Nat))∧((2:Nat)=2)∧([AV.i .i64 (0:Int),AV.i .i64 (0:Int)].length=(2:Nat))∧(∀(r:List AV),r∈List.map c206 [{ lo:=c10[j18.toNat]!.lo,hi:=c10[j18.toNat]!.hi:Run }]→r.length=2)∧((List.map c206 (T19 kx.toNat)).length+(List.map c206 [{ lo:=c10[j18.toNat]!.lo,hi:=c10[j18.toNat]!.hi:Run }]).length≤maxLen)∧(((List.map c206 (T19 kx.toNat)).length+(List.map c206 [{ lo:=c10[j18.toNat]!.lo,hi:=c10[j18.toNat]!.hi:Run }]).length)*(16:Nat)≤(140737488355328:Nat))∧(List.map c206 (T19 kx.toNat)++List.map c206 [{ lo:=c10[j18.toNat]!.lo,hi:=c10[j18.toNat]!.hi:Run }]=List.map c206 (T19 kx.toNat++[{ lo:=c10[j18.toNat]!.lo,hi:=c10[j18.toNat]!.hi:Run }]))∧(0≤kx)∧(kx <(↑(16:Nat):Int))) cx (fun kx=>[(15,{ rows:=some (List.map c206 (T19 kx.toNat++[{ lo:=c10[j18.toNat]!.lo,hi:=c10[j18.toNat]!.hi:Run }])) })]) [3,11,12,13,43,44,45] ([10]++List.range' 101000 16) (c10[j18.toNat]!.rep) (by omega) (by omega) (by kernel_rfl) (by kernel_rfl) ⟨(by show _=_;kernel_rfl),(by show _=_;kernel_rfl),(by show _=_;kernel_rfl),(by show _=_;kernel_rfl),(by show _=_;kernel_rfl),(by show _=_;kernel_rfl),(by show _=_;kernel_rfl),(by show _=_;kernel_rfl),(by show _=_;kernel_rfl),(by show _=_;kernel_rfl),(by show _=_;kernel_rfl),(by show _=_;kernel_rfl),(by show _=_;kernel_rfl),(by show _=_;kernel_rfl),(by show _=_;kernel_rfl),(by show _=_;kernel_rfl)⟩ ⟨(by omega),(by omega),(by kernel_rfl),(by kernel_rfl),(by kernel_rfl),(by(with_reducible refine P1 (fun _=>?_) _;kernel_rfl)),(by subst h12 h13;have:=Q1 hh3 h6 h21 h24 h23 (r:=((ps[i0.toNat]!).cloud[j18.toNat]!).rep.toNat) (by omega);simp only [List.length_map,List.length_cons,List.length_nil,Go.maxLen];omega),(by subst h12 h13;have:=Q1 hh3 h6 h21 h24 h23 (r:=((ps[i0.toNat]!).cloud[j18.toNat]!).rep.toNat) (by omega);simp only [List.length_map,List.length_cons,List.length_nil];omega),(by(with_reducible refine U4 ?_;kernel_rfl)),(by omega),(by omega)⟩ ?_
 refine bN<|sn<|rG cx [3,11,12,13,43,44,45] ([10]++List.range' 101000 16) (tT 0 (B4 (by omega) (by subst h12 h13;have:=Q1 hh3 h6 h21 h24 h23 (r:=0) (by omega);omega):AV.i .i64 (IntKind.i64.wrap (j18+1))=AV.i .i64 (j18+1)) z0) ?_
 refine sn<|nX ((j18+1,M0 T19 c10[j18.toNat]!.rep.toNat (T19 c10[j18.toNat]!.rep.toNat++[{ lo:=c10[j18.toNat]!.lo,hi:=c10[j18.toNat]!.hi:Run }]))) (show((↑ps[i0.toNat]!.cloud.length:Int)-(j18+1)).toNat <((↑ps[i0.toNat]!.cloud.length:Int)-j18).toNat from(by subst h12 h13;omega)) (show A5o ps i0 (j18+1) (M0 T19 c10[j18.toNat]!.rep.toNat (T19 c10[j18.toNat]!.rep.toNat++[{ lo:=c10[j18.toNat]!.lo,hi:=c10[j18.toNat]!.hi:Run }]))from(by subst h12 h13;exact⟨by omega,by omega,Ac5 h21 h24 h27 h23⟩))
 refine sK<|bN<|sn<|rG cx [3,11,12,13,43,44,45] ([10]++List.range' 101000 16) (tT 0 (B4 (by omega) (by subst h12 h13;have:=Q1 hh3 h6 h21 h24 h23 (r:=0) (by omega);omega):AV.i .i64 (IntKind.i64.wrap (j18+1))=AV.i .i64 (j18+1)) z0) ?_
 refine sn<|nX ((j18+1,T19)) (show((↑ps[i0.toNat]!.cloud.length:Int)-(j18+1)).toNat <((↑ps[i0.toNat]!.cloud.length:Int)-j18).toNat from(by subst h12 h13;omega)) (show A5o ps i0 (j18+1) T19 from(by subst h12 h13;exact⟨by omega,by omega,A7p h21 h24 h27 h23⟩))
 refine eX 4<|nE<|nE<|bH<|bN<|sn<|rG cx [3,11,12,13] ([10]++List.range' 101000 16) (tW 0 (i0+1) z0)<|sn<|nX ((i0+1,T19)) (show((↑ps.length:Int)-(i0+1)).toNat <((↑ps.length:Int)-i0).toNat from(by omega)) (show A99 ps (i0+1) T19 from(by subst h12 h13;exact⟨by omega,by omega,A7q hh3 h6 h24 h23⟩))
 refine eX 0<|nE<|nE<|bH<|sn<|sq<|L8 (List.range' 101000 16) [3,11,12,13,14] [10] (σ':=⟨[(3,.ptr (10) (0) (0) (0)),(11,.sl (List.map c26 ps)),(12,.i .i64 ((↑ps.length:Int))),(13,.i .i64 (i0)),(14,.b (decide (i0 <(↑ps.length:Int))))],[(10,⟨0,204,.var [.sl (List.map c206 (T1 (0))),.sl (List.map c206 (T1 (1))),.sl (List.map c206 (T1 (2))),.sl (List.map c206 (T1 (3))),.sl (List.map c206 (T1 (4))),.sl (List.map c206 (T1 (5))),.sl (List.map c206 (T1 (6))),.sl (List.map c206 (T1 (7))),.sl (List.map c206 (T1 (8))),.sl (List.map c206 (T1 (9))),.sl (List.map c206 (T1 (10))),.sl (List.map c206 (T1 (11))),.sl (List.map c206 (T1 (12))),.sl (List.map c206 (T1 (13))),.sl (List.map c206 (T1 (14))),.sl (List.map c206 (T1 (15)))]⟩)]⟩) (by kernel_rfl)<|I9 10 ⟨0,204,.var [.sl (List.map c206 (T1 (0))),.sl (List.map c206 (T1 (1))),.sl (List.map c206 (T1 (2))),.sl (List.map c206 (T1 (3))),.sl (List.map c206 (T1 (4))),.sl (List.map c206 (T1 (5))),.sl (List.map c206 (T1 (6))),.sl (List.map c206 (T1 (7))),.sl (List.map c206 (T1 (8))),.sl (List.map c206 (T1 (9))),.sl (List.map c206 (T1 (10))),.sl (List.map c206 (T1 (11))),.sl (List.map c206 (T1 (12))),.sl (List.map c206 (T1 (13))),.sl (List.map c206 (T1 (14))),.sl (List.map c206 (T1 (15)))]⟩ [.sl (List.map c206 (T1 (0))),.sl (List.map c206 (T1 (1))),.sl (List.map c206 (T1 (2))),.sl (List.map c206 (T1 (3))),.sl (List.map c206 (T1 (4))),.sl (List.map c206 (T1 (5))),.sl (List.map c206 (T1 (6))),.sl (List.map c206 (T1 (7))),.sl (List.map c206 (T1 (8))),.sl (List.map c206 (T1 (9))),.sl (List.map c206 (T1 (10))),.sl (List.map c206 (T1 (11))),.sl (List.map c206 (T1 (12))),.sl (List.map c206 (T1 (13))),.sl (List.map c206 (T1 (14))),.sl (List.map c206 (T1 (15)))] (F9 c206 16 T1) (σ':=⟨[(3,.ptr (10) (0) (0) (0)),(11,.sl (List.map c26 ps)),(12,.i .i64 ((↑ps.length:Int))),(13,.i .i64 (i0)),(14,.b (decide (i0 <(↑ps.length:Int))))],[(10,⟨0,204,.arr (F9 c206 16 T1)⟩)]⟩) (by kernel_rfl) (by kernel_rfl) (by kernel_rfl) (by kernel_rfl) (ZLe.of_eq (by kernel_rfl)) (by kernel_rfl)<|rG cx [2] [10] z0<|sn<|rT<|qb_ptr (cells':=(F9 c206 16 T1)) .ret (.inr rfl) 2 10 0 (by kernel_rfl) (by kernel_rfl) (by kernel_rfl) ?g16;rotate_left
 case g16 =>
  unfold F9
  refine List.map_congr_left fun r hr=>?_
  rw[h5 r (by simpa using hr),List.take_of_length_le (by omega)]
end Go.Proofs.YtphcaholhacnpaaGreat
namespace Go.Proofs.YtphcaholhacnpaaGreat
open Go.E
set_option maxRecDepth 100000
set_option maxHeartbeats 4000000
def A5(p:Past):Past:=H9 (A3 [p])
theorem A9b(p:Past):A1p [p]=p.cloud.length+1:=by simp [A1p]
theorem Ac6(p:Past)(hb:p.cloud.length*16≤140737488350000):Con Tryz.prog 116 [.agg (c26 p)] (.agg (c26 (A5 p))) :=
 by
 have h1:=A9b p
 have h2:=fun r=>N2 r [p]
 refine sC B3 [.cell 2 26] 7 Tryz.func116 ?_
 intro e0 cx
 refine sq<|rG cx [1,2] [1,2] z0<|sn<|sq<|rG cx [2] [2] (fT (B12 ([p]) ?g0) (fT (B4v (A3 [p]) ?g1) (oV 2 { val:=some (.ptr ((204:Nat)) (0) (0) (0)),row:=(F9 c206 16 (A3 [p])) } (oA 3 (.agg [.sl (List.map c3 (H9 (A3 [p])).vec),.sl (List.map B1 (H9 (A3 [p])).cloud)]) z0)))) ?_;rotate_left 2
 refine sn<|rT<|qR (.agg [.sl (List.map c3 (H9 (A3 [p])).vec),.sl (List.map B1 (H9 (A3 [p])).cloud)]) (.eq ?g2);rotate_left
 all_goals
  ( intros <;> first
  | omega
  | exact rfl
  | (have:=h2 ‹Nat›;omega))
end Go.Proofs.YtphcaholhacnpaaGreat
namespace Go.Proofs.YtphcaholhacnpaaGreat
open Go.E
set_option maxRecDepth 100000
set_option maxHeartbeats 4000000
def B6i{α:Type}[Inhabited α](a b:List α)(i:Int):Prop:=0≤i∧i≤a.length∧a.length=b.length∧∀ j:Nat,(j:Int) < i→a[j]! = b[j]!
def decE{α:Type}(a b:List α)(i:Int):Nat:=(a.length-i).toNat
theorem U7{α:Type}[Inhabited α]{a b:List α}(hl:a.length=b.length)(h:∀ j:Nat,j < a.length→a[j]! = b[j]!):a=b:=by
 apply List.ext_getElem hl
 intro j h1 h2
 have:=h j h1
 rwa [getElem!_pos a j h1,getElem!_pos b j h2]at this
theorem B33(a b:List Int):Con Tryz.prog 151 [.sl (a.map c3),.sl (b.map c3)] (.b (decide (a=b))) :=
 by
 refine lN 0 c3 (a) Tryz.func151 fun hl_0=>lN 1 c3 (b) Tryz.func151 fun hl_1=>sC B3 [.tmp 4] 26 Tryz.func151 ?_
 intro e0 cx
 refine sq<|rG cx [0,1] [] z0<|sn<|sq<|sq<|rG cx [0,1,10] [] (tL 1 c3 a (tL 3 c3 b (tN 4 (↑a.length:Int) (↑b.length:Int) z0)))<|sn<|dC (¬(↑a.length:Int)=(↑b.length:Int)) (fun hh0=>?_) fun hh0=>?_
 refine sq<|rG cx [4] [] z0<|sn<|rT<|nR<|qR (.b (false)) (.eq (by exact(by rw[decide_eq_false (fun k=>hh0 (by rw[k]))])))
 refine sK<|sn<|sq<|sq<|rG cx [0,1,12,13] [] (tL 1 c3 a z0)<|sn<|bL 0<|sL (X:=Int) (fun x=>⟨[(0,.sl (List.map c3 a)),(1,.sl (List.map c3 b)),(12,.i .i64 ((↑a.length:Int))),(13,.i .i64 (x))],[]⟩) (fun x ↦ decE a b x) (fun x ↦ B6i a b x) [0,1,12,13] [] ((0:Int)) (show B6i a b (0:Int)from(by exact⟨by omega,by omega,by omega,fun j hj=>by omega⟩)) ?_
 intro i1 h_2
 obtain⟨hh3,hh4,hh5,h6⟩:0≤i1∧i1≤(↑a.length:Int)∧a.length=b.length∧∀(j:Nat),(↑j:Int) < i1→a[j]! = b[j]!:=h_2
 refine rE cx [0,1,12,13,14] [] (zB 0 (i1 <(↑a.length:Int))) (fun h7=>?_) fun h7=>?_
 refine sK<|sn<|sq<|bL 1<|sq<|rG cx [0,1,12,13,5] [] z0<|sn<|sq<|rA cx [0,1,12,13,24] [] (fA (0≤i1) (fG c3 a i1.toNat (fR 1 (fA (0≤i1) (fG c3 b i1.toNat (fR 1 (tN 8 a[i1.toNat]! b[i1.toNat]! (oR 2 (c3 a[i1.toNat]!) (oR 6 (c3 b[i1.toNat]!) z0)))))))))<|sn<|dC (¬a[i1.toNat]! = b[i1.toNat]!) (fun h8=>?_) fun h8=>?_
 refine sq<|rG cx [4] [] z0<|sn<|rT<|bR<|nR<|nR<|bR<|nR<|qR (.b (false)) (.eq (by exact(by rw[decide_eq_false (fun k=>h8 (by rw[k]))])))
 refine sK<|bN<|sn<|rG cx [0,1,12,13] [] (tW 0 (i1+1) z0)<|sn<|nX (i1+1) (show((↑a.length:Int)-(i1+1)).toNat <((↑a.length:Int)-i1).toNat from(by omega)) (show B6i a b (i1+1)from ?g3);rotate_left
 refine eX 0<|nE<|nE<|bH<|sn<|sq<|rG cx [4] [] z0<|sn<|rT<|qR (.b (true)) (.eq (by exact(by rw[decide_eq_true (U7 hh5 fun j hj=>h6 j (by omega))])))
 case g3=>revert hh0 i1 hh3 hh4 hh5 h6 h7 h8;exact(fun h i h0 h1 h2 h3 h4 h5=>⟨by omega,by omega,h2,fun j hj=>by
   by_cases e:j=i.toNat
   ·rw[e];exact Classical.not_not.1 h5
   ·exact h3 j (by omega)⟩)
theorem con152(a b:List Span):Con Tryz.prog 152 [.sl (a.map B1),.sl (b.map B1)] (.b (decide (a=b))) :=
 by
 refine lN 0 B1 (a) Tryz.func152 fun hl_0=>lN 1 B1 (b) Tryz.func152 fun hl_1=>sC B3 [.tmp 4] 26 Tryz.func152 ?_
 intro e0 cx
 refine sq<|rG cx [0,1] [] z0<|sn<|sq<|sq<|rG cx [0,1,10] [] (tL 1 B1 a (tL 3 B1 b (tN 4 (↑a.length:Int) (↑b.length:Int) z0)))<|sn<|dC (¬(↑a.length:Int)=(↑b.length:Int)) (fun hh0=>?_) fun hh0=>?_
 refine sq<|rG cx [4] [] z0<|sn<|rT<|nR<|qR (.b (false)) (.eq (by exact(by rw[decide_eq_false (fun k=>hh0 (by rw[k]))])))
 refine sK<|sn<|sq<|sq<|rG cx [0,1,12,13] [] (tL 1 B1 a z0)<|sn<|bL 0<|sL (X:=Int) (fun x=>⟨[(0,.sl (List.map B1 a)),(1,.sl (List.map B1 b)),(12,.i .i64 ((↑a.length:Int))),(13,.i .i64 (x))],[]⟩) (fun x ↦ decE a b x) (fun x ↦ B6i a b x) [0,1,12,13] [] ((0:Int)) (show B6i a b (0:Int)from(by exact⟨by omega,by omega,by omega,fun j hj=>by omega⟩)) ?_
 intro i1 h_2
 obtain⟨hh3,hh4,hh5,h6⟩:0≤i1∧i1≤(↑a.length:Int)∧a.length=b.length∧∀(j:Nat),(↑j:Int) < i1→a[j]! = b[j]!:=h_2
 refine rE cx [0,1,12,13,14] [] (zB 0 (i1 <(↑a.length:Int))) (fun h7=>?_) fun h7=>?_
 refine sK<|sn<|sq<|bL 1<|sq<|rG cx [0,1,12,13,5] [] z0<|sn<|sq<|rA cx [0,1,12,13,24] [] (fA (0≤i1) (fG B1 a i1.toNat (fR 3 (fN 3 3 (fA (0≤i1) (fG B1 b i1.toNat (fR 3 (fN 3 3 (fT (A2k (eq141 a[i1.toNat]! b[i1.toNat]!)) (oR 2 (B1 a[i1.toNat]!) (oR 6 (B1 b[i1.toNat]!) (oA 8 (.b (decide ¬a[i1.toNat]! = b[i1.toNat]!)) z0))))))))))))<|sn<|dC (¬a[i1.toNat]! = b[i1.toNat]!) (fun h8=>?_) fun h8=>?_
 refine sq<|rG cx [4] [] z0<|sn<|rT<|bR<|nR<|nR<|bR<|nR<|qR (.b (false)) (.eq (by exact(by rw[decide_eq_false (fun k=>h8 (by rw[k]))])))
 refine sK<|bN<|sn<|rG cx [0,1,12,13] [] (tW 0 (i1+1) z0)<|sn<|nX (i1+1) (show((↑a.length:Int)-(i1+1)).toNat <((↑a.length:Int)-i1).toNat from(by omega)) (show B6i a b (i1+1)from ?g3);rotate_left
 refine eX 0<|nE<|nE<|bH<|sn<|sq<|rG cx [4] [] z0<|sn<|rT<|qR (.b (true)) (.eq (by exact(by rw[decide_eq_true (U7 hh5 fun j hj=>h6 j (by omega))])))
 case g3=>revert hh0 i1 hh3 hh4 hh5 h6 h7 h8;exact(fun h i h0 h1 h2 h3 h4 h5=>⟨by omega,by omega,h2,fun j hj=>by
   by_cases e:j=i.toNat
   ·rw[e];exact Classical.not_not.1 h5
   ·exact h3 j (by omega)⟩)
theorem A08(p:Past)(hb:p.cloud.length*16≤140737488350000):Con Tryz.prog 81 [.agg (c26 p)] (.b (decide (p=A5 p))) :=
 by
 refine sC B3 [.tmp 2] 18 Tryz.func81 ?_
 intro e0 cx
 refine sq<|rG cx [1] [1] z0<|sn<|sq<|rG cx [1,3] [1,3] (fT (Ac6 (p) (by(with_reducible assumption))) (oA 1 (.agg [.sl (List.map c3 (A5 p).vec),.sl (List.map B1 (A5 p).cloud)]) z0))<|sn<|sq<|A9 (σ':=⟨[(2,.b (decide (p.vec=(A5 p).vec∧p.cloud=(A5 p).cloud)))],[]⟩) ?_ ?_
 refine A6 (p.vec=(A5 p).vec) (fun h_1=>?_) (fun h_1=>?_)
 refine rg (A:=_∧_∧_∧(AV.b (decide (p.cloud=(A5 p).cloud))=AV.b (decide (p.vec=(A5 p).vec∧p.cloud=(A5 p).cloud)))) cx [(4,{ val:=some (.b (decide (p.vec=(A5 p).vec))),tell:=some (.b (true)) }),(10,{ val:=some (.b (decide (p.cloud=(A5 p).cloud))) }),(12,{ tell:=some (.b (decide (p.vec=(A5 p).vec∧p.cloud=(A5 p).cloud))) })] [2] [] ⟨(A4 h_1),(B33 (p.vec) ((A5 p).vec)),(con152 (p.cloud) ((A5 p).cloud)),(by simp only [eq_true h_1,tsl])⟩ ?_
 exact⟨rfl,by kernel_rfl⟩
 refine rg (A:=_∧_∧(AV.b false=AV.b (decide (p.vec=(A5 p).vec∧p.cloud=(A5 p).cloud)))) cx [(4,{ val:=some (.b (decide (p.vec=(A5 p).vec))),tell:=some (.b (false)) }),(12,{ tell:=some (.b (decide (p.vec=(A5 p).vec∧p.cloud=(A5 p).cloud))) })] [2] [] ⟨(A0 h_1),(B33 (p.vec) ((A5 p).vec)),(by simp only [eq_false h_1,tsl])⟩ ?_
 exact⟨rfl,by kernel_rfl⟩
 refine sn<|rT<|qR (.b (decide (p.vec=(A5 p).vec∧p.cloud=(A5 p).cloud))) (.eq ?g0);rotate_left
 case' g0=>refine(by
  congr 1
  refine decide_eq_decide.2 ?_
  generalize A5 p=q
  cases p;cases q;simp)
end Go.Proofs.YtphcaholhacnpaaGreat
namespace Go.Proofs.YtphcaholhacnpaaGreat
open Go.E
set_option maxRecDepth 100000
set_option maxHeartbeats 4000000
def A5p(s:Span)(d:Dot):Bool:=decide (s.rep=d.rep∧s.lo≤d.num∧d.num≤s.hi)
def Ac7(c:List Span)(d:Dot):Int:=if c.any (fun s=>A5p s d)=true then(c.findIdx (fun s=>A5p s d):Int)else -1
def invI(c:List Span)(d:Dot)(i:Int):Prop:=0≤i∧i≤c.length∧∀ j:Nat,(j:Int) < i→A5p c[j]! d=false
def decI(c:List Span)(d:Dot)(i:Int):Nat:=(c.length-i).toNat
def G7(p:Past)(d:Dot):Bool:=J4 d && (decide (d.rep < p.vec.length∧d.num≤p.vec[d.rep.toNat]!) || p.cloud.any fun s=>A5p s d)
theorem idx_at{c:List Span}{d:Dot}:∀ {i:Nat},i < c.length→A5p c[i]! d=true→(∀ j:Nat,j < i→A5p c[j]! d=false)→Ac7 c d=i:=by
 intro i hi h hn
 have hany:c.any (fun s=>A5p s d)=true:=List.any_eq_true.2 ⟨c[i]!,E1 hi,h⟩
 unfold Ac7
 rw[if_pos hany]
 have:c.findIdx (fun s=>A5p s d)=i:=by
  rw[List.findIdx_eq hi]
  refine⟨by rwa [getElem!_pos c i hi]at h,fun j hj=>?_⟩
  have:=hn j hj
  rwa [getElem!_pos c j (by omega)]at this
 rw[this]
theorem idx_no{c:List Span}{d:Dot}(h:∀ j:Nat,j < c.length→A5p c[j]! d=false):Ac7 c d=-1:=by
 unfold Ac7
 rw[if_neg]
 intro k
 obtain⟨x,hx,hk⟩:=List.any_eq_true.1 k
 obtain⟨j,hj,rfl⟩:=List.mem_iff_getElem.1 hx
 have:=h j hj
 rw[getElem!_pos c j hj]at this
 rw[this]at hk
 cases hk
theorem B51(c:List Span)(d:Dot):decide (0≤Ac7 c d)=c.any fun s=>A5p s d:=by
 unfold Ac7
 cases h:c.any fun s=>A5p s d with
 | true=>rw[if_pos rfl];simp
 | false=>rw[if_neg (by simp)];rfl
theorem con174(s:Span)(d:Dot):Con Tryz.prog 174 [.agg (B1 s),.eptr (c44 d)] (.b (A5p s d)) :=
 by
 refine sC B3 [.tmp 3] 23 Tryz.func174 ?_
 intro e0 cx
 refine sq<|rG cx [1,2] [2] z0<|sn<|sq<|A9 (σ':=⟨[(3,.b (decide (s.rep=d.rep∧s.lo≤d.num∧d.num≤s.hi)))],[]⟩) ?_ ?_
 refine A6 (s.rep=d.rep) (fun h_1=>?_) (fun h_1=>?_)
 refine A6 (s.lo≤d.num) (fun h_2=>?_) (fun h_2=>?_)
 refine rG cx [3] [] (tT 4 (A4 h_1) (tT 10 (A4 h_2) (tB 17 (d.num≤s.hi) (tD 19 (decide (d.num≤s.hi)) (s.rep=d.rep∧s.lo≤d.num∧d.num≤s.hi) (by simp only [eq_true h_1,eq_true h_2,tsl]) z0)))) ?_
 exact⟨rfl,by kernel_rfl⟩
 refine rG cx [3] [] (tT 4 (A4 h_1) (tT 10 (A0 h_2) (tD 19 false (s.rep=d.rep∧s.lo≤d.num∧d.num≤s.hi) (by simp only [eq_true h_1,eq_false h_2,tsl]) z0))) ?_
 exact⟨rfl,by kernel_rfl⟩
 refine rG cx [3] [] (tT 4 (A0 h_1) (tD 19 false (s.rep=d.rep∧s.lo≤d.num∧d.num≤s.hi) (by simp only [eq_false h_1,tsl]) z0)) ?_
 exact⟨rfl,by kernel_rfl⟩
 refine sn<|rT<|qR (.b (decide (s.rep=d.rep∧s.lo≤d.num∧d.num≤s.hi))) (.eq ?g0);rotate_left
 case g0=>exact rfl
theorem con216(c:List Span)(d:Dot):Con Tryz.prog 216 [.sl (c.map B1),.fn (.func 174) [] [.eptr (c44 d)]] (.i .i64 (Ac7 c d)) :=
 by
 refine lN 0 B1 (c) Tryz.func216 fun hl_0=>sC B3 [.tmp 4] 19 Tryz.func216 ?_
 intro e0 cx
 refine sq<|rG cx [0,1] [] z0<|sn<|sq<|sq<|rG cx [0,1,7,8] [] (tL 1 B1 c z0)<|sn<|bL 0<|sL (X:=Int) (fun x=>⟨[(0,.sl (List.map B1 c)),(1,.fn (Fn.func (174:FuncId)) [] [.eptr [.i .i64 (d.rep),.i .i64 (d.num)]]),(7,.i .i64 ((↑c.length:Int))),(8,.i .i64 (x))],[]⟩) (fun x ↦ decI c d x) (fun x ↦ invI c d x) [0,1,7,8] [] ((0:Int)) (show invI c d (0:Int)from(by exact⟨by omega,by omega,fun j hj=>by omega⟩)) ?_
 intro i0 h_1
 obtain⟨hh2,hh3,hh4⟩:0≤i0∧i0≤(↑c.length:Int)∧∀(j:Nat),(↑j:Int) < i0→A5p c[j]! d=false:=h_1
 refine rE cx [0,1,7,8,9] [] (zB 0 (i0 <(↑c.length:Int))) (fun h5=>?_) fun h5=>?_
 refine sK<|sn<|sq<|bL 1<|sq<|rG cx [0,1,7,8,5] [] z0<|sn<|sq<|rG cx [0,1,7,8,5,16] [] (fA (0≤i0) (fG B1 c i0.toNat (fR 3 (fN 3 3 (fT (con174 (c[i0.toNat]!) (d)) (oR 3 (B1 c[i0.toNat]!) (oA 5 (.b (A5p c[i0.toNat]! d)) z0)))))))<|sn<|A2d (A5p c[i0.toNat]! d) (by kernel_rfl) (by kernel_rfl) (fun h6=>?_) (fun h6=>?_)
 refine sq<|rG cx [4] [] z0<|sn<|rT<|bR<|nR<|nR<|bR<|nR<|qR (.i .i64 (i0)) (.eq ?g1);rotate_left
 refine sK<|bN<|sn<|rG cx [0,1,7,8] [] (tW 0 (i0+1) z0)<|sn<|nX (i0+1) (show((↑c.length:Int)-(i0+1)).toNat <((↑c.length:Int)-i0).toNat from(by omega)) (show invI c d (i0+1)from ?g2);rotate_left
 refine eX 0<|nE<|nE<|bH<|sn<|sq<|rG cx [4] [] z0<|sn<|rT<|qR (.i .i64 ((-1:Int))) (.eq (by exact(by rw[idx_no fun j hj=>hh4 j (by omega)])))
 case g1=>revert i0 hh2 hh3 hh4 h5 h6;exact(fun i h0 h1 h2 h3 h4=>by rw[idx_at (i:=i.toNat) (by omega) h4 (fun j hj=>h2 j (by omega)),show((i.toNat:Nat):Int)=i by omega])
 case g2=>revert i0 hh2 hh3 hh4 h5 h6;exact(fun i h0 h1 h2 h3 h4=>⟨by omega,by omega,fun j hj=>by
   by_cases e:j=i.toNat
   ·rw[e];exact h4
   ·exact h2 j (by omega)⟩)
theorem con173(c:List Span)(d:Dot):Con Tryz.prog 173 [.sl (c.map B1),.fn (.func 174) [] [.eptr (c44 d)]] (.b (decide (0≤Ac7 c d))) :=
 by
 refine lN 0 B1 (c) Tryz.func173 fun hl_0=>sC B3 [.tmp 4] 9 Tryz.func173 ?_
 intro e0 cx
 refine sq<|rG cx [0,1] [] z0<|sn<|sq<|rG cx [4] [] (fT (con216 (c) (d)) (tB 3 (0≤Ac7 c d) (oA 2 (.i .i64 (Ac7 c d)) z0)))<|sn<|rT ?_
 exact Y2 (r:=.b (decide (0≤Ac7 c d))) (obl:=[]) (by kernel_rfl) trivial (A7.refl _)
theorem con105(p:Past)(d:Dot):Con Tryz.prog 105 [.agg (c26 p),.agg (c44 d)] (.b (G7 p d)) :=
 by
 refine sC B3 [.tmp 4] 29 Tryz.func105 ?_
 intro e0 cx
 refine sq<|rG cx [2,3] [2,3] z0<|sn<|sq<|sq<|rG cx [2,3,7] [2,3] (fT (B32 (d)) (tT 2 (E8:(AV.b !J4 d)=AV.b (decide ¬J4 d=true)) (oA 1 (.b (J4 d)) z0)))<|sn<|dC (¬J4 d=true) (fun h0=>?_) fun h0=>?_
 refine sq<|rG cx [4] [] z0<|sn<|rT<|nR<|qR (.b (false)) (.eq (by unfold G7;rw[Bool.eq_false_iff.2 h0];rfl))
 refine sK<|sn<|sq<|sq<|A9 (σ':=⟨[(2,.ptr (2) (0) (0) (0)),(3,.ptr (3) (0) (0) (0)),(24,.b (decide (d.rep <(↑p.vec.length:Int)∧d.num≤p.vec[d.rep.toNat]!)))],[(2,⟨0,26,.var [.sl (List.map c3 p.vec),.sl (List.map B1 p.cloud)]⟩),(3,⟨0,44,.var [.i .i64 (d.rep),.i .i64 (d.num)]⟩)]⟩) ?_ ?_
 refine A6 (d.rep <(↑p.vec.length:Int)) (fun h2=>?_) (fun h2=>?_)
 refine rA cx [2,3,24] [2,3] (tL 4 c3 p.vec (tT 5 (A4 h2) (fP (0≤d.rep) (by exact(G3 (Classical.not_not.1 h0)).1) (fP ((List.map c3 p.vec)[d.rep.toNat]?=some (c3 p.vec[d.rep.toNat]!)) (by have:=(G3 (Classical.not_not.1 h0)).1;exact G6 (by omega)) (fR 1 (tB 15 (d.num≤p.vec[d.rep.toNat]!) (tD 16 (decide (d.num≤p.vec[d.rep.toNat]!)) (d.rep <(↑p.vec.length:Int)∧d.num≤p.vec[d.rep.toNat]!) (by simp only [eq_true h2,tsl]) (oR 13 (c3 p.vec[d.rep.toNat]!) z0)))))))) ?_
 exact⟨rfl,by kernel_rfl⟩
 refine rA cx [2,3,24] [2,3] (tL 4 c3 p.vec (tT 5 (A0 h2) (tD 16 false (d.rep <(↑p.vec.length:Int)∧d.num≤p.vec[d.rep.toNat]!) (by simp only [eq_false h2,tsl]) z0))) ?_
 exact⟨rfl,by kernel_rfl⟩
 refine sn<|dC (d.rep <(↑p.vec.length:Int)∧d.num≤p.vec[d.rep.toNat]!) (fun h3=>?_) fun h3=>?_
 refine sq<|rG cx [4] [] z0<|sn<|rT<|nR<|qR (.b (true)) (.eq (by unfold G7;rw[Classical.not_not.1 h0,decide_eq_true h3];rfl))
 refine sK<|sn<|sq<|rG cx [4] [] (fP (Flat (AV.b (decide (0≤Ac7 p.cloud d)))) (by exact Flat.b _) (fT (con173 (p.cloud) (d)) (oV 3 { val:=some (.b (decide (0≤Ac7 p.cloud d))),flat:=true } z0)))<|sn<|rT<|qR (.b (decide (0≤Ac7 p.cloud d))) (.eq (by unfold G7;rw[Classical.not_not.1 h0,decide_eq_false h3,B51];simp))
end Go.Proofs.YtphcaholhacnpaaGreat
namespace Go.Proofs.YtphcaholhacnpaaGreat
open Go.E
set_option maxRecDepth 100000
set_option maxHeartbeats 4000000
def B52(a b:Past)(i:Int)(v:List Int)(c:List Span)(w:List Int)(e:List Span):Prop:=v=a.vec∧c=a.cloud∧w=b.vec∧e=b.cloud∧0≤i∧i≤a.vec.length∧∀ j:Nat,(j:Int) < i→a.vec[j]! = b.vec[j]!
def decSV(a:Past)(i:Int)(v:List Int)(c:List Span)(w:List Int)(e:List Span):Nat:=(a.vec.length-i).toNat
def B53(a b:Past)(i:Int)(v:List Int)(c:List Span)(w:List Int)(e:List Span):Prop:=v=a.vec∧c=a.cloud∧w=b.vec∧e=b.cloud∧0≤i∧i≤a.cloud.length∧∀ j:Nat,(j:Int) < i→a.cloud[j]! = b.cloud[j]!
def decSC(a:Past)(i:Int)(v:List Int)(c:List Span)(w:List Int)(e:List Span):Nat:=(a.cloud.length-i).toNat
theorem B13(d:Dot):Con Tryz.prog 89 [.agg (c44 d)] (.b (J4 d)) :=
 by
 refine sC B3 [.tmp 2] 21 Tryz.func89 ?_
 intro e0 cx
 refine sq<|rG cx [1] [1] z0<|sn<|sq<|A9 (σ':=⟨[(2,.b (decide (0≤d.rep∧d.rep <(16:Int)∧1≤d.num∧d.num≤1000000000)))],[]⟩) ?_ ?_
 refine A6 (0≤d.rep) (fun h_1=>?_) (fun h_1=>?_)
 refine A6 (d.rep <(16:Int)) (fun h_2=>?_) (fun h_2=>?_)
 refine A6 (1≤d.num) (fun h_3=>?_) (fun h_3=>?_)
 refine rG cx [2] [] (tT 2 (A4 h_1) (tT 6 (A4 h_2) (tT 11 (A4 h_3) (tB 16 (d.num≤1000000000) (tD 18 (decide (d.num≤1000000000)) (0≤d.rep∧d.rep <(16:Int)∧1≤d.num∧d.num≤1000000000) (by simp only [eq_true h_1,eq_true h_2,eq_true h_3,tsl]) z0))))) ?_
 exact⟨rfl,by kernel_rfl⟩
 refine rG cx [2] [] (tT 2 (A4 h_1) (tT 6 (A4 h_2) (tT 11 (A0 h_3) (tD 18 false (0≤d.rep∧d.rep <(16:Int)∧1≤d.num∧d.num≤1000000000) (by simp only [eq_true h_1,eq_true h_2,eq_false h_3,tsl]) z0)))) ?_
 exact⟨rfl,by kernel_rfl⟩
 refine rG cx [2] [] (tT 2 (A4 h_1) (tT 6 (A0 h_2) (tD 18 false (0≤d.rep∧d.rep <(16:Int)∧1≤d.num∧d.num≤1000000000) (by simp only [eq_true h_1,eq_false h_2,tsl]) z0))) ?_
 exact⟨rfl,by kernel_rfl⟩
 refine rG cx [2] [] (tT 2 (A0 h_1) (tD 18 false (0≤d.rep∧d.rep <(16:Int)∧1≤d.num∧d.num≤1000000000) (by simp only [eq_false h_1,tsl]) z0)) ?_
 exact⟨rfl,by kernel_rfl⟩
 refine sn<|rT<|qR (.b (decide (0≤d.rep∧d.rep <(16:Int)∧1≤d.num∧d.num≤1000000000))) (.eq ?g0);rotate_left
 case g0=>exact rfl
theorem B14(a b:Past)(h1:a.vec.length≤9223372036854775807)(h2:a.cloud.length≤9223372036854775807):Con Tryz.prog 86 [.agg (c26 a),.agg (c26 b)] (.b (decide (a=b))) :=
 by
 refine sC B3 [.tmp 4] 59 Tryz.func86 ?_
 intro e0 cx
 refine sq<|rG cx [2,3] [2,3] z0<|sn<|sq<|sq<|A9 (σ':=⟨[(2,.ptr (2) (0) (0) (0)),(3,.ptr (3) (0) (0) (0)),(22,.b (decide (¬(↑a.vec.length:Int)=(↑b.vec.length:Int)∨¬(↑a.cloud.length:Int)=(↑b.cloud.length:Int))))],[(2,⟨0,26,.var [.sl (List.map c3 a.vec),.sl (List.map B1 a.cloud)]⟩),(3,⟨0,26,.var [.sl (List.map c3 b.vec),.sl (List.map B1 b.cloud)]⟩)]⟩) ?_ ?_
 refine A6 (¬(↑a.vec.length:Int)=(↑b.vec.length:Int)) (fun h_1=>?_) (fun h_1=>?_)
 refine rG cx [2,3,22] [2,3] (tL 2 c3 a.vec (tL 5 c3 b.vec (tT 6 (G2 h_1:AV.b ((↑a.vec.length:Int) !=(↑b.vec.length:Int))=AV.b true) (tD 15 true (¬(↑a.vec.length:Int)=(↑b.vec.length:Int)∨¬(↑a.cloud.length:Int)=(↑b.cloud.length:Int)) (by simp only [eq_false h_1,tsl]) z0)))) ?_
 exact⟨rfl,by kernel_rfl⟩
 refine rG cx [2,3,22] [2,3] (tL 2 c3 a.vec (tL 5 c3 b.vec (tN 6 (↑a.vec.length:Int) (↑b.vec.length:Int) (tT 7 (A0 h_1) (tL 10 B1 a.cloud (tL 13 B1 b.cloud (tN 14 (↑a.cloud.length:Int) (↑b.cloud.length:Int) (tT 15 (by first | (simp only [eq_false h_1,tsl];done) | simp_all:AV.b (decide ¬(↑a.cloud.length:Int)=(↑b.cloud.length:Int))=AV.b (decide (¬(↑a.vec.length:Int)=(↑b.vec.length:Int)∨¬(↑a.cloud.length:Int)=(↑b.cloud.length:Int)))) z0)))))))) ?_
 exact⟨rfl,by kernel_rfl⟩
 refine sn<|dC (¬(↑a.vec.length:Int)=(↑b.vec.length:Int)∨¬(↑a.cloud.length:Int)=(↑b.cloud.length:Int)) (fun hh2=>?_) fun hh2=>?_
 refine sq<|rG cx [4] [] z0<|sn<|rT<|nR<|qR (.b (false)) (.eq (by rw[decide_eq_false];rintro rfl;exact hh2.elim (fun k=>k rfl) (fun k=>k rfl)))
 refine sK<|sn<|sq<|sq<|rG cx [2,3,5] [2,3] z0<|sn<|bL 0<|sL (X:=Int×List Int×List Span×List Int×List Span) (fun x=>⟨[(2,.ptr (2) (0) (0) (0)),(3,.ptr (3) (0) (0) (0)),(5,.i .i64 (x.1))],[(2,⟨0,26,.var [.sl (List.map c3 x.2.1),.sl (List.map B1 x.2.2.1)]⟩),(3,⟨0,26,.var [.sl (List.map c3 x.2.2.2.1),.sl (List.map B1 x.2.2.2.2)]⟩)]⟩) (fun x ↦ decSV a x.1 x.2.1 x.2.2.1 x.2.2.2.1 x.2.2.2.2) (fun x ↦ B52 a b x.1 x.2.1 x.2.2.1 x.2.2.2.1 x.2.2.2.2) [2,3,5] [2,3] (((0:Int),a.vec,a.cloud,b.vec,b.cloud)) (show B52 a b (0:Int) a.vec a.cloud b.vec b.cloud from(by exact⟨rfl,rfl,rfl,rfl,by omega,by omega,fun j hj=>by omega⟩)) ?_
 rintro⟨i3,v4,c5,w6,e7⟩ h_8
 obtain⟨h9,h10,h11,h12,h13,h14,h15⟩:v4=a.vec∧c5=a.cloud∧w6=b.vec∧e7=b.cloud∧0≤i3∧i3≤(↑a.vec.length:Int)∧∀(j:Nat),(↑j:Int) < i3→a.vec[j]! = b.vec[j]!:=h_8
 refine sq<|rD cx [2,3,5,27] [2,3] (tL 3 c3 v4 (zB 4 (i3 <(↑v4.length:Int)))) (fun h16=>?_) fun h16=>?_
 refine sK<|sn<|sq<|bL 1<|sq<|rA cx [2,3,5,40] [2,3] (fA (0≤i3) (fG c3 v4 i3.toNat (fR 1 (fA (0≤i3) (fP ((List.map c3 w6)[i3.toNat]?=some (c3 w6[i3.toNat]!)) (by subst h9 h10 h11 h12;exact G6 (by omega)) (fR 1 (tN 10 v4[i3.toNat]! w6[i3.toNat]! (oR 3 (c3 v4[i3.toNat]!) (oR 8 (c3 w6[i3.toNat]!) z0))))))))) ?_
 refine sn<|dC (¬v4[i3.toNat]! = w6[i3.toNat]!) (fun h17=>?_) fun h17=>?_
 refine sq<|rG cx [4] [] z0<|sn<|rT<|bR<|nR<|nR<|bR<|nR<|qR (.b (false)) (.eq (by subst h9 h10 h11 h12;rw[decide_eq_false];rintro rfl;exact h17 rfl))
 refine sK<|bN<|sn<|rG cx [2,3,5] [2,3] (tT 1 (B4 (by omega) (by subst h9 h10 h11 h12;omega):AV.i .i64 (IntKind.i64.wrap (i3+1))=AV.i .i64 (i3+1)) z0) ?_
 refine sn<|nX ((i3+1,v4,c5,w6,e7)) (show((↑a.vec.length:Int)-(i3+1)).toNat <((↑a.vec.length:Int)-i3).toNat from(by subst h9 h10 h11 h12;omega)) (show B52 a b (i3+1) v4 c5 w6 e7 from ?g6);rotate_left
 refine eX 0<|nE<|nE<|bH<|sn<|sq<|sq<|rG cx [2,3,6] [2,3] z0<|sn<|bL 2<|sL (X:=Int×List Int×List Span×List Int×List Span) (fun x=>⟨[(2,.ptr (2) (0) (0) (0)),(3,.ptr (3) (0) (0) (0)),(6,.i .i64 (x.1))],[(2,⟨0,26,.var [.sl (List.map c3 x.2.1),.sl (List.map B1 x.2.2.1)]⟩),(3,⟨0,26,.var [.sl (List.map c3 x.2.2.2.1),.sl (List.map B1 x.2.2.2.2)]⟩)]⟩) (fun x ↦ decSC a x.1 x.2.1 x.2.2.1 x.2.2.2.1 x.2.2.2.2) (fun x ↦ B53 a b x.1 x.2.1 x.2.2.1 x.2.2.2.1 x.2.2.2.2) [2,3,6] [2,3] (((0:Int),v4,c5,w6,e7)) (show B53 a b (0:Int) v4 c5 w6 e7 from(by exact⟨h9,h10,h11,h12,by omega,by omega,fun j hj=>by omega⟩)) ?_
 rintro⟨i18,v19,c20,w21,e22⟩ h_23
 obtain⟨h24,h25,h26,h27,h28,h29,h30⟩:v19=a.vec∧c20=a.cloud∧w21=b.vec∧e22=b.cloud∧0≤i18∧i18≤(↑a.cloud.length:Int)∧∀(j:Nat),(↑j:Int) < i18→a.cloud[j]! = b.cloud[j]!:=h_23
 refine sq<|rD cx [2,3,6,45] [2,3] (tL 3 B1 c20 (zB 4 (i18 <(↑c20.length:Int)))) (fun h31=>?_) fun h31=>?_
 refine sK<|sn<|sq<|bL 3<|sq<|rA cx [2,3,6,58] [2,3] (fA (0≤i18) (fG B1 c20 i18.toNat (fR 3 (fN 3 3 (fA (0≤i18) (fP ((List.map B1 e22)[i18.toNat]?=some (B1 e22[i18.toNat]!)) (by subst h24 h25 h26 h27;exact G6 (by omega)) (fR 3 (fN 3 3 (fT (A2k (eq141 c20[i18.toNat]! e22[i18.toNat]!)) (oR 3 (B1 c20[i18.toNat]!) (oR 8 (B1 e22[i18.toNat]!) (oA 10 (.b (decide ¬c20[i18.toNat]! = e22[i18.toNat]!)) z0)))))))))))) ?_
 refine sn<|dC (¬c20[i18.toNat]! = e22[i18.toNat]!) (fun h32=>?_) fun h32=>?_
 refine sq<|rG cx [4] [] z0<|sn<|rT<|bR<|nR<|nR<|bR<|nR<|qR (.b (false)) (.eq (by subst h24 h25 h26 h27;rw[decide_eq_false];rintro rfl;exact h32 rfl))
 refine sK<|bN<|sn<|rG cx [2,3,6] [2,3] (tT 1 (B4 (by omega) (by subst h24 h25 h26 h27;omega):AV.i .i64 (IntKind.i64.wrap (i18+1))=AV.i .i64 (i18+1)) z0) ?_
 refine sn<|nX ((i18+1,v19,c20,w21,e22)) (show((↑a.cloud.length:Int)-(i18+1)).toNat <((↑a.cloud.length:Int)-i18).toNat from(by subst h24 h25 h26 h27;omega)) (show B53 a b (i18+1) v19 c20 w21 e22 from ?g12);rotate_left
 refine eX 2<|nE<|nE<|bH<|sn<|sq<|rG cx [4] [] z0<|sn<|rT<|qR (.b (true)) (.eq ?g13);rotate_left
 case g6 =>
  subst h9 h10 h11 h12
  refine⟨rfl,rfl,rfl,rfl,by omega,by omega,fun j hj=>?_⟩
  by_cases e7:j=i3.toNat
  ·rw[e7];exact Classical.not_not.1 h17
  ·exact h15 j (by omega)
 case g12 =>
  subst h24 h25 h26 h27
  refine⟨rfl,rfl,rfl,rfl,by omega,by omega,fun l hl=>?_⟩
  by_cases e7:l=i18.toNat
  ·rw[e7];exact Classical.not_not.1 h32
  ·exact h30 l (by omega)
 case g13 =>
  subst h9 h25
  have e1:a.vec=b.vec:=U7 (by omega) fun i18 hj=>h15 i18 (by omega)
  have e2:a.cloud=b.cloud:=U7 (by omega) fun i18 hj=>h30 i18 (by omega)
  rw[decide_eq_true]
  cases a;cases b
  simp only at e1 e2
  rw[e1,e2]
end Go.Proofs.YtphcaholhacnpaaGreat
namespace Go.Proofs.YtphcaholhacnpaaGreat
open Go.E
set_option maxRecDepth 100000
set_option maxHeartbeats 4000000
def leI(a b:Int):Bool:=decide (a≤b)
def A3u(A B:List Int)(i j:Int)(s:List Int):Prop:=s++List.merge (A.drop i.toNat) (B.drop j.toNat) leI=List.merge A B leI
def B15(A B:List Int)(i j:Int)(s:List Int):Prop:=0≤i∧i≤A.length∧0≤j∧j≤B.length∧(s.length:Int)=i+j∧A3u A B i j s
def dec37(A B:List Int)(i j:Int)(s:List Int):Nat:=(A.length+B.length-i-j).toNat
def hA(l:List Int):List Int:=(List.take ((l.length:Int).tdiv 2).toNat l).mergeSort leI
def hB(l:List Int):List Int:=(List.drop ((l.length:Int).tdiv 2).toNat l).mergeSort leI
theorem hA_len(l:List Int):(hA l).length=((l.length:Int).tdiv 2).toNat:=by
 unfold hA
 rw[List.length_mergeSort,List.length_take,Int.tdiv_eq_ediv_of_nonneg (by omega)]
 omega
theorem hB_len(l:List Int):(hB l).length=l.length-((l.length:Int).tdiv 2).toNat:=by
 unfold hB
 rw[List.length_mergeSort,List.length_drop]
theorem B54(l:List Int):0≤(l.length:Int).tdiv 2∧2*(l.length:Int).tdiv 2≤l.length∧(l.length:Int)≤2*(l.length:Int).tdiv 2+1:=by
 rw[Int.tdiv_eq_ediv_of_nonneg (by omega)]
 omega
theorem A7r(a b c:Int)(h1:leI a b=true)(h2:leI b c=true):leI a c=true:=by simp only [leI,decide_eq_true_eq]at *;omega
theorem A7s(a b:Int):(leI a b || leI b a)=true:=by simp only [leI,Bool.or_eq_true,decide_eq_true_eq];omega
theorem B16(l:List Int):List.merge (hA l) (hB l) leI=l.mergeSort leI:=by
 refine List.Perm.eq_of_pairwise (le:=fun x y=>leI x y=true) (fun a b _ _ h1 h2=>by simp only [leI,decide_eq_true_eq]at *;omega) ?_ (List.pairwise_mergeSort A7r A7s l) ?_
 ·exact List.pairwise_merge A7r A7s _ _ (List.pairwise_mergeSort A7r A7s _) (List.pairwise_mergeSort A7r A7s _)
 ·refine(List.merge_perm_append leI).trans (((List.mergeSort_perm _ _).append (List.mergeSort_perm _ _)).trans ?_)
  rw[List.take_append_drop]
  exact(List.mergeSort_perm _ _).symm
theorem L1{α:Type}[Inhabited α]{l:List α}{i:Int}(h0:0≤i)(h:i < l.length):l.drop i.toNat=l[i.toNat]! :: l.drop (i+1).toNat:=by
 rw[show(i+1).toNat=i.toNat+1 by omega,getElem!_pos l i.toNat (by omega),← List.drop_eq_getElem_cons]
theorem mrgL{A B:List Int}{i j:Int}{s:List Int}(h0:0≤i)(hi:i < A.length)(j0:0≤j)(hj:j=B.length∨(j < B.length∧A[i.toNat]!≤B[j.toNat]!))(h:A3u A B i j s):A3u A B (i+1) j (s++[A[i.toNat]!]):=by
 unfold A3u at *
 rw[← h,List.append_assoc]
 congr 1
 rw[L1 h0 hi]
 rcases hj with hj | ⟨hj,hle⟩
 ·rw[List.drop_of_length_le (l:=B) (by omega)];simp
 ·rw[L1 j0 hj,List.cons_merge_cons,if_pos (by simpa [leI]using hle)];simp
theorem mrgR{A B:List Int}{i j:Int}{s:List Int}(h0:0≤i)(j0:0≤j)(hj:j < B.length)(hi:¬ i < A.length∨(i < A.length∧¬ A[i.toNat]!≤B[j.toNat]!))(h:A3u A B i j s):A3u A B i (j+1) (s++[B[j.toNat]!]):=by
 unfold A3u at *
 rw[← h,List.append_assoc]
 congr 1
 rw[L1 j0 hj]
 rcases hi with hi | ⟨hi,hle⟩
 ·rw[List.drop_of_length_le (l:=A) (by omega)];simp
 ·rw[L1 h0 hi,List.cons_merge_cons,if_neg (by simpa [leI]using hle)];simp
theorem mrgE{l:List Int}{i j:Int}{s:List Int}(hi:¬ i <(hA l).length)(hj:¬ j <(hB l).length)(h:A3u (hA l) (hB l) i j s):s=l.mergeSort leI:=by
 unfold A3u at h
 rw[List.drop_of_length_le (by omega),List.drop_of_length_le (by omega)]at h
 rw[← B16,← h]
 simp
theorem Aq8{l:List Int}(h:(l.length:Int) < 2):l.mergeSort leI=l:=by
 match l with
 | []=>simp
 | [a]=>simp
 | a :: b :: l=>simp only [List.length_cons]at h;omega
theorem Ac8(l:List Int)(n:Nat)(hn:l.length≤n)(ih:∀ m:List Int,m.length < n→m.length*8≤140737488351232→Con Tryz.prog 238 [.sl (m.map c3)] (.sl ((m.mergeSort leI).map c3)))(hb:l.length*8≤140737488351232):Con Tryz.prog 238 [.sl (l.map c3)] (.sl ((l.mergeSort leI).map c3)) :=
 by
 have b1:=B54 l
 have b2:=hA_len l
 have b3:=hB_len l
 refine lN 0 c3 (l) Tryz.func238 fun hl_0=>sC B3 [.tmp 2] 79 Tryz.func238 ?_
 intro e0 cx
 refine sq<|rG cx [0] [] z0<|sn<|sq<|rD cx [0,10] [] (tL 1 c3 l (zB 2 ((↑l.length:Int) <(2:Int)))) (fun h0=>?_) fun h0=>?_
 refine sq<|rG cx [2] [11] (fR 3 (fR 1 (fR 1 (fX c3 l 1 (fS c3 [] c3 l (fP (((List.map c3 []).length+(List.map c3 l).length)*(8:Nat)≤(140737488355328:Nat)) (by(simp only [Go.maxLen,List.length_map,List.length_append,List.length_cons,List.length_nil];omega)) (fM c3 [] l (oV 2 { rows:=some (List.map c3 ([]++l)) } z0))))))))<|sn<|rT<|nR<|qR (.sl (List.map c3 ([]++l))) (.eq (by rw[Aq8 h0];rfl))
 refine sK<|sn<|sq<|rG cx [0,3] [] (tL 2 c3 l (tT 3 (B4 (by omega) (by omega):AV.i .i64 (IntKind.i64.wrap ((↑l.length:Int).tdiv (2:Int)))=AV.i .i64 ((↑l.length:Int).tdiv (2:Int))) (tT 4 (B0o c3 l ((↑l.length:Int).tdiv (2:Int)).toNat:AV.sl (List.drop (Int.toNat (0:Int)) (List.take ((↑l.length:Int).tdiv (2:Int)).toNat (List.map c3 l)))=AV.sl (List.map c3 (List.take ((↑l.length:Int).tdiv (2:Int)).toNat l))) (fO ((0:Int)≤(0:Int)) (fP (0≤(↑l.length:Int).tdiv (2:Int)) (by omega) (fP ((↑l.length:Int).tdiv 2≤(↑(List.map c3 l).length:Int)) (by rw[List.length_map];omega) (fX c3 l 1 (fP (Con Tryz.prog (238:FuncId) [AV.sl (List.map c3 (List.take ((↑l.length:Int).tdiv (2:Int)).toNat l))] (AV.sl (List.map c3 ((List.take ((↑l.length:Int).tdiv (2:Int)).toNat l).mergeSort leI)))) (ih (List.take ((↑l.length:Int).tdiv (2:Int)).toNat l) (by show(List.take ((l.length:Int).tdiv 2).toNat l).length < n;rw[List.length_take];omega) (by show(List.take ((l.length:Int).tdiv 2).toNat l).length*8≤140737488351232;rw[List.length_take];omega)) (oA 5 (.sl (List.map c3 ((List.take ((↑l.length:Int).tdiv (2:Int)).toNat l).mergeSort leI))) z0))))))))) ?_
 refine sn<|sq<|rG cx [0,3,4] [] (tL 2 c3 l (tT 3 (B4 (by omega) (by omega):AV.i .i64 (IntKind.i64.wrap ((↑l.length:Int).tdiv (2:Int)))=AV.i .i64 ((↑l.length:Int).tdiv (2:Int))) (tT 4 (Ab5 c3 l ((↑l.length:Int).tdiv (2:Int)).toNat:AV.sl (List.drop ((↑l.length:Int).tdiv (2:Int)).toNat (List.take (none.getD (↑(List.map c3 l).length:Int)).toNat (List.map c3 l)))=AV.sl (List.map c3 (List.drop ((↑l.length:Int).tdiv (2:Int)).toNat l))) (fP (0≤(↑l.length:Int).tdiv (2:Int)) (by omega) (fP ((↑l.length:Int).tdiv 2≤none.getD (↑(List.map c3 l).length:Int)) (by show _≤((List.map c3 l).length:Int);rw[List.length_map];omega) (fP (none.getD (↑(List.map c3 l).length:Int)≤(↑(List.map c3 l).length:Int)) (by exact Int.le_refl _) (fX c3 l 1 (fP (Con Tryz.prog (238:FuncId) [AV.sl (List.map c3 (List.drop ((↑l.length:Int).tdiv (2:Int)).toNat l))] (AV.sl (List.map c3 ((List.drop ((↑l.length:Int).tdiv (2:Int)).toNat l).mergeSort leI)))) (ih (List.drop ((↑l.length:Int).tdiv (2:Int)).toNat l) (by rw[List.length_drop];omega) (by rw[List.length_drop];omega)) (oA 5 (.sl (List.map c3 ((List.drop ((↑l.length:Int).tdiv (2:Int)).toNat l).mergeSort leI))) z0))))))))) ?_
 refine sn<|sq<|rG cx [3,4,5] [28] (tL 1 c3 l (fR (0:Int) (fR (↑l.length:Int) (fO ((8:Nat)*l.length≤(281474976710656:Nat)) (fP (l.length≤maxLen) (by(simp only [Go.maxLen];omega)) (oV 2 { n:=l.length,flat:=true } z0))))))<|sn<|sq<|rG cx [3,4,5,6,7] [28] z0<|sn<|sq<|bL 0<|sL (X:=Int×Int×List Int) (fun x=>⟨[(3,.sl (List.map c3 ((List.take ((↑l.length:Int).tdiv (2:Int)).toNat l).mergeSort leI))),(4,.sl (List.map c3 ((List.drop ((↑l.length:Int).tdiv (2:Int)).toNat l).mergeSort leI))),(5,.own 28 0),(6,.i .i64 (x.1)),(7,.i .i64 (x.2.1))],[(28,⟨0,3,.row 1 (List.map c3 x.2.2)⟩)]⟩) (fun x ↦ dec37 (hA l) (hB l) x.1 x.2.1 x.2.2) (fun x ↦ B15 (hA l) (hB l) x.1 x.2.1 x.2.2) [3,4,5,6,7] [28] (((0:Int),(0:Int),[])) (show B15 (hA l) (hB l) (0:Int) (0:Int) []from(by exact⟨by omega,by omega,by omega,by omega,rfl,rfl⟩)) ?_
 rintro⟨i1,j2,s3⟩ h_4
 obtain⟨h5,h6,h7,h8,h9,h10⟩:0≤i1∧i1≤(↑(hA l).length:Int)∧0≤j2∧j2≤(↑(hB l).length:Int)∧(↑s3.length:Int)=i1+j2∧A3u (hA l) (hB l) i1 j2 s3:=h_4
 refine sq<|sq<|A9 (σ':=⟨[(3,.sl (List.map c3 ((List.take ((↑l.length:Int).tdiv (2:Int)).toNat l).mergeSort leI))),(4,.sl (List.map c3 ((List.drop ((↑l.length:Int).tdiv (2:Int)).toNat l).mergeSort leI))),(5,.own 28 0),(6,.i .i64 (i1)),(7,.i .i64 (j2)),(38,.b (decide (i1 <(↑((List.take ((↑l.length:Int).tdiv (2:Int)).toNat l).mergeSort leI).length:Int)∨j2 <(↑((List.drop ((↑l.length:Int).tdiv (2:Int)).toNat l).mergeSort leI).length:Int))))],[(28,⟨0,3,.row 1 (List.map c3 s3)⟩)]⟩) ?_ ?_
 refine A6 (i1 <(↑((List.take ((↑l.length:Int).tdiv (2:Int)).toNat l).mergeSort leI).length:Int)) (fun h_12=>?_) (fun h_12=>?_)
 refine rG cx [3,4,5,6,7,38] [28] (tL 2 c3 ((List.take ((↑l.length:Int).tdiv (2:Int)).toNat l).mergeSort leI) (tT 3 (A4 h_12) (tD 9 true (i1 <(↑((List.take ((↑l.length:Int).tdiv (2:Int)).toNat l).mergeSort leI).length:Int)∨j2 <(↑((List.drop ((↑l.length:Int).tdiv (2:Int)).toNat l).mergeSort leI).length:Int)) (by simp only [eq_true h_12,tsl]) z0))) ?_
 exact⟨rfl,by kernel_rfl⟩
 refine rG cx [3,4,5,6,7,38] [28] (tL 2 c3 ((List.take ((↑l.length:Int).tdiv (2:Int)).toNat l).mergeSort leI) (tT 3 (A0 h_12) (tL 7 c3 ((List.drop ((↑l.length:Int).tdiv (2:Int)).toNat l).mergeSort leI) (tB 8 (j2 <(↑((List.drop ((↑l.length:Int).tdiv (2:Int)).toNat l).mergeSort leI).length:Int)) (tD 9 (decide (j2 <(↑((List.drop ((↑l.length:Int).tdiv (2:Int)).toNat l).mergeSort leI).length:Int))) (i1 <(↑((List.take ((↑l.length:Int).tdiv (2:Int)).toNat l).mergeSort leI).length:Int)∨j2 <(↑((List.drop ((↑l.length:Int).tdiv (2:Int)).toNat l).mergeSort leI).length:Int)) (by simp only [eq_false h_12,tsl]) z0))))) ?_
 exact⟨rfl,by kernel_rfl⟩
 refine sn<|dC (i1 <(↑((List.take ((↑l.length:Int).tdiv (2:Int)).toNat l).mergeSort leI).length:Int)∨j2 <(↑((List.drop ((↑l.length:Int).tdiv (2:Int)).toNat l).mergeSort leI).length:Int)) (fun h13=>?_) fun h13=>?_
 refine sK<|sn<|bL 1<|sq<|A9 (σ':=⟨[(3,.sl (List.map c3 ((List.take ((↑l.length:Int).tdiv (2:Int)).toNat l).mergeSort leI))),(4,.sl (List.map c3 ((List.drop ((↑l.length:Int).tdiv (2:Int)).toNat l).mergeSort leI))),(5,.own 28 0),(6,.i .i64 (i1)),(7,.i .i64 (j2)),(59,.b (decide (j2=(↑((List.drop ((↑l.length:Int).tdiv (2:Int)).toNat l).mergeSort leI).length:Int)∨i1 <(↑((List.take ((↑l.length:Int).tdiv (2:Int)).toNat l).mergeSort leI).length:Int)∧((List.take ((↑l.length:Int).tdiv (2:Int)).toNat l).mergeSort leI)[i1.toNat]!≤((List.drop ((↑l.length:Int).tdiv (2:Int)).toNat l).mergeSort leI)[j2.toNat]!)))],[(28,⟨0,3,.row 1 (List.map c3 s3)⟩)]⟩) ?_ ?_
 refine A6 (j2=(↑((List.drop ((↑l.length:Int).tdiv (2:Int)).toNat l).mergeSort leI).length:Int)) (fun h15=>?_) (fun h15=>?_)
 refine rA cx [3,4,5,6,7,59] [28] (tL 2 c3 ((List.drop ((↑l.length:Int).tdiv (2:Int)).toNat l).mergeSort leI) (tT 3 (A4 h15) (tD 20 true (j2=(↑((List.drop ((↑l.length:Int).tdiv (2:Int)).toNat l).mergeSort leI).length:Int)∨i1 <(↑((List.take ((↑l.length:Int).tdiv (2:Int)).toNat l).mergeSort leI).length:Int)∧((List.take ((↑l.length:Int).tdiv (2:Int)).toNat l).mergeSort leI)[i1.toNat]!≤((List.drop ((↑l.length:Int).tdiv (2:Int)).toNat l).mergeSort leI)[j2.toNat]!) (by simp only [eq_true h15,tsl]) z0))) ?_
 exact⟨rfl,by kernel_rfl⟩
 refine A6 (i1 <(↑((List.take ((↑l.length:Int).tdiv (2:Int)).toNat l).mergeSort leI).length:Int)) (fun h16=>?_) (fun h16=>?_)
 refine rA cx [3,4,5,6,7,59] [28] (tL 2 c3 ((List.drop ((↑l.length:Int).tdiv (2:Int)).toNat l).mergeSort leI) (tT 3 (A0 h15) (tL 7 c3 ((List.take ((↑l.length:Int).tdiv (2:Int)).toNat l).mergeSort leI) (tT 8 (A4 h16) (fA (0≤i1) (fG c3 ((List.take ((↑l.length:Int).tdiv (2:Int)).toNat l).mergeSort leI) i1.toNat (fR 1 (fA (0≤j2) (fP ((List.map c3 ((List.drop ((↑l.length:Int).tdiv (2:Int)).toNat l).mergeSort leI))[j2.toNat]?=some (c3 ((List.drop ((↑l.length:Int).tdiv (2:Int)).toNat l).mergeSort leI)[j2.toNat]!)) (by exact G6 (xs:=hB l) (by have:¬ j2=(hB l).length:=h15;omega)) (fR 1 (tB 18 (((List.take ((↑l.length:Int).tdiv (2:Int)).toNat l).mergeSort leI)[i1.toNat]!≤((List.drop ((↑l.length:Int).tdiv (2:Int)).toNat l).mergeSort leI)[j2.toNat]!) (tD 20 (decide (((List.take ((↑l.length:Int).tdiv (2:Int)).toNat l).mergeSort leI)[i1.toNat]!≤((List.drop ((↑l.length:Int).tdiv (2:Int)).toNat l).mergeSort leI)[j2.toNat]!)) (j2=(↑((List.drop ((↑l.length:Int).tdiv (2:Int)).toNat l).mergeSort leI).length:Int)∨i1 <(↑((List.take ((↑l.length:Int).tdiv (2:Int)).toNat l).mergeSort leI).length:Int)∧((List.take ((↑l.length:Int).tdiv (2:Int)).toNat l).mergeSort leI)[i1.toNat]!≤((List.drop ((↑l.length:Int).tdiv (2:Int)).toNat l).mergeSort leI)[j2.toNat]!) (by simp only [eq_false h15,eq_true h16,tsl]) (oR 12 (c3 ((List.take ((↑l.length:Int).tdiv (2:Int)).toNat l).mergeSort leI)[i1.toNat]!) (oR 16 (c3 ((List.drop ((↑l.length:Int).tdiv (2:Int)).toNat l).mergeSort leI)[j2.toNat]!) z0)))))))))))))) ?_
 exact⟨rfl,by kernel_rfl⟩
 refine rA cx [3,4,5,6,7,59] [28] (tL 2 c3 ((List.drop ((↑l.length:Int).tdiv (2:Int)).toNat l).mergeSort leI) (tT 3 (A0 h15) (tL 7 c3 ((List.take ((↑l.length:Int).tdiv (2:Int)).toNat l).mergeSort leI) (tT 8 (A0 h16) (tD 20 false (j2=(↑((List.drop ((↑l.length:Int).tdiv (2:Int)).toNat l).mergeSort leI).length:Int)∨i1 <(↑((List.take ((↑l.length:Int).tdiv (2:Int)).toNat l).mergeSort leI).length:Int)∧((List.take ((↑l.length:Int).tdiv (2:Int)).toNat l).mergeSort leI)[i1.toNat]!≤((List.drop ((↑l.length:Int).tdiv (2:Int)).toNat l).mergeSort leI)[j2.toNat]!) (by simp only [eq_false h15,eq_false h16,tsl]) z0))))) ?_
 exact⟨rfl,by kernel_rfl⟩
 refine sn<|dC (j2=(↑((List.drop ((↑l.length:Int).tdiv (2:Int)).toNat l).mergeSort leI).length:Int)∨i1 <(↑((List.take ((↑l.length:Int).tdiv (2:Int)).toNat l).mergeSort leI).length:Int)∧((List.take ((↑l.length:Int).tdiv (2:Int)).toNat l).mergeSort leI)[i1.toNat]!≤((List.drop ((↑l.length:Int).tdiv (2:Int)).toNat l).mergeSort leI)[j2.toNat]!) (fun h17=>?_) fun h17=>?_
 refine sq<|rG cx [3,4,5,6,7] [28] (fA (0≤i1) (fG c3 ((List.take ((↑l.length:Int).tdiv (2:Int)).toNat l).mergeSort leI) i1.toNat (fR 1 (fR 3 (fR 1 (fR 1 (fX c3 [((List.take ((↑l.length:Int).tdiv (2:Int)).toNat l).mergeSort leI)[i1.toNat]!] 1 (fP ((List.map c3 s3).length+(List.map c3 [((List.take ((↑l.length:Int).tdiv (2:Int)).toNat l).mergeSort leI)[i1.toNat]!]).length≤maxLen) (by simp only [List.length_map,List.length_cons,List.length_nil,Go.maxLen];omega) (fP (((List.map c3 s3).length+(List.map c3 [((List.take ((↑l.length:Int).tdiv (2:Int)).toNat l).mergeSort leI)[i1.toNat]!]).length)*(8:Nat)≤(140737488355328:Nat)) (by simp only [List.length_map,List.length_cons,List.length_nil];omega) (fM c3 s3 [((List.take ((↑l.length:Int).tdiv (2:Int)).toNat l).mergeSort leI)[i1.toNat]!] (oR 3 (c3 ((List.take ((↑l.length:Int).tdiv (2:Int)).toNat l).mergeSort leI)[i1.toNat]!) (oV 6 { rows:=some (List.map c3 (s3++[((List.take ((↑l.length:Int).tdiv (2:Int)).toNat l).mergeSort leI)[i1.toNat]!])) } z0)))))))))))) ?_
 refine sn<|rG cx [3,4,5,6,7] [28] (tT 1 (B4 (by omega) (by omega):AV.i .i64 (IntKind.i64.wrap (i1+1))=AV.i .i64 (i1+1)) z0) ?_
 refine bN<|sn<|nX ((i1+1,j2,s3++[((List.take ((↑l.length:Int).tdiv (2:Int)).toNat l).mergeSort leI)[i1.toNat]!])) (show((↑(hA l).length:Int)+(↑(hB l).length:Int)-(i1+1)-j2).toNat <((↑(hA l).length:Int)+(↑(hB l).length:Int)-i1-j2).toNat from(by have k6':i1 <(hA l).length∨j2 <(hB l).length:=h13;have k7':j2=(hB l).length∨i1 <(hA l).length∧(hA l)[i1.toNat]!≤(hB l)[j2.toNat]!:=h17;omega)) (show B15 (hA l) (hB l) (i1+1) j2 (s3++[((List.take ((↑l.length:Int).tdiv (2:Int)).toNat l).mergeSort leI)[i1.toNat]!])from ?g20);rotate_left
 refine sq<|rG cx [3,4,5,6,7] [28] (fA (0≤j2) (fP ((List.map c3 ((List.drop ((↑l.length:Int).tdiv (2:Int)).toNat l).mergeSort leI))[j2.toNat]?=some (c3 ((List.drop ((↑l.length:Int).tdiv (2:Int)).toNat l).mergeSort leI)[j2.toNat]!)) (by have k6':i1 <(hA l).length∨j2 <(hB l).length:=h13;have k7':¬(j2=(hB l).length∨i1 <(hA l).length∧(hA l)[i1.toNat]!≤(hB l)[j2.toNat]!):=h17;exact G6 (xs:=hB l) (by omega)) (fR 1 (fR 3 (fR 1 (fR 1 (fX c3 [((List.drop ((↑l.length:Int).tdiv (2:Int)).toNat l).mergeSort leI)[j2.toNat]!] 1 (fP ((List.map c3 s3).length+(List.map c3 [((List.drop ((↑l.length:Int).tdiv (2:Int)).toNat l).mergeSort leI)[j2.toNat]!]).length≤maxLen) (by simp only [List.length_map,List.length_cons,List.length_nil,Go.maxLen];omega) (fP (((List.map c3 s3).length+(List.map c3 [((List.drop ((↑l.length:Int).tdiv (2:Int)).toNat l).mergeSort leI)[j2.toNat]!]).length)*(8:Nat)≤(140737488355328:Nat)) (by simp only [List.length_map,List.length_cons,List.length_nil];omega) (fM c3 s3 [((List.drop ((↑l.length:Int).tdiv (2:Int)).toNat l).mergeSort leI)[j2.toNat]!] (oR 3 (c3 ((List.drop ((↑l.length:Int).tdiv (2:Int)).toNat l).mergeSort leI)[j2.toNat]!) (oV 6 { rows:=some (List.map c3 (s3++[((List.drop ((↑l.length:Int).tdiv (2:Int)).toNat l).mergeSort leI)[j2.toNat]!])) } z0)))))))))))) ?_
 refine sn<|rG cx [3,4,5,6,7] [28] (tT 1 (B4 (by omega) (by omega):AV.i .i64 (IntKind.i64.wrap (j2+1))=AV.i .i64 (j2+1)) z0) ?_
 refine bN<|sn<|nX ((i1,j2+1,s3++[((List.drop ((↑l.length:Int).tdiv (2:Int)).toNat l).mergeSort leI)[j2.toNat]!])) (show((↑(hA l).length:Int)+(↑(hB l).length:Int)-i1-(j2+1)).toNat <((↑(hA l).length:Int)+(↑(hB l).length:Int)-i1-j2).toNat from(by have k6':i1 <(hA l).length∨j2 <(hB l).length:=h13;have k7':¬(j2=(hB l).length∨i1 <(hA l).length∧(hA l)[i1.toNat]!≤(hB l)[j2.toNat]!):=h17;omega)) (show B15 (hA l) (hB l) i1 (j2+1) (s3++[((List.drop ((↑l.length:Int).tdiv (2:Int)).toNat l).mergeSort leI)[j2.toNat]!])from ?g26);rotate_left
 refine eX 0<|nE<|nE<|bH<|sn<|sq<|rG cx [2] [28] z0<|sn<|rT<|qR (.sl (List.map c3 s3)) (.eq ?g27);rotate_left
 case g20 =>
  have k6':i1 <(hA l).length∨j2 <(hB l).length:=h13
  have k7':j2=(hB l).length∨i1 <(hA l).length∧(hA l)[i1.toNat]!≤(hB l)[j2.toNat]!:=h17
  have hi:i1 <(hA l).length:=by omega
  refine⟨by omega,by omega,by omega,by omega,by rw[List.length_append];simp only [List.length_cons,List.length_nil];omega,mrgL h5 hi h7 ?_ h10⟩
  by_cases e:j2=(hB l).length
  ·exact .inl e
  ·exact .inr ⟨by omega,(k7'.resolve_left e).2⟩
 case g26 =>
  have k6':i1 <(hA l).length∨j2 <(hB l).length:=h13
  have k7':¬(j2=(hB l).length∨i1 <(hA l).length∧(hA l)[i1.toNat]!≤(hB l)[j2.toNat]!):=h17
  have hj:j2 <(hB l).length:=by omega
  refine⟨by omega,by omega,by omega,by omega,by rw[List.length_append];simp only [List.length_cons,List.length_nil];omega,mrgR h5 h7 hj ?_ h10⟩
  by_cases e:i1 <(hA l).length
  ·exact .inr ⟨e,fun k=>k7' (.inr ⟨e,k⟩)⟩
  ·exact .inl e
 case g27 =>
  have k6':¬(i1 <(hA l).length∨j2 <(hB l).length):=h13
  rw[mrgE (fun k=>k6' (.inl k)) (fun k=>k6' (.inr k)) h10]
theorem Aq9:∀(n:Nat) (l:List Int),l.length≤n→l.length*8≤140737488351232→Con Tryz.prog 238 [.sl (l.map c3)] (.sl ((l.mergeSort leI).map c3))
 | 0,l,h,hb=>Ac8 l 0 h (fun m hm=>by omega) hb
 | n+1,l,h,hb=>Ac8 l (n+1) h (fun m hm hb'=>Aq9 n m (by omega) hb') hb
theorem B34(l:List Int)(hb:l.length*8≤140737488351232):Con Tryz.prog 238 [.sl (l.map c3)] (.sl ((l.mergeSort leI).map c3)):=Aq9 l.length l (Nat.le_refl _) hb
end Go.Proofs.YtphcaholhacnpaaGreat
namespace Go.Proofs.YtphcaholhacnpaaGreat
open Go.E
set_option maxRecDepth 100000
set_option maxHeartbeats 4000000
def B5(T:Nat→List Run)(r:Nat):List Run:=nrm (T r)
theorem O5(r:Run)(R:List Run)(n:Int):inR (r :: R) n↔(r.lo≤n∧n≤r.hi)∨inR R n:=by simp [inR]
theorem Ac9{l:List Run}(h:S7 l):nrm l=l:=by
 refine W4 (E2 l) h fun n=>?_
 rw[O3]
 constructor
 ·exact fun k=>k.2.2
 ·rintro⟨r,hr,h1,h2⟩
  have:=h.2 r hr
  exact⟨by omega,by omega,r,hr,h1,h2⟩
theorem A09:B8 []=(0,[]):=rfl
theorem A9c(l:List Run):nrm (nrm l)=nrm l:=Ac9 (E2 l)
theorem A5q(T:Nat→List Run):H9 (B5 T)=H9 T:=by
 have h1:∀ r,Y4 (B5 T) r=Y4 T r:=fun r=>by unfold Y4 B5;rw[A9c]
 have h2:∀ r,R9 (B5 T) r=R9 T r:=fun r=>by unfold R9 B5;rw[A9c]
 have h3:∀ n,szT (B5 T) n=szT T n:=fun n=>by
  induction n with
  | zero=>rfl
  | succ n ih=>rw[szT,szT,h1,ih]
 have h4:∀ n,H3 (B5 T) n=H3 T n:=fun n=>by
  induction n with
  | zero=>rfl
  | succ n ih=>rw[H3,H3,h2,ih]
 have h5:A48 (B5 T) 16=A48 T 16:=by
  unfold A48
  congr 1
  exact List.map_congr_left fun r _=>h1 r
 unfold H9
 rw[h3,h4,h5]
theorem B17(T:Nat→List Run):∀ r:Nat,r < 16→S7 (B5 T r):=fun r _=>E2 _
theorem B55 {l : List Run} (h : S7 l) {n : Int} (hn : 1 ≤ n) : inR l n ↔ n ≤ (B8 l).1 ∨ inR (B8 l).2 n := by
  cases l with
  | nil => rw [A09]; simp only [inR]; constructor
           · rintro⟨r,hr,_⟩;cases hr
           · rintro (k | ⟨r, hr, _⟩)
             · omega
             · cases hr
  | cons x l =>
    rw[O5]
    unfold B8
    by_cases hx:x.lo=1
    · rw [if_neg (by simpa using hx)]
      show _↔n≤x.hi∨inR l n
      constructor
      · rintro (k | k)
        · exact .inl k.2
        · exact .inr k
      · rintro (k | k)
        · exact .inl ⟨by omega,k⟩
        · exact .inr k
    · rw [if_pos (.inr (by simpa using hx))]
      show _↔n≤0∨inR (x :: l) n
      rw[O5]
      constructor
      · exact fun k=>.inr k
      · rintro (k | k)
        · omega
        · exact k
theorem A2q(T:Nat→List Run):∀ n:Nat,0≤szT T n∧szT T n≤n∧∀ r:Nat,r < n→szT T n≤r→¬ 0 < Y4 T r
 | 0=>⟨by simp [szT],by simp [szT],fun r hr=>by omega⟩
 | n+1=>by
  obtain⟨h1,h2,h3⟩:=A2q T n
  rw[szT]
  split
  ·exact⟨by omega,by omega,fun r hr k=>by omega⟩
  ·rename_i hn
   refine⟨h1,by omega,fun r hr k=>?_⟩
   by_cases e:r=n
   ·rw[e];exact hn
   ·exact h3 r (by omega) k
theorem A2r(T:Nat→List Run)(s:Span):∀ n:Nat,s∈H3 T n↔∃ r:Nat,r < n∧s∈R9 T r
 | 0=>by simp [H3]
 | n+1=>by
  rw[H3,List.mem_append,A2r T s n]
  constructor
  ·rintro(⟨r,h1,h2⟩ | h)
   ·exact⟨r,by omega,h2⟩
   ·exact⟨n,by omega,h⟩
  ·rintro⟨r,h1,h2⟩
   by_cases e:r=n
   ·exact .inr (e ▸ h2)
   ·exact .inl ⟨r,by omega,h2⟩
theorem B36(T:Nat→List Run){r:Nat}(h:(r:Int) < szT T 16):(H9 T).vec[r]! = Y4 T r∧r <(H9 T).vec.length:=by
 have h2:=(A2q T 16).2.1
 have hl:(A48 T 16).length=16:=by simp [A48]
 have hr:r <((A48 T 16).take (szT T 16).toNat).length:=by rw[List.length_take,hl];omega
 refine⟨?_,hr⟩
 show((A48 T 16).take (szT T 16).toNat)[r]! = _
 rw[getElem!_pos ((A48 T 16).take (szT T 16).toNat) r hr,List.getElem_take]
 unfold A48
 rw[List.getElem_append_left (by simp;omega)]
 simp
theorem Ar0(T:Nat→List Run):((H9 T).vec.length:Int)=szT T 16:=by
 have h2:=A2q T 16
 show(((A48 T 16).take (szT T 16).toNat).length:Int)=_
 rw[List.length_take]
 simp [A48]
 omega
theorem P2(T:Nat→List Run)(d:Dot):G7 (H9 T) d=true↔J4 d=true∧inR (T d.rep.toNat) d.num:=by
 unfold G7
 rw[Bool.and_eq_true]
 refine and_congr_right fun hd=>?_
 have hb:=G3 hd
 have e1:inR (T d.rep.toNat) d.num↔inR (nrm (T d.rep.toNat)) d.num:=by
  rw[O3]
  exact⟨fun k=>⟨by omega,by omega,k⟩,fun k=>k.2.2⟩
 rw[e1,B55 (E2 _) (by omega),Bool.or_eq_true,decide_eq_true_eq]
 refine or_congr ?_ ?_
 ·rw[Ar0]
  constructor
  ·rintro⟨h1,h2⟩
   have:=(B36 T (r:=d.rep.toNat) (by omega)).1
   rw[this]at h2
   exact h2
  ·intro k
   have k:d.num≤Y4 T d.rep.toNat:=k
   have h1:d.rep < szT T 16:=by
    apply Classical.byContradiction
    intro hn
    have:=(A2q T 16).2.2 d.rep.toNat (by omega) (by omega)
    omega
   refine⟨h1,?_⟩
   rw[(B36 T (r:=d.rep.toNat) (by omega)).1]
   exact k
 ·rw[List.any_eq_true]
  unfold A5p
  constructor
  ·rintro⟨s,hs,h⟩
   rw[decide_eq_true_eq]at h
   obtain⟨r,hr,hs⟩:=(A2r T s 16).1 hs
   unfold R9 at hs
   obtain⟨x,hx,rfl⟩:=List.mem_map.1 hs
   simp only at h
   have:r=d.rep.toNat:=by omega
   subst this
   exact⟨x,hx,h.2.1,h.2.2⟩
  ·rintro⟨x,hx,h1,h2⟩
   refine⟨⟨d.rep.toNat,x.lo,x.hi⟩,(A2r T _ 16).2 ⟨d.rep.toNat,by omega,List.mem_map.2 ⟨x,hx,rfl⟩⟩,?_⟩
   rw[decide_eq_true_eq]
   exact⟨by show((d.rep.toNat:Nat):Int)=d.rep;omega,h1,h2⟩
theorem A5r(a b:List Run)(n:Int):inR (a++b) n↔inR a n∨inR b n:=by
 unfold inR
 constructor
 ·rintro⟨y,hy,h⟩
  rcases List.mem_append.1 hy with hy | hy
  ·exact .inl ⟨y,hy,h⟩
  ·exact .inr ⟨y,hy,h⟩
 ·rintro(⟨y,hy,h⟩ | ⟨y,hy,h⟩)
  ·exact⟨y,List.mem_append.2 (.inl hy),h⟩
  ·exact⟨y,List.mem_append.2 (.inr hy),h⟩
theorem B56{p:Past}{d:Dot}(hd:J4 d=true):inR (Aj4 p.vec d.rep.toNat) d.num↔(d.rep < p.vec.length∧d.num≤p.vec[d.rep.toNat]!):=by
 have hb:=G3 hd
 unfold Aj4 inR
 split
 ·simp only [List.mem_singleton,exists_eq_left]
  constructor
  ·exact fun k=>⟨by omega,k.2⟩
  ·exact fun k=>⟨by omega,k.2⟩
 ·constructor
  ·rintro⟨r,hr,_⟩;cases hr
  ·rintro⟨h,_⟩;omega
theorem Ar1{p:Past}{d:Dot}(hd:J4 d=true):inR (O4 p.cloud d.rep.toNat) d.num↔(p.cloud.any fun s=>A5p s d)=true:=by
 have hb:=G3 hd
 rw[List.any_eq_true]
 unfold inR O4 A5p
 constructor
 ·rintro⟨x,hx,h1,h2⟩
  obtain⟨s,hs,rfl⟩:=List.mem_map.1 hx
  obtain⟨hs,hq⟩:=List.mem_filter.1 hs
  rw[decide_eq_true_eq]at hq
  exact⟨s,hs,by rw[decide_eq_true_eq];exact⟨by omega,h1,h2⟩⟩
 ·rintro⟨s,hs,h⟩
  rw[decide_eq_true_eq]at h
  exact⟨⟨s.lo,s.hi⟩,List.mem_map.2 ⟨s,List.mem_filter.2 ⟨hs,by rw[decide_eq_true_eq];omega⟩,rfl⟩,h.2.1,h.2.2⟩
theorem B37(p:Past)(d:Dot):G7 p d=true↔J4 d=true∧(inR (Aj4 p.vec d.rep.toNat) d.num∨inR (O4 p.cloud d.rep.toNat) d.num):=by
 unfold G7
 rw[Bool.and_eq_true]
 refine and_congr_right fun hd=>?_
 rw[B56 hd,Ar1 hd,Bool.or_eq_true,decide_eq_true_eq]
theorem Ad0(ps:List Past)(d:Dot):G7 (H9 (A3 ps)) d=true↔∃ p∈ps,G7 p d=true:=by
 rw[P2]
 have e:inR (A3 ps d.rep.toNat) d.num↔∃ p∈ps,inR (Aj4 p.vec d.rep.toNat++O4 p.cloud d.rep.toNat) d.num:=by
  unfold inR A3
  constructor
  ·rintro⟨r,hr,h⟩
   obtain⟨l,hl,hr⟩:=List.mem_flatten.1 hr
   obtain⟨p,hp,rfl⟩:=List.mem_map.1 hl
   exact⟨p,hp,r,hr,h⟩
  ·rintro⟨p,hp,r,hr,h⟩
   exact⟨r,List.mem_flatten.2 ⟨_,List.mem_map.2 ⟨p,hp,rfl⟩,hr⟩,h⟩
 rw[e]
 constructor
 ·rintro⟨hd,p,hp,h⟩
  rw[A5r]at h
  exact⟨p,hp,(B37 p d).2 ⟨hd,h⟩⟩
 ·rintro⟨p,hp,h⟩
  have:=(B37 p d).1 h
  exact⟨this.1,p,hp,(A5r _ _ _).2 this.2⟩
theorem O6(p:Past)(d:Dot):G7 (A5 p) d=G7 p d:=by
 rw[Bool.eq_iff_iff]
 unfold A5
 rw[Ad0]
 simp
theorem B38(ds:List Dot)(d:Dot):G7 (H9 (ofT ds)) d=true↔J4 d=true∧d∈ds:=by
 rw[P2]
 refine and_congr_right fun hd=>?_
 have hb:=G3 hd
 unfold inR ofT
 constructor
 ·rintro⟨x,hx,h1,h2⟩
  obtain⟨y,hy,rfl⟩:=List.mem_map.1 hx
  obtain⟨hy,hq⟩:=List.mem_filter.1 hy
  rw[Bool.and_eq_true,decide_eq_true_eq]at hq
  simp only at h1 h2
  have:y=d:=by
   cases y;cases d
   simp only at *
   congr 1
   ·omega
   ·omega
  exact this ▸ hy
 ·intro h
  exact⟨⟨d.num,d.num⟩,List.mem_map.2 ⟨d,List.mem_filter.2 ⟨h,by rw[Bool.and_eq_true,decide_eq_true_eq];exact⟨hd,by omega⟩⟩,rfl⟩,Int.le_refl _,Int.le_refl _⟩
theorem Ar2{T U:Nat→List Run}(h:∀ d,G7 (H9 T) d=true↔G7 (H9 U) d=true):H9 T=H9 U:=by
 rw[← A5q T,← A5q U]
 refine A0u fun r hr=>?_
 refine W4 (E2 _) (E2 _) fun n=>?_
 show inR (nrm _) n↔inR (nrm _) n
 rw[O3,O3]
 refine and_congr_right fun n0=>and_congr_right fun n1=>?_
 have hd:J4 ⟨r,n⟩=true:=by unfold J4;rw[decide_eq_true_eq];simp only;omega
 have:=h ⟨r,n⟩
 rw[P2,P2]at this
 simp only [hd,true_and]at this
 exact this
theorem Ad1(T:Nat→List Run):A5 (H9 T)=H9 T:=Ar2 fun d=>by
 have:=O6 (H9 T) d
 unfold A5 at this
 rw[this]
theorem Ad2{p q:Past}(hp:p=A5 p)(hq:q=A5 q)(h:∀ d,G7 p d=G7 q d):p=q:=by
 rw[hp,hq]
 refine Ar2 fun d=>?_
 have h1:=O6 p d
 have h2:=O6 q d
 unfold A5 at h1 h2
 rw[h1,h2,h d]
theorem A0a(T:Nat→List Run):(H9 T).cloud.length≤8000000000∧(H9 T).vec.length≤16:=by
 have h1:=A07 T 16
 have h2:=Ar0 T
 have h3:=(A2q T 16).2.1
 exact⟨by show(H3 T 16).length≤_;omega,by omega⟩
end Go.Proofs.YtphcaholhacnpaaGreat
namespace Go.Proofs.YtphcaholhacnpaaGreat
open Go.E
set_option maxRecDepth 100000
set_option maxHeartbeats 4000000
def cntI(l:List Int)(n:Int):Nat:=l.countP (fun x=>decide (x≤n))
def J0(l:List Run):List Int:=l.flatMap fun r=>[r.lo,r.hi+1]
def sw:List Int→List Int→Nat→List Int
 | [],[],_=>[]
 | [],b :: B,d=>(if d=1 then[b]else[])++sw [] B (d-1)
 | a :: A,[],d=>(if d=0 then[a]else[])++sw A [] (d+1)
 | a :: A,b :: B,d=>if a≤b then(if d=0 then[a]else[])++sw A (b :: B) (d+1)else(if d=1 then[b]else[])++sw (a :: A) B (d-1)
termination_by A B _=>A.length+B.length
theorem A9d(n:Int):cntI [] n=0:=rfl
theorem H7(a:Int)(l:List Int)(n:Int):cntI (a :: l) n=cntI l n+if a≤n then 1 else 0:=by
 unfold cntI
 rw[List.countP_cons]
 by_cases h:a≤n <;> simp [h]
theorem cnt_zero{l:List Int}{n:Int}(h:∀ x∈l,n < x):cntI l n=0:=by
 unfold cntI
 rw[List.countP_eq_zero]
 intro x hx
 have:=h x hx
 simp
 omega
theorem B57(l:List Int)(n:Int):cntI l n≤l.length:=List.countP_le_length
structure VW (A B:List Int) (d:Nat):Prop where
 sA:A.Pairwise (fun x y=>x≤y)
 sB:B.Pairwise (fun x y=>x≤y)
 len:d+A.length=B.length
 cov:∀ n:Int,cntI B (n+1)≤d+cntI A n
theorem VW.in_{a b:Int}{A B:List Int}{d:Nat}(h:VW (a :: A) (b :: B) d)(hab:a≤b):VW A (b :: B) (d+1):=by
 refine⟨(List.pairwise_cons.1 h.sA).2,h.sB,by have:=h.len;simp only [List.length_cons]at *;omega,fun n=>?_⟩
 have:=h.cov n
 rw[H7 a A]at this
 split at this <;> omega
theorem VW.pos{a b:Int}{A B:List Int}{d:Nat}(h:VW (a :: A) (b :: B) d)(hab:b < a):1≤d:=by
 have h1:=h.cov (b-1)
 have h2:=(List.pairwise_cons.1 h.sA).1
 rw[show b-1+1=b by omega,H7 b B,if_pos (Int.le_refl b)]at h1
 rw[cnt_zero (l:=a :: A) fun x hx=>by
  rcases List.mem_cons.1 hx with rfl | hx
  ·omega
  ·have:=h2 x hx;omega]at h1
 omega
theorem VW.out{a b:Int}{A B:List Int}{d:Nat}(h:VW (a :: A) (b :: B) d)(hab:b < a):VW (a :: A) B (d-1):=by
 have hp:=h.pos hab
 have hB:=List.pairwise_cons.1 h.sB
 refine⟨h.sA,hB.2,by have:=h.len;simp only [List.length_cons]at *;omega,fun n=>?_⟩
 have:=h.cov n
 rw[H7 b B]at this
 by_cases e:b≤n+1
 ·rw[if_pos e]at this;omega
 ·rw[cnt_zero (l:=B) fun x hx=>by have:=hB.1 x hx;omega]
  omega
theorem VW.end_{b:Int}{B:List Int}{d:Nat}(h:VW [] (b :: B) d):1≤d∧VW [] B (d-1):=by
 have hl:=h.len
 simp only [List.length_cons,List.length_nil]at hl
 have hB:=List.pairwise_cons.1 h.sB
 exact⟨by omega,h.sA,hB.2,by simp only [List.length_nil];omega,fun n=>by have:=B57 B (n+1);omega⟩
theorem VW.strict{a b:Int}{A B:List Int}(h:VW (a :: A) (b :: B) 0):a < b:=by
 have h1:=h.cov (a-1)
 have h2:=(List.pairwise_cons.1 h.sA).1
 rw[show a-1+1=a by omega,cnt_zero (l:=a :: A) fun x hx=>by
  rcases List.mem_cons.1 hx with rfl | hx
  ·omega
  ·have:=h2 x hx;omega,H7 b B]at h1
 by_cases e:b≤a
 ·rw[if_pos e]at h1;omega
 ·omega
def SwZ(A B:List Int):Prop:=∃ R:List Run,sw A B 0=J0 R∧R.Pairwise (fun x y=>x.hi+1 < y.lo)∧(∀ r∈R,r.lo≤r.hi∧r.lo∈A∧r.hi+1∈B)∧∀ n,inR R n↔cntI B n < cntI A n
def SwP(A B:List Int)(d:Nat):Prop:=∃(x:Int) (R:List Run),sw A B d=x :: J0 R∧x∈B∧R.Pairwise (fun x y=>x.hi+1 < y.lo)∧(∀ r∈R,x < r.lo∧r.lo≤r.hi∧r.lo∈A∧r.hi+1∈B)∧∀ n,(n < x∨inR R n)↔cntI B n < d+cntI A n
theorem A5s:∀(k:Nat) (A B:List Int) (d:Nat),A.length+B.length=k→VW A B d→(d=0→SwZ A B)∧(0 < d→SwP A B d)
 | k,[],[],d,_,h=>by
  have hd:=h.len
  simp only [List.length_nil]at hd
  refine⟨fun _=>⟨[],?_,List.Pairwise.nil,fun r hr=>(by cases hr),fun n=>?_⟩,fun h0=>by omega⟩
  ·rw[sw];try rfl
  ·rw[A9d];simp [inR]
 | k,a :: A,[],d,_,h=>by have:=h.len;simp only [List.length_cons,List.length_nil]at this;omega
 | 0,[],b :: B,d,hk,h=>by simp only [List.length_cons]at hk;omega
 | 0,a :: A,b :: B,d,hk,h=>by simp only [List.length_cons]at hk;omega
 | k+1,[],b :: B,d,hk,h=>by
  obtain⟨hd,h'⟩:=h.end_
  have ih:=A5s k [] B (d-1) (by simp only [List.length_cons,List.length_nil]at *;omega) h'
  have hB:=List.pairwise_cons.1 h.sB
  have low:∀ n:Int,n < b→cntI (b :: B) n=0∧cntI B n=0:=fun n hn=>by
   have:cntI B n=0:=cnt_zero fun x hx=>by have:=hB.1 x hx;omega
   rw[H7,if_neg (by omega)];omega
  refine⟨fun h0=>by omega,fun _=>?_⟩
  by_cases e:d=1
  ·obtain⟨R,r1,r2,r3,r4⟩:=ih.1 (by omega)
   refine⟨b,R,?_,by simp,r2,fun r hr=>absurd (r3 r hr).2.1 (by simp),fun n=>?_⟩
   ·rw[sw,if_pos e,show d-1=0 by omega,r1];rfl
   ·rw[r4 n,H7,A9d]
    by_cases hn:b≤n
    ·rw[if_pos hn];omega
    ·have:=low n (by omega);rw[if_neg hn];omega
  ·obtain⟨x,R,r1,r2,r3,r4,r5⟩:=ih.2 (by omega)
   refine⟨x,R,?_,by simp [r2],r3,fun r hr=>absurd (r4 r hr).2.2.1 (by simp),fun n=>?_⟩
   ·rw[sw,if_neg e,r1];rfl
   ·rw[r5 n,H7,A9d]
    by_cases hn:b≤n
    ·rw[if_pos hn];omega
    ·have:=low n (by omega);rw[if_neg hn];omega
 | k+1,a :: A,b :: B,d,hk,h=>by
  have hA:=List.pairwise_cons.1 h.sA
  have hB:=List.pairwise_cons.1 h.sB
  have lowA:∀ n:Int,n < a→cntI (a :: A) n=0∧cntI A n=0:=fun n hn=>by
   have:cntI A n=0:=cnt_zero fun x hx=>by have:=hA.1 x hx;omega
   rw[H7,if_neg (by omega)];omega
  have lowB:∀ n:Int,n < b→cntI (b :: B) n=0∧cntI B n=0:=fun n hn=>by
   have:cntI B n=0:=cnt_zero fun x hx=>by have:=hB.1 x hx;omega
   rw[H7,if_neg (by omega)];omega
  by_cases hab:a≤b
  ·obtain⟨x,R,r1,r2,r3,r4,r5⟩:=(A5s k A (b :: B) (d+1) (by simp only [List.length_cons]at *;omega) (h.in_ hab)).2 (by omega)
   have hx:b≤x:=by
    rcases List.mem_cons.1 r2 with rfl | r2
    ·omega
    ·exact hB.1 x r2
   constructor
   ·rintro rfl
    have hs:=h.strict
    refine⟨⟨a,x-1⟩ :: R,?_,List.pairwise_cons.2 ⟨fun r hr=>?_,r3⟩,fun r hr=>?_,fun n=>?_⟩
    ·rw[sw,if_pos hab,if_pos rfl,r1];simp [J0]
    ·have:=(r4 r hr).1;simp only;omega
    ·rcases List.mem_cons.1 hr with rfl | hr
     ·simp only;exact⟨by omega,by simp,by rw[show x-1+1=x by omega];exact r2⟩
     ·have:=r4 r hr;exact⟨this.2.1,by simp [this.2.2.1],this.2.2.2⟩
    ·have h5:=r5 n
     rw[O5,H7 a A]
     simp only
     by_cases hn:a≤n
     ·rw[if_pos hn]
      constructor
      ·rintro(g | g)
       ·have:=h5.1 (.inl (by omega));omega
       ·have:=h5.1 (.inr g);omega
      ·intro g
       rcases h5.2 (by omega)with g | g
       ·exact .inl ⟨hn,by omega⟩
       ·exact .inr g
     ·rw[if_neg hn]
      have l1:=lowA n (by omega)
      constructor
      ·rintro(g | ⟨r,hr,g1,g2⟩)
       ·omega
       ·have:=hA.1 _ (r4 r hr).2.2.1;omega
      ·intro g;omega
   ·intro h0
    refine⟨x,R,?_,r2,r3,fun r hr=>?_,fun n=>?_⟩
    ·rw[sw,if_pos hab,if_neg (by omega),r1];rfl
    ·have:=r4 r hr;exact⟨this.1,this.2.1,by simp [this.2.2.1],this.2.2.2⟩
    ·rw[r5 n,H7 a A]
     by_cases hn:a≤n
     ·rw[if_pos hn];omega
     ·have l1:=lowA n (by omega)
      have l2:=lowB n (by omega)
      rw[if_neg hn];omega
  ·have hd:=h.pos (by omega)
   have ih:=A5s k (a :: A) B (d-1) (by simp only [List.length_cons]at *;omega) (h.out (by omega))
   refine⟨fun h0=>by omega,fun _=>?_⟩
   by_cases e:d=1
   ·obtain⟨R,r1,r2,r3,r4⟩:=ih.1 (by omega)
    refine⟨b,R,?_,by simp,r2,fun r hr=>?_,fun n=>?_⟩
    ·rw[sw,if_neg hab,if_pos e,show d-1=0 by omega,r1];rfl
    ·have:=r3 r hr
     refine⟨?_,this.1,this.2.1,by simp [this.2.2]⟩
     rcases List.mem_cons.1 this.2.1 with g | g
     ·omega
     ·have:=hA.1 _ g;omega
    ·rw[r4 n,H7 b B]
     by_cases hn:b≤n
     ·rw[if_pos hn];omega
     ·have:=lowB n (by omega);rw[if_neg hn];omega
   ·obtain⟨x,R,r1,r2,r3,r4,r5⟩:=ih.2 (by omega)
    refine⟨x,R,?_,by simp [r2],r3,fun r hr=>?_,fun n=>?_⟩
    ·rw[sw,if_neg hab,if_neg e,r1];rfl
    ·have:=r4 r hr;exact⟨this.1,this.2.1,this.2.2.1,by simp [this.2.2.2]⟩
    ·rw[r5 n,H7 b B]
     by_cases hn:b≤n
     ·rw[if_pos hn];omega
     ·have:=lowB n (by omega);have:=lowA n (by omega);rw[if_neg hn];omega
def B39(l:List Run):List Int:=(J3 l).map fun r=>r.lo
def A7t(l:List Run):List Int:=(J3 l).map fun r=>r.hi+1
def B58(l:List Run):List Int:=(B39 l).mergeSort leI
def A9e(l:List Run):List Int:=(A7t l).mergeSort leI
theorem A4f(l:List Int):(l.mergeSort leI).Pairwise (fun x y=>x≤y):=by
 have:=List.pairwise_mergeSort A7r A7s l
 exact this.imp fun h=>by simpa [leI]using h
theorem Ad3(l:List Int)(n:Int):cntI (l.mergeSort leI) n=cntI l n:=(List.mergeSort_perm l leI).countP_eq _
theorem A7u{α:Type}{p q:α→Bool}:∀ {l:List α},(∀ x∈l,p x=true→q x=true)→(l.countP p < l.countP q↔∃ x∈l,q x=true∧¬ p x=true)
 | [],_=>by simp
 | x :: l,h=>by
  have ih:=A7u (p:=p) (q:=q) (l:=l) fun y hy=>h y (by simp [hy])
  have hle:=List.countP_mono_left (l:=l) (p:=p) (q:=q) fun y hy=>h y (by simp [hy])
  have hx:=h x (by simp)
  rw[List.countP_cons,List.countP_cons]
  have ex:(∃ y∈x :: l,q y=true∧¬ p y=true)↔(q x=true∧¬ p x=true)∨∃ y∈l,q y=true∧¬ p y=true:=by simp
  rw[ex,← ih]
  by_cases h1:p x=true
  ·have h2:=hx h1
   rw[if_pos h1,if_pos h2]
   constructor
   ·intro g;exact .inr (by omega)
   ·rintro(g | g)
    ·exact absurd h1 g.2
    ·omega
  ·by_cases h2:q x=true
   ·rw[if_neg h1,if_pos h2]
    constructor
    ·intro _;exact .inl ⟨h2,h1⟩
    ·intro _;omega
   ·rw[if_neg h1,if_neg h2]
    constructor
    ·intro g;exact .inr (by omega)
    ·rintro(g | g)
     ·exact absurd g.1 h2
     ·omega
theorem B59(l:List Run)(n:Int):inR (J3 l) n↔1≤n∧n≤1000000000∧inR l n:=by
 constructor
 ·rintro⟨r,hr,h1,h2⟩
  unfold J3 at hr
  obtain⟨hr,_⟩:=List.mem_filter.1 hr
  obtain⟨x,hx,rfl⟩:=List.mem_map.1 hr
  simp only [D1]at h1 h2
  exact⟨by omega,by omega,x,hx,by omega,by omega⟩
 ·rintro⟨h1,h2,x,hx,h3,h4⟩
  refine⟨D1 x,?_,?_,?_⟩
  ·unfold J3
   refine List.mem_filter.2 ⟨List.mem_map.2 ⟨x,hx,rfl⟩,?_⟩
   show decide ((D1 x).lo≤(D1 x).hi)=true
   rw[decide_eq_true_iff]
   show max x.lo 1≤min x.hi 1000000000
   omega
  ·simp only [D1];omega
  ·simp only [D1];omega
theorem Ar3(l:List Run)(n:Int):cntI (B58 l) n=(J3 l).countP fun r=>decide (r.lo≤n):=by
 unfold B58 B39
 rw[Ad3,cntI,List.countP_map]
 rfl
theorem Ad4(l:List Run)(n:Int):cntI (A9e l) n=(J3 l).countP fun r=>decide (r.hi+1≤n):=by
 unfold A9e A7t
 rw[Ad3,cntI,List.countP_map]
 rfl
theorem Ad5(l:List Run):VW (B58 l) (A9e l) 0:=by
 refine⟨A4f _,A4f _,?_,fun n=>?_⟩
 ·unfold B58 A9e B39 A7t
  rw[List.length_mergeSort,List.length_mergeSort]
  simp
 ·rw[Ar3,Ad4,Nat.zero_add]
  refine List.countP_mono_left fun r hr h=>?_
  have:=H2 r hr
  unfold A05 at this
  simp only [decide_eq_true_eq]at *
  omega
theorem Ar4(l:List Run):sw (B58 l) (A9e l) 0=J0 (nrm l):=by
 obtain⟨R,r1,r2,r3,r4⟩:=(A5s _ _ _ _ rfl (Ad5 l)).1 rfl
 rw[r1]
 congr 1
 have bd:∀ r∈R,1≤r.lo∧r.hi≤1000000000:=fun r hr=>by
  obtain⟨_,h1,h2⟩:=r3 r hr
  have h1:=(List.mergeSort_perm _ _).subset h1
  have h2:=(List.mergeSort_perm _ _).subset h2
  obtain⟨x,hx,ex⟩:=List.mem_map.1 h1
  obtain⟨y,hy,ey⟩:=List.mem_map.1 h2
  have gx:=H2 x hx
  have gy:=H2 y hy
  unfold A05 okR at gx gy
  omega
 refine W4 ⟨r2,fun r hr=>?_⟩ (E2 l) fun n=>?_
 ·have:=bd r hr;have:=(r3 r hr).1;omega
 ·rw[r4 n,O3,Ar3,Ad4,← B59,A7u fun r hr h=>by
   have:=H2 r hr
   unfold A05 at this
   simp only [decide_eq_true_eq]at *
   omega]
  unfold inR
  constructor
  ·rintro⟨r,hr,h1,h2⟩
   simp only [decide_eq_true_eq]at h1 h2
   exact⟨r,hr,h1,by omega⟩
  ·rintro⟨r,hr,h1,h2⟩
   exact⟨r,hr,by simp only [decide_eq_true_eq];exact h1,by simp only [decide_eq_true_eq];omega⟩
end Go.Proofs.YtphcaholhacnpaaGreat
namespace Go.Proofs.YtphcaholhacnpaaGreat
open Go.E
set_option maxRecDepth 100000
set_option maxHeartbeats 4000000
def G4:List Run→Int
 | []=>0
 | r :: l=>r.hi-r.lo+1+G4 l
def X8:List Run→Int
 | []=>0
 | r :: l=>if(D1 r).lo≤(D1 r).hi then max (D1 r).hi (X8 l)else X8 l
theorem Ar5(a b:List Run):G4 (a++b)=G4 a+G4 b:=by
 induction a with
 | nil=>simp [G4]
 | cons e a ih=>simp only [List.cons_append,G4,ih];omega
theorem U8:∀ a:List Run,(X8 a=0∧∀ n,1≤n→n≤1000000000→¬ inR a n)∨(1≤X8 a∧X8 a≤1000000000∧inR a (X8 a)∧∀ n,1≤n→n≤1000000000→inR a n→n≤X8 a)
 | []=>.inl ⟨rfl,fun n _ _ h=>by obtain⟨r,hr,_⟩:=h;cases hr⟩
 | r :: l=>by
  have hin:∀ n,inR (r :: l) n↔(r.lo≤n∧n≤r.hi)∨inR l n:=fun n=>by
   unfold inR
   constructor
   ·rintro⟨x,hx,h1,h2⟩
    rcases List.mem_cons.1 hx with rfl | hx
    ·exact .inl ⟨h1,h2⟩
    ·exact .inr ⟨x,hx,h1,h2⟩
   ·rintro(⟨h1,h2⟩ | ⟨x,hx,h1,h2⟩)
    ·exact⟨r,by simp,h1,h2⟩
    ·exact⟨x,by simp [hx],h1,h2⟩
  have hc1:(D1 r).lo=max r.lo 1:=rfl
  have hc2:(D1 r).hi=min r.hi 1000000000:=rfl
  unfold X8
  split
  ·rename_i hc
   rw[hc1,hc2]at hc
   right
   rcases U8 l with⟨h1,h2⟩ | ⟨h1,h2,h3,h4⟩
   ·have e:max (D1 r).hi (X8 l)=(D1 r).hi:=by rw[h1];omega
    rw[e,hc2]
    refine⟨by omega,by omega,(hin _).2 (.inl ⟨by omega,by omega⟩),fun n n1 n2 hn=>?_⟩
    rcases(hin n).1 hn with k | k
    ·omega
    ·exact absurd k (h2 n n1 n2)
   ·refine⟨by omega,by omega,?_,fun n n1 n2 hn=>?_⟩
    ·rcases Int.le_total (X8 l) (D1 r).hi with k | k
     ·rw[Int.max_eq_left k,hc2];exact(hin _).2 (.inl ⟨by omega,by omega⟩)
     ·rw[Int.max_eq_right k];exact(hin _).2 (.inr h3)
    ·rcases(hin n).1 hn with k | k
     ·omega
     ·have:=h4 n n1 n2 k;omega
  ·rename_i hc
   rw[hc1,hc2]at hc
   rcases U8 l with⟨h1,h2⟩ | ⟨h1,h2,h3,h4⟩
   ·refine .inl ⟨h1,fun n n1 n2 hn=>?_⟩
    rcases(hin n).1 hn with k | k
    ·omega
    ·exact h2 n n1 n2 k
   ·refine .inr ⟨h1,h2,(hin _).2 (.inr h3),fun n n1 n2 hn=>?_⟩
    rcases(hin n).1 hn with k | k
    ·omega
    ·exact h4 n n1 n2 k
theorem B18{a b:List Run}(h:∀ n,1≤n→n≤1000000000→(inR a n↔inR b n)):X8 a=X8 b:=by
 rcases U8 a with⟨a1,a2⟩ | ⟨a1,a2,a3,a4⟩ <;> rcases U8 b with⟨b1,b2⟩ | ⟨b1,b2,b3,b4⟩
 ·rw[a1,b1]
 ·exact absurd ((h _ b1 b2).2 b3) (a2 _ b1 b2)
 ·exact absurd ((h _ a1 a2).1 a3) (b2 _ a1 a2)
 ·have:=a4 _ b1 b2 ((h _ b1 b2).2 b3)
  have:=b4 _ a1 a2 ((h _ a1 a2).1 a3)
  omega
theorem B19(a:List Run):X8 (nrm a)=X8 a:=B18 fun n h1 h2=>by
 rw[O3]
 exact⟨fun k=>k.2.2,fun k=>⟨h1,h2,k⟩⟩
theorem A2s(r:Run):∀ a:List Run,X8 (a++[r])=if(D1 r).lo≤(D1 r).hi then max (X8 a) (D1 r).hi else X8 a
 | []=>by
  have hc1:(D1 r).lo=max r.lo 1:=rfl
  simp only [List.nil_append,X8]
  split <;> omega
 | x :: a=>by
  have ih:=A2s r a
  simp only [List.cons_append,X8,ih]
  split <;> split <;> omega
end Go.Proofs.YtphcaholhacnpaaGreat
namespace Go.Proofs.YtphcaholhacnpaaGreat
open Go.E
set_option maxRecDepth 100000
set_option maxHeartbeats 4000000
theorem Ar6{l:List Run}(h:S7 l)(h0:0 < l.length):X8 l=l[l.length-1]!.hi:=by
 have hm:l[l.length-1]!∈l:=E1 (by omega)
 have hb:=h.2 _ hm
 rcases U8 l with⟨_,h2⟩ | ⟨h1,h2,h3,h4⟩
 ·exact absurd ⟨_,hm,by omega,Int.le_refl _⟩ (h2 l[l.length-1]!.hi (by omega) (by omega))
 ·have h5:=h4 l[l.length-1]!.hi (by omega) (by omega) ⟨_,hm,by omega,Int.le_refl _⟩
  obtain⟨x,hx,k1,k2⟩:=h3
  obtain⟨i,hi,rfl⟩:=List.mem_iff_getElem.1 hx
  by_cases e:i=l.length-1
  ·subst e
   rw[getElem!_pos l _ hi]at h5 ⊢
   omega
  ·have:=List.pairwise_iff_getElem.1 h.1 i (l.length-1) hi (by omega) (by omega)
   rw[getElem!_pos l _ (by omega)]at h5 hb ⊢
   omega
end Go.Proofs.YtphcaholhacnpaaGreat
namespace Go.Proofs.YtphcaholhacnpaaGreat
open Go.E
set_option maxRecDepth 100000
set_option maxHeartbeats 4000000
def A1h:List Run→List Run→List Run
 | x :: a,y :: b=>(if max x.lo y.lo≤min x.hi y.hi then[⟨max x.lo y.lo,min x.hi y.hi⟩]else[])++(if x.hi < y.hi then A1h a (y :: b)else A1h (x :: a) b)
 | _,_=>[]
termination_by a b=>a.length+b.length
theorem A7v(b:List Run):A1h [] b=[]:=by unfold A1h;rfl
theorem Aj5(a:List Run):A1h a []=[]:=by unfold A1h;cases a <;> rfl
theorem Aj6(x y:Run)(a b:List Run):A1h (x :: a) (y :: b)=(if max x.lo y.lo≤min x.hi y.hi then[⟨max x.lo y.lo,min x.hi y.hi⟩]else[])++(if x.hi < y.hi then A1h a (y :: b)else A1h (x :: a) b):=by rw[A1h]
def Al9:Int→List Run→List Run
 | n,[]=>if n≤1000000000 then[⟨n,1000000000⟩]else[]
 | n,r :: l=>(if n < r.lo then[⟨n,r.lo-1⟩]else[])++Al9 (r.hi+1) l
def minR(a b:List Run):List Run:=A1h (nrm a) (nrm (Al9 1 (nrm b)))
theorem J7{x:Run}{a:List Run}(h:S7 (x :: a)):S7 a:=⟨(List.pairwise_cons.1 h.1).2,fun r hr=>h.2 r (by simp [hr])⟩
theorem A5t{x:Run}{a:List Run}(h:S7 (x :: a)){n:Int}(k:inR a n):x.hi+1 < n:=by
 obtain⟨r,hr,h1,_⟩:=k
 have:=(List.pairwise_cons.1 h.1).1 r hr
 omega
theorem Ar7(c:Prop)[Decidable c](r:Run)(n:Int):inR (if c then[r]else[]) n↔c∧r.lo≤n∧n≤r.hi:=by
 split <;> simp [inR, *]
theorem B1a:∀(k:Nat) (a b:List Run),a.length+b.length≤k→S7 a→S7 b→∀ n,inR (A1h a b) n↔inR a n∧inR b n:=by
 intro k
 induction k with
 | zero =>
  intro a b hk _ _ n
  have:a=[]:=List.eq_nil_of_length_eq_zero (by omega)
  subst this
  rw[A7v]
  simp [inR]
 | succ k ih =>
  intro a b hk ha hb n
  cases a with
  | nil=>rw[A7v];simp [inR]
  | cons x a =>
   cases b with
   | nil=>rw[Aj5];simp [inR]
   | cons y b =>
    have hx:=ha.2 x (by simp)
    have hy:=hb.2 y (by simp)
    have la:inR a n→x.hi+1 < n:=A5t ha
    have lb:inR b n→y.hi+1 < n:=A5t hb
    simp only [List.length_cons]at hk
    rw[Aj6,A5r,Ar7]
    split
    ·rw[ih a (y :: b) (by simp only [List.length_cons];omega) (J7 ha) hb n,O5,O5]
     simp only
     constructor
     ·rintro(h | ⟨h1,h2⟩)
      ·exact⟨.inl (by omega),.inl (by omega)⟩
      ·exact⟨.inr h1,h2⟩
     ·rintro⟨h1 | h1,h2 | h2⟩
      ·exact .inl (by omega)
      ·have:=lb h2;omega
      ·exact .inr ⟨h1,.inl h2⟩
      ·exact .inr ⟨h1,.inr h2⟩
    ·rw[ih (x :: a) b (by simp only [List.length_cons];omega) ha (J7 hb) n,O5,O5]
     simp only
     constructor
     ·rintro(h | ⟨h1,h2⟩)
      ·exact⟨.inl (by omega),.inl (by omega)⟩
      ·exact⟨h1,.inr h2⟩
     ·rintro⟨h1 | h1,h2 | h2⟩
      ·exact .inl (by omega)
      ·exact .inr ⟨.inl h1,h2⟩
      ·have:=la h1;omega
      ·exact .inr ⟨.inr h1,h2⟩
theorem Ar8 : ∀ (l : List Run) (n:Int), S7 l → (∀ r ∈ l, n ≤ r.lo) → ∀ k, inR (Al9 n l) k ↔ n ≤ k ∧ k ≤ 1000000000 ∧ ¬ inR l k
  | [], n, _, _, k => by
    unfold Al9
    rw[Ar7]
    simp only [inR,List.not_mem_nil,false_and,exists_false,not_false_eq_true,and_true]
    omega
  | r :: l, n, h, hn, k => by
    have hr:=h.2 r (by simp)
    have h1:=hn r (by simp)
    have pa:=(List.pairwise_cons.1 h.1).1
    have ih:=Ar8 l (r.hi+1) (J7 h) (fun x hx=>by have:=pa x hx;omega) k
    have lt:inR l k→r.hi+1 < k:=A5t h
    rw[Al9,A5r,Ar7,ih,O5]
    simp only
    constructor
    · rintro (g | ⟨g1, g2, g3⟩)
      · exact ⟨by omega, by omega, fun c => by rcases c with c | c; · omega
                                               · have:=lt c;omega⟩
      · exact ⟨by omega, by omega, fun c => by rcases c with c | c; · omega
                                               · exact g3 c⟩
    · rintro ⟨g1, g2, g3⟩
      by_cases e:k < r.lo
      · exact .inl ⟨by omega,by omega,by omega⟩
      · exact .inr ⟨by apply Classical.byContradiction;intro c;exact g3 (.inl ⟨by omega,by omega⟩),g2,fun c=>g3 (.inr c)⟩
theorem Ar9:∀(l:List Run) (n:Int),S7 l→(∀ r∈l,n≤r.lo)→∀ r∈Al9 n l,n≤r.lo∧r.lo≤r.hi∧r.hi≤1000000000
 | [],n,_,_,r,hr=>by
  unfold Al9 at hr
  split at hr
  ·have:r=⟨n,1000000000⟩:=by simpa using hr
   subst this
   simp only
   omega
  ·cases hr
 | x :: l,n,h,hn,r,hr=>by
  have hx:=h.2 x (by simp)
  have h1:=hn x (by simp)
  have pa:=(List.pairwise_cons.1 h.1).1
  rw[Al9]at hr
  rcases List.mem_append.1 hr with hr | hr
  ·split at hr
   ·have:r=⟨n,x.lo-1⟩:=by simpa using hr
    subst this
    simp only
    omega
   ·cases hr
  ·have:=Ar9 l (x.hi+1) (J7 h) (fun y hy=>by have:=pa y hy;omega) r hr
   omega
theorem Ad6 : ∀ (l : List Run) (n:Int), 1 ≤ n → S7 l → (∀ r ∈ l, n ≤ r.lo) → S7 (Al9 n l)
  | [], n, h1, _, _ => by
    unfold Al9
    split
    · exact ⟨by simp, fun r hr => by have : r = ⟨n, 1000000000⟩ := by simpa using hr
                                     subst this;simp only;omega⟩
    · exact A5l
  | x :: l, n, h0, h, hn => by
    have hx:=h.2 x (by simp)
    have h1:=hn x (by simp)
    have pa:=(List.pairwise_cons.1 h.1).1
    have hp:∀ r∈l,x.hi+1≤r.lo:=fun y hy=>by have:=pa y hy;omega
    have ih:=Ad6 l (x.hi+1) (by omega) (J7 h) hp
    have lo:=Ar9 l (x.hi+1) (J7 h) hp
    rw[Al9]
    split
    · refine ⟨List.pairwise_append.2 ⟨by simp, ih.1, fun u hu v hv => ?_⟩, fun r hr => ?_⟩
      · have : u = ⟨n, x.lo - 1⟩ := by simpa using hu
        subst this
        have:=lo v hv
        simp only
        omega
      · rcases List.mem_append.1 hr with hr | hr
        · have : r = ⟨n, x.lo - 1⟩ := by simpa using hr
          subst this
          simp only
          omega
        · exact ih.2 r hr
    · exact ih
theorem B5a(b:List Run):S7 (Al9 1 (nrm b)):=Ad6 _ _ (Int.le_refl _) (E2 b) fun r hr=>((E2 b).2 r hr).1
theorem B5b(a b:List Run)(n:Int):inR (minR a b) n↔inR (nrm a) n∧¬ inR (nrm b) n:=by
 unfold minR
 rw[B1a _ _ _ (Nat.le_refl _) (E2 _) (E2 _) n,Ac9 (B5a b),Ar8 _ _ (E2 b) (fun r hr=>((E2 b).2 r hr).1)]
 refine and_congr_right fun h=>?_
 rw[O3]at h
 exact⟨fun k=>k.2.2,fun k=>⟨h.1,h.2.1,k⟩⟩
def As0(a b:Past):Past:=H9 fun r=>minR (A3 [a] r) (A3 [b] r)
def T0(ps:List Past):Past:=H9 (A3 ps)
theorem A9f(a b:Past)(d:Dot):G7 (As0 a b) d=(G7 a d && !G7 b d):=by
 rw[Bool.eq_iff_iff,As0,P2,B5b,Bool.and_eq_true,Bool.not_eq_true',← O6 a d,← O6 b d]
 unfold A5
 rw[P2,← Bool.not_eq_true,P2]
 constructor
 ·rintro⟨h,h1,h2⟩
  have hb:=G3 h
  rw[O3]at h1 h2
  exact⟨⟨h,h1.2.2⟩,fun k=>h2 ⟨by omega,by omega,k.2⟩⟩
 ·rintro⟨⟨h,h1⟩,h2⟩
  have hb:=G3 h
  rw[O3,O3]
  exact⟨h,⟨by omega,by omega,h1⟩,fun k=>h2 ⟨h,k.2.2⟩⟩
theorem A5u(ps:List Past)(d:Dot):G7 (T0 ps) d=ps.any fun p=>G7 p d:=by
 rw[Bool.eq_iff_iff,T0,Ad0,List.any_eq_true]
theorem As1(ps:List Past):T0 ps=A5 (T0 ps):=(Ad1 _).symm
end Go.Proofs.YtphcaholhacnpaaGreat
namespace Go.Proofs.YtphcaholhacnpaaGreat
open Go.E
set_option maxRecDepth 100000
set_option maxHeartbeats 4000000
def A3n(lo hi:List Int):List Run:=List.zipWith (fun a b=>⟨a,b⟩) lo hi
def A2t(lo hi:List Int)(i:Int)(l:List Int):Prop:=l=B39 ((A3n lo hi).take i.toNat)
def U9(lo hi:List Int)(i:Int)(l:List Int):Prop:=l=A7t ((A3n lo hi).take i.toNat)
def B1b(lo hi:List Int)(i:Int)(a b:List Int):Prop:=0≤i∧i≤lo.length∧(a.length:Int)≤i∧(b.length:Int)=a.length∧A2t lo hi i a∧U9 lo hi i b
def decTa(lo:List Int)(i:Int)(a b:List Int):Nat:=(lo.length-i).toNat
def B1c(A B:List Int)(i j:Int)(t:List Int):Prop:=VW (A.drop i.toNat) (B.drop j.toNat) (i-j).toNat∧j≤i∧t++sw (A.drop i.toNat) (B.drop j.toNat) (i-j).toNat=sw A B 0
def Aj7(A B:List Int)(d j i:Int)(t:List Int):Prop:=0≤i∧i≤A.length∧0≤j∧j≤B.length∧d=i-j∧(t.length:Int)≤i+j∧B1c A B i j t
def decTb(A B:List Int)(d j i:Int)(t:List Int):Nat:=(A.length+B.length-i-j).toNat
theorem A5v{A B:List Int}{i j:Int}{t:List Int}(h0:0≤i)(hi:i≤A.length)(j0:0≤j)(jl:j≤B.length)(h:B1c A B i j t):A.length=B.length:=by
 have:=h.1.len
 have:=h.2.1
 simp only [List.length_drop]at *
 omega
theorem As2{A B:List Int}{i j:Int}{t:List Int}(h0:0≤i)(hi:i < A.length)(j0:0≤j)(jl:j≤B.length)(hle:A[i.toNat]!≤B[j.toNat]!)(h:B1c A B i j t) :
  B1c A B (i+1) j (if i-j=0 then t++[A[i.toNat]!]else t):=by
 have hl:=A5v h0 (by omega) j0 jl h
 obtain⟨v,hji,e⟩:=h
 have hj:j < B.length:=by omega
 rw[L1 h0 hi,L1 j0 hj]at v e
 rw[sw,if_pos hle]at e
 refine⟨?_,by omega,?_⟩
 ·rw[L1 j0 hj,show(i+1-j).toNat=(i-j).toNat+1 by omega];exact v.in_ hle
 ·rw[← e,L1 j0 hj,show(i+1-j).toNat=(i-j).toNat+1 by omega]
  by_cases z:i-j=0
  ·rw[if_pos z,if_pos (show(i-j).toNat=0 by omega),List.append_assoc]
  ·rw[if_neg z,if_neg (show ¬(i-j).toNat=0 by omega)];rfl
theorem A5w{A B:List Int}{i j:Int}{t:List Int}(h0:0≤i)(hi:i≤A.length)(j0:0≤j)(jl:j≤B.length)(ho:i < A.length∨j < B.length)(hn:¬(i < A.length∧A[i.toNat]!≤B[j.toNat]!))(h:B1c A B i j t) :
  j < B.length∧j < i∧B1c A B i (j+1) (if i-j-1=0 then t++[B[j.toNat]!]else t):=by
 have hl:=A5v h0 hi j0 jl h
 obtain⟨v,hji,e⟩:=h
 have hj:j < B.length:=by omega
 rw[L1 j0 hj]at v e
 by_cases hA:i < A.length
 ·have hba:B[j.toNat]! < A[i.toNat]!:=by have:¬ A[i.toNat]!≤B[j.toNat]!:=fun k=>hn ⟨hA,k⟩;omega
  rw[L1 h0 hA]at v e
  have hp:=v.pos hba
  rw[sw,if_neg (by omega)]at e
  refine⟨hj,by omega,?_,by omega,?_⟩
  ·rw[L1 h0 hA,show(i-(j+1)).toNat=(i-j).toNat-1 by omega];exact v.out hba
  ·rw[← e,L1 h0 hA,show(i-(j+1)).toNat=(i-j).toNat-1 by omega]
   by_cases z:i-j-1=0
   ·rw[if_pos z,if_pos (show(i-j).toNat=1 by omega),List.append_assoc]
   ·rw[if_neg z,if_neg (show ¬(i-j).toNat=1 by omega)];rfl
 ·rw[List.drop_of_length_le (l:=A) (by omega)]at v e
  have hp:=v.end_
  rw[sw]at e
  refine⟨hj,by omega,?_,by omega,?_⟩
  ·rw[List.drop_of_length_le (l:=A) (by omega),show(i-(j+1)).toNat=(i-j).toNat-1 by omega];exact hp.2
  ·rw[← e,List.drop_of_length_le (l:=A) (by omega),show(i-(j+1)).toNat=(i-j).toNat-1 by omega]
   by_cases z:i-j-1=0
   ·rw[if_pos z,if_pos (show(i-j).toNat=1 by omega),List.append_assoc]
   ·rw[if_neg z,if_neg (show ¬(i-j).toNat=1 by omega)];rfl
theorem B1d{A B:List Int}{i j:Int}{t:List Int}(ho:¬(i < A.length∨j < B.length))(h:B1c A B i j t):t=sw A B 0:=by
 have e:=h.2.2
 rw[List.drop_of_length_le (by omega),List.drop_of_length_le (by omega),sw,List.append_nil]at e
 exact e
theorem A9g{lo hi:List Int}(h:lo.length=hi.length):(A3n lo hi).length=lo.length:=by
 unfold A3n;rw[List.length_zipWith];omega
theorem Ad7{lo hi:List Int}{i:Int}(h:lo.length=hi.length)(h0:0≤i)(hi':i < lo.length):(A3n lo hi).take (i+1).toNat=(A3n lo hi).take i.toNat++[⟨lo[i.toNat]!,hi[i.toNat]!⟩]:=by
 rw[← D9 h0 (by rw[A9g h];exact hi')]
 congr 2
 have:=A9g h
 rw[getElem!_pos (A3n lo hi) i.toNat (by omega),getElem!_pos lo i.toNat (by omega),getElem!_pos hi i.toNat (by omega)]
 simp [A3n]
theorem As3(a:List Run)(r:Run):B39 (a++[r])=B39 a++if(D1 r).lo≤(D1 r).hi then[(D1 r).lo]else[]:=by
 unfold B39
 rw[A2l,A06,List.map_append]
 split <;> rfl
theorem Ad8(a:List Run)(r:Run):A7t (a++[r])=A7t a++if(D1 r).lo≤(D1 r).hi then[(D1 r).hi+1]else[]:=by
 unfold A7t
 rw[A2l,A06,List.map_append]
 split <;> rfl
theorem B1e{lo hi:List Int}{i:Int}{a b:List Int}(h:lo.length=hi.length)(h0:0≤i)(hl:i < lo.length)(hc:max lo[i.toNat]! 1≤min hi[i.toNat]! 1000000000)(ha:A2t lo hi i a)(hb:U9 lo hi i b) :
  A2t lo hi (i+1) (a++[max lo[i.toNat]! 1])∧U9 lo hi (i+1) (b++[min hi[i.toNat]! 1000000000+1]):=by
 unfold A2t U9 at *
 have hc':(D1 ⟨lo[i.toNat]!,hi[i.toNat]!⟩).lo≤(D1 ⟨lo[i.toNat]!,hi[i.toNat]!⟩).hi:=hc
 rw[Ad7 h h0 hl,As3,Ad8,← ha,← hb,if_pos hc',if_pos hc']
 exact⟨rfl,rfl⟩
theorem As4{lo hi:List Int}{i:Int}{a b:List Int}(h:lo.length=hi.length)(h0:0≤i)(hl:i < lo.length)(hc:¬ max lo[i.toNat]! 1≤min hi[i.toNat]! 1000000000)(ha:A2t lo hi i a)(hb:U9 lo hi i b) :
  A2t lo hi (i+1) a∧U9 lo hi (i+1) b:=by
 unfold A2t U9 at *
 have hc':¬(D1 ⟨lo[i.toNat]!,hi[i.toNat]!⟩).lo≤(D1 ⟨lo[i.toNat]!,hi[i.toNat]!⟩).hi:=hc
 rw[Ad7 h h0 hl,As3,Ad8,← ha,← hb,if_neg hc',if_neg hc',List.append_nil,List.append_nil]
 exact⟨rfl,rfl⟩
theorem A7w{lo hi:List Int}{i:Int}{a b:List Int}(h:lo.length=hi.length)(hl:¬ i < lo.length)(ha:A2t lo hi i a)(hb:U9 lo hi i b):a.mergeSort leI=B58 (A3n lo hi)∧b.mergeSort leI=A9e (A3n lo hi):=by
 unfold A2t U9 at *
 have:=A9g h
 rw[ha,hb,List.take_of_length_le (by omega)]
 exact⟨rfl,rfl⟩
theorem Aj8(l:List Run):B1c (B58 l) (A9e l) 0 0 []:=⟨Ad5 l,by omega,by simp⟩
theorem con206(lo hi:List Int)(h:lo.length=hi.length)(hb:lo.length*16≤140737488351232):Con Tryz.prog 206 [.sl (lo.map c3),.sl (hi.map c3)] (.sl ((J0 (nrm (A3n lo hi))).map c3)) :=
 by
 refine lN 0 c3 (lo) Tryz.func206 fun hl_0=>lN 1 c3 (hi) Tryz.func206 fun hl_1=>sC B3 [.tmp 4] 98 Tryz.func206 ?_
 intro e0 cx
 refine sq<|rG cx [0,1] [] z0<|sn<|sq<|rG cx [0,1,5,6] [] z0<|sn<|sq<|sq<|rG cx [0,1,5,6,7] [] z0<|sn<|bL 0<|G1 5 1005 3 1 (σ':=⟨[(0,.sl (List.map c3 lo)),(1,.sl (List.map c3 hi)),(5,.own 1005 0),(6,.nl),(7,.i .i64 ((0:Int)))],[(1005,⟨0,3,.row 1 (List.map c3 [])⟩)]⟩) (by kernel_rfl)<|G1 6 1006 3 1 (σ':=⟨[(0,.sl (List.map c3 lo)),(1,.sl (List.map c3 hi)),(5,.own 1005 0),(6,.own 1006 0),(7,.i .i64 ((0:Int)))],[(1005,⟨0,3,.row 1 (List.map c3 [])⟩),(1006,⟨0,3,.row 1 (List.map c3 [])⟩)]⟩) (by kernel_rfl)<|sL (X:=Int×List Int×List Int) (fun x=>⟨[(0,.sl (List.map c3 lo)),(1,.sl (List.map c3 hi)),(5,.own 1005 0),(6,.own 1006 0),(7,.i .i64 (x.1))],[(1005,⟨0,3,.row 1 (List.map c3 x.2.1)⟩),(1006,⟨0,3,.row 1 (List.map c3 x.2.2)⟩)]⟩) (fun x ↦ decTa lo x.1 x.2.1 x.2.2) (fun x ↦ B1b lo hi x.1 x.2.1 x.2.2) [0,1,5,6,7] [1005,1006] (((0:Int),[],[])) (show B1b lo hi (0:Int) [] []from ?g0) ?_;rotate_left
 rintro⟨i0,a1,b2⟩ h_3
 obtain⟨hh4,hh5,hh6,hh7,h8,h9⟩:0≤i0∧i0≤(↑lo.length:Int)∧(↑a1.length:Int)≤i0∧(↑b2.length:Int)=(↑a1.length:Int)∧A2t lo hi i0 a1∧U9 lo hi i0 b2:=h_3
 refine sq<|rD cx [0,1,5,6,7,17] [1005,1006] (tL 2 c3 lo (zB 3 (i0 <(↑lo.length:Int)))) (fun h10=>?_) fun h10=>?_
 refine sK<|sn<|sq<|bL 1<|sq<|rA cx [0,1,5,6,7,8,9] [1005,1006] (fA (0≤i0) (fG c3 lo i0.toNat (fR 1 (tT 4 (A1m:AV.i .i64 (if(1:Int) > lo[i0.toNat]! then(1:Int)else lo[i0.toNat]!)=AV.i .i64 (max lo[i0.toNat]! (1:Int))) (fA (0≤i0) (fG c3 hi i0.toNat (fR 1 (tT 9 (A1n:AV.i .i64 (if(1000000000:Int) < hi[i0.toNat]! then(1000000000:Int)else hi[i0.toNat]!)=AV.i .i64 (min hi[i0.toNat]! (1000000000:Int))) (oR 2 (c3 lo[i0.toNat]!) (oR 7 (c3 hi[i0.toNat]!) z0))))))))))<|sn<|rD cx [0,1,5,6,7,8,9,32] [1005,1006] (zB 2 (max lo[i0.toNat]! 1≤min hi[i0.toNat]! (1000000000:Int))) (fun h11=>?_) fun h11=>?_
 refine sq<|rG cx [0,1,5,6,7,9] [1005,1006] (fR 3 (fR 1 (fR 1 (fX c3 [max lo[i0.toNat]! (1:Int)] 1 (fS c3 a1 c3 [max lo[i0.toNat]! (1:Int)] (fP (((List.map c3 a1).length+(List.map c3 [max lo[i0.toNat]! (1:Int)]).length)*(8:Nat)≤(140737488355328:Nat)) (by(simp only [Go.maxLen,List.length_map,List.length_append,List.length_cons,List.length_nil];omega)) (fM c3 a1 [max lo[i0.toNat]! (1:Int)] (oV 3 { rows:=some (List.map c3 (a1++[max lo[i0.toNat]! (1:Int)])) } z0))))))))<|sn<|rG cx [0,1,5,6,7] [1005,1006] (tW 2 (min hi[i0.toNat]! (1000000000:Int)+(1:Int)) (fR 3 (fR 1 (fR 1 (fX c3 [min hi[i0.toNat]! (1000000000:Int)+(1:Int)] 1 (fS c3 b2 c3 [min hi[i0.toNat]! (1000000000:Int)+(1:Int)] (fP (((List.map c3 b2).length+(List.map c3 [min hi[i0.toNat]! (1000000000:Int)+(1:Int)]).length)*(8:Nat)≤(140737488355328:Nat)) (by(simp only [Go.maxLen,List.length_map,List.length_append,List.length_cons,List.length_nil];omega)) (fM c3 b2 [min hi[i0.toNat]! (1000000000:Int)+(1:Int)] (oV 4 { rows:=some (List.map c3 (b2++[min hi[i0.toNat]! (1000000000:Int)+(1:Int)])) } z0)))))))))<|bN<|sn<|rG cx [0,1,5,6,7] [1005,1006] (tW 1 (i0+1) z0)<|sn<|nX ((i0+1,a1++[max lo[i0.toNat]! (1:Int)],b2++[min hi[i0.toNat]! (1000000000:Int)+(1:Int)])) (show((↑lo.length:Int)-(i0+1)).toNat <((↑lo.length:Int)-i0).toNat from(by omega)) (show B1b lo hi (i0+1) (a1++[max lo[i0.toNat]! (1:Int)]) (b2++[min hi[i0.toNat]! (1000000000:Int)+(1:Int)])from ?g1);rotate_left
 refine sK<|bN<|sn<|rG cx [0,1,5,6,7] [1005,1006] (tW 1 (i0+1) z0)<|sn<|nX ((i0+1,a1,b2)) (show((↑lo.length:Int)-(i0+1)).toNat <((↑lo.length:Int)-i0).toNat from(by omega)) (show B1b lo hi (i0+1) a1 b2 from ?g2);rotate_left
 refine eX 0<|nE<|nE<|bH<|sn<|sq<|rG cx [5,6] [1006] (fT (B34 (a1) (by omega)) (oA 1 (.sl (List.map c3 (a1.mergeSort leI))) z0))<|sn<|sq<|rG cx [5,6] [] (fT (B34 (b2) (by omega)) (oA 1 (.sl (List.map c3 (b2.mergeSort leI))) z0))<|sn<|sq<|rG cx [5,6,10] [] z0<|sn<|sq<|rG cx [5,6,10,11,12] [] z0<|sn<|sq<|sq<|rG cx [5,6,10,11,12,13] [] z0<|sn<|bL 2<|G1 10 1010 3 1 (σ':=⟨[(5,.sl (List.map c3 (a1.mergeSort leI))),(6,.sl (List.map c3 (b2.mergeSort leI))),(10,.own 1010 0),(11,.i .i64 ((0:Int))),(12,.i .i64 ((0:Int))),(13,.i .i64 ((0:Int)))],[(1010,⟨0,3,.row 1 (List.map c3 [])⟩)]⟩) (by kernel_rfl)<|sL (X:=Int×Int×Int×List Int) (fun x=>⟨[(5,.sl (List.map c3 (a1.mergeSort leI))),(6,.sl (List.map c3 (b2.mergeSort leI))),(10,.own 1010 0),(11,.i .i64 (x.1)),(12,.i .i64 (x.2.1)),(13,.i .i64 (x.2.2.1))],[(1010,⟨0,3,.row 1 (List.map c3 x.2.2.2)⟩)]⟩) (fun x ↦ decTb (a1.mergeSort leI) (b2.mergeSort leI) x.1 x.2.1 x.2.2.1 x.2.2.2) (fun x ↦ Aj7 (a1.mergeSort leI) (b2.mergeSort leI) x.1 x.2.1 x.2.2.1 x.2.2.2) [5,6,10,11,12,13] [1010] (((0:Int),(0:Int),(0:Int),[])) (show Aj7 (a1.mergeSort leI) (b2.mergeSort leI) (0:Int) (0:Int) (0:Int) []from ?g3) ?_;rotate_left
 rintro⟨d12,j13,i14,t15⟩ h_16
 obtain⟨h17,h18,h19,h20,h21,h22,h23⟩:0≤i14∧i14≤(↑(a1.mergeSort leI).length:Int)∧0≤j13∧j13≤(↑(b2.mergeSort leI).length:Int)∧d12=i14-j13∧(↑t15.length:Int)≤i14+j13∧B1c (a1.mergeSort leI) (b2.mergeSort leI) i14 j13 t15:=h_16
 refine sq<|sq<|A9 (σ':=⟨[(5,.sl (List.map c3 (a1.mergeSort leI))),(6,.sl (List.map c3 (b2.mergeSort leI))),(10,.own 1010 0),(11,.i .i64 (d12)),(12,.i .i64 (j13)),(13,.i .i64 (i14)),(55,.b (decide (i14 <(↑(a1.mergeSort leI).length:Int)∨j13 <(↑(b2.mergeSort leI).length:Int))))],[(1010,⟨0,3,.row 1 (List.map c3 t15)⟩)]⟩) ?_ ?_
 refine A6 (i14 <(↑(a1.mergeSort leI).length:Int)) (fun h_25=>?_) (fun h_25=>?_)
 refine rG cx [5,6,10,11,12,13,55] [1010] (tL 2 c3 (a1.mergeSort leI) (tT 3 (A4 h_25) (tD 9 true (i14 <(↑(a1.mergeSort leI).length:Int)∨j13 <(↑(b2.mergeSort leI).length:Int)) (by simp only [eq_true h_25,tsl]) z0))) ?_
 exact⟨rfl,by kernel_rfl⟩
 refine rG cx [5,6,10,11,12,13,55] [1010] (tL 2 c3 (a1.mergeSort leI) (tT 3 (A0 h_25) (tL 7 c3 (b2.mergeSort leI) (tB 8 (j13 <(↑(b2.mergeSort leI).length:Int)) (tD 9 (decide (j13 <(↑(b2.mergeSort leI).length:Int))) (i14 <(↑(a1.mergeSort leI).length:Int)∨j13 <(↑(b2.mergeSort leI).length:Int)) (by simp only [eq_false h_25,tsl]) z0))))) ?_
 exact⟨rfl,by kernel_rfl⟩
 refine sn<|dC (i14 <(↑(a1.mergeSort leI).length:Int)∨j13 <(↑(b2.mergeSort leI).length:Int)) (fun h26=>?_) fun h26=>?_
 refine sK<|sn<|bL 3<|sq<|A9 (σ':=⟨[(5,.sl (List.map c3 (a1.mergeSort leI))),(6,.sl (List.map c3 (b2.mergeSort leI))),(10,.own 1010 0),(11,.i .i64 (d12)),(12,.i .i64 (j13)),(13,.i .i64 (i14)),(70,.b (decide (i14 <(↑(a1.mergeSort leI).length:Int)∧(a1.mergeSort leI)[i14.toNat]!≤(b2.mergeSort leI)[j13.toNat]!)))],[(1010,⟨0,3,.row 1 (List.map c3 t15)⟩)]⟩) ?_ ?_
 refine A6 (i14 <(↑(a1.mergeSort leI).length:Int)) (fun h28=>?_) (fun h28=>?_)
 refine rA cx [5,6,10,11,12,13,70] [1010] (tL 2 c3 (a1.mergeSort leI) (tT 3 (A4 h28) (fA (0≤i14) (fG c3 (a1.mergeSort leI) i14.toNat (fR 1 (fA (0≤j13) (fP ((List.map c3 (b2.mergeSort leI))[j13.toNat]?=some (c3 (b2.mergeSort leI)[j13.toNat]!)) ?g4 (fR 1 (tB 13 ((a1.mergeSort leI)[i14.toNat]!≤(b2.mergeSort leI)[j13.toNat]!) (tD 14 (decide ((a1.mergeSort leI)[i14.toNat]!≤(b2.mergeSort leI)[j13.toNat]!)) (i14 <(↑(a1.mergeSort leI).length:Int)∧(a1.mergeSort leI)[i14.toNat]!≤(b2.mergeSort leI)[j13.toNat]!) (by simp only [eq_true h28,tsl]) (oR 7 (c3 (a1.mergeSort leI)[i14.toNat]!) (oR 11 (c3 (b2.mergeSort leI)[j13.toNat]!) z0)))))))))))) ?_;rotate_left
 exact⟨rfl,by kernel_rfl⟩
 refine rA cx [5,6,10,11,12,13,70] [1010] (tL 2 c3 (a1.mergeSort leI) (tT 3 (A0 h28) (tD 14 false (i14 <(↑(a1.mergeSort leI).length:Int)∧(a1.mergeSort leI)[i14.toNat]!≤(b2.mergeSort leI)[j13.toNat]!) (by simp only [eq_false h28,tsl]) z0))) ?_
 exact⟨rfl,by kernel_rfl⟩
 refine sn<|dC (i14 <(↑(a1.mergeSort leI).length:Int)∧(a1.mergeSort leI)[i14.toNat]!≤(b2.mergeSort leI)[j13.toNat]!) (fun h29=>?_) fun h29=>?_
 refine sq<|rD cx [5,6,10,11,12,13,72] [1010] (zB 1 (d12=0)) (fun h30=>?_) fun h30=>?_
 refine rG cx [5,6,10,11,12,13] [1010] (fA (0≤i14) (fG c3 (a1.mergeSort leI) i14.toNat (fR 1 (fR 3 (fR 1 (fR 1 (fX c3 [(a1.mergeSort leI)[i14.toNat]!] 1 (fP ((List.map c3 t15).length+(List.map c3 [(a1.mergeSort leI)[i14.toNat]!]).length≤maxLen) ?g5 (fP (((List.map c3 t15).length+(List.map c3 [(a1.mergeSort leI)[i14.toNat]!]).length)*(8:Nat)≤(140737488355328:Nat)) ?g6 (fM c3 t15 [(a1.mergeSort leI)[i14.toNat]!] (oR 3 (c3 (a1.mergeSort leI)[i14.toNat]!) (oV 6 { rows:=some (List.map c3 (t15++[(a1.mergeSort leI)[i14.toNat]!])) } z0)))))))))))) ?_;rotate_left 2
 refine sn<|sq<|rG cx [5,6,10,11,12,13] [1010] (tW 1 (d12+1) z0)<|sn<|rG cx [5,6,10,11,12,13] [1010] (tT 1 (B4 (by omega) ?g7:AV.i .i64 (IntKind.i64.wrap (i14+1))=AV.i .i64 (i14+1)) z0) ?_;rotate_left
 refine bN<|sn<|nX ((d12+1,j13,i14+1,t15++[(a1.mergeSort leI)[i14.toNat]!])) (show((↑(a1.mergeSort leI).length:Int)+(↑(b2.mergeSort leI).length:Int)-(i14+1)-j13).toNat <((↑(a1.mergeSort leI).length:Int)+(↑(b2.mergeSort leI).length:Int)-i14-j13).toNat from(by omega)) (show Aj7 (a1.mergeSort leI) (b2.mergeSort leI) (d12+1) j13 (i14+1) (t15++[(a1.mergeSort leI)[i14.toNat]!])from ?g8);rotate_left
 refine sK<|sn<|sq<|rG cx [5,6,10,11,12,13] [1010] (tT 1 (B4 ?g9 ?g10:AV.i .i64 (IntKind.i64.wrap (d12+1))=AV.i .i64 (d12+1)) z0) ?_;rotate_left 2
 refine sn<|rG cx [5,6,10,11,12,13] [1010] (tT 1 (B4 (by omega) ?g11:AV.i .i64 (IntKind.i64.wrap (i14+1))=AV.i .i64 (i14+1)) z0) ?_;rotate_left
 refine bN<|sn<|nX ((d12+1,j13,i14+1,t15)) (show((↑(a1.mergeSort leI).length:Int)+(↑(b2.mergeSort leI).length:Int)-(i14+1)-j13).toNat <((↑(a1.mergeSort leI).length:Int)+(↑(b2.mergeSort leI).length:Int)-i14-j13).toNat from(by omega)) (show Aj7 (a1.mergeSort leI) (b2.mergeSort leI) (d12+1) j13 (i14+1) t15 from ?g12);rotate_left
 refine sq<|rG cx [5,6,10,11,12,13] [1010] (tT 1 (B4 ?g13 ?g14:AV.i .i64 (IntKind.i64.wrap (d12-1))=AV.i .i64 (d12-1)) z0) ?_;rotate_left 2
 refine sn<|sq<|rD cx [5,6,10,11,12,13,87] [1010] (zB 1 (d12-1=(0:Int))) (fun h31=>?_) fun h31=>?_
 refine rG cx [5,6,10,11,12,13] [1010] (fA (0≤j13) (fP ((List.map c3 (b2.mergeSort leI))[j13.toNat]?=some (c3 (b2.mergeSort leI)[j13.toNat]!)) ?g15 (fR 1 (fR 3 (fR 1 (fR 1 (fX c3 [(b2.mergeSort leI)[j13.toNat]!] 1 (fP ((List.map c3 t15).length+(List.map c3 [(b2.mergeSort leI)[j13.toNat]!]).length≤maxLen) ?g16 (fP (((List.map c3 t15).length+(List.map c3 [(b2.mergeSort leI)[j13.toNat]!]).length)*(8:Nat)≤(140737488355328:Nat)) ?g17 (fM c3 t15 [(b2.mergeSort leI)[j13.toNat]!] (oR 3 (c3 (b2.mergeSort leI)[j13.toNat]!) (oV 6 { rows:=some (List.map c3 (t15++[(b2.mergeSort leI)[j13.toNat]!])) } z0)))))))))))) ?_;rotate_left 3
 refine sn<|rG cx [5,6,10,11,12,13] [1010] (tT 1 (B4 (by omega) ?g18:AV.i .i64 (IntKind.i64.wrap (j13+1))=AV.i .i64 (j13+1)) z0) ?_;rotate_left
 refine bN<|sn<|nX ((d12-1,j13+1,i14,t15++[(b2.mergeSort leI)[j13.toNat]!])) (show((↑(a1.mergeSort leI).length:Int)+(↑(b2.mergeSort leI).length:Int)-i14-(j13+1)).toNat <((↑(a1.mergeSort leI).length:Int)+(↑(b2.mergeSort leI).length:Int)-i14-j13).toNat from(by omega)) (show Aj7 (a1.mergeSort leI) (b2.mergeSort leI) (d12-1) (j13+1) i14 (t15++[(b2.mergeSort leI)[j13.toNat]!])from ?g19);rotate_left
 refine sK<|sn<|rG cx [5,6,10,11,12,13] [1010] (tT 1 (B4 (by omega) ?g20:AV.i .i64 (IntKind.i64.wrap (j13+1))=AV.i .i64 (j13+1)) z0) ?_;rotate_left
 refine bN<|sn<|nX ((d12-1,j13+1,i14,t15)) (show((↑(a1.mergeSort leI).length:Int)+(↑(b2.mergeSort leI).length:Int)-i14-(j13+1)).toNat <((↑(a1.mergeSort leI).length:Int)+(↑(b2.mergeSort leI).length:Int)-i14-j13).toNat from(by omega)) (show Aj7 (a1.mergeSort leI) (b2.mergeSort leI) (d12-1) (j13+1) i14 t15 from ?g21);rotate_left
 refine eX 2<|nE<|nE<|bH<|sn<|sq<|rG cx [4] [1010] z0<|sn<|rT<|qR (.sl (List.map c3 t15)) (.eq ?g22);rotate_left
 rotate_left
 revert i0 a1 b2 hh4 hh5 hh6 hh7 h8 h9 h10 h11;rotate_left
 revert i0 a1 b2 hh4 hh5 hh6 hh7 h8 h9 h10 h11;rotate_left
 revert i0 a1 b2 hh4 hh5 hh6 hh7 h8 h9 h10;rotate_left
 revert i0 a1 b2 hh4 hh5 hh6 hh7 h8 h9 h10 d12 j13 i14 t15 h17 h18 h19 h20 h21 h22 h23 h26 h28;rotate_left
 revert i0 a1 b2 hh4 hh5 hh6 hh7 h8 h9 h10 d12 j13 i14 t15 h17 h18 h19 h20 h21 h22 h23 h26 h29 h30;rotate_left
 revert i0 a1 b2 hh4 hh5 hh6 hh7 h8 h9 h10 d12 j13 i14 t15 h17 h18 h19 h20 h21 h22 h23 h26 h29 h30;rotate_left
 revert i0 a1 b2 hh4 hh5 hh6 hh7 h8 h9 h10 d12 j13 i14 t15 h17 h18 h19 h20 h21 h22 h23 h26 h29 h30;rotate_left
 revert i0 a1 b2 hh4 hh5 hh6 hh7 h8 h9 h10 d12 j13 i14 t15 h17 h18 h19 h20 h21 h22 h23 h26 h29 h30;rotate_left
 revert i0 a1 b2 hh4 hh5 hh6 hh7 h8 h9 h10 d12 j13 i14 t15 h17 h18 h19 h20 h21 h22 h23 h26 h29 h30;rotate_left
 revert i0 a1 b2 hh4 hh5 hh6 hh7 h8 h9 h10 d12 j13 i14 t15 h17 h18 h19 h20 h21 h22 h23 h26 h29 h30;rotate_left
 revert i0 a1 b2 hh4 hh5 hh6 hh7 h8 h9 h10 d12 j13 i14 t15 h17 h18 h19 h20 h21 h22 h23 h26 h29 h30;rotate_left
 revert i0 a1 b2 hh4 hh5 hh6 hh7 h8 h9 h10 d12 j13 i14 t15 h17 h18 h19 h20 h21 h22 h23 h26 h29 h30;rotate_left
 revert i0 a1 b2 hh4 hh5 hh6 hh7 h8 h9 h10 d12 j13 i14 t15 h17 h18 h19 h20 h21 h22 h23 h26 h29;rotate_left
 revert i0 a1 b2 hh4 hh5 hh6 hh7 h8 h9 h10 d12 j13 i14 t15 h17 h18 h19 h20 h21 h22 h23 h26 h29;rotate_left
 revert i0 a1 b2 hh4 hh5 hh6 hh7 h8 h9 h10 d12 j13 i14 t15 h17 h18 h19 h20 h21 h22 h23 h26 h29 h31;rotate_left
 revert i0 a1 b2 hh4 hh5 hh6 hh7 h8 h9 h10 d12 j13 i14 t15 h17 h18 h19 h20 h21 h22 h23 h26 h29 h31;rotate_left
 revert i0 a1 b2 hh4 hh5 hh6 hh7 h8 h9 h10 d12 j13 i14 t15 h17 h18 h19 h20 h21 h22 h23 h26 h29 h31;rotate_left
 revert i0 a1 b2 hh4 hh5 hh6 hh7 h8 h9 h10 d12 j13 i14 t15 h17 h18 h19 h20 h21 h22 h23 h26 h29 h31;rotate_left
 revert i0 a1 b2 hh4 hh5 hh6 hh7 h8 h9 h10 d12 j13 i14 t15 h17 h18 h19 h20 h21 h22 h23 h26 h29 h31;rotate_left
 revert i0 a1 b2 hh4 hh5 hh6 hh7 h8 h9 h10 d12 j13 i14 t15 h17 h18 h19 h20 h21 h22 h23 h26 h29 h31;rotate_left
 revert i0 a1 b2 hh4 hh5 hh6 hh7 h8 h9 h10 d12 j13 i14 t15 h17 h18 h19 h20 h21 h22 h23 h26 h29 h31;rotate_left
 revert i0 a1 b2 hh4 hh5 hh6 hh7 h8 h9 h10 d12 j13 i14 t15 h17 h18 h19 h20 h21 h22 h23 h26;rotate_left
 case g0=>exact⟨by omega,by omega,by simp,by simp,by simp [A2t,B39,J3],by simp [U9,A7t,J3]⟩
 case g1=>intro i a b h0 h1 h2 h3 h4 h5 h6 h7;have:=B1e h h0 h6 h7 h4 h5;exact⟨by omega,by omega,by simp only [List.length_append,List.length_cons,List.length_nil];omega,by simp only [List.length_append,List.length_cons,List.length_nil];omega,this.1,this.2⟩
 case g2=>intro i a b h0 h1 h2 h3 h4 h5 h6 h7;have:=As4 h h0 h6 h7 h4 h5;exact⟨by omega,by omega,by omega,by omega,this.1,this.2⟩
 case g3=>intro i a b h0 h1 h2 h3 h4 h5 h6;obtain⟨e1,e2⟩:=A7w h h6 h4 h5;rw[e1,e2];exact⟨by omega,by omega,by omega,by omega,by omega,by simp,Aj8 _⟩
 case g4=>intro i a b h0 h1 h2 h3 h4 h5 h6 d j k t k0 k1 k2 k3 k4 k5 k6 k7 k8;have:=A5v k0 k1 k2 k3 k6;have:=k6.2.1;exact G6 (by omega)
 case g8 =>
  intro i a b h0 h1 h2 h3 h4 h5 h6 d j k t k0 k1 k2 k3 k4 k5 k6 k7 k8 k9
  have:=As2 k0 k8.1 k2 k3 k8.2 k6
  rw[if_pos (by omega)]at this
  exact⟨by omega,by omega,by omega,by omega,by omega,by simp only [List.length_append,List.length_cons,List.length_nil];omega,this⟩
 case g12 =>
  intro i a b h0 h1 h2 h3 h4 h5 h6 d j k t k0 k1 k2 k3 k4 k5 k6 k7 k8 k9
  have:=As2 k0 k8.1 k2 k3 k8.2 k6
  rw[if_neg (by omega)]at this
  exact⟨by omega,by omega,by omega,by omega,by omega,by omega,this⟩
 case g15=>intro i a b h0 h1 h2 h3 h4 h5 h6 d j k t k0 k1 k2 k3 k4 k5 k6 k7 k8 k9;have:=A5w k0 k1 k2 k3 k7 k8 k6;exact G6 (by omega)
 case g19 =>
  intro i a b h0 h1 h2 h3 h4 h5 h6 d j k t k0 k1 k2 k3 k4 k5 k6 k7 k8 k9
  obtain⟨q1,q2,this⟩:=A5w k0 k1 k2 k3 k7 k8 k6
  rw[if_pos (by omega)]at this
  exact⟨by omega,by omega,by omega,by omega,by omega,by simp only [List.length_append,List.length_cons,List.length_nil];omega,this⟩
 case g21 =>
  intro i a b h0 h1 h2 h3 h4 h5 h6 d j k t k0 k1 k2 k3 k4 k5 k6 k7 k8 k9
  obtain⟨q1,q2,this⟩:=A5w k0 k1 k2 k3 k7 k8 k6
  rw[if_neg (by omega)]at this
  exact⟨by omega,by omega,by omega,by omega,by omega,by omega,this⟩
 case g22 =>
  intro i a b h0 h1 h2 h3 h4 h5 h6 d j k t k0 k1 k2 k3 k4 k5 k6 k7
  obtain⟨e1,e2⟩:=A7w h h6 h4 h5
  rw[e1,e2]at k6 k7
  rw[B1d k7 k6,Ar4]
 all_goals
  intros
  simp only [List.length_mergeSort,List.length_map,List.length_cons,List.length_nil,Go.maxLen]at *
  omega
end Go.Proofs.YtphcaholhacnpaaGreat
namespace Go.Proofs.YtphcaholhacnpaaGreat
open Go.E
set_option maxRecDepth 100000
set_option maxHeartbeats 4000000
def c144(s:Nat→List Int):List AV:=F9 c3 16 s
def tnS(U:Nat→List Run)(r:Nat):List Int:=J0 (U r)
def zT(A B:Nat→List Int)(r:Nat):List Run:=A3n (A r) (B r)
def A5x(A B:Nat→List Int):Prop:=∀ r:Nat,r < 16→(A r).length=(B r).length
def B5c(ps:List Past)(i:Int)(A B:Nat→List Int):Prop:=0≤i∧i≤ps.length∧A5x A B∧A4b ps i (zT A B)
def decMa(ps:List Past)(i:Int)(A B:Nat→List Int):Nat:=(ps.length-i).toNat
def B5d(ps:List Past)(i j:Int)(A B:Nat→List Int):Prop:=0≤j∧j≤(ps[i.toNat]!).vec.length∧j≤16∧A5x A B∧S4 ps i j (zT A B)
def decMb(ps:List Past)(i j:Int)(A B:Nat→List Int):Nat:=((ps[i.toNat]!).vec.length-j).toNat
def B1f(ps:List Past)(i j:Int)(A B:Nat→List Int):Prop:=0≤j∧j≤(ps[i.toNat]!).cloud.length∧A5x A B∧N1 ps i j (zT A B)
def decMc(ps:List Past)(i j:Int)(A B:Nat→List Int):Nat:=((ps[i.toNat]!).cloud.length-j).toNat
def Ad9(U:Nat→List Run)(r:Int)(S:Nat→List Int):Prop:=∀ k:Nat,(k:Int) < r→S k=tnS (B5 U) k
def B5e(A2 B2:Nat→List Int)(r:Int)(A B S:Nat→List Int):Prop:=A=A2∧B=B2∧0≤r∧r≤16∧Ad9 (zT A2 B2) r S
def decMd(r:Int)(A B S:Nat→List Int):Nat:=(16-r).toNat
theorem B3a{A B:Nat→List Int}{k:Nat}{x y:Int}(h:(A k).length=(B k).length)(r:Nat):zT (M0 A k (A k++[x])) (M0 B k (B k++[y])) r=M0 (zT A B) k (zT A B k++[⟨x,y⟩]) r:=by
 unfold zT M0
 by_cases e:r=k
 ·rw[if_pos e,if_pos e,if_pos e]
  unfold A3n
  rw[List.zipWith_append h]
  rfl
 ·rw[if_neg e,if_neg e,if_neg e]
theorem A7x{A B:Nat→List Int}{k:Nat}{x y:Int}(h:A5x A B):A5x (M0 A k (A k++[x])) (M0 B k (B k++[y])):=by
 intro r hr
 have:=h r hr
 unfold M0
 by_cases e:r=k
 ·rw[if_pos e,if_pos e,List.length_append,List.length_append];subst e;simp only [List.length_cons,List.length_nil];omega
 ·rw[if_neg e,if_neg e];exact this
theorem As5{A B:Nat→List Int}(h:A5x A B){r:Nat}(hr:r < 16):(A r).length=(zT A B r).length∧(B r).length=(zT A B r).length:=by
 have:=h r hr
 unfold zT A3n
 rw[List.length_zipWith]
 omega
theorem A9h{U:Nat→List Run}{r:Int}{S:Nat→List Int}(h0:0≤r)(h:Ad9 U r S):Ad9 U (r+1) (M0 S r.toNat (tnS (B5 U) r.toNat)):=by
 intro k hk
 unfold M0
 by_cases e:k=r.toNat
 ·rw[if_pos e,e]
 ·rw[if_neg e];exact h k (by omega)
theorem con162 (ps : List Past) (hb : A1p ps * 16 ≤ 140737488351232) : Con Tryz.prog 162 [.sl (ps.map c26)] (.agg (c144 (tnS (B5 (A3 ps))))) :=
  by
  refine lN 0 c26 (ps) Tryz.func162 fun hl_0=>sC B3 [.cell 2 144] 116 Tryz.func162 ?_
  intro e0 cx
  refine sq<|rG cx [0,2] [2] z0<|sn<|sq<|rG cx [0,2,3,4] [2,3,4] z0<|sn<|sq<|sq<|rG cx [0,2,3,4,5] [2,3,4] z0<|sn<|bL 0<|A03 3 3 1 100300 16 (σ':=⟨[(0,.sl (List.map c26 ps)),(2,.ptr (2) (0) (0) (0)),(3,.ptr (3) (0) (0) (0)),(4,.ptr (4) (0) (0) (0)),(5,.i .i64 ((0:Int)))],[(2,⟨0,144,.var [.nl,.nl,.nl,.nl,.nl,.nl,.nl,.nl,.nl,.nl,.nl,.nl,.nl,.nl,.nl,.nl]⟩),(3,⟨0,142,.var (F3 100300 16)⟩),(4,⟨0,142,.arr [.nl,.nl,.nl,.nl,.nl,.nl,.nl,.nl,.nl,.nl,.nl,.nl,.nl,.nl,.nl,.nl]⟩)]++C4 100300 3 1 16 (c3) (fun x ↦ [])⟩) (by kernel_rfl)<|A03 4 3 1 100400 16 (σ':=⟨[(0,.sl (List.map c26 ps)),(2,.ptr (2) (0) (0) (0)),(3,.ptr (3) (0) (0) (0)),(4,.ptr (4) (0) (0) (0)),(5,.i .i64 ((0:Int)))],[(2,⟨0,144,.var [.nl,.nl,.nl,.nl,.nl,.nl,.nl,.nl,.nl,.nl,.nl,.nl,.nl,.nl,.nl,.nl]⟩),(3,⟨0,142,.var (F3 100300 16)⟩),(4,⟨0,142,.var (F3 100400 16)⟩)]++C4 100300 3 1 16 (c3) (fun x ↦ [])++C4 100400 3 1 16 (c3) (fun x ↦ [])⟩) (by kernel_rfl)<|sL (X:=Int×(Nat→List Int)×(Nat→List Int)) (fun x=>⟨[(0,.sl (List.map c26 ps)),(2,.ptr (2) (0) (0) (0)),(3,.ptr (3) (0) (0) (0)),(4,.ptr (4) (0) (0) (0)),(5,.i .i64 (x.1))],[(2,⟨0,144,.var [.nl,.nl,.nl,.nl,.nl,.nl,.nl,.nl,.nl,.nl,.nl,.nl,.nl,.nl,.nl,.nl]⟩),(3,⟨0,142,.var (F3 100300 16)⟩),(4,⟨0,142,.var (F3 100400 16)⟩)]++C4 100300 3 1 16 (c3) (x.2.1)++C4 100400 3 1 16 (c3) (x.2.2)⟩) (fun x ↦ decMa ps x.1 x.2.1 x.2.2) (fun x ↦ B5c ps x.1 x.2.1 x.2.2) [0,2,3,4,5] ([2,3,4]++List.range' 100300 16++List.range' 100400 16) (((0:Int),fun x ↦ [],fun x ↦ [])) (show B5c ps (0:Int) (fun x ↦ []) fun x ↦ []from ?g0) ?_;rotate_left
  rintro⟨i0,A1,B2⟩ h_3
  obtain⟨hh4,hh5,h6,h7⟩:0≤i0∧i0≤(↑ps.length:Int)∧A5x A1 B2∧A4b ps i0 (zT A1 B2):=h_3
  refine sq<|rD cx [0,2,3,4,5,14] ([2,3,4]++List.range' 100300 16++List.range' 100400 16) (tL 2 c26 ps (zB 3 (i0 <(↑ps.length:Int)))) (fun h8=>?_) fun h8=>?_
  refine sK<|sn<|sq<|bL 1<|sq<|sq<|rG cx [0,2,3,4,5,6] ([2,3,4]++List.range' 100300 16++List.range' 100400 16) z0<|sn<|bL 2<|sL (X:=Int×(Nat→List Int)×(Nat→List Int)) (fun x=>⟨[(0,.sl (List.map c26 ps)),(2,.ptr (2) (0) (0) (0)),(3,.ptr (3) (0) (0) (0)),(4,.ptr (4) (0) (0) (0)),(5,.i .i64 (i0)),(6,.i .i64 (x.1))],[(2,⟨0,144,.var [.nl,.nl,.nl,.nl,.nl,.nl,.nl,.nl,.nl,.nl,.nl,.nl,.nl,.nl,.nl,.nl]⟩),(3,⟨0,142,.var (F3 100300 16)⟩),(4,⟨0,142,.var (F3 100400 16)⟩)]++C4 100300 3 1 16 (c3) (x.2.1)++C4 100400 3 1 16 (c3) (x.2.2)⟩) (fun x ↦ decMb ps i0 x.1 x.2.1 x.2.2) (fun x ↦ B5d ps i0 x.1 x.2.1 x.2.2) [0,2,3,4,5,6] ([2,3,4]++List.range' 100300 16++List.range' 100400 16) (((0:Int),A1,B2)) (show B5d ps i0 (0:Int) A1 B2 from ?g1) ?_;rotate_left
  rintro⟨j9,A10,B11⟩ h_12
  obtain⟨h13,h14,h15,h16,h17⟩:0≤j9∧j9≤(↑ps[i0.toNat]!.vec.length:Int)∧j9≤16∧A5x A10 B11∧S4 ps i0 j9 (zT A10 B11):=h_12
  refine sq<|sq<|A9 (σ':=⟨[(0,.sl (List.map c26 ps)),(2,.ptr (2) (0) (0) (0)),(3,.ptr (3) (0) (0) (0)),(4,.ptr (4) (0) (0) (0)),(5,.i .i64 (i0)),(6,.i .i64 (j9)),(28,.b (decide (j9 <(↑ps[i0.toNat]!.vec.length:Int)∧j9 <(16:Int))))],[(2,⟨0,144,.var [.nl,.nl,.nl,.nl,.nl,.nl,.nl,.nl,.nl,.nl,.nl,.nl,.nl,.nl,.nl,.nl]⟩),(3,⟨0,142,.var (F3 100300 16)⟩),(4,⟨0,142,.var (F3 100400 16)⟩)]++C4 100300 3 1 16 (c3) (A10)++C4 100400 3 1 16 (c3) (B11)⟩) ?_ ?_
  refine A6 (j9 <(↑ps[i0.toNat]!.vec.length:Int)) (fun h_19=>?_) (fun h_19=>?_)
  refine rG cx [0,2,3,4,5,6,28] ([2,3,4]++List.range' 100300 16++List.range' 100400 16) (fA (0≤i0) (fG c26 ps i0.toNat (fR 2 (tL 6 c3 ps[i0.toNat]!.vec (tT 7 (A4 h_19) (tB 10 (j9 <(16:Int)) (tD 11 (decide (j9 <(16:Int))) (j9 <(↑ps[i0.toNat]!.vec.length:Int)∧j9 <(16:Int)) (by simp only [eq_true h_19,tsl]) (oR 3 (c26 ps[i0.toNat]!) z0)))))))) ?_
  exact⟨rfl,by kernel_rfl⟩
  refine rG cx [0,2,3,4,5,6,28] ([2,3,4]++List.range' 100300 16++List.range' 100400 16) (fA (0≤i0) (fG c26 ps i0.toNat (fR 2 (tL 6 c3 ps[i0.toNat]!.vec (tT 7 (A0 h_19) (tD 11 false (j9 <(↑ps[i0.toNat]!.vec.length:Int)∧j9 <(16:Int)) (by simp only [eq_false h_19,tsl]) (oR 3 (c26 ps[i0.toNat]!) z0))))))) ?_
  exact⟨rfl,by kernel_rfl⟩
  refine sn<|dC (j9 <(↑ps[i0.toNat]!.vec.length:Int)∧j9 <(16:Int)) (fun h20=>?_) fun h20=>?_
  refine sK<|sn<|sq<|bL 3<|sq<|A5f (F:=fun kx=>⟨[(0,.sl (List.map c26 ps)),(2,.ptr (2) (0) (0) (0)),(3,.ptr (3) (0) (0) (0)),(4,.ptr (4) (0) (0) (0)),(5,.i .i64 (i0)),(6,.i .i64 (kx)),(28,.b (decide (kx <(↑ps[i0.toNat]!.vec.length:Int)∧kx <(16:Int))))],[(2,⟨0,144,.var [.nl,.nl,.nl,.nl,.nl,.nl,.nl,.nl,.nl,.nl,.nl,.nl,.nl,.nl,.nl,.nl]⟩),(3,⟨0,142,.var (F3 100300 16)⟩),(4,⟨0,142,.var (F3 100400 16)⟩)]++C4 100300 3 1 16 (c3) (A10)++C4 100400 3 1 16 (c3) (B11)⟩) (G:=fun kx=>⟨[(0,.sl (List.map c26 ps)),(2,.ptr (2) (0) (0) (0)),(3,.ptr (3) (0) (0) (0)),(4,.ptr (4) (0) (0) (0)),(5,.i .i64 (i0)),(6,.i .i64 (kx))],[(2,⟨0,144,.var [.nl,.nl,.nl,.nl,.nl,.nl,.nl,.nl,.nl,.nl,.nl,.nl,.nl,.nl,.nl,.nl]⟩),(3,⟨0,142,.var (F3 100300 16)⟩),(4,⟨0,142,.var (F3 100400 16)⟩)]++C4 100300 3 1 16 (c3) (M0 A10 kx.toNat (A10 kx.toNat++[(1:Int)]))++C4 100400 3 1 16 (c3) (B11)⟩) (A:=fun kx=>(0≤kx)∧(kx <(↑(16:Nat):Int))∧(3=(3:Nat))∧((1:Nat)=1)∧([AV.i .i64 (0:Int)].length=(1:Nat))∧(∀(r:List AV),r∈List.map c3 [(1:Int)]→r.length=1)∧((List.map c3 (A10 kx.toNat)).length+(List.map c3 [(1:Int)]).length≤maxLen)∧(((List.map c3 (A10 kx.toNat)).length+(List.map c3 [(1:Int)]).length)*(8:Nat)≤(140737488355328:Nat))∧(List.map c3 (A10 kx.toNat)++List.map c3 [(1:Int)]=List.map c3 (A10 kx.toNat++[(1:Int)]))∧(0≤kx)∧(kx <(↑(16:Nat):Int))) cx (fun kx=>[(5,{ rows:=some (List.map c3 (A10 kx.toNat++[(1:Int)])) })]) [0,2,3,4,5,6] ([2,3,4]++List.range' 100300 16++List.range' 100400 16) (j9) (by(with_reducible assumption)) (by omega) (by kernel_rfl) (by kernel_rfl) ⟨(by show _=_;kernel_rfl),(by show _=_;kernel_rfl),(by show _=_;kernel_rfl),(by show _=_;kernel_rfl),(by show _=_;kernel_rfl),(by show _=_;kernel_rfl),(by show _=_;kernel_rfl),(by show _=_;kernel_rfl),(by show _=_;kernel_rfl),(by show _=_;kernel_rfl),(by show _=_;kernel_rfl),(by show _=_;kernel_rfl),(by show _=_;kernel_rfl),(by show _=_;kernel_rfl),(by show _=_;kernel_rfl),(by show _=_;kernel_rfl)⟩ ⟨(by(with_reducible assumption)),(by omega),(by kernel_rfl),(by kernel_rfl),(by kernel_rfl),(by(with_reducible refine P1 (fun _=>?_) _;kernel_rfl)),?g2,?g3,(by(with_reducible refine U4 ?_;kernel_rfl)),(by(with_reducible assumption)),(by omega)⟩ ?_;rotate_left 2
  refine sn<|W0 (F:=fun kx=>⟨[(0,.sl (List.map c26 ps)),(2,.ptr (2) (0) (0) (0)),(3,.ptr (3) (0) (0) (0)),(4,.ptr (4) (0) (0) (0)),(5,.i .i64 (i0)),(6,.i .i64 (kx))],[(2,⟨0,144,.var [.nl,.nl,.nl,.nl,.nl,.nl,.nl,.nl,.nl,.nl,.nl,.nl,.nl,.nl,.nl,.nl]⟩),(3,⟨0,142,.var (F3 100300 16)⟩),(4,⟨0,142,.var (F3 100400 16)⟩)]++C4 100300 3 1 16 (c3) (M0 A10 kx.toNat (A10 kx.toNat++[(1:Int)]))++C4 100400 3 1 16 (c3) (B11)⟩) (G:=fun kx=>⟨[(0,.sl (List.map c26 ps)),(2,.ptr (2) (0) (0) (0)),(3,.ptr (3) (0) (0) (0)),(4,.ptr (4) (0) (0) (0)),(5,.i .i64 (i0)),(6,.i .i64 (kx))],[(2,⟨0,144,.var [.nl,.nl,.nl,.nl,.nl,.nl,.nl,.nl,.nl,.nl,.nl,.nl,.nl,.nl,.nl,.nl]⟩),(3,⟨0,142,.var (F3 100300 16)⟩),(4,⟨0,142,.var (F3 100400 16)⟩)]++C4 100300 3 1 16 (c3) (M0 A10 kx.toNat (A10 kx.toNat++[(1:Int)]))++C4 100400 3 1 16 (c3) (M0 B11 kx.toNat (B11 kx.toNat++[ps[i0.toNat]!.vec[kx.toNat]!]))⟩) (A:=fun kx=>(0≤kx)∧(kx <(↑(16:Nat):Int))∧(0≤i0)∧((List.map c26 ps)[i0.toNat]?=some (c26 ps[i0.toNat]!))∧((c26 ps[i0.toNat]!).length=(2:Nat))∧(0≤kx)∧((List.map c3 ps[i0.toNat]!.vec)[kx.toNat]?=some (c3 ps[i0.toNat]!.vec[kx.toNat]!))∧((c3 ps[i0.toNat]!.vec[kx.toNat]!).length=(1:Nat))∧(3=(3:Nat))∧((1:Nat)=1)∧([AV.i .i64 (0:Int)].length=(1:Nat))∧(∀(r:List AV),r∈List.map c3 [ps[i0.toNat]!.vec[kx.toNat]!]→r.length=1)∧((List.map c3 (B11 kx.toNat)).length+(List.map c3 [ps[i0.toNat]!.vec[kx.toNat]!]).length≤maxLen)∧(((List.map c3 (B11 kx.toNat)).length+(List.map c3 [ps[i0.toNat]!.vec[kx.toNat]!]).length)*(8:Nat)≤(140737488355328:Nat))∧(List.map c3 (B11 kx.toNat)++List.map c3 [ps[i0.toNat]!.vec[kx.toNat]!]=List.map c3 (B11 kx.toNat++[ps[i0.toNat]!.vec[kx.toNat]!]))∧(0≤kx)∧(kx <(↑(16:Nat):Int))) cx (fun kx=>[(6,{ row:=(c26 ps[i0.toNat]!) }),(10,{ row:=(c3 ps[i0.toNat]!.vec[kx.toNat]!) }),(13,{ rows:=some (List.map c3 (B11 kx.toNat++[ps[i0.toNat]!.vec[kx.toNat]!])) })]) [0,2,3,4,5,6] ([2,3,4]++List.range' 100300 16++List.range' 100400 16) (j9) (by(with_reducible assumption)) (by omega) (by kernel_rfl) (by kernel_rfl) ⟨(by show _=_;kernel_rfl),(by show _=_;kernel_rfl),(by show _=_;kernel_rfl),(by show _=_;kernel_rfl),(by show _=_;kernel_rfl),(by show _=_;kernel_rfl),(by show _=_;kernel_rfl),(by show _=_;kernel_rfl),(by show _=_;kernel_rfl),(by show _=_;kernel_rfl),(by show _=_;kernel_rfl),(by show _=_;kernel_rfl),(by show _=_;kernel_rfl),(by show _=_;kernel_rfl),(by show _=_;kernel_rfl),(by show _=_;kernel_rfl)⟩ ⟨(by(with_reducible assumption)),(by omega),(by(with_reducible assumption)),(by(with_reducible refine G6 ?_;omega)),(by kernel_rfl),(by(with_reducible assumption)),(by(with_reducible refine G6 ?_;omega)),(by kernel_rfl),(by kernel_rfl),(by kernel_rfl),(by kernel_rfl),(by(with_reducible refine P1 (fun _=>?_) _;kernel_rfl)),?g4,?g5,(by(with_reducible refine U4 ?_;kernel_rfl)),(by(with_reducible assumption)),(by omega)⟩ ?_;rotate_left 2
  refine bN<|sn<|rG cx [0,2,3,4,5,6] ([2,3,4]++List.range' 100300 16++List.range' 100400 16) (tW 1 (j9+1) z0)<|sn<|nX ((j9+1,M0 A10 j9.toNat (A10 j9.toNat++[(1:Int)]),M0 B11 j9.toNat (B11 j9.toNat++[ps[i0.toNat]!.vec[j9.toNat]!]))) (show((↑ps[i0.toNat]!.vec.length:Int)-(j9+1)).toNat <((↑ps[i0.toNat]!.vec.length:Int)-j9).toNat from(by omega)) (show B5d ps i0 (j9+1) (M0 A10 j9.toNat (A10 j9.toNat++[(1:Int)])) (M0 B11 j9.toNat (B11 j9.toNat++[ps[i0.toNat]!.vec[j9.toNat]!]))from ?g6);rotate_left
  refine eX 2<|nE<|nE<|bH<|sn<|sq<|rG cx [0,2,3,4,5,7] ([2,3,4]++List.range' 100300 16++List.range' 100400 16) z0<|sn<|bL 4<|sL (X:=Int×(Nat→List Int)×(Nat→List Int)) (fun x=>⟨[(0,.sl (List.map c26 ps)),(2,.ptr (2) (0) (0) (0)),(3,.ptr (3) (0) (0) (0)),(4,.ptr (4) (0) (0) (0)),(5,.i .i64 (i0)),(7,.i .i64 (x.1))],[(2,⟨0,144,.var [.nl,.nl,.nl,.nl,.nl,.nl,.nl,.nl,.nl,.nl,.nl,.nl,.nl,.nl,.nl,.nl]⟩),(3,⟨0,142,.var (F3 100300 16)⟩),(4,⟨0,142,.var (F3 100400 16)⟩)]++C4 100300 3 1 16 (c3) (x.2.1)++C4 100400 3 1 16 (c3) (x.2.2)⟩) (fun x ↦ decMc ps i0 x.1 x.2.1 x.2.2) (fun x ↦ B1f ps i0 x.1 x.2.1 x.2.2) [0,2,3,4,5,7] ([2,3,4]++List.range' 100300 16++List.range' 100400 16) (((0:Int),A10,B11)) (show B1f ps i0 (0:Int) A10 B11 from ?g7) ?_;rotate_left
  rintro⟨j21,A22,B23⟩ h_24
  obtain⟨h25,h26,h27,h28⟩:0≤j21∧j21≤(↑ps[i0.toNat]!.cloud.length:Int)∧A5x A22 B23∧N1 ps i0 j21 (zT A22 B23):=h_24
  refine sq<|rD cx [0,2,3,4,5,7,60] ([2,3,4]++List.range' 100300 16++List.range' 100400 16) (fA (0≤i0) (fG c26 ps i0.toNat (fR 2 (tL 6 B1 ps[i0.toNat]!.cloud (oR 3 (c26 ps[i0.toNat]!) (zB 7 (j21 <(↑ps[i0.toNat]!.cloud.length:Int)))))))) (fun h29=>?_) fun h29=>?_
  refine sK<|sn<|sq<|bL 5<|sq<|rG cx [0,2,3,4,5,7,8] ([2,3,4]++List.range' 100300 16++List.range' 100400 16++[8]) (fA (0≤i0) (fG c26 ps i0.toNat (fR 2 (fA (0≤j21) (fG B1 ps[i0.toNat]!.cloud j21.toNat (fR 3 (fN 3 3 (oR 2 (c26 ps[i0.toNat]!) (oR 6 (B1 ps[i0.toNat]!.cloud[j21.toNat]!) z0)))))))))<|sn<|sq<|A9 (σ':=⟨[(0,.sl (List.map c26 ps)),(2,.ptr (2) (0) (0) (0)),(3,.ptr (3) (0) (0) (0)),(4,.ptr (4) (0) (0) (0)),(5,.i .i64 (i0)),(7,.i .i64 (j21)),(8,.ptr (8) (0) (0) (0)),(78,.b (decide (0≤ps[i0.toNat]!.cloud[j21.toNat]!.rep∧ps[i0.toNat]!.cloud[j21.toNat]!.rep <(16:Int))))],[(2,⟨0,144,.var [.nl,.nl,.nl,.nl,.nl,.nl,.nl,.nl,.nl,.nl,.nl,.nl,.nl,.nl,.nl,.nl]⟩),(3,⟨0,142,.var (F3 100300 16)⟩),(4,⟨0,142,.var (F3 100400 16)⟩)]++C4 100300 3 1 16 (c3) (A22)++C4 100400 3 1 16 (c3) (B23)++[(8,⟨0,141,.var [.i .i64 (ps[i0.toNat]!.cloud[j21.toNat]!.rep),.i .i64 (ps[i0.toNat]!.cloud[j21.toNat]!.lo),.i .i64 (ps[i0.toNat]!.cloud[j21.toNat]!.hi)]⟩)]⟩) ?_ ?_
  refine A6 (0≤ps[i0.toNat]!.cloud[j21.toNat]!.rep) (fun h_31=>?_) (fun h_31=>?_)
  refine rG cx [0,2,3,4,5,7,8,78] ([2,3,4]++List.range' 100300 16++List.range' 100400 16++[8]) (tT 2 (A4 h_31) (tB 6 (ps[i0.toNat]!.cloud[j21.toNat]!.rep <(16:Int)) (tD 7 (decide (ps[i0.toNat]!.cloud[j21.toNat]!.rep <(16:Int))) (0≤ps[i0.toNat]!.cloud[j21.toNat]!.rep∧ps[i0.toNat]!.cloud[j21.toNat]!.rep <(16:Int)) (by simp only [eq_true h_31,tsl]) z0))) ?_
  exact⟨rfl,by kernel_rfl⟩
  refine rG cx [0,2,3,4,5,7,8,78] ([2,3,4]++List.range' 100300 16++List.range' 100400 16++[8]) (tT 2 (A0 h_31) (tD 7 false (0≤ps[i0.toNat]!.cloud[j21.toNat]!.rep∧ps[i0.toNat]!.cloud[j21.toNat]!.rep <(16:Int)) (by simp only [eq_false h_31,tsl]) z0)) ?_
  exact⟨rfl,by kernel_rfl⟩
  refine sn<|dC (0≤ps[i0.toNat]!.cloud[j21.toNat]!.rep∧ps[i0.toNat]!.cloud[j21.toNat]!.rep <(16:Int)) (fun h32=>?_) fun h32=>?_
  refine sq<|W0 (F:=fun kx=>⟨[(0,.sl (List.map c26 ps)),(2,.ptr (2) (0) (0) (0)),(3,.ptr (3) (0) (0) (0)),(4,.ptr (4) (0) (0) (0)),(5,.i .i64 (i0)),(7,.i .i64 (j21)),(8,.ptr (8) (0) (0) (0)),(78,.b (decide (0≤kx∧kx <(16:Int))))],[(2,⟨0,144,.var [.nl,.nl,.nl,.nl,.nl,.nl,.nl,.nl,.nl,.nl,.nl,.nl,.nl,.nl,.nl,.nl]⟩),(3,⟨0,142,.var (F3 100300 16)⟩),(4,⟨0,142,.var (F3 100400 16)⟩)]++C4 100300 3 1 16 (c3) (A22)++C4 100400 3 1 16 (c3) (B23)++[(8,⟨0,141,.var [.i .i64 (kx),.i .i64 (ps[i0.toNat]!.cloud[j21.toNat]!.lo),.i .i64 (ps[i0.toNat]!.cloud[j21.toNat]!.hi)]⟩)]⟩) (G:=fun kx=>⟨[(0,.sl (List.map c26 ps)),(2,.ptr (2) (0) (0) (0)),(3,.ptr (3) (0) (0) (0)),(4,.ptr (4) (0) (0) (0)),(5,.i .i64 (i0)),(7,.i .i64 (j21)),(8,.ptr (8) (0) (0) (0))],[(2,⟨0,144,.var [.nl,.nl,.nl,.nl,.nl,.nl,.nl,.nl,.nl,.nl,.nl,.nl,.nl,.nl,.nl,.nl]⟩),(3,⟨0,142,.var (F3 100300 16)⟩),(4,⟨0,142,.var (F3 100400 16)⟩)]++C4 100300 3 1 16 (c3) (M0 A22 kx.toNat (A22 kx.toNat++[ps[i0.toNat]!.cloud[j21.toNat]!.lo]))++C4 100400 3 1 16 (c3) (B23)++[(8,⟨0,141,.var [.i .i64 (kx),.i .i64 (ps[i0.toNat]!.cloud[j21.toNat]!.lo),.i .i64 (ps[i0.toNat]!.cloud[j21.toNat]!.hi)]⟩)]⟩) (A:=fun kx=>(0≤kx)∧(kx <(↑(16:Nat):Int))∧(3=(3:Nat))∧((1:Nat)=1)∧([AV.i .i64 (0:Int)].length=(1:Nat))∧(∀(r:List AV),r∈List.map c3 [ps[i0.toNat]!.cloud[j21.toNat]!.lo]→r.length=1)∧((List.map c3 (A22 kx.toNat)).length+(List.map c3 [ps[i0.toNat]!.cloud[j21.toNat]!.lo]).length≤maxLen)∧(((List.map c3 (A22 kx.toNat)).length+(List.map c3 [ps[i0.toNat]!.cloud[j21.toNat]!.lo]).length)*(8:Nat)≤(140737488355328:Nat))∧(List.map c3 (A22 kx.toNat)++List.map c3 [ps[i0.toNat]!.cloud[j21.toNat]!.lo]=List.map c3 (A22 kx.toNat++[ps[i0.toNat]!.cloud[j21.toNat]!.lo]))∧(0≤kx)∧(kx <(↑(16:Nat):Int))) cx (fun kx=>[(9,{ rows:=some (List.map c3 (A22 kx.toNat++[ps[i0.toNat]!.cloud[j21.toNat]!.lo])) })]) [0,2,3,4,5,7,8] ([2,3,4]++List.range' 100300 16++List.range' 100400 16++[8]) (ps[i0.toNat]!.cloud[j21.toNat]!.rep) (by omega) (by omega) (by kernel_rfl) (by kernel_rfl) ⟨(by show _=_;kernel_rfl),(by show _=_;kernel_rfl),(by show _=_;kernel_rfl),(by show _=_;kernel_rfl),(by show _=_;kernel_rfl),(by show _=_;kernel_rfl),(by show _=_;kernel_rfl),(by show _=_;kernel_rfl),(by show _=_;kernel_rfl),(by show _=_;kernel_rfl),(by show _=_;kernel_rfl),(by show _=_;kernel_rfl),(by show _=_;kernel_rfl),(by show _=_;kernel_rfl),(by show _=_;kernel_rfl),(by show _=_;kernel_rfl)⟩ ⟨(by omega),(by omega),(by kernel_rfl),(by kernel_rfl),(by kernel_rfl),(by(with_reducible refine P1 (fun _=>?_) _;kernel_rfl)),?g8,?g9,(by(with_reducible refine U4 ?_;kernel_rfl)),(by omega),(by omega)⟩ ?_;rotate_left 2
  refine sn<|W0 (F:=fun kx=>⟨[(0,.sl (List.map c26 ps)),(2,.ptr (2) (0) (0) (0)),(3,.ptr (3) (0) (0) (0)),(4,.ptr (4) (0) (0) (0)),(5,.i .i64 (i0)),(7,.i .i64 (j21)),(8,.ptr (8) (0) (0) (0))],[(2,⟨0,144,.var [.nl,.nl,.nl,.nl,.nl,.nl,.nl,.nl,.nl,.nl,.nl,.nl,.nl,.nl,.nl,.nl]⟩),(3,⟨0,142,.var (F3 100300 16)⟩),(4,⟨0,142,.var (F3 100400 16)⟩)]++C4 100300 3 1 16 (c3) (M0 A22 kx.toNat (A22 kx.toNat++[ps[i0.toNat]!.cloud[j21.toNat]!.lo]))++C4 100400 3 1 16 (c3) (B23)++[(8,⟨0,141,.var [.i .i64 (kx),.i .i64 (ps[i0.toNat]!.cloud[j21.toNat]!.lo),.i .i64 (ps[i0.toNat]!.cloud[j21.toNat]!.hi)]⟩)]⟩) (G:=fun kx=>⟨[(0,.sl (List.map c26 ps)),(2,.ptr (2) (0) (0) (0)),(3,.ptr (3) (0) (0) (0)),(4,.ptr (4) (0) (0) (0)),(5,.i .i64 (i0)),(7,.i .i64 (j21))],[(2,⟨0,144,.var [.nl,.nl,.nl,.nl,.nl,.nl,.nl,.nl,.nl,.nl,.nl,.nl,.nl,.nl,.nl,.nl]⟩),(3,⟨0,142,.var (F3 100300 16)⟩),(4,⟨0,142,.var (F3 100400 16)⟩)]++C4 100300 3 1 16 (c3) (M0 A22 kx.toNat (A22 kx.toNat++[ps[i0.toNat]!.cloud[j21.toNat]!.lo]))++C4 100400 3 1 16 (c3) (M0 B23 kx.toNat (B23 kx.toNat++[ps[i0.toNat]!.cloud[j21.toNat]!.hi]))⟩) (A:=fun kx=>(0≤kx)∧(kx <(↑(16:Nat):Int))∧(3=(3:Nat))∧((1:Nat)=1)∧([AV.i .i64 (0:Int)].length=(1:Nat))∧(∀(r:List AV),r∈List.map c3 [ps[i0.toNat]!.cloud[j21.toNat]!.hi]→r.length=1)∧((List.map c3 (B23 kx.toNat)).length+(List.map c3 [ps[i0.toNat]!.cloud[j21.toNat]!.hi]).length≤maxLen)∧(((List.map c3 (B23 kx.toNat)).length+(List.map c3 [ps[i0.toNat]!.cloud[j21.toNat]!.hi]).length)*(8:Nat)≤(140737488355328:Nat))∧(List.map c3 (B23 kx.toNat)++List.map c3 [ps[i0.toNat]!.cloud[j21.toNat]!.hi]=List.map c3 (B23 kx.toNat++[ps[i0.toNat]!.cloud[j21.toNat]!.hi]))∧(0≤kx)∧(kx <(↑(16:Nat):Int))) cx (fun kx=>[(9,{ rows:=some (List.map c3 (B23 kx.toNat++[ps[i0.toNat]!.cloud[j21.toNat]!.hi])) })]) [0,2,3,4,5,7] ([2,3,4]++List.range' 100300 16++List.range' 100400 16) (ps[i0.toNat]!.cloud[j21.toNat]!.rep) (by omega) (by omega) (by kernel_rfl) (by kernel_rfl) ⟨(by show _=_;kernel_rfl),(by show _=_;kernel_rfl),(by show _=_;kernel_rfl),(by show _=_;kernel_rfl),(by show _=_;kernel_rfl),(by show _=_;kernel_rfl),(by show _=_;kernel_rfl),(by show _=_;kernel_rfl),(by show _=_;kernel_rfl),(by show _=_;kernel_rfl),(by show _=_;kernel_rfl),(by show _=_;kernel_rfl),(by show _=_;kernel_rfl),(by show _=_;kernel_rfl),(by show _=_;kernel_rfl),(by show _=_;kernel_rfl)⟩ ⟨(by omega),(by omega),(by kernel_rfl),(by kernel_rfl),(by kernel_rfl),(by(with_reducible refine P1 (fun _=>?_) _;kernel_rfl)),?g10,?g11,(by(with_reducible refine U4 ?_;kernel_rfl)),(by omega),(by omega)⟩ ?_;rotate_left 2
  refine bN<|sn<|rG cx [0,2,3,4,5,7] ([2,3,4]++List.range' 100300 16++List.range' 100400 16) (tT 1 (B4 (by omega) ?g12:AV.i .i64 (IntKind.i64.wrap (j21+1))=AV.i .i64 (j21+1)) z0) ?_;rotate_left
  refine sn<|nX ((j21+1,M0 A22 ps[i0.toNat]!.cloud[j21.toNat]!.rep.toNat (A22 ps[i0.toNat]!.cloud[j21.toNat]!.rep.toNat++[ps[i0.toNat]!.cloud[j21.toNat]!.lo]),M0 B23 ps[i0.toNat]!.cloud[j21.toNat]!.rep.toNat (B23 ps[i0.toNat]!.cloud[j21.toNat]!.rep.toNat++[ps[i0.toNat]!.cloud[j21.toNat]!.hi]))) (show((↑ps[i0.toNat]!.cloud.length:Int)-(j21+1)).toNat <((↑ps[i0.toNat]!.cloud.length:Int)-j21).toNat from(by omega)) (show B1f ps i0 (j21+1) (M0 A22 ps[i0.toNat]!.cloud[j21.toNat]!.rep.toNat (A22 ps[i0.toNat]!.cloud[j21.toNat]!.rep.toNat++[ps[i0.toNat]!.cloud[j21.toNat]!.lo])) (M0 B23 ps[i0.toNat]!.cloud[j21.toNat]!.rep.toNat (B23 ps[i0.toNat]!.cloud[j21.toNat]!.rep.toNat++[ps[i0.toNat]!.cloud[j21.toNat]!.hi]))from ?g13);rotate_left
  refine sK<|bN<|sn<|rG cx [0,2,3,4,5,7] ([2,3,4]++List.range' 100300 16++List.range' 100400 16) (tT 1 (B4 (by omega) ?g14:AV.i .i64 (IntKind.i64.wrap (j21+1))=AV.i .i64 (j21+1)) z0) ?_;rotate_left
  refine sn<|nX ((j21+1,A22,B23)) (show((↑ps[i0.toNat]!.cloud.length:Int)-(j21+1)).toNat <((↑ps[i0.toNat]!.cloud.length:Int)-j21).toNat from(by omega)) (show B1f ps i0 (j21+1) A22 B23 from ?g15);rotate_left
  refine eX 4<|nE<|nE<|bH<|bN<|sn<|rG cx [0,2,3,4,5] ([2,3,4]++List.range' 100300 16++List.range' 100400 16) (tW 1 (i0+1) z0)<|sn<|nX ((i0+1,A22,B23)) (show((↑ps.length:Int)-(i0+1)).toNat <((↑ps.length:Int)-i0).toNat from(by omega)) (show B5c ps (i0+1) A22 B23 from ?g16);rotate_left
  refine eX 0<|nE<|nE<|bH<|sn<|sq<|L8 (List.range' 100300 16) [0,2,3,4,5,14] ([2,3,4]++List.range' 100400 16) (σ':=⟨[(0,.sl (List.map c26 ps)),(2,.ptr (2) (0) (0) (0)),(3,.ptr (3) (0) (0) (0)),(4,.ptr (4) (0) (0) (0)),(5,.i .i64 (i0)),(14,.b (decide (i0 <(↑ps.length:Int))))],[(2,⟨0,144,.var [.nl,.nl,.nl,.nl,.nl,.nl,.nl,.nl,.nl,.nl,.nl,.nl,.nl,.nl,.nl,.nl]⟩),(3,⟨0,142,.var [.sl (List.map c3 (A1 (0))),.sl (List.map c3 (A1 (1))),.sl (List.map c3 (A1 (2))),.sl (List.map c3 (A1 (3))),.sl (List.map c3 (A1 (4))),.sl (List.map c3 (A1 (5))),.sl (List.map c3 (A1 (6))),.sl (List.map c3 (A1 (7))),.sl (List.map c3 (A1 (8))),.sl (List.map c3 (A1 (9))),.sl (List.map c3 (A1 (10))),.sl (List.map c3 (A1 (11))),.sl (List.map c3 (A1 (12))),.sl (List.map c3 (A1 (13))),.sl (List.map c3 (A1 (14))),.sl (List.map c3 (A1 (15)))]⟩),(4,⟨0,142,.var (F3 100400 16)⟩)]++C4 100400 3 1 16 (c3) (B2)⟩) (by kernel_rfl)<|I9 3 ⟨0,142,.var [.sl (List.map c3 (A1 (0))),.sl (List.map c3 (A1 (1))),.sl (List.map c3 (A1 (2))),.sl (List.map c3 (A1 (3))),.sl (List.map c3 (A1 (4))),.sl (List.map c3 (A1 (5))),.sl (List.map c3 (A1 (6))),.sl (List.map c3 (A1 (7))),.sl (List.map c3 (A1 (8))),.sl (List.map c3 (A1 (9))),.sl (List.map c3 (A1 (10))),.sl (List.map c3 (A1 (11))),.sl (List.map c3 (A1 (12))),.sl (List.map c3 (A1 (13))),.sl (List.map c3 (A1 (14))),.sl (List.map c3 (A1 (15)))]⟩ [.sl (List.map c3 (A1 (0))),.sl (List.map c3 (A1 (1))),.sl (List.map c3 (A1 (2))),.sl (List.map c3 (A1 (3))),.sl (List.map c3 (A1 (4))),.sl (List.map c3 (A1 (5))),.sl (List.map c3 (A1 (6))),.sl (List.map c3 (A1 (7))),.sl (List.map c3 (A1 (8))),.sl (List.map c3 (A1 (9))),.sl (List.map c3 (A1 (10))),.sl (List.map c3 (A1 (11))),.sl (List.map c3 (A1 (12))),.sl (List.map c3 (A1 (13))),.sl (List.map c3 (A1 (14))),.sl (List.map c3 (A1 (15)))] (F9 c3 16 A1) (σ':=⟨[(0,.sl (List.map c26 ps)),(2,.ptr (2) (0) (0) (0)),(3,.ptr (3) (0) (0) (0)),(4,.ptr (4) (0) (0) (0)),(5,.i .i64 (i0)),(14,.b (decide (i0 <(↑ps.length:Int))))],[(2,⟨0,144,.var [.nl,.nl,.nl,.nl,.nl,.nl,.nl,.nl,.nl,.nl,.nl,.nl,.nl,.nl,.nl,.nl]⟩),(3,⟨0,142,.arr (F9 c3 16 A1)⟩),(4,⟨0,142,.var (F3 100400 16)⟩)]++C4 100400 3 1 16 (c3) (B2)⟩) (by kernel_rfl) (by kernel_rfl) (by kernel_rfl) (by kernel_rfl) (ZLe.of_eq (by kernel_rfl)) (by kernel_rfl)<|L8 (List.range' 100400 16) [0,2,3,4,5,14] [2,3,4] (σ':=⟨[(0,.sl (List.map c26 ps)),(2,.ptr (2) (0) (0) (0)),(3,.ptr (3) (0) (0) (0)),(4,.ptr (4) (0) (0) (0)),(5,.i .i64 (i0)),(14,.b (decide (i0 <(↑ps.length:Int))))],[(2,⟨0,144,.var [.nl,.nl,.nl,.nl,.nl,.nl,.nl,.nl,.nl,.nl,.nl,.nl,.nl,.nl,.nl,.nl]⟩),(3,⟨0,142,.arr (F9 c3 16 A1)⟩),(4,⟨0,142,.var [.sl (List.map c3 (B2 (0))),.sl (List.map c3 (B2 (1))),.sl (List.map c3 (B2 (2))),.sl (List.map c3 (B2 (3))),.sl (List.map c3 (B2 (4))),.sl (List.map c3 (B2 (5))),.sl (List.map c3 (B2 (6))),.sl (List.map c3 (B2 (7))),.sl (List.map c3 (B2 (8))),.sl (List.map c3 (B2 (9))),.sl (List.map c3 (B2 (10))),.sl (List.map c3 (B2 (11))),.sl (List.map c3 (B2 (12))),.sl (List.map c3 (B2 (13))),.sl (List.map c3 (B2 (14))),.sl (List.map c3 (B2 (15)))]⟩)]⟩) (by kernel_rfl) ?_
  refine I9 4 ⟨0,142,.var [.sl (List.map c3 (B2 (0))),.sl (List.map c3 (B2 (1))),.sl (List.map c3 (B2 (2))),.sl (List.map c3 (B2 (3))),.sl (List.map c3 (B2 (4))),.sl (List.map c3 (B2 (5))),.sl (List.map c3 (B2 (6))),.sl (List.map c3 (B2 (7))),.sl (List.map c3 (B2 (8))),.sl (List.map c3 (B2 (9))),.sl (List.map c3 (B2 (10))),.sl (List.map c3 (B2 (11))),.sl (List.map c3 (B2 (12))),.sl (List.map c3 (B2 (13))),.sl (List.map c3 (B2 (14))),.sl (List.map c3 (B2 (15)))]⟩ [.sl (List.map c3 (B2 (0))),.sl (List.map c3 (B2 (1))),.sl (List.map c3 (B2 (2))),.sl (List.map c3 (B2 (3))),.sl (List.map c3 (B2 (4))),.sl (List.map c3 (B2 (5))),.sl (List.map c3 (B2 (6))),.sl (List.map c3 (B2 (7))),.sl (List.map c3 (B2 (8))),.sl (List.map c3 (B2 (9))),.sl (List.map c3 (B2 (10))),.sl (List.map c3 (B2 (11))),.sl (List.map c3 (B2 (12))),.sl (List.map c3 (B2 (13))),.sl (List.map c3 (B2 (14))),.sl (List.map c3 (B2 (15)))] (F9 c3 16 B2) (σ':=⟨[(0,.sl (List.map c26 ps)),(2,.ptr (2) (0) (0) (0)),(3,.ptr (3) (0) (0) (0)),(4,.ptr (4) (0) (0) (0)),(5,.i .i64 (i0)),(14,.b (decide (i0 <(↑ps.length:Int))))],[(2,⟨0,144,.var [.nl,.nl,.nl,.nl,.nl,.nl,.nl,.nl,.nl,.nl,.nl,.nl,.nl,.nl,.nl,.nl]⟩),(3,⟨0,142,.arr (F9 c3 16 A1)⟩),(4,⟨0,142,.arr (F9 c3 16 B2)⟩)]⟩) (by kernel_rfl) (by kernel_rfl) (by kernel_rfl) (by kernel_rfl) (ZLe.of_eq (by kernel_rfl)) (by kernel_rfl)<|rG cx [2,3,4,9] [2,3,4,9] z0<|sn<|sq<|sq<|rG cx [2,3,4,9,10] [2,3,4,9] z0<|sn<|bL 6<|I9 9 ⟨0,144,.var [.nl,.nl,.nl,.nl,.nl,.nl,.nl,.nl,.nl,.nl,.nl,.nl,.nl,.nl,.nl,.nl]⟩ [.nl,.nl,.nl,.nl,.nl,.nl,.nl,.nl,.nl,.nl,.nl,.nl,.nl,.nl,.nl,.nl] (F9 c3 16 fun x ↦ []) (σ':=⟨[(2,.ptr (2) (0) (0) (0)),(3,.ptr (3) (0) (0) (0)),(4,.ptr (4) (0) (0) (0)),(9,.ptr (9) (0) (0) (0)),(10,.i .i64 ((0:Int)))],[(2,⟨0,144,.var [.nl,.nl,.nl,.nl,.nl,.nl,.nl,.nl,.nl,.nl,.nl,.nl,.nl,.nl,.nl,.nl]⟩),(3,⟨0,142,.arr (F9 c3 16 A1)⟩),(4,⟨0,142,.arr (F9 c3 16 B2)⟩),(9,⟨0,144,.arr (F9 c3 16 fun x ↦ [])⟩)]⟩) (by kernel_rfl) (by kernel_rfl) (by kernel_rfl) (by kernel_rfl) (B4i c3 16) (by kernel_rfl)<|sL (X:=Int×(Nat→List Int)×(Nat→List Int)×(Nat→List Int)) (fun x=>⟨[(2,.ptr (2) (0) (0) (0)),(3,.ptr (3) (0) (0) (0)),(4,.ptr (4) (0) (0) (0)),(9,.ptr (9) (0) (0) (0)),(10,.i .i64 (x.1))],[(2,⟨0,144,.var [.nl,.nl,.nl,.nl,.nl,.nl,.nl,.nl,.nl,.nl,.nl,.nl,.nl,.nl,.nl,.nl]⟩),(3,⟨0,142,.arr (F9 c3 16 x.2.1)⟩),(4,⟨0,142,.arr (F9 c3 16 x.2.2.1)⟩),(9,⟨0,144,.arr (F9 c3 16 x.2.2.2)⟩)]⟩) (fun x ↦ decMd x.1 x.2.1 x.2.2.1 x.2.2.2) (fun x ↦ B5e A1 B2 x.1 x.2.1 x.2.2.1 x.2.2.2) [2,3,4,9,10] [2,3,4,9] (((0:Int),A1,B2,fun x ↦ [])) (show B5e A1 B2 (0:Int) A1 B2 fun x ↦ []from ?g17) ?_;rotate_left
  rintro⟨r33,A34,B35,S36⟩ h_37
  obtain⟨h38,h39,h40,h41,h42⟩:A34=A1∧B35=B2∧0≤r33∧r33≤16∧Ad9 (zT A1 B2) r33 S36:=h_37
  refine sq<|rD cx [2,3,4,9,10,102] [2,3,4,9] (zB 1 (r33 <(16:Int))) (fun h43=>?_) fun h43=>?_
  refine sK<|sn<|sq<|bL 7 ?_
  have hl_44:=(A0t (A3n (A34 r33.toNat) (B35 r33.toNat)))
  refine rA cx [2,3,4,9,10] [2,3,4,9] (fA (0≤r33) (fO (r33 <(↑(16:Nat):Int)) (fP ((F9 c3 16 A34)[r33.toNat*(1:Nat)+0]?=some (AV.sl (List.map c3 (A34 r33.toNat)))) (by((try simp only [Nat.mul_one,Nat.add_zero,Nat.zero_add]);with_reducible refine E4 ?_;omega)) (fA (0≤r33) (fO (r33 <(↑(16:Nat):Int)) (fP ((F9 c3 16 B35)[r33.toNat*(1:Nat)+0]?=some (AV.sl (List.map c3 (B35 r33.toNat)))) (by((try simp only [Nat.mul_one,Nat.add_zero,Nat.zero_add]);with_reducible refine E4 ?_;omega)) (fT (con206 (A34 r33.toNat) (B35 r33.toNat) ?g18 ?g19) (fA (0≤r33) (fO (r33 <(↑(16:Nat):Int)) (fP (r33.toNat*(1:Nat)+0 <(F9 c3 16 S36).length) ?g20 (fR [(E0 (AV.sl (List.map c3 (J0 (nrm (A3n (A34 r33.toNat) (B35 r33.toNat))))))).headD AV.dead] (fP ((F9 c3 16 S36).set (r33.toNat*(1:Nat)+0) ((E0 (AV.sl (List.map c3 (J0 (nrm (A3n (A34 r33.toNat) (B35 r33.toNat))))))).headD AV.dead)=F9 c3 16 (M0 S36 r33.toNat (J0 (nrm (A3n (A34 r33.toNat) (B35 r33.toNat)))))) (by((try simp only [Nat.mul_one,Nat.add_zero,Nat.zero_add]);(with_reducible refine Ap3 ?_);exact Eq.refl _)) (oR 3 [.sl (List.map c3 (A34 r33.toNat))] (oR 6 [.sl (List.map c3 (B35 r33.toNat))] (oA 7 (.sl (List.map c3 (J0 (nrm (A3n (A34 r33.toNat) (B35 r33.toNat)))))) (oV 10 { rows:=some [(F9 c3 16 (M0 S36 r33.toNat (J0 (nrm (A3n (A34 r33.toNat) (B35 r33.toNat))))))] } z0)))))))))))))))) ?_;rotate_left 3
  refine bN<|sn<|rG cx [2,3,4,9,10] [2,3,4,9] (tW 1 (r33+1) z0)<|sn<|nX ((r33+1,A34,B35,M0 S36 r33.toNat (J0 (nrm (A3n (A34 r33.toNat) (B35 r33.toNat)))))) (show(16-(r33+1)).toNat <(16-r33).toNat from(by omega)) (show B5e A1 B2 (r33+1) A34 B35 (M0 S36 r33.toNat (J0 (nrm (A3n (A34 r33.toNat) (B35 r33.toNat)))))from ?g21);rotate_left
  refine eX 6<|nE<|nE<|bH<|sn<|sq<|rG cx [2] [2] (fR 16 z0)<|sn<|rT<|qR (.agg [.sl (List.map c3 (S36 (0))),.sl (List.map c3 (S36 (1))),.sl (List.map c3 (S36 (2))),.sl (List.map c3 (S36 (3))),.sl (List.map c3 (S36 (4))),.sl (List.map c3 (S36 (5))),.sl (List.map c3 (S36 (6))),.sl (List.map c3 (S36 (7))),.sl (List.map c3 (S36 (8))),.sl (List.map c3 (S36 (9))),.sl (List.map c3 (S36 (10))),.sl (List.map c3 (S36 (11))),.sl (List.map c3 (S36 (12))),.sl (List.map c3 (S36 (13))),.sl (List.map c3 (S36 (14))),.sl (List.map c3 (S36 (15)))]) (.eq ?g22);rotate_left
  rotate_left
  revert i0 A1 B2 hh4 hh5 h6 h7 h8;rotate_left
  revert i0 A1 B2 hh4 hh5 h6 h7 h8 j9 A10 B11 h13 h14 h15 h16 h17 h20;rotate_left
  revert i0 A1 B2 hh4 hh5 h6 h7 h8 j9 A10 B11 h13 h14 h15 h16 h17 h20;rotate_left
  revert i0 A1 B2 hh4 hh5 h6 h7 h8 j9 A10 B11 h13 h14 h15 h16 h17 h20;rotate_left
  revert i0 A1 B2 hh4 hh5 h6 h7 h8 j9 A10 B11 h13 h14 h15 h16 h17 h20;rotate_left
  revert i0 A1 B2 hh4 hh5 h6 h7 h8 j9 A10 B11 h13 h14 h15 h16 h17 h20;rotate_left
  revert i0 A1 B2 hh4 hh5 h6 h7 h8 j9 A10 B11 h13 h14 h15 h16 h17 h20;rotate_left
  revert i0 A1 B2 hh4 hh5 h6 h7 h8 j9 A10 B11 h13 h14 h15 h16 h17 h20 j21 A22 B23 h25 h26 h27 h28 h29 h32;rotate_left
  revert i0 A1 B2 hh4 hh5 h6 h7 h8 j9 A10 B11 h13 h14 h15 h16 h17 h20 j21 A22 B23 h25 h26 h27 h28 h29 h32;rotate_left
  revert i0 A1 B2 hh4 hh5 h6 h7 h8 j9 A10 B11 h13 h14 h15 h16 h17 h20 j21 A22 B23 h25 h26 h27 h28 h29 h32;rotate_left
  revert i0 A1 B2 hh4 hh5 h6 h7 h8 j9 A10 B11 h13 h14 h15 h16 h17 h20 j21 A22 B23 h25 h26 h27 h28 h29 h32;rotate_left
  revert i0 A1 B2 hh4 hh5 h6 h7 h8 j9 A10 B11 h13 h14 h15 h16 h17 h20 j21 A22 B23 h25 h26 h27 h28 h29 h32;rotate_left
  revert i0 A1 B2 hh4 hh5 h6 h7 h8 j9 A10 B11 h13 h14 h15 h16 h17 h20 j21 A22 B23 h25 h26 h27 h28 h29 h32;rotate_left
  revert i0 A1 B2 hh4 hh5 h6 h7 h8 j9 A10 B11 h13 h14 h15 h16 h17 h20 j21 A22 B23 h25 h26 h27 h28 h29 h32;rotate_left
  revert i0 A1 B2 hh4 hh5 h6 h7 h8 j9 A10 B11 h13 h14 h15 h16 h17 h20 j21 A22 B23 h25 h26 h27 h28 h29 h32;rotate_left
  revert i0 A1 B2 hh4 hh5 h6 h7 h8 j9 A10 B11 h13 h14 h15 h16 h17 h20 j21 A22 B23 h25 h26 h27 h28 h29;rotate_left
  revert i0 A1 B2 hh4 hh5 h6 h7 h8;rotate_left
  clear hl_44;revert i0 A1 B2 hh4 hh5 h6 h7 h8 r33 A34 B35 S36 h38 h39 h40 h41 h42 h43;rotate_left
  clear hl_44;revert i0 A1 B2 hh4 hh5 h6 h7 h8 r33 A34 B35 S36 h38 h39 h40 h41 h42 h43;rotate_left
  clear hl_44;revert i0 A1 B2 hh4 hh5 h6 h7 h8 r33 A34 B35 S36 h38 h39 h40 h41 h42 h43;rotate_left
  clear hl_44;revert i0 A1 B2 hh4 hh5 h6 h7 h8 r33 A34 B35 S36 h38 h39 h40 h41 h42 h43;rotate_left
  revert i0 A1 B2 hh4 hh5 h6 h7 h8 r33 A34 B35 S36 h38 h39 h40 h41 h42 h43;rotate_left
  case g0=>exact⟨by omega,by omega,fun r _=>rfl,fun r _=>rfl⟩
  case g1=>intro i A B h0 h1 h3 h4 h5;exact⟨by omega,by omega,by omega,h3,A2n h4⟩
  case g6 =>
    intro i A B h0 h1 h3 h4 h5 j X Y k0 k1 k2 k4 k5 k6
    exact⟨by omega,by omega,by omega,A7x k4,fun r hr=>by rw[B3a (k4 _ (by omega))];exact A4d k0 k6.1 k5 r hr⟩
  case g7=>intro i A B h0 h1 h3 h4 h5 j X Y k0 k1 k2 k4 k5 k6;exact⟨by omega,by omega,k4,A2o (by omega) (by omega) k5⟩
  case g13 =>
    intro i A B h0 h1 h3 h4 h5 j X Y k0 k1 k2 k4 k5 k6 l V W m0 m1 m3 m4 m5 m6
    exact⟨by omega,by omega,A7x m3,fun r hr=>by rw[B3a (m3 _ (by omega))];exact Ac5 m0 m5 m6 m4 r hr⟩
  case g15=>intro i A B h0 h1 h3 h4 h5 j X Y k0 k1 k2 k4 k5 k6 l V W m0 m1 m3 m4 m5 m6;exact⟨by omega,by omega,m3,A7p m0 m5 m6 m4⟩
  case g16=>intro i A B h0 h1 h3 h4 h5 j X Y k0 k1 k2 k4 k5 k6 l V W m0 m1 m3 m4 m5;exact⟨by omega,by omega,m3,A7q h0 h5 m5 m4⟩
  case g17=>intro i A B h0 h1 h3 h4 h5;exact⟨rfl,rfl,by omega,by omega,fun k hk=>by omega⟩
  case g18=>intro i A B h0 h1 h3 h4 h5 r X Y S k0 k1 k2 k3 k4 k5;subst k0 k1;exact h3 _ (by omega)
  case g19 =>
    intro i A B h0 h1 h3 h4 h5 r X Y S k0 k1 k2 k3 k4 k5
    subst k0 k1
    have:=As5 h3 (r:=r.toNat) (by omega)
    have:=N2 r.toNat (ps.take i.toNat)
    rw[h4 _ (by omega)]at *
    rw[List.take_of_length_le (by omega)]at *
    omega
  case g20=>intro i A B h0 h1 h3 h4 h5 r X Y S k0 k1 k2 k3 k4 k5;rw[V9];omega
  case g21=>intro i A B h0 h1 h3 h4 h5 r X Y S k0 k1 k2 k3 k4 k5;subst k0 k1;exact⟨rfl,rfl,by omega,by omega,A9h k2 k4⟩
  case g22 =>
    intro i A B h0 h1 h3 h4 h5 r X Y S k0 k1 k2 k3 k4 k5
    congr 1
    show F9 c3 16 S=F9 c3 16 _
    unfold F9
    refine List.map_congr_left fun q hq=>?_
    have hq:q < 16:=by simpa using hq
    rw[k4 q (by omega)]
    unfold tnS B5
    rw[h4 q hq,List.take_of_length_le (by omega)]
  all_goals
    intro i A B h0 h1 h3 h4 h5 j X Y k0 k1 k2 k4 k5 k6
    first
    | (have l1 := A2p h0 h5 k5 (r := j.toNat) (by omega) (by omega)
       have l2:=As5 k4 (r:=j.toNat) (by omega)
       simp only [List.length_map,List.length_cons,List.length_nil,Go.maxLen]
       omega)
    | (intro l V W m0 m1 m3 m4 m5 m6
       have l0:=Q1 h0 h5 m0 m5 m4 (r:=0) (by omega)
       first
       | omega
       | (have l1 := Q1 h0 h5 m0 m5 m4 (r := ((ps[i.toNat]!).cloud[l.toNat]!).rep.toNat) (by omega)
          have l2:=As5 m3 (r:=((ps[i.toNat]!).cloud[l.toNat]!).rep.toNat) (by omega)
          simp only [List.length_map,List.length_cons,List.length_nil,Go.maxLen]
          omega))
end Go.Proofs.YtphcaholhacnpaaGreat
namespace Go.Proofs.YtphcaholhacnpaaGreat
open Go.E
set_option maxRecDepth 100000
set_option maxHeartbeats 4000000
def B5f(U:Nat→List Run)(n r:Int)(S:Nat→List Int)(v:List Int)(c:List Span):Prop:=S=tnS U∧0≤r∧r≤16∧0≤n∧n≤r∧v.length=16∧Aq5 U r n∧Y5 U r v∧I7 U r c
def decFa(n r:Int)(S:Nat→List Int)(v:List Int)(c:List Span):Nat:=(16-r).toNat
def Aj9(U:Nat→List Run)(r n0:Int)(v0:List Int)(c0:List Span)(k n:Int)(v:List Int)(c:List Span):Prop :=
 n=(if 0 <(B8 ((U r.toNat).take (k / 2).toNat)).1 then r+1 else n0)∧v=v0.set r.toNat (B8 ((U r.toNat).take (k / 2).toNat)).1∧c=c0++(B8 ((U r.toNat).take (k / 2).toNat)).2.map fun x=>(⟨r,x.lo,x.hi⟩:Span)
def B1g(U:Nat→List Run)(r n0:Int)(v0:List Int)(c0:List Span)(n k:Int)(S:Nat→List Int)(v:List Int)(c:List Span):Prop:=S=tnS U∧0≤k∧k≤2*(U r.toNat).length∧2*(k / 2)=k∧v.length=16∧0≤n∧n≤r+1∧Aj9 U r n0 v0 c0 k n v c
def decFb(U:Nat→List Run)(r:Int)(n k:Int)(S:Nat→List Int)(v:List Int)(c:List Span):Nat:=(2*(U r.toNat).length-k).toNat
theorem A0b(l:List Run):(J0 l).length=2*l.length:=by
 induction l with
 | nil=>rfl
 | cons r l ih =>
  have:J0 (r :: l)=r.lo ::(r.hi+1) :: J0 l:=rfl
  rw[this];simp only [List.length_cons,ih];omega
theorem A1q:∀ {l:List Run} {j:Nat},j < l.length→(J0 l)[2*j]! = l[j]!.lo∧(J0 l)[2*j+1]! = l[j]!.hi+1
 | r :: l,0,_=>⟨rfl,rfl⟩
 | r :: l,j+1,h=>by
  have e:J0 (r :: l)=r.lo ::(r.hi+1) :: J0 l:=rfl
  have ih:=A1q (l:=l) (j:=j) (by simpa using h)
  rw[e,show 2*(j+1)=2*j+1+1 by omega]
  simpa using ih
theorem B1h{x:Run}(h:x.lo=1):B8 [x]=(x.hi,[]):=by
 unfold B8
 rw[if_neg]
 ·rfl
 ·rintro(k | k)
  ·cases k
  ·exact k h
theorem As6{P:List Run}{x:Run}(h:P=[]→¬ x.lo=1):B8 (P++[x])=((B8 P).1,(B8 P).2++[x]):=by
 cases P with
 | nil =>
  show B8 [x]=_
  unfold B8
  rw[if_pos (.inr (h rfl)),if_pos (.inl rfl)]
  rfl
 | cons y P =>
  unfold B8
  by_cases hy:y.lo=1
  ·rw[if_neg,if_neg]
   ·simp
   ·simpa using hy
   ·simpa using hy
  ·rw[if_pos,if_pos]
   ·simpa using hy
   ·simpa using hy
theorem B1i(P:List Run):(B8 P).2.length≤P.length:=by
 unfold B8
 split
 ·exact Nat.le_refl _
 ·simp
theorem Ak0{U:Nat→List Run}{r n0:Int}{v0:List Int}{c0:List Span}(h0:0≤r)(h1:r < 16)(hv:Y5 U r v0):Aj9 U r n0 v0 c0 0 n0 v0 c0:=by
 unfold Aj9
 refine⟨?_,?_,?_⟩
 ·show n0=if(0:Int) <(B8 []).1 then _ else _
  rw[A09,if_neg (by omega)]
 ·show v0=v0.set r.toNat (B8 []).1
  rw[A09]
  unfold Y5 A48 at hv
  have e:16-r.toNat=(15-r.toNat)+1:=by omega
  rw[hv,List.set_append_right _ _ (by simp),List.length_map,List.length_range,Nat.sub_self,e,List.replicate_succ,List.set_cons_zero]
 ·show c0=c0++List.map _ (B8 []).2
  rw[A09];simp
theorem As7{l:List Run}{k:Int}(h0:0≤k)(he:2*(k / 2)=k)(hk:k+1 < 2*l.length):l.take ((k+2) / 2).toNat=l.take (k / 2).toNat++[l[(k / 2).toNat]!]:=by
 have:=D9 (a:=l) (i:=k / 2) (by omega) (by omega)
 rw[show((k+2) / 2).toNat=(k / 2+1).toNat by omega,this]
theorem B1j{U:Nat→List Run}{r n0 n k:Int}{v0 v:List Int}{c0 c:List Span}(hU:S7 (U r.toNat))(h0:0≤k)(he:2*(k / 2)=k)(hk:k+1 < 2*(U r.toNat).length)(hlo:(U r.toNat)[(k / 2).toNat]!.lo=1)(h:Aj9 U r n0 v0 c0 k n v c) :
  Aj9 U r n0 v0 c0 (k+2) (r+1) (v.set r.toNat (U r.toNat)[(k / 2).toNat]!.hi) c:=by
 have h1:=A95 hU (k / 2).toNat (by omega)
 have h2:=hU.2 _ (E1 (l:=U r.toNat) (i:=(k / 2).toNat) (by omega))
 have hz:k=0:=by omega
 subst hz
 unfold Aj9 at *
 rw[As7 h0 he hk]
 obtain⟨a1,a2,a3⟩:=h
 have e:(U r.toNat).take ((0:Int) / 2).toNat=[]:=by simp
 rw[e]at a1 a2 a3 ⊢
 rw[List.nil_append,B1h hlo]
 rw[A09]at a2 a3
 refine⟨?_,?_,?_⟩
 ·rw[if_pos (show(0:Int) <(U r.toNat)[((0:Int) / 2).toNat]!.hi by omega)]
 ·rw[a2,List.set_set]
 ·exact a3
theorem As8{U:Nat→List Run}{r n0 n k:Int}{v0 v:List Int}{c0 c:List Span}(h0:0≤k)(he:2*(k / 2)=k)(hk:k+1 < 2*(U r.toNat).length)(hlo:¬(U r.toNat)[(k / 2).toNat]!.lo=1)(h:Aj9 U r n0 v0 c0 k n v c) :
  Aj9 U r n0 v0 c0 (k+2) n v (c++[⟨r,(U r.toNat)[(k / 2).toNat]!.lo,(U r.toNat)[(k / 2).toNat]!.hi⟩]):=by
 unfold Aj9 at *
 rw[As7 h0 he hk,As6 (fun _=>hlo)]
 obtain⟨a1,a2,a3⟩:=h
 refine⟨a1,a2,?_⟩
 rw[a3,List.map_append,List.append_assoc]
 rfl
theorem B1k{U:Nat→List Run}{r n0 n k:Int}{v0 v:List Int}{c0 c:List Span}(hU:S7 (U r.toNat))(r0:0≤r)(r1:r < 16)(hs:Aq5 U r n0)(hv:Y5 U r v0)(hc:I7 U r c0)(h0:0≤k)(he:2*(k / 2)=k)(hk:¬ k+1 < 2*(U r.toNat).length)(hl:k≤2*(U r.toNat).length)
  (h:Aj9 U r n0 v0 c0 k n v c):Aq5 U (r+1) n∧Y5 U (r+1) v∧I7 U (r+1) c:=by
 unfold Aj9 at h
 rw[List.take_of_length_le (by omega)]at h
 obtain⟨a1,a2,a3⟩:=h
 have g1:=A96 r0 hs
 have g2:=A5m r0 r1 hv
 rw[Ac9 hU]at g1 g2
 rw[a1,a2]
 refine⟨g1,g2,?_⟩
 unfold I7 at *
 rw[show(r+1).toNat=r.toNat+1 by omega,H3,R9,Ac9 hU,a3,hc,show((r.toNat:Nat):Int)=r by omega]
theorem A7y{U:Nat→List Run}{r k:Int}(h0:0≤k)(he:2*(k / 2)=k)(hk:k+1 < 2*(U r.toNat).length):(tnS U r.toNat)[k.toNat]! =(U r.toNat)[(k / 2).toNat]!.lo∧(tnS U r.toNat)[(k+1).toNat]! =(U r.toNat)[(k / 2).toNat]!.hi+1:=by
 have:=A1q (l:=U r.toNat) (j:=(k / 2).toNat) (by omega)
 unfold tnS
 rw[show k.toNat=2*(k / 2).toNat by omega,show(k+1).toNat=2*(k / 2).toNat+1 by omega]
 exact this
theorem B1l{U:Nat→List Run}{r n0 n k:Int}{v0 v:List Int}{c0 c:List Span}(hU:S7 (U r.toNat))(r0:0≤r)(r1:r < 16)(hc:I7 U r c0)(h:Aj9 U r n0 v0 c0 k n v c):c.length≤8000000000:=by
 obtain⟨_,_,a3⟩:=h
 have h1:=A07 U r.toNat
 have h2:=B1i ((U r.toNat).take (k / 2).toNat)
 have h3:=W3 hU
 unfold I7 at hc
 rw[List.length_take]at h2
 rw[a3,List.length_append,List.length_map,hc]
 omega
theorem con124 (U : Nat → List Run) (hU : ∀ r : Nat, r < 16 → S7 (U r)) : Con Tryz.prog 124 [.agg (c144 (tnS U))] (.agg (c26 (H9 U))) :=
  by
  refine sC B3 [.cell 2 26] 73 Tryz.func124 ?_
  intro e0 cx
  refine sq<|rG cx [1,2] [1,2] z0<|sn<|sq<|rG cx [1,2,3] [1,2,3] z0<|sn<|sq<|rG cx [1,2,3,4] [1,2,3,8] (fR (↑(16:Nat):Int) (fR (↑(16:Nat):Int) (fO ((8:Nat)*(16:Nat)≤(281474976710656:Nat)) (fP ((16:Nat)≤maxLen) (by(simp only [Go.maxLen];omega)) (fR 1 (fP (ZLe [AV.i .i64 (0:Int)] [AV.i .i64 (0:Int)]) (by(with_reducible exact ZLe.refl _)) (fP (List.replicate (16:Nat) [AV.i .i64 (0:Int)]=List.map c3 (List.replicate (16:Nat) (0:Int))) (by(with_reducible refine A5c ?_;kernel_rfl)) (oV 0 { row:=[.i .i64 ((0:Int))],rows:=some (List.map c3 (List.replicate (16:Nat) (0:Int))),n:=(16:Nat) } z0)))))))) ?_
  refine sn<|sq<|rG cx [1,2,3,4,5] [1,2,3,8] z0<|sn<|sq<|sq<|rG cx [1,2,3,4,5,6] [1,2,3,8] z0<|sn<|bL 0<|A3y 3 141 3 1 5301 (σ':=⟨[(1,.ptr (1) (0) (0) (0)),(2,.ptr (2) (0) (0) (0)),(3,.ptr (3) (0) (0) (0)),(4,.own 8 0),(5,.i .i64 ((0:Int))),(6,.i .i64 ((0:Int)))],[(1,⟨0,144,.var [.sl (List.map c3 (tnS U (0))),.sl (List.map c3 (tnS U (1))),.sl (List.map c3 (tnS U (2))),.sl (List.map c3 (tnS U (3))),.sl (List.map c3 (tnS U (4))),.sl (List.map c3 (tnS U (5))),.sl (List.map c3 (tnS U (6))),.sl (List.map c3 (tnS U (7))),.sl (List.map c3 (tnS U (8))),.sl (List.map c3 (tnS U (9))),.sl (List.map c3 (tnS U (10))),.sl (List.map c3 (tnS U (11))),.sl (List.map c3 (tnS U (12))),.sl (List.map c3 (tnS U (13))),.sl (List.map c3 (tnS U (14))),.sl (List.map c3 (tnS U (15)))]⟩),(2,⟨0,26,.var [.nl,.nl]⟩),(3,⟨0,26,.var [.nl,.own 5301 0]⟩),(8,⟨0,3,.row 1 (List.map c3 (List.replicate (16:Nat) (0:Int)))⟩),(5301,⟨0,141,.row 3 (List.map B1 [])⟩)]⟩) (by kernel_rfl)<|I9 1 ⟨0,144,.var [.sl (List.map c3 (tnS U (0))),.sl (List.map c3 (tnS U (1))),.sl (List.map c3 (tnS U (2))),.sl (List.map c3 (tnS U (3))),.sl (List.map c3 (tnS U (4))),.sl (List.map c3 (tnS U (5))),.sl (List.map c3 (tnS U (6))),.sl (List.map c3 (tnS U (7))),.sl (List.map c3 (tnS U (8))),.sl (List.map c3 (tnS U (9))),.sl (List.map c3 (tnS U (10))),.sl (List.map c3 (tnS U (11))),.sl (List.map c3 (tnS U (12))),.sl (List.map c3 (tnS U (13))),.sl (List.map c3 (tnS U (14))),.sl (List.map c3 (tnS U (15)))]⟩ [.sl (List.map c3 (tnS U (0))),.sl (List.map c3 (tnS U (1))),.sl (List.map c3 (tnS U (2))),.sl (List.map c3 (tnS U (3))),.sl (List.map c3 (tnS U (4))),.sl (List.map c3 (tnS U (5))),.sl (List.map c3 (tnS U (6))),.sl (List.map c3 (tnS U (7))),.sl (List.map c3 (tnS U (8))),.sl (List.map c3 (tnS U (9))),.sl (List.map c3 (tnS U (10))),.sl (List.map c3 (tnS U (11))),.sl (List.map c3 (tnS U (12))),.sl (List.map c3 (tnS U (13))),.sl (List.map c3 (tnS U (14))),.sl (List.map c3 (tnS U (15)))] (F9 c3 16 (tnS U)) (σ':=⟨[(1,.ptr (1) (0) (0) (0)),(2,.ptr (2) (0) (0) (0)),(3,.ptr (3) (0) (0) (0)),(4,.own 8 0),(5,.i .i64 ((0:Int))),(6,.i .i64 ((0:Int)))],[(1,⟨0,144,.arr (F9 c3 16 (tnS U))⟩),(2,⟨0,26,.var [.nl,.nl]⟩),(3,⟨0,26,.var [.nl,.own 5301 0]⟩),(8,⟨0,3,.row 1 (List.map c3 (List.replicate (16:Nat) (0:Int)))⟩),(5301,⟨0,141,.row 3 (List.map B1 [])⟩)]⟩) (by kernel_rfl) (by kernel_rfl) (by kernel_rfl) (by kernel_rfl) (ZLe.of_eq (by kernel_rfl)) (by kernel_rfl)<|sL (X:=Int×Int×(Nat→List Int)×List Int×List Span) (fun x=>⟨[(1,.ptr (1) (0) (0) (0)),(2,.ptr (2) (0) (0) (0)),(3,.ptr (3) (0) (0) (0)),(4,.own 8 0),(5,.i .i64 (x.1)),(6,.i .i64 (x.2.1))],[(1,⟨0,144,.arr (F9 c3 16 x.2.2.1)⟩),(2,⟨0,26,.var [.nl,.nl]⟩),(3,⟨0,26,.var [.nl,.own 5301 0]⟩),(8,⟨0,3,.row 1 (List.map c3 x.2.2.2.1)⟩),(5301,⟨0,141,.row 3 (List.map B1 x.2.2.2.2)⟩)]⟩) (fun x ↦ decFa x.1 x.2.1 x.2.2.1 x.2.2.2.1 x.2.2.2.2) (fun x ↦ B5f U x.1 x.2.1 x.2.2.1 x.2.2.2.1 x.2.2.2.2) [1,2,3,4,5,6] [1,2,3,8,5301] (((0:Int),(0:Int),tnS U,List.replicate (16:Nat) (0:Int),[])) (show B5f U (0:Int) (0:Int) (tnS U) (List.replicate (16:Nat) (0:Int)) []from ?g0) ?_;rotate_left
  rintro⟨n0,r1,S2,v3,c4⟩ h_5
  obtain⟨hh6,hh7,hh8,hh9,h10,h11,h12,h13,h14⟩:S2=tnS U∧0≤r1∧r1≤16∧0≤n0∧n0≤r1∧v3.length=(16:Nat)∧Aq5 U r1 n0∧Y5 U r1 v3∧I7 U r1 c4:=h_5
  refine sq<|rD cx [1,2,3,4,5,6,10] [1,2,3,8,5301] (zB 1 (r1 <(16:Int))) (fun h15=>?_) fun h15=>?_
  refine sK<|sn<|sq<|bL 1<|sq<|rG cx [1,2,3,4,5,6,7] [1,2,3,8,5301] z0<|sn<|bL 2<|sL (X:=Int×Int×(Nat→List Int)×List Int×List Span) (fun x=>⟨[(1,.ptr (1) (0) (0) (0)),(2,.ptr (2) (0) (0) (0)),(3,.ptr (3) (0) (0) (0)),(4,.own 8 0),(5,.i .i64 (x.1)),(6,.i .i64 (r1)),(7,.i .i64 (x.2.1))],[(1,⟨0,144,.arr (F9 c3 16 x.2.2.1)⟩),(2,⟨0,26,.var [.nl,.nl]⟩),(3,⟨0,26,.var [.nl,.own 5301 0]⟩),(8,⟨0,3,.row 1 (List.map c3 x.2.2.2.1)⟩),(5301,⟨0,141,.row 3 (List.map B1 x.2.2.2.2)⟩)]⟩) (fun x ↦ decFb U r1 x.1 x.2.1 x.2.2.1 x.2.2.2.1 x.2.2.2.2) (fun x ↦ B1g U r1 n0 v3 c4 x.1 x.2.1 x.2.2.1 x.2.2.2.1 x.2.2.2.2) [1,2,3,4,5,6,7] [1,2,3,8,5301] ((n0,(0:Int),S2,v3,c4)) (show B1g U r1 n0 v3 c4 n0 (0:Int) S2 v3 c4 from ?g1) ?_;rotate_left
  rintro⟨n16,k17,S18,v19,c20⟩ h_21
  obtain⟨h22,h23,h24,h25,h26,h27,h28,h29⟩:S18=tnS U∧0≤k17∧k17≤(2:Int)*(↑(U r1.toNat).length:Int)∧(2:Int)*(k17 / (2:Int))=k17∧v19.length=(16:Nat)∧0≤n16∧n16≤r1+1∧Aj9 U r1 n0 v3 c4 k17 n16 v19 c20:=h_21
  refine sq<|sq<|rG cx [1,2,3,4,5,6,7,20] [1,2,3,8,5301] (tT 1 (B4 (by omega) ?g2:AV.i .i64 (IntKind.i64.wrap (k17+1))=AV.i .i64 (k17+1)) (fA (0≤r1) (fO (r1 <(↑(16:Nat):Int)) (fP ((F9 c3 16 S18)[r1.toNat*(1:Nat)+0]?=some (AV.sl (List.map c3 (S18 r1.toNat)))) (by((try simp only [Nat.mul_one,Nat.add_zero,Nat.zero_add]);with_reducible refine E4 ?_;omega)) (tL 6 c3 (S18 r1.toNat) (tB 7 (k17+1 <(↑(S18 r1.toNat).length:Int)) (oR 5 [.sl (List.map c3 (S18 r1.toNat))] z0))))))) ?_;rotate_left
  refine sn<|dC (k17+1 <(↑(S18 r1.toNat).length:Int)) (fun h30=>?_) fun h30=>?_
  refine sK<|sn<|sq<|bL 3<|rD cx [1,2,3,4,5,6,7,30] [1,2,3,8,5301] (fA (0≤r1) (fO (r1 <(↑(16:Nat):Int)) (fP ((F9 c3 16 S18)[r1.toNat*(1:Nat)+0]?=some (AV.sl (List.map c3 (S18 r1.toNat)))) (by((try simp only [Nat.mul_one,Nat.add_zero,Nat.zero_add]);with_reducible refine E4 ?_;omega)) (fA (0≤k17) (fG c3 (S18 r1.toNat) k17.toNat (fR 1 (oR 3 [.sl (List.map c3 (S18 r1.toNat))] (oR 5 (c3 (S18 r1.toNat)[k17.toNat]!) (zB 7 ((S18 r1.toNat)[k17.toNat]! =(1:Int))))))))))) (fun h31=>?_) fun h31=>?_
  refine sq<|rG cx [1,2,3,4,6,7] [1,2,3,8,5301] (fA (0≤r1) (fO (r1 <(↑(16:Nat):Int)) (fP ((F9 c3 16 S18)[r1.toNat*(1:Nat)+0]?=some (AV.sl (List.map c3 (S18 r1.toNat)))) (by((try simp only [Nat.mul_one,Nat.add_zero,Nat.zero_add]);with_reducible refine E4 ?_;omega)) (tT 7 (B4 (by omega) ?g3:AV.i .i64 (IntKind.i64.wrap (k17+1))=AV.i .i64 (k17+1)) (fO (0≤k17+1) (fG c3 (S18 r1.toNat) ((k17+1).toNat) (fR 1 (tT 10 (B4 ?g4 ?g5:AV.i .i64 (IntKind.i64.wrap ((S18 r1.toNat)[(k17+1).toNat]!-1))=AV.i .i64 ((S18 r1.toNat)[(k17+1).toNat]!-1)) (fA (0≤r1) (fP (r1.toNat <(List.map c3 v19).length) (by(first | omega | (simp only [List.length_map];omega))) (fR 1 (fG c3 v19 r1.toNat (fR 1 (fP (0+(1:Nat)≤1) (by(first | omega | (simp only [List.length_map];omega))) (fP ((List.map c3 v19).set r1.toNat (List.take (0) (c3 v19[r1.toNat]!)++E0 (AV.i .i64 ((S18 r1.toNat)[(k17+1).toNat]!-1))++List.drop (0+(1:Nat)) (c3 v19[r1.toNat]!))=List.map c3 (v19.set r1.toNat ((S18 r1.toNat)[(k17+1).toNat]!-1))) (by(with_reducible refine A2c ?_;kernel_rfl)) (oR 5 [.sl (List.map c3 (S18 r1.toNat))] (oR 8 (c3 (S18 r1.toNat)[(k17+1).toNat]!) (oV 12 { row:=(c3 v19[r1.toNat]!),rows:=some (List.map c3 (v19.set r1.toNat ((S18 r1.toNat)[(k17+1).toNat]!-1))) } z0)))))))))))))))))) ?_;rotate_left 3
  refine sn<|rG cx [1,2,3,4,6,7,5] [1,2,3,8,5301] (tW 1 (r1+1) z0)<|bN<|sn<|rG cx [1,2,3,4,6,7,5] [1,2,3,8,5301] (tT 1 (B4 (by omega) ?g6:AV.i .i64 (IntKind.i64.wrap (k17+2))=AV.i .i64 (k17+2)) z0) ?_;rotate_left
  refine sn<|nX ((r1+1,k17+2,S18,v19.set r1.toNat ((S18 r1.toNat)[(k17+1).toNat]!-1),c20)) (show((2:Int)*(↑(U r1.toNat).length:Int)-(k17+2)).toNat <((2:Int)*(↑(U r1.toNat).length:Int)-k17).toNat from ?g7) (show B1g U r1 n0 v3 c4 (r1+1) (k17+2) S18 (v19.set r1.toNat ((S18 r1.toNat)[(k17+1).toNat]!-1)) c20 from ?g8);rotate_left 2
  refine rA cx [1,2,3,4,5,6,7] [1,2,3,8,5301] (fA (0≤r1) (fO (r1 <(↑(16:Nat):Int)) (fP ((F9 c3 16 S18)[r1.toNat*(1:Nat)+0]?=some (AV.sl (List.map c3 (S18 r1.toNat)))) (by((try simp only [Nat.mul_one,Nat.add_zero,Nat.zero_add]);with_reducible refine E4 ?_;omega)) (fA (0≤k17) (fG c3 (S18 r1.toNat) k17.toNat (fR 1 (fA (0≤r1) (fO (r1 <(↑(16:Nat):Int)) (fP ((F9 c3 16 S18)[r1.toNat*(1:Nat)+0]?=some (AV.sl (List.map c3 (S18 r1.toNat)))) (by((try simp only [Nat.mul_one,Nat.add_zero,Nat.zero_add]);with_reducible refine E4 ?_;omega)) (tT 15 (B4 (by omega) ?g9:AV.i .i64 (IntKind.i64.wrap (k17+1))=AV.i .i64 (k17+1)) (fO (0≤k17+1) (fG c3 (S18 r1.toNat) ((k17+1).toNat) (fR 1 (tT 18 (B4 ?g10 ?g11:AV.i .i64 (IntKind.i64.wrap ((S18 r1.toNat)[(k17+1).toNat]!-1))=AV.i .i64 ((S18 r1.toNat)[(k17+1).toNat]!-1)) (fR 141 (fR 3 (fR 3 (fX B1 [{ rep:=r1,lo:=(S18 r1.toNat)[k17.toNat]!,hi:=(S18 r1.toNat)[(k17+1).toNat]!-1:Span }] 3 (fP ((List.map B1 c20).length+(List.map B1 [{ rep:=r1,lo:=(S18 r1.toNat)[k17.toNat]!,hi:=(S18 r1.toNat)[(k17+1).toNat]!-1:Span }]).length≤maxLen) ?g12 (fP (((List.map B1 c20).length+(List.map B1 [{ rep:=r1,lo:=(S18 r1.toNat)[k17.toNat]!,hi:=(S18 r1.toNat)[(k17+1).toNat]!-1:Span }]).length)*(24:Nat)≤(140737488355328:Nat)) ?g13 (fM B1 c20 [{ rep:=r1,lo:=(S18 r1.toNat)[k17.toNat]!,hi:=(S18 r1.toNat)[(k17+1).toNat]!-1:Span }] (oR 6 [.sl (List.map c3 (S18 r1.toNat))] (oR 8 (c3 (S18 r1.toNat)[k17.toNat]!) (oR 13 [.sl (List.map c3 (S18 r1.toNat))] (oR 16 (c3 (S18 r1.toNat)[(k17+1).toNat]!) (oV 21 { rows:=some (List.map B1 (c20++[{ rep:=r1,lo:=(S18 r1.toNat)[k17.toNat]!,hi:=(S18 r1.toNat)[(k17+1).toNat]!-1:Span }])) } z0)))))))))))))))))))))))))) ?_;rotate_left 5
  refine bN<|sn<|rG cx [1,2,3,4,5,6,7] [1,2,3,8,5301] (tT 1 (B4 (by omega) ?g14:AV.i .i64 (IntKind.i64.wrap (k17+2))=AV.i .i64 (k17+2)) z0) ?_;rotate_left
  refine sn<|nX ((n16,k17+2,S18,v19,c20++[{ rep:=r1,lo:=(S18 r1.toNat)[k17.toNat]!,hi:=(S18 r1.toNat)[(k17+1).toNat]!-1:Span }])) (show((2:Int)*(↑(U r1.toNat).length:Int)-(k17+2)).toNat <((2:Int)*(↑(U r1.toNat).length:Int)-k17).toNat from ?g15) (show B1g U r1 n0 v3 c4 n16 (k17+2) S18 v19 (c20++[{ rep:=r1,lo:=(S18 r1.toNat)[k17.toNat]!,hi:=(S18 r1.toNat)[(k17+1).toNat]!-1:Span }])from ?g16);rotate_left 2
  refine eX 2<|nE<|nE<|bH<|bN<|sn<|rG cx [1,2,3,4,5,6] [1,2,3,8,5301] (tW 1 (r1+1) z0)<|sn<|nX ((n16,r1+1,S18,v19,c20)) (show(16-(r1+1)).toNat <(16-r1).toNat from(by omega)) (show B5f U n16 (r1+1) S18 v19 c20 from ?g17);rotate_left
  refine eX 0<|nE<|nE<|bH<|sn<|sq<|rG cx [2,3] [2,3,8,5301] (fO ((0:Int)≤(0:Int)) (fA (0≤n0) (fP (n0≤(↑(List.map c3 v3).length:Int)) (by(first | omega | (simp only [List.length_map];omega))) (fP ((0:Int) <(↑(List.map c3 v3).length:Int)) (by(first | omega | (simp only [List.length_map];omega))) (fR (some (1)) z0))))) ?_
  refine sn<|sq<|L8 [8,5301] [2,3] [2,3] (σ':=⟨[(2,.ptr (2) (0) (0) (0)),(3,.ptr (3) (0) (0) (0))],[(2,⟨0,26,.var [.nl,.nl]⟩),(3,⟨0,26,.var [.sl (List.take (n0-0).toNat (List.drop (0) (List.map c3 v3))),.sl (List.map B1 c4)]⟩)]⟩) (by kernel_rfl)<|rG cx [2] [2] z0<|sn<|rT<|qR (.agg [.sl (List.take (n0-0).toNat (List.drop (0) (List.map c3 v3))),.sl (List.map B1 c4)]) (.eq ?g18);rotate_left
  rotate_left
  revert n0 r1 S2 v3 c4 hh6 hh7 hh8 hh9 h10 h11 h12 h13 h14 h15;rotate_left
  revert n0 r1 S2 v3 c4 hh6 hh7 hh8 hh9 h10 h11 h12 h13 h14 h15 n16 k17 S18 v19 c20 h22 h23 h24 h25 h26 h27 h28 h29;rotate_left
  revert n0 r1 S2 v3 c4 hh6 hh7 hh8 hh9 h10 h11 h12 h13 h14 h15 n16 k17 S18 v19 c20 h22 h23 h24 h25 h26 h27 h28 h29 h30 h31;rotate_left
  revert n0 r1 S2 v3 c4 hh6 hh7 hh8 hh9 h10 h11 h12 h13 h14 h15 n16 k17 S18 v19 c20 h22 h23 h24 h25 h26 h27 h28 h29 h30 h31;rotate_left
  revert n0 r1 S2 v3 c4 hh6 hh7 hh8 hh9 h10 h11 h12 h13 h14 h15 n16 k17 S18 v19 c20 h22 h23 h24 h25 h26 h27 h28 h29 h30 h31;rotate_left
  revert n0 r1 S2 v3 c4 hh6 hh7 hh8 hh9 h10 h11 h12 h13 h14 h15 n16 k17 S18 v19 c20 h22 h23 h24 h25 h26 h27 h28 h29 h30 h31;rotate_left
  revert n0 r1 S2 v3 c4 hh6 hh7 hh8 hh9 h10 h11 h12 h13 h14 h15 n16 k17 S18 v19 c20 h22 h23 h24 h25 h26 h27 h28 h29 h30 h31;rotate_left
  revert n0 r1 S2 v3 c4 hh6 hh7 hh8 hh9 h10 h11 h12 h13 h14 h15 n16 k17 S18 v19 c20 h22 h23 h24 h25 h26 h27 h28 h29 h30 h31;rotate_left
  revert n0 r1 S2 v3 c4 hh6 hh7 hh8 hh9 h10 h11 h12 h13 h14 h15 n16 k17 S18 v19 c20 h22 h23 h24 h25 h26 h27 h28 h29 h30 h31;rotate_left
  revert n0 r1 S2 v3 c4 hh6 hh7 hh8 hh9 h10 h11 h12 h13 h14 h15 n16 k17 S18 v19 c20 h22 h23 h24 h25 h26 h27 h28 h29 h30 h31;rotate_left
  revert n0 r1 S2 v3 c4 hh6 hh7 hh8 hh9 h10 h11 h12 h13 h14 h15 n16 k17 S18 v19 c20 h22 h23 h24 h25 h26 h27 h28 h29 h30 h31;rotate_left
  revert n0 r1 S2 v3 c4 hh6 hh7 hh8 hh9 h10 h11 h12 h13 h14 h15 n16 k17 S18 v19 c20 h22 h23 h24 h25 h26 h27 h28 h29 h30 h31;rotate_left
  revert n0 r1 S2 v3 c4 hh6 hh7 hh8 hh9 h10 h11 h12 h13 h14 h15 n16 k17 S18 v19 c20 h22 h23 h24 h25 h26 h27 h28 h29 h30 h31;rotate_left
  revert n0 r1 S2 v3 c4 hh6 hh7 hh8 hh9 h10 h11 h12 h13 h14 h15 n16 k17 S18 v19 c20 h22 h23 h24 h25 h26 h27 h28 h29 h30 h31;rotate_left
  revert n0 r1 S2 v3 c4 hh6 hh7 hh8 hh9 h10 h11 h12 h13 h14 h15 n16 k17 S18 v19 c20 h22 h23 h24 h25 h26 h27 h28 h29 h30 h31;rotate_left
  revert n0 r1 S2 v3 c4 hh6 hh7 hh8 hh9 h10 h11 h12 h13 h14 h15 n16 k17 S18 v19 c20 h22 h23 h24 h25 h26 h27 h28 h29 h30 h31;rotate_left
  revert n0 r1 S2 v3 c4 hh6 hh7 hh8 hh9 h10 h11 h12 h13 h14 h15 n16 k17 S18 v19 c20 h22 h23 h24 h25 h26 h27 h28 h29 h30;rotate_left
  revert n0 r1 S2 v3 c4 hh6 hh7 hh8 hh9 h10 h11 h12 h13 h14 h15;rotate_left
  case g0=>exact⟨rfl,by omega,by omega,by omega,by omega,by simp,rfl,by simp [Y5,A48],rfl⟩
  case g1=>intro n r S v c h0 h1 h2 h3 h4 h5 h6 h7 h8 h9;exact⟨h0,by omega,by omega,by omega,by omega,by omega,by omega,Ak0 h1 h9 h7⟩
  case g18 =>
    intro n r S v c h0 h1 h2 h3 h4 h5 h6 h7 h8 h9
    rw[A5n h2 h9 h6 h7 h8]
    show AV.agg [AV.sl (List.take (n-0).toNat (List.drop 0 (List.map c3 v))),AV.sl (List.map B1 c)]=_
    rw[List.drop_zero,Int.sub_zero,← List.map_take]
    rfl
  all_goals
    intro n r S v c h0 h1 h2 h3 h4 h5 h6 h7 h8 h9 m k X w d k0 k1 k2 k3 k4 k5 k6 k7
    have hs:=hU r.toNat (by omega)
    have hl:=W3 hs
    have hd:=B1l hs h1 h9 h8 k7
    have ht:(tnS U r.toNat).length=2*(U r.toNat).length:=A0b _
    subst k0
  case g17 =>
    intro k8
    rw[ht]at k8
    obtain⟨a,b,e⟩:=B1k hs h1 h9 h6 h7 h8 k1 k3 (by omega) k2 k7
    exact⟨rfl,by omega,by omega,by omega,by omega,k4,a,b,e⟩
  case g8 =>
    intro k8 k9
    rw[ht]at k8
    obtain⟨e1,e2⟩:=A7y (U:=U) (r:=r) k1 k3 (by omega)
    rw[e1]at k9
    rw[e2,Int.add_sub_cancel]
    exact⟨rfl,by omega,by omega,by omega,by rw[List.length_set];exact k4,by omega,by omega,B1j hs k1 k3 (by omega) k9 k7⟩
  case g16 =>
    intro k8 k9
    rw[ht]at k8
    obtain⟨e1,e2⟩:=A7y (U:=U) (r:=r) k1 k3 (by omega)
    rw[e1]at k9
    rw[e1,e2,Int.add_sub_cancel]
    exact⟨rfl,by omega,by omega,by omega,k4,by omega,by omega,As8 k1 k3 (by omega) k9 k7⟩
  all_goals
    first
    | omega
    | (intro k8 k9
       rw[ht]at k8
       obtain⟨e1,e2⟩:=A7y (U:=U) (r:=r) k1 k3 (by omega)
       have hb:=hs.2 _ (E1 (l:=U r.toNat) (i:=(k / 2).toNat) (by omega))
       simp only [e2,List.length_map,List.length_cons,List.length_nil,Go.maxLen]
       omega)
end Go.Proofs.YtphcaholhacnpaaGreat
namespace Go.Proofs.YtphcaholhacnpaaGreat
open Go.E
set_option maxRecDepth 100000
set_option maxHeartbeats 4000000
theorem B1m(p:Past)(hb:p.cloud.length*16≤140737488350000):Con Tryz.prog 90 [.agg (c26 p)] (.agg (c144 (tnS (B5 (A3 [p]))))) :=
 by
 refine sC B3 [.cell 2 144] 6 Tryz.func90 ?_
 intro e0 cx
 refine sq<|rG cx [1,2] [1,2] z0<|sn<|sq<|rG cx [2] [2] (fT (con162 ([p]) ?g0) (oA 2 (.agg (F9 c3 16 (tnS (B5 (A3 [p]))))) z0)) ?_;rotate_left
 refine sn<|rT<|qR (.agg [.sl (List.map c3 (tnS (B5 (A3 [p])) (0))),.sl (List.map c3 (tnS (B5 (A3 [p])) (1))),.sl (List.map c3 (tnS (B5 (A3 [p])) (2))),.sl (List.map c3 (tnS (B5 (A3 [p])) (3))),.sl (List.map c3 (tnS (B5 (A3 [p])) (4))),.sl (List.map c3 (tnS (B5 (A3 [p])) (5))),.sl (List.map c3 (tnS (B5 (A3 [p])) (6))),.sl (List.map c3 (tnS (B5 (A3 [p])) (7))),.sl (List.map c3 (tnS (B5 (A3 [p])) (8))),.sl (List.map c3 (tnS (B5 (A3 [p])) (9))),.sl (List.map c3 (tnS (B5 (A3 [p])) (10))),.sl (List.map c3 (tnS (B5 (A3 [p])) (11))),.sl (List.map c3 (tnS (B5 (A3 [p])) (12))),.sl (List.map c3 (tnS (B5 (A3 [p])) (13))),.sl (List.map c3 (tnS (B5 (A3 [p])) (14))),.sl (List.map c3 (tnS (B5 (A3 [p])) (15)))]) (.eq ?g1);rotate_left
 case g0=>exact(by rw[A9b];omega)
 case g1=>exact rfl
theorem B5g(p:Past)(hb:p.cloud.length*16≤140737488350000):Con Tryz.prog 80 [.agg (c26 p)] (.agg (c26 (A5 p))) :=
 by
 refine sC B3 [.cell 2 26] 6 Tryz.func80 ?_
 intro e0 cx
 refine sq<|rG cx [1,2] [1,2] z0<|sn<|sq<|rG cx [2] [2] (fT (B1m (p) (by(with_reducible assumption))) (fT (con124 (B5 (A3 [p])) ?g0) (oA 1 (.agg (F9 c3 16 (tnS (B5 (A3 [p]))))) (oA 2 (.agg [.sl (List.map c3 (H9 (B5 (A3 [p]))).vec),.sl (List.map B1 (H9 (B5 (A3 [p]))).cloud)]) z0)))) ?_;rotate_left
 refine sn<|rT<|qR (.agg [.sl (List.map c3 (H9 (B5 (A3 [p]))).vec),.sl (List.map B1 (H9 (B5 (A3 [p]))).cloud)]) (.eq ?g1);rotate_left
 case g0=>exact(B17 _)
 case g1=>exact(by rw[A5q];rfl)
theorem Ak1(p:Past)(hb:p.cloud.length*16≤140737488350000)(hv:p.vec.length≤9223372036854775807):Con Tryz.prog 74 [.agg (c26 p)] (.b (decide (p=A5 p))) :=
 by
 refine sC B3 [.tmp 2] 7 Tryz.func74 ?_
 intro e0 cx
 refine sq<|rG cx [1] [1] z0<|sn<|sq<|rA cx [2] [] (fT (B5g (p) (by(with_reducible assumption))) (fT (B14 (p) (A5 p) (by(with_reducible assumption)) (by omega)) (oA 2 (.agg [.sl (List.map c3 (A5 p).vec),.sl (List.map B1 (A5 p).cloud)]) (oA 3 (.b (decide (p=A5 p))) z0))))<|sn<|rT ?_
 exact Y2 (r:=.b (decide (p=A5 p))) (obl:=[]) (by kernel_rfl) trivial (A7.refl _)
end Go.Proofs.YtphcaholhacnpaaGreat
namespace Go.Proofs.YtphcaholhacnpaaGreat
open Go.E
set_option maxRecDepth 100000
set_option maxHeartbeats 4000000
def sizeT(T:Nat→List Run):Nat→Int
 | 0=>0
 | n+1=>sizeT T n+G4 (nrm (T n))
theorem As9(p:Past):∃ n:Int,n=sizeT (A3 [p]) 16:=⟨_,rfl⟩
noncomputable def C5(p:Past):Int:=Classical.choose (As9 p)
theorem A5y(p:Past):C5 p=sizeT (A3 [p]) 16:=Classical.choose_spec (As9 p)
def F0(p:Past)(rep:Int):Int:=if rep < 0∨16≤rep then 0 else X8 (A3 [p] rep.toNat)
def H8(p:Past)(rep lim:Int):Dot×Int:=if rep < 0∨16≤rep then(default,3)else if min lim 1000000000≤F0 p rep then(default,9)else(⟨rep,F0 p rep+1⟩,0)
theorem A2u:∀ {l:List Run},S7 l→0≤G4 l∧(G4 l=0→l=[])
 | [],_=>⟨Int.le_refl _,fun _=>rfl⟩
 | r :: l,h=>by
  have hr:=h.2 r (by simp)
  have ih:=(A2u (J7 h)).1
  rw[G4]
  exact⟨by omega,fun k=>by omega⟩
theorem Ae0:∀ {l:List Run},S7 l→∀ m:Int,(∀ r∈l,m≤r.lo)→G4 l≤1000000001-m∨l=[]
 | [],_,m,_=>.inr rfl
 | r :: l,h,m,hm=>by
  have hr:=h.2 r (by simp)
  have h1:=hm r (by simp)
  have pa:=(List.pairwise_cons.1 h.1).1
  rw[G4]
  rcases Ae0 (J7 h) (r.hi+1) (fun x hx=>by have:=pa x hx;omega)with k | k
  ·left;omega
  ·subst k
   left
   rw[G4]
   omega
theorem A0c{l:List Run}(h:S7 l):0≤G4 l∧G4 l≤1000000000:=by
 refine⟨(A2u h).1,?_⟩
 rcases Ae0 h 1 (fun r hr=>(h.2 r hr).1)with k | k
 ·omega
 ·subst k;simp [G4]
theorem A0d(T:Nat→List Run):∀ n:Nat,0≤sizeT T n∧sizeT T n≤n*1000000000
 | 0=>by simp [sizeT]
 | n+1=>by
  have:=A0d T n
  have:=A0c (E2 (T n))
  rw[sizeT]
  omega
theorem A4g(T:Nat→List Run):∀ n:Nat,sizeT T n=0↔∀ r:Nat,r < n→nrm (T r)=[]
 | 0=>by simp [sizeT]
 | n+1=>by
  have h1:=A0d T n
  have h2:=A2u (E2 (T n))
  have ih:=A4g T n
  rw[sizeT]
  constructor
  ·intro k r hr
   by_cases e:r=n
   ·rw[e];exact h2.2 (by omega)
   ·exact ih.1 (by omega) r (by omega)
  ·intro k
   rw[ih.2 fun r hr=>k r (by omega),k n (by omega)]
   rfl
theorem A2v{a:List Run}:nrm a=[]↔∀ n,¬ inR (nrm a) n:=by
 constructor
 ·intro h n k
  rw[h]at k
  obtain⟨r,hr,_⟩:=k
  cases hr
 ·intro h
  cases e:nrm a with
  | nil=>rfl
  | cons r l =>
   have hs:=E2 a
   rw[e]at hs h
   have:=hs.2 r (by simp)
   exact absurd ⟨r,by simp,Int.le_refl _,this.2.1⟩ (h r.lo)
theorem A0v(p:Past):C5 p=0↔∀ d,G7 p d=false:=by
 rw[A5y,A4g]
 constructor
 ·intro h d
  rw[← O6,← Bool.not_eq_true]
  intro k
  unfold A5 at k
  rw[P2]at k
  have hb:=G3 k.1
  have:=A2v.1 (h d.rep.toNat (by omega)) d.num
  rw[O3]at this
  exact this ⟨by omega,by omega,k.2⟩
 ·intro h r hr
  refine A2v.2 fun n k=>?_
  rw[O3]at k
  have hd:J4 ⟨r,n⟩=true:=by unfold J4;rw[decide_eq_true_eq];simp only;omega
  have h1:=h ⟨r,n⟩
  rw[← O6,← Bool.not_eq_true]at h1
  refine h1 ?_
  unfold A5
  rw[P2]
  exact⟨hd,k.2.2⟩
theorem Ae1(d:Dot):G7 ⟨[],[]⟩ d=false:=by
 unfold G7
 cases h:J4 d with
 | false=>rfl
 | true =>
  have hb:=G3 h
  simp
  omega
theorem A7z:A5 ⟨[],[]⟩=⟨[],[]⟩:=by
 have h1:∀ r:Nat,r < 16→A3 [⟨[],[]⟩] r=[]:=fun r hr=>by simp [A3,Aj4,O4]
 have h2:nrm []=[]:=by
  refine A2v.2 fun n k=>?_
  rw[O3]at k
  obtain⟨r,hr,_⟩:=k.2.2
  cases hr
 unfold A5
 rw[A0u (U:=fun _=>[]) fun r hr=>h1 r hr]
 have l0:∀ r,Y4 (fun _=>[]) r=0:=fun r=>by unfold Y4;rw[h2];rfl
 have s0:∀ n,szT (fun _=>[]) n=0:=fun n=>by
  induction n with
  | zero=>rfl
  | succ n ih=>rw[szT,if_neg (by rw[l0];omega),ih]
 have c0:∀ n,H3 (fun _=>[]) n=[]:=fun n=>by
  induction n with
  | zero=>rfl
  | succ n ih=>rw[H3,ih];unfold R9;rw[h2];rfl
 unfold H9
 rw[s0,c0]
 rfl
theorem Ak2{p:Past}(h:p=A5 p):C5 p=0↔p=⟨[],[]⟩:=by
 rw[A0v]
 constructor
 ·exact fun k=>Ad2 h A7z.symm fun d=>by rw[k d,Ae1]
 ·intro k d
  rw[k,Ae1]
theorem A5z(p:Past)(rep:Int):0≤F0 p rep∧F0 p rep≤1000000000:=by
 unfold F0
 split
 ·omega
 ·rcases U8 (A3 [p] rep.toNat)with⟨h,_⟩ | ⟨h1,h2,_⟩ <;> omega
end Go.Proofs.YtphcaholhacnpaaGreat
namespace Go.Proofs.YtphcaholhacnpaaGreat
open Go.E
set_option maxRecDepth 100000
set_option maxHeartbeats 4000000
def invZ(a:List Run)(s i:Int):Prop:=0≤i∧i≤(nrm a).length∧s=G4 ((nrm a).take i.toNat)
def decZ(a:List Run)(s i:Int):Nat:=((nrm a).length-i).toNat
def B1n(a:List Run)(m i:Int):Prop:=0≤i∧i≤a.length∧m=X8 (a.take i.toNat)
def decLa(a:List Run)(m i:Int):Nat:=(a.length-i).toNat
def B5h(p:Past)(s i:Int)(T:Nat→List Run):Prop:=T=A3 [p]∧0≤i∧i≤16∧s=sizeT (A3 [p]) i.toNat
def decSz(p:Past)(s i:Int)(T:Nat→List Run):Nat:=(16-i).toNat
theorem A80{l:List Run}(h:S7 l)(n:Nat):S7 (l.take n):=⟨h.1.sublist (List.take_sublist _ _),fun r hr=>h.2 r (List.mem_of_mem_take hr)⟩
theorem A4h{l:List Run}{i:Int}(h0:0≤i)(h:i < l.length):G4 (l.take (i+1).toNat)=G4 (l.take i.toNat)+(l[i.toNat]!.hi-l[i.toNat]!.lo+1):=by
 rw[← D9 h0 h,Ar5]
 simp [G4]
theorem At0{p:Past}(hb:p.cloud.length*16≤140737488350000):A1p [p]*16≤140737488351232:=by rw[A9b];omega
theorem B5i{p:Past}(hb:p.cloud.length*16≤140737488350000)(r:Nat):(A3 [p] r).length*16≤140737488351232:=by
 have:=N2 r [p]
 have:=At0 hb
 omega
theorem con165(a:List Run)(hb:a.length*16≤140737488351232):Con Tryz.prog 165 [.sl (a.map c206)] (.i .i64 (G4 (nrm a))) :=
 by
 have hs:=E2 a
 have hr:∀ i:Int,0≤i→i <(nrm a).length→1≤(nrm a)[i.toNat]!.lo∧(nrm a)[i.toNat]!.lo≤(nrm a)[i.toNat]!.hi∧(nrm a)[i.toNat]!.hi≤1000000000:=fun i h0 h1=>hs.2 _ (E1 (by omega))
 have hz:∀ i:Int,0≤G4 ((nrm a).take i.toNat)∧G4 ((nrm a).take i.toNat)≤1000000000:=fun i=>A0c (A80 hs _)
 refine lN 0 c206 (a) Tryz.func165 fun hl_0=>sC B3 [.tmp 2] 23 Tryz.func165 ?_
 intro e0 cx
 refine sq<|rG cx [0] [] z0<|sn<|sq<|rG cx [0,3] [] z0<|sn<|sq<|sq ?_
 have hl_0:=(A0t a)
 refine rG cx [3,7,8,9] [] (fT (B30 (a) (by(with_reducible assumption))) (tL 2 c206 (nrm a) (oA 1 (.sl (List.map c206 (nrm a))) z0)))<|sn<|bL 0<|sL (X:=Int×Int) (fun x=>⟨[(3,.i .i64 (x.1)),(7,.sl (List.map c206 (nrm a))),(8,.i .i64 ((↑(nrm a).length:Int))),(9,.i .i64 (x.2))],[]⟩) (fun x ↦ decZ a x.1 x.2) (fun x ↦ invZ a x.1 x.2) [3,7,8,9] [] (((0:Int),(0:Int))) (show invZ a (0:Int) (0:Int)from ?g0) ?_;rotate_left
 rintro⟨s1,i2⟩ h_3
 obtain⟨h4,h5,h6⟩:0≤i2∧i2≤(↑(nrm a).length:Int)∧s1=G4 (List.take i2.toNat (nrm a)):=h_3
 refine rE cx [3,7,8,9,10] [] (zB 0 (i2 <(↑(nrm a).length:Int))) (fun h7=>?_) fun h7=>?_
 refine sK<|sn<|sq<|bL 1<|sq<|rG cx [3,7,8,9,5] [5] (fA (0≤i2) (fG c206 (nrm a) i2.toNat (fR 2 (fN 2 2 (oR 0 (c206 (nrm a)[i2.toNat]!) z0)))))<|sn<|rG cx [3,7,8,9] [] (tT 5 (B4 ?g1 ?g2:AV.i .i64 (IntKind.i64.wrap ((nrm a)[i2.toNat]!.hi-(nrm a)[i2.toNat]!.lo))=AV.i .i64 ((nrm a)[i2.toNat]!.hi-(nrm a)[i2.toNat]!.lo)) (tT 6 (B4 ?g3 ?g4:AV.i .i64 (IntKind.i64.wrap ((nrm a)[i2.toNat]!.hi-(nrm a)[i2.toNat]!.lo+1))=AV.i .i64 ((nrm a)[i2.toNat]!.hi-(nrm a)[i2.toNat]!.lo+1)) (tT 7 (B4 ?g5 ?g6:AV.i .i64 (IntKind.i64.wrap (s1+((nrm a)[i2.toNat]!.hi-(nrm a)[i2.toNat]!.lo+1)))=AV.i .i64 (s1+((nrm a)[i2.toNat]!.hi-(nrm a)[i2.toNat]!.lo+1))) z0))) ?_;rotate_left 6
 refine bN<|sn<|rG cx [3,7,8,9] [] (tW 0 (i2+1) z0)<|sn<|nX ((s1+((nrm a)[i2.toNat]!.hi-(nrm a)[i2.toNat]!.lo+1),i2+1)) (show((↑(nrm a).length:Int)-(i2+1)).toNat <((↑(nrm a).length:Int)-i2).toNat from(by omega)) (show invZ a (s1+((nrm a)[i2.toNat]!.hi-(nrm a)[i2.toNat]!.lo+1)) (i2+1)from ?g7);rotate_left
 refine eX 0<|nE<|nE<|bH<|sn<|sq<|rG cx [2] [] z0<|sn<|rT<|qR (.i .i64 (s1)) (.eq ?g8);rotate_left
 rotate_left
 revert s1 i2 h4 h5 h6 h7;rotate_left
 revert s1 i2 h4 h5 h6 h7;rotate_left
 revert s1 i2 h4 h5 h6 h7;rotate_left
 revert s1 i2 h4 h5 h6 h7;rotate_left
 revert s1 i2 h4 h5 h6 h7;rotate_left
 revert s1 i2 h4 h5 h6 h7;rotate_left
 revert s1 i2 h4 h5 h6 h7;rotate_left
 revert s1 i2 h4 h5 h6 h7;rotate_left
 case g0=>exact⟨by omega,by omega,by simp [G4]⟩
 case g7=>intro s i h0 h1 h2 h3;exact⟨by omega,by omega,by rw[h2,A4h h0 h3]⟩
 case g8=>intro s i h0 h1 h2 h3;rw[h2,List.take_of_length_le (by omega)]
 all_goals (intro s i h0 h1 h2 h3;have:=hr i h0 h3;have:=hz i;omega)
theorem B3b(a:List Run):Con Tryz.prog 161 [.sl (a.map c206)] (.i .i64 (X8 a)) :=
 by
 refine lN 0 c206 (a) Tryz.func161 fun hl_0=>sC B3 [.tmp 2] 26 Tryz.func161 ?_
 intro e0 cx
 refine sq<|rG cx [0] [] z0<|sn<|sq<|rG cx [0,3] [] z0<|sn<|sq<|sq<|rG cx [3,8,9,10] [] (tL 1 c206 a z0)<|sn<|bL 0<|sL (X:=Int×Int) (fun x=>⟨[(3,.i .i64 (x.1)),(8,.sl (List.map c206 a)),(9,.i .i64 ((↑a.length:Int))),(10,.i .i64 (x.2))],[]⟩) (fun x ↦ decLa a x.1 x.2) (fun x ↦ B1n a x.1 x.2) [3,8,9,10] [] (((0:Int),(0:Int))) (show B1n a (0:Int) (0:Int)from(by exact⟨by omega,by omega,by simp [X8]⟩)) ?_
 rintro⟨m0,i1⟩ h_2
 obtain⟨hh3,hh4,h5⟩:0≤i1∧i1≤(↑a.length:Int)∧m0=X8 (List.take i1.toNat a):=h_2
 refine rE cx [3,8,9,10,11] [] (zB 0 (i1 <(↑a.length:Int))) (fun h6=>?_) fun h6=>?_
 refine sK<|sn<|sq<|bL 1<|sq<|rG cx [3,8,9,10,5] [5] (fA (0≤i1) (fG c206 a i1.toNat (fR 2 (fN 2 2 (oR 0 (c206 a[i1.toNat]!) z0)))))<|sn<|sq<|rG cx [3,8,9,10,6,7] [6] (fT (B2y (a[i1.toNat]!)) (oA 1 (.tup [.agg [.i .i64 ((D1 a[i1.toNat]!).lo),.i .i64 ((D1 a[i1.toNat]!).hi)],.b (decide ((D1 a[i1.toNat]!).lo≤(D1 a[i1.toNat]!).hi))]) z0))<|sn<|sq<|rG cx [3,8,9,10,6,19] [6] z0<|sn<|dC ((D1 a[i1.toNat]!).lo≤(D1 a[i1.toNat]!).hi) (fun h7=>?_) fun h7=>?_
 refine rG cx [3,8,9,10] [] (tT 3 (A1m:AV.i .i64 (if(D1 a[i1.toNat]!).hi > m0 then(D1 a[i1.toNat]!).hi else m0)=AV.i .i64 (max m0 (D1 a[i1.toNat]!).hi)) z0)<|bN<|sn<|rG cx [3,8,9,10] [] (tW 0 (i1+1) z0)<|sn<|nX ((max m0 (D1 a[i1.toNat]!).hi,i1+1)) (show((↑a.length:Int)-(i1+1)).toNat <((↑a.length:Int)-i1).toNat from(by omega)) (show B1n a (max m0 (D1 a[i1.toNat]!).hi) (i1+1)from(by exact⟨by omega,by omega,by rw[← D9 hh3 h6,A2s,if_pos h7,h5]⟩))
 refine sK<|bN<|sn<|rG cx [3,8,9,10] [] (tW 0 (i1+1) z0)<|sn<|nX ((m0,i1+1)) (show((↑a.length:Int)-(i1+1)).toNat <((↑a.length:Int)-i1).toNat from(by omega)) (show B1n a m0 (i1+1)from(by exact⟨by omega,by omega,by rw[← D9 hh3 h6,A2s,if_neg h7,h5]⟩))
 refine eX 0<|nE<|nE<|bH<|sn<|sq<|rG cx [2] [] z0<|sn<|rT<|qR (.i .i64 (m0)) (.eq (by rw[h5,List.take_of_length_le (by omega)]))
theorem con94(p:Past)(hb:p.cloud.length*16≤140737488350000):Con Tryz.prog 94 [.agg (c26 p)] (.i .i64 (C5 p)) :=
 by
 have hz:=A0d (A3 [p])
 have hr:∀ r,0≤G4 (nrm (A3 [p] r))∧G4 (nrm (A3 [p] r))≤1000000000:=fun r=>A0c (E2 _)
 refine sC B3 [.tmp 2] 21 Tryz.func94 ?_
 intro e0 cx
 refine sq<|rG cx [1] [1] z0<|sn<|sq<|rG cx [1,3] [1] z0<|sn<|sq<|sq<|rG cx [3,8,10] [8] (fT (B12 ([p]) ?g0) (oV 2 { val:=some (.ptr ((204:Nat)) (0) (0) (0)),row:=(F9 c206 16 (A3 [p])) } z0)) ?_;rotate_left
 refine sn<|bL 0<|sL (X:=Int×Int×(Nat→List Run)) (fun x=>⟨[(3,.i .i64 (x.1)),(8,.ptr (8) (0) (0) (0)),(10,.i .i64 (x.2.1))],[(8,⟨0,204,.arr (F9 c206 16 x.2.2)⟩)]⟩) (fun x ↦ decSz p x.1 x.2.1 x.2.2) (fun x ↦ B5h p x.1 x.2.1 x.2.2) [3,8,10] [8] (((0:Int),(0:Int),A3 [p])) (show B5h p (0:Int) (0:Int) (A3 [p])from ?g1) ?_;rotate_left
 rintro⟨s0,i1,T2⟩ h_3
 obtain⟨hh4,h5,h6,h7⟩:T2=A3 [p]∧0≤i1∧i1≤16∧s0=sizeT (A3 [p]) i1.toNat:=h_3
 refine rE cx [3,8,10,11] [8] (zB 0 (i1 <(16:Int))) (fun h8=>?_) fun h8=>?_
 refine sK<|sn<|sq<|bL 1<|sq<|rG cx [3,8,10,5] [8] (fA (0≤i1) (fO (i1 <(↑(16:Nat):Int)) (fP ((F9 c206 16 T2)[i1.toNat*(1:Nat)+0]?=some (AV.sl (List.map c206 (T2 i1.toNat)))) (by((try simp only [Nat.mul_one,Nat.add_zero,Nat.zero_add]);with_reducible refine E4 ?_;omega)) (oR 2 [.sl (List.map c206 (T2 i1.toNat))] z0)))) ?_
 refine sn ?_
 have hl_9:=(A0t (T2 i1.toNat))
 refine rG cx [3,8,10] [8] (fT (con165 (T2 i1.toNat) ?g2) (tT 3 (B4 ?g3 ?g4:AV.i .i64 (IntKind.i64.wrap (s0+G4 (nrm (T2 i1.toNat))))=AV.i .i64 (s0+G4 (nrm (T2 i1.toNat)))) (oA 2 (.i .i64 (G4 (nrm (T2 i1.toNat)))) z0))) ?_;rotate_left 3
 refine bN<|sn<|rG cx [3,8,10] [8] (tW 0 (i1+1) z0)<|sn<|nX ((s0+G4 (nrm (T2 i1.toNat)),i1+1,T2)) (show(16-(i1+1)).toNat <(16-i1).toNat from(by omega)) (show B5h p (s0+G4 (nrm (T2 i1.toNat))) (i1+1) T2 from ?g5);rotate_left
 refine eX 0<|nE<|nE<|bH<|sn<|sq<|rG cx [2] [] z0<|sn<|rT<|qR (.i .i64 (s0)) (.eq ?g6);rotate_left
 rotate_left
 rotate_left
 clear hl_9;revert s0 i1 T2 hh4 h5 h6 h7 h8;rotate_left
 clear hl_9;revert s0 i1 T2 hh4 h5 h6 h7 h8;rotate_left
 clear hl_9;revert s0 i1 T2 hh4 h5 h6 h7 h8;rotate_left
 clear hl_9;revert s0 i1 T2 hh4 h5 h6 h7 h8;rotate_left
 revert s0 i1 T2 hh4 h5 h6 h7 h8;rotate_left
 case g0=>exact At0 hb
 case g1=>exact⟨rfl,by omega,by omega,rfl⟩
 case g2=>intro s i T h0 h1 h2 h3 h4;subst h0;exact B5i hb _
 case g3=>intro s i T h0 h1 h2 h3 h4;subst h0;have:=hz i.toNat;have:=hr i.toNat;omega
 case g4=>intro s i T h0 h1 h2 h3 h4;subst h0;have:=hz i.toNat;have:=hr i.toNat;omega
 case g5=>intro s i T h0 h1 h2 h3 h4;subst h0;exact⟨rfl,by omega,by omega,by rw[show(i+1).toNat=i.toNat+1 by omega,sizeT,h3]⟩
 case g6=>intro s i T h0 h1 h2 h3 h4;rw[h3,show i.toNat=16 by omega,A5y]
theorem B5j(p:Past)(hb:p.cloud.length*16≤140737488350000):Con Tryz.prog 22 [.agg (c26 p)] (.b (decide (C5 p=0))) :=
 by
 refine sC B3 [.tmp 2] 6 Tryz.func22 ?_
 intro e0 cx
 refine sq<|rG cx [1] [1] z0<|sn<|sq<|rG cx [2] [] (fT (con94 (p) (by(with_reducible assumption))) (tB 2 (C5 p=0) (oA 1 (.i .i64 (C5 p)) z0)))<|sn<|rT ?_
 exact Y2 (r:=.b (decide (C5 p=0))) (obl:=[]) (by kernel_rfl) trivial (A7.refl _)
theorem con88(p:Past)(rep:Int)(hb:p.cloud.length*16≤140737488350000):Con Tryz.prog 88 [.agg (c26 p),.i .i64 rep] (.i .i64 (F0 p rep)) :=
 by
 refine sC B3 [.tmp 4] 19 Tryz.func88 ?_
 intro e0 cx
 refine sq<|rG cx [1,2] [2] z0<|sn<|sq<|sq<|A9 (σ':=⟨[(1,.i .i64 (rep)),(2,.ptr (2) (0) (0) (0)),(10,.b (decide (rep <(0:Int)∨16≤rep)))],[(2,⟨0,26,.var [.sl (List.map c3 p.vec),.sl (List.map B1 p.cloud)]⟩)]⟩) ?_ ?_
 refine A6 (rep <(0:Int)) (fun h_1=>?_) (fun h_1=>?_)
 refine rG cx [1,2,10] [2] (tT 1 (A4 h_1) (tD 5 true (rep <(0:Int)∨16≤rep) (by simp only [eq_true h_1,tsl]) z0)) ?_
 exact⟨rfl,by kernel_rfl⟩
 refine rG cx [1,2,10] [2] (tT 1 (A0 h_1) (tB 4 (16≤rep) (tD 5 (decide (16≤rep)) (rep <(0:Int)∨16≤rep) (by simp only [eq_false h_1,tsl]) z0))) ?_
 exact⟨rfl,by kernel_rfl⟩
 refine sn<|dC (rep <(0:Int)∨16≤rep) (fun h2=>?_) fun h2=>?_
 refine sq<|rG cx [4] [] z0<|sn<|rT<|nR<|qR (.i .i64 ((0:Int))) (.eq (by unfold F0;rw[if_pos h2]))
 refine sK<|sn<|sq<|rG cx [4] [] (fT (B12 ([p]) (by exact At0 hb)) (fO (0≤rep) (fO (rep <(↑(16:Nat):Int)) (fP ((F9 c206 16 (A3 [p]))[rep.toNat*(1:Nat)+0]?=some (AV.sl (List.map c206 (A3 [p] rep.toNat)))) (by((try simp only [Nat.mul_one,Nat.add_zero,Nat.zero_add]);with_reducible refine E4 ?_;omega)) (fT (B3b (A3 [p] rep.toNat)) (oV 2 { val:=some (.ptr ((204:Nat)) (0) (0) (0)),row:=(F9 c206 16 (A3 [p])) } (oR 6 [.sl (List.map c206 (A3 [p] rep.toNat))] (oA 7 (Ab3 (B3b (A3 [p] rep.toNat))) z0)))))))) ?_
 refine sn<|rT<|qR (.i .i64 (X8 (A3 [p] rep.toNat))) (.eq (by unfold F0;rw[if_neg h2]))
theorem con273(p:Past)(rep lim:Int)(hb:p.cloud.length*16≤140737488350000):Con Tryz.prog 273 [.agg (c26 p),.i .i64 rep,.i .i64 lim] (.tup [.agg (c44 (H8 p rep lim).1),.i .i64 (H8 p rep lim).2]) :=
 by
 have hl:=A5z p rep
 refine sC B3 [.cell 6 44,.tmp 7] 28 Tryz.func273 ?_
 intro e0 cx
 refine sq<|rG cx [1,2,3,6] [3,6] z0<|sn<|sq<|sq<|A9 (σ':=⟨[(1,.i .i64 (rep)),(2,.i .i64 (lim)),(3,.ptr (3) (0) (0) (0)),(6,.ptr (6) (0) (0) (0)),(14,.b (decide (rep <(0:Int)∨16≤rep)))],[(3,⟨0,26,.var [.sl (List.map c3 p.vec),.sl (List.map B1 p.cloud)]⟩),(6,⟨0,44,.var [.i .i64 ((0:Int)),.i .i64 ((0:Int))]⟩)]⟩) ?_ ?_
 refine A6 (rep <(0:Int)) (fun h_1=>?_) (fun h_1=>?_)
 refine rG cx [1,2,3,6,14] [3,6] (tT 1 (A4 h_1) (tD 5 true (rep <(0:Int)∨16≤rep) (by simp only [eq_true h_1,tsl]) z0)) ?_
 exact⟨rfl,by kernel_rfl⟩
 refine rG cx [1,2,3,6,14] [3,6] (tT 1 (A0 h_1) (tB 4 (16≤rep) (tD 5 (decide (16≤rep)) (rep <(0:Int)∨16≤rep) (by simp only [eq_false h_1,tsl]) z0))) ?_
 exact⟨rfl,by kernel_rfl⟩
 refine sn<|dC (rep <(0:Int)∨16≤rep) (fun h2=>?_) fun h2=>?_
 refine sq<|rG cx [6,7] [6] z0<|sn<|rT<|nR<|qR (.tup [.agg [.i .i64 ((0:Int)),.i .i64 ((0:Int))],.i .i64 ((3:Int))]) (A7.tup (ZLe.cons (A7.eq (show AV.agg [AV.i .i64 (0:Int),AV.i .i64 (0:Int)]=AV.agg [AV.i .i64 (H8 p rep lim).1.rep,AV.i .i64 (H8 p rep lim).1.num]from(by unfold H8;rw[if_pos h2];rfl))) (ZLe.cons (A7.eq (show AV.i .i64 3=AV.i .i64 (H8 p rep lim).2 from(by unfold H8;rw[if_pos h2]))) ZLe.nil)))
 refine sK<|sn<|sq<|rG cx [1,2,6,8] [6] (fT (con88 (p) (rep) (by(with_reducible assumption))) (oA 2 (.i .i64 (F0 p rep)) z0))<|sn<|sq<|rD cx [1,6,8,22] [6] (tT 2 (A1n:AV.i .i64 (if(1000000000:Int) < lim then(1000000000:Int)else lim)=AV.i .i64 (min lim (1000000000:Int))) (zB 3 (min lim 1000000000≤F0 p rep))) (fun h3=>?_) fun h3=>?_
 refine sq<|rG cx [6,7] [6] z0<|sn<|rT<|nR<|qR (.tup [.agg [.i .i64 ((0:Int)),.i .i64 ((0:Int))],.i .i64 ((9:Int))]) (A7.tup (ZLe.cons (A7.eq (show AV.agg [AV.i .i64 (0:Int),AV.i .i64 (0:Int)]=AV.agg [AV.i .i64 (H8 p rep lim).1.rep,AV.i .i64 (H8 p rep lim).1.num]from(by unfold H8;rw[if_neg h2,if_pos h3];rfl))) (ZLe.cons (A7.eq (show AV.i .i64 9=AV.i .i64 (H8 p rep lim).2 from(by unfold H8;rw[if_neg h2,if_pos h3]))) ZLe.nil)))
 refine sK<|sn<|sq<|rG cx [6,7] [6] (tT 2 (B4 (by omega) (by omega):AV.i .i64 (IntKind.i64.wrap (F0 p rep+1))=AV.i .i64 (F0 p rep+1)) z0) ?_
 refine sn<|rT<|qR (.tup [.agg [.i .i64 (rep),.i .i64 (F0 p rep+1)],.i .i64 ((0:Int))]) (A7.tup (ZLe.cons (A7.eq (show AV.agg [AV.i .i64 rep,AV.i .i64 (F0 p rep+1)]=AV.agg [AV.i .i64 (H8 p rep lim).1.rep,AV.i .i64 (H8 p rep lim).1.num]from(by unfold H8;rw[if_neg h2,if_neg h3]))) (ZLe.cons (A7.eq (show AV.i .i64 0=AV.i .i64 (H8 p rep lim).2 from(by unfold H8;rw[if_neg h2,if_neg h3]))) ZLe.nil)))
end Go.Proofs.YtphcaholhacnpaaGreat
namespace Go.Proofs.YtphcaholhacnpaaGreat
open Go.E
set_option maxRecDepth 100000
set_option maxHeartbeats 4000000
theorem con21(ps:List Past)(hb:A1p ps*16≤140737488350000):Con Tryz.prog 21 [.sl (ps.map c26)] (.agg (c26 (T0 ps))) :=
 by
 have h2:=fun r=>N2 r ps
 refine lN 0 c26 (ps) Tryz.func21 fun hl_0=>sC B3 [.cell 2 26] 6 Tryz.func21 ?_
 intro e0 cx
 refine sq<|rG cx [0,2] [2] z0<|sn<|sq<|rG cx [2] [2] (fT (B12 (ps) (by omega)) (fT (B4v (A3 ps) ?g0) (oV 1 { val:=some (.ptr ((204:Nat)) (0) (0) (0)),row:=(F9 c206 16 (A3 ps)) } (oA 2 (.agg [.sl (List.map c3 (H9 (A3 ps)).vec),.sl (List.map B1 (H9 (A3 ps)).cloud)]) z0)))) ?_;rotate_left
 refine sn<|rT<|qR (.agg [.sl (List.map c3 (H9 (A3 ps)).vec),.sl (List.map B1 (H9 (A3 ps)).cloud)]) (.eq ?g1);rotate_left
 case g0=>intro r hr;have:=h2 r;omega
 case g1=>rfl
end Go.Proofs.YtphcaholhacnpaaGreat
