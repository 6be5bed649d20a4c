/- Pn: span: the canonical form in plain words. Conditions: none. Pe: past: what the sets come to. Conditions: sizes. Pf: past: dots, and the set of dots. Conditions: sizes. Pg: past: the sets that pasts mean. Conditions: sizes. Ph: past: Norm. Conditions: sizes. Pi: past: the library's Equal, IsNorm. Conditions: sizes. Pj: past: Has. Conditions: none. Rh: the past in plain words: what is in a set in form. Conditions: none. Pp: span: what is in both, what is in neither, in plain words. Conditions: none. Pq: the total order of contexts, in plain words. Conditions: none. Pr: past.Compare, with the library's cmp.Compare, cmp.Or and slices.CompareFunc. Conditions: sizes. Sa: texts: their order is total. Conditions: none. Ps: strings.Compare. Conditions: none. Pl: runs: how many numbers, the greatest. Conditions: none. Pu: how many dots; the greatest of a replica: in plain words. Conditions: none. Ga: goods: is a text a SKU. Conditions: none. Kp: records: their order and form, in plain words. Conditions: none. Pk: span.Size, span.Last, past.Size, Empty, Last, Next. Conditions: sizes. Ka: keep.CheckRecord, Compare, Check. Conditions: sizes. La: lines: entries in form. Conditions: none. Lc: walks, written by a program of this claim's own, and what each function hands back. Conditions: none. Lq: entries in form: how many there are. Conditions: none. Kf: keep.Covers, Bars, Fold, Apply. Conditions: sizes. Pm: span.Meet, others, Minus; past.Minus, Join. Conditions: sizes. -/
import Derived.Below
import Derived.OwnWalk
import Derived.WalkKit
import Derived.KernelRfl
import Derived.Laws.MakeOwn
import Derived.Laws.OwnMore
import Derived.Laws.Slices
import Derived.Laws.CopyOwn
import Derived.Laws.AppendOwnNone
import Derived.Laws.Rows
import Derived.Orders
import Derived.Test.YtphcaholhacnpaaGreatProg
import Derived.DataReads
import Derived.ChangeOld
import Derived.DataElems
import Derived.SizedLaws
import Derived.ChangeKeysEq
import Derived.Sort.LotA
import Derived.Shelf.SlSortFuncK.RowK2
import Derived.Shelf.SlSortCmp.NoneTotal
import Derived.Lib.Walk
import Derived.Shelf.SlLaysE0
import Derived.Shelf.RegionOpenPlain
import Derived.Deep.LoopGhost
import Derived.Lib.SliceRun
import Derived.Lib.Bytealg
import Derived.Test.YtphcaholhacnpaaGreatZk2
set_option linter.unusedVariables false
set_option linter.unusedSimpArgs false
namespace Go.Proofs.YtphcaholhacnpaaGreat
open Go.E
set_option maxRecDepth 100000
set_option maxHeartbeats 4000000
def M0(l:List Run):Prop:=l.Pairwise (fun x y=>x.hi+1 < y.lo)∧∀ r∈l,1≤r.lo∧r.lo≤r.hi∧r.hi≤1000000000
def inR(l:List Run)(n:Int):Prop:=∃ r∈l,r.lo≤n∧n≤r.hi
theorem Az8{α:Type}[Inhabited α]{l:List α}(h:0 <(l.length:Int)):∃ p,l=p++[l[((l.length:Int)-1).toNat]!]:=by
 refine⟨l.take (l.length-1),?_⟩
 have e:((l.length:Int)-1).toNat=l.length-1:=by omega
 rw[e]
 have h1:=List.take_succ_eq_append_getElem (l:=l) (i:=l.length-1) (by omega)
 rw[getElem!_pos l (l.length-1) (by omega),← h1,List.take_of_length_le (by omega)]
theorem A99(p:List Run)(x r:Run):A2m (p++[x]) r=if r.lo≤x.hi+1 then p++[⟨x.lo,max x.hi r.hi⟩]else p++[x]++[r]:=by
 have e:(((p++[x]).length:Int)-1).toNat=p.length:=by rw[List.length_append,List.length_singleton];omega
 have hx:A70 (p++[x])=x:=by unfold A70;rw[e];simp
 unfold A2m
 rw[hx,e]
 by_cases h:r.lo≤x.hi+1
 ·rw[if_pos ⟨by rw[List.length_append,List.length_singleton];omega,h⟩,if_pos h]
  simp
 ·rw[if_neg (fun k=>h k.2),if_neg h]
theorem Ak7(r:Run):A2m [] r=[r]:=by simp [A2m]
theorem Q5:M0 []:=⟨List.Pairwise.nil,fun r hr=>by cases hr⟩
theorem B4j {out : List Run} {r : Run} (h : M0 out) (hr : A1d r) : M0 (A2m out r) := by
  unfold A1d okR at hr
  by_cases h0:out=[]
  · subst h0
    rw[Ak7]
    exact ⟨by simp, fun x hx => by have : x = r := by simpa using hx
                                   subst this;omega⟩
  · obtain ⟨p, hp⟩ := Az8 (l := out) (by have := List.length_pos_iff.2 h0; omega)
    generalize out[((out.length:Int)-1).toNat]! = x at hp
    subst hp
    obtain⟨h1,h2⟩:=h
    rw[List.pairwise_append]at h1
    obtain⟨q1,_,q3⟩:=h1
    have hx:=h2 x (by simp)
    rw[A99]
    split
    · refine ⟨List.pairwise_append.2 ⟨q1, by simp, fun a ha b hb => ?_⟩, fun a ha => ?_⟩
      · have : b = ⟨x.lo, max x.hi r.hi⟩ := by simpa using hb
        subst this
        exact q3 a ha x (by simp)
      · rcases List.mem_append.1 ha with ha | ha
        · exact h2 a (by simp [ha])
        · have : a = ⟨x.lo, max x.hi r.hi⟩ := by simpa using ha
          subst this
          simp only
          omega
    · rename_i hn
      refine⟨List.pairwise_append.2 ⟨List.pairwise_append.2 ⟨q1,by simp,q3⟩,by simp,fun a ha b hb=>?_⟩,fun a ha=>?_⟩
      · have : b = r := by simpa using hb
        subst this
        rcases List.mem_append.1 ha with ha | ha
        · have:=q3 a ha x (by simp);omega
        · have : a = x := by simpa using ha
          subst this
          omega
      · rcases List.mem_append.1 ha with ha | ha
        · exact h2 a ha
        · have : a = r := by simpa using ha
          subst this
          omega
theorem B93{out:List Run}{r:Run}(hl:∀ x∈out,x.lo≤r.lo)(hs:M0 out)(n:Int):inR (A2m out r) n↔inR out n∨(r.lo≤n∧n≤r.hi):=by
 by_cases h0:out=[]
 ·subst h0
  rw[Ak7]
  simp [inR]
 ·obtain⟨p,hp⟩:=Az8 (l:=out) (by have:=List.length_pos_iff.2 h0;omega)
  generalize out[((out.length:Int)-1).toNat]! = x at hp
  subst hp
  have hx:=hs.2 x (by simp)
  have hlx:=hl x (by simp)
  rw[A99]
  have app:∀(a b:List Run),inR (a++b) n↔inR a n∨inR b n:=by
   intro a b
   unfold inR
   constructor
   ·rintro⟨y,hy,h⟩
    rcases List.mem_append.1 hy with hy | hy
    ·exact .inl ⟨y,hy,h⟩
    ·exact .inr ⟨y,hy,h⟩
   ·rintro(⟨y,hy,h⟩ | ⟨y,hy,h⟩)
    ·exact⟨y,List.mem_append.2 (.inl hy),h⟩
    ·exact⟨y,List.mem_append.2 (.inr hy),h⟩
  have one:∀ y:Run,inR [y] n↔(y.lo≤n∧n≤y.hi):=by intro y;simp [inR]
  split
  ·rw[app,app,one,one,or_assoc]
   refine or_congr_right ?_
   simp only
   omega
  ·rw[app,one]
theorem A5n(l:List Run):∀(out:List Run),M0 out→(∀ r∈l,A1d r)→l.Pairwise (fun x y=>x.lo≤y.lo)→(∀ x∈out,∀ r∈l,x.lo≤r.lo) →
  M0 (l.foldl A2m out)∧∀ n,inR (l.foldl A2m out) n↔inR out n∨inR l n:=by
 induction l with
 | nil=>intro out h _ _ _;exact⟨h,fun n=>by simp [inR]⟩
 | cons r l ih =>
  intro out h hg hp hl
  rw[List.pairwise_cons]at hp
  have hlo:∀ x∈A2m out r,∀ y∈l,x.lo≤y.lo:=by
   intro x hx y hy
   have hy1:=hp.1 y hy
   unfold A2m at hx
   split at hx
   ·rename_i hc
    rcases List.mem_or_eq_of_mem_set hx with hx | rfl
    ·have:=hl x hx r (by simp);omega
    ·have:=hl _ (D9 (l:=out) (i:=((out.length:Int)-1).toNat) (by omega)) r (by simp)
     unfold A70
     simp only
     omega
   ·rcases List.mem_append.1 hx with hx | hx
    ·have:=hl x hx r (by simp);omega
    ·have:x=r:=by simpa using hx
     subst this
     exact hy1
  obtain⟨g1,g2⟩:=ih (A2m out r) (B4j h (hg r (by simp))) (fun y hy=>hg y (by simp [hy])) hp.2 hlo
  refine⟨g1,fun n=>?_⟩
  rw[List.foldl_cons,g2 n,B93 (fun x hx=>hl x hx r (by simp)) h n,or_assoc]
  refine or_congr_right ?_
  simp [inR]
theorem B94(ss:List (List Run)):M0 (unR ss):=by
 have hg:∀ r∈J9 ss.flatten,A1d r:=H3
 exact(A5n _ [] Q5 (A0i hg) (A5j _) (fun x hx=>by cases hx)).1
theorem unR_in(ss:List (List Run))(n:Int):inR (unR ss) n↔1≤n∧n≤1000000000∧inR ss.flatten n:=by
 have hg:∀ r∈J9 ss.flatten,A1d r:=H3
 have h:=(A5n _ [] Q5 (A0i hg) (A5j _) (fun x hx=>by cases hx)).2 n
 unfold unR As7
 rw[h]
 have hp:=S5 (l:=J9 ss.flatten) fun r hr=>(hg r hr).1
 constructor
 ·rintro(⟨r,hr,_⟩ | ⟨r,hr,h1,h2⟩)
  ·cases hr
  ·have hr:=hp.subset hr
   unfold J9 at hr
   obtain⟨hr,_⟩:=List.mem_filter.1 hr
   obtain⟨x,hx,rfl⟩:=List.mem_map.1 hr
   simp only [E5]at h1 h2
   exact⟨by omega,by omega,x,hx,by omega,by omega⟩
 ·rintro⟨h1,h2,x,hx,h3,h4⟩
  refine .inr ⟨E5 x,hp.symm.subset ?_,?_,?_⟩
  ·unfold J9
   refine List.mem_filter.2 ⟨List.mem_map.2 ⟨x,hx,rfl⟩,?_⟩
   show decide ((E5 x).lo≤(E5 x).hi)=true
   rw[decide_eq_true_iff]
   show max x.lo 1≤min x.hi 1000000000
   omega
  ·simp only [E5];omega
  ·simp only [E5];omega
theorem Ae7{l:List Run}(h:M0 l):∀ i:Nat,i < l.length→2*(i:Int)+1≤l[i]!.lo
 | 0,hi=>by have:=h.2 _ (D9 hi);omega
 | i+1,hi=>by
  have h1:=Ae7 h i (by omega)
  have h2:=List.pairwise_iff_getElem.1 h.1 i (i+1) (by omega) hi (by omega)
  rw[← getElem!_pos l i (by omega),← getElem!_pos l (i+1) hi]at h2
  have h3:=h.2 _ (D9 (l:=l) (i:=i) (by omega))
  omega
theorem L6{l:List Run}(h:M0 l):l.length≤500000000:=by
 by_cases h0:l.length=0
 ·omega
 ·have h1:=Ae7 h (l.length-1) (by omega)
  have h2:=h.2 _ (D9 (l:=l) (i:=l.length-1) (by omega))
  omega
theorem E1(a:List Run):M0 (nrm a):=B94 [a]
theorem Q6(a:List Run)(n:Int):inR (nrm a) n↔1≤n∧n≤1000000000∧inR a n:=by
 have:=unR_in [a] n
 simpa [nrm]using this
theorem O3:∀ {a b:List Run},M0 a→M0 b→(∀ n,inR a n↔inR b n)→a=b
 | [],[],_,_,_=>rfl
 | [],y :: b,_,hb,h=>by
  have:=hb.2 y (by simp)
  obtain⟨r,hr,_⟩:=(h y.lo).2 ⟨y,by simp,by omega,by omega⟩
  cases hr
 | x :: a,[],ha,_,h=>by
  have:=ha.2 x (by simp)
  obtain⟨r,hr,_⟩:=(h x.lo).1 ⟨x,by simp,by omega,by omega⟩
  cases hr
 | x :: a,y :: b,ha,hb,h=>by
  have hx:=ha.2 x (by simp)
  have hy:=hb.2 y (by simp)
  have pa:=List.pairwise_cons.1 ha.1
  have pb:=List.pairwise_cons.1 hb.1
  have la:∀ n,inR a n→x.hi+1 < n:=fun n ⟨r,hr,h1,_⟩=>by have:=pa.1 r hr;omega
  have lb:∀ n,inR b n→y.hi+1 < n:=fun n ⟨r,hr,h1,_⟩=>by have:=pb.1 r hr;omega
  have ca:∀ n,inR (x :: a) n↔(x.lo≤n∧n≤x.hi)∨inR a n:=fun n=>by simp [inR]
  have cb:∀ n,inR (y :: b) n↔(y.lo≤n∧n≤y.hi)∨inR b n:=fun n=>by simp [inR]
  have e1:x.lo=y.lo:=by
   have h1:=(cb x.lo).1 ((h x.lo).1 ((ca x.lo).2 (.inl (by omega))))
   have h2:=(ca y.lo).1 ((h y.lo).2 ((cb y.lo).2 (.inl (by omega))))
   rcases h1 with h1 | h1
   ·rcases h2 with h2 | h2
    ·omega
    ·have:=la _ h2;omega
   ·have:=lb _ h1
    rcases h2 with h2 | h2
    ·omega
    ·have:=la _ h2;omega
  have e2:x.hi=y.hi:=by
   have h1:=(cb x.hi).1 ((h x.hi).1 ((ca x.hi).2 (.inl (by omega))))
   have h2:=(ca y.hi).1 ((h y.hi).2 ((cb y.hi).2 (.inl (by omega))))
   have h3:¬ x.hi < y.hi:=fun k=>by
    have:=(ca (x.hi+1)).1 ((h (x.hi+1)).2 ((cb (x.hi+1)).2 (.inl (by omega))))
    rcases this with g | g
    ·omega
    ·have:=la _ g;omega
   have h4:¬ y.hi < x.hi:=fun k=>by
    have:=(cb (y.hi+1)).1 ((h (y.hi+1)).1 ((ca (y.hi+1)).2 (.inl (by omega))))
    rcases this with g | g
    ·omega
    ·have:=lb _ g;omega
   omega
  have e:x=y:=by cases x;cases y;simp only at e1 e2;rw[e1,e2]
  subst e
  rw[O3 (a:=a) (b:=b) ⟨pa.2,fun r hr=>ha.2 r (by simp [hr])⟩ ⟨pb.2,fun r hr=>hb.2 r (by simp [hr])⟩ fun n=>?_]
  have:=h n
  rw[ca,cb]at this
  constructor
  ·intro g
   have g1:=la n g
   rcases this.1 (.inr g)with k | k
   ·omega
   ·exact k
  ·intro g
   have g1:=lb n g
   rcases this.2 (.inr g)with k | k
   ·omega
   ·exact k
end Go.Proofs.YtphcaholhacnpaaGreat
namespace Go.Proofs.YtphcaholhacnpaaGreat
open Go.E
set_option maxRecDepth 100000
set_option maxHeartbeats 4000000
def A07(T:Nat→List Run)(r:Nat):Int:=(B7 (nrm (T r))).1
def V0(T:Nat→List Run)(r:Nat):List Span:=(B7 (nrm (T r))).2.map fun x=>⟨r,x.lo,x.hi⟩
def szT(T:Nat→List Run):Nat→Int
 | 0=>0
 | n+1=>if 0 < A07 T n then n+1 else szT T n
def H4(T:Nat→List Run):Nat→List Span
 | 0=>[]
 | n+1=>H4 T n++V0 T n
def A5o(T:Nat→List Run)(n:Nat):List Int:=(List.range n).map (A07 T)++List.replicate (16-n) 0
def E8(T:Nat→List Run):Past:=⟨(A5o T 16).take (szT T 16).toNat,H4 T 16⟩
def Az9(T:Nat→List Run)(r s:Int):Prop:=s=szT T r.toNat
def A0j(T:Nat→List Run)(r:Int)(v:List Int):Prop:=v=A5o T r.toNat
def J2(T:Nat→List Run)(r:Int)(c:List Span):Prop:=c=H4 T r.toNat
def I8(T:Nat→List Run)(r j:Int)(c:List Span):Prop:=c=H4 T r.toNat++(V0 T r.toNat).take j.toNat
def Ak8(T:Nat→List Run)(s r:Int)(v:List Int)(c:List Span):Prop:=0≤r∧r≤16∧0≤s∧s≤r∧v.length=16∧Az9 T r s∧A0j T r v∧J2 T r c
def dec81a(s r:Int)(v:List Int)(c:List Span):Nat:=(16-r).toNat
def A5p(T:Nat→List Run)(r:Int)(w:List Int)(j:Int)(v:List Int)(c:List Span):Prop:=v=w∧0≤j∧j≤(B7 (nrm (T r.toNat))).2.length∧I8 T r j c
def B70(T:Nat→List Run)(r:Int)(j:Int)(v:List Int)(c:List Span):Nat:=((B7 (nrm (T r.toNat))).2.length-j).toNat
theorem A2z(T:Nat→List Run)(r:Nat):(B7 (nrm (T r))).2.length≤500000000:=by
 have h:=L6 (E1 (T r))
 unfold B7
 split
 ·exact h
 ·simp only [List.length_drop];omega
theorem A1f(T:Nat→List Run):∀ n:Nat,(H4 T n).length≤n*500000000
 | 0=>by simp [H4]
 | n+1=>by
  have h1:=A1f T n
  have h2:=A2z T n
  rw[H4,List.length_append,V0,List.length_map]
  omega
theorem Z5{T:Nat→List Run}{r j:Int}{c:List Span}(h0:0≤r)(h1:r < 16)(hc:I8 T r j c):c.length≤8000000000:=by
 unfold I8 at hc
 have h2:=A1f T r.toNat
 have h3:=A2z T r.toNat
 rw[hc,List.length_append,List.length_take,V0,List.length_map]
 omega
theorem A2f{T:Nat→List Run}{r:Int}{c:List Span}(hc:J2 T r c):I8 T r 0 c:=by
 unfold J2 I8 at *
 simpa using hc
theorem A3q{T:Nat→List Run}{r j:Int}{c:List Span}(h0:0≤r)(j0:0≤j)(jl:j <(B7 (nrm (T r.toNat))).2.length)(hc:I8 T r j c) :
  I8 T r (j+1) (c++[⟨r,((B7 (nrm (T r.toNat))).2[j.toNat]!).lo,((B7 (nrm (T r.toNat))).2[j.toNat]!).hi⟩]):=by
 unfold I8 at *
 have hl:(j:Int) <(V0 T r.toNat).length:=by rw[V0,List.length_map];exact jl
 rw[← C8 j0 hl,← List.append_assoc,← hc]
 have e:(V0 T r.toNat)[j.toNat]! =⟨r,((B7 (nrm (T r.toNat))).2[j.toNat]!).lo,((B7 (nrm (T r.toNat))).2[j.toNat]!).hi⟩:=by
  have hj:j.toNat <(B7 (nrm (T r.toNat))).2.length:=by omega
  rw[getElem!_pos (V0 T r.toNat) j.toNat (by omega),getElem!_pos (B7 (nrm (T r.toNat))).2 j.toNat hj]
  simp only [V0,List.getElem_map]
  congr 1
  omega
 rw[e]
theorem A5q{T:Nat→List Run}{r j:Int}{c:List Span}(h0:0≤r)(jl:¬ j <(B7 (nrm (T r.toNat))).2.length)(hc:I8 T r j c):J2 T (r+1) c:=by
 unfold I8 J2 at *
 rw[hc,show(r+1).toNat=r.toNat+1 by omega,H4,List.take_of_length_le (by rw[V0,List.length_map];omega)]
theorem A72{T:Nat→List Run}{r:Int}{v:List Int}(h0:0≤r)(h1:r < 16)(hv:A0j T r v):A0j T (r+1) (v.set r.toNat (B7 (nrm (T r.toNat))).1):=by
 unfold A0j at *
 rw[hv,show(r+1).toNat=r.toNat+1 by omega]
 unfold A5o
 generalize hn:r.toNat=n
 have hn':n < 16:=by omega
 rw[List.set_append_right _ _ (by simp),List.length_map,List.length_range,Nat.sub_self,show 16-n=(16-(n+1))+1 by omega,List.replicate_succ,List.set_cons_zero,List.range_succ,List.map_append,List.append_assoc]
 rfl
theorem Ae8{T:Nat→List Run}{r s:Int}(h0:0≤r)(hs:Az9 T r s):Az9 T (r+1) (if 0 <(B7 (nrm (T r.toNat))).1 then r+1 else s):=by
 unfold Az9 at *
 rw[show(r+1).toNat=r.toNat+1 by omega,szT,A07,hs]
 split
 ·omega
 ·rfl
theorem A73{T:Nat→List Run}{r s:Int}{v:List Int}{c:List Span}(h1:r≤16)(h:¬ r < 16)(hs:Az9 T r s)(hv:A0j T r v)(hc:J2 T r c):E8 T=⟨v.take s.toNat,c⟩:=by
 unfold Az9 A0j J2 at *
 have:r.toNat=16:=by omega
 rw[this]at hs hv hc
 unfold E8
 rw[hs,hv,hc]
theorem B4k(t:Nat→List Run)(hb:∀ r:Nat,r < 16→(t r).length*16≤140737488351232):Con Tryz.prog 93 [.eptr (E2 c206 16 t)] (.agg (c26 (E8 t))) :=
 by
 refine sC A6 [.cell 2 26] 59 Tryz.func93 ?_
 intro e0 cx
 refine sq<|rG cx [0,2] [2] z0<|sn<|sq<|rG cx [0,2,3] [2,3] z0<|sn<|sq<|rG cx [0,2,3,4] [2,3,11] (fR (↑(16:Nat):Int) (fR (↑(16:Nat):Int) (fO ((8:Nat)*(16:Nat)≤(281474976710656:Nat)) (fP ((16:Nat)≤maxLen) (by(simp only [Go.maxLen];omega)) (fR 1 (fP (ZLe [AV.i .i64 (0:Int)] [AV.i .i64 (0:Int)]) (by(with_reducible exact ZLe.refl _)) (fP (List.replicate (16:Nat) [AV.i .i64 (0:Int)]=List.map c3 (List.replicate (16:Nat) (0:Int))) (by(with_reducible refine Ae0 ?_;kernel_rfl)) (oV 0 { row:=[.i .i64 ((0:Int))],rows:=some (List.map c3 (List.replicate (16:Nat) (0:Int))),n:=(16:Nat) } z0)))))))) ?_
 refine sn<|sq<|rG cx [0,2,3,4,5] [2,3,11] z0<|sn<|sq<|sq<|rG cx [0,2,3,4,5,12] [2,3,11] z0<|sn<|bL 0<|A1x 3 141 3 1 5301 (σ':=⟨[(0,.eptr (E2 c206 16 t)),(2,.ptr (2) (0) (0) (0)),(3,.ptr (3) (0) (0) (0)),(4,.own 11 0),(5,.i .i64 ((0:Int))),(12,.i .i64 ((0:Int)))],[(2,⟨0,26,.var [.nl,.nl]⟩),(3,⟨0,26,.var [.nl,.own 5301 0]⟩),(11,⟨0,3,.row 1 (List.map c3 (List.replicate (16:Nat) (0:Int)))⟩),(5301,⟨0,141,.row 3 (List.map A9 [])⟩)]⟩) (by kernel_rfl)<|sL (X:=Int×Int×List Int×List Span) (fun x=>⟨[(0,.eptr (E2 c206 16 t)),(2,.ptr (2) (0) (0) (0)),(3,.ptr (3) (0) (0) (0)),(4,.own 11 0),(5,.i .i64 (x.1)),(12,.i .i64 (x.2.1))],[(2,⟨0,26,.var [.nl,.nl]⟩),(3,⟨0,26,.var [.nl,.own 5301 0]⟩),(11,⟨0,3,.row 1 (List.map c3 x.2.2.1)⟩),(5301,⟨0,141,.row 3 (List.map A9 x.2.2.2)⟩)]⟩) (fun x ↦ dec81a x.1 x.2.1 x.2.2.1 x.2.2.2) (fun x ↦ Ak8 t x.1 x.2.1 x.2.2.1 x.2.2.2) [0,2,3,4,5,12] [2,3,11,5301] (((0:Int),(0:Int),List.replicate (16:Nat) (0:Int),[])) (show Ak8 t (0:Int) (0:Int) (List.replicate (16:Nat) (0:Int)) []from ?g0) ?_;rotate_left
 rintro⟨s0,r1,v2,cc3⟩ h_4
 obtain⟨hh5,hh6,hh7,hh8,hh9,h10,h11,h12⟩:0≤r1∧r1≤16∧0≤s0∧s0≤r1∧v2.length=(16:Nat)∧Az9 t r1 s0∧A0j t r1 v2∧J2 t r1 cc3:=h_4
 refine rE cx [0,2,3,4,5,12,13] [2,3,11,5301] (zB 0 (r1 <(16:Int))) (fun h13=>?_) fun h13=>?_
 refine sK<|sn<|sq<|bL 1<|sq<|rG cx [0,2,3,4,5,12,6] [2,3,11,5301] z0<|sn<|sq ?_
 have hl_14:=(U9 (t r1.toNat))
 refine rG cx [0,2,3,4,5,12,6,7,8] [2,3,11,5301] (fA (0≤r1) (fO (r1 <(↑(16:Nat):Int)) (fP ((List.drop (r1.toNat*(1:Nat)) (E2 c206 16 t))[(0:Nat)]?=some (AV.sl (List.map c206 (t r1.toNat)))) (by(exact A6w (by omega))) (fT (con163 (t r1.toNat) ?g1) (oR 4 [.sl (List.map c206 (t r1.toNat))] (oA 5 (.tup [.i .i64 ((B7 (nrm (t r1.toNat))).1),.sl (List.map c206 (B7 (nrm (t r1.toNat))).2)]) z0)))))) ?_;rotate_left
 refine sn<|sq<|rG cx [0,2,3,4,5,12,6,7,8] [2,3,11,5301] (fA (0≤r1) (fP (r1.toNat <(List.map c3 v2).length) (by(first | omega | (simp only [List.length_map];omega))) (fR 1 (fG c3 v2 r1.toNat (fR 1 (fP (0+(1:Nat)≤1) (by(first | omega | (simp only [List.length_map];omega))) (fP ((List.map c3 v2).set r1.toNat (List.take (0) (c3 v2[r1.toNat]!)++D4 (AV.i .i64 (B7 (nrm (t r1.toNat))).1)++List.drop (0+(1:Nat)) (c3 v2[r1.toNat]!))=List.map c3 (v2.set r1.toNat (B7 (nrm (t r1.toNat))).1)) (by(with_reducible refine A1w ?_;kernel_rfl)) (oV 4 { row:=(c3 v2[r1.toNat]!),rows:=some (List.map c3 (v2.set r1.toNat (B7 (nrm (t r1.toNat))).1)) } z0)))))))) ?_
 refine sn<|sq<|rD cx [0,2,3,4,5,12,6,8,29] [2,3,11,5301] (zB 1 ((0:Int) <(B7 (nrm (t r1.toNat))).1)) (fun h_15=>?_) fun h_15=>?_
 refine rG cx [0,2,3,4,5,12,6,8] [2,3,11,5301] (tW 1 (r1+1) z0)<|sn<|sq<|rG cx [0,2,3,4,5,12,6,32,33,34] [2,3,11,5301] (tL 1 c206 ((B7 (nrm (t r1.toNat))).2) z0)<|sn<|bL 2<|sL (X:=Int×List Int×List Span) (fun x=>⟨[(0,.eptr (E2 c206 16 t)),(2,.ptr (2) (0) (0) (0)),(3,.ptr (3) (0) (0) (0)),(4,.own 11 0),(5,.i .i64 (r1+1)),(12,.i .i64 (r1)),(6,.i .i64 (r1)),(32,.sl (List.map c206 (B7 (nrm (t r1.toNat))).2)),(33,.i .i64 ((↑(B7 (nrm (t r1.toNat))).2.length:Int))),(34,.i .i64 (x.1))],[(2,⟨0,26,.var [.nl,.nl]⟩),(3,⟨0,26,.var [.nl,.own 5301 0]⟩),(11,⟨0,3,.row 1 (List.map c3 x.2.1)⟩),(5301,⟨0,141,.row 3 (List.map A9 x.2.2)⟩)]⟩) (fun x ↦ B70 t r1 x.1 x.2.1 x.2.2) (fun x ↦ A5p t r1 (v2.set r1.toNat (B7 (nrm (t r1.toNat))).1) x.1 x.2.1 x.2.2) [0,2,3,4,5,12,6,32,33,34] [2,3,11,5301] (((0:Int),v2.set r1.toNat (B7 (nrm (t r1.toNat))).1,cc3)) (show A5p t r1 (v2.set r1.toNat (B7 (nrm (t r1.toNat))).1) (0:Int) (v2.set r1.toNat (B7 (nrm (t r1.toNat))).1) cc3 from ?g2) ?_;rotate_left
 rintro⟨j_16,v_17,c_18⟩ h_19
 obtain⟨h_20,h_21,h_22,h_23⟩:v_17=v2.set r1.toNat (B7 (nrm (t r1.toNat))).1∧0≤j_16∧j_16≤(↑(B7 (nrm (t r1.toNat))).2.length:Int)∧I8 t r1 j_16 c_18:=h_19
 refine rE cx [0,2,3,4,5,12,6,32,33,34,35] [2,3,11,5301] (zB 0 (j_16 <(↑(B7 (nrm (t r1.toNat))).2.length:Int))) (fun h_24=>?_) fun h_24=>?_
 refine sK<|sn<|sq<|bL 3<|sq<|rG cx [0,2,3,4,5,12,6,32,33,34,10] [2,3,11,5301,10] (fA (0≤j_16) (fG c206 ((B7 (nrm (t r1.toNat))).2) j_16.toNat (fR 2 (fN 2 2 (oR 0 (c206 (B7 (nrm (t r1.toNat))).2[j_16.toNat]!) z0)))))<|sn<|rG cx [0,2,3,4,5,12,6,32,33,34] [2,3,11,5301] (fR 141 (fR 3 (fR 3 (fX A9 [{ rep:=r1,lo:=(B7 (nrm (t r1.toNat))).2[j_16.toNat]!.lo,hi:=(B7 (nrm (t r1.toNat))).2[j_16.toNat]!.hi:Span }] 3 (fP ((List.map A9 c_18).length+(List.map A9 [{ rep:=r1,lo:=(B7 (nrm (t r1.toNat))).2[j_16.toNat]!.lo,hi:=(B7 (nrm (t r1.toNat))).2[j_16.toNat]!.hi:Span }]).length≤maxLen) ?g3 (fP (((List.map A9 c_18).length+(List.map A9 [{ rep:=r1,lo:=(B7 (nrm (t r1.toNat))).2[j_16.toNat]!.lo,hi:=(B7 (nrm (t r1.toNat))).2[j_16.toNat]!.hi:Span }]).length)*(24:Nat)≤(140737488355328:Nat)) ?g4 (fM A9 c_18 [{ rep:=r1,lo:=(B7 (nrm (t r1.toNat))).2[j_16.toNat]!.lo,hi:=(B7 (nrm (t r1.toNat))).2[j_16.toNat]!.hi:Span }] (oV 9 { rows:=some (List.map A9 (c_18++[{ rep:=r1,lo:=(B7 (nrm (t r1.toNat))).2[j_16.toNat]!.lo,hi:=(B7 (nrm (t r1.toNat))).2[j_16.toNat]!.hi:Span }])) } z0)))))))) ?_;rotate_left 2
 refine bN<|sn<|rG cx [0,2,3,4,5,12,6,32,33,34] [2,3,11,5301] (tT 0 (B4 (by omega) ?g5:AV.i .i64 (IntKind.i64.wrap (j_16+1))=AV.i .i64 (j_16+1)) z0) ?_;rotate_left
 refine sn<|nX ((j_16+1,v_17,c_18++[{ rep:=r1,lo:=(B7 (nrm (t r1.toNat))).2[j_16.toNat]!.lo,hi:=(B7 (nrm (t r1.toNat))).2[j_16.toNat]!.hi:Span }])) (show((↑(B7 (nrm (t r1.toNat))).2.length:Int)-(j_16+1)).toNat <((↑(B7 (nrm (t r1.toNat))).2.length:Int)-j_16).toNat from(by omega)) (show A5p t r1 (v2.set r1.toNat (B7 (nrm (t r1.toNat))).1) (j_16+1) v_17 (c_18++[{ rep:=r1,lo:=(B7 (nrm (t r1.toNat))).2[j_16.toNat]!.lo,hi:=(B7 (nrm (t r1.toNat))).2[j_16.toNat]!.hi:Span }])from ?g6);rotate_left
 refine eX 2<|nE<|nE<|bH<|bN<|sn<|rG cx [0,2,3,4,5,12] [2,3,11,5301] (tW 0 (r1+1) z0)<|sn<|nX ((r1+1,r1+1,v_17,c_18)) (show(16-(r1+1)).toNat <(16-r1).toNat from(by omega)) (show Ak8 t (r1+1) (r1+1) v_17 c_18 from ?g7);rotate_left
 refine sK<|sn<|sq<|rG cx [0,2,3,4,5,12,6,32,33,34] [2,3,11,5301] (tL 1 c206 ((B7 (nrm (t r1.toNat))).2) z0)<|sn<|bL 2<|sL (X:=Int×List Int×List Span) (fun x=>⟨[(0,.eptr (E2 c206 16 t)),(2,.ptr (2) (0) (0) (0)),(3,.ptr (3) (0) (0) (0)),(4,.own 11 0),(5,.i .i64 (s0)),(12,.i .i64 (r1)),(6,.i .i64 (r1)),(32,.sl (List.map c206 (B7 (nrm (t r1.toNat))).2)),(33,.i .i64 ((↑(B7 (nrm (t r1.toNat))).2.length:Int))),(34,.i .i64 (x.1))],[(2,⟨0,26,.var [.nl,.nl]⟩),(3,⟨0,26,.var [.nl,.own 5301 0]⟩),(11,⟨0,3,.row 1 (List.map c3 x.2.1)⟩),(5301,⟨0,141,.row 3 (List.map A9 x.2.2)⟩)]⟩) (fun x ↦ B70 t r1 x.1 x.2.1 x.2.2) (fun x ↦ A5p t r1 (v2.set r1.toNat (B7 (nrm (t r1.toNat))).1) x.1 x.2.1 x.2.2) [0,2,3,4,5,12,6,32,33,34] [2,3,11,5301] (((0:Int),v2.set r1.toNat (B7 (nrm (t r1.toNat))).1,cc3)) (show A5p t r1 (v2.set r1.toNat (B7 (nrm (t r1.toNat))).1) (0:Int) (v2.set r1.toNat (B7 (nrm (t r1.toNat))).1) cc3 from ?g8) ?_;rotate_left
 rintro⟨j_25,v_26,c_27⟩ h_28
 obtain⟨h_29,h_30,h_31,h_32⟩:v_26=v2.set r1.toNat (B7 (nrm (t r1.toNat))).1∧0≤j_25∧j_25≤(↑(B7 (nrm (t r1.toNat))).2.length:Int)∧I8 t r1 j_25 c_27:=h_28
 refine rE cx [0,2,3,4,5,12,6,32,33,34,35] [2,3,11,5301] (zB 0 (j_25 <(↑(B7 (nrm (t r1.toNat))).2.length:Int))) (fun h_33=>?_) fun h_33=>?_
 refine sK<|sn<|sq<|bL 3<|sq<|rG cx [0,2,3,4,5,12,6,32,33,34,10] [2,3,11,5301,10] (fA (0≤j_25) (fG c206 ((B7 (nrm (t r1.toNat))).2) j_25.toNat (fR 2 (fN 2 2 (oR 0 (c206 (B7 (nrm (t r1.toNat))).2[j_25.toNat]!) z0)))))<|sn<|rG cx [0,2,3,4,5,12,6,32,33,34] [2,3,11,5301] (fR 141 (fR 3 (fR 3 (fX A9 [{ rep:=r1,lo:=(B7 (nrm (t r1.toNat))).2[j_25.toNat]!.lo,hi:=(B7 (nrm (t r1.toNat))).2[j_25.toNat]!.hi:Span }] 3 (fP ((List.map A9 c_27).length+(List.map A9 [{ rep:=r1,lo:=(B7 (nrm (t r1.toNat))).2[j_25.toNat]!.lo,hi:=(B7 (nrm (t r1.toNat))).2[j_25.toNat]!.hi:Span }]).length≤maxLen) ?g9 (fP (((List.map A9 c_27).length+(List.map A9 [{ rep:=r1,lo:=(B7 (nrm (t r1.toNat))).2[j_25.toNat]!.lo,hi:=(B7 (nrm (t r1.toNat))).2[j_25.toNat]!.hi:Span }]).length)*(24:Nat)≤(140737488355328:Nat)) ?g10 (fM A9 c_27 [{ rep:=r1,lo:=(B7 (nrm (t r1.toNat))).2[j_25.toNat]!.lo,hi:=(B7 (nrm (t r1.toNat))).2[j_25.toNat]!.hi:Span }] (oV 9 { rows:=some (List.map A9 (c_27++[{ rep:=r1,lo:=(B7 (nrm (t r1.toNat))).2[j_25.toNat]!.lo,hi:=(B7 (nrm (t r1.toNat))).2[j_25.toNat]!.hi:Span }])) } z0)))))))) ?_;rotate_left 2
 refine bN<|sn<|rG cx [0,2,3,4,5,12,6,32,33,34] [2,3,11,5301] (tT 0 (B4 (by omega) ?g11:AV.i .i64 (IntKind.i64.wrap (j_25+1))=AV.i .i64 (j_25+1)) z0) ?_;rotate_left
 refine sn<|nX ((j_25+1,v_26,c_27++[{ rep:=r1,lo:=(B7 (nrm (t r1.toNat))).2[j_25.toNat]!.lo,hi:=(B7 (nrm (t r1.toNat))).2[j_25.toNat]!.hi:Span }])) (show((↑(B7 (nrm (t r1.toNat))).2.length:Int)-(j_25+1)).toNat <((↑(B7 (nrm (t r1.toNat))).2.length:Int)-j_25).toNat from(by omega)) (show A5p t r1 (v2.set r1.toNat (B7 (nrm (t r1.toNat))).1) (j_25+1) v_26 (c_27++[{ rep:=r1,lo:=(B7 (nrm (t r1.toNat))).2[j_25.toNat]!.lo,hi:=(B7 (nrm (t r1.toNat))).2[j_25.toNat]!.hi:Span }])from ?g12);rotate_left
 refine eX 2<|nE<|nE<|bH<|bN<|sn<|rG cx [0,2,3,4,5,12] [2,3,11,5301] (tW 0 (r1+1) z0)<|sn<|nX ((s0,r1+1,v_26,c_27)) (show(16-(r1+1)).toNat <(16-r1).toNat from(by omega)) (show Ak8 t s0 (r1+1) v_26 c_27 from ?g13);rotate_left
 refine eX 0<|nE<|nE<|bH<|sn<|sq<|rD cx [2,3,4,5,52] [2,3,11,5301] (zB 1 ((0:Int) < s0)) (fun h34=>?_) fun h34=>?_
 refine rG cx [2,3] [2,3,5301,56] (fO ((0:Int)≤(0:Int)) (fA (0≤s0) (fP (s0≤(↑(List.map c3 v2).length:Int)) (by(first | omega | (simp only [List.length_map];omega))) (fP ((0:Int) <(↑(List.map c3 v2).length:Int)) (by(first | omega | (simp only [List.length_map];omega))) (fR (some (1)) (fP (A59 Tryz.prog (164:Nat) [AV.sl (List.take (s0-0).toNat (List.drop (0) (List.map c3 v2)))] (3:Nat) (BK.row (1:Nat) (List.map c3 (List.take (s0-0).toNat (List.drop (0) v2))))) (A59.le (con164 (List.take (s0-0).toNat (List.drop (0) v2)) ?g14) (ZLe.cons (B5.eq (by simp only [List.map_take,List.map_drop])) ZLe.nil)) (oV 3 { val:=some (.own (3:Nat) (1:Nat)),rows:=some (List.map c3 (List.take (s0-0).toNat (List.drop (0) v2))) } z0))))))) ?_;rotate_left
 refine sn<|sq<|N8 [56,5301] [2,3] [2,3] (σ':=⟨[(2,.ptr (2) (0) (0) (0)),(3,.ptr (3) (0) (0) (0))],[(2,⟨0,26,.var [.nl,.nl]⟩),(3,⟨0,26,.var [.sl (((E.look [(3,{ val:=some (AV.own (3:Nat) (1:Nat)),rows:=some (List.map c3 (List.take (s0-0).toNat (List.drop (0) v2))):Ov })] (3)).getD {:Ov }).rows.getD []),.sl (List.map A9 cc3)]⟩)]⟩) (by kernel_rfl)<|rG cx [2] [2,3] z0<|sn<|rT<|qR (.agg [.sl (((E.look [(3,{ val:=some (AV.own (3:Nat) (1:Nat)),rows:=some (List.map c3 (List.take (s0-0).toNat (List.drop (0) v2))):Ov })] (3)).getD {:Ov }).rows.getD []),.sl (List.map A9 cc3)]) (.eq ?g15);rotate_left
 refine sK<|sn<|sq<|N8 [5301] [2,3,4,5,52] [2,3,11] (σ':=⟨[(2,.ptr (2) (0) (0) (0)),(3,.ptr (3) (0) (0) (0)),(4,.own 11 0),(5,.i .i64 (s0)),(52,.b (decide ((0:Int) < s0)))],[(2,⟨0,26,.var [.nl,.nl]⟩),(3,⟨0,26,.var [.nl,.sl (List.map A9 cc3)]⟩),(11,⟨0,3,.row 1 (List.map c3 v2)⟩)]⟩) (by kernel_rfl)<|rG cx [2] [2] z0<|sn<|rT<|qR (.agg [.nl,.sl (List.map A9 cc3)]) (B5.agg (ZLe.cons (B5.nl' (show List.map c3 (E8 t).vec=[]from ?g17)) (ZLe.cons (B5.eq (show AV.sl (List.map A9 cc3)=AV.sl (List.map A9 (E8 t).cloud)from ?g16)) ZLe.nil)));rotate_left 2
 rotate_left
 clear hl_14;revert s0 r1 v2 cc3 hh5 hh6 hh7 hh8 hh9 h10 h11 h12 h13;rotate_left
 clear hl_14;revert s0 r1 v2 cc3 hh5 hh6 hh7 hh8 hh9 h10 h11 h12 h13 h_15;rotate_left
 clear hl_14;revert s0 r1 v2 cc3 hh5 hh6 hh7 hh8 hh9 h10 h11 h12 h13 h_15 j_16 v_17 c_18 h_20 h_21 h_22 h_23 h_24;rotate_left
 clear hl_14;revert s0 r1 v2 cc3 hh5 hh6 hh7 hh8 hh9 h10 h11 h12 h13 h_15 j_16 v_17 c_18 h_20 h_21 h_22 h_23 h_24;rotate_left
 clear hl_14;revert s0 r1 v2 cc3 hh5 hh6 hh7 hh8 hh9 h10 h11 h12 h13 h_15 j_16 v_17 c_18 h_20 h_21 h_22 h_23 h_24;rotate_left
 clear hl_14;revert s0 r1 v2 cc3 hh5 hh6 hh7 hh8 hh9 h10 h11 h12 h13 h_15 j_16 v_17 c_18 h_20 h_21 h_22 h_23 h_24;rotate_left
 clear hl_14;revert s0 r1 v2 cc3 hh5 hh6 hh7 hh8 hh9 h10 h11 h12 h13 h_15 j_16 v_17 c_18 h_20 h_21 h_22 h_23 h_24;rotate_left
 clear hl_14;revert s0 r1 v2 cc3 hh5 hh6 hh7 hh8 hh9 h10 h11 h12 h13 h_15;rotate_left
 clear hl_14;revert s0 r1 v2 cc3 hh5 hh6 hh7 hh8 hh9 h10 h11 h12 h13 h_15 j_25 v_26 c_27 h_29 h_30 h_31 h_32 h_33;rotate_left
 clear hl_14;revert s0 r1 v2 cc3 hh5 hh6 hh7 hh8 hh9 h10 h11 h12 h13 h_15 j_25 v_26 c_27 h_29 h_30 h_31 h_32 h_33;rotate_left
 clear hl_14;revert s0 r1 v2 cc3 hh5 hh6 hh7 hh8 hh9 h10 h11 h12 h13 h_15 j_25 v_26 c_27 h_29 h_30 h_31 h_32 h_33;rotate_left
 clear hl_14;revert s0 r1 v2 cc3 hh5 hh6 hh7 hh8 hh9 h10 h11 h12 h13 h_15 j_25 v_26 c_27 h_29 h_30 h_31 h_32 h_33;rotate_left
 clear hl_14;revert s0 r1 v2 cc3 hh5 hh6 hh7 hh8 hh9 h10 h11 h12 h13 h_15 j_25 v_26 c_27 h_29 h_30 h_31 h_32 h_33;rotate_left
 revert s0 r1 v2 cc3 hh5 hh6 hh7 hh8 hh9 h10 h11 h12 h13 h34;rotate_left
 revert s0 r1 v2 cc3 hh5 hh6 hh7 hh8 hh9 h10 h11 h12 h13 h34;rotate_left
 revert s0 r1 v2 cc3 hh5 hh6 hh7 hh8 hh9 h10 h11 h12 h13 h34;rotate_left
 revert s0 r1 v2 cc3 hh5 hh6 hh7 hh8 hh9 h10 h11 h12 h13 h34;rotate_left
 case g0=>exact⟨by omega,by omega,by omega,by omega,by simp,rfl,by simp [A0j,A5o],rfl⟩
 case g1=>intro s r v c h0 h1 h2 h3 h4 h5 h6 h7 h8;exact hb _ (by omega)
 case g2=>intro s r v c h0 h1 h2 h3 h4 h5 h6 h7 h8 h9;exact⟨rfl,by omega,by omega,A2f h7⟩
 case g8=>intro s r v c h0 h1 h2 h3 h4 h5 h6 h7 h8 h9;exact⟨rfl,by omega,by omega,A2f h7⟩
 case g3=>intro s r v c h0 h1 h2 h3 h4 h5 h6 h7 h8 h9 j w d k0 k1 k2 k3 k4;have:=Z5 h0 h8 k3;simp only [List.length_map,List.length_cons,List.length_nil,Go.maxLen];omega
 case g9=>intro s r v c h0 h1 h2 h3 h4 h5 h6 h7 h8 h9 j w d k0 k1 k2 k3 k4;have:=Z5 h0 h8 k3;simp only [List.length_map,List.length_cons,List.length_nil,Go.maxLen];omega
 case g4=>intro s r v c h0 h1 h2 h3 h4 h5 h6 h7 h8 h9 j w d k0 k1 k2 k3 k4;have:=Z5 h0 h8 k3;simp only [List.length_map,List.length_cons,List.length_nil];omega
 case g10=>intro s r v c h0 h1 h2 h3 h4 h5 h6 h7 h8 h9 j w d k0 k1 k2 k3 k4;have:=Z5 h0 h8 k3;simp only [List.length_map,List.length_cons,List.length_nil];omega
 case g5=>intro s r v c h0 h1 h2 h3 h4 h5 h6 h7 h8 h9 j w d k0 k1 k2 k3 k4;have:=A2z t r.toNat;omega
 case g11=>intro s r v c h0 h1 h2 h3 h4 h5 h6 h7 h8 h9 j w d k0 k1 k2 k3 k4;have:=A2z t r.toNat;omega
 case g6=>intro s r v c h0 h1 h2 h3 h4 h5 h6 h7 h8 h9 j w d k0 k1 k2 k3 k4;exact⟨k0,by omega,by omega,A3q h0 k1 k4 k3⟩
 case g12=>intro s r v c h0 h1 h2 h3 h4 h5 h6 h7 h8 h9 j w d k0 k1 k2 k3 k4;exact⟨k0,by omega,by omega,A3q h0 k1 k4 k3⟩
 case g7 =>
  intro s r v c h0 h1 h2 h3 h4 h5 h6 h7 h8 h9 j w d k0 k1 k2 k3 k4
  have hs:=Ae8 h0 h5
  rw[if_pos h9]at hs
  subst k0
  exact⟨by omega,by omega,by omega,by omega,by simpa using h4,hs,A72 h0 h8 h6,A5q h0 k4 k3⟩
 case g13 =>
  intro s r v c h0 h1 h2 h3 h4 h5 h6 h7 h8 h9 j w d k0 k1 k2 k3 k4
  have hs:=Ae8 h0 h5
  rw[if_neg h9]at hs
  subst k0
  exact⟨by omega,by omega,by omega,by omega,by simpa using h4,hs,A72 h0 h8 h6,A5q h0 k4 k3⟩
 case g14=>intro s r v c h0 h1 h2 h3 h4 h5 h6 h7 h8 h9;rw[List.drop_zero,List.length_take];omega
 case g15 =>
  intro s r v c h0 h1 h2 h3 h4 h5 h6 h7 h8 h9
  rw[A73 h1 h8 h5 h6 h7]
  show AV.agg [AV.sl (List.map c3 (List.take (s-0).toNat (List.drop 0 v))),AV.sl (List.map A9 c)]=_
  rw[List.drop_zero,Int.sub_zero]
  rfl
 case g16=>intro s r v c h0 h1 h2 h3 h4 h5 h6 h7 h8 h9;rw[A73 h1 h8 h5 h6 h7]
 case g17=>intro s r v c h0 h1 h2 h3 h4 h5 h6 h7 h8 h9;rw[A73 h1 h8 h5 h6 h7,show s.toNat=0 by omega];rfl
end Go.Proofs.YtphcaholhacnpaaGreat
namespace Go.Proofs.YtphcaholhacnpaaGreat
open Go.E
set_option maxRecDepth 100000
set_option maxHeartbeats 4000000
def I0(d:Dot):Bool:=decide (0≤d.rep∧d.rep < 16∧1≤d.num∧d.num≤1000000000)
def ofT(dots:List Dot)(r:Nat):List Run:=(dots.filter fun d=>I0 d && decide (d.rep=r)).map fun d=>⟨d.num,d.num⟩
def Ae9(dots:List Dot)(i:Int)(T:Nat→List Run):Prop:=∀ r:Nat,r < 16→T r=ofT (dots.take i.toNat) r
def B4l(dots:List Dot)(i:Int)(T:Nat→List Run):Prop:=0≤i∧i≤dots.length∧Ae9 dots i T
def dec62(dots:List Dot)(i:Int)(T:Nat→List Run):Nat:=(dots.length-i).toNat
theorem O4{T U:Nat→List Run}(h:∀ r:Nat,r < 16→T r=U r):E8 T=E8 U:=by
 have hl:∀ n:Nat,n≤16→szT T n=szT U n∧H4 T n=H4 U n:=by
  intro n
  induction n with
  | zero=>intro _;exact⟨rfl,rfl⟩
  | succ n ih =>
   intro hn
   obtain⟨h1,h2⟩:=ih (by omega)
   have e:=h n (by omega)
   exact⟨by rw[szT,szT,h1,A07,A07,e],by rw[H4,H4,h2,V0,V0,e]⟩
 have hv:A5o T 16=A5o U 16:=by
  unfold A5o
  congr 1
  refine List.map_congr_left fun r hr=>?_
  have hr:r < 16:=by simpa using hr
  rw[A07,A07,h r hr]
 unfold E8
 rw[(hl 16 (Nat.le_refl _)).1,(hl 16 (Nat.le_refl _)).2,hv]
theorem B95(dots:List Dot)(r:Nat):(ofT dots r).length≤dots.length:=by
 unfold ofT
 rw[List.length_map]
 exact List.length_filter_le _ _
theorem B00(a:List Dot)(d:Dot)(r:Nat):ofT (a++[d]) r=ofT a r++if I0 d=true∧d.rep=(r:Int)then[⟨d.num,d.num⟩]else[]:=by
 unfold ofT
 rw[List.filter_append,List.map_append]
 congr 1
 by_cases h:I0 d=true∧d.rep=(r:Int)
 ·rw[if_pos h];simp [List.filter_cons,h.1,h.2]
 ·rw[if_neg h]
  have:(I0 d && decide (d.rep=(r:Int)))=false:=by
   rw[Bool.and_eq_false_iff]
   by_cases h1:I0 d=true
   ·exact .inr (by simpa using fun h2=>h ⟨h1,h2⟩)
   ·exact .inl (by simpa using h1)
  simp [List.filter_cons,this]
theorem G2{d:Dot}(h:I0 d=true):0≤d.rep∧d.rep < 16∧1≤d.num∧d.num≤1000000000:=by
 unfold I0 at h
 simpa using h
theorem Af0{dots:List Dot}{i:Int}{T:Nat→List Run}(h1:i≤dots.length)(ht:Ae9 dots i T){r:Nat}(hr:r < 16):((T r).length:Int)≤i∨(T r).length=0:=by
 rw[ht r hr]
 have:=B95 (dots.take i.toNat) r
 rw[List.length_take]at this
 omega
theorem tab_in{dots:List Dot}{i:Int}{T:Nat→List Run}(h0:0≤i)(h1:i < dots.length)(ht:Ae9 dots i T)(hd:I0 dots[i.toNat]! = true) :
  Ae9 dots (i+1) (J8 T dots[i.toNat]!.rep.toNat (T dots[i.toNat]!.rep.toNat++[⟨dots[i.toNat]!.num,dots[i.toNat]!.num⟩])):=by
 intro r hr
 have hb:=G2 hd
 rw[← C8 h0 h1,B00]
 unfold J8
 by_cases e:r=dots[i.toNat]!.rep.toNat
 ·rw[if_pos e,if_pos ⟨hd,by omega⟩,← e,ht r hr]
 ·rw[if_neg e,if_neg (fun k=>e (by omega)),List.append_nil,ht r hr]
theorem B96{dots:List Dot}{i:Int}{T:Nat→List Run}(h0:0≤i)(h1:i < dots.length)(ht:Ae9 dots i T)(hd:I0 dots[i.toNat]! = false):Ae9 dots (i+1) T:=by
 intro r hr
 rw[← C8 h0 h1,B00,if_neg (fun k=>by rw[hd]at k;cases k.1),List.append_nil,ht r hr]
theorem B71(d:Dot):Con Tryz.prog 172 [.agg (c44 d)] (.b (I0 d)) :=
 by
 refine sC A6 [.tmp 2] 21 Tryz.func172 ?_
 intro e0 cx
 refine sq<|rG cx [1] [1] z0<|sn<|sq<|B1 (σ':=⟨[(2,.b (decide (0≤d.rep∧d.rep <(16:Int)∧1≤d.num∧d.num≤1000000000)))],[]⟩) ?_ ?_
 refine A5 (0≤d.rep) (fun h_1=>?_) (fun h_1=>?_)
 refine A5 (d.rep <(16:Int)) (fun h_2=>?_) (fun h_2=>?_)
 refine A5 (1≤d.num) (fun h_3=>?_) (fun h_3=>?_)
 refine rG cx [2] [] (tT 2 (A4 h_1) (tT 6 (A4 h_2) (tT 11 (A4 h_3) (tB 16 (d.num≤1000000000) (tD 18 (decide (d.num≤1000000000)) (0≤d.rep∧d.rep <(16:Int)∧1≤d.num∧d.num≤1000000000) (by simp only [eq_true h_1,eq_true h_2,eq_true h_3,tsl]) z0))))) ?_
 exact⟨rfl,by kernel_rfl⟩
 refine rG cx [2] [] (tT 2 (A4 h_1) (tT 6 (A4 h_2) (tT 11 (A0 h_3) (tD 18 false (0≤d.rep∧d.rep <(16:Int)∧1≤d.num∧d.num≤1000000000) (by simp only [eq_true h_1,eq_true h_2,eq_false h_3,tsl]) z0)))) ?_
 exact⟨rfl,by kernel_rfl⟩
 refine rG cx [2] [] (tT 2 (A4 h_1) (tT 6 (A0 h_2) (tD 18 false (0≤d.rep∧d.rep <(16:Int)∧1≤d.num∧d.num≤1000000000) (by simp only [eq_true h_1,eq_false h_2,tsl]) z0))) ?_
 exact⟨rfl,by kernel_rfl⟩
 refine rG cx [2] [] (tT 2 (A0 h_1) (tD 18 false (0≤d.rep∧d.rep <(16:Int)∧1≤d.num∧d.num≤1000000000) (by simp only [eq_false h_1,tsl]) z0)) ?_
 exact⟨rfl,by kernel_rfl⟩
 refine sn<|rT<|qR (.b (decide (0≤d.rep∧d.rep <(16:Int)∧1≤d.num∧d.num≤1000000000))) (.eq ?g0);rotate_left
 case g0=>exact rfl
theorem con108(dots:List Dot)(hb:dots.length*16≤140737488351232):Con Tryz.prog 108 [.sl (dots.map c44)] (.agg (c26 (E8 (ofT dots)))) :=
 by
 refine lN 0 c44 (dots) Tryz.func108 fun hl_0=>sC A6 [.cell 2 26] 37 Tryz.func108 ?_
 intro e0 cx
 refine sq<|rG cx [0,2] [2] z0<|sn<|sq<|rG cx [0,2,3] [2,7] z0<|sn<|sq<|sq<|rG cx [2,3,8,9,10] [2,7] (tL 1 c44 dots z0)<|sn<|bL 0<|A1a 7 206 2 100700 16 (σ':=⟨[(2,.ptr (2) (0) (0) (0)),(3,.ptr (7) (0) (0) (0)),(8,.sl (List.map c44 dots)),(9,.i .i64 ((↑dots.length:Int))),(10,.i .i64 ((0:Int)))],[(2,⟨0,26,.var [.nl,.nl]⟩),(7,⟨0,204,.var (F9 100700 16)⟩)]++C1 100700 206 2 16 (c206) (fun x ↦ [])⟩) (by kernel_rfl)<|sL (X:=Int×(Nat→List Run)) (fun x=>⟨[(2,.ptr (2) (0) (0) (0)),(3,.ptr (7) (0) (0) (0)),(8,.sl (List.map c44 dots)),(9,.i .i64 ((↑dots.length:Int))),(10,.i .i64 (x.1))],[(2,⟨0,26,.var [.nl,.nl]⟩),(7,⟨0,204,.var (F9 100700 16)⟩)]++C1 100700 206 2 16 (c206) (x.2)⟩) (fun x ↦ dec62 dots x.1 x.2) (fun x ↦ B4l dots x.1 x.2) [2,3,8,9,10] ([2,7]++List.range' 100700 16) (((0:Int),fun x ↦ [])) (show B4l dots (0:Int) fun x ↦ []from(by exact⟨by omega,by omega,fun r _=>by simp [ofT]⟩)) ?_
 rintro⟨i0,T1⟩ h_2
 obtain⟨hh3,hh4,h5⟩:0≤i0∧i0≤(↑dots.length:Int)∧Ae9 dots i0 T1:=h_2
 refine rE cx [2,3,8,9,10,11] ([2,7]++List.range' 100700 16) (zB 0 (i0 <(↑dots.length:Int))) (fun h6=>?_) fun h6=>?_
 refine sK<|sn<|sq<|bL 1<|sq<|rG cx [2,3,8,9,10,5] ([2,7]++List.range' 100700 16++[5]) (fA (0≤i0) (fG c44 dots i0.toNat (fR 2 (fN 2 2 (oR 0 (c44 dots[i0.toNat]!) z0)))))<|sn<|sq<|rG cx [2,3,8,9,10,5,15] ([2,7]++List.range' 100700 16++[5]) (fT (B71 (dots[i0.toNat]!)) (oA 1 (.b (I0 dots[i0.toNat]!)) z0))<|sn<|P0 (I0 dots[i0.toNat]!) (by kernel_rfl) (by kernel_rfl) (fun h7=>?_) (fun h7=>?_)
 refine Z2 (F:=fun kx=>⟨[(2,.ptr (2) (0) (0) (0)),(3,.ptr (7) (0) (0) (0)),(8,.sl (List.map c44 dots)),(9,.i .i64 ((↑dots.length:Int))),(10,.i .i64 (i0)),(5,.ptr (5) (0) (0) (0)),(15,.b (I0 dots[i0.toNat]!))],[(2,⟨0,26,.var [.nl,.nl]⟩),(7,⟨0,204,.var (F9 100700 16)⟩)]++C1 100700 206 2 16 (c206) (T1)++[(5,⟨0,44,.var [.i .i64 (kx),.i .i64 (dots[i0.toNat]!.num)]⟩)]⟩) (G:=fun kx=>⟨[(2,.ptr (2) (0) (0) (0)),(3,.ptr (7) (0) (0) (0)),(8,.sl (List.map c44 dots)),(9,.i .i64 ((↑dots.length:Int))),(10,.i .i64 (i0))],[(2,⟨0,26,.var [.nl,.nl]⟩),(7,⟨0,204,.var (F9 100700 16)⟩)]++C1 100700 206 2 16 (c206) (J8 T1 kx.toNat (T1 kx.toNat++[{ lo:=dots[i0.toNat]!.num,hi:=dots[i0.toNat]!.num:Run }]))⟩) (A:=fun kx=>(0≤kx)∧(kx <(↑(16:Nat):Int))∧(206=(206:Nat))∧((2:Nat)=2)∧([AV.i .i64 (0:Int),AV.i .i64 (0:Int)].length=(2:Nat))∧(∀(r:List AV),r∈List.map c206 [{ lo:=dots[i0.toNat]!.num,hi:=dots[i0.toNat]!.num:Run }]→r.length=2)∧((List.map c206 (T1 kx.toNat)).length+(List.map c206 [{ lo:=dots[i0.toNat]!.num,hi:=dots[i0.toNat]!.num:Run }]).length≤maxLen)∧(((List.map c206 (T1 kx.toNat)).length+(List.map c206 [{ lo:=dots[i0.toNat]!.num,hi:=dots[i0.toNat]!.num:Run }]).length)*(16:Nat)≤(140737488355328:Nat))∧(List.map c206 (T1 kx.toNat)++List.map c206 [{ lo:=dots[i0.toNat]!.num,hi:=dots[i0.toNat]!.num:Run }]=List.map c206 (T1 kx.toNat++[{ lo:=dots[i0.toNat]!.num,hi:=dots[i0.toNat]!.num:Run }]))∧(0≤kx)∧(kx <(↑(16:Nat):Int))) cx (fun kx=>[(15,{ rows:=some (List.map c206 (T1 kx.toNat++[{ lo:=dots[i0.toNat]!.num,hi:=dots[i0.toNat]!.num:Run }])) })]) [2,3,8,9,10] ([2,7]++List.range' 100700 16) (dots[i0.toNat]!.rep) (by exact(G2 h7).1) (by exact(G2 h7).2.1) (by kernel_rfl) (by kernel_rfl) ⟨(by show _=_;kernel_rfl),(by show _=_;kernel_rfl),(by show _=_;kernel_rfl),(by show _=_;kernel_rfl),(by show _=_;kernel_rfl),(by show _=_;kernel_rfl),(by show _=_;kernel_rfl),(by show _=_;kernel_rfl),(by show _=_;kernel_rfl),(by show _=_;kernel_rfl),(by show _=_;kernel_rfl),(by show _=_;kernel_rfl),(by show _=_;kernel_rfl),(by show _=_;kernel_rfl),(by show _=_;kernel_rfl),(by show _=_;kernel_rfl)⟩ ⟨(by exact(G2 h7).1),(by exact(G2 h7).2.1),(by kernel_rfl),(by kernel_rfl),(by kernel_rfl),(by(with_reducible refine M6 (fun _=>?_) _;kernel_rfl)),(by have hd:=G2 h7;have:=Af0 hh4 h5 (r:=dots[i0.toNat]!.rep.toNat) (by omega);simp only [List.length_map,List.length_cons,List.length_nil,Go.maxLen];omega),(by have hd:=G2 h7;have:=Af0 hh4 h5 (r:=dots[i0.toNat]!.rep.toNat) (by omega);simp only [List.length_map,List.length_cons,List.length_nil];omega),(by(with_reducible refine X3 ?_;kernel_rfl)),(by exact(G2 h7).1),(by exact(G2 h7).2.1)⟩ ?_
 refine bN<|sn<|rG cx [2,3,8,9,10] ([2,7]++List.range' 100700 16) (tW 0 (i0+1) z0)<|sn<|nX ((i0+1,J8 T1 dots[i0.toNat]!.rep.toNat (T1 dots[i0.toNat]!.rep.toNat++[{ lo:=dots[i0.toNat]!.num,hi:=dots[i0.toNat]!.num:Run }]))) (show((↑dots.length:Int)-(i0+1)).toNat <((↑dots.length:Int)-i0).toNat from(by omega)) (show B4l dots (i0+1) (J8 T1 dots[i0.toNat]!.rep.toNat (T1 dots[i0.toNat]!.rep.toNat++[{ lo:=dots[i0.toNat]!.num,hi:=dots[i0.toNat]!.num:Run }]))from(by exact⟨by omega,by omega,tab_in hh3 h6 h5 h7⟩))
 refine sK<|bN<|sn<|rG cx [2,3,8,9,10] ([2,7]++List.range' 100700 16) (tW 0 (i0+1) z0)<|sn<|nX ((i0+1,T1)) (show((↑dots.length:Int)-(i0+1)).toNat <((↑dots.length:Int)-i0).toNat from(by omega)) (show B4l dots (i0+1) T1 from(by exact⟨by omega,by omega,B96 hh3 h6 h5 h7⟩))
 refine eX 0<|nE<|nE<|bH<|sn<|sq<|N8 (List.range' 100700 16) [2,3,8,9,10,11] [2,7] (σ':=⟨[(2,.ptr (2) (0) (0) (0)),(3,.ptr (7) (0) (0) (0)),(8,.sl (List.map c44 dots)),(9,.i .i64 ((↑dots.length:Int))),(10,.i .i64 (i0)),(11,.b (decide (i0 <(↑dots.length:Int))))],[(2,⟨0,26,.var [.nl,.nl]⟩),(7,⟨0,204,.var [.sl (List.map c206 (T1 (0))),.sl (List.map c206 (T1 (1))),.sl (List.map c206 (T1 (2))),.sl (List.map c206 (T1 (3))),.sl (List.map c206 (T1 (4))),.sl (List.map c206 (T1 (5))),.sl (List.map c206 (T1 (6))),.sl (List.map c206 (T1 (7))),.sl (List.map c206 (T1 (8))),.sl (List.map c206 (T1 (9))),.sl (List.map c206 (T1 (10))),.sl (List.map c206 (T1 (11))),.sl (List.map c206 (T1 (12))),.sl (List.map c206 (T1 (13))),.sl (List.map c206 (T1 (14))),.sl (List.map c206 (T1 (15)))]⟩)]⟩) (by kernel_rfl)<|G8 7 ⟨0,204,.var [.sl (List.map c206 (T1 (0))),.sl (List.map c206 (T1 (1))),.sl (List.map c206 (T1 (2))),.sl (List.map c206 (T1 (3))),.sl (List.map c206 (T1 (4))),.sl (List.map c206 (T1 (5))),.sl (List.map c206 (T1 (6))),.sl (List.map c206 (T1 (7))),.sl (List.map c206 (T1 (8))),.sl (List.map c206 (T1 (9))),.sl (List.map c206 (T1 (10))),.sl (List.map c206 (T1 (11))),.sl (List.map c206 (T1 (12))),.sl (List.map c206 (T1 (13))),.sl (List.map c206 (T1 (14))),.sl (List.map c206 (T1 (15)))]⟩ [.sl (List.map c206 (T1 (0))),.sl (List.map c206 (T1 (1))),.sl (List.map c206 (T1 (2))),.sl (List.map c206 (T1 (3))),.sl (List.map c206 (T1 (4))),.sl (List.map c206 (T1 (5))),.sl (List.map c206 (T1 (6))),.sl (List.map c206 (T1 (7))),.sl (List.map c206 (T1 (8))),.sl (List.map c206 (T1 (9))),.sl (List.map c206 (T1 (10))),.sl (List.map c206 (T1 (11))),.sl (List.map c206 (T1 (12))),.sl (List.map c206 (T1 (13))),.sl (List.map c206 (T1 (14))),.sl (List.map c206 (T1 (15)))] (E2 c206 16 T1) (σ':=⟨[(2,.ptr (2) (0) (0) (0)),(3,.ptr (7) (0) (0) (0)),(8,.sl (List.map c44 dots)),(9,.i .i64 ((↑dots.length:Int))),(10,.i .i64 (i0)),(11,.b (decide (i0 <(↑dots.length:Int))))],[(2,⟨0,26,.var [.nl,.nl]⟩),(7,⟨0,204,.arr (E2 c206 16 T1)⟩)]⟩) (by kernel_rfl) (by kernel_rfl) (by kernel_rfl) (by kernel_rfl) (ZLe.of_eq (by kernel_rfl)) (by kernel_rfl)<|rG cx [2] [2] (fT (B4k (T1) ?g11) (oA 1 (.agg [.sl (List.map c3 (E8 T1).vec),.sl (List.map A9 (E8 T1).cloud)]) z0)) ?_;rotate_left
 refine sn<|rT<|qR (.agg [.sl (List.map c3 (E8 T1).vec),.sl (List.map A9 (E8 T1).cloud)]) (.eq ?g12);rotate_left
 case g11=>revert i0 T1 hh3 hh4 h5 h6;intro i T h0 h1 h2 h3 r hr;have:=Af0 h1 h2 hr;omega
 case g12 =>
  have e:E8 T1=E8 (ofT dots):=O4 fun r hr=>by rw[h5 r hr,List.take_of_length_le (by omega)]
  rw[e]
  rfl
end Go.Proofs.YtphcaholhacnpaaGreat
namespace Go.Proofs.YtphcaholhacnpaaGreat
open Go.E
set_option maxRecDepth 100000
set_option maxHeartbeats 4000000
def Ak9(v:List Int)(r:Nat):List Run:=if r < v.length then[⟨1,v[r]!⟩]else[]
def N3(c:List Span)(r:Nat):List Run:=(c.filter fun(s:Span)=>decide (s.rep=(r:Int))).map fun s=>⟨s.lo,s.hi⟩
def A8(ps:List Past)(r:Nat):List Run:=(ps.map fun p=>Ak9 p.vec r++N3 p.cloud r).flatten
def A5r(ps:List Past)(i:Int)(T:Nat→List Run):Prop:=∀ r:Nat,r < 16→T r=A8 (ps.take i.toNat) r
def V1(ps:List Past)(i j:Int)(T:Nat→List Run):Prop:=∀ r:Nat,r < 16→T r=A8 (ps.take i.toNat) r++if(r:Int) < j then Ak9 (ps[i.toNat]!).vec r else[]
def P3(ps:List Past)(i j:Int)(T:Nat→List Run):Prop:=∀ r:Nat,r < 16→T r=A8 (ps.take i.toNat) r++Ak9 (ps[i.toNat]!).vec r++N3 ((ps[i.toNat]!).cloud.take j.toNat) r
def Af1(ps:List Past)(i:Int)(T:Nat→List Run):Prop:=0≤i∧i≤ps.length∧A5r ps i T
def B97(ps:List Past)(i:Int)(T:Nat→List Run):Nat:=(ps.length-i).toNat
def Af2(ps:List Past)(i:Int)(n:Int)(j:Int)(T:Nat→List Run)(v:List Int)(c:List Span):Prop:=v=(ps[i.toNat]!).vec∧c=(ps[i.toNat]!).cloud∧0≤j∧j≤n∧V1 ps i j T
def B98(n:Int)(j:Int)(T:Nat→List Run)(v:List Int)(c:List Span):Nat:=(n-j).toNat
def A74(ps:List Past)(i:Int)(j:Int)(T:Nat→List Run):Prop:=0≤j∧j≤(ps[i.toNat]!).cloud.length∧P3 ps i j T
def B99(ps:List Past)(i:Int)(j:Int)(T:Nat→List Run):Nat:=((ps[i.toNat]!).cloud.length-j).toNat
def A08(ps:List Past):Nat:=(ps.map fun p=>p.cloud.length+1).sum
theorem B01(a:List Past)(p:Past)(r:Nat):A8 (a++[p]) r=A8 a r++(Ak9 p.vec r++N3 p.cloud r):=by simp [A8]
theorem Al0(v:List Int)(r:Nat):(Ak9 v r).length≤1:=by unfold Ak9;split <;> simp
theorem A5s(c:List Span)(r:Nat):(N3 c r).length≤c.length:=by
 unfold N3
 rw[List.length_map]
 exact List.length_filter_le _ _
theorem P4(r:Nat):∀ ps:List Past,(A8 ps r).length≤A08 ps
 | []=>by simp [A8]
 | p :: ps=>by
  have h1:=P4 r ps
  have h2:=Al0 p.vec r
  have h3:=A5s p.cloud r
  simp only [A8,A08,List.map_cons,List.flatten_cons,List.length_append,List.sum_cons]at *
  omega
theorem B4m(a b:List Past):A08 (a++b)=A08 a+A08 b:=by simp [A08]
theorem A9a{ps:List Past}{i:Int}(h0:0≤i)(h:i < ps.length):A08 (ps.take i.toNat)+(ps[i.toNat]!).cloud.length+1≤A08 ps:=by
 have e:A08 ps=A08 (ps.take (i+1).toNat)+A08 (ps.drop (i+1).toNat):=by
  rw[← B4m,List.take_append_drop]
 rw[← C8 h0 h]at e
 simp only [A08,List.map_append,List.sum_append,List.map_cons,List.map_nil,List.sum_cons,List.sum_nil]at *
 omega
theorem A3r{ps:List Past}{i:Int}{T:Nat→List Run}(h:A5r ps i T):V1 ps i 0 T:=fun r hr=>by
 rw[h r hr,if_neg (by omega),List.append_nil]
theorem A5t{ps:List Past}{i j:Int}{T:Nat→List Run}(j0:0≤j)(jl:j <(ps[i.toNat]!).vec.length)(h:V1 ps i j T) :
  V1 ps i (j+1) (J8 T j.toNat (T j.toNat++[⟨1,(ps[i.toNat]!).vec[j.toNat]!⟩])):=by
 intro r hr
 unfold J8
 by_cases e:r=j.toNat
 ·rw[if_pos e,← e,h r hr,if_neg (by omega),if_pos (by omega),List.append_nil,Ak9,if_pos (by omega)]
 ·rw[if_neg e,h r hr]
  by_cases k:(r:Int) < j
  ·rw[if_pos k,if_pos (by omega)]
  ·rw[if_neg k,if_neg (by omega)]
theorem A3s{ps:List Past}{i j:Int}{T:Nat→List Run}(j1:j≤min ((ps[i.toNat]!).vec.length:Int) 16)(jl:¬ j < min ((ps[i.toNat]!).vec.length:Int) 16)(h:V1 ps i j T):P3 ps i 0 T:=by
 intro r hr
 rw[h r hr,show(0:Int).toNat=0 from rfl,List.take_zero,show N3 [] r=[]from rfl,List.append_nil]
 by_cases k:(r:Int) < j
 ·rw[if_pos k]
 ·rw[if_neg k,Ak9,if_neg (by omega)]
theorem A5u(c:List Span)(s:Span)(r:Nat):N3 (c++[s]) r=N3 c r++if s.rep=(r:Int)then[⟨s.lo,s.hi⟩]else[]:=by
 unfold N3
 rw[List.filter_append,List.map_append]
 congr 1
 by_cases h:s.rep=(r:Int)
 ·rw[if_pos h];simp [List.filter_cons,h]
 ·rw[if_neg h];simp [List.filter_cons,h]
theorem Al1{ps:List Past}{i j:Int}{T:Nat→List Run}(j0:0≤j)(jl:j <(ps[i.toNat]!).cloud.length)(hr:0≤((ps[i.toNat]!).cloud[j.toNat]!).rep∧((ps[i.toNat]!).cloud[j.toNat]!).rep < 16)(h:P3 ps i j T) :
  P3 ps i (j+1) (J8 T ((ps[i.toNat]!).cloud[j.toNat]!).rep.toNat (T ((ps[i.toNat]!).cloud[j.toNat]!).rep.toNat++[⟨((ps[i.toNat]!).cloud[j.toNat]!).lo,((ps[i.toNat]!).cloud[j.toNat]!).hi⟩])):=by
 intro r hr'
 rw[← C8 j0 jl,A5u]
 unfold J8
 by_cases e:r=((ps[i.toNat]!).cloud[j.toNat]!).rep.toNat
 ·rw[if_pos e,if_pos (by omega),← e,h r hr',List.append_assoc,List.append_assoc]
 ·rw[if_neg e,if_neg (by omega),List.append_nil,h r hr']
theorem A9b{ps:List Past}{i j:Int}{T:Nat→List Run}(j0:0≤j)(jl:j <(ps[i.toNat]!).cloud.length)(hr:¬(0≤((ps[i.toNat]!).cloud[j.toNat]!).rep∧((ps[i.toNat]!).cloud[j.toNat]!).rep < 16))(h:P3 ps i j T):P3 ps i (j+1) T:=by
 intro r hr'
 rw[← C8 j0 jl,A5u,if_neg (by omega),List.append_nil,h r hr']
theorem A9c{ps:List Past}{i j:Int}{T:Nat→List Run}(h0:0≤i)(h1:i < ps.length)(jl:¬ j <(ps[i.toNat]!).cloud.length)(h:P3 ps i j T):A5r ps (i+1) T:=by
 intro r hr
 rw[← C8 h0 h1,B01,h r hr,List.take_of_length_le (l:=(ps[i.toNat]!).cloud) (by omega),List.append_assoc]
theorem A3t{ps:List Past}{i j:Int}{T:Nat→List Run}(h0:0≤i)(h1:i < ps.length)(h:V1 ps i j T){r:Nat}(hr:r < 16)(k:¬(r:Int) < j):(T r).length+1≤A08 ps:=by
 rw[h r hr,if_neg k,List.append_nil]
 have:=P4 r (ps.take i.toNat)
 have:=A9a h0 h1
 omega
theorem S6{ps:List Past}{i j:Int}{T:Nat→List Run}(h0:0≤i)(h1:i < ps.length)(j0:0≤j)(jl:j <(ps[i.toNat]!).cloud.length)(h:P3 ps i j T){r:Nat}(hr:r < 16):(T r).length+1≤A08 ps+1∧j+1≤A08 ps:=by
 rw[h r hr,List.length_append,List.length_append]
 have:=P4 r (ps.take i.toNat)
 have:=A9a h0 h1
 have:=Al0 (ps[i.toNat]!).vec r
 have:=A5s ((ps[i.toNat]!).cloud.take j.toNat) r
 rw[List.length_take]at this
 omega
theorem Af3(ps:List Past)(hb:A08 ps*16≤140737488351232):A59 Tryz.prog 92 [.sl (ps.map c26)] 204 (.arr (E2 c206 16 (A8 ps))) :=
 by
 refine A94 0 (c26) (ps) (by kernel_rfl) Tryz.func92 (by kernel_rfl) fun hl_0=>Ay5 A6 (by kernel_rfl) (.tmp 2) 78 Tryz.func92 (by kernel_rfl) (by kernel_rfl) ?_
 intro e0 cx
 refine sq<|rG cx [0] [] z0<|sn<|sq<|rG cx [0,3] [10] z0<|sn<|sq<|sq<|rG cx [3,11,12,13] [10] (tL 1 c26 ps z0)<|sn<|bL 0<|A1a 10 206 2 101000 16 (σ':=⟨[(3,.ptr (10) (0) (0) (0)),(11,.sl (List.map c26 ps)),(12,.i .i64 ((↑ps.length:Int))),(13,.i .i64 ((0:Int)))],[(10,⟨0,204,.var (F9 101000 16)⟩)]++C1 101000 206 2 16 (c206) (fun x ↦ [])⟩) (by kernel_rfl)<|sL (X:=Int×(Nat→List Run)) (fun x=>⟨[(3,.ptr (10) (0) (0) (0)),(11,.sl (List.map c26 ps)),(12,.i .i64 ((↑ps.length:Int))),(13,.i .i64 (x.1))],[(10,⟨0,204,.var (F9 101000 16)⟩)]++C1 101000 206 2 16 (c206) (x.2)⟩) (fun x ↦ B97 ps x.1 x.2) (fun x ↦ Af1 ps x.1 x.2) [3,11,12,13] ([10]++List.range' 101000 16) (((0:Int),fun x ↦ [])) (show Af1 ps (0:Int) fun x ↦ []from(by exact⟨by omega,by omega,fun r _=>rfl⟩)) ?_
 rintro⟨i0,T1⟩ h_2
 obtain⟨hh3,h4,h5⟩:0≤i0∧i0≤(↑ps.length:Int)∧A5r ps i0 T1:=h_2
 refine rE cx [3,11,12,13,14] ([10]++List.range' 101000 16) (zB 0 (i0 <(↑ps.length:Int))) (fun h6=>?_) fun h6=>?_
 refine sK<|sn<|sq<|bL 1<|sq<|rG cx [3,11,12,13,5] ([10]++List.range' 101000 16++[5]) (fA (0≤i0) (fG c26 ps i0.toNat (fR 2 (fN 2 2 (oR 0 (c26 ps[i0.toNat]!) z0)))))<|sn<|sq<|sq<|rG cx [3,11,12,13,5,20,21] ([10]++List.range' 101000 16++[5]) (tL 2 c3 ps[i0.toNat]!.vec (tT 3 (A2w:AV.i .i64 (if(16:Int) <(↑ps[i0.toNat]!.vec.length:Int)then(16:Int)else(↑ps[i0.toNat]!.vec.length:Int))=AV.i .i64 (min (↑ps[i0.toNat]!.vec.length:Int) (16:Int))) z0))<|sn<|bL 2<|sL (X:=Int×(Nat→List Run)×List Int×List Span) (fun x=>⟨[(3,.ptr (10) (0) (0) (0)),(11,.sl (List.map c26 ps)),(12,.i .i64 ((↑ps.length:Int))),(13,.i .i64 (i0)),(5,.ptr (5) (0) (0) (0)),(20,.i .i64 (min (↑ps[i0.toNat]!.vec.length:Int) (16:Int))),(21,.i .i64 (x.1))],[(10,⟨0,204,.var (F9 101000 16)⟩)]++C1 101000 206 2 16 (c206) (x.2.1)++[(5,⟨0,26,.var [.sl (List.map c3 x.2.2.1),.sl (List.map A9 x.2.2.2)]⟩)]⟩) (fun x ↦ B98 (min (↑ps[i0.toNat]!.vec.length:Int) (16:Int)) x.1 x.2.1 x.2.2.1 x.2.2.2) (fun x ↦ Af2 ps i0 (min (↑ps[i0.toNat]!.vec.length:Int) (16:Int)) x.1 x.2.1 x.2.2.1 x.2.2.2) [3,11,12,13,5,20,21] ([10]++List.range' 101000 16++[5]) (((0:Int),T1,ps[i0.toNat]!.vec,ps[i0.toNat]!.cloud)) (show Af2 ps i0 (min (↑ps[i0.toNat]!.vec.length:Int) (16:Int)) (0:Int) T1 ps[i0.toNat]!.vec ps[i0.toNat]!.cloud from(by exact⟨rfl,rfl,by omega,by omega,A3r h5⟩)) ?_
 rintro⟨j7,T8,v9,c10⟩ h_11
 obtain⟨h12,h13,h14,h15,h16⟩:v9=ps[i0.toNat]!.vec∧c10=ps[i0.toNat]!.cloud∧0≤j7∧j7≤min (↑ps[i0.toNat]!.vec.length:Int) (16:Int)∧V1 ps i0 j7 T8:=h_11
 refine rE cx [3,11,12,13,5,20,21,22] ([10]++List.range' 101000 16++[5]) (zB 0 (j7 < min (↑ps[i0.toNat]!.vec.length:Int) (16:Int))) (fun h17=>?_) fun h17=>?_
 refine sK<|sn<|sq<|bL 3<|sq<|rG cx [3,11,12,13,5,20,21,6] ([10]++List.range' 101000 16++[5]) z0<|sn<|Z2 (F:=fun kx=>⟨[(3,.ptr (10) (0) (0) (0)),(11,.sl (List.map c26 ps)),(12,.i .i64 ((↑ps.length:Int))),(13,.i .i64 (i0)),(5,.ptr (5) (0) (0) (0)),(20,.i .i64 (min (↑ps[i0.toNat]!.vec.length:Int) (16:Int))),(21,.i .i64 (kx)),(6,.i .i64 (kx))],[(10,⟨0,204,.var (F9 101000 16)⟩)]++C1 101000 206 2 16 (c206) (T8)++[(5,⟨0,26,.var [.sl (List.map c3 v9),.sl (List.map A9 c10)]⟩)]⟩) (G:=fun kx=>⟨[(3,.ptr (10) (0) (0) (0)),(11,.sl (List.map c26 ps)),(12,.i .i64 ((↑ps.length:Int))),(13,.i .i64 (i0)),(5,.ptr (5) (0) (0) (0)),(20,.i .i64 (min (↑ps[i0.toNat]!.vec.length:Int) (16:Int))),(21,.i .i64 (kx))],[(10,⟨0,204,.var (F9 101000 16)⟩)]++C1 101000 206 2 16 (c206) (J8 T8 kx.toNat (T8 kx.toNat++[{ lo:=(1:Int),hi:=v9[kx.toNat]!:Run }]))++[(5,⟨0,26,.var [.sl (List.map c3 v9),.sl (List.map A9 c10)]⟩)]⟩) (A:=fun kx=>(0≤kx)∧(kx <(↑(16:Nat):Int))∧(0≤kx)∧((List.map c3 v9)[kx.toNat]?=some (c3 v9[kx.toNat]!))∧((c3 v9[kx.toNat]!).length=(1:Nat))∧(206=(206:Nat))∧((2:Nat)=2)∧([AV.i .i64 (0:Int),AV.i .i64 (0:Int)].length=(2:Nat))∧(∀(r:List AV),r∈List.map c206 [{ lo:=(1:Int),hi:=v9[kx.toNat]!:Run }]→r.length=2)∧((List.map c206 (T8 kx.toNat)).length+(List.map c206 [{ lo:=(1:Int),hi:=v9[kx.toNat]!:Run }]).length≤maxLen)∧(((List.map c206 (T8 kx.toNat)).length+(List.map c206 [{ lo:=(1:Int),hi:=v9[kx.toNat]!:Run }]).length)*(16:Nat)≤(140737488355328:Nat))∧(List.map c206 (T8 kx.toNat)++List.map c206 [{ lo:=(1:Int),hi:=v9[kx.toNat]!:Run }]=List.map c206 (T8 kx.toNat++[{ lo:=(1:Int),hi:=v9[kx.toNat]!:Run }]))∧(0≤kx)∧(kx <(↑(16:Nat):Int))) cx (fun kx=>[(10,{ row:=(c3 v9[kx.toNat]!) }),(14,{ rows:=some (List.map c206 (T8 kx.toNat++[{ lo:=(1:Int),hi:=v9[kx.toNat]!:Run }])) })]) [3,11,12,13,5,20,21] ([10]++List.range' 101000 16++[5]) (j7) (by(with_reducible assumption)) (by omega) (by kernel_rfl) (by kernel_rfl) ⟨(by show _=_;kernel_rfl),(by show _=_;kernel_rfl),(by show _=_;kernel_rfl),(by show _=_;kernel_rfl),(by show _=_;kernel_rfl),(by show _=_;kernel_rfl),(by show _=_;kernel_rfl),(by show _=_;kernel_rfl),(by show _=_;kernel_rfl),(by show _=_;kernel_rfl),(by show _=_;kernel_rfl),(by show _=_;kernel_rfl),(by show _=_;kernel_rfl),(by show _=_;kernel_rfl),(by show _=_;kernel_rfl),(by show _=_;kernel_rfl)⟩ ⟨(by(with_reducible assumption)),(by omega),(by(with_reducible assumption)),(by subst_vars;exact F3 (by omega)),(by kernel_rfl),(by kernel_rfl),(by kernel_rfl),(by kernel_rfl),(by(with_reducible refine M6 (fun _=>?_) _;kernel_rfl)),(by have:=A3t hh3 h6 h16 (r:=j7.toNat) (by omega) (by omega);simp only [List.length_map,List.length_cons,List.length_nil,Go.maxLen];omega),(by have:=A3t hh3 h6 h16 (r:=j7.toNat) (by omega) (by omega);simp only [List.length_map,List.length_cons,List.length_nil];omega),(by(with_reducible refine X3 ?_;kernel_rfl)),(by(with_reducible assumption)),(by omega)⟩ ?_
 refine bN<|sn<|rG cx [3,11,12,13,5,20,21] ([10]++List.range' 101000 16++[5]) (tW 0 (j7+1) z0)<|sn<|nX ((j7+1,J8 T8 j7.toNat (T8 j7.toNat++[{ lo:=(1:Int),hi:=v9[j7.toNat]!:Run }]),v9,c10)) (show(min (↑ps[i0.toNat]!.vec.length:Int) 16-(j7+1)).toNat <(min (↑ps[i0.toNat]!.vec.length:Int) 16-j7).toNat from(by omega)) (show Af2 ps i0 (min (↑ps[i0.toNat]!.vec.length:Int) (16:Int)) (j7+1) (J8 T8 j7.toNat (T8 j7.toNat++[{ lo:=(1:Int),hi:=v9[j7.toNat]!:Run }])) v9 c10 from(by subst h12 h13;exact⟨rfl,rfl,by omega,by omega,A5t h14 (by omega) h16⟩))
 refine eX 2<|nE<|nE<|bH<|sn<|sq<|rG cx [3,11,12,13,43,44,45] ([10]++List.range' 101000 16) (tL 2 A9 c10 z0)<|sn<|bL 4<|sL (X:=Int×(Nat→List Run)) (fun x=>⟨[(3,.ptr (10) (0) (0) (0)),(11,.sl (List.map c26 ps)),(12,.i .i64 ((↑ps.length:Int))),(13,.i .i64 (i0)),(43,.sl (List.map A9 c10)),(44,.i .i64 ((↑c10.length:Int))),(45,.i .i64 (x.1))],[(10,⟨0,204,.var (F9 101000 16)⟩)]++C1 101000 206 2 16 (c206) (x.2)⟩) (fun x ↦ B99 ps i0 x.1 x.2) (fun x ↦ A74 ps i0 x.1 x.2) [3,11,12,13,43,44,45] ([10]++List.range' 101000 16) (((0:Int),T8)) (show A74 ps i0 (0:Int) T8 from(by exact⟨by omega,by omega,A3s h15 h17 h16⟩)) ?_
 rintro⟨j18,T19⟩ h_20
 obtain⟨h21,h22,h23⟩:0≤j18∧j18≤(↑ps[i0.toNat]!.cloud.length:Int)∧P3 ps i0 j18 T19:=h_20
 refine rE cx [3,11,12,13,43,44,45,46] ([10]++List.range' 101000 16) (zB 0 (j18 <(↑c10.length:Int))) (fun h24=>?_) fun h24=>?_
 refine sK<|sn<|sq<|bL 5<|sq<|rG cx [3,11,12,13,43,44,45,8] ([10]++List.range' 101000 16++[8]) (fA (0≤j18) (fG A9 c10 j18.toNat (fR 3 (fN 3 3 (oR 0 (A9 c10[j18.toNat]!) z0)))))<|sn<|sq<|B1 (σ':=⟨[(3,.ptr (10) (0) (0) (0)),(11,.sl (List.map c26 ps)),(12,.i .i64 ((↑ps.length:Int))),(13,.i .i64 (i0)),(43,.sl (List.map A9 c10)),(44,.i .i64 ((↑c10.length:Int))),(45,.i .i64 (j18)),(8,.ptr (8) (0) (0) (0)),(56,.b (decide (0≤c10[j18.toNat]!.rep∧c10[j18.toNat]!.rep <(16:Int))))],[(10,⟨0,204,.var (F9 101000 16)⟩)]++C1 101000 206 2 16 (c206) (T19)++[(8,⟨0,141,.var [.i .i64 (c10[j18.toNat]!.rep),.i .i64 (c10[j18.toNat]!.lo),.i .i64 (c10[j18.toNat]!.hi)]⟩)]⟩) ?_ ?_
 refine A5 (0≤c10[j18.toNat]!.rep) (fun h_26=>?_) (fun h_26=>?_)
 refine rG cx [3,11,12,13,43,44,45,8,56] ([10]++List.range' 101000 16++[8]) (tT 2 (A4 h_26) (tB 6 (c10[j18.toNat]!.rep <(16:Int)) (tD 7 (decide (c10[j18.toNat]!.rep <(16:Int))) (0≤c10[j18.toNat]!.rep∧c10[j18.toNat]!.rep <(16:Int)) (by simp only [eq_true h_26,tsl]) z0))) ?_
 exact⟨rfl,by kernel_rfl⟩
 refine rG cx [3,11,12,13,43,44,45,8,56] ([10]++List.range' 101000 16++[8]) (tT 2 (A0 h_26) (tD 7 false (0≤c10[j18.toNat]!.rep∧c10[j18.toNat]!.rep <(16:Int)) (by simp only [eq_false h_26,tsl]) z0)) ?_
 exact⟨rfl,by kernel_rfl⟩
 refine sn<|dC (0≤c10[j18.toNat]!.rep∧c10[j18.toNat]!.rep <(16:Int)) (fun h27=>?_) fun h27=>?_
 refine Z2 (F:=fun kx=>⟨[(3,.ptr (10) (0) (0) (0)),(11,.sl (List.map c26 ps)),(12,.i .i64 ((↑ps.length:Int))),(13,.i .i64 (i0)),(43,.sl (List.map A9 c10)),(44,.i .i64 ((↑c10.length:Int))),(45,.i .i64 (j18)),(8,.ptr (8) (0) (0) (0)),(56,.b (decide (0≤kx∧kx <(16:Int))))],[(10,⟨0,204,.var (F9 101000 16)⟩)]++C1 101000 206 2 16 (c206) (T19)++[(8,⟨0,141,.var [.i .i64 (kx),.i .i64 (c10[j18.toNat]!.lo),.i .i64 (c10[j18.toNat]!.hi)]⟩)]⟩) (G:=fun kx=>⟨[(3,.ptr (10) (0) (0) (0)),(11,.sl (List.map c26 ps)),(12,.i .i64 ((↑ps.length:Int))),(13,.i .i64 (i0)),(43,.sl (List.map A9 c10)),(44,.i .i64 ((↑c10.length:Int))),(45,.i .i64 (j18))],[(10,⟨0,204,.var (F9 101000 16)⟩)]++C1 101000 206 2 16 (c206) (J8 T19 kx.toNat (T19 kx.toNat++[{ lo:=c10[j18.toNat]!.lo,hi:=c10[j18.toNat]!.hi:Run }]))⟩) (A:=fun kx=>(0≤kx)∧(kx <(↑(16:Nat):Int))∧(206=(206:Nat))∧((2:Nat)=2)∧([AV.i .i64 (0:Int),AV.i .i64 (0:Int)].length=(2:Nat))∧(∀(r:List AV),r∈List.map c206 [{ lo:=c10[j18.toNat]!.lo,hi:=c10[j18.toNat]!.hi:Run }]→r.length=2)∧((List.map c206 (T19 kx.toNat)).length+(List.map c206 [{ lo:=c10[j18.toNat]!.lo,hi:=c10[j18.toNat]!.hi:Run }]).length≤maxLen)∧(((List.map c206 (T19 kx.toNat)).length+(List.map c206 [{ lo:=c10[j18.toNat]!.lo,hi:=c10[j18.toNat]!.hi:Run }]).length)*(16:Nat)≤(140737488355328:Nat))∧(List.map c206 (T19 kx.toNat)++List.map c206 [{ lo:=c10[j18.toNat]!.lo,hi:=c10[j18.toNat]!.hi:Run }]=List.map c206 (T19 kx.toNat++[{ lo:=c10[j18.toNat]!.lo,hi:=c10[j18.toNat]!.hi:Run }]))∧(0≤kx)∧(kx <(↑(16:Nat):Int))) cx (fun kx=>[(15,{ rows:=some (List.map c206 (T19 kx.toNat++[{ lo:=c10[j18.toNat]!.lo,hi:=c10[j18.toNat]!.hi:Run }])) })]) [3,11,12,13,43,44,45] ([10]++List.range' 101000 16) (c10[j18.toNat]!.rep) (by omega) (by omega) (by kernel_rfl) (by kernel_rfl) ⟨(by show _=_;kernel_rfl),(by show _=_;kernel_rfl),(by show _=_;kernel_rfl),(by show _=_;kernel_rfl),(by show _=_;kernel_rfl),(by show _=_;kernel_rfl),(by show _=_;kernel_rfl),(by show _=_;kernel_rfl),(by show _=_;kernel_rfl),(by show _=_;kernel_rfl),(by show _=_;kernel_rfl),(by show _=_;kernel_rfl),(by show _=_;kernel_rfl),(by show _=_;kernel_rfl),(by show _=_;kernel_rfl),(by show _=_;kernel_rfl)⟩ ⟨(by omega),(by omega),(by kernel_rfl),(by kernel_rfl),(by kernel_rfl),(by(with_reducible refine M6 (fun _=>?_) _;kernel_rfl)),(by subst h12 h13;have:=S6 hh3 h6 h21 h24 h23 (r:=((ps[i0.toNat]!).cloud[j18.toNat]!).rep.toNat) (by omega);simp only [List.length_map,List.length_cons,List.length_nil,Go.maxLen];omega),(by subst h12 h13;have:=S6 hh3 h6 h21 h24 h23 (r:=((ps[i0.toNat]!).cloud[j18.toNat]!).rep.toNat) (by omega);simp only [List.length_map,List.length_cons,List.length_nil];omega),(by(with_reducible refine X3 ?_;kernel_rfl)),(by omega),(by omega)⟩ ?_
 refine bN<|sn<|rG cx [3,11,12,13,43,44,45] ([10]++List.range' 101000 16) (tT 0 (B4 (by omega) (by subst h12 h13;have:=S6 hh3 h6 h21 h24 h23 (r:=0) (by omega);omega):AV.i .i64 (IntKind.i64.wrap (j18+1))=AV.i .i64 (j18+1)) z0) ?_
 refine sn<|nX ((j18+1,J8 T19 c10[j18.toNat]!.rep.toNat (T19 c10[j18.toNat]!.rep.toNat++[{ lo:=c10[j18.toNat]!.lo,hi:=c10[j18.toNat]!.hi:Run }]))) (show((↑ps[i0.toNat]!.cloud.length:Int)-(j18+1)).toNat <((↑ps[i0.toNat]!.cloud.length:Int)-j18).toNat from(by subst h12 h13;omega)) (show A74 ps i0 (j18+1) (J8 T19 c10[j18.toNat]!.rep.toNat (T19 c10[j18.toNat]!.rep.toNat++[{ lo:=c10[j18.toNat]!.lo,hi:=c10[j18.toNat]!.hi:Run }]))from(by subst h12 h13;exact⟨by omega,by omega,Al1 h21 h24 h27 h23⟩))
 refine sK<|bN<|sn<|rG cx [3,11,12,13,43,44,45] ([10]++List.range' 101000 16) (tT 0 (B4 (by omega) (by subst h12 h13;have:=S6 hh3 h6 h21 h24 h23 (r:=0) (by omega);omega):AV.i .i64 (IntKind.i64.wrap (j18+1))=AV.i .i64 (j18+1)) z0) ?_
 refine sn<|nX ((j18+1,T19)) (show((↑ps[i0.toNat]!.cloud.length:Int)-(j18+1)).toNat <((↑ps[i0.toNat]!.cloud.length:Int)-j18).toNat from(by subst h12 h13;omega)) (show A74 ps i0 (j18+1) T19 from(by subst h12 h13;exact⟨by omega,by omega,A9b h21 h24 h27 h23⟩))
 refine eX 4<|nE<|nE<|bH<|bN<|sn<|rG cx [3,11,12,13] ([10]++List.range' 101000 16) (tW 0 (i0+1) z0)<|sn<|nX ((i0+1,T19)) (show((↑ps.length:Int)-(i0+1)).toNat <((↑ps.length:Int)-i0).toNat from(by omega)) (show Af1 ps (i0+1) T19 from(by subst h12 h13;exact⟨by omega,by omega,A9c hh3 h6 h24 h23⟩))
 refine eX 0<|nE<|nE<|bH<|sn<|sq<|N8 (List.range' 101000 16) [3,11,12,13,14] [10] (σ':=⟨[(3,.ptr (10) (0) (0) (0)),(11,.sl (List.map c26 ps)),(12,.i .i64 ((↑ps.length:Int))),(13,.i .i64 (i0)),(14,.b (decide (i0 <(↑ps.length:Int))))],[(10,⟨0,204,.var [.sl (List.map c206 (T1 (0))),.sl (List.map c206 (T1 (1))),.sl (List.map c206 (T1 (2))),.sl (List.map c206 (T1 (3))),.sl (List.map c206 (T1 (4))),.sl (List.map c206 (T1 (5))),.sl (List.map c206 (T1 (6))),.sl (List.map c206 (T1 (7))),.sl (List.map c206 (T1 (8))),.sl (List.map c206 (T1 (9))),.sl (List.map c206 (T1 (10))),.sl (List.map c206 (T1 (11))),.sl (List.map c206 (T1 (12))),.sl (List.map c206 (T1 (13))),.sl (List.map c206 (T1 (14))),.sl (List.map c206 (T1 (15)))]⟩)]⟩) (by kernel_rfl)<|G8 10 ⟨0,204,.var [.sl (List.map c206 (T1 (0))),.sl (List.map c206 (T1 (1))),.sl (List.map c206 (T1 (2))),.sl (List.map c206 (T1 (3))),.sl (List.map c206 (T1 (4))),.sl (List.map c206 (T1 (5))),.sl (List.map c206 (T1 (6))),.sl (List.map c206 (T1 (7))),.sl (List.map c206 (T1 (8))),.sl (List.map c206 (T1 (9))),.sl (List.map c206 (T1 (10))),.sl (List.map c206 (T1 (11))),.sl (List.map c206 (T1 (12))),.sl (List.map c206 (T1 (13))),.sl (List.map c206 (T1 (14))),.sl (List.map c206 (T1 (15)))]⟩ [.sl (List.map c206 (T1 (0))),.sl (List.map c206 (T1 (1))),.sl (List.map c206 (T1 (2))),.sl (List.map c206 (T1 (3))),.sl (List.map c206 (T1 (4))),.sl (List.map c206 (T1 (5))),.sl (List.map c206 (T1 (6))),.sl (List.map c206 (T1 (7))),.sl (List.map c206 (T1 (8))),.sl (List.map c206 (T1 (9))),.sl (List.map c206 (T1 (10))),.sl (List.map c206 (T1 (11))),.sl (List.map c206 (T1 (12))),.sl (List.map c206 (T1 (13))),.sl (List.map c206 (T1 (14))),.sl (List.map c206 (T1 (15)))] (E2 c206 16 T1) (σ':=⟨[(3,.ptr (10) (0) (0) (0)),(11,.sl (List.map c26 ps)),(12,.i .i64 ((↑ps.length:Int))),(13,.i .i64 (i0)),(14,.b (decide (i0 <(↑ps.length:Int))))],[(10,⟨0,204,.arr (E2 c206 16 T1)⟩)]⟩) (by kernel_rfl) (by kernel_rfl) (by kernel_rfl) (by kernel_rfl) (ZLe.of_eq (by kernel_rfl)) (by kernel_rfl)<|rG cx [2] [10] z0<|sn<|rT<|qb_ptr (cells':=(E2 c206 16 T1)) .ret (.inr rfl) 2 10 0 (by kernel_rfl) (by kernel_rfl) (by kernel_rfl) ?g16;rotate_left
 case g16 =>
  unfold E2
  refine List.map_congr_left fun r hr=>?_
  rw[h5 r (by simpa using hr),List.take_of_length_le (by omega)]
end Go.Proofs.YtphcaholhacnpaaGreat
namespace Go.Proofs.YtphcaholhacnpaaGreat
open Go.E
set_option maxRecDepth 100000
set_option maxHeartbeats 4000000
def A3(p:Past):Past:=E8 (A8 [p])
theorem Af4(p:Past):A08 [p]=p.cloud.length+1:=by simp [A08]
theorem Al2(p:Past)(hb:p.cloud.length*16≤140737488350000):Con Tryz.prog 116 [.agg (c26 p)] (.agg (c26 (A3 p))) :=
 by
 have h1:=Af4 p
 have h2:=fun r=>P4 r [p]
 refine sC A6 [.cell 2 26] 7 Tryz.func116 ?_
 intro e0 cx
 refine sq<|rG cx [1,2] [1,2] z0<|sn<|sq<|rG cx [2] [2] (fT (Af3 ([p]) ?g0) (fT (B4k (A8 [p]) ?g1) (oV 2 { val:=some (.ptr ((204:Nat)) (0) (0) (0)),row:=(E2 c206 16 (A8 [p])) } (oA 3 (.agg [.sl (List.map c3 (E8 (A8 [p])).vec),.sl (List.map A9 (E8 (A8 [p])).cloud)]) z0)))) ?_;rotate_left 2
 refine sn<|rT<|qR (.agg [.sl (List.map c3 (E8 (A8 [p])).vec),.sl (List.map A9 (E8 (A8 [p])).cloud)]) (.eq ?g2);rotate_left
 all_goals
  ( intros <;> first
  | omega
  | exact rfl
  | (have:=h2 ‹Nat›;omega))
end Go.Proofs.YtphcaholhacnpaaGreat
namespace Go.Proofs.YtphcaholhacnpaaGreat
open Go.E
set_option maxRecDepth 100000
set_option maxHeartbeats 4000000
def A4z{α:Type}[Inhabited α](a b:List α)(i:Int):Prop:=0≤i∧i≤a.length∧a.length=b.length∧∀ j:Nat,(j:Int) < i→a[j]! = b[j]!
def B9a{α:Type}(a b:List α)(i:Int):Nat:=(a.length-i).toNat
theorem I5{α:Type}[Inhabited α]{a b:List α}(hl:a.length=b.length)(h:∀ j:Nat,j < a.length→a[j]! = b[j]!):a=b:=by
 apply List.ext_getElem hl
 intro j h1 h2
 have:=h j h1
 rwa [getElem!_pos a j h1,getElem!_pos b j h2]at this
theorem B72(a b:List Int):Con Tryz.prog 151 [.sl (a.map c3),.sl (b.map c3)] (.b (decide (a=b))) :=
 by
 refine lN 0 c3 (a) Tryz.func151 fun hl_0=>lN 1 c3 (b) Tryz.func151 fun hl_1=>sC A6 [.tmp 4] 26 Tryz.func151 ?_
 intro e0 cx
 refine sq<|rG cx [0,1] [] z0<|sn<|sq<|sq<|rG cx [0,1,10] [] (tL 1 c3 a (tL 3 c3 b (tN 4 (↑a.length:Int) (↑b.length:Int) z0)))<|sn<|dC (¬(↑a.length:Int)=(↑b.length:Int)) (fun hh0=>?_) fun hh0=>?_
 refine sq<|rG cx [4] [] z0<|sn<|rT<|nR<|qR (.b (false)) (.eq (by exact(by rw[decide_eq_false (fun k=>hh0 (by rw[k]))])))
 refine sK<|sn<|sq<|sq<|rG cx [0,1,12,13] [] (tL 1 c3 a z0)<|sn<|bL 0<|sL (X:=Int) (fun x=>⟨[(0,.sl (List.map c3 a)),(1,.sl (List.map c3 b)),(12,.i .i64 ((↑a.length:Int))),(13,.i .i64 (x))],[]⟩) (fun x ↦ B9a a b x) (fun x ↦ A4z a b x) [0,1,12,13] [] ((0:Int)) (show A4z a b (0:Int)from(by exact⟨by omega,by omega,by omega,fun j hj=>by omega⟩)) ?_
 intro i1 h_2
 obtain⟨hh3,hh4,hh5,h6⟩:0≤i1∧i1≤(↑a.length:Int)∧a.length=b.length∧∀(j:Nat),(↑j:Int) < i1→a[j]! = b[j]!:=h_2
 refine rE cx [0,1,12,13,14] [] (zB 0 (i1 <(↑a.length:Int))) (fun h7=>?_) fun h7=>?_
 refine sK<|sn<|sq<|bL 1<|sq<|rG cx [0,1,12,13,5] [] z0<|sn<|sq<|rA cx [0,1,12,13,24] [] (fA (0≤i1) (fG c3 a i1.toNat (fR 1 (fA (0≤i1) (fG c3 b i1.toNat (fR 1 (tN 8 a[i1.toNat]! b[i1.toNat]! (oR 2 (c3 a[i1.toNat]!) (oR 6 (c3 b[i1.toNat]!) z0)))))))))<|sn<|dC (¬a[i1.toNat]! = b[i1.toNat]!) (fun h8=>?_) fun h8=>?_
 refine sq<|rG cx [4] [] z0<|sn<|rT<|bR<|nR<|nR<|bR<|nR<|qR (.b (false)) (.eq (by exact(by rw[decide_eq_false (fun k=>h8 (by rw[k]))])))
 refine sK<|bN<|sn<|rG cx [0,1,12,13] [] (tW 0 (i1+1) z0)<|sn<|nX (i1+1) (show((↑a.length:Int)-(i1+1)).toNat <((↑a.length:Int)-i1).toNat from(by omega)) (show A4z a b (i1+1)from ?g3);rotate_left
 refine eX 0<|nE<|nE<|bH<|sn<|sq<|rG cx [4] [] z0<|sn<|rT<|qR (.b (true)) (.eq (by exact(by rw[decide_eq_true (I5 hh5 fun j hj=>h6 j (by omega))])))
 case g3=>revert hh0 i1 hh3 hh4 hh5 h6 h7 h8;exact(fun h i h0 h1 h2 h3 h4 h5=>⟨by omega,by omega,h2,fun j hj=>by
   by_cases e:j=i.toNat
   ·rw[e];exact Classical.not_not.1 h5
   ·exact h3 j (by omega)⟩)
theorem con152(a b:List Span):Con Tryz.prog 152 [.sl (a.map A9),.sl (b.map A9)] (.b (decide (a=b))) :=
 by
 refine lN 0 A9 (a) Tryz.func152 fun hl_0=>lN 1 A9 (b) Tryz.func152 fun hl_1=>sC A6 [.tmp 4] 26 Tryz.func152 ?_
 intro e0 cx
 refine sq<|rG cx [0,1] [] z0<|sn<|sq<|sq<|rG cx [0,1,10] [] (tL 1 A9 a (tL 3 A9 b (tN 4 (↑a.length:Int) (↑b.length:Int) z0)))<|sn<|dC (¬(↑a.length:Int)=(↑b.length:Int)) (fun hh0=>?_) fun hh0=>?_
 refine sq<|rG cx [4] [] z0<|sn<|rT<|nR<|qR (.b (false)) (.eq (by exact(by rw[decide_eq_false (fun k=>hh0 (by rw[k]))])))
 refine sK<|sn<|sq<|sq<|rG cx [0,1,12,13] [] (tL 1 A9 a z0)<|sn<|bL 0<|sL (X:=Int) (fun x=>⟨[(0,.sl (List.map A9 a)),(1,.sl (List.map A9 b)),(12,.i .i64 ((↑a.length:Int))),(13,.i .i64 (x))],[]⟩) (fun x ↦ B9a a b x) (fun x ↦ A4z a b x) [0,1,12,13] [] ((0:Int)) (show A4z a b (0:Int)from(by exact⟨by omega,by omega,by omega,fun j hj=>by omega⟩)) ?_
 intro i1 h_2
 obtain⟨hh3,hh4,hh5,h6⟩:0≤i1∧i1≤(↑a.length:Int)∧a.length=b.length∧∀(j:Nat),(↑j:Int) < i1→a[j]! = b[j]!:=h_2
 refine rE cx [0,1,12,13,14] [] (zB 0 (i1 <(↑a.length:Int))) (fun h7=>?_) fun h7=>?_
 refine sK<|sn<|sq<|bL 1<|sq<|rG cx [0,1,12,13,5] [] z0<|sn<|sq<|rA cx [0,1,12,13,24] [] (fA (0≤i1) (fG A9 a i1.toNat (fR 3 (fN 3 3 (fA (0≤i1) (fG A9 b i1.toNat (fR 3 (fN 3 3 (fT (X5 (eq141 a[i1.toNat]! b[i1.toNat]!)) (oR 2 (A9 a[i1.toNat]!) (oR 6 (A9 b[i1.toNat]!) (oA 8 (.b (decide ¬a[i1.toNat]! = b[i1.toNat]!)) z0))))))))))))<|sn<|dC (¬a[i1.toNat]! = b[i1.toNat]!) (fun h8=>?_) fun h8=>?_
 refine sq<|rG cx [4] [] z0<|sn<|rT<|bR<|nR<|nR<|bR<|nR<|qR (.b (false)) (.eq (by exact(by rw[decide_eq_false (fun k=>h8 (by rw[k]))])))
 refine sK<|bN<|sn<|rG cx [0,1,12,13] [] (tW 0 (i1+1) z0)<|sn<|nX (i1+1) (show((↑a.length:Int)-(i1+1)).toNat <((↑a.length:Int)-i1).toNat from(by omega)) (show A4z a b (i1+1)from ?g3);rotate_left
 refine eX 0<|nE<|nE<|bH<|sn<|sq<|rG cx [4] [] z0<|sn<|rT<|qR (.b (true)) (.eq (by exact(by rw[decide_eq_true (I5 hh5 fun j hj=>h6 j (by omega))])))
 case g3=>revert hh0 i1 hh3 hh4 hh5 h6 h7 h8;exact(fun h i h0 h1 h2 h3 h4 h5=>⟨by omega,by omega,h2,fun j hj=>by
   by_cases e:j=i.toNat
   ·rw[e];exact Classical.not_not.1 h5
   ·exact h3 j (by omega)⟩)
theorem A9d(p:Past)(hb:p.cloud.length*16≤140737488350000):Con Tryz.prog 81 [.agg (c26 p)] (.b (decide (p=A3 p))) :=
 by
 refine sC A6 [.tmp 2] 18 Tryz.func81 ?_
 intro e0 cx
 refine sq<|rG cx [1] [1] z0<|sn<|sq<|rG cx [1,3] [1,3] (fT (Al2 (p) (by(with_reducible assumption))) (oA 1 (.agg [.sl (List.map c3 (A3 p).vec),.sl (List.map A9 (A3 p).cloud)]) z0))<|sn<|sq<|B1 (σ':=⟨[(2,.b (decide (p.vec=(A3 p).vec∧p.cloud=(A3 p).cloud)))],[]⟩) ?_ ?_
 refine A5 (p.vec=(A3 p).vec) (fun h_1=>?_) (fun h_1=>?_)
 refine rg (A:=_∧_∧_∧(AV.b (decide (p.cloud=(A3 p).cloud))=AV.b (decide (p.vec=(A3 p).vec∧p.cloud=(A3 p).cloud)))) cx [(4,{ val:=some (.b (decide (p.vec=(A3 p).vec))),tell:=some (.b (true)) }),(10,{ val:=some (.b (decide (p.cloud=(A3 p).cloud))) }),(12,{ tell:=some (.b (decide (p.vec=(A3 p).vec∧p.cloud=(A3 p).cloud))) })] [2] [] ⟨(A4 h_1),(B72 (p.vec) ((A3 p).vec)),(con152 (p.cloud) ((A3 p).cloud)),(by simp only [eq_true h_1,tsl])⟩ ?_
 exact⟨rfl,by kernel_rfl⟩
 refine rg (A:=_∧_∧(AV.b false=AV.b (decide (p.vec=(A3 p).vec∧p.cloud=(A3 p).cloud)))) cx [(4,{ val:=some (.b (decide (p.vec=(A3 p).vec))),tell:=some (.b (false)) }),(12,{ tell:=some (.b (decide (p.vec=(A3 p).vec∧p.cloud=(A3 p).cloud))) })] [2] [] ⟨(A0 h_1),(B72 (p.vec) ((A3 p).vec)),(by simp only [eq_false h_1,tsl])⟩ ?_
 exact⟨rfl,by kernel_rfl⟩
 refine sn<|rT<|qR (.b (decide (p.vec=(A3 p).vec∧p.cloud=(A3 p).cloud))) (.eq ?g0);rotate_left
 case' g0=>refine(by
  congr 1
  refine decide_eq_decide.2 ?_
  generalize A3 p=q
  cases p;cases q;simp)
end Go.Proofs.YtphcaholhacnpaaGreat
namespace Go.Proofs.YtphcaholhacnpaaGreat
open Go.E
set_option maxRecDepth 100000
set_option maxHeartbeats 4000000
def A50(s:Span)(d:Dot):Bool:=decide (s.rep=d.rep∧s.lo≤d.num∧d.num≤s.hi)
def Al3(c:List Span)(d:Dot):Int:=if c.any (fun s=>A50 s d)=true then(c.findIdx (fun s=>A50 s d):Int)else -1
def invI(c:List Span)(d:Dot)(i:Int):Prop:=0≤i∧i≤c.length∧∀ j:Nat,(j:Int) < i→A50 c[j]! d=false
def decI(c:List Span)(d:Dot)(i:Int):Nat:=(c.length-i).toNat
def C7(p:Past)(d:Dot):Bool:=I0 d && (decide (d.rep < p.vec.length∧d.num≤p.vec[d.rep.toNat]!) || p.cloud.any fun s=>A50 s d)
theorem idx_at{c:List Span}{d:Dot}:∀ {i:Nat},i < c.length→A50 c[i]! d=true→(∀ j:Nat,j < i→A50 c[j]! d=false)→Al3 c d=i:=by
 intro i hi h hn
 have hany:c.any (fun s=>A50 s d)=true:=List.any_eq_true.2 ⟨c[i]!,D9 hi,h⟩
 unfold Al3
 rw[if_pos hany]
 have:c.findIdx (fun s=>A50 s d)=i:=by
  rw[List.findIdx_eq hi]
  refine⟨by rwa [getElem!_pos c i hi]at h,fun j hj=>?_⟩
  have:=hn j hj
  rwa [getElem!_pos c j (by omega)]at this
 rw[this]
theorem B73{c:List Span}{d:Dot}(h:∀ j:Nat,j < c.length→A50 c[j]! d=false):Al3 c d=-1:=by
 unfold Al3
 rw[if_neg]
 intro k
 obtain⟨x,hx,hk⟩:=List.any_eq_true.1 k
 obtain⟨j,hj,rfl⟩:=List.mem_iff_getElem.1 hx
 have:=h j hj
 rw[getElem!_pos c j hj]at this
 rw[this]at hk
 cases hk
theorem B02(c:List Span)(d:Dot):decide (0≤Al3 c d)=c.any fun s=>A50 s d:=by
 unfold Al3
 cases h:c.any fun s=>A50 s d with
 | true=>rw[if_pos rfl];simp
 | false=>rw[if_neg (by simp)];rfl
theorem con174(s:Span)(d:Dot):Con Tryz.prog 174 [.agg (A9 s),.eptr (c44 d)] (.b (A50 s d)) :=
 by
 refine sC A6 [.tmp 3] 23 Tryz.func174 ?_
 intro e0 cx
 refine sq<|rG cx [1,2] [2] z0<|sn<|sq<|B1 (σ':=⟨[(3,.b (decide (s.rep=d.rep∧s.lo≤d.num∧d.num≤s.hi)))],[]⟩) ?_ ?_
 refine A5 (s.rep=d.rep) (fun h_1=>?_) (fun h_1=>?_)
 refine A5 (s.lo≤d.num) (fun h_2=>?_) (fun h_2=>?_)
 refine rG cx [3] [] (tT 4 (A4 h_1) (tT 10 (A4 h_2) (tB 17 (d.num≤s.hi) (tD 19 (decide (d.num≤s.hi)) (s.rep=d.rep∧s.lo≤d.num∧d.num≤s.hi) (by simp only [eq_true h_1,eq_true h_2,tsl]) z0)))) ?_
 exact⟨rfl,by kernel_rfl⟩
 refine rG cx [3] [] (tT 4 (A4 h_1) (tT 10 (A0 h_2) (tD 19 false (s.rep=d.rep∧s.lo≤d.num∧d.num≤s.hi) (by simp only [eq_true h_1,eq_false h_2,tsl]) z0))) ?_
 exact⟨rfl,by kernel_rfl⟩
 refine rG cx [3] [] (tT 4 (A0 h_1) (tD 19 false (s.rep=d.rep∧s.lo≤d.num∧d.num≤s.hi) (by simp only [eq_false h_1,tsl]) z0)) ?_
 exact⟨rfl,by kernel_rfl⟩
 refine sn<|rT<|qR (.b (decide (s.rep=d.rep∧s.lo≤d.num∧d.num≤s.hi))) (.eq ?g0);rotate_left
 case g0=>exact rfl
theorem con216(c:List Span)(d:Dot):Con Tryz.prog 216 [.sl (c.map A9),.fn (.func 174) [] [.eptr (c44 d)]] (.i .i64 (Al3 c d)) :=
 by
 refine lN 0 A9 (c) Tryz.func216 fun hl_0=>sC A6 [.tmp 4] 19 Tryz.func216 ?_
 intro e0 cx
 refine sq<|rG cx [0,1] [] z0<|sn<|sq<|sq<|rG cx [0,1,7,8] [] (tL 1 A9 c z0)<|sn<|bL 0<|sL (X:=Int) (fun x=>⟨[(0,.sl (List.map A9 c)),(1,.fn (Fn.func (174:FuncId)) [] [.eptr [.i .i64 (d.rep),.i .i64 (d.num)]]),(7,.i .i64 ((↑c.length:Int))),(8,.i .i64 (x))],[]⟩) (fun x ↦ decI c d x) (fun x ↦ invI c d x) [0,1,7,8] [] ((0:Int)) (show invI c d (0:Int)from(by exact⟨by omega,by omega,fun j hj=>by omega⟩)) ?_
 intro i0 h_1
 obtain⟨hh2,hh3,hh4⟩:0≤i0∧i0≤(↑c.length:Int)∧∀(j:Nat),(↑j:Int) < i0→A50 c[j]! d=false:=h_1
 refine rE cx [0,1,7,8,9] [] (zB 0 (i0 <(↑c.length:Int))) (fun h5=>?_) fun h5=>?_
 refine sK<|sn<|sq<|bL 1<|sq<|rG cx [0,1,7,8,5] [] z0<|sn<|sq<|rG cx [0,1,7,8,5,16] [] (fA (0≤i0) (fG A9 c i0.toNat (fR 3 (fN 3 3 (fT (con174 (c[i0.toNat]!) (d)) (oR 3 (A9 c[i0.toNat]!) (oA 5 (.b (A50 c[i0.toNat]! d)) z0)))))))<|sn<|P0 (A50 c[i0.toNat]! d) (by kernel_rfl) (by kernel_rfl) (fun h6=>?_) (fun h6=>?_)
 refine sq<|rG cx [4] [] z0<|sn<|rT<|bR<|nR<|nR<|bR<|nR<|qR (.i .i64 (i0)) (.eq ?g1);rotate_left
 refine sK<|bN<|sn<|rG cx [0,1,7,8] [] (tW 0 (i0+1) z0)<|sn<|nX (i0+1) (show((↑c.length:Int)-(i0+1)).toNat <((↑c.length:Int)-i0).toNat from(by omega)) (show invI c d (i0+1)from ?g2);rotate_left
 refine eX 0<|nE<|nE<|bH<|sn<|sq<|rG cx [4] [] z0<|sn<|rT<|qR (.i .i64 ((-1:Int))) (.eq (by exact(by rw[B73 fun j hj=>hh4 j (by omega)])))
 case g1=>revert i0 hh2 hh3 hh4 h5 h6;exact(fun i h0 h1 h2 h3 h4=>by rw[idx_at (i:=i.toNat) (by omega) h4 (fun j hj=>h2 j (by omega)),show((i.toNat:Nat):Int)=i by omega])
 case g2=>revert i0 hh2 hh3 hh4 h5 h6;exact(fun i h0 h1 h2 h3 h4=>⟨by omega,by omega,fun j hj=>by
   by_cases e:j=i.toNat
   ·rw[e];exact h4
   ·exact h2 j (by omega)⟩)
theorem con173(c:List Span)(d:Dot):Con Tryz.prog 173 [.sl (c.map A9),.fn (.func 174) [] [.eptr (c44 d)]] (.b (decide (0≤Al3 c d))) :=
 by
 refine lN 0 A9 (c) Tryz.func173 fun hl_0=>sC A6 [.tmp 4] 9 Tryz.func173 ?_
 intro e0 cx
 refine sq<|rG cx [0,1] [] z0<|sn<|sq<|rG cx [4] [] (fT (con216 (c) (d)) (tB 3 (0≤Al3 c d) (oA 2 (.i .i64 (Al3 c d)) z0)))<|sn<|rT ?_
 exact A3h (r:=.b (decide (0≤Al3 c d))) (obl:=[]) (by kernel_rfl) trivial (B5.refl _)
theorem A9e(p:Past)(d:Dot):Con Tryz.prog 105 [.agg (c26 p),.agg (c44 d)] (.b (C7 p d)) :=
 by
 refine sC A6 [.tmp 4] 29 Tryz.func105 ?_
 intro e0 cx
 refine sq<|rG cx [2,3] [2,3] z0<|sn<|sq<|sq<|rG cx [2,3,7] [2,3] (fT (B71 (d)) (tT 2 (C3:(AV.b !I0 d)=AV.b (decide ¬I0 d=true)) (oA 1 (.b (I0 d)) z0)))<|sn<|dC (¬I0 d=true) (fun h0=>?_) fun h0=>?_
 refine sq<|rG cx [4] [] z0<|sn<|rT<|nR<|qR (.b (false)) (.eq (by unfold C7;rw[Bool.eq_false_iff.2 h0];rfl))
 refine sK<|sn<|sq<|sq<|B1 (σ':=⟨[(2,.ptr (2) (0) (0) (0)),(3,.ptr (3) (0) (0) (0)),(24,.b (decide (d.rep <(↑p.vec.length:Int)∧d.num≤p.vec[d.rep.toNat]!)))],[(2,⟨0,26,.var [.sl (List.map c3 p.vec),.sl (List.map A9 p.cloud)]⟩),(3,⟨0,44,.var [.i .i64 (d.rep),.i .i64 (d.num)]⟩)]⟩) ?_ ?_
 refine A5 (d.rep <(↑p.vec.length:Int)) (fun h2=>?_) (fun h2=>?_)
 refine rA cx [2,3,24] [2,3] (tL 4 c3 p.vec (tT 5 (A4 h2) (fP (0≤d.rep) (by exact(G2 (Classical.not_not.1 h0)).1) (fP ((List.map c3 p.vec)[d.rep.toNat]?=some (c3 p.vec[d.rep.toNat]!)) (by have:=(G2 (Classical.not_not.1 h0)).1;exact F3 (by omega)) (fR 1 (tB 15 (d.num≤p.vec[d.rep.toNat]!) (tD 16 (decide (d.num≤p.vec[d.rep.toNat]!)) (d.rep <(↑p.vec.length:Int)∧d.num≤p.vec[d.rep.toNat]!) (by simp only [eq_true h2,tsl]) (oR 13 (c3 p.vec[d.rep.toNat]!) z0)))))))) ?_
 exact⟨rfl,by kernel_rfl⟩
 refine rA cx [2,3,24] [2,3] (tL 4 c3 p.vec (tT 5 (A0 h2) (tD 16 false (d.rep <(↑p.vec.length:Int)∧d.num≤p.vec[d.rep.toNat]!) (by simp only [eq_false h2,tsl]) z0))) ?_
 exact⟨rfl,by kernel_rfl⟩
 refine sn<|dC (d.rep <(↑p.vec.length:Int)∧d.num≤p.vec[d.rep.toNat]!) (fun h3=>?_) fun h3=>?_
 refine sq<|rG cx [4] [] z0<|sn<|rT<|nR<|qR (.b (true)) (.eq (by unfold C7;rw[Classical.not_not.1 h0,decide_eq_true h3];rfl))
 refine sK<|sn<|sq<|rG cx [4] [] (fP (Flat (AV.b (decide (0≤Al3 p.cloud d)))) (by exact Flat.b _) (fT (con173 (p.cloud) (d)) (oV 3 { val:=some (.b (decide (0≤Al3 p.cloud d))),flat:=true } z0)))<|sn<|rT<|qR (.b (decide (0≤Al3 p.cloud d))) (.eq (by unfold C7;rw[Classical.not_not.1 h0,decide_eq_false h3,B02];simp))
end Go.Proofs.YtphcaholhacnpaaGreat
namespace Go.Proofs.YtphcaholhacnpaaGreat
open Go.E
set_option maxRecDepth 100000
set_option maxHeartbeats 4000000
def D5(T:Nat→List Run)(r:Nat):List Run:=nrm (T r)
theorem O0(r:Run)(R:List Run)(n:Int):inR (r :: R) n↔(r.lo≤n∧n≤r.hi)∨inR R n:=by simp [inR]
theorem A3u{l:List Run}(h:M0 l):nrm l=l:=by
 refine O3 (E1 l) h fun n=>?_
 rw[Q6]
 constructor
 ·exact fun k=>k.2.2
 ·rintro⟨r,hr,h1,h2⟩
  have:=h.2 r hr
  exact⟨by omega,by omega,r,hr,h1,h2⟩
theorem A1g:B7 []=(0,[]):=rfl
theorem A3v(l:List Run):nrm (nrm l)=nrm l:=A3u (E1 l)
theorem Z6(T:Nat→List Run):E8 (D5 T)=E8 T:=by
 have h1:∀ r,A07 (D5 T) r=A07 T r:=fun r=>by unfold A07 D5;rw[A3v]
 have h2:∀ r,V0 (D5 T) r=V0 T r:=fun r=>by unfold V0 D5;rw[A3v]
 have h3:∀ n,szT (D5 T) n=szT T n:=fun n=>by
  induction n with
  | zero=>rfl
  | succ n ih=>rw[szT,szT,h1,ih]
 have h4:∀ n,H4 (D5 T) n=H4 T n:=fun n=>by
  induction n with
  | zero=>rfl
  | succ n ih=>rw[H4,H4,h2,ih]
 have h5:A5o (D5 T) 16=A5o T 16:=by
  unfold A5o
  congr 1
  exact List.map_congr_left fun r _=>h1 r
 unfold E8
 rw[h3,h4,h5]
theorem A30(T:Nat→List Run):∀ r:Nat,r < 16→M0 (D5 T r):=fun r _=>E1 _
theorem B9b {l : List Run} (h : M0 l) {n : Int} (hn : 1 ≤ n) : inR l n ↔ n ≤ (B7 l).1 ∨ inR (B7 l).2 n := by
  cases l with
  | nil => rw [A1g]; simp only [inR]; constructor
           · rintro⟨r,hr,_⟩;cases hr
           · rintro (k | ⟨r, hr, _⟩)
             · omega
             · cases hr
  | cons x l =>
    rw[O0]
    unfold B7
    by_cases hx:x.lo=1
    · rw [if_neg (by simpa using hx)]
      show _↔n≤x.hi∨inR l n
      constructor
      · rintro (k | k)
        · exact .inl k.2
        · exact .inr k
      · rintro (k | k)
        · exact .inl ⟨by omega,k⟩
        · exact .inr k
    · rw [if_pos (.inr (by simpa using hx))]
      show _↔n≤0∨inR (x :: l) n
      rw[O0]
      constructor
      · exact fun k=>.inr k
      · rintro (k | k)
        · omega
        · exact k
theorem A3w(T:Nat→List Run):∀ n:Nat,0≤szT T n∧szT T n≤n∧∀ r:Nat,r < n→szT T n≤r→¬ 0 < A07 T r
 | 0=>⟨by simp [szT],by simp [szT],fun r hr=>by omega⟩
 | n+1=>by
  obtain⟨h1,h2,h3⟩:=A3w T n
  rw[szT]
  split
  ·exact⟨by omega,by omega,fun r hr k=>by omega⟩
  ·rename_i hn
   refine⟨h1,by omega,fun r hr k=>?_⟩
   by_cases e:r=n
   ·rw[e];exact hn
   ·exact h3 r (by omega) k
theorem A3x(T:Nat→List Run)(s:Span):∀ n:Nat,s∈H4 T n↔∃ r:Nat,r < n∧s∈V0 T r
 | 0=>by simp [H4]
 | n+1=>by
  rw[H4,List.mem_append,A3x T s n]
  constructor
  ·rintro(⟨r,h1,h2⟩ | h)
   ·exact⟨r,by omega,h2⟩
   ·exact⟨n,by omega,h⟩
  ·rintro⟨r,h1,h2⟩
   by_cases e:r=n
   ·exact .inr (e ▸ h2)
   ·exact .inl ⟨r,by omega,h2⟩
theorem B03(T:Nat→List Run){r:Nat}(h:(r:Int) < szT T 16):(E8 T).vec[r]! = A07 T r∧r <(E8 T).vec.length:=by
 have h2:=(A3w T 16).2.1
 have hl:(A5o T 16).length=16:=by simp [A5o]
 have hr:r <((A5o T 16).take (szT T 16).toNat).length:=by rw[List.length_take,hl];omega
 refine⟨?_,hr⟩
 show((A5o T 16).take (szT T 16).toNat)[r]! = _
 rw[getElem!_pos ((A5o T 16).take (szT T 16).toNat) r hr,List.getElem_take]
 unfold A5o
 rw[List.getElem_append_left (by simp;omega)]
 simp
theorem Af5(T:Nat→List Run):((E8 T).vec.length:Int)=szT T 16:=by
 have h2:=A3w T 16
 show(((A5o T 16).take (szT T 16).toNat).length:Int)=_
 rw[List.length_take]
 simp [A5o]
 omega
theorem P5(T:Nat→List Run)(d:Dot):C7 (E8 T) d=true↔I0 d=true∧inR (T d.rep.toNat) d.num:=by
 unfold C7
 rw[Bool.and_eq_true]
 refine and_congr_right fun hd=>?_
 have hb:=G2 hd
 have e1:inR (T d.rep.toNat) d.num↔inR (nrm (T d.rep.toNat)) d.num:=by
  rw[Q6]
  exact⟨fun k=>⟨by omega,by omega,k⟩,fun k=>k.2.2⟩
 rw[e1,B9b (E1 _) (by omega),Bool.or_eq_true,decide_eq_true_eq]
 refine or_congr ?_ ?_
 ·rw[Af5]
  constructor
  ·rintro⟨h1,h2⟩
   have:=(B03 T (r:=d.rep.toNat) (by omega)).1
   rw[this]at h2
   exact h2
  ·intro k
   have k:d.num≤A07 T d.rep.toNat:=k
   have h1:d.rep < szT T 16:=by
    apply Classical.byContradiction
    intro hn
    have:=(A3w T 16).2.2 d.rep.toNat (by omega) (by omega)
    omega
   refine⟨h1,?_⟩
   rw[(B03 T (r:=d.rep.toNat) (by omega)).1]
   exact k
 ·rw[List.any_eq_true]
  unfold A50
  constructor
  ·rintro⟨s,hs,h⟩
   rw[decide_eq_true_eq]at h
   obtain⟨r,hr,hs⟩:=(A3x T s 16).1 hs
   unfold V0 at hs
   obtain⟨x,hx,rfl⟩:=List.mem_map.1 hs
   simp only at h
   have:r=d.rep.toNat:=by omega
   subst this
   exact⟨x,hx,h.2.1,h.2.2⟩
  ·rintro⟨x,hx,h1,h2⟩
   refine⟨⟨d.rep.toNat,x.lo,x.hi⟩,(A3x T _ 16).2 ⟨d.rep.toNat,by omega,List.mem_map.2 ⟨x,hx,rfl⟩⟩,?_⟩
   rw[decide_eq_true_eq]
   exact⟨by show((d.rep.toNat:Nat):Int)=d.rep;omega,h1,h2⟩
theorem A75(a b:List Run)(n:Int):inR (a++b) n↔inR a n∨inR b n:=by
 unfold inR
 constructor
 ·rintro⟨y,hy,h⟩
  rcases List.mem_append.1 hy with hy | hy
  ·exact .inl ⟨y,hy,h⟩
  ·exact .inr ⟨y,hy,h⟩
 ·rintro(⟨y,hy,h⟩ | ⟨y,hy,h⟩)
  ·exact⟨y,List.mem_append.2 (.inl hy),h⟩
  ·exact⟨y,List.mem_append.2 (.inr hy),h⟩
theorem B9c{p:Past}{d:Dot}(hd:I0 d=true):inR (Ak9 p.vec d.rep.toNat) d.num↔(d.rep < p.vec.length∧d.num≤p.vec[d.rep.toNat]!):=by
 have hb:=G2 hd
 unfold Ak9 inR
 split
 ·simp only [List.mem_singleton,exists_eq_left]
  constructor
  ·exact fun k=>⟨by omega,k.2⟩
  ·exact fun k=>⟨by omega,k.2⟩
 ·constructor
  ·rintro⟨r,hr,_⟩;cases hr
  ·rintro⟨h,_⟩;omega
theorem B04{p:Past}{d:Dot}(hd:I0 d=true):inR (N3 p.cloud d.rep.toNat) d.num↔(p.cloud.any fun s=>A50 s d)=true:=by
 have hb:=G2 hd
 rw[List.any_eq_true]
 unfold inR N3 A50
 constructor
 ·rintro⟨x,hx,h1,h2⟩
  obtain⟨s,hs,rfl⟩:=List.mem_map.1 hx
  obtain⟨hs,hq⟩:=List.mem_filter.1 hs
  rw[decide_eq_true_eq]at hq
  exact⟨s,hs,by rw[decide_eq_true_eq];exact⟨by omega,h1,h2⟩⟩
 ·rintro⟨s,hs,h⟩
  rw[decide_eq_true_eq]at h
  exact⟨⟨s.lo,s.hi⟩,List.mem_map.2 ⟨s,List.mem_filter.2 ⟨hs,by rw[decide_eq_true_eq];omega⟩,rfl⟩,h.2.1,h.2.2⟩
theorem B74(p:Past)(d:Dot):C7 p d=true↔I0 d=true∧(inR (Ak9 p.vec d.rep.toNat) d.num∨inR (N3 p.cloud d.rep.toNat) d.num):=by
 unfold C7
 rw[Bool.and_eq_true]
 refine and_congr_right fun hd=>?_
 rw[B9c hd,B04 hd,Bool.or_eq_true,decide_eq_true_eq]
theorem Al4(ps:List Past)(d:Dot):C7 (E8 (A8 ps)) d=true↔∃ p∈ps,C7 p d=true:=by
 rw[P5]
 have e:inR (A8 ps d.rep.toNat) d.num↔∃ p∈ps,inR (Ak9 p.vec d.rep.toNat++N3 p.cloud d.rep.toNat) d.num:=by
  unfold inR A8
  constructor
  ·rintro⟨r,hr,h⟩
   obtain⟨l,hl,hr⟩:=List.mem_flatten.1 hr
   obtain⟨p,hp,rfl⟩:=List.mem_map.1 hl
   exact⟨p,hp,r,hr,h⟩
  ·rintro⟨p,hp,r,hr,h⟩
   exact⟨r,List.mem_flatten.2 ⟨_,List.mem_map.2 ⟨p,hp,rfl⟩,hr⟩,h⟩
 rw[e]
 constructor
 ·rintro⟨hd,p,hp,h⟩
  rw[A75]at h
  exact⟨p,hp,(B74 p d).2 ⟨hd,h⟩⟩
 ·rintro⟨p,hp,h⟩
  have:=(B74 p d).1 h
  exact⟨this.1,p,hp,(A75 _ _ _).2 this.2⟩
theorem V2(p:Past)(d:Dot):C7 (A3 p) d=C7 p d:=by
 rw[Bool.eq_iff_iff]
 unfold A3
 rw[Al4]
 simp
theorem has_of(ds:List Dot)(d:Dot):C7 (E8 (ofT ds)) d=true↔I0 d=true∧d∈ds:=by
 rw[P5]
 refine and_congr_right fun hd=>?_
 have hb:=G2 hd
 unfold inR ofT
 constructor
 ·rintro⟨x,hx,h1,h2⟩
  obtain⟨y,hy,rfl⟩:=List.mem_map.1 hx
  obtain⟨hy,hq⟩:=List.mem_filter.1 hy
  rw[Bool.and_eq_true,decide_eq_true_eq]at hq
  simp only at h1 h2
  have:y=d:=by
   cases y;cases d
   simp only at *
   congr 1
   ·omega
   ·omega
  exact this ▸ hy
 ·intro h
  exact⟨⟨d.num,d.num⟩,List.mem_map.2 ⟨d,List.mem_filter.2 ⟨h,by rw[Bool.and_eq_true,decide_eq_true_eq];exact⟨hd,by omega⟩⟩,rfl⟩,Int.le_refl _,Int.le_refl _⟩
theorem B05{T U:Nat→List Run}(h:∀ d,C7 (E8 T) d=true↔C7 (E8 U) d=true):E8 T=E8 U:=by
 rw[← Z6 T,← Z6 U]
 refine O4 fun r hr=>?_
 refine O3 (E1 _) (E1 _) fun n=>?_
 show inR (nrm _) n↔inR (nrm _) n
 rw[Q6,Q6]
 refine and_congr_right fun n0=>and_congr_right fun n1=>?_
 have hd:I0 ⟨r,n⟩=true:=by unfold I0;rw[decide_eq_true_eq];simp only;omega
 have:=h ⟨r,n⟩
 rw[P5,P5]at this
 simp only [hd,true_and]at this
 exact this
theorem A31(T:Nat→List Run):A3 (E8 T)=E8 T:=B05 fun d=>by
 have:=V2 (E8 T) d
 unfold A3 at this
 rw[this]
theorem B4n{p q:Past}(hp:p=A3 p)(hq:q=A3 q)(h:∀ d,C7 p d=C7 q d):p=q:=by
 rw[hp,hq]
 refine B05 fun d=>?_
 have h1:=V2 p d
 have h2:=V2 q d
 unfold A3 at h1 h2
 rw[h1,h2,h d]
theorem B06(p:Past):A3 (A3 p)=A3 p:=A31 _
theorem O1(T:Nat→List Run):(E8 T).cloud.length≤8000000000∧(E8 T).vec.length≤16:=by
 have h1:=A1f T 16
 have h2:=Af5 T
 have h3:=(A3w T 16).2.1
 exact⟨by show(H4 T 16).length≤_;omega,by omega⟩
end Go.Proofs.YtphcaholhacnpaaGreat
namespace Go.Proofs.YtphcaholhacnpaaGreat
open Go.E
set_option maxRecDepth 100000
set_option maxHeartbeats 4000000
def R3:List Run→List Run→List Run
 | x :: a,y :: b=>(if max x.lo y.lo≤min x.hi y.hi then[⟨max x.lo y.lo,min x.hi y.hi⟩]else[])++(if x.hi < y.hi then R3 a (y :: b)else R3 (x :: a) b)
 | _,_=>[]
termination_by a b=>a.length+b.length
theorem M1(b:List Run):R3 [] b=[]:=by unfold R3;rfl
theorem Z7(a:List Run):R3 a []=[]:=by unfold R3;cases a <;> rfl
theorem Z8(x y:Run)(a b:List Run):R3 (x :: a) (y :: b)=(if max x.lo y.lo≤min x.hi y.hi then[⟨max x.lo y.lo,min x.hi y.hi⟩]else[])++(if x.hi < y.hi then R3 a (y :: b)else R3 (x :: a) b):=by rw[R3]
def A2n:Int→List Run→List Run
 | n,[]=>if n≤1000000000 then[⟨n,1000000000⟩]else[]
 | n,r :: l=>(if n < r.lo then[⟨n,r.lo-1⟩]else[])++A2n (r.hi+1) l
def V3(a b:List Run):List Run:=R3 (nrm a) (nrm (A2n 1 (nrm b)))
def metR(a b:List Run):List Run:=R3 (nrm a) (nrm b)
theorem G6{x:Run}{a:List Run}(h:M0 (x :: a)):M0 a:=⟨(List.pairwise_cons.1 h.1).2,fun r hr=>h.2 r (by simp [hr])⟩
theorem A76{x:Run}{a:List Run}(h:M0 (x :: a)){n:Int}(k:inR a n):x.hi+1 < n:=by
 obtain⟨r,hr,h1,_⟩:=k
 have:=(List.pairwise_cons.1 h.1).1 r hr
 omega
theorem B07(c:Prop)[Decidable c](r:Run)(n:Int):inR (if c then[r]else[]) n↔c∧r.lo≤n∧n≤r.hi:=by
 split <;> simp [inR, *]
theorem B4o:∀(k:Nat) (a b:List Run),a.length+b.length≤k→M0 a→M0 b→∀ n,inR (R3 a b) n↔inR a n∧inR b n:=by
 intro k
 induction k with
 | zero =>
  intro a b hk _ _ n
  have:a=[]:=List.eq_nil_of_length_eq_zero (by omega)
  subst this
  rw[M1]
  simp [inR]
 | succ k ih =>
  intro a b hk ha hb n
  cases a with
  | nil=>rw[M1];simp [inR]
  | cons x a =>
   cases b with
   | nil=>rw[Z7];simp [inR]
   | cons y b =>
    have hx:=ha.2 x (by simp)
    have hy:=hb.2 y (by simp)
    have la:inR a n→x.hi+1 < n:=A76 ha
    have lb:inR b n→y.hi+1 < n:=A76 hb
    simp only [List.length_cons]at hk
    rw[Z8,A75,B07]
    split
    ·rw[ih a (y :: b) (by simp only [List.length_cons];omega) (G6 ha) hb n,O0,O0]
     simp only
     constructor
     ·rintro(h | ⟨h1,h2⟩)
      ·exact⟨.inl (by omega),.inl (by omega)⟩
      ·exact⟨.inr h1,h2⟩
     ·rintro⟨h1 | h1,h2 | h2⟩
      ·exact .inl (by omega)
      ·have:=lb h2;omega
      ·exact .inr ⟨h1,.inl h2⟩
      ·exact .inr ⟨h1,.inr h2⟩
    ·rw[ih (x :: a) b (by simp only [List.length_cons];omega) ha (G6 hb) n,O0,O0]
     simp only
     constructor
     ·rintro(h | ⟨h1,h2⟩)
      ·exact⟨.inl (by omega),.inl (by omega)⟩
      ·exact⟨h1,.inr h2⟩
     ·rintro⟨h1 | h1,h2 | h2⟩
      ·exact .inl (by omega)
      ·exact .inr ⟨.inl h1,h2⟩
      ·have:=la h1;omega
      ·exact .inr ⟨.inr h1,h2⟩
theorem A9f:∀(k:Nat) (a b:List Run),a.length+b.length≤k→∀ r∈R3 a b,r.lo≤r.hi∧(∃ x∈a,x.lo≤r.lo∧r.hi≤x.hi)∧∃ y∈b,y.lo≤r.lo∧r.hi≤y.hi:=by
 intro k
 induction k with
 | zero =>
  intro a b hk r hr
  have:a=[]:=List.eq_nil_of_length_eq_zero (by omega)
  subst this
  rw[M1]at hr
  cases hr
 | succ k ih =>
  intro a b hk r hr
  cases a with
  | nil=>rw[M1]at hr;cases hr
  | cons x a =>
   cases b with
   | nil=>rw[Z7]at hr;cases hr
   | cons y b =>
    simp only [List.length_cons]at hk
    rw[Z8]at hr
    rcases List.mem_append.1 hr with hr | hr
    ·split at hr
     ·have:r=⟨max x.lo y.lo,min x.hi y.hi⟩:=by simpa using hr
      subst this
      exact⟨by simp only;omega,⟨x,by simp,by simp only;omega,by simp only;omega⟩,⟨y,by simp,by simp only;omega,by simp only;omega⟩⟩
     ·cases hr
    ·split at hr
     ·obtain⟨h0,⟨x',hx,h1⟩,h2⟩:=ih a (y :: b) (by simp only [List.length_cons];omega) r hr
      exact⟨h0,⟨x',by simp [hx],h1⟩,h2⟩
     ·obtain⟨h0,h1,⟨y',hy,h2⟩⟩:=ih (x :: a) b (by simp only [List.length_cons];omega) r hr
      exact⟨h0,h1,⟨y',by simp [hy],h2⟩⟩
theorem B08:∀(k:Nat) (a b:List Run),a.length+b.length≤k→M0 a→M0 b→M0 (R3 a b):=by
 intro k
 induction k with
 | zero =>
  intro a b hk _ _
  have:a=[]:=List.eq_nil_of_length_eq_zero (by omega)
  subst this
  rw[M1]
  exact Q5
 | succ k ih =>
  intro a b hk ha hb
  cases a with
  | nil=>rw[M1];exact Q5
  | cons x a =>
   cases b with
   | nil=>rw[Z7];exact Q5
   | cons y b =>
    simp only [List.length_cons]at hk
    have hx:=ha.2 x (by simp)
    have hy:=hb.2 y (by simp)
    have pa:=(List.pairwise_cons.1 ha.1).1
    have pb:=(List.pairwise_cons.1 hb.1).1
    rw[Z8]
    have key:∀ m:List Run,M0 m→(∀ r∈m,min x.hi y.hi+1 < r.lo)→M0 ((if max x.lo y.lo≤min x.hi y.hi then[(⟨max x.lo y.lo,min x.hi y.hi⟩:Run)]else[])++m):=by
     intro m hm hlt
     split
     ·refine⟨List.pairwise_append.2 ⟨by simp,hm.1,fun u hu v hv=>?_⟩,fun r hr=>?_⟩
      ·have:u=⟨max x.lo y.lo,min x.hi y.hi⟩:=by simpa using hu
       subst this
       exact hlt v hv
      ·rcases List.mem_append.1 hr with hr | hr
       ·have:r=⟨max x.lo y.lo,min x.hi y.hi⟩:=by simpa using hr
        subst this
        simp only
        omega
       ·exact hm.2 r hr
     ·exact hm
    by_cases hd:x.hi < y.hi
    ·rw[if_pos hd]
     refine key _ (ih a (y :: b) (by simp only [List.length_cons];omega) (G6 ha) hb) fun r hr=>?_
     obtain⟨_,⟨x',hx',h1,_⟩,_⟩:=A9f _ a (y :: b) (Nat.le_refl _) r hr
     have:=pa x' hx'
     omega
    ·rw[if_neg hd]
     refine key _ (ih (x :: a) b (by simp only [List.length_cons];omega) ha (G6 hb)) fun r hr=>?_
     obtain⟨_,_,⟨y',hy',h1,_⟩⟩:=A9f _ (x :: a) b (Nat.le_refl _) r hr
     have:=pb y' hy'
     omega
theorem B09 : ∀ (l : List Run) (n:Int), M0 l → (∀ r ∈ l, n ≤ r.lo) → ∀ k, inR (A2n n l) k ↔ n ≤ k ∧ k ≤ 1000000000 ∧ ¬ inR l k
  | [], n, _, _, k => by
    unfold A2n
    rw[B07]
    simp only [inR,List.not_mem_nil,false_and,exists_false,not_false_eq_true,and_true]
    omega
  | r :: l, n, h, hn, k => by
    have hr:=h.2 r (by simp)
    have h1:=hn r (by simp)
    have pa:=(List.pairwise_cons.1 h.1).1
    have ih:=B09 l (r.hi+1) (G6 h) (fun x hx=>by have:=pa x hx;omega) k
    have lt:inR l k→r.hi+1 < k:=A76 h
    rw[A2n,A75,B07,ih,O0]
    simp only
    constructor
    · rintro (g | ⟨g1, g2, g3⟩)
      · exact ⟨by omega, by omega, fun c => by rcases c with c | c; · omega
                                               · have:=lt c;omega⟩
      · exact ⟨by omega, by omega, fun c => by rcases c with c | c; · omega
                                               · exact g3 c⟩
    · rintro ⟨g1, g2, g3⟩
      by_cases e:k < r.lo
      · exact .inl ⟨by omega,by omega,by omega⟩
      · exact .inr ⟨by apply Classical.byContradiction;intro c;exact g3 (.inl ⟨by omega,by omega⟩),g2,fun c=>g3 (.inr c)⟩
theorem B0a:∀(l:List Run) (n:Int),M0 l→(∀ r∈l,n≤r.lo)→∀ r∈A2n n l,n≤r.lo∧r.lo≤r.hi∧r.hi≤1000000000
 | [],n,_,_,r,hr=>by
  unfold A2n at hr
  split at hr
  ·have:r=⟨n,1000000000⟩:=by simpa using hr
   subst this
   simp only
   omega
  ·cases hr
 | x :: l,n,h,hn,r,hr=>by
  have hx:=h.2 x (by simp)
  have h1:=hn x (by simp)
  have pa:=(List.pairwise_cons.1 h.1).1
  rw[A2n]at hr
  rcases List.mem_append.1 hr with hr | hr
  ·split at hr
   ·have:r=⟨n,x.lo-1⟩:=by simpa using hr
    subst this
    simp only
    omega
   ·cases hr
  ·have:=B0a l (x.hi+1) (G6 h) (fun y hy=>by have:=pa y hy;omega) r hr
   omega
theorem Al5 : ∀ (l : List Run) (n:Int), 1 ≤ n → M0 l → (∀ r ∈ l, n ≤ r.lo) → M0 (A2n n l)
  | [], n, h1, _, _ => by
    unfold A2n
    split
    · exact ⟨by simp, fun r hr => by have : r = ⟨n, 1000000000⟩ := by simpa using hr
                                     subst this;simp only;omega⟩
    · exact Q5
  | x :: l, n, h0, h, hn => by
    have hx:=h.2 x (by simp)
    have h1:=hn x (by simp)
    have pa:=(List.pairwise_cons.1 h.1).1
    have hp:∀ r∈l,x.hi+1≤r.lo:=fun y hy=>by have:=pa y hy;omega
    have ih:=Al5 l (x.hi+1) (by omega) (G6 h) hp
    have lo:=B0a l (x.hi+1) (G6 h) hp
    rw[A2n]
    split
    · refine ⟨List.pairwise_append.2 ⟨by simp, ih.1, fun u hu v hv => ?_⟩, fun r hr => ?_⟩
      · have : u = ⟨n, x.lo - 1⟩ := by simpa using hu
        subst this
        have:=lo v hv
        simp only
        omega
      · rcases List.mem_append.1 hr with hr | hr
        · have : r = ⟨n, x.lo - 1⟩ := by simpa using hr
          subst this
          simp only
          omega
        · exact ih.2 r hr
    · exact ih
theorem B0b(b:List Run):M0 (A2n 1 (nrm b)):=Al5 _ _ (Int.le_refl _) (E1 b) fun r hr=>((E1 b).2 r hr).1
theorem A1h(a b:List Run):M0 (V3 a b):=B08 _ _ _ (Nat.le_refl _) (E1 _) (E1 _)
theorem B0c(a b:List Run)(n:Int):inR (V3 a b) n↔inR (nrm a) n∧¬ inR (nrm b) n:=by
 unfold V3
 rw[B4o _ _ _ (Nat.le_refl _) (E1 _) (E1 _) n,A3u (B0b b),B09 _ _ (E1 b) (fun r hr=>((E1 b).2 r hr).1)]
 refine and_congr_right fun h=>?_
 rw[Q6]at h
 exact⟨fun k=>k.2.2,fun k=>⟨h.1,h.2.1,k⟩⟩
theorem B4p(a b:List Run):(V3 a b).length≤500000000:=L6 (A1h a b)
def B3(a b:Past):Past:=E8 fun r=>V3 (A8 [a] r) (A8 [b] r)
def D1(ps:List Past):Past:=E8 (A8 ps)
theorem Af6(a b:Past)(d:Dot):C7 (B3 a b) d=(C7 a d && !C7 b d):=by
 rw[Bool.eq_iff_iff,B3,P5,B0c,Bool.and_eq_true,Bool.not_eq_true',← V2 a d,← V2 b d]
 unfold A3
 rw[P5,← Bool.not_eq_true,P5]
 constructor
 ·rintro⟨h,h1,h2⟩
  have hb:=G2 h
  rw[Q6]at h1 h2
  exact⟨⟨h,h1.2.2⟩,fun k=>h2 ⟨by omega,by omega,k.2⟩⟩
 ·rintro⟨⟨h,h1⟩,h2⟩
  have hb:=G2 h
  rw[Q6,Q6]
  exact⟨h,⟨by omega,by omega,h1⟩,fun k=>h2 ⟨h,k.2.2⟩⟩
theorem Al6(ps:List Past)(d:Dot):C7 (D1 ps) d=ps.any fun p=>C7 p d:=by
 rw[Bool.eq_iff_iff,D1,Al4,List.any_eq_true]
theorem A5v(a b:Past):B3 a b=A3 (B3 a b):=(A31 _).symm
theorem A9g(ps:List Past):D1 ps=A3 (D1 ps):=(A31 _).symm
end Go.Proofs.YtphcaholhacnpaaGreat
namespace Go.Proofs.YtphcaholhacnpaaGreat
open Go.E
set_option maxRecDepth 100000
set_option maxHeartbeats 4000000
def H1(a b:Int):Int:=if a < b then -1 else if b < a then 1 else 0
def A77(u v:List Int):Nat→Nat→Int
 | _,0=>0
 | r,k+1=>if u[r]! = v[r]! then A77 u v (r+1) k else H1 u[r]! v[r]!
def A1i(s t:Span):Int:=if H1 s.rep t.rep≠0 then H1 s.rep t.rep else if H1 s.lo t.lo≠0 then H1 s.lo t.lo else H1 s.hi t.hi
def M5:List Span→List Span→Int
 | [],[]=>0
 | [],_ :: _=>-1
 | _ :: _,[]=>1
 | s :: a,t :: b=>if A1i s t≠0 then A1i s t else M5 a b
def Bh1(x y:Past):Int:=if A77 x.vec y.vec 0 16≠0 then A77 x.vec y.vec 0 16 else M5 x.cloud y.cloud
def A9h(p q:Past):Int:=Bh1 (A3 p) (A3 q)
structure Ord3 {α:Type} (c:α→α→Int):Prop where
 rng:∀ x y,c x y=-1∨c x y=0∨c x y=1
 neg:∀ x y,c y x=-(c x y)
 tr:∀ x y z,c x y≤0→c y z≤0→c x z≤0
 tr0:∀ x y z,c x y=0→c y z=0→c x z=0
theorem Ord3.lt{α:Type}{c:α→α→Int}(h:Ord3 c){x y z:α}(h1:c x y < 0)(h2:c y z≤0):c x z < 0:=by
 have h3:=h.tr x y z (by omega) h2
 apply Classical.byContradiction
 intro h4
 have h5:c x z=0:=by omega
 have h6:c z x=0:=by rw[h.neg x z];omega
 have h7:=h.tr y z x h2 (by omega)
 have:=h.neg x y
 omega
theorem Ord3.lt'{α:Type}{c:α→α→Int}(h:Ord3 c){x y z:α}(h1:c x y≤0)(h2:c y z < 0):c x z < 0:=by
 have h3:=h.tr x y z h1 (by omega)
 apply Classical.byContradiction
 intro h4
 have h5:c x z=0:=by omega
 have h6:c z x=0:=by rw[h.neg x z];omega
 have h7:=h.tr z x y (by omega) h1
 have:=h.neg y z
 omega
theorem Ord3.self{α:Type}{c:α→α→Int}(h:Ord3 c)(x:α):c x x=0:=by have:=h.neg x x;omega
theorem ordI:Ord3 H1:=by
 refine⟨fun x y=>?_,fun x y=>?_,fun x y z=>?_,fun x y z=>?_⟩ <;> unfold H1 <;>(repeat' split) <;> omega
theorem A1j{α β γ:Type}{c:β→β→Int}{d:γ→γ→Int}(hc:Ord3 c)(hd:Ord3 d)(f:α→β)(g:α→γ):Ord3 (fun x y=>if c (f x) (f y)≠0 then c (f x) (f y)else d (g x) (g y)):=by
 refine⟨fun x y=>?_,fun x y=>?_,fun x y z=>?_,fun x y z=>?_⟩
 ·split
  ·exact hc.rng _ _
  ·exact hd.rng _ _
 ·have h1:=hc.neg (f x) (f y)
  have h2:=hd.neg (g x) (g y)
  split <;> split <;> omega
 ·intro h1 h2
  have b1:=hc.neg (f x) (f y)
  by_cases e1:c (f x) (f y)=0
  ·rw[if_neg (by simpa using e1)]at h1
   by_cases e2:c (f y) (f z)=0
   ·rw[if_neg (by simpa using e2)]at h2
    rw[if_neg (by simpa using hc.tr0 _ _ _ e1 e2)]
    exact hd.tr _ _ _ h1 h2
   ·rw[if_pos e2]at h2
    have:=hc.lt' (x:=f x) (y:=f y) (z:=f z) (by omega) (by omega)
    rw[if_pos (by omega)]
    omega
  ·rw[if_pos e1]at h1
   have h2':c (f y) (f z)≤0:=by
    by_cases e2:c (f y) (f z)=0
    ·omega
    ·rw[if_pos e2]at h2;exact h2
   have:=hc.lt (x:=f x) (y:=f y) (z:=f z) (by omega) h2'
   rw[if_pos (by omega)]
   omega
 ·intro h1 h2
  have e1:c (f x) (f y)=0:=by
   apply Classical.byContradiction
   intro e
   rw[if_pos e]at h1
   exact e h1
  have e2:c (f y) (f z)=0:=by
   apply Classical.byContradiction
   intro e
   rw[if_pos e]at h2
   exact e h2
  rw[if_neg (by simpa using e1)]at h1
  rw[if_neg (by simpa using e2)]at h2
  rw[if_neg (by simpa using hc.tr0 _ _ _ e1 e2)]
  exact hd.tr0 _ _ _ h1 h2
theorem H5{a b:Int}:H1 a b=0↔a=b:=by unfold H1;split <;>(try split) <;> omega
theorem ordF(k:Nat):∀ r:Nat,Ord3 fun u v:List Int=>A77 u v r k:=by
 induction k with
 | zero=>exact fun r=>⟨fun _ _=>.inr (.inl rfl),fun _ _=>rfl,fun _ _ _ _ _=>Int.le_refl _,fun _ _ _ _ _=>rfl⟩
 | succ k ih =>
  intro r
  have h:=A1j ordI (ih (r+1)) (fun u:List Int=>u[r]!) (fun u=>u)
  have e:(fun u v:List Int=>A77 u v r (k+1))=fun u v=>if H1 u[r]! v[r]!≠0 then H1 u[r]! v[r]! else A77 u v (r+1) k:=by
   funext u v
   rw[A77]
   by_cases e:u[r]! = v[r]!
   ·rw[if_pos e,if_neg (by rw[H5.2 e];simp)]
   ·rw[if_neg e,if_pos (fun k=>e (H5.1 k))]
  rw[e]
  exact h
theorem Bh2:Ord3 A1i:=A1j ordI (A1j ordI ordI (fun s:Span=>s.lo) (fun s:Span=>s.hi)) (fun s:Span=>s.rep) (fun s=>s)
theorem ordC:Ord3 M5:=by
 refine⟨fun x=>?_,fun x=>?_,fun x=>?_,fun x=>?_⟩
 ·induction x with
  | nil=>intro y;cases y <;> simp [M5]
  | cons s a ih =>
   intro y
   cases y with
   | nil=>simp [M5]
   | cons t b =>
    rw[M5]
    split
    ·exact Bh2.rng _ _
    ·exact ih b
 ·induction x with
  | nil=>intro y;cases y <;> simp [M5]
  | cons s a ih =>
   intro y
   cases y with
   | nil=>simp [M5]
   | cons t b =>
    rw[M5,M5]
    have h1:=Bh2.neg s t
    have h2:=ih b
    split <;> split <;> omega
 ·induction x with
  | nil=>intro y z _ _;cases z <;> simp [M5]
  | cons s a ih =>
   intro y z h1 h2
   cases y with
   | nil=>simp [M5]at h1
   | cons t b =>
    cases z with
    | nil=>simp [M5]at h2
    | cons r d =>
     rw[M5]at h1 h2 ⊢
     by_cases e1:A1i s t=0
     ·rw[if_neg (by simpa using e1)]at h1
      by_cases e2:A1i t r=0
      ·rw[if_neg (by simpa using e2)]at h2
       rw[if_neg (by simpa using Bh2.tr0 _ _ _ e1 e2)]
       exact ih b d h1 h2
      ·rw[if_pos e2]at h2
       have:=Bh2.lt' (x:=s) (y:=t) (z:=r) (by omega) (by omega)
       rw[if_pos (by omega)]
       omega
     ·rw[if_pos e1]at h1
      have h2':A1i t r≤0:=by
       by_cases e2:A1i t r=0
       ·omega
       ·rw[if_pos e2]at h2;exact h2
      have:=Bh2.lt (x:=s) (y:=t) (z:=r) (by omega) h2'
      rw[if_pos (by omega)]
      omega
 ·induction x with
  | nil =>
   intro y z h1 h2
   cases y with
   | nil=>exact h2
   | cons t b=>simp [M5]at h1
  | cons s a ih =>
   intro y z h1 h2
   cases y with
   | nil=>simp [M5]at h1
   | cons t b =>
    cases z with
    | nil=>simp [M5]at h2
    | cons r d =>
     rw[M5]at h1 h2 ⊢
     have e1:A1i s t=0:=by
      apply Classical.byContradiction
      intro e
      rw[if_pos e]at h1
      exact e h1
     have e2:A1i t r=0:=by
      apply Classical.byContradiction
      intro e
      rw[if_pos e]at h2
      exact e h2
     rw[if_neg (by simpa using e1)]at h1
     rw[if_neg (by simpa using e2)]at h2
     rw[if_neg (by simpa using Bh2.tr0 _ _ _ e1 e2)]
     exact ih b d h1 h2
theorem ordQ:Ord3 Bh1:=A1j (ordF 16 0) ordC (fun p:Past=>p.vec) (fun p=>p.cloud)
theorem ordP:Ord3 A9h:=⟨fun _ _=>ordQ.rng _ _,fun _ _=>ordQ.neg _ _,fun _ _ _=>ordQ.tr _ _ _,fun _ _ _=>ordQ.tr0 _ _ _⟩
theorem A9i{u v:List Int}:∀ {k r:Nat},A77 u v r k=0→∀ j:Nat,r≤j→j < r+k→u[j]! = v[j]!
 | 0,r,_,j,h1,h2=>by omega
 | k+1,r,h,j,h1,h2=>by
  rw[A77]at h
  by_cases e:u[r]! = v[r]!
  ·rw[if_pos e]at h
   by_cases e2:j=r
   ·rw[e2];exact e
   ·exact A9i h j (by omega) (by omega)
  ·rw[if_neg e]at h
   exact absurd (H5.1 h) e
theorem B0d{s t:Span}(h:A1i s t=0):s=t:=by
 unfold A1i at h
 split at h
 ·rename_i e;exact absurd h e
 ·rename_i e1
  split at h
  ·rename_i e;exact absurd h e
  ·rename_i e2
   have a1:=H5.1 (Classical.not_not.1 e1)
   have a2:=H5.1 (Classical.not_not.1 e2)
   have a3:=H5.1 h
   cases s;cases t
   simp only at a1 a2 a3
   rw[a1,a2,a3]
theorem A9j:∀ {a b:List Span},M5 a b=0→a=b
 | [],[],_=>rfl
 | [],_ :: _,h=>by simp [M5]at h
 | _ :: _,[],h=>by simp [M5]at h
 | s :: a,t :: b,h=>by
  rw[M5]at h
  split at h
  ·rename_i e;exact absurd h e
  ·rename_i e
   rw[B0d (Classical.not_not.1 e),A9j h]
theorem Al7(T:Nat→List Run)(h:0 <(E8 T).vec.length):0 <(E8 T).vec[(E8 T).vec.length-1]!:=by
 have hl:=Af5 T
 have key:∀ n:Nat,0 < szT T n→0 < A07 T (szT T n-1).toNat:=by
  intro n
  induction n with
  | zero=>intro h;simp [szT]at h
  | succ n ih =>
   rw[szT]
   split
   ·rename_i k
    intro _
    rw[show((n:Int)+1-1).toNat=n by omega]
    exact k
   ·exact ih
 have e:(E8 T).vec.length-1=(szT T 16-1).toNat:=by omega
 rw[e,(B03 T (r:=(szT T 16-1).toNat) (by omega)).1]
 exact key 16 (by omega)
theorem B9d{S T:Nat→List Run}(h:∀ j:Nat,j < 16→(E8 S).vec[j]! =(E8 T).vec[j]!):(E8 S).vec=(E8 T).vec:=by
 have h1:=(O1 S).2
 have h2:=(O1 T).2
 have out:∀(l:List Int) (j:Nat),l.length≤j→l[j]! = 0:=fun l j hj=>by
  rw[getElem!_def,List.getElem?_eq_none hj];rfl
 have hl:(E8 S).vec.length=(E8 T).vec.length:=by
  rcases Nat.lt_trichotomy (E8 S).vec.length (E8 T).vec.length with k | k | k
  ·have:=Al7 T (by omega)
   rw[← h _ (by omega),out (E8 S).vec _ (by omega)]at this
   omega
  ·exact k
  ·have:=Al7 S (by omega)
   rw[h _ (by omega),out (E8 T).vec _ (by omega)]at this
   omega
 exact I5 hl fun j hj=>h j (by omega)
theorem B4q{S T:Nat→List Run}(h:Bh1 (E8 S) (E8 T)=0):E8 S=E8 T:=by
 unfold Bh1 at h
 split at h
 ·rename_i e;exact absurd h e
 ·rename_i e
  have h1:=A9i (Classical.not_not.1 e)
  have h2:=A9j h
  have h3:=B9d fun j hj=>h1 j (by omega) (by omega)
  generalize E8 S=x at *
  generalize E8 T=y at *
  cases x;cases y
  simp only at h2 h3
  rw[h2,h3]
theorem B0e{p q:Past}:A9h p q=0↔A3 p=A3 q:=by
 constructor
 ·exact fun h=>B4q h
 ·intro h
  unfold A9h
  rw[h]
  exact ordQ.self _
end Go.Proofs.YtphcaholhacnpaaGreat
namespace Go.Proofs.YtphcaholhacnpaaGreat
open Go.E
set_option maxRecDepth 100000
set_option maxHeartbeats 4000000
def orI(v:List Int):Int:=(v.find? fun x=>decide (¬ x=0)).getD 0
def B9e(v:List Int)(i:Int):Prop:=0≤i∧i≤v.length∧∀ j:Nat,(j:Int) < i→v[j]! = 0
def decOr(v:List Int)(i:Int):Nat:=(v.length-i).toNat
theorem or_at{v:List Int}:∀ {i:Nat},i < v.length→¬ v[i]! = 0→(∀ j:Nat,j < i→v[j]! = 0)→orI v=v[i]!:=by
 intro i hi h hn
 unfold orI
 have:v.find? (fun x=>decide (¬ x=0))=some v[i]!:=by
  rw[getElem!_pos v i hi]at h ⊢
  rw[List.find?_eq_some_iff_getElem]
  refine⟨by simpa using h,i,hi,rfl,fun j hj=>?_⟩
  have:=hn j hj
  rw[getElem!_pos v j (by omega)]at this
  simpa using this
 rw[this];rfl
theorem or_no{v:List Int}(h:∀ j:Nat,j < v.length→v[j]! = 0):orI v=0:=by
 unfold orI
 rw[List.find?_eq_none.2]
 ·rfl
 ·intro x hx
  obtain⟨j,hj,rfl⟩:=List.mem_iff_getElem.1 hx
  have:=h j hj
  rw[getElem!_pos v j hj]at this
  simpa using this
theorem B4r(s t:Span):orI [H1 s.rep t.rep,H1 s.lo t.lo,H1 s.hi t.hi]=A1i s t:=by
 unfold orI A1i
 by_cases h1:H1 s.rep t.rep=0
 ·by_cases h2:H1 s.lo t.lo=0
  ·by_cases h3:H1 s.hi t.hi=0 <;> simp [h1,h2,h3]
  ·simp [h1,h2]
 ·simp [h1]
def B4s(a b:List Span)(i:Int):Prop:=0≤i∧i≤a.length∧i≤b.length∧M5 a b=M5 (a.drop i.toNat) (b.drop i.toNat)
def decCf(a b:List Span)(i:Int):Nat:=(a.length-i).toNat
theorem At1{a:List Span}{i:Int}(h0:0≤i)(h:i < a.length):a.drop i.toNat=a[i.toNat]! :: a.drop (i+1).toNat:=by
 rw[show(i+1).toNat=i.toNat+1 by omega,getElem!_pos a i.toNat (by omega)]
 exact List.drop_eq_getElem_cons (by omega)
theorem B4t{a:List Span}{i:Int}(h:¬ i < a.length):a.drop i.toNat=[]:=List.drop_of_length_le (by omega)
theorem B0f{a b:List Span}{i:Int}(h0:0≤i)(ha:i < a.length)(hb:¬ i < b.length)(h:M5 a b=M5 (a.drop i.toNat) (b.drop i.toNat)):M5 a b=1:=by
 rw[h,At1 h0 ha,B4t hb];rfl
theorem B0g{a b:List Span}{i:Int}(h0:0≤i)(ha:¬ i < a.length)(hb:i < b.length)(h:M5 a b=M5 (a.drop i.toNat) (b.drop i.toNat)):M5 a b=-1:=by
 rw[h,At1 h0 hb,B4t ha];rfl
theorem B0h{a b:List Span}{i:Int}(ha:¬ i < a.length)(hb:¬ i < b.length)(h:M5 a b=M5 (a.drop i.toNat) (b.drop i.toNat)):M5 a b=0:=by
 rw[h,B4t hb,B4t ha];rfl
theorem B0i{a b:List Span}{i:Int}(h0:0≤i)(ha:i < a.length)(hb:i < b.length)(hd:¬ A1i a[i.toNat]! b[i.toNat]! = 0)(h:M5 a b=M5 (a.drop i.toNat) (b.drop i.toNat)):M5 a b=A1i a[i.toNat]! b[i.toNat]!:=by
 rw[h,At1 h0 ha,At1 h0 hb,M5,if_pos hd]
theorem B0j{a b:List Span}{i:Int}(h0:0≤i)(ha:i < a.length)(hb:i < b.length)(hd:A1i a[i.toNat]! b[i.toNat]! = 0)(h:M5 a b=M5 (a.drop i.toNat) (b.drop i.toNat)):B4s a b (i+1):=by
 refine⟨by omega,by omega,by omega,?_⟩
 rw[h,At1 h0 ha,At1 h0 hb,M5,if_neg (by simpa using hd)]
def Ac4(u v:List Int)(r:Int):Prop:=A77 u v 0 16=A77 u v r.toNat (16-r).toNat
def Af7(x y:Past)(r:Int)(u:List Int)(c:List Span)(v:List Int)(d:List Span):Prop:=u=x.vec∧c=x.cloud∧v=y.vec∧d=y.cloud∧0≤r∧r≤16∧Ac4 x.vec y.vec r
def decCq(r:Int)(u:List Int)(c:List Span)(v:List Int)(d:List Span):Nat:=(16-r).toNat
def invCp(u v:List Int)(r:Int):Prop:=0≤r∧r≤16∧Ac4 u v r
theorem M8{u:List Int}{r:Int}(h0:0≤r)(h:¬ r < u.length):u[r.toNat]! = 0:=by
 rw[getElem!_def,List.getElem?_eq_none (by omega)];rfl
theorem B0k{u v:List Int}{r:Int}(h0:0≤r)(h1:r < 16)(h:Ac4 u v r):A77 u v 0 16=if u[r.toNat]! = v[r.toNat]! then A77 u v (r+1).toNat (16-(r+1)).toNat else H1 u[r.toNat]! v[r.toNat]!:=by
 unfold Ac4 at h
 rw[h,show(16-r).toNat=(16-(r+1)).toNat+1 by omega,A77,show r.toNat+1=(r+1).toNat by omega]
theorem B0l{u v:List Int}{r:Int}(h0:0≤r)(h1:r < 16)(hd:¬ u[r.toNat]! = v[r.toNat]!)(h:Ac4 u v r):A77 u v 0 16=H1 u[r.toNat]! v[r.toNat]!:=by rw[B0k h0 h1 h,if_neg hd]
theorem B0m{u v:List Int}{r:Int}(h0:0≤r)(h1:r < 16)(hd:u[r.toNat]! = v[r.toNat]!)(h:Ac4 u v r):invCp u v (r+1):=by
 refine⟨by omega,by omega,?_⟩
 unfold Ac4
 rw[B0k h0 h1 h,if_pos hd]
theorem A9k{u v:List Int}{r:Int}(h1:r≤16)(hn:¬ r < 16)(h:Ac4 u v r):A77 u v 0 16=0:=by
 unfold Ac4 at h
 rw[h,show(16-r).toNat=0 by omega];rfl
theorem B75{p q:Past}{x:Int}(h:A77 (A3 p).vec (A3 q).vec 0 16=x)(hx:¬ x=0):A9h p q=x:=by
 unfold A9h Bh1
 rw[if_pos (by rw[h];exact hx),h]
theorem A78{p q:Past}(h:A77 (A3 p).vec (A3 q).vec 0 16=0):A9h p q=M5 (A3 p).cloud (A3 q).cloud:=by
 unfold A9h Bh1
 rw[if_neg (by rw[h];simp)]
theorem A0k{a b:Int}(h:¬ a=b):¬ H1 a b=0:=fun k=>h (H5.1 k)
theorem B76(x:Int):Con Tryz.prog 272 [.i .i64 x] (.b false) :=
 by
 refine sC A6 [.tmp 2] 6 Tryz.func272 ?_
 intro e0 cx
 refine sq<|rG cx [0] [] z0<|sn<|sq<|rG cx [2] [] (tT 2 (A17:AV.b (x != x)=AV.b false) z0)<|sn<|rT ?_
 exact A3h (r:=.b (false)) (obl:=[]) (by kernel_rfl) trivial (B5.refl _)
theorem A5w(a b:Int):Con Tryz.prog 231 [.i .i64 a,.i .i64 b] (.i .i64 (H1 a b)) :=
 by
 refine sC A6 [.tmp 4] 20 Tryz.func231 ?_
 intro e0 cx
 refine sq<|rG cx [0,1] [] z0<|sn<|sq<|rG cx [0,1,5] [] (fT (B76 (a)) (oA 1 (.b (false)) z0))<|sn<|sq<|rG cx [0,1,5,6] [] (fT (B76 (b)) (oA 1 (.b (false)) z0))<|sn<|sq<|sq<|rG cx [0,1,6,11] [] z0<|sn<|L5 (by kernel_rfl) (by kernel_rfl)<|sK<|sn<|sq<|sq<|rG cx [0,1,13] [] z0<|sn<|L5 (by kernel_rfl) (by kernel_rfl)<|sK<|sn<|sq<|rD cx [0,1,16] [] (zB 2 (a < b)) (fun h0=>?_) fun h0=>?_
 refine sq<|rG cx [4] [] z0<|sn<|rT<|nR<|qR (.i .i64 ((-1:Int))) (.eq (by unfold H1;rw[if_pos h0]))
 refine sK<|sn<|sq<|rD cx [19] [] (zB 2 (b < a)) (fun h1=>?_) fun h1=>?_
 refine sq<|rG cx [4] [] z0<|sn<|rT<|nR<|qR (.i .i64 ((1:Int))) (.eq (by unfold H1;rw[if_neg h0,if_pos h1]))
 refine sK<|sn<|sq<|rG cx [4] [] z0<|sn<|rT<|qR (.i .i64 ((0:Int))) (.eq (by unfold H1;rw[if_neg h0,if_neg h1]))
theorem con234(v:List Int):Con Tryz.prog 234 [.sl (v.map c3)] (.i .i64 (orI v)) :=
 by
 refine lN 0 c3 (v) Tryz.func234 fun hl_0=>sC A6 [.tmp 2] 18 Tryz.func234 ?_
 intro e0 cx
 refine sq<|rG cx [0] [] z0<|sn<|sq<|rG cx [0,3] [] z0<|sn<|sq<|sq<|rG cx [3,6,7,8] [] (tL 1 c3 v z0)<|sn<|bL 0<|sL (X:=Int) (fun x=>⟨[(3,.i .i64 ((0:Int))),(6,.sl (List.map c3 v)),(7,.i .i64 ((↑v.length:Int))),(8,.i .i64 (x))],[]⟩) (fun x ↦ decOr v x) (fun x ↦ B9e v x) [3,6,7,8] [] ((0:Int)) (show B9e v (0:Int)from(by exact⟨by omega,by omega,fun j hj=>by omega⟩)) ?_
 intro i0 h_1
 obtain⟨hh2,hh3,hh4⟩:0≤i0∧i0≤(↑v.length:Int)∧∀(j:Nat),(↑j:Int) < i0→v[j]! =(0:Int):=h_1
 refine rE cx [3,6,7,8,9] [] (zB 0 (i0 <(↑v.length:Int))) (fun h5=>?_) fun h5=>?_
 refine sK<|sn<|sq<|bL 1<|sq<|rG cx [3,6,7,8,5] [] (fA (0≤i0) (fG c3 v i0.toNat (fR 1 (oR 0 (c3 v[i0.toNat]!) z0))))<|sn<|sq<|rG cx [3,6,7,8,5,14] [] (tN 2 v[i0.toNat]! (0:Int) z0)<|sn<|dC (¬v[i0.toNat]! =(0:Int)) (fun h6=>?_) fun h6=>?_
 refine sq<|rG cx [2] [] z0<|sn<|rT<|bR<|nR<|nR<|bR<|nR<|qR (.i .i64 (v[i0.toNat]!)) (.eq ?g1);rotate_left
 refine sK<|bN<|sn<|rG cx [3,6,7,8] [] (tW 0 (i0+1) z0)<|sn<|nX (i0+1) (show((↑v.length:Int)-(i0+1)).toNat <((↑v.length:Int)-i0).toNat from(by omega)) (show B9e v (i0+1)from ?g2);rotate_left
 refine eX 0<|nE<|nE<|bH<|sn<|sq<|rG cx [2] [] z0<|sn<|rT<|qR (.i .i64 ((0:Int))) (.eq (by rw[or_no fun j hj=>hh4 j (by omega)]))
 case g1=>revert i0 hh2 hh3 hh4 h5 h6;intro i h0 h1 h2 h3 h4;rw[or_at (i:=i.toNat) (by omega) h4 (fun j hj=>h2 j (by omega))]
 case g2 =>
  exact⟨by omega,by omega,fun j hj=>by
   by_cases e:j=i0.toNat
   ·rw[e];exact Classical.not_not.1 h6
   ·exact hh4 j (by omega)⟩
theorem con233(s t:Span):Con Tryz.prog 233 [.agg (A9 s),.agg (A9 t)] (.i .i64 (A1i s t)) :=
 by
 refine sC A6 [.tmp 4] 22 Tryz.func233 ?_
 intro e0 cx
 refine sq<|rG cx [2,3] [2,3] z0<|sn<|sq<|rA cx [4] [] (fT (A5w (s.rep) (t.rep)) (fT (A5w (s.lo) (t.lo)) (fT (A5w (s.hi) (t.hi)) (fP (Flat (AV.i .i64 (orI [H1 s.rep t.rep,H1 s.lo t.lo,H1 s.hi t.hi]))) (by exact Flat.i _ _) (fT (con234 ([H1 s.rep t.rep,H1 s.lo t.lo,H1 s.hi t.hi])) (oA 4 (.i .i64 (H1 s.rep t.rep)) (oA 9 (.i .i64 (H1 s.lo t.lo)) (oA 14 (.i .i64 (H1 s.hi t.hi)) (oV 16 { val:=some (.i .i64 (orI [H1 s.rep t.rep,H1 s.lo t.lo,H1 s.hi t.hi])),flat:=true } z0)))))))))<|sn<|rT<|qR (.i .i64 (orI [H1 s.rep t.rep,H1 s.lo t.lo,H1 s.hi t.hi])) (.eq ?g0);rotate_left
 case g0=>rw[B4r]
theorem con232(a b:List Span):Con Tryz.prog 232 [.sl (a.map A9),.sl (b.map A9),.fn (.func 233) [] []] (.i .i64 (M5 a b)) :=
 by
 refine lN 0 A9 (a) Tryz.func232 fun hl_0=>lN 1 A9 (b) Tryz.func232 fun hl_1=>sC A6 [.tmp 6] 39 Tryz.func232 ?_
 intro e0 cx
 refine sq<|rG cx [0,1,2] [] z0<|sn<|sq<|sq<|rG cx [0,1,2,11,12,13] [] (tL 1 A9 a z0)<|sn<|bL 0<|sL (X:=Int) (fun x=>⟨[(0,.sl (List.map A9 a)),(1,.sl (List.map A9 b)),(2,.fn (Fn.func (233:FuncId)) [] []),(11,.sl (List.map A9 a)),(12,.i .i64 ((↑a.length:Int))),(13,.i .i64 (x))],[]⟩) (fun x ↦ decCf a b x) (fun x ↦ B4s a b x) [0,1,2,11,12,13] [] ((0:Int)) (show B4s a b (0:Int)from(by exact⟨by omega,by omega,by omega,rfl⟩)) ?_
 intro i0 h_1
 obtain⟨hh2,hh3,hh4,hh5⟩:0≤i0∧i0≤(↑a.length:Int)∧i0≤(↑b.length:Int)∧M5 a b=M5 (List.drop i0.toNat a) (List.drop i0.toNat b):=h_1
 refine rE cx [0,1,2,11,12,13,14] [] (zB 0 (i0 <(↑a.length:Int))) (fun hh6=>?_) fun hh6=>?_
 refine sK<|sn<|sq<|bL 1<|sq<|rG cx [0,1,2,11,12,13,8,7] [8] (fA (0≤i0) (fG A9 a i0.toNat (fR 3 (fN 3 3 (oR 1 (A9 a[i0.toNat]!) z0)))))<|sn<|sq<|rD cx [0,1,2,11,12,13,8,7,21] [8] (tL 2 A9 b (zB 3 ((↑b.length:Int)≤i0))) (fun h7=>?_) fun h7=>?_
 refine sq<|rG cx [6] [] z0<|sn<|rT<|nR<|bR<|nR<|nR<|bR<|nR<|qR (.i .i64 ((1:Int))) (.eq (by rw[B0f hh2 hh6 (by omega) hh5]))
 refine sK<|sn<|sq<|rG cx [0,1,2,11,12,13,8,9] [8,9] (fA (0≤i0) (fG A9 b i0.toNat (fR 3 (fN 3 3 (oR 2 (A9 b[i0.toNat]!) z0)))))<|sn<|sq<|rG cx [0,1,2,11,12,13,10] [] (fT (con233 (a[i0.toNat]!) (b[i0.toNat]!)) (oA 3 (.i .i64 (A1i a[i0.toNat]! b[i0.toNat]!)) z0))<|sn<|sq<|rG cx [0,1,2,11,12,13,10,31] [] (tN 1 (A1i a[i0.toNat]! b[i0.toNat]!) (0:Int) z0)<|sn<|dC (¬A1i a[i0.toNat]! b[i0.toNat]! =(0:Int)) (fun h8=>?_) fun h8=>?_
 refine sq<|rG cx [6] [] z0<|sn<|rT<|bR<|nR<|nR<|bR<|nR<|qR (.i .i64 (A1i a[i0.toNat]! b[i0.toNat]!)) (.eq (by rw[B0i hh2 hh6 (by omega) h8 hh5]))
 refine sK<|bN<|sn<|rG cx [0,1,2,11,12,13] [] (tW 0 (i0+1) z0)<|sn<|nX (i0+1) (show((↑a.length:Int)-(i0+1)).toNat <((↑a.length:Int)-i0).toNat from(by omega)) (show B4s a b (i0+1)from(by exact B0j hh2 hh6 (by omega) (Classical.not_not.1 h8) hh5))
 refine eX 0<|nE<|nE<|bH<|sn<|sq<|rD cx [38] [] (tL 1 A9 a (tL 3 A9 b (zB 4 ((↑a.length:Int) <(↑b.length:Int))))) (fun h9=>?_) fun h9=>?_
 refine sq<|rG cx [6] [] z0<|sn<|rT<|nR<|qR (.i .i64 ((-1:Int))) (.eq (by rw[B0g hh2 hh6 (by omega) hh5]))
 refine sK<|sn<|sq<|rG cx [6] [] z0<|sn<|rT<|qR (.i .i64 ((0:Int))) (.eq (by rw[B0h hh6 (by omega) hh5]))
theorem con195(p q:Past)(hb:p.cloud.length*16≤140737488350000)(hq:q.cloud.length*16≤140737488350000):Con Tryz.prog 195 [.agg (c26 p),.agg (c26 q)] (.i .i64 (A9h p q)) :=
 by
 have D:∀ {r:Int} {u v:List Int},u=(A3 p).vec→v=(A3 q).vec→0≤r→r < 16→∀ {a b:Int},u[r.toNat]! = a→v[r.toNat]! = b→¬ a=b→Ac4 (A3 p).vec (A3 q).vec r→H1 a b=A9h p q:=by
  intro r u v e1 e3 h0 h1 a b ha hb hn h
  rw[e1]at ha
  rw[e3]at hb
  have e:=B0l h0 h1 (by rw[ha,hb];exact hn) h
  rw[ha,hb]at e
  exact(B75 e (A0k hn)).symm
 have N:∀ {r:Int} {u v:List Int} {c d:List Span},u=(A3 p).vec→c=(A3 p).cloud→v=(A3 q).vec→d=(A3 q).cloud→0≤r→r < 16→∀ {a b:Int},u[r.toNat]! = a→v[r.toNat]! = b→¬ ¬ a=b→Ac4 (A3 p).vec (A3 q).vec r→Af7 (A3 p) (A3 q) (r+1) u c v d:=by
  intro r u v c d e1 e2 e3 e4 h0 h1 a b ha hb hn h
  have e:=B0m h0 h1 (by rw[← e1,← e3,ha,hb];exact Classical.not_not.1 hn) h
  exact⟨e1,e2,e3,e4,e.1,e.2.1,e.2.2⟩
 refine sC A6 [.tmp 4] 49 Tryz.func195 ?_
 intro e0 cx
 refine sq<|rG cx [2,3] [2,3] z0<|sn<|sq<|rA cx [5,6] [5,6] (fT (Al2 (p) (by(with_reducible assumption))) (fT (Al2 (q) (by(with_reducible assumption))) (oA 1 (.agg [.sl (List.map c3 (A3 p).vec),.sl (List.map A9 (A3 p).cloud)]) (oA 3 (.agg [.sl (List.map c3 (A3 q).vec),.sl (List.map A9 (A3 q).cloud)]) z0))))<|sn<|sq<|sq<|rG cx [5,6,14] [5,6] z0<|sn<|bL 0<|sL (X:=Int×List Int×List Span×List Int×List Span) (fun x=>⟨[(5,.ptr (5) (0) (0) (0)),(6,.ptr (6) (0) (0) (0)),(14,.i .i64 (x.1))],[(5,⟨0,26,.var [.sl (List.map c3 x.2.1),.sl (List.map A9 x.2.2.1)]⟩),(6,⟨0,26,.var [.sl (List.map c3 x.2.2.2.1),.sl (List.map A9 x.2.2.2.2)]⟩)]⟩) (fun x ↦ decCq x.1 x.2.1 x.2.2.1 x.2.2.2.1 x.2.2.2.2) (fun x ↦ Af7 (A3 p) (A3 q) x.1 x.2.1 x.2.2.1 x.2.2.2.1 x.2.2.2.2) [5,6,14] [5,6] (((0:Int),(A3 p).vec,(A3 p).cloud,(A3 q).vec,(A3 q).cloud)) (show Af7 (A3 p) (A3 q) (0:Int) (A3 p).vec (A3 p).cloud (A3 q).vec (A3 q).cloud from(by exact⟨Eq.refl _,Eq.refl _,Eq.refl _,Eq.refl _,by omega,by omega,Eq.refl _⟩)) ?_
 rintro⟨r0,u1,c2,v3,d4⟩ h_5
 obtain⟨h6,h7,h8,h9,h10,h11,h12⟩:u1=(A3 p).vec∧c2=(A3 p).cloud∧v3=(A3 q).vec∧d4=(A3 q).cloud∧0≤r0∧r0≤16∧Ac4 (A3 p).vec (A3 q).vec r0:=h_5
 refine rE cx [5,6,14,15] [5,6] (zB 0 (r0 <(16:Int))) (fun h13=>?_) fun h13=>?_
 refine sK<|sn<|sq<|bL 1<|sq<|rG cx [5,6,14,7] [5,6] z0<|sn<|sq<|rG cx [5,6,14,7,8,9] [5,6] z0<|sn<|sq<|rD cx [5,6,14,7,8,9,21] [5,6] (tL 3 c3 u1 (zB 4 (r0 <(↑u1.length:Int)))) (fun h14=>?_) fun h14=>?_
 refine rG cx [5,6,14,7,8,9] [5,6] (fA (0≤r0) (fG c3 u1 r0.toNat (fR 1 (oR 3 (c3 u1[r0.toNat]!) z0))))<|sn<|sq<|rD cx [5,6,14,7,8,9,31] [5,6] (tL 3 c3 v3 (zB 4 (r0 <(↑v3.length:Int)))) (fun h15=>?_) fun h15=>?_
 refine rG cx [5,6,14,8,9] [5,6] (fA (0≤r0) (fG c3 v3 r0.toNat (fR 1 (oR 3 (c3 v3[r0.toNat]!) z0))))<|sn<|sq<|rG cx [5,6,14,8,9,39] [5,6] (tN 2 u1[r0.toNat]! v3[r0.toNat]! z0)<|sn<|dC (¬u1[r0.toNat]! = v3[r0.toNat]!) (fun h16=>?_) fun h16=>?_
 refine sq<|rG cx [4] [] (fT (A5w (u1[r0.toNat]!) (v3[r0.toNat]!)) (oA 2 (.i .i64 (H1 u1[r0.toNat]! v3[r0.toNat]!)) z0))<|sn<|rT<|bR<|nR<|nR<|bR<|nR<|qR (.i .i64 (H1 u1[r0.toNat]! v3[r0.toNat]!)) (.eq (by exact congrArg (AV.i .i64) (D h6 h8 h10 h13 (Eq.refl _) (Eq.refl _) h16 h12)))
 refine sK<|bN<|sn<|rG cx [5,6,14] [5,6] (tW 0 (r0+1) z0)<|sn<|nX ((r0+1,u1,c2,v3,d4)) (show(16-(r0+1)).toNat <(16-r0).toNat from(by omega)) (show Af7 (A3 p) (A3 q) (r0+1) u1 c2 v3 d4 from(by exact N h6 h7 h8 h9 h10 h13 (Eq.refl _) (Eq.refl _) h16 h12))
 refine sK<|sn<|sq<|rG cx [5,6,14,8,9,39] [5,6] (tN 2 u1[r0.toNat]! (0:Int) z0)<|sn<|dC (¬u1[r0.toNat]! =(0:Int)) (fun h17=>?_) fun h17=>?_
 refine sq<|rG cx [4] [] (fT (A5w (u1[r0.toNat]!) ((0:Int))) (oA 2 (.i .i64 (H1 u1[r0.toNat]! (0:Int))) z0))<|sn<|rT<|bR<|nR<|nR<|bR<|nR<|qR (.i .i64 (H1 u1[r0.toNat]! (0:Int))) (.eq (by exact congrArg (AV.i .i64) (D h6 h8 h10 h13 (Eq.refl _) (M8 h10 h15) h17 h12)))
 refine sK<|bN<|sn<|rG cx [5,6,14] [5,6] (tW 0 (r0+1) z0)<|sn<|nX ((r0+1,u1,c2,v3,d4)) (show(16-(r0+1)).toNat <(16-r0).toNat from(by omega)) (show Af7 (A3 p) (A3 q) (r0+1) u1 c2 v3 d4 from(by exact N h6 h7 h8 h9 h10 h13 (Eq.refl _) (M8 h10 h15) h17 h12))
 refine sK<|sn<|sq<|rD cx [5,6,14,7,8,9,31] [5,6] (tL 3 c3 v3 (zB 4 (r0 <(↑v3.length:Int)))) (fun h18=>?_) fun h18=>?_
 refine rG cx [5,6,14,8,9] [5,6] (fA (0≤r0) (fG c3 v3 r0.toNat (fR 1 (oR 3 (c3 v3[r0.toNat]!) z0))))<|sn<|sq<|rG cx [5,6,14,8,9,39] [5,6] (tN 2 (0:Int) v3[r0.toNat]! z0)<|sn<|dC (¬0=v3[r0.toNat]!) (fun h19=>?_) fun h19=>?_
 refine sq<|rG cx [4] [] (fT (A5w ((0:Int)) (v3[r0.toNat]!)) (oA 2 (.i .i64 (H1 (0:Int) v3[r0.toNat]!)) z0))<|sn<|rT<|bR<|nR<|nR<|bR<|nR<|qR (.i .i64 (H1 (0:Int) v3[r0.toNat]!)) (.eq (by exact congrArg (AV.i .i64) (D h6 h8 h10 h13 (M8 h10 h14) (Eq.refl _) h19 h12)))
 refine sK<|bN<|sn<|rG cx [5,6,14] [5,6] (tW 0 (r0+1) z0)<|sn<|nX ((r0+1,u1,c2,v3,d4)) (show(16-(r0+1)).toNat <(16-r0).toNat from(by omega)) (show Af7 (A3 p) (A3 q) (r0+1) u1 c2 v3 d4 from(by exact N h6 h7 h8 h9 h10 h13 (M8 h10 h14) (Eq.refl _) h19 h12))
 refine sK<|sn<|sq<|rG cx [5,6,14,8,9,39] [5,6] z0<|sn<|L5 (by kernel_rfl) (by kernel_rfl)<|sK<|bN<|sn<|rG cx [5,6,14] [5,6] (tW 0 (r0+1) z0)<|sn<|nX ((r0+1,u1,c2,v3,d4)) (show(16-(r0+1)).toNat <(16-r0).toNat from(by omega)) (show Af7 (A3 p) (A3 q) (r0+1) u1 c2 v3 d4 from(by exact N h6 h7 h8 h9 h10 h13 (M8 h10 h14) (M8 h10 h18) (fun k=>k (Eq.refl _)) h12))
 refine eX 0<|nE<|nE<|bH<|sn<|sq<|rG cx [4] [] (fT (con232 (c2) (d4)) (oA 4 (.i .i64 (M5 c2 d4)) z0))<|sn<|rT<|qR (.i .i64 (M5 c2 d4)) (.eq (by rw[h7,h9,A78 (A9k h11 h13 h12)]))
end Go.Proofs.YtphcaholhacnpaaGreat
namespace Go.Proofs.YtphcaholhacnpaaGreat
open Go.E
set_option maxRecDepth 100000
set_option maxHeartbeats 4000000
theorem A0l(a b:UInt8)(x y:List UInt8):Go.Op.bytesLess (a :: x) (b :: y)=true↔a.toNat < b.toNat∨(a=b∧Go.Op.bytesLess x y=true):=by
 rw[Go.Op.bytesLess,Bool.or_eq_true,Bool.and_eq_true,decide_eq_true_eq,beq_iff_eq,UInt8.lt_iff_toNat_lt]
theorem B77:∀ l:List UInt8,¬ Go.Op.bytesLess l l=true
 | []=>by simp [Go.Op.bytesLess]
 | a :: l=>by
  rw[A0l]
  rintro(h | h)
  ·omega
  ·exact B77 l h.2
theorem Al8:∀ {x y z:List UInt8},Go.Op.bytesLess x y=true→Go.Op.bytesLess y z=true→Go.Op.bytesLess x z=true
 | _,[],_,h,_=>by cases ‹List UInt8› <;> simp [Go.Op.bytesLess]at h
 | _,_ :: _,[],_,h=>by simp [Go.Op.bytesLess]at h
 | [],_ :: _,c :: z,_,_=>by simp [Go.Op.bytesLess]
 | a :: x,b :: y,c :: z,h1,h2=>by
  rw[A0l]at *
  rcases h1 with h1 | ⟨rfl,h1⟩
  ·rcases h2 with h2 | ⟨rfl,h2⟩
   ·exact .inl (by omega)
   ·exact .inl h1
  ·rcases h2 with h2 | ⟨rfl,h2⟩
   ·exact .inl h2
   ·exact .inr ⟨rfl,Al8 h1 h2⟩
theorem Al9:∀ {x y:List UInt8},¬ Go.Op.bytesLess x y=true→¬ Go.Op.bytesLess y x=true→x=y
 | [],[],_,_=>rfl
 | [],b :: y,h,_=>by simp [Go.Op.bytesLess]at h
 | a :: x,[],_,h=>by simp [Go.Op.bytesLess]at h
 | a :: x,b :: y,h1,h2=>by
  rw[A0l]at *
  have e:a=b:=UInt8.toNat_inj.1 (by omega)
  subst e
  rw[Al9 (fun h=>h1 (.inr ⟨rfl,h⟩)) (fun h=>h2 (.inr ⟨rfl,h⟩))]
theorem A1z(x:ByteArray):¬ sLt x x=true:=B77 _
theorem A3y{x y z:ByteArray}(h1:sLt x y=true)(h2:sLt y z=true):sLt x z=true:=Al8 h1 h2
theorem A1k{x y:ByteArray}(h1:¬ sLt x y=true)(h2:¬ sLt y x=true):x=y:=by
 have e:=Al9 h1 h2
 rw[ByteArray.toList_eq,ByteArray.toList_eq]at e
 exact ByteArray.ext (Array.ext' e)
end Go.Proofs.YtphcaholhacnpaaGreat
namespace Go.Proofs.YtphcaholhacnpaaGreat
open Go.E
set_option maxRecDepth 100000
set_option maxHeartbeats 4000000
open Go Go.Lib Go.RowKit Go.Proofs
def X7(a b:ByteArray):Int:=compareBytes a.data.toList b.data.toList
theorem A9l:∀ x y:List UInt8,compareBytes x y=if Go.Op.bytesLess x y=true then -1 else if Go.Op.bytesLess y x=true then 1 else 0
 | [],[]=>rfl
 | [],b :: y=>by simp [compareBytes,Go.Op.bytesLess]
 | a :: x,[]=>by simp [compareBytes,Go.Op.bytesLess]
 | a :: x,b :: y=>by
  have ih:=A9l x y
  rw[compareBytes]
  by_cases h1:a < b
  ·rw[if_pos h1,if_pos ((A0l _ _ _ _).2 (.inl (UInt8.lt_iff_toNat_lt.1 h1)))]
  ·by_cases h2:b < a
   ·rw[if_neg h1,if_pos h2,if_neg,if_pos ((A0l _ _ _ _).2 (.inl (UInt8.lt_iff_toNat_lt.1 h2)))]
    rw[A0l]
    rintro(k | ⟨rfl,_⟩)
    ·exact h1 (UInt8.lt_iff_toNat_lt.2 k)
    ·rw[UInt8.lt_iff_toNat_lt]at h2;omega
   ·have e:a=b:=UInt8.toNat_inj.1 (by rw[UInt8.lt_iff_toNat_lt]at h1 h2;omega)
    subst e
    rw[if_neg h1,if_neg h1,ih]
    have c:∀ u v:List UInt8,Go.Op.bytesLess (a :: u) (a :: v)=Go.Op.bytesLess u v:=fun u v=>by
     rw[Bool.eq_iff_iff,A0l]
     constructor
     ·rintro(k | ⟨_,k⟩)
      ·omega
      ·exact k
     ·exact fun k=>.inr ⟨rfl,k⟩
    rw[c,c]
theorem J6(a b:ByteArray):X7 a b=if sLt a b=true then -1 else if sLt b a=true then 1 else 0:=by
 unfold X7 sLt
 rw[ByteArray.toList_eq,ByteArray.toList_eq]
 exact A9l _ _
set_option maxHeartbeats 4000000 in
theorem A79 (a b:ByteArray) (w:World):Calls Tryz.prog 230 #[.string a,.string b] w fun e w'=>e=.returned (.int .i64 (X7 a b))∧w'=w:=by
 go_enter Tryz.func230,Tryz.ntmps230
 go_wp2
 rw[run_callFunc_extern Tryz.func271 (by kernel_rfl) (by kernel_rfl) (by kernel_rfl) (e:=Extern.BytealgCompare.compare) (by kernel_rfl),Lib.run_compareString]
 simp only [Result.andThen]
 rw[Oper.upon_value]
 go_wp2
 go_ret
 exact⟨rfl,rfl⟩
theorem con230(a b:ByteArray):Con Tryz.prog 230 [.s a,.s b] (.i .i64 (X7 a b)):=by
 refine⟨⟨_,Tryz.func230,by kernel_rfl,by kernel_rfl⟩,fun w S0 vs hS hl hv=>?_⟩
 obtain⟨v,u,rfl⟩:∃ v u,vs=[v,u]:=by
  match vs,hl with
  | [v,u],_=>exact⟨v,u,rfl⟩
 have h1:=hv 0 _ v rfl rfl
 have h2:=hv 1 _ u rfl rfl
 cases h1
 cases h2
 refine(A79 a b w).mono ?_
 rintro e w' ⟨rfl,rfl⟩
 exact⟨_,rfl,.i _ _,Below.refl _ _⟩
theorem con194(a b:ByteArray):Con Tryz.prog 194 [.s a,.s b] (.i .i64 (X7 a b)) :=
 by
 refine sC A6 [.tmp 4] 8 Tryz.func194 ?_
 intro e0 cx
 refine sq<|rG cx [0,1] [] z0<|sn<|sq<|rG cx [4] [] (fT (con230 (a) (b)) (oA 2 (.i .i64 (X7 a b)) z0))<|sn<|rT ?_
 exact A3h (r:=.i .i64 (X7 a b)) (obl:=[]) (by kernel_rfl) trivial (B5.refl _)
end Go.Proofs.YtphcaholhacnpaaGreat
namespace Go.Proofs.YtphcaholhacnpaaGreat
open Go.E
set_option maxRecDepth 100000
set_option maxHeartbeats 4000000
def G5:List Run→Int
 | []=>0
 | r :: l=>r.hi-r.lo+1+G5 l
theorem B0n(a b:List Run):G5 (a++b)=G5 a+G5 b:=by
 induction a with
 | nil=>simp [G5]
 | cons e a ih=>simp only [List.cons_append,G5,ih];omega
end Go.Proofs.YtphcaholhacnpaaGreat
namespace Go.Proofs.YtphcaholhacnpaaGreat
open Go.E
set_option maxRecDepth 100000
set_option maxHeartbeats 4000000
def sizeT(T:Nat→List Run):Nat→Int
 | 0=>0
 | n+1=>sizeT T n+G5 (nrm (T n))
theorem B0o(p:Past):∃ n:Int,n=sizeT (A8 [p]) 16:=⟨_,rfl⟩
noncomputable def B8(p:Past):Int:=Classical.choose (B0o p)
theorem A7a(p:Past):B8 p=sizeT (A8 [p]) 16:=Classical.choose_spec (B0o p)
theorem A3z:∀ {l:List Run},M0 l→0≤G5 l∧(G5 l=0→l=[])
 | [],_=>⟨Int.le_refl _,fun _=>rfl⟩
 | r :: l,h=>by
  have hr:=h.2 r (by simp)
  have ih:=(A3z (G6 h)).1
  rw[G5]
  exact⟨by omega,fun k=>by omega⟩
theorem Am0:∀ {l:List Run},M0 l→∀ m:Int,(∀ r∈l,m≤r.lo)→G5 l≤1000000001-m∨l=[]
 | [],_,m,_=>.inr rfl
 | r :: l,h,m,hm=>by
  have hr:=h.2 r (by simp)
  have h1:=hm r (by simp)
  have pa:=(List.pairwise_cons.1 h.1).1
  rw[G5]
  rcases Am0 (G6 h) (r.hi+1) (fun x hx=>by have:=pa x hx;omega)with k | k
  ·left;omega
  ·subst k
   left
   rw[G5]
   omega
theorem A1l{l:List Run}(h:M0 l):0≤G5 l∧G5 l≤1000000000:=by
 refine⟨(A3z h).1,?_⟩
 rcases Am0 h 1 (fun r hr=>(h.2 r hr).1)with k | k
 ·omega
 ·subst k;simp [G5]
theorem A1m(T:Nat→List Run):∀ n:Nat,0≤sizeT T n∧sizeT T n≤n*1000000000
 | 0=>by simp [sizeT]
 | n+1=>by
  have:=A1m T n
  have:=A1l (E1 (T n))
  rw[sizeT]
  omega
theorem A5x(T:Nat→List Run):∀ n:Nat,sizeT T n=0↔∀ r:Nat,r < n→nrm (T r)=[]
 | 0=>by simp [sizeT]
 | n+1=>by
  have h1:=A1m T n
  have h2:=A3z (E1 (T n))
  have ih:=A5x T n
  rw[sizeT]
  constructor
  ·intro k r hr
   by_cases e:r=n
   ·rw[e];exact h2.2 (by omega)
   ·exact ih.1 (by omega) r (by omega)
  ·intro k
   rw[ih.2 fun r hr=>k r (by omega),k n (by omega)]
   rfl
theorem A40{a:List Run}:nrm a=[]↔∀ n,¬ inR (nrm a) n:=by
 constructor
 ·intro h n k
  rw[h]at k
  obtain⟨r,hr,_⟩:=k
  cases hr
 ·intro h
  cases e:nrm a with
  | nil=>rfl
  | cons r l =>
   have hs:=E1 a
   rw[e]at hs h
   have:=hs.2 r (by simp)
   exact absurd ⟨r,by simp,Int.le_refl _,this.2.1⟩ (h r.lo)
theorem S7(p:Past):B8 p=0↔∀ d,C7 p d=false:=by
 rw[A7a,A5x]
 constructor
 ·intro h d
  rw[← V2,← Bool.not_eq_true]
  intro k
  unfold A3 at k
  rw[P5]at k
  have hb:=G2 k.1
  have:=A40.1 (h d.rep.toNat (by omega)) d.num
  rw[Q6]at this
  exact this ⟨by omega,by omega,k.2⟩
 ·intro h r hr
  refine A40.2 fun n k=>?_
  rw[Q6]at k
  have hd:I0 ⟨r,n⟩=true:=by unfold I0;rw[decide_eq_true_eq];simp only;omega
  have h1:=h ⟨r,n⟩
  rw[← V2,← Bool.not_eq_true]at h1
  refine h1 ?_
  unfold A3
  rw[P5]
  exact⟨hd,k.2.2⟩
theorem B4u(d:Dot):C7 ⟨[],[]⟩ d=false:=by
 unfold C7
 cases h:I0 d with
 | false=>rfl
 | true =>
  have hb:=G2 h
  simp
  omega
theorem A9m:A3 ⟨[],[]⟩=⟨[],[]⟩:=by
 have h1:∀ r:Nat,r < 16→A8 [⟨[],[]⟩] r=[]:=fun r hr=>by simp [A8,Ak9,N3]
 have h2:nrm []=[]:=by
  refine A40.2 fun n k=>?_
  rw[Q6]at k
  obtain⟨r,hr,_⟩:=k.2.2
  cases hr
 unfold A3
 rw[O4 (U:=fun _=>[]) fun r hr=>h1 r hr]
 have l0:∀ r,A07 (fun _=>[]) r=0:=fun r=>by unfold A07;rw[h2];rfl
 have s0:∀ n,szT (fun _=>[]) n=0:=fun n=>by
  induction n with
  | zero=>rfl
  | succ n ih=>rw[szT,if_neg (by rw[l0];omega),ih]
 have c0:∀ n,H4 (fun _=>[]) n=[]:=fun n=>by
  induction n with
  | zero=>rfl
  | succ n ih=>rw[H4,ih];unfold V0;rw[h2];rfl
 unfold E8
 rw[s0,c0]
 rfl
end Go.Proofs.YtphcaholhacnpaaGreat
namespace Go.Proofs.YtphcaholhacnpaaGreat
open Go.E
set_option maxRecDepth 100000
set_option maxHeartbeats 4000000
def P6(c:Int):Bool:=decide (65≤c∧c≤90)
def R4(c:Int):Bool:=decide (48≤c∧c≤57)
def G0(c:Int):Bool:=decide (c=45∨c=46)
def H6(s:ByteArray)(i:Nat):Bool:=P6 (byt s i) || R4 (byt s i) || (G0 (byt s i) && decide (i≠0∧i+1≠s.size) && !G0 (byt s (i-1)))
def Af8(p:Nat→Bool):Nat→Bool
 | 0=>true
 | n+1=>Af8 p n && p n
theorem I6(p:Nat→Bool):∀ n,Af8 p n=true↔∀ i,i < n→p i=true
 | 0=>by simp [Af8]
 | n+1=>by
  rw[Af8,Bool.and_eq_true,I6 p n]
  constructor
  ·rintro⟨h1,h2⟩ i hi
   by_cases e:i=n
   ·rw[e];exact h2
   ·exact h1 i (by omega)
  ·intro h;exact⟨fun i hi=>h i (by omega),h n (by omega)⟩
def A41(s:ByteArray):Int:=if s.size=0 then 20 else if 24 < s.size then 21 else if Af8 (H6 s) s.size=true then 0 else 22
def I2(s:ByteArray):Bool:=decide (A41 s=0)
def B78(s:ByteArray)(i:Int):Prop:=0≤i∧i≤s.size∧∀ j:Nat,(j:Int) < i→H6 s j=true
def decG(s:ByteArray)(i:Int):Nat:=(s.size-i).toNat
theorem Am1{s:ByteArray}(h0:¬ s.size=0)(h1:¬ 24 < s.size){i:Nat}(hi:i < s.size)(h:H6 s i=false):A41 s=22:=by
 unfold A41
 rw[if_neg h0,if_neg h1,if_neg]
 intro k
 have:=(I6 _ _).1 k i hi
 rw[h]at this;cases this
theorem B0p{s:ByteArray}(h0:¬ s.size=0)(h1:¬ 24 < s.size)(h:∀ j:Nat,j < s.size→H6 s j=true):A41 s=0:=by
 unfold A41
 rw[if_neg h0,if_neg h1,if_pos ((I6 _ _).2 h)]
theorem A1n(s:ByteArray):s.size=0↔s=⟨#[]⟩:=by
 constructor
 ·intro h;exact ByteArray.ext (Array.eq_empty_of_size_eq_zero h)
 ·rintro rfl;rfl
theorem J7(s:ByteArray)(i:Nat):H6 s i=true↔P6 (byt s i)=true∨R4 (byt s i)=true∨(G0 (byt s i)=true∧i≠0∧i+1≠s.size∧¬ G0 (byt s (i-1))=true):=by
 unfold H6
 cases P6 (byt s i) <;> cases R4 (byt s i) <;> cases G0 (byt s i) <;> cases G0 (byt s (i-1)) <;> simp
theorem A42{s:ByteArray}{i:Int}(h0:0≤i)(h1:i < s.size)(h2:∀ j:Nat,(j:Int) < i→H6 s j=true)(h:H6 s i.toNat=true):B78 s (i+1) :=
 ⟨by omega,by omega,fun j hj=>by
  by_cases e:j=i.toNat
  ·rw[e];exact h
  ·exact h2 j (by omega)⟩
theorem S8{s:ByteArray}{i:Nat}(h:¬ H6 s i=true):H6 s i=false:=by simpa using h
theorem B79(c:Int):Con Tryz.prog 213 [.i .u8 c] (.b (P6 c)) :=
 by
 refine sC A6 [.tmp 2] 9 Tryz.func213 ?_
 intro e0 cx
 refine sq<|rG cx [0] [] z0<|sn<|sq<|B1 (σ':=⟨[(2,.b (decide (65≤c∧c≤90)))],[]⟩) ?_ ?_
 refine A5 (65≤c) (fun h_1=>?_) (fun h_1=>?_)
 refine rG cx [2] [] (tT 1 (A4 h_1) (tB 4 (c≤90) (tD 6 (decide (c≤90)) (65≤c∧c≤90) (by simp only [eq_true h_1,tsl]) z0))) ?_
 exact⟨rfl,by kernel_rfl⟩
 refine rG cx [2] [] (tT 1 (A0 h_1) (tD 6 false (65≤c∧c≤90) (by simp only [eq_false h_1,tsl]) z0)) ?_
 exact⟨rfl,by kernel_rfl⟩
 refine sn<|rT<|qR (.b (decide (65≤c∧c≤90))) (.eq ?g0);rotate_left
 case g0=>exact rfl
theorem con214(c:Int):Con Tryz.prog 214 [.i .u8 c] (.b (R4 c)) :=
 by
 refine sC A6 [.tmp 2] 9 Tryz.func214 ?_
 intro e0 cx
 refine sq<|rG cx [0] [] z0<|sn<|sq<|B1 (σ':=⟨[(2,.b (decide (48≤c∧c≤57)))],[]⟩) ?_ ?_
 refine A5 (48≤c) (fun h_1=>?_) (fun h_1=>?_)
 refine rG cx [2] [] (tT 1 (A4 h_1) (tB 4 (c≤57) (tD 6 (decide (c≤57)) (48≤c∧c≤57) (by simp only [eq_true h_1,tsl]) z0))) ?_
 exact⟨rfl,by kernel_rfl⟩
 refine rG cx [2] [] (tT 1 (A0 h_1) (tD 6 false (48≤c∧c≤57) (by simp only [eq_false h_1,tsl]) z0)) ?_
 exact⟨rfl,by kernel_rfl⟩
 refine sn<|rT<|qR (.b (decide (48≤c∧c≤57))) (.eq ?g0);rotate_left
 case g0=>exact rfl
theorem A9n(c:Int):Con Tryz.prog 215 [.i .u8 c] (.b (G0 c)) :=
 by
 refine sC A6 [.tmp 2] 9 Tryz.func215 ?_
 intro e0 cx
 refine sq<|rG cx [0] [] z0<|sn<|sq<|B1 (σ':=⟨[(2,.b (decide (c=45∨c=46)))],[]⟩) ?_ ?_
 refine A5 (c=45) (fun h_1=>?_) (fun h_1=>?_)
 refine rG cx [2] [] (tT 1 (A4 h_1) (tD 6 true (c=45∨c=46) (by simp only [eq_true h_1,tsl]) z0)) ?_
 exact⟨rfl,by kernel_rfl⟩
 refine rG cx [2] [] (tT 1 (A0 h_1) (tB 4 (c=46) (tD 6 (decide (c=46)) (c=45∨c=46) (by simp only [eq_false h_1,tsl]) z0))) ?_
 exact⟨rfl,by kernel_rfl⟩
 refine sn<|rT<|qR (.b (decide (c=45∨c=46))) (.eq ?g0);rotate_left
 case g0=>exact rfl
theorem B7a(c:Int):Con Tryz.prog 241 [.i .u8 c] (.b (P6 c)) :=
 by
 refine sC A6 [.tmp 2] 9 Tryz.func241 ?_
 intro e0 cx
 refine sq<|rG cx [0] [] z0<|sn<|sq<|B1 (σ':=⟨[(2,.b (decide (65≤c∧c≤90)))],[]⟩) ?_ ?_
 refine A5 (65≤c) (fun h_1=>?_) (fun h_1=>?_)
 refine rG cx [2] [] (tT 1 (A4 h_1) (tB 4 (c≤90) (tD 6 (decide (c≤90)) (65≤c∧c≤90) (by simp only [eq_true h_1,tsl]) z0))) ?_
 exact⟨rfl,by kernel_rfl⟩
 refine rG cx [2] [] (tT 1 (A0 h_1) (tD 6 false (65≤c∧c≤90) (by simp only [eq_false h_1,tsl]) z0)) ?_
 exact⟨rfl,by kernel_rfl⟩
 refine sn<|rT<|qR (.b (decide (65≤c∧c≤90))) (.eq ?g0);rotate_left
 case g0=>exact rfl
theorem con242(c:Int):Con Tryz.prog 242 [.i .u8 c] (.b (R4 c)) :=
 by
 refine sC A6 [.tmp 2] 9 Tryz.func242 ?_
 intro e0 cx
 refine sq<|rG cx [0] [] z0<|sn<|sq<|B1 (σ':=⟨[(2,.b (decide (48≤c∧c≤57)))],[]⟩) ?_ ?_
 refine A5 (48≤c) (fun h_1=>?_) (fun h_1=>?_)
 refine rG cx [2] [] (tT 1 (A4 h_1) (tB 4 (c≤57) (tD 6 (decide (c≤57)) (48≤c∧c≤57) (by simp only [eq_true h_1,tsl]) z0))) ?_
 exact⟨rfl,by kernel_rfl⟩
 refine rG cx [2] [] (tT 1 (A0 h_1) (tD 6 false (48≤c∧c≤57) (by simp only [eq_false h_1,tsl]) z0)) ?_
 exact⟨rfl,by kernel_rfl⟩
 refine sn<|rT<|qR (.b (decide (48≤c∧c≤57))) (.eq ?g0);rotate_left
 case g0=>exact rfl
theorem B7b(c:Int):Con Tryz.prog 243 [.i .u8 c] (.b (G0 c)) :=
 by
 refine sC A6 [.tmp 2] 9 Tryz.func243 ?_
 intro e0 cx
 refine sq<|rG cx [0] [] z0<|sn<|sq<|B1 (σ':=⟨[(2,.b (decide (c=45∨c=46)))],[]⟩) ?_ ?_
 refine A5 (c=45) (fun h_1=>?_) (fun h_1=>?_)
 refine rG cx [2] [] (tT 1 (A4 h_1) (tD 6 true (c=45∨c=46) (by simp only [eq_true h_1,tsl]) z0)) ?_
 exact⟨rfl,by kernel_rfl⟩
 refine rG cx [2] [] (tT 1 (A0 h_1) (tB 4 (c=46) (tD 6 (decide (c=46)) (c=45∨c=46) (by simp only [eq_false h_1,tsl]) z0))) ?_
 exact⟨rfl,by kernel_rfl⟩
 refine sn<|rT<|qR (.b (decide (c=45∨c=46))) (.eq ?g0);rotate_left
 case g0=>exact rfl
theorem con217(s:ByteArray)(i:Int)(h0:0≤i)(h1:i < s.size)(h2:s.size≤24):Con Tryz.prog 217 [.s s,.i .i64 i] (.b (H6 s i.toNat)) :=
 by
 refine sC A6 [.tmp 4] 33 Tryz.func217 ?_
 intro e0 cx
 refine sq<|rG cx [0,1] [] z0<|sn<|sq ?_
 have hl_0:=(U6 s)
 have hl_1:=(U6 s i.toNat)
 refine rG cx [0,1,5] [] (fA (0≤i) (fP (Option.map (fun b ↦ (↑b.toNat:Int)) s[i.toNat]?=some (byt s i.toNat)) (by(with_reducible refine A6t ?_;omega)) (oA 2 (.i .u8 (byt s i.toNat)) z0))) ?_
 refine sn<|sq<|sq<|B1 (σ':=⟨[(0,.s (s)),(1,.i .i64 (i)),(5,.i .u8 (byt s i.toNat)),(14,.b (decide (P6 (byt s i.toNat)=true∨R4 (byt s i.toNat)=true)))],[]⟩) ?_ ?_
 refine A5 (P6 (byt s i.toNat)=true) (fun h_3=>?_) (fun h_3=>?_)
 refine rg (A:=_∧_∧(AV.b true=AV.b (decide (P6 (byt s i.toNat)=true∨R4 (byt s i.toNat)=true)))) cx [(1,{ val:=some (.b (P6 (byt s i.toNat))),tell:=some (.b (true)) }),(5,{ tell:=some (.b (decide (P6 (byt s i.toNat)=true∨R4 (byt s i.toNat)=true))) })] [0,1,5,14] [] ⟨(A15 h_3),(B7a (byt s i.toNat)),(by simp only [eq_true h_3,tsl])⟩ ?_
 exact⟨rfl,by kernel_rfl⟩
 refine rg (A:=_∧_∧_∧(AV.b (R4 (byt s i.toNat))=AV.b (decide (P6 (byt s i.toNat)=true∨R4 (byt s i.toNat)=true)))) cx [(1,{ val:=some (.b (P6 (byt s i.toNat))),tell:=some (.b (false)) }),(4,{ val:=some (.b (R4 (byt s i.toNat))) }),(5,{ tell:=some (.b (decide (P6 (byt s i.toNat)=true∨R4 (byt s i.toNat)=true))) })] [0,1,5,14] [] ⟨(L4 h_3),(B7a (byt s i.toNat)),(con242 (byt s i.toNat)),(by simp only [eq_false h_3,tsl])⟩ ?_
 exact⟨rfl,by kernel_rfl⟩
 refine sn<|dC (P6 (byt s i.toNat)=true∨R4 (byt s i.toNat)=true) (fun h4=>?_) fun h4=>?_
 refine sq<|rG cx [4] [] z0<|sn<|rT<|nR<|qR (.b (true)) (.eq ?g0);rotate_left
 refine sK<|sn<|sq<|sq<|rG cx [0,1,17] [] (fT (B7b (byt s i.toNat)) (tT 2 (C3:(AV.b !G0 (byt s i.toNat))=AV.b (decide ¬G0 (byt s i.toNat)=true)) (oA 1 (.b (G0 (byt s i.toNat))) z0)))<|sn<|dC (¬G0 (byt s i.toNat)=true) (fun h5=>?_) fun h5=>?_
 refine sq<|rG cx [4] [] z0<|sn<|rT<|nR<|qR (.b (false)) (.eq ?g1);rotate_left
 refine sK<|sn<|sq<|sq<|B1 (σ':=⟨[(0,.s (s)),(1,.i .i64 (i)),(26,.b (decide (i=0∨i=(↑s.size:Int)-1)))],[]⟩) ?_ ?_
 refine A5 (i=0) (fun h_7=>?_) (fun h_7=>?_)
 refine rG cx [0,1,26] [] (tT 1 (A4 h_7) (tD 8 true (i=0∨i=(↑s.size:Int)-1) (by simp only [eq_true h_7,tsl]) z0)) ?_
 exact⟨rfl,by kernel_rfl⟩
 refine rG cx [0,1,26] [] (tT 1 (A0 h_7) (tW 6 ((↑s.size:Int)-1) (tB 7 (i=(↑s.size:Int)-1) (tD 8 (decide (i=(↑s.size:Int)-1)) (i=0∨i=(↑s.size:Int)-1) (by simp only [eq_false h_7,tsl]) z0)))) ?_
 exact⟨rfl,by kernel_rfl⟩
 refine sn<|dC (i=0∨i=(↑s.size:Int)-1) (fun h8=>?_) fun h8=>?_
 refine sq<|rG cx [4] [] z0<|sn<|rT<|nR<|qR (.b (false)) (.eq ?g2);rotate_left
 refine sK<|sn<|sq ?_
 have hl_9:=(U6 s (i-1).toNat)
 refine rG cx [4] [] (tW 2 (i-1) (fO (0≤i-1) (fP (Option.map (fun b ↦ (↑b.toNat:Int)) s[(i-1).toNat]?=some (byt s (i-1).toNat)) (by(with_reducible refine A6t ?_;omega)) (fT (B7b (byt s (i-1).toNat)) (tT 5 (C3:(AV.b !G0 (byt s (i-1).toNat))=AV.b (decide ¬G0 (byt s (i-1).toNat)=true)) (oA 3 (.i .u8 (byt s (i-1).toNat)) (oA 4 (.b (G0 (byt s (i-1).toNat))) z0))))))) ?_
 refine sn<|rT<|qR (.b (decide ¬G0 (byt s (i-1).toNat)=true)) (.eq ?g3);rotate_left
 revert h4;rotate_left
 revert h4 h5;rotate_left
 revert h4 h5 h8;rotate_left
 revert h4 h5 h8;rotate_left
 case' g3=>refine(fun h k l=>?_)
 case' g2=>refine(fun h k l=>?_)
 case' g1=>refine(fun h k=>?_)
 case' g0=>refine(fun h=>?_)
 ·rw[(J7 s i.toNat).2 (h.elim .inl fun h=>.inr (.inl h))]
 ·rw[S8];rw[J7];rintro(a | a | a)
  ·exact h (.inl a)
  ·exact h (.inr a)
  ·exact k a.1
 ·rw[S8];rw[J7];rintro(a | a | a)
  ·exact h (.inl a)
  ·exact h (.inr a)
  ·omega
 ·have e:(i-1).toNat=i.toNat-1:=by omega
  rw[e]
  by_cases m:G0 (byt s (i.toNat-1))=true
  ·rw[S8]
   ·rw[m];rfl
   ·rw[J7];rintro(a | a | a)
    ·exact h (.inl a)
    ·exact h (.inr a)
    ·exact a.2.2.2 m
  ·rw[(J7 s i.toNat).2 (.inr (.inr ⟨Classical.not_not.1 k,by omega,by omega,m⟩)),decide_eq_true m]
theorem B7c(s:ByteArray):Con Tryz.prog 171 [.s s] (.tup [.dead,.i .i64 (A41 s)]) :=
 by
 refine sC A6 [.tmp 2,.tmp 3] 48 Tryz.func171 ?_
 intro e0 cx
 refine sq<|rG cx [0] [] z0<|sn<|sq<|sq<|rG cx [0,7] [] (tT 1 (Z1:AV.b (s.toList == { data:=#[]:ByteArray }.toList)=AV.b (decide (s={ data:=#[]:ByteArray }))) z0)<|sn<|dC (s={ data:=#[]:ByteArray }) (fun hh0=>?_) fun hh0=>?_
 refine sq<|rG cx [2,3] [] z0<|sn<|rT<|nR<|qR (.tup [.i .i64 ((0:Int)),.i .i64 ((20:Int))]) (B5.tup (ZLe.cons B5.dead (ZLe.cons (B5.eq (show AV.i .i64 20=AV.i .i64 (A41 s)from ?g0)) ZLe.nil)));rotate_left
 refine sK<|sn<|sq<|rD cx [0,10] [] (zB 2 ((24:Int) <(↑s.size:Int))) (fun hh1=>?_) fun hh1=>?_
 refine sq<|rG cx [2,3] [] z0<|sn<|rT<|nR<|qR (.tup [.i .i64 ((0:Int)),.i .i64 ((21:Int))]) (B5.tup (ZLe.cons B5.dead (ZLe.cons (B5.eq (show AV.i .i64 21=AV.i .i64 (A41 s)from ?g1)) ZLe.nil)));rotate_left
 refine sK<|sn<|sq<|sq<|rG cx [0,12,13] [] z0<|sn<|bL 0<|sL (X:=Int) (fun x=>⟨[(0,.s (s)),(12,.i .i64 ((↑s.size:Int))),(13,.i .i64 (x))],[]⟩) (fun x ↦ decG s x) (fun x ↦ B78 s x) [0,12,13] [] ((0:Int)) (show B78 s (0:Int)from ?g2) ?_;rotate_left
 intro i2 h_3
 obtain⟨hh4,hh5,h6⟩:0≤i2∧i2≤(↑s.size:Int)∧∀(j:Nat),(↑j:Int) < i2→H6 s j=true:=h_3
 refine rE cx [0,12,13,14] [] (zB 0 (i2 <(↑s.size:Int))) (fun h7=>?_) fun h7=>?_
 refine sK<|sn<|sq<|bL 1<|sq<|rG cx [0,12,13,4] [] z0<|sn<|sq ?_
 have hl_8:=(U6 s)
 have hl_9:=(U6 s i2.toNat)
 refine rG cx [0,12,13,4,5] [] (fA (0≤i2) (fP (Option.map (fun b ↦ (↑b.toNat:Int)) s[i2.toNat]?=some (byt s i2.toNat)) (by(with_reducible refine A6t ?_;omega)) (oA 2 (.i .u8 (byt s i2.toNat)) z0))) ?_
 refine sn<|sq<|sq<|B1 (σ':=⟨[(0,.s (s)),(12,.i .i64 ((↑s.size:Int))),(13,.i .i64 (i2)),(4,.i .i64 (i2)),(5,.i .u8 (byt s i2.toNat)),(24,.b (decide (P6 (byt s i2.toNat)=true∨R4 (byt s i2.toNat)=true)))],[]⟩) ?_ ?_
 refine A5 (P6 (byt s i2.toNat)=true) (fun h_11=>?_) (fun h_11=>?_)
 refine rg (A:=_∧_∧(AV.b true=AV.b (decide (P6 (byt s i2.toNat)=true∨R4 (byt s i2.toNat)=true)))) cx [(1,{ val:=some (.b (P6 (byt s i2.toNat))),tell:=some (.b (true)) }),(5,{ tell:=some (.b (decide (P6 (byt s i2.toNat)=true∨R4 (byt s i2.toNat)=true))) })] [0,12,13,4,5,24] [] ⟨(A15 h_11),(B79 (byt s i2.toNat)),(by simp only [eq_true h_11,tsl])⟩ ?_
 exact⟨rfl,by kernel_rfl⟩
 refine rg (A:=_∧_∧_∧(AV.b (R4 (byt s i2.toNat))=AV.b (decide (P6 (byt s i2.toNat)=true∨R4 (byt s i2.toNat)=true)))) cx [(1,{ val:=some (.b (P6 (byt s i2.toNat))),tell:=some (.b (false)) }),(4,{ val:=some (.b (R4 (byt s i2.toNat))) }),(5,{ tell:=some (.b (decide (P6 (byt s i2.toNat)=true∨R4 (byt s i2.toNat)=true))) })] [0,12,13,4,5,24] [] ⟨(L4 h_11),(B79 (byt s i2.toNat)),(con214 (byt s i2.toNat)),(by simp only [eq_false h_11,tsl])⟩ ?_
 exact⟨rfl,by kernel_rfl⟩
 refine sn<|dC (P6 (byt s i2.toNat)=true∨R4 (byt s i2.toNat)=true) (fun h_12=>?_) fun h_12=>?_
 refine eX 1<|nE<|bH<|sn<|rG cx [0,12,13] [] (tW 0 (i2+1) z0)<|sn<|nX (i2+1) (show((↑s.size:Int)-(i2+1)).toNat <((↑s.size:Int)-i2).toNat from(by omega)) (show B78 s (i2+1)from ?g3);rotate_left
 refine sK<|sn<|sq<|B1 (σ':=⟨[(0,.s (s)),(12,.i .i64 ((↑s.size:Int))),(13,.i .i64 (i2)),(4,.i .i64 (i2)),(45,.b (decide (¬G0 (byt s i2.toNat)=true∨i2=0∨i2=(↑s.size:Int)-1∨G0 (byt s (i2-1).toNat)=true)))],[]⟩) ?_ ?_
 refine A5 (¬G0 (byt s i2.toNat)=true) (fun h_14=>?_) (fun h_14=>?_)
 have hl_15:=(U6 s (i2-1).toNat)
 refine rg (A:=_∧_∧(AV.b true=AV.b (decide (¬G0 (byt s i2.toNat)=true∨i2=0∨i2=(↑s.size:Int)-1∨G0 (byt s (i2-1).toNat)=true)))) cx [(1,{ val:=some (.b (G0 (byt s i2.toNat))),tell:=some (.b (false)) }),(20,{ tell:=some (.b (decide (¬G0 (byt s i2.toNat)=true∨i2=0∨i2=(↑s.size:Int)-1∨G0 (byt s (i2-1).toNat)=true))) })] [0,12,13,4,45] [] ⟨(L4 h_14),(A9n (byt s i2.toNat)),(by simp only [eq_false h_14,tsl])⟩ ?_
 exact⟨rfl,by kernel_rfl⟩
 refine A5 (i2=0) (fun h_16=>?_) (fun h_16=>?_)
 have hl_17:=(U6 s (i2-1).toNat)
 refine rG cx [0,12,13,4,45] [] (fT (A9n (byt s i2.toNat)) (tT 2 (C3:(AV.b !G0 (byt s i2.toNat))=AV.b (decide ¬G0 (byt s i2.toNat)=true)) (tT 3 (A0 h_14) (tT 5 (A4 h_16) (tT 20 (by first | (simp only [eq_false h_14,eq_true h_16,tsl];done) | simp_all:AV.b true=AV.b (decide (¬G0 (byt s i2.toNat)=true∨i2=0∨i2=(↑s.size:Int)-1∨G0 (byt s (i2-1).toNat)=true))) (oA 1 (.b (G0 (byt s i2.toNat))) z0)))))) ?_
 exact⟨rfl,by kernel_rfl⟩
 refine A5 (i2=(↑s.size:Int)-1) (fun h_18=>?_) (fun h_18=>?_)
 have hl_19:=(U6 s (i2-1).toNat)
 refine rG cx [0,12,13,4,45] [] (fT (A9n (byt s i2.toNat)) (tT 2 (C3:(AV.b !G0 (byt s i2.toNat))=AV.b (decide ¬G0 (byt s i2.toNat)=true)) (tT 3 (A0 h_14) (tT 5 (A0 h_16) (tW 11 ((↑s.size:Int)-1) (tT 12 (A4 h_18) (tT 20 (by first | (simp only [eq_false h_14,eq_false h_16,eq_true h_18,tsl];done) | simp_all:AV.b true=AV.b (decide (¬G0 (byt s i2.toNat)=true∨i2=0∨i2=(↑s.size:Int)-1∨G0 (byt s (i2-1).toNat)=true))) (oA 1 (.b (G0 (byt s i2.toNat))) z0)))))))) ?_
 exact⟨rfl,by kernel_rfl⟩
 have hl_20:=(U6 s (i2-1).toNat)
 refine rG cx [0,12,13,4,45] [] (fT (A9n (byt s i2.toNat)) (tT 2 (C3:(AV.b !G0 (byt s i2.toNat))=AV.b (decide ¬G0 (byt s i2.toNat)=true)) (tT 3 (A0 h_14) (tT 5 (A0 h_16) (tW 11 ((↑s.size:Int)-1) (tT 12 (A0 h_18) (tW 17 (i2-1) (fO (0≤i2-1) (fP (Option.map (fun b ↦ (↑b.toNat:Int)) s[(i2-1).toNat]?=some (byt s (i2-1).toNat)) (by(with_reducible refine A6t ?_;omega)) (fT (A9n (byt s (i2-1).toNat)) (tT 20 (by first | (simp only [eq_false h_14,eq_false h_16,eq_false h_18,tsl];done) | simp_all:AV.b (G0 (byt s (i2-1).toNat))=AV.b (decide (¬G0 (byt s i2.toNat)=true∨i2=0∨i2=(↑s.size:Int)-1∨G0 (byt s (i2-1).toNat)=true))) (oA 1 (.b (G0 (byt s i2.toNat))) (oA 18 (.i .u8 (byt s (i2-1).toNat)) (oA 19 (.b (G0 (byt s (i2-1).toNat))) z0)))))))))))))) ?_
 exact⟨rfl,by kernel_rfl⟩
 refine sn<|dC (¬G0 (byt s i2.toNat)=true∨i2=0∨i2=(↑s.size:Int)-1∨G0 (byt s (i2-1).toNat)=true) (fun h_21=>?_) fun h_21=>?_
 refine sq<|rG cx [2,3] [] z0<|sn<|rT<|bR<|nR<|nR<|bR<|nR<|qR (.tup [.i .i64 (i2),.i .i64 ((22:Int))]) (B5.tup (ZLe.cons B5.dead (ZLe.cons (B5.eq (show AV.i .i64 22=AV.i .i64 (A41 s)from ?g4)) ZLe.nil)));rotate_left
 refine sK<|bN<|sn<|rG cx [0,12,13] [] (tW 0 (i2+1) z0)<|sn<|nX (i2+1) (show((↑s.size:Int)-(i2+1)).toNat <((↑s.size:Int)-i2).toNat from(by omega)) (show B78 s (i2+1)from ?g5);rotate_left
 refine eX 0<|nE<|nE<|bH<|sn<|sq<|rG cx [2,3] [] z0<|sn<|rT<|qR (.tup [.i .i64 ((0:Int)),.i .i64 ((0:Int))]) (B5.tup (ZLe.cons B5.dead (ZLe.cons (B5.eq (show AV.i .i64 0=AV.i .i64 (A41 s)from ?g6)) ZLe.nil)));rotate_left
 revert hh0;rotate_left
 revert hh0 hh1;rotate_left
 revert hh0 hh1;rotate_left
 clear hl_9;revert hh0 hh1 i2 hh4 hh5 h6 h7 h_12;rotate_left
 clear hl_9;revert hh0 hh1 i2 hh4 hh5 h6 h7 h_12 h_21;rotate_left
 clear hl_9;revert hh0 hh1 i2 hh4 hh5 h6 h7 h_12 h_21;rotate_left
 revert hh0 hh1 i2 hh4 hh5 h6 h7;rotate_left
 case g2=>exact(fun h k=>⟨by omega,by omega,fun j hj=>by omega⟩)
 case' g6=>refine(fun h k i h0 h1 h2 h3=>?_)
 case' g5=>refine(fun h k i h0 h1 h2 h3 h4 h5=>?_)
 case' g4=>refine(fun h k i h0 h1 h2 h3 h4 h5=>?_)
 case' g3=>refine(fun h k i h0 h1 h2 h3 h4=>?_)
 case' g1=>refine(fun h k=>?_)
 case' g0=>refine(fun h=>?_)
 ·rw[A41,if_pos ((A1n s).2 h)]
 ·rw[A41,if_neg (fun e=>h ((A1n s).1 e)),if_pos (by omega)]
 ·exact A42 h0 h3 h2 ((J7 _ _).2 (h4.elim .inl fun h=>.inr (.inl h)))
 ·rw[Am1 (fun e=>h ((A1n s).1 e)) (by omega) (i:=i.toNat) (by omega) (S8 _)]
  have e:(i-1).toNat=i.toNat-1:=by omega
  rw[e]at h5
  rw[J7];rintro(a | a | a)
  ·exact h4 (.inl a)
  ·exact h4 (.inr a)
  ·rcases h5 with h5 | h5 | h5 | h5
   ·exact h5 a.1
   ·omega
   ·omega
   ·exact a.2.2.2 h5
 ·have e:(i-1).toNat=i.toNat-1:=by omega
  rw[e]at h5
  refine A42 h0 h3 h2 ((J7 _ _).2 (.inr (.inr ⟨Classical.byContradiction fun a=>h5 (.inl a),?_,?_,fun a=>h5 (.inr (.inr (.inr a)))⟩)))
  ·intro a;exact h5 (.inr (.inl (by omega)))
  ·intro a;exact h5 (.inr (.inr (.inl (by omega))))
 ·rw[B0p (fun e=>h ((A1n s).1 e)) (by omega) fun j hj=>h2 j (by omega)]
theorem B7d(s:ByteArray):Con Tryz.prog 175 [.s s] (.tup [.dead,.i .i64 (A41 s)]) :=
 by
 refine sC A6 [.tmp 2,.tmp 3] 22 Tryz.func175 ?_
 intro e0 cx
 refine sq<|rG cx [0] [] z0<|sn<|sq<|rD cx [0,7] [] (zB 2 ((↑s.size:Int)=0)) (fun hh0=>?_) fun hh0=>?_
 refine sq<|rG cx [2,3] [] z0<|sn<|rT<|nR<|qR (.tup [.i .i64 ((0:Int)),.i .i64 ((20:Int))]) (B5.tup (ZLe.cons B5.dead (ZLe.cons (B5.eq (show AV.i .i64 20=AV.i .i64 (A41 s)from ?g0)) ZLe.nil)));rotate_left
 refine sK<|sn<|sq<|rD cx [0,10] [] (zB 2 ((24:Int) <(↑s.size:Int))) (fun hh1=>?_) fun hh1=>?_
 refine sq<|rG cx [2,3] [] z0<|sn<|rT<|nR<|qR (.tup [.i .i64 ((0:Int)),.i .i64 ((21:Int))]) (B5.tup (ZLe.cons B5.dead (ZLe.cons (B5.eq (show AV.i .i64 21=AV.i .i64 (A41 s)from ?g1)) ZLe.nil)));rotate_left
 refine sK<|sn<|sq<|sq<|rG cx [0,4] [] z0<|sn<|bL 0<|sL (X:=Int) (fun x=>⟨[(0,.s (s)),(4,.i .i64 (x))],[]⟩) (fun x ↦ decG s x) (fun x ↦ B78 s x) [0,4] [] ((0:Int)) (show B78 s (0:Int)from ?g2) ?_;rotate_left
 intro i2 h_3
 obtain⟨hh4,h5,h6⟩:0≤i2∧i2≤(↑s.size:Int)∧∀(j:Nat),(↑j:Int) < i2→H6 s j=true:=h_3
 refine sq<|rD cx [0,4,14] [] (zB 3 (i2 <(↑s.size:Int))) (fun h7=>?_) fun h7=>?_
 refine sK<|sn<|sq<|bL 1<|sq<|rG cx [0,4,20] [] (fT (con217 (s) (i2) (by(with_reducible assumption)) (by(with_reducible assumption)) (by omega)) (tT 3 (C3:(AV.b !H6 s i2.toNat)=AV.b (decide ¬H6 s i2.toNat=true)) (oA 2 (.b (H6 s i2.toNat)) z0)))<|sn<|dC (¬H6 s i2.toNat=true) (fun h8=>?_) fun h8=>?_
 refine sq<|rG cx [2,3] [] z0<|sn<|rT<|bR<|nR<|nR<|bR<|nR<|qR (.tup [.i .i64 (i2),.i .i64 ((22:Int))]) (B5.tup (ZLe.cons B5.dead (ZLe.cons (B5.eq (show AV.i .i64 22=AV.i .i64 (A41 s)from ?g3)) ZLe.nil)));rotate_left
 refine sK<|bN<|sn<|rG cx [0,4] [] (tW 1 (i2+1) z0)<|sn<|nX (i2+1) (show((↑s.size:Int)-(i2+1)).toNat <((↑s.size:Int)-i2).toNat from(by omega)) (show B78 s (i2+1)from ?g4);rotate_left
 refine eX 0<|nE<|nE<|bH<|sn<|sq<|rG cx [2,3] [] z0<|sn<|rT<|qR (.tup [.i .i64 ((0:Int)),.i .i64 ((0:Int))]) (B5.tup (ZLe.cons B5.dead (ZLe.cons (B5.eq (show AV.i .i64 0=AV.i .i64 (A41 s)from ?g5)) ZLe.nil)));rotate_left
 revert hh0;rotate_left
 revert hh0 hh1;rotate_left
 revert hh0 hh1;rotate_left
 revert hh0 hh1 i2 hh4 h5 h6 h7 h8;rotate_left
 revert hh0 hh1 i2 hh4 h5 h6 h7 h8;rotate_left
 revert hh0 hh1 i2 hh4 h5 h6 h7;rotate_left
 case g2=>exact(fun h k=>⟨by omega,by omega,fun j hj=>by omega⟩)
 case' g5=>refine(fun h k i h0 h1 h2 h3=>?_)
 case' g4=>refine(fun h k i h0 h1 h2 h3 h4=>?_)
 case' g3=>refine(fun h k i h0 h1 h2 h3 h4=>?_)
 case' g1=>refine(fun h k=>?_)
 case' g0=>refine(fun h=>?_)
 ·rw[A41,if_pos (by omega)]
 ·rw[A41,if_neg (by omega),if_pos (by omega)]
 ·rw[Am1 (by omega) (by omega) (i:=i.toNat) (by omega) (S8 h4)]
 ·exact A42 h0 h3 h2 (Classical.not_not.1 h4)
 ·rw[B0p (by omega) (by omega) fun j hj=>h2 j (by omega)]
theorem Am2(s:ByteArray):Con Tryz.prog 102 [.s s] (.b (I2 s)) :=
 by
 refine sC A6 [.tmp 2] 12 Tryz.func102 ?_
 intro e0 cx
 refine sq<|rG cx [0] [] z0<|sn<|sq<|rG cx [4] [] (fT (B7c (s)) (oA 1 (resC (B7c (s))) z0))<|sn<|sq<|rG cx [2] [] (tB 1 (A41 s=0) z0)<|sn<|rT<|qR (.b (decide (A41 s=0))) (.eq ?g0);rotate_left
 case g0=>exact rfl
theorem A9o(s:ByteArray):Con Tryz.prog 106 [.s s] (.b (I2 s)) :=
 by
 refine sC A6 [.tmp 2] 12 Tryz.func106 ?_
 intro e0 cx
 refine sq<|rG cx [0] [] z0<|sn<|sq<|rG cx [4] [] (fT (B7d (s)) (oA 1 (resC (B7d (s))) z0))<|sn<|sq<|rG cx [2] [] (tB 1 (A41 s=0) z0)<|sn<|rT<|qR (.b (decide (A41 s=0))) (.eq ?g0);rotate_left
 case g0=>exact rfl
end Go.Proofs.YtphcaholhacnpaaGreat
namespace Go.Proofs.YtphcaholhacnpaaGreat
open Go.E
set_option maxRecDepth 100000
set_option maxHeartbeats 4000000
theorem ordSt:Ord3 X7:=by
 refine⟨fun x y=>?_,fun x y=>?_,fun x y z h1 h2=>?_,fun x y z h1 h2=>?_⟩
 ·rw[J6];split <;>(try split) <;> simp
 ·rw[J6,J6]
  by_cases a:sLt x y=true
  ·have b:¬ sLt y x=true:=fun b=>A1z _ (A3y a b)
   rw[if_pos a,if_neg b,if_pos a];rfl
  ·by_cases b:sLt y x=true
   ·rw[if_pos b,if_neg a,if_pos b]
   ·rw[if_neg b,if_neg a,if_neg a,if_neg b];rfl
 ·rw[J6]at *
  by_cases c:sLt x z=true
  ·rw[if_pos c];omega
  ·rw[if_neg c]
   by_cases d:sLt z x=true
   ·exfalso
    by_cases a:sLt x y=true
    ·have e:sLt z y=true:=A3y d a
     have f:¬ sLt y z=true:=fun f=>A1z _ (A3y e f)
     rw[if_neg f,if_pos e]at h2
     omega
    ·by_cases b:sLt y x=true
     ·rw[if_neg a,if_pos b]at h1;omega
     ·have:=A1k a b
      subst this
      rw[if_neg c,if_pos d]at h2
      omega
   ·rw[if_neg d];omega
 ·rw[J6]at *
  have eq:∀ u v:ByteArray,(if sLt u v=true then(-1:Int)else if sLt v u=true then 1 else 0)=0→u=v:=by
   intro u v h
   by_cases a:sLt u v=true
   ·rw[if_pos a]at h;omega
   ·by_cases b:sLt v u=true
    ·rw[if_neg a,if_pos b]at h;omega
    ·exact A1k a b
  have e1:=eq _ _ h1
  have e2:=eq _ _ h2
  subst e1 e2
  rw[if_neg (A1z x),if_neg (A1z x)]
theorem A20{a b:ByteArray}:X7 a b=0↔a=b:=by
 rw[J6]
 constructor
 ·intro h
  by_cases c:sLt a b=true
  ·rw[if_pos c]at h;omega
  ·by_cases d:sLt b a=true
   ·rw[if_neg c,if_pos d]at h;omega
   ·exact A1k c d
 ·rintro rfl
  rw[if_neg (A1z _),if_neg (A1z _)]
def D2(r s:Record):Int:=if X7 r.sku s.sku≠0 then X7 r.sku s.sku else A9h r.past s.past
theorem A2g:Ord3 D2:=A1j ordSt ordP (fun r:Record=>r.sku) (fun r=>r.past)
theorem B4v{r s:Record}:D2 r s=0↔r.sku=s.sku∧A3 r.past=A3 s.past:=by
 unfold D2
 by_cases h:X7 r.sku s.sku=0
 ·rw[if_neg (by simpa using h),B0e]
  exact⟨fun k=>⟨A20.1 h,k⟩,fun k=>k.2⟩
 ·rw[if_pos h]
  exact⟨fun k=>absurd k h,fun k=>absurd (A20.2 k.1) h⟩
theorem A7b{r s:Record}(hr:r.past=A3 r.past)(hs:s.past=A3 s.past)(h:D2 r s=0):r=s:=by
 obtain⟨h1,h2⟩:=B4v.1 h
 rw[← hr,← hs]at h2
 cases r;cases s
 simp only at h1 h2
 rw[h1,h2]
def noneS:ByteArray:=⟨#[]⟩
noncomputable def ckR(r:Record):Int:=if ¬ r.sku=noneS∧I2 r.sku=false then 5 else if ¬ r.past=A3 r.past∨B8 r.past=0 then 1 else 0
noncomputable def B36(rs:List Record)(i:Nat):Bool:=decide (ckR rs[i]! = 0) && (decide (i=0) || decide (D2 rs[i-1]! rs[i]! < 0))
noncomputable def okLR(rs:List Record):Bool:=Af8 (B36 rs) rs.length
noncomputable def F0(rs:List Record):Int:=if okLR rs=true then 0 else 1
def upR(rs:List Record):Prop:=rs.Pairwise fun r s=>D2 r s < 0
def B0q(rs:List Record):Prop:=(∀ r∈rs,ckR r=0)∧upR rs
theorem At2{r:Record}:ckR r=0↔(r.sku=noneS∨I2 r.sku=true)∧r.past=A3 r.past∧¬ B8 r.past=0:=by
 unfold ckR
 by_cases a:¬ r.sku=noneS∧I2 r.sku=false
 ·rw[if_pos a]
  constructor
  ·intro h;omega
  ·rintro⟨k | k,_⟩
   ·exact absurd k a.1
   ·rw[a.2]at k;cases k
 ·rw[if_neg a]
  by_cases b:¬ r.past=A3 r.past∨B8 r.past=0
  ·rw[if_pos b]
   constructor
   ·intro h;omega
   ·rintro⟨_,h1,h2⟩
    rcases b with b | b
    ·exact absurd h1 b
    ·exact absurd b h2
  ·rw[if_neg b]
   refine⟨fun _=>⟨?_,Classical.byContradiction fun k=>b (.inl k),fun k=>b (.inr k)⟩,fun _=>rfl⟩
   by_cases c:r.sku=noneS
   ·exact .inl c
   ·right
    cases e:I2 r.sku with
    | true=>rfl
    | false=>exact absurd ⟨c,e⟩ a
theorem Q7(rs:List Record)(i:Nat):B36 rs i=true↔ckR rs[i]! = 0∧(i=0∨D2 rs[i-1]! rs[i]! < 0):=by
 unfold B36
 rw[Bool.and_eq_true,Bool.or_eq_true,decide_eq_true_iff,decide_eq_true_iff,decide_eq_true_iff]
theorem B0r{rs:List Record}(h:∀ i:Nat,0 < i→i < rs.length→D2 rs[i-1]! rs[i]! < 0):upR rs:=by
 have key:∀ d i:Nat,i+d+1 < rs.length→D2 rs[i]! rs[i+d+1]! < 0:=by
  intro d
  induction d with
  | zero=>intro i hi;exact h (i+1) (by omega) hi
  | succ d ih =>
   intro i hi
   have h1:=ih i (by omega)
   have h2:=h (i+d+2) (by omega) (by omega)
   rw[show i+d+2-1=i+d+1 by omega]at h2
   rw[show i+(d+1)+1=i+d+2 by omega]
   exact A2g.lt h1 (by omega)
 unfold upR
 rw[List.pairwise_iff_getElem]
 intro i j hi hj hij
 have:=key (j-i-1) i (by omega)
 rw[show i+(j-i-1)+1=j by omega,getElem!_pos rs i hi,getElem!_pos rs j hj]at this
 exact this
theorem B4w(rs:List Record):okLR rs=true↔B0q rs:=by
 unfold okLR
 rw[I6]
 constructor
 ·intro h
  refine⟨fun r hr=>?_,B0r fun i h0 hi=>?_⟩
  ·obtain⟨i,hi,rfl⟩:=List.mem_iff_getElem.1 hr
   have:=((Q7 _ _).1 (h i hi)).1
   rwa [getElem!_pos rs i hi]at this
  ·rcases((Q7 _ _).1 (h i hi)).2 with k | k
   ·omega
   ·exact k
 ·intro h i hi
  rw[Q7]
  refine⟨h.1 _ (D9 hi),?_⟩
  by_cases e:i=0
  ·exact .inl e
  ·right
   have:=List.pairwise_iff_getElem.1 h.2 (i-1) i (by omega) hi (by omega)
   rw[← getElem!_pos rs (i-1) (by omega),← getElem!_pos rs i hi]at this
   exact this
theorem A1o(rs:List Record):F0 rs=0↔B0q rs:=by
 rw[← B4w]
 unfold F0
 split
 ·rename_i h;simp [h]
 ·rename_i h;simp [h]
theorem A7c{rs:List Record}{i:Nat}(hi:i < rs.length)(h:¬ B36 rs i=true):F0 rs=1:=by
 unfold F0 okLR
 rw[if_neg]
 intro k
 exact h ((I6 _ _).1 k i hi)
theorem B0s{rs:List Record}(h:∀ j:Nat,j < rs.length→B36 rs j=true):F0 rs=0:=by
 unfold F0 okLR
 rw[if_pos ((I6 _ _).2 h)]
theorem A5y:∀ {a b:List Record},upR a→upR b→(∀ r∈a,r.past=A3 r.past)→(∀ r∈b,r.past=A3 r.past)→(∀ r,r∈a↔r∈b)→a=b
 | [],[],_,_,_,_,_=>rfl
 | [],y :: b,_,_,_,_,h=>by have:=(h y).2 (by simp);cases this
 | x :: a,[],_,_,_,_,h=>by have:=(h x).1 (by simp);cases this
 | x :: a,y :: b,ha,hb,na,nb,h=>by
  have pa:=List.pairwise_cons.1 ha
  have pb:=List.pairwise_cons.1 hb
  have e:x=y:=by
   rcases List.mem_cons.1 ((h x).1 (by simp))with k | k
   ·exact k
   ·rcases List.mem_cons.1 ((h y).2 (by simp))with k2 | k2
    ·exact k2.symm
    ·have h1:=pb.1 x k
     have h2:=pa.1 y k2
     have:=A2g.neg x y
     omega
  subst e
  rw[A5y pa.2 pb.2 (fun r hr=>na r (by simp [hr])) (fun r hr=>nb r (by simp [hr])) fun r=>?_]
  have irr:D2 x x=0:=A2g.self x
  have:=h r
  simp only [List.mem_cons]at this
  constructor
  ·intro k
   rcases this.1 (.inr k)with k2 | k2
   ·subst k2;have:=pa.1 r k;omega
   ·exact k2
  ·intro k
   rcases this.2 (.inr k)with k2 | k2
   ·subst k2;have:=pb.1 r k;omega
   ·exact k2
end Go.Proofs.YtphcaholhacnpaaGreat
namespace Go.Proofs.YtphcaholhacnpaaGreat
open Go.E
set_option maxRecDepth 100000
set_option maxHeartbeats 4000000
def invZ(a:List Run)(s i:Int):Prop:=0≤i∧i≤(nrm a).length∧s=G5 ((nrm a).take i.toNat)
def decZ(a:List Run)(s i:Int):Nat:=((nrm a).length-i).toNat
def B9f(p:Past)(s i:Int)(T:Nat→List Run):Prop:=T=A8 [p]∧0≤i∧i≤16∧s=sizeT (A8 [p]) i.toNat
def decSz(p:Past)(s i:Int)(T:Nat→List Run):Nat:=(16-i).toNat
theorem A9p{l:List Run}(h:M0 l)(n:Nat):M0 (l.take n):=⟨h.1.sublist (List.take_sublist _ _),fun r hr=>h.2 r (List.mem_of_mem_take hr)⟩
theorem A5z{l:List Run}{i:Int}(h0:0≤i)(h:i < l.length):G5 (l.take (i+1).toNat)=G5 (l.take i.toNat)+(l[i.toNat]!.hi-l[i.toNat]!.lo+1):=by
 rw[← C8 h0 h,B0n]
 simp [G5]
theorem A60{p:Past}(hb:p.cloud.length*16≤140737488350000):A08 [p]*16≤140737488351232:=by rw[Af4];omega
theorem A43{p:Past}(hb:p.cloud.length*16≤140737488350000)(r:Nat):(A8 [p] r).length*16≤140737488351232:=by
 have:=P4 r [p]
 have:=A60 hb
 omega
theorem con165(a:List Run)(hb:a.length*16≤140737488351232):Con Tryz.prog 165 [.sl (a.map c206)] (.i .i64 (G5 (nrm a))) :=
 by
 have hs:=E1 a
 have hr:∀ i:Int,0≤i→i <(nrm a).length→1≤(nrm a)[i.toNat]!.lo∧(nrm a)[i.toNat]!.lo≤(nrm a)[i.toNat]!.hi∧(nrm a)[i.toNat]!.hi≤1000000000:=fun i h0 h1=>hs.2 _ (D9 (by omega))
 have hz:∀ i:Int,0≤G5 ((nrm a).take i.toNat)∧G5 ((nrm a).take i.toNat)≤1000000000:=fun i=>A1l (A9p hs _)
 refine lN 0 c206 (a) Tryz.func165 fun hl_0=>sC A6 [.tmp 2] 23 Tryz.func165 ?_
 intro e0 cx
 refine sq<|rG cx [0] [] z0<|sn<|sq<|rG cx [0,3] [] z0<|sn<|sq<|sq ?_
 have hl_0:=(U9 a)
 refine rG cx [3,7,8,9] [] (fT (A98 (a) (by(with_reducible assumption))) (tL 2 c206 (nrm a) (oA 1 (.sl (List.map c206 (nrm a))) z0)))<|sn<|bL 0<|sL (X:=Int×Int) (fun x=>⟨[(3,.i .i64 (x.1)),(7,.sl (List.map c206 (nrm a))),(8,.i .i64 ((↑(nrm a).length:Int))),(9,.i .i64 (x.2))],[]⟩) (fun x ↦ decZ a x.1 x.2) (fun x ↦ invZ a x.1 x.2) [3,7,8,9] [] (((0:Int),(0:Int))) (show invZ a (0:Int) (0:Int)from ?g0) ?_;rotate_left
 rintro⟨s1,i2⟩ h_3
 obtain⟨h4,h5,h6⟩:0≤i2∧i2≤(↑(nrm a).length:Int)∧s1=G5 (List.take i2.toNat (nrm a)):=h_3
 refine rE cx [3,7,8,9,10] [] (zB 0 (i2 <(↑(nrm a).length:Int))) (fun h7=>?_) fun h7=>?_
 refine sK<|sn<|sq<|bL 1<|sq<|rG cx [3,7,8,9,5] [5] (fA (0≤i2) (fG c206 (nrm a) i2.toNat (fR 2 (fN 2 2 (oR 0 (c206 (nrm a)[i2.toNat]!) z0)))))<|sn<|rG cx [3,7,8,9] [] (tT 5 (B4 ?g1 ?g2:AV.i .i64 (IntKind.i64.wrap ((nrm a)[i2.toNat]!.hi-(nrm a)[i2.toNat]!.lo))=AV.i .i64 ((nrm a)[i2.toNat]!.hi-(nrm a)[i2.toNat]!.lo)) (tT 6 (B4 ?g3 ?g4:AV.i .i64 (IntKind.i64.wrap ((nrm a)[i2.toNat]!.hi-(nrm a)[i2.toNat]!.lo+1))=AV.i .i64 ((nrm a)[i2.toNat]!.hi-(nrm a)[i2.toNat]!.lo+1)) (tT 7 (B4 ?g5 ?g6:AV.i .i64 (IntKind.i64.wrap (s1+((nrm a)[i2.toNat]!.hi-(nrm a)[i2.toNat]!.lo+1)))=AV.i .i64 (s1+((nrm a)[i2.toNat]!.hi-(nrm a)[i2.toNat]!.lo+1))) z0))) ?_;rotate_left 6
 refine bN<|sn<|rG cx [3,7,8,9] [] (tW 0 (i2+1) z0)<|sn<|nX ((s1+((nrm a)[i2.toNat]!.hi-(nrm a)[i2.toNat]!.lo+1),i2+1)) (show((↑(nrm a).length:Int)-(i2+1)).toNat <((↑(nrm a).length:Int)-i2).toNat from(by omega)) (show invZ a (s1+((nrm a)[i2.toNat]!.hi-(nrm a)[i2.toNat]!.lo+1)) (i2+1)from ?g7);rotate_left
 refine eX 0<|nE<|nE<|bH<|sn<|sq<|rG cx [2] [] z0<|sn<|rT<|qR (.i .i64 (s1)) (.eq ?g8);rotate_left
 rotate_left
 revert s1 i2 h4 h5 h6 h7;rotate_left
 revert s1 i2 h4 h5 h6 h7;rotate_left
 revert s1 i2 h4 h5 h6 h7;rotate_left
 revert s1 i2 h4 h5 h6 h7;rotate_left
 revert s1 i2 h4 h5 h6 h7;rotate_left
 revert s1 i2 h4 h5 h6 h7;rotate_left
 revert s1 i2 h4 h5 h6 h7;rotate_left
 revert s1 i2 h4 h5 h6 h7;rotate_left
 case g0=>exact⟨by omega,by omega,by simp [G5]⟩
 case g7=>intro s i h0 h1 h2 h3;exact⟨by omega,by omega,by rw[h2,A5z h0 h3]⟩
 case g8=>intro s i h0 h1 h2 h3;rw[h2,List.take_of_length_le (by omega)]
 all_goals (intro s i h0 h1 h2 h3;have:=hr i h0 h3;have:=hz i;omega)
theorem con94(p:Past)(hb:p.cloud.length*16≤140737488350000):Con Tryz.prog 94 [.agg (c26 p)] (.i .i64 (B8 p)) :=
 by
 have hz:=A1m (A8 [p])
 have hr:∀ r,0≤G5 (nrm (A8 [p] r))∧G5 (nrm (A8 [p] r))≤1000000000:=fun r=>A1l (E1 _)
 refine sC A6 [.tmp 2] 21 Tryz.func94 ?_
 intro e0 cx
 refine sq<|rG cx [1] [1] z0<|sn<|sq<|rG cx [1,3] [1] z0<|sn<|sq<|sq<|rG cx [3,8,10] [8] (fT (Af3 ([p]) ?g0) (oV 2 { val:=some (.ptr ((204:Nat)) (0) (0) (0)),row:=(E2 c206 16 (A8 [p])) } z0)) ?_;rotate_left
 refine sn<|bL 0<|sL (X:=Int×Int×(Nat→List Run)) (fun x=>⟨[(3,.i .i64 (x.1)),(8,.ptr (8) (0) (0) (0)),(10,.i .i64 (x.2.1))],[(8,⟨0,204,.arr (E2 c206 16 x.2.2)⟩)]⟩) (fun x ↦ decSz p x.1 x.2.1 x.2.2) (fun x ↦ B9f p x.1 x.2.1 x.2.2) [3,8,10] [8] (((0:Int),(0:Int),A8 [p])) (show B9f p (0:Int) (0:Int) (A8 [p])from ?g1) ?_;rotate_left
 rintro⟨s0,i1,T2⟩ h_3
 obtain⟨hh4,h5,h6,h7⟩:T2=A8 [p]∧0≤i1∧i1≤16∧s0=sizeT (A8 [p]) i1.toNat:=h_3
 refine rE cx [3,8,10,11] [8] (zB 0 (i1 <(16:Int))) (fun h8=>?_) fun h8=>?_
 refine sK<|sn<|sq<|bL 1<|sq<|rG cx [3,8,10,5] [8] (fA (0≤i1) (fO (i1 <(↑(16:Nat):Int)) (fP ((E2 c206 16 T2)[i1.toNat*(1:Nat)+0]?=some (AV.sl (List.map c206 (T2 i1.toNat)))) (by((try simp only [Nat.mul_one,Nat.add_zero,Nat.zero_add]);with_reducible refine D8 ?_;omega)) (oR 2 [.sl (List.map c206 (T2 i1.toNat))] z0)))) ?_
 refine sn ?_
 have hl_9:=(U9 (T2 i1.toNat))
 refine rG cx [3,8,10] [8] (fT (con165 (T2 i1.toNat) ?g2) (tT 3 (B4 ?g3 ?g4:AV.i .i64 (IntKind.i64.wrap (s0+G5 (nrm (T2 i1.toNat))))=AV.i .i64 (s0+G5 (nrm (T2 i1.toNat)))) (oA 2 (.i .i64 (G5 (nrm (T2 i1.toNat)))) z0))) ?_;rotate_left 3
 refine bN<|sn<|rG cx [3,8,10] [8] (tW 0 (i1+1) z0)<|sn<|nX ((s0+G5 (nrm (T2 i1.toNat)),i1+1,T2)) (show(16-(i1+1)).toNat <(16-i1).toNat from(by omega)) (show B9f p (s0+G5 (nrm (T2 i1.toNat))) (i1+1) T2 from ?g5);rotate_left
 refine eX 0<|nE<|nE<|bH<|sn<|sq<|rG cx [2] [] z0<|sn<|rT<|qR (.i .i64 (s0)) (.eq ?g6);rotate_left
 rotate_left
 rotate_left
 clear hl_9;revert s0 i1 T2 hh4 h5 h6 h7 h8;rotate_left
 clear hl_9;revert s0 i1 T2 hh4 h5 h6 h7 h8;rotate_left
 clear hl_9;revert s0 i1 T2 hh4 h5 h6 h7 h8;rotate_left
 clear hl_9;revert s0 i1 T2 hh4 h5 h6 h7 h8;rotate_left
 revert s0 i1 T2 hh4 h5 h6 h7 h8;rotate_left
 case g0=>exact A60 hb
 case g1=>exact⟨rfl,by omega,by omega,rfl⟩
 case g2=>intro s i T h0 h1 h2 h3 h4;subst h0;exact A43 hb _
 case g3=>intro s i T h0 h1 h2 h3 h4;subst h0;have:=hz i.toNat;have:=hr i.toNat;omega
 case g4=>intro s i T h0 h1 h2 h3 h4;subst h0;have:=hz i.toNat;have:=hr i.toNat;omega
 case g5=>intro s i T h0 h1 h2 h3 h4;subst h0;exact⟨rfl,by omega,by omega,by rw[show(i+1).toNat=i.toNat+1 by omega,sizeT,h3]⟩
 case g6=>intro s i T h0 h1 h2 h3 h4;rw[h3,show i.toNat=16 by omega,A7a]
theorem B4x(p:Past)(hb:p.cloud.length*16≤140737488350000):Con Tryz.prog 22 [.agg (c26 p)] (.b (decide (B8 p=0))) :=
 by
 refine sC A6 [.tmp 2] 6 Tryz.func22 ?_
 intro e0 cx
 refine sq<|rG cx [1] [1] z0<|sn<|sq<|rG cx [2] [] (fT (con94 (p) (by(with_reducible assumption))) (tB 2 (B8 p=0) (oA 1 (.i .i64 (B8 p)) z0)))<|sn<|rT ?_
 exact A3h (r:=.b (decide (B8 p=0))) (obl:=[]) (by kernel_rfl) trivial (B5.refl _)
end Go.Proofs.YtphcaholhacnpaaGreat
namespace Go.Proofs.YtphcaholhacnpaaGreat
open Go.E
set_option maxRecDepth 100000
set_option maxHeartbeats 4000000
def szR(r:Record):Prop:=r.past.cloud.length*16≤140737488350000
def B0t(rs:List Record):Prop:=∀ r∈rs,szR r
theorem V4{rs:List Record}(h:B0t rs){i:Int}(h0:0≤i)(hi:i < rs.length):szR rs[i.toNat]!:=h _ (D9 (by omega))
theorem B4y{rs:List Record}(h:B0t rs){i:Int}(h0:0 < i)(hi:i < rs.length):szR rs[(i-1).toNat]!:=h _ (D9 (by omega))
def Af9(rs:List Record)(i:Int):Prop:=0≤i∧i≤rs.length∧∀ j:Nat,(j:Int) < i→B36 rs j=true
def decKc(rs:List Record)(i:Int):Nat:=(rs.length-i).toNat
theorem A61{rs:List Record}{i:Int}(h0:0≤i)(h1:i < rs.length)(h2:∀ j:Nat,(j:Int) < i→B36 rs j=true)(h:B36 rs i.toNat=true):Af9 rs (i+1) :=
 ⟨by omega,by omega,fun j hj=>by
  by_cases e:j=i.toNat
  ·rw[e];exact h
  ·exact h2 j (by omega)⟩
theorem B0u(r:Record)(hb:szR r):Con Tryz.prog 204 [.agg (c54 r)] (.i .i64 (ckR r)) :=
 by
 have g:∀ {b:Bool},¬ b=true→b=false:=fun {b} h=>by cases b <;> simp_all
 refine sC A6 [.tmp 2] 21 Tryz.func204 ?_
 intro e0 cx
 refine sq<|rG cx [1] [1] z0<|sn<|sq<|sq<|B1 (σ':=⟨[(1,.ptr (1) (0) (0) (0)),(11,.b (decide (¬r.sku={ data:=#[]:ByteArray }∧¬I2 r.sku=true)))],[(1,⟨0,54,.var [.s (r.sku),.sl (List.map c3 r.past.vec),.sl (List.map A9 r.past.cloud)]⟩)]⟩) ?_ ?_
 refine A5 (¬r.sku={ data:=#[]:ByteArray }) (fun h_1=>?_) (fun h_1=>?_)
 refine rG cx [1,11] [1] (tT 2 (A19 h_1:(AV.b !r.sku.toList == { data:=#[]:ByteArray }.toList)=AV.b true) (fT (Am2 (r.sku)) (tT 7 (C3:(AV.b !I2 r.sku)=AV.b (decide ¬I2 r.sku=true)) (tD 8 (decide ¬I2 r.sku=true) (¬r.sku={ data:=#[]:ByteArray }∧¬I2 r.sku=true) (by simp only [eq_false h_1,tsl]) (oA 6 (.b (I2 r.sku)) z0))))) ?_
 exact⟨rfl,by kernel_rfl⟩
 refine rG cx [1,11] [1] (tT 2 (A2y:(AV.b !r.sku.toList == { data:=#[]:ByteArray }.toList)=AV.b (decide ¬r.sku={ data:=#[]:ByteArray })) (tT 3 (A0 h_1) (tT 8 (by first | (simp only [eq_false h_1,tsl];done) | simp_all:AV.b false=AV.b (decide (¬r.sku={ data:=#[]:ByteArray }∧¬I2 r.sku=true))) z0))) ?_
 exact⟨rfl,by kernel_rfl⟩
 refine sn<|dC (¬r.sku={ data:=#[]:ByteArray }∧¬I2 r.sku=true) (fun h2=>?_) fun h2=>?_
 refine sq<|rG cx [2] [] z0<|sn<|rT<|nR<|qR (.i .i64 ((5:Int))) (.eq (by unfold ckR;rw[if_pos ⟨h2.1,g h2.2⟩]))
 refine sK<|sn<|sq<|sq<|B1 (σ':=⟨[(20,.b (decide (¬r.past=A3 r.past∨B8 r.past=0)))],[]⟩) ?_ ?_
 refine A5 (¬r.past=A3 r.past) (fun h4=>?_) (fun h4=>?_)
 refine rg (A:=_∧_∧(AV.b true=AV.b (decide (¬r.past=A3 r.past∨B8 r.past=0)))) cx [(2,{ val:=some (.b (decide (r.past=A3 r.past))),tell:=some (.b (false)) }),(8,{ tell:=some (.b (decide (¬r.past=A3 r.past∨B8 r.past=0))) })] [20] [] ⟨(A0 h4),(A9d (r.past) (by exact hb)),(by simp only [eq_false h4,tsl])⟩ ?_
 exact⟨rfl,by kernel_rfl⟩
 refine rG cx [20] [] (fT (A9d (r.past) (by exact hb)) (tQ 3 (r.past=A3 r.past) (tT 4 (A0 h4) (fT (B4x (r.past) (by exact hb)) (tT 8 (by first | (simp only [eq_false h4,tsl];done) | simp_all:AV.b (decide (B8 r.past=0))=AV.b (decide (¬r.past=A3 r.past∨B8 r.past=0))) (oA 2 (.b (decide (r.past=A3 r.past))) (oA 7 (.b (decide (B8 r.past=0))) z0))))))) ?_
 exact⟨rfl,by kernel_rfl⟩
 refine sn<|dC (¬r.past=A3 r.past∨B8 r.past=0) (fun h5=>?_) fun h5=>?_
 refine sq<|rG cx [2] [] z0<|sn<|rT<|nR<|qR (.i .i64 ((1:Int))) (.eq (by unfold ckR;rw[if_neg (fun c=>h2 ⟨c.1,by rw[c.2];simp⟩),if_pos h5]))
 refine sK<|sn<|sq<|rG cx [2] [] z0<|sn<|rT<|qR (.i .i64 ((0:Int))) (.eq (by unfold ckR;rw[if_neg (fun c=>h2 ⟨c.1,by rw[c.2];simp⟩),if_neg h5]))
theorem Am3(r s:Record)(hr:szR r)(hs:szR s):Con Tryz.prog 141 [.agg (c54 r),.agg (c54 s)] (.i .i64 (D2 r s)) :=
 by
 refine sC A6 [.tmp 4] 19 Tryz.func141 ?_
 intro e0 cx
 refine sq<|rG cx [2,3] [2,3] z0<|sn<|sq<|sq<|rG cx [2,3,5] [2,3] (fT (con194 (r.sku) (s.sku)) (oA 4 (.i .i64 (X7 r.sku s.sku)) z0))<|sn<|sq<|rG cx [2,3,5,12] [2,3] (tN 1 (X7 r.sku s.sku) (0:Int) z0)<|sn<|dC (¬X7 r.sku s.sku=0) (fun h0=>?_) fun h0=>?_
 refine sq<|rG cx [4] [] z0<|sn<|rT<|nR<|qR (.i .i64 (X7 r.sku s.sku)) (.eq (by unfold D2;rw[if_pos h0]))
 refine sK<|sn<|sq<|rG cx [4] [] (fT (con195 (r.past) (s.past) (by exact hr) (by exact hs)) (oA 4 (.i .i64 (A9h r.past s.past)) z0)) ?_
 refine sn<|rT<|qR (.i .i64 (A9h r.past s.past)) (.eq (by unfold D2;rw[if_neg h0]))
theorem A62(rs:List Record)(hb:B0t rs):Con Tryz.prog 160 [.sl (rs.map c54)] (.i .i64 (F0 rs)) :=
 by
 have e:∀ {i:Int},0≤i→(i-1).toNat=i.toNat-1:=fun {i} h=>by omega
 refine lN 0 c54 (rs) Tryz.func160 fun hl_0=>sC A6 [.tmp 2] 30 Tryz.func160 ?_
 intro e0 cx
 refine sq<|rG cx [0] [] z0<|sn<|sq<|sq<|rG cx [0,5,6,7] [] (tL 1 c54 rs z0)<|sn<|bL 0<|sL (X:=Int) (fun x=>⟨[(0,.sl (List.map c54 rs)),(5,.sl (List.map c54 rs)),(6,.i .i64 ((↑rs.length:Int))),(7,.i .i64 (x))],[]⟩) (fun x ↦ decKc rs x) (fun x ↦ Af9 rs x) [0,5,6,7] [] ((0:Int)) (show Af9 rs (0:Int)from(by exact⟨by omega,by omega,fun j hj=>by omega⟩)) ?_
 intro i0 h_1
 obtain⟨hh2,hh3,hh4⟩:0≤i0∧i0≤(↑rs.length:Int)∧∀(j:Nat),(↑j:Int) < i0→B36 rs j=true:=h_1
 refine rE cx [0,5,6,7,8] [] (zB 0 (i0 <(↑rs.length:Int))) (fun hh5=>?_) fun hh5=>?_
 refine sK<|sn<|sq<|bL 1<|sq<|rG cx [0,5,6,7,4,3] [4] (fA (0≤i0) (fG c54 rs i0.toNat (fR 3 (fN 3 3 (oR 1 (c54 rs[i0.toNat]!) z0)))))<|sn<|sq<|B1 (σ':=⟨[(0,.sl (List.map c54 rs)),(5,.sl (List.map c54 rs)),(6,.i .i64 ((↑rs.length:Int))),(7,.i .i64 (i0)),(28,.b (decide (¬ckR rs[i0.toNat]! =(0:Int)∨(0:Int) < i0∧0≤D2 rs[(i0-1).toNat]! rs[i0.toNat]!)))],[]⟩) ?_ ?_
 refine A5 (¬ckR rs[i0.toNat]! =(0:Int)) (fun h7=>?_) (fun h7=>?_)
 refine rA cx [0,5,6,7,28] [] (fT (B0u (rs[i0.toNat]!) (by exact V4 hb hh2 hh5)) (tT 2 (H2 h7:AV.b (ckR rs[i0.toNat]! !=0)=AV.b true) (tD 16 true (¬ckR rs[i0.toNat]! =(0:Int)∨(0:Int) < i0∧0≤D2 rs[(i0-1).toNat]! rs[i0.toNat]!) (by simp only [eq_false h7,tsl]) (oA 1 (.i .i64 (ckR rs[i0.toNat]!)) z0)))) ?_
 exact⟨rfl,by kernel_rfl⟩
 refine A5 ((0:Int) < i0) (fun h8=>?_) (fun h8=>?_)
 refine rA cx [0,5,6,7,28] [] (fT (B0u (rs[i0.toNat]!) (by exact V4 hb hh2 hh5)) (tN 2 (ckR rs[i0.toNat]!) (0:Int) (tT 3 (A0 h7) (tT 5 (A4 h8) (tW 9 (i0-1) (fO (0≤i0-1) (fG c54 rs ((i0-1).toNat) (fR 3 (fN 3 3 (fT (Am3 (rs[(i0-1).toNat]!) (rs[i0.toNat]!) (by exact B4y hb h8 hh5) (by exact V4 hb hh2 hh5)) (tB 14 (0≤D2 rs[(i0-1).toNat]! rs[i0.toNat]!) (tT 16 (by first | (simp only [eq_false h7,eq_true h8,tsl];done) | simp_all:AV.b (decide (0≤D2 rs[(i0-1).toNat]! rs[i0.toNat]!))=AV.b (decide (¬ckR rs[i0.toNat]! =(0:Int)∨(0:Int) < i0∧0≤D2 rs[(i0-1).toNat]! rs[i0.toNat]!))) (oA 1 (.i .i64 (ckR rs[i0.toNat]!)) (oR 10 (c54 rs[(i0-1).toNat]!) (oA 13 (.i .i64 (D2 rs[(i0-1).toNat]! rs[i0.toNat]!)) z0))))))))))))))) ?_
 exact⟨rfl,by kernel_rfl⟩
 refine rA cx [0,5,6,7,28] [] (fT (B0u (rs[i0.toNat]!) (by exact V4 hb hh2 hh5)) (tN 2 (ckR rs[i0.toNat]!) (0:Int) (tT 3 (A0 h7) (tT 5 (A0 h8) (tT 16 (by first | (simp only [eq_false h7,eq_false h8,tsl];done) | simp_all:AV.b false=AV.b (decide (¬ckR rs[i0.toNat]! =(0:Int)∨(0:Int) < i0∧0≤D2 rs[(i0-1).toNat]! rs[i0.toNat]!))) (oA 1 (.i .i64 (ckR rs[i0.toNat]!)) z0)))))) ?_
 exact⟨rfl,by kernel_rfl⟩
 refine sn<|dC (¬ckR rs[i0.toNat]! =(0:Int)∨(0:Int) < i0∧0≤D2 rs[(i0-1).toNat]! rs[i0.toNat]!) (fun h9=>?_) fun h9=>?_
 refine sq<|rG cx [2] [] z0<|sn<|rT<|bR<|nR<|nR<|bR<|nR<|qR (.i .i64 ((1:Int))) (.eq ?g6);rotate_left
 refine sK<|bN<|sn<|rG cx [0,5,6,7] [] (tW 0 (i0+1) z0)<|sn<|nX (i0+1) (show((↑rs.length:Int)-(i0+1)).toNat <((↑rs.length:Int)-i0).toNat from(by omega)) (show Af9 rs (i0+1)from ?g7);rotate_left
 refine eX 0<|nE<|nE<|bH<|sn<|sq<|rG cx [2] [] z0<|sn<|rT<|qR (.i .i64 ((0:Int))) (.eq (by rw[B0s fun j hj=>hh4 j (by omega)]))
 case g6 =>
  revert i0 hh2 hh3 hh4 hh5 h9
  intro i h0 h1 h2 h3 h4
  rw[A7c (i:=i.toNat) (by omega)]
  rw[e h0]at h4
  rw[Q7]
  rintro⟨a,b⟩
  rcases h4 with h4 | ⟨h4,h5⟩
  ·exact h4 a
  ·omega
 case g7 =>
  rw[e hh2]at h9
  refine A61 hh2 hh5 hh4 ((Q7 _ _).2 ⟨Classical.byContradiction fun a=>h9 (.inl a),?_⟩)
  by_cases c:i0.toNat=0
  ·exact .inl c
  ·exact .inr (Classical.byContradiction fun a=>h9 (.inr ⟨by omega,by omega⟩))
end Go.Proofs.YtphcaholhacnpaaGreat
namespace Go.Proofs.YtphcaholhacnpaaGreat
open Go.E
set_option maxRecDepth 100000
set_option maxHeartbeats 4000000
def dLt(a b:Dot):Bool:=decide (a.rep < b.rep∨a.rep=b.rep∧a.num < b.num)
def A4r(e:Entry):Int:=if e.dot.rep < 0∨16≤e.dot.rep then 3 else if e.dot.num < 1∨1000000000 < e.dot.num then 2 else if I2 e.sku=false then 5 else if e.qty < 1∨1000000 < e.qty then 6 else 0
def Av3(es:List Entry)(i:Nat):Bool:=decide (A4r es[i]! = 0) && (decide (i=0) || dLt es[i-1]!.dot es[i]!.dot)
def okL(es:List Entry):Bool:=Af8 (Av3 es) es.length
def E3(es:List Entry):Int:=if okL es=true then 0 else 1
def B9g(es:List Entry)(i:Int):Prop:=0≤i∧i≤es.length∧∀ j:Nat,(j:Int) < i→Av3 es j=true
def decL(es:List Entry)(i:Int):Nat:=(es.length-i).toNat
theorem A7d{es:List Entry}{i:Nat}(hi:i < es.length)(h:Av3 es i=false):E3 es=1:=by
 unfold E3 okL
 rw[if_neg]
 intro k
 have:=(I6 _ _).1 k i hi
 rw[h]at this;cases this
theorem B0v{es:List Entry}(h:∀ j:Nat,j < es.length→Av3 es j=true):E3 es=0:=by
 unfold E3 okL
 rw[if_pos ((I6 _ _).2 h)]
theorem V5(es:List Entry)(i:Nat):Av3 es i=true↔A4r es[i]! = 0∧(i=0∨dLt es[i-1]!.dot es[i]!.dot=true):=by
 unfold Av3
 rw[Bool.and_eq_true,Bool.or_eq_true,decide_eq_true_iff,decide_eq_true_iff]
theorem A9q{es:List Entry}{i:Int}(h0:0≤i)(h1:i < es.length)(h2:∀ j:Nat,(j:Int) < i→Av3 es j=true)(h:Av3 es i.toNat=true):B9g es (i+1) :=
 ⟨by omega,by omega,fun j hj=>by
  by_cases e:j=i.toNat
  ·rw[e];exact h
  ·exact h2 j (by omega)⟩
theorem A7e{es:List Entry}{i:Nat}(h:¬ Av3 es i=true):Av3 es i=false:=by simpa using h
theorem B9h(e:Entry):Con Tryz.prog 98 [.agg (c46 e)] (.i .i64 (A4r e)) :=
 by
 refine sC A6 [.tmp 2] 39 Tryz.func98 ?_
 intro e0 cx
 refine sq<|rG cx [1] [1] z0<|sn<|sq<|bL 0<|sq<|B1 (σ':=⟨[(1,.ptr (1) (0) (0) (0)),(3,.b (decide (e.dot.rep <(0:Int)∨16≤e.dot.rep)))],[(1,⟨0,46,.var [.i .i64 (e.dot.rep),.i .i64 (e.dot.num),.s (e.sku),.i .i64 (e.qty)]⟩)]⟩) ?_ ?_
 refine A5 (e.dot.rep <(0:Int)) (fun h_1=>?_) (fun h_1=>?_)
 refine rG cx [1,3] [1] (tT 3 (A4 h_1) (tD 10 true (e.dot.rep <(0:Int)∨16≤e.dot.rep) (by simp only [eq_true h_1,tsl]) z0)) ?_
 exact⟨rfl,by kernel_rfl⟩
 refine rG cx [1,3] [1] (tT 3 (A0 h_1) (tB 8 (16≤e.dot.rep) (tD 10 (decide (16≤e.dot.rep)) (e.dot.rep <(0:Int)∨16≤e.dot.rep) (by simp only [eq_false h_1,tsl]) z0))) ?_
 exact⟨rfl,by kernel_rfl⟩
 refine sn<|dC (e.dot.rep <(0:Int)∨16≤e.dot.rep) (fun h2=>?_) fun h2=>?_
 refine sq<|rG cx [2] [] z0<|sn<|rT<|bR<|nR<|qR (.i .i64 ((3:Int))) (.eq ?g0);rotate_left
 refine sq<|B1 (σ':=⟨[(1,.ptr (1) (0) (0) (0)),(14,.b (decide (e.dot.num <(1:Int)∨(1000000000:Int) < e.dot.num)))],[(1,⟨0,46,.var [.i .i64 (e.dot.rep),.i .i64 (e.dot.num),.s (e.sku),.i .i64 (e.qty)]⟩)]⟩) ?_ ?_
 refine A5 (e.dot.num <(1:Int)) (fun h_4=>?_) (fun h_4=>?_)
 refine rG cx [1,14] [1] (tT 3 (A4 h_4) (tD 10 true (e.dot.num <(1:Int)∨(1000000000:Int) < e.dot.num) (by simp only [eq_true h_4,tsl]) z0)) ?_
 exact⟨rfl,by kernel_rfl⟩
 refine rG cx [1,14] [1] (tT 3 (A0 h_4) (tB 8 ((1000000000:Int) < e.dot.num) (tD 10 (decide ((1000000000:Int) < e.dot.num)) (e.dot.num <(1:Int)∨(1000000000:Int) < e.dot.num) (by simp only [eq_false h_4,tsl]) z0))) ?_
 exact⟨rfl,by kernel_rfl⟩
 refine sn<|dC (e.dot.num <(1:Int)∨(1000000000:Int) < e.dot.num) (fun h5=>?_) fun h5=>?_
 refine sq<|rG cx [2] [] z0<|sn<|rT<|bR<|nR<|qR (.i .i64 ((2:Int))) (.eq ?g1);rotate_left
 refine sq<|rG cx [1,25] [1] (fT (Am2 (e.sku)) (tT 3 (C3:(AV.b !I2 e.sku)=AV.b (decide ¬I2 e.sku=true)) (oA 2 (.b (I2 e.sku)) z0)))<|sn<|dC (¬I2 e.sku=true) (fun h6=>?_) fun h6=>?_
 refine sq<|rG cx [2] [] z0<|sn<|rT<|bR<|nR<|qR (.i .i64 ((5:Int))) (.eq ?g2);rotate_left
 refine sq<|B1 (σ':=⟨[(30,.b (decide (e.qty <(1:Int)∨(1000000:Int) < e.qty)))],[]⟩) ?_ ?_
 refine A5 (e.qty <(1:Int)) (fun h_8=>?_) (fun h_8=>?_)
 refine rG cx [30] [] (tT 2 (A4 h_8) (tD 8 true (e.qty <(1:Int)∨(1000000:Int) < e.qty) (by simp only [eq_true h_8,tsl]) z0)) ?_
 exact⟨rfl,by kernel_rfl⟩
 refine rG cx [30] [] (tT 2 (A0 h_8) (tB 6 ((1000000:Int) < e.qty) (tD 8 (decide ((1000000:Int) < e.qty)) (e.qty <(1:Int)∨(1000000:Int) < e.qty) (by simp only [eq_false h_8,tsl]) z0))) ?_
 exact⟨rfl,by kernel_rfl⟩
 refine sn<|dC (e.qty <(1:Int)∨(1000000:Int) < e.qty) (fun h9=>?_) fun h9=>?_
 refine sq<|rG cx [2] [] z0<|sn<|rT<|bR<|nR<|qR (.i .i64 ((6:Int))) (.eq ?g3);rotate_left
 refine sK<|bN<|sn<|sq<|rG cx [2] [] z0<|sn<|rT<|qR (.i .i64 ((0:Int))) (.eq ?g4);rotate_left
 revert h2;rotate_left
 revert h2 h5;rotate_left
 revert h2 h5 h6;rotate_left
 revert h2 h5 h6 h9;rotate_left
 revert h2 h5 h6 h9;rotate_left
 case' g4=>refine(fun h k l m=>?_)
 case' g3=>refine(fun h k l m=>?_)
 case' g2=>refine(fun h k l=>?_)
 case' g1=>refine(fun h k=>?_)
 case' g0=>refine(fun h=>?_)
 all_goals (unfold A4r)
 ·rw[if_pos h]
 ·rw[if_neg h,if_pos k]
 ·rw[if_neg h,if_neg k,if_pos (by simpa using l)]
 ·rw[if_neg h,if_neg k,if_neg (by simpa using l),if_pos m]
 ·rw[if_neg h,if_neg k,if_neg (by simpa using l),if_neg m]
theorem con99(a b:Dot):Con Tryz.prog 99 [.agg (c44 a),.agg (c44 b)] (.b (dLt a b)) :=
 by
 refine sC A6 [.tmp 4] 24 Tryz.func99 ?_
 intro e0 cx
 refine sq<|rG cx [2,3] [2,3] z0<|sn<|sq<|B1 (σ':=⟨[(4,.b (decide (a.rep < b.rep∨a.rep=b.rep∧a.num < b.num)))],[]⟩) ?_ ?_
 refine A5 (a.rep < b.rep) (fun h_1=>?_) (fun h_1=>?_)
 refine rG cx [4] [] (tT 4 (A4 h_1) (tD 19 true (a.rep < b.rep∨a.rep=b.rep∧a.num < b.num) (by simp only [eq_true h_1,tsl]) z0)) ?_
 exact⟨rfl,by kernel_rfl⟩
 refine A5 (a.rep=b.rep) (fun h_2=>?_) (fun h_2=>?_)
 refine rG cx [4] [] (tT 4 (A0 h_1) (tT 10 (A4 h_2) (tB 16 (a.num < b.num) (tD 19 (decide (a.num < b.num)) (a.rep < b.rep∨a.rep=b.rep∧a.num < b.num) (by simp only [eq_false h_1,eq_true h_2,tsl]) z0)))) ?_
 exact⟨rfl,by kernel_rfl⟩
 refine rG cx [4] [] (tT 4 (A0 h_1) (tT 10 (A0 h_2) (tD 19 false (a.rep < b.rep∨a.rep=b.rep∧a.num < b.num) (by simp only [eq_false h_1,eq_false h_2,tsl]) z0))) ?_
 exact⟨rfl,by kernel_rfl⟩
 refine sn<|rT<|qR (.b (decide (a.rep < b.rep∨a.rep=b.rep∧a.num < b.num))) (.eq ?g0);rotate_left
 case g0=>exact rfl
theorem A44(es:List Entry):Con Tryz.prog 24 [.sl (es.map c46)] (.i .i64 (E3 es)) :=
 by
 have e:∀ {i:Int},0≤i→(i-1).toNat=i.toNat-1:=fun {i} h=>by omega
 refine lN 0 c46 (es) Tryz.func24 fun hl_0=>sC A6 [.tmp 2] 32 Tryz.func24 ?_
 intro e0 cx
 refine sq<|rG cx [0] [] z0<|sn<|sq<|sq<|rG cx [0,5,6,7] [] (tL 1 c46 es z0)<|sn<|bL 0<|sL (X:=Int) (fun x=>⟨[(0,.sl (List.map c46 es)),(5,.sl (List.map c46 es)),(6,.i .i64 ((↑es.length:Int))),(7,.i .i64 (x))],[]⟩) (fun x ↦ decL es x) (fun x ↦ B9g es x) [0,5,6,7] [] ((0:Int)) (show B9g es (0:Int)from ?g0) ?_;rotate_left
 intro i0 h_1
 obtain⟨hh2,hh3,hh4⟩:0≤i0∧i0≤(↑es.length:Int)∧∀(j:Nat),(↑j:Int) < i0→Av3 es j=true:=h_1
 refine rE cx [0,5,6,7,8] [] (zB 0 (i0 <(↑es.length:Int))) (fun hh5=>?_) fun hh5=>?_
 refine sK<|sn<|sq<|bL 1<|sq<|rG cx [0,5,6,7,4,3] [4] (fA (0≤i0) (fG c46 es i0.toNat (fR 4 (fN 4 4 (oR 1 (c46 es[i0.toNat]!) z0)))))<|sn<|sq<|B1 (σ':=⟨[(0,.sl (List.map c46 es)),(5,.sl (List.map c46 es)),(6,.i .i64 ((↑es.length:Int))),(7,.i .i64 (i0)),(30,.b (decide (¬A4r es[i0.toNat]! =(0:Int)∨(0:Int) < i0∧¬dLt es[(i0-1).toNat]!.dot es[i0.toNat]!.dot=true)))],[]⟩) ?_ ?_
 refine A5 (¬A4r es[i0.toNat]! =(0:Int)) (fun h_7=>?_) (fun h_7=>?_)
 refine rA cx [0,5,6,7,30] [] (fT (B9h (es[i0.toNat]!)) (tT 2 (H2 h_7:AV.b (A4r es[i0.toNat]! !=0)=AV.b true) (tD 18 true (¬A4r es[i0.toNat]! =(0:Int)∨(0:Int) < i0∧¬dLt es[(i0-1).toNat]!.dot es[i0.toNat]!.dot=true) (by simp only [eq_false h_7,tsl]) (oA 1 (.i .i64 (A4r es[i0.toNat]!)) z0)))) ?_
 exact⟨rfl,by kernel_rfl⟩
 refine A5 ((0:Int) < i0) (fun h_8=>?_) (fun h_8=>?_)
 refine rA cx [0,5,6,7,30] [] (fT (B9h (es[i0.toNat]!)) (tN 2 (A4r es[i0.toNat]!) (0:Int) (tT 3 (A0 h_7) (tT 5 (A4 h_8) (tW 9 (i0-1) (fO (0≤i0-1) (fG c46 es ((i0-1).toNat) (fR 4 (fN 2 4 (fT (con99 (es[(i0-1).toNat]!.dot) (es[i0.toNat]!.dot)) (tT 16 (C3:(AV.b !dLt es[(i0-1).toNat]!.dot es[i0.toNat]!.dot)=AV.b (decide ¬dLt es[(i0-1).toNat]!.dot es[i0.toNat]!.dot=true)) (tT 18 (by first | (simp only [eq_false h_7,eq_true h_8,tsl];done) | simp_all:AV.b (decide ¬dLt es[(i0-1).toNat]!.dot es[i0.toNat]!.dot=true)=AV.b (decide (¬A4r es[i0.toNat]! =(0:Int)∨(0:Int) < i0∧¬dLt es[(i0-1).toNat]!.dot es[i0.toNat]!.dot=true))) (oA 1 (.i .i64 (A4r es[i0.toNat]!)) (oR 10 (c46 es[(i0-1).toNat]!) (oA 15 (.b (dLt es[(i0-1).toNat]!.dot es[i0.toNat]!.dot)) z0))))))))))))))) ?_
 exact⟨rfl,by kernel_rfl⟩
 refine rA cx [0,5,6,7,30] [] (fT (B9h (es[i0.toNat]!)) (tN 2 (A4r es[i0.toNat]!) (0:Int) (tT 3 (A0 h_7) (tT 5 (A0 h_8) (tT 18 (by first | (simp only [eq_false h_7,eq_false h_8,tsl];done) | simp_all:AV.b false=AV.b (decide (¬A4r es[i0.toNat]! =(0:Int)∨(0:Int) < i0∧¬dLt es[(i0-1).toNat]!.dot es[i0.toNat]!.dot=true))) (oA 1 (.i .i64 (A4r es[i0.toNat]!)) z0)))))) ?_
 exact⟨rfl,by kernel_rfl⟩
 refine sn<|dC (¬A4r es[i0.toNat]! =(0:Int)∨(0:Int) < i0∧¬dLt es[(i0-1).toNat]!.dot es[i0.toNat]!.dot=true) (fun h9=>?_) fun h9=>?_
 refine sq<|rG cx [2] [] z0<|sn<|rT<|bR<|nR<|nR<|bR<|nR<|qR (.i .i64 ((1:Int))) (.eq ?g1);rotate_left
 refine sK<|bN<|sn<|rG cx [0,5,6,7] [] (tW 0 (i0+1) z0)<|sn<|nX (i0+1) (show((↑es.length:Int)-(i0+1)).toNat <((↑es.length:Int)-i0).toNat from(by omega)) (show B9g es (i0+1)from ?g2);rotate_left
 refine eX 0<|nE<|nE<|bH<|sn<|sq<|rG cx [2] [] z0<|sn<|rT<|qR (.i .i64 ((0:Int))) (.eq ?g3);rotate_left
 rotate_left
 revert i0 hh2 hh3 hh4 hh5 h9;rotate_left
 revert i0 hh2 hh3 hh4 hh5 h9;rotate_left
 revert i0 hh2 hh3 hh4 hh5;rotate_left
 case g0=>exact⟨by omega,by omega,fun j hj=>by omega⟩
 case' g3=>refine(fun i h0 h1 h2 h3=>?_)
 case' g2=>refine(fun i h0 h1 h2 h3 h4=>?_)
 case' g1=>refine(fun i h0 h1 h2 h3 h4=>?_)
 ·rw[A7d (i:=i.toNat) (by omega) (A7e _)]
  rw[e h0]at h4
  rw[V5];rintro⟨a,b⟩
  rcases h4 with h4 | ⟨h4,h5⟩
  ·exact h4 a
  ·rcases b with b | b
   ·omega
   ·exact h5 b
 ·rw[e h0]at h4
  refine A9q h0 h3 h2 ((V5 _ _).2 ⟨Classical.byContradiction fun a=>h4 (.inl a),?_⟩)
  by_cases c:i.toNat=0
  ·exact .inl c
  ·exact .inr (Classical.byContradiction fun a=>h4 (.inr ⟨by omega,a⟩))
 ·rw[B0v fun j hj=>h2 j (by omega)]
end Go.Proofs.YtphcaholhacnpaaGreat
namespace Go.Proofs.YtphcaholhacnpaaGreat
open Go.E
set_option maxRecDepth 100000
set_option maxHeartbeats 4000000
def ofV(es:List Entry)(sku:ByteArray):List Entry×Int :=
 if okL es=true then(if I2 sku=true then(es.filter (fun e=>decide (e.sku=sku)),0)else([],5))else([],1)
def B9i(p:Entry→Bool)(es:List Entry)(i:Int)(l:List Entry):Prop:=0≤i∧i≤es.length∧l=(es.take i.toNat).filter p∧(l.length:Int)≤i
def decP(es:List Entry)(i:Int)(l:List Entry):Nat:=(es.length-i).toNat
theorem A45{p:Entry→Bool}{es:List Entry}{i:Int}(h0:0≤i)(h:i < es.length):(es.take (i+1).toNat).filter p=if p es[i.toNat]! = true then(es.take i.toNat).filter p++[es[i.toNat]!]else(es.take i.toNat).filter p:=by
 rw[← C8 h0 h,List.filter_append]
 by_cases hp:p es[i.toNat]! = true
 ·rw[if_pos hp,List.filter_cons_of_pos hp,List.filter_nil]
 ·rw[if_neg hp,List.filter_cons_of_neg hp,List.filter_nil,List.append_nil]
theorem B0w(p:Entry→Bool)(es:List Entry):B9i p es 0 []:=⟨by omega,by omega,by simp,by simp⟩
theorem B4z{p:Entry→Bool}{es l:List Entry}{i:Int}(h0:0≤i)(h2:l=(es.take i.toNat).filter p)(h3:(l.length:Int)≤i)(h4:i < es.length)(h:p es[i.toNat]! = true):B9i p es (i+1) (l++[es[i.toNat]!]) :=
 ⟨by omega,by omega,by rw[A45 h0 h4,if_pos h,h2],by rw[List.length_append,List.length_cons,List.length_nil];omega⟩
theorem B0x{p:Entry→Bool}{es l:List Entry}{i:Int}(h0:0≤i)(h2:l=(es.take i.toNat).filter p)(h3:(l.length:Int)≤i)(h4:i < es.length)(h:¬ p es[i.toNat]! = true):B9i p es (i+1) l :=
 ⟨by omega,by omega,by rw[A45 h0 h4,if_neg h,h2],by omega⟩
theorem B0y{p:Entry→Bool}{es l:List Entry}{i:Int}(h2:l=(es.take i.toNat).filter p)(h4:¬ i < es.length):l=es.filter p:=by
 rw[h2,List.take_of_length_le (by omega)]
end Go.Proofs.YtphcaholhacnpaaGreat
namespace Go.Proofs.YtphcaholhacnpaaGreat
open Go.E
set_option maxRecDepth 100000
set_option maxHeartbeats 4000000
theorem A9r{e:Entry}(h:A4r e=0):0≤e.dot.rep∧e.dot.rep < 16∧1≤e.dot.num∧e.dot.num≤1000000000:=by
 unfold A4r at h
 split at h
 ·cases h
 ·split at h
  ·cases h
  ·omega
theorem A2h{es:List Entry}(h:okL es=true){i:Nat}(hi:i < es.length):A4r es[i]! = 0∧(i=0∨dLt es[i-1]!.dot es[i]!.dot=true):=(V5 _ _).1 ((I6 _ _).1 h i hi)
theorem B0z{es:List Entry}(h:okL es=true):∀ i:Nat,i < es.length→(i:Int)+1≤es[i]!.dot.rep*1000000000+es[i]!.dot.num
 | 0,hi=>by have:=A9r (A2h h hi).1;omega
 | i+1,hi=>by
  have h1:=B0z h i (by omega)
  have h2:=A9r (A2h h hi).1
  have h3:=A9r (A2h h (show i < es.length by omega)).1
  have h4:=(A2h h hi).2
  rcases h4 with h4 | h4
  ·omega
  ·simp only [Nat.add_sub_cancel,dLt,decide_eq_true_eq]at h4
   omega
theorem A0m{es:List Entry}(h:okL es=true):es.length≤16000000000:=by
 by_cases h0:es.length=0
 ·omega
 ·have h1:=B0z h (es.length-1) (by omega)
  have h2:=A9r (A2h h (show es.length-1 < es.length by omega)).1
  omega
theorem W4{es:List Entry}(h:E3 es=0):okL es=true:=by
 unfold E3 at h
 split at h
 ·assumption
 ·cases h
theorem B7e{es:List Entry}(h:¬ E3 es=0):¬ okL es=true:=fun k=>h (by unfold E3;rw[if_pos k])
end Go.Proofs.YtphcaholhacnpaaGreat
namespace Go.Proofs.YtphcaholhacnpaaGreat
open Go.E
set_option maxRecDepth 100000
set_option maxHeartbeats 4000000
def A1s(r:Record)(e:Entry):Bool:=decide (r.sku=noneS∨r.sku=e.sku) && C7 r.past e.dot
def C4(rs:List Record)(e:Entry):Int:=(rs.filter fun r=>A1s r e).length
def K3(r:Record)(rs:List Record):List Record:=r :: rs.takeWhile fun x=>decide (x.sku=r.sku)
def A51(r:Record)(rs:List Record):List Record:=rs.dropWhile fun x=>decide (x.sku=r.sku)
theorem A9s(r:Record)(rs:List Record):(A51 r rs).length≤rs.length:=(List.dropWhile_sublist _).length_le
noncomputable def A46(all:Past)(r:Record)(rs:List Record):Past:=if r.sku=noneS then D1 ((K3 r rs).map fun x=>x.past)else B3 (D1 ((K3 r rs).map fun x=>x.past)) all
noncomputable def allG(all:Past)(r:Record)(rs:List Record):Past:=if r.sku=noneS then D1 ((K3 r rs).map fun x=>x.past)else all
noncomputable def V6(all:Past)(out:List Record):List Record→List Record
 | []=>out
 | r :: rs=>V6 (allG all r rs) (if B8 (A46 all r rs)=0 then out else out++[⟨r.sku,A46 all r rs⟩]) (A51 r rs)
termination_by l=>l.length
decreasing_by
 have:=A9s r rs
 simp only [List.length_cons]
 omega
noncomputable def P7(rs:List Record):List Record×Int:=if F0 rs=0 then(V6 ⟨[],[]⟩ [] rs,0)else([],1)
theorem A47(all:Past)(out:List Record):V6 all out []=out:=by rw[V6]
theorem A63(all:Past)(out:List Record)(r:Record)(rs:List Record):V6 all out (r :: rs)=V6 (allG all r rs) (if B8 (A46 all r rs)=0 then out else out++[⟨r.sku,A46 all r rs⟩]) (A51 r rs):=by rw[V6]
theorem At3(r:Record)(rs:List Record):K3 r rs++A51 r rs=r :: rs:=by
 unfold K3 A51
 rw[List.cons_append,List.takeWhile_append_dropWhile]
theorem Am4{α:Type}{p:α→Bool}{x:α}:∀ {l:List α},x∈l.takeWhile p→p x=true
 | [],h=>by cases h
 | y :: l,h=>by
  rw[List.takeWhile_cons]at h
  split at h
  ·rcases List.mem_cons.1 h with rfl | h
   ·assumption
   ·exact Am4 h
  ·cases h
theorem A9t{r:Record}{rs:List Record}{x:Record}(h:x∈K3 r rs):x.sku=r.sku:=by
 unfold K3 at h
 rcases List.mem_cons.1 h with rfl | h
 ·rfl
 ·have:=Am4 h
  simpa using this
theorem A0n{r:Record}{e:Entry}:A1s r e=true↔(r.sku=noneS∨r.sku=e.sku)∧C7 r.past e.dot=true:=by
 unfold A1s
 rw[Bool.and_eq_true,decide_eq_true_iff]
theorem B50(e:Entry):∀(n:Nat) (l:List Record),l.length≤n→∀(all:Past) (out:List Record),(∀ d,C7 all d=true→∃ r∈out,r.sku=noneS∧C7 r.past d=true) →
  ((∃ r∈V6 all out l,A1s r e=true)↔(∃ r∈out,A1s r e=true)∨∃ r∈l,A1s r e=true):=by
 intro n
 induction n with
 | zero =>
  intro l hl all out _
  have:l=[]:=List.eq_nil_of_length_eq_zero (by omega)
  subst this
  rw[A47]
  simp
 | succ n ih =>
  intro l hl all out hP
  cases l with
  | nil=>rw[A47];simp
  | cons r rs =>
   have hlen:=A9s r rs
   simp only [List.length_cons]at hl
   have hj:∀ d,C7 (D1 ((K3 r rs).map fun x=>x.past)) d=true↔∃ x∈K3 r rs,C7 x.past d=true:=fun d=>by
    rw[Al6,List.any_map,List.any_eq_true]
    simp only [Function.comp]
   have hg:(∃ x∈K3 r rs,A1s x e=true)↔(r.sku=noneS∨r.sku=e.sku)∧C7 (D1 ((K3 r rs).map fun x=>x.past)) e.dot=true:=by
    rw[hj]
    constructor
    ·rintro⟨x,hx,h⟩
     obtain⟨h1,h2⟩:=A0n.1 h
     rw[A9t hx]at h1
     exact⟨h1,x,hx,h2⟩
    ·rintro⟨h1,x,hx,h2⟩
     exact⟨x,hx,A0n.2 ⟨by rw[A9t hx];exact h1,h2⟩⟩
   have hs:(∃ x∈r :: rs,A1s x e=true)↔(∃ x∈K3 r rs,A1s x e=true)∨∃ x∈A51 r rs,A1s x e=true:=by
    rw[← At3 r rs]
    constructor
    ·rintro⟨x,hx,h⟩
     rcases List.mem_append.1 hx with hx | hx
     ·exact .inl ⟨x,hx,h⟩
     ·exact .inr ⟨x,hx,h⟩
    ·rintro(⟨x,hx,h⟩ | ⟨x,hx,h⟩)
     ·exact⟨x,List.mem_append.2 (.inl hx),h⟩
     ·exact⟨x,List.mem_append.2 (.inr hx),h⟩
   -- what the group's own record covers,beside what was there
   have own:∀ q:Past,(r.sku=noneS→∀ d,C7 q d=C7 (D1 ((K3 r rs).map fun x=>x.past)) d)→(¬ r.sku=noneS→∀ d,C7 q d=(C7 (D1 ((K3 r rs).map fun x=>x.past)) d && !C7 all d)) →
     ((∃ x∈(if B8 q=0 then out else out++[⟨r.sku,q⟩]),A1s x e=true)↔(∃ x∈out,A1s x e=true)∨∃ x∈K3 r rs,A1s x e=true):=by
    intro q hq1 hq2
    have hmem:(∃ x∈(if B8 q=0 then out else out++[⟨r.sku,q⟩]),A1s x e=true)↔(∃ x∈out,A1s x e=true)∨((r.sku=noneS∨r.sku=e.sku)∧C7 q e.dot=true):=by
     split
     ·rename_i h0
      have:=(S7 q).1 h0 e.dot
      rw[this]
      simp
     ·constructor
      ·rintro⟨x,hx,h⟩
       rcases List.mem_append.1 hx with hx | hx
       ·exact .inl ⟨x,hx,h⟩
       ·have:x=⟨r.sku,q⟩:=by simpa using hx
        subst this
        exact .inr (A0n.1 h)
      ·rintro(⟨x,hx,h⟩ | h)
       ·exact⟨x,by simp [hx],h⟩
       ·exact⟨⟨r.sku,q⟩,by simp,A0n.2 h⟩
    rw[hmem,hg]
    by_cases hn:r.sku=noneS
    ·rw[hq1 hn]
    ·rw[hq2 hn,Bool.and_eq_true,Bool.not_eq_true']
     constructor
     ·rintro(h | h)
      ·exact .inl h
      ·exact .inr ⟨h.1,h.2.1⟩
     ·rintro(h | ⟨h1,h2⟩)
      ·exact .inl h
      ·cases ha:C7 all e.dot with
       | false=>exact .inr ⟨h1,h2,rfl⟩
       | true =>
        obtain⟨x,hx,k1,k2⟩:=hP _ ha
        exact .inl ⟨x,hx,A0n.2 ⟨.inl k1,k2⟩⟩
   rw[A63,ih (A51 r rs) (by omega) _ _ ?_,own (A46 all r rs) ?_ ?_,hs,or_assoc]
   ·intro hn d
    unfold A46
    rw[if_pos hn]
   ·intro hn d
    unfold A46
    rw[if_neg hn,Af6]
   ·intro d hd
    unfold allG at hd
    by_cases hn:r.sku=noneS
    ·rw[if_pos hn]at hd
     have hq:A46 all r rs=D1 ((K3 r rs).map fun x=>x.past):=by unfold A46;rw[if_pos hn]
     have h0:¬ B8 (A46 all r rs)=0:=fun h0=>by
      have:=(S7 _).1 h0 d
      rw[hq,hd]at this
      cases this
     rw[if_neg h0]
     exact⟨⟨r.sku,A46 all r rs⟩,by simp,hn,by rw[hq];exact hd⟩
    ·rw[if_neg hn]at hd
     obtain⟨x,hx,k⟩:=hP d hd
     split
     ·exact⟨x,hx,k⟩
     ·exact⟨x,by simp [hx],k⟩
theorem A48{rs:List Record}{e:Entry}:C4 rs e=0↔¬ ∃ r∈rs,A1s r e=true:=by
 unfold C4
 constructor
 ·rintro h ⟨r,hr,k⟩
  have:0 <(rs.filter fun r=>A1s r e).length:=List.length_pos_iff.2 (List.ne_nil_of_mem (List.mem_filter.2 ⟨hr,k⟩))
  omega
 ·intro h
  have:rs.filter (fun r=>A1s r e)=[]:=List.filter_eq_nil_iff.2 fun r hr k=>h ⟨r,hr,k⟩
  rw[this];rfl
theorem B10(rs:List Record)(e:Entry):C4 (V6 ⟨[],[]⟩ [] rs) e=0↔C4 rs e=0:=by
 rw[A48,A48,B50 e rs.length rs (Nat.le_refl _) _ _ (fun d h=>by rw[B4u]at h;cases h)]
 simp
noncomputable def G7(es:List Entry)(rs:List Record):List Entry×Int:=if E3 es=0∧F0 rs=0 then(es.filter fun e=>decide (C4 rs e=0),0)else([],1)
def A52(rs:List Record):Nat:=(rs.map fun r=>r.past.cloud.length+1).sum
def tokR(rs:List Record):Prop:=A52 rs*16≤140737488350000∧rs.length*64≤140737488350000
end Go.Proofs.YtphcaholhacnpaaGreat
namespace Go.Proofs.YtphcaholhacnpaaGreat
open Go.E
set_option maxRecDepth 100000
set_option maxHeartbeats 4000000
def Ag0(x y:List Run)(i j:Int)(o:List Run):Prop:=o++R3 (x.drop i.toNat) (y.drop j.toNat)=R3 x y
def At4(x y:List Run)(i j:Int)(o:List Run):Prop:=0≤i∧i≤x.length∧0≤j∧j≤y.length∧(o.length:Int)≤i+j∧Ag0 x y i j o
def decMe(x y:List Run)(i j:Int)(o:List Run):Nat:=(x.length-i+(y.length-j)).toNat
theorem B51{a:List Run}{i:Int}(h0:0≤i)(h:i < a.length):a.drop i.toNat=a[i.toNat]! :: a.drop (i+1).toNat:=by
 rw[show(i+1).toNat=i.toNat+1 by omega,getElem!_pos a i.toNat (by omega)]
 exact List.drop_eq_getElem_cons (by omega)
theorem Am5{a:List Run}{i:Int}(h:¬ i < a.length):a.drop i.toNat=[]:=List.drop_of_length_le (by omega)
theorem A7f{x y o:List Run}{i j:Int}(h0:0≤i)(hi:i < x.length)(j0:0≤j)(hj:j < y.length)(h:Ag0 x y i j o) :
  (o++if max x[i.toNat]!.lo y[j.toNat]!.lo≤min x[i.toNat]!.hi y[j.toNat]!.hi then[⟨max x[i.toNat]!.lo y[j.toNat]!.lo,min x[i.toNat]!.hi y[j.toNat]!.hi⟩]else[]) ++
   (if x[i.toNat]!.hi < y[j.toNat]!.hi then R3 (x.drop (i+1).toNat) (y.drop j.toNat)else R3 (x.drop i.toNat) (y.drop (j+1).toNat))=R3 x y:=by
 unfold Ag0 at h
 rw[← h,B51 h0 hi,B51 j0 hj,Z8,List.append_assoc]
theorem me_in1{x y o:List Run}{i j:Int}(h0:0≤i)(hi:i < x.length)(j0:0≤j)(hj:j < y.length)(h:Ag0 x y i j o)(c:max x[i.toNat]!.lo y[j.toNat]!.lo≤min x[i.toNat]!.hi y[j.toNat]!.hi)(d:x[i.toNat]!.hi < y[j.toNat]!.hi) :
  Ag0 x y (i+1) j (o++[⟨max x[i.toNat]!.lo y[j.toNat]!.lo,min x[i.toNat]!.hi y[j.toNat]!.hi⟩]):=by
 have:=A7f h0 hi j0 hj h
 rw[if_pos c,if_pos d]at this
 exact this
theorem me_in2{x y o:List Run}{i j:Int}(h0:0≤i)(hi:i < x.length)(j0:0≤j)(hj:j < y.length)(h:Ag0 x y i j o)(c:max x[i.toNat]!.lo y[j.toNat]!.lo≤min x[i.toNat]!.hi y[j.toNat]!.hi)(d:¬ x[i.toNat]!.hi < y[j.toNat]!.hi) :
  Ag0 x y i (j+1) (o++[⟨max x[i.toNat]!.lo y[j.toNat]!.lo,min x[i.toNat]!.hi y[j.toNat]!.hi⟩]):=by
 have:=A7f h0 hi j0 hj h
 rw[if_pos c,if_neg d]at this
 exact this
theorem B9j{x y o:List Run}{i j:Int}(h0:0≤i)(hi:i < x.length)(j0:0≤j)(hj:j < y.length)(h:Ag0 x y i j o)(c:¬ max x[i.toNat]!.lo y[j.toNat]!.lo≤min x[i.toNat]!.hi y[j.toNat]!.hi)(d:x[i.toNat]!.hi < y[j.toNat]!.hi):Ag0 x y (i+1) j o:=by
 have:=A7f h0 hi j0 hj h
 rw[if_neg c,if_pos d,List.append_nil]at this
 exact this
theorem B9k{x y o:List Run}{i j:Int}(h0:0≤i)(hi:i < x.length)(j0:0≤j)(hj:j < y.length)(h:Ag0 x y i j o)(c:¬ max x[i.toNat]!.lo y[j.toNat]!.lo≤min x[i.toNat]!.hi y[j.toNat]!.hi)(d:¬ x[i.toNat]!.hi < y[j.toNat]!.hi):Ag0 x y i (j+1) o:=by
 have:=A7f h0 hi j0 hj h
 rw[if_neg c,if_neg d,List.append_nil]at this
 exact this
theorem me_end{x y o:List Run}{i j:Int}(hn:¬(i < x.length∧j < y.length))(h:Ag0 x y i j o):o=R3 x y:=by
 unfold Ag0 at h
 by_cases hi:i < x.length
 ·rw[Am5 (a:=y) (i:=j) (fun k=>hn ⟨hi,k⟩),Z7,List.append_nil]at h
  exact h
 ·rw[Am5 hi,M1,List.append_nil]at h
  exact h
theorem B52(x y:List Run):Ag0 x y 0 0 []:=rfl
def Av4(n:List Run)(x i:Int)(o:List Run):Prop:=o++A2n x (n.drop i.toNat)=A2n 1 n
def B53(n:List Run)(x i:Int)(o:List Run):Prop:=0≤i∧i≤n.length∧(o.length:Int)≤i∧1≤x∧x≤1000000001∧Av4 n x i o
def decOt(n:List Run)(x i:Int)(o:List Run):Nat:=(n.length-i).toNat
theorem ot_in{n o:List Run}{x i:Int}(h0:0≤i)(hi:i < n.length)(h:Av4 n x i o)(c:x < n[i.toNat]!.lo):Av4 n (n[i.toNat]!.hi+1) (i+1) (o++[⟨x,n[i.toNat]!.lo-1⟩]):=by
 unfold Av4 at *
 rw[B51 h0 hi,A2n,if_pos c,← List.append_assoc]at h
 exact h
theorem ot_out{n o:List Run}{x i:Int}(h0:0≤i)(hi:i < n.length)(h:Av4 n x i o)(c:¬ x < n[i.toNat]!.lo):Av4 n (n[i.toNat]!.hi+1) (i+1) o:=by
 unfold Av4 at *
 rw[B51 h0 hi,A2n,if_neg c,List.nil_append]at h
 exact h
theorem B9l{n o:List Run}{x i:Int}(hi:¬ i < n.length)(h:Av4 n x i o)(c:x≤1000000000):o++[⟨x,1000000000⟩]=A2n 1 n:=by
 unfold Av4 at h
 rw[Am5 hi,A2n,if_pos c]at h
 exact h
theorem B9m{n o:List Run}{x i:Int}(hi:¬ i < n.length)(h:Av4 n x i o)(c:¬ x≤1000000000):o=A2n 1 n:=by
 unfold Av4 at h
 rw[Am5 hi,A2n,if_neg c,List.append_nil]at h
 exact h
def B9n(A B:Nat→List Run)(r:Int)(T:Nat→List Run):Prop:=∀ k:Nat,k < 16→T k=if(k:Int) < r then V3 (A k) (B k)else A k
def B9o(A B:Nat→List Run)(r:Int)(T U:Nat→List Run):Prop:=U=B∧0≤r∧r≤16∧B9n A B r T
def decEa(r:Int)(T U:Nat→List Run):Nat:=(16-r).toNat
theorem B54(A B:Nat→List Run):B9n A B 0 A:=fun k _=>by rw[if_neg (by omega)]
theorem ea_at{A B T:Nat→List Run}{r:Int}(h0:0≤r)(h1:r < 16)(h:B9n A B r T):T r.toNat=A r.toNat:=by
 rw[h r.toNat (by omega),if_neg (by omega)]
theorem B9p{A B T:Nat→List Run}{r:Int}(h0:0≤r)(h1:r < 16)(h:B9n A B r T):B9n A B (r+1) (J8 T r.toNat (V3 (T r.toNat) (B r.toNat))):=by
 intro k hk
 unfold J8
 by_cases e:k=r.toNat
 ·subst e
  rw[if_pos rfl,if_pos (by omega),ea_at h0 h1 h]
 ·rw[if_neg e,h k hk]
  by_cases c:(k:Int) < r
  ·rw[if_pos c,if_pos (by omega)]
  ·rw[if_neg c,if_neg (by omega)]
theorem ea_end{A B T:Nat→List Run}{r:Int}(hr:r≤16)(h1:¬ r < 16)(h:B9n A B r T):E8 T=E8 fun k=>V3 (A k) (B k):=O4 fun k hk=>by
 rw[h k hk,if_pos (by omega)]
theorem con224(a b:List Run)(ha:a.length*16≤140737488351232)(hb:b.length*16≤140737488351232):Con Tryz.prog 224 [.sl (a.map c206),.sl (b.map c206)] (.sl ((metR a b).map c206)) :=
 by
 have h1:=L6 (E1 a)
 have h2:=L6 (E1 b)
 refine lN 0 c206 (a) Tryz.func224 fun hl_0=>lN 1 c206 (b) Tryz.func224 fun hl_1=>sC A6 [.tmp 4] 73 Tryz.func224 ?_
 intro e0 cx
 refine sq<|rG cx [0,1] [] z0<|sn<|sq ?_
 have hl_0:=(U9 a)
 have hl_1:=(U9 b)
 refine rG cx [5,6] [] (fT (A98 (a) (by(with_reducible assumption))) (fT (A98 (b) (by(with_reducible assumption))) (oA 1 (.sl (List.map c206 (nrm a))) (oA 3 (.sl (List.map c206 (nrm b))) z0))))<|sn<|sq<|rG cx [5,6,7] [] z0<|sn<|sq<|sq<|rG cx [5,6,7,8,9] [] z0<|sn<|bL 0<|E0 7 1007 206 2 (σ':=⟨[(5,.sl (List.map c206 (nrm a))),(6,.sl (List.map c206 (nrm b))),(7,.own 1007 0),(8,.i .i64 ((0:Int))),(9,.i .i64 ((0:Int)))],[(1007,⟨0,206,.row 2 (List.map c206 [])⟩)]⟩) (by kernel_rfl)<|sL (X:=Int×Int×List Run) (fun x=>⟨[(5,.sl (List.map c206 (nrm a))),(6,.sl (List.map c206 (nrm b))),(7,.own 1007 0),(8,.i .i64 (x.1)),(9,.i .i64 (x.2.1))],[(1007,⟨0,206,.row 2 (List.map c206 x.2.2)⟩)]⟩) (fun x ↦ decMe (nrm a) (nrm b) x.1 x.2.1 x.2.2) (fun x ↦ At4 (nrm a) (nrm b) x.1 x.2.1 x.2.2) [5,6,7,8,9] [1007] (((0:Int),(0:Int),[])) (show At4 (nrm a) (nrm b) (0:Int) (0:Int) []from(by exact⟨by omega,by omega,by omega,by omega,by simp,B52 _ _⟩)) ?_
 rintro⟨i2,j3,o4⟩ h_5
 obtain⟨h6,h7,h8,h9,h10,h11⟩:0≤i2∧i2≤(↑(nrm a).length:Int)∧0≤j3∧j3≤(↑(nrm b).length:Int)∧(↑o4.length:Int)≤i2+j3∧Ag0 (nrm a) (nrm b) i2 j3 o4:=h_5
 refine sq<|sq<|B1 (σ':=⟨[(5,.sl (List.map c206 (nrm a))),(6,.sl (List.map c206 (nrm b))),(7,.own 1007 0),(8,.i .i64 (i2)),(9,.i .i64 (j3)),(24,.b (decide (i2 <(↑(nrm a).length:Int)∧j3 <(↑(nrm b).length:Int))))],[(1007,⟨0,206,.row 2 (List.map c206 o4)⟩)]⟩) ?_ ?_
 refine A5 (i2 <(↑(nrm a).length:Int)) (fun h_13=>?_) (fun h_13=>?_)
 refine rG cx [5,6,7,8,9,24] [1007] (tL 2 c206 (nrm a) (tT 3 (A4 h_13) (tL 7 c206 (nrm b) (tB 8 (j3 <(↑(nrm b).length:Int)) (tD 9 (decide (j3 <(↑(nrm b).length:Int))) (i2 <(↑(nrm a).length:Int)∧j3 <(↑(nrm b).length:Int)) (by simp only [eq_true h_13,tsl]) z0))))) ?_
 exact⟨rfl,by kernel_rfl⟩
 refine rG cx [5,6,7,8,9,24] [1007] (tL 2 c206 (nrm a) (tT 3 (A0 h_13) (tD 9 false (i2 <(↑(nrm a).length:Int)∧j3 <(↑(nrm b).length:Int)) (by simp only [eq_false h_13,tsl]) z0))) ?_
 exact⟨rfl,by kernel_rfl⟩
 refine sn<|dC (i2 <(↑(nrm a).length:Int)∧j3 <(↑(nrm b).length:Int)) (fun h14=>?_) fun h14=>?_
 refine sK<|sn<|bL 1<|sq<|rA cx [5,6,7,8,9,10] [1007,10] (fA (0≤i2) (fG c206 (nrm a) i2.toNat (fR 2 (fA (0≤j3) (fG c206 (nrm b) j3.toNat (fR 2 (tT 10 (A2v:AV.i .i64 (if(nrm b)[j3.toNat]!.lo >(nrm a)[i2.toNat]!.lo then(nrm b)[j3.toNat]!.lo else(nrm a)[i2.toNat]!.lo)=AV.i .i64 (max (nrm a)[i2.toNat]!.lo (nrm b)[j3.toNat]!.lo)) (fA (0≤i2) (fG c206 (nrm a) i2.toNat (fR 2 (fA (0≤j3) (fG c206 (nrm b) j3.toNat (fR 2 (tT 21 (A2w:AV.i .i64 (if(nrm b)[j3.toNat]!.hi <(nrm a)[i2.toNat]!.hi then(nrm b)[j3.toNat]!.hi else(nrm a)[i2.toNat]!.hi)=AV.i .i64 (min (nrm a)[i2.toNat]!.hi (nrm b)[j3.toNat]!.hi)) (oR 2 (c206 (nrm a)[i2.toNat]!) (oR 7 (c206 (nrm b)[j3.toNat]!) (oR 13 (c206 (nrm a)[i2.toNat]!) (oR 18 (c206 (nrm b)[j3.toNat]!) z0))))))))))))))))))<|sn<|sq<|rD cx [5,6,7,8,9,10,52] [1007,10] (zB 4 (max (nrm a)[i2.toNat]!.lo (nrm b)[j3.toNat]!.lo≤min (nrm a)[i2.toNat]!.hi (nrm b)[j3.toNat]!.hi)) (fun h15=>?_) fun h15=>?_
 refine rG cx [5,6,7,8,9] [1007] (fR 206 (fR 2 (fR 2 (fX c206 [{ lo:=max (nrm a)[i2.toNat]!.lo (nrm b)[j3.toNat]!.lo,hi:=min (nrm a)[i2.toNat]!.hi (nrm b)[j3.toNat]!.hi:Run }] 2 (fS c206 o4 c206 [{ lo:=max (nrm a)[i2.toNat]!.lo (nrm b)[j3.toNat]!.lo,hi:=min (nrm a)[i2.toNat]!.hi (nrm b)[j3.toNat]!.hi:Run }] (fP (((List.map c206 o4).length+(List.map c206 [{ lo:=max (nrm a)[i2.toNat]!.lo (nrm b)[j3.toNat]!.lo,hi:=min (nrm a)[i2.toNat]!.hi (nrm b)[j3.toNat]!.hi:Run }]).length)*(16:Nat)≤(140737488355328:Nat)) (by simp only [List.length_map,List.length_cons,List.length_nil];omega) (fM c206 o4 [{ lo:=max (nrm a)[i2.toNat]!.lo (nrm b)[j3.toNat]!.lo,hi:=min (nrm a)[i2.toNat]!.hi (nrm b)[j3.toNat]!.hi:Run }] (oV 3 { rows:=some (List.map c206 (o4++[{ lo:=max (nrm a)[i2.toNat]!.lo (nrm b)[j3.toNat]!.lo,hi:=min (nrm a)[i2.toNat]!.hi (nrm b)[j3.toNat]!.hi:Run }])) } z0)))))))) ?_
 refine sn<|sq<|rA cx [5,6,7,8,9,67] [1007] (fA (0≤i2) (fG c206 (nrm a) i2.toNat (fR 2 (fA (0≤j3) (fG c206 (nrm b) j3.toNat (fR 2 (tB 10 ((nrm a)[i2.toNat]!.hi <(nrm b)[j3.toNat]!.hi) (oR 2 (c206 (nrm a)[i2.toNat]!) (oR 7 (c206 (nrm b)[j3.toNat]!) z0)))))))))<|sn<|dC ((nrm a)[i2.toNat]!.hi <(nrm b)[j3.toNat]!.hi) (fun h16=>?_) fun h16=>?_
 refine rG cx [5,6,7,8,9] [1007] (tW 1 (i2+1) z0)<|bN<|sn<|nX ((i2+1,j3,o4++[{ lo:=max (nrm a)[i2.toNat]!.lo (nrm b)[j3.toNat]!.lo,hi:=min (nrm a)[i2.toNat]!.hi (nrm b)[j3.toNat]!.hi:Run }])) (show((↑(nrm a).length:Int)-(i2+1)+((↑(nrm b).length:Int)-j3)).toNat <((↑(nrm a).length:Int)-i2+((↑(nrm b).length:Int)-j3)).toNat from(by omega)) (show At4 (nrm a) (nrm b) (i2+1) j3 (o4++[{ lo:=max (nrm a)[i2.toNat]!.lo (nrm b)[j3.toNat]!.lo,hi:=min (nrm a)[i2.toNat]!.hi (nrm b)[j3.toNat]!.hi:Run }])from(by exact⟨by omega,by omega,by omega,by omega,by simp only [List.length_append,List.length_cons,List.length_nil];omega,me_in1 h6 h14.1 h8 h14.2 h11 h15 h16⟩))
 refine rG cx [5,6,7,8,9] [1007] (tW 1 (j3+1) z0)<|bN<|sn<|nX ((i2,j3+1,o4++[{ lo:=max (nrm a)[i2.toNat]!.lo (nrm b)[j3.toNat]!.lo,hi:=min (nrm a)[i2.toNat]!.hi (nrm b)[j3.toNat]!.hi:Run }])) (show((↑(nrm a).length:Int)-i2+((↑(nrm b).length:Int)-(j3+1))).toNat <((↑(nrm a).length:Int)-i2+((↑(nrm b).length:Int)-j3)).toNat from(by omega)) (show At4 (nrm a) (nrm b) i2 (j3+1) (o4++[{ lo:=max (nrm a)[i2.toNat]!.lo (nrm b)[j3.toNat]!.lo,hi:=min (nrm a)[i2.toNat]!.hi (nrm b)[j3.toNat]!.hi:Run }])from(by exact⟨by omega,by omega,by omega,by omega,by simp only [List.length_append,List.length_cons,List.length_nil];omega,me_in2 h6 h14.1 h8 h14.2 h11 h15 h16⟩))
 refine sK<|sn<|sq<|rA cx [5,6,7,8,9,67] [1007] (fA (0≤i2) (fG c206 (nrm a) i2.toNat (fR 2 (fA (0≤j3) (fG c206 (nrm b) j3.toNat (fR 2 (tB 10 ((nrm a)[i2.toNat]!.hi <(nrm b)[j3.toNat]!.hi) (oR 2 (c206 (nrm a)[i2.toNat]!) (oR 7 (c206 (nrm b)[j3.toNat]!) z0)))))))))<|sn<|dC ((nrm a)[i2.toNat]!.hi <(nrm b)[j3.toNat]!.hi) (fun h17=>?_) fun h17=>?_
 refine rG cx [5,6,7,8,9] [1007] (tW 1 (i2+1) z0)<|bN<|sn<|nX ((i2+1,j3,o4)) (show((↑(nrm a).length:Int)-(i2+1)+((↑(nrm b).length:Int)-j3)).toNat <((↑(nrm a).length:Int)-i2+((↑(nrm b).length:Int)-j3)).toNat from(by omega)) (show At4 (nrm a) (nrm b) (i2+1) j3 o4 from(by exact⟨by omega,by omega,by omega,by omega,by omega,B9j h6 h14.1 h8 h14.2 h11 h15 h17⟩))
 refine rG cx [5,6,7,8,9] [1007] (tW 1 (j3+1) z0)<|bN<|sn<|nX ((i2,j3+1,o4)) (show((↑(nrm a).length:Int)-i2+((↑(nrm b).length:Int)-(j3+1))).toNat <((↑(nrm a).length:Int)-i2+((↑(nrm b).length:Int)-j3)).toNat from(by omega)) (show At4 (nrm a) (nrm b) i2 (j3+1) o4 from(by exact⟨by omega,by omega,by omega,by omega,by omega,B9k h6 h14.1 h8 h14.2 h11 h15 h17⟩))
 refine eX 0<|nE<|nE<|bH<|sn<|sq<|rG cx [4] [1007] z0<|sn<|rT<|qR (.sl (List.map c206 o4)) (.eq (by rw[me_end h14 h11];rfl))
theorem con235(n:List Run)(hn:M0 n):Con Tryz.prog 235 [.sl (n.map c206)] (.sl ((A2n 1 n).map c206)) :=
 by
 have h1:=L6 hn
 have hr:∀ i:Int,0≤i→i < n.length→1≤n[i.toNat]!.lo∧n[i.toNat]!.lo≤n[i.toNat]!.hi∧n[i.toNat]!.hi≤1000000000:=fun i h0 h1=>hn.2 _ (D9 (by omega))
 refine lN 0 c206 (n) Tryz.func235 fun hl_0=>sC A6 [.tmp 2] 37 Tryz.func235 ?_
 intro e0 cx
 refine sq<|rG cx [0] [] z0<|sn<|sq<|rG cx [0,3] [] z0<|sn<|sq<|rG cx [0,3,4] [] z0<|sn<|sq<|sq<|rG cx [3,4,7,8,9] [] (tL 1 c206 n z0)<|sn<|bL 0<|E0 3 1003 206 2 (σ':=⟨[(3,.own 1003 0),(4,.i .i64 ((1:Int))),(7,.sl (List.map c206 n)),(8,.i .i64 ((↑n.length:Int))),(9,.i .i64 ((0:Int)))],[(1003,⟨0,206,.row 2 (List.map c206 [])⟩)]⟩) (by kernel_rfl)<|sL (X:=Int×Int×List Run) (fun x=>⟨[(3,.own 1003 0),(4,.i .i64 (x.1)),(7,.sl (List.map c206 n)),(8,.i .i64 ((↑n.length:Int))),(9,.i .i64 (x.2.1))],[(1003,⟨0,206,.row 2 (List.map c206 x.2.2)⟩)]⟩) (fun x ↦ decOt n x.1 x.2.1 x.2.2) (fun x ↦ B53 n x.1 x.2.1 x.2.2) [3,4,7,8,9] [1003] (((1:Int),(0:Int),[])) (show B53 n (1:Int) (0:Int) []from ?g0) ?_;rotate_left
 rintro⟨x0,i1,o2⟩ h_3
 obtain⟨h4,h5,h6,h7,h8,h9⟩:0≤i1∧i1≤(↑n.length:Int)∧(↑o2.length:Int)≤i1∧1≤x0∧x0≤1000000001∧Av4 n x0 i1 o2:=h_3
 refine rE cx [3,4,7,8,9,10] [1003] (zB 0 (i1 <(↑n.length:Int))) (fun h10=>?_) fun h10=>?_
 refine sK<|sn<|sq<|bL 1<|sq<|rG cx [3,4,7,8,9,6] [1003,6] (fA (0≤i1) (fG c206 n i1.toNat (fR 2 (fN 2 2 (oR 0 (c206 n[i1.toNat]!) z0)))))<|sn<|sq<|rD cx [3,4,7,8,9,6,16] [1003,6] (zB 3 (x0 < n[i1.toNat]!.lo)) (fun h11=>?_) fun h11=>?_
 refine rG cx [3,7,8,9,6] [1003,6] (tT 4 (B4 (by omega) ?g1:AV.i .i64 (IntKind.i64.wrap (n[i1.toNat]!.lo-1))=AV.i .i64 (n[i1.toNat]!.lo-1)) (fR 206 (fR 2 (fR 2 (fX c206 [{ lo:=x0,hi:=n[i1.toNat]!.lo-1:Run }] 2 (fS c206 o2 c206 [{ lo:=x0,hi:=n[i1.toNat]!.lo-1:Run }] (fP (((List.map c206 o2).length+(List.map c206 [{ lo:=x0,hi:=n[i1.toNat]!.lo-1:Run }]).length)*(16:Nat)≤(140737488355328:Nat)) ?g2 (fM c206 o2 [{ lo:=x0,hi:=n[i1.toNat]!.lo-1:Run }] (oV 7 { rows:=some (List.map c206 (o2++[{ lo:=x0,hi:=n[i1.toNat]!.lo-1:Run }])) } z0))))))))) ?_;rotate_left 2
 refine sn<|rG cx [3,7,8,9,4] [1003] (tT 2 (B4 ?g3 ?g4:AV.i .i64 (IntKind.i64.wrap (n[i1.toNat]!.hi+1))=AV.i .i64 (n[i1.toNat]!.hi+1)) z0) ?_;rotate_left 2
 refine bN<|sn<|rG cx [3,7,8,9,4] [1003] (tW 0 (i1+1) z0)<|sn<|nX ((n[i1.toNat]!.hi+1,i1+1,o2++[{ lo:=x0,hi:=n[i1.toNat]!.lo-1:Run }])) (show((↑n.length:Int)-(i1+1)).toNat <((↑n.length:Int)-i1).toNat from(by omega)) (show B53 n (n[i1.toNat]!.hi+1) (i1+1) (o2++[{ lo:=x0,hi:=n[i1.toNat]!.lo-1:Run }])from ?g5);rotate_left
 refine sK<|sn<|rG cx [3,4,7,8,9] [1003] (tT 2 (B4 ?g6 ?g7:AV.i .i64 (IntKind.i64.wrap (n[i1.toNat]!.hi+1))=AV.i .i64 (n[i1.toNat]!.hi+1)) z0) ?_;rotate_left 2
 refine bN<|sn<|rG cx [3,4,7,8,9] [1003] (tW 0 (i1+1) z0)<|sn<|nX ((n[i1.toNat]!.hi+1,i1+1,o2)) (show((↑n.length:Int)-(i1+1)).toNat <((↑n.length:Int)-i1).toNat from(by omega)) (show B53 n (n[i1.toNat]!.hi+1) (i1+1) o2 from ?g8);rotate_left
 refine eX 0<|nE<|nE<|bH<|sn<|sq<|rD cx [3,4,30] [1003] (zB 1 (x0≤1000000000)) (fun h12=>?_) fun h12=>?_
 refine rG cx [3] [1003] (fR 206 (fR 2 (fR 2 (fX c206 [{ lo:=x0,hi:=(1000000000:Int):Run }] 2 (fP ((List.map c206 o2).length+(List.map c206 [{ lo:=x0,hi:=(1000000000:Int):Run }]).length≤maxLen) ?g9 (fP (((List.map c206 o2).length+(List.map c206 [{ lo:=x0,hi:=(1000000000:Int):Run }]).length)*(16:Nat)≤(140737488355328:Nat)) ?g10 (fM c206 o2 [{ lo:=x0,hi:=(1000000000:Int):Run }] (oV 4 { rows:=some (List.map c206 (o2++[{ lo:=x0,hi:=(1000000000:Int):Run }])) } z0)))))))) ?_;rotate_left 2
 refine sn<|sq<|rG cx [2] [1003] z0<|sn<|rT<|qR (.sl (List.map c206 (o2++[{ lo:=x0,hi:=(1000000000:Int):Run }]))) (.eq ?g11);rotate_left
 refine sK<|sn<|sq<|rG cx [2] [1003] z0<|sn<|rT<|qR (.sl (List.map c206 o2)) (.eq ?g12);rotate_left
 rotate_left
 revert x0 i1 o2 h4 h5 h6 h7 h8 h9 h10 h11;rotate_left
 revert x0 i1 o2 h4 h5 h6 h7 h8 h9 h10 h11;rotate_left
 revert x0 i1 o2 h4 h5 h6 h7 h8 h9 h10 h11;rotate_left
 revert x0 i1 o2 h4 h5 h6 h7 h8 h9 h10 h11;rotate_left
 revert x0 i1 o2 h4 h5 h6 h7 h8 h9 h10 h11;rotate_left
 revert x0 i1 o2 h4 h5 h6 h7 h8 h9 h10 h11;rotate_left
 revert x0 i1 o2 h4 h5 h6 h7 h8 h9 h10 h11;rotate_left
 revert x0 i1 o2 h4 h5 h6 h7 h8 h9 h10 h11;rotate_left
 revert x0 i1 o2 h4 h5 h6 h7 h8 h9 h10 h12;rotate_left
 revert x0 i1 o2 h4 h5 h6 h7 h8 h9 h10 h12;rotate_left
 revert x0 i1 o2 h4 h5 h6 h7 h8 h9 h10 h12;rotate_left
 revert x0 i1 o2 h4 h5 h6 h7 h8 h9 h10 h12;rotate_left
 case g0=>exact⟨by omega,by omega,by simp,by omega,by omega,rfl⟩
 case g5=>intro x i o k0 k1 k2 k3 k4 k5 k6 k7;have:=hr i k0 k6;exact⟨by omega,by omega,by simp only [List.length_append,List.length_cons,List.length_nil];omega,by omega,by omega,ot_in k0 k6 k5 k7⟩
 case g8=>intro x i o k0 k1 k2 k3 k4 k5 k6 k7;have:=hr i k0 k6;exact⟨by omega,by omega,by omega,by omega,by omega,ot_out k0 k6 k5 k7⟩
 case g2=>intro x i o k0 k1 k2 k3 k4 k5 k6 k7;simp only [List.length_map,List.length_cons,List.length_nil];omega
 case g9=>intro x i o k0 k1 k2 k3 k4 k5 k6 k7;simp only [List.length_map,List.length_cons,List.length_nil,Go.maxLen];omega
 case g10=>intro x i o k0 k1 k2 k3 k4 k5 k6 k7;simp only [List.length_map,List.length_cons,List.length_nil];omega
 case g11=>intro x i o k0 k1 k2 k3 k4 k5 k6 k7;rw[B9l k6 k5 k7]
 case g12=>intro x i o k0 k1 k2 k3 k4 k5 k6 k7;rw[B9m k6 k5 k7]
 all_goals (intro x i o k0 k1 k2 k3 k4 k5 k6 k7;have:=hr i k0 k6;omega)
theorem B7f(a b:List Run)(ha:a.length*16≤140737488351232)(hb:b.length*16≤140737488351232):Con Tryz.prog 197 [.sl (a.map c206),.sl (b.map c206)] (.sl ((V3 a b).map c206)) :=
 by
 have h2:=L6 (B0b b)
 refine lN 0 c206 (a) Tryz.func197 fun hl_0=>lN 1 c206 (b) Tryz.func197 fun hl_1=>sC A6 [.tmp 4] 10 Tryz.func197 ?_
 intro e0 cx
 refine sq<|rG cx [0,1] [] z0<|sn<|sq ?_
 have hl_0:=(U9 b)
 refine rG cx [4] [] (fT (A98 (b) (by(with_reducible assumption))) (fT (con235 (nrm b) ?g0) (fT (con224 (a) (A2n (1:Int) (nrm b)) (by(with_reducible assumption)) ?g1) (oA 2 (.sl (List.map c206 (nrm b))) (oA 3 (.sl (List.map c206 (A2n (1:Int) (nrm b)))) (oA 4 (.sl (List.map c206 (metR a (A2n (1:Int) (nrm b))))) z0)))))) ?_;rotate_left 2
 refine sn<|rT<|qR (.sl (List.map c206 (metR a (A2n (1:Int) (nrm b))))) (.eq ?g2);rotate_left
 case g0=>exact E1 b
 case g1=>omega
 case g2=>rfl
theorem con196(a b:Past)(ha:a.cloud.length*16≤140737488350000)(hb:b.cloud.length*16≤140737488350000):Con Tryz.prog 196 [.agg (c26 a),.agg (c26 b),.fn (.func 197) [] []] (.agg (c26 (B3 a b))) :=
 by
 refine sC A6 [.cell 6 26] 38 Tryz.func196 ?_
 intro e0 cx
 refine sq<|rG cx [2,3,4,6] [3,4,6] z0<|sn<|sq<|rA cx [2,6,7,8] [6,12,15] (fT (Af3 ([a]) (by exact A60 ha)) (fT (Af3 ([b]) (by exact A60 hb)) (oV 2 { val:=some (.ptr ((204:Nat)) (0) (0) (0)),row:=(E2 c206 16 (A8 [a])) } (oV 5 { val:=some (.ptr ((204:Nat)) (0) (0) (0)),row:=(E2 c206 16 (A8 [b])) } z0)))) ?_
 refine sn<|sq<|sq<|rG cx [2,6,7,8,16] [6,12,15] z0<|sn<|bL 0<|sL (X:=Int×(Nat→List Run)×(Nat→List Run)) (fun x=>⟨[(2,.fn (Fn.func (197:FuncId)) [] []),(6,.ptr (6) (0) (0) (0)),(7,.ptr (12) (0) (0) (0)),(8,.ptr (15) (0) (0) (0)),(16,.i .i64 (x.1))],[(6,⟨0,26,.var [.nl,.nl]⟩),(12,⟨0,204,.arr (E2 c206 16 x.2.1)⟩),(15,⟨0,204,.arr (E2 c206 16 x.2.2)⟩)]⟩) (fun x ↦ decEa x.1 x.2.1 x.2.2) (fun x ↦ B9o (A8 [a]) (A8 [b]) x.1 x.2.1 x.2.2) [2,6,7,8,16] [6,12,15] (((0:Int),A8 [a],A8 [b])) (show B9o (A8 [a]) (A8 [b]) (0:Int) (A8 [a]) (A8 [b])from(by exact⟨rfl,by omega,by omega,B54 _ _⟩)) ?_
 rintro⟨r0,T1,U2⟩ h_3
 obtain⟨h4,h5,h6,h7⟩:U2=A8 [b]∧0≤r0∧r0≤16∧B9n (A8 [a]) (A8 [b]) r0 T1:=h_3
 refine rE cx [2,6,7,8,16,17] [6,12,15] (zB 0 (r0 <(16:Int))) (fun h8=>?_) fun h8=>?_
 refine sK<|sn<|sq<|bL 1<|sq<|rG cx [2,6,7,8,16,9] [6,12,15] z0<|sn<|rA cx [2,6,7,8,16] [6,12,15] (fA (0≤r0) (fO (r0 <(↑(16:Nat):Int)) (fP ((E2 c206 16 T1)[r0.toNat*(1:Nat)+0]?=some (AV.sl (List.map c206 (T1 r0.toNat)))) (by((try simp only [Nat.mul_one,Nat.add_zero,Nat.zero_add]);with_reducible refine D8 ?_;omega)) (fA (0≤r0) (fO (r0 <(↑(16:Nat):Int)) (fP ((E2 c206 16 U2)[r0.toNat*(1:Nat)+0]?=some (AV.sl (List.map c206 (U2 r0.toNat)))) (by((try simp only [Nat.mul_one,Nat.add_zero,Nat.zero_add]);with_reducible refine D8 ?_;omega)) (fT (B7f (T1 r0.toNat) (U2 r0.toNat) (by rw[ea_at h5 h8 h7];exact A43 ha _) (by subst h4;exact A43 hb _)) (fA (0≤r0) (fO (r0 <(↑(16:Nat):Int)) (fP (r0.toNat*(1:Nat)+0 <(E2 c206 16 T1).length) (by rw[Q3];omega) (fR [(D4 (AV.sl (List.map c206 (V3 (T1 r0.toNat) (U2 r0.toNat))))).headD AV.dead] (fP ((E2 c206 16 T1).set (r0.toNat*(1:Nat)+0) ((D4 (AV.sl (List.map c206 (V3 (T1 r0.toNat) (U2 r0.toNat))))).headD AV.dead)=E2 c206 16 (J8 T1 r0.toNat (V3 (T1 r0.toNat) (U2 r0.toNat)))) (by((try simp only [Nat.mul_one,Nat.add_zero,Nat.zero_add]);(with_reducible refine A3j ?_);exact Eq.refl _)) (oR 7 [.sl (List.map c206 (T1 r0.toNat))] (oR 12 [.sl (List.map c206 (U2 r0.toNat))] (oA 13 (.sl (List.map c206 (V3 (T1 r0.toNat) (U2 r0.toNat)))) (oV 16 { rows:=some [(E2 c206 16 (J8 T1 r0.toNat (V3 (T1 r0.toNat) (U2 r0.toNat))))] } z0)))))))))))))))) ?_
 refine bN<|sn<|rG cx [2,6,7,8,16] [6,12,15] (tW 0 (r0+1) z0)<|sn<|nX ((r0+1,J8 T1 r0.toNat (V3 (T1 r0.toNat) (U2 r0.toNat)),U2)) (show(16-(r0+1)).toNat <(16-r0).toNat from(by omega)) (show B9o (A8 [a]) (A8 [b]) (r0+1) (J8 T1 r0.toNat (V3 (T1 r0.toNat) (U2 r0.toNat))) U2 from(by subst h4;exact⟨rfl,by omega,by omega,B9p h5 h8 h7⟩))
 refine eX 0<|nE<|nE<|bH<|sn<|sq<|rG cx [6] [6] (fT (B4k (T1) ?g7) (oA 1 (.agg [.sl (List.map c3 (E8 T1).vec),.sl (List.map A9 (E8 T1).cloud)]) z0)) ?_;rotate_left
 refine sn<|rT<|qR (.agg [.sl (List.map c3 (E8 T1).vec),.sl (List.map A9 (E8 T1).cloud)]) (.eq (by rw[ea_end h6 h8 h7];rfl))
 case g7=>revert r0 T1 U2 h4 h5 h6 h7 h8;intro r T U k0 k1 k2 k3 k4 q hq;rw[k3 q hq,if_pos (by omega)];have:=B4p (A8 [a] q) (A8 [b] q);omega
theorem B7g(a b:Past)(ha:a.cloud.length*16≤140737488350000)(hb:b.cloud.length*16≤140737488350000):Con Tryz.prog 143 [.agg (c26 a),.agg (c26 b)] (.agg (c26 (B3 a b))) :=
 by
 refine sC A6 [.cell 4 26] 8 Tryz.func143 ?_
 intro e0 cx
 refine sq<|rG cx [2,3,4] [2,3,4] z0<|sn<|sq<|rG cx [4] [4] (fT (con196 (a) (b) (by(with_reducible assumption)) (by(with_reducible assumption))) (oA 2 (.agg [.sl (List.map c3 (B3 a b).vec),.sl (List.map A9 (B3 a b).cloud)]) z0))<|sn<|rT<|qR (.agg [.sl (List.map c3 (B3 a b).vec),.sl (List.map A9 (B3 a b).cloud)]) (.eq ?g0);rotate_left
 case g0=>exact rfl
theorem con21(ps:List Past)(hb:A08 ps*16≤140737488350000):Con Tryz.prog 21 [.sl (ps.map c26)] (.agg (c26 (D1 ps))) :=
 by
 have h2:=fun r=>P4 r ps
 refine lN 0 c26 (ps) Tryz.func21 fun hl_0=>sC A6 [.cell 2 26] 6 Tryz.func21 ?_
 intro e0 cx
 refine sq<|rG cx [0,2] [2] z0<|sn<|sq<|rG cx [2] [2] (fT (Af3 (ps) (by omega)) (fT (B4k (A8 ps) ?g0) (oV 1 { val:=some (.ptr ((204:Nat)) (0) (0) (0)),row:=(E2 c206 16 (A8 ps)) } (oA 2 (.agg [.sl (List.map c3 (E8 (A8 ps)).vec),.sl (List.map A9 (E8 (A8 ps)).cloud)]) z0)))) ?_;rotate_left
 refine sn<|rT<|qR (.agg [.sl (List.map c3 (E8 (A8 ps)).vec),.sl (List.map A9 (E8 (A8 ps)).cloud)]) (.eq ?g1);rotate_left
 case g0=>intro r hr;have:=h2 r;omega
 case g1=>rfl
end Go.Proofs.YtphcaholhacnpaaGreat
