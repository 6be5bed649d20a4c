/- Pd: span: Norm, Lead, and the library's Clone at runs. Conditions: sizes. Pn: span: the canonical form in plain words. Conditions: none. Pe: past: what the sets come to. Conditions: sizes. Pf: past: dots, and the set of dots. Conditions: sizes. Pg: past: the sets that pasts mean. Conditions: sizes. Ph: past: Norm. Conditions: sizes. Pi: past: the library's Equal, IsNorm. Conditions: sizes. Pj: past: Has. Conditions: none. Rh: the past in plain words: what is in a set in form. Conditions: none. Pp: span: what is in both, what is in neither, in plain words. Conditions: none. Pq: the total order of contexts, in plain words. Conditions: none. Pr: past.Compare, with the library's cmp.Compare, cmp.Or and slices.CompareFunc. Conditions: sizes. Sa: texts: their order is total. Conditions: none. Ps: strings.Compare. Conditions: none. Pl: runs: how many numbers, the greatest. Conditions: none. Pu: how many dots; the greatest of a replica: in plain words. Conditions: none. Ga: goods: is a text a SKU. Conditions: none. Kp: records: their order and form, in plain words. Conditions: none. Pk: span.Size, span.Last, past.Size, Empty, Last, Next. Conditions: sizes. Ka: keep.CheckRecord, Compare, Check. Conditions: sizes. Ra: the document's past: dots, Has, Same, sorted. Conditions: sizes. Rb: the document's turns: sorted (by halves). Conditions: sizes. Rt: the document's turns, in plain words: a sweep over where runs begin and end. Conditions: none. Rk: turns: how many there are, the last. Conditions: none. Rp: two lists of turns put together by a rule, in plain words. Conditions: none. -/
import Derived.Below
import Derived.OwnWalk
import Derived.WalkKit
import Derived.KernelRfl
import Derived.Laws.MakeOwn
import Derived.Laws.OwnMore
import Derived.Laws.Slices
import Derived.Laws.CopyOwn
import Derived.Laws.AppendOwnNone
import Derived.Laws.Rows
import Derived.Orders
import Derived.Test.YtphcaholhacnpaaGreatProg
import Derived.DataReads
import Derived.ChangeOld
import Derived.DataElems
import Derived.SizedLaws
import Derived.ChangeKeysEq
import Derived.Sort.LotA
import Derived.Shelf.SlSortFuncK.RowK2
import Derived.Shelf.SlSortCmp.NoneTotal
import Derived.Lib.Walk
import Derived.Shelf.SlLaysE0
import Derived.Shelf.RegionOpenPlain
import Derived.Deep.LoopGhost
import Derived.Lib.SliceRun
import Derived.Lib.Bytealg
import Derived.Test.YtphcaholhacnpaaGreatZv2
set_option linter.unusedVariables false
set_option linter.unusedSimpArgs false
namespace Go.Proofs.YtphcaholhacnpaaGreat
open Go.E
set_option maxRecDepth 100000
set_option maxHeartbeats 4000000
open Go Go.Shelf Go.Proofs
def renClR:Go.Shelf.Ren:=⟨fun | 41=>208 | n=>n,fun | 4=>4 | 22=>201 | 23=>206 | n=>n,fun n=>n⟩
theorem B4w:Go.Proofs.SlLaysE0.n41 Tryz.prog renClR:={ mixed:=by kernel_rfl,f41:=⟨Tryz.f208.name,by decide,Tryz.func208.trans (congrArg some (by kernel_rfl))⟩,t4:=Tryz.underlying4,a4:=Tryz.isAgg4,z4:=Tryz.sizeOf4,v4:=Tryz.zeroValue4,t22:=Tryz.underlying201,a22:=Tryz.isAgg201,z22:=Tryz.sizeOf201,v22:=Tryz.zeroValue201 }
theorem con208(es:List Run)(hl:es.length*16≤140737488355328):A5d Tryz.prog 208 [.sl (es.map c206)] 206 (.row 2 (es.map c206)) :=
 A4m (T:=tab) B4w B3 (te:=_) rfl ⟨_,Tryz.func208,by kernel_rfl,by kernel_rfl⟩ (by kernel_rfl) (by decide +kernel) (fun r hr=>by obtain⟨x,_,rfl⟩:=List.mem_map.1 hr;kernel_rfl) (by rw[List.length_map];exact hl)
def renClI:Go.Shelf.Ren:=⟨fun | 41=>164 | n=>n,fun | 4=>4 | 22=>23 | 23=>3 | n=>n,fun n=>n⟩
theorem B4x:Go.Proofs.SlLaysE0.n41 Tryz.prog renClI:={ mixed:=by kernel_rfl,f41:=⟨Tryz.f164.name,by decide,Tryz.func164.trans (congrArg some (by kernel_rfl))⟩,t4:=Tryz.underlying4,a4:=Tryz.isAgg4,z4:=Tryz.sizeOf4,v4:=Tryz.zeroValue4,t22:=Tryz.underlying23,a22:=Tryz.isAgg23,z22:=Tryz.sizeOf23,v22:=Tryz.zeroValue23 }
theorem con164(es:List Int)(hl:es.length*8≤140737488355328):A5d Tryz.prog 164 [.sl (es.map c3)] 3 (.row 1 (es.map c3)) :=
 A4m (T:=tab) B4x B3 (te:=_) rfl ⟨_,Tryz.func164,by kernel_rfl,by kernel_rfl⟩ (by kernel_rfl) (by decide +kernel) (fun r hr=>by obtain⟨x,_,rfl⟩:=List.mem_map.1 hr;kernel_rfl) (by rw[List.length_map];exact hl)
def nrm(a:List Run):List Run:=unR [a]
def B8(n:List Run):Int×List Run:=if n.length=0∨¬ n[0]!.lo=1 then(0,n)else(n[0]!.hi,n.drop 1)
theorem Aq2(l:List Run):(Aj5 l).length≤l.length:=by
 have:∀(l out:List Run),(l.foldl A1v out).length≤out.length+l.length:=by
  intro l
  induction l with
  | nil=>intro out;simp
  | cons r l ih =>
   intro out
   have h1:=ih (A1v out r)
   have h2:=Ae4 out r
   simp only [List.foldl_cons,List.length_cons]
   omega
 have h:=this l []
 simpa [Aj5]using h
theorem A19(a:List Run):(nrm a).length≤a.length:=by
 have h1:=Aq2 (X9 (J8 [a].flatten))
 have h2:=(Q3 (l:=J8 [a].flatten) fun r hr=>(H9 r hr).1).length_eq
 have h3:=V4 [a].flatten
 unfold nrm unR
 simp only [List.flatten_cons,List.flatten_nil,List.append_nil]at *
 omega
theorem B38(a:List Run)(hb:a.length*16≤140737488351232):Con Tryz.prog 207 [.sl (a.map c206)] (.sl ((nrm a).map c206)) :=
 by
 refine lN 0 c206 (a) Tryz.func207 fun hl_0=>sC B3 [.tmp 2] 6 Tryz.func207 ?_
 intro e0 cx
 refine sq<|rG cx [0] [] z0<|sn<|sq<|rG cx [2] [5] (fT (con239 ([a]) ?g0) (oV 2 { val:=some (.own (206:Nat) (2:Nat)),rows:=some (List.map c206 (unR [a])) } z0)) ?_;rotate_left
 refine sn<|rT<|qR (.sl (((E.look [(2,{ val:=some (AV.own (206:Nat) (2:Nat)),rows:=some (List.map c206 (unR [a])):Ov })] (2)).getD {:Ov }).rows.getD [])) (.eq ?g1);rotate_left
 case g0=>exact(by simpa using hb)
 case g1=>exact rfl
theorem con163(a:List Run)(hb:a.length*16≤140737488351232):Con Tryz.prog 163 [.sl (a.map c206)] (.tup [.i .i64 (B8 (nrm a)).1,.sl ((B8 (nrm a)).2.map c206)]) :=
 by
 have hn:=A19 a
 refine lN 0 c206 (a) Tryz.func163 fun hl_0=>sC B3 [.tmp 2,.tmp 3] 25 Tryz.func163 ?_
 intro e0 cx
 refine sq<|rG cx [0] [] z0<|sn<|sq ?_
 have hl_0:=(A19 a)
 refine rG cx [4] [] (fT (B38 (a) (by(with_reducible assumption))) (oA 1 (.sl (List.map c206 (nrm a))) z0))<|sn<|sq<|sq<|A9 (σ':=⟨[(4,.sl (List.map c206 (nrm a))),(16,.b (decide ((↑(nrm a).length:Int)=0∨¬(nrm a)[(0:Nat)]!.lo=1)))],[]⟩) ?_ ?_
 refine A4 ((↑(nrm a).length:Int)=0) (fun h2=>?_) (fun h2=>?_)
 refine rG cx [4,16] [] (tL 1 c206 (nrm a) (tT 2 (A3 h2) (tD 9 true ((↑(nrm a).length:Int)=0∨¬(nrm a)[(0:Nat)]!.lo=1) (by simp only [eq_true h2,tsl]) z0))) ?_
 exact⟨rfl,by kernel_rfl⟩
 refine rG cx [4,16] [] (tL 1 c206 (nrm a) (tT 2 (A0 h2) (fO ((0:Int)≤(0:Int)) (fP ((List.map c206 (nrm a))[Int.toNat (0:Int)]?=some (c206 (nrm a)[(0:Nat)]!)) (by exact G5 (by omega)) (fR 2 (tN 8 ((nrm a)[(0:Nat)]!.lo) (1:Int) (tD 9 (decide ¬(nrm a)[(0:Nat)]!.lo=1) ((↑(nrm a).length:Int)=0∨¬(nrm a)[(0:Nat)]!.lo=1) (by simp only [eq_false h2,tsl]) (oR 5 (c206 (nrm a)[(0:Nat)]!) z0)))))))) ?_
 exact⟨rfl,by kernel_rfl⟩
 refine sn<|dC ((↑(nrm a).length:Int)=0∨¬(nrm a)[(0:Nat)]!.lo=1) (fun h3=>?_) fun h3=>?_
 refine sq<|rG cx [2,3] [] z0<|sn<|rT<|nR<|qR (.tup [.i .i64 ((0:Int)),.sl (List.map c206 (nrm a))]) (A5.tup (ZLe.cons (A5.eq (show AV.i .i64 0=AV.i .i64 (B8 (nrm a)).1 from(by unfold B8;rw[if_pos (h3.imp (fun k=>by omega) id)]))) (ZLe.cons (A5.eq (show AV.sl (List.map c206 (nrm a))=AV.sl (List.map c206 (B8 (nrm a)).2)from(by unfold B8;rw[if_pos (h3.imp (fun k=>by omega) id)]))) ZLe.nil)))
 refine sK<|sn<|sq<|rA cx [2,3] [24] (fO ((0:Int)≤(0:Int)) (fP ((List.map c206 (nrm a))[Int.toNat (0:Int)]?=some (c206 (nrm a)[(0:Nat)]!)) (by exact G5 (by omega)) (fR 2 (tT 5 (Ad8 c206 (nrm a) (Int.toNat (1:Int)):AV.sl (List.drop (Int.toNat (1:Int)) (List.take (none.getD (↑(List.map c206 (nrm a)).length:Int)).toNat (List.map c206 (nrm a))))=AV.sl (List.map c206 (List.drop (Int.toNat (1:Int)) (nrm a)))) (fO ((0:Int)≤(1:Int)) (fP (1≤none.getD (↑(List.map c206 (nrm a)).length:Int)) (by have:¬((nrm a).length:Int)=0:=fun k=>h3 (.inl k);simp only [Option.getD_none,List.length_map];omega) (fP (none.getD (↑(List.map c206 (nrm a)).length:Int)≤(↑(List.map c206 (nrm a)).length:Int)) (by exact Int.le_refl _) (fX c206 (nrm a) 2 (fT (con208 (List.drop (Int.toNat (1:Int)) (nrm a)) (by rw[List.length_drop];omega)) (oR 1 (c206 (nrm a)[(0:Nat)]!) (oV 6 { val:=some (.own (206:Nat) (2:Nat)),rows:=some (List.map c206 (List.drop (Int.toNat (1:Int)) (nrm a))) } z0))))))))))) ?_
 refine sn<|rT<|qR (.tup [.i .i64 ((nrm a)[(0:Nat)]!.hi),.sl (((E.look [(6,{ val:=some (AV.own (206:Nat) (2:Nat)),rows:=some (List.map c206 (List.drop (Int.toNat (1:Int)) (nrm a))):Ov })] (6)).getD {:Ov }).rows.getD [])]) (A5.tup (ZLe.cons (A5.eq (show AV.i .i64 (nrm a)[(0:Nat)]!.hi=AV.i .i64 (B8 (nrm a)).1 from(by unfold B8;rw[if_neg (fun k=>h3 (k.imp (fun k=>by omega) id))]))) (ZLe.cons (A5.eq (show AV.sl (((E.look [(6,{ val:=some (AV.own (206:Nat) (2:Nat)),rows:=some (List.map c206 (List.drop (Int.toNat (1:Int)) (nrm a))):Ov })] (6)).getD {:Ov }).rows.getD [])=AV.sl (List.map c206 (B8 (nrm a)).2)from(by show AV.sl (List.map c206 (List.drop 1 (nrm a)))=_;unfold B8;rw[if_neg (fun k=>h3 (k.imp (fun k=>by omega) id))]))) ZLe.nil)))
end Go.Proofs.YtphcaholhacnpaaGreat
namespace Go.Proofs.YtphcaholhacnpaaGreat
open Go.E
set_option maxRecDepth 100000
set_option maxHeartbeats 4000000
def L3(l:List Run):Prop:=l.Pairwise (fun x y=>x.hi+1 < y.lo)∧∀ r∈l,1≤r.lo∧r.lo≤r.hi∧r.hi≤1000000000
def inR(l:List Run)(n:Int):Prop:=∃ r∈l,r.lo≤n∧n≤r.hi
theorem Aq3{α:Type}[Inhabited α]{l:List α}(h:0 <(l.length:Int)):∃ p,l=p++[l[((l.length:Int)-1).toNat]!]:=by
 refine⟨l.take (l.length-1),?_⟩
 have e:((l.length:Int)-1).toNat=l.length-1:=by omega
 rw[e]
 have h1:=List.take_succ_eq_append_getElem (l:=l) (i:=l.length-1) (by omega)
 rw[getElem!_pos l (l.length-1) (by omega),← h1,List.take_of_length_le (by omega)]
theorem A7z(p:List Run)(x r:Run):A1v (p++[x]) r=if r.lo≤x.hi+1 then p++[⟨x.lo,max x.hi r.hi⟩]else p++[x]++[r]:=by
 have e:(((p++[x]).length:Int)-1).toNat=p.length:=by rw[List.length_append,List.length_singleton];omega
 have hx:A62 (p++[x])=x:=by unfold A62;rw[e];simp
 unfold A1v
 rw[hx,e]
 by_cases h:r.lo≤x.hi+1
 ·rw[if_pos ⟨by rw[List.length_append,List.length_singleton];omega,h⟩,if_pos h]
  simp
 ·rw[if_neg (fun k=>h k.2),if_neg h]
theorem Ae5(r:Run):A1v [] r=[r]:=by simp [A1v]
theorem O8:L3 []:=⟨List.Pairwise.nil,fun r hr=>by cases hr⟩
theorem B15 {out : List Run} {r : Run} (h : L3 out) (hr : A0c r) : L3 (A1v out r) := by
  unfold A0c okR at hr
  by_cases h0:out=[]
  · subst h0
    rw[Ae5]
    exact ⟨by simp, fun x hx => by have : x = r := by simpa using hx
                                   subst this;omega⟩
  · obtain ⟨p, hp⟩ := Aq3 (l := out) (by have := List.length_pos_iff.2 h0; omega)
    generalize out[((out.length:Int)-1).toNat]! = x at hp
    subst hp
    obtain⟨h1,h2⟩:=h
    rw[List.pairwise_append]at h1
    obtain⟨q1,_,q3⟩:=h1
    have hx:=h2 x (by simp)
    rw[A7z]
    split
    · refine ⟨List.pairwise_append.2 ⟨q1, by simp, fun a ha b hb => ?_⟩, fun a ha => ?_⟩
      · have : b = ⟨x.lo, max x.hi r.hi⟩ := by simpa using hb
        subst this
        exact q3 a ha x (by simp)
      · rcases List.mem_append.1 ha with ha | ha
        · exact h2 a (by simp [ha])
        · have : a = ⟨x.lo, max x.hi r.hi⟩ := by simpa using ha
          subst this
          simp only
          omega
    · rename_i hn
      refine⟨List.pairwise_append.2 ⟨List.pairwise_append.2 ⟨q1,by simp,q3⟩,by simp,fun a ha b hb=>?_⟩,fun a ha=>?_⟩
      · have : b = r := by simpa using hb
        subst this
        rcases List.mem_append.1 ha with ha | ha
        · have:=q3 a ha x (by simp);omega
        · have : a = x := by simpa using ha
          subst this
          omega
      · rcases List.mem_append.1 ha with ha | ha
        · exact h2 a ha
        · have : a = r := by simpa using ha
          subst this
          omega
theorem B4y{out:List Run}{r:Run}(hl:∀ x∈out,x.lo≤r.lo)(hs:L3 out)(n:Int):inR (A1v out r) n↔inR out n∨(r.lo≤n∧n≤r.hi):=by
 by_cases h0:out=[]
 ·subst h0
  rw[Ae5]
  simp [inR]
 ·obtain⟨p,hp⟩:=Aq3 (l:=out) (by have:=List.length_pos_iff.2 h0;omega)
  generalize out[((out.length:Int)-1).toNat]! = x at hp
  subst hp
  have hx:=hs.2 x (by simp)
  have hlx:=hl x (by simp)
  rw[A7z]
  have app:∀(a b:List Run),inR (a++b) n↔inR a n∨inR b n:=by
   intro a b
   unfold inR
   constructor
   ·rintro⟨y,hy,h⟩
    rcases List.mem_append.1 hy with hy | hy
    ·exact .inl ⟨y,hy,h⟩
    ·exact .inr ⟨y,hy,h⟩
   ·rintro(⟨y,hy,h⟩ | ⟨y,hy,h⟩)
    ·exact⟨y,List.mem_append.2 (.inl hy),h⟩
    ·exact⟨y,List.mem_append.2 (.inr hy),h⟩
  have one:∀ y:Run,inR [y] n↔(y.lo≤n∧n≤y.hi):=by intro y;simp [inR]
  split
  ·rw[app,app,one,one,or_assoc]
   refine or_congr_right ?_
   simp only
   omega
  ·rw[app,one]
theorem A4n(l:List Run):∀(out:List Run),L3 out→(∀ r∈l,A0c r)→l.Pairwise (fun x y=>x.lo≤y.lo)→(∀ x∈out,∀ r∈l,x.lo≤r.lo) →
  L3 (l.foldl A1v out)∧∀ n,inR (l.foldl A1v out) n↔inR out n∨inR l n:=by
 induction l with
 | nil=>intro out h _ _ _;exact⟨h,fun n=>by simp [inR]⟩
 | cons r l ih =>
  intro out h hg hp hl
  rw[List.pairwise_cons]at hp
  have hlo:∀ x∈A1v out r,∀ y∈l,x.lo≤y.lo:=by
   intro x hx y hy
   have hy1:=hp.1 y hy
   unfold A1v at hx
   split at hx
   ·rename_i hc
    rcases List.mem_or_eq_of_mem_set hx with hx | rfl
    ·have:=hl x hx r (by simp);omega
    ·have:=hl _ (G6 (l:=out) (i:=((out.length:Int)-1).toNat) (by omega)) r (by simp)
     unfold A62
     simp only
     omega
   ·rcases List.mem_append.1 hx with hx | hx
    ·have:=hl x hx r (by simp);omega
    ·have:x=r:=by simpa using hx
     subst this
     exact hy1
  obtain⟨g1,g2⟩:=ih (A1v out r) (B15 h (hg r (by simp))) (fun y hy=>hg y (by simp [hy])) hp.2 hlo
  refine⟨g1,fun n=>?_⟩
  rw[List.foldl_cons,g2 n,B4y (fun x hx=>hl x hx r (by simp)) h n,or_assoc]
  refine or_congr_right ?_
  simp [inR]
theorem B4z(ss:List (List Run)):L3 (unR ss):=by
 have hg:∀ r∈J8 ss.flatten,A0c r:=H9
 exact(A4n _ [] O8 (Y9 hg) (A4i _) (fun x hx=>by cases hx)).1
theorem unR_in(ss:List (List Run))(n:Int):inR (unR ss) n↔1≤n∧n≤1000000000∧inR ss.flatten n:=by
 have hg:∀ r∈J8 ss.flatten,A0c r:=H9
 have h:=(A4n _ [] O8 (Y9 hg) (A4i _) (fun x hx=>by cases hx)).2 n
 unfold unR Aj5
 rw[h]
 have hp:=Q3 (l:=J8 ss.flatten) fun r hr=>(hg r hr).1
 constructor
 ·rintro(⟨r,hr,_⟩ | ⟨r,hr,h1,h2⟩)
  ·cases hr
  ·have hr:=hp.subset hr
   unfold J8 at hr
   obtain⟨hr,_⟩:=List.mem_filter.1 hr
   obtain⟨x,hx,rfl⟩:=List.mem_map.1 hr
   simp only [D2]at h1 h2
   exact⟨by omega,by omega,x,hx,by omega,by omega⟩
 ·rintro⟨h1,h2,x,hx,h3,h4⟩
  refine .inr ⟨D2 x,hp.symm.subset ?_,?_,?_⟩
  ·unfold J8
   refine List.mem_filter.2 ⟨List.mem_map.2 ⟨x,hx,rfl⟩,?_⟩
   show decide ((D2 x).lo≤(D2 x).hi)=true
   rw[decide_eq_true_iff]
   show max x.lo 1≤min x.hi 1000000000
   omega
  ·simp only [D2];omega
  ·simp only [D2];omega
theorem A9s{l:List Run}(h:L3 l):∀ i:Nat,i < l.length→2*(i:Int)+1≤l[i]!.lo
 | 0,hi=>by have:=h.2 _ (G6 hi);omega
 | i+1,hi=>by
  have h1:=A9s h i (by omega)
  have h2:=List.pairwise_iff_getElem.1 h.1 i (i+1) (by omega) hi (by omega)
  rw[← getElem!_pos l i (by omega),← getElem!_pos l (i+1) hi]at h2
  have h3:=h.2 _ (G6 (l:=l) (i:=i) (by omega))
  omega
theorem W9{l:List Run}(h:L3 l):l.length≤500000000:=by
 by_cases h0:l.length=0
 ·omega
 ·have h1:=A9s h (l.length-1) (by omega)
  have h2:=h.2 _ (G6 (l:=l) (i:=l.length-1) (by omega))
  omega
theorem E4(a:List Run):L3 (nrm a):=B4z [a]
theorem N7(a:List Run)(n:Int):inR (nrm a) n↔1≤n∧n≤1000000000∧inR a n:=by
 have:=unR_in [a] n
 simpa [nrm]using this
theorem M8:∀ {a b:List Run},L3 a→L3 b→(∀ n,inR a n↔inR b n)→a=b
 | [],[],_,_,_=>rfl
 | [],y :: b,_,hb,h=>by
  have:=hb.2 y (by simp)
  obtain⟨r,hr,_⟩:=(h y.lo).2 ⟨y,by simp,by omega,by omega⟩
  cases hr
 | x :: a,[],ha,_,h=>by
  have:=ha.2 x (by simp)
  obtain⟨r,hr,_⟩:=(h x.lo).1 ⟨x,by simp,by omega,by omega⟩
  cases hr
 | x :: a,y :: b,ha,hb,h=>by
  have hx:=ha.2 x (by simp)
  have hy:=hb.2 y (by simp)
  have pa:=List.pairwise_cons.1 ha.1
  have pb:=List.pairwise_cons.1 hb.1
  have la:∀ n,inR a n→x.hi+1 < n:=fun n ⟨r,hr,h1,_⟩=>by have:=pa.1 r hr;omega
  have lb:∀ n,inR b n→y.hi+1 < n:=fun n ⟨r,hr,h1,_⟩=>by have:=pb.1 r hr;omega
  have ca:∀ n,inR (x :: a) n↔(x.lo≤n∧n≤x.hi)∨inR a n:=fun n=>by simp [inR]
  have cb:∀ n,inR (y :: b) n↔(y.lo≤n∧n≤y.hi)∨inR b n:=fun n=>by simp [inR]
  have e1:x.lo=y.lo:=by
   have h1:=(cb x.lo).1 ((h x.lo).1 ((ca x.lo).2 (.inl (by omega))))
   have h2:=(ca y.lo).1 ((h y.lo).2 ((cb y.lo).2 (.inl (by omega))))
   rcases h1 with h1 | h1
   ·rcases h2 with h2 | h2
    ·omega
    ·have:=la _ h2;omega
   ·have:=lb _ h1
    rcases h2 with h2 | h2
    ·omega
    ·have:=la _ h2;omega
  have e2:x.hi=y.hi:=by
   have h1:=(cb x.hi).1 ((h x.hi).1 ((ca x.hi).2 (.inl (by omega))))
   have h2:=(ca y.hi).1 ((h y.hi).2 ((cb y.hi).2 (.inl (by omega))))
   have h3:¬ x.hi < y.hi:=fun k=>by
    have:=(ca (x.hi+1)).1 ((h (x.hi+1)).2 ((cb (x.hi+1)).2 (.inl (by omega))))
    rcases this with g | g
    ·omega
    ·have:=la _ g;omega
   have h4:¬ y.hi < x.hi:=fun k=>by
    have:=(cb (y.hi+1)).1 ((h (y.hi+1)).1 ((ca (y.hi+1)).2 (.inl (by omega))))
    rcases this with g | g
    ·omega
    ·have:=lb _ g;omega
   omega
  have e:x=y:=by cases x;cases y;simp only at e1 e2;rw[e1,e2]
  subst e
  rw[M8 (a:=a) (b:=b) ⟨pa.2,fun r hr=>ha.2 r (by simp [hr])⟩ ⟨pb.2,fun r hr=>hb.2 r (by simp [hr])⟩ fun n=>?_]
  have:=h n
  rw[ca,cb]at this
  constructor
  ·intro g
   have g1:=la n g
   rcases this.1 (.inr g)with k | k
   ·omega
   ·exact k
  ·intro g
   have g1:=lb n g
   rcases this.2 (.inr g)with k | k
   ·omega
   ·exact k
end Go.Proofs.YtphcaholhacnpaaGreat
namespace Go.Proofs.YtphcaholhacnpaaGreat
open Go.E
set_option maxRecDepth 100000
set_option maxHeartbeats 4000000
def Z0(T:Nat→List Run)(r:Nat):Int:=(B8 (nrm (T r))).1
def T3(T:Nat→List Run)(r:Nat):List Span:=(B8 (nrm (T r))).2.map fun x=>⟨r,x.lo,x.hi⟩
def szT(T:Nat→List Run):Nat→Int
 | 0=>0
 | n+1=>if 0 < Z0 T n then n+1 else szT T n
def I0(T:Nat→List Run):Nat→List Span
 | 0=>[]
 | n+1=>I0 T n++T3 T n
def A4o(T:Nat→List Run)(n:Nat):List Int:=(List.range n).map (Z0 T)++List.replicate (16-n) 0
def I4(T:Nat→List Run):Past:=⟨(A4o T 16).take (szT T 16).toNat,I0 T 16⟩
def Aq4(T:Nat→List Run)(r s:Int):Prop:=s=szT T r.toNat
def Z1(T:Nat→List Run)(r:Int)(v:List Int):Prop:=v=A4o T r.toNat
def J5(T:Nat→List Run)(r:Int)(c:List Span):Prop:=c=I0 T r.toNat
def J0(T:Nat→List Run)(r j:Int)(c:List Span):Prop:=c=I0 T r.toNat++(T3 T r.toNat).take j.toNat
def Ae6(T:Nat→List Run)(s r:Int)(v:List Int)(c:List Span):Prop:=0≤r∧r≤16∧0≤s∧s≤r∧v.length=16∧Aq4 T r s∧Z1 T r v∧J5 T r c
def dec81a(s r:Int)(v:List Int)(c:List Span):Nat:=(16-r).toNat
def A4p(T:Nat→List Run)(r:Int)(w:List Int)(j:Int)(v:List Int)(c:List Span):Prop:=v=w∧0≤j∧j≤(B8 (nrm (T r.toNat))).2.length∧J0 T r j c
def B39(T:Nat→List Run)(r:Int)(j:Int)(v:List Int)(c:List Span):Nat:=((B8 (nrm (T r.toNat))).2.length-j).toNat
theorem A24(T:Nat→List Run)(r:Nat):(B8 (nrm (T r))).2.length≤500000000:=by
 have h:=W9 (E4 (T r))
 unfold B8
 split
 ·exact h
 ·simp only [List.length_drop];omega
theorem A0e(T:Nat→List Run):∀ n:Nat,(I0 T n).length≤n*500000000
 | 0=>by simp [I0]
 | n+1=>by
  have h1:=A0e T n
  have h2:=A24 T n
  rw[I0,List.length_append,T3,List.length_map]
  omega
theorem X0{T:Nat→List Run}{r j:Int}{c:List Span}(h0:0≤r)(h1:r < 16)(hc:J0 T r j c):c.length≤8000000000:=by
 unfold J0 at hc
 have h2:=A0e T r.toNat
 have h3:=A24 T r.toNat
 rw[hc,List.length_append,List.length_take,T3,List.length_map]
 omega
theorem A1q{T:Nat→List Run}{r:Int}{c:List Span}(hc:J5 T r c):J0 T r 0 c:=by
 unfold J5 J0 at *
 simpa using hc
theorem A2v{T:Nat→List Run}{r j:Int}{c:List Span}(h0:0≤r)(j0:0≤j)(jl:j <(B8 (nrm (T r.toNat))).2.length)(hc:J0 T r j c) :
  J0 T r (j+1) (c++[⟨r,((B8 (nrm (T r.toNat))).2[j.toNat]!).lo,((B8 (nrm (T r.toNat))).2[j.toNat]!).hi⟩]):=by
 unfold J0 at *
 have hl:(j:Int) <(T3 T r.toNat).length:=by rw[T3,List.length_map];exact jl
 rw[← D6 j0 hl,← List.append_assoc,← hc]
 have e:(T3 T r.toNat)[j.toNat]! =⟨r,((B8 (nrm (T r.toNat))).2[j.toNat]!).lo,((B8 (nrm (T r.toNat))).2[j.toNat]!).hi⟩:=by
  have hj:j.toNat <(B8 (nrm (T r.toNat))).2.length:=by omega
  rw[getElem!_pos (T3 T r.toNat) j.toNat (by omega),getElem!_pos (B8 (nrm (T r.toNat))).2 j.toNat hj]
  simp only [T3,List.getElem_map]
  congr 1
  omega
 rw[e]
theorem A4q{T:Nat→List Run}{r j:Int}{c:List Span}(h0:0≤r)(jl:¬ j <(B8 (nrm (T r.toNat))).2.length)(hc:J0 T r j c):J5 T (r+1) c:=by
 unfold J0 J5 at *
 rw[hc,show(r+1).toNat=r.toNat+1 by omega,I0,List.take_of_length_le (by rw[T3,List.length_map];omega)]
theorem A64{T:Nat→List Run}{r:Int}{v:List Int}(h0:0≤r)(h1:r < 16)(hv:Z1 T r v):Z1 T (r+1) (v.set r.toNat (B8 (nrm (T r.toNat))).1):=by
 unfold Z1 at *
 rw[hv,show(r+1).toNat=r.toNat+1 by omega]
 unfold A4o
 generalize hn:r.toNat=n
 have hn':n < 16:=by omega
 rw[List.set_append_right _ _ (by simp),List.length_map,List.length_range,Nat.sub_self,show 16-n=(16-(n+1))+1 by omega,List.replicate_succ,List.set_cons_zero,List.range_succ,List.map_append,List.append_assoc]
 rfl
theorem A9t{T:Nat→List Run}{r s:Int}(h0:0≤r)(hs:Aq4 T r s):Aq4 T (r+1) (if 0 <(B8 (nrm (T r.toNat))).1 then r+1 else s):=by
 unfold Aq4 at *
 rw[show(r+1).toNat=r.toNat+1 by omega,szT,Z0,hs]
 split
 ·omega
 ·rfl
theorem A65{T:Nat→List Run}{r s:Int}{v:List Int}{c:List Span}(h1:r≤16)(h:¬ r < 16)(hs:Aq4 T r s)(hv:Z1 T r v)(hc:J5 T r c):I4 T=⟨v.take s.toNat,c⟩:=by
 unfold Aq4 Z1 J5 at *
 have:r.toNat=16:=by omega
 rw[this]at hs hv hc
 unfold I4
 rw[hs,hv,hc]
theorem con93(t:Nat→List Run)(hb:∀ r:Nat,r < 16→(t r).length*16≤140737488351232):Con Tryz.prog 93 [.eptr (E9 c206 16 t)] (.agg (c26 (I4 t))) :=
 by
 refine sC B3 [.cell 2 26] 59 Tryz.func93 ?_
 intro e0 cx
 refine sq<|rG cx [0,2] [2] z0<|sn<|sq<|rG cx [0,2,3] [2,3] z0<|sn<|sq<|rG cx [0,2,3,4] [2,3,11] (fR (↑(16:Nat):Int) (fR (↑(16:Nat):Int) (fO ((8:Nat)*(16:Nat)≤(281474976710656:Nat)) (fP ((16:Nat)≤maxLen) (by(simp only [Go.maxLen];omega)) (fR 1 (fP (ZLe [AV.i .i64 (0:Int)] [AV.i .i64 (0:Int)]) (by(with_reducible exact ZLe.refl _)) (fP (List.replicate (16:Nat) [AV.i .i64 (0:Int)]=List.map c3 (List.replicate (16:Nat) (0:Int))) (by(with_reducible refine A9l ?_;kernel_rfl)) (oV 0 { row:=[.i .i64 ((0:Int))],rows:=some (List.map c3 (List.replicate (16:Nat) (0:Int))),n:=(16:Nat) } z0)))))))) ?_
 refine sn<|sq<|rG cx [0,2,3,4,5] [2,3,11] z0<|sn<|sq<|sq<|rG cx [0,2,3,4,5,12] [2,3,11] z0<|sn<|bL 0<|A18 3 141 3 1 5301 (σ':=⟨[(0,.eptr (E9 c206 16 t)),(2,.ptr (2) (0) (0) (0)),(3,.ptr (3) (0) (0) (0)),(4,.own 11 0),(5,.i .i64 ((0:Int))),(12,.i .i64 ((0:Int)))],[(2,⟨0,26,.var [.nl,.nl]⟩),(3,⟨0,26,.var [.nl,.own 5301 0]⟩),(11,⟨0,3,.row 1 (List.map c3 (List.replicate (16:Nat) (0:Int)))⟩),(5301,⟨0,141,.row 3 (List.map B1 [])⟩)]⟩) (by kernel_rfl)<|sL (X:=Int×Int×List Int×List Span) (fun x=>⟨[(0,.eptr (E9 c206 16 t)),(2,.ptr (2) (0) (0) (0)),(3,.ptr (3) (0) (0) (0)),(4,.own 11 0),(5,.i .i64 (x.1)),(12,.i .i64 (x.2.1))],[(2,⟨0,26,.var [.nl,.nl]⟩),(3,⟨0,26,.var [.nl,.own 5301 0]⟩),(11,⟨0,3,.row 1 (List.map c3 x.2.2.1)⟩),(5301,⟨0,141,.row 3 (List.map B1 x.2.2.2)⟩)]⟩) (fun x ↦ dec81a x.1 x.2.1 x.2.2.1 x.2.2.2) (fun x ↦ Ae6 t x.1 x.2.1 x.2.2.1 x.2.2.2) [0,2,3,4,5,12] [2,3,11,5301] (((0:Int),(0:Int),List.replicate (16:Nat) (0:Int),[])) (show Ae6 t (0:Int) (0:Int) (List.replicate (16:Nat) (0:Int)) []from ?g0) ?_;rotate_left
 rintro⟨s0,r1,v2,cc3⟩ h_4
 obtain⟨hh5,hh6,hh7,hh8,hh9,h10,h11,h12⟩:0≤r1∧r1≤16∧0≤s0∧s0≤r1∧v2.length=(16:Nat)∧Aq4 t r1 s0∧Z1 t r1 v2∧J5 t r1 cc3:=h_4
 refine rE cx [0,2,3,4,5,12,13] [2,3,11,5301] (zB 0 (r1 <(16:Int))) (fun h13=>?_) fun h13=>?_
 refine sK<|sn<|sq<|bL 1<|sq<|rG cx [0,2,3,4,5,12,6] [2,3,11,5301] z0<|sn<|sq ?_
 have hl_14:=(A19 (t r1.toNat))
 refine rG cx [0,2,3,4,5,12,6,7,8] [2,3,11,5301] (fA (0≤r1) (fO (r1 <(↑(16:Nat):Int)) (fP ((List.drop (r1.toNat*(1:Nat)) (E9 c206 16 t))[(0:Nat)]?=some (AV.sl (List.map c206 (t r1.toNat)))) (by(exact A5x (by omega))) (fT (con163 (t r1.toNat) ?g1) (oR 4 [.sl (List.map c206 (t r1.toNat))] (oA 5 (.tup [.i .i64 ((B8 (nrm (t r1.toNat))).1),.sl (List.map c206 (B8 (nrm (t r1.toNat))).2)]) z0)))))) ?_;rotate_left
 refine sn<|sq<|rG cx [0,2,3,4,5,12,6,7,8] [2,3,11,5301] (fA (0≤r1) (fP (r1.toNat <(List.map c3 v2).length) (by(first | omega | (simp only [List.length_map];omega))) (fR 1 (fG c3 v2 r1.toNat (fR 1 (fP (0+(1:Nat)≤1) (by(first | omega | (simp only [List.length_map];omega))) (fP ((List.map c3 v2).set r1.toNat (List.take (0) (c3 v2[r1.toNat]!)++E0 (AV.i .i64 (B8 (nrm (t r1.toNat))).1)++List.drop (0+(1:Nat)) (c3 v2[r1.toNat]!))=List.map c3 (v2.set r1.toNat (B8 (nrm (t r1.toNat))).1)) (by(with_reducible refine A5v ?_;kernel_rfl)) (oV 4 { row:=(c3 v2[r1.toNat]!),rows:=some (List.map c3 (v2.set r1.toNat (B8 (nrm (t r1.toNat))).1)) } z0)))))))) ?_
 refine sn<|sq<|rD cx [0,2,3,4,5,12,6,8,29] [2,3,11,5301] (zB 1 ((0:Int) <(B8 (nrm (t r1.toNat))).1)) (fun h_15=>?_) fun h_15=>?_
 refine rG cx [0,2,3,4,5,12,6,8] [2,3,11,5301] (tW 1 (r1+1) z0)<|sn<|sq<|rG cx [0,2,3,4,5,12,6,32,33,34] [2,3,11,5301] (tL 1 c206 ((B8 (nrm (t r1.toNat))).2) z0)<|sn<|bL 2<|sL (X:=Int×List Int×List Span) (fun x=>⟨[(0,.eptr (E9 c206 16 t)),(2,.ptr (2) (0) (0) (0)),(3,.ptr (3) (0) (0) (0)),(4,.own 11 0),(5,.i .i64 (r1+1)),(12,.i .i64 (r1)),(6,.i .i64 (r1)),(32,.sl (List.map c206 (B8 (nrm (t r1.toNat))).2)),(33,.i .i64 ((↑(B8 (nrm (t r1.toNat))).2.length:Int))),(34,.i .i64 (x.1))],[(2,⟨0,26,.var [.nl,.nl]⟩),(3,⟨0,26,.var [.nl,.own 5301 0]⟩),(11,⟨0,3,.row 1 (List.map c3 x.2.1)⟩),(5301,⟨0,141,.row 3 (List.map B1 x.2.2)⟩)]⟩) (fun x ↦ B39 t r1 x.1 x.2.1 x.2.2) (fun x ↦ A4p t r1 (v2.set r1.toNat (B8 (nrm (t r1.toNat))).1) x.1 x.2.1 x.2.2) [0,2,3,4,5,12,6,32,33,34] [2,3,11,5301] (((0:Int),v2.set r1.toNat (B8 (nrm (t r1.toNat))).1,cc3)) (show A4p t r1 (v2.set r1.toNat (B8 (nrm (t r1.toNat))).1) (0:Int) (v2.set r1.toNat (B8 (nrm (t r1.toNat))).1) cc3 from ?g2) ?_;rotate_left
 rintro⟨j_16,v_17,c_18⟩ h_19
 obtain⟨h_20,h_21,h_22,h_23⟩:v_17=v2.set r1.toNat (B8 (nrm (t r1.toNat))).1∧0≤j_16∧j_16≤(↑(B8 (nrm (t r1.toNat))).2.length:Int)∧J0 t r1 j_16 c_18:=h_19
 refine rE cx [0,2,3,4,5,12,6,32,33,34,35] [2,3,11,5301] (zB 0 (j_16 <(↑(B8 (nrm (t r1.toNat))).2.length:Int))) (fun h_24=>?_) fun h_24=>?_
 refine sK<|sn<|sq<|bL 3<|sq<|rG cx [0,2,3,4,5,12,6,32,33,34,10] [2,3,11,5301,10] (fA (0≤j_16) (fG c206 ((B8 (nrm (t r1.toNat))).2) j_16.toNat (fR 2 (fN 2 2 (oR 0 (c206 (B8 (nrm (t r1.toNat))).2[j_16.toNat]!) z0)))))<|sn<|rG cx [0,2,3,4,5,12,6,32,33,34] [2,3,11,5301] (fR 141 (fR 3 (fR 3 (fX B1 [{ rep:=r1,lo:=(B8 (nrm (t r1.toNat))).2[j_16.toNat]!.lo,hi:=(B8 (nrm (t r1.toNat))).2[j_16.toNat]!.hi:Span }] 3 (fP ((List.map B1 c_18).length+(List.map B1 [{ rep:=r1,lo:=(B8 (nrm (t r1.toNat))).2[j_16.toNat]!.lo,hi:=(B8 (nrm (t r1.toNat))).2[j_16.toNat]!.hi:Span }]).length≤maxLen) ?g3 (fP (((List.map B1 c_18).length+(List.map B1 [{ rep:=r1,lo:=(B8 (nrm (t r1.toNat))).2[j_16.toNat]!.lo,hi:=(B8 (nrm (t r1.toNat))).2[j_16.toNat]!.hi:Span }]).length)*(24:Nat)≤(140737488355328:Nat)) ?g4 (fM B1 c_18 [{ rep:=r1,lo:=(B8 (nrm (t r1.toNat))).2[j_16.toNat]!.lo,hi:=(B8 (nrm (t r1.toNat))).2[j_16.toNat]!.hi:Span }] (oV 9 { rows:=some (List.map B1 (c_18++[{ rep:=r1,lo:=(B8 (nrm (t r1.toNat))).2[j_16.toNat]!.lo,hi:=(B8 (nrm (t r1.toNat))).2[j_16.toNat]!.hi:Span }])) } z0)))))))) ?_;rotate_left 2
 refine bN<|sn<|rG cx [0,2,3,4,5,12,6,32,33,34] [2,3,11,5301] (tT 0 (B6 (by omega) ?g5:AV.i .i64 (IntKind.i64.wrap (j_16+1))=AV.i .i64 (j_16+1)) z0) ?_;rotate_left
 refine sn<|nX ((j_16+1,v_17,c_18++[{ rep:=r1,lo:=(B8 (nrm (t r1.toNat))).2[j_16.toNat]!.lo,hi:=(B8 (nrm (t r1.toNat))).2[j_16.toNat]!.hi:Span }])) (show((↑(B8 (nrm (t r1.toNat))).2.length:Int)-(j_16+1)).toNat <((↑(B8 (nrm (t r1.toNat))).2.length:Int)-j_16).toNat from(by omega)) (show A4p t r1 (v2.set r1.toNat (B8 (nrm (t r1.toNat))).1) (j_16+1) v_17 (c_18++[{ rep:=r1,lo:=(B8 (nrm (t r1.toNat))).2[j_16.toNat]!.lo,hi:=(B8 (nrm (t r1.toNat))).2[j_16.toNat]!.hi:Span }])from ?g6);rotate_left
 refine eX 2<|nE<|nE<|bH<|bN<|sn<|rG cx [0,2,3,4,5,12] [2,3,11,5301] (tW 0 (r1+1) z0)<|sn<|nX ((r1+1,r1+1,v_17,c_18)) (show(16-(r1+1)).toNat <(16-r1).toNat from(by omega)) (show Ae6 t (r1+1) (r1+1) v_17 c_18 from ?g7);rotate_left
 refine sK<|sn<|sq<|rG cx [0,2,3,4,5,12,6,32,33,34] [2,3,11,5301] (tL 1 c206 ((B8 (nrm (t r1.toNat))).2) z0)<|sn<|bL 2<|sL (X:=Int×List Int×List Span) (fun x=>⟨[(0,.eptr (E9 c206 16 t)),(2,.ptr (2) (0) (0) (0)),(3,.ptr (3) (0) (0) (0)),(4,.own 11 0),(5,.i .i64 (s0)),(12,.i .i64 (r1)),(6,.i .i64 (r1)),(32,.sl (List.map c206 (B8 (nrm (t r1.toNat))).2)),(33,.i .i64 ((↑(B8 (nrm (t r1.toNat))).2.length:Int))),(34,.i .i64 (x.1))],[(2,⟨0,26,.var [.nl,.nl]⟩),(3,⟨0,26,.var [.nl,.own 5301 0]⟩),(11,⟨0,3,.row 1 (List.map c3 x.2.1)⟩),(5301,⟨0,141,.row 3 (List.map B1 x.2.2)⟩)]⟩) (fun x ↦ B39 t r1 x.1 x.2.1 x.2.2) (fun x ↦ A4p t r1 (v2.set r1.toNat (B8 (nrm (t r1.toNat))).1) x.1 x.2.1 x.2.2) [0,2,3,4,5,12,6,32,33,34] [2,3,11,5301] (((0:Int),v2.set r1.toNat (B8 (nrm (t r1.toNat))).1,cc3)) (show A4p t r1 (v2.set r1.toNat (B8 (nrm (t r1.toNat))).1) (0:Int) (v2.set r1.toNat (B8 (nrm (t r1.toNat))).1) cc3 from ?g8) ?_;rotate_left
 rintro⟨j_25,v_26,c_27⟩ h_28
 obtain⟨h_29,h_30,h_31,h_32⟩:v_26=v2.set r1.toNat (B8 (nrm (t r1.toNat))).1∧0≤j_25∧j_25≤(↑(B8 (nrm (t r1.toNat))).2.length:Int)∧J0 t r1 j_25 c_27:=h_28
 refine rE cx [0,2,3,4,5,12,6,32,33,34,35] [2,3,11,5301] (zB 0 (j_25 <(↑(B8 (nrm (t r1.toNat))).2.length:Int))) (fun h_33=>?_) fun h_33=>?_
 refine sK<|sn<|sq<|bL 3<|sq<|rG cx [0,2,3,4,5,12,6,32,33,34,10] [2,3,11,5301,10] (fA (0≤j_25) (fG c206 ((B8 (nrm (t r1.toNat))).2) j_25.toNat (fR 2 (fN 2 2 (oR 0 (c206 (B8 (nrm (t r1.toNat))).2[j_25.toNat]!) z0)))))<|sn<|rG cx [0,2,3,4,5,12,6,32,33,34] [2,3,11,5301] (fR 141 (fR 3 (fR 3 (fX B1 [{ rep:=r1,lo:=(B8 (nrm (t r1.toNat))).2[j_25.toNat]!.lo,hi:=(B8 (nrm (t r1.toNat))).2[j_25.toNat]!.hi:Span }] 3 (fP ((List.map B1 c_27).length+(List.map B1 [{ rep:=r1,lo:=(B8 (nrm (t r1.toNat))).2[j_25.toNat]!.lo,hi:=(B8 (nrm (t r1.toNat))).2[j_25.toNat]!.hi:Span }]).length≤maxLen) ?g9 (fP (((List.map B1 c_27).length+(List.map B1 [{ rep:=r1,lo:=(B8 (nrm (t r1.toNat))).2[j_25.toNat]!.lo,hi:=(B8 (nrm (t r1.toNat))).2[j_25.toNat]!.hi:Span }]).length)*(24:Nat)≤(140737488355328:Nat)) ?g10 (fM B1 c_27 [{ rep:=r1,lo:=(B8 (nrm (t r1.toNat))).2[j_25.toNat]!.lo,hi:=(B8 (nrm (t r1.toNat))).2[j_25.toNat]!.hi:Span }] (oV 9 { rows:=some (List.map B1 (c_27++[{ rep:=r1,lo:=(B8 (nrm (t r1.toNat))).2[j_25.toNat]!.lo,hi:=(B8 (nrm (t r1.toNat))).2[j_25.toNat]!.hi:Span }])) } z0)))))))) ?_;rotate_left 2
 refine bN<|sn<|rG cx [0,2,3,4,5,12,6,32,33,34] [2,3,11,5301] (tT 0 (B6 (by omega) ?g11:AV.i .i64 (IntKind.i64.wrap (j_25+1))=AV.i .i64 (j_25+1)) z0) ?_;rotate_left
 refine sn<|nX ((j_25+1,v_26,c_27++[{ rep:=r1,lo:=(B8 (nrm (t r1.toNat))).2[j_25.toNat]!.lo,hi:=(B8 (nrm (t r1.toNat))).2[j_25.toNat]!.hi:Span }])) (show((↑(B8 (nrm (t r1.toNat))).2.length:Int)-(j_25+1)).toNat <((↑(B8 (nrm (t r1.toNat))).2.length:Int)-j_25).toNat from(by omega)) (show A4p t r1 (v2.set r1.toNat (B8 (nrm (t r1.toNat))).1) (j_25+1) v_26 (c_27++[{ rep:=r1,lo:=(B8 (nrm (t r1.toNat))).2[j_25.toNat]!.lo,hi:=(B8 (nrm (t r1.toNat))).2[j_25.toNat]!.hi:Span }])from ?g12);rotate_left
 refine eX 2<|nE<|nE<|bH<|bN<|sn<|rG cx [0,2,3,4,5,12] [2,3,11,5301] (tW 0 (r1+1) z0)<|sn<|nX ((s0,r1+1,v_26,c_27)) (show(16-(r1+1)).toNat <(16-r1).toNat from(by omega)) (show Ae6 t s0 (r1+1) v_26 c_27 from ?g13);rotate_left
 refine eX 0<|nE<|nE<|bH<|sn<|sq<|rD cx [2,3,4,5,52] [2,3,11,5301] (zB 1 ((0:Int) < s0)) (fun h34=>?_) fun h34=>?_
 refine rG cx [2,3] [2,3,5301,56] (fO ((0:Int)≤(0:Int)) (fA (0≤s0) (fP (s0≤(↑(List.map c3 v2).length:Int)) (by(first | omega | (simp only [List.length_map];omega))) (fP ((0:Int) <(↑(List.map c3 v2).length:Int)) (by(first | omega | (simp only [List.length_map];omega))) (fR (some (1)) (fP (A5d Tryz.prog (164:Nat) [AV.sl (List.take (s0-0).toNat (List.drop (0) (List.map c3 v2)))] (3:Nat) (BK.row (1:Nat) (List.map c3 (List.take (s0-0).toNat (List.drop (0) v2))))) (A5d.le (con164 (List.take (s0-0).toNat (List.drop (0) v2)) ?g14) (ZLe.cons (A5.eq (by simp only [List.map_take,List.map_drop])) ZLe.nil)) (oV 3 { val:=some (.own (3:Nat) (1:Nat)),rows:=some (List.map c3 (List.take (s0-0).toNat (List.drop (0) v2))) } z0))))))) ?_;rotate_left
 refine sn<|sq<|H6 [56,5301] [2,3] [2,3] (σ':=⟨[(2,.ptr (2) (0) (0) (0)),(3,.ptr (3) (0) (0) (0))],[(2,⟨0,26,.var [.nl,.nl]⟩),(3,⟨0,26,.var [.sl (((E.look [(3,{ val:=some (AV.own (3:Nat) (1:Nat)),rows:=some (List.map c3 (List.take (s0-0).toNat (List.drop (0) v2))):Ov })] (3)).getD {:Ov }).rows.getD []),.sl (List.map B1 cc3)]⟩)]⟩) (by kernel_rfl)<|rG cx [2] [2,3] z0<|sn<|rT<|qR (.agg [.sl (((E.look [(3,{ val:=some (AV.own (3:Nat) (1:Nat)),rows:=some (List.map c3 (List.take (s0-0).toNat (List.drop (0) v2))):Ov })] (3)).getD {:Ov }).rows.getD []),.sl (List.map B1 cc3)]) (.eq ?g15);rotate_left
 refine sK<|sn<|sq<|H6 [5301] [2,3,4,5,52] [2,3,11] (σ':=⟨[(2,.ptr (2) (0) (0) (0)),(3,.ptr (3) (0) (0) (0)),(4,.own 11 0),(5,.i .i64 (s0)),(52,.b (decide ((0:Int) < s0)))],[(2,⟨0,26,.var [.nl,.nl]⟩),(3,⟨0,26,.var [.nl,.sl (List.map B1 cc3)]⟩),(11,⟨0,3,.row 1 (List.map c3 v2)⟩)]⟩) (by kernel_rfl)<|rG cx [2] [2] z0<|sn<|rT<|qR (.agg [.nl,.sl (List.map B1 cc3)]) (A5.agg (ZLe.cons (A5.nl' (show List.map c3 (I4 t).vec=[]from ?g17)) (ZLe.cons (A5.eq (show AV.sl (List.map B1 cc3)=AV.sl (List.map B1 (I4 t).cloud)from ?g16)) ZLe.nil)));rotate_left 2
 rotate_left
 clear hl_14;revert s0 r1 v2 cc3 hh5 hh6 hh7 hh8 hh9 h10 h11 h12 h13;rotate_left
 clear hl_14;revert s0 r1 v2 cc3 hh5 hh6 hh7 hh8 hh9 h10 h11 h12 h13 h_15;rotate_left
 clear hl_14;revert s0 r1 v2 cc3 hh5 hh6 hh7 hh8 hh9 h10 h11 h12 h13 h_15 j_16 v_17 c_18 h_20 h_21 h_22 h_23 h_24;rotate_left
 clear hl_14;revert s0 r1 v2 cc3 hh5 hh6 hh7 hh8 hh9 h10 h11 h12 h13 h_15 j_16 v_17 c_18 h_20 h_21 h_22 h_23 h_24;rotate_left
 clear hl_14;revert s0 r1 v2 cc3 hh5 hh6 hh7 hh8 hh9 h10 h11 h12 h13 h_15 j_16 v_17 c_18 h_20 h_21 h_22 h_23 h_24;rotate_left
 clear hl_14;revert s0 r1 v2 cc3 hh5 hh6 hh7 hh8 hh9 h10 h11 h12 h13 h_15 j_16 v_17 c_18 h_20 h_21 h_22 h_23 h_24;rotate_left
 clear hl_14;revert s0 r1 v2 cc3 hh5 hh6 hh7 hh8 hh9 h10 h11 h12 h13 h_15 j_16 v_17 c_18 h_20 h_21 h_22 h_23 h_24;rotate_left
 clear hl_14;revert s0 r1 v2 cc3 hh5 hh6 hh7 hh8 hh9 h10 h11 h12 h13 h_15;rotate_left
 clear hl_14;revert s0 r1 v2 cc3 hh5 hh6 hh7 hh8 hh9 h10 h11 h12 h13 h_15 j_25 v_26 c_27 h_29 h_30 h_31 h_32 h_33;rotate_left
 clear hl_14;revert s0 r1 v2 cc3 hh5 hh6 hh7 hh8 hh9 h10 h11 h12 h13 h_15 j_25 v_26 c_27 h_29 h_30 h_31 h_32 h_33;rotate_left
 clear hl_14;revert s0 r1 v2 cc3 hh5 hh6 hh7 hh8 hh9 h10 h11 h12 h13 h_15 j_25 v_26 c_27 h_29 h_30 h_31 h_32 h_33;rotate_left
 clear hl_14;revert s0 r1 v2 cc3 hh5 hh6 hh7 hh8 hh9 h10 h11 h12 h13 h_15 j_25 v_26 c_27 h_29 h_30 h_31 h_32 h_33;rotate_left
 clear hl_14;revert s0 r1 v2 cc3 hh5 hh6 hh7 hh8 hh9 h10 h11 h12 h13 h_15 j_25 v_26 c_27 h_29 h_30 h_31 h_32 h_33;rotate_left
 revert s0 r1 v2 cc3 hh5 hh6 hh7 hh8 hh9 h10 h11 h12 h13 h34;rotate_left
 revert s0 r1 v2 cc3 hh5 hh6 hh7 hh8 hh9 h10 h11 h12 h13 h34;rotate_left
 revert s0 r1 v2 cc3 hh5 hh6 hh7 hh8 hh9 h10 h11 h12 h13 h34;rotate_left
 revert s0 r1 v2 cc3 hh5 hh6 hh7 hh8 hh9 h10 h11 h12 h13 h34;rotate_left
 case g0=>exact⟨by omega,by omega,by omega,by omega,by simp,rfl,by simp [Z1,A4o],rfl⟩
 case g1=>intro s r v c h0 h1 h2 h3 h4 h5 h6 h7 h8;exact hb _ (by omega)
 case g2=>intro s r v c h0 h1 h2 h3 h4 h5 h6 h7 h8 h9;exact⟨rfl,by omega,by omega,A1q h7⟩
 case g8=>intro s r v c h0 h1 h2 h3 h4 h5 h6 h7 h8 h9;exact⟨rfl,by omega,by omega,A1q h7⟩
 case g3=>intro s r v c h0 h1 h2 h3 h4 h5 h6 h7 h8 h9 j w d k0 k1 k2 k3 k4;have:=X0 h0 h8 k3;simp only [List.length_map,List.length_cons,List.length_nil,Go.maxLen];omega
 case g9=>intro s r v c h0 h1 h2 h3 h4 h5 h6 h7 h8 h9 j w d k0 k1 k2 k3 k4;have:=X0 h0 h8 k3;simp only [List.length_map,List.length_cons,List.length_nil,Go.maxLen];omega
 case g4=>intro s r v c h0 h1 h2 h3 h4 h5 h6 h7 h8 h9 j w d k0 k1 k2 k3 k4;have:=X0 h0 h8 k3;simp only [List.length_map,List.length_cons,List.length_nil];omega
 case g10=>intro s r v c h0 h1 h2 h3 h4 h5 h6 h7 h8 h9 j w d k0 k1 k2 k3 k4;have:=X0 h0 h8 k3;simp only [List.length_map,List.length_cons,List.length_nil];omega
 case g5=>intro s r v c h0 h1 h2 h3 h4 h5 h6 h7 h8 h9 j w d k0 k1 k2 k3 k4;have:=A24 t r.toNat;omega
 case g11=>intro s r v c h0 h1 h2 h3 h4 h5 h6 h7 h8 h9 j w d k0 k1 k2 k3 k4;have:=A24 t r.toNat;omega
 case g6=>intro s r v c h0 h1 h2 h3 h4 h5 h6 h7 h8 h9 j w d k0 k1 k2 k3 k4;exact⟨k0,by omega,by omega,A2v h0 k1 k4 k3⟩
 case g12=>intro s r v c h0 h1 h2 h3 h4 h5 h6 h7 h8 h9 j w d k0 k1 k2 k3 k4;exact⟨k0,by omega,by omega,A2v h0 k1 k4 k3⟩
 case g7 =>
  intro s r v c h0 h1 h2 h3 h4 h5 h6 h7 h8 h9 j w d k0 k1 k2 k3 k4
  have hs:=A9t h0 h5
  rw[if_pos h9]at hs
  subst k0
  exact⟨by omega,by omega,by omega,by omega,by simpa using h4,hs,A64 h0 h8 h6,A4q h0 k4 k3⟩
 case g13 =>
  intro s r v c h0 h1 h2 h3 h4 h5 h6 h7 h8 h9 j w d k0 k1 k2 k3 k4
  have hs:=A9t h0 h5
  rw[if_neg h9]at hs
  subst k0
  exact⟨by omega,by omega,by omega,by omega,by simpa using h4,hs,A64 h0 h8 h6,A4q h0 k4 k3⟩
 case g14=>intro s r v c h0 h1 h2 h3 h4 h5 h6 h7 h8 h9;rw[List.drop_zero,List.length_take];omega
 case g15 =>
  intro s r v c h0 h1 h2 h3 h4 h5 h6 h7 h8 h9
  rw[A65 h1 h8 h5 h6 h7]
  show AV.agg [AV.sl (List.map c3 (List.take (s-0).toNat (List.drop 0 v))),AV.sl (List.map B1 c)]=_
  rw[List.drop_zero,Int.sub_zero]
  rfl
 case g16=>intro s r v c h0 h1 h2 h3 h4 h5 h6 h7 h8 h9;rw[A65 h1 h8 h5 h6 h7]
 case g17=>intro s r v c h0 h1 h2 h3 h4 h5 h6 h7 h8 h9;rw[A65 h1 h8 h5 h6 h7,show s.toNat=0 by omega];rfl
end Go.Proofs.YtphcaholhacnpaaGreat
namespace Go.Proofs.YtphcaholhacnpaaGreat
open Go.E
set_option maxRecDepth 100000
set_option maxHeartbeats 4000000
def K3(d:Dot):Bool:=decide (0≤d.rep∧d.rep < 16∧1≤d.num∧d.num≤1000000000)
def ofT(dots:List Dot)(r:Nat):List Run:=(dots.filter fun d=>K3 d && decide (d.rep=r)).map fun d=>⟨d.num,d.num⟩
def A9u(dots:List Dot)(i:Int)(T:Nat→List Run):Prop:=∀ r:Nat,r < 16→T r=ofT (dots.take i.toNat) r
def B16(dots:List Dot)(i:Int)(T:Nat→List Run):Prop:=0≤i∧i≤dots.length∧A9u dots i T
def dec62(dots:List Dot)(i:Int)(T:Nat→List Run):Nat:=(dots.length-i).toNat
theorem Q4{T U:Nat→List Run}(h:∀ r:Nat,r < 16→T r=U r):I4 T=I4 U:=by
 have hl:∀ n:Nat,n≤16→szT T n=szT U n∧I0 T n=I0 U n:=by
  intro n
  induction n with
  | zero=>intro _;exact⟨rfl,rfl⟩
  | succ n ih =>
   intro hn
   obtain⟨h1,h2⟩:=ih (by omega)
   have e:=h n (by omega)
   exact⟨by rw[szT,szT,h1,Z0,Z0,e],by rw[I0,I0,h2,T3,T3,e]⟩
 have hv:A4o T 16=A4o U 16:=by
  unfold A4o
  congr 1
  refine List.map_congr_left fun r hr=>?_
  have hr:r < 16:=by simpa using hr
  rw[Z0,Z0,h r hr]
 unfold I4
 rw[(hl 16 (Nat.le_refl _)).1,(hl 16 (Nat.le_refl _)).2,hv]
theorem B50(dots:List Dot)(r:Nat):(ofT dots r).length≤dots.length:=by
 unfold ofT
 rw[List.length_map]
 exact List.length_filter_le _ _
theorem Aq5(a:List Dot)(d:Dot)(r:Nat):ofT (a++[d]) r=ofT a r++if K3 d=true∧d.rep=(r:Int)then[⟨d.num,d.num⟩]else[]:=by
 unfold ofT
 rw[List.filter_append,List.map_append]
 congr 1
 by_cases h:K3 d=true∧d.rep=(r:Int)
 ·rw[if_pos h];simp [List.filter_cons,h.1,h.2]
 ·rw[if_neg h]
  have:(K3 d && decide (d.rep=(r:Int)))=false:=by
   rw[Bool.and_eq_false_iff]
   by_cases h1:K3 d=true
   ·exact .inr (by simpa using fun h2=>h ⟨h1,h2⟩)
   ·exact .inl (by simpa using h1)
  simp [List.filter_cons,this]
theorem G0{d:Dot}(h:K3 d=true):0≤d.rep∧d.rep < 16∧1≤d.num∧d.num≤1000000000:=by
 unfold K3 at h
 simpa using h
theorem A9v{dots:List Dot}{i:Int}{T:Nat→List Run}(h1:i≤dots.length)(ht:A9u dots i T){r:Nat}(hr:r < 16):((T r).length:Int)≤i∨(T r).length=0:=by
 rw[ht r hr]
 have:=B50 (dots.take i.toNat) r
 rw[List.length_take]at this
 omega
theorem tab_in{dots:List Dot}{i:Int}{T:Nat→List Run}(h0:0≤i)(h1:i < dots.length)(ht:A9u dots i T)(hd:K3 dots[i.toNat]! = true) :
  A9u dots (i+1) (K7 T dots[i.toNat]!.rep.toNat (T dots[i.toNat]!.rep.toNat++[⟨dots[i.toNat]!.num,dots[i.toNat]!.num⟩])):=by
 intro r hr
 have hb:=G0 hd
 rw[← D6 h0 h1,Aq5]
 unfold K7
 by_cases e:r=dots[i.toNat]!.rep.toNat
 ·rw[if_pos e,if_pos ⟨hd,by omega⟩,← e,ht r hr]
 ·rw[if_neg e,if_neg (fun k=>e (by omega)),List.append_nil,ht r hr]
theorem B51{dots:List Dot}{i:Int}{T:Nat→List Run}(h0:0≤i)(h1:i < dots.length)(ht:A9u dots i T)(hd:K3 dots[i.toNat]! = false):A9u dots (i+1) T:=by
 intro r hr
 rw[← D6 h0 h1,Aq5,if_neg (fun k=>by rw[hd]at k;cases k.1),List.append_nil,ht r hr]
theorem B3a(d:Dot):Con Tryz.prog 172 [.agg (c44 d)] (.b (K3 d)) :=
 by
 refine sC B3 [.tmp 2] 21 Tryz.func172 ?_
 intro e0 cx
 refine sq<|rG cx [1] [1] z0<|sn<|sq<|A9 (σ':=⟨[(2,.b (decide (0≤d.rep∧d.rep <(16:Int)∧1≤d.num∧d.num≤1000000000)))],[]⟩) ?_ ?_
 refine A4 (0≤d.rep) (fun h_1=>?_) (fun h_1=>?_)
 refine A4 (d.rep <(16:Int)) (fun h_2=>?_) (fun h_2=>?_)
 refine A4 (1≤d.num) (fun h_3=>?_) (fun h_3=>?_)
 refine rG cx [2] [] (tT 2 (A3 h_1) (tT 6 (A3 h_2) (tT 11 (A3 h_3) (tB 16 (d.num≤1000000000) (tD 18 (decide (d.num≤1000000000)) (0≤d.rep∧d.rep <(16:Int)∧1≤d.num∧d.num≤1000000000) (by simp only [eq_true h_1,eq_true h_2,eq_true h_3,tsl]) z0))))) ?_
 exact⟨rfl,by kernel_rfl⟩
 refine rG cx [2] [] (tT 2 (A3 h_1) (tT 6 (A3 h_2) (tT 11 (A0 h_3) (tD 18 false (0≤d.rep∧d.rep <(16:Int)∧1≤d.num∧d.num≤1000000000) (by simp only [eq_true h_1,eq_true h_2,eq_false h_3,tsl]) z0)))) ?_
 exact⟨rfl,by kernel_rfl⟩
 refine rG cx [2] [] (tT 2 (A3 h_1) (tT 6 (A0 h_2) (tD 18 false (0≤d.rep∧d.rep <(16:Int)∧1≤d.num∧d.num≤1000000000) (by simp only [eq_true h_1,eq_false h_2,tsl]) z0))) ?_
 exact⟨rfl,by kernel_rfl⟩
 refine rG cx [2] [] (tT 2 (A0 h_1) (tD 18 false (0≤d.rep∧d.rep <(16:Int)∧1≤d.num∧d.num≤1000000000) (by simp only [eq_false h_1,tsl]) z0)) ?_
 exact⟨rfl,by kernel_rfl⟩
 refine sn<|rT<|qR (.b (decide (0≤d.rep∧d.rep <(16:Int)∧1≤d.num∧d.num≤1000000000))) (.eq ?g0);rotate_left
 case g0=>exact rfl
theorem con108(dots:List Dot)(hb:dots.length*16≤140737488351232):Con Tryz.prog 108 [.sl (dots.map c44)] (.agg (c26 (I4 (ofT dots)))) :=
 by
 refine lN 0 c44 (dots) Tryz.func108 fun hl_0=>sC B3 [.cell 2 26] 37 Tryz.func108 ?_
 intro e0 cx
 refine sq<|rG cx [0,2] [2] z0<|sn<|sq<|rG cx [0,2,3] [2,7] z0<|sn<|sq<|sq<|rG cx [2,3,8,9,10] [2,7] (tL 1 c44 dots z0)<|sn<|bL 0<|A0a 7 206 2 100700 16 (σ':=⟨[(2,.ptr (2) (0) (0) (0)),(3,.ptr (7) (0) (0) (0)),(8,.sl (List.map c44 dots)),(9,.i .i64 ((↑dots.length:Int))),(10,.i .i64 ((0:Int)))],[(2,⟨0,26,.var [.nl,.nl]⟩),(7,⟨0,204,.var (F6 100700 16)⟩)]++C4 100700 206 2 16 (c206) (fun x ↦ [])⟩) (by kernel_rfl)<|sL (X:=Int×(Nat→List Run)) (fun x=>⟨[(2,.ptr (2) (0) (0) (0)),(3,.ptr (7) (0) (0) (0)),(8,.sl (List.map c44 dots)),(9,.i .i64 ((↑dots.length:Int))),(10,.i .i64 (x.1))],[(2,⟨0,26,.var [.nl,.nl]⟩),(7,⟨0,204,.var (F6 100700 16)⟩)]++C4 100700 206 2 16 (c206) (x.2)⟩) (fun x ↦ dec62 dots x.1 x.2) (fun x ↦ B16 dots x.1 x.2) [2,3,8,9,10] ([2,7]++List.range' 100700 16) (((0:Int),fun x ↦ [])) (show B16 dots (0:Int) fun x ↦ []from(by exact⟨by omega,by omega,fun r _=>by simp [ofT]⟩)) ?_
 rintro⟨i0,T1⟩ h_2
 obtain⟨hh3,hh4,h5⟩:0≤i0∧i0≤(↑dots.length:Int)∧A9u dots i0 T1:=h_2
 refine rE cx [2,3,8,9,10,11] ([2,7]++List.range' 100700 16) (zB 0 (i0 <(↑dots.length:Int))) (fun h6=>?_) fun h6=>?_
 refine sK<|sn<|sq<|bL 1<|sq<|rG cx [2,3,8,9,10,5] ([2,7]++List.range' 100700 16++[5]) (fA (0≤i0) (fG c44 dots i0.toNat (fR 2 (fN 2 2 (oR 0 (c44 dots[i0.toNat]!) z0)))))<|sn<|sq<|rG cx [2,3,8,9,10,5,15] ([2,7]++List.range' 100700 16++[5]) (fT (B3a (dots[i0.toNat]!)) (oA 1 (.b (K3 dots[i0.toNat]!)) z0))<|sn<|A2m (K3 dots[i0.toNat]!) (by kernel_rfl) (by kernel_rfl) (fun h7=>?_) (fun h7=>?_)
 refine W6 (F:=fun kx=>⟨[(2,.ptr (2) (0) (0) (0)),(3,.ptr (7) (0) (0) (0)),(8,.sl (List.map c44 dots)),(9,.i .i64 ((↑dots.length:Int))),(10,.i .i64 (i0)),(5,.ptr (5) (0) (0) (0)),(15,.b (K3 dots[i0.toNat]!))],[(2,⟨0,26,.var [.nl,.nl]⟩),(7,⟨0,204,.var (F6 100700 16)⟩)]++C4 100700 206 2 16 (c206) (T1)++[(5,⟨0,44,.var [.i .i64 (kx),.i .i64 (dots[i0.toNat]!.num)]⟩)]⟩) (G:=fun kx=>⟨[(2,.ptr (2) (0) (0) (0)),(3,.ptr (7) (0) (0) (0)),(8,.sl (List.map c44 dots)),(9,.i .i64 ((↑dots.length:Int))),(10,.i .i64 (i0))],[(2,⟨0,26,.var [.nl,.nl]⟩),(7,⟨0,204,.var (F6 100700 16)⟩)]++C4 100700 206 2 16 (c206) (K7 T1 kx.toNat (T1 kx.toNat++[{ lo:=dots[i0.toNat]!.num,hi:=dots[i0.toNat]!.num:Run }]))⟩) (A:=fun kx=>(0≤kx)∧(kx <(↑(16:Nat):Int))∧(206=(206:Nat))∧((2:Nat)=2)∧([AV.i .i64 (0:Int),AV.i .i64 (0:Int)].length=(2:Nat))∧(∀(r:List AV),r∈List.map c206 [{ lo:=dots[i0.toNat]!.num,hi:=dots[i0.toNat]!.num:Run }]→r.length=2)∧((List.map c206 (T1 kx.toNat)).length+(List.map c206 [{ lo:=dots[i0.toNat]!.num,hi:=dots[i0.toNat]!.num:Run }]).length≤maxLen)∧(((List.map c206 (T1 kx.toNat)).length+(List.map c206 [{ lo:=dots[i0.toNat]!.num,hi:=dots[i0.toNat]!.num:Run }]).length)*(16:Nat)≤(140737488355328:Nat))∧(List.map c206 (T1 kx.toNat)++List.map c206 [{ lo:=dots[i0.toNat]!.num,hi:=dots[i0.toNat]!.num:Run }]=List.map c206 (T1 kx.toNat++[{ lo:=dots[i0.toNat]!.num,hi:=dots[i0.toNat]!.num:Run }]))∧(0≤kx)∧(kx <(↑(16:Nat):Int))) cx (fun kx=>[(15,{ rows:=some (List.map c206 (T1 kx.toNat++[{ lo:=dots[i0.toNat]!.num,hi:=dots[i0.toNat]!.num:Run }])) })]) [2,3,8,9,10] ([2,7]++List.range' 100700 16) (dots[i0.toNat]!.rep) (by exact(G0 h7).1) (by exact(G0 h7).2.1) (by kernel_rfl) (by kernel_rfl) ⟨(by show _=_;kernel_rfl),(by show _=_;kernel_rfl),(by show _=_;kernel_rfl),(by show _=_;kernel_rfl),(by show _=_;kernel_rfl),(by show _=_;kernel_rfl),(by show _=_;kernel_rfl),(by show _=_;kernel_rfl),(by show _=_;kernel_rfl),(by show _=_;kernel_rfl),(by show _=_;kernel_rfl),(by show _=_;kernel_rfl),(by show _=_;kernel_rfl),(by show _=_;kernel_rfl),(by show _=_;kernel_rfl),(by show _=_;kernel_rfl)⟩ ⟨(by exact(G0 h7).1),(by exact(G0 h7).2.1),(by kernel_rfl),(by kernel_rfl),(by kernel_rfl),(by(with_reducible refine P4 (fun _=>?_) _;kernel_rfl)),(by have hd:=G0 h7;have:=A9v hh4 h5 (r:=dots[i0.toNat]!.rep.toNat) (by omega);simp only [List.length_map,List.length_cons,List.length_nil,Go.maxLen];omega),(by have hd:=G0 h7;have:=A9v hh4 h5 (r:=dots[i0.toNat]!.rep.toNat) (by omega);simp only [List.length_map,List.length_cons,List.length_nil];omega),(by(with_reducible refine V2 ?_;kernel_rfl)),(by exact(G0 h7).1),(by exact(G0 h7).2.1)⟩ ?_
 refine bN<|sn<|rG cx [2,3,8,9,10] ([2,7]++List.range' 100700 16) (tW 0 (i0+1) z0)<|sn<|nX ((i0+1,K7 T1 dots[i0.toNat]!.rep.toNat (T1 dots[i0.toNat]!.rep.toNat++[{ lo:=dots[i0.toNat]!.num,hi:=dots[i0.toNat]!.num:Run }]))) (show((↑dots.length:Int)-(i0+1)).toNat <((↑dots.length:Int)-i0).toNat from(by omega)) (show B16 dots (i0+1) (K7 T1 dots[i0.toNat]!.rep.toNat (T1 dots[i0.toNat]!.rep.toNat++[{ lo:=dots[i0.toNat]!.num,hi:=dots[i0.toNat]!.num:Run }]))from(by exact⟨by omega,by omega,tab_in hh3 h6 h5 h7⟩))
 refine sK<|bN<|sn<|rG cx [2,3,8,9,10] ([2,7]++List.range' 100700 16) (tW 0 (i0+1) z0)<|sn<|nX ((i0+1,T1)) (show((↑dots.length:Int)-(i0+1)).toNat <((↑dots.length:Int)-i0).toNat from(by omega)) (show B16 dots (i0+1) T1 from(by exact⟨by omega,by omega,B51 hh3 h6 h5 h7⟩))
 refine eX 0<|nE<|nE<|bH<|sn<|sq<|H6 (List.range' 100700 16) [2,3,8,9,10,11] [2,7] (σ':=⟨[(2,.ptr (2) (0) (0) (0)),(3,.ptr (7) (0) (0) (0)),(8,.sl (List.map c44 dots)),(9,.i .i64 ((↑dots.length:Int))),(10,.i .i64 (i0)),(11,.b (decide (i0 <(↑dots.length:Int))))],[(2,⟨0,26,.var [.nl,.nl]⟩),(7,⟨0,204,.var [.sl (List.map c206 (T1 (0))),.sl (List.map c206 (T1 (1))),.sl (List.map c206 (T1 (2))),.sl (List.map c206 (T1 (3))),.sl (List.map c206 (T1 (4))),.sl (List.map c206 (T1 (5))),.sl (List.map c206 (T1 (6))),.sl (List.map c206 (T1 (7))),.sl (List.map c206 (T1 (8))),.sl (List.map c206 (T1 (9))),.sl (List.map c206 (T1 (10))),.sl (List.map c206 (T1 (11))),.sl (List.map c206 (T1 (12))),.sl (List.map c206 (T1 (13))),.sl (List.map c206 (T1 (14))),.sl (List.map c206 (T1 (15)))]⟩)]⟩) (by kernel_rfl)<|H3 7 ⟨0,204,.var [.sl (List.map c206 (T1 (0))),.sl (List.map c206 (T1 (1))),.sl (List.map c206 (T1 (2))),.sl (List.map c206 (T1 (3))),.sl (List.map c206 (T1 (4))),.sl (List.map c206 (T1 (5))),.sl (List.map c206 (T1 (6))),.sl (List.map c206 (T1 (7))),.sl (List.map c206 (T1 (8))),.sl (List.map c206 (T1 (9))),.sl (List.map c206 (T1 (10))),.sl (List.map c206 (T1 (11))),.sl (List.map c206 (T1 (12))),.sl (List.map c206 (T1 (13))),.sl (List.map c206 (T1 (14))),.sl (List.map c206 (T1 (15)))]⟩ [.sl (List.map c206 (T1 (0))),.sl (List.map c206 (T1 (1))),.sl (List.map c206 (T1 (2))),.sl (List.map c206 (T1 (3))),.sl (List.map c206 (T1 (4))),.sl (List.map c206 (T1 (5))),.sl (List.map c206 (T1 (6))),.sl (List.map c206 (T1 (7))),.sl (List.map c206 (T1 (8))),.sl (List.map c206 (T1 (9))),.sl (List.map c206 (T1 (10))),.sl (List.map c206 (T1 (11))),.sl (List.map c206 (T1 (12))),.sl (List.map c206 (T1 (13))),.sl (List.map c206 (T1 (14))),.sl (List.map c206 (T1 (15)))] (E9 c206 16 T1) (σ':=⟨[(2,.ptr (2) (0) (0) (0)),(3,.ptr (7) (0) (0) (0)),(8,.sl (List.map c44 dots)),(9,.i .i64 ((↑dots.length:Int))),(10,.i .i64 (i0)),(11,.b (decide (i0 <(↑dots.length:Int))))],[(2,⟨0,26,.var [.nl,.nl]⟩),(7,⟨0,204,.arr (E9 c206 16 T1)⟩)]⟩) (by kernel_rfl) (by kernel_rfl) (by kernel_rfl) (by kernel_rfl) (ZLe.of_eq (by kernel_rfl)) (by kernel_rfl)<|rG cx [2] [2] (fT (con93 (T1) ?g11) (oA 1 (.agg [.sl (List.map c3 (I4 T1).vec),.sl (List.map B1 (I4 T1).cloud)]) z0)) ?_;rotate_left
 refine sn<|rT<|qR (.agg [.sl (List.map c3 (I4 T1).vec),.sl (List.map B1 (I4 T1).cloud)]) (.eq ?g12);rotate_left
 case g11=>revert i0 T1 hh3 hh4 h5 h6;intro i T h0 h1 h2 h3 r hr;have:=A9v h1 h2 hr;omega
 case g12 =>
  have e:I4 T1=I4 (ofT dots):=Q4 fun r hr=>by rw[h5 r hr,List.take_of_length_le (by omega)]
  rw[e]
  rfl
end Go.Proofs.YtphcaholhacnpaaGreat
namespace Go.Proofs.YtphcaholhacnpaaGreat
open Go.E
set_option maxRecDepth 100000
set_option maxHeartbeats 4000000
def Ae7(v:List Int)(r:Nat):List Run:=if r < v.length then[⟨1,v[r]!⟩]else[]
def L9(c:List Span)(r:Nat):List Run:=(c.filter fun(s:Span)=>decide (s.rep=(r:Int))).map fun s=>⟨s.lo,s.hi⟩
def A7(ps:List Past)(r:Nat):List Run:=(ps.map fun p=>Ae7 p.vec r++L9 p.cloud r).flatten
def A4r(ps:List Past)(i:Int)(T:Nat→List Run):Prop:=∀ r:Nat,r < 16→T r=A7 (ps.take i.toNat) r
def T4(ps:List Past)(i j:Int)(T:Nat→List Run):Prop:=∀ r:Nat,r < 16→T r=A7 (ps.take i.toNat) r++if(r:Int) < j then Ae7 (ps[i.toNat]!).vec r else[]
def N8(ps:List Past)(i j:Int)(T:Nat→List Run):Prop:=∀ r:Nat,r < 16→T r=A7 (ps.take i.toNat) r++Ae7 (ps[i.toNat]!).vec r++L9 ((ps[i.toNat]!).cloud.take j.toNat) r
def A9w(ps:List Past)(i:Int)(T:Nat→List Run):Prop:=0≤i∧i≤ps.length∧A4r ps i T
def B52(ps:List Past)(i:Int)(T:Nat→List Run):Nat:=(ps.length-i).toNat
def A9x(ps:List Past)(i:Int)(n:Int)(j:Int)(T:Nat→List Run)(v:List Int)(c:List Span):Prop:=v=(ps[i.toNat]!).vec∧c=(ps[i.toNat]!).cloud∧0≤j∧j≤n∧T4 ps i j T
def B53(n:Int)(j:Int)(T:Nat→List Run)(v:List Int)(c:List Span):Nat:=(n-j).toNat
def A66(ps:List Past)(i:Int)(j:Int)(T:Nat→List Run):Prop:=0≤j∧j≤(ps[i.toNat]!).cloud.length∧N8 ps i j T
def B54(ps:List Past)(i:Int)(j:Int)(T:Nat→List Run):Nat:=((ps[i.toNat]!).cloud.length-j).toNat
def A4s(ps:List Past):Nat:=(ps.map fun p=>p.cloud.length+1).sum
theorem Aq6(a:List Past)(p:Past)(r:Nat):A7 (a++[p]) r=A7 a r++(Ae7 p.vec r++L9 p.cloud r):=by simp [A7]
theorem Ae8(v:List Int)(r:Nat):(Ae7 v r).length≤1:=by unfold Ae7;split <;> simp
theorem A4t(c:List Span)(r:Nat):(L9 c r).length≤c.length:=by
 unfold L9
 rw[List.length_map]
 exact List.length_filter_le _ _
theorem Q5(r:Nat):∀ ps:List Past,(A7 ps r).length≤A4s ps
 | []=>by simp [A7]
 | p :: ps=>by
  have h1:=Q5 r ps
  have h2:=Ae8 p.vec r
  have h3:=A4t p.cloud r
  simp only [A7,A4s,List.map_cons,List.flatten_cons,List.length_append,List.sum_cons]at *
  omega
theorem B17(a b:List Past):A4s (a++b)=A4s a+A4s b:=by simp [A4s]
theorem A80{ps:List Past}{i:Int}(h0:0≤i)(h:i < ps.length):A4s (ps.take i.toNat)+(ps[i.toNat]!).cloud.length+1≤A4s ps:=by
 have e:A4s ps=A4s (ps.take (i+1).toNat)+A4s (ps.drop (i+1).toNat):=by
  rw[← B17,List.take_append_drop]
 rw[← D6 h0 h]at e
 simp only [A4s,List.map_append,List.sum_append,List.map_cons,List.map_nil,List.sum_cons,List.sum_nil]at *
 omega
theorem A2w{ps:List Past}{i:Int}{T:Nat→List Run}(h:A4r ps i T):T4 ps i 0 T:=fun r hr=>by
 rw[h r hr,if_neg (by omega),List.append_nil]
theorem A4u{ps:List Past}{i j:Int}{T:Nat→List Run}(j0:0≤j)(jl:j <(ps[i.toNat]!).vec.length)(h:T4 ps i j T) :
  T4 ps i (j+1) (K7 T j.toNat (T j.toNat++[⟨1,(ps[i.toNat]!).vec[j.toNat]!⟩])):=by
 intro r hr
 unfold K7
 by_cases e:r=j.toNat
 ·rw[if_pos e,← e,h r hr,if_neg (by omega),if_pos (by omega),List.append_nil,Ae7,if_pos (by omega)]
 ·rw[if_neg e,h r hr]
  by_cases k:(r:Int) < j
  ·rw[if_pos k,if_pos (by omega)]
  ·rw[if_neg k,if_neg (by omega)]
theorem A2x{ps:List Past}{i j:Int}{T:Nat→List Run}(j1:j≤min ((ps[i.toNat]!).vec.length:Int) 16)(jl:¬ j < min ((ps[i.toNat]!).vec.length:Int) 16)(h:T4 ps i j T):N8 ps i 0 T:=by
 intro r hr
 rw[h r hr,show(0:Int).toNat=0 from rfl,List.take_zero,show L9 [] r=[]from rfl,List.append_nil]
 by_cases k:(r:Int) < j
 ·rw[if_pos k]
 ·rw[if_neg k,Ae7,if_neg (by omega)]
theorem A4v(c:List Span)(s:Span)(r:Nat):L9 (c++[s]) r=L9 c r++if s.rep=(r:Int)then[⟨s.lo,s.hi⟩]else[]:=by
 unfold L9
 rw[List.filter_append,List.map_append]
 congr 1
 by_cases h:s.rep=(r:Int)
 ·rw[if_pos h];simp [List.filter_cons,h]
 ·rw[if_neg h];simp [List.filter_cons,h]
theorem Ae9{ps:List Past}{i j:Int}{T:Nat→List Run}(j0:0≤j)(jl:j <(ps[i.toNat]!).cloud.length)(hr:0≤((ps[i.toNat]!).cloud[j.toNat]!).rep∧((ps[i.toNat]!).cloud[j.toNat]!).rep < 16)(h:N8 ps i j T) :
  N8 ps i (j+1) (K7 T ((ps[i.toNat]!).cloud[j.toNat]!).rep.toNat (T ((ps[i.toNat]!).cloud[j.toNat]!).rep.toNat++[⟨((ps[i.toNat]!).cloud[j.toNat]!).lo,((ps[i.toNat]!).cloud[j.toNat]!).hi⟩])):=by
 intro r hr'
 rw[← D6 j0 jl,A4v]
 unfold K7
 by_cases e:r=((ps[i.toNat]!).cloud[j.toNat]!).rep.toNat
 ·rw[if_pos e,if_pos (by omega),← e,h r hr',List.append_assoc,List.append_assoc]
 ·rw[if_neg e,if_neg (by omega),List.append_nil,h r hr']
theorem A81{ps:List Past}{i j:Int}{T:Nat→List Run}(j0:0≤j)(jl:j <(ps[i.toNat]!).cloud.length)(hr:¬(0≤((ps[i.toNat]!).cloud[j.toNat]!).rep∧((ps[i.toNat]!).cloud[j.toNat]!).rep < 16))(h:N8 ps i j T):N8 ps i (j+1) T:=by
 intro r hr'
 rw[← D6 j0 jl,A4v,if_neg (by omega),List.append_nil,h r hr']
theorem A82{ps:List Past}{i j:Int}{T:Nat→List Run}(h0:0≤i)(h1:i < ps.length)(jl:¬ j <(ps[i.toNat]!).cloud.length)(h:N8 ps i j T):A4r ps (i+1) T:=by
 intro r hr
 rw[← D6 h0 h1,Aq6,h r hr,List.take_of_length_le (l:=(ps[i.toNat]!).cloud) (by omega),List.append_assoc]
theorem A2y{ps:List Past}{i j:Int}{T:Nat→List Run}(h0:0≤i)(h1:i < ps.length)(h:T4 ps i j T){r:Nat}(hr:r < 16)(k:¬(r:Int) < j):(T r).length+1≤A4s ps:=by
 rw[h r hr,if_neg k,List.append_nil]
 have:=Q5 r (ps.take i.toNat)
 have:=A80 h0 h1
 omega
theorem Q6{ps:List Past}{i j:Int}{T:Nat→List Run}(h0:0≤i)(h1:i < ps.length)(j0:0≤j)(jl:j <(ps[i.toNat]!).cloud.length)(h:N8 ps i j T){r:Nat}(hr:r < 16):(T r).length+1≤A4s ps+1∧j+1≤A4s ps:=by
 rw[h r hr,List.length_append,List.length_append]
 have:=Q5 r (ps.take i.toNat)
 have:=A80 h0 h1
 have:=Ae8 (ps[i.toNat]!).vec r
 have:=A4t ((ps[i.toNat]!).cloud.take j.toNat) r
 rw[List.length_take]at this
 omega
theorem B55(ps:List Past)(hb:A4s ps*16≤140737488351232):A5d Tryz.prog 92 [.sl (ps.map c26)] 204 (.arr (E9 c206 16 (A7 ps))) :=
 by
 refine A7u 0 (c26) (ps) (by kernel_rfl) Tryz.func92 (by kernel_rfl) fun hl_0=>Ap0 B3 (by kernel_rfl) (.tmp 2) 78 Tryz.func92 (by kernel_rfl) (by kernel_rfl) ?_
 intro e0 cx
 refine sq<|rG cx [0] [] z0<|sn<|sq<|rG cx [0,3] [10] z0<|sn<|sq<|sq<|rG cx [3,11,12,13] [10] (tL 1 c26 ps z0)<|sn<|bL 0<|A0a 10 206 2 101000 16 (σ':=⟨[(3,.ptr (10) (0) (0) (0)),(11,.sl (List.map c26 ps)),(12,.i .i64 ((↑ps.length:Int))),(13,.i .i64 ((0:Int)))],[(10,⟨0,204,.var (F6 101000 16)⟩)]++C4 101000 206 2 16 (c206) (fun x ↦ [])⟩) (by kernel_rfl)<|sL (X:=Int×(Nat→List Run)) (fun x=>⟨[(3,.ptr (10) (0) (0) (0)),(11,.sl (List.map c26 ps)),(12,.i .i64 ((↑ps.length:Int))),(13,.i .i64 (x.1))],[(10,⟨0,204,.var (F6 101000 16)⟩)]++C4 101000 206 2 16 (c206) (x.2)⟩) (fun x ↦ B52 ps x.1 x.2) (fun x ↦ A9w ps x.1 x.2) [3,11,12,13] ([10]++List.range' 101000 16) (((0:Int),fun x ↦ [])) (show A9w ps (0:Int) fun x ↦ []from(by exact⟨by omega,by omega,fun r _=>rfl⟩)) ?_
 rintro⟨i0,T1⟩ h_2
 obtain⟨hh3,h4,h5⟩:0≤i0∧i0≤(↑ps.length:Int)∧A4r ps i0 T1:=h_2
 refine rE cx [3,11,12,13,14] ([10]++List.range' 101000 16) (zB 0 (i0 <(↑ps.length:Int))) (fun h6=>?_) fun h6=>?_
 refine sK<|sn<|sq<|bL 1<|sq<|rG cx [3,11,12,13,5] ([10]++List.range' 101000 16++[5]) (fA (0≤i0) (fG c26 ps i0.toNat (fR 2 (fN 2 2 (oR 0 (c26 ps[i0.toNat]!) z0)))))<|sn<|sq<|sq<|rG cx [3,11,12,13,5,20,21] ([10]++List.range' 101000 16++[5]) (tL 2 c3 ps[i0.toNat]!.vec (tT 3 (A21:AV.i .i64 (if(16:Int) <(↑ps[i0.toNat]!.vec.length:Int)then(16:Int)else(↑ps[i0.toNat]!.vec.length:Int))=AV.i .i64 (min (↑ps[i0.toNat]!.vec.length:Int) (16:Int))) z0))<|sn<|bL 2<|sL (X:=Int×(Nat→List Run)×List Int×List Span) (fun x=>⟨[(3,.ptr (10) (0) (0) (0)),(11,.sl (List.map c26 ps)),(12,.i .i64 ((↑ps.length:Int))),(13,.i .i64 (i0)),(5,.ptr (5) (0) (0) (0)),(20,.i .i64 (min (↑ps[i0.toNat]!.vec.length:Int) (16:Int))),(21,.i .i64 (x.1))],[(10,⟨0,204,.var (F6 101000 16)⟩)]++C4 101000 206 2 16 (c206) (x.2.1)++[(5,⟨0,26,.var [.sl (List.map c3 x.2.2.1),.sl (List.map B1 x.2.2.2)]⟩)]⟩) (fun x ↦ B53 (min (↑ps[i0.toNat]!.vec.length:Int) (16:Int)) x.1 x.2.1 x.2.2.1 x.2.2.2) (fun x ↦ A9x ps i0 (min (↑ps[i0.toNat]!.vec.length:Int) (16:Int)) x.1 x.2.1 x.2.2.1 x.2.2.2) [3,11,12,13,5,20,21] ([10]++List.range' 101000 16++[5]) (((0:Int),T1,ps[i0.toNat]!.vec,ps[i0.toNat]!.cloud)) (show A9x ps i0 (min (↑ps[i0.toNat]!.vec.length:Int) (16:Int)) (0:Int) T1 ps[i0.toNat]!.vec ps[i0.toNat]!.cloud from(by exact⟨rfl,rfl,by omega,by omega,A2w h5⟩)) ?_
 rintro⟨j7,T8,v9,c10⟩ h_11
 obtain⟨h12,h13,h14,h15,h16⟩:v9=ps[i0.toNat]!.vec∧c10=ps[i0.toNat]!.cloud∧0≤j7∧j7≤min (↑ps[i0.toNat]!.vec.length:Int) (16:Int)∧T4 ps i0 j7 T8:=h_11
 refine rE cx [3,11,12,13,5,20,21,22] ([10]++List.range' 101000 16++[5]) (zB 0 (j7 < min (↑ps[i0.toNat]!.vec.length:Int) (16:Int))) (fun h17=>?_) fun h17=>?_
 refine sK<|sn<|sq<|bL 3<|sq<|rG cx [3,11,12,13,5,20,21,6] ([10]++List.range' 101000 16++[5]) z0<|sn<|W6 (F:=fun kx=>⟨[(3,.ptr (10) (0) (0) (0)),(11,.sl (List.map c26 ps)),(12,.i .i64 ((↑ps.length:Int))),(13,.i .i64 (i0)),(5,.ptr (5) (0) (0) (0)),(20,.i .i64 (min (↑ps[i0.toNat]!.vec.length:Int) (16:Int))),(21,.i .i64 (kx)),(6,.i .i64 (kx))],[(10,⟨0,204,.var (F6 101000 16)⟩)]++C4 101000 206 2 16 (c206) (T8)++[(5,⟨0,26,.var [.sl (List.map c3 v9),.sl (List.map B1 c10)]⟩)]⟩) (G:=fun kx=>⟨[(3,.ptr (10) (0) (0) (0)),(11,.sl (List.map c26 ps)),(12,.i .i64 ((↑ps.length:Int))),(13,.i .i64 (i0)),(5,.ptr (5) (0) (0) (0)),(20,.i .i64 (min (↑ps[i0.toNat]!.vec.length:Int) (16:Int))),(21,.i .i64 (kx))],[(10,⟨0,204,.var (F6 101000 16)⟩)]++C4 101000 206 2 16 (c206) (K7 T8 kx.toNat (T8 kx.toNat++[{ lo:=(1:Int),hi:=v9[kx.toNat]!:Run }]))++[(5,⟨0,26,.var [.sl (List.map c3 v9),.sl (List.map B1 c10)]⟩)]⟩) (A:=fun kx=>(0≤kx)∧(kx <(↑(16:Nat):Int))∧(0≤kx)∧((List.map c3 v9)[kx.toNat]?=some (c3 v9[kx.toNat]!))∧((c3 v9[kx.toNat]!).length=(1:Nat))∧(206=(206:Nat))∧((2:Nat)=2)∧([AV.i .i64 (0:Int),AV.i .i64 (0:Int)].length=(2:Nat))∧(∀(r:List AV),r∈List.map c206 [{ lo:=(1:Int),hi:=v9[kx.toNat]!:Run }]→r.length=2)∧((List.map c206 (T8 kx.toNat)).length+(List.map c206 [{ lo:=(1:Int),hi:=v9[kx.toNat]!:Run }]).length≤maxLen)∧(((List.map c206 (T8 kx.toNat)).length+(List.map c206 [{ lo:=(1:Int),hi:=v9[kx.toNat]!:Run }]).length)*(16:Nat)≤(140737488355328:Nat))∧(List.map c206 (T8 kx.toNat)++List.map c206 [{ lo:=(1:Int),hi:=v9[kx.toNat]!:Run }]=List.map c206 (T8 kx.toNat++[{ lo:=(1:Int),hi:=v9[kx.toNat]!:Run }]))∧(0≤kx)∧(kx <(↑(16:Nat):Int))) cx (fun kx=>[(10,{ row:=(c3 v9[kx.toNat]!) }),(14,{ rows:=some (List.map c206 (T8 kx.toNat++[{ lo:=(1:Int),hi:=v9[kx.toNat]!:Run }])) })]) [3,11,12,13,5,20,21] ([10]++List.range' 101000 16++[5]) (j7) (by(with_reducible assumption)) (by omega) (by kernel_rfl) (by kernel_rfl) ⟨(by show _=_;kernel_rfl),(by show _=_;kernel_rfl),(by show _=_;kernel_rfl),(by show _=_;kernel_rfl),(by show _=_;kernel_rfl),(by show _=_;kernel_rfl),(by show _=_;kernel_rfl),(by show _=_;kernel_rfl),(by show _=_;kernel_rfl),(by show _=_;kernel_rfl),(by show _=_;kernel_rfl),(by show _=_;kernel_rfl),(by show _=_;kernel_rfl),(by show _=_;kernel_rfl),(by show _=_;kernel_rfl),(by show _=_;kernel_rfl)⟩ ⟨(by(with_reducible assumption)),(by omega),(by(with_reducible assumption)),(by subst_vars;exact G5 (by omega)),(by kernel_rfl),(by kernel_rfl),(by kernel_rfl),(by kernel_rfl),(by(with_reducible refine P4 (fun _=>?_) _;kernel_rfl)),(by have:=A2y hh3 h6 h16 (r:=j7.toNat) (by omega) (by omega);simp only [List.length_map,List.length_cons,List.length_nil,Go.maxLen];omega),(by have:=A2y hh3 h6 h16 (r:=j7.toNat) (by omega) (by omega);simp only [List.length_map,List.length_cons,List.length_nil];omega),(by(with_reducible refine V2 ?_;kernel_rfl)),(by(with_reducible assumption)),(by omega)⟩ ?_
 refine bN<|sn<|rG cx [3,11,12,13,5,20,21] ([10]++List.range' 101000 16++[5]) (tW 0 (j7+1) z0)<|sn<|nX ((j7+1,K7 T8 j7.toNat (T8 j7.toNat++[{ lo:=(1:Int),hi:=v9[j7.toNat]!:Run }]),v9,c10)) (show(min (↑ps[i0.toNat]!.vec.length:Int) 16-(j7+1)).toNat <(min (↑ps[i0.toNat]!.vec.length:Int) 16-j7).toNat from(by omega)) (show A9x ps i0 (min (↑ps[i0.toNat]!.vec.length:Int) (16:Int)) (j7+1) (K7 T8 j7.toNat (T8 j7.toNat++[{ lo:=(1:Int),hi:=v9[j7.toNat]!:Run }])) v9 c10 from(by subst h12 h13;exact⟨rfl,rfl,by omega,by omega,A4u h14 (by omega) h16⟩))
 refine eX 2<|nE<|nE<|bH<|sn<|sq<|rG cx [3,11,12,13,43,44,45] ([10]++List.range' 101000 16) (tL 2 B1 c10 z0)<|sn<|bL 4<|sL (X:=Int×(Nat→List Run)) (fun x=>⟨[(3,.ptr (10) (0) (0) (0)),(11,.sl (List.map c26 ps)),(12,.i .i64 ((↑ps.length:Int))),(13,.i .i64 (i0)),(43,.sl (List.map B1 c10)),(44,.i .i64 ((↑c10.length:Int))),(45,.i .i64 (x.1))],[(10,⟨0,204,.var (F6 101000 16)⟩)]++C4 101000 206 2 16 (c206) (x.2)⟩) (fun x ↦ B54 ps i0 x.1 x.2) (fun x ↦ A66 ps i0 x.1 x.2) [3,11,12,13,43,44,45] ([10]++List.range' 101000 16) (((0:Int),T8)) (show A66 ps i0 (0:Int) T8 from(by exact⟨by omega,by omega,A2x h15 h17 h16⟩)) ?_
 rintro⟨j18,T19⟩ h_20
 obtain⟨h21,h22,h23⟩:0≤j18∧j18≤(↑ps[i0.toNat]!.cloud.length:Int)∧N8 ps i0 j18 T19:=h_20
 refine rE cx [3,11,12,13,43,44,45,46] ([10]++List.range' 101000 16) (zB 0 (j18 <(↑c10.length:Int))) (fun h24=>?_) fun h24=>?_
 refine sK<|sn<|sq<|bL 5<|sq<|rG cx [3,11,12,13,43,44,45,8] ([10]++List.range' 101000 16++[8]) (fA (0≤j18) (fG B1 c10 j18.toNat (fR 3 (fN 3 3 (oR 0 (B1 c10[j18.toNat]!) z0)))))<|sn<|sq<|A9 (σ':=⟨[(3,.ptr (10) (0) (0) (0)),(11,.sl (List.map c26 ps)),(12,.i .i64 ((↑ps.length:Int))),(13,.i .i64 (i0)),(43,.sl (List.map B1 c10)),(44,.i .i64 ((↑c10.length:Int))),(45,.i .i64 (j18)),(8,.ptr (8) (0) (0) (0)),(56,.b (decide (0≤c10[j18.toNat]!.rep∧c10[j18.toNat]!.rep <(16:Int))))],[(10,⟨0,204,.var (F6 101000 16)⟩)]++C4 101000 206 2 16 (c206) (T19)++[(8,⟨0,141,.var [.i .i64 (c10[j18.toNat]!.rep),.i .i64 (c10[j18.toNat]!.lo),.i .i64 (c10[j18.toNat]!.hi)]⟩)]⟩) ?_ ?_
 refine A4 (0≤c10[j18.toNat]!.rep) (fun h_26=>?_) (fun h_26=>?_)
 refine rG cx [3,11,12,13,43,44,45,8,56] ([10]++List.range' 101000 16++[8]) (tT 2 (A3 h_26) (tB 6 (c10[j18.toNat]!.rep <(16:Int)) (tD 7 (decide (c10[j18.toNat]!.rep <(16:Int))) (0≤c10[j18.toNat]!.rep∧c10[j18.toNat]!.rep <(16:Int)) (by simp only [eq_true h_26,tsl]) z0))) ?_
 exact⟨rfl,by kernel_rfl⟩
 refine rG cx [3,11,12,13,43,44,45,8,56] ([10]++List.range' 101000 16++[8]) (tT 2 (A0 h_26) (tD 7 false (0≤c10[j18.toNat]!.rep∧c10[j18.toNat]!.rep <(16:Int)) (by simp only [eq_false h_26,tsl]) z0)) ?_
 exact⟨rfl,by kernel_rfl⟩
 refine sn<|dC (0≤c10[j18.toNat]!.rep∧c10[j18.toNat]!.rep <(16:Int)) (fun h27=>?_) fun h27=>?_
 refine W6 (F:=fun kx=>⟨[(3,.ptr (10) (0) (0) (0)),(11,.sl (List.map c26 ps)),(12,.i .i64 ((↑ps.length:Int))),(13,.i .i64 (i0)),(43,.sl (List.map B1 c10)),(44,.i .i64 ((↑c10.length:Int))),(45,.i .i64 (j18)),(8,.ptr (8) (0) (0) (0)),(56,.b (decide (0≤kx∧kx <(16:Int))))],[(10,⟨0,204,.var (F6 101000 16)⟩)]++C4 101000 206 2 16 (c206) (T19)++[(8,⟨0,141,.var [.i .i64 (kx),.i .i64 (c10[j18.toNat]!.lo),.i .i64 (c10[j18.toNat]!.hi)]⟩)]⟩) (G:=fun kx=>⟨[(3,.ptr (10) (0) (0) (0)),(11,.sl (List.map c26 ps)),(12,.i .i64 ((↑ps.length:Int))),(13,.i .i64 (i0)),(43,.sl (List.map B1 c10)),(44,.i .i64 ((↑c10.length:Int))),(45,.i .i64 (j18))],[(10,⟨0,204,.var (F6 101000 16)⟩)]++C4 101000 206 2 16 (c206) (K7 T19 kx.toNat (T19 kx.toNat++[{ lo:=c10[j18.toNat]!.lo,hi:=c10[j18.toNat]!.hi:Run }]))⟩) (A:=fun kx=>(0≤kx)∧(kx <(↑(16:Nat):Int))∧(206=(206:Nat))∧((2:Nat)=2)∧([AV.i .i64 (0:Int),AV.i .i64 (0:Int)].length=(2:Nat))∧(∀(r:List AV),r∈List.map c206 [{ lo:=c10[j18.toNat]!.lo,hi:=c10[j18.toNat]!.hi:Run }]→r.length=2)∧((List.map c206 (T19 kx.toNat)).length+(List.map c206 [{ lo:=c10[j18.toNat]!.lo,hi:=c10[j18.toNat]!.hi:Run }]).length≤maxLen)∧(((List.map c206 (T19 kx.toNat)).length+(List.map c206 [{ lo:=c10[j18.toNat]!.lo,hi:=c10[j18.toNat]!.hi:Run }]).length)*(16:Nat)≤(140737488355328:Nat))∧(List.map c206 (T19 kx.toNat)++List.map c206 [{ lo:=c10[j18.toNat]!.lo,hi:=c10[j18.toNat]!.hi:Run }]=List.map c206 (T19 kx.toNat++[{ lo:=c10[j18.toNat]!.lo,hi:=c10[j18.toNat]!.hi:Run }]))∧(0≤kx)∧(kx <(↑(16:Nat):Int))) cx (fun kx=>[(15,{ rows:=some (List.map c206 (T19 kx.toNat++[{ lo:=c10[j18.toNat]!.lo,hi:=c10[j18.toNat]!.hi:Run }])) })]) [3,11,12,13,43,44,45] ([10]++List.range' 101000 16) (c10[j18.toNat]!.rep) (by omega) (by omega) (by kernel_rfl) (by kernel_rfl) ⟨(by show _=_;kernel_rfl),(by show _=_;kernel_rfl),(by show _=_;kernel_rfl),(by show _=_;kernel_rfl),(by show _=_;kernel_rfl),(by show _=_;kernel_rfl),(by show _=_;kernel_rfl),(by show _=_;kernel_rfl),(by show _=_;kernel_rfl),(by show _=_;kernel_rfl),(by show _=_;kernel_rfl),(by show _=_;kernel_rfl),(by show _=_;kernel_rfl),(by show _=_;kernel_rfl),(by show _=_;kernel_rfl),(by show _=_;kernel_rfl)⟩ ⟨(by omega),(by omega),(by kernel_rfl),(by kernel_rfl),(by kernel_rfl),(by(with_reducible refine P4 (fun _=>?_) _;kernel_rfl)),(by subst h12 h13;have:=Q6 hh3 h6 h21 h24 h23 (r:=((ps[i0.toNat]!).cloud[j18.toNat]!).rep.toNat) (by omega);simp only [List.length_map,List.length_cons,List.length_nil,Go.maxLen];omega),(by subst h12 h13;have:=Q6 hh3 h6 h21 h24 h23 (r:=((ps[i0.toNat]!).cloud[j18.toNat]!).rep.toNat) (by omega);simp only [List.length_map,List.length_cons,List.length_nil];omega),(by(with_reducible refine V2 ?_;kernel_rfl)),(by omega),(by omega)⟩ ?_
 refine bN<|sn<|rG cx [3,11,12,13,43,44,45] ([10]++List.range' 101000 16) (tT 0 (B6 (by omega) (by subst h12 h13;have:=Q6 hh3 h6 h21 h24 h23 (r:=0) (by omega);omega):AV.i .i64 (IntKind.i64.wrap (j18+1))=AV.i .i64 (j18+1)) z0) ?_
 refine sn<|nX ((j18+1,K7 T19 c10[j18.toNat]!.rep.toNat (T19 c10[j18.toNat]!.rep.toNat++[{ lo:=c10[j18.toNat]!.lo,hi:=c10[j18.toNat]!.hi:Run }]))) (show((↑ps[i0.toNat]!.cloud.length:Int)-(j18+1)).toNat <((↑ps[i0.toNat]!.cloud.length:Int)-j18).toNat from(by subst h12 h13;omega)) (show A66 ps i0 (j18+1) (K7 T19 c10[j18.toNat]!.rep.toNat (T19 c10[j18.toNat]!.rep.toNat++[{ lo:=c10[j18.toNat]!.lo,hi:=c10[j18.toNat]!.hi:Run }]))from(by subst h12 h13;exact⟨by omega,by omega,Ae9 h21 h24 h27 h23⟩))
 refine sK<|bN<|sn<|rG cx [3,11,12,13,43,44,45] ([10]++List.range' 101000 16) (tT 0 (B6 (by omega) (by subst h12 h13;have:=Q6 hh3 h6 h21 h24 h23 (r:=0) (by omega);omega):AV.i .i64 (IntKind.i64.wrap (j18+1))=AV.i .i64 (j18+1)) z0) ?_
 refine sn<|nX ((j18+1,T19)) (show((↑ps[i0.toNat]!.cloud.length:Int)-(j18+1)).toNat <((↑ps[i0.toNat]!.cloud.length:Int)-j18).toNat from(by subst h12 h13;omega)) (show A66 ps i0 (j18+1) T19 from(by subst h12 h13;exact⟨by omega,by omega,A81 h21 h24 h27 h23⟩))
 refine eX 4<|nE<|nE<|bH<|bN<|sn<|rG cx [3,11,12,13] ([10]++List.range' 101000 16) (tW 0 (i0+1) z0)<|sn<|nX ((i0+1,T19)) (show((↑ps.length:Int)-(i0+1)).toNat <((↑ps.length:Int)-i0).toNat from(by omega)) (show A9w ps (i0+1) T19 from(by subst h12 h13;exact⟨by omega,by omega,A82 hh3 h6 h24 h23⟩))
 refine eX 0<|nE<|nE<|bH<|sn<|sq<|H6 (List.range' 101000 16) [3,11,12,13,14] [10] (σ':=⟨[(3,.ptr (10) (0) (0) (0)),(11,.sl (List.map c26 ps)),(12,.i .i64 ((↑ps.length:Int))),(13,.i .i64 (i0)),(14,.b (decide (i0 <(↑ps.length:Int))))],[(10,⟨0,204,.var [.sl (List.map c206 (T1 (0))),.sl (List.map c206 (T1 (1))),.sl (List.map c206 (T1 (2))),.sl (List.map c206 (T1 (3))),.sl (List.map c206 (T1 (4))),.sl (List.map c206 (T1 (5))),.sl (List.map c206 (T1 (6))),.sl (List.map c206 (T1 (7))),.sl (List.map c206 (T1 (8))),.sl (List.map c206 (T1 (9))),.sl (List.map c206 (T1 (10))),.sl (List.map c206 (T1 (11))),.sl (List.map c206 (T1 (12))),.sl (List.map c206 (T1 (13))),.sl (List.map c206 (T1 (14))),.sl (List.map c206 (T1 (15)))]⟩)]⟩) (by kernel_rfl)<|H3 10 ⟨0,204,.var [.sl (List.map c206 (T1 (0))),.sl (List.map c206 (T1 (1))),.sl (List.map c206 (T1 (2))),.sl (List.map c206 (T1 (3))),.sl (List.map c206 (T1 (4))),.sl (List.map c206 (T1 (5))),.sl (List.map c206 (T1 (6))),.sl (List.map c206 (T1 (7))),.sl (List.map c206 (T1 (8))),.sl (List.map c206 (T1 (9))),.sl (List.map c206 (T1 (10))),.sl (List.map c206 (T1 (11))),.sl (List.map c206 (T1 (12))),.sl (List.map c206 (T1 (13))),.sl (List.map c206 (T1 (14))),.sl (List.map c206 (T1 (15)))]⟩ [.sl (List.map c206 (T1 (0))),.sl (List.map c206 (T1 (1))),.sl (List.map c206 (T1 (2))),.sl (List.map c206 (T1 (3))),.sl (List.map c206 (T1 (4))),.sl (List.map c206 (T1 (5))),.sl (List.map c206 (T1 (6))),.sl (List.map c206 (T1 (7))),.sl (List.map c206 (T1 (8))),.sl (List.map c206 (T1 (9))),.sl (List.map c206 (T1 (10))),.sl (List.map c206 (T1 (11))),.sl (List.map c206 (T1 (12))),.sl (List.map c206 (T1 (13))),.sl (List.map c206 (T1 (14))),.sl (List.map c206 (T1 (15)))] (E9 c206 16 T1) (σ':=⟨[(3,.ptr (10) (0) (0) (0)),(11,.sl (List.map c26 ps)),(12,.i .i64 ((↑ps.length:Int))),(13,.i .i64 (i0)),(14,.b (decide (i0 <(↑ps.length:Int))))],[(10,⟨0,204,.arr (E9 c206 16 T1)⟩)]⟩) (by kernel_rfl) (by kernel_rfl) (by kernel_rfl) (by kernel_rfl) (ZLe.of_eq (by kernel_rfl)) (by kernel_rfl)<|rG cx [2] [10] z0<|sn<|rT<|qb_ptr (cells':=(E9 c206 16 T1)) .ret (.inr rfl) 2 10 0 (by kernel_rfl) (by kernel_rfl) (by kernel_rfl) ?g16;rotate_left
 case g16 =>
  unfold E9
  refine List.map_congr_left fun r hr=>?_
  rw[h5 r (by simpa using hr),List.take_of_length_le (by omega)]
end Go.Proofs.YtphcaholhacnpaaGreat
namespace Go.Proofs.YtphcaholhacnpaaGreat
open Go.E
set_option maxRecDepth 100000
set_option maxHeartbeats 4000000
def A6(p:Past):Past:=I4 (A7 [p])
theorem A9y(p:Past):A4s [p]=p.cloud.length+1:=by simp [A4s]
theorem Af0(p:Past)(hb:p.cloud.length*16≤140737488350000):Con Tryz.prog 116 [.agg (c26 p)] (.agg (c26 (A6 p))) :=
 by
 have h1:=A9y p
 have h2:=fun r=>Q5 r [p]
 refine sC B3 [.cell 2 26] 7 Tryz.func116 ?_
 intro e0 cx
 refine sq<|rG cx [1,2] [1,2] z0<|sn<|sq<|rG cx [2] [2] (fT (B55 ([p]) ?g0) (fT (con93 (A7 [p]) ?g1) (oV 2 { val:=some (.ptr ((204:Nat)) (0) (0) (0)),row:=(E9 c206 16 (A7 [p])) } (oA 3 (.agg [.sl (List.map c3 (I4 (A7 [p])).vec),.sl (List.map B1 (I4 (A7 [p])).cloud)]) z0)))) ?_;rotate_left 2
 refine sn<|rT<|qR (.agg [.sl (List.map c3 (I4 (A7 [p])).vec),.sl (List.map B1 (I4 (A7 [p])).cloud)]) (.eq ?g2);rotate_left
 all_goals
  ( intros <;> first
  | omega
  | exact rfl
  | (have:=h2 ‹Nat›;omega))
end Go.Proofs.YtphcaholhacnpaaGreat
namespace Go.Proofs.YtphcaholhacnpaaGreat
open Go.E
set_option maxRecDepth 100000
set_option maxHeartbeats 4000000
def B6r{α:Type}[Inhabited α](a b:List α)(i:Int):Prop:=0≤i∧i≤a.length∧a.length=b.length∧∀ j:Nat,(j:Int) < i→a[j]! = b[j]!
def decE{α:Type}(a b:List α)(i:Int):Nat:=(a.length-i).toNat
theorem V5{α:Type}[Inhabited α]{a b:List α}(hl:a.length=b.length)(h:∀ j:Nat,j < a.length→a[j]! = b[j]!):a=b:=by
 apply List.ext_getElem hl
 intro j h1 h2
 have:=h j h1
 rwa [getElem!_pos a j h1,getElem!_pos b j h2]at this
theorem B3b(a b:List Int):Con Tryz.prog 151 [.sl (a.map c3),.sl (b.map c3)] (.b (decide (a=b))) :=
 by
 refine lN 0 c3 (a) Tryz.func151 fun hl_0=>lN 1 c3 (b) Tryz.func151 fun hl_1=>sC B3 [.tmp 4] 26 Tryz.func151 ?_
 intro e0 cx
 refine sq<|rG cx [0,1] [] z0<|sn<|sq<|sq<|rG cx [0,1,10] [] (tL 1 c3 a (tL 3 c3 b (tN 4 (↑a.length:Int) (↑b.length:Int) z0)))<|sn<|dC (¬(↑a.length:Int)=(↑b.length:Int)) (fun hh0=>?_) fun hh0=>?_
 refine sq<|rG cx [4] [] z0<|sn<|rT<|nR<|qR (.b (false)) (.eq (by exact(by rw[decide_eq_false (fun k=>hh0 (by rw[k]))])))
 refine sK<|sn<|sq<|sq<|rG cx [0,1,12,13] [] (tL 1 c3 a z0)<|sn<|bL 0<|sL (X:=Int) (fun x=>⟨[(0,.sl (List.map c3 a)),(1,.sl (List.map c3 b)),(12,.i .i64 ((↑a.length:Int))),(13,.i .i64 (x))],[]⟩) (fun x ↦ decE a b x) (fun x ↦ B6r a b x) [0,1,12,13] [] ((0:Int)) (show B6r a b (0:Int)from(by exact⟨by omega,by omega,by omega,fun j hj=>by omega⟩)) ?_
 intro i1 h_2
 obtain⟨hh3,hh4,hh5,h6⟩:0≤i1∧i1≤(↑a.length:Int)∧a.length=b.length∧∀(j:Nat),(↑j:Int) < i1→a[j]! = b[j]!:=h_2
 refine rE cx [0,1,12,13,14] [] (zB 0 (i1 <(↑a.length:Int))) (fun h7=>?_) fun h7=>?_
 refine sK<|sn<|sq<|bL 1<|sq<|rG cx [0,1,12,13,5] [] z0<|sn<|sq<|rA cx [0,1,12,13,24] [] (fA (0≤i1) (fG c3 a i1.toNat (fR 1 (fA (0≤i1) (fG c3 b i1.toNat (fR 1 (tN 8 a[i1.toNat]! b[i1.toNat]! (oR 2 (c3 a[i1.toNat]!) (oR 6 (c3 b[i1.toNat]!) z0)))))))))<|sn<|dC (¬a[i1.toNat]! = b[i1.toNat]!) (fun h8=>?_) fun h8=>?_
 refine sq<|rG cx [4] [] z0<|sn<|rT<|bR<|nR<|nR<|bR<|nR<|qR (.b (false)) (.eq (by exact(by rw[decide_eq_false (fun k=>h8 (by rw[k]))])))
 refine sK<|bN<|sn<|rG cx [0,1,12,13] [] (tW 0 (i1+1) z0)<|sn<|nX (i1+1) (show((↑a.length:Int)-(i1+1)).toNat <((↑a.length:Int)-i1).toNat from(by omega)) (show B6r a b (i1+1)from ?g3);rotate_left
 refine eX 0<|nE<|nE<|bH<|sn<|sq<|rG cx [4] [] z0<|sn<|rT<|qR (.b (true)) (.eq (by exact(by rw[decide_eq_true (V5 hh5 fun j hj=>h6 j (by omega))])))
 case g3=>revert hh0 i1 hh3 hh4 hh5 h6 h7 h8;exact(fun h i h0 h1 h2 h3 h4 h5=>⟨by omega,by omega,h2,fun j hj=>by
   by_cases e:j=i.toNat
   ·rw[e];exact Classical.not_not.1 h5
   ·exact h3 j (by omega)⟩)
theorem con152(a b:List Span):Con Tryz.prog 152 [.sl (a.map B1),.sl (b.map B1)] (.b (decide (a=b))) :=
 by
 refine lN 0 B1 (a) Tryz.func152 fun hl_0=>lN 1 B1 (b) Tryz.func152 fun hl_1=>sC B3 [.tmp 4] 26 Tryz.func152 ?_
 intro e0 cx
 refine sq<|rG cx [0,1] [] z0<|sn<|sq<|sq<|rG cx [0,1,10] [] (tL 1 B1 a (tL 3 B1 b (tN 4 (↑a.length:Int) (↑b.length:Int) z0)))<|sn<|dC (¬(↑a.length:Int)=(↑b.length:Int)) (fun hh0=>?_) fun hh0=>?_
 refine sq<|rG cx [4] [] z0<|sn<|rT<|nR<|qR (.b (false)) (.eq (by exact(by rw[decide_eq_false (fun k=>hh0 (by rw[k]))])))
 refine sK<|sn<|sq<|sq<|rG cx [0,1,12,13] [] (tL 1 B1 a z0)<|sn<|bL 0<|sL (X:=Int) (fun x=>⟨[(0,.sl (List.map B1 a)),(1,.sl (List.map B1 b)),(12,.i .i64 ((↑a.length:Int))),(13,.i .i64 (x))],[]⟩) (fun x ↦ decE a b x) (fun x ↦ B6r a b x) [0,1,12,13] [] ((0:Int)) (show B6r a b (0:Int)from(by exact⟨by omega,by omega,by omega,fun j hj=>by omega⟩)) ?_
 intro i1 h_2
 obtain⟨hh3,hh4,hh5,h6⟩:0≤i1∧i1≤(↑a.length:Int)∧a.length=b.length∧∀(j:Nat),(↑j:Int) < i1→a[j]! = b[j]!:=h_2
 refine rE cx [0,1,12,13,14] [] (zB 0 (i1 <(↑a.length:Int))) (fun h7=>?_) fun h7=>?_
 refine sK<|sn<|sq<|bL 1<|sq<|rG cx [0,1,12,13,5] [] z0<|sn<|sq<|rA cx [0,1,12,13,24] [] (fA (0≤i1) (fG B1 a i1.toNat (fR 3 (fN 3 3 (fA (0≤i1) (fG B1 b i1.toNat (fR 3 (fN 3 3 (fT (A2t (eq141 a[i1.toNat]! b[i1.toNat]!)) (oR 2 (B1 a[i1.toNat]!) (oR 6 (B1 b[i1.toNat]!) (oA 8 (.b (decide ¬a[i1.toNat]! = b[i1.toNat]!)) z0))))))))))))<|sn<|dC (¬a[i1.toNat]! = b[i1.toNat]!) (fun h8=>?_) fun h8=>?_
 refine sq<|rG cx [4] [] z0<|sn<|rT<|bR<|nR<|nR<|bR<|nR<|qR (.b (false)) (.eq (by exact(by rw[decide_eq_false (fun k=>h8 (by rw[k]))])))
 refine sK<|bN<|sn<|rG cx [0,1,12,13] [] (tW 0 (i1+1) z0)<|sn<|nX (i1+1) (show((↑a.length:Int)-(i1+1)).toNat <((↑a.length:Int)-i1).toNat from(by omega)) (show B6r a b (i1+1)from ?g3);rotate_left
 refine eX 0<|nE<|nE<|bH<|sn<|sq<|rG cx [4] [] z0<|sn<|rT<|qR (.b (true)) (.eq (by exact(by rw[decide_eq_true (V5 hh5 fun j hj=>h6 j (by omega))])))
 case g3=>revert hh0 i1 hh3 hh4 hh5 h6 h7 h8;exact(fun h i h0 h1 h2 h3 h4 h5=>⟨by omega,by omega,h2,fun j hj=>by
   by_cases e:j=i.toNat
   ·rw[e];exact Classical.not_not.1 h5
   ·exact h3 j (by omega)⟩)
theorem A0f(p:Past)(hb:p.cloud.length*16≤140737488350000):Con Tryz.prog 81 [.agg (c26 p)] (.b (decide (p=A6 p))) :=
 by
 refine sC B3 [.tmp 2] 18 Tryz.func81 ?_
 intro e0 cx
 refine sq<|rG cx [1] [1] z0<|sn<|sq<|rG cx [1,3] [1,3] (fT (Af0 (p) (by(with_reducible assumption))) (oA 1 (.agg [.sl (List.map c3 (A6 p).vec),.sl (List.map B1 (A6 p).cloud)]) z0))<|sn<|sq<|A9 (σ':=⟨[(2,.b (decide (p.vec=(A6 p).vec∧p.cloud=(A6 p).cloud)))],[]⟩) ?_ ?_
 refine A4 (p.vec=(A6 p).vec) (fun h_1=>?_) (fun h_1=>?_)
 refine rg (A:=_∧_∧_∧(AV.b (decide (p.cloud=(A6 p).cloud))=AV.b (decide (p.vec=(A6 p).vec∧p.cloud=(A6 p).cloud)))) cx [(4,{ val:=some (.b (decide (p.vec=(A6 p).vec))),tell:=some (.b (true)) }),(10,{ val:=some (.b (decide (p.cloud=(A6 p).cloud))) }),(12,{ tell:=some (.b (decide (p.vec=(A6 p).vec∧p.cloud=(A6 p).cloud))) })] [2] [] ⟨(A3 h_1),(B3b (p.vec) ((A6 p).vec)),(con152 (p.cloud) ((A6 p).cloud)),(by simp only [eq_true h_1,tsl])⟩ ?_
 exact⟨rfl,by kernel_rfl⟩
 refine rg (A:=_∧_∧(AV.b false=AV.b (decide (p.vec=(A6 p).vec∧p.cloud=(A6 p).cloud)))) cx [(4,{ val:=some (.b (decide (p.vec=(A6 p).vec))),tell:=some (.b (false)) }),(12,{ tell:=some (.b (decide (p.vec=(A6 p).vec∧p.cloud=(A6 p).cloud))) })] [2] [] ⟨(A0 h_1),(B3b (p.vec) ((A6 p).vec)),(by simp only [eq_false h_1,tsl])⟩ ?_
 exact⟨rfl,by kernel_rfl⟩
 refine sn<|rT<|qR (.b (decide (p.vec=(A6 p).vec∧p.cloud=(A6 p).cloud))) (.eq ?g0);rotate_left
 case' g0=>refine(by
  congr 1
  refine decide_eq_decide.2 ?_
  generalize A6 p=q
  cases p;cases q;simp)
end Go.Proofs.YtphcaholhacnpaaGreat
namespace Go.Proofs.YtphcaholhacnpaaGreat
open Go.E
set_option maxRecDepth 100000
set_option maxHeartbeats 4000000
def A47(s:Span)(d:Dot):Bool:=decide (s.rep=d.rep∧s.lo≤d.num∧d.num≤s.hi)
def Af1(c:List Span)(d:Dot):Int:=if c.any (fun s=>A47 s d)=true then(c.findIdx (fun s=>A47 s d):Int)else -1
def invI(c:List Span)(d:Dot)(i:Int):Prop:=0≤i∧i≤c.length∧∀ j:Nat,(j:Int) < i→A47 c[j]! d=false
def decI(c:List Span)(d:Dot)(i:Int):Nat:=(c.length-i).toNat
def H4(p:Past)(d:Dot):Bool:=K3 d && (decide (d.rep < p.vec.length∧d.num≤p.vec[d.rep.toNat]!) || p.cloud.any fun s=>A47 s d)
theorem idx_at{c:List Span}{d:Dot}:∀ {i:Nat},i < c.length→A47 c[i]! d=true→(∀ j:Nat,j < i→A47 c[j]! d=false)→Af1 c d=i:=by
 intro i hi h hn
 have hany:c.any (fun s=>A47 s d)=true:=List.any_eq_true.2 ⟨c[i]!,G6 hi,h⟩
 unfold Af1
 rw[if_pos hany]
 have:c.findIdx (fun s=>A47 s d)=i:=by
  rw[List.findIdx_eq hi]
  refine⟨by rwa [getElem!_pos c i hi]at h,fun j hj=>?_⟩
  have:=hn j hj
  rwa [getElem!_pos c j (by omega)]at this
 rw[this]
theorem B3c{c:List Span}{d:Dot}(h:∀ j:Nat,j < c.length→A47 c[j]! d=false):Af1 c d=-1:=by
 unfold Af1
 rw[if_neg]
 intro k
 obtain⟨x,hx,hk⟩:=List.any_eq_true.1 k
 obtain⟨j,hj,rfl⟩:=List.mem_iff_getElem.1 hx
 have:=h j hj
 rw[getElem!_pos c j hj]at this
 rw[this]at hk
 cases hk
theorem Aq7(c:List Span)(d:Dot):decide (0≤Af1 c d)=c.any fun s=>A47 s d:=by
 unfold Af1
 cases h:c.any fun s=>A47 s d with
 | true=>rw[if_pos rfl];simp
 | false=>rw[if_neg (by simp)];rfl
theorem con174(s:Span)(d:Dot):Con Tryz.prog 174 [.agg (B1 s),.eptr (c44 d)] (.b (A47 s d)) :=
 by
 refine sC B3 [.tmp 3] 23 Tryz.func174 ?_
 intro e0 cx
 refine sq<|rG cx [1,2] [2] z0<|sn<|sq<|A9 (σ':=⟨[(3,.b (decide (s.rep=d.rep∧s.lo≤d.num∧d.num≤s.hi)))],[]⟩) ?_ ?_
 refine A4 (s.rep=d.rep) (fun h_1=>?_) (fun h_1=>?_)
 refine A4 (s.lo≤d.num) (fun h_2=>?_) (fun h_2=>?_)
 refine rG cx [3] [] (tT 4 (A3 h_1) (tT 10 (A3 h_2) (tB 17 (d.num≤s.hi) (tD 19 (decide (d.num≤s.hi)) (s.rep=d.rep∧s.lo≤d.num∧d.num≤s.hi) (by simp only [eq_true h_1,eq_true h_2,tsl]) z0)))) ?_
 exact⟨rfl,by kernel_rfl⟩
 refine rG cx [3] [] (tT 4 (A3 h_1) (tT 10 (A0 h_2) (tD 19 false (s.rep=d.rep∧s.lo≤d.num∧d.num≤s.hi) (by simp only [eq_true h_1,eq_false h_2,tsl]) z0))) ?_
 exact⟨rfl,by kernel_rfl⟩
 refine rG cx [3] [] (tT 4 (A0 h_1) (tD 19 false (s.rep=d.rep∧s.lo≤d.num∧d.num≤s.hi) (by simp only [eq_false h_1,tsl]) z0)) ?_
 exact⟨rfl,by kernel_rfl⟩
 refine sn<|rT<|qR (.b (decide (s.rep=d.rep∧s.lo≤d.num∧d.num≤s.hi))) (.eq ?g0);rotate_left
 case g0=>exact rfl
theorem con216(c:List Span)(d:Dot):Con Tryz.prog 216 [.sl (c.map B1),.fn (.func 174) [] [.eptr (c44 d)]] (.i .i64 (Af1 c d)) :=
 by
 refine lN 0 B1 (c) Tryz.func216 fun hl_0=>sC B3 [.tmp 4] 19 Tryz.func216 ?_
 intro e0 cx
 refine sq<|rG cx [0,1] [] z0<|sn<|sq<|sq<|rG cx [0,1,7,8] [] (tL 1 B1 c z0)<|sn<|bL 0<|sL (X:=Int) (fun x=>⟨[(0,.sl (List.map B1 c)),(1,.fn (Fn.func (174:FuncId)) [] [.eptr [.i .i64 (d.rep),.i .i64 (d.num)]]),(7,.i .i64 ((↑c.length:Int))),(8,.i .i64 (x))],[]⟩) (fun x ↦ decI c d x) (fun x ↦ invI c d x) [0,1,7,8] [] ((0:Int)) (show invI c d (0:Int)from(by exact⟨by omega,by omega,fun j hj=>by omega⟩)) ?_
 intro i0 h_1
 obtain⟨hh2,hh3,hh4⟩:0≤i0∧i0≤(↑c.length:Int)∧∀(j:Nat),(↑j:Int) < i0→A47 c[j]! d=false:=h_1
 refine rE cx [0,1,7,8,9] [] (zB 0 (i0 <(↑c.length:Int))) (fun h5=>?_) fun h5=>?_
 refine sK<|sn<|sq<|bL 1<|sq<|rG cx [0,1,7,8,5] [] z0<|sn<|sq<|rG cx [0,1,7,8,5,16] [] (fA (0≤i0) (fG B1 c i0.toNat (fR 3 (fN 3 3 (fT (con174 (c[i0.toNat]!) (d)) (oR 3 (B1 c[i0.toNat]!) (oA 5 (.b (A47 c[i0.toNat]! d)) z0)))))))<|sn<|A2m (A47 c[i0.toNat]! d) (by kernel_rfl) (by kernel_rfl) (fun h6=>?_) (fun h6=>?_)
 refine sq<|rG cx [4] [] z0<|sn<|rT<|bR<|nR<|nR<|bR<|nR<|qR (.i .i64 (i0)) (.eq ?g1);rotate_left
 refine sK<|bN<|sn<|rG cx [0,1,7,8] [] (tW 0 (i0+1) z0)<|sn<|nX (i0+1) (show((↑c.length:Int)-(i0+1)).toNat <((↑c.length:Int)-i0).toNat from(by omega)) (show invI c d (i0+1)from ?g2);rotate_left
 refine eX 0<|nE<|nE<|bH<|sn<|sq<|rG cx [4] [] z0<|sn<|rT<|qR (.i .i64 ((-1:Int))) (.eq (by exact(by rw[B3c fun j hj=>hh4 j (by omega)])))
 case g1=>revert i0 hh2 hh3 hh4 h5 h6;exact(fun i h0 h1 h2 h3 h4=>by rw[idx_at (i:=i.toNat) (by omega) h4 (fun j hj=>h2 j (by omega)),show((i.toNat:Nat):Int)=i by omega])
 case g2=>revert i0 hh2 hh3 hh4 h5 h6;exact(fun i h0 h1 h2 h3 h4=>⟨by omega,by omega,fun j hj=>by
   by_cases e:j=i.toNat
   ·rw[e];exact h4
   ·exact h2 j (by omega)⟩)
theorem con173(c:List Span)(d:Dot):Con Tryz.prog 173 [.sl (c.map B1),.fn (.func 174) [] [.eptr (c44 d)]] (.b (decide (0≤Af1 c d))) :=
 by
 refine lN 0 B1 (c) Tryz.func173 fun hl_0=>sC B3 [.tmp 4] 9 Tryz.func173 ?_
 intro e0 cx
 refine sq<|rG cx [0,1] [] z0<|sn<|sq<|rG cx [4] [] (fT (con216 (c) (d)) (tB 3 (0≤Af1 c d) (oA 2 (.i .i64 (Af1 c d)) z0)))<|sn<|rT ?_
 exact X8 (r:=.b (decide (0≤Af1 c d))) (obl:=[]) (by kernel_rfl) trivial (A5.refl _)
theorem con105(p:Past)(d:Dot):Con Tryz.prog 105 [.agg (c26 p),.agg (c44 d)] (.b (H4 p d)) :=
 by
 refine sC B3 [.tmp 4] 29 Tryz.func105 ?_
 intro e0 cx
 refine sq<|rG cx [2,3] [2,3] z0<|sn<|sq<|sq<|rG cx [2,3,7] [2,3] (fT (B3a (d)) (tT 2 (E7:(AV.b !K3 d)=AV.b (decide ¬K3 d=true)) (oA 1 (.b (K3 d)) z0)))<|sn<|dC (¬K3 d=true) (fun h0=>?_) fun h0=>?_
 refine sq<|rG cx [4] [] z0<|sn<|rT<|nR<|qR (.b (false)) (.eq (by unfold H4;rw[Bool.eq_false_iff.2 h0];rfl))
 refine sK<|sn<|sq<|sq<|A9 (σ':=⟨[(2,.ptr (2) (0) (0) (0)),(3,.ptr (3) (0) (0) (0)),(24,.b (decide (d.rep <(↑p.vec.length:Int)∧d.num≤p.vec[d.rep.toNat]!)))],[(2,⟨0,26,.var [.sl (List.map c3 p.vec),.sl (List.map B1 p.cloud)]⟩),(3,⟨0,44,.var [.i .i64 (d.rep),.i .i64 (d.num)]⟩)]⟩) ?_ ?_
 refine A4 (d.rep <(↑p.vec.length:Int)) (fun h2=>?_) (fun h2=>?_)
 refine rA cx [2,3,24] [2,3] (tL 4 c3 p.vec (tT 5 (A3 h2) (fP (0≤d.rep) (by exact(G0 (Classical.not_not.1 h0)).1) (fP ((List.map c3 p.vec)[d.rep.toNat]?=some (c3 p.vec[d.rep.toNat]!)) (by have:=(G0 (Classical.not_not.1 h0)).1;exact G5 (by omega)) (fR 1 (tB 15 (d.num≤p.vec[d.rep.toNat]!) (tD 16 (decide (d.num≤p.vec[d.rep.toNat]!)) (d.rep <(↑p.vec.length:Int)∧d.num≤p.vec[d.rep.toNat]!) (by simp only [eq_true h2,tsl]) (oR 13 (c3 p.vec[d.rep.toNat]!) z0)))))))) ?_
 exact⟨rfl,by kernel_rfl⟩
 refine rA cx [2,3,24] [2,3] (tL 4 c3 p.vec (tT 5 (A0 h2) (tD 16 false (d.rep <(↑p.vec.length:Int)∧d.num≤p.vec[d.rep.toNat]!) (by simp only [eq_false h2,tsl]) z0))) ?_
 exact⟨rfl,by kernel_rfl⟩
 refine sn<|dC (d.rep <(↑p.vec.length:Int)∧d.num≤p.vec[d.rep.toNat]!) (fun h3=>?_) fun h3=>?_
 refine sq<|rG cx [4] [] z0<|sn<|rT<|nR<|qR (.b (true)) (.eq (by unfold H4;rw[Classical.not_not.1 h0,decide_eq_true h3];rfl))
 refine sK<|sn<|sq<|rG cx [4] [] (fP (Flat (AV.b (decide (0≤Af1 p.cloud d)))) (by exact Flat.b _) (fT (con173 (p.cloud) (d)) (oV 3 { val:=some (.b (decide (0≤Af1 p.cloud d))),flat:=true } z0)))<|sn<|rT<|qR (.b (decide (0≤Af1 p.cloud d))) (.eq (by unfold H4;rw[Classical.not_not.1 h0,decide_eq_false h3,Aq7];simp))
end Go.Proofs.YtphcaholhacnpaaGreat
namespace Go.Proofs.YtphcaholhacnpaaGreat
open Go.E
set_option maxRecDepth 100000
set_option maxHeartbeats 4000000
def B9(T:Nat→List Run)(r:Nat):List Run:=nrm (T r)
theorem M6(r:Run)(R:List Run)(n:Int):inR (r :: R) n↔(r.lo≤n∧n≤r.hi)∨inR R n:=by simp [inR]
theorem A4w{l:List Run}(h:L3 l):nrm l=l:=by
 refine M8 (E4 l) h fun n=>?_
 rw[N7]
 constructor
 ·exact fun k=>k.2.2
 ·rintro⟨r,hr,h1,h2⟩
  have:=h.2 r hr
  exact⟨by omega,by omega,r,hr,h1,h2⟩
theorem A0g:B8 []=(0,[]):=rfl
theorem A2z(l:List Run):nrm (nrm l)=nrm l:=A4w (E4 l)
theorem A0h(T:Nat→List Run):I4 (B9 T)=I4 T:=by
 have h1:∀ r,Z0 (B9 T) r=Z0 T r:=fun r=>by unfold Z0 B9;rw[A2z]
 have h2:∀ r,T3 (B9 T) r=T3 T r:=fun r=>by unfold T3 B9;rw[A2z]
 have h3:∀ n,szT (B9 T) n=szT T n:=fun n=>by
  induction n with
  | zero=>rfl
  | succ n ih=>rw[szT,szT,h1,ih]
 have h4:∀ n,I0 (B9 T) n=I0 T n:=fun n=>by
  induction n with
  | zero=>rfl
  | succ n ih=>rw[I0,I0,h2,ih]
 have h5:A4o (B9 T) 16=A4o T 16:=by
  unfold A4o
  congr 1
  exact List.map_congr_left fun r _=>h1 r
 unfold I4
 rw[h3,h4,h5]
theorem A67(T:Nat→List Run):∀ r:Nat,r < 16→L3 (B9 T r):=fun r _=>E4 _
theorem B56 {l : List Run} (h : L3 l) {n : Int} (hn : 1 ≤ n) : inR l n ↔ n ≤ (B8 l).1 ∨ inR (B8 l).2 n := by
  cases l with
  | nil => rw [A0g]; simp only [inR]; constructor
           · rintro⟨r,hr,_⟩;cases hr
           · rintro (k | ⟨r, hr, _⟩)
             · omega
             · cases hr
  | cons x l =>
    rw[M6]
    unfold B8
    by_cases hx:x.lo=1
    · rw [if_neg (by simpa using hx)]
      show _↔n≤x.hi∨inR l n
      constructor
      · rintro (k | k)
        · exact .inl k.2
        · exact .inr k
      · rintro (k | k)
        · exact .inl ⟨by omega,k⟩
        · exact .inr k
    · rw [if_pos (.inr (by simpa using hx))]
      show _↔n≤0∨inR (x :: l) n
      rw[M6]
      constructor
      · exact fun k=>.inr k
      · rintro (k | k)
        · omega
        · exact k
theorem A30(T:Nat→List Run):∀ n:Nat,0≤szT T n∧szT T n≤n∧∀ r:Nat,r < n→szT T n≤r→¬ 0 < Z0 T r
 | 0=>⟨by simp [szT],by simp [szT],fun r hr=>by omega⟩
 | n+1=>by
  obtain⟨h1,h2,h3⟩:=A30 T n
  rw[szT]
  split
  ·exact⟨by omega,by omega,fun r hr k=>by omega⟩
  ·rename_i hn
   refine⟨h1,by omega,fun r hr k=>?_⟩
   by_cases e:r=n
   ·rw[e];exact hn
   ·exact h3 r (by omega) k
theorem A31(T:Nat→List Run)(s:Span):∀ n:Nat,s∈I0 T n↔∃ r:Nat,r < n∧s∈T3 T r
 | 0=>by simp [I0]
 | n+1=>by
  rw[I0,List.mem_append,A31 T s n]
  constructor
  ·rintro(⟨r,h1,h2⟩ | h)
   ·exact⟨r,by omega,h2⟩
   ·exact⟨n,by omega,h⟩
  ·rintro⟨r,h1,h2⟩
   by_cases e:r=n
   ·exact .inr (e ▸ h2)
   ·exact .inl ⟨r,by omega,h2⟩
theorem B3d(T:Nat→List Run){r:Nat}(h:(r:Int) < szT T 16):(I4 T).vec[r]! = Z0 T r∧r <(I4 T).vec.length:=by
 have h2:=(A30 T 16).2.1
 have hl:(A4o T 16).length=16:=by simp [A4o]
 have hr:r <((A4o T 16).take (szT T 16).toNat).length:=by rw[List.length_take,hl];omega
 refine⟨?_,hr⟩
 show((A4o T 16).take (szT T 16).toNat)[r]! = _
 rw[getElem!_pos ((A4o T 16).take (szT T 16).toNat) r hr,List.getElem_take]
 unfold A4o
 rw[List.getElem_append_left (by simp;omega)]
 simp
theorem Aq8(T:Nat→List Run):((I4 T).vec.length:Int)=szT T 16:=by
 have h2:=A30 T 16
 show(((A4o T 16).take (szT T 16).toNat).length:Int)=_
 rw[List.length_take]
 simp [A4o]
 omega
theorem P5(T:Nat→List Run)(d:Dot):H4 (I4 T) d=true↔K3 d=true∧inR (T d.rep.toNat) d.num:=by
 unfold H4
 rw[Bool.and_eq_true]
 refine and_congr_right fun hd=>?_
 have hb:=G0 hd
 have e1:inR (T d.rep.toNat) d.num↔inR (nrm (T d.rep.toNat)) d.num:=by
  rw[N7]
  exact⟨fun k=>⟨by omega,by omega,k⟩,fun k=>k.2.2⟩
 rw[e1,B56 (E4 _) (by omega),Bool.or_eq_true,decide_eq_true_eq]
 refine or_congr ?_ ?_
 ·rw[Aq8]
  constructor
  ·rintro⟨h1,h2⟩
   have:=(B3d T (r:=d.rep.toNat) (by omega)).1
   rw[this]at h2
   exact h2
  ·intro k
   have k:d.num≤Z0 T d.rep.toNat:=k
   have h1:d.rep < szT T 16:=by
    apply Classical.byContradiction
    intro hn
    have:=(A30 T 16).2.2 d.rep.toNat (by omega) (by omega)
    omega
   refine⟨h1,?_⟩
   rw[(B3d T (r:=d.rep.toNat) (by omega)).1]
   exact k
 ·rw[List.any_eq_true]
  unfold A47
  constructor
  ·rintro⟨s,hs,h⟩
   rw[decide_eq_true_eq]at h
   obtain⟨r,hr,hs⟩:=(A31 T s 16).1 hs
   unfold T3 at hs
   obtain⟨x,hx,rfl⟩:=List.mem_map.1 hs
   simp only at h
   have:r=d.rep.toNat:=by omega
   subst this
   exact⟨x,hx,h.2.1,h.2.2⟩
  ·rintro⟨x,hx,h1,h2⟩
   refine⟨⟨d.rep.toNat,x.lo,x.hi⟩,(A31 T _ 16).2 ⟨d.rep.toNat,by omega,List.mem_map.2 ⟨x,hx,rfl⟩⟩,?_⟩
   rw[decide_eq_true_eq]
   exact⟨by show((d.rep.toNat:Nat):Int)=d.rep;omega,h1,h2⟩
theorem A68(a b:List Run)(n:Int):inR (a++b) n↔inR a n∨inR b n:=by
 unfold inR
 constructor
 ·rintro⟨y,hy,h⟩
  rcases List.mem_append.1 hy with hy | hy
  ·exact .inl ⟨y,hy,h⟩
  ·exact .inr ⟨y,hy,h⟩
 ·rintro(⟨y,hy,h⟩ | ⟨y,hy,h⟩)
  ·exact⟨y,List.mem_append.2 (.inl hy),h⟩
  ·exact⟨y,List.mem_append.2 (.inr hy),h⟩
theorem B57{p:Past}{d:Dot}(hd:K3 d=true):inR (Ae7 p.vec d.rep.toNat) d.num↔(d.rep < p.vec.length∧d.num≤p.vec[d.rep.toNat]!):=by
 have hb:=G0 hd
 unfold Ae7 inR
 split
 ·simp only [List.mem_singleton,exists_eq_left]
  constructor
  ·exact fun k=>⟨by omega,k.2⟩
  ·exact fun k=>⟨by omega,k.2⟩
 ·constructor
  ·rintro⟨r,hr,_⟩;cases hr
  ·rintro⟨h,_⟩;omega
theorem Aq9{p:Past}{d:Dot}(hd:K3 d=true):inR (L9 p.cloud d.rep.toNat) d.num↔(p.cloud.any fun s=>A47 s d)=true:=by
 have hb:=G0 hd
 rw[List.any_eq_true]
 unfold inR L9 A47
 constructor
 ·rintro⟨x,hx,h1,h2⟩
  obtain⟨s,hs,rfl⟩:=List.mem_map.1 hx
  obtain⟨hs,hq⟩:=List.mem_filter.1 hs
  rw[decide_eq_true_eq]at hq
  exact⟨s,hs,by rw[decide_eq_true_eq];exact⟨by omega,h1,h2⟩⟩
 ·rintro⟨s,hs,h⟩
  rw[decide_eq_true_eq]at h
  exact⟨⟨s.lo,s.hi⟩,List.mem_map.2 ⟨s,List.mem_filter.2 ⟨hs,by rw[decide_eq_true_eq];omega⟩,rfl⟩,h.2.1,h.2.2⟩
theorem B3e(p:Past)(d:Dot):H4 p d=true↔K3 d=true∧(inR (Ae7 p.vec d.rep.toNat) d.num∨inR (L9 p.cloud d.rep.toNat) d.num):=by
 unfold H4
 rw[Bool.and_eq_true]
 refine and_congr_right fun hd=>?_
 rw[B57 hd,Aq9 hd,Bool.or_eq_true,decide_eq_true_eq]
theorem B18(ps:List Past)(d:Dot):H4 (I4 (A7 ps)) d=true↔∃ p∈ps,H4 p d=true:=by
 rw[P5]
 have e:inR (A7 ps d.rep.toNat) d.num↔∃ p∈ps,inR (Ae7 p.vec d.rep.toNat++L9 p.cloud d.rep.toNat) d.num:=by
  unfold inR A7
  constructor
  ·rintro⟨r,hr,h⟩
   obtain⟨l,hl,hr⟩:=List.mem_flatten.1 hr
   obtain⟨p,hp,rfl⟩:=List.mem_map.1 hl
   exact⟨p,hp,r,hr,h⟩
  ·rintro⟨p,hp,r,hr,h⟩
   exact⟨r,List.mem_flatten.2 ⟨_,List.mem_map.2 ⟨p,hp,rfl⟩,hr⟩,h⟩
 rw[e]
 constructor
 ·rintro⟨hd,p,hp,h⟩
  rw[A68]at h
  exact⟨p,hp,(B3e p d).2 ⟨hd,h⟩⟩
 ·rintro⟨p,hp,h⟩
  have:=(B3e p d).1 h
  exact⟨this.1,p,hp,(A68 _ _ _).2 this.2⟩
theorem O9(p:Past)(d:Dot):H4 (A6 p) d=H4 p d:=by
 rw[Bool.eq_iff_iff]
 unfold A6
 rw[B18]
 simp
theorem has_of(ds:List Dot)(d:Dot):H4 (I4 (ofT ds)) d=true↔K3 d=true∧d∈ds:=by
 rw[P5]
 refine and_congr_right fun hd=>?_
 have hb:=G0 hd
 unfold inR ofT
 constructor
 ·rintro⟨x,hx,h1,h2⟩
  obtain⟨y,hy,rfl⟩:=List.mem_map.1 hx
  obtain⟨hy,hq⟩:=List.mem_filter.1 hy
  rw[Bool.and_eq_true,decide_eq_true_eq]at hq
  simp only at h1 h2
  have:y=d:=by
   cases y;cases d
   simp only at *
   congr 1
   ·omega
   ·omega
  exact this ▸ hy
 ·intro h
  exact⟨⟨d.num,d.num⟩,List.mem_map.2 ⟨d,List.mem_filter.2 ⟨h,by rw[Bool.and_eq_true,decide_eq_true_eq];exact⟨hd,by omega⟩⟩,rfl⟩,Int.le_refl _,Int.le_refl _⟩
theorem B58{T U:Nat→List Run}(h:∀ d,H4 (I4 T) d=true↔H4 (I4 U) d=true):I4 T=I4 U:=by
 rw[← A0h T,← A0h U]
 refine Q4 fun r hr=>?_
 refine M8 (E4 _) (E4 _) fun n=>?_
 show inR (nrm _) n↔inR (nrm _) n
 rw[N7,N7]
 refine and_congr_right fun n0=>and_congr_right fun n1=>?_
 have hd:K3 ⟨r,n⟩=true:=by unfold K3;rw[decide_eq_true_eq];simp only;omega
 have:=h ⟨r,n⟩
 rw[P5,P5]at this
 simp only [hd,true_and]at this
 exact this
theorem Af2(T:Nat→List Run):A6 (I4 T)=I4 T:=B58 fun d=>by
 have:=O9 (I4 T) d
 unfold A6 at this
 rw[this]
theorem Ar0(p:Past):A6 (A6 p)=A6 p:=Af2 _
theorem A0i(T:Nat→List Run):(I4 T).cloud.length≤8000000000∧(I4 T).vec.length≤16:=by
 have h1:=A0e T 16
 have h2:=Aq8 T
 have h3:=(A30 T 16).2.1
 exact⟨by show(I0 T 16).length≤_;omega,by omega⟩
end Go.Proofs.YtphcaholhacnpaaGreat
namespace Go.Proofs.YtphcaholhacnpaaGreat
open Go.E
set_option maxRecDepth 100000
set_option maxHeartbeats 4000000
def A0j:List Run→List Run→List Run
 | x :: a,y :: b=>(if max x.lo y.lo≤min x.hi y.hi then[⟨max x.lo y.lo,min x.hi y.hi⟩]else[])++(if x.hi < y.hi then A0j a (y :: b)else A0j (x :: a) b)
 | _,_=>[]
termination_by a b=>a.length+b.length
theorem Q7(b:List Run):A0j [] b=[]:=by unfold A0j;rfl
theorem A1a(a:List Run):A0j a []=[]:=by unfold A0j;cases a <;> rfl
theorem A1b(x y:Run)(a b:List Run):A0j (x :: a) (y :: b)=(if max x.lo y.lo≤min x.hi y.hi then[⟨max x.lo y.lo,min x.hi y.hi⟩]else[])++(if x.hi < y.hi then A0j a (y :: b)else A0j (x :: a) b):=by rw[A0j]
def Al8:Int→List Run→List Run
 | n,[]=>if n≤1000000000 then[⟨n,1000000000⟩]else[]
 | n,r :: l=>(if n < r.lo then[⟨n,r.lo-1⟩]else[])++Al8 (r.hi+1) l
def Az2(a b:List Run):List Run:=A0j (nrm a) (nrm (Al8 1 (nrm b)))
theorem H0{x:Run}{a:List Run}(h:L3 (x :: a)):L3 a:=⟨(List.pairwise_cons.1 h.1).2,fun r hr=>h.2 r (by simp [hr])⟩
theorem A69{x:Run}{a:List Run}(h:L3 (x :: a)){n:Int}(k:inR a n):x.hi+1 < n:=by
 obtain⟨r,hr,h1,_⟩:=k
 have:=(List.pairwise_cons.1 h.1).1 r hr
 omega
theorem Ar1(c:Prop)[Decidable c](r:Run)(n:Int):inR (if c then[r]else[]) n↔c∧r.lo≤n∧n≤r.hi:=by
 split <;> simp [inR, *]
theorem B19:∀(k:Nat) (a b:List Run),a.length+b.length≤k→L3 a→L3 b→∀ n,inR (A0j a b) n↔inR a n∧inR b n:=by
 intro k
 induction k with
 | zero =>
  intro a b hk _ _ n
  have:a=[]:=List.eq_nil_of_length_eq_zero (by omega)
  subst this
  rw[Q7]
  simp [inR]
 | succ k ih =>
  intro a b hk ha hb n
  cases a with
  | nil=>rw[Q7];simp [inR]
  | cons x a =>
   cases b with
   | nil=>rw[A1a];simp [inR]
   | cons y b =>
    have hx:=ha.2 x (by simp)
    have hy:=hb.2 y (by simp)
    have la:inR a n→x.hi+1 < n:=A69 ha
    have lb:inR b n→y.hi+1 < n:=A69 hb
    simp only [List.length_cons]at hk
    rw[A1b,A68,Ar1]
    split
    ·rw[ih a (y :: b) (by simp only [List.length_cons];omega) (H0 ha) hb n,M6,M6]
     simp only
     constructor
     ·rintro(h | ⟨h1,h2⟩)
      ·exact⟨.inl (by omega),.inl (by omega)⟩
      ·exact⟨.inr h1,h2⟩
     ·rintro⟨h1 | h1,h2 | h2⟩
      ·exact .inl (by omega)
      ·have:=lb h2;omega
      ·exact .inr ⟨h1,.inl h2⟩
      ·exact .inr ⟨h1,.inr h2⟩
    ·rw[ih (x :: a) b (by simp only [List.length_cons];omega) ha (H0 hb) n,M6,M6]
     simp only
     constructor
     ·rintro(h | ⟨h1,h2⟩)
      ·exact⟨.inl (by omega),.inl (by omega)⟩
      ·exact⟨h1,.inr h2⟩
     ·rintro⟨h1 | h1,h2 | h2⟩
      ·exact .inl (by omega)
      ·exact .inr ⟨.inl h1,h2⟩
      ·have:=la h1;omega
      ·exact .inr ⟨.inr h1,h2⟩
theorem A83:∀(k:Nat) (a b:List Run),a.length+b.length≤k→∀ r∈A0j a b,r.lo≤r.hi∧(∃ x∈a,x.lo≤r.lo∧r.hi≤x.hi)∧∃ y∈b,y.lo≤r.lo∧r.hi≤y.hi:=by
 intro k
 induction k with
 | zero =>
  intro a b hk r hr
  have:a=[]:=List.eq_nil_of_length_eq_zero (by omega)
  subst this
  rw[Q7]at hr
  cases hr
 | succ k ih =>
  intro a b hk r hr
  cases a with
  | nil=>rw[Q7]at hr;cases hr
  | cons x a =>
   cases b with
   | nil=>rw[A1a]at hr;cases hr
   | cons y b =>
    simp only [List.length_cons]at hk
    rw[A1b]at hr
    rcases List.mem_append.1 hr with hr | hr
    ·split at hr
     ·have:r=⟨max x.lo y.lo,min x.hi y.hi⟩:=by simpa using hr
      subst this
      exact⟨by simp only;omega,⟨x,by simp,by simp only;omega,by simp only;omega⟩,⟨y,by simp,by simp only;omega,by simp only;omega⟩⟩
     ·cases hr
    ·split at hr
     ·obtain⟨h0,⟨x',hx,h1⟩,h2⟩:=ih a (y :: b) (by simp only [List.length_cons];omega) r hr
      exact⟨h0,⟨x',by simp [hx],h1⟩,h2⟩
     ·obtain⟨h0,h1,⟨y',hy,h2⟩⟩:=ih (x :: a) b (by simp only [List.length_cons];omega) r hr
      exact⟨h0,h1,⟨y',by simp [hy],h2⟩⟩
theorem Ar2:∀(k:Nat) (a b:List Run),a.length+b.length≤k→L3 a→L3 b→L3 (A0j a b):=by
 intro k
 induction k with
 | zero =>
  intro a b hk _ _
  have:a=[]:=List.eq_nil_of_length_eq_zero (by omega)
  subst this
  rw[Q7]
  exact O8
 | succ k ih =>
  intro a b hk ha hb
  cases a with
  | nil=>rw[Q7];exact O8
  | cons x a =>
   cases b with
   | nil=>rw[A1a];exact O8
   | cons y b =>
    simp only [List.length_cons]at hk
    have hx:=ha.2 x (by simp)
    have hy:=hb.2 y (by simp)
    have pa:=(List.pairwise_cons.1 ha.1).1
    have pb:=(List.pairwise_cons.1 hb.1).1
    rw[A1b]
    have key:∀ m:List Run,L3 m→(∀ r∈m,min x.hi y.hi+1 < r.lo)→L3 ((if max x.lo y.lo≤min x.hi y.hi then[(⟨max x.lo y.lo,min x.hi y.hi⟩:Run)]else[])++m):=by
     intro m hm hlt
     split
     ·refine⟨List.pairwise_append.2 ⟨by simp,hm.1,fun u hu v hv=>?_⟩,fun r hr=>?_⟩
      ·have:u=⟨max x.lo y.lo,min x.hi y.hi⟩:=by simpa using hu
       subst this
       exact hlt v hv
      ·rcases List.mem_append.1 hr with hr | hr
       ·have:r=⟨max x.lo y.lo,min x.hi y.hi⟩:=by simpa using hr
        subst this
        simp only
        omega
       ·exact hm.2 r hr
     ·exact hm
    by_cases hd:x.hi < y.hi
    ·rw[if_pos hd]
     refine key _ (ih a (y :: b) (by simp only [List.length_cons];omega) (H0 ha) hb) fun r hr=>?_
     obtain⟨_,⟨x',hx',h1,_⟩,_⟩:=A83 _ a (y :: b) (Nat.le_refl _) r hr
     have:=pa x' hx'
     omega
    ·rw[if_neg hd]
     refine key _ (ih (x :: a) b (by simp only [List.length_cons];omega) ha (H0 hb)) fun r hr=>?_
     obtain⟨_,_,⟨y',hy',h1,_⟩⟩:=A83 _ (x :: a) b (Nat.le_refl _) r hr
     have:=pb y' hy'
     omega
theorem Ar3 : ∀ (l : List Run) (n:Int), L3 l → (∀ r ∈ l, n ≤ r.lo) → ∀ k, inR (Al8 n l) k ↔ n ≤ k ∧ k ≤ 1000000000 ∧ ¬ inR l k
  | [], n, _, _, k => by
    unfold Al8
    rw[Ar1]
    simp only [inR,List.not_mem_nil,false_and,exists_false,not_false_eq_true,and_true]
    omega
  | r :: l, n, h, hn, k => by
    have hr:=h.2 r (by simp)
    have h1:=hn r (by simp)
    have pa:=(List.pairwise_cons.1 h.1).1
    have ih:=Ar3 l (r.hi+1) (H0 h) (fun x hx=>by have:=pa x hx;omega) k
    have lt:inR l k→r.hi+1 < k:=A69 h
    rw[Al8,A68,Ar1,ih,M6]
    simp only
    constructor
    · rintro (g | ⟨g1, g2, g3⟩)
      · exact ⟨by omega, by omega, fun c => by rcases c with c | c; · omega
                                               · have:=lt c;omega⟩
      · exact ⟨by omega, by omega, fun c => by rcases c with c | c; · omega
                                               · exact g3 c⟩
    · rintro ⟨g1, g2, g3⟩
      by_cases e:k < r.lo
      · exact .inl ⟨by omega,by omega,by omega⟩
      · exact .inr ⟨by apply Classical.byContradiction;intro c;exact g3 (.inl ⟨by omega,by omega⟩),g2,fun c=>g3 (.inr c)⟩
theorem Ar4:∀(l:List Run) (n:Int),L3 l→(∀ r∈l,n≤r.lo)→∀ r∈Al8 n l,n≤r.lo∧r.lo≤r.hi∧r.hi≤1000000000
 | [],n,_,_,r,hr=>by
  unfold Al8 at hr
  split at hr
  ·have:r=⟨n,1000000000⟩:=by simpa using hr
   subst this
   simp only
   omega
  ·cases hr
 | x :: l,n,h,hn,r,hr=>by
  have hx:=h.2 x (by simp)
  have h1:=hn x (by simp)
  have pa:=(List.pairwise_cons.1 h.1).1
  rw[Al8]at hr
  rcases List.mem_append.1 hr with hr | hr
  ·split at hr
   ·have:r=⟨n,x.lo-1⟩:=by simpa using hr
    subst this
    simp only
    omega
   ·cases hr
  ·have:=Ar4 l (x.hi+1) (H0 h) (fun y hy=>by have:=pa y hy;omega) r hr
   omega
theorem Af3 : ∀ (l : List Run) (n:Int), 1 ≤ n → L3 l → (∀ r ∈ l, n ≤ r.lo) → L3 (Al8 n l)
  | [], n, h1, _, _ => by
    unfold Al8
    split
    · exact ⟨by simp, fun r hr => by have : r = ⟨n, 1000000000⟩ := by simpa using hr
                                     subst this;simp only;omega⟩
    · exact O8
  | x :: l, n, h0, h, hn => by
    have hx:=h.2 x (by simp)
    have h1:=hn x (by simp)
    have pa:=(List.pairwise_cons.1 h.1).1
    have hp:∀ r∈l,x.hi+1≤r.lo:=fun y hy=>by have:=pa y hy;omega
    have ih:=Af3 l (x.hi+1) (by omega) (H0 h) hp
    have lo:=Ar4 l (x.hi+1) (H0 h) hp
    rw[Al8]
    split
    · refine ⟨List.pairwise_append.2 ⟨by simp, ih.1, fun u hu v hv => ?_⟩, fun r hr => ?_⟩
      · have : u = ⟨n, x.lo - 1⟩ := by simpa using hu
        subst this
        have:=lo v hv
        simp only
        omega
      · rcases List.mem_append.1 hr with hr | hr
        · have : r = ⟨n, x.lo - 1⟩ := by simpa using hr
          subst this
          simp only
          omega
        · exact ih.2 r hr
    · exact ih
theorem B59(b:List Run):L3 (Al8 1 (nrm b)):=Af3 _ _ (Int.le_refl _) (E4 b) fun r hr=>((E4 b).2 r hr).1
theorem Af4(a b:List Run):L3 (Az2 a b):=Ar2 _ _ _ (Nat.le_refl _) (E4 _) (E4 _)
theorem Ar5(a b:List Run)(n:Int):inR (Az2 a b) n↔inR (nrm a) n∧¬ inR (nrm b) n:=by
 unfold Az2
 rw[B19 _ _ _ (Nat.le_refl _) (E4 _) (E4 _) n,A4w (B59 b),Ar3 _ _ (E4 b) (fun r hr=>((E4 b).2 r hr).1)]
 refine and_congr_right fun h=>?_
 rw[N7]at h
 exact⟨fun k=>k.2.2,fun k=>⟨h.1,h.2.1,k⟩⟩
def E2(a b:Past):Past:=I4 fun r=>Az2 (A7 [a] r) (A7 [b] r)
theorem A9z(a b:Past)(d:Dot):H4 (E2 a b) d=(H4 a d && !H4 b d):=by
 rw[Bool.eq_iff_iff,E2,P5,Ar5,Bool.and_eq_true,Bool.not_eq_true',← O9 a d,← O9 b d]
 unfold A6
 rw[P5,← Bool.not_eq_true,P5]
 constructor
 ·rintro⟨h,h1,h2⟩
  have hb:=G0 h
  rw[N7]at h1 h2
  exact⟨⟨h,h1.2.2⟩,fun k=>h2 ⟨by omega,by omega,k.2⟩⟩
 ·rintro⟨⟨h,h1⟩,h2⟩
  have hb:=G0 h
  rw[N7,N7]
  exact⟨h,⟨by omega,by omega,h1⟩,fun k=>h2 ⟨h,k.2.2⟩⟩
end Go.Proofs.YtphcaholhacnpaaGreat
namespace Go.Proofs.YtphcaholhacnpaaGreat
open Go.E
set_option maxRecDepth 100000
set_option maxHeartbeats 4000000
def N9(a b:Int):Int:=if a < b then -1 else if b < a then 1 else 0
def A96(u v:List Int):Nat→Nat→Int
 | _,0=>0
 | r,k+1=>if u[r]! = v[r]! then A96 u v (r+1) k else N9 u[r]! v[r]!
def A6a(s t:Span):Int:=if N9 s.rep t.rep≠0 then N9 s.rep t.rep else if N9 s.lo t.lo≠0 then N9 s.lo t.lo else N9 s.hi t.hi
def P7:List Span→List Span→Int
 | [],[]=>0
 | [],_ :: _=>-1
 | _ :: _,[]=>1
 | s :: a,t :: b=>if A6a s t≠0 then A6a s t else P7 a b
def cmpQ(x y:Past):Int:=if A96 x.vec y.vec 0 16≠0 then A96 x.vec y.vec 0 16 else P7 x.cloud y.cloud
def Az3(p q:Past):Int:=cmpQ (A6 p) (A6 q)
structure Ord3 {α:Type} (c:α→α→Int):Prop where
 rng:∀ x y,c x y=-1∨c x y=0∨c x y=1
 neg:∀ x y,c y x=-(c x y)
 tr:∀ x y z,c x y≤0→c y z≤0→c x z≤0
 tr0:∀ x y z,c x y=0→c y z=0→c x z=0
theorem Ord3.lt{α:Type}{c:α→α→Int}(h:Ord3 c){x y z:α}(h1:c x y < 0)(h2:c y z≤0):c x z < 0:=by
 have h3:=h.tr x y z (by omega) h2
 apply Classical.byContradiction
 intro h4
 have h5:c x z=0:=by omega
 have h6:c z x=0:=by rw[h.neg x z];omega
 have h7:=h.tr y z x h2 (by omega)
 have:=h.neg x y
 omega
theorem Ord3.lt'{α:Type}{c:α→α→Int}(h:Ord3 c){x y z:α}(h1:c x y≤0)(h2:c y z < 0):c x z < 0:=by
 have h3:=h.tr x y z h1 (by omega)
 apply Classical.byContradiction
 intro h4
 have h5:c x z=0:=by omega
 have h6:c z x=0:=by rw[h.neg x z];omega
 have h7:=h.tr z x y (by omega) h1
 have:=h.neg y z
 omega
theorem ordI:Ord3 N9:=by
 refine⟨fun x y=>?_,fun x y=>?_,fun x y z=>?_,fun x y z=>?_⟩ <;> unfold N9 <;>(repeat' split) <;> omega
theorem A0k{α β γ:Type}{c:β→β→Int}{d:γ→γ→Int}(hc:Ord3 c)(hd:Ord3 d)(f:α→β)(g:α→γ):Ord3 (fun x y=>if c (f x) (f y)≠0 then c (f x) (f y)else d (g x) (g y)):=by
 refine⟨fun x y=>?_,fun x y=>?_,fun x y z=>?_,fun x y z=>?_⟩
 ·split
  ·exact hc.rng _ _
  ·exact hd.rng _ _
 ·have h1:=hc.neg (f x) (f y)
  have h2:=hd.neg (g x) (g y)
  split <;> split <;> omega
 ·intro h1 h2
  have b1:=hc.neg (f x) (f y)
  by_cases e1:c (f x) (f y)=0
  ·rw[if_neg (by simpa using e1)]at h1
   by_cases e2:c (f y) (f z)=0
   ·rw[if_neg (by simpa using e2)]at h2
    rw[if_neg (by simpa using hc.tr0 _ _ _ e1 e2)]
    exact hd.tr _ _ _ h1 h2
   ·rw[if_pos e2]at h2
    have:=hc.lt' (x:=f x) (y:=f y) (z:=f z) (by omega) (by omega)
    rw[if_pos (by omega)]
    omega
  ·rw[if_pos e1]at h1
   have h2':c (f y) (f z)≤0:=by
    by_cases e2:c (f y) (f z)=0
    ·omega
    ·rw[if_pos e2]at h2;exact h2
   have:=hc.lt (x:=f x) (y:=f y) (z:=f z) (by omega) h2'
   rw[if_pos (by omega)]
   omega
 ·intro h1 h2
  have e1:c (f x) (f y)=0:=by
   apply Classical.byContradiction
   intro e
   rw[if_pos e]at h1
   exact e h1
  have e2:c (f y) (f z)=0:=by
   apply Classical.byContradiction
   intro e
   rw[if_pos e]at h2
   exact e h2
  rw[if_neg (by simpa using e1)]at h1
  rw[if_neg (by simpa using e2)]at h2
  rw[if_neg (by simpa using hc.tr0 _ _ _ e1 e2)]
  exact hd.tr0 _ _ _ h1 h2
theorem A32{a b:Int}:N9 a b=0↔a=b:=by unfold N9;split <;>(try split) <;> omega
theorem ordF(k:Nat):∀ r:Nat,Ord3 fun u v:List Int=>A96 u v r k:=by
 induction k with
 | zero=>exact fun r=>⟨fun _ _=>.inr (.inl rfl),fun _ _=>rfl,fun _ _ _ _ _=>Int.le_refl _,fun _ _ _ _ _=>rfl⟩
 | succ k ih =>
  intro r
  have h:=A0k ordI (ih (r+1)) (fun u:List Int=>u[r]!) (fun u=>u)
  have e:(fun u v:List Int=>A96 u v r (k+1))=fun u v=>if N9 u[r]! v[r]!≠0 then N9 u[r]! v[r]! else A96 u v (r+1) k:=by
   funext u v
   rw[A96]
   by_cases e:u[r]! = v[r]!
   ·rw[if_pos e,if_neg (by rw[A32.2 e];simp)]
   ·rw[if_neg e,if_pos (fun k=>e (A32.1 k))]
  rw[e]
  exact h
theorem B6s:Ord3 A6a:=A0k ordI (A0k ordI ordI (fun s:Span=>s.lo) (fun s:Span=>s.hi)) (fun s:Span=>s.rep) (fun s=>s)
theorem ordC:Ord3 P7:=by
 refine⟨fun x=>?_,fun x=>?_,fun x=>?_,fun x=>?_⟩
 ·induction x with
  | nil=>intro y;cases y <;> simp [P7]
  | cons s a ih =>
   intro y
   cases y with
   | nil=>simp [P7]
   | cons t b =>
    rw[P7]
    split
    ·exact B6s.rng _ _
    ·exact ih b
 ·induction x with
  | nil=>intro y;cases y <;> simp [P7]
  | cons s a ih =>
   intro y
   cases y with
   | nil=>simp [P7]
   | cons t b =>
    rw[P7,P7]
    have h1:=B6s.neg s t
    have h2:=ih b
    split <;> split <;> omega
 ·induction x with
  | nil=>intro y z _ _;cases z <;> simp [P7]
  | cons s a ih =>
   intro y z h1 h2
   cases y with
   | nil=>simp [P7]at h1
   | cons t b =>
    cases z with
    | nil=>simp [P7]at h2
    | cons r d =>
     rw[P7]at h1 h2 ⊢
     by_cases e1:A6a s t=0
     ·rw[if_neg (by simpa using e1)]at h1
      by_cases e2:A6a t r=0
      ·rw[if_neg (by simpa using e2)]at h2
       rw[if_neg (by simpa using B6s.tr0 _ _ _ e1 e2)]
       exact ih b d h1 h2
      ·rw[if_pos e2]at h2
       have:=B6s.lt' (x:=s) (y:=t) (z:=r) (by omega) (by omega)
       rw[if_pos (by omega)]
       omega
     ·rw[if_pos e1]at h1
      have h2':A6a t r≤0:=by
       by_cases e2:A6a t r=0
       ·omega
       ·rw[if_pos e2]at h2;exact h2
      have:=B6s.lt (x:=s) (y:=t) (z:=r) (by omega) h2'
      rw[if_pos (by omega)]
      omega
 ·induction x with
  | nil =>
   intro y z h1 h2
   cases y with
   | nil=>exact h2
   | cons t b=>simp [P7]at h1
  | cons s a ih =>
   intro y z h1 h2
   cases y with
   | nil=>simp [P7]at h1
   | cons t b =>
    cases z with
    | nil=>simp [P7]at h2
    | cons r d =>
     rw[P7]at h1 h2 ⊢
     have e1:A6a s t=0:=by
      apply Classical.byContradiction
      intro e
      rw[if_pos e]at h1
      exact e h1
     have e2:A6a t r=0:=by
      apply Classical.byContradiction
      intro e
      rw[if_pos e]at h2
      exact e h2
     rw[if_neg (by simpa using e1)]at h1
     rw[if_neg (by simpa using e2)]at h2
     rw[if_neg (by simpa using B6s.tr0 _ _ _ e1 e2)]
     exact ih b d h1 h2
theorem ordQ:Ord3 cmpQ:=A0k (ordF 16 0) ordC (fun p:Past=>p.vec) (fun p=>p.cloud)
theorem ordP:Ord3 Az3:=⟨fun _ _=>ordQ.rng _ _,fun _ _=>ordQ.neg _ _,fun _ _ _=>ordQ.tr _ _ _,fun _ _ _=>ordQ.tr0 _ _ _⟩
end Go.Proofs.YtphcaholhacnpaaGreat
namespace Go.Proofs.YtphcaholhacnpaaGreat
open Go.E
set_option maxRecDepth 100000
set_option maxHeartbeats 4000000
def orI(v:List Int):Int:=(v.find? fun x=>decide (¬ x=0)).getD 0
def B5a(v:List Int)(i:Int):Prop:=0≤i∧i≤v.length∧∀ j:Nat,(j:Int) < i→v[j]! = 0
def decOr(v:List Int)(i:Int):Nat:=(v.length-i).toNat
theorem or_at{v:List Int}:∀ {i:Nat},i < v.length→¬ v[i]! = 0→(∀ j:Nat,j < i→v[j]! = 0)→orI v=v[i]!:=by
 intro i hi h hn
 unfold orI
 have:v.find? (fun x=>decide (¬ x=0))=some v[i]!:=by
  rw[getElem!_pos v i hi]at h ⊢
  rw[List.find?_eq_some_iff_getElem]
  refine⟨by simpa using h,i,hi,rfl,fun j hj=>?_⟩
  have:=hn j hj
  rw[getElem!_pos v j (by omega)]at this
  simpa using this
 rw[this];rfl
theorem or_no{v:List Int}(h:∀ j:Nat,j < v.length→v[j]! = 0):orI v=0:=by
 unfold orI
 rw[List.find?_eq_none.2]
 ·rfl
 ·intro x hx
  obtain⟨j,hj,rfl⟩:=List.mem_iff_getElem.1 hx
  have:=h j hj
  rw[getElem!_pos v j hj]at this
  simpa using this
theorem B1a(s t:Span):orI [N9 s.rep t.rep,N9 s.lo t.lo,N9 s.hi t.hi]=A6a s t:=by
 unfold orI A6a
 by_cases h1:N9 s.rep t.rep=0
 ·by_cases h2:N9 s.lo t.lo=0
  ·by_cases h3:N9 s.hi t.hi=0 <;> simp [h1,h2,h3]
  ·simp [h1,h2]
 ·simp [h1]
def B1b(a b:List Span)(i:Int):Prop:=0≤i∧i≤a.length∧i≤b.length∧P7 a b=P7 (a.drop i.toNat) (b.drop i.toNat)
def decCf(a b:List Span)(i:Int):Nat:=(a.length-i).toNat
theorem Aj9{a:List Span}{i:Int}(h0:0≤i)(h:i < a.length):a.drop i.toNat=a[i.toNat]! :: a.drop (i+1).toNat:=by
 rw[show(i+1).toNat=i.toNat+1 by omega,getElem!_pos a i.toNat (by omega)]
 exact List.drop_eq_getElem_cons (by omega)
theorem B1c{a:List Span}{i:Int}(h:¬ i < a.length):a.drop i.toNat=[]:=List.drop_of_length_le (by omega)
theorem B5b{a b:List Span}{i:Int}(h0:0≤i)(ha:i < a.length)(hb:¬ i < b.length)(h:P7 a b=P7 (a.drop i.toNat) (b.drop i.toNat)):P7 a b=1:=by
 rw[h,Aj9 h0 ha,B1c hb];rfl
theorem B5c{a b:List Span}{i:Int}(h0:0≤i)(ha:¬ i < a.length)(hb:i < b.length)(h:P7 a b=P7 (a.drop i.toNat) (b.drop i.toNat)):P7 a b=-1:=by
 rw[h,Aj9 h0 hb,B1c ha];rfl
theorem B5d{a b:List Span}{i:Int}(ha:¬ i < a.length)(hb:¬ i < b.length)(h:P7 a b=P7 (a.drop i.toNat) (b.drop i.toNat)):P7 a b=0:=by
 rw[h,B1c hb,B1c ha];rfl
theorem B5e{a b:List Span}{i:Int}(h0:0≤i)(ha:i < a.length)(hb:i < b.length)(hd:¬ A6a a[i.toNat]! b[i.toNat]! = 0)(h:P7 a b=P7 (a.drop i.toNat) (b.drop i.toNat)):P7 a b=A6a a[i.toNat]! b[i.toNat]!:=by
 rw[h,Aj9 h0 ha,Aj9 h0 hb,P7,if_pos hd]
theorem B5f{a b:List Span}{i:Int}(h0:0≤i)(ha:i < a.length)(hb:i < b.length)(hd:A6a a[i.toNat]! b[i.toNat]! = 0)(h:P7 a b=P7 (a.drop i.toNat) (b.drop i.toNat)):B1b a b (i+1):=by
 refine⟨by omega,by omega,by omega,?_⟩
 rw[h,Aj9 h0 ha,Aj9 h0 hb,P7,if_neg (by simpa using hd)]
def Al9(u v:List Int)(r:Int):Prop:=A96 u v 0 16=A96 u v r.toNat (16-r).toNat
def Aa0(x y:Past)(r:Int)(u:List Int)(c:List Span)(v:List Int)(d:List Span):Prop:=u=x.vec∧c=x.cloud∧v=y.vec∧d=y.cloud∧0≤r∧r≤16∧Al9 x.vec y.vec r
def decCq(r:Int)(u:List Int)(c:List Span)(v:List Int)(d:List Span):Nat:=(16-r).toNat
def invCp(u v:List Int)(r:Int):Prop:=0≤r∧r≤16∧Al9 u v r
theorem A1c{u:List Int}{r:Int}(h0:0≤r)(h:¬ r < u.length):u[r.toNat]! = 0:=by
 rw[getElem!_def,List.getElem?_eq_none (by omega)];rfl
theorem Ar6{u v:List Int}{r:Int}(h0:0≤r)(h1:r < 16)(h:Al9 u v r):A96 u v 0 16=if u[r.toNat]! = v[r.toNat]! then A96 u v (r+1).toNat (16-(r+1)).toNat else N9 u[r.toNat]! v[r.toNat]!:=by
 unfold Al9 at h
 rw[h,show(16-r).toNat=(16-(r+1)).toNat+1 by omega,A96,show r.toNat+1=(r+1).toNat by omega]
theorem B5g{u v:List Int}{r:Int}(h0:0≤r)(h1:r < 16)(hd:¬ u[r.toNat]! = v[r.toNat]!)(h:Al9 u v r):A96 u v 0 16=N9 u[r.toNat]! v[r.toNat]!:=by rw[Ar6 h0 h1 h,if_neg hd]
theorem B5h{u v:List Int}{r:Int}(h0:0≤r)(h1:r < 16)(hd:u[r.toNat]! = v[r.toNat]!)(h:Al9 u v r):invCp u v (r+1):=by
 refine⟨by omega,by omega,?_⟩
 unfold Al9
 rw[Ar6 h0 h1 h,if_pos hd]
theorem cf_end{u v:List Int}{r:Int}(h1:r≤16)(hn:¬ r < 16)(h:Al9 u v r):A96 u v 0 16=0:=by
 unfold Al9 at h
 rw[h,show(16-r).toNat=0 by omega];rfl
theorem cp_vec{p q:Past}{x:Int}(h:A96 (A6 p).vec (A6 q).vec 0 16=x)(hx:¬ x=0):Az3 p q=x:=by
 unfold Az3 cmpQ
 rw[if_pos (by rw[h];exact hx),h]
theorem B1d{p q:Past}(h:A96 (A6 p).vec (A6 q).vec 0 16=0):Az3 p q=P7 (A6 p).cloud (A6 q).cloud:=by
 unfold Az3 cmpQ
 rw[if_neg (by rw[h];simp)]
theorem B5i{a b:Int}(h:¬ a=b):¬ N9 a b=0:=fun k=>h (A32.1 k)
theorem B3f(x:Int):Con Tryz.prog 272 [.i .i64 x] (.b false) :=
 by
 refine sC B3 [.tmp 2] 6 Tryz.func272 ?_
 intro e0 cx
 refine sq<|rG cx [0] [] z0<|sn<|sq<|rG cx [2] [] (tT 2 (Ad3:AV.b (x != x)=AV.b false) z0)<|sn<|rT ?_
 exact X8 (r:=.b (false)) (obl:=[]) (by kernel_rfl) trivial (A5.refl _)
theorem A4x(a b:Int):Con Tryz.prog 231 [.i .i64 a,.i .i64 b] (.i .i64 (N9 a b)) :=
 by
 refine sC B3 [.tmp 4] 20 Tryz.func231 ?_
 intro e0 cx
 refine sq<|rG cx [0,1] [] z0<|sn<|sq<|rG cx [0,1,5] [] (fT (B3f (a)) (oA 1 (.b (false)) z0))<|sn<|sq<|rG cx [0,1,5,6] [] (fT (B3f (b)) (oA 1 (.b (false)) z0))<|sn<|sq<|sq<|rG cx [0,1,6,11] [] z0<|sn<|W5 (by kernel_rfl) (by kernel_rfl)<|sK<|sn<|sq<|sq<|rG cx [0,1,13] [] z0<|sn<|W5 (by kernel_rfl) (by kernel_rfl)<|sK<|sn<|sq<|rD cx [0,1,16] [] (zB 2 (a < b)) (fun h0=>?_) fun h0=>?_
 refine sq<|rG cx [4] [] z0<|sn<|rT<|nR<|qR (.i .i64 ((-1:Int))) (.eq (by unfold N9;rw[if_pos h0]))
 refine sK<|sn<|sq<|rD cx [19] [] (zB 2 (b < a)) (fun h1=>?_) fun h1=>?_
 refine sq<|rG cx [4] [] z0<|sn<|rT<|nR<|qR (.i .i64 ((1:Int))) (.eq (by unfold N9;rw[if_neg h0,if_pos h1]))
 refine sK<|sn<|sq<|rG cx [4] [] z0<|sn<|rT<|qR (.i .i64 ((0:Int))) (.eq (by unfold N9;rw[if_neg h0,if_neg h1]))
theorem con234(v:List Int):Con Tryz.prog 234 [.sl (v.map c3)] (.i .i64 (orI v)) :=
 by
 refine lN 0 c3 (v) Tryz.func234 fun hl_0=>sC B3 [.tmp 2] 18 Tryz.func234 ?_
 intro e0 cx
 refine sq<|rG cx [0] [] z0<|sn<|sq<|rG cx [0,3] [] z0<|sn<|sq<|sq<|rG cx [3,6,7,8] [] (tL 1 c3 v z0)<|sn<|bL 0<|sL (X:=Int) (fun x=>⟨[(3,.i .i64 ((0:Int))),(6,.sl (List.map c3 v)),(7,.i .i64 ((↑v.length:Int))),(8,.i .i64 (x))],[]⟩) (fun x ↦ decOr v x) (fun x ↦ B5a v x) [3,6,7,8] [] ((0:Int)) (show B5a v (0:Int)from(by exact⟨by omega,by omega,fun j hj=>by omega⟩)) ?_
 intro i0 h_1
 obtain⟨hh2,hh3,hh4⟩:0≤i0∧i0≤(↑v.length:Int)∧∀(j:Nat),(↑j:Int) < i0→v[j]! =(0:Int):=h_1
 refine rE cx [3,6,7,8,9] [] (zB 0 (i0 <(↑v.length:Int))) (fun h5=>?_) fun h5=>?_
 refine sK<|sn<|sq<|bL 1<|sq<|rG cx [3,6,7,8,5] [] (fA (0≤i0) (fG c3 v i0.toNat (fR 1 (oR 0 (c3 v[i0.toNat]!) z0))))<|sn<|sq<|rG cx [3,6,7,8,5,14] [] (tN 2 v[i0.toNat]! (0:Int) z0)<|sn<|dC (¬v[i0.toNat]! =(0:Int)) (fun h6=>?_) fun h6=>?_
 refine sq<|rG cx [2] [] z0<|sn<|rT<|bR<|nR<|nR<|bR<|nR<|qR (.i .i64 (v[i0.toNat]!)) (.eq ?g1);rotate_left
 refine sK<|bN<|sn<|rG cx [3,6,7,8] [] (tW 0 (i0+1) z0)<|sn<|nX (i0+1) (show((↑v.length:Int)-(i0+1)).toNat <((↑v.length:Int)-i0).toNat from(by omega)) (show B5a v (i0+1)from ?g2);rotate_left
 refine eX 0<|nE<|nE<|bH<|sn<|sq<|rG cx [2] [] z0<|sn<|rT<|qR (.i .i64 ((0:Int))) (.eq (by rw[or_no fun j hj=>hh4 j (by omega)]))
 case g1=>revert i0 hh2 hh3 hh4 h5 h6;intro i h0 h1 h2 h3 h4;rw[or_at (i:=i.toNat) (by omega) h4 (fun j hj=>h2 j (by omega))]
 case g2 =>
  exact⟨by omega,by omega,fun j hj=>by
   by_cases e:j=i0.toNat
   ·rw[e];exact Classical.not_not.1 h6
   ·exact hh4 j (by omega)⟩
theorem con233(s t:Span):Con Tryz.prog 233 [.agg (B1 s),.agg (B1 t)] (.i .i64 (A6a s t)) :=
 by
 refine sC B3 [.tmp 4] 22 Tryz.func233 ?_
 intro e0 cx
 refine sq<|rG cx [2,3] [2,3] z0<|sn<|sq<|rA cx [4] [] (fT (A4x (s.rep) (t.rep)) (fT (A4x (s.lo) (t.lo)) (fT (A4x (s.hi) (t.hi)) (fP (Flat (AV.i .i64 (orI [N9 s.rep t.rep,N9 s.lo t.lo,N9 s.hi t.hi]))) (by exact Flat.i _ _) (fT (con234 ([N9 s.rep t.rep,N9 s.lo t.lo,N9 s.hi t.hi])) (oA 4 (.i .i64 (N9 s.rep t.rep)) (oA 9 (.i .i64 (N9 s.lo t.lo)) (oA 14 (.i .i64 (N9 s.hi t.hi)) (oV 16 { val:=some (.i .i64 (orI [N9 s.rep t.rep,N9 s.lo t.lo,N9 s.hi t.hi])),flat:=true } z0)))))))))<|sn<|rT<|qR (.i .i64 (orI [N9 s.rep t.rep,N9 s.lo t.lo,N9 s.hi t.hi])) (.eq ?g0);rotate_left
 case g0=>rw[B1a]
theorem con232(a b:List Span):Con Tryz.prog 232 [.sl (a.map B1),.sl (b.map B1),.fn (.func 233) [] []] (.i .i64 (P7 a b)) :=
 by
 refine lN 0 B1 (a) Tryz.func232 fun hl_0=>lN 1 B1 (b) Tryz.func232 fun hl_1=>sC B3 [.tmp 6] 39 Tryz.func232 ?_
 intro e0 cx
 refine sq<|rG cx [0,1,2] [] z0<|sn<|sq<|sq<|rG cx [0,1,2,11,12,13] [] (tL 1 B1 a z0)<|sn<|bL 0<|sL (X:=Int) (fun x=>⟨[(0,.sl (List.map B1 a)),(1,.sl (List.map B1 b)),(2,.fn (Fn.func (233:FuncId)) [] []),(11,.sl (List.map B1 a)),(12,.i .i64 ((↑a.length:Int))),(13,.i .i64 (x))],[]⟩) (fun x ↦ decCf a b x) (fun x ↦ B1b a b x) [0,1,2,11,12,13] [] ((0:Int)) (show B1b a b (0:Int)from(by exact⟨by omega,by omega,by omega,rfl⟩)) ?_
 intro i0 h_1
 obtain⟨hh2,hh3,hh4,hh5⟩:0≤i0∧i0≤(↑a.length:Int)∧i0≤(↑b.length:Int)∧P7 a b=P7 (List.drop i0.toNat a) (List.drop i0.toNat b):=h_1
 refine rE cx [0,1,2,11,12,13,14] [] (zB 0 (i0 <(↑a.length:Int))) (fun hh6=>?_) fun hh6=>?_
 refine sK<|sn<|sq<|bL 1<|sq<|rG cx [0,1,2,11,12,13,8,7] [8] (fA (0≤i0) (fG B1 a i0.toNat (fR 3 (fN 3 3 (oR 1 (B1 a[i0.toNat]!) z0)))))<|sn<|sq<|rD cx [0,1,2,11,12,13,8,7,21] [8] (tL 2 B1 b (zB 3 ((↑b.length:Int)≤i0))) (fun h7=>?_) fun h7=>?_
 refine sq<|rG cx [6] [] z0<|sn<|rT<|nR<|bR<|nR<|nR<|bR<|nR<|qR (.i .i64 ((1:Int))) (.eq (by rw[B5b hh2 hh6 (by omega) hh5]))
 refine sK<|sn<|sq<|rG cx [0,1,2,11,12,13,8,9] [8,9] (fA (0≤i0) (fG B1 b i0.toNat (fR 3 (fN 3 3 (oR 2 (B1 b[i0.toNat]!) z0)))))<|sn<|sq<|rG cx [0,1,2,11,12,13,10] [] (fT (con233 (a[i0.toNat]!) (b[i0.toNat]!)) (oA 3 (.i .i64 (A6a a[i0.toNat]! b[i0.toNat]!)) z0))<|sn<|sq<|rG cx [0,1,2,11,12,13,10,31] [] (tN 1 (A6a a[i0.toNat]! b[i0.toNat]!) (0:Int) z0)<|sn<|dC (¬A6a a[i0.toNat]! b[i0.toNat]! =(0:Int)) (fun h8=>?_) fun h8=>?_
 refine sq<|rG cx [6] [] z0<|sn<|rT<|bR<|nR<|nR<|bR<|nR<|qR (.i .i64 (A6a a[i0.toNat]! b[i0.toNat]!)) (.eq (by rw[B5e hh2 hh6 (by omega) h8 hh5]))
 refine sK<|bN<|sn<|rG cx [0,1,2,11,12,13] [] (tW 0 (i0+1) z0)<|sn<|nX (i0+1) (show((↑a.length:Int)-(i0+1)).toNat <((↑a.length:Int)-i0).toNat from(by omega)) (show B1b a b (i0+1)from(by exact B5f hh2 hh6 (by omega) (Classical.not_not.1 h8) hh5))
 refine eX 0<|nE<|nE<|bH<|sn<|sq<|rD cx [38] [] (tL 1 B1 a (tL 3 B1 b (zB 4 ((↑a.length:Int) <(↑b.length:Int))))) (fun h9=>?_) fun h9=>?_
 refine sq<|rG cx [6] [] z0<|sn<|rT<|nR<|qR (.i .i64 ((-1:Int))) (.eq (by rw[B5c hh2 hh6 (by omega) hh5]))
 refine sK<|sn<|sq<|rG cx [6] [] z0<|sn<|rT<|qR (.i .i64 ((0:Int))) (.eq (by rw[B5d hh6 (by omega) hh5]))
theorem con195(p q:Past)(hb:p.cloud.length*16≤140737488350000)(hq:q.cloud.length*16≤140737488350000):Con Tryz.prog 195 [.agg (c26 p),.agg (c26 q)] (.i .i64 (Az3 p q)) :=
 by
 have D:∀ {r:Int} {u v:List Int},u=(A6 p).vec→v=(A6 q).vec→0≤r→r < 16→∀ {a b:Int},u[r.toNat]! = a→v[r.toNat]! = b→¬ a=b→Al9 (A6 p).vec (A6 q).vec r→N9 a b=Az3 p q:=by
  intro r u v e1 e3 h0 h1 a b ha hb hn h
  rw[e1]at ha
  rw[e3]at hb
  have e:=B5g h0 h1 (by rw[ha,hb];exact hn) h
  rw[ha,hb]at e
  exact(cp_vec e (B5i hn)).symm
 have N:∀ {r:Int} {u v:List Int} {c d:List Span},u=(A6 p).vec→c=(A6 p).cloud→v=(A6 q).vec→d=(A6 q).cloud→0≤r→r < 16→∀ {a b:Int},u[r.toNat]! = a→v[r.toNat]! = b→¬ ¬ a=b→Al9 (A6 p).vec (A6 q).vec r→Aa0 (A6 p) (A6 q) (r+1) u c v d:=by
  intro r u v c d e1 e2 e3 e4 h0 h1 a b ha hb hn h
  have e:=B5h h0 h1 (by rw[← e1,← e3,ha,hb];exact Classical.not_not.1 hn) h
  exact⟨e1,e2,e3,e4,e.1,e.2.1,e.2.2⟩
 refine sC B3 [.tmp 4] 49 Tryz.func195 ?_
 intro e0 cx
 refine sq<|rG cx [2,3] [2,3] z0<|sn<|sq<|rA cx [5,6] [5,6] (fT (Af0 (p) (by(with_reducible assumption))) (fT (Af0 (q) (by(with_reducible assumption))) (oA 1 (.agg [.sl (List.map c3 (A6 p).vec),.sl (List.map B1 (A6 p).cloud)]) (oA 3 (.agg [.sl (List.map c3 (A6 q).vec),.sl (List.map B1 (A6 q).cloud)]) z0))))<|sn<|sq<|sq<|rG cx [5,6,14] [5,6] z0<|sn<|bL 0<|sL (X:=Int×List Int×List Span×List Int×List Span) (fun x=>⟨[(5,.ptr (5) (0) (0) (0)),(6,.ptr (6) (0) (0) (0)),(14,.i .i64 (x.1))],[(5,⟨0,26,.var [.sl (List.map c3 x.2.1),.sl (List.map B1 x.2.2.1)]⟩),(6,⟨0,26,.var [.sl (List.map c3 x.2.2.2.1),.sl (List.map B1 x.2.2.2.2)]⟩)]⟩) (fun x ↦ decCq x.1 x.2.1 x.2.2.1 x.2.2.2.1 x.2.2.2.2) (fun x ↦ Aa0 (A6 p) (A6 q) x.1 x.2.1 x.2.2.1 x.2.2.2.1 x.2.2.2.2) [5,6,14] [5,6] (((0:Int),(A6 p).vec,(A6 p).cloud,(A6 q).vec,(A6 q).cloud)) (show Aa0 (A6 p) (A6 q) (0:Int) (A6 p).vec (A6 p).cloud (A6 q).vec (A6 q).cloud from(by exact⟨Eq.refl _,Eq.refl _,Eq.refl _,Eq.refl _,by omega,by omega,Eq.refl _⟩)) ?_
 rintro⟨r0,u1,c2,v3,d4⟩ h_5
 obtain⟨h6,h7,h8,h9,h10,h11,h12⟩:u1=(A6 p).vec∧c2=(A6 p).cloud∧v3=(A6 q).vec∧d4=(A6 q).cloud∧0≤r0∧r0≤16∧Al9 (A6 p).vec (A6 q).vec r0:=h_5
 refine rE cx [5,6,14,15] [5,6] (zB 0 (r0 <(16:Int))) (fun h13=>?_) fun h13=>?_
 refine sK<|sn<|sq<|bL 1<|sq<|rG cx [5,6,14,7] [5,6] z0<|sn<|sq<|rG cx [5,6,14,7,8,9] [5,6] z0<|sn<|sq<|rD cx [5,6,14,7,8,9,21] [5,6] (tL 3 c3 u1 (zB 4 (r0 <(↑u1.length:Int)))) (fun h14=>?_) fun h14=>?_
 refine rG cx [5,6,14,7,8,9] [5,6] (fA (0≤r0) (fG c3 u1 r0.toNat (fR 1 (oR 3 (c3 u1[r0.toNat]!) z0))))<|sn<|sq<|rD cx [5,6,14,7,8,9,31] [5,6] (tL 3 c3 v3 (zB 4 (r0 <(↑v3.length:Int)))) (fun h15=>?_) fun h15=>?_
 refine rG cx [5,6,14,8,9] [5,6] (fA (0≤r0) (fG c3 v3 r0.toNat (fR 1 (oR 3 (c3 v3[r0.toNat]!) z0))))<|sn<|sq<|rG cx [5,6,14,8,9,39] [5,6] (tN 2 u1[r0.toNat]! v3[r0.toNat]! z0)<|sn<|dC (¬u1[r0.toNat]! = v3[r0.toNat]!) (fun h16=>?_) fun h16=>?_
 refine sq<|rG cx [4] [] (fT (A4x (u1[r0.toNat]!) (v3[r0.toNat]!)) (oA 2 (.i .i64 (N9 u1[r0.toNat]! v3[r0.toNat]!)) z0))<|sn<|rT<|bR<|nR<|nR<|bR<|nR<|qR (.i .i64 (N9 u1[r0.toNat]! v3[r0.toNat]!)) (.eq (by exact congrArg (AV.i .i64) (D h6 h8 h10 h13 (Eq.refl _) (Eq.refl _) h16 h12)))
 refine sK<|bN<|sn<|rG cx [5,6,14] [5,6] (tW 0 (r0+1) z0)<|sn<|nX ((r0+1,u1,c2,v3,d4)) (show(16-(r0+1)).toNat <(16-r0).toNat from(by omega)) (show Aa0 (A6 p) (A6 q) (r0+1) u1 c2 v3 d4 from(by exact N h6 h7 h8 h9 h10 h13 (Eq.refl _) (Eq.refl _) h16 h12))
 refine sK<|sn<|sq<|rG cx [5,6,14,8,9,39] [5,6] (tN 2 u1[r0.toNat]! (0:Int) z0)<|sn<|dC (¬u1[r0.toNat]! =(0:Int)) (fun h17=>?_) fun h17=>?_
 refine sq<|rG cx [4] [] (fT (A4x (u1[r0.toNat]!) ((0:Int))) (oA 2 (.i .i64 (N9 u1[r0.toNat]! (0:Int))) z0))<|sn<|rT<|bR<|nR<|nR<|bR<|nR<|qR (.i .i64 (N9 u1[r0.toNat]! (0:Int))) (.eq (by exact congrArg (AV.i .i64) (D h6 h8 h10 h13 (Eq.refl _) (A1c h10 h15) h17 h12)))
 refine sK<|bN<|sn<|rG cx [5,6,14] [5,6] (tW 0 (r0+1) z0)<|sn<|nX ((r0+1,u1,c2,v3,d4)) (show(16-(r0+1)).toNat <(16-r0).toNat from(by omega)) (show Aa0 (A6 p) (A6 q) (r0+1) u1 c2 v3 d4 from(by exact N h6 h7 h8 h9 h10 h13 (Eq.refl _) (A1c h10 h15) h17 h12))
 refine sK<|sn<|sq<|rD cx [5,6,14,7,8,9,31] [5,6] (tL 3 c3 v3 (zB 4 (r0 <(↑v3.length:Int)))) (fun h18=>?_) fun h18=>?_
 refine rG cx [5,6,14,8,9] [5,6] (fA (0≤r0) (fG c3 v3 r0.toNat (fR 1 (oR 3 (c3 v3[r0.toNat]!) z0))))<|sn<|sq<|rG cx [5,6,14,8,9,39] [5,6] (tN 2 (0:Int) v3[r0.toNat]! z0)<|sn<|dC (¬0=v3[r0.toNat]!) (fun h19=>?_) fun h19=>?_
 refine sq<|rG cx [4] [] (fT (A4x ((0:Int)) (v3[r0.toNat]!)) (oA 2 (.i .i64 (N9 (0:Int) v3[r0.toNat]!)) z0))<|sn<|rT<|bR<|nR<|nR<|bR<|nR<|qR (.i .i64 (N9 (0:Int) v3[r0.toNat]!)) (.eq (by exact congrArg (AV.i .i64) (D h6 h8 h10 h13 (A1c h10 h14) (Eq.refl _) h19 h12)))
 refine sK<|bN<|sn<|rG cx [5,6,14] [5,6] (tW 0 (r0+1) z0)<|sn<|nX ((r0+1,u1,c2,v3,d4)) (show(16-(r0+1)).toNat <(16-r0).toNat from(by omega)) (show Aa0 (A6 p) (A6 q) (r0+1) u1 c2 v3 d4 from(by exact N h6 h7 h8 h9 h10 h13 (A1c h10 h14) (Eq.refl _) h19 h12))
 refine sK<|sn<|sq<|rG cx [5,6,14,8,9,39] [5,6] z0<|sn<|W5 (by kernel_rfl) (by kernel_rfl)<|sK<|bN<|sn<|rG cx [5,6,14] [5,6] (tW 0 (r0+1) z0)<|sn<|nX ((r0+1,u1,c2,v3,d4)) (show(16-(r0+1)).toNat <(16-r0).toNat from(by omega)) (show Aa0 (A6 p) (A6 q) (r0+1) u1 c2 v3 d4 from(by exact N h6 h7 h8 h9 h10 h13 (A1c h10 h14) (A1c h10 h18) (fun k=>k (Eq.refl _)) h12))
 refine eX 0<|nE<|nE<|bH<|sn<|sq<|rG cx [4] [] (fT (con232 (c2) (d4)) (oA 4 (.i .i64 (P7 c2 d4)) z0))<|sn<|rT<|qR (.i .i64 (P7 c2 d4)) (.eq (by rw[h7,h9,B1d (cf_end h11 h13 h12)]))
end Go.Proofs.YtphcaholhacnpaaGreat
namespace Go.Proofs.YtphcaholhacnpaaGreat
open Go.E
set_option maxRecDepth 100000
set_option maxHeartbeats 4000000
theorem Z2(a b:UInt8)(x y:List UInt8):Go.Op.bytesLess (a :: x) (b :: y)=true↔a.toNat < b.toNat∨(a=b∧Go.Op.bytesLess x y=true):=by
 rw[Go.Op.bytesLess,Bool.or_eq_true,Bool.and_eq_true,decide_eq_true_eq,beq_iff_eq,UInt8.lt_iff_toNat_lt]
theorem B3g:∀ l:List UInt8,¬ Go.Op.bytesLess l l=true
 | []=>by simp [Go.Op.bytesLess]
 | a :: l=>by
  rw[Z2]
  rintro(h | h)
  ·omega
  ·exact B3g l h.2
theorem Af5:∀ {x y z:List UInt8},Go.Op.bytesLess x y=true→Go.Op.bytesLess y z=true→Go.Op.bytesLess x z=true
 | _,[],_,h,_=>by cases ‹List UInt8› <;> simp [Go.Op.bytesLess]at h
 | _,_ :: _,[],_,h=>by simp [Go.Op.bytesLess]at h
 | [],_ :: _,c :: z,_,_=>by simp [Go.Op.bytesLess]
 | a :: x,b :: y,c :: z,h1,h2=>by
  rw[Z2]at *
  rcases h1 with h1 | ⟨rfl,h1⟩
  ·rcases h2 with h2 | ⟨rfl,h2⟩
   ·exact .inl (by omega)
   ·exact .inl h1
  ·rcases h2 with h2 | ⟨rfl,h2⟩
   ·exact .inl h2
   ·exact .inr ⟨rfl,Af5 h1 h2⟩
theorem Af6:∀ {x y:List UInt8},¬ Go.Op.bytesLess x y=true→¬ Go.Op.bytesLess y x=true→x=y
 | [],[],_,_=>rfl
 | [],b :: y,h,_=>by simp [Go.Op.bytesLess]at h
 | a :: x,[],_,h=>by simp [Go.Op.bytesLess]at h
 | a :: x,b :: y,h1,h2=>by
  rw[Z2]at *
  have e:a=b:=UInt8.toNat_inj.1 (by omega)
  subst e
  rw[Af6 (fun h=>h1 (.inr ⟨rfl,h⟩)) (fun h=>h2 (.inr ⟨rfl,h⟩))]
theorem V6(x:ByteArray):¬ sLt x x=true:=B3g _
theorem Q8{x y z:ByteArray}(h1:sLt x y=true)(h2:sLt y z=true):sLt x z=true:=Af5 h1 h2
theorem A0l{x y:ByteArray}(h1:¬ sLt x y=true)(h2:¬ sLt y x=true):x=y:=by
 have e:=Af6 h1 h2
 rw[ByteArray.toList_eq,ByteArray.toList_eq]at e
 exact ByteArray.ext (Array.ext' e)
end Go.Proofs.YtphcaholhacnpaaGreat
namespace Go.Proofs.YtphcaholhacnpaaGreat
open Go.E
set_option maxRecDepth 100000
set_option maxHeartbeats 4000000
open Go Go.Lib Go.RowKit Go.Proofs
def A0m(a b:ByteArray):Int:=compareBytes a.data.toList b.data.toList
theorem A84:∀ x y:List UInt8,compareBytes x y=if Go.Op.bytesLess x y=true then -1 else if Go.Op.bytesLess y x=true then 1 else 0
 | [],[]=>rfl
 | [],b :: y=>by simp [compareBytes,Go.Op.bytesLess]
 | a :: x,[]=>by simp [compareBytes,Go.Op.bytesLess]
 | a :: x,b :: y=>by
  have ih:=A84 x y
  rw[compareBytes]
  by_cases h1:a < b
  ·rw[if_pos h1,if_pos ((Z2 _ _ _ _).2 (.inl (UInt8.lt_iff_toNat_lt.1 h1)))]
  ·by_cases h2:b < a
   ·rw[if_neg h1,if_pos h2,if_neg,if_pos ((Z2 _ _ _ _).2 (.inl (UInt8.lt_iff_toNat_lt.1 h2)))]
    rw[Z2]
    rintro(k | ⟨rfl,_⟩)
    ·exact h1 (UInt8.lt_iff_toNat_lt.2 k)
    ·rw[UInt8.lt_iff_toNat_lt]at h2;omega
   ·have e:a=b:=UInt8.toNat_inj.1 (by rw[UInt8.lt_iff_toNat_lt]at h1 h2;omega)
    subst e
    rw[if_neg h1,if_neg h1,ih]
    have c:∀ u v:List UInt8,Go.Op.bytesLess (a :: u) (a :: v)=Go.Op.bytesLess u v:=fun u v=>by
     rw[Bool.eq_iff_iff,Z2]
     constructor
     ·rintro(k | ⟨_,k⟩)
      ·omega
      ·exact k
     ·exact fun k=>.inr ⟨rfl,k⟩
    rw[c,c]
theorem Q9(a b:ByteArray):A0m a b=if sLt a b=true then -1 else if sLt b a=true then 1 else 0:=by
 unfold A0m sLt
 rw[ByteArray.toList_eq,ByteArray.toList_eq]
 exact A84 _ _
set_option maxHeartbeats 4000000 in
theorem A6b (a b:ByteArray) (w:World):Calls Tryz.prog 230 #[.string a,.string b] w fun e w'=>e=.returned (.int .i64 (A0m a b))∧w'=w:=by
 go_enter Tryz.func230,Tryz.ntmps230
 go_wp2
 rw[run_callFunc_extern Tryz.func271 (by kernel_rfl) (by kernel_rfl) (by kernel_rfl) (e:=Extern.BytealgCompare.compare) (by kernel_rfl),Lib.run_compareString]
 simp only [Result.andThen]
 rw[Oper.upon_value]
 go_wp2
 go_ret
 exact⟨rfl,rfl⟩
theorem con230(a b:ByteArray):Con Tryz.prog 230 [.s a,.s b] (.i .i64 (A0m a b)):=by
 refine⟨⟨_,Tryz.func230,by kernel_rfl,by kernel_rfl⟩,fun w S0 vs hS hl hv=>?_⟩
 obtain⟨v,u,rfl⟩:∃ v u,vs=[v,u]:=by
  match vs,hl with
  | [v,u],_=>exact⟨v,u,rfl⟩
 have h1:=hv 0 _ v rfl rfl
 have h2:=hv 1 _ u rfl rfl
 cases h1
 cases h2
 refine(A6b a b w).mono ?_
 rintro e w' ⟨rfl,rfl⟩
 exact⟨_,rfl,.i _ _,Below.refl _ _⟩
theorem con194(a b:ByteArray):Con Tryz.prog 194 [.s a,.s b] (.i .i64 (A0m a b)) :=
 by
 refine sC B3 [.tmp 4] 8 Tryz.func194 ?_
 intro e0 cx
 refine sq<|rG cx [0,1] [] z0<|sn<|sq<|rG cx [4] [] (fT (con230 (a) (b)) (oA 2 (.i .i64 (A0m a b)) z0))<|sn<|rT ?_
 exact X8 (r:=.i .i64 (A0m a b)) (obl:=[]) (by kernel_rfl) trivial (A5.refl _)
end Go.Proofs.YtphcaholhacnpaaGreat
namespace Go.Proofs.YtphcaholhacnpaaGreat
open Go.E
set_option maxRecDepth 100000
set_option maxHeartbeats 4000000
def G7:List Run→Int
 | []=>0
 | r :: l=>r.hi-r.lo+1+G7 l
def Y5:List Run→Int
 | []=>0
 | r :: l=>if(D2 r).lo≤(D2 r).hi then max (D2 r).hi (Y5 l)else Y5 l
theorem Ar7(a b:List Run):G7 (a++b)=G7 a+G7 b:=by
 induction a with
 | nil=>simp [G7]
 | cons e a ih=>simp only [List.cons_append,G7,ih];omega
theorem V7:∀ a:List Run,(Y5 a=0∧∀ n,1≤n→n≤1000000000→¬ inR a n)∨(1≤Y5 a∧Y5 a≤1000000000∧inR a (Y5 a)∧∀ n,1≤n→n≤1000000000→inR a n→n≤Y5 a)
 | []=>.inl ⟨rfl,fun n _ _ h=>by obtain⟨r,hr,_⟩:=h;cases hr⟩
 | r :: l=>by
  have hin:∀ n,inR (r :: l) n↔(r.lo≤n∧n≤r.hi)∨inR l n:=fun n=>by
   unfold inR
   constructor
   ·rintro⟨x,hx,h1,h2⟩
    rcases List.mem_cons.1 hx with rfl | hx
    ·exact .inl ⟨h1,h2⟩
    ·exact .inr ⟨x,hx,h1,h2⟩
   ·rintro(⟨h1,h2⟩ | ⟨x,hx,h1,h2⟩)
    ·exact⟨r,by simp,h1,h2⟩
    ·exact⟨x,by simp [hx],h1,h2⟩
  have hc1:(D2 r).lo=max r.lo 1:=rfl
  have hc2:(D2 r).hi=min r.hi 1000000000:=rfl
  unfold Y5
  split
  ·rename_i hc
   rw[hc1,hc2]at hc
   right
   rcases V7 l with⟨h1,h2⟩ | ⟨h1,h2,h3,h4⟩
   ·have e:max (D2 r).hi (Y5 l)=(D2 r).hi:=by rw[h1];omega
    rw[e,hc2]
    refine⟨by omega,by omega,(hin _).2 (.inl ⟨by omega,by omega⟩),fun n n1 n2 hn=>?_⟩
    rcases(hin n).1 hn with k | k
    ·omega
    ·exact absurd k (h2 n n1 n2)
   ·refine⟨by omega,by omega,?_,fun n n1 n2 hn=>?_⟩
    ·rcases Int.le_total (Y5 l) (D2 r).hi with k | k
     ·rw[Int.max_eq_left k,hc2];exact(hin _).2 (.inl ⟨by omega,by omega⟩)
     ·rw[Int.max_eq_right k];exact(hin _).2 (.inr h3)
    ·rcases(hin n).1 hn with k | k
     ·omega
     ·have:=h4 n n1 n2 k;omega
  ·rename_i hc
   rw[hc1,hc2]at hc
   rcases V7 l with⟨h1,h2⟩ | ⟨h1,h2,h3,h4⟩
   ·refine .inl ⟨h1,fun n n1 n2 hn=>?_⟩
    rcases(hin n).1 hn with k | k
    ·omega
    ·exact h2 n n1 n2 k
   ·refine .inr ⟨h1,h2,(hin _).2 (.inr h3),fun n n1 n2 hn=>?_⟩
    rcases(hin n).1 hn with k | k
    ·omega
    ·exact h4 n n1 n2 k
theorem B1e{a b:List Run}(h:∀ n,1≤n→n≤1000000000→(inR a n↔inR b n)):Y5 a=Y5 b:=by
 rcases V7 a with⟨a1,a2⟩ | ⟨a1,a2,a3,a4⟩ <;> rcases V7 b with⟨b1,b2⟩ | ⟨b1,b2,b3,b4⟩
 ·rw[a1,b1]
 ·exact absurd ((h _ b1 b2).2 b3) (a2 _ b1 b2)
 ·exact absurd ((h _ a1 a2).1 a3) (b2 _ a1 a2)
 ·have:=a4 _ b1 b2 ((h _ b1 b2).2 b3)
  have:=b4 _ a1 a2 ((h _ a1 a2).1 a3)
  omega
theorem B1f(a:List Run):Y5 (nrm a)=Y5 a:=B1e fun n h1 h2=>by
 rw[N7]
 exact⟨fun k=>k.2.2,fun k=>⟨h1,h2,k⟩⟩
theorem A33(r:Run):∀ a:List Run,Y5 (a++[r])=if(D2 r).lo≤(D2 r).hi then max (Y5 a) (D2 r).hi else Y5 a
 | []=>by
  have hc1:(D2 r).lo=max r.lo 1:=rfl
  simp only [List.nil_append,Y5]
  split <;> omega
 | x :: a=>by
  have ih:=A33 r a
  simp only [List.cons_append,Y5,ih]
  split <;> split <;> omega
end Go.Proofs.YtphcaholhacnpaaGreat
namespace Go.Proofs.YtphcaholhacnpaaGreat
open Go.E
set_option maxRecDepth 100000
set_option maxHeartbeats 4000000
def sizeT(T:Nat→List Run):Nat→Int
 | 0=>0
 | n+1=>sizeT T n+G7 (nrm (T n))
theorem Ar8(p:Past):∃ n:Int,n=sizeT (A7 [p]) 16:=⟨_,rfl⟩
noncomputable def C6(p:Past):Int:=Classical.choose (Ar8 p)
theorem A6c(p:Past):C6 p=sizeT (A7 [p]) 16:=Classical.choose_spec (Ar8 p)
def E6(p:Past)(rep:Int):Int:=if rep < 0∨16≤rep then 0 else Y5 (A7 [p] rep.toNat)
def H1(p:Past)(rep lim:Int):Dot×Int:=if rep < 0∨16≤rep then(default,3)else if min lim 1000000000≤E6 p rep then(default,9)else(⟨rep,E6 p rep+1⟩,0)
theorem A35:∀ {l:List Run},L3 l→0≤G7 l∧(G7 l=0→l=[])
 | [],_=>⟨Int.le_refl _,fun _=>rfl⟩
 | r :: l,h=>by
  have hr:=h.2 r (by simp)
  have ih:=(A35 (H0 h)).1
  rw[G7]
  exact⟨by omega,fun k=>by omega⟩
theorem Af7:∀ {l:List Run},L3 l→∀ m:Int,(∀ r∈l,m≤r.lo)→G7 l≤1000000001-m∨l=[]
 | [],_,m,_=>.inr rfl
 | r :: l,h,m,hm=>by
  have hr:=h.2 r (by simp)
  have h1:=hm r (by simp)
  have pa:=(List.pairwise_cons.1 h.1).1
  rw[G7]
  rcases Af7 (H0 h) (r.hi+1) (fun x hx=>by have:=pa x hx;omega)with k | k
  ·left;omega
  ·subst k
   left
   rw[G7]
   omega
theorem A0n{l:List Run}(h:L3 l):0≤G7 l∧G7 l≤1000000000:=by
 refine⟨(A35 h).1,?_⟩
 rcases Af7 h 1 (fun r hr=>(h.2 r hr).1)with k | k
 ·omega
 ·subst k;simp [G7]
theorem A0o(T:Nat→List Run):∀ n:Nat,0≤sizeT T n∧sizeT T n≤n*1000000000
 | 0=>by simp [sizeT]
 | n+1=>by
  have:=A0o T n
  have:=A0n (E4 (T n))
  rw[sizeT]
  omega
theorem A4y(T:Nat→List Run):∀ n:Nat,sizeT T n=0↔∀ r:Nat,r < n→nrm (T r)=[]
 | 0=>by simp [sizeT]
 | n+1=>by
  have h1:=A0o T n
  have h2:=A35 (E4 (T n))
  have ih:=A4y T n
  rw[sizeT]
  constructor
  ·intro k r hr
   by_cases e:r=n
   ·rw[e];exact h2.2 (by omega)
   ·exact ih.1 (by omega) r (by omega)
  ·intro k
   rw[ih.2 fun r hr=>k r (by omega),k n (by omega)]
   rfl
theorem A36{a:List Run}:nrm a=[]↔∀ n,¬ inR (nrm a) n:=by
 constructor
 ·intro h n k
  rw[h]at k
  obtain⟨r,hr,_⟩:=k
  cases hr
 ·intro h
  cases e:nrm a with
  | nil=>rfl
  | cons r l =>
   have hs:=E4 a
   rw[e]at hs h
   have:=hs.2 r (by simp)
   exact absurd ⟨r,by simp,Int.le_refl _,this.2.1⟩ (h r.lo)
theorem M9(p:Past):C6 p=0↔∀ d,H4 p d=false:=by
 rw[A6c,A4y]
 constructor
 ·intro h d
  rw[← O9,← Bool.not_eq_true]
  intro k
  unfold A6 at k
  rw[P5]at k
  have hb:=G0 k.1
  have:=A36.1 (h d.rep.toNat (by omega)) d.num
  rw[N7]at this
  exact this ⟨by omega,by omega,k.2⟩
 ·intro h r hr
  refine A36.2 fun n k=>?_
  rw[N7]at k
  have hd:K3 ⟨r,n⟩=true:=by unfold K3;rw[decide_eq_true_eq];simp only;omega
  have h1:=h ⟨r,n⟩
  rw[← O9,← Bool.not_eq_true]at h1
  refine h1 ?_
  unfold A6
  rw[P5]
  exact⟨hd,k.2.2⟩
theorem B1g(d:Dot):H4 ⟨[],[]⟩ d=false:=by
 unfold H4
 cases h:K3 d with
 | false=>rfl
 | true =>
  have hb:=G0 h
  simp
  omega
theorem A37:A6 ⟨[],[]⟩=⟨[],[]⟩:=by
 have h1:∀ r:Nat,r < 16→A7 [⟨[],[]⟩] r=[]:=fun r hr=>by simp [A7,Ae7,L9]
 have h2:nrm []=[]:=by
  refine A36.2 fun n k=>?_
  rw[N7]at k
  obtain⟨r,hr,_⟩:=k.2.2
  cases hr
 unfold A6
 rw[Q4 (U:=fun _=>[]) fun r hr=>h1 r hr]
 have l0:∀ r,Z0 (fun _=>[]) r=0:=fun r=>by unfold Z0;rw[h2];rfl
 have s0:∀ n,szT (fun _=>[]) n=0:=fun n=>by
  induction n with
  | zero=>rfl
  | succ n ih=>rw[szT,if_neg (by rw[l0];omega),ih]
 have c0:∀ n,I0 (fun _=>[]) n=[]:=fun n=>by
  induction n with
  | zero=>rfl
  | succ n ih=>rw[I0,ih];unfold T3;rw[h2];rfl
 unfold I4
 rw[s0,c0]
 rfl
theorem Ar9(p:Past):C6 (A6 p)=0↔C6 p=0:=by
 rw[M9,M9]
 exact⟨fun h d=>by rw[← O9];exact h d,fun h d=>by rw[O9];exact h d⟩
theorem A0p(p:Past)(rep:Int):0≤E6 p rep∧E6 p rep≤1000000000:=by
 unfold E6
 split
 ·omega
 ·rcases V7 (A7 [p] rep.toNat)with⟨h,_⟩ | ⟨h1,h2,_⟩ <;> omega
end Go.Proofs.YtphcaholhacnpaaGreat
namespace Go.Proofs.YtphcaholhacnpaaGreat
open Go.E
set_option maxRecDepth 100000
set_option maxHeartbeats 4000000
def O0(c:Int):Bool:=decide (65≤c∧c≤90)
def P6(c:Int):Bool:=decide (48≤c∧c≤57)
def F7(c:Int):Bool:=decide (c=45∨c=46)
def I1(s:ByteArray)(i:Nat):Bool:=O0 (byt s i) || P6 (byt s i) || (F7 (byt s i) && decide (i≠0∧i+1≠s.size) && !F7 (byt s (i-1)))
def Aa1(p:Nat→Bool):Nat→Bool
 | 0=>true
 | n+1=>Aa1 p n && p n
theorem I8(p:Nat→Bool):∀ n,Aa1 p n=true↔∀ i,i < n→p i=true
 | 0=>by simp [Aa1]
 | n+1=>by
  rw[Aa1,Bool.and_eq_true,I8 p n]
  constructor
  ·rintro⟨h1,h2⟩ i hi
   by_cases e:i=n
   ·rw[e];exact h2
   ·exact h1 i (by omega)
  ·intro h;exact⟨fun i hi=>h i (by omega),h n (by omega)⟩
def A38(s:ByteArray):Int:=if s.size=0 then 20 else if 24 < s.size then 21 else if Aa1 (I1 s) s.size=true then 0 else 22
def G2(s:ByteArray):Bool:=decide (A38 s=0)
def B3h(s:ByteArray)(i:Int):Prop:=0≤i∧i≤s.size∧∀ j:Nat,(j:Int) < i→I1 s j=true
def decG(s:ByteArray)(i:Int):Nat:=(s.size-i).toNat
theorem Af8{s:ByteArray}(h0:¬ s.size=0)(h1:¬ 24 < s.size){i:Nat}(hi:i < s.size)(h:I1 s i=false):A38 s=22:=by
 unfold A38
 rw[if_neg h0,if_neg h1,if_neg]
 intro k
 have:=(I8 _ _).1 k i hi
 rw[h]at this;cases this
theorem As0{s:ByteArray}(h0:¬ s.size=0)(h1:¬ 24 < s.size)(h:∀ j:Nat,j < s.size→I1 s j=true):A38 s=0:=by
 unfold A38
 rw[if_neg h0,if_neg h1,if_pos ((I8 _ _).2 h)]
theorem A0q(s:ByteArray):s.size=0↔s=⟨#[]⟩:=by
 constructor
 ·intro h;exact ByteArray.ext (Array.eq_empty_of_size_eq_zero h)
 ·rintro rfl;rfl
theorem J7(s:ByteArray)(i:Nat):I1 s i=true↔O0 (byt s i)=true∨P6 (byt s i)=true∨(F7 (byt s i)=true∧i≠0∧i+1≠s.size∧¬ F7 (byt s (i-1))=true):=by
 unfold I1
 cases O0 (byt s i) <;> cases P6 (byt s i) <;> cases F7 (byt s i) <;> cases F7 (byt s (i-1)) <;> simp
theorem A39{s:ByteArray}{i:Int}(h0:0≤i)(h1:i < s.size)(h2:∀ j:Nat,(j:Int) < i→I1 s j=true)(h:I1 s i.toNat=true):B3h s (i+1) :=
 ⟨by omega,by omega,fun j hj=>by
  by_cases e:j=i.toNat
  ·rw[e];exact h
  ·exact h2 j (by omega)⟩
theorem R0{s:ByteArray}{i:Nat}(h:¬ I1 s i=true):I1 s i=false:=by simpa using h
theorem B3i(c:Int):Con Tryz.prog 213 [.i .u8 c] (.b (O0 c)) :=
 by
 refine sC B3 [.tmp 2] 9 Tryz.func213 ?_
 intro e0 cx
 refine sq<|rG cx [0] [] z0<|sn<|sq<|A9 (σ':=⟨[(2,.b (decide (65≤c∧c≤90)))],[]⟩) ?_ ?_
 refine A4 (65≤c) (fun h_1=>?_) (fun h_1=>?_)
 refine rG cx [2] [] (tT 1 (A3 h_1) (tB 4 (c≤90) (tD 6 (decide (c≤90)) (65≤c∧c≤90) (by simp only [eq_true h_1,tsl]) z0))) ?_
 exact⟨rfl,by kernel_rfl⟩
 refine rG cx [2] [] (tT 1 (A0 h_1) (tD 6 false (65≤c∧c≤90) (by simp only [eq_false h_1,tsl]) z0)) ?_
 exact⟨rfl,by kernel_rfl⟩
 refine sn<|rT<|qR (.b (decide (65≤c∧c≤90))) (.eq ?g0);rotate_left
 case g0=>exact rfl
theorem con214(c:Int):Con Tryz.prog 214 [.i .u8 c] (.b (P6 c)) :=
 by
 refine sC B3 [.tmp 2] 9 Tryz.func214 ?_
 intro e0 cx
 refine sq<|rG cx [0] [] z0<|sn<|sq<|A9 (σ':=⟨[(2,.b (decide (48≤c∧c≤57)))],[]⟩) ?_ ?_
 refine A4 (48≤c) (fun h_1=>?_) (fun h_1=>?_)
 refine rG cx [2] [] (tT 1 (A3 h_1) (tB 4 (c≤57) (tD 6 (decide (c≤57)) (48≤c∧c≤57) (by simp only [eq_true h_1,tsl]) z0))) ?_
 exact⟨rfl,by kernel_rfl⟩
 refine rG cx [2] [] (tT 1 (A0 h_1) (tD 6 false (48≤c∧c≤57) (by simp only [eq_false h_1,tsl]) z0)) ?_
 exact⟨rfl,by kernel_rfl⟩
 refine sn<|rT<|qR (.b (decide (48≤c∧c≤57))) (.eq ?g0);rotate_left
 case g0=>exact rfl
theorem A85(c:Int):Con Tryz.prog 215 [.i .u8 c] (.b (F7 c)) :=
 by
 refine sC B3 [.tmp 2] 9 Tryz.func215 ?_
 intro e0 cx
 refine sq<|rG cx [0] [] z0<|sn<|sq<|A9 (σ':=⟨[(2,.b (decide (c=45∨c=46)))],[]⟩) ?_ ?_
 refine A4 (c=45) (fun h_1=>?_) (fun h_1=>?_)
 refine rG cx [2] [] (tT 1 (A3 h_1) (tD 6 true (c=45∨c=46) (by simp only [eq_true h_1,tsl]) z0)) ?_
 exact⟨rfl,by kernel_rfl⟩
 refine rG cx [2] [] (tT 1 (A0 h_1) (tB 4 (c=46) (tD 6 (decide (c=46)) (c=45∨c=46) (by simp only [eq_false h_1,tsl]) z0))) ?_
 exact⟨rfl,by kernel_rfl⟩
 refine sn<|rT<|qR (.b (decide (c=45∨c=46))) (.eq ?g0);rotate_left
 case g0=>exact rfl
theorem B3j(c:Int):Con Tryz.prog 241 [.i .u8 c] (.b (O0 c)) :=
 by
 refine sC B3 [.tmp 2] 9 Tryz.func241 ?_
 intro e0 cx
 refine sq<|rG cx [0] [] z0<|sn<|sq<|A9 (σ':=⟨[(2,.b (decide (65≤c∧c≤90)))],[]⟩) ?_ ?_
 refine A4 (65≤c) (fun h_1=>?_) (fun h_1=>?_)
 refine rG cx [2] [] (tT 1 (A3 h_1) (tB 4 (c≤90) (tD 6 (decide (c≤90)) (65≤c∧c≤90) (by simp only [eq_true h_1,tsl]) z0))) ?_
 exact⟨rfl,by kernel_rfl⟩
 refine rG cx [2] [] (tT 1 (A0 h_1) (tD 6 false (65≤c∧c≤90) (by simp only [eq_false h_1,tsl]) z0)) ?_
 exact⟨rfl,by kernel_rfl⟩
 refine sn<|rT<|qR (.b (decide (65≤c∧c≤90))) (.eq ?g0);rotate_left
 case g0=>exact rfl
theorem con242(c:Int):Con Tryz.prog 242 [.i .u8 c] (.b (P6 c)) :=
 by
 refine sC B3 [.tmp 2] 9 Tryz.func242 ?_
 intro e0 cx
 refine sq<|rG cx [0] [] z0<|sn<|sq<|A9 (σ':=⟨[(2,.b (decide (48≤c∧c≤57)))],[]⟩) ?_ ?_
 refine A4 (48≤c) (fun h_1=>?_) (fun h_1=>?_)
 refine rG cx [2] [] (tT 1 (A3 h_1) (tB 4 (c≤57) (tD 6 (decide (c≤57)) (48≤c∧c≤57) (by simp only [eq_true h_1,tsl]) z0))) ?_
 exact⟨rfl,by kernel_rfl⟩
 refine rG cx [2] [] (tT 1 (A0 h_1) (tD 6 false (48≤c∧c≤57) (by simp only [eq_false h_1,tsl]) z0)) ?_
 exact⟨rfl,by kernel_rfl⟩
 refine sn<|rT<|qR (.b (decide (48≤c∧c≤57))) (.eq ?g0);rotate_left
 case g0=>exact rfl
theorem B3k(c:Int):Con Tryz.prog 243 [.i .u8 c] (.b (F7 c)) :=
 by
 refine sC B3 [.tmp 2] 9 Tryz.func243 ?_
 intro e0 cx
 refine sq<|rG cx [0] [] z0<|sn<|sq<|A9 (σ':=⟨[(2,.b (decide (c=45∨c=46)))],[]⟩) ?_ ?_
 refine A4 (c=45) (fun h_1=>?_) (fun h_1=>?_)
 refine rG cx [2] [] (tT 1 (A3 h_1) (tD 6 true (c=45∨c=46) (by simp only [eq_true h_1,tsl]) z0)) ?_
 exact⟨rfl,by kernel_rfl⟩
 refine rG cx [2] [] (tT 1 (A0 h_1) (tB 4 (c=46) (tD 6 (decide (c=46)) (c=45∨c=46) (by simp only [eq_false h_1,tsl]) z0))) ?_
 exact⟨rfl,by kernel_rfl⟩
 refine sn<|rT<|qR (.b (decide (c=45∨c=46))) (.eq ?g0);rotate_left
 case g0=>exact rfl
theorem con217(s:ByteArray)(i:Int)(h0:0≤i)(h1:i < s.size)(h2:s.size≤24):Con Tryz.prog 217 [.s s,.i .i64 i] (.b (I1 s i.toNat)) :=
 by
 refine sC B3 [.tmp 4] 33 Tryz.func217 ?_
 intro e0 cx
 refine sq<|rG cx [0,1] [] z0<|sn<|sq ?_
 have hl_0:=(S7 s)
 have hl_1:=(S7 s i.toNat)
 refine rG cx [0,1,5] [] (fA (0≤i) (fP (Option.map (fun b ↦ (↑b.toNat:Int)) s[i.toNat]?=some (byt s i.toNat)) (by(with_reducible refine A5u ?_;omega)) (oA 2 (.i .u8 (byt s i.toNat)) z0))) ?_
 refine sn<|sq<|sq<|A9 (σ':=⟨[(0,.s (s)),(1,.i .i64 (i)),(5,.i .u8 (byt s i.toNat)),(14,.b (decide (O0 (byt s i.toNat)=true∨P6 (byt s i.toNat)=true)))],[]⟩) ?_ ?_
 refine A4 (O0 (byt s i.toNat)=true) (fun h_3=>?_) (fun h_3=>?_)
 refine rg (A:=_∧_∧(AV.b true=AV.b (decide (O0 (byt s i.toNat)=true∨P6 (byt s i.toNat)=true)))) cx [(1,{ val:=some (.b (O0 (byt s i.toNat))),tell:=some (.b (true)) }),(5,{ tell:=some (.b (decide (O0 (byt s i.toNat)=true∨P6 (byt s i.toNat)=true))) })] [0,1,5,14] [] ⟨(S6 h_3),(B3j (byt s i.toNat)),(by simp only [eq_true h_3,tsl])⟩ ?_
 exact⟨rfl,by kernel_rfl⟩
 refine rg (A:=_∧_∧_∧(AV.b (P6 (byt s i.toNat))=AV.b (decide (O0 (byt s i.toNat)=true∨P6 (byt s i.toNat)=true)))) cx [(1,{ val:=some (.b (O0 (byt s i.toNat))),tell:=some (.b (false)) }),(4,{ val:=some (.b (P6 (byt s i.toNat))) }),(5,{ tell:=some (.b (decide (O0 (byt s i.toNat)=true∨P6 (byt s i.toNat)=true))) })] [0,1,5,14] [] ⟨(A09 h_3),(B3j (byt s i.toNat)),(con242 (byt s i.toNat)),(by simp only [eq_false h_3,tsl])⟩ ?_
 exact⟨rfl,by kernel_rfl⟩
 refine sn<|dC (O0 (byt s i.toNat)=true∨P6 (byt s i.toNat)=true) (fun h4=>?_) fun h4=>?_
 refine sq<|rG cx [4] [] z0<|sn<|rT<|nR<|qR (.b (true)) (.eq ?g0);rotate_left
 refine sK<|sn<|sq<|sq<|rG cx [0,1,17] [] (fT (B3k (byt s i.toNat)) (tT 2 (E7:(AV.b !F7 (byt s i.toNat))=AV.b (decide ¬F7 (byt s i.toNat)=true)) (oA 1 (.b (F7 (byt s i.toNat))) z0)))<|sn<|dC (¬F7 (byt s i.toNat)=true) (fun h5=>?_) fun h5=>?_
 refine sq<|rG cx [4] [] z0<|sn<|rT<|nR<|qR (.b (false)) (.eq ?g1);rotate_left
 refine sK<|sn<|sq<|sq<|A9 (σ':=⟨[(0,.s (s)),(1,.i .i64 (i)),(26,.b (decide (i=0∨i=(↑s.size:Int)-1)))],[]⟩) ?_ ?_
 refine A4 (i=0) (fun h_7=>?_) (fun h_7=>?_)
 refine rG cx [0,1,26] [] (tT 1 (A3 h_7) (tD 8 true (i=0∨i=(↑s.size:Int)-1) (by simp only [eq_true h_7,tsl]) z0)) ?_
 exact⟨rfl,by kernel_rfl⟩
 refine rG cx [0,1,26] [] (tT 1 (A0 h_7) (tW 6 ((↑s.size:Int)-1) (tB 7 (i=(↑s.size:Int)-1) (tD 8 (decide (i=(↑s.size:Int)-1)) (i=0∨i=(↑s.size:Int)-1) (by simp only [eq_false h_7,tsl]) z0)))) ?_
 exact⟨rfl,by kernel_rfl⟩
 refine sn<|dC (i=0∨i=(↑s.size:Int)-1) (fun h8=>?_) fun h8=>?_
 refine sq<|rG cx [4] [] z0<|sn<|rT<|nR<|qR (.b (false)) (.eq ?g2);rotate_left
 refine sK<|sn<|sq ?_
 have hl_9:=(S7 s (i-1).toNat)
 refine rG cx [4] [] (tW 2 (i-1) (fO (0≤i-1) (fP (Option.map (fun b ↦ (↑b.toNat:Int)) s[(i-1).toNat]?=some (byt s (i-1).toNat)) (by(with_reducible refine A5u ?_;omega)) (fT (B3k (byt s (i-1).toNat)) (tT 5 (E7:(AV.b !F7 (byt s (i-1).toNat))=AV.b (decide ¬F7 (byt s (i-1).toNat)=true)) (oA 3 (.i .u8 (byt s (i-1).toNat)) (oA 4 (.b (F7 (byt s (i-1).toNat))) z0))))))) ?_
 refine sn<|rT<|qR (.b (decide ¬F7 (byt s (i-1).toNat)=true)) (.eq ?g3);rotate_left
 revert h4;rotate_left
 revert h4 h5;rotate_left
 revert h4 h5 h8;rotate_left
 revert h4 h5 h8;rotate_left
 case' g3=>refine(fun h k l=>?_)
 case' g2=>refine(fun h k l=>?_)
 case' g1=>refine(fun h k=>?_)
 case' g0=>refine(fun h=>?_)
 ·rw[(J7 s i.toNat).2 (h.elim .inl fun h=>.inr (.inl h))]
 ·rw[R0];rw[J7];rintro(a | a | a)
  ·exact h (.inl a)
  ·exact h (.inr a)
  ·exact k a.1
 ·rw[R0];rw[J7];rintro(a | a | a)
  ·exact h (.inl a)
  ·exact h (.inr a)
  ·omega
 ·have e:(i-1).toNat=i.toNat-1:=by omega
  rw[e]
  by_cases m:F7 (byt s (i.toNat-1))=true
  ·rw[R0]
   ·rw[m];rfl
   ·rw[J7];rintro(a | a | a)
    ·exact h (.inl a)
    ·exact h (.inr a)
    ·exact a.2.2.2 m
  ·rw[(J7 s i.toNat).2 (.inr (.inr ⟨Classical.not_not.1 k,by omega,by omega,m⟩)),decide_eq_true m]
theorem B3l(s:ByteArray):Con Tryz.prog 171 [.s s] (.tup [.dead,.i .i64 (A38 s)]) :=
 by
 refine sC B3 [.tmp 2,.tmp 3] 48 Tryz.func171 ?_
 intro e0 cx
 refine sq<|rG cx [0] [] z0<|sn<|sq<|sq<|rG cx [0,7] [] (tT 1 (Ad4:AV.b (s.toList == { data:=#[]:ByteArray }.toList)=AV.b (decide (s={ data:=#[]:ByteArray }))) z0)<|sn<|dC (s={ data:=#[]:ByteArray }) (fun hh0=>?_) fun hh0=>?_
 refine sq<|rG cx [2,3] [] z0<|sn<|rT<|nR<|qR (.tup [.i .i64 ((0:Int)),.i .i64 ((20:Int))]) (A5.tup (ZLe.cons A5.dead (ZLe.cons (A5.eq (show AV.i .i64 20=AV.i .i64 (A38 s)from ?g0)) ZLe.nil)));rotate_left
 refine sK<|sn<|sq<|rD cx [0,10] [] (zB 2 ((24:Int) <(↑s.size:Int))) (fun hh1=>?_) fun hh1=>?_
 refine sq<|rG cx [2,3] [] z0<|sn<|rT<|nR<|qR (.tup [.i .i64 ((0:Int)),.i .i64 ((21:Int))]) (A5.tup (ZLe.cons A5.dead (ZLe.cons (A5.eq (show AV.i .i64 21=AV.i .i64 (A38 s)from ?g1)) ZLe.nil)));rotate_left
 refine sK<|sn<|sq<|sq<|rG cx [0,12,13] [] z0<|sn<|bL 0<|sL (X:=Int) (fun x=>⟨[(0,.s (s)),(12,.i .i64 ((↑s.size:Int))),(13,.i .i64 (x))],[]⟩) (fun x ↦ decG s x) (fun x ↦ B3h s x) [0,12,13] [] ((0:Int)) (show B3h s (0:Int)from ?g2) ?_;rotate_left
 intro i2 h_3
 obtain⟨hh4,hh5,h6⟩:0≤i2∧i2≤(↑s.size:Int)∧∀(j:Nat),(↑j:Int) < i2→I1 s j=true:=h_3
 refine rE cx [0,12,13,14] [] (zB 0 (i2 <(↑s.size:Int))) (fun h7=>?_) fun h7=>?_
 refine sK<|sn<|sq<|bL 1<|sq<|rG cx [0,12,13,4] [] z0<|sn<|sq ?_
 have hl_8:=(S7 s)
 have hl_9:=(S7 s i2.toNat)
 refine rG cx [0,12,13,4,5] [] (fA (0≤i2) (fP (Option.map (fun b ↦ (↑b.toNat:Int)) s[i2.toNat]?=some (byt s i2.toNat)) (by(with_reducible refine A5u ?_;omega)) (oA 2 (.i .u8 (byt s i2.toNat)) z0))) ?_
 refine sn<|sq<|sq<|A9 (σ':=⟨[(0,.s (s)),(12,.i .i64 ((↑s.size:Int))),(13,.i .i64 (i2)),(4,.i .i64 (i2)),(5,.i .u8 (byt s i2.toNat)),(24,.b (decide (O0 (byt s i2.toNat)=true∨P6 (byt s i2.toNat)=true)))],[]⟩) ?_ ?_
 refine A4 (O0 (byt s i2.toNat)=true) (fun h_11=>?_) (fun h_11=>?_)
 refine rg (A:=_∧_∧(AV.b true=AV.b (decide (O0 (byt s i2.toNat)=true∨P6 (byt s i2.toNat)=true)))) cx [(1,{ val:=some (.b (O0 (byt s i2.toNat))),tell:=some (.b (true)) }),(5,{ tell:=some (.b (decide (O0 (byt s i2.toNat)=true∨P6 (byt s i2.toNat)=true))) })] [0,12,13,4,5,24] [] ⟨(S6 h_11),(B3i (byt s i2.toNat)),(by simp only [eq_true h_11,tsl])⟩ ?_
 exact⟨rfl,by kernel_rfl⟩
 refine rg (A:=_∧_∧_∧(AV.b (P6 (byt s i2.toNat))=AV.b (decide (O0 (byt s i2.toNat)=true∨P6 (byt s i2.toNat)=true)))) cx [(1,{ val:=some (.b (O0 (byt s i2.toNat))),tell:=some (.b (false)) }),(4,{ val:=some (.b (P6 (byt s i2.toNat))) }),(5,{ tell:=some (.b (decide (O0 (byt s i2.toNat)=true∨P6 (byt s i2.toNat)=true))) })] [0,12,13,4,5,24] [] ⟨(A09 h_11),(B3i (byt s i2.toNat)),(con214 (byt s i2.toNat)),(by simp only [eq_false h_11,tsl])⟩ ?_
 exact⟨rfl,by kernel_rfl⟩
 refine sn<|dC (O0 (byt s i2.toNat)=true∨P6 (byt s i2.toNat)=true) (fun h_12=>?_) fun h_12=>?_
 refine eX 1<|nE<|bH<|sn<|rG cx [0,12,13] [] (tW 0 (i2+1) z0)<|sn<|nX (i2+1) (show((↑s.size:Int)-(i2+1)).toNat <((↑s.size:Int)-i2).toNat from(by omega)) (show B3h s (i2+1)from ?g3);rotate_left
 refine sK<|sn<|sq<|A9 (σ':=⟨[(0,.s (s)),(12,.i .i64 ((↑s.size:Int))),(13,.i .i64 (i2)),(4,.i .i64 (i2)),(45,.b (decide (¬F7 (byt s i2.toNat)=true∨i2=0∨i2=(↑s.size:Int)-1∨F7 (byt s (i2-1).toNat)=true)))],[]⟩) ?_ ?_
 refine A4 (¬F7 (byt s i2.toNat)=true) (fun h_14=>?_) (fun h_14=>?_)
 have hl_15:=(S7 s (i2-1).toNat)
 refine rg (A:=_∧_∧(AV.b true=AV.b (decide (¬F7 (byt s i2.toNat)=true∨i2=0∨i2=(↑s.size:Int)-1∨F7 (byt s (i2-1).toNat)=true)))) cx [(1,{ val:=some (.b (F7 (byt s i2.toNat))),tell:=some (.b (false)) }),(20,{ tell:=some (.b (decide (¬F7 (byt s i2.toNat)=true∨i2=0∨i2=(↑s.size:Int)-1∨F7 (byt s (i2-1).toNat)=true))) })] [0,12,13,4,45] [] ⟨(A09 h_14),(A85 (byt s i2.toNat)),(by simp only [eq_false h_14,tsl])⟩ ?_
 exact⟨rfl,by kernel_rfl⟩
 refine A4 (i2=0) (fun h_16=>?_) (fun h_16=>?_)
 have hl_17:=(S7 s (i2-1).toNat)
 refine rG cx [0,12,13,4,45] [] (fT (A85 (byt s i2.toNat)) (tT 2 (E7:(AV.b !F7 (byt s i2.toNat))=AV.b (decide ¬F7 (byt s i2.toNat)=true)) (tT 3 (A0 h_14) (tT 5 (A3 h_16) (tT 20 (by first | (simp only [eq_false h_14,eq_true h_16,tsl];done) | simp_all:AV.b true=AV.b (decide (¬F7 (byt s i2.toNat)=true∨i2=0∨i2=(↑s.size:Int)-1∨F7 (byt s (i2-1).toNat)=true))) (oA 1 (.b (F7 (byt s i2.toNat))) z0)))))) ?_
 exact⟨rfl,by kernel_rfl⟩
 refine A4 (i2=(↑s.size:Int)-1) (fun h_18=>?_) (fun h_18=>?_)
 have hl_19:=(S7 s (i2-1).toNat)
 refine rG cx [0,12,13,4,45] [] (fT (A85 (byt s i2.toNat)) (tT 2 (E7:(AV.b !F7 (byt s i2.toNat))=AV.b (decide ¬F7 (byt s i2.toNat)=true)) (tT 3 (A0 h_14) (tT 5 (A0 h_16) (tW 11 ((↑s.size:Int)-1) (tT 12 (A3 h_18) (tT 20 (by first | (simp only [eq_false h_14,eq_false h_16,eq_true h_18,tsl];done) | simp_all:AV.b true=AV.b (decide (¬F7 (byt s i2.toNat)=true∨i2=0∨i2=(↑s.size:Int)-1∨F7 (byt s (i2-1).toNat)=true))) (oA 1 (.b (F7 (byt s i2.toNat))) z0)))))))) ?_
 exact⟨rfl,by kernel_rfl⟩
 have hl_20:=(S7 s (i2-1).toNat)
 refine rG cx [0,12,13,4,45] [] (fT (A85 (byt s i2.toNat)) (tT 2 (E7:(AV.b !F7 (byt s i2.toNat))=AV.b (decide ¬F7 (byt s i2.toNat)=true)) (tT 3 (A0 h_14) (tT 5 (A0 h_16) (tW 11 ((↑s.size:Int)-1) (tT 12 (A0 h_18) (tW 17 (i2-1) (fO (0≤i2-1) (fP (Option.map (fun b ↦ (↑b.toNat:Int)) s[(i2-1).toNat]?=some (byt s (i2-1).toNat)) (by(with_reducible refine A5u ?_;omega)) (fT (A85 (byt s (i2-1).toNat)) (tT 20 (by first | (simp only [eq_false h_14,eq_false h_16,eq_false h_18,tsl];done) | simp_all:AV.b (F7 (byt s (i2-1).toNat))=AV.b (decide (¬F7 (byt s i2.toNat)=true∨i2=0∨i2=(↑s.size:Int)-1∨F7 (byt s (i2-1).toNat)=true))) (oA 1 (.b (F7 (byt s i2.toNat))) (oA 18 (.i .u8 (byt s (i2-1).toNat)) (oA 19 (.b (F7 (byt s (i2-1).toNat))) z0)))))))))))))) ?_
 exact⟨rfl,by kernel_rfl⟩
 refine sn<|dC (¬F7 (byt s i2.toNat)=true∨i2=0∨i2=(↑s.size:Int)-1∨F7 (byt s (i2-1).toNat)=true) (fun h_21=>?_) fun h_21=>?_
 refine sq<|rG cx [2,3] [] z0<|sn<|rT<|bR<|nR<|nR<|bR<|nR<|qR (.tup [.i .i64 (i2),.i .i64 ((22:Int))]) (A5.tup (ZLe.cons A5.dead (ZLe.cons (A5.eq (show AV.i .i64 22=AV.i .i64 (A38 s)from ?g4)) ZLe.nil)));rotate_left
 refine sK<|bN<|sn<|rG cx [0,12,13] [] (tW 0 (i2+1) z0)<|sn<|nX (i2+1) (show((↑s.size:Int)-(i2+1)).toNat <((↑s.size:Int)-i2).toNat from(by omega)) (show B3h s (i2+1)from ?g5);rotate_left
 refine eX 0<|nE<|nE<|bH<|sn<|sq<|rG cx [2,3] [] z0<|sn<|rT<|qR (.tup [.i .i64 ((0:Int)),.i .i64 ((0:Int))]) (A5.tup (ZLe.cons A5.dead (ZLe.cons (A5.eq (show AV.i .i64 0=AV.i .i64 (A38 s)from ?g6)) ZLe.nil)));rotate_left
 revert hh0;rotate_left
 revert hh0 hh1;rotate_left
 revert hh0 hh1;rotate_left
 clear hl_9;revert hh0 hh1 i2 hh4 hh5 h6 h7 h_12;rotate_left
 clear hl_9;revert hh0 hh1 i2 hh4 hh5 h6 h7 h_12 h_21;rotate_left
 clear hl_9;revert hh0 hh1 i2 hh4 hh5 h6 h7 h_12 h_21;rotate_left
 revert hh0 hh1 i2 hh4 hh5 h6 h7;rotate_left
 case g2=>exact(fun h k=>⟨by omega,by omega,fun j hj=>by omega⟩)
 case' g6=>refine(fun h k i h0 h1 h2 h3=>?_)
 case' g5=>refine(fun h k i h0 h1 h2 h3 h4 h5=>?_)
 case' g4=>refine(fun h k i h0 h1 h2 h3 h4 h5=>?_)
 case' g3=>refine(fun h k i h0 h1 h2 h3 h4=>?_)
 case' g1=>refine(fun h k=>?_)
 case' g0=>refine(fun h=>?_)
 ·rw[A38,if_pos ((A0q s).2 h)]
 ·rw[A38,if_neg (fun e=>h ((A0q s).1 e)),if_pos (by omega)]
 ·exact A39 h0 h3 h2 ((J7 _ _).2 (h4.elim .inl fun h=>.inr (.inl h)))
 ·rw[Af8 (fun e=>h ((A0q s).1 e)) (by omega) (i:=i.toNat) (by omega) (R0 _)]
  have e:(i-1).toNat=i.toNat-1:=by omega
  rw[e]at h5
  rw[J7];rintro(a | a | a)
  ·exact h4 (.inl a)
  ·exact h4 (.inr a)
  ·rcases h5 with h5 | h5 | h5 | h5
   ·exact h5 a.1
   ·omega
   ·omega
   ·exact a.2.2.2 h5
 ·have e:(i-1).toNat=i.toNat-1:=by omega
  rw[e]at h5
  refine A39 h0 h3 h2 ((J7 _ _).2 (.inr (.inr ⟨Classical.byContradiction fun a=>h5 (.inl a),?_,?_,fun a=>h5 (.inr (.inr (.inr a)))⟩)))
  ·intro a;exact h5 (.inr (.inl (by omega)))
  ·intro a;exact h5 (.inr (.inr (.inl (by omega))))
 ·rw[As0 (fun e=>h ((A0q s).1 e)) (by omega) fun j hj=>h2 j (by omega)]
theorem B3m(s:ByteArray):Con Tryz.prog 175 [.s s] (.tup [.dead,.i .i64 (A38 s)]) :=
 by
 refine sC B3 [.tmp 2,.tmp 3] 22 Tryz.func175 ?_
 intro e0 cx
 refine sq<|rG cx [0] [] z0<|sn<|sq<|rD cx [0,7] [] (zB 2 ((↑s.size:Int)=0)) (fun hh0=>?_) fun hh0=>?_
 refine sq<|rG cx [2,3] [] z0<|sn<|rT<|nR<|qR (.tup [.i .i64 ((0:Int)),.i .i64 ((20:Int))]) (A5.tup (ZLe.cons A5.dead (ZLe.cons (A5.eq (show AV.i .i64 20=AV.i .i64 (A38 s)from ?g0)) ZLe.nil)));rotate_left
 refine sK<|sn<|sq<|rD cx [0,10] [] (zB 2 ((24:Int) <(↑s.size:Int))) (fun hh1=>?_) fun hh1=>?_
 refine sq<|rG cx [2,3] [] z0<|sn<|rT<|nR<|qR (.tup [.i .i64 ((0:Int)),.i .i64 ((21:Int))]) (A5.tup (ZLe.cons A5.dead (ZLe.cons (A5.eq (show AV.i .i64 21=AV.i .i64 (A38 s)from ?g1)) ZLe.nil)));rotate_left
 refine sK<|sn<|sq<|sq<|rG cx [0,4] [] z0<|sn<|bL 0<|sL (X:=Int) (fun x=>⟨[(0,.s (s)),(4,.i .i64 (x))],[]⟩) (fun x ↦ decG s x) (fun x ↦ B3h s x) [0,4] [] ((0:Int)) (show B3h s (0:Int)from ?g2) ?_;rotate_left
 intro i2 h_3
 obtain⟨hh4,h5,h6⟩:0≤i2∧i2≤(↑s.size:Int)∧∀(j:Nat),(↑j:Int) < i2→I1 s j=true:=h_3
 refine sq<|rD cx [0,4,14] [] (zB 3 (i2 <(↑s.size:Int))) (fun h7=>?_) fun h7=>?_
 refine sK<|sn<|sq<|bL 1<|sq<|rG cx [0,4,20] [] (fT (con217 (s) (i2) (by(with_reducible assumption)) (by(with_reducible assumption)) (by omega)) (tT 3 (E7:(AV.b !I1 s i2.toNat)=AV.b (decide ¬I1 s i2.toNat=true)) (oA 2 (.b (I1 s i2.toNat)) z0)))<|sn<|dC (¬I1 s i2.toNat=true) (fun h8=>?_) fun h8=>?_
 refine sq<|rG cx [2,3] [] z0<|sn<|rT<|bR<|nR<|nR<|bR<|nR<|qR (.tup [.i .i64 (i2),.i .i64 ((22:Int))]) (A5.tup (ZLe.cons A5.dead (ZLe.cons (A5.eq (show AV.i .i64 22=AV.i .i64 (A38 s)from ?g3)) ZLe.nil)));rotate_left
 refine sK<|bN<|sn<|rG cx [0,4] [] (tW 1 (i2+1) z0)<|sn<|nX (i2+1) (show((↑s.size:Int)-(i2+1)).toNat <((↑s.size:Int)-i2).toNat from(by omega)) (show B3h s (i2+1)from ?g4);rotate_left
 refine eX 0<|nE<|nE<|bH<|sn<|sq<|rG cx [2,3] [] z0<|sn<|rT<|qR (.tup [.i .i64 ((0:Int)),.i .i64 ((0:Int))]) (A5.tup (ZLe.cons A5.dead (ZLe.cons (A5.eq (show AV.i .i64 0=AV.i .i64 (A38 s)from ?g5)) ZLe.nil)));rotate_left
 revert hh0;rotate_left
 revert hh0 hh1;rotate_left
 revert hh0 hh1;rotate_left
 revert hh0 hh1 i2 hh4 h5 h6 h7 h8;rotate_left
 revert hh0 hh1 i2 hh4 h5 h6 h7 h8;rotate_left
 revert hh0 hh1 i2 hh4 h5 h6 h7;rotate_left
 case g2=>exact(fun h k=>⟨by omega,by omega,fun j hj=>by omega⟩)
 case' g5=>refine(fun h k i h0 h1 h2 h3=>?_)
 case' g4=>refine(fun h k i h0 h1 h2 h3 h4=>?_)
 case' g3=>refine(fun h k i h0 h1 h2 h3 h4=>?_)
 case' g1=>refine(fun h k=>?_)
 case' g0=>refine(fun h=>?_)
 ·rw[A38,if_pos (by omega)]
 ·rw[A38,if_neg (by omega),if_pos (by omega)]
 ·rw[Af8 (by omega) (by omega) (i:=i.toNat) (by omega) (R0 h4)]
 ·exact A39 h0 h3 h2 (Classical.not_not.1 h4)
 ·rw[As0 (by omega) (by omega) fun j hj=>h2 j (by omega)]
theorem A86(s:ByteArray):Con Tryz.prog 102 [.s s] (.b (G2 s)) :=
 by
 refine sC B3 [.tmp 2] 12 Tryz.func102 ?_
 intro e0 cx
 refine sq<|rG cx [0] [] z0<|sn<|sq<|rG cx [4] [] (fT (B3l (s)) (oA 1 (A95 (B3l (s))) z0))<|sn<|sq<|rG cx [2] [] (tB 1 (A38 s=0) z0)<|sn<|rT<|qR (.b (decide (A38 s=0))) (.eq ?g0);rotate_left
 case g0=>exact rfl
theorem Af9(s:ByteArray):Con Tryz.prog 106 [.s s] (.b (G2 s)) :=
 by
 refine sC B3 [.tmp 2] 12 Tryz.func106 ?_
 intro e0 cx
 refine sq<|rG cx [0] [] z0<|sn<|sq<|rG cx [4] [] (fT (B3m (s)) (oA 1 (A95 (B3m (s))) z0))<|sn<|sq<|rG cx [2] [] (tB 1 (A38 s=0) z0)<|sn<|rT<|qR (.b (decide (A38 s=0))) (.eq ?g0);rotate_left
 case g0=>exact rfl
end Go.Proofs.YtphcaholhacnpaaGreat
namespace Go.Proofs.YtphcaholhacnpaaGreat
open Go.E
set_option maxRecDepth 100000
set_option maxHeartbeats 4000000
theorem ordSt:Ord3 A0m:=by
 refine⟨fun x y=>?_,fun x y=>?_,fun x y z h1 h2=>?_,fun x y z h1 h2=>?_⟩
 ·rw[Q9];split <;>(try split) <;> simp
 ·rw[Q9,Q9]
  by_cases a:sLt x y=true
  ·have b:¬ sLt y x=true:=fun b=>V6 _ (Q8 a b)
   rw[if_pos a,if_neg b,if_pos a];rfl
  ·by_cases b:sLt y x=true
   ·rw[if_pos b,if_neg a,if_pos b]
   ·rw[if_neg b,if_neg a,if_neg a,if_neg b];rfl
 ·rw[Q9]at *
  by_cases c:sLt x z=true
  ·rw[if_pos c];omega
  ·rw[if_neg c]
   by_cases d:sLt z x=true
   ·exfalso
    by_cases a:sLt x y=true
    ·have e:sLt z y=true:=Q8 d a
     have f:¬ sLt y z=true:=fun f=>V6 _ (Q8 e f)
     rw[if_neg f,if_pos e]at h2
     omega
    ·by_cases b:sLt y x=true
     ·rw[if_neg a,if_pos b]at h1;omega
     ·have:=A0l a b
      subst this
      rw[if_neg c,if_pos d]at h2
      omega
   ·rw[if_neg d];omega
 ·rw[Q9]at *
  have eq:∀ u v:ByteArray,(if sLt u v=true then(-1:Int)else if sLt v u=true then 1 else 0)=0→u=v:=by
   intro u v h
   by_cases a:sLt u v=true
   ·rw[if_pos a]at h;omega
   ·by_cases b:sLt v u=true
    ·rw[if_neg a,if_pos b]at h;omega
    ·exact A0l a b
  have e1:=eq _ _ h1
  have e2:=eq _ _ h2
  subst e1 e2
  rw[if_neg (V6 x),if_neg (V6 x)]
def L4(r s:Record):Int:=if A0m r.sku s.sku≠0 then A0m r.sku s.sku else Az3 r.past s.past
theorem ordRec:Ord3 L4:=A0k ordSt ordP (fun r:Record=>r.sku) (fun r=>r.past)
def E3:ByteArray:=⟨#[]⟩
noncomputable def ckR(r:Record):Int:=if ¬ r.sku=E3∧G2 r.sku=false then 5 else if ¬ r.past=A6 r.past∨C6 r.past=0 then 1 else 0
noncomputable def B1h(rs:List Record)(i:Nat):Bool:=decide (ckR rs[i]! = 0) && (decide (i=0) || decide (L4 rs[i-1]! rs[i]! < 0))
noncomputable def okLR(rs:List Record):Bool:=Aa1 (B1h rs) rs.length
noncomputable def A48(rs:List Record):Int:=if okLR rs=true then 0 else 1
def upR(rs:List Record):Prop:=rs.Pairwise fun r s=>L4 r s < 0
def formR(rs:List Record):Prop:=(∀ r∈rs,ckR r=0)∧upR rs
theorem ck_ok{r:Record}:ckR r=0↔(r.sku=E3∨G2 r.sku=true)∧r.past=A6 r.past∧¬ C6 r.past=0:=by
 unfold ckR
 by_cases a:¬ r.sku=E3∧G2 r.sku=false
 ·rw[if_pos a]
  constructor
  ·intro h;omega
  ·rintro⟨k | k,_⟩
   ·exact absurd k a.1
   ·rw[a.2]at k;cases k
 ·rw[if_neg a]
  by_cases b:¬ r.past=A6 r.past∨C6 r.past=0
  ·rw[if_pos b]
   constructor
   ·intro h;omega
   ·rintro⟨_,h1,h2⟩
    rcases b with b | b
    ·exact absurd h1 b
    ·exact absurd b h2
  ·rw[if_neg b]
   refine⟨fun _=>⟨?_,Classical.byContradiction fun k=>b (.inl k),fun k=>b (.inr k)⟩,fun _=>rfl⟩
   by_cases c:r.sku=E3
   ·exact .inl c
   ·right
    cases e:G2 r.sku with
    | true=>rfl
    | false=>exact absurd ⟨c,e⟩ a
theorem A0r(rs:List Record)(i:Nat):B1h rs i=true↔ckR rs[i]! = 0∧(i=0∨L4 rs[i-1]! rs[i]! < 0):=by
 unfold B1h
 rw[Bool.and_eq_true,Bool.or_eq_true,decide_eq_true_iff,decide_eq_true_iff,decide_eq_true_iff]
theorem As1{rs:List Record}(h:∀ i:Nat,0 < i→i < rs.length→L4 rs[i-1]! rs[i]! < 0):upR rs:=by
 have key:∀ d i:Nat,i+d+1 < rs.length→L4 rs[i]! rs[i+d+1]! < 0:=by
  intro d
  induction d with
  | zero=>intro i hi;exact h (i+1) (by omega) hi
  | succ d ih =>
   intro i hi
   have h1:=ih i (by omega)
   have h2:=h (i+d+2) (by omega) (by omega)
   rw[show i+d+2-1=i+d+1 by omega]at h2
   rw[show i+(d+1)+1=i+d+2 by omega]
   exact ordRec.lt h1 (by omega)
 unfold upR
 rw[List.pairwise_iff_getElem]
 intro i j hi hj hij
 have:=key (j-i-1) i (by omega)
 rw[show i+(j-i-1)+1=j by omega,getElem!_pos rs i hi,getElem!_pos rs j hj]at this
 exact this
theorem B1i(rs:List Record):okLR rs=true↔formR rs:=by
 unfold okLR
 rw[I8]
 constructor
 ·intro h
  refine⟨fun r hr=>?_,As1 fun i h0 hi=>?_⟩
  ·obtain⟨i,hi,rfl⟩:=List.mem_iff_getElem.1 hr
   have:=((A0r _ _).1 (h i hi)).1
   rwa [getElem!_pos rs i hi]at this
  ·rcases((A0r _ _).1 (h i hi)).2 with k | k
   ·omega
   ·exact k
 ·intro h i hi
  rw[A0r]
  refine⟨h.1 _ (G6 hi),?_⟩
  by_cases e:i=0
  ·exact .inl e
  ·right
   have:=List.pairwise_iff_getElem.1 h.2 (i-1) i (by omega) hi (by omega)
   rw[← getElem!_pos rs (i-1) (by omega),← getElem!_pos rs i hi]at this
   exact this
theorem B1j(rs:List Record):A48 rs=0↔formR rs:=by
 rw[← B1i]
 unfold A48
 split
 ·rename_i h;simp [h]
 ·rename_i h;simp [h]
theorem B1k{rs:List Record}{i:Nat}(hi:i < rs.length)(h:¬ B1h rs i=true):A48 rs=1:=by
 unfold A48 okLR
 rw[if_neg]
 intro k
 exact h ((I8 _ _).1 k i hi)
theorem B5j{rs:List Record}(h:∀ j:Nat,j < rs.length→B1h rs j=true):A48 rs=0:=by
 unfold A48 okLR
 rw[if_pos ((I8 _ _).2 h)]
end Go.Proofs.YtphcaholhacnpaaGreat
namespace Go.Proofs.YtphcaholhacnpaaGreat
open Go.E
set_option maxRecDepth 100000
set_option maxHeartbeats 4000000
def invZ(a:List Run)(s i:Int):Prop:=0≤i∧i≤(nrm a).length∧s=G7 ((nrm a).take i.toNat)
def decZ(a:List Run)(s i:Int):Nat:=((nrm a).length-i).toNat
def B1l(a:List Run)(m i:Int):Prop:=0≤i∧i≤a.length∧m=Y5 (a.take i.toNat)
def decLa(a:List Run)(m i:Int):Nat:=(a.length-i).toNat
def B5k(p:Past)(s i:Int)(T:Nat→List Run):Prop:=T=A7 [p]∧0≤i∧i≤16∧s=sizeT (A7 [p]) i.toNat
def decSz(p:Past)(s i:Int)(T:Nat→List Run):Nat:=(16-i).toNat
theorem A87{l:List Run}(h:L3 l)(n:Nat):L3 (l.take n):=⟨h.1.sublist (List.take_sublist _ _),fun r hr=>h.2 r (List.mem_of_mem_take hr)⟩
theorem A4z{l:List Run}{i:Int}(h0:0≤i)(h:i < l.length):G7 (l.take (i+1).toNat)=G7 (l.take i.toNat)+(l[i.toNat]!.hi-l[i.toNat]!.lo+1):=by
 rw[← D6 h0 h,Ar7]
 simp [G7]
theorem As2{p:Past}(hb:p.cloud.length*16≤140737488350000):A4s [p]*16≤140737488351232:=by rw[A9y];omega
theorem B5l{p:Past}(hb:p.cloud.length*16≤140737488350000)(r:Nat):(A7 [p] r).length*16≤140737488351232:=by
 have:=Q5 r [p]
 have:=As2 hb
 omega
theorem con165(a:List Run)(hb:a.length*16≤140737488351232):Con Tryz.prog 165 [.sl (a.map c206)] (.i .i64 (G7 (nrm a))) :=
 by
 have hs:=E4 a
 have hr:∀ i:Int,0≤i→i <(nrm a).length→1≤(nrm a)[i.toNat]!.lo∧(nrm a)[i.toNat]!.lo≤(nrm a)[i.toNat]!.hi∧(nrm a)[i.toNat]!.hi≤1000000000:=fun i h0 h1=>hs.2 _ (G6 (by omega))
 have hz:∀ i:Int,0≤G7 ((nrm a).take i.toNat)∧G7 ((nrm a).take i.toNat)≤1000000000:=fun i=>A0n (A87 hs _)
 refine lN 0 c206 (a) Tryz.func165 fun hl_0=>sC B3 [.tmp 2] 23 Tryz.func165 ?_
 intro e0 cx
 refine sq<|rG cx [0] [] z0<|sn<|sq<|rG cx [0,3] [] z0<|sn<|sq<|sq ?_
 have hl_0:=(A19 a)
 refine rG cx [3,7,8,9] [] (fT (B38 (a) (by(with_reducible assumption))) (tL 2 c206 (nrm a) (oA 1 (.sl (List.map c206 (nrm a))) z0)))<|sn<|bL 0<|sL (X:=Int×Int) (fun x=>⟨[(3,.i .i64 (x.1)),(7,.sl (List.map c206 (nrm a))),(8,.i .i64 ((↑(nrm a).length:Int))),(9,.i .i64 (x.2))],[]⟩) (fun x ↦ decZ a x.1 x.2) (fun x ↦ invZ a x.1 x.2) [3,7,8,9] [] (((0:Int),(0:Int))) (show invZ a (0:Int) (0:Int)from ?g0) ?_;rotate_left
 rintro⟨s1,i2⟩ h_3
 obtain⟨h4,h5,h6⟩:0≤i2∧i2≤(↑(nrm a).length:Int)∧s1=G7 (List.take i2.toNat (nrm a)):=h_3
 refine rE cx [3,7,8,9,10] [] (zB 0 (i2 <(↑(nrm a).length:Int))) (fun h7=>?_) fun h7=>?_
 refine sK<|sn<|sq<|bL 1<|sq<|rG cx [3,7,8,9,5] [5] (fA (0≤i2) (fG c206 (nrm a) i2.toNat (fR 2 (fN 2 2 (oR 0 (c206 (nrm a)[i2.toNat]!) z0)))))<|sn<|rG cx [3,7,8,9] [] (tT 5 (B6 ?g1 ?g2:AV.i .i64 (IntKind.i64.wrap ((nrm a)[i2.toNat]!.hi-(nrm a)[i2.toNat]!.lo))=AV.i .i64 ((nrm a)[i2.toNat]!.hi-(nrm a)[i2.toNat]!.lo)) (tT 6 (B6 ?g3 ?g4:AV.i .i64 (IntKind.i64.wrap ((nrm a)[i2.toNat]!.hi-(nrm a)[i2.toNat]!.lo+1))=AV.i .i64 ((nrm a)[i2.toNat]!.hi-(nrm a)[i2.toNat]!.lo+1)) (tT 7 (B6 ?g5 ?g6:AV.i .i64 (IntKind.i64.wrap (s1+((nrm a)[i2.toNat]!.hi-(nrm a)[i2.toNat]!.lo+1)))=AV.i .i64 (s1+((nrm a)[i2.toNat]!.hi-(nrm a)[i2.toNat]!.lo+1))) z0))) ?_;rotate_left 6
 refine bN<|sn<|rG cx [3,7,8,9] [] (tW 0 (i2+1) z0)<|sn<|nX ((s1+((nrm a)[i2.toNat]!.hi-(nrm a)[i2.toNat]!.lo+1),i2+1)) (show((↑(nrm a).length:Int)-(i2+1)).toNat <((↑(nrm a).length:Int)-i2).toNat from(by omega)) (show invZ a (s1+((nrm a)[i2.toNat]!.hi-(nrm a)[i2.toNat]!.lo+1)) (i2+1)from ?g7);rotate_left
 refine eX 0<|nE<|nE<|bH<|sn<|sq<|rG cx [2] [] z0<|sn<|rT<|qR (.i .i64 (s1)) (.eq ?g8);rotate_left
 rotate_left
 revert s1 i2 h4 h5 h6 h7;rotate_left
 revert s1 i2 h4 h5 h6 h7;rotate_left
 revert s1 i2 h4 h5 h6 h7;rotate_left
 revert s1 i2 h4 h5 h6 h7;rotate_left
 revert s1 i2 h4 h5 h6 h7;rotate_left
 revert s1 i2 h4 h5 h6 h7;rotate_left
 revert s1 i2 h4 h5 h6 h7;rotate_left
 revert s1 i2 h4 h5 h6 h7;rotate_left
 case g0=>exact⟨by omega,by omega,by simp [G7]⟩
 case g7=>intro s i h0 h1 h2 h3;exact⟨by omega,by omega,by rw[h2,A4z h0 h3]⟩
 case g8=>intro s i h0 h1 h2 h3;rw[h2,List.take_of_length_le (by omega)]
 all_goals (intro s i h0 h1 h2 h3;have:=hr i h0 h3;have:=hz i;omega)
theorem B3n(a:List Run):Con Tryz.prog 161 [.sl (a.map c206)] (.i .i64 (Y5 a)) :=
 by
 refine lN 0 c206 (a) Tryz.func161 fun hl_0=>sC B3 [.tmp 2] 26 Tryz.func161 ?_
 intro e0 cx
 refine sq<|rG cx [0] [] z0<|sn<|sq<|rG cx [0,3] [] z0<|sn<|sq<|sq<|rG cx [3,8,9,10] [] (tL 1 c206 a z0)<|sn<|bL 0<|sL (X:=Int×Int) (fun x=>⟨[(3,.i .i64 (x.1)),(8,.sl (List.map c206 a)),(9,.i .i64 ((↑a.length:Int))),(10,.i .i64 (x.2))],[]⟩) (fun x ↦ decLa a x.1 x.2) (fun x ↦ B1l a x.1 x.2) [3,8,9,10] [] (((0:Int),(0:Int))) (show B1l a (0:Int) (0:Int)from(by exact⟨by omega,by omega,by simp [Y5]⟩)) ?_
 rintro⟨m0,i1⟩ h_2
 obtain⟨hh3,hh4,h5⟩:0≤i1∧i1≤(↑a.length:Int)∧m0=Y5 (List.take i1.toNat a):=h_2
 refine rE cx [3,8,9,10,11] [] (zB 0 (i1 <(↑a.length:Int))) (fun h6=>?_) fun h6=>?_
 refine sK<|sn<|sq<|bL 1<|sq<|rG cx [3,8,9,10,5] [5] (fA (0≤i1) (fG c206 a i1.toNat (fR 2 (fN 2 2 (oR 0 (c206 a[i1.toNat]!) z0)))))<|sn<|sq<|rG cx [3,8,9,10,6,7] [6] (fT (B36 (a[i1.toNat]!)) (oA 1 (.tup [.agg [.i .i64 ((D2 a[i1.toNat]!).lo),.i .i64 ((D2 a[i1.toNat]!).hi)],.b (decide ((D2 a[i1.toNat]!).lo≤(D2 a[i1.toNat]!).hi))]) z0))<|sn<|sq<|rG cx [3,8,9,10,6,19] [6] z0<|sn<|dC ((D2 a[i1.toNat]!).lo≤(D2 a[i1.toNat]!).hi) (fun h7=>?_) fun h7=>?_
 refine rG cx [3,8,9,10] [] (tT 3 (A20:AV.i .i64 (if(D2 a[i1.toNat]!).hi > m0 then(D2 a[i1.toNat]!).hi else m0)=AV.i .i64 (max m0 (D2 a[i1.toNat]!).hi)) z0)<|bN<|sn<|rG cx [3,8,9,10] [] (tW 0 (i1+1) z0)<|sn<|nX ((max m0 (D2 a[i1.toNat]!).hi,i1+1)) (show((↑a.length:Int)-(i1+1)).toNat <((↑a.length:Int)-i1).toNat from(by omega)) (show B1l a (max m0 (D2 a[i1.toNat]!).hi) (i1+1)from(by exact⟨by omega,by omega,by rw[← D6 hh3 h6,A33,if_pos h7,h5]⟩))
 refine sK<|bN<|sn<|rG cx [3,8,9,10] [] (tW 0 (i1+1) z0)<|sn<|nX ((m0,i1+1)) (show((↑a.length:Int)-(i1+1)).toNat <((↑a.length:Int)-i1).toNat from(by omega)) (show B1l a m0 (i1+1)from(by exact⟨by omega,by omega,by rw[← D6 hh3 h6,A33,if_neg h7,h5]⟩))
 refine eX 0<|nE<|nE<|bH<|sn<|sq<|rG cx [2] [] z0<|sn<|rT<|qR (.i .i64 (m0)) (.eq (by rw[h5,List.take_of_length_le (by omega)]))
theorem con94(p:Past)(hb:p.cloud.length*16≤140737488350000):Con Tryz.prog 94 [.agg (c26 p)] (.i .i64 (C6 p)) :=
 by
 have hz:=A0o (A7 [p])
 have hr:∀ r,0≤G7 (nrm (A7 [p] r))∧G7 (nrm (A7 [p] r))≤1000000000:=fun r=>A0n (E4 _)
 refine sC B3 [.tmp 2] 21 Tryz.func94 ?_
 intro e0 cx
 refine sq<|rG cx [1] [1] z0<|sn<|sq<|rG cx [1,3] [1] z0<|sn<|sq<|sq<|rG cx [3,8,10] [8] (fT (B55 ([p]) ?g0) (oV 2 { val:=some (.ptr ((204:Nat)) (0) (0) (0)),row:=(E9 c206 16 (A7 [p])) } z0)) ?_;rotate_left
 refine sn<|bL 0<|sL (X:=Int×Int×(Nat→List Run)) (fun x=>⟨[(3,.i .i64 (x.1)),(8,.ptr (8) (0) (0) (0)),(10,.i .i64 (x.2.1))],[(8,⟨0,204,.arr (E9 c206 16 x.2.2)⟩)]⟩) (fun x ↦ decSz p x.1 x.2.1 x.2.2) (fun x ↦ B5k p x.1 x.2.1 x.2.2) [3,8,10] [8] (((0:Int),(0:Int),A7 [p])) (show B5k p (0:Int) (0:Int) (A7 [p])from ?g1) ?_;rotate_left
 rintro⟨s0,i1,T2⟩ h_3
 obtain⟨hh4,h5,h6,h7⟩:T2=A7 [p]∧0≤i1∧i1≤16∧s0=sizeT (A7 [p]) i1.toNat:=h_3
 refine rE cx [3,8,10,11] [8] (zB 0 (i1 <(16:Int))) (fun h8=>?_) fun h8=>?_
 refine sK<|sn<|sq<|bL 1<|sq<|rG cx [3,8,10,5] [8] (fA (0≤i1) (fO (i1 <(↑(16:Nat):Int)) (fP ((E9 c206 16 T2)[i1.toNat*(1:Nat)+0]?=some (AV.sl (List.map c206 (T2 i1.toNat)))) (by((try simp only [Nat.mul_one,Nat.add_zero,Nat.zero_add]);with_reducible refine E8 ?_;omega)) (oR 2 [.sl (List.map c206 (T2 i1.toNat))] z0)))) ?_
 refine sn ?_
 have hl_9:=(A19 (T2 i1.toNat))
 refine rG cx [3,8,10] [8] (fT (con165 (T2 i1.toNat) ?g2) (tT 3 (B6 ?g3 ?g4:AV.i .i64 (IntKind.i64.wrap (s0+G7 (nrm (T2 i1.toNat))))=AV.i .i64 (s0+G7 (nrm (T2 i1.toNat)))) (oA 2 (.i .i64 (G7 (nrm (T2 i1.toNat)))) z0))) ?_;rotate_left 3
 refine bN<|sn<|rG cx [3,8,10] [8] (tW 0 (i1+1) z0)<|sn<|nX ((s0+G7 (nrm (T2 i1.toNat)),i1+1,T2)) (show(16-(i1+1)).toNat <(16-i1).toNat from(by omega)) (show B5k p (s0+G7 (nrm (T2 i1.toNat))) (i1+1) T2 from ?g5);rotate_left
 refine eX 0<|nE<|nE<|bH<|sn<|sq<|rG cx [2] [] z0<|sn<|rT<|qR (.i .i64 (s0)) (.eq ?g6);rotate_left
 rotate_left
 rotate_left
 clear hl_9;revert s0 i1 T2 hh4 h5 h6 h7 h8;rotate_left
 clear hl_9;revert s0 i1 T2 hh4 h5 h6 h7 h8;rotate_left
 clear hl_9;revert s0 i1 T2 hh4 h5 h6 h7 h8;rotate_left
 clear hl_9;revert s0 i1 T2 hh4 h5 h6 h7 h8;rotate_left
 revert s0 i1 T2 hh4 h5 h6 h7 h8;rotate_left
 case g0=>exact As2 hb
 case g1=>exact⟨rfl,by omega,by omega,rfl⟩
 case g2=>intro s i T h0 h1 h2 h3 h4;subst h0;exact B5l hb _
 case g3=>intro s i T h0 h1 h2 h3 h4;subst h0;have:=hz i.toNat;have:=hr i.toNat;omega
 case g4=>intro s i T h0 h1 h2 h3 h4;subst h0;have:=hz i.toNat;have:=hr i.toNat;omega
 case g5=>intro s i T h0 h1 h2 h3 h4;subst h0;exact⟨rfl,by omega,by omega,by rw[show(i+1).toNat=i.toNat+1 by omega,sizeT,h3]⟩
 case g6=>intro s i T h0 h1 h2 h3 h4;rw[h3,show i.toNat=16 by omega,A6c]
theorem B5m(p:Past)(hb:p.cloud.length*16≤140737488350000):Con Tryz.prog 22 [.agg (c26 p)] (.b (decide (C6 p=0))) :=
 by
 refine sC B3 [.tmp 2] 6 Tryz.func22 ?_
 intro e0 cx
 refine sq<|rG cx [1] [1] z0<|sn<|sq<|rG cx [2] [] (fT (con94 (p) (by(with_reducible assumption))) (tB 2 (C6 p=0) (oA 1 (.i .i64 (C6 p)) z0)))<|sn<|rT ?_
 exact X8 (r:=.b (decide (C6 p=0))) (obl:=[]) (by kernel_rfl) trivial (A5.refl _)
theorem con88(p:Past)(rep:Int)(hb:p.cloud.length*16≤140737488350000):Con Tryz.prog 88 [.agg (c26 p),.i .i64 rep] (.i .i64 (E6 p rep)) :=
 by
 refine sC B3 [.tmp 4] 19 Tryz.func88 ?_
 intro e0 cx
 refine sq<|rG cx [1,2] [2] z0<|sn<|sq<|sq<|A9 (σ':=⟨[(1,.i .i64 (rep)),(2,.ptr (2) (0) (0) (0)),(10,.b (decide (rep <(0:Int)∨16≤rep)))],[(2,⟨0,26,.var [.sl (List.map c3 p.vec),.sl (List.map B1 p.cloud)]⟩)]⟩) ?_ ?_
 refine A4 (rep <(0:Int)) (fun h_1=>?_) (fun h_1=>?_)
 refine rG cx [1,2,10] [2] (tT 1 (A3 h_1) (tD 5 true (rep <(0:Int)∨16≤rep) (by simp only [eq_true h_1,tsl]) z0)) ?_
 exact⟨rfl,by kernel_rfl⟩
 refine rG cx [1,2,10] [2] (tT 1 (A0 h_1) (tB 4 (16≤rep) (tD 5 (decide (16≤rep)) (rep <(0:Int)∨16≤rep) (by simp only [eq_false h_1,tsl]) z0))) ?_
 exact⟨rfl,by kernel_rfl⟩
 refine sn<|dC (rep <(0:Int)∨16≤rep) (fun h2=>?_) fun h2=>?_
 refine sq<|rG cx [4] [] z0<|sn<|rT<|nR<|qR (.i .i64 ((0:Int))) (.eq (by unfold E6;rw[if_pos h2]))
 refine sK<|sn<|sq<|rG cx [4] [] (fT (B55 ([p]) (by exact As2 hb)) (fO (0≤rep) (fO (rep <(↑(16:Nat):Int)) (fP ((E9 c206 16 (A7 [p]))[rep.toNat*(1:Nat)+0]?=some (AV.sl (List.map c206 (A7 [p] rep.toNat)))) (by((try simp only [Nat.mul_one,Nat.add_zero,Nat.zero_add]);with_reducible refine E8 ?_;omega)) (fT (B3n (A7 [p] rep.toNat)) (oV 2 { val:=some (.ptr ((204:Nat)) (0) (0) (0)),row:=(E9 c206 16 (A7 [p])) } (oR 6 [.sl (List.map c206 (A7 [p] rep.toNat))] (oA 7 (A95 (B3n (A7 [p] rep.toNat))) z0)))))))) ?_
 refine sn<|rT<|qR (.i .i64 (Y5 (A7 [p] rep.toNat))) (.eq (by unfold E6;rw[if_neg h2]))
theorem con273(p:Past)(rep lim:Int)(hb:p.cloud.length*16≤140737488350000):Con Tryz.prog 273 [.agg (c26 p),.i .i64 rep,.i .i64 lim] (.tup [.agg (c44 (H1 p rep lim).1),.i .i64 (H1 p rep lim).2]) :=
 by
 have hl:=A0p p rep
 refine sC B3 [.cell 6 44,.tmp 7] 28 Tryz.func273 ?_
 intro e0 cx
 refine sq<|rG cx [1,2,3,6] [3,6] z0<|sn<|sq<|sq<|A9 (σ':=⟨[(1,.i .i64 (rep)),(2,.i .i64 (lim)),(3,.ptr (3) (0) (0) (0)),(6,.ptr (6) (0) (0) (0)),(14,.b (decide (rep <(0:Int)∨16≤rep)))],[(3,⟨0,26,.var [.sl (List.map c3 p.vec),.sl (List.map B1 p.cloud)]⟩),(6,⟨0,44,.var [.i .i64 ((0:Int)),.i .i64 ((0:Int))]⟩)]⟩) ?_ ?_
 refine A4 (rep <(0:Int)) (fun h_1=>?_) (fun h_1=>?_)
 refine rG cx [1,2,3,6,14] [3,6] (tT 1 (A3 h_1) (tD 5 true (rep <(0:Int)∨16≤rep) (by simp only [eq_true h_1,tsl]) z0)) ?_
 exact⟨rfl,by kernel_rfl⟩
 refine rG cx [1,2,3,6,14] [3,6] (tT 1 (A0 h_1) (tB 4 (16≤rep) (tD 5 (decide (16≤rep)) (rep <(0:Int)∨16≤rep) (by simp only [eq_false h_1,tsl]) z0))) ?_
 exact⟨rfl,by kernel_rfl⟩
 refine sn<|dC (rep <(0:Int)∨16≤rep) (fun h2=>?_) fun h2=>?_
 refine sq<|rG cx [6,7] [6] z0<|sn<|rT<|nR<|qR (.tup [.agg [.i .i64 ((0:Int)),.i .i64 ((0:Int))],.i .i64 ((3:Int))]) (A5.tup (ZLe.cons (A5.eq (show AV.agg [AV.i .i64 (0:Int),AV.i .i64 (0:Int)]=AV.agg [AV.i .i64 (H1 p rep lim).1.rep,AV.i .i64 (H1 p rep lim).1.num]from(by unfold H1;rw[if_pos h2];rfl))) (ZLe.cons (A5.eq (show AV.i .i64 3=AV.i .i64 (H1 p rep lim).2 from(by unfold H1;rw[if_pos h2]))) ZLe.nil)))
 refine sK<|sn<|sq<|rG cx [1,2,6,8] [6] (fT (con88 (p) (rep) (by(with_reducible assumption))) (oA 2 (.i .i64 (E6 p rep)) z0))<|sn<|sq<|rD cx [1,6,8,22] [6] (tT 2 (A21:AV.i .i64 (if(1000000000:Int) < lim then(1000000000:Int)else lim)=AV.i .i64 (min lim (1000000000:Int))) (zB 3 (min lim 1000000000≤E6 p rep))) (fun h3=>?_) fun h3=>?_
 refine sq<|rG cx [6,7] [6] z0<|sn<|rT<|nR<|qR (.tup [.agg [.i .i64 ((0:Int)),.i .i64 ((0:Int))],.i .i64 ((9:Int))]) (A5.tup (ZLe.cons (A5.eq (show AV.agg [AV.i .i64 (0:Int),AV.i .i64 (0:Int)]=AV.agg [AV.i .i64 (H1 p rep lim).1.rep,AV.i .i64 (H1 p rep lim).1.num]from(by unfold H1;rw[if_neg h2,if_pos h3];rfl))) (ZLe.cons (A5.eq (show AV.i .i64 9=AV.i .i64 (H1 p rep lim).2 from(by unfold H1;rw[if_neg h2,if_pos h3]))) ZLe.nil)))
 refine sK<|sn<|sq<|rG cx [6,7] [6] (tT 2 (B6 (by omega) (by omega):AV.i .i64 (IntKind.i64.wrap (E6 p rep+1))=AV.i .i64 (E6 p rep+1)) z0) ?_
 refine sn<|rT<|qR (.tup [.agg [.i .i64 (rep),.i .i64 (E6 p rep+1)],.i .i64 ((0:Int))]) (A5.tup (ZLe.cons (A5.eq (show AV.agg [AV.i .i64 rep,AV.i .i64 (E6 p rep+1)]=AV.agg [AV.i .i64 (H1 p rep lim).1.rep,AV.i .i64 (H1 p rep lim).1.num]from(by unfold H1;rw[if_neg h2,if_neg h3]))) (ZLe.cons (A5.eq (show AV.i .i64 0=AV.i .i64 (H1 p rep lim).2 from(by unfold H1;rw[if_neg h2,if_neg h3]))) ZLe.nil)))
end Go.Proofs.YtphcaholhacnpaaGreat
namespace Go.Proofs.YtphcaholhacnpaaGreat
open Go.E
set_option maxRecDepth 100000
set_option maxHeartbeats 4000000
def szR(r:Record):Prop:=r.past.cloud.length*16≤140737488350000
def szRs(rs:List Record):Prop:=∀ r∈rs,szR r
theorem A6d{rs:List Record}(h:szRs rs){i:Int}(h0:0≤i)(hi:i < rs.length):szR rs[i.toNat]!:=h _ (G6 (by omega))
theorem B1m{rs:List Record}(h:szRs rs){i:Int}(h0:0 < i)(hi:i < rs.length):szR rs[(i-1).toNat]!:=h _ (G6 (by omega))
def B1n(rs:List Record)(i:Int):Prop:=0≤i∧i≤rs.length∧∀ j:Nat,(j:Int) < i→B1h rs j=true
def decKc(rs:List Record)(i:Int):Nat:=(rs.length-i).toNat
theorem Ak0{rs:List Record}{i:Int}(h0:0≤i)(h1:i < rs.length)(h2:∀ j:Nat,(j:Int) < i→B1h rs j=true)(h:B1h rs i.toNat=true):B1n rs (i+1) :=
 ⟨by omega,by omega,fun j hj=>by
  by_cases e:j=i.toNat
  ·rw[e];exact h
  ·exact h2 j (by omega)⟩
theorem As3(r:Record)(hb:szR r):Con Tryz.prog 204 [.agg (c54 r)] (.i .i64 (ckR r)) :=
 by
 have g:∀ {b:Bool},¬ b=true→b=false:=fun {b} h=>by cases b <;> simp_all
 refine sC B3 [.tmp 2] 21 Tryz.func204 ?_
 intro e0 cx
 refine sq<|rG cx [1] [1] z0<|sn<|sq<|sq<|A9 (σ':=⟨[(1,.ptr (1) (0) (0) (0)),(11,.b (decide (¬r.sku={ data:=#[]:ByteArray }∧¬G2 r.sku=true)))],[(1,⟨0,54,.var [.s (r.sku),.sl (List.map c3 r.past.vec),.sl (List.map B1 r.past.cloud)]⟩)]⟩) ?_ ?_
 refine A4 (¬r.sku={ data:=#[]:ByteArray }) (fun h_1=>?_) (fun h_1=>?_)
 refine rG cx [1,11] [1] (tT 2 (A7t h_1:(AV.b !r.sku.toList == { data:=#[]:ByteArray }.toList)=AV.b true) (fT (A86 (r.sku)) (tT 7 (E7:(AV.b !G2 r.sku)=AV.b (decide ¬G2 r.sku=true)) (tD 8 (decide ¬G2 r.sku=true) (¬r.sku={ data:=#[]:ByteArray }∧¬G2 r.sku=true) (by simp only [eq_false h_1,tsl]) (oA 6 (.b (G2 r.sku)) z0))))) ?_
 exact⟨rfl,by kernel_rfl⟩
 refine rG cx [1,11] [1] (tT 2 (Ad5:(AV.b !r.sku.toList == { data:=#[]:ByteArray }.toList)=AV.b (decide ¬r.sku={ data:=#[]:ByteArray })) (tT 3 (A0 h_1) (tT 8 (by first | (simp only [eq_false h_1,tsl];done) | simp_all:AV.b false=AV.b (decide (¬r.sku={ data:=#[]:ByteArray }∧¬G2 r.sku=true))) z0))) ?_
 exact⟨rfl,by kernel_rfl⟩
 refine sn<|dC (¬r.sku={ data:=#[]:ByteArray }∧¬G2 r.sku=true) (fun h2=>?_) fun h2=>?_
 refine sq<|rG cx [2] [] z0<|sn<|rT<|nR<|qR (.i .i64 ((5:Int))) (.eq (by unfold ckR;rw[if_pos ⟨h2.1,g h2.2⟩]))
 refine sK<|sn<|sq<|sq<|A9 (σ':=⟨[(20,.b (decide (¬r.past=A6 r.past∨C6 r.past=0)))],[]⟩) ?_ ?_
 refine A4 (¬r.past=A6 r.past) (fun h4=>?_) (fun h4=>?_)
 refine rg (A:=_∧_∧(AV.b true=AV.b (decide (¬r.past=A6 r.past∨C6 r.past=0)))) cx [(2,{ val:=some (.b (decide (r.past=A6 r.past))),tell:=some (.b (false)) }),(8,{ tell:=some (.b (decide (¬r.past=A6 r.past∨C6 r.past=0))) })] [20] [] ⟨(A0 h4),(A0f (r.past) (by exact hb)),(by simp only [eq_false h4,tsl])⟩ ?_
 exact⟨rfl,by kernel_rfl⟩
 refine rG cx [20] [] (fT (A0f (r.past) (by exact hb)) (tQ 3 (r.past=A6 r.past) (tT 4 (A0 h4) (fT (B5m (r.past) (by exact hb)) (tT 8 (by first | (simp only [eq_false h4,tsl];done) | simp_all:AV.b (decide (C6 r.past=0))=AV.b (decide (¬r.past=A6 r.past∨C6 r.past=0))) (oA 2 (.b (decide (r.past=A6 r.past))) (oA 7 (.b (decide (C6 r.past=0))) z0))))))) ?_
 exact⟨rfl,by kernel_rfl⟩
 refine sn<|dC (¬r.past=A6 r.past∨C6 r.past=0) (fun h5=>?_) fun h5=>?_
 refine sq<|rG cx [2] [] z0<|sn<|rT<|nR<|qR (.i .i64 ((1:Int))) (.eq (by unfold ckR;rw[if_neg (fun c=>h2 ⟨c.1,by rw[c.2];simp⟩),if_pos h5]))
 refine sK<|sn<|sq<|rG cx [2] [] z0<|sn<|rT<|qR (.i .i64 ((0:Int))) (.eq (by unfold ckR;rw[if_neg (fun c=>h2 ⟨c.1,by rw[c.2];simp⟩),if_neg h5]))
theorem con141(r s:Record)(hr:szR r)(hs:szR s):Con Tryz.prog 141 [.agg (c54 r),.agg (c54 s)] (.i .i64 (L4 r s)) :=
 by
 refine sC B3 [.tmp 4] 19 Tryz.func141 ?_
 intro e0 cx
 refine sq<|rG cx [2,3] [2,3] z0<|sn<|sq<|sq<|rG cx [2,3,5] [2,3] (fT (con194 (r.sku) (s.sku)) (oA 4 (.i .i64 (A0m r.sku s.sku)) z0))<|sn<|sq<|rG cx [2,3,5,12] [2,3] (tN 1 (A0m r.sku s.sku) (0:Int) z0)<|sn<|dC (¬A0m r.sku s.sku=0) (fun h0=>?_) fun h0=>?_
 refine sq<|rG cx [4] [] z0<|sn<|rT<|nR<|qR (.i .i64 (A0m r.sku s.sku)) (.eq (by unfold L4;rw[if_pos h0]))
 refine sK<|sn<|sq<|rG cx [4] [] (fT (con195 (r.past) (s.past) (by exact hr) (by exact hs)) (oA 4 (.i .i64 (Az3 r.past s.past)) z0)) ?_
 refine sn<|rT<|qR (.i .i64 (Az3 r.past s.past)) (.eq (by unfold L4;rw[if_neg h0]))
theorem con160(rs:List Record)(hb:szRs rs):Con Tryz.prog 160 [.sl (rs.map c54)] (.i .i64 (A48 rs)) :=
 by
 have e:∀ {i:Int},0≤i→(i-1).toNat=i.toNat-1:=fun {i} h=>by omega
 refine lN 0 c54 (rs) Tryz.func160 fun hl_0=>sC B3 [.tmp 2] 30 Tryz.func160 ?_
 intro e0 cx
 refine sq<|rG cx [0] [] z0<|sn<|sq<|sq<|rG cx [0,5,6,7] [] (tL 1 c54 rs z0)<|sn<|bL 0<|sL (X:=Int) (fun x=>⟨[(0,.sl (List.map c54 rs)),(5,.sl (List.map c54 rs)),(6,.i .i64 ((↑rs.length:Int))),(7,.i .i64 (x))],[]⟩) (fun x ↦ decKc rs x) (fun x ↦ B1n rs x) [0,5,6,7] [] ((0:Int)) (show B1n rs (0:Int)from(by exact⟨by omega,by omega,fun j hj=>by omega⟩)) ?_
 intro i0 h_1
 obtain⟨hh2,hh3,hh4⟩:0≤i0∧i0≤(↑rs.length:Int)∧∀(j:Nat),(↑j:Int) < i0→B1h rs j=true:=h_1
 refine rE cx [0,5,6,7,8] [] (zB 0 (i0 <(↑rs.length:Int))) (fun hh5=>?_) fun hh5=>?_
 refine sK<|sn<|sq<|bL 1<|sq<|rG cx [0,5,6,7,4,3] [4] (fA (0≤i0) (fG c54 rs i0.toNat (fR 3 (fN 3 3 (oR 1 (c54 rs[i0.toNat]!) z0)))))<|sn<|sq<|A9 (σ':=⟨[(0,.sl (List.map c54 rs)),(5,.sl (List.map c54 rs)),(6,.i .i64 ((↑rs.length:Int))),(7,.i .i64 (i0)),(28,.b (decide (¬ckR rs[i0.toNat]! =(0:Int)∨(0:Int) < i0∧0≤L4 rs[(i0-1).toNat]! rs[i0.toNat]!)))],[]⟩) ?_ ?_
 refine A4 (¬ckR rs[i0.toNat]! =(0:Int)) (fun h7=>?_) (fun h7=>?_)
 refine rA cx [0,5,6,7,28] [] (fT (As3 (rs[i0.toNat]!) (by exact A6d hb hh2 hh5)) (tT 2 (G9 h7:AV.b (ckR rs[i0.toNat]! !=0)=AV.b true) (tD 16 true (¬ckR rs[i0.toNat]! =(0:Int)∨(0:Int) < i0∧0≤L4 rs[(i0-1).toNat]! rs[i0.toNat]!) (by simp only [eq_false h7,tsl]) (oA 1 (.i .i64 (ckR rs[i0.toNat]!)) z0)))) ?_
 exact⟨rfl,by kernel_rfl⟩
 refine A4 ((0:Int) < i0) (fun h8=>?_) (fun h8=>?_)
 refine rA cx [0,5,6,7,28] [] (fT (As3 (rs[i0.toNat]!) (by exact A6d hb hh2 hh5)) (tN 2 (ckR rs[i0.toNat]!) (0:Int) (tT 3 (A0 h7) (tT 5 (A3 h8) (tW 9 (i0-1) (fO (0≤i0-1) (fG c54 rs ((i0-1).toNat) (fR 3 (fN 3 3 (fT (con141 (rs[(i0-1).toNat]!) (rs[i0.toNat]!) (by exact B1m hb h8 hh5) (by exact A6d hb hh2 hh5)) (tB 14 (0≤L4 rs[(i0-1).toNat]! rs[i0.toNat]!) (tT 16 (by first | (simp only [eq_false h7,eq_true h8,tsl];done) | simp_all:AV.b (decide (0≤L4 rs[(i0-1).toNat]! rs[i0.toNat]!))=AV.b (decide (¬ckR rs[i0.toNat]! =(0:Int)∨(0:Int) < i0∧0≤L4 rs[(i0-1).toNat]! rs[i0.toNat]!))) (oA 1 (.i .i64 (ckR rs[i0.toNat]!)) (oR 10 (c54 rs[(i0-1).toNat]!) (oA 13 (.i .i64 (L4 rs[(i0-1).toNat]! rs[i0.toNat]!)) z0))))))))))))))) ?_
 exact⟨rfl,by kernel_rfl⟩
 refine rA cx [0,5,6,7,28] [] (fT (As3 (rs[i0.toNat]!) (by exact A6d hb hh2 hh5)) (tN 2 (ckR rs[i0.toNat]!) (0:Int) (tT 3 (A0 h7) (tT 5 (A0 h8) (tT 16 (by first | (simp only [eq_false h7,eq_false h8,tsl];done) | simp_all:AV.b false=AV.b (decide (¬ckR rs[i0.toNat]! =(0:Int)∨(0:Int) < i0∧0≤L4 rs[(i0-1).toNat]! rs[i0.toNat]!))) (oA 1 (.i .i64 (ckR rs[i0.toNat]!)) z0)))))) ?_
 exact⟨rfl,by kernel_rfl⟩
 refine sn<|dC (¬ckR rs[i0.toNat]! =(0:Int)∨(0:Int) < i0∧0≤L4 rs[(i0-1).toNat]! rs[i0.toNat]!) (fun h9=>?_) fun h9=>?_
 refine sq<|rG cx [2] [] z0<|sn<|rT<|bR<|nR<|nR<|bR<|nR<|qR (.i .i64 ((1:Int))) (.eq ?g6);rotate_left
 refine sK<|bN<|sn<|rG cx [0,5,6,7] [] (tW 0 (i0+1) z0)<|sn<|nX (i0+1) (show((↑rs.length:Int)-(i0+1)).toNat <((↑rs.length:Int)-i0).toNat from(by omega)) (show B1n rs (i0+1)from ?g7);rotate_left
 refine eX 0<|nE<|nE<|bH<|sn<|sq<|rG cx [2] [] z0<|sn<|rT<|qR (.i .i64 ((0:Int))) (.eq (by rw[B5j fun j hj=>hh4 j (by omega)]))
 case g6 =>
  revert i0 hh2 hh3 hh4 hh5 h9
  intro i h0 h1 h2 h3 h4
  rw[B1k (i:=i.toNat) (by omega)]
  rw[e h0]at h4
  rw[A0r]
  rintro⟨a,b⟩
  rcases h4 with h4 | ⟨h4,h5⟩
  ·exact h4 a
  ·omega
 case g7 =>
  rw[e hh2]at h9
  refine Ak0 hh2 hh5 hh4 ((A0r _ _).2 ⟨Classical.byContradiction fun a=>h9 (.inl a),?_⟩)
  by_cases c:i0.toNat=0
  ·exact .inl c
  ·exact .inr (Classical.byContradiction fun a=>h9 (.inr ⟨by omega,by omega⟩))
end Go.Proofs.YtphcaholhacnpaaGreat
namespace Go.Proofs.YtphcaholhacnpaaGreat
open Go.E
set_option maxRecDepth 100000
set_option maxHeartbeats 4000000
def As4(p:Past)(d:Dot)(i:Int)(v:List Int)(c:List Span)(r n:Int):Prop:=v=p.vec∧c=p.cloud∧r=d.rep∧n=d.num∧0≤i∧i≤p.cloud.length∧∀ j:Nat,(j:Int) < i→A47 p.cloud[j]! d=false
def decHas(p:Past)(i:Int)(v:List Int)(c:List Span)(r n:Int):Nat:=(p.cloud.length-i).toNat
def B5n(a b:Past)(i:Int)(v:List Int)(c:List Span)(w:List Int)(e:List Span):Prop:=v=a.vec∧c=a.cloud∧w=b.vec∧e=b.cloud∧0≤i∧i≤a.vec.length∧∀ j:Nat,(j:Int) < i→a.vec[j]! = b.vec[j]!
def decSV(a:Past)(i:Int)(v:List Int)(c:List Span)(w:List Int)(e:List Span):Nat:=(a.vec.length-i).toNat
def B5o(a b:Past)(i:Int)(v:List Int)(c:List Span)(w:List Int)(e:List Span):Prop:=v=a.vec∧c=a.cloud∧w=b.vec∧e=b.cloud∧0≤i∧i≤a.cloud.length∧∀ j:Nat,(j:Int) < i→a.cloud[j]! = b.cloud[j]!
def decSC(a:Past)(i:Int)(v:List Int)(c:List Span)(w:List Int)(e:List Span):Nat:=(a.cloud.length-i).toNat
theorem As5(d:Dot):Con Tryz.prog 89 [.agg (c44 d)] (.b (K3 d)) :=
 by
 refine sC B3 [.tmp 2] 21 Tryz.func89 ?_
 intro e0 cx
 refine sq<|rG cx [1] [1] z0<|sn<|sq<|A9 (σ':=⟨[(2,.b (decide (0≤d.rep∧d.rep <(16:Int)∧1≤d.num∧d.num≤1000000000)))],[]⟩) ?_ ?_
 refine A4 (0≤d.rep) (fun h_1=>?_) (fun h_1=>?_)
 refine A4 (d.rep <(16:Int)) (fun h_2=>?_) (fun h_2=>?_)
 refine A4 (1≤d.num) (fun h_3=>?_) (fun h_3=>?_)
 refine rG cx [2] [] (tT 2 (A3 h_1) (tT 6 (A3 h_2) (tT 11 (A3 h_3) (tB 16 (d.num≤1000000000) (tD 18 (decide (d.num≤1000000000)) (0≤d.rep∧d.rep <(16:Int)∧1≤d.num∧d.num≤1000000000) (by simp only [eq_true h_1,eq_true h_2,eq_true h_3,tsl]) z0))))) ?_
 exact⟨rfl,by kernel_rfl⟩
 refine rG cx [2] [] (tT 2 (A3 h_1) (tT 6 (A3 h_2) (tT 11 (A0 h_3) (tD 18 false (0≤d.rep∧d.rep <(16:Int)∧1≤d.num∧d.num≤1000000000) (by simp only [eq_true h_1,eq_true h_2,eq_false h_3,tsl]) z0)))) ?_
 exact⟨rfl,by kernel_rfl⟩
 refine rG cx [2] [] (tT 2 (A3 h_1) (tT 6 (A0 h_2) (tD 18 false (0≤d.rep∧d.rep <(16:Int)∧1≤d.num∧d.num≤1000000000) (by simp only [eq_true h_1,eq_false h_2,tsl]) z0))) ?_
 exact⟨rfl,by kernel_rfl⟩
 refine rG cx [2] [] (tT 2 (A0 h_1) (tD 18 false (0≤d.rep∧d.rep <(16:Int)∧1≤d.num∧d.num≤1000000000) (by simp only [eq_false h_1,tsl]) z0)) ?_
 exact⟨rfl,by kernel_rfl⟩
 refine sn<|rT<|qR (.b (decide (0≤d.rep∧d.rep <(16:Int)∧1≤d.num∧d.num≤1000000000))) (.eq ?g0);rotate_left
 case g0=>exact rfl
theorem con18(p:Past)(d:Dot)(hl:p.cloud.length≤9223372036854775807):Con Tryz.prog 18 [.agg (c26 p),.agg (c44 d)] (.b (H4 p d)) :=
 by
 refine sC B3 [.tmp 4] 58 Tryz.func18 ?_
 intro e0 cx
 refine sq<|rG cx [2,3] [2,3] z0<|sn<|sq<|sq<|rG cx [2,3,9] [2,3] (fT (As5 (d)) (tT 2 (E7:(AV.b !K3 d)=AV.b (decide ¬K3 d=true)) (oA 1 (.b (K3 d)) z0)))<|sn<|dC (¬K3 d=true) (fun h0=>?_) fun h0=>?_
 refine sq<|rG cx [4] [] z0<|sn<|rT<|nR<|qR (.b (false)) (.eq (by unfold H4;rw[Bool.eq_false_iff.2 h0];rfl))
 refine sK<|sn<|sq<|sq<|A9 (σ':=⟨[(2,.ptr (2) (0) (0) (0)),(3,.ptr (3) (0) (0) (0)),(26,.b (decide (d.rep <(↑p.vec.length:Int)∧d.num≤p.vec[d.rep.toNat]!)))],[(2,⟨0,26,.var [.sl (List.map c3 p.vec),.sl (List.map B1 p.cloud)]⟩),(3,⟨0,44,.var [.i .i64 (d.rep),.i .i64 (d.num)]⟩)]⟩) ?_ ?_
 refine A4 (d.rep <(↑p.vec.length:Int)) (fun h2=>?_) (fun h2=>?_)
 refine rA cx [2,3,26] [2,3] (tL 4 c3 p.vec (tT 5 (A3 h2) (fP (0≤d.rep) (by exact(G0 (Classical.not_not.1 h0)).1) (fP ((List.map c3 p.vec)[d.rep.toNat]?=some (c3 p.vec[d.rep.toNat]!)) (by have:=(G0 (Classical.not_not.1 h0)).1;exact G5 (by omega)) (fR 1 (tB 15 (d.num≤p.vec[d.rep.toNat]!) (tD 16 (decide (d.num≤p.vec[d.rep.toNat]!)) (d.rep <(↑p.vec.length:Int)∧d.num≤p.vec[d.rep.toNat]!) (by simp only [eq_true h2,tsl]) (oR 13 (c3 p.vec[d.rep.toNat]!) z0)))))))) ?_
 exact⟨rfl,by kernel_rfl⟩
 refine rA cx [2,3,26] [2,3] (tL 4 c3 p.vec (tT 5 (A0 h2) (tD 16 false (d.rep <(↑p.vec.length:Int)∧d.num≤p.vec[d.rep.toNat]!) (by simp only [eq_false h2,tsl]) z0))) ?_
 exact⟨rfl,by kernel_rfl⟩
 refine sn<|dC (d.rep <(↑p.vec.length:Int)∧d.num≤p.vec[d.rep.toNat]!) (fun h3=>?_) fun h3=>?_
 refine sq<|rG cx [4] [] z0<|sn<|rT<|nR<|qR (.b (true)) (.eq (by unfold H4;rw[Classical.not_not.1 h0,decide_eq_true h3];rfl))
 refine sK<|sn<|sq<|sq<|rG cx [2,3,5] [2,3] z0<|sn<|bL 0<|sL (X:=Int×List Int×List Span×Int×Int) (fun x=>⟨[(2,.ptr (2) (0) (0) (0)),(3,.ptr (3) (0) (0) (0)),(5,.i .i64 (x.1))],[(2,⟨0,26,.var [.sl (List.map c3 x.2.1),.sl (List.map B1 x.2.2.1)]⟩),(3,⟨0,44,.var [.i .i64 (x.2.2.2.1),.i .i64 (x.2.2.2.2)]⟩)]⟩) (fun x ↦ decHas p x.1 x.2.1 x.2.2.1 x.2.2.2.1 x.2.2.2.2) (fun x ↦ As4 p d x.1 x.2.1 x.2.2.1 x.2.2.2.1 x.2.2.2.2) [2,3,5] [2,3] (((0:Int),p.vec,p.cloud,d.rep,d.num)) (show As4 p d (0:Int) p.vec p.cloud d.rep d.num from(by exact⟨rfl,rfl,rfl,rfl,by omega,by omega,fun j hj=>by omega⟩)) ?_
 rintro⟨i4,v5,c6,r7,n8⟩ h_9
 obtain⟨h10,h11,h12,h13,h14,h15,h16⟩:v5=p.vec∧c6=p.cloud∧r7=d.rep∧n8=d.num∧0≤i4∧i4≤(↑p.cloud.length:Int)∧∀(j:Nat),(↑j:Int) < i4→A47 p.cloud[j]! d=false:=h_9
 refine sq<|rD cx [2,3,5,31] [2,3] (tL 3 B1 c6 (zB 4 (i4 <(↑c6.length:Int)))) (fun h17=>?_) fun h17=>?_
 refine sK<|sn<|sq<|bL 1<|sq<|rG cx [2,3,5,6] [2,3,6] (fA (0≤i4) (fG B1 c6 i4.toNat (fR 3 (fN 3 3 (oR 3 (B1 c6[i4.toNat]!) z0)))))<|sn<|sq<|A9 (σ':=⟨[(2,.ptr (2) (0) (0) (0)),(3,.ptr (3) (0) (0) (0)),(5,.i .i64 (i4)),(57,.b (decide (c6[i4.toNat]!.rep=r7∧c6[i4.toNat]!.lo≤n8∧n8≤c6[i4.toNat]!.hi)))],[(2,⟨0,26,.var [.sl (List.map c3 v5),.sl (List.map B1 c6)]⟩),(3,⟨0,44,.var [.i .i64 (r7),.i .i64 (n8)]⟩)]⟩) ?_ ?_
 refine A4 (c6[i4.toNat]!.rep=r7) (fun h_19=>?_) (fun h_19=>?_)
 refine A4 (c6[i4.toNat]!.lo≤n8) (fun h_20=>?_) (fun h_20=>?_)
 refine rG cx [2,3,5,57] [2,3] (tT 4 (A3 h_19) (tT 10 (A3 h_20) (tB 17 (n8≤c6[i4.toNat]!.hi) (tD 18 (decide (n8≤c6[i4.toNat]!.hi)) (c6[i4.toNat]!.rep=r7∧c6[i4.toNat]!.lo≤n8∧n8≤c6[i4.toNat]!.hi) (by simp only [eq_true h_19,eq_true h_20,tsl]) z0)))) ?_
 exact⟨rfl,by kernel_rfl⟩
 refine rG cx [2,3,5,57] [2,3] (tT 4 (A3 h_19) (tT 10 (A0 h_20) (tD 18 false (c6[i4.toNat]!.rep=r7∧c6[i4.toNat]!.lo≤n8∧n8≤c6[i4.toNat]!.hi) (by simp only [eq_true h_19,eq_false h_20,tsl]) z0))) ?_
 exact⟨rfl,by kernel_rfl⟩
 refine rG cx [2,3,5,57] [2,3] (tT 4 (A0 h_19) (tD 18 false (c6[i4.toNat]!.rep=r7∧c6[i4.toNat]!.lo≤n8∧n8≤c6[i4.toNat]!.hi) (by simp only [eq_false h_19,tsl]) z0)) ?_
 exact⟨rfl,by kernel_rfl⟩
 refine sn<|dC (c6[i4.toNat]!.rep=r7∧c6[i4.toNat]!.lo≤n8∧n8≤c6[i4.toNat]!.hi) (fun h21=>?_) fun h21=>?_
 refine sq<|rG cx [4] [] z0<|sn<|rT<|bR<|nR<|nR<|bR<|nR<|qR (.b (true)) (.eq ?g5);rotate_left
 refine sK<|bN<|sn<|rG cx [2,3,5] [2,3] (tT 1 (B6 (by omega) (by subst h10 h11 h12 h13;omega):AV.i .i64 (IntKind.i64.wrap (i4+1))=AV.i .i64 (i4+1)) z0) ?_
 refine sn<|nX ((i4+1,v5,c6,r7,n8)) (show((↑p.cloud.length:Int)-(i4+1)).toNat <((↑p.cloud.length:Int)-i4).toNat from(by subst h10 h11 h12 h13;omega)) (show As4 p d (i4+1) v5 c6 r7 n8 from ?g8);rotate_left
 refine eX 0<|nE<|nE<|bH<|sn<|sq<|rG cx [4] [] z0<|sn<|rT<|qR (.b (false)) (.eq ?g9);rotate_left
 case g5 =>
  revert h0 h3 i4 v5 c6 r7 n8 h10 h11 h12 h13 h14 h15 h16 h17 h21
  intro h h1 i v c r n k0 k1 k2 k3 k4 k5 k6 k7 k8
  subst k0 k1 k2 k3
  have:(p.cloud.any fun s=>A47 s d)=true:=List.any_eq_true.2 ⟨_,G6 (l:=p.cloud) (i:=i.toNat) (by omega),decide_eq_true k8⟩
  unfold H4
  rw[Classical.not_not.1 h,this]
  simp
 case g8 =>
  subst h10 h11 h12 h13
  refine⟨rfl,rfl,rfl,rfl,by omega,by omega,fun j hj=>?_⟩
  by_cases e:j=i4.toNat
  ·rw[e];exact decide_eq_false h21
  ·exact h16 j (by omega)
 case g9 =>
  subst h10 h11 h12 h13
  have e:=Aq7 p.cloud d
  rw[B3c fun j hj=>h16 j (by omega)]at e
  unfold H4
  rw[decide_eq_false h3,← e]
  simp
theorem B1o(a b:Past)(h1:a.vec.length≤9223372036854775807)(h2:a.cloud.length≤9223372036854775807):Con Tryz.prog 86 [.agg (c26 a),.agg (c26 b)] (.b (decide (a=b))) :=
 by
 refine sC B3 [.tmp 4] 59 Tryz.func86 ?_
 intro e0 cx
 refine sq<|rG cx [2,3] [2,3] z0<|sn<|sq<|sq<|A9 (σ':=⟨[(2,.ptr (2) (0) (0) (0)),(3,.ptr (3) (0) (0) (0)),(22,.b (decide (¬(↑a.vec.length:Int)=(↑b.vec.length:Int)∨¬(↑a.cloud.length:Int)=(↑b.cloud.length:Int))))],[(2,⟨0,26,.var [.sl (List.map c3 a.vec),.sl (List.map B1 a.cloud)]⟩),(3,⟨0,26,.var [.sl (List.map c3 b.vec),.sl (List.map B1 b.cloud)]⟩)]⟩) ?_ ?_
 refine A4 (¬(↑a.vec.length:Int)=(↑b.vec.length:Int)) (fun h_1=>?_) (fun h_1=>?_)
 refine rG cx [2,3,22] [2,3] (tL 2 c3 a.vec (tL 5 c3 b.vec (tT 6 (G9 h_1:AV.b ((↑a.vec.length:Int) !=(↑b.vec.length:Int))=AV.b true) (tD 15 true (¬(↑a.vec.length:Int)=(↑b.vec.length:Int)∨¬(↑a.cloud.length:Int)=(↑b.cloud.length:Int)) (by simp only [eq_false h_1,tsl]) z0)))) ?_
 exact⟨rfl,by kernel_rfl⟩
 refine rG cx [2,3,22] [2,3] (tL 2 c3 a.vec (tL 5 c3 b.vec (tN 6 (↑a.vec.length:Int) (↑b.vec.length:Int) (tT 7 (A0 h_1) (tL 10 B1 a.cloud (tL 13 B1 b.cloud (tN 14 (↑a.cloud.length:Int) (↑b.cloud.length:Int) (tT 15 (by first | (simp only [eq_false h_1,tsl];done) | simp_all:AV.b (decide ¬(↑a.cloud.length:Int)=(↑b.cloud.length:Int))=AV.b (decide (¬(↑a.vec.length:Int)=(↑b.vec.length:Int)∨¬(↑a.cloud.length:Int)=(↑b.cloud.length:Int)))) z0)))))))) ?_
 exact⟨rfl,by kernel_rfl⟩
 refine sn<|dC (¬(↑a.vec.length:Int)=(↑b.vec.length:Int)∨¬(↑a.cloud.length:Int)=(↑b.cloud.length:Int)) (fun hh2=>?_) fun hh2=>?_
 refine sq<|rG cx [4] [] z0<|sn<|rT<|nR<|qR (.b (false)) (.eq (by rw[decide_eq_false];rintro rfl;exact hh2.elim (fun k=>k rfl) (fun k=>k rfl)))
 refine sK<|sn<|sq<|sq<|rG cx [2,3,5] [2,3] z0<|sn<|bL 0<|sL (X:=Int×List Int×List Span×List Int×List Span) (fun x=>⟨[(2,.ptr (2) (0) (0) (0)),(3,.ptr (3) (0) (0) (0)),(5,.i .i64 (x.1))],[(2,⟨0,26,.var [.sl (List.map c3 x.2.1),.sl (List.map B1 x.2.2.1)]⟩),(3,⟨0,26,.var [.sl (List.map c3 x.2.2.2.1),.sl (List.map B1 x.2.2.2.2)]⟩)]⟩) (fun x ↦ decSV a x.1 x.2.1 x.2.2.1 x.2.2.2.1 x.2.2.2.2) (fun x ↦ B5n a b x.1 x.2.1 x.2.2.1 x.2.2.2.1 x.2.2.2.2) [2,3,5] [2,3] (((0:Int),a.vec,a.cloud,b.vec,b.cloud)) (show B5n a b (0:Int) a.vec a.cloud b.vec b.cloud from(by exact⟨rfl,rfl,rfl,rfl,by omega,by omega,fun j hj=>by omega⟩)) ?_
 rintro⟨i3,v4,c5,w6,e7⟩ h_8
 obtain⟨h9,h10,h11,h12,h13,h14,h15⟩:v4=a.vec∧c5=a.cloud∧w6=b.vec∧e7=b.cloud∧0≤i3∧i3≤(↑a.vec.length:Int)∧∀(j:Nat),(↑j:Int) < i3→a.vec[j]! = b.vec[j]!:=h_8
 refine sq<|rD cx [2,3,5,27] [2,3] (tL 3 c3 v4 (zB 4 (i3 <(↑v4.length:Int)))) (fun h16=>?_) fun h16=>?_
 refine sK<|sn<|sq<|bL 1<|sq<|rA cx [2,3,5,40] [2,3] (fA (0≤i3) (fG c3 v4 i3.toNat (fR 1 (fA (0≤i3) (fP ((List.map c3 w6)[i3.toNat]?=some (c3 w6[i3.toNat]!)) (by subst h9 h10 h11 h12;exact G5 (by omega)) (fR 1 (tN 10 v4[i3.toNat]! w6[i3.toNat]! (oR 3 (c3 v4[i3.toNat]!) (oR 8 (c3 w6[i3.toNat]!) z0))))))))) ?_
 refine sn<|dC (¬v4[i3.toNat]! = w6[i3.toNat]!) (fun h17=>?_) fun h17=>?_
 refine sq<|rG cx [4] [] z0<|sn<|rT<|bR<|nR<|nR<|bR<|nR<|qR (.b (false)) (.eq (by subst h9 h10 h11 h12;rw[decide_eq_false];rintro rfl;exact h17 rfl))
 refine sK<|bN<|sn<|rG cx [2,3,5] [2,3] (tT 1 (B6 (by omega) (by subst h9 h10 h11 h12;omega):AV.i .i64 (IntKind.i64.wrap (i3+1))=AV.i .i64 (i3+1)) z0) ?_
 refine sn<|nX ((i3+1,v4,c5,w6,e7)) (show((↑a.vec.length:Int)-(i3+1)).toNat <((↑a.vec.length:Int)-i3).toNat from(by subst h9 h10 h11 h12;omega)) (show B5n a b (i3+1) v4 c5 w6 e7 from ?g6);rotate_left
 refine eX 0<|nE<|nE<|bH<|sn<|sq<|sq<|rG cx [2,3,6] [2,3] z0<|sn<|bL 2<|sL (X:=Int×List Int×List Span×List Int×List Span) (fun x=>⟨[(2,.ptr (2) (0) (0) (0)),(3,.ptr (3) (0) (0) (0)),(6,.i .i64 (x.1))],[(2,⟨0,26,.var [.sl (List.map c3 x.2.1),.sl (List.map B1 x.2.2.1)]⟩),(3,⟨0,26,.var [.sl (List.map c3 x.2.2.2.1),.sl (List.map B1 x.2.2.2.2)]⟩)]⟩) (fun x ↦ decSC a x.1 x.2.1 x.2.2.1 x.2.2.2.1 x.2.2.2.2) (fun x ↦ B5o a b x.1 x.2.1 x.2.2.1 x.2.2.2.1 x.2.2.2.2) [2,3,6] [2,3] (((0:Int),v4,c5,w6,e7)) (show B5o a b (0:Int) v4 c5 w6 e7 from(by exact⟨h9,h10,h11,h12,by omega,by omega,fun j hj=>by omega⟩)) ?_
 rintro⟨i18,v19,c20,w21,e22⟩ h_23
 obtain⟨h24,h25,h26,h27,h28,h29,h30⟩:v19=a.vec∧c20=a.cloud∧w21=b.vec∧e22=b.cloud∧0≤i18∧i18≤(↑a.cloud.length:Int)∧∀(j:Nat),(↑j:Int) < i18→a.cloud[j]! = b.cloud[j]!:=h_23
 refine sq<|rD cx [2,3,6,45] [2,3] (tL 3 B1 c20 (zB 4 (i18 <(↑c20.length:Int)))) (fun h31=>?_) fun h31=>?_
 refine sK<|sn<|sq<|bL 3<|sq<|rA cx [2,3,6,58] [2,3] (fA (0≤i18) (fG B1 c20 i18.toNat (fR 3 (fN 3 3 (fA (0≤i18) (fP ((List.map B1 e22)[i18.toNat]?=some (B1 e22[i18.toNat]!)) (by subst h24 h25 h26 h27;exact G5 (by omega)) (fR 3 (fN 3 3 (fT (A2t (eq141 c20[i18.toNat]! e22[i18.toNat]!)) (oR 3 (B1 c20[i18.toNat]!) (oR 8 (B1 e22[i18.toNat]!) (oA 10 (.b (decide ¬c20[i18.toNat]! = e22[i18.toNat]!)) z0)))))))))))) ?_
 refine sn<|dC (¬c20[i18.toNat]! = e22[i18.toNat]!) (fun h32=>?_) fun h32=>?_
 refine sq<|rG cx [4] [] z0<|sn<|rT<|bR<|nR<|nR<|bR<|nR<|qR (.b (false)) (.eq (by subst h24 h25 h26 h27;rw[decide_eq_false];rintro rfl;exact h32 rfl))
 refine sK<|bN<|sn<|rG cx [2,3,6] [2,3] (tT 1 (B6 (by omega) (by subst h24 h25 h26 h27;omega):AV.i .i64 (IntKind.i64.wrap (i18+1))=AV.i .i64 (i18+1)) z0) ?_
 refine sn<|nX ((i18+1,v19,c20,w21,e22)) (show((↑a.cloud.length:Int)-(i18+1)).toNat <((↑a.cloud.length:Int)-i18).toNat from(by subst h24 h25 h26 h27;omega)) (show B5o a b (i18+1) v19 c20 w21 e22 from ?g12);rotate_left
 refine eX 2<|nE<|nE<|bH<|sn<|sq<|rG cx [4] [] z0<|sn<|rT<|qR (.b (true)) (.eq ?g13);rotate_left
 case g6 =>
  subst h9 h10 h11 h12
  refine⟨rfl,rfl,rfl,rfl,by omega,by omega,fun j hj=>?_⟩
  by_cases e7:j=i3.toNat
  ·rw[e7];exact Classical.not_not.1 h17
  ·exact h15 j (by omega)
 case g12 =>
  subst h24 h25 h26 h27
  refine⟨rfl,rfl,rfl,rfl,by omega,by omega,fun l hl=>?_⟩
  by_cases e7:l=i18.toNat
  ·rw[e7];exact Classical.not_not.1 h32
  ·exact h30 l (by omega)
 case g13 =>
  subst h9 h25
  have e1:a.vec=b.vec:=V5 (by omega) fun i18 hj=>h15 i18 (by omega)
  have e2:a.cloud=b.cloud:=V5 (by omega) fun i18 hj=>h30 i18 (by omega)
  rw[decide_eq_true]
  cases a;cases b
  simp only at e1 e2
  rw[e1,e2]
end Go.Proofs.YtphcaholhacnpaaGreat
namespace Go.Proofs.YtphcaholhacnpaaGreat
open Go.E
set_option maxRecDepth 100000
set_option maxHeartbeats 4000000
def leI(a b:Int):Bool:=decide (a≤b)
def A49(A B:List Int)(i j:Int)(s:List Int):Prop:=s++List.merge (A.drop i.toNat) (B.drop j.toNat) leI=List.merge A B leI
def B1p(A B:List Int)(i j:Int)(s:List Int):Prop:=0≤i∧i≤A.length∧0≤j∧j≤B.length∧(s.length:Int)=i+j∧A49 A B i j s
def dec37(A B:List Int)(i j:Int)(s:List Int):Nat:=(A.length+B.length-i-j).toNat
def hA(l:List Int):List Int:=(List.take ((l.length:Int).tdiv 2).toNat l).mergeSort leI
def hB(l:List Int):List Int:=(List.drop ((l.length:Int).tdiv 2).toNat l).mergeSort leI
theorem hA_len(l:List Int):(hA l).length=((l.length:Int).tdiv 2).toNat:=by
 unfold hA
 rw[List.length_mergeSort,List.length_take,Int.tdiv_eq_ediv_of_nonneg (by omega)]
 omega
theorem hB_len(l:List Int):(hB l).length=l.length-((l.length:Int).tdiv 2).toNat:=by
 unfold hB
 rw[List.length_mergeSort,List.length_drop]
theorem B5p(l:List Int):0≤(l.length:Int).tdiv 2∧2*(l.length:Int).tdiv 2≤l.length∧(l.length:Int)≤2*(l.length:Int).tdiv 2+1:=by
 rw[Int.tdiv_eq_ediv_of_nonneg (by omega)]
 omega
theorem A88(a b c:Int)(h1:leI a b=true)(h2:leI b c=true):leI a c=true:=by simp only [leI,decide_eq_true_eq]at *;omega
theorem A89(a b:Int):(leI a b || leI b a)=true:=by simp only [leI,Bool.or_eq_true,decide_eq_true_eq];omega
theorem B1q(l:List Int):List.merge (hA l) (hB l) leI=l.mergeSort leI:=by
 refine List.Perm.eq_of_pairwise (le:=fun x y=>leI x y=true) (fun a b _ _ h1 h2=>by simp only [leI,decide_eq_true_eq]at *;omega) ?_ (List.pairwise_mergeSort A88 A89 l) ?_
 ·exact List.pairwise_merge A88 A89 _ _ (List.pairwise_mergeSort A88 A89 _) (List.pairwise_mergeSort A88 A89 _)
 ·refine(List.merge_perm_append leI).trans (((List.mergeSort_perm _ _).append (List.mergeSort_perm _ _)).trans ?_)
  rw[List.take_append_drop]
  exact(List.mergeSort_perm _ _).symm
theorem L6{α:Type}[Inhabited α]{l:List α}{i:Int}(h0:0≤i)(h:i < l.length):l.drop i.toNat=l[i.toNat]! :: l.drop (i+1).toNat:=by
 rw[show(i+1).toNat=i.toNat+1 by omega,getElem!_pos l i.toNat (by omega),← List.drop_eq_getElem_cons]
theorem mrgL{A B:List Int}{i j:Int}{s:List Int}(h0:0≤i)(hi:i < A.length)(j0:0≤j)(hj:j=B.length∨(j < B.length∧A[i.toNat]!≤B[j.toNat]!))(h:A49 A B i j s):A49 A B (i+1) j (s++[A[i.toNat]!]):=by
 unfold A49 at *
 rw[← h,List.append_assoc]
 congr 1
 rw[L6 h0 hi]
 rcases hj with hj | ⟨hj,hle⟩
 ·rw[List.drop_of_length_le (l:=B) (by omega)];simp
 ·rw[L6 j0 hj,List.cons_merge_cons,if_pos (by simpa [leI]using hle)];simp
theorem mrgR{A B:List Int}{i j:Int}{s:List Int}(h0:0≤i)(j0:0≤j)(hj:j < B.length)(hi:¬ i < A.length∨(i < A.length∧¬ A[i.toNat]!≤B[j.toNat]!))(h:A49 A B i j s):A49 A B i (j+1) (s++[B[j.toNat]!]):=by
 unfold A49 at *
 rw[← h,List.append_assoc]
 congr 1
 rw[L6 j0 hj]
 rcases hi with hi | ⟨hi,hle⟩
 ·rw[List.drop_of_length_le (l:=A) (by omega)];simp
 ·rw[L6 h0 hi,List.cons_merge_cons,if_neg (by simpa [leI]using hle)];simp
theorem mrgE{l:List Int}{i j:Int}{s:List Int}(hi:¬ i <(hA l).length)(hj:¬ j <(hB l).length)(h:A49 (hA l) (hB l) i j s):s=l.mergeSort leI:=by
 unfold A49 at h
 rw[List.drop_of_length_le (by omega),List.drop_of_length_le (by omega)]at h
 rw[← B1q,← h]
 simp
theorem As6{l:List Int}(h:(l.length:Int) < 2):l.mergeSort leI=l:=by
 match l with
 | []=>simp
 | [a]=>simp
 | a :: b :: l=>simp only [List.length_cons]at h;omega
theorem Ag0(l:List Int)(n:Nat)(hn:l.length≤n)(ih:∀ m:List Int,m.length < n→m.length*8≤140737488351232→Con Tryz.prog 238 [.sl (m.map c3)] (.sl ((m.mergeSort leI).map c3)))(hb:l.length*8≤140737488351232):Con Tryz.prog 238 [.sl (l.map c3)] (.sl ((l.mergeSort leI).map c3)) :=
 by
 have b1:=B5p l
 have b2:=hA_len l
 have b3:=hB_len l
 refine lN 0 c3 (l) Tryz.func238 fun hl_0=>sC B3 [.tmp 2] 79 Tryz.func238 ?_
 intro e0 cx
 refine sq<|rG cx [0] [] z0<|sn<|sq<|rD cx [0,10] [] (tL 1 c3 l (zB 2 ((↑l.length:Int) <(2:Int)))) (fun h0=>?_) fun h0=>?_
 refine sq<|rG cx [2] [11] (fR 3 (fR 1 (fR 1 (fX c3 l 1 (fS c3 [] c3 l (fP (((List.map c3 []).length+(List.map c3 l).length)*(8:Nat)≤(140737488355328:Nat)) (by(simp only [Go.maxLen,List.length_map,List.length_append,List.length_cons,List.length_nil];omega)) (fM c3 [] l (oV 2 { rows:=some (List.map c3 ([]++l)) } z0))))))))<|sn<|rT<|nR<|qR (.sl (List.map c3 ([]++l))) (.eq (by rw[As6 h0];rfl))
 refine sK<|sn<|sq<|rG cx [0,3] [] (tL 2 c3 l (tT 3 (B6 (by omega) (by omega):AV.i .i64 (IntKind.i64.wrap ((↑l.length:Int).tdiv (2:Int)))=AV.i .i64 ((↑l.length:Int).tdiv (2:Int))) (tT 4 (B0u c3 l ((↑l.length:Int).tdiv (2:Int)).toNat:AV.sl (List.drop (Int.toNat (0:Int)) (List.take ((↑l.length:Int).tdiv (2:Int)).toNat (List.map c3 l)))=AV.sl (List.map c3 (List.take ((↑l.length:Int).tdiv (2:Int)).toNat l))) (fO ((0:Int)≤(0:Int)) (fP (0≤(↑l.length:Int).tdiv (2:Int)) (by omega) (fP ((↑l.length:Int).tdiv 2≤(↑(List.map c3 l).length:Int)) (by rw[List.length_map];omega) (fX c3 l 1 (fP (Con Tryz.prog (238:FuncId) [AV.sl (List.map c3 (List.take ((↑l.length:Int).tdiv (2:Int)).toNat l))] (AV.sl (List.map c3 ((List.take ((↑l.length:Int).tdiv (2:Int)).toNat l).mergeSort leI)))) (ih (List.take ((↑l.length:Int).tdiv (2:Int)).toNat l) (by show(List.take ((l.length:Int).tdiv 2).toNat l).length < n;rw[List.length_take];omega) (by show(List.take ((l.length:Int).tdiv 2).toNat l).length*8≤140737488351232;rw[List.length_take];omega)) (oA 5 (.sl (List.map c3 ((List.take ((↑l.length:Int).tdiv (2:Int)).toNat l).mergeSort leI))) z0))))))))) ?_
 refine sn<|sq<|rG cx [0,3,4] [] (tL 2 c3 l (tT 3 (B6 (by omega) (by omega):AV.i .i64 (IntKind.i64.wrap ((↑l.length:Int).tdiv (2:Int)))=AV.i .i64 ((↑l.length:Int).tdiv (2:Int))) (tT 4 (Ad8 c3 l ((↑l.length:Int).tdiv (2:Int)).toNat:AV.sl (List.drop ((↑l.length:Int).tdiv (2:Int)).toNat (List.take (none.getD (↑(List.map c3 l).length:Int)).toNat (List.map c3 l)))=AV.sl (List.map c3 (List.drop ((↑l.length:Int).tdiv (2:Int)).toNat l))) (fP (0≤(↑l.length:Int).tdiv (2:Int)) (by omega) (fP ((↑l.length:Int).tdiv 2≤none.getD (↑(List.map c3 l).length:Int)) (by show _≤((List.map c3 l).length:Int);rw[List.length_map];omega) (fP (none.getD (↑(List.map c3 l).length:Int)≤(↑(List.map c3 l).length:Int)) (by exact Int.le_refl _) (fX c3 l 1 (fP (Con Tryz.prog (238:FuncId) [AV.sl (List.map c3 (List.drop ((↑l.length:Int).tdiv (2:Int)).toNat l))] (AV.sl (List.map c3 ((List.drop ((↑l.length:Int).tdiv (2:Int)).toNat l).mergeSort leI)))) (ih (List.drop ((↑l.length:Int).tdiv (2:Int)).toNat l) (by rw[List.length_drop];omega) (by rw[List.length_drop];omega)) (oA 5 (.sl (List.map c3 ((List.drop ((↑l.length:Int).tdiv (2:Int)).toNat l).mergeSort leI))) z0))))))))) ?_
 refine sn<|sq<|rG cx [3,4,5] [28] (tL 1 c3 l (fR (0:Int) (fR (↑l.length:Int) (fO ((8:Nat)*l.length≤(281474976710656:Nat)) (fP (l.length≤maxLen) (by(simp only [Go.maxLen];omega)) (oV 2 { n:=l.length,flat:=true } z0))))))<|sn<|sq<|rG cx [3,4,5,6,7] [28] z0<|sn<|sq<|bL 0<|sL (X:=Int×Int×List Int) (fun x=>⟨[(3,.sl (List.map c3 ((List.take ((↑l.length:Int).tdiv (2:Int)).toNat l).mergeSort leI))),(4,.sl (List.map c3 ((List.drop ((↑l.length:Int).tdiv (2:Int)).toNat l).mergeSort leI))),(5,.own 28 0),(6,.i .i64 (x.1)),(7,.i .i64 (x.2.1))],[(28,⟨0,3,.row 1 (List.map c3 x.2.2)⟩)]⟩) (fun x ↦ dec37 (hA l) (hB l) x.1 x.2.1 x.2.2) (fun x ↦ B1p (hA l) (hB l) x.1 x.2.1 x.2.2) [3,4,5,6,7] [28] (((0:Int),(0:Int),[])) (show B1p (hA l) (hB l) (0:Int) (0:Int) []from(by exact⟨by omega,by omega,by omega,by omega,rfl,rfl⟩)) ?_
 rintro⟨i1,j2,s3⟩ h_4
 obtain⟨h5,h6,h7,h8,h9,h10⟩:0≤i1∧i1≤(↑(hA l).length:Int)∧0≤j2∧j2≤(↑(hB l).length:Int)∧(↑s3.length:Int)=i1+j2∧A49 (hA l) (hB l) i1 j2 s3:=h_4
 refine sq<|sq<|A9 (σ':=⟨[(3,.sl (List.map c3 ((List.take ((↑l.length:Int).tdiv (2:Int)).toNat l).mergeSort leI))),(4,.sl (List.map c3 ((List.drop ((↑l.length:Int).tdiv (2:Int)).toNat l).mergeSort leI))),(5,.own 28 0),(6,.i .i64 (i1)),(7,.i .i64 (j2)),(38,.b (decide (i1 <(↑((List.take ((↑l.length:Int).tdiv (2:Int)).toNat l).mergeSort leI).length:Int)∨j2 <(↑((List.drop ((↑l.length:Int).tdiv (2:Int)).toNat l).mergeSort leI).length:Int))))],[(28,⟨0,3,.row 1 (List.map c3 s3)⟩)]⟩) ?_ ?_
 refine A4 (i1 <(↑((List.take ((↑l.length:Int).tdiv (2:Int)).toNat l).mergeSort leI).length:Int)) (fun h_12=>?_) (fun h_12=>?_)
 refine rG cx [3,4,5,6,7,38] [28] (tL 2 c3 ((List.take ((↑l.length:Int).tdiv (2:Int)).toNat l).mergeSort leI) (tT 3 (A3 h_12) (tD 9 true (i1 <(↑((List.take ((↑l.length:Int).tdiv (2:Int)).toNat l).mergeSort leI).length:Int)∨j2 <(↑((List.drop ((↑l.length:Int).tdiv (2:Int)).toNat l).mergeSort leI).length:Int)) (by simp only [eq_true h_12,tsl]) z0))) ?_
 exact⟨rfl,by kernel_rfl⟩
 refine rG cx [3,4,5,6,7,38] [28] (tL 2 c3 ((List.take ((↑l.length:Int).tdiv (2:Int)).toNat l).mergeSort leI) (tT 3 (A0 h_12) (tL 7 c3 ((List.drop ((↑l.length:Int).tdiv (2:Int)).toNat l).mergeSort leI) (tB 8 (j2 <(↑((List.drop ((↑l.length:Int).tdiv (2:Int)).toNat l).mergeSort leI).length:Int)) (tD 9 (decide (j2 <(↑((List.drop ((↑l.length:Int).tdiv (2:Int)).toNat l).mergeSort leI).length:Int))) (i1 <(↑((List.take ((↑l.length:Int).tdiv (2:Int)).toNat l).mergeSort leI).length:Int)∨j2 <(↑((List.drop ((↑l.length:Int).tdiv (2:Int)).toNat l).mergeSort leI).length:Int)) (by simp only [eq_false h_12,tsl]) z0))))) ?_
 exact⟨rfl,by kernel_rfl⟩
 refine sn<|dC (i1 <(↑((List.take ((↑l.length:Int).tdiv (2:Int)).toNat l).mergeSort leI).length:Int)∨j2 <(↑((List.drop ((↑l.length:Int).tdiv (2:Int)).toNat l).mergeSort leI).length:Int)) (fun h13=>?_) fun h13=>?_
 refine sK<|sn<|bL 1<|sq<|A9 (σ':=⟨[(3,.sl (List.map c3 ((List.take ((↑l.length:Int).tdiv (2:Int)).toNat l).mergeSort leI))),(4,.sl (List.map c3 ((List.drop ((↑l.length:Int).tdiv (2:Int)).toNat l).mergeSort leI))),(5,.own 28 0),(6,.i .i64 (i1)),(7,.i .i64 (j2)),(59,.b (decide (j2=(↑((List.drop ((↑l.length:Int).tdiv (2:Int)).toNat l).mergeSort leI).length:Int)∨i1 <(↑((List.take ((↑l.length:Int).tdiv (2:Int)).toNat l).mergeSort leI).length:Int)∧((List.take ((↑l.length:Int).tdiv (2:Int)).toNat l).mergeSort leI)[i1.toNat]!≤((List.drop ((↑l.length:Int).tdiv (2:Int)).toNat l).mergeSort leI)[j2.toNat]!)))],[(28,⟨0,3,.row 1 (List.map c3 s3)⟩)]⟩) ?_ ?_
 refine A4 (j2=(↑((List.drop ((↑l.length:Int).tdiv (2:Int)).toNat l).mergeSort leI).length:Int)) (fun h15=>?_) (fun h15=>?_)
 refine rA cx [3,4,5,6,7,59] [28] (tL 2 c3 ((List.drop ((↑l.length:Int).tdiv (2:Int)).toNat l).mergeSort leI) (tT 3 (A3 h15) (tD 20 true (j2=(↑((List.drop ((↑l.length:Int).tdiv (2:Int)).toNat l).mergeSort leI).length:Int)∨i1 <(↑((List.take ((↑l.length:Int).tdiv (2:Int)).toNat l).mergeSort leI).length:Int)∧((List.take ((↑l.length:Int).tdiv (2:Int)).toNat l).mergeSort leI)[i1.toNat]!≤((List.drop ((↑l.length:Int).tdiv (2:Int)).toNat l).mergeSort leI)[j2.toNat]!) (by simp only [eq_true h15,tsl]) z0))) ?_
 exact⟨rfl,by kernel_rfl⟩
 refine A4 (i1 <(↑((List.take ((↑l.length:Int).tdiv (2:Int)).toNat l).mergeSort leI).length:Int)) (fun h16=>?_) (fun h16=>?_)
 refine rA cx [3,4,5,6,7,59] [28] (tL 2 c3 ((List.drop ((↑l.length:Int).tdiv (2:Int)).toNat l).mergeSort leI) (tT 3 (A0 h15) (tL 7 c3 ((List.take ((↑l.length:Int).tdiv (2:Int)).toNat l).mergeSort leI) (tT 8 (A3 h16) (fA (0≤i1) (fG c3 ((List.take ((↑l.length:Int).tdiv (2:Int)).toNat l).mergeSort leI) i1.toNat (fR 1 (fA (0≤j2) (fP ((List.map c3 ((List.drop ((↑l.length:Int).tdiv (2:Int)).toNat l).mergeSort leI))[j2.toNat]?=some (c3 ((List.drop ((↑l.length:Int).tdiv (2:Int)).toNat l).mergeSort leI)[j2.toNat]!)) (by exact G5 (xs:=hB l) (by have:¬ j2=(hB l).length:=h15;omega)) (fR 1 (tB 18 (((List.take ((↑l.length:Int).tdiv (2:Int)).toNat l).mergeSort leI)[i1.toNat]!≤((List.drop ((↑l.length:Int).tdiv (2:Int)).toNat l).mergeSort leI)[j2.toNat]!) (tD 20 (decide (((List.take ((↑l.length:Int).tdiv (2:Int)).toNat l).mergeSort leI)[i1.toNat]!≤((List.drop ((↑l.length:Int).tdiv (2:Int)).toNat l).mergeSort leI)[j2.toNat]!)) (j2=(↑((List.drop ((↑l.length:Int).tdiv (2:Int)).toNat l).mergeSort leI).length:Int)∨i1 <(↑((List.take ((↑l.length:Int).tdiv (2:Int)).toNat l).mergeSort leI).length:Int)∧((List.take ((↑l.length:Int).tdiv (2:Int)).toNat l).mergeSort leI)[i1.toNat]!≤((List.drop ((↑l.length:Int).tdiv (2:Int)).toNat l).mergeSort leI)[j2.toNat]!) (by simp only [eq_false h15,eq_true h16,tsl]) (oR 12 (c3 ((List.take ((↑l.length:Int).tdiv (2:Int)).toNat l).mergeSort leI)[i1.toNat]!) (oR 16 (c3 ((List.drop ((↑l.length:Int).tdiv (2:Int)).toNat l).mergeSort leI)[j2.toNat]!) z0)))))))))))))) ?_
 exact⟨rfl,by kernel_rfl⟩
 refine rA cx [3,4,5,6,7,59] [28] (tL 2 c3 ((List.drop ((↑l.length:Int).tdiv (2:Int)).toNat l).mergeSort leI) (tT 3 (A0 h15) (tL 7 c3 ((List.take ((↑l.length:Int).tdiv (2:Int)).toNat l).mergeSort leI) (tT 8 (A0 h16) (tD 20 false (j2=(↑((List.drop ((↑l.length:Int).tdiv (2:Int)).toNat l).mergeSort leI).length:Int)∨i1 <(↑((List.take ((↑l.length:Int).tdiv (2:Int)).toNat l).mergeSort leI).length:Int)∧((List.take ((↑l.length:Int).tdiv (2:Int)).toNat l).mergeSort leI)[i1.toNat]!≤((List.drop ((↑l.length:Int).tdiv (2:Int)).toNat l).mergeSort leI)[j2.toNat]!) (by simp only [eq_false h15,eq_false h16,tsl]) z0))))) ?_
 exact⟨rfl,by kernel_rfl⟩
 refine sn<|dC (j2=(↑((List.drop ((↑l.length:Int).tdiv (2:Int)).toNat l).mergeSort leI).length:Int)∨i1 <(↑((List.take ((↑l.length:Int).tdiv (2:Int)).toNat l).mergeSort leI).length:Int)∧((List.take ((↑l.length:Int).tdiv (2:Int)).toNat l).mergeSort leI)[i1.toNat]!≤((List.drop ((↑l.length:Int).tdiv (2:Int)).toNat l).mergeSort leI)[j2.toNat]!) (fun h17=>?_) fun h17=>?_
 refine sq<|rG cx [3,4,5,6,7] [28] (fA (0≤i1) (fG c3 ((List.take ((↑l.length:Int).tdiv (2:Int)).toNat l).mergeSort leI) i1.toNat (fR 1 (fR 3 (fR 1 (fR 1 (fX c3 [((List.take ((↑l.length:Int).tdiv (2:Int)).toNat l).mergeSort leI)[i1.toNat]!] 1 (fP ((List.map c3 s3).length+(List.map c3 [((List.take ((↑l.length:Int).tdiv (2:Int)).toNat l).mergeSort leI)[i1.toNat]!]).length≤maxLen) (by simp only [List.length_map,List.length_cons,List.length_nil,Go.maxLen];omega) (fP (((List.map c3 s3).length+(List.map c3 [((List.take ((↑l.length:Int).tdiv (2:Int)).toNat l).mergeSort leI)[i1.toNat]!]).length)*(8:Nat)≤(140737488355328:Nat)) (by simp only [List.length_map,List.length_cons,List.length_nil];omega) (fM c3 s3 [((List.take ((↑l.length:Int).tdiv (2:Int)).toNat l).mergeSort leI)[i1.toNat]!] (oR 3 (c3 ((List.take ((↑l.length:Int).tdiv (2:Int)).toNat l).mergeSort leI)[i1.toNat]!) (oV 6 { rows:=some (List.map c3 (s3++[((List.take ((↑l.length:Int).tdiv (2:Int)).toNat l).mergeSort leI)[i1.toNat]!])) } z0)))))))))))) ?_
 refine sn<|rG cx [3,4,5,6,7] [28] (tT 1 (B6 (by omega) (by omega):AV.i .i64 (IntKind.i64.wrap (i1+1))=AV.i .i64 (i1+1)) z0) ?_
 refine bN<|sn<|nX ((i1+1,j2,s3++[((List.take ((↑l.length:Int).tdiv (2:Int)).toNat l).mergeSort leI)[i1.toNat]!])) (show((↑(hA l).length:Int)+(↑(hB l).length:Int)-(i1+1)-j2).toNat <((↑(hA l).length:Int)+(↑(hB l).length:Int)-i1-j2).toNat from(by have k6':i1 <(hA l).length∨j2 <(hB l).length:=h13;have k7':j2=(hB l).length∨i1 <(hA l).length∧(hA l)[i1.toNat]!≤(hB l)[j2.toNat]!:=h17;omega)) (show B1p (hA l) (hB l) (i1+1) j2 (s3++[((List.take ((↑l.length:Int).tdiv (2:Int)).toNat l).mergeSort leI)[i1.toNat]!])from ?g20);rotate_left
 refine sq<|rG cx [3,4,5,6,7] [28] (fA (0≤j2) (fP ((List.map c3 ((List.drop ((↑l.length:Int).tdiv (2:Int)).toNat l).mergeSort leI))[j2.toNat]?=some (c3 ((List.drop ((↑l.length:Int).tdiv (2:Int)).toNat l).mergeSort leI)[j2.toNat]!)) (by have k6':i1 <(hA l).length∨j2 <(hB l).length:=h13;have k7':¬(j2=(hB l).length∨i1 <(hA l).length∧(hA l)[i1.toNat]!≤(hB l)[j2.toNat]!):=h17;exact G5 (xs:=hB l) (by omega)) (fR 1 (fR 3 (fR 1 (fR 1 (fX c3 [((List.drop ((↑l.length:Int).tdiv (2:Int)).toNat l).mergeSort leI)[j2.toNat]!] 1 (fP ((List.map c3 s3).length+(List.map c3 [((List.drop ((↑l.length:Int).tdiv (2:Int)).toNat l).mergeSort leI)[j2.toNat]!]).length≤maxLen) (by simp only [List.length_map,List.length_cons,List.length_nil,Go.maxLen];omega) (fP (((List.map c3 s3).length+(List.map c3 [((List.drop ((↑l.length:Int).tdiv (2:Int)).toNat l).mergeSort leI)[j2.toNat]!]).length)*(8:Nat)≤(140737488355328:Nat)) (by simp only [List.length_map,List.length_cons,List.length_nil];omega) (fM c3 s3 [((List.drop ((↑l.length:Int).tdiv (2:Int)).toNat l).mergeSort leI)[j2.toNat]!] (oR 3 (c3 ((List.drop ((↑l.length:Int).tdiv (2:Int)).toNat l).mergeSort leI)[j2.toNat]!) (oV 6 { rows:=some (List.map c3 (s3++[((List.drop ((↑l.length:Int).tdiv (2:Int)).toNat l).mergeSort leI)[j2.toNat]!])) } z0)))))))))))) ?_
 refine sn<|rG cx [3,4,5,6,7] [28] (tT 1 (B6 (by omega) (by omega):AV.i .i64 (IntKind.i64.wrap (j2+1))=AV.i .i64 (j2+1)) z0) ?_
 refine bN<|sn<|nX ((i1,j2+1,s3++[((List.drop ((↑l.length:Int).tdiv (2:Int)).toNat l).mergeSort leI)[j2.toNat]!])) (show((↑(hA l).length:Int)+(↑(hB l).length:Int)-i1-(j2+1)).toNat <((↑(hA l).length:Int)+(↑(hB l).length:Int)-i1-j2).toNat from(by have k6':i1 <(hA l).length∨j2 <(hB l).length:=h13;have k7':¬(j2=(hB l).length∨i1 <(hA l).length∧(hA l)[i1.toNat]!≤(hB l)[j2.toNat]!):=h17;omega)) (show B1p (hA l) (hB l) i1 (j2+1) (s3++[((List.drop ((↑l.length:Int).tdiv (2:Int)).toNat l).mergeSort leI)[j2.toNat]!])from ?g26);rotate_left
 refine eX 0<|nE<|nE<|bH<|sn<|sq<|rG cx [2] [28] z0<|sn<|rT<|qR (.sl (List.map c3 s3)) (.eq ?g27);rotate_left
 case g20 =>
  have k6':i1 <(hA l).length∨j2 <(hB l).length:=h13
  have k7':j2=(hB l).length∨i1 <(hA l).length∧(hA l)[i1.toNat]!≤(hB l)[j2.toNat]!:=h17
  have hi:i1 <(hA l).length:=by omega
  refine⟨by omega,by omega,by omega,by omega,by rw[List.length_append];simp only [List.length_cons,List.length_nil];omega,mrgL h5 hi h7 ?_ h10⟩
  by_cases e:j2=(hB l).length
  ·exact .inl e
  ·exact .inr ⟨by omega,(k7'.resolve_left e).2⟩
 case g26 =>
  have k6':i1 <(hA l).length∨j2 <(hB l).length:=h13
  have k7':¬(j2=(hB l).length∨i1 <(hA l).length∧(hA l)[i1.toNat]!≤(hB l)[j2.toNat]!):=h17
  have hj:j2 <(hB l).length:=by omega
  refine⟨by omega,by omega,by omega,by omega,by rw[List.length_append];simp only [List.length_cons,List.length_nil];omega,mrgR h5 h7 hj ?_ h10⟩
  by_cases e:i1 <(hA l).length
  ·exact .inr ⟨e,fun k=>k7' (.inr ⟨e,k⟩)⟩
  ·exact .inl e
 case g27 =>
  have k6':¬(i1 <(hA l).length∨j2 <(hB l).length):=h13
  rw[mrgE (fun k=>k6' (.inl k)) (fun k=>k6' (.inr k)) h10]
theorem As7:∀(n:Nat) (l:List Int),l.length≤n→l.length*8≤140737488351232→Con Tryz.prog 238 [.sl (l.map c3)] (.sl ((l.mergeSort leI).map c3))
 | 0,l,h,hb=>Ag0 l 0 h (fun m hm=>by omega) hb
 | n+1,l,h,hb=>Ag0 l (n+1) h (fun m hm hb'=>As7 n m (by omega) hb') hb
theorem B3o(l:List Int)(hb:l.length*8≤140737488351232):Con Tryz.prog 238 [.sl (l.map c3)] (.sl ((l.mergeSort leI).map c3)):=As7 l.length l (Nat.le_refl _) hb
end Go.Proofs.YtphcaholhacnpaaGreat
namespace Go.Proofs.YtphcaholhacnpaaGreat
open Go.E
set_option maxRecDepth 100000
set_option maxHeartbeats 4000000
def cntI(l:List Int)(n:Int):Nat:=l.countP (fun x=>decide (x≤n))
def D4(l:List Run):List Int:=l.flatMap fun r=>[r.lo,r.hi+1]
def sw:List Int→List Int→Nat→List Int
 | [],[],_=>[]
 | [],b :: B,d=>(if d=1 then[b]else[])++sw [] B (d-1)
 | a :: A,[],d=>(if d=0 then[a]else[])++sw A [] (d+1)
 | a :: A,b :: B,d=>if a≤b then(if d=0 then[a]else[])++sw A (b :: B) (d+1)else(if d=1 then[b]else[])++sw (a :: A) B (d-1)
termination_by A B _=>A.length+B.length
theorem Aa2(n:Int):cntI [] n=0:=rfl
theorem I5(a:Int)(l:List Int)(n:Int):cntI (a :: l) n=cntI l n+if a≤n then 1 else 0:=by
 unfold cntI
 rw[List.countP_cons]
 by_cases h:a≤n <;> simp [h]
theorem cnt_zero{l:List Int}{n:Int}(h:∀ x∈l,n < x):cntI l n=0:=by
 unfold cntI
 rw[List.countP_eq_zero]
 intro x hx
 have:=h x hx
 simp
 omega
theorem B5q(l:List Int)(n:Int):cntI l n≤l.length:=List.countP_le_length
structure VW (A B:List Int) (d:Nat):Prop where
 sA:A.Pairwise (fun x y=>x≤y)
 sB:B.Pairwise (fun x y=>x≤y)
 len:d+A.length=B.length
 cov:∀ n:Int,cntI B (n+1)≤d+cntI A n
theorem VW.in_{a b:Int}{A B:List Int}{d:Nat}(h:VW (a :: A) (b :: B) d)(hab:a≤b):VW A (b :: B) (d+1):=by
 refine⟨(List.pairwise_cons.1 h.sA).2,h.sB,by have:=h.len;simp only [List.length_cons]at *;omega,fun n=>?_⟩
 have:=h.cov n
 rw[I5 a A]at this
 split at this <;> omega
theorem VW.pos{a b:Int}{A B:List Int}{d:Nat}(h:VW (a :: A) (b :: B) d)(hab:b < a):1≤d:=by
 have h1:=h.cov (b-1)
 have h2:=(List.pairwise_cons.1 h.sA).1
 rw[show b-1+1=b by omega,I5 b B,if_pos (Int.le_refl b)]at h1
 rw[cnt_zero (l:=a :: A) fun x hx=>by
  rcases List.mem_cons.1 hx with rfl | hx
  ·omega
  ·have:=h2 x hx;omega]at h1
 omega
theorem VW.out{a b:Int}{A B:List Int}{d:Nat}(h:VW (a :: A) (b :: B) d)(hab:b < a):VW (a :: A) B (d-1):=by
 have hp:=h.pos hab
 have hB:=List.pairwise_cons.1 h.sB
 refine⟨h.sA,hB.2,by have:=h.len;simp only [List.length_cons]at *;omega,fun n=>?_⟩
 have:=h.cov n
 rw[I5 b B]at this
 by_cases e:b≤n+1
 ·rw[if_pos e]at this;omega
 ·rw[cnt_zero (l:=B) fun x hx=>by have:=hB.1 x hx;omega]
  omega
theorem VW.end_{b:Int}{B:List Int}{d:Nat}(h:VW [] (b :: B) d):1≤d∧VW [] B (d-1):=by
 have hl:=h.len
 simp only [List.length_cons,List.length_nil]at hl
 have hB:=List.pairwise_cons.1 h.sB
 exact⟨by omega,h.sA,hB.2,by simp only [List.length_nil];omega,fun n=>by have:=B5q B (n+1);omega⟩
theorem VW.strict{a b:Int}{A B:List Int}(h:VW (a :: A) (b :: B) 0):a < b:=by
 have h1:=h.cov (a-1)
 have h2:=(List.pairwise_cons.1 h.sA).1
 rw[show a-1+1=a by omega,cnt_zero (l:=a :: A) fun x hx=>by
  rcases List.mem_cons.1 hx with rfl | hx
  ·omega
  ·have:=h2 x hx;omega,I5 b B]at h1
 by_cases e:b≤a
 ·rw[if_pos e]at h1;omega
 ·omega
def SwZ(A B:List Int):Prop:=∃ R:List Run,sw A B 0=D4 R∧R.Pairwise (fun x y=>x.hi+1 < y.lo)∧(∀ r∈R,r.lo≤r.hi∧r.lo∈A∧r.hi+1∈B)∧∀ n,inR R n↔cntI B n < cntI A n
def SwP(A B:List Int)(d:Nat):Prop:=∃(x:Int) (R:List Run),sw A B d=x :: D4 R∧x∈B∧R.Pairwise (fun x y=>x.hi+1 < y.lo)∧(∀ r∈R,x < r.lo∧r.lo≤r.hi∧r.lo∈A∧r.hi+1∈B)∧∀ n,(n < x∨inR R n)↔cntI B n < d+cntI A n
theorem A6e:∀(k:Nat) (A B:List Int) (d:Nat),A.length+B.length=k→VW A B d→(d=0→SwZ A B)∧(0 < d→SwP A B d)
 | k,[],[],d,_,h=>by
  have hd:=h.len
  simp only [List.length_nil]at hd
  refine⟨fun _=>⟨[],?_,List.Pairwise.nil,fun r hr=>(by cases hr),fun n=>?_⟩,fun h0=>by omega⟩
  ·rw[sw];try rfl
  ·rw[Aa2];simp [inR]
 | k,a :: A,[],d,_,h=>by have:=h.len;simp only [List.length_cons,List.length_nil]at this;omega
 | 0,[],b :: B,d,hk,h=>by simp only [List.length_cons]at hk;omega
 | 0,a :: A,b :: B,d,hk,h=>by simp only [List.length_cons]at hk;omega
 | k+1,[],b :: B,d,hk,h=>by
  obtain⟨hd,h'⟩:=h.end_
  have ih:=A6e k [] B (d-1) (by simp only [List.length_cons,List.length_nil]at *;omega) h'
  have hB:=List.pairwise_cons.1 h.sB
  have low:∀ n:Int,n < b→cntI (b :: B) n=0∧cntI B n=0:=fun n hn=>by
   have:cntI B n=0:=cnt_zero fun x hx=>by have:=hB.1 x hx;omega
   rw[I5,if_neg (by omega)];omega
  refine⟨fun h0=>by omega,fun _=>?_⟩
  by_cases e:d=1
  ·obtain⟨R,r1,r2,r3,r4⟩:=ih.1 (by omega)
   refine⟨b,R,?_,by simp,r2,fun r hr=>absurd (r3 r hr).2.1 (by simp),fun n=>?_⟩
   ·rw[sw,if_pos e,show d-1=0 by omega,r1];rfl
   ·rw[r4 n,I5,Aa2]
    by_cases hn:b≤n
    ·rw[if_pos hn];omega
    ·have:=low n (by omega);rw[if_neg hn];omega
  ·obtain⟨x,R,r1,r2,r3,r4,r5⟩:=ih.2 (by omega)
   refine⟨x,R,?_,by simp [r2],r3,fun r hr=>absurd (r4 r hr).2.2.1 (by simp),fun n=>?_⟩
   ·rw[sw,if_neg e,r1];rfl
   ·rw[r5 n,I5,Aa2]
    by_cases hn:b≤n
    ·rw[if_pos hn];omega
    ·have:=low n (by omega);rw[if_neg hn];omega
 | k+1,a :: A,b :: B,d,hk,h=>by
  have hA:=List.pairwise_cons.1 h.sA
  have hB:=List.pairwise_cons.1 h.sB
  have lowA:∀ n:Int,n < a→cntI (a :: A) n=0∧cntI A n=0:=fun n hn=>by
   have:cntI A n=0:=cnt_zero fun x hx=>by have:=hA.1 x hx;omega
   rw[I5,if_neg (by omega)];omega
  have lowB:∀ n:Int,n < b→cntI (b :: B) n=0∧cntI B n=0:=fun n hn=>by
   have:cntI B n=0:=cnt_zero fun x hx=>by have:=hB.1 x hx;omega
   rw[I5,if_neg (by omega)];omega
  by_cases hab:a≤b
  ·obtain⟨x,R,r1,r2,r3,r4,r5⟩:=(A6e k A (b :: B) (d+1) (by simp only [List.length_cons]at *;omega) (h.in_ hab)).2 (by omega)
   have hx:b≤x:=by
    rcases List.mem_cons.1 r2 with rfl | r2
    ·omega
    ·exact hB.1 x r2
   constructor
   ·rintro rfl
    have hs:=h.strict
    refine⟨⟨a,x-1⟩ :: R,?_,List.pairwise_cons.2 ⟨fun r hr=>?_,r3⟩,fun r hr=>?_,fun n=>?_⟩
    ·rw[sw,if_pos hab,if_pos rfl,r1];simp [D4]
    ·have:=(r4 r hr).1;simp only;omega
    ·rcases List.mem_cons.1 hr with rfl | hr
     ·simp only;exact⟨by omega,by simp,by rw[show x-1+1=x by omega];exact r2⟩
     ·have:=r4 r hr;exact⟨this.2.1,by simp [this.2.2.1],this.2.2.2⟩
    ·have h5:=r5 n
     rw[M6,I5 a A]
     simp only
     by_cases hn:a≤n
     ·rw[if_pos hn]
      constructor
      ·rintro(g | g)
       ·have:=h5.1 (.inl (by omega));omega
       ·have:=h5.1 (.inr g);omega
      ·intro g
       rcases h5.2 (by omega)with g | g
       ·exact .inl ⟨hn,by omega⟩
       ·exact .inr g
     ·rw[if_neg hn]
      have l1:=lowA n (by omega)
      constructor
      ·rintro(g | ⟨r,hr,g1,g2⟩)
       ·omega
       ·have:=hA.1 _ (r4 r hr).2.2.1;omega
      ·intro g;omega
   ·intro h0
    refine⟨x,R,?_,r2,r3,fun r hr=>?_,fun n=>?_⟩
    ·rw[sw,if_pos hab,if_neg (by omega),r1];rfl
    ·have:=r4 r hr;exact⟨this.1,this.2.1,by simp [this.2.2.1],this.2.2.2⟩
    ·rw[r5 n,I5 a A]
     by_cases hn:a≤n
     ·rw[if_pos hn];omega
     ·have l1:=lowA n (by omega)
      have l2:=lowB n (by omega)
      rw[if_neg hn];omega
  ·have hd:=h.pos (by omega)
   have ih:=A6e k (a :: A) B (d-1) (by simp only [List.length_cons]at *;omega) (h.out (by omega))
   refine⟨fun h0=>by omega,fun _=>?_⟩
   by_cases e:d=1
   ·obtain⟨R,r1,r2,r3,r4⟩:=ih.1 (by omega)
    refine⟨b,R,?_,by simp,r2,fun r hr=>?_,fun n=>?_⟩
    ·rw[sw,if_neg hab,if_pos e,show d-1=0 by omega,r1];rfl
    ·have:=r3 r hr
     refine⟨?_,this.1,this.2.1,by simp [this.2.2]⟩
     rcases List.mem_cons.1 this.2.1 with g | g
     ·omega
     ·have:=hA.1 _ g;omega
    ·rw[r4 n,I5 b B]
     by_cases hn:b≤n
     ·rw[if_pos hn];omega
     ·have:=lowB n (by omega);rw[if_neg hn];omega
   ·obtain⟨x,R,r1,r2,r3,r4,r5⟩:=ih.2 (by omega)
    refine⟨x,R,?_,by simp [r2],r3,fun r hr=>?_,fun n=>?_⟩
    ·rw[sw,if_neg hab,if_neg e,r1];rfl
    ·have:=r4 r hr;exact⟨this.1,this.2.1,this.2.2.1,by simp [this.2.2.2]⟩
    ·rw[r5 n,I5 b B]
     by_cases hn:b≤n
     ·rw[if_pos hn];omega
     ·have:=lowB n (by omega);have:=lowA n (by omega);rw[if_neg hn];omega
def B3p(l:List Run):List Int:=(J8 l).map fun r=>r.lo
def A8a(l:List Run):List Int:=(J8 l).map fun r=>r.hi+1
def B5r(l:List Run):List Int:=(B3p l).mergeSort leI
def Aa3(l:List Run):List Int:=(A8a l).mergeSort leI
theorem A50(l:List Int):(l.mergeSort leI).Pairwise (fun x y=>x≤y):=by
 have:=List.pairwise_mergeSort A88 A89 l
 exact this.imp fun h=>by simpa [leI]using h
theorem Ag1(l:List Int)(n:Int):cntI (l.mergeSort leI) n=cntI l n:=(List.mergeSort_perm l leI).countP_eq _
theorem A8b{α:Type}{p q:α→Bool}:∀ {l:List α},(∀ x∈l,p x=true→q x=true)→(l.countP p < l.countP q↔∃ x∈l,q x=true∧¬ p x=true)
 | [],_=>by simp
 | x :: l,h=>by
  have ih:=A8b (p:=p) (q:=q) (l:=l) fun y hy=>h y (by simp [hy])
  have hle:=List.countP_mono_left (l:=l) (p:=p) (q:=q) fun y hy=>h y (by simp [hy])
  have hx:=h x (by simp)
  rw[List.countP_cons,List.countP_cons]
  have ex:(∃ y∈x :: l,q y=true∧¬ p y=true)↔(q x=true∧¬ p x=true)∨∃ y∈l,q y=true∧¬ p y=true:=by simp
  rw[ex,← ih]
  by_cases h1:p x=true
  ·have h2:=hx h1
   rw[if_pos h1,if_pos h2]
   constructor
   ·intro g;exact .inr (by omega)
   ·rintro(g | g)
    ·exact absurd h1 g.2
    ·omega
  ·by_cases h2:q x=true
   ·rw[if_neg h1,if_pos h2]
    constructor
    ·intro _;exact .inl ⟨h2,h1⟩
    ·intro _;omega
   ·rw[if_neg h1,if_neg h2]
    constructor
    ·intro g;exact .inr (by omega)
    ·rintro(g | g)
     ·exact absurd g.1 h2
     ·omega
theorem B5s(l:List Run)(n:Int):inR (J8 l) n↔1≤n∧n≤1000000000∧inR l n:=by
 constructor
 ·rintro⟨r,hr,h1,h2⟩
  unfold J8 at hr
  obtain⟨hr,_⟩:=List.mem_filter.1 hr
  obtain⟨x,hx,rfl⟩:=List.mem_map.1 hr
  simp only [D2]at h1 h2
  exact⟨by omega,by omega,x,hx,by omega,by omega⟩
 ·rintro⟨h1,h2,x,hx,h3,h4⟩
  refine⟨D2 x,?_,?_,?_⟩
  ·unfold J8
   refine List.mem_filter.2 ⟨List.mem_map.2 ⟨x,hx,rfl⟩,?_⟩
   show decide ((D2 x).lo≤(D2 x).hi)=true
   rw[decide_eq_true_iff]
   show max x.lo 1≤min x.hi 1000000000
   omega
  ·simp only [D2];omega
  ·simp only [D2];omega
theorem As8(l:List Run)(n:Int):cntI (B5r l) n=(J8 l).countP fun r=>decide (r.lo≤n):=by
 unfold B5r B3p
 rw[Ag1,cntI,List.countP_map]
 rfl
theorem Ag2(l:List Run)(n:Int):cntI (Aa3 l) n=(J8 l).countP fun r=>decide (r.hi+1≤n):=by
 unfold Aa3 A8a
 rw[Ag1,cntI,List.countP_map]
 rfl
theorem Ag3(l:List Run):VW (B5r l) (Aa3 l) 0:=by
 refine⟨A50 _,A50 _,?_,fun n=>?_⟩
 ·unfold B5r Aa3 B3p A8a
  rw[List.length_mergeSort,List.length_mergeSort]
  simp
 ·rw[As8,Ag2,Nat.zero_add]
  refine List.countP_mono_left fun r hr h=>?_
  have:=H9 r hr
  unfold A0c at this
  simp only [decide_eq_true_eq]at *
  omega
theorem As9(l:List Run):sw (B5r l) (Aa3 l) 0=D4 (nrm l):=by
 obtain⟨R,r1,r2,r3,r4⟩:=(A6e _ _ _ _ rfl (Ag3 l)).1 rfl
 rw[r1]
 congr 1
 have bd:∀ r∈R,1≤r.lo∧r.hi≤1000000000:=fun r hr=>by
  obtain⟨_,h1,h2⟩:=r3 r hr
  have h1:=(List.mergeSort_perm _ _).subset h1
  have h2:=(List.mergeSort_perm _ _).subset h2
  obtain⟨x,hx,ex⟩:=List.mem_map.1 h1
  obtain⟨y,hy,ey⟩:=List.mem_map.1 h2
  have gx:=H9 x hx
  have gy:=H9 y hy
  unfold A0c okR at gx gy
  omega
 refine M8 ⟨r2,fun r hr=>?_⟩ (E4 l) fun n=>?_
 ·have:=bd r hr;have:=(r3 r hr).1;omega
 ·rw[r4 n,N7,As8,Ag2,← B5s,A8b fun r hr h=>by
   have:=H9 r hr
   unfold A0c at this
   simp only [decide_eq_true_eq]at *
   omega]
  unfold inR
  constructor
  ·rintro⟨r,hr,h1,h2⟩
   simp only [decide_eq_true_eq]at h1 h2
   exact⟨r,hr,h1,by omega⟩
  ·rintro⟨r,hr,h1,h2⟩
   exact⟨r,hr,by simp only [decide_eq_true_eq];exact h1,by simp only [decide_eq_true_eq];omega⟩
end Go.Proofs.YtphcaholhacnpaaGreat
namespace Go.Proofs.YtphcaholhacnpaaGreat
open Go.E
set_option maxRecDepth 100000
set_option maxHeartbeats 4000000
theorem A51(l:List Run):(D4 l).length=2*l.length:=by
 unfold D4
 induction l with
 | nil=>rfl
 | cons r l ih=>simp only [List.flatMap_cons,List.length_append,List.length_cons,List.length_nil,ih];omega
theorem At0{l:List Run}(h:L3 l)(h0:0 < l.length):Y5 l=l[l.length-1]!.hi:=by
 have hm:l[l.length-1]!∈l:=G6 (by omega)
 have hb:=h.2 _ hm
 rcases V7 l with⟨_,h2⟩ | ⟨h1,h2,h3,h4⟩
 ·exact absurd ⟨_,hm,by omega,Int.le_refl _⟩ (h2 l[l.length-1]!.hi (by omega) (by omega))
 ·have h5:=h4 l[l.length-1]!.hi (by omega) (by omega) ⟨_,hm,by omega,Int.le_refl _⟩
  obtain⟨x,hx,k1,k2⟩:=h3
  obtain⟨i,hi,rfl⟩:=List.mem_iff_getElem.1 hx
  by_cases e:i=l.length-1
  ·subst e
   rw[getElem!_pos l _ hi]at h5 ⊢
   omega
  ·have:=List.pairwise_iff_getElem.1 h.1 i (l.length-1) hi (by omega) (by omega)
   rw[getElem!_pos l _ (by omega)]at h5 hb ⊢
   omega
end Go.Proofs.YtphcaholhacnpaaGreat
namespace Go.Proofs.YtphcaholhacnpaaGreat
open Go.E
set_option maxRecDepth 100000
set_option maxHeartbeats 4000000
def H8(f:Bool→Bool→Bool):List Int→List Int→Bool→Bool→Bool→List Int
 | p :: a,q :: b,x,y,w =>
  if p < q then(if f (!x) y=w then[]else[p])++H8 f a (q :: b) (!x) y (f (!x) y)
  else if p=q then(if f (!x) (!y)=w then[]else[p])++H8 f a b (!x) (!y) (f (!x) (!y))
  else(if f x (!y)=w then[]else[q])++H8 f (p :: a) b x (!y) (f x (!y))
 | p :: a,[],x,y,w=>(if f (!x) y=w then[]else[p])++H8 f a [] (!x) y (f (!x) y)
 | [],q :: b,x,y,w=>(if f x (!y)=w then[]else[q])++H8 f [] b x (!y) (f x (!y))
 | [],[],_,_,_=>[]
termination_by a b=>a.length+b.length
theorem R1(f:Bool→Bool→Bool)(x y w:Bool):H8 f [] [] x y w=[]:=by rw[H8]
theorem A6f(f:Bool→Bool→Bool)(p:Int)(a:List Int)(x y w:Bool):H8 f (p :: a) [] x y w=(if f (!x) y=w then[]else[p])++H8 f a [] (!x) y (f (!x) y):=by rw[H8]
theorem A6g(f:Bool→Bool→Bool)(q:Int)(b:List Int)(x y w:Bool):H8 f [] (q :: b) x y w=(if f x (!y)=w then[]else[q])++H8 f [] b x (!y) (f x (!y)):=by rw[H8]
theorem A25(f:Bool→Bool→Bool)(p q:Int)(a b:List Int)(x y w:Bool):H8 f (p :: a) (q :: b) x y w =
  if p < q then(if f (!x) y=w then[]else[p])++H8 f a (q :: b) (!x) y (f (!x) y)
  else if p=q then(if f (!x) (!y)=w then[]else[p])++H8 f a b (!x) (!y) (f (!x) (!y))
  else(if f x (!y)=w then[]else[q])++H8 f (p :: a) b x (!y) (f x (!y)):=by rw[H8]
def A4a:List Int→Int→Bool
 | [],_=>false
 | p :: a,n=>decide (p≤n) ^^ A4a a n
def A6h(a:List Int):Prop:=a.Pairwise fun x y=>x < y
theorem Ag4{n:Int}:∀ {a:List Int},(∀ p∈a,n < p)→A4a a n=false
 | [],_=>rfl
 | p :: a,h=>by
  have h1:=h p (by simp)
  rw[A4a,Ag4 (a:=a) fun q hq=>h q (by simp [hq])]
  simp
  omega
theorem A6i{n:Int}:∀ {a:List Int},(∀ p∈a,p≤n)→A4a a n=decide (a.length % 2=1)
 | [],_=>rfl
 | p :: a,h=>by
  have h1:=h p (by simp)
  rw[A4a,A6i (a:=a) fun q hq=>h q (by simp [hq]),decide_eq_true h1,List.length_cons]
  by_cases k:a.length % 2=1
  ·have k2:¬(a.length+1) % 2=1:=by omega
   rw[decide_eq_true k,decide_eq_false k2];rfl
  ·have k2:(a.length+1) % 2=1:=by omega
   rw[decide_eq_false k,decide_eq_true k2];rfl
theorem A3a(c w w':Bool)(p n:Int)(r:List Int)(hp:p≤n)(hc:(w' ^^ A4a r n)=c):(w ^^ A4a ((if w'=w then[]else[p])++r) n)=c:=by
 rw[← hc]
 split
 ·rename_i e;rw[e];rfl
 ·rename_i e
  show(w ^^ (decide (p≤n) ^^ A4a r n))=_
  rw[decide_eq_true hp]
  cases w <;> cases w' <;> simp_all
theorem T5(f:Bool→Bool→Bool):∀(k:Nat) (a b:List Int),a.length+b.length≤k→∀(x y w:Bool),∀ e∈H8 f a b x y w,e∈a∨e∈b:=by
 intro k
 induction k with
 | zero =>
  intro a b hk x y w e he
  have h1:a=[]:=List.eq_nil_of_length_eq_zero (by omega)
  have h2:b=[]:=List.eq_nil_of_length_eq_zero (by omega)
  subst h1 h2
  rw[R1]at he
  cases he
 | succ k ih =>
  have hd:∀(c:Prop) [Decidable c] (p e:Int) (m:List Int),e∈(if c then[]else[p])++m→e=p∨e∈m:=by
   intro c _ p e m h
   rcases List.mem_append.1 h with h | h
   ·split at h
    ·cases h
    ·exact .inl (by simpa using h)
   ·exact .inr h
  intro a b hk x y w e he
  cases a with
  | nil =>
   cases b with
   | nil=>rw[R1]at he;cases he
   | cons q b =>
    rw[A6g]at he
    rcases hd _ _ _ _ he with rfl | he
    ·exact .inr (by simp)
    ·rcases ih _ _ (by simp only [List.length_cons,List.length_nil]at hk ⊢;omega) _ _ _ e he with h | h
     ·exact .inl h
     ·exact .inr (by simp [h])
  | cons p a =>
   cases b with
   | nil =>
    rw[A6f]at he
    rcases hd _ _ _ _ he with rfl | he
    ·exact .inl (by simp)
    ·rcases ih _ _ (by simp only [List.length_cons,List.length_nil]at hk ⊢;omega) _ _ _ e he with h | h
     ·exact .inl (by simp [h])
     ·exact .inr h
   | cons q b =>
    simp only [List.length_cons]at hk
    rw[A25]at he
    split at he
    ·rcases hd _ _ _ _ he with rfl | he
     ·exact .inl (by simp)
     ·rcases ih _ _ (by simp only [List.length_cons];omega) _ _ _ e he with h | h
      ·exact .inl (by simp [h])
      ·exact .inr h
    ·split at he
     ·rcases hd _ _ _ _ he with rfl | he
      ·exact .inl (by simp)
      ·rcases ih _ _ (by omega) _ _ _ e he with h | h
       ·exact .inl (by simp [h])
       ·exact .inr (by simp [h])
     ·rcases hd _ _ _ _ he with rfl | he
      ·exact .inr (by simp)
      ·rcases ih _ _ (by simp only [List.length_cons];omega) _ _ _ e he with h | h
       ·exact .inl h
       ·exact .inr (by simp [h])
theorem At1(f:Bool→Bool→Bool):∀(k:Nat) (a b:List Int),a.length+b.length≤k→A6h a→A6h b→∀(x y w:Bool),A6h (H8 f a b x y w):=by
 intro k
 induction k with
 | zero =>
  intro a b hk _ _ x y w
  have h1:a=[]:=List.eq_nil_of_length_eq_zero (by omega)
  have h2:b=[]:=List.eq_nil_of_length_eq_zero (by omega)
  subst h1 h2
  rw[R1]
  exact List.Pairwise.nil
 | succ k ih =>
  have hd:∀(c:Prop) [Decidable c] (p:Int) (m:List Int),A6h m→(∀ e∈m,p < e)→A6h ((if c then[]else[p])++m):=by
   intro c _ p m hm hp
   split
   ·exact hm
   ·exact List.pairwise_cons.2 ⟨hp,hm⟩
  intro a b hk ha hb x y w
  cases a with
  | nil =>
   cases b with
   | nil=>rw[R1];exact List.Pairwise.nil
   | cons q b =>
    have pb:=List.pairwise_cons.1 hb
    rw[A6g]
    refine hd _ _ _ (ih _ _ (by simp only [List.length_cons,List.length_nil]at hk ⊢;omega) ha pb.2 _ _ _) fun e he=>?_
    rcases T5 f _ _ _ (Nat.le_refl _) _ _ _ e he with h | h
    ·cases h
    ·exact pb.1 e h
  | cons p a =>
   have pa:=List.pairwise_cons.1 ha
   cases b with
   | nil =>
    rw[A6f]
    refine hd _ _ _ (ih _ _ (by simp only [List.length_cons,List.length_nil]at hk ⊢;omega) pa.2 hb _ _ _) fun e he=>?_
    rcases T5 f _ _ _ (Nat.le_refl _) _ _ _ e he with h | h
    ·exact pa.1 e h
    ·cases h
   | cons q b =>
    have pb:=List.pairwise_cons.1 hb
    simp only [List.length_cons]at hk
    rw[A25]
    split
    ·refine hd _ _ _ (ih _ _ (by simp only [List.length_cons];omega) pa.2 hb _ _ _) fun e he=>?_
     rcases T5 f _ _ _ (Nat.le_refl _) _ _ _ e he with h | h
     ·exact pa.1 e h
     ·rcases List.mem_cons.1 h with rfl | h
      ·assumption
      ·have:=pb.1 e h;omega
    ·split
     ·rename_i e0
      refine hd _ _ _ (ih _ _ (by omega) pa.2 pb.2 _ _ _) fun e he=>?_
      rcases T5 f _ _ _ (Nat.le_refl _) _ _ _ e he with h | h
      ·exact pa.1 e h
      ·have:=pb.1 e h;omega
     ·refine hd _ _ _ (ih _ _ (by simp only [List.length_cons];omega) ha pb.2 _ _ _) fun e he=>?_
      rcases T5 f _ _ _ (Nat.le_refl _) _ _ _ e he with h | h
      ·rcases List.mem_cons.1 h with rfl | h
       ·omega
       ·have:=pa.1 e h;omega
      ·exact pb.1 e h
theorem B1r(f:Bool→Bool→Bool):∀(k:Nat) (a b:List Int),a.length+b.length≤k→A6h a→A6h b→∀(x y:Bool) (n:Int),(f x y ^^ A4a (H8 f a b x y (f x y)) n)=f (x ^^ A4a a n) (y ^^ A4a b n):=by
 intro k
 induction k with
 | zero =>
  intro a b hk _ _ x y n
  have h1:a=[]:=List.eq_nil_of_length_eq_zero (by omega)
  have h2:b=[]:=List.eq_nil_of_length_eq_zero (by omega)
  subst h1 h2
  rw[R1]
  simp [A4a]
 | succ k ih =>
  intro a b hk ha hb x y n
  -- below everything nothing turns
  by_cases hlow:(∀ e∈a,n < e)∧∀ e∈b,n < e
  ·rw[Ag4 hlow.1,Ag4 hlow.2,Ag4 fun e he=>by
    rcases T5 f _ _ _ (Nat.le_refl _) _ _ _ e he with h | h
    ·exact hlow.1 e h
    ·exact hlow.2 e h]
   simp
  ·have flip:∀(p:Int) (m:List Int) (z:Bool),p≤n→(z ^^ A4a (p :: m) n)=((!z) ^^ A4a m n):=by
    intro p m z hp
    rw[A4a,decide_eq_true hp]
    cases z <;> simp
   cases a with
   | nil =>
    cases b with
    | nil=>exact absurd ⟨fun e he=>(by cases he),fun e he=>(by cases he)⟩ hlow
    | cons q b =>
     have pb:=List.pairwise_cons.1 hb
     have hq:q≤n:=Int.not_lt.1 fun h=>hlow ⟨fun e he=>(by cases he),fun e he=>by
      rcases List.mem_cons.1 he with rfl | he
      ·exact h
      ·have:=pb.1 e he;omega⟩
     rw[A6g,flip q b y hq]
     exact A3a _ _ _ _ _ _ hq (ih _ _ (by simp only [List.length_cons,List.length_nil]at hk ⊢;omega) ha pb.2 _ _ n)
   | cons p a =>
    have pa:=List.pairwise_cons.1 ha
    cases b with
    | nil =>
     have hp:p≤n:=Int.not_lt.1 fun h=>hlow ⟨fun e he=>by
      rcases List.mem_cons.1 he with rfl | he
      ·exact h
      ·have:=pa.1 e he;omega,fun e he=>(by cases he)⟩
     rw[A6f,flip p a x hp]
     exact A3a _ _ _ _ _ _ hp (ih _ _ (by simp only [List.length_cons,List.length_nil]at hk ⊢;omega) pa.2 hb _ _ n)
    | cons q b =>
     have pb:=List.pairwise_cons.1 hb
     simp only [List.length_cons]at hk
     have hm:p≤n∨q≤n:=by
      apply Classical.byContradiction
      intro h
      refine hlow ⟨fun e he=>?_,fun e he=>?_⟩
      ·rcases List.mem_cons.1 he with rfl | he
       ·omega
       ·have:=pa.1 e he;omega
      ·rcases List.mem_cons.1 he with rfl | he
       ·omega
       ·have:=pb.1 e he;omega
     rw[A25]
     split
     ·have hp:p≤n:=by omega
      rw[flip p a x hp]
      exact A3a _ _ _ _ _ _ hp (ih _ _ (by simp only [List.length_cons];omega) pa.2 hb _ _ n)
     ·split
      ·rename_i e0
       have hp:p≤n:=by omega
       rw[flip p a x hp,flip q b y (by omega)]
       exact A3a _ _ _ _ _ _ hp (ih _ _ (by omega) pa.2 pb.2 _ _ n)
      ·have hq:q≤n:=by omega
       rw[flip q b y hq]
       exact A3a _ _ _ _ _ _ hq (ih _ _ (by simp only [List.length_cons];omega) ha pb.2 _ _ n)
def A3b:List Int→List Run
 | p :: q :: t=>⟨p,q-1⟩ :: A3b t
 | _=>[]
theorem X1(r:Run)(l:List Run):D4 (r :: l)=r.lo ::(r.hi+1) :: D4 l:=rfl
theorem Z3:∀ t:List Int,t.length % 2=0→D4 (A3b t)=t
 | [],_=>rfl
 | [p],h=>by simp at h
 | p :: q :: t,h=>by
  rw[A3b,X1,Z3 t (by simp only [List.length_cons]at h;omega)]
  simp only
  rw[show q-1+1=q by omega]
theorem A8c:∀ t:List Int,∀ r∈A3b t,r.lo∈t∧r.hi+1∈t
 | [],r,hr=>by cases hr
 | [p],r,hr=>by cases hr
 | p :: q :: t,r,hr=>by
  rw[A3b]at hr
  rcases List.mem_cons.1 hr with rfl | hr
  ·simp
  ·have:=A8c t r hr
   exact⟨by simp [this.1],by simp [this.2]⟩
theorem A8d:∀ t:List Int,A6h t→(∀ e∈t,1≤e∧e≤1000000001)→L3 (A3b t)
 | [],_,_=>O8
 | [p],_,_=>O8
 | p :: q :: t,h,hb=>by
  have h1:=List.pairwise_cons.1 h
  have h2:=List.pairwise_cons.1 h1.2
  have ih:=A8d t h2.2 fun e he=>hb e (by simp [he])
  have hp:=hb p (by simp)
  have hq:=hb q (by simp)
  have hpq:=h1.1 q (by simp)
  rw[A3b]
  refine⟨List.pairwise_cons.2 ⟨fun r hr=>?_,ih.1⟩,fun r hr=>?_⟩
  ·have:=h2.1 _ (A8c t r hr).1
   simp only
   omega
  ·rcases List.mem_cons.1 hr with rfl | hr
   ·simp only;omega
   ·exact ih.2 r hr
theorem A3c:∀ {l:List Run} {e:Int},e∈D4 l→∃ r∈l,e=r.lo∨e=r.hi+1
 | [],e,h=>by cases h
 | r :: l,e,h=>by
  rw[X1]at h
  rcases List.mem_cons.1 h with rfl | h
  ·exact⟨r,by simp,.inl rfl⟩
  ·rcases List.mem_cons.1 h with rfl | h
   ·exact⟨r,by simp,.inr rfl⟩
   ·obtain⟨x,hx,k⟩:=A3c h
    exact⟨x,by simp [hx],k⟩
theorem R2:∀ {l:List Run},L3 l→A6h (D4 l)
 | [],_=>List.Pairwise.nil
 | r :: l,h=>by
  have hr:=h.2 r (by simp)
  have pa:=(List.pairwise_cons.1 h.1).1
  rw[X1]
  have big:∀ e∈D4 l,r.hi+1 < e:=by
   intro e he
   obtain⟨x,hx,k⟩:=A3c he
   have h1:=pa x hx
   have h2:=h.2 x (by simp [hx])
   omega
  refine List.pairwise_cons.2 ⟨fun e he=>?_,List.pairwise_cons.2 ⟨big,R2 (H0 h)⟩⟩
  rcases List.mem_cons.1 he with rfl | he
  ·omega
  ·have:=big e he;omega
theorem A3d:∀ {l:List Run},L3 l→∀ n,A4a (D4 l) n=true↔inR l n
 | [],_,n=>by simp [D4,A4a,inR]
 | r :: l,h,n=>by
  have hr:=h.2 r (by simp)
  have ih:=A3d (H0 h) n
  have lt:inR l n→r.hi+1 < n:=A69 h
  rw[X1,M6,← ih]
  rw[← ih]at lt
  simp only [A4a]
  by_cases h1:r.lo≤n
  ·by_cases h2:r.hi+1≤n
   ·rw[decide_eq_true h1,decide_eq_true h2]
    simp only [Bool.true_bne,Bool.not_not,Bool.true_xor]
    constructor
    ·exact fun k=>.inr k
    ·rintro(k | k)
     ·omega
     ·exact k
   ·rw[decide_eq_true h1,decide_eq_false h2]
    cases e:A4a (D4 l) n with
    | true=>have:=lt e;omega
    | false=>simp;omega
  ·have h2:¬ r.hi+1≤n:=by omega
   rw[decide_eq_false h1,decide_eq_false h2]
   cases e:A4a (D4 l) n with
   | true=>have:=lt e;omega
   | false=>simp;omega
theorem T6{l:List Run}(h:L3 l):∀ e∈D4 l,1≤e∧e≤1000000001:=by
 intro e he
 obtain⟨r,hr,k⟩:=A3c he
 have:=h.2 r hr
 omega
def hasL(l:List Run)(n:Int):Bool:=l.any fun r=>decide (r.lo≤n∧n≤r.hi)
theorem A6j{l:List Run}{n:Int}:hasL l n=true↔inR l n:=by
 unfold hasL inR
 rw[List.any_eq_true]
 simp only [decide_eq_true_eq]
theorem Ak1(f:Bool→Bool→Bool)(hf:f false false=false){A B C:List Run}(hA:L3 A)(hB:L3 B)(hC:L3 C)(h:∀ n,inR C n↔f (hasL A n) (hasL B n)=true) :
  H8 f (D4 A) (D4 B) false false false=D4 C:=by
 have hp:=fun n=>B1r f _ (D4 A) (D4 B) (Nat.le_refl _) (R2 hA) (R2 hB) false false n
 rw[hf]at hp
 have hr:=At1 f _ (D4 A) (D4 B) (Nat.le_refl _) (R2 hA) (R2 hB) false false false
 have hm:=T5 f _ (D4 A) (D4 B) (Nat.le_refl _) false false false
 generalize H8 f (D4 A) (D4 B) false false false=t at hp hr hm ⊢
 have hb:∀ e∈t,1≤e∧e≤1000000001:=fun e he=>by
  rcases hm e he with k | k
  ·exact T6 hA e k
  ·exact T6 hB e k
 simp only [Bool.false_xor,Bool.false_bne]at hp
 have he:t.length % 2=0:=by
  have h1:=hp 1000000001
  rw[A6i fun e he=>(hb e he).2,A6i fun e he=>(T6 hA e he).2,A6i fun e he=>(T6 hB e he).2,A51,A51,decide_eq_false (by omega:¬ 2*A.length % 2=1),decide_eq_false (by omega:¬ 2*B.length % 2=1),hf,decide_eq_false_iff_not]at h1
  omega
 have hs:=A8d t hr hb
 rw[← Z3 t he]
 congr 1
 refine M8 hs hC fun n=>?_
 rw[h,← A3d hs,Z3 t he,hp]
 have d:∀ {l:List Run},L3 l→A4a (D4 l) n=hasL l n:=fun {l} hl=>by
  rw[Bool.eq_iff_iff,A6j];exact A3d hl n
 rw[d hA,d hB]
def L7(rule:Int)(x y:Bool):Bool:=decide (rule=1) && x && y || decide (rule=2) && x && !y
def Am0(i:Int):Bool:=decide (i % 2=1)
def A1r(f:Bool→Bool→Bool)(a b:List Int)(i j:Int)(w:Bool)(t:List Int):Prop:=t++H8 f (a.drop i.toNat) (b.drop j.toNat) (Am0 i) (Am0 j) w=H8 f a b false false false
theorem X2{i:Int}(h:0≤i):Am0 (i+1)=!Am0 i:=by
 unfold Am0
 by_cases k:i % 2=1
 ·rw[decide_eq_true k,decide_eq_false (by omega)];rfl
 ·rw[decide_eq_false k,decide_eq_true (by omega)];rfl
theorem Ak2{a:List Int}{i:Int}(h0:0≤i)(h:i < a.length):a.drop i.toNat=a[i.toNat]! :: a.drop (i+1).toNat:=by
 rw[show(i+1).toNat=i.toNat+1 by omega,getElem!_pos a i.toNat (by omega)]
 exact List.drop_eq_getElem_cons (by omega)
theorem A52{a:List Int}{i:Int}(h:¬ i < a.length):a.drop i.toNat=[]:=List.drop_of_length_le (by omega)
theorem At2{f:Bool→Bool→Bool}{a b:List Int}{i j i' j' u:Int}{w w':Bool}{t t':List Int}(h0:0≤i)(j0:0≤j)(ho:i < a.length∨j < b.length)
  (hu:u=if ¬ j < b.length∨(i < a.length∧a[i.toNat]! < b[j.toNat]!)then a[i.toNat]! else b[j.toNat]!)
  (hi:i'=if i < a.length∧a[i.toNat]! = u then i+1 else i) (hj:j'=if j < b.length∧b[j.toNat]! = u then j+1 else j)
  (hw:w'=f (Am0 i') (Am0 j')) (ht:t'=if w'=w then t else t++[u]) (h:A1r f a b i j w t):A1r f a b i' j' w' t':=by
 have fin:∀ r:List Int,t'++r=t++((if w'=w then[]else[u])++r):=by
  intro r
  rw[ht]
  split <;> simp
 unfold A1r at *
 rw[fin,← h]
 congr 1
 by_cases hi1:i < a.length
 ·by_cases hj1:j < b.length
  ·rw[Ak2 h0 hi1,Ak2 j0 hj1,A25]
   by_cases k:a[i.toNat]! < b[j.toNat]!
   ·rw[if_pos (.inr ⟨hi1,k⟩)]at hu
    rw[hu,if_pos ⟨hi1,rfl⟩]at hi
    rw[hu,if_neg (fun c=>by omega)]at hj
    rw[if_pos k,hi,hj,hw,hi,hj,X2 h0,hu,Ak2 j0 hj1]
   ·rw[if_neg (fun c=>by omega)]at hu
    rw[if_neg k]
    by_cases e:a[i.toNat]! = b[j.toNat]!
    ·rw[hu,if_pos ⟨hi1,e⟩]at hi
     rw[hu,if_pos ⟨hj1,rfl⟩]at hj
     rw[if_pos e,hi,hj,hw,hi,hj,X2 h0,X2 j0,hu,e]
    ·rw[hu,if_neg (fun c=>e c.2)]at hi
     rw[hu,if_pos ⟨hj1,rfl⟩]at hj
     rw[if_neg e,hi,hj,hw,hi,hj,X2 j0,hu,Ak2 h0 hi1]
  ·rw[Ak2 h0 hi1,A52 hj1,A6f]
   rw[if_pos (.inl hj1)]at hu
   rw[hu,if_pos ⟨hi1,rfl⟩]at hi
   rw[hu,if_neg (fun c=>hj1 c.1)]at hj
   rw[hi,hj,hw,hi,hj,X2 h0,hu,A52 hj1]
 ·have hj1:j < b.length:=by omega
  rw[A52 hi1,Ak2 j0 hj1,A6g]
  rw[if_neg (fun c=>by omega)]at hu
  rw[if_neg (fun c=>hi1 c.1)]at hi
  rw[hu,if_pos ⟨hj1,rfl⟩]at hj
  rw[hi,hj,hw,hi,hj,X2 j0,hu,A52 hi1]
theorem B1s{f:Bool→Bool→Bool}{a b:List Int}{i j:Int}{w:Bool}{t:List Int}(h1:¬ i < a.length)(h2:¬ j < b.length)(h:A1r f a b i j w t):t=H8 f a b false false false:=by
 unfold A1r at h
 rw[A52 h1,A52 h2,R1,List.append_nil]at h
 exact h
end Go.Proofs.YtphcaholhacnpaaGreat
