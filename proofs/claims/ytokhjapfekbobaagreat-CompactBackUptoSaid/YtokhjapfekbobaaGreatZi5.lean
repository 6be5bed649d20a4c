/- Pv: past.Meet, Within, Order; span.Within. Conditions: sizes. EZ: what has been drawn is never taken back: a call leaves the count of draws no smaller. Conditions: none. ET3: slices.SortFunc at a row whose cells lead on, by a comparing call that may lay blocks: the row comes into the one order. Conditions: the comparing is a total order of what the row holds. Ko: records put in order, each once, in plain words. Conditions: none. Ta: the act layer's document: entries, records, facts in form. Conditions: sizes. Kw: keep.Waits and the document's; lists of entries in the document's chapter 7. Conditions: sizes. Ya: the library's stable sort, piece by piece: what each function of it does to the row. Conditions: what is asked of 'less' and of 'swap'. Yb: the library's stable sort: symMerge puts two sorted runs into one. Conditions: what is asked of 'less' and of 'swap'; the order. Yc: the library's stable sort, whole: blocks of 20 by insertion, then merged by pairs. Conditions: what is asked of 'less' and of 'swap'; the order. Yd: the library's stable sort: the one order that it gives (by tags: each element with its place), and sort.SliceStable. Conditions: what is asked of 'less'; the order; the types. Ye: sort.SliceStable, walked. Conditions: what is asked of 'less'; the order; the types. Yg: sort.SliceStable as a call that puts a row of one's own into the stable order. Conditions: 'less' by its contract; the order; the types. Le: lines: the library's sort at entries; copies; what sorted lists come to. Conditions: none. Lf: lines: Sort, Find and what the document says of them. Conditions: sizes. Tt: tomb: in plain words. Conditions: none. Tu: tomb: Check, Less, Within, Order. Conditions: sizes. Lm: lines: Dots, Inside, Outside. Conditions: sizes. Tv: the document's Check, Less, Within, Order, Copy, Equal. Conditions: sizes. Tw: the law of Within, Order, Less. Conditions: sizes. Lh: lines: Union, and the library's Grow and Concat at entries. Conditions: sizes. Ks: records: slices.SortFunc, CompactFunc, Grow and Concat at them, keep.Sort, keep.Union. Conditions: sizes. Kt: records in the documents: ordered, Union, Bars. Conditions: sizes. Lpa: entries in form, in plain words (first part). Conditions: none. -/
import Derived.Below
import Derived.OwnWalk
import Derived.WalkKit
import Derived.KernelRfl
import Derived.Laws.MakeOwn
import Derived.Laws.OwnMore
import Derived.Laws.Slices
import Derived.Laws.CopyOwn
import Derived.Laws.AppendOwnNone
import Derived.Laws.Rows
import Derived.Orders
import Derived.Test.YtokhjapfekbobaaGreatProg
import Derived.DataReads
import Derived.ChangeOld
import Derived.DataElems
import Derived.SizedLaws
import Derived.ChangeKeysEq
import Derived.Sort.LotA
import Derived.Shelf.SlSortFuncK.RowK2
import Derived.Shelf.SlSortCmp.NoneTotal
import Derived.Lib.Walk
import Derived.Shelf.SlLaysE0
import Derived.Shelf.RegionOpenPlain
import Derived.Deep.LoopGhost
import Derived.Lib.SliceRun
import Derived.Calls
import Derived.Lib.Bytealg
import Derived.Shelf.SlSortFuncK.SWK
import Derived.Deep.Cut
import Derived.Deep.CutRange
import Derived.Deep.DeepCutAuto
import Derived.Lib.ReflectliteSwap
import Derived.Laws.Externs
import Derived.Lib.ReflectliteSlice
import Derived.Lib.AppendZeros
import Derived.Test.YtokhjapfekbobaaGreatZi4
set_option linter.unusedVariables false
set_option linter.unusedSimpArgs false
set_option linter.unusedSectionVars false
namespace Go.Proofs.YtokhjapfekbobaaGreat
open Go.E
set_option maxRecDepth 100000
set_option maxHeartbeats 4000000
theorem Bn4{l:List Run}(h:N7 l):l=[]↔∀ n,¬ inR l n:=by
 constructor
 ·rintro rfl n ⟨r,hr,_⟩;cases hr
 ·intro k
  cases l with
  | nil=>rfl
  | cons r l =>
   have:=h.2 r (by simp)
   exact absurd ⟨r,by simp,by omega,by omega⟩ (k r.lo)
theorem B4r(a b:Past):C2 (B6 a b)=0↔∀ r:Nat,r < 16→Y1 (A8 [a] r) (A8 [b] r)=[]:=by
 rw[W0]
 constructor
 ·intro h r hr
  rw[Bn4 (A2b _ _)]
  intro n hn
  have hs:=A2b (A8 [a] r) (A8 [b] r)
  obtain⟨x,hx,h1,h2⟩:=hn
  have hx':=hs.2 x hx
  have:=h ⟨r,n⟩
  have k:D0 (B6 a b) ⟨r,n⟩=true:=by
   unfold B6
   rw[Q8]
   refine⟨?_,⟨x,hx,h1,h2⟩⟩
   unfold M3
   simp
   omega
  rw[k]at this
  cases this
 ·intro h d
  rw[← Bool.not_eq_true]
  unfold B6
  rw[Q8]
  rintro⟨h1,h2⟩
  have hr:d.rep.toNat < 16:=by
   unfold M3 at h1
   simp at h1
   omega
  rw[h _ hr]at h2
  obtain⟨x,hx,_⟩:=h2
  cases hx
def isWi(A B:Nat→List Run)(r:Int):Prop:=∀ k:Nat,(k:Int) < r→Y1 (A k) (B k)=[]
def Bn5(A B:Nat→List Run)(r:Int)(T U:Nat→List Run):Prop:=T=A∧U=B∧0≤r∧r≤16∧isWi A B r
theorem B8x(b:List Run):Y1 [] b=[]:=by
 unfold Y1
 have:nrm ([]:List Run)=[]:=A5e ⟨List.Pairwise.nil,fun r hr=>by cases hr⟩
 rw[this,N8]
noncomputable def Ac6(a b:Past):Int:=if C2 (B6 a b)=0∧C2 (B6 b a)=0 then 0 else if C2 (B6 a b)=0 then 1 else if C2 (B6 b a)=0 then 2 else 3
theorem con122(a b:List Run)(ha:a.length*16≤140737488351232)(hb:b.length*16≤140737488351232):Con Tryz.prog 122 [.sl (a.map c181),.sl (b.map c181)] (.b (decide (((Y1 a b).length:Int)=0))) :=
 by
 refine lN 0 c181 (a) Tryz.func122 fun hl_0=>lN 1 c181 (b) Tryz.func122 fun hl_1=>sC A9 [.tmp 4] 10 Tryz.func122 ?_
 intro e0 cx
 refine sq<|rG cx [0,1] [] z0<|sn<|sq<|rG cx [4] [] (fT (Bd3 (a) (b) (by(with_reducible assumption)) (by(with_reducible assumption))) (tL 3 c181 (Y1 a b) (tB 4 ((↑(Y1 a b).length:Int)=0) (oA 2 (.sl (List.map c181 (Y1 a b))) z0))))<|sn<|rT ?_
 exact A43 (r:=.b (decide ((↑(Y1 a b).length:Int)=0))) (obl:=[]) (by kernel_rfl) trivial (B9.refl _)
theorem B8y(a b:Past)(ha:a.cloud.length*16≤140737488350000)(hb:b.cloud.length*16≤140737488350000):Con Tryz.prog 69 [.agg (c26 a),.agg (c26 b)] (.b (decide (C2 (B6 a b)=0))) :=
 by
 refine sC A9 [.tmp 4] 39 Tryz.func69 ?_
 intro e0 cx
 refine sq<|rG cx [2,3] [2,3] z0<|sn<|sq<|rA cx [5,6] [10,13] (fT (A5d ([a]) (by exact A82 ha)) (fT (A5d ([b]) (by exact A82 hb)) (oV 2 { val:=some (.ptr ((155:Nat)) (0) (0) (0)),row:=(E8 c181 16 (A8 [a])) } (oV 5 { val:=some (.ptr ((155:Nat)) (0) (0) (0)),row:=(E8 c181 16 (A8 [b])) } z0)))) ?_
 refine sn<|sq<|sq<|rG cx [5,6,14] [10,13] z0<|sn<|bL 0<|sL (X:=Int×(Nat→List Run)×(Nat→List Run)) (fun x=>⟨[(5,.ptr (10) (0) (0) (0)),(6,.ptr (13) (0) (0) (0)),(14,.i .i64 (x.1))],[(10,⟨0,155,.arr (E8 c181 16 x.2.1)⟩),(13,⟨0,155,.arr (E8 c181 16 x.2.2)⟩)]⟩) (fun x ↦ decEa x.1 x.2.1 x.2.2) (fun x ↦ Bn5 (A8 [a]) (A8 [b]) x.1 x.2.1 x.2.2) [5,6,14] [10,13] (((0:Int),A8 [a],A8 [b])) (show Bn5 (A8 [a]) (A8 [b]) (0:Int) (A8 [a]) (A8 [b])from(by exact⟨rfl,rfl,by omega,by omega,fun k hk=>by omega⟩)) ?_
 rintro⟨r0,T1,U2⟩ h_3
 obtain⟨hh4,h5,h6,h7,h8⟩:T1=A8 [a]∧U2=A8 [b]∧0≤r0∧r0≤16∧isWi (A8 [a]) (A8 [b]) r0:=h_3
 refine rE cx [5,6,14,15] [10,13] (zB 0 (r0 <(16:Int))) (fun h9=>?_) fun h9=>?_
 refine sK<|sn<|sq<|bL 1<|sq<|rG cx [5,6,14,7] [10,13] z0<|sn<|sq<|B3 (σ':=⟨[(5,.ptr (10) (0) (0) (0)),(6,.ptr (13) (0) (0) (0)),(14,.i .i64 (r0)),(37,.b (decide ((0:Int) <(↑(T1 r0.toNat).length:Int)∧¬(↑(Y1 (T1 r0.toNat) (U2 r0.toNat)).length:Int)=0)))],[(10,⟨0,155,.arr (E8 c181 16 T1)⟩),(13,⟨0,155,.arr (E8 c181 16 U2)⟩)]⟩) ?_ ?_
 refine A4 ((0:Int) <(↑(T1 r0.toNat).length:Int)) (fun h11=>?_) (fun h11=>?_)
 refine rA cx [5,6,14,37] [10,13] (fA (0≤r0) (fO (r0 <(↑(16:Nat):Int)) (fP ((E8 c181 16 T1)[r0.toNat*(1:Nat)+0]?=some (AV.sl (List.map c181 (T1 r0.toNat)))) (by((try simp only [Nat.mul_one,Nat.add_zero,Nat.zero_add]);with_reducible refine E7 ?_;omega)) (tL 5 c181 (T1 r0.toNat) (tT 6 (A3 h11) (fA (0≤r0) (fO (r0 <(↑(16:Nat):Int)) (fP ((E8 c181 16 T1)[r0.toNat*(1:Nat)+0]?=some (AV.sl (List.map c181 (T1 r0.toNat)))) (by((try simp only [Nat.mul_one,Nat.add_zero,Nat.zero_add]);with_reducible refine E7 ?_;omega)) (fA (0≤r0) (fO (r0 <(↑(16:Nat):Int)) (fP ((E8 c181 16 U2)[r0.toNat*(1:Nat)+0]?=some (AV.sl (List.map c181 (U2 r0.toNat)))) (by((try simp only [Nat.mul_one,Nat.add_zero,Nat.zero_add]);with_reducible refine E7 ?_;omega)) (fT (con122 (T1 r0.toNat) (U2 r0.toNat) (by subst hh4;exact A5o ha _) (by subst h5;exact A5o hb _)) (tQ 19 ((↑(Y1 (T1 r0.toNat) (U2 r0.toNat)).length:Int)=0) (tD 20 (decide ¬(↑(Y1 (T1 r0.toNat) (U2 r0.toNat)).length:Int)=0) ((0:Int) <(↑(T1 r0.toNat).length:Int)∧¬(↑(Y1 (T1 r0.toNat) (U2 r0.toNat)).length:Int)=0) (by simp only [eq_true h11,tsl]) (oR 4 [.sl (List.map c181 (T1 r0.toNat))] (oR 12 [.sl (List.map c181 (T1 r0.toNat))] (oR 17 [.sl (List.map c181 (U2 r0.toNat))] (oA 18 (.b (decide ((↑(Y1 (T1 r0.toNat) (U2 r0.toNat)).length:Int)=0))) z0)))))))))))))))))) ?_
 exact⟨rfl,by kernel_rfl⟩
 refine rA cx [5,6,14,37] [10,13] (fA (0≤r0) (fO (r0 <(↑(16:Nat):Int)) (fP ((E8 c181 16 T1)[r0.toNat*(1:Nat)+0]?=some (AV.sl (List.map c181 (T1 r0.toNat)))) (by((try simp only [Nat.mul_one,Nat.add_zero,Nat.zero_add]);with_reducible refine E7 ?_;omega)) (tL 5 c181 (T1 r0.toNat) (tT 6 (A0 h11) (tD 20 false ((0:Int) <(↑(T1 r0.toNat).length:Int)∧¬(↑(Y1 (T1 r0.toNat) (U2 r0.toNat)).length:Int)=0) (by simp only [eq_false h11,tsl]) (oR 4 [.sl (List.map c181 (T1 r0.toNat))] z0))))))) ?_
 exact⟨rfl,by kernel_rfl⟩
 refine sn<|dC ((0:Int) <(↑(T1 r0.toNat).length:Int)∧¬(↑(Y1 (T1 r0.toNat) (U2 r0.toNat)).length:Int)=0) (fun h12=>?_) fun h12=>?_
 refine sq<|rG cx [4] [] z0<|sn<|rT<|bR<|nR<|nR<|bR<|nR<|qR (.b (false)) (.eq ?g5);rotate_left
 refine sK<|bN<|sn<|rG cx [5,6,14] [10,13] (tW 0 (r0+1) z0)<|sn<|nX ((r0+1,T1,U2)) (show(16-(r0+1)).toNat <(16-r0).toNat from(by omega)) (show Bn5 (A8 [a]) (A8 [b]) (r0+1) T1 U2 from ?g6);rotate_left
 refine eX 0<|nE<|nE<|bH<|sn<|sq<|rG cx [4] [] z0<|sn<|rT<|qR (.b (true)) (.eq ?g7);rotate_left
 case g5 =>
  subst hh4 h5
  refine congrArg AV.b (decide_eq_false fun k=>h12.2 ?_).symm
  rw[(B4r a b).1 k r0.toNat (by omega)]
  rfl
 case g6 =>
  subst hh4 h5
  refine⟨rfl,rfl,by omega,by omega,fun k hk=>?_⟩
  by_cases e:k=r0.toNat
  ·subst e
   by_cases c:A8 [a] r0.toNat=[]
   ·rw[c,B8x]
   ·have hp:=List.length_pos_iff.2 c
    exact List.eq_nil_of_length_eq_zero (by
     have:=Classical.not_not.1 fun q=>h12 ⟨by omega,q⟩
     omega)
  ·exact h8 k (by omega)
 case g7 =>
  refine congrArg AV.b (decide_eq_true ?_).symm
  exact(B4r a b).2 fun k hk=>h8 k (by omega)
theorem con51(a b:Past)(ha:a.cloud.length*16≤140737488350000)(hb:b.cloud.length*16≤140737488350000):Con Tryz.prog 51 [.agg (c26 a),.agg (c26 b)] (.i .i64 (Ac6 a b)) :=
 by
 refine sC A9 [.tmp 4] 22 Tryz.func51 ?_
 intro e0 cx
 refine sq<|rG cx [2,3] [2,3] z0<|sn<|sq<|sq<|rA cx [5,6] [] (fT (B8y (a) (b) (by(with_reducible assumption)) (by(with_reducible assumption))) (fT (B8y (b) (a) (by(with_reducible assumption)) (by(with_reducible assumption))) (oA 2 (.b (decide (C2 (B6 a b)=0))) (oA 5 (.b (decide (C2 (B6 b a)=0))) z0))))<|sn<|bL 0<|sq<|B3 (σ':=⟨[(5,.b (decide (C2 (B6 a b)=0))),(6,.b (decide (C2 (B6 b a)=0))),(13,.b (decide (C2 (B6 a b)=0∧C2 (B6 b a)=0)))],[]⟩) ?_ ?_
 refine A4 (C2 (B6 a b)=0) (fun h_1=>?_) (fun h_1=>?_)
 refine rG cx [5,6,13] [] (tT 0 (A3 h_1) (tD 4 (decide (C2 (B6 b a)=0)) (C2 (B6 a b)=0∧C2 (B6 b a)=0) (by simp only [eq_true h_1,tsl]) z0)) ?_
 exact⟨rfl,by kernel_rfl⟩
 refine rG cx [5,6,13] [] (tT 0 (A0 h_1) (tD 4 false (C2 (B6 a b)=0∧C2 (B6 b a)=0) (by simp only [eq_false h_1,tsl]) z0)) ?_
 exact⟨rfl,by kernel_rfl⟩
 refine sn<|dC (C2 (B6 a b)=0∧C2 (B6 b a)=0) (fun h2=>?_) fun h2=>?_
 refine sq<|rG cx [4] [] z0<|sn<|rT<|bR<|nR<|qR (.i .i64 ((0:Int))) (.eq (by unfold Ac6;rw[if_pos h2]))
 refine sq<|rG cx [6,18] [] z0<|sn<|dC (C2 (B6 a b)=0) (fun h3=>?_) fun h3=>?_
 refine sq<|rG cx [4] [] z0<|sn<|rT<|bR<|nR<|qR (.i .i64 ((1:Int))) (.eq (by unfold Ac6;rw[if_neg h2,if_pos h3]))
 refine sq<|rG cx [20] [] z0<|sn<|dC (C2 (B6 b a)=0) (fun h4=>?_) fun h4=>?_
 refine sq<|rG cx [4] [] z0<|sn<|rT<|bR<|nR<|qR (.i .i64 ((2:Int))) (.eq (by unfold Ac6;rw[if_neg h2,if_neg h3,if_pos h4]))
 refine sK<|bN<|sn<|sq<|rG cx [4] [] z0<|sn<|rT<|qR (.i .i64 ((3:Int))) (.eq (by unfold Ac6;rw[if_neg h2,if_neg h3,if_neg h4]))
end Go.Proofs.YtokhjapfekbobaaGreat
namespace Go.E
def rlo{α:Type}(n:Nat):Result α→Prop
 | .ok _ w=>n≤w.drawn
 | .halt _ w=>n≤w.drawn
def glo(n:Nat):GStep→Prop
 | .go _ w _=>n≤w.drawn
 | .comm _ _ _ _ w _=>n≤w.drawn
 | .spawn _ _ w _=>n≤w.drawn
 | .count _ w _=>n≤w.drawn
 | .timer _ _ w _=>n≤w.drawn
 | .alone _ _ w _=>n≤w.drawn
 | .newcoro _ _ _ w _=>n≤w.drawn
 | .coroswitch _ _ _ w _=>n≤w.drawn
 | .collect _ w _=>n≤w.drawn
 | .watch _ w _=>n≤w.drawn
 | .ended _ _ _=>True
def slo(n:Nat):Stepped→Prop
 | .next m=>n≤m.world.drawn
 | .ended _ _=>True
def mlo(n:Nat):Move→Prop
 | .goroutine m _=>n≤m.world.drawn
 | .machine s _=>slo n s
theorem M5{n k:Nat}(h:n≤k){s:GStep}(hs:glo k s):glo n s:=by
 cases s <;> first | trivial | exact Nat.le_trans h hs
theorem A88{n k:Nat}(h:n≤k){s:Stepped}(hs:slo k s):slo n s:=by
 cases s <;> first | trivial | exact Nat.le_trans h hs
theorem Ai9{n k:Nat}(h:n≤k){s:Move}(hs:mlo k s):mlo n s:=by
 cases s with
 | goroutine m i=>exact Nat.le_trans h hs
 | machine s ops=>exact A88 h hs
theorem R1(n:Nat)(es:Array Event)(s:GStep):glo n (GStep.after es s)=glo n s:=by cases s <;> rfl
theorem Aa2{α:Type}:∀(x:Ask α) (w:World),w.drawn≤(w.ask x).2.drawn
 | .done a,w=>Nat.le_refl _
 | .ask what range k,w=>by
  unfold World.ask
  simp only
  split
  ·exact Aa2 (k 0) w
  ·exact Nat.le_trans (Nat.le_succ _) (Aa2 _ { w with drawn:=w.drawn+1 })
theorem Ax4(w:World)(c:Sys):w.drawn≤(w.sys c).2.drawn:=by
 unfold World.sys
 have h:=Aa2 (Kernel.perform c w.os) w
 split
 ·exact Nat.le_refl _
 ·rename_i heq
  rw[heq]at h
  exact h
theorem B4s{p:Program}{w:World}{a k:Addr}{u:TypeId}{v:Value}{t:Bool}{r:World×List Addr}(h:w.viewStore p a u k v t=.ok r):r.1.drawn=w.drawn:=by
 unfold World.viewStore at h
 simp only [bind,Except.bind,pure,Except.pure,throw,throwThe,MonadExceptOf.throw]at h
 repeat' (split at h)
 all_goals first | (cases h;done) | (cases h;rfl) | (injection h with h;subst h;rfl)
theorem Ax5{p:Program}{w w':World}{a:Addr}{v:Value}{t:Bool}{l:List Addr}(h:w.farStore p a v t=.ok (w',l)):w'.drawn=w.drawn:=by
 unfold World.farStore at h
 split at h
 ·split at h
  ·rename_i r heq
   injection h with h
   subst h
   exact B4s heq
  ·cases h
 ·cases h
theorem A60(w:World)(a:Addr)(n:Nat):(w.freeze a n).drawn=w.drawn:=by
 unfold World.freeze
 split <;> rfl
theorem Ax6{α:Type}{n k:Nat}(h:n≤k){r:Result α}(hr:rlo k r):rlo n r:=by cases r <;> exact Nat.le_trans h hr
theorem Aa3{α:Type}(p:Program)(s:Sem α):∀ w:World,rlo w.drawn (s.run p w):=by
 induction s with
 | pure a=>intro w;exact Nat.le_refl _
 | load m a k ih =>
  intro w
  unfold Sem.run
  split
  ·exact ih _ w
  ·split
   ·exact ih _ w
   ·exact Nat.le_refl _
 | store m a v k ih =>
  intro w
  have far:rlo w.drawn (match w.cell? a with
   | some _=>if w.frozen? a then Result.halt (.unsupported (.unsafePointer "a write to bytes that a string shares")) w else k.run p (w.setCell a v)
   | none=>match w.farStore p a v (m == .atomic)with
    | .ok (w,_)=>k.run p w
    | .error h=>Result.halt h w):=by
   split
   ·split
    ·exact Nat.le_refl _
    ·exact ih (w.setCell a v)
   ·split
    ·rename_i heq
     have:=ih ‹World›
     have e:=Ax5 heq
     rw[e]at this
     exact this
    ·exact Nat.le_refl _
  cases v <;> first | exact far | exact Nat.le_refl _
 | new o k ih=>intro w;exact ih w.heap.size { w with heap:=w.heap.push o }
 | shape r k ih=>intro w;exact ih _ w
 | freeze a n k ih=>intro w;have:=ih (w.freeze a n);rw[A60]at this;exact this
 | frozen a k ih=>intro w;exact ih _ w
 | getObj r k ih =>
  intro w
  unfold Sem.run
  split
  ·exact Nat.le_refl _
  ·exact ih _ w
  ·exact Nat.le_refl _
 | setObj r o k ih =>
  intro w
  unfold Sem.run
  split
  ·exact Nat.le_refl _
  ·exact ih { w with heap:=w.heap.setIfInBounds r o }
  ·exact Nat.le_refl _
 | choose q k ih =>
  intro w
  unfold Sem.run
  split
  ·exact ih _ w
  ·exact Ax6 (Nat.le_succ _) (ih _ { w with drawn:=w.drawn+1 })
 | sys c k ih=>intro w;exact Ax6 (Ax4 w c) (ih _ (w.sys c).2)
 | program k ih=>intro w;exact ih p w
 | mark m k ih=>intro w;exact ih w
 | halt h=>intro w;exact Nat.le_refl _
theorem M0{α:Type}(p:Program)(s:Sem α):∀(w:World) (es:Array Event),rlo w.drawn (s.runT p w es).1:=by
 induction s with
 | pure a=>intro w es;exact Nat.le_refl _
 | load m a k ih =>
  intro w es
  unfold Sem.runT
  split
  ·exact ih _ w _
  ·split
   ·exact ih _ w _
   ·exact Nat.le_refl _
 | store m a v k ih =>
  intro w es
  have far:rlo w.drawn (match w.cell? a with
   | some _=>if w.frozen? a then((Result.halt (.unsupported (.unsafePointer "a write to bytes that a string shares")) w,es):Result _×Array Event)else k.runT p (w.setCell a v) (es.push (⟨.cell a,true,m == Mode.atomic⟩:Event))
   | none=>match w.farStore p a v (m == Mode.atomic)with
    | .ok (w,touched)=>k.runT p w (es++touched.toArray.map (fun x=>(⟨.cell x,true,m == Mode.atomic⟩:Event)))
    | .error h=>(Result.halt h w,es)).1:=by
   split
   ·split
    ·exact Nat.le_refl _
    ·exact ih (w.setCell a v) _
   ·split
    ·rename_i heq
     have:=ih ‹World› (es++(‹List Addr›).toArray.map (fun x=>(⟨.cell x,true,m == Mode.atomic⟩:Event)))
     have e:=Ax5 heq
     rw[e]at this
     exact this
    ·exact Nat.le_refl _
  cases v <;> first | exact far | exact Nat.le_refl _
 | new o k ih=>intro w es;exact ih w.heap.size { w with heap:=w.heap.push o } es
 | shape r k ih=>intro w es;exact ih _ w es
 | freeze a n k ih=>intro w es;have:=ih (w.freeze a n) es;rw[A60]at this;exact this
 | frozen a k ih=>intro w es;exact ih _ w es
 | getObj r k ih =>
  intro w es
  unfold Sem.runT
  split
  ·exact Nat.le_refl _
  ·exact ih _ w _
  ·exact Nat.le_refl _
 | setObj r o k ih =>
  intro w es
  unfold Sem.runT
  split
  ·exact Nat.le_refl _
  ·exact ih { w with heap:=w.heap.setIfInBounds r o } _
  ·exact Nat.le_refl _
 | choose q k ih =>
  intro w es
  unfold Sem.runT
  split
  ·exact ih _ w es
  ·exact Ax6 (Nat.le_succ _) (ih _ { w with drawn:=w.drawn+1 } es)
 | sys c k ih=>intro w es;exact Ax6 (Ax4 w c) (ih _ (w.sys c).2 _)
 | program k ih=>intro w es;exact ih p w es
 | mark m k ih=>intro w es;exact ih w _
 | halt h=>intro w es;exact Nat.le_refl _
theorem O0{α:Type}{p:Program}{s:Sem α}{w w':World}{a:α}(h:s.run p w=.ok a w'):w.drawn≤w'.drawn:=by have:=Aa3 p s w;rw[h]at this;exact this
theorem B8z{α:Type}{p:Program}{s:Sem α}{w w':World}{a:Halt}(h:s.run p w=.halt a w'):w.drawn≤w'.drawn:=by have:=Aa3 p s w;rw[h]at this;exact this
theorem Aa4{α:Type}{p:Program}{s:Sem α}{w w':World}{a:α}{es es':Array Event}(h:s.runT p w es=(.ok a w',es')):w.drawn≤w'.drawn:=by have:=M0 p s w es;rw[h]at this;exact this
theorem Aj0{α:Type}{p:Program}{s:Sem α}{w w':World}{a:Halt}{es es':Array Event}(h:s.runT p w es=(.halt a w',es')):w.drawn≤w'.drawn:=by have:=M0 p s w es;rw[h]at this;exact this
theorem Y9{α:Type}{p:Program}{s:Sem α}{w w':World}{a:α}{es:Array Event}(h:(s.runT p w es).1=.ok a w'):w.drawn≤w'.drawn:=by have:=M0 p s w es;rw[h]at this;exact this
theorem B15{α:Type}{p:Program}{s:Sem α}{w w':World}{a:Halt}{es:Array Event}(h:(s.runT p w es).1=.halt a w'):w.drawn≤w'.drawn:=by have:=M0 p s w es;rw[h]at this;exact this
theorem A61{α:Type}{o:Option α}{n:Nat}{a:GStep}{f:α→GStep}(h:glo n a)(hf:∀ x,glo n (f x)):glo n (o.elim a f):=by cases o <;> first | exact h | exact hf _
theorem Aa5{n:Nat}{es:Array Event}{s:GStep}(h:glo n s):glo n (GStep.after es s):=by rw[R1];exact h
theorem K8(p:Program)(main:Bool)(fr:Frame)(cs:List Frame)(d:Option Dying)(v:Value)(w:World):glo w.drawn (doReturn p main fr cs d v w):=by
 unfold doReturn
 repeat' split
 all_goals first | trivial | exact Nat.le_refl _
theorem B90(fr:Frame)(l:List ByteArray)(m:String)(b:Bool)(w:World):glo w.drawn (dieOf fr l m b w):=Nat.le_refl _
theorem M9(fr:Frame)(m:String)(w:World):glo w.drawn (endThrow fr m w):=Nat.le_refl _
theorem B16(n:Nat)(w:World)(fd:Nat)(t:ByteArray)(o:Outcome):glo n (endWith w fd t o):=by
 unfold endWith
 simp only
 repeat' split
 all_goals trivial
theorem A18(p:Program)(fr:Frame)(v:Value)(w:World):glo w.drawn (endPrinting p fr v w):=by
 unfold endPrinting
 simp only
 split
 ·exact M9 _ _ _
 ·trivial
theorem A62(p:Program)(fr:Frame)(cs:List Frame)(d:Option Dying)(m:String)(w:World):glo w.drawn (endFatal p fr cs d m w):=by
 unfold endFatal
 simp only
 split
 ·rename_i h
  exact M5 (O0 h) (B90 _ _ _ _ _)
 ·trivial
 ·trivial
theorem B17(p:Program)(fr:Frame)(d:Dying)(f:Fatal)(w:World):glo w.drawn (writeOn p fr d f w):=by
 unfold writeOn
 simp only
 split
 ·trivial
 ·split
  ·rename_i h;exact Aa4 h
  ·rename_i h;exact Aj0 h
  ·trivial
  ·trivial
theorem die_lo(p:Program)(fr:Frame)(d:Dying)(w:World):glo w.drawn (die p fr d w):=by
 unfold die
 split
 ·exact B17 _ _ _ _ _
 ·split
  ·split
   ·exact Nat.le_refl _
   ·exact B16 _ _ _ _ _
  ·simp only
   split
   ·exact Nat.le_refl _
   ·split
    ·rename_i h;exact O0 h
    ·trivial
   ·rw[R1]
    have h:=M0 p (invoke (.fn (.method ‹String›) #[]) #[.iface ‹TypeId› ‹Value›]) w #[]
    split <;> first | trivial | (rename_i k;rw[k]at h;first | exact h | exact M5 h (A18 _ _ _ _))
   ·trivial
theorem A63(p:Program)(fr:Frame)(cs:List Frame)(dy:Option Dying)(d:Deferred)(w:World):glo w.drawn (callDeferred p fr cs dy d w):=by
 unfold callDeferred
 by_cases hc:((match d.target with | .nil=>true | _=>false) && (match fr.mode with | .panicking _=>true | _=>false))=true
 ·exact(congrArg (glo w.drawn) (if_pos hc)).mpr trivial
 ·refine(congrArg (glo w.drawn) (if_neg hc)).mpr ?_
  simp only [R1]
  have h:=M0 p (invoke d.target d.args) w #[]
  generalize (invoke d.target d.args).runT p w #[]=r at h ⊢
  obtain⟨r,es⟩:=r
  simp only at h ⊢
  cases r with
  | ok a w' =>
   have h:w.drawn≤w'.drawn:=h
   cases a with
   | coroswitch c b=>cases b <;> first | trivial | exact h
   | alone b v=>cases b <;> first | trivial | exact h
   | _=>(try simp only) <;>(repeat' split) <;> first | trivial | exact h
  | halt e w' =>
   have h:w.drawn≤w'.drawn:=h
   cases e <;>(try simp only) <;>(repeat' split) <;> first | trivial | exact h | exact M5 h (A62 _ _ _ _ _ _) | exact M5 h (M9 _ _ _)
theorem B4t(p:Program)(main:Bool)(fr:Frame)(cs:List Frame)(d:Option Dying)(w:World):glo w.drawn (unwind p main fr cs d w):=by
 unfold unwind
 split
 ·simp only [R1]
  split
  ·rename_i h
   have:=M0 p (Instr.takeDeferred ‹Nat›) w #[]
   rw[h]at this
   exact this
  ·trivial
 ·exact A63 _ _ _ _ _ _
 ·split
  ·trivial
  ·split
   ·trivial
   ·split
    ·exact Nat.le_refl _
    ·split
     ·split
      ·exact Nat.le_refl _
      ·split
       ·rename_i h;exact O0 h
       ·trivial
       ·trivial
     ·split
      ·exact A18 _ _ _ _
      ·trivial
  ·split
   ·exact K8 _ _ _ _ _ _ _
   ·simp only [R1]
    rename_i fn hfn
    have h:=M0 p (results fn fr.tmps) w #[]
    split <;> first | trivial | (rename_i k;rw[k]at h;exact M5 h (K8 _ _ _ _ _ _ _))
theorem B91(p:Program)(fr:Frame)(cs:List Frame)(d:Option Dying)(g:Nat)(w:World):glo w.drawn (early p fr cs d g w):=by
 have nt:∀ w:World,glo w.drawn (match w.heap[g]? with
   | some (.pending c elem)=>GStep.go { frame:=fr,callers:=cs,status:=.running,dying:=d } { w with heap:=w.heap.setIfInBounds g (.cells c elem) }
   | _=>.ended (.stuck "early: the variable does not wait" (fr.pos p)) w):=by
  intro w
  split
  ·exact Nat.le_refl _
  ·trivial
 unfold early
 simp only
 split
 ·exact nt w
 ·split
  ·trivial
  ·split
   ·exact nt w
   ·split
    ·exact nt w
    ·split
     ·trivial
     ·exact Nat.le_refl _
     ·trivial
     ·exact nt w
     ·split
      ·exact Nat.le_refl _
      ·split
       ·exact nt w
       ·split
        ·rename_i h;exact M5 (O0 h) (nt _)
        ·rename_i h;exact O0 h
        ·trivial
theorem Z0(p:Program)(listen:Bool)(fr:Frame)(cs:List Frame)(d:Option Dying)(s:Sem Next)(w:World):glo w.drawn (stepG.apply p listen fr cs d s w):=by
 unfold stepG.apply
 simp only [R1]
 have h:rlo w.drawn (if listen=true then s.runT p w #[]else(s.run p w,#[])).1:=by
  split
  ·exact M0 p s w #[]
  ·exact Aa3 p s w
 generalize (if listen=true then s.runT p w #[]else(s.run p w,#[]))=r at h ⊢
 obtain⟨r,es⟩:=r
 simp only at h ⊢
 cases r with
 | halt hh w' =>
  cases hh with
  | unsupported u=>cases u <;> first | trivial | exact M5 h (B91 _ _ _ _ _ _)
  | _=>(try simp only) <;> first | trivial | exact h | exact M5 h (A62 _ _ _ _ _ _) | exact M5 h (M9 _ _ _)
 | ok a w' =>
  cases a <;>(try simp only) <;>(repeat' split) <;> first
   | trivial
   | exact h
   | exact M5 h (M9 _ _ _)
theorem Bn6(p:Program)(listen:Bool)(fr:Frame)(cs:List Frame)(d:Option Dying)(w:World):glo w.drawn (stepG.oper p listen fr cs d w):=by
 unfold stepG.oper
 split
 ·trivial
 ·split
  ·exact Z0 _ _ _ _ _ _ _
  ·exact Z0 _ _ _ _ _ _ _
theorem Bn7(p:Program)(main listen:Bool)(fr:Frame)(cs:List Frame)(d:Option Dying)(w:World):glo w.drawn (stepG.exec p main listen fr cs d w):=by
 unfold stepG.exec
 simp only [R1]
 repeat' split
 all_goals first
  | trivial
  | exact Nat.le_refl _
  | exact Z0 _ _ _ _ _ _ _
  | exact Bn6 _ _ _ _ _ _
  | exact O0 ‹_›
  | exact Aa4 ‹_›
  | exact Aj0 ‹_›
  | exact M5 (Aa4 ‹_›) (K8 _ _ _ _ _ _ _)
  | exact M5 (Aa4 ‹_›) (Z0 _ _ _ _ _ _ _)
  | exact Y9 ‹_›
  | exact B15 ‹_›
  | exact M5 (Y9 ‹_›) (K8 _ _ _ _ _ _ _)
  | exact Aa5 (M5 (Y9 ‹_›) (K8 _ _ _ _ _ _ _))
  | exact M5 (Y9 ‹_›) (Z0 _ _ _ _ _ _ _)
  | exact A61 trivial (fun _=>Nat.le_refl _)
  | exact A61 (Nat.le_refl _) (fun _=>Nat.le_refl _)
  | exact A61 trivial (fun _=>Z0 _ _ _ _ _ _ _)
  | exact A61 (Aa5 (M5 (Y9 ‹_›) (K8 _ _ _ _ _ _ _))) (fun _=>Nat.le_refl _)
  | exact A61 (M5 (Y9 ‹_›) (K8 _ _ _ _ _ _ _)) (fun _=>Nat.le_refl _)
  | exact Aa5 (M5 (Y9 ‹_›) (Z0 _ _ _ _ _ _ _))
theorem B92(p:Program)(main:Bool)(g:Goroutine)(w:World)(listen:Bool):glo w.drawn (stepG p main g w listen):=by
 unfold stepG
 simp only
 split
 ·exact die_lo _ _ _ _
 ·exact Bn7 _ _ _ _ _ _ _
 ·exact B4t _ _ _ _ _ _
theorem B18{rest:Rest}{cases:Array CommCase}{w w':World}(h:waitingAt rest cases w=some w'):w'.drawn=w.drawn:=by
 unfold waitingAt at h
 split at h
 ·split at h
  ·injection h with h;subst h;rfl
  ·cases h
 ·injection h with h;subst h;rfl
theorem Bn8(p:Program)(rest:Rest)(gs:Array Goroutine)(i:Nat)(g:Goroutine)(cases:Array CommCase)(b:Bool)(shape:CommShape)(w:World):slo w.drawn (communicate p rest gs i g cases b shape w).1:=by
 unfold communicate
 simp only
 split
 ·trivial
 ·split
  ·split
   ·split
    ·rename_i h;have:=B18 h;exact Nat.le_of_eq this.symm
    ·trivial
   ·exact Nat.le_refl _
  ·split
   ·trivial
   ·rename_i h
    have h1:=O0 h
    split
    ·split <;> first | trivial | (rename_i h2;have h3:=B8z h2;exact Nat.le_trans h1 h3)
    ·exact h1
    ·exact h1
    ·split
     ·exact h1
     ·split <;> first | trivial | (rename_i h2;have h3:=O0 h2;exact Nat.le_trans h1 h3)
    ·exact h1
    ·exact h1
    ·trivial
theorem B4u(p:Program)(gs:Array Goroutine)(rest:Rest)(w:World):slo w.drawn (Go.look p gs rest w):=by
 unfold Go.look
 split
 ·simp only
  split
  ·trivial
  ·split
   ·trivial
   ·split <;> first | trivial | (rename_i h2;have h3:=O0 h2;exact h3)
 ·trivial
theorem B93(w:World)(c:Nat):(drain w c).2.drawn=w.drawn:=by
 unfold drain
 split <;> rfl
theorem Aj1(m:Machine)(k:Nat)(t:Timer)(a b:Nat):(retime m k t a b).2.world.drawn=m.world.drawn:=by
 unfold retime
 simp only
 split
 ·exact B93 _ _
 ·rfl
theorem Ax7{m:Machine}{var:Addr}{f:Nat→Timer→Value×Machine}{v:Value}{m':Machine}{n:Nat}(hf:∀ k t,(f k t).2.world.drawn=n)(h:timerOp.named m var f=.ok (v,m')):m'.world.drawn=n:=by
 unfold timerOp.named at h
 split at h
 ·injection h with h
  have:=hf ‹Nat› (m.rest.timers.getD ‹Nat› default)
  rw[h]at this
  exact this
 ·cases h
theorem B4v{m m':Machine}{var:Addr}(h:timerOp.opened m var=some m'):m'.world.drawn=m.world.drawn:=by
 unfold timerOp.opened at h
 split at h
 ·split at h
  ·injection h with h;subst h;rfl
  ·cases h
 ·injection h with h;subst h;rfl
theorem B19{m m':Machine}{op:TimerOp}{v:Value}(h:timerOp m op=.ok (v,m')):m'.world.drawn=m.world.drawn:=by
 unfold timerOp at h
 split at h
 ·split at h
  ·injection h with h;injection h with _ h;subst h;rfl
  ·split at h
   ·split at h
    ·cases h
    ·injection h with h;injection h with _ h;subst h;rfl
   ·cases h
 ·exact Ax7 (fun k t=>Aj1 _ _ _ _ _) h
 ·split at h
  ·rename_i h2
   rw[← B4v h2]
   exact Ax7 (fun k t=>Aj1 _ _ _ _ _) h
  ·cases h
 ·injection h with h;injection h with _ h;subst h;rfl
theorem B94(p:Program)(m:Machine)(k:Nat):slo m.world.drawn (serve p m k):=by
 unfold serve
 split
 ·trivial
 ·exact Nat.le_refl _
 ·simp only
  split
  ·trivial
  ·exact Nat.le_refl _
theorem Bn9(p:Program)(m:Machine)(i:Nat)(listen:Bool):slo m.world.drawn (Go.runT p m i listen).1:=by
 unfold Go.runT
 simp only
 have h:=B92 p (i == 0) (m.gs.swapAt! i { (default:Goroutine)with status:=.finished }).1 m.world listen
 generalize stepG p (i == 0) (m.gs.swapAt! i { (default:Goroutine)with status:=.finished }).1 m.world listen=s at h ⊢
 cases s with
 | ended o w=>trivial
 | comm g cases b shape w=>exact A88 h (Bn8 _ _ _ _ _ _ _ _ _)
 | go g w=>exact h
 | spawn g c w=>exact h
 | count g w =>
  simp only
  split
  ·trivial
  ·exact h
 | alone g on w=>exact h
 | collect g w=>exact A88 h (B4u _ _ _ _)
 | watch g w=>exact h
 | newcoro g c d w=>exact h
 | coroswitch g c e w =>
  simp only
  split
  ·exact h
  ·split
   ·rename_i k
    have:=M9 g.frame "coroswitch on exited coro" w
    rw[k]at this
    exact Nat.le_trans h this
   ·trivial
  ·trivial
 | timer g op w =>
  simp only
  split
  ·rename_i k
   have:=B19 k
   exact Nat.le_trans h (Nat.le_of_eq this.symm)
  ·split
   ·rename_i k
    have:=M9 g.frame ‹String› w
    rw[k]at this
    exact Nat.le_trans h this
   ·trivial
  ·trivial
  ·trivial
theorem Aq0 (p : Program) (rs : List Nat) (m : Machine) : mlo m.world.drawn (match (choose (.sched rs.length) : Sem Nat).run p m.world with
      | .halt _ w=>Move.machine (.ended (.stuck "sched" "") w)
      | .ok k world =>
        if rs.length≤1 then .goroutine { m with world } (rs.getD k 0)else
        match (choose (.extern "sched.slice" 65536):Sem Nat).run p world with
        | .halt _ w=>.machine (.ended (.stuck "sched.slice" "") w)
        | .ok n world => .goroutine { m with world, rest := { m.rest with slice := if n = 0 then none else some (rs.getD k 0, n) } } (rs.getD k 0)) := by
  split
  · trivial
  · rename_i h
    have h1:=O0 h
    split
    · exact h1
    · split
      · trivial
      · rename_i h2
        have h3:=O0 h2
        exact Nat.le_trans h1 h3
theorem adv_lo{m:Machine}{t:Nat}{s:Move}(h:mlo (m.advanceTo t).world.drawn s):mlo m.world.drawn s:=h
theorem Aa6(p:Program)(m:Machine):mlo m.world.drawn (askOn p m):=by
 unfold askOn
 simp only
 split
 ·trivial
 ·rename_i h
  have h1:=O0 h
  split
  ·exact A88 h1 (B94 p { m with world:=‹World› } _)
  ·split
   ·split
    ·exact h1
    ·split
     ·exact h1
     ·split <;> trivial
   ·split
    ·exact Ai9 h1 (Aq0 p _ { m with world:=‹World› })
    ·split
     ·trivial
     ·rename_i h2
      have h3:=O0 h2
      exact Ai9 (Nat.le_trans h1 h3) (Aq0 p _ { m with world:=‹World› })
     ·rename_i h2
      have h3:=O0 h2
      exact Nat.le_trans h1 h3
     ·rename_i h2
      have h3:=O0 h2
      exact Ai9 (Nat.le_trans h1 h3) (adv_lo (Aq0 p _ _))
theorem Be2(p:Program)(m:Machine):mlo m.world.drawn (ask p m):=by
 unfold ask
 split
 ·split
  ·trivial
  ·rename_i h
   have h1:=O0 h
   have h2:=B4u p m.gs m.rest ‹World›
   split
   ·rename_i k
    rw[k]at h2
    exact Ai9 (Nat.le_trans h1 h2) (Aa6 _ _)
   ·exact A88 h1 h2
  ·rename_i h
   exact Ai9 (O0 h) (Aa6 p { m with world:=‹World› })
 ·exact Aa6 _ _
theorem Bo0(p:Program)(m:Machine):mlo m.world.drawn (move p m):=by
 unfold move
 split
 ·split
  ·exact Nat.le_refl _
  ·trivial
 ·split
  ·split
   ·exact Nat.le_refl _
   ·exact Be2 p { m with rest:={ m.rest with slice:=none } }
  ·exact Be2 _ _
theorem Bo1(p:Program)(m:Machine):slo m.world.drawn (step p m):=by
 unfold step stepT
 have h:=Bo0 p m
 split
 ·rename_i k;rw[k]at h;exact A88 h (Bn9 _ _ _ _)
 ·rename_i k;rw[k]at h;exact h
theorem Ax8{p:Program}{m m':Machine}(h:Steps p m m'):m.world.drawn≤m'.world.drawn:=by
 obtain⟨n,h⟩:=h
 induction n generalizing m with
 | zero=>simp only [runN]at h;injection h with h;subst h;exact Nat.le_refl _
 | succ n ih =>
  simp only [runN]at h
  have h1:=Bo1 p m
  split at h
  ·rename_i k;rw[k]at h1;exact Nat.le_trans h1 (ih h)
  ·rename_i k;rw[h]at k;exact absurd rfl (k _)
theorem B95{P:Program}{f:FuncId}{args:Array Value}{w:World}{R:Ending→World→Prop}(hR:∀ w',¬ R .outgrown w')(h:Calls P f args w R):Calls P f args w fun e w'=>R e w'∧w.drawn≤w'.drawn:=by
 intro cs
 obtain⟨e,w',fr,h1,h2,h3,h4⟩:=h cs
 refine⟨e,w',fr,⟨h1,?_⟩,h2,h3,h4⟩
 cases e with
 | returned v=>exact Ax8 h2
 | panicked c=>exact Ax8 h2
 | outgrown=>exact absurd h1 (hR _)
end Go.E
namespace Go.E
open Go Go.Sort Go.RowKit Go.Lib Go.Shelf Go.Proofs
structure TotC {β:Type} (c:β→β→Int):Prop where
 neg:∀ x y,c x y < 0↔0 < c y x
 tr:∀ x y z,c x y≤0→c y z≤0→c x z≤0
 anti:∀ x y,c x y=0→x=y
theorem TotC.self{β:Type}{c:β→β→Int}(h:TotC c)(x:β):c x x=0:=by
 have:=h.neg x x
 omega
theorem TotC.swo{β:Type}{c:β→β→Int}(h:TotC c):SWO (ltOf c):=by
 refine⟨fun x=>?_,fun x y z h1 h2=>?_,fun x y z h1 h2=>?_⟩
 ·unfold ltOf
  rw[decide_eq_false_iff_not,h.self x]
  omega
 ·unfold ltOf at *
  rw[decide_eq_true_iff]at *
  have h3:=h.tr x y z (by omega) (by omega)
  apply Classical.byContradiction
  intro h4
  have e:=h.anti x z (by omega)
  subst e
  have:=(h.neg x y).1 h1
  omega
 ·unfold ltOf at *
  rw[decide_eq_false_iff_not]at *
  have a1:=h.neg x y
  have a2:=h.neg y z
  have a3:=h.neg x z
  have b1:=h.neg y x
  have b2:=h.neg z y
  have b3:=h.neg z x
  have:=h.tr z y x (by omega) (by omega)
  omega
def B96{β:Type}(c:β→β→Int)(l:List β):List β:=l.mergeSort (fun x y=>decide (c x y≤0))
def risO{β:Type}(c:β→β→Int)(l:List β):Prop:=l.Pairwise fun x y=>c x y≤0
theorem R2{β:Type}(c:β→β→Int)(l:List β):(B96 c l).Perm l:=List.mergeSort_perm _ _
theorem Ax9{β:Type}{c:β→β→Int}(h:TotC c)(l:List β):risO c (B96 c l):=by
 have:=List.pairwise_mergeSort (le:=fun x y=>decide (c x y≤0)) (fun x y z h1 h2=>by
  rw[decide_eq_true_iff]at *
  exact h.tr x y z h1 h2) (fun x y=>by
  rw[Bool.or_eq_true,decide_eq_true_iff,decide_eq_true_iff]
  have:=h.neg x y
  have:=h.neg y x
  omega) l
 exact this.imp fun h=>of_decide_eq_true h
theorem Bo2{β:Type}{c:β→β→Int}(h:TotC c){a b:List β}(hp:a.Perm b)(ha:risO c a)(hb:risO c b):a=b :=
 List.Perm.eq_of_pairwise (le:=fun x y=>c x y≤0) (fun x y _ _ h1 h2=>by
  apply h.anti
  have:=h.neg x y
  have:=h.neg y x
  omega) ha hb hp
theorem Bo3{β:Type}{c:β→β→Int}(h:TotC c){a l:List β}(hp:a.Perm l)(ha:risO c a):a=B96 c l:=Bo2 h (hp.trans (R2 c l).symm) ha (Ax9 h l)
section
variable {P : Program} {ρ : Ren} {β : Type} {enc : β → List AV} {k : Nat} {S : Nat → Prop} {w : World}
structure Cel (enc:β→List AV) (k:Nat) (S:Nat→Prop) (w:World) where
 el:β
 vs:List Value
 len:vs.length=k
 one:∀ u∈vs,u.oneCell'=true
 rel:∀(j:Nat) (a:AV) (u:Value),(enc el)[j]?=some a→vs[j]?=some u→RelV0 S w a u
theorem cels(hk:∀ x,(enc x).length=k):∀(l:List β) (xs:List Value),xs.length=l.length*k→(∀ u∈xs,u.oneCell'=true) →
  (∀(j:Nat) (a:AV) (u:Value),(l.map enc).flatten[j]?=some a→xs[j]?=some u→RelV0 S w a u) →
  ∃ ds:List (Cel enc k S w),ds.map Cel.el=l∧(ds.map Cel.vs).flatten=xs
 | [],xs,h,_,_=>⟨[],rfl,(List.eq_nil_of_length_eq_zero (by simpa using h)).symm⟩
 | x :: l,xs,h,h1,h2=>by
  rw[List.length_cons,Nat.succ_mul]at h
  obtain⟨ds,e1,e2⟩:=cels hk l (xs.drop k) (by rw[List.length_drop];omega) (fun u hu=>h1 u (List.mem_of_mem_drop hu)) (fun j a u ha hu=>by
   refine h2 (k+j) a u ?_ (by rw[List.getElem?_drop]at hu;exact hu)
   rw[List.map_cons,List.flatten_cons,List.getElem?_append_right (by rw[hk];omega),hk,Nat.add_sub_cancel_left]
   exact ha)
  refine⟨⟨x,xs.take k,by rw[List.length_take];omega,fun u hu=>h1 u (List.mem_of_mem_take hu),fun j a u ha hu=>?_⟩ :: ds,by rw[List.map_cons,e1],by rw[List.map_cons,List.flatten_cons,e2];exact List.take_append_drop k xs⟩
  have hj:j < k:=by
   have:=(List.getElem?_eq_some_iff.1 ha).1
   rwa [hk]at this
  refine h2 j a u ?_ (by rw[List.getElem?_take,if_pos hj]at hu;exact hu)
  rw[List.map_cons,List.flatten_cons,List.getElem?_append_left (by rw[hk];exact hj)]
  exact ha
theorem Aa7{W W':World}(hb:Below W.heap.size W W')(hd:W.drawn≤W'.drawn):∃ q os,W'=grow (W.drewN q) os:=by
 refine⟨W'.drawn-W.drawn,W'.heap.extract W.heap.size W'.heap.size,?_⟩
 have hh:W'.heap=W.heap++W'.heap.extract W.heap.size W'.heap.size:=by
  apply Array.ext'
  rw[Array.toList_append,Array.toList_extract]
  apply List.ext_getElem?
  intro i
  by_cases hi:i < W.heap.size
  ·rw[List.getElem?_append_left (by simpa using hi)]
   have:=hb.block i hi
   simpa using this
  ·rw[List.getElem?_append_right (by simpa using hi)]
   simp only [List.extract,Array.length_toList,List.getElem?_take,List.getElem?_drop]
   have hs:=hb.size
   have e2:W.heap.size+(i-W.heap.size)=i:=by omega
   rw[e2]
   split
   ·rfl
   ·rw[List.getElem?_eq_none (by simp;omega)]
 have h1:=hb.os
 have h2:=hb.tape
 have h3:=hb.output
 have h4:W.drawn+(W'.drawn-W.drawn)=W'.drawn:=by omega
 cases W' with
 | mk heap tape drawn os output =>
  simp only [World.drewN,grow]at *
  subst h1 h2 h3
  rw[← hh,h4]
set_option maxHeartbeats 1000000 in
/-- slices.SortFunc at a row of one's own whose cells lead on. -/
theorem B1a (L:SlLaysF0.n6 P ρ) (hcal:E6 P (ρ.f 6)) (g ty:Nat) (eg:∀ args w,(callFunc g args).run P w=.ok (.enter g args) w)
  (aE:∀ w,(isAgg (ρ.t 24)).run P w=.ok true w) (zE:∀ w,(Go.sizeOf (ρ.t 24)).run P w=.ok k w) (hk:∀ x,(enc x).length=k) (cf:β→β→Int) (hO:TotC cf)
  (hcon:∀ x y:β,Con P g [.agg (enc x),.agg (enc y)] (.i .i64 (cf x y))) (l:List β) (hlen:l.length < 4611686018427387904) :
  Z5 P (ρ.f 6) g none false ty k (l.map enc) ((B96 cf l).map enc):=by
 have hsz:∀ m:List β,∀ r∈m.map enc,r.length=k:=fun m r hr=>by obtain⟨x,_,rfl⟩:=List.mem_map.1 hr;exact hk x
 refine⟨hcal,by rw[List.length_map,List.length_map,(R2 cf l).length_eq],hsz _,fun w base v cv S xs hS hb ho hx1 hxr _=>?_⟩
 rw[List.length_map]at ho ⊢
 simp only [Bool.false_eq_true,if_false,B1w]
 obtain⟨ds,e1,e2⟩:=cels (S:=S) (w:=w) hk l xs ho.1 hx1 hxr
 have hl:ds.length=l.length:=by rw[← e1,List.length_map]
 rcases ho.2 with⟨rfl,h0⟩ | ⟨b,cap,cur,rfl,hb',hh,h1,h2,h3,h4⟩
 ·have:l=[]:=List.eq_nil_of_length_eq_zero h0
  subst this
  refine(AnyF.slices_SortFunc_none (P:=P) (ρ:=ρ) L none 0 _ w).mono ?_
  rintro e' w' ⟨rfl,rfl⟩
  have e0:B96 cf ([]:List β)=[]:=List.eq_nil_of_length_eq_zero (by rw[(R2 cf []).length_eq];rfl)
  rw[e0]
  exact⟨rfl,[],⟨by simp,.inl ⟨rfl,rfl⟩⟩,fun u hu=>by simp at hu,fun j a u ha hu=>by simp at hu,fun j _ _=>rfl,rfl,rfl,rfl,Nat.le_refl _⟩
 ·have hbl:b < w.heap.size:=(Array.getElem?_eq_some_iff.1 hh).1
  by_cases hn:l.length=0
  ·have:l=[]:=List.eq_nil_of_length_eq_zero hn
   subst this
   refine(AnyF.slices_SortFunc_none (P:=P) (ρ:=ρ) L (some ⟨b,0,none⟩) cap _ w).mono ?_
   rintro e' w' ⟨rfl,rfl⟩
   have e0:B96 cf ([]:List β)=[]:=List.eq_nil_of_length_eq_zero (by rw[(R2 cf []).length_eq];rfl)
   rw[e0]
   have hxs:xs=[]:=List.eq_nil_of_length_eq_zero (by simpa using ho.1)
   subst hxs
   exact⟨rfl,[],ho,fun u hu=>by simp at hu,fun j a u ha hu=>by simp at hu,fun j _ _=>rfl,rfl,rfl,rfl,Nat.le_refl _⟩
  ·haveI:Inhabited (Cel enc k S w):=⟨ds[0]'(by omega)⟩
   have hvk:∀ x:Cel enc k S w,x.vs.length=k:=fun x=>x.len
   have hv1:∀ x:Cel enc k S w,∀ v∈x.vs,v.oneCell'=true:=fun x=>x.one
   rw[← e2]at ho
   have hnb:∀ j,S j→j≠b:=fun j hj e=>hb j (by rw[e];rfl) hj
   have hHd:HoldsK Cel.vs k w b 0 ds.toArray:=P5 hvk ho (by simp [hl]) (by simp)
   have hSW:SWO (ltOf fun x y:Cel enc k S w=>cf x.el y.el):=⟨fun x=>hO.swo.irrefl _,fun x y z=>hO.swo.trans _ _ _,fun x y z=>hO.swo.ntrans _ _ _⟩
   have hcmp:CmpLays P g #[] Cel.vs k (fun x y:Cel enc k S w=>cf x.el y.el) b 0 ds.toArray.size w:=by
    intro m os dk hs x y
    have hF:Fam Cel.vs k b 0 w dk (sortWorldK Cel.vs k w b 0 m dk os):=⟨w.drawn+m,os,rfl⟩
    have hf:=hF.facts
    have hkeep:∀ j,S j→(sortWorldK Cel.vs k w b 0 m dk os).heap[j]?=w.heap[j]?:=fun j hj=>hf.2.2.2 j (hS j hj) (hnb j hj)
    have hc:=(hcon x.el y.el).2 (sortWorldK Cel.vs k w b 0 m dk os) S [.agg x.vs.toArray,.agg y.vs.toArray] (fun j hj=>Nat.lt_of_lt_of_le (hS j hj) hF.size) rfl (fun j a u ha hu=>by
     match j with
     | 0 =>
      simp only [List.getElem?_cons_zero,Option.some.injEq]at ha hu
      subst ha hu
      refine RelV0.agg _ _ (by rw[hvk,hk]) (hv1 x) fun j a u ha hu=>(x.rel j a u ha hu).mono (fun _ h=>h) hkeep
     | 1 =>
      simp only [List.getElem?_cons_succ,List.getElem?_cons_zero,Option.some.injEq]at ha hu
      subst ha hu
      refine RelV0.agg _ _ (by rw[hvk,hk]) (hv1 y) fun j a u ha hu=>(y.rel j a u ha hu).mono (fun _ h=>h) hkeep
     | n+2=>simp at ha)
    refine(B95 (fun w' h=>by obtain⟨v,hv,_⟩:=h;cases hv) hc).mono ?_
    rintro e' w' ⟨⟨v,rfl,hr,hbel⟩,hd⟩
    refine⟨?_,Aa7 hbel hd⟩
    cases hr
    rfl
   have hw:=AnyQ.slices_SortFunc (P:=P) (ρ:=ρ) L k aE zE Cel.vs hvk hv1 (fun x y:Cel enc k S w=>cf x.el y.el) hSW g #[] b 0 cap ds.toArray w eg hcmp hHd hbl (by simpa [hl]using hlen)
   have hsize:ds.toArray.size=l.length:=by simp [hl]
   rw[hsize]at hw
   refine hw.mono ?_
   rintro e' w' ⟨rfl,d',n,os,hper,hsor,hw'⟩
   have hF:Fam Cel.vs k b 0 w d' w':=⟨w.drawn+n,os,by rw[hw'];rfl⟩
   have f:=hF.facts
   obtain⟨hsz',_,hp⟩:=hper
   have e3:d'.extract 0 l.length=d':=by rw[← hsize,← hsz'];exact Array.extract_size
   have e4:ds.toArray.extract 0 l.length=ds.toArray:=by rw[← hsize];exact Array.extract_size
   rw[e3,e4]at hp
   have hpl:d'.toList.Perm ds:=by
    simpa using hp
   have hel:d'.toList.map Cel.el=B96 cf l:=by
    refine Bo3 hO ?_ ?_
    ·have:=hpl.map Cel.el
     rwa [e1]at this
    ·unfold risO
     rw[List.pairwise_map,List.pairwise_iff_getElem]
     intro i j hi hj hij
     rw[Array.length_toList]at hi hj
     have:=hsor i j (Nat.zero_le _) hij (by rw[hsz']at hj;simpa [hl]using hj)
     unfold ltOf at this
     rw[decide_eq_false_iff_not,getElem!_pos _ j hj,getElem!_pos _ i hi]at this
     rw[Array.getElem_toList,Array.getElem_toList]
     have this:¬ cf d'[j].el d'[i].el < 0:=this
     have a1:=hO.neg d'[j].el d'[i].el
     have a2:=hO.neg d'[i].el d'[j].el
     omega
   have ow:=hF.owns (d:=ds.toArray) hvk (by rw[hsz']) (by simp) (by simp [hl]) ho
   refine⟨rfl,(d'.toList.map Cel.vs).flatten,ow,fun u hu=>?_,fun j a u ha hu=>?_,fun j hj hjb=>f.2.2.2 j hj (fun e=>hjb (by rw[e];rfl)),f.1,f.2.1,f.2.2.1,hF.size⟩
   ·obtain⟨r,hr,hu⟩:=List.mem_flatten.1 hu
    obtain⟨x,_,rfl⟩:=List.mem_map.1 hr
    exact hv1 x u hu
   ·rw[← hel,List.map_map]at ha
    have hj:=(List.getElem?_eq_some_iff.1 hu).1
    rw[C5 (sz:=k) (fun r hr=>by obtain⟨x,_,rfl⟩:=List.mem_map.1 hr;exact hvk x),List.length_map]at hj
    have k0:0 < k:=Nat.pos_of_ne_zero fun h=>by
     have:d'.toList.length*k=0:=Nat.mul_eq_zero.2 (.inr h)
     omega
    have hq:j % k < k:=Nat.mod_lt _ k0
    have hi:j / k < d'.toList.length:=(Nat.div_lt_iff_lt_mul k0).2 hj
    have ej:j / k*k+j % k=j:=by rw[Nat.mul_comm];exact Nat.div_add_mod j k
    have g1:=F5 (sz:=k) (rows:=d'.toList.map Cel.vs) (fun r hr=>by obtain⟨x,_,rfl⟩:=List.mem_map.1 hr;exact hvk x) (j:=j / k) (q:=j % k) (r:=(d'.toList[j / k]).vs) (by rw[List.getElem?_map,List.getElem?_eq_getElem hi];rfl) hq
    have g2:=F5 (sz:=k) (rows:=d'.toList.map (enc ∘ Cel.el)) (fun r hr=>by obtain⟨x,_,rfl⟩:=List.mem_map.1 hr;exact hk _) (j:=j / k) (q:=j % k) (r:=enc (d'.toList[j / k]).el) (by rw[List.getElem?_map,List.getElem?_eq_getElem hi];rfl) hq
    rw[ej]at g1 g2
    rw[g1]at hu
    rw[g2]at ha
    exact((d'.toList[j / k]).rel _ _ _ ha hu).mono (fun _ h=>h) (fun q hq=>f.2.2.2 q (hS q hq) (hnb q hq))
end
end Go.E
namespace Go.Proofs.YtokhjapfekbobaaGreat
open Go.E
set_option maxRecDepth 100000
set_option maxHeartbeats 4000000
def Aa8{α:Type}(p:α→α→Bool):α→List α→List α
 | _,[]=>[]
 | a,b :: l=>if p b a then Aa8 p b l else b :: Aa8 p b l
def A7b{α:Type}(p:α→α→Bool):List α→List α
 | []=>[]
 | a :: l=>a :: Aa8 p a l
theorem Ay0{α:Type}(p:α→α→Bool)(x:α):∀(t:List α) (a:α),Aa8 p a (t++[x])=Aa8 p a t++(if p x ((a :: t).getLast (by simp))then[]else[x])
 | [],a=>rfl
 | b :: t,a=>by
  have ih:=Ay0 p x t b
  simp only [List.cons_append,Aa8,List.getLast_cons_cons]
  split
  ·exact ih
  ·rw[ih];rfl
theorem A0t{α:Type}[Inhabited α](p:α→α→Bool){l:List α}{j:Nat}(h1:1≤j)(hj:j < l.length):A7b p (l.take (j+1))=A7b p (l.take j)++(if p l[j]! l[j-1]! then[]else[l[j]!]):=by
 have e:l.take (j+1)=l.take j++[l[j]!]:=by rw[List.take_succ_eq_append_getElem hj,getElem!_pos l j hj]
 rw[e]
 cases hl:l.take j with
 | nil =>
  have:=congrArg List.length hl
  rw[List.length_take,List.length_nil]at this
  omega
 | cons a t =>
  have hlen:(a :: t).length=j:=by rw[← hl,List.length_take];omega
  have hlast:(a :: t).getLast (by simp)=l[j-1]!:=by
   rw[List.getLast_eq_getElem,getElem!_pos l (j-1) (by omega)]
   simp only [← hl,List.getElem_take]
   congr 1
   rw[hl,hlen]
  show a :: Aa8 p a (t++[l[j]!])=_
  rw[Ay0,hlast]
  rfl
theorem Ay1{α:Type}(p:α→α→Bool):∀(l:List α) (a:α),(Aa8 p a l).length≤l.length
 | [],a=>by simp [Aa8]
 | b :: l,a=>by
  simp only [Aa8]
  have:=Ay1 p l b
  split
  ·simp only [List.length_cons];omega
  ·simp only [List.length_cons];omega
theorem B4w{α:Type}(p:α→α→Bool)(l:List α):(A7b p l).length≤l.length:=by
 cases l with
 | nil=>simp [A7b]
 | cons a l=>simp only [A7b,List.length_cons];have:=Ay1 p l a;omega
theorem A3i{α:Type}[Inhabited α](p:α→α→Bool)(l:List α):∀ k:Nat,k≤l.length→(∀ j:Nat,1≤j→j < k→p l[j]! l[j-1]! = false)→A7b p (l.take k)=l.take k
 | 0,_,_=>by simp [A7b]
 | 1,hk,_=>by
  cases l with
  | nil=>simp at hk
  | cons a l=>simp [A7b,Aa8]
 | k+2,hk,h=>by
  rw[A0t p (by omega) (by omega),A3i p l (k+1) (by omega) (fun j h1 h2=>h j h1 (by omega)),h (k+1) (by omega) (by omega)]
  simp only [Bool.false_eq_true,if_false]
  rw[List.take_succ_eq_append_getElem (show k+1 < l.length by omega),getElem!_pos l (k+1) (by omega)]
def eqR(a b:Record):Bool:=decide (D6 a b=0)
def I1(l:List Record):List Record:=A7b eqR l
theorem B4x:∀(l:List Record) (a:Record),(a :: l).Pairwise (fun x y=>D6 x y≤0)→(∀ r∈a :: l,r.past=A5 r.past) →
  (∀ y∈Aa8 eqR a l,D6 a y < 0)∧upR (Aa8 eqR a l)∧∀ y,y∈a :: Aa8 eqR a l↔y∈a :: l
 | [],a,_,_=>⟨fun y hy=>(by cases hy),List.Pairwise.nil,fun y=>by simp [Aa8]⟩
 | b :: l,a,hp,hn=>by
  have h1:=List.pairwise_cons.1 hp
  have ih:=B4x l b h1.2 (fun r hr=>hn r (List.mem_cons_of_mem _ hr))
  simp only [Aa8]
  by_cases e:eqR b a=true
  ·have e':b=a:=A9k (hn b (by simp)) (hn a (by simp)) (by simpa [eqR]using e)
   subst e'
   rw[if_pos e]
   refine⟨ih.1,ih.2.1,fun y=>?_⟩
   rw[ih.2.2 y]
   simp
  ·rw[if_neg e]
   have hab:D6 a b < 0:=by
    have h2:=h1.1 b (by simp)
    have h3:¬ D6 b a=0:=by simpa [eqR]using e
    have:=A3w.neg a b
    omega
   refine⟨fun y hy=>?_,List.pairwise_cons.2 ⟨ih.1,ih.2.1⟩,fun y=>?_⟩
   ·rcases List.mem_cons.1 hy with rfl | hy
    ·exact hab
    ·have:=ih.1 y hy
     exact A3w.lt hab (by omega)
   ·have:=ih.2.2 y
    simp only [List.mem_cons]at this ⊢
    rw[this]
theorem Ay2{l:List Record}(hp:l.Pairwise (fun x y=>D6 x y≤0))(hn:∀ r∈l,r.past=A5 r.past):upR (I1 l)∧∀ y,y∈I1 l↔y∈l:=by
 unfold I1
 cases l with
 | nil=>exact⟨List.Pairwise.nil,fun y=>by simp [A7b]⟩
 | cons a l =>
  have h:=B4x l a hp hn
  exact⟨List.pairwise_cons.2 ⟨h.1,h.2.1⟩,h.2.2⟩
def Bu0:Type:={r:Record // r.past=A5 r.past}
theorem B97:(⟨noneS,⟨[],[]⟩⟩:Record).past=A5 (⟨noneS,⟨[],[]⟩⟩:Record).past:=Ag9.symm
instance:Inhabited Bu0:=⟨⟨⟨noneS,⟨[],[]⟩⟩,B97⟩⟩
noncomputable def B1t(r:Record):Bu0:=if h:r.past=A5 r.past then⟨r,h⟩else default
def Be3(x y:Bu0):Int:=D6 x.1 y.1
def Bo4(x:Bu0):List AV:=c83 x.1
theorem totRB:TotC Be3:=by
 refine⟨fun x y=>?_,fun x y z h1 h2=>A3w.tr x.1 y.1 z.1 h1 h2,fun x y h=>Subtype.ext (A9k x.2 y.2 h)⟩
 unfold Be3
 have:=A3w.neg x.1 y.1
 omega
noncomputable def srtB(l:List Record):List Bu0:=B96 Be3 (l.map B1t)
noncomputable def A7c(l:List Record):List Record:=(srtB l).map (·.1)
def P0(l:List Record):Prop:=∀ r∈l,r.past=A5 r.past
theorem Ay3{l:List Record}(h:P0 l):(l.map B1t).map (·.1)=l:=by
 rw[List.map_map]
 conv=>rhs;rw[← List.map_id l]
 refine List.map_congr_left fun r hr=>?_
 have e:B1t r=⟨r,h r hr⟩:=by unfold B1t;exact dif_pos (h r hr)
 show(B1t r).1=r
 rw[e]
theorem Aj2{l:List Record}(h:P0 l):(A7c l).Perm l:=by
 have:=(R2 Be3 (l.map B1t)).map (·.1)
 rw[Ay3 h]at this
 exact this
theorem A64(l:List Record):P0 (A7c l):=by
 intro r hr
 obtain⟨x,_,rfl⟩:=List.mem_map.1 hr
 exact x.2
theorem A89(l:List Record):(A7c l).Pairwise (fun x y=>D6 x y≤0):=by
 have:=Ax9 totRB (l.map B1t)
 unfold A7c srtB
 rw[List.pairwise_map]
 exact this
noncomputable def A2l(l:List Record):List Record:=I1 (A7c l)
theorem B4y(l:List Record):upR (A2l l):=(Ay2 (A89 l) (A64 l)).1
theorem Z1{l:List Record}(h:P0 l)(r:Record):r∈A2l l↔r∈l:=by
 unfold A2l
 rw[(Ay2 (A89 l) (A64 l)).2 r]
 exact(Aj2 h).mem_iff
theorem B4z{l:List Record}(h:P0 l):P0 (A2l l):=fun r hr=>h r ((Z1 h r).1 hr)
theorem B98{a l:List Record}(h:P0 l)(ha:upR a)(hm:∀ r,r∈a↔r∈l):a=A2l l :=
 A3h ha (B4y l) (fun r hr=>h r ((hm r).1 hr)) (B4z h) (fun r=>by rw[hm r,Z1 h r])
theorem B99(l:List Record):(A2l l).length≤l.length:=by
 have h1:=B4w eqR (A7c l)
 have h2:(A7c l).length=l.length:=by
  unfold A7c srtB
  rw[List.length_map,(R2 Be3 (l.map B1t)).length_eq,List.length_map]
 unfold A2l I1
 omega
theorem Aa9{l:List Record}(h:P0 l):B0t l:=fun r hr=>by have:=Y6 (h r hr);unfold szR;omega
def clnR(r:Record):Record:=⟨r.sku,A5 r.past⟩
noncomputable def lsR(rs:List Record):List Record:=(rs.filter fun r=>decide (¬ C2 r.past=0)).map clnR
def Aj3(r:Record):Bool:=decide (r.sku=noneS) || M4 r.sku
noncomputable def F6(rs:List Record):List Record×Int:=if rs.all Aj3=true then(A2l (lsR rs),0)else([],5)
theorem B9a(rs:List Record):P0 (lsR rs):=by
 intro r hr
 obtain⟨x,_,rfl⟩:=List.mem_map.1 hr
 exact(B3e x.past).symm
theorem Ay4{rs:List Record}(h:∀ r∈rs,ckR r=0):lsR rs=rs:=by
 unfold lsR
 have e:rs.filter (fun r=>decide (¬ C2 r.past=0))=rs:=List.filter_eq_self.2 fun r hr=>by
  rw[decide_eq_true_iff];exact(A76.1 (h r hr)).2.2
 rw[e]
 conv=>rhs;rw[← List.map_id rs]
 refine List.map_congr_left fun r hr=>?_
 unfold clnR
 rw[←(A76.1 (h r hr)).2.1]
 rfl
theorem Ay5{rs:List Record}(h:∀ r∈rs,ckR r=0):rs.all Aj3=true:=by
 rw[List.all_eq_true]
 intro r hr
 unfold Aj3
 rw[Bool.or_eq_true,decide_eq_true_iff]
 exact(A76.1 (h r hr)).1
noncomputable def F4(a b:List Record):List Record×Int:=if D9 a=0∧D9 b=0 then(A2l (a++b),0)else([],1)
theorem A0u{a:List Record}(h:D9 a=0):P0 a:=fun r hr=>(A76.1 (((H5 a).1 h).1 r hr)).2.1
theorem A2m{a b:List Record}(ha:D9 a=0)(hb:D9 b=0):∀ r∈a++b,ckR r=0:=fun r hr=>by
 rcases List.mem_append.1 hr with hr | hr
 ·exact((H5 a).1 ha).1 r hr
 ·exact((H5 b).1 hb).1 r hr
theorem B1b{a b:List Record}(ha:D9 a=0)(hb:D9 b=0):F6 (a++b)=(A2l (a++b),0):=by
 unfold F6
 rw[if_pos (Ay5 (A2m ha hb)),Ay4 (A2m ha hb)]
theorem A8a{a b:List Record}(ha:D9 a=0)(hb:D9 b=0):D9 (A2l (a++b))=0:=by
 have hn:P0 (a++b):=fun r hr=>(A76.1 (A2m ha hb r hr)).2.1
 exact(H5 _).2 ⟨fun r hr=>A2m ha hb r ((Z1 hn r).1 hr),B4y _⟩
end Go.Proofs.YtokhjapfekbobaaGreat
namespace Go.Proofs.YtokhjapfekbobaaGreat
open Go.E
set_option maxRecDepth 100000
set_option maxHeartbeats 4000000
theorem Aj4{e:Entry}:U8 e=0↔M3 e.dot=true∧M4 e.sku=true∧1≤e.qty∧e.qty≤1000000:=by
 unfold U8 M3
 rw[decide_eq_true_iff]
 by_cases a:e.dot.rep < 0∨16≤e.dot.rep
 ·rw[if_pos a];omega
 ·rw[if_neg a]
  by_cases b:e.dot.num < 1∨1000000000 < e.dot.num
  ·rw[if_pos b];omega
  ·rw[if_neg b]
   cases c:M4 e.sku with
   | false=>simp
   | true =>
    rw[if_neg (by simp)]
    by_cases d:e.qty < 1∨1000000 < e.qty
    ·rw[if_pos d]
     exact⟨fun h=>by omega,fun h=>by have:=h.2.2.1;have:=h.2.2.2;omega⟩
    ·rw[if_neg d]
     exact⟨fun _=>⟨by omega,rfl,by omega,by omega⟩,fun _=>rfl⟩
theorem Be4(f:Facts):∃ b:Bool,b=decide (D2 f.adds=0∧f.gone=A5 f.gone∧D9 f.recs=0):=⟨_,rfl⟩
noncomputable def okF(f:Facts):Bool:=Classical.choose (Be4 f)
theorem Be5(f:Facts):okF f=decide (D2 f.adds=0∧f.gone=A5 f.gone∧D9 f.recs=0):=Classical.choose_spec (Be4 f)
def szF(f:Facts):Prop:=szP f.gone∧szQ f.recs
end Go.Proofs.YtokhjapfekbobaaGreat
namespace Go.Proofs.YtokhjapfekbobaaGreat
open Go.E
set_option maxRecDepth 100000
set_option maxHeartbeats 4000000
noncomputable def K0(rs:List Record)(p:Past):List Record:=rs.filter fun r=>decide (¬ C2 (B6 r.past p)=0)
noncomputable def U1(rs:List Record)(p:Past):List Record×Int:=if D9 rs=0∧p=A5 p then(K0 rs p,0)else([],1)
def B1c(rs:List Record)(p:Past)(i:Int)(v:List Int)(c:List Span)(out:List Record):Prop:=v=p.vec∧c=p.cloud∧0≤i∧i≤rs.length∧(out.length:Int)≤i∧out=K0 (rs.take i.toNat) p
def decWt(rs:List Record)(i:Int)(v:List Int)(c:List Span)(out:List Record):Nat:=(rs.length-i).toNat
theorem B50{rs:List Record}{p:Past}{i:Int}{o:List Record}(h0:0≤i)(hi:i < rs.length)(ho:o=K0 (rs.take i.toNat) p) :
  K0 (rs.take (i+1).toNat) p=o++if C2 (B6 rs[i.toNat]!.past p)=0 then[]else[rs[i.toNat]!]:=by
 unfold K0 at *
 rw[← E1 h0 hi,List.filter_append,ho]
 congr 1
 generalize rs[i.toNat]! = x
 split
 ·rename_i h;simp [List.filter_cons,h]
 ·rename_i h;simp [List.filter_cons,h]
theorem Bo5{rs:List Record}(h:D9 rs=0){i:Int}(h0:0≤i)(hi:i < rs.length):(⟨rs[i.toNat]!.sku,A5 rs[i.toNat]!.past⟩:Record)=rs[i.toNat]!:=by
 have:=(A76.1 (((H5 rs).1 h).1 _ (E2 (l:=rs) (i:=i.toNat) (by omega)))).2.1
 rw[← this]
theorem B51{rs:List Record}{p:Past}(h:¬D9 rs=0∨¬p=A5 p):U1 rs p=([],1):=by unfold U1;rw[if_neg (fun k=>h.elim (fun g=>g k.1) (fun g=>g k.2))]
theorem A2n{rs:List Record}{p:Past}(h:¬(¬D9 rs=0∨¬p=A5 p)):D9 rs=0∧p=A5 p:=⟨Classical.not_not.1 fun k=>h (.inl k),Classical.not_not.1 fun k=>h (.inr k)⟩
theorem Ab0{rs:List Record}{p:Past}(h:D9 rs=0)(k:p=A5 p):U1 rs p=(K0 rs p,0):=by unfold U1;rw[if_pos ⟨h,k⟩]
theorem wt_yes{rs:List Record}{p:Past}{i:Int}{o:List Record}(hr:D9 rs=0)(h0:0≤i)(hi:i < rs.length)(h1:(o.length:Int)≤i)(ho:o=K0 (rs.take i.toNat) p)(h:¬ C2 (B6 rs[i.toNat]!.past p)=0):B1c rs p (i+1) p.vec p.cloud (o++[⟨rs[i.toNat]!.sku,A5 rs[i.toNat]!.past⟩]) :=
 ⟨rfl,rfl,by omega,by omega,by rw[List.length_append,List.length_singleton];omega,by rw[B50 h0 hi ho,if_neg h,Bo5 hr h0 hi]⟩
theorem Bo6{rs:List Record}{p:Past}{i:Int}{o:List Record}(h0:0≤i)(hi:i < rs.length)(h1:(o.length:Int)≤i)(ho:o=K0 (rs.take i.toNat) p)(h:¬ ¬ C2 (B6 rs[i.toNat]!.past p)=0):B1c rs p (i+1) p.vec p.cloud o :=
 ⟨rfl,rfl,by omega,by omega,by omega,by rw[B50 h0 hi ho,if_pos (Classical.not_not.1 h),List.append_nil]⟩
theorem con48(rs:List Record)(p:Past)(hb:B0t rs)(hl:rs.length*64≤140737488350000)(hp:p.cloud.length*16≤140737488350000):Con Tryz.prog 48 [.sl (rs.map c83),.agg (c26 p)] (.tup [.sl ((U1 rs p).1.map c83),.i .i64 (U1 rs p).2]) :=
 by
 refine lN 0 c83 (rs) Tryz.func48 fun hl_0=>sC A9 [.tmp 4,.tmp 5] 35 Tryz.func48 ?_
 intro e0 cx
 refine sq<|rG cx [0,3] [3] z0<|sn<|sq<|sq<|B3 (σ':=⟨[(0,.sl (List.map c83 rs)),(3,.ptr (3) (0) (0) (0)),(16,.b (decide (¬D9 rs=0∨¬p=A5 p)))],[(3,⟨0,26,.var [.sl (List.map c3 p.vec),.sl (List.map B5 p.cloud)]⟩)]⟩) ?_ ?_
 refine A4 (¬D9 rs=0) (fun h_1=>?_) (fun h_1=>?_)
 refine rG cx [0,3,16] [3] (fT (A9m (rs) (by(with_reducible assumption))) (tT 2 (D1 h_1:AV.b (D9 rs !=0)=AV.b true) (tD 7 true (¬D9 rs=0∨¬p=A5 p) (by simp only [eq_false h_1,tsl]) (oA 1 (.i .i64 (D9 rs)) z0)))) ?_
 exact⟨rfl,by kernel_rfl⟩
 refine rG cx [0,3,16] [3] (fT (A9m (rs) (by(with_reducible assumption))) (tN 2 (D9 rs) (0:Int) (tT 3 (A0 h_1) (fT (Ag2 (p) (by(with_reducible assumption))) (tQ 6 (p=A5 p) (tT 7 (by first | (simp only [eq_false h_1,tsl];done) | simp_all:AV.b (decide ¬p=A5 p)=AV.b (decide (¬D9 rs=0∨¬p=A5 p))) (oA 1 (.i .i64 (D9 rs)) (oA 5 (.b (decide (p=A5 p))) z0)))))))) ?_
 exact⟨rfl,by kernel_rfl⟩
 refine sn<|dC (¬D9 rs=0∨¬p=A5 p) (fun hh2=>?_) fun hh2=>?_
 refine sq<|rG cx [4,5] [] z0<|sn<|rT<|nR<|qR (.tup [.nl,.i .i64 ((1:Int))]) (B9.tup (ZLe.cons (B9.nl' (show List.map c83 (U1 rs p).1=[]from(by rw[B51 hh2];rfl))) (ZLe.cons (B9.eq (show AV.i .i64 1=AV.i .i64 (U1 rs p).2 from(by rw[B51 hh2]))) ZLe.nil)))
 refine sK<|sn<|sq<|rG cx [0,3,6] [3] z0<|sn<|sq<|sq<|rG cx [3,6,17,18,19] [3] (tL 1 c83 rs z0)<|sn<|bL 0<|G0 6 1006 83 3 (σ':=⟨[(3,.ptr (3) (0) (0) (0)),(6,.own 1006 0),(17,.sl (List.map c83 rs)),(18,.i .i64 ((↑rs.length:Int))),(19,.i .i64 ((0:Int)))],[(3,⟨0,26,.var [.sl (List.map c3 p.vec),.sl (List.map B5 p.cloud)]⟩),(1006,⟨0,83,.row 3 (List.map c83 [])⟩)]⟩) (by kernel_rfl)<|sL (X:=Int×List Int×List Span×List Record) (fun x=>⟨[(3,.ptr (3) (0) (0) (0)),(6,.own 1006 0),(17,.sl (List.map c83 rs)),(18,.i .i64 ((↑rs.length:Int))),(19,.i .i64 (x.1))],[(3,⟨0,26,.var [.sl (List.map c3 x.2.1),.sl (List.map B5 x.2.2.1)]⟩),(1006,⟨0,83,.row 3 (List.map c83 x.2.2.2)⟩)]⟩) (fun x ↦ decWt rs x.1 x.2.1 x.2.2.1 x.2.2.2) (fun x ↦ B1c rs p x.1 x.2.1 x.2.2.1 x.2.2.2) [3,6,17,18,19] [3,1006] (((0:Int),p.vec,p.cloud,[])) (show B1c rs p (0:Int) p.vec p.cloud []from(by exact⟨rfl,rfl,by omega,by omega,by simp,rfl⟩)) ?_
 rintro⟨i3,v4,c5,o6⟩ h_7
 obtain⟨h8,h9,h10,h11,h12,h13⟩:v4=p.vec∧c5=p.cloud∧0≤i3∧i3≤(↑rs.length:Int)∧(↑o6.length:Int)≤i3∧o6=K0 (List.take i3.toNat rs) p:=h_7
 refine rE cx [3,6,17,18,19,20] [3,1006] (zB 0 (i3 <(↑rs.length:Int))) (fun h14=>?_) fun h14=>?_
 refine sK<|sn<|sq<|bL 1<|sq<|rG cx [3,6,17,18,19,8] [3,1006,8] (fA (0≤i3) (fG c83 rs i3.toNat (fR 3 (fN 3 3 (oR 0 (c83 rs[i3.toNat]!) z0)))))<|sn<|sq<|rG cx [3,6,17,18,19,8,27] [3,1006,8] (fT (B8y (rs[i3.toNat]!.past) ({ vec:=v4,cloud:=c5:Past }) (by exact Y3 hb h10 h14) (by subst h9;exact hp)) (tQ 4 (C2 (B6 rs[i3.toNat]!.past { vec:=v4,cloud:=c5:Past })=0) (oA 3 (.b (decide (C2 (B6 rs[i3.toNat]!.past { vec:=v4,cloud:=c5:Past })=0))) z0))) ?_
 refine sn<|dC (¬C2 (B6 rs[i3.toNat]!.past { vec:=v4,cloud:=c5:Past })=0) (fun h15=>?_) fun h15=>?_
 refine rG cx [3,6,17,18,19] [3,1006] (fT (Bl6 (rs[i3.toNat]!) (by exact Y3 hb h10 h14)) (fR 83 (fR 3 (fR 3 (fX c83 [{ sku:=rs[i3.toNat]!.sku,past:=A5 rs[i3.toNat]!.past:Record }] 3 (fS c83 o6 c83 [{ sku:=rs[i3.toNat]!.sku,past:=A5 rs[i3.toNat]!.past:Record }] (fP (((List.map c83 o6).length+(List.map c83 [{ sku:=rs[i3.toNat]!.sku,past:=A5 rs[i3.toNat]!.past:Record }]).length)*(64:Nat)≤(140737488355328:Nat)) (by(simp only [Go.maxLen,List.length_map,List.length_append,List.length_cons,List.length_nil];omega)) (fM c83 o6 [{ sku:=rs[i3.toNat]!.sku,past:=A5 rs[i3.toNat]!.past:Record }] (oA 2 (.agg [.s ({ sku:=rs[i3.toNat]!.sku,past:=A5 rs[i3.toNat]!.past:Record }.sku),.sl (List.map c3 { sku:=rs[i3.toNat]!.sku,past:=A5 rs[i3.toNat]!.past:Record }.past.vec),.sl (List.map B5 { sku:=rs[i3.toNat]!.sku,past:=A5 rs[i3.toNat]!.past:Record }.past.cloud)]) (oV 4 { rows:=some (List.map c83 (o6++[{ sku:=rs[i3.toNat]!.sku,past:=A5 rs[i3.toNat]!.past:Record }])) } z0)))))))))) ?_
 refine bN<|sn<|rG cx [3,6,17,18,19] [3,1006] (tW 0 (i3+1) z0)<|sn<|nX ((i3+1,v4,c5,o6++[{ sku:=rs[i3.toNat]!.sku,past:=A5 rs[i3.toNat]!.past:Record }])) (show((↑rs.length:Int)-(i3+1)).toNat <((↑rs.length:Int)-i3).toNat from(by omega)) (show B1c rs p (i3+1) v4 c5 (o6++[{ sku:=rs[i3.toNat]!.sku,past:=A5 rs[i3.toNat]!.past:Record }])from(by subst h8 h9;exact wt_yes (A2n hh2).1 h10 h14 h12 h13 h15))
 refine sK<|bN<|sn<|rG cx [3,6,17,18,19] [3,1006] (tW 0 (i3+1) z0)<|sn<|nX ((i3+1,v4,c5,o6)) (show((↑rs.length:Int)-(i3+1)).toNat <((↑rs.length:Int)-i3).toNat from(by omega)) (show B1c rs p (i3+1) v4 c5 o6 from(by subst h8 h9;exact Bo6 h10 h14 h12 h13 h15))
 refine eX 0<|nE<|nE<|bH<|sn<|sq<|rG cx [4,5] [1006] z0<|sn<|rT<|qR (.tup [.sl (List.map c83 o6),.i .i64 ((0:Int))]) (B9.tup (ZLe.cons (B9.eq (show AV.sl (List.map c83 o6)=AV.sl (List.map c83 (U1 rs p).1)from(by rw[Ab0 (A2n hh2).1 (A2n hh2).2,h13,List.take_of_length_le (by omega)]))) (ZLe.cons (B9.eq (show AV.i .i64 0=AV.i .i64 (U1 rs p).2 from(by rw[Ab0 (A2n hh2).1 (A2n hh2).2]))) ZLe.nil)))
theorem con79(a b:Dot):Con Tryz.prog 79 [.agg (c65 a),.agg (c65 b)] (.b (dLt a b)) :=
 by
 refine sC A9 [.tmp 4] 24 Tryz.func79 ?_
 intro e0 cx
 refine sq<|rG cx [2,3] [2,3] z0<|sn<|sq<|B3 (σ':=⟨[(4,.b (decide (a.rep < b.rep∨a.rep=b.rep∧a.num < b.num)))],[]⟩) ?_ ?_
 refine A4 (a.rep < b.rep) (fun h_1=>?_) (fun h_1=>?_)
 refine rG cx [4] [] (tT 4 (A3 h_1) (tD 19 true (a.rep < b.rep∨a.rep=b.rep∧a.num < b.num) (by simp only [eq_true h_1,tsl]) z0)) ?_
 exact⟨rfl,by kernel_rfl⟩
 refine A4 (a.rep=b.rep) (fun h_2=>?_) (fun h_2=>?_)
 refine rG cx [4] [] (tT 4 (A0 h_1) (tT 10 (A3 h_2) (tB 16 (a.num < b.num) (tD 19 (decide (a.num < b.num)) (a.rep < b.rep∨a.rep=b.rep∧a.num < b.num) (by simp only [eq_false h_1,eq_true h_2,tsl]) z0)))) ?_
 exact⟨rfl,by kernel_rfl⟩
 refine rG cx [4] [] (tT 4 (A0 h_1) (tT 10 (A0 h_2) (tD 19 false (a.rep < b.rep∨a.rep=b.rep∧a.num < b.num) (by simp only [eq_false h_1,eq_false h_2,tsl]) z0))) ?_
 exact⟨rfl,by kernel_rfl⟩
 refine sn<|rT<|qR (.b (decide (a.rep < b.rep∨a.rep=b.rep∧a.num < b.num))) (.eq ?g0);rotate_left
 case g0=>exact rfl
theorem Aj5(es:List Entry):Con Tryz.prog 30 [.sl (es.map c67)] (.b (decide (D2 es=0))) :=
 by
 have e:∀ {i:Int},0≤i→(i-1).toNat=i.toNat-1:=fun {i} h=>by omega
 refine lN 0 c67 (es) Tryz.func30 fun hl_0=>sC A9 [.tmp 2] 59 Tryz.func30 ?_
 intro e0 cx
 refine sq<|rG cx [0] [] z0<|sn<|sq<|sq<|rG cx [0,3] [] z0<|sn<|bL 0<|sL (X:=Int) (fun x=>⟨[(0,.sl (List.map c67 es)),(3,.i .i64 (x))],[]⟩) (fun x ↦ decL es x) (fun x ↦ Bk0 es x) [0,3] [] ((0:Int)) (show Bk0 es (0:Int)from(by exact⟨by omega,by omega,fun j hj=>by omega⟩)) ?_
 intro i0 h_1
 obtain⟨hh2,hh3,hh4⟩:0≤i0∧i0≤(↑es.length:Int)∧∀(j:Nat),(↑j:Int) < i0→B1q es j=true:=h_1
 refine sq<|rD cx [0,3,7] [] (tL 2 c67 es (zB 3 (i0 <(↑es.length:Int)))) (fun hh5=>?_) fun hh5=>?_
 refine sK<|sn<|sq<|bL 1<|sq<|sq<|B3 (σ':=⟨[(0,.sl (List.map c67 es)),(3,.i .i64 (i0)),(41,.b (decide (¬M3 es[i0.toNat]!.dot=true∨¬M4 es[i0.toNat]!.sku=true∨es[i0.toNat]!.qty <(1:Int)∨(1000000:Int) < es[i0.toNat]!.qty)))],[]⟩) ?_ ?_
 refine A4 (¬M3 es[i0.toNat]!.dot=true) (fun h_7=>?_) (fun h_7=>?_)
 refine rg (A:=(0≤i0)∧((List.map c67 es)[i0.toNat]?=some (c67 es[i0.toNat]!))∧((c67 es[i0.toNat]!).length=(4:Nat))∧((2:Nat)≤[AV.i .i64 es[i0.toNat]!.dot.rep,AV.i .i64 es[i0.toNat]!.dot.num,AV.s es[i0.toNat]!.sku,AV.i .i64 es[i0.toNat]!.qty].length)∧_∧_∧(AV.b true=AV.b (decide (¬M3 es[i0.toNat]!.dot=true∨¬M4 es[i0.toNat]!.sku=true∨es[i0.toNat]!.qty <(1:Int)∨(1000000:Int) < es[i0.toNat]!.qty)))) cx [(2,{ row:=(c67 es[i0.toNat]!) }),(5,{ val:=some (.b (M3 es[i0.toNat]!.dot)),tell:=some (.b (false)) }),(31,{ tell:=some (.b (decide (¬M3 es[i0.toNat]!.dot=true∨¬M4 es[i0.toNat]!.sku=true∨es[i0.toNat]!.qty <(1:Int)∨(1000000:Int) < es[i0.toNat]!.qty))) })] [0,3,41] [] ⟨(by(with_reducible assumption)),(by(with_reducible refine F7 ?_;omega)),(by kernel_rfl),(by(simp only [List.length_append,List.length_cons,List.length_nil];omega)),(S6 h_7),(B49 (es[i0.toNat]!.dot)),(by simp only [eq_false h_7,tsl])⟩ ?_
 exact⟨rfl,by kernel_rfl⟩
 refine A4 (¬M4 es[i0.toNat]!.sku=true) (fun h_8=>?_) (fun h_8=>?_)
 refine rg (A:=(0≤i0)∧((List.map c67 es)[i0.toNat]?=some (c67 es[i0.toNat]!))∧((c67 es[i0.toNat]!).length=(4:Nat))∧((2:Nat)≤[AV.i .i64 es[i0.toNat]!.dot.rep,AV.i .i64 es[i0.toNat]!.dot.num,AV.s es[i0.toNat]!.sku,AV.i .i64 es[i0.toNat]!.qty].length)∧_∧((AV.b !M3 es[i0.toNat]!.dot)=AV.b (decide ¬M3 es[i0.toNat]!.dot=true))∧_∧(0≤i0)∧((List.map c67 es)[i0.toNat]?=some (c67 es[i0.toNat]!))∧((c67 es[i0.toNat]!).length=(4:Nat))∧_∧_∧(AV.b true=AV.b (decide (¬M3 es[i0.toNat]!.dot=true∨¬M4 es[i0.toNat]!.sku=true∨es[i0.toNat]!.qty <(1:Int)∨(1000000:Int) < es[i0.toNat]!.qty)))) cx [(2,{ row:=(c67 es[i0.toNat]!) }),(5,{ val:=some (.b (M3 es[i0.toNat]!.dot)) }),(6,{ tell:=some (.b (decide ¬M3 es[i0.toNat]!.dot=true)) }),(7,{ tell:=some (.b (false)) }),(10,{ row:=(c67 es[i0.toNat]!) }),(13,{ val:=some (.b (M4 es[i0.toNat]!.sku)),tell:=some (.b (false)) }),(31,{ tell:=some (.b (decide (¬M3 es[i0.toNat]!.dot=true∨¬M4 es[i0.toNat]!.sku=true∨es[i0.toNat]!.qty <(1:Int)∨(1000000:Int) < es[i0.toNat]!.qty))) })] [0,3,41] [] ⟨(by(with_reducible assumption)),(by(with_reducible refine F7 ?_;omega)),(by kernel_rfl),(by(simp only [List.length_append,List.length_cons,List.length_nil];omega)),(B49 (es[i0.toNat]!.dot)),(C9),(A0 h_7),(by(with_reducible assumption)),(by(with_reducible refine F7 ?_;omega)),(by kernel_rfl),(S6 h_8),(B80 (es[i0.toNat]!.sku)),(by first | (simp only [eq_false h_7,eq_false h_8,tsl];done) | simp_all)⟩ ?_
 exact⟨rfl,by kernel_rfl⟩
 refine A4 (es[i0.toNat]!.qty <(1:Int)) (fun h_9=>?_) (fun h_9=>?_)
 refine rG cx [0,3,41] [] (fA (0≤i0) (fG c67 es i0.toNat (fR 4 (fN 2 4 (fT (B49 (es[i0.toNat]!.dot)) (tT 6 (C9:(AV.b !M3 es[i0.toNat]!.dot)=AV.b (decide ¬M3 es[i0.toNat]!.dot=true)) (tT 7 (A0 h_7) (fA (0≤i0) (fG c67 es i0.toNat (fR 4 (fT (B80 (es[i0.toNat]!.sku)) (tT 14 (C9:(AV.b !M4 es[i0.toNat]!.sku)=AV.b (decide ¬M4 es[i0.toNat]!.sku=true)) (tT 15 (A0 h_8) (fA (0≤i0) (fG c67 es i0.toNat (fR 4 (tT 22 (A3 h_9) (tT 31 (by first | (simp only [eq_false h_7,eq_false h_8,eq_true h_9,tsl];done) | simp_all:AV.b true=AV.b (decide (¬M3 es[i0.toNat]!.dot=true∨¬M4 es[i0.toNat]!.sku=true∨es[i0.toNat]!.qty <(1:Int)∨(1000000:Int) < es[i0.toNat]!.qty))) (oR 2 (c67 es[i0.toNat]!) (oA 5 (.b (M3 es[i0.toNat]!.dot)) (oR 10 (c67 es[i0.toNat]!) (oA 13 (.b (M4 es[i0.toNat]!.sku)) (oR 19 (c67 es[i0.toNat]!) z0))))))))))))))))))))))) ?_
 exact⟨rfl,by kernel_rfl⟩
 refine rG cx [0,3,41] [] (fA (0≤i0) (fG c67 es i0.toNat (fR 4 (fN 2 4 (fT (B49 (es[i0.toNat]!.dot)) (tT 6 (C9:(AV.b !M3 es[i0.toNat]!.dot)=AV.b (decide ¬M3 es[i0.toNat]!.dot=true)) (tT 7 (A0 h_7) (fA (0≤i0) (fG c67 es i0.toNat (fR 4 (fT (B80 (es[i0.toNat]!.sku)) (tT 14 (C9:(AV.b !M4 es[i0.toNat]!.sku)=AV.b (decide ¬M4 es[i0.toNat]!.sku=true)) (tT 15 (A0 h_8) (fA (0≤i0) (fG c67 es i0.toNat (fR 4 (tT 22 (A0 h_9) (fA (0≤i0) (fG c67 es i0.toNat (fR 4 (tB 30 ((1000000:Int) < es[i0.toNat]!.qty) (tT 31 (by first | (simp only [eq_false h_7,eq_false h_8,eq_false h_9,tsl];done) | simp_all:AV.b (decide ((1000000:Int) < es[i0.toNat]!.qty))=AV.b (decide (¬M3 es[i0.toNat]!.dot=true∨¬M4 es[i0.toNat]!.sku=true∨es[i0.toNat]!.qty <(1:Int)∨(1000000:Int) < es[i0.toNat]!.qty))) (oR 2 (c67 es[i0.toNat]!) (oA 5 (.b (M3 es[i0.toNat]!.dot)) (oR 10 (c67 es[i0.toNat]!) (oA 13 (.b (M4 es[i0.toNat]!.sku)) (oR 19 (c67 es[i0.toNat]!) (oR 27 (c67 es[i0.toNat]!) z0)))))))))))))))))))))))))))) ?_
 exact⟨rfl,by kernel_rfl⟩
 refine sn<|dC (¬M3 es[i0.toNat]!.dot=true∨¬M4 es[i0.toNat]!.sku=true∨es[i0.toNat]!.qty <(1:Int)∨(1000000:Int) < es[i0.toNat]!.qty) (fun h10=>?_) fun h10=>?_
 refine sq<|rG cx [2] [] z0<|sn<|rT<|nR<|bR<|nR<|nR<|bR<|nR<|qR (.b (false)) (.eq ?g1);rotate_left
 refine sK<|sn<|sq<|B3 (σ':=⟨[(0,.sl (List.map c67 es)),(3,.i .i64 (i0)),(58,.b (decide ((0:Int) < i0∧¬dLt es[(i0-1).toNat]!.dot es[i0.toNat]!.dot=true)))],[]⟩) ?_ ?_
 refine A4 ((0:Int) < i0) (fun h_12=>?_) (fun h_12=>?_)
 refine rA cx [0,3,58] [] (tT 1 (A3 h_12) (tW 5 (i0-1) (fO (0≤i0-1) (fG c67 es ((i0-1).toNat) (fR 4 (fN 2 4 (fA (0≤i0) (fG c67 es i0.toNat (fR 4 (fN 2 4 (fT (con79 (es[(i0-1).toNat]!.dot) (es[i0.toNat]!.dot)) (tT 15 (C9:(AV.b !dLt es[(i0-1).toNat]!.dot es[i0.toNat]!.dot)=AV.b (decide ¬dLt es[(i0-1).toNat]!.dot es[i0.toNat]!.dot=true)) (tD 16 (decide ¬dLt es[(i0-1).toNat]!.dot es[i0.toNat]!.dot=true) ((0:Int) < i0∧¬dLt es[(i0-1).toNat]!.dot es[i0.toNat]!.dot=true) (by simp only [eq_true h_12,tsl]) (oR 6 (c67 es[(i0-1).toNat]!) (oR 11 (c67 es[i0.toNat]!) (oA 14 (.b (dLt es[(i0-1).toNat]!.dot es[i0.toNat]!.dot)) z0)))))))))))))))) ?_
 exact⟨rfl,by kernel_rfl⟩
 refine rA cx [0,3,58] [] (tT 1 (A0 h_12) (tD 16 false ((0:Int) < i0∧¬dLt es[(i0-1).toNat]!.dot es[i0.toNat]!.dot=true) (by simp only [eq_false h_12,tsl]) z0)) ?_
 exact⟨rfl,by kernel_rfl⟩
 refine sn<|dC ((0:Int) < i0∧¬dLt es[(i0-1).toNat]!.dot es[i0.toNat]!.dot=true) (fun h13=>?_) fun h13=>?_
 refine sq<|rG cx [2] [] z0<|sn<|rT<|bR<|nR<|nR<|bR<|nR<|qR (.b (false)) (.eq ?g2);rotate_left
 refine sK<|bN<|sn<|rG cx [0,3] [] (tW 1 (i0+1) z0)<|sn<|nX (i0+1) (show((↑es.length:Int)-(i0+1)).toNat <((↑es.length:Int)-i0).toNat from(by omega)) (show Bk0 es (i0+1)from ?g3);rotate_left
 refine eX 0<|nE<|nE<|bH<|sn<|sq<|rG cx [2] [] z0<|sn<|rT<|qR (.b (true)) (.eq (by rw[B41 fun j hj=>hh4 j (by omega)];rfl))
 case g1 =>
  revert i0 hh2 hh3 hh4 hh5 h10
  intro i h0 h1 h2 h3 h4
  rw[A9n (i:=i.toNat) (by omega) (A9o _)]
  ·rfl
  rw[Y4,Aj4]
  rintro⟨⟨a,b,c,d⟩,_⟩
  rcases h4 with h4 | h4 | h4 | h4
  ·exact h4 a
  ·exact h4 b
  ·omega
  ·omega
 case g2 =>
  revert i0 hh2 hh3 hh4 hh5 h10 h13
  intro i h0 h1 h2 h3 h4 h5
  rw[A9n (i:=i.toNat) (by omega) (A9o _)]
  ·rfl
  rw[e h0]at h5
  rw[Y4]
  rintro⟨_,b | b⟩
  ·omega
  ·exact h5.2 b
 case g3 =>
  rw[e hh2]at h13
  refine Ah2 hh2 hh5 hh4 ((Y4 _ _).2 ⟨Aj4.2 ⟨Classical.byContradiction fun a=>h10 (.inl a),Classical.byContradiction fun a=>h10 (.inr (.inl a)),Int.not_lt.1 fun a=>h10 (.inr (.inr (.inl a))),Int.not_lt.1 fun a=>h10 (.inr (.inr (.inr a)))⟩,?_⟩)
  by_cases c:i0.toNat=0
  ·exact .inl c
  ·exact .inr (Classical.byContradiction fun a=>h13 ⟨by omega,a⟩)
end Go.Proofs.YtokhjapfekbobaaGreat
namespace Go.Proofs.YtokhjapfekbobaaGreat
open Go.E
set_option maxRecDepth 100000
set_option maxHeartbeats 4000000
open Go Go.Sort Go.RowKit Go.Lib Go.Shelf Go.Proofs
section
variable {α : Type} [Inhabited α] {enc : α → List Value} {k blk off : Nat}
def A2o(sf:Nat)(sb:Array Value)(enc:α→List Value)(k blk off size:Nat):Prop :=
 ∀(W:World) (dk:Array α),HoldsK enc k W blk off dk→dk.size=size→∀ i j:Nat,i < size→j < size→i≠j →
  (callFunc sf (#[.int .i64 i,.int .i64 j]++sb)).run Tryz.prog W=.ok (.value (.tuple #[])) ((W.setCells blk (off+i*k) (enc dk[j]!)).setCells blk (off+j*k) (enc dk[i]!))
def A1p(w:World)(g:Nat)(lb:Array Value)(sf:Nat)(sb:Array Value):World:=w.alloc (.cells #[.func (.func g) #[] lb,.func (.func sf) #[] sb] 169)
theorem R3(w:World)(g:Nat)(lb:Array Value)(sf:Nat)(sb:Array Value):(A1p w g lb sf sb).heap.size=w.heap.size+1:=by simp [A1p]
theorem A2p{w0:World}{d:Array α}(hH:HoldsK enc k w0 blk off d)(g:Nat)(lb:Array Value)(sf:Nat)(sb:Array Value):Fam enc k blk off w0 d (A1p w0 g lb sf sb):=(Fam.start hH).alloc _
theorem G9{w0:World}(hb:blk < w0.heap.size)(g:Nat)(lb:Array Value)(sf:Nat)(sb:Array Value){W:World}{d':Array α}(h:Fam enc k blk off (A1p w0 g lb sf sb) d' W) :
  W.cell? ⟨w0.heap.size,0,none⟩=some (.func (.func g) #[] lb)∧W.cell? ⟨w0.heap.size,1,none⟩=some (.func (.func sf) #[] sb):=by
 constructor
 ·rw[h.cell (by show w0.heap.size < _;rw[R3];omega) (by show w0.heap.size≠blk;omega)];simp [A1p]
 ·rw[h.cell (by show w0.heap.size < _;rw[R3];omega) (by show w0.heap.size≠blk;omega)];simp [A1p]
set_option maxHeartbeats 4000000 in
theorem U3 (hk:∀ x,(enc x).length=k) (g:Nat) (lb:Array Value) (sf:Nat) (sb:Array Value) (w0:World) (d:Array α) (hswap:A2o sf sb enc k blk off d.size) (hH:HoldsK enc k w0 blk off d) (hb:blk < w0.heap.size)
  (a b n:Nat) (hab:a+n≤b) (hbn:b+n≤d.size) (hsz:d.size < 4611686018427387904) :
  Calls Tryz.prog 228 #[.agg #[.func (.func g) #[] lb,.func (.func sf) #[] sb],.int .i64 a,.int .i64 b,.int .i64 n] w0 fun e w' =>
   e=.returned (.tuple #[])∧∃ d',Fam enc k blk off w0 d' w'∧d'.size=d.size∧PermIn a (b+n) d d'∧∀ j,d'[j]! = d[A73 a b n j]!:=by
 have HF:Hid (Fam enc k blk off w0 d (A1p w0 g lb sf sb)):=A2p hH g lb sf sb
 have hb1:blk <(A1p w0 g lb sf sb).heap.size:=by rw[R3];omega
 have HH:Hid (HoldsK enc k (A1p w0 g lb sf sb) blk off d):=HF.out.holds hb hH rfl
 have HS:Hid (A2o sf sb enc k blk off d.size):=hswap
 clear hswap
 go_enter Tryz.func228,Tryz.ntmps228
 go_wp2
 go_loopw [8] (fun v8 wr=>∃(i:Nat) (dk:Array α),v8=.int .i64 i∧i≤n∧Hid (dk.size=d.size∧Fam enc k blk off (A1p w0 g lb sf sb) dk wr∧PermIn a (b+n) d dk∧∀ j,dk[j]! = d[A73 a b i j]!)) (fun v8 _=>n-(intOf v8).toNat)
 case atStart=>exact⟨0,d,by go_num,by omega,rfl,Fam.start HH.out,permIn_refl d _ _,fun j=>by rw[B2r]⟩
 case round =>
  obtain⟨i,dk,rfl,hin,HI⟩:=hrel
  have c:=(G9 hb g lb sf sb HI.out.2.1).2
  go_wp2
  ·have hlt:i < n:=by omega
   have hs:=HS.out wr dk (HI.out.2.1.holds hb1 HH.out HI.out.1) HI.out.1 (a+i) (b+i) (by omega) (by omega) (by omega)
   rw[show((a+i:Nat):Int)=(a:Int)+(i:Int)by omega,show((b+i:Nat):Int)=(b:Int)+(i:Int)by omega]at hs
   rw[hs,Oper.upon_value]
   clear hs
   go_wp2
   go_roundw
   case rel =>
    obtain⟨e1,e2,e3,e4⟩:=HI.out
    exact⟨i+1,swp dk (a+i) (b+i),by go_num,by omega,by rw[Sort.size_swp];exact e1,e2.swap hk hb1 _ _ (by omega) (by omega),
     permIn_trans d dk _ _ _ e3 (swp_permIn dk a (b+n) (a+i) (b+i) (by omega) (by omega) (by omega) (by omega) (by omega)),Bh7 (by omega) (by omega) e1 e4⟩
   case measure=>simp [intOf];omega
  ·go_end0
   obtain⟨e1,e2,e3,e4⟩:=HI.out
   have hi:i=n:=by omega
   exact⟨rfl,dk,HF.out.trans hb e2 e1,e1,e3,fun j=>by rw[e4 j,hi]⟩
set_option maxHeartbeats 4000000 in
theorem Aq1 (hk:∀ x,(enc x).length=k) (g:Nat) (lb:Array Value) (sf:Nat) (sb:Array Value) (w0:World) (d:Array α) (hswap:A2o sf sb enc k blk off d.size) (hH:HoldsK enc k w0 blk off d) (hb:blk < w0.heap.size)
  (a m b:Nat) (ham:a < m) (hmb:m < b) (hbn:b≤d.size) (hsz:d.size < 4611686018427387904) :
  Calls Tryz.prog 219 #[.agg #[.func (.func g) #[] lb,.func (.func sf) #[] sb],.int .i64 a,.int .i64 m,.int .i64 b] w0 fun e w' =>
   e=.returned (.tuple #[])∧∃ d',Fam enc k blk off w0 d' w'∧d'.size=d.size∧PermIn a b d d'∧∀ j,d'[j]! = d[G7 a m b j]!:=by
 have HF:Hid (Fam enc k blk off w0 d (A1p w0 g lb sf sb)):=A2p hH g lb sf sb
 have hb1:blk <(A1p w0 g lb sf sb).heap.size:=by rw[R3];omega
 have HH:Hid (HoldsK enc k (A1p w0 g lb sf sb) blk off d):=HF.out.holds hb hH rfl
 have HS:Hid (A2o sf sb enc k blk off d.size):=hswap
 have u:=run_underlying (P:=Tryz.prog) (A9 169 _ rfl).1
 clear hswap
 go_enter Tryz.func219,Tryz.ntmps219
 go_wp2
 go_loopw [8,9] (fun v8 v9 wr=>∃(i j:Nat) (dk:Array α),v8=.int .i64 i∧v9=.int .i64 j∧0 < i∧0 < j∧a+i≤m∧m+j≤b∧Hid (dk.size=d.size∧Fam enc k blk off (A1p w0 g lb sf sb) dk wr∧PermIn a b d dk∧∀ q,dk[G7 (m-i) m (m+j) q]! = d[G7 a m b q]!)) (fun v8 v9 _=>(intOf v8).toNat+(intOf v9).toNat)
 case atStart =>
  refine⟨m-a,b-m,d,by go_num,by go_num,by omega,by omega,by omega,by omega,rfl,Fam.start HH.out,permIn_refl d _ _,fun q=>?_⟩
  rw[show m-(m-a)=a by omega,show m+(b-m)=b by omega]
 case round =>
  obtain⟨i,j,dk,rfl,rfl,hi0,hj0,hi,hj,HI⟩:=hrel
  have c:=G9 hb g lb sf sb HI.out.2.1
  have c0:=c.1
  have c1:=c.2
  clear c
  have hw:=HI.out.2.1.size
  by_cases hij:i=j
  ·subst hij
   have hc:=U3 hk g lb sf sb wr dk (HI.out.1 ▸ HS.out) (HI.out.2.1.holds hb1 HH.out HI.out.1) (by omega) (m-i) m i (by omega) (by rw[HI.out.1];omega) (by rw[HI.out.1];omega)
   rw[show((m-i:Nat):Int)=(m:Int)-(i:Int)by omega]at hc
   have HC:=Box.mk hc
   clear hc
   go_wp2_with (go_at_call 228;refine HC.out.mono ?_;rintro e w' ⟨rfl,d',f1,f2,f3,f4⟩)
   go_end0
   obtain⟨e1,e2,e3,e4⟩:=HI.out
   exact⟨rfl,d',HF.out.trans hb (e2.trans hb1 f1 (by rw[f2,e1])) (by rw[f2,e1]),by rw[f2,e1],permIn_trans d dk d' _ _ e3 (J7 (by omega) (by omega) (by omega) f3),fun q=>by rw[f4 q,B7m (by omega),e4 q]⟩
  ·by_cases hlt:j < i
   ·have hc:=U3 hk g lb sf sb wr dk (HI.out.1 ▸ HS.out) (HI.out.2.1.holds hb1 HH.out HI.out.1) (by omega) (m-i) m j (by omega) (by rw[HI.out.1];omega) (by rw[HI.out.1];omega)
    rw[show((m-i:Nat):Int)=(m:Int)-(i:Int)by omega]at hc
    have HC:=Box.mk hc
    clear hc
    go_wp2_with (go_at_call 228;refine HC.out.mono ?_;rintro e w' ⟨rfl,d',f1,f2,f3,f4⟩)
    go_roundw
    case rel =>
     obtain⟨e1,e2,e3,e4⟩:=HI.out
     exact⟨i-j,j,d',by go_num,rfl,by omega,by omega,by omega,by omega,by rw[f2,e1],e2.trans hb1 f1 (by rw[f2]),permIn_trans d dk d' _ _ e3 (J7 (by omega) (by omega) (by omega) f3),fun q=>by rw[f4,B7l (by omega) hj0 hlt,e4 q]⟩
    case measure=>simp [intOf];omega
   ·have hc:=U3 hk g lb sf sb wr dk (HI.out.1 ▸ HS.out) (HI.out.2.1.holds hb1 HH.out HI.out.1) (by omega) (m-i) (m+j-i) i (by omega) (by rw[HI.out.1];omega) (by rw[HI.out.1];omega)
    rw[show((m-i:Nat):Int)=(m:Int)-(i:Int)by omega,show((m+j-i:Nat):Int)=(m:Int)+(j:Int)-(i:Int)by omega]at hc
    have HC:=Box.mk hc
    clear hc
    go_wp2_with (go_at_call 228;refine HC.out.mono ?_;rintro e w' ⟨rfl,d',f1,f2,f3,f4⟩)
    go_roundw
    case rel =>
     obtain⟨e1,e2,e3,e4⟩:=HI.out
     exact⟨i,j-i,d',rfl,by go_num,by omega,by omega,by omega,by omega,by rw[f2,e1],e2.trans hb1 f1 (by rw[f2]),permIn_trans d dk d' _ _ e3 (J7 (by omega) (by omega) (by omega) f3),fun q=>by rw[f4,B2s (by omega) hi0 (by omega),e4 q]⟩
    case measure=>simp [intOf];omega
def A2q(g:Nat)(lb:Array Value)(enc:α→List Value)(k:Nat)(lt:α→α→Bool)(blk off size:Nat)(w0:World):Prop :=
 ∀(W:World) (dk:Array α),Fam enc k blk off w0 dk W→dk.size=size→∀ i j:Nat,i < size→j < size →
  Calls Tryz.prog g (#[.int .i64 i,.int .i64 j]++lb) W fun e w'=>e=.returned (.bool (lt dk[i]! dk[j]!))∧Below W.heap.size W w'
theorem A2q.on{g:Nat}{lb:Array Value}{lt:α→α→Bool}{size:Nat}{w0 W:World}{d:Array α}(h:A2q g lb enc k lt blk off size w0)(hb:blk < w0.heap.size)(hF:Fam enc k blk off w0 d W)(hs:d.size=size):A2q g lb enc k lt blk off size W :=
 fun W' dk hF' hs' i j hi hj=>h W' dk (hF.trans hb hF' (by omega)) hs' i j hi hj
set_option maxHeartbeats 4000000 in
theorem A19 (hk:∀ x,(enc x).length=k) (lt:α→α→Bool) (g:Nat) (lb:Array Value) (sf:Nat) (sb:Array Value) (w0:World) (d:Array α) (hg:E6 Tryz.prog g) (hless:A2q g lb enc k lt blk off d.size w0) (hswap:A2o sf sb enc k blk off d.size) (hH:HoldsK enc k w0 blk off d) (hb:blk < w0.heap.size)
  (a b:Nat) (hab:a≤b) (hbn:b≤d.size) (hsz:d.size < 4611686018427387904) :
  Calls Tryz.prog 168 #[.agg #[.func (.func g) #[] lb,.func (.func sf) #[] sb],.int .i64 a,.int .i64 b] w0 fun e w' =>
   e=.returned (.tuple #[])∧Fam enc k blk off w0 (Sort.insertionSort lt d a b) w':=by
 have HF:=Box.mk (A2p hH g lb sf sb)
 have hb1:blk <(A1p w0 g lb sf sb).heap.size:=by rw[R3];omega
 have HH:=Box.mk (HF.out.holds hb hH rfl)
 have HS:=Box.mk hswap
 have HL:=Box.mk (hless.on hb HF.out rfl)
 have eg:∀ args w,(callFunc g args).run Tryz.prog w=.ok (.enter g args) w:=fun args w=>N5 hg w
 clear hswap hless
 go_enter Tryz.func168,Tryz.ntmps168
 go_wp2
 go_loopw [6] (fun vi wr=>∃(i:Nat) (dk:Array α),vi=.int .i64 i∧a < i∧i≤b+1∧dk.size=d.size∧Box (Fam enc k blk off (A1p w0 g lb sf sb) dk wr)∧Box (insOuter lt a b i dk=insOuter lt a b (a+1) d)) (fun vi _=>b+1-(intOf vi).toNat)
 case atStart=>exact⟨a+1,d,by go_num,by omega,by omega,rfl,⟨Fam.start HH.out⟩,⟨rfl⟩⟩
 case round =>
  obtain⟨i,dk,rfl,hai,hib,hsk,HW,HO⟩:=hrel
  go_wp2
  ·go_loopw [7] (fun vj wr2=>∃(j:Nat) (dj:Array α),vj=.int .i64 j∧a≤j∧j≤i∧dj.size=d.size∧Box (Fam enc k blk off (A1p w0 g lb sf sb) dj wr2)∧Box (insInner lt a j dj=insInner lt a i dk)) (fun vj _=>(intOf vj).toNat)
   case atStart=>exact⟨i,dk,rfl,by omega,Nat.le_refl _,hsk,HW,⟨rfl⟩⟩
   case round =>
    obtain⟨j,dj,rfl,haj,hji,hsj,HJ,HI⟩:=hrel
    have hlt:i < b:=by assumption
    have c:=G9 hb g lb sf sb HJ.out
    have c0:=c.1
    have c1:=c.2
    clear c
    by_cases hja:a < j
    ·have hl:=HL.out wr dj HJ.out hsj j (j-1) (by omega) (by omega)
     rw[show(((j-1:Nat):Int))=(j:Int)-1 by omega]at hl
     cases hlv:lt dj[j]! dj[j-1]! with
     | true =>
      rw[hlv]at hl
      have HQ:=Box.mk hl
      clear hl
      go_wp2_with (go_at_fn g;refine HQ.out.mono ?_;rintro e w' ⟨rfl,hB⟩;have c2:=(G9 hb g lb sf sb (HJ.out.below hB)).2;have FB:=Box.mk (HJ.out.below hB);clear hB)
      have hs:=HS.out w' dj (FB.out.holds hb1 HH.out hsj) hsj j (j-1) (by omega) (by omega) (by omega)
      rw[show(((j-1:Nat):Int))=(j:Int)-1 by omega]at hs
      rw[hs,Oper.upon_value]
      clear hs
      go_wp2
      go_roundw
      case rel =>
       (repeat apply Exists.intro)
       refine⟨⟨j-1,swp dj j (j-1),by congr 1 <;> omega,by omega,by omega,by rw[Sort.size_swp];exact hsj,⟨FB.out.swap hk hb1 _ _ (by omega) (by omega)⟩,⟨?_⟩⟩,by rw[decide_eq_true hlt,show((j-1:Nat):Int)=(j:Int)-1 by omega]⟩
       rw[← HI.out,insInner_go lt a j dj hja hlv]
      case measure=>simp [intOf];omega
     | false =>
      rw[hlv]at hl
      have HQ:=Box.mk hl
      clear hl
      go_wp2_with (go_at_fn g;refine HQ.out.mono ?_;rintro e w' ⟨rfl,hB⟩)
      go_roundw
      case rel=>exact⟨i+1,dj,by go_num,by omega,by omega,hsj,⟨HJ.out.below hB⟩,⟨by rw[← HO.out,insOuter_go _ _ _ _ _ hlt,← HI.out,insInner_stop _ _ _ _ (Or.inr hlv)]⟩⟩
      case measure=>simp [intOf];omega
    ·go_wp2
     go_roundw
     case rel=>exact⟨i+1,dj,by go_num,by omega,by omega,hsj,HJ,⟨by rw[← HO.out,insOuter_go _ _ _ _ _ hlt,← HI.out,insInner_stop _ _ _ _ (Or.inl (by omega))]⟩⟩
     case measure=>simp [intOf];omega
  ·have hge:¬ i < b:=by omega
   go_end0
   exact⟨rfl,by unfold Sort.insertionSort;rw[← HO.out,insOuter_stop _ _ _ _ _ hge];exact HF.out.trans hb HW.out hsk⟩
end
end Go.Proofs.YtokhjapfekbobaaGreat
namespace Go.Proofs.YtokhjapfekbobaaGreat
open Go.E
set_option maxRecDepth 100000
set_option maxHeartbeats 4000000
open Go Go.Sort Go.RowKit Go.Lib Go.Shelf Go.Proofs
section
variable {α : Type} [Inhabited α] {enc : α → List Value} {k blk off : Nat}
section
variable {lt0 lt : α → α → Bool} {d dA dB dC : Array α} {a m b start h h' : Nat}
theorem Aj6(hO:SWO lt)(hs:SortedIn lt a b d){i j:Nat}(h1:a≤i)(h2:i≤j)(h3:j < b):lt d[j]! d[i]! = false:=by
 rcases Nat.lt_or_ge i j with h | h
 ·exact hs i j h1 h h3
 ·rw[show i=j by omega];exact hO.irrefl _
theorem srA_t(hO:SWO lt)(hs:SortedIn lt m b d){x:α}(h1:h < b)(ht:lt d[h]! x=true)(h2:m≤h')(h3:h'≤h):lt d[h']! x=true:=by
 cases hc:lt d[h']! x with
 | true=>rfl
 | false=>rw[hO.ntrans _ _ _ (Aj6 hO hs h2 h3 h1) hc]at ht;cases ht
theorem srA_f(hO:SWO lt)(hs:SortedIn lt m b d){x:α}(h1:m≤h)(ht:lt d[h]! x=false)(h2:h≤h')(h3:h' < b):lt d[h']! x=false:=hO.ntrans _ _ _ (Aj6 hO hs h1 h2 h3) ht
theorem srB_f(hO:SWO lt)(hs:SortedIn lt a m d){x:α}(h1:h < m)(ht:lt x d[h]! = false)(h2:a≤h')(h3:h'≤h):lt x d[h']! = false:=hO.ntrans _ _ _ ht (Aj6 hO hs h2 h3 h1)
theorem srB_t(hO:SWO lt)(hs:SortedIn lt a m d){x:α}(h1:a≤h)(ht:lt x d[h]! = true)(h2:h≤h')(h3:h' < m):lt x d[h']! = true:=by
 cases hc:lt x d[h']! with
 | true=>rfl
 | false=>rw[hO.ntrans _ _ _ hc (Aj6 hO hs h1 h2 h3)]at ht;cases ht
theorem srC_f(hO:SWO lt)(hs1:SortedIn lt a m d)(hs2:SortedIn lt m b d){p c c':Nat}(hc:c < m)(hpc:m≤p-c)(ht:lt d[p-c]! d[c]! = false)(h2:a≤c')(h3:c'≤c)(h4:p-c' < b):lt d[p-c']! d[c']! = false :=
 hO.ntrans _ _ _ (hO.ntrans _ _ _ (Aj6 hO hs2 hpc (by omega) h4) ht) (Aj6 hO hs1 h2 h3 hc)
theorem srC_t(hO:SWO lt)(hs1:SortedIn lt a m d)(hs2:SortedIn lt m b d){p c c':Nat}(hc:a≤c)(hpc:p-c < b)(ht:lt d[p-c]! d[c]! = true)(h2:c≤c')(h3:c' < m)(h4:m≤p-c'):lt d[p-c']! d[c']! = true:=by
 cases hh:lt d[p-c']! d[c']! with
 | true=>rfl
 | false=>rw[hO.ntrans _ _ _ (hO.ntrans _ _ _ (Aj6 hO hs2 h4 (by omega) hpc) hh) (Aj6 hO hs1 hc h2 h3)]at ht;cases ht
theorem B9b{a m b q:Nat}(h:a=m∨m=b)(h1:a≤m)(h2:m≤b):G7 a m b q=q:=by
 unfold G7;rcases h with h | h
 ·subst h;split
  ·omega
  ·rw[if_neg (by omega)]
 ·subst h;rw[if_neg (by omega)];split <;> omega
theorem Bo7(ham:a < m)(hmb:m < b)(hC:Cut lt a m b start d)(hd:∀ q,dA[q]! = d[G7 start m ((a+b) / 2+m-start) q]!)(ho:∀ p q,a≤p→p < m→m≤q→q < b→lt0 d[q]! d[p]! = lt d[q]! d[p]!) :
  (∀ p q,a≤p→p < start→start≤q→q <(a+b) / 2→lt0 dA[q]! dA[p]! = lt dA[q]! dA[p]!)∧(∀ p q,(a+b) / 2≤p→p <(a+b) / 2+m-start→(a+b) / 2+m-start≤q→q < b→lt0 dA[q]! dA[p]! = lt dA[q]! dA[p]!):=by
 obtain⟨c1,c2,c3,c4,c5,c6⟩:=hC
 clear c5 c6
 constructor
 ·intro p q h1 h2 h3 h4
  rw[hd p,hd q]
  have e1:G7 start m ((a+b) / 2+m-start) p=p:=by unfold G7;rw[if_neg (by omega),if_neg (by omega)]
  have e2:G7 start m ((a+b) / 2+m-start) q=q-start+m:=by unfold G7;rw[if_pos (by omega)]
  rw[e1,e2]
  exact ho _ _ h1 (by omega) (by omega) (by omega)
 ·intro p q h1 h2 h3 h4
  rw[hd p,hd q]
  have e1:G7 start m ((a+b) / 2+m-start) p=p-((a+b) / 2+m-start-m):=by unfold G7;rw[if_neg (by omega),if_pos (by omega)]
  have e2:G7 start m ((a+b) / 2+m-start) q=q:=by unfold G7;rw[if_neg (by omega),if_neg (by omega)]
  rw[e1,e2]
  exact ho _ _ (by omega) (by omega) (by omega) (by omega)
theorem B9c{mid e:Nat}(h:PermIn a mid dA dB)(ho:∀ p q,mid≤p→p < e→e≤q→q < b→lt0 dA[q]! dA[p]! = lt dA[q]! dA[p]!):∀ p q,mid≤p→p < e→e≤q→q < b→lt0 dB[q]! dB[p]! = lt dB[q]! dB[p]!:=by
 intro p q h1 h2 h3 h4
 rw[h.2.1 p (by omega),h.2.1 q (by omega)];exact ho p q h1 h2 h3 h4
theorem Z2{mid e f:Nat}(h:PermIn a mid dA dB)(hm:mid≤e)(hs:SortedIn lt e f dA):SortedIn lt e f dB:=K6 hs fun i h1 h2=>h.2.1 i (by omega)
theorem Bo8{mid:Nat}(ham:a≤mid)(hmb:mid≤b)(hb:b≤d.size)(hA:PermIn a b d dA)(hx:∀ p q,a≤p→p < mid→mid≤q→q < b→lt dA[q]! dA[p]! = false)(hB:PermIn a mid dA dB)(hBs:SortedIn lt a mid dB)
  (hC:PermIn mid b dB dC) (hCs:SortedIn lt mid b dC):PermIn a b d dC∧SortedIn lt a b dC:=by
 have sA:dA.size=d.size:=hA.1
 have sB:dB.size=dA.size:=hB.1
 refine⟨permIn_trans d dA dC _ _ hA (permIn_trans dA dB dC _ _ (J7 (Nat.le_refl _) hmb (by omega) hB) (J7 ham (Nat.le_refl _) (by omega) hC)),?_⟩
 exact A93 (K6 hBs fun i h1 h2=>hC.2.1 i (by omega)) hCs (An8 ham hmb (by omega) hC (B0j ham hmb (by omega) hB hx))
end
set_option maxHeartbeats 8000000 in
theorem A2r (hk:∀ x,(enc x).length=k) (lt0 lt:α→α→Bool) (hO:SWO lt) (g:Nat) (lb:Array Value) (sf:Nat) (sb:Array Value) (hg:E6 Tryz.prog g):∀(n:Nat) (w0:World) (d:Array α) (hless:A2q g lb enc k lt0 blk off d.size w0) (hswap:A2o sf sb enc k blk off d.size) (hH:HoldsK enc k w0 blk off d) (hb:blk < w0.heap.size)
  (a m b:Nat) (ham:a < m) (hmb:m < b) (hbn:b≤d.size) (hsz:d.size < 4611686018427387904) (hn:b-a≤n)
  (hord:∀ p q,a≤p→p < m→m≤q→q < b→lt0 d[q]! d[p]! = lt d[q]! d[p]!) (hs1:SortedIn lt a m d) (hs2:SortedIn lt m b d),
  Calls Tryz.prog 214 #[.agg #[.func (.func g) #[] lb,.func (.func sf) #[] sb],.int .i64 a,.int .i64 m,.int .i64 b] w0 fun e w' =>
   e=.returned (.tuple #[])∧∃ d',Fam enc k blk off w0 d' w'∧d'.size=d.size∧PermIn a b d d'∧SortedIn lt a b d':=by
 intro n
 induction n with
 | zero=>intros;omega
 | succ n ih =>
 intro w0 d hless hswap hH hb a m b ham hmb hbn hsz hn hord hs1 hs2
 have HF:=Box.mk (A2p hH g lb sf sb)
 have hb1:blk <(A1p w0 g lb sf sb).heap.size:=by rw[R3];omega
 have HH:=Box.mk (HF.out.holds hb hH rfl)
 have HS:=Box.mk hswap
 have HL:=Box.mk (hless.on hb HF.out rfl)
 have HO:=Box.mk hord
 have H1:=Box.mk hs1
 have H2:=Box.mk hs2
 have IH:=Box.mk ih
 have eg:∀ args w,(callFunc g args).run Tryz.prog w=.ok (.enter g args) w:=fun args w=>N5 hg w
 clear hswap hless hord hs1 hs2 ih
 by_cases hone:m=a+1
 ·have hone1:(m:Int)-a=1:=by omega
  have hma1:m≤a+1:=by omega
  have HM:=Box.mk hone
  clear hone
  go_enter Tryz.func214,Tryz.ntmps214
  go_wp2
  clear hone1
  go_loopw [8,9] (fun v8 v9 wr=>∃(i j:Nat),v8=.int .i64 i∧v9=.int .i64 j∧m≤i∧i≤j∧j≤b∧Box (Fam enc k blk off (A1p w0 g lb sf sb) d wr)∧Box ((∀ h,m≤h→h < i→lt d[h]! d[a]! = true)∧(∀ h,j≤h→h < b→lt d[h]! d[a]! = false))) (fun v8 v9 _=>(intOf v9).toNat-(intOf v8).toNat)
  case atStart=>exact⟨m,b,rfl,rfl,by omega,by omega,by omega,⟨Fam.start HH.out⟩,⟨fun h h1 h2=>by omega,fun h h1 h2=>by omega⟩⟩
  case round =>
   obtain⟨i,j,rfl,rfl,hai,hij,hjb,HW,HI⟩:=hrel
   have c:=G9 hb g lb sf sb HW.out
   have c0:=c.1
   have c1:=c.2
   clear c
   by_cases hlt:i < j
   ·have hl:=HL.out wr d HW.out rfl ((i+j) / 2) a (by omega) (by omega)
    have ho:=HO.out a ((i+j) / 2) (by omega) (by omega) (by omega) (by omega)
    cases hlv:lt d[(i+j) / 2]! d[a]! with
    | true =>
     rw[ho,hlv]at hl
     clear ho
     have HQ:=Box.mk hl
     clear hl
     go_wp2_with (go_at_fn g;refine HQ.out.mono ?_;rintro e w' ⟨rfl,hB⟩;have FB:=Box.mk (HW.out.below hB);clear hB)
     go_roundw
     case rel=>exact⟨(i+j) / 2+1,j,by go_num,rfl,by omega,by omega,by omega,FB,⟨fun h h1 h2=>srA_t hO H2.out (by omega) hlv h1 (by omega),HI.out.2⟩⟩
     case measure=>simp [intOf];omega
    | false =>
     rw[ho,hlv]at hl
     clear ho
     have HQ:=Box.mk hl
     clear hl
     go_wp2_with (go_at_fn g;refine HQ.out.mono ?_;rintro e w' ⟨rfl,hB⟩;have FB:=Box.mk (HW.out.below hB);clear hB)
     go_roundw
     case rel=>exact⟨i,(i+j) / 2,rfl,by go_num,by omega,by omega,by omega,FB,⟨HI.out.1,fun h h1 h2=>srA_f hO H2.out (by omega) hlv h1 h2⟩⟩
     case measure=>simp [intOf];omega
   ·obtain rfl:i=j:=by omega
    go_wp2
    go_loopw [11] (fun v11 wz=>∃(c:Nat) (dk:Array α),v11=.int .i64 c∧a≤c∧c+1≤i∧dk.size=d.size∧Box (Fam enc k blk off (A1p w0 g lb sf sb) dk wz)∧Box (PermIn a b d dk∧∀ q,dk[q]! = d[G7 a (a+1) (c+1) q]!)) (fun v11 _=>i-(intOf v11).toNat)
    case atStart=>exact⟨a,d,rfl,by omega,by omega,rfl,HW,⟨permIn_refl d _ _,fun q=>by rw[B2t]⟩⟩
    case round =>
     obtain⟨c,dk,rfl,hac,hci,hsk,HK,HD⟩:=hrel
     have c1':=(G9 hb g lb sf sb HK.out).2
     clear c0 c1
     by_cases hend:c+1 < i
     ·have hs:=HS.out wr dk (HK.out.holds hb1 HH.out hsk) hsk c (c+1) (by omega) (by omega) (by omega)
      rw[show((c+1:Nat):Int)=(c:Int)+1 by omega]at hs
      have hend1:(c:Int) <(i:Int)-1:=by omega
      go_wp2
      go_roundw
      case rel =>
       exact⟨c+1,swp dk c (c+1),by go_num,by omega,by omega,by rw[Sort.size_swp];exact hsk,⟨HK.out.swap hk hb1 _ _ (by omega) (by omega)⟩,
        ⟨permIn_trans d dk _ _ _ HD.out.1 (swp_permIn dk a b c (c+1) (by omega) (by omega) (by omega) (by omega) (by omega)),Bh8 hac (by omega) hsk HD.out.2⟩⟩
      case measure=>simp [intOf];omega
     ·obtain rfl:i=c+1:=by omega
      have hend1:¬(c:Int) <((c+1:Nat):Int)-1:=by omega
      go_wp2
      (try simp only [Exit.inBlock,Exit.then]);refine bodyPost_ret (results_none rfl _ _ _) rfl ?_
      obtain rfl:=HM.out
      exact⟨rfl,dk,HF.out.trans hb HK.out hsk,hsk,HD.out.1,A74 hO H2.out (by omega) (by omega) (fun h h1 h2=>HI.out.1 h h1 h2) (fun h h1 h2=>HI.out.2 h h1 h2) HD.out.2⟩
 ·by_cases hlast:b=m+1
  ·have hone1:(b:Int)-m=1:=by omega
   have hone0:¬(m:Int)-a=1:=by omega
   have hma1:b≤m+1:=by omega
   have hma2:a+2≤m:=by omega
   have HM:=Box.mk hlast
   clear hlast hone
   go_enter Tryz.func214,Tryz.ntmps214
   go_wp2
   clear hone1 hone0
   have hx:((m:Int)-a == 1)=false:=beq_false_of_ne (by omega)
   try simp only [hx]
   clear hx
   go_loopw [12,13] (fun v8 v9 wr=>∃(i j:Nat),v8=.int .i64 i∧v9=.int .i64 j∧a≤i∧i≤j∧j≤m∧Box (Fam enc k blk off (A1p w0 g lb sf sb) d wr)∧Box ((∀ h,a≤h→h < i→lt d[m]! d[h]! = false)∧(∀ h,j≤h→h < m→lt d[m]! d[h]! = true))) (fun v8 v9 _=>(intOf v9).toNat-(intOf v8).toNat)
   case atStart=>exact⟨a,m,rfl,rfl,by omega,by omega,by omega,⟨Fam.start HH.out⟩,⟨fun h h1 h2=>by omega,fun h h1 h2=>by omega⟩⟩
   case round =>
    obtain⟨i,j,rfl,rfl,hai,hij,hjb,HW,HI⟩:=hrel
    have c:=G9 hb g lb sf sb HW.out
    have c0:=c.1
    have c1:=c.2
    clear c
    by_cases hlt:i < j
    ·have hl:=HL.out wr d HW.out rfl m ((i+j) / 2) (by omega) (by omega)
     have ho:=HO.out ((i+j) / 2) m (by omega) (by omega) (by omega) (by omega)
     cases hlv:lt d[m]! d[(i+j) / 2]! with
     | false =>
      rw[ho,hlv]at hl
      clear ho
      have HQ:=Box.mk hl
      clear hl
      go_wp2_with (go_at_fn g;refine HQ.out.mono ?_;rintro e w' ⟨rfl,hB⟩;have FB:=Box.mk (HW.out.below hB);clear hB)
      go_roundw
      case rel=>exact⟨(i+j) / 2+1,j,by go_num,rfl,by omega,by omega,by omega,FB,⟨fun h h1 h2=>srB_f hO H1.out (by omega) hlv h1 (by omega),HI.out.2⟩⟩
      case measure=>simp [intOf];omega
     | true =>
      rw[ho,hlv]at hl
      clear ho
      have HQ:=Box.mk hl
      clear hl
      go_wp2_with (go_at_fn g;refine HQ.out.mono ?_;rintro e w' ⟨rfl,hB⟩;have FB:=Box.mk (HW.out.below hB);clear hB)
      go_roundw
      case rel=>exact⟨i,(i+j) / 2,rfl,by go_num,by omega,by omega,by omega,FB,⟨HI.out.1,fun h h1 h2=>srB_t hO H1.out (by omega) hlv h1 h2⟩⟩
      case measure=>simp [intOf];omega
    ·obtain rfl:i=j:=by omega
     go_wp2
     go_loopw [15] (fun v11 wz=>∃(c:Nat) (dk:Array α),v11=.int .i64 c∧i≤c∧c≤m∧dk.size=d.size∧Box (Fam enc k blk off (A1p w0 g lb sf sb) dk wz)∧Box (PermIn a b d dk∧∀ q,dk[q]! = d[G7 c m (m+1) q]!)) (fun v11 _=>(intOf v11).toNat-i)
     case atStart=>exact⟨m,d,rfl,by omega,by omega,rfl,HW,⟨permIn_refl d _ _,fun q=>by rw[B2v]⟩⟩
     case round =>
      obtain⟨c,dk,rfl,hac,hci,hsk,HK,HD⟩:=hrel
      have c1':=(G9 hb g lb sf sb HK.out).2
      clear c0 c1
      by_cases hend:i < c
      ·have hs:=HS.out wr dk (HK.out.holds hb1 HH.out hsk) hsk c (c-1) (by omega) (by omega) (by omega)
       rw[show((c-1:Nat):Int)=(c:Int)-1 by omega]at hs
       go_wp2
       go_roundw
       case rel =>
        have hd:=B2u (d:=d) (dk:=dk) (c:=c-1) (m:=m) (by omega) (by omega) hsk
        rw[show c-1+1=c by omega]at hd
        exact⟨c-1,swp dk c (c-1),by go_num,by omega,by omega,by rw[Sort.size_swp];exact hsk,⟨HK.out.swap hk hb1 _ _ (by omega) (by omega)⟩,
         ⟨permIn_trans d dk _ _ _ HD.out.1 (swp_permIn dk a b c (c-1) (by omega) (by omega) (by omega) (by omega) (by omega)),hd HD.out.2⟩⟩
       case measure=>simp [intOf];omega
      ·obtain rfl:i=c:=by omega
       go_wp2
       (try simp only [Exit.inBlock,Exit.then]);refine bodyPost_ret (results_none rfl _ _ _) rfl ?_
       obtain rfl:=HM.out
       exact⟨rfl,dk,HF.out.trans hb HK.out hsk,hsk,HD.out.1,A57 hO H1.out (by omega) (by omega) (fun h h1 h2=>HI.out.1 h h1 h2) (fun h h1 h2=>HI.out.2 h h1 h2) HD.out.2⟩
  ·have hone1:¬(b:Int)-m=1:=by omega
   have hone0:¬(m:Int)-a=1:=by omega
   clear hlast hone
   have hmid1:2*((a+b) / 2)≤a+b:=by omega
   have hmid2:a+b≤2*((a+b) / 2)+1:=by omega
   go_enter Tryz.func214,Tryz.ntmps214
   go_upto_if 106 with fail
   go_cut [18,19] (fun s18 s19 wx=>wx=A1p w0 g lb sf sb∧∃ s0 r0:Nat,s18=.int .i64 s0∧s19=.int .i64 r0∧a≤s0∧(a+b) / 2+m≤b+s0∧(s0=a∨s0+b=(a+b) / 2+m)∧r0≤m∧r0≤(a+b) / 2∧(r0=m∨r0=(a+b) / 2)∧s0≤r0)
   case first =>
    by_cases hm:(a+b) / 2 < m
    ·go_wp2
     go_meet
     case rel=>exact⟨rfl,(a+b) / 2+m-b,(a+b) / 2,by go_num,by go_num,by omega,by omega,by omega,by omega,by omega,by omega,by omega⟩
    ·go_wp2
     go_meet
     case rel=>exact⟨rfl,a,m,by go_num,by go_num,by omega,by omega,by omega,by omega,by omega,by omega,by omega⟩
   case rest =>
    obtain⟨rfl,s0,r0,rfl,rfl,g1,g2,g3,g4,g5,g6,g7⟩:=hcut
    go_wp2
    clear hone0 hone1
    go_loopw [18,19] (fun v8 v9 wr=>∃(i j:Nat),v8=.int .i64 i∧v9=.int .i64 j∧s0≤i∧i≤j∧j≤r0∧Box (Fam enc k blk off (A1p w0 g lb sf sb) d wr)∧Box ((∀ c,a≤c→(a+b) / 2+m≤b+c→c < i→lt d[(a+b) / 2+m-1-c]! d[c]! = false)∧(∀ c,j≤c→c < m→c <(a+b) / 2→lt d[(a+b) / 2+m-1-c]! d[c]! = true))) (fun v8 v9 _=>(intOf v9).toNat-(intOf v8).toNat)
    case atStart=>exact⟨s0,r0,rfl,rfl,by omega,by omega,by omega,⟨Fam.start HH.out⟩,⟨fun h h1 h2 h3=>by omega,fun h h1 h2 h3=>by omega⟩⟩
    case round =>
     obtain⟨i,j,rfl,rfl,hai,hij,hjb,HW,HI⟩:=hrel
     by_cases hlt:i < j
     ·have c:=G9 hb g lb sf sb HW.out
      have c0:=c.1
      have c1:=c.2
      clear c
      have hl:=HL.out wr d HW.out rfl ((a+b) / 2+m-1-(i+j) / 2) ((i+j) / 2) (by omega) (by omega)
      have ho:=HO.out ((i+j) / 2) ((a+b) / 2+m-1-(i+j) / 2) (by omega) (by omega) (by omega) (by omega)
      cases hlv:lt d[(a+b) / 2+m-1-(i+j) / 2]! d[(i+j) / 2]! with
      | false =>
       rw[ho,hlv,show(((a+b) / 2+m-1-(i+j) / 2:Nat):Int)=((a:Int)+b) / 2+m-1-((i:Int)+j) / 2 by omega]at hl
       clear ho
       have HQ:=Box.mk hl
       clear hl
       go_wp2_with (go_at_fn g;refine HQ.out.mono ?_;rintro e w' ⟨rfl,hB⟩;have FB:=Box.mk (HW.out.below hB);clear hB)
       go_roundw
       case rel=>exact⟨(i+j) / 2+1,j,by go_num,rfl,by omega,by omega,by omega,FB,⟨fun c h1 h2 h3=>srC_f hO H1.out H2.out (by omega) (by omega) hlv h1 (by omega) (by omega),HI.out.2⟩⟩
       case measure=>simp [intOf];omega
      | true =>
       rw[ho,hlv,show(((a+b) / 2+m-1-(i+j) / 2:Nat):Int)=((a:Int)+b) / 2+m-1-((i:Int)+j) / 2 by omega]at hl
       clear ho
       have HQ:=Box.mk hl
       clear hl
       go_wp2_with (go_at_fn g;refine HQ.out.mono ?_;rintro e w' ⟨rfl,hB⟩;have FB:=Box.mk (HW.out.below hB);clear hB)
       go_roundw
       case rel=>exact⟨i,(i+j) / 2,rfl,by go_num,by omega,by omega,by omega,FB,⟨HI.out.1,fun c h1 h2 h3=>srC_t hO H1.out H2.out (by omega) (by omega) hlv h1 h2 (by omega)⟩⟩
       case measure=>simp [intOf];omega
     ·obtain rfl:i=j:=by omega
      have HC:=Box.mk (Cut.mk (lt:=lt) (a:=a) (m:=m) (b:=b) (start:=i) (d:=d) (by omega) (by omega) (by omega) (by omega) HI.out.1 HI.out.2)
      have he:(((a+b) / 2+m-i:Nat):Int)=((a:Int)+b) / 2+m-i:=by omega
      have HE:=Box.mk he
      clear he
      go_upto_region 40 with fail
      go_cut [145] (fun s wx=>wx=wr∧s=.bool (decide (i < m∧m <(a+b) / 2+m-i)))
      case first =>
       by_cases h1:i < m
       ·by_cases h2:m <(a+b) / 2+m-i
        ·go_wp2
         go_meet
         case rel=>exact⟨rfl,(congrArg Value.bool (by first | exact(decide_eq_true (by omega)).symm | exact(decide_eq_false (by omega)).symm | exact decide_eq_decide.mpr (by omega)))⟩
        ·go_wp2
         go_meet
         case rel=>exact⟨rfl,(congrArg Value.bool (by first | exact(decide_eq_true (by omega)).symm | exact(decide_eq_false (by omega)).symm | exact decide_eq_decide.mpr (by omega)))⟩
       ·go_wp2
        go_meet
        case rel=>exact⟨rfl,(congrArg Value.bool (by first | exact(decide_eq_true (by omega)).symm | exact(decide_eq_false (by omega)).symm | exact decide_eq_decide.mpr (by omega)))⟩
      case rest =>
       obtain⟨rfl,rfl⟩:=hcut
       go_upto_if 145 with fail
       go_cut [] (fun wx=>∃ dA,Box (Fam enc k blk off (A1p w0 g lb sf sb) dA wx)∧Box (dA.size=d.size)∧Box (PermIn a b d dA∧∀ q,dA[q]! = d[G7 i m ((a+b) / 2+m-i) q]!))
       case first =>
        by_cases h12:i < m∧m <(a+b) / 2+m-i
        ·have hc:=Aq1 hk g lb sf sb wc d HS.out (HW.out.holds hb1 HH.out rfl) (by have:=HW.out.size;omega) i m ((a+b) / 2+m-i) h12.1 h12.2 (by omega) hsz
         rw[HE.out]at hc
         have HQ:=Box.mk hc
         have c:=G9 hb g lb sf sb HW.out
         have c0:=c.1
         have c1:=c.2
         clear c
         have h12b:decide (i < m∧m <(a+b) / 2+m-i)=true:=decide_eq_true h12
         clear hc
         go_wp2_with (go_at_call 219;refine HQ.out.mono ?_;rintro e w1 ⟨rfl,dA,f1,f2,f3,f4⟩;have FA:=Box.mk (HW.out.trans hb1 f1 f2);have SA:=Box.mk f2;have PA:=Box.mk f3;have RA:=Box.mk f4;clear f1 f2 f3 f4)
         go_meet
         case rel=>exact⟨dA,FA,SA,⟨J7 (by omega) (by omega) (by omega) PA.out,RA.out⟩⟩
        ·have h12b:decide (i < m∧m <(a+b) / 2+m-i)=false:=decide_eq_false h12
         go_wp2_with fail
         go_meet
         case rel=>exact⟨d,HW,⟨rfl⟩,⟨permIn_refl d _ _,fun q=>by rw[B9b (by omega) (by omega) (by omega)]⟩⟩
       case rest =>
        obtain⟨dA,FA,SA,PA⟩:=hcut
        have HP:=Box.mk (B2w hO H1.out H2.out ham hmb HC.out PA.out.2)
        have HR:=Box.mk (Bo7 ham hmb HC.out PA.out.2 HO.out)
        clear HW
        go_upto_region 42 with fail
        go_cut [158] (fun s wx=>wx=wc∧s=.bool (decide (a < i∧i <(a+b) / 2)))
        case first =>
         by_cases h1:a < i
         ·by_cases h2:i <(a+b) / 2
          ·go_wp2
           go_meet
           case rel=>exact⟨rfl,(congrArg Value.bool (by first | exact(decide_eq_true (by omega)).symm | exact(decide_eq_false (by omega)).symm | exact decide_eq_decide.mpr (by omega)))⟩
          ·go_wp2
           go_meet
           case rel=>exact⟨rfl,(congrArg Value.bool (by first | exact(decide_eq_true (by omega)).symm | exact(decide_eq_false (by omega)).symm | exact decide_eq_decide.mpr (by omega)))⟩
         ·go_wp2
          go_meet
          case rel=>exact⟨rfl,(congrArg Value.bool (by first | exact(decide_eq_true (by omega)).symm | exact(decide_eq_false (by omega)).symm | exact decide_eq_decide.mpr (by omega)))⟩
        case rest =>
         obtain⟨rfl,rfl⟩:=hcut
         go_upto_if 158 with fail
         go_cut [] (fun wx=>∃ dB,Box (Fam enc k blk off (A1p w0 g lb sf sb) dB wx)∧Box (dB.size=d.size)∧Box (PermIn a ((a+b) / 2) dA dB∧SortedIn lt a ((a+b) / 2) dB))
         case first =>
          by_cases h12:a < i∧i <(a+b) / 2
          ·have hc:=IH.out wc dA (by rw[SA.out];exact HL.out.on hb1 FA.out SA.out) (by rw[SA.out];exact HS.out) (FA.out.holds hb1 HH.out SA.out) (by have:=FA.out.size;omega) a i ((a+b) / 2) h12.1 h12.2 (by rw[SA.out];omega) (by rw[SA.out];exact hsz) (by omega) HR.out.1 HP.out.1 HP.out.2.1
           rw[show((((a+b) / 2:Nat)):Int)=((a:Int)+b) / 2 by omega]at hc
           have HQ:=Box.mk hc
           have c:=G9 hb g lb sf sb FA.out
           have c0:=c.1
           have c1:=c.2
           clear c
           have h12b:decide (a < i∧i <(a+b) / 2)=true:=decide_eq_true h12
           clear hc
           go_wp2_with (go_at_call 214;refine HQ.out.mono ?_;rintro e w1 ⟨rfl,dB,f1,f2,f3,f4⟩;have FB:=Box.mk (FA.out.trans hb1 f1 f2);have SB:=Box.mk (f2.trans SA.out);have PB:=Box.mk f3;have RB:=Box.mk f4;clear f1 f2 f3 f4)
           go_meet
           case rel=>exact⟨dB,FB,SB,⟨PB.out,RB.out⟩⟩
          ·have h12b:decide (a < i∧i <(a+b) / 2)=false:=decide_eq_false h12
           go_wp2_with fail
           go_meet
           case rel =>
            refine⟨dA,FA,SA,⟨permIn_refl dA _ _,?_⟩⟩
            have q1:=HC.out.hi2
            have q2:=HC.out.lo
            rcases Nat.lt_or_ge a i with q3 | q3
            ·have q4:i=(a+b) / 2:=by omega
             have q5:=HP.out.1
             rw[q4]at q5
             exact q5
            ·have q4:i=a:=by omega
             have q5:=HP.out.2.1
             rw[q4]at q5
             exact q5
         case rest =>
          obtain⟨dB,FB,SB,PB⟩:=hcut
          go_upto_region 44 with fail
          go_cut [171] (fun s wx=>wx=wc∧s=.bool (decide ((a+b) / 2 <(a+b) / 2+m-i∧(a+b) / 2+m-i < b)))
          case first =>
           by_cases h1:(a+b) / 2 <(a+b) / 2+m-i
           ·by_cases h2:(a+b) / 2+m-i < b
            ·go_wp2
             go_meet
             case rel=>exact⟨rfl,(congrArg Value.bool (by first | exact(decide_eq_true (by omega)).symm | exact(decide_eq_false (by omega)).symm | exact decide_eq_decide.mpr (by omega)))⟩
            ·go_wp2
             go_meet
             case rel=>exact⟨rfl,(congrArg Value.bool (by first | exact(decide_eq_true (by omega)).symm | exact(decide_eq_false (by omega)).symm | exact decide_eq_decide.mpr (by omega)))⟩
           ·go_wp2
            go_meet
            case rel=>exact⟨rfl,(congrArg Value.bool (by first | exact(decide_eq_true (by omega)).symm | exact(decide_eq_false (by omega)).symm | exact decide_eq_decide.mpr (by omega)))⟩
          case rest =>
           obtain⟨rfl,rfl⟩:=hcut
           have PA1:=PA.out.1
           have HX:=Box.mk (fun dC h1 h2=>Bo8 (lt:=lt) (mid:=(a+b) / 2) (dC:=dC) (by omega) (by omega) hbn PA1 HP.out.2.2.2.2 PB.out.1 PB.out.2 h1 h2)
           clear PA1
           by_cases h12:(a+b) / 2 <(a+b) / 2+m-i∧(a+b) / 2+m-i < b
           ·have hc:=IH.out wc dB (by rw[SB.out];exact HL.out.on hb1 FB.out SB.out) (by rw[SB.out];exact HS.out) (FB.out.holds hb1 HH.out SB.out) (by have:=FB.out.size;omega) ((a+b) / 2) ((a+b) / 2+m-i) b h12.1 h12.2 (by rw[SB.out];omega) (by rw[SB.out];exact hsz) (by omega) (B9c PB.out.1 HR.out.2) (Z2 PB.out.1 (Nat.le_refl _) HP.out.2.2.1) (Z2 PB.out.1 (by omega) HP.out.2.2.2.1)
            rw[HE.out,show((((a+b) / 2:Nat)):Int)=((a:Int)+b) / 2 by omega]at hc
            have HQ:=Box.mk hc
            have c:=G9 hb g lb sf sb FB.out
            have c0:=c.1
            have c1:=c.2
            clear c
            have h12b:decide ((a+b) / 2 <(a+b) / 2+m-i∧(a+b) / 2+m-i < b)=true:=decide_eq_true h12
            clear hc
            go_wp2_with (go_at_call 214;refine HQ.out.mono ?_;rintro e w1 ⟨rfl,dC,f1,f2,f3,f4⟩;have FC:=Box.mk (FB.out.trans hb1 f1 f2);have SC:=Box.mk (f2.trans SB.out);have PC:=Box.mk f3;have RC:=Box.mk f4;clear f1 f2 f3 f4)
            go_end0
            exact⟨rfl,dC,HF.out.trans hb FC.out SC.out,SC.out,HX.out dC PC.out RC.out⟩
           ·have h12b:decide ((a+b) / 2 <(a+b) / 2+m-i∧(a+b) / 2+m-i < b)=false:=decide_eq_false h12
            go_wp2_with fail
            go_end0
            refine⟨rfl,dB,HF.out.trans hb FB.out SB.out,SB.out,HX.out dB (permIn_refl dB _ _) ?_⟩
            have q1:=HC.out.hi
            have q2:=HC.out.lo2
            have q6:=HC.out.hi2
            rcases Nat.lt_or_ge ((a+b) / 2) ((a+b) / 2+m-i)with q3 | q3
            ·have q4:(a+b) / 2+m-i=b:=by omega
             have q5:=Z2 PB.out.1 (Nat.le_refl _) HP.out.2.2.1
             rw[q4]at q5
             exact q5
            ·have q4:(a+b) / 2+m-i=(a+b) / 2:=by omega
             have q5:=Z2 PB.out.1 (by omega) HP.out.2.2.2.1
             rw[q4]at q5
             exact q5
end
end Go.Proofs.YtokhjapfekbobaaGreat
namespace Go.Proofs.YtokhjapfekbobaaGreat
open Go.E
set_option maxRecDepth 100000
set_option maxHeartbeats 4000000
open Go Go.Sort Go.RowKit Go.Lib Go.Shelf Go.Proofs
section
variable {α : Type} [Inhabited α] {enc : α → List Value} {k blk off : Nat}
section
variable {lt0 lt : α → α → Bool} {d d' dk : Array α} {a b c n B : Nat}
def OB(lt0 lt:α→α→Bool)(n c:Nat)(d:Array α):Prop:=∀ p q,p < c→c≤q→q < n→lt0 d[q]! d[p]! = lt d[q]! d[p]!
theorem OB.keep(h:PermIn a b d d')(hb:b≤d.size)(hc:c≤a∨b≤c)(ho:OB lt0 lt n c d)(hbn:b≤n):OB lt0 lt n c d':=by
 intro p q h1 h2 h3
 rcases hc with hc | hc
 ·rw[h.2.1 p (by omega)]
  by_cases hq:a≤q∧q < b
  ·exact permIn_all d d' a b (fun x=>lt0 x d[p]! = lt x d[p]!) hb h (fun i hi him=>ho p i h1 (by omega) (by omega)) q hq.1 hq.2
  ·rw[h.2.1 q (by omega)];exact ho p q h1 h2 h3
 ·rw[h.2.1 q (by omega)]
  by_cases hp:a≤p∧p < b
  ·exact permIn_all d d' a b (fun x=>lt0 d[q]! x=lt d[q]! x) hb h (fun i hi him=>ho i q (by omega) h2 h3) p hp.1 hp.2
  ·rw[h.2.1 p (by omega)];exact ho p q h1 h2 h3
theorem Z7(h1:B ∣ c)(h2:B ∣ a)(h:c < a):c+B≤a:=by
 obtain⟨x,rfl⟩:=h1
 obtain⟨y,rfl⟩:=h2
 have hxy:x < y:=by
  rcases Nat.lt_or_ge x y with h' | h'
  ·exact h'
  ·exact absurd h (Nat.not_lt.mpr (Nat.mul_le_mul_left B h'))
 calc B*x+B=B*(x+1):=by rw[Nat.mul_add,Nat.mul_one]
  _≤B*y:=Nat.mul_le_mul_left B hxy
theorem Aq2(h:2*B ∣ c):B ∣ c:=Nat.dvd_trans ⟨2,Nat.mul_comm 2 B⟩ h
structure Blocks (lt0 lt:α→α→Bool) (B n:Nat) (d:Array α):Prop where
 hi:∀ c,B ∣ c→SortedIn lt c (min (c+B) n) d
 o:∀ c,B ∣ c→OB lt0 lt n c d
structure Pass (lt0 lt:α→α→Bool) (B n a:Nat) (d:Array α):Prop where
 al:2*B ∣ a
 lo:∀ c,2*B ∣ c→c < a→SortedIn lt c (c+2*B) d
 hi:∀ c,B ∣ c→a≤c→SortedIn lt c (min (c+B) n) d
 o1:∀ c,2*B ∣ c→OB lt0 lt n c d
 o2:∀ c,B ∣ c→a≤c→OB lt0 lt n c d
theorem Blocks.start(h:Blocks lt0 lt B n d):Pass lt0 lt B n 0 d:=⟨Nat.dvd_zero _,fun c _ h1=>absurd h1 (Nat.not_lt_zero c),fun c h1 _=>h.hi c h1,fun c h1=>h.o c (Aq2 h1),fun c h1 _=>h.o c h1⟩
theorem Pass.args(h:Pass lt0 lt B n a d)(hb:b≤n)(h1:a+B < b)(h2:b=a+2*B∨(b=n∧b≤a+2*B)) :
  (∀ p q,a≤p→p < a+B→a+B≤q→q < b→lt0 d[q]! d[p]! = lt d[q]! d[p]!)∧SortedIn lt a (a+B) d∧SortedIn lt (a+B) b d:=by
 have hB:B ∣ a:=Aq2 h.al
 have hB2:B ∣ a+B:=Nat.dvd_add hB (Nat.dvd_refl B)
 refine⟨fun p q _ k2 k3 k4=>h.o2 (a+B) hB2 (by omega) p q k2 k3 (by omega),?_,?_⟩
 ·have:=h.hi a hB (Nat.le_refl _);rw[show min (a+B) n=a+B by omega]at this;exact this
 ·have:=h.hi (a+B) hB2 (by omega);rw[show min (a+B+B) n=b by omega]at this;exact this
theorem Pass.step(h:Pass lt0 lt B n a d)(hB:0 < B)(hn:n=d.size)(hb:a+2*B≤n)(hp:PermIn a (a+2*B) d d')(hs:SortedIn lt a (a+2*B) d'):Pass lt0 lt B n (a+2*B) d':=by
 refine⟨Nat.dvd_add h.al (Nat.dvd_refl _),fun c h1 h2=>?_,fun c h1 h2=>?_,fun c h1=>?_,fun c h1 h2=>?_⟩
 ·rcases Nat.lt_or_ge c a with h3 | h3
  ·have:=Z7 h1 h.al h3
   exact K6 (h.lo c h1 h3) fun i k1 k2=>hp.2.1 i (by omega)
  ·have h4:c=a:=by
    rcases Nat.lt_or_ge a c with h5 | h5
    ·have:=Z7 h.al h1 h5;omega
    ·omega
   rw[h4];exact hs
 ·exact K6 (h.hi c h1 (by omega)) fun i k1 k2=>hp.2.1 i (by omega)
 ·refine OB.keep hp (by omega) ?_ (h.o1 c h1) hb
  rcases Nat.lt_or_ge a c with h5 | h5
  ·exact Or.inr (Z7 h.al h1 h5)
  ·exact Or.inl h5
 ·exact OB.keep hp (by omega) (Or.inr h2) (h.o2 c h1 (by omega)) hb
theorem Pass.last(h:Pass lt0 lt B n a d)(hB:0 < B)(hn:n=d.size)(ha:a≤n)(hb:n < a+2*B)(hp:PermIn a n d d')(hs:SortedIn lt a n d'):Blocks lt0 lt (2*B) n d':=by
 refine⟨fun c h1=>?_,fun c h1=>?_⟩
 ·rcases Nat.lt_or_ge c a with h3 | h3
  ·have:=Z7 h1 h.al h3
   rw[show min (c+2*B) n=c+2*B by omega]
   exact K6 (h.lo c h1 h3) fun i k1 k2=>hp.2.1 i (by omega)
  ·rcases Nat.lt_or_ge a c with h5 | h5
   ·have:=Z7 h.al h1 h5
    intro i j k1 k2 k3;omega
   ·have h4:c=a:=by omega
    rw[h4,show min (a+2*B) n=n by omega];exact hs
 ·rcases Nat.lt_or_ge a c with h5 | h5
  ·intro p q k1 k2 k3
   have:=Z7 h.al h1 h5
   omega
  ·exact OB.keep hp (by omega) (Or.inl h5) (h.o1 c h1) (Nat.le_refl _)
theorem Pass.skip(h:Pass lt0 lt B n a d)(hb:n≤a+B):SortedIn lt a n d:=by
 have:=h.hi a (Aq2 h.al) (Nat.le_refl _);rw[show min (a+B) n=n by omega]at this;exact this
theorem Blocks.all(h:Blocks lt0 lt B n d)(hb:n≤B):SortedIn lt 0 n d:=by
 have:=h.hi 0 (Nat.dvd_zero _);rw[show min (0+B) n=n by omega]at this;exact this
theorem A2s(a i:Nat):∀(j:Nat) (d:Array α),a≤j→j≤i→i < d.size→PermIn a (i+1) d (insInner lt a j d)
 | 0,d,_,_,_=>permIn_refl d _ _
 | j+1,d,h1,h2,h3=>by
  unfold insInner
  split
  ·rename_i hc
   simp only [Bool.and_eq_true,decide_eq_true_eq]at hc
   exact permIn_trans _ _ _ a (i+1) (swp_permIn d a (i+1) (j+1) j (by omega) (by omega) (by omega) (by omega) (by omega)) (A2s a i j (swp d (j+1) j) (by omega) (by omega) (by rw[Sort.size_swp];exact h3))
  ·exact permIn_refl d _ _
theorem A1a(a:Nat):∀(j:Nat) (d:Array α),j < d.size→(∀ p,a≤p→p < j→lt0 d[j]! d[p]! = lt d[j]! d[p]!)→insInner lt0 a j d=insInner lt a j d
 | 0,d,_,_=>rfl
 | j+1,d,hj,h=>by
  unfold insInner
  by_cases hc:a < j+1
  ·rw[h j (by omega) (by omega)]
   split
   ·refine A1a a j (swp d (j+1) j) (by rw[Sort.size_swp];omega) fun p h1 h2=>?_
    rw[swp_get d (by omega) (by omega),swp_get d (by omega) (by omega)]
    rw[if_pos rfl,if_neg (by omega),if_neg (by omega)]
    exact h p h1 (by omega)
   ·rfl
  ·rw[if_neg (by simp;omega),if_neg (by simp;omega)]
theorem A1b(a b:Nat):∀(m i:Nat) (d:Array α),b-i=m→a < i→b≤d.size→(∀ p q,a≤p→p < q→i≤q→q < b→lt0 d[q]! d[p]! = lt d[q]! d[p]!)→insOuter lt0 a b i d=insOuter lt a b i d
 | 0,i,d,hm,_,_,_=>by rw[insOuter_stop lt0 a b i d (by omega),insOuter_stop lt a b i d (by omega)]
 | m+1,i,d,hm,hai,hb,h=>by
  rw[insOuter_go lt0 a b i d (by omega),insOuter_go lt a b i d (by omega),A1a a i d (by omega) (fun p h1 h2=>h p i h1 h2 (Nat.le_refl _) (by omega))]
  have hp:PermIn a (i+1) d (insInner lt a i d):=A2s a i i d (by omega) (Nat.le_refl _) (by omega)
  refine A1b a b m (i+1) _ (by omega) (by omega) (by rw[hp.1];exact hb) fun p q h1 h2 h3 h4=>?_
  rw[hp.2.1 q (by omega)]
  by_cases hpi:p < i+1
  ·exact permIn_all d _ a (i+1) (fun x=>lt0 d[q]! x=lt d[q]! x) (by omega) hp (fun r k1 k2=>h r q k1 (by omega) (by omega) h4) p h1 hpi
  ·rw[hp.2.1 p (by omega)];exact h p q h1 h2 (by omega) h4
theorem A65(hb:b≤d.size)(h:∀ p q,a≤p→p < q→q < b→lt0 d[q]! d[p]! = lt d[q]! d[p]!):Sort.insertionSort lt0 d a b=Sort.insertionSort lt d a b :=
 A1b a b _ (a+1) d rfl (by omega) hb fun p q h1 h2 _ h4=>h p q h1 h2 h4
structure First (lt0 lt:α→α→Bool) (B a:Nat) (d dk:Array α):Prop where
 sz:dk.size=d.size
 p:PermIn 0 d.size d dk
 al:B ∣ a
 lo:∀ c,B ∣ c→c < a→SortedIn lt c (c+B) dk
 o:∀ c,B ∣ c→OB lt0 lt d.size c dk
 same:∀ q,a≤q→dk[q]! = d[q]!
theorem First.start(hord:∀ p q,p < q→q < d.size→lt0 d[q]! d[p]! = lt d[q]! d[p]!):First lt0 lt B 0 d d :=
 ⟨rfl,permIn_refl d _ _,Nat.dvd_zero _,fun c _ h=>absurd h (Nat.not_lt_zero c),fun c _ p q h1 h2 h3=>hord p q (by omega) h3,fun _ _=>rfl⟩
theorem First.agree(h:First lt0 lt B a d dk)(hord:∀ p q,p < q→q < d.size→lt0 d[q]! d[p]! = lt d[q]! d[p]!)(hb:b≤d.size):Sort.insertionSort lt0 dk a b=Sort.insertionSort lt dk a b :=
 A65 (by rw[h.sz];exact hb) fun p q h1 h2 h3=>by rw[h.same p h1,h.same q (by omega)];exact hord p q h2 (by omega)
theorem First.step(h:First lt0 lt B a d dk)(hO:SWO lt)(hB:0 < B)(hb:a+B≤d.size):First lt0 lt B (a+B) d (Sort.insertionSort lt dk a (a+B)):=by
 obtain⟨hp,hs⟩:=insertionSort_holds hO dk a (a+B) (by omega) (by rw[h.sz];exact hb)
 refine⟨hp.1.trans h.sz,permIn_trans _ _ _ _ _ h.p (J7 (Nat.zero_le _) hb (by rw[h.sz];exact Nat.le_refl _) hp),Nat.dvd_add h.al (Nat.dvd_refl _),fun c h1 h2=>?_,fun c h1=>?_,fun q hq=>?_⟩
 ·rcases Nat.lt_or_ge c a with h3 | h3
  ·have:=Z7 h1 h.al h3
   exact K6 (h.lo c h1 h3) fun i k1 k2=>hp.2.1 i (by omega)
  ·have h4:c=a:=by
    rcases Nat.lt_or_ge a c with h5 | h5
    ·have:=Z7 h.al h1 h5;omega
    ·omega
   rw[h4];exact hs
 ·refine OB.keep hp (by rw[h.sz];exact hb) ?_ (h.o c h1) hb
  rcases Nat.lt_or_ge a c with h5 | h5
  ·exact Or.inr (Z7 h.al h1 h5)
  ·exact Or.inl h5
 ·rw[hp.2.1 q (by omega)];exact h.same q (by omega)
theorem First.last(h:First lt0 lt B a d dk)(hO:SWO lt)(hB:0 < B)(ha:a≤d.size)(hb:d.size < a+B):Blocks lt0 lt B d.size (Sort.insertionSort lt dk a d.size)∧PermIn 0 d.size d (Sort.insertionSort lt dk a d.size):=by
 obtain⟨hp,hs⟩:=insertionSort_holds hO dk a d.size ha (by rw[h.sz];exact Nat.le_refl _)
 refine⟨⟨fun c h1=>?_,fun c h1=>?_⟩,permIn_trans _ _ _ _ _ h.p (J7 (Nat.zero_le _) (Nat.le_refl _) (by rw[h.sz];exact Nat.le_refl _) hp)⟩
 ·rcases Nat.lt_or_ge c a with h3 | h3
  ·have:=Z7 h1 h.al h3
   rw[show min (c+B) d.size=c+B by omega]
   exact K6 (h.lo c h1 h3) fun i k1 k2=>hp.2.1 i (by omega)
  ·rcases Nat.lt_or_ge a c with h5 | h5
   ·have:=Z7 h.al h1 h5
    intro i j k1 k2 k3;omega
   ·have h4:c=a:=by omega
    rw[h4,show min (a+B) d.size=d.size by omega];exact hs
 ·rcases Nat.lt_or_ge a c with h5 | h5
  ·intro p q k1 k2 k3
   have:=Z7 h.al h1 h5
   omega
  ·exact OB.keep hp (by rw[h.sz];exact Nat.le_refl _) (Or.inl h5) (h.o c h1) (Nat.le_refl _)
end
set_option maxHeartbeats 8000000 in
theorem Aq3 (hk:∀ x,(enc x).length=k) (lt0 lt:α→α→Bool) (hO:SWO lt) (g:Nat) (lb:Array Value) (sf:Nat) (sb:Array Value) (hg:E6 Tryz.prog g) (w0:World) (d:Array α) (hless:A2q g lb enc k lt0 blk off d.size w0) (hswap:A2o sf sb enc k blk off d.size) (hH:HoldsK enc k w0 blk off d) (hb:blk < w0.heap.size)
  (hsz:d.size < 1152921504606846976) (hord:∀ p q,p < q→q < d.size→lt0 d[q]! d[p]! = lt d[q]! d[p]!) :
  Calls Tryz.prog 194 #[.agg #[.func (.func g) #[] lb,.func (.func sf) #[] sb],.int .i64 d.size] w0 fun e w' =>
   e=.returned (.tuple #[])∧∃ d',Fam enc k blk off w0 d' w'∧d'.size=d.size∧PermIn 0 d.size d d'∧SortedIn lt 0 d.size d':=by
 have HF:=Box.mk (A2p hH g lb sf sb)
 have hb1:blk <(A1p w0 g lb sf sb).heap.size:=by rw[R3];omega
 have HH:=Box.mk (HF.out.holds hb hH rfl)
 have HS:=Box.mk hswap
 have HL:=Box.mk (hless.on hb HF.out rfl)
 have HO:=Box.mk hord
 clear hswap hless hord
 generalize hn:d.size=n at hsz
 have HN:=Box.mk hn
 clear hn
 go_enter Tryz.func194,Tryz.ntmps194
 go_wp2
 go_loopw [5,6] (fun v5 v6 wr=>∃(a:Nat) (dk:Array α),v5=.int .i64 a∧v6=.int .i64 ((a:Int)+20)∧a≤n∧Box (Fam enc k blk off (A1p w0 g lb sf sb) dk wr)∧Box (First lt0 lt 20 a d dk)) (fun v5 _ _=>n-(intOf v5).toNat)
 case atStart=>exact⟨0,d,rfl,rfl,by omega,⟨Fam.start HH.out⟩,⟨First.start HO.out⟩⟩
 case round =>
  obtain⟨a,dk,rfl,rfl,han,HW,HI⟩:=hrel
  have c:=G9 hb g lb sf sb HW.out
  have c0:=c.1
  have c1:=c.2
  clear c
  by_cases hfit:a+20≤n
  ·have hc:=A19 hk lt0 g lb sf sb wr dk hg (by rw[HI.out.sz];exact HL.out.on hb1 HW.out HI.out.sz) (by rw[HI.out.sz];exact HS.out) (HW.out.holds hb1 HH.out HI.out.sz) (by have:=HW.out.size;omega) a (a+20) (by omega) (by rw[HI.out.sz,HN.out];exact hfit) (by rw[HI.out.sz,HN.out];omega)
   rw[show((a+20:Nat):Int)=(a:Int)+20 by omega,HI.out.agree HO.out (by rw[HN.out];exact hfit)]at hc
   have HQ:=Box.mk hc
   have HI2:=Box.mk (HI.out.step hO (by omega) (by rw[HN.out];exact hfit))
   clear hc
   go_wp2_with (go_at_call 168;refine HQ.out.mono ?_;rintro e w1 ⟨rfl,f1⟩;have FA:=Box.mk (HW.out.trans hb1 f1 (HI2.out.sz.trans HI.out.sz.symm));clear f1)
   go_roundw
   case rel=>exact⟨a+20,_,by go_num,by go_num,hfit,FA,HI2⟩
   case measure=>simp [intOf];omega
  ·have hc:=A19 hk lt0 g lb sf sb wr dk hg (by rw[HI.out.sz];exact HL.out.on hb1 HW.out HI.out.sz) (by rw[HI.out.sz];exact HS.out) (HW.out.holds hb1 HH.out HI.out.sz) (by have:=HW.out.size;omega) a n han (by rw[HI.out.sz,HN.out];exact Nat.le_refl _) (by rw[HI.out.sz,HN.out];omega)
   rw[HI.out.agree HO.out (by rw[HN.out];exact Nat.le_refl _)]at hc
   have HQ:=Box.mk hc
   have HI2:=HI.out.last hO (by omega) (by rw[HN.out];exact han) (by rw[HN.out];omega)
   rw[HN.out]at HI2
   have HI3:=Box.mk HI2
   clear hc HI2
   go_wp2_with (go_at_call 168;refine HQ.out.mono ?_;rintro e w1 ⟨rfl,f1⟩;have FA:=Box.mk (HW.out.trans hb1 f1 (by rw[HI3.out.2.1,HI.out.sz]));clear f1)
   go_loopw [4] (fun v4 wr=>∃(B:Nat) (dj:Array α),v4=.int .i64 B∧0 < B∧(B≤20∨B < 2*n)∧Box (Fam enc k blk off (A1p w0 g lb sf sb) dj wr)∧Box (dj.size=d.size)∧Box (Blocks lt0 lt B n dj∧PermIn 0 n d dj)) (fun v4 _=>n-(intOf v4).toNat)
   case atStart=>exact⟨20,_,rfl,by omega,by omega,FA,⟨HI3.out.2.1⟩,HI3⟩
   case round =>
    obtain⟨B,dj,rfl,hB0,hBn,FJ,SJ,HJ⟩:=hrel
    clear c0 c1
    by_cases hbn:B < n
    ·go_wp2
     go_loopw [5,6] (fun v5 v6 wr=>∃(a:Nat) (dl:Array α),v5=.int .i64 a∧v6=.int .i64 ((a:Int)+2*B)∧a≤n∧Box (Fam enc k blk off (A1p w0 g lb sf sb) dl wr)∧Box (dl.size=d.size)∧Box (Pass lt0 lt B n a dl∧PermIn 0 n d dl)) (fun v5 _ _=>n-(intOf v5).toNat)
     case atStart=>exact⟨0,dj,rfl,by go_num,by omega,FJ,SJ,⟨HJ.out.1.start,HJ.out.2⟩⟩
     case round =>
      obtain⟨a,dl,rfl,rfl,han,FL,SL,HP⟩:=hrel
      have c:=G9 hb g lb sf sb FL.out
      have c0:=c.1
      have c1:=c.2
      clear c
      by_cases hfit:a+2*B≤n
      ·have PG:=HP.out.1.args (b:=a+2*B) hfit (by omega) (Or.inl rfl)
       have hc:=A2r hk lt0 lt hO g lb sf sb hg (2*B) wr dl (by rw[SL.out];exact HL.out.on hb1 FL.out SL.out) (by rw[SL.out];exact HS.out) (FL.out.holds hb1 HH.out SL.out) (by have:=FL.out.size;omega) a (a+B) (a+2*B) (by omega) (by omega) (by rw[SL.out,HN.out];omega) (by rw[SL.out,HN.out];omega) (by omega) PG.1 PG.2.1 PG.2.2
       rw[show((a+B:Nat):Int)=(a:Int)+B by omega,show((a+2*B:Nat):Int)=(a:Int)+2*B by omega]at hc
       have HQ:=Box.mk hc
       clear hc PG
       go_wp2_with (go_at_call 214;refine HQ.out.mono ?_;rintro e w1 ⟨rfl,dM,f1,f2,f3,f4⟩;have FA:=Box.mk (FL.out.trans hb1 f1 f2);have SA:=Box.mk (f2.trans SL.out);have PA:=Box.mk f3;have RA:=Box.mk f4;clear f1 f2 f3 f4)
       go_roundw
       case rel =>
        exact⟨a+2*B,dM,by go_num,by go_num,hfit,FA,SA,⟨HP.out.1.step hB0 (by rw[SL.out,HN.out]) hfit PA.out RA.out,permIn_trans d dl dM _ _ HP.out.2 (J7 (by omega) hfit (by rw[SL.out,HN.out];exact Nat.le_refl _) PA.out)⟩⟩
       case measure=>simp [intOf];omega
      ·by_cases hmn:a+B < n
       ·have PG:=HP.out.1.args (b:=n) (Nat.le_refl _) hmn (Or.inr ⟨rfl,by omega⟩)
        have hc:=A2r hk lt0 lt hO g lb sf sb hg n wr dl (by rw[SL.out];exact HL.out.on hb1 FL.out SL.out) (by rw[SL.out];exact HS.out) (FL.out.holds hb1 HH.out SL.out) (by have:=FL.out.size;omega) a (a+B) n (by omega) (by omega) (by rw[SL.out,HN.out];omega) (by rw[SL.out,HN.out];omega) (by omega) PG.1 PG.2.1 PG.2.2
        rw[show((a+B:Nat):Int)=(a:Int)+B by omega]at hc
        have HQ:=Box.mk hc
        clear hc PG
        go_wp2_with (go_at_call 214;refine HQ.out.mono ?_;rintro e w1 ⟨rfl,dM,f1,f2,f3,f4⟩;have FA:=Box.mk (FL.out.trans hb1 f1 f2);have SA:=Box.mk (f2.trans SL.out);have PA:=Box.mk f3;have RA:=Box.mk f4;clear f1 f2 f3 f4)
        go_roundw
        case rel =>
         exact⟨2*B,dM,by go_num,by omega,by omega,FA,SA,⟨HP.out.1.last hB0 (by rw[SL.out,HN.out]) han (by omega) PA.out RA.out,permIn_trans d dl dM _ _ HP.out.2 (J7 (by omega) (Nat.le_refl _) (by rw[SL.out,HN.out];exact Nat.le_refl _) PA.out)⟩⟩
        case measure=>simp [intOf];omega
       ·go_wp2
        go_roundw
        case rel =>
         exact⟨2*B,dl,by go_num,by omega,by omega,FL,SL,⟨HP.out.1.last hB0 (by rw[SL.out,HN.out]) han (by omega) (permIn_refl dl _ _) (HP.out.1.skip (by omega)),HP.out.2⟩⟩
        case measure=>simp [intOf];omega
    ·go_wp2
     go_end0
     exact⟨rfl,dj,HF.out.trans hb FJ.out SJ.out,SJ.out.trans HN.out,HJ.out.2,HJ.out.1.all (by omega)⟩
end
end Go.Proofs.YtokhjapfekbobaaGreat
namespace Go.Proofs.YtokhjapfekbobaaGreat
open Go.E
set_option maxRecDepth 100000
set_option maxHeartbeats 4000000
open Go Go.Sort Go.RowKit Go.Lib Go.Shelf Go.Proofs
section
variable {α : Type} [Inhabited α] {enc : α → List Value} {k blk off : Nat}
def stS(lt:α→α→Bool)(d:Array α):Array α:=(d.toList.mergeSort (fun x y=>!lt y x)).toArray
theorem Ay6(lt:α→α→Bool)(d:Array α):(stS lt d).size=d.size:=by simp [stS]
def ltT(lt:α→α→Bool)(x y:α×Nat):Bool:=lt x.1 y.1 || (!lt y.1 x.1 && decide (x.2 < y.2))
theorem B9d{lt:α→α→Bool}{x y:α×Nat}:ltT lt x y=true↔lt x.1 y.1=true∨(lt y.1 x.1=false∧x.2 < y.2):=by simp [ltT]
theorem A66{lt:α→α→Bool}{x y:α×Nat}:ltT lt x y=false↔lt x.1 y.1=false∧(lt y.1 x.1=true∨y.2≤x.2):=by
 simp only [ltT,Bool.or_eq_false_iff,Bool.and_eq_false_iff,Bool.not_eq_false',decide_eq_false_iff_not,Nat.not_lt]
theorem Ay7{lt:α→α→Bool}(hO:SWO lt){x y z:α}(h1:lt x y=true)(h2:lt z y=false):lt x z=true:=by
 cases h:lt x z with
 | true=>rfl
 | false=>rw[hO.ntrans _ _ _ h h2]at h1;cases h1
theorem Aj7{lt:α→α→Bool}(hO:SWO lt){x y z:α}(h1:lt y x=false)(h2:lt y z=true):lt x z=true:=by
 cases h:lt x z with
 | true=>rfl
 | false=>rw[hO.ntrans _ _ _ h1 h]at h2;cases h2
theorem B52{lt:α→α→Bool}(hO:SWO lt):SWO (ltT lt):=by
 refine⟨fun x=>A66.2 ⟨hO.irrefl _,Or.inr (Nat.le_refl _)⟩,fun x y z h1 h2=>?_,fun x y z h1 h2=>?_⟩
 ·rw[B9d]at h1 h2 ⊢
  rcases h1 with h1 | ⟨h1,t1⟩ <;> rcases h2 with h2 | ⟨h2,t2⟩
  ·exact Or.inl (hO.trans _ _ _ h1 h2)
  ·exact Or.inl (Ay7 hO h1 h2)
  ·exact Or.inl (Aj7 hO h1 h2)
  ·exact Or.inr ⟨hO.ntrans _ _ _ h2 h1,by omega⟩
 ·rw[A66]at h1 h2 ⊢
  obtain⟨h1,g1⟩:=h1
  obtain⟨h2,g2⟩:=h2
  refine⟨hO.ntrans _ _ _ h1 h2,?_⟩
  rcases g1 with g1 | g1
  ·exact Or.inl (Aj7 hO h2 g1)
  ·rcases g2 with g2 | g2
   ·exact Or.inl (Ay7 hO g2 h1)
   ·exact Or.inr (by omega)
theorem ltT_le{lt:α→α→Bool}(hO:SWO lt):(fun x y=>!ltT lt y x)=List.zipIdxLE (fun x y=>!lt y x):=by
 funext x y
 simp only [List.zipIdxLE,ltT]
 by_cases h1:lt y.1 x.1=true <;> by_cases h2:lt x.1 y.1=true <;> simp [h1,h2]
 rw[Bool.eq_iff_iff];simp
def L3(d:Array α):Array (α×Nat):=d.toList.zipIdx.toArray
theorem J2(d:Array α):(L3 d).size=d.size:=by simp [L3]
theorem A8b(d:Array α){i:Nat}(h:i < d.size):(L3 d)[i]! =(d[i]!,i):=by
 rw[getElem!_pos (L3 d) i (by rw[J2];exact h),getElem!_pos d i h]
 simp [L3]
theorem Aj8(lt:α→α→Bool)(d:Array α):∀ p q,p < q→q <(L3 d).size→(fun x y:α×Nat=>lt x.1 y.1) (L3 d)[q]! (L3 d)[p]! = ltT lt (L3 d)[q]! (L3 d)[p]!:=by
 intro p q h1 h2
 rw[J2]at h2
 rw[A8b d h2,A8b d (show p < d.size by omega)]
 simp only [ltT]
 rw[decide_eq_false (by omega)];simp
theorem A2t(d:Array (α×Nat))(i:Nat):(d.map (·.1))[i]! = d[i]!.1:=by
 by_cases h:i < d.size
 ·rw[getElem!_pos (d.map (·.1)) i (by simpa using h),getElem!_pos d i h];simp
 ·rw[getElem!_neg (d.map (·.1)) i (by simpa using h),getElem!_neg d i h];rfl
theorem Aq4(d:Array α):(L3 d).map (·.1)=d:=by
 simp [L3]
theorem A67(d:Array (α×Nat)):flatK (fun x=>enc x.1) k d=flatK enc k (d.map (·.1)):=by
 unfold flatK
 rw[Array.size_map]
 congr 1
 funext t
 rw[A2t]
theorem Aq5(lt:α→α→Bool)(hO:SWO lt)(d:Array α)(d':Array (α×Nat))(hp:PermIn 0 (L3 d).size (L3 d) d')(hs:SortedIn (ltT lt) 0 (L3 d).size d'):d'.map (·.1)=stS lt d:=by
 have hperm:d'.toList.Perm (L3 d).toList:=by
  obtain⟨hsz,_,hperm⟩:=hp
  have e1:d'.extract 0 (L3 d).size=d':=by rw[← hsz];exact Array.extract_size
  rw[e1,Array.extract_size]at hperm
  exact hperm
 have hT:=B52 hO
 have e:d'.toList=(d.toList.zipIdx).mergeSort (List.zipIdxLE (fun x y=>!lt y x)):=by
  rw[← ltT_le hO]
  refine List.Perm.eq_of_pairwise (le:=fun x y=>(!ltT lt y x)=true) ?_ ?_ ?_ (hperm.trans (by simpa [L3]using(List.mergeSort_perm d.toList.zipIdx _).symm))
  ·rintro⟨a,i⟩ ⟨b,j⟩ ha hb h1 h2
   have ha':(a,i)∈d.toList.zipIdx:=by have:=hperm.subset ha;simpa [L3]using this
   have hb':(b,j)∈d.toList.zipIdx:=List.mem_mergeSort.1 hb
   simp only [Bool.not_eq_true']at h1 h2
   rw[A66]at h1 h2
   simp only at h1 h2
   have hij:i=j:=by
    obtain⟨k1,k2⟩:=h1
    obtain⟨k3,k4⟩:=h2
    rw[k3]at k2
    rw[k1]at k4
    simp at k2 k4
    omega
   subst hij
   have m1:=List.mem_zipIdx ha'
   have m2:=List.mem_zipIdx hb'
   simp_all
  ·rw[List.pairwise_iff_getElem]
   intro i j hi hj hij
   have hi':i < d'.size:=by simpa using hi
   have hj':j < d'.size:=by simpa using hj
   have:=hs i j (Nat.zero_le _) hij (by rw[← hp.1];exact hj')
   rw[getElem!_pos d' j hj',getElem!_pos d' i hi']at this
   simpa using this
  ·refine List.pairwise_mergeSort ?_ ?_ _
   ·intro a b c h1 h2
    simp only [Bool.not_eq_true']at h1 h2 ⊢
    exact hT.ntrans _ _ _ h2 h1
   ·intro a b
    cases h:ltT lt b a with
    | false=>rfl
    | true=>simp [hT.asymmA h]
 unfold stS
 rw[← List.mergeSort_zipIdx,← e]
 exact(Array.toList_inj).1 (by simp)
theorem A68(hk:∀ x,(enc x).length=k)(lt:α→α→Bool)(hO:SWO lt)(g:Nat)(lb:Array Value)(sf:Nat)(sb:Array Value)(hg:E6 Tryz.prog g)(w0:World)(d:Array α)(hless:A2q g lb enc k lt blk off d.size w0)(hswap:A2o sf sb enc k blk off d.size)(hH:HoldsK enc k w0 blk off d)(hb:blk < w0.heap.size)
  (hsz:d.size < 1152921504606846976) :
  Calls Tryz.prog 194 #[.agg #[.func (.func g) #[] lb,.func (.func sf) #[] sb],.int .i64 d.size] w0 fun e w' =>
   e=.returned (.tuple #[])∧Fam enc k blk off w0 (stS lt d) w':=by
 have fam:∀ dk W,Fam (fun x:α×Nat=>enc x.1) k blk off w0 dk W→Fam enc k blk off w0 (dk.map (·.1)) W:=by
  rintro dk W ⟨q,os,rfl⟩
  exact⟨q,os,by unfold putRowK;rw[A67]⟩
 have hold:∀ dk W,HoldsK (fun x:α×Nat=>enc x.1) k W blk off dk→HoldsK enc k W blk off (dk.map (·.1)):=by
  intro dk W h
  unfold HoldsK at h ⊢
  rw[← A67];exact h
 have h:=Aq3 (enc:=fun x:α×Nat=>enc x.1) (fun x=>hk x.1) (fun x y=>lt x.1 y.1) (ltT lt) (B52 hO) g lb sf sb hg w0 (L3 d) (blk:=blk) (off:=off)
  (fun W dk hF hs i j hi hj=>by
   rw[J2]at hs hi hj
   have:=hless W _ (fam dk W hF) (by simpa using hs) i j hi hj
   rw[A2t,A2t]at this
   exact this)
  (fun W dk hF hs i j hi hj hij=>by
   rw[J2]at hs hi hj
   have:=hswap W _ (hold dk W hF) (by simpa using hs) i j hi hj hij
   rw[A2t,A2t]at this
   exact this)
  (by unfold HoldsK at hH ⊢;rw[A67,Aq4];exact hH) hb (by rw[J2];exact hsz) (Aj8 lt d)
 rw[J2]at h
 refine h.mono ?_
 rintro e w' ⟨rfl,d',f1,f2,f3,f4⟩
 refine⟨rfl,?_⟩
 rw[← Aq5 lt hO d d' (by rw[J2];exact f3) (by rw[J2];exact f4)]
 exact fam d' w' f1
end
end Go.Proofs.YtokhjapfekbobaaGreat
namespace Go.Proofs.YtokhjapfekbobaaGreat
open Go.E
set_option maxRecDepth 100000
set_option maxHeartbeats 4000000
open Go Go.Sort Go.RowKit Go.Lib Go.Shelf Go.Proofs
section
variable {α : Type} [Inhabited α] {enc : α → List Value} {k blk off : Nat}
noncomputable def B53(e:TypeId)(ie:TypeInfo)(ke:Nat)(p:Option Addr)(n c:Nat):Array Value :=
 if swapperK n ie ke≤2 then #[]else #[.slice p n c,typeHandle Tryz.prog e]
noncomputable def A2u(t:TypeId)(p:Option Addr)(n c:Nat)(w:World):World :=
 (w.alloc (.cells #[.slice p n c] t)).alloc (.cells #[.pointer (some ⟨Tryz.prog.globals.size,t,none⟩),.pointer (some ⟨w.heap.size,0,none⟩),.int .u64 151] 160)
set_option maxHeartbeats 4000000 in
theorem A1c (t e:TypeId) (i ie:TypeInfo) (hi:Tryz.prog.info? t=some i) (hd:i.desc=.slice e) (hpk:Tryz.prog.packed t=false) (hie:Tryz.prog.info? e=some ie) (ke:Nat) (hke:∀ w,(Extern.Rtype.kind e).run Tryz.prog w=.ok ke w)
  (p:Option Addr) (n c:Nat) (hn:n < 1152921504606846976) (f:Nat) (hf:Tryz.prog.funcs.findIdx? (·.name == "internal/reflectlite"++".Swapper$"++toString (swapperK n ie ke))=some f) (lf:Fn) (la lb:Array Value) (w:World) (R:World→Prop)
  (hp:Calls Tryz.prog 194 #[.agg #[.func lf la lb,.func (.func f) #[] (B53 e ie ke p n c)],.int .i64 n] (A2u t p n c w) fun e w'=>e=.returned (.tuple #[])∧R w') :
  Calls Tryz.prog 150 #[.iface t (.slice p n c),.func lf la lb] w fun e w'=>e=.returned (.tuple #[])∧R w':=by
 have hv:=run_valueOf_slice (P:=Tryz.prog) t e i hi hd p n c w
 have hs:=fun w=>run_swapper_slice (P:=Tryz.prog) t e i ie hi hd hie ke hke p n c f hf w
 have hl:=fun a w ha=>run_valueLen_slice (P:=Tryz.prog) t e i hi hd hpk a p n c w ha
 unfold B53 A2u at hp
 generalize (if swapperK n ie ke≤2 then(#[]:Array Value)else #[.slice p n c,typeHandle Tryz.prog e])=B at hs hp
 have hz:Tryz.prog.globals.size=1:=by kernel_rfl
 simp only [typeHandle,hz]at hv hl hp
 have HP:=Box.mk hp
 have HV:=Box.mk hv
 have HS:=Box.mk hs
 have HL:=Box.mk hl
 clear hp hv hs hl
 go_enter Tryz.func150,Tryz.ntmps150
 go_wp2
 rw[run_callFunc_extern Tryz.func123 (by kernel_rfl) (by kernel_rfl) (by kernel_rfl) (e:=fun args=>Extern.ReflectliteValue.unpack (args.getD 0 (.tuple #[]))) (by kernel_rfl),
  show Sem.run Tryz.prog ((fun args:Array Value=>Extern.ReflectliteValue.unpack (args.getD 0 (.tuple #[]))) #[.iface t (.slice p n c)]) w=_ from HV.out]
 simp only [Result.andThen]
 rw[Oper.upon_value]
 go_wp2
 rw[run_callFunc_extern Tryz.func124 (by kernel_rfl) (by kernel_rfl) (by kernel_rfl) (e:=Extern.ReflectliteSwapper.swapper "internal/reflectlite" (Extern.ReflectliteValue.valueError "Swapper")) (by kernel_rfl),HS.out]
 simp only [Result.andThen]
 rw[Oper.upon_value]
 go_wp2
 rw[run_callFunc_extern Tryz.func125 (by kernel_rfl) (by kernel_rfl) (by kernel_rfl) (e:=Extern.ReflectliteValue.method (Extern.ReflectliteValue.valueError "reflectlite.Value.Len" 0) Extern.ReflectliteValue.len) (by kernel_rfl),
  HL.out _ _ (by simp)]
 simp only [Result.andThen]
 rw[Oper.upon_value]
 go_wp2_with (go_at_call 194;refine HP.out.mono ?_;rintro e w' ⟨rfl,hR⟩;have HR:=Box.mk hR;clear hR)
 go_end0
 exact⟨rfl,HR.out⟩
theorem A7d(gS:Bool)(sf:Nat)(hx:∀ args W,(callFunc sf args).run Tryz.prog W=((Extern.ReflectliteSwapper.swap gS args).run Tryz.prog W).andThen fun v w'=>.ok (.value v) w')
  (e:TypeId) (ie:TypeInfo) (hie:Tryz.prog.info? e=some ie) (hk:∀ x,(enc x).length=k) (hs:ie.size=k) (hagg:∀ w,(isAgg e).run Tryz.prog w=.ok true w) (h1:∀ x,∀ v∈enc x,v.oneCell'=true) (n c:Nat) :
  A2o sf #[.slice (some ⟨blk,off,none⟩) n c,typeHandle Tryz.prog e] enc k blk off n:=by
 intro W dk hH hsz i j hi hj _
 subst hs
 have cc:∀ x,x < dk.size→∀ u v,(enc dk[x]!)[u]?=some v→W.cell? ⟨blk,off+x*ie.size+u,none⟩=some v:=fun x hx u v h=>by
  have hu:u < ie.size:=by rw[← hk dk[x]!];exact(List.getElem?_eq_some_iff.mp h).1
  rw[(hH.cell hx hu).1];simp [h]
 have:=run_swap_cells (P:=Tryz.prog) gS e ie hie hagg blk off n c i j hi hj (enc dk[i]!) (enc dk[j]!) (hk _) (hk _) (h1 _) (h1 _) W (cc i (by omega)) (cc j (by omega))
  (fun u hu=>(hH.cell (by omega) hu).2) (fun u hu=>(hH.cell (by omega) hu).2)
 rw[hx,show(#[Value.int .i64 (i:Int),Value.int .i64 (j:Int)]++#[Value.slice (some ⟨blk,off,none⟩) n c,typeHandle Tryz.prog e])=#[.int .i64 i,.int .i64 j,.slice (some ⟨blk,off,none⟩) n c,typeHandle Tryz.prog e]from rfl,this]
 rfl
end
open Go Go.Sort Go.RowKit Go.Lib Go.Shelf Go.Proofs
section
variable {α : Type} [Inhabited α] {enc : α → List Value} {k blk off : Nat}
theorem swK_gt(n:Nat)(ie:TypeInfo)(ke:Nat)(h2:2≤n):¬ swapperK n ie ke≤2:=by
 have c:(n == 0)=false:=by simp;omega
 have d:(n == 1)=false:=by simp;omega
 unfold swapperK
 simp only [c,d,Bool.false_eq_true,if_false]
 repeat' split
 all_goals omega
structure SortTy (t e k:Nat) (fN:Nat→Nat):Prop where
 ex:∃ i ie ke gS,Tryz.prog.info? t=some i∧i.desc=.slice e∧Tryz.prog.packed t=false∧Tryz.prog.info? e=some ie∧(∀ w,(Extern.Rtype.kind e).run Tryz.prog w=.ok ke w) ∧
  (∀ n,Tryz.prog.funcs.findIdx? (·.name == "internal/reflectlite"++".Swapper$"++toString (swapperK n ie ke))=some (fN n))∧ie.size=k∧(∀ w,(isAgg e).run Tryz.prog w=.ok true w) ∧
  (∀ n,2≤n→∀ args W,(callFunc (fN n) args).run Tryz.prog W=((Extern.ReflectliteSwapper.swap gS args).run Tryz.prog W).andThen fun v w'=>.ok (.value v) w')
theorem A46{t e:Nat}{fN:Nat→Nat}(hT:SortTy t e k fN)(hk:∀ x,(enc x).length=k)(h1:∀ x,∀ v∈enc x,v.oneCell'=true)(lt:α→α→Bool)(hO:SWO lt)(g:Nat)(lb:Array Value)(hg:E6 Tryz.prog g)(c:Nat)(d:Array α)
  (hsz:d.size < 1152921504606846976) (w:World) (hless:A2q g lb enc k lt blk off d.size w) (hH:HoldsK enc k w blk off d) (hb:blk < w.heap.size) :
  Calls Tryz.prog 150 #[.iface t (.slice (some ⟨blk,off,none⟩) d.size c),.func (.func g) #[] lb] w fun e w'=>e=.returned (.tuple #[])∧Fam enc k blk off w (stS lt d) w':=by
 obtain⟨i,ie,ke,gS,a1,a2,a3,a4,a5,a6,a7,a8,a9⟩:=hT.ex
 refine A1c t e i ie a1 a2 a3 a4 ke a5 _ d.size c hsz (fN d.size) (a6 _) (.func g) #[] lb w _ ?_
 have F0:Fam enc k blk off w d (A2u t (some ⟨blk,off,none⟩) d.size c w):=((Fam.start hH).alloc _).alloc _
 have hb0:blk <(A2u t (some ⟨blk,off,none⟩) d.size c w).heap.size:=Nat.lt_of_lt_of_le hb F0.size
 refine(A68 hk lt hO g lb (fN d.size) _ hg _ d (hless.on hb F0 rfl) ?_ (F0.holds hb hH rfl) hb0 hsz).mono ?_
 ·by_cases h2:2≤d.size
  ·unfold B53
   rw[if_neg (swK_gt _ _ _ h2)]
   exact A7d gS (fN d.size) (a9 _ h2) e ie a4 hk a7 a8 h1 d.size c
  ·intro W dk _ _ i j hi hj hij
   omega
 ·rintro e' w' ⟨rfl,hF⟩
  exact⟨rfl,F0.trans hb hF (Ay6 lt d)⟩
theorem A69{t e:Nat}{fN:Nat→Nat}(hT:SortTy t e k fN)(lt:α→α→Bool)(hO:SWO lt)(hk:∀ x,(enc x).length=k)(g:Nat)(lb:Array Value)(hg:E6 Tryz.prog g)(w:World) :
  Calls Tryz.prog 150 #[.iface t (.slice none 0 0),.func (.func g) #[] lb] w fun e w'=>e=.returned (.tuple #[])∧Below w.heap.size w w':=by
 obtain⟨i,ie,ke,gS,a1,a2,a3,a4,a5,a6,a7,a8,a9⟩:=hT.ex
 refine A1c t e i ie a1 a2 a3 a4 ke a5 none 0 0 (by omega) (fN 0) (a6 _) (.func g) #[] lb w _ ?_
 have hsize:(A2u t none 0 0 w).heap.size=w.heap.size+2:=by simp [A2u]
 have hB0:Below w.heap.size w (A2u t none 0 0 w):=by
  unfold A2u
  exact((Below.refl _ w).alloc (Nat.le_refl _) _).alloc (by simp) _
 refine(A68 (blk:=w.heap.size) (off:=0) (enc:=enc) hk lt hO g lb (fN 0) _ hg (A2u t none 0 0 w) (#[]:Array α) (fun W dk _ _ i j hi hj=>by simp at hi) (fun W dk _ _ i j hi hj=>by simp at hi) (fun j hj=>by simp at hj) (by rw[hsize];omega) (by simp)).mono ?_
 rintro e' w' ⟨rfl,hF⟩
 have f:=hF.facts
 refine⟨rfl,hB0.trans ⟨f.1,f.2.1,f.2.2.1,hF.size,fun j hj=>f.2.2.2 j (by rw[hsize];omega) (by omega)⟩⟩
end
end Go.Proofs.YtokhjapfekbobaaGreat
namespace Go.Proofs.YtokhjapfekbobaaGreat
open Go.E
set_option maxRecDepth 100000
set_option maxHeartbeats 4000000
open Go Go.Sort Go.RowKit Go.Lib Go.Shelf Go.Proofs
section
variable {α : Type} [Inhabited α] {encA : α → List AV} {k blk : Nat}
def Al7(encA:α→List AV)(x:α):List Value:=(encA x).map valA
theorem A6a(d:List α):(d.map (Al7 encA)).flatten=((d.map encA).flatten).map valA:=by
 induction d with
 | nil=>rfl
 | cons x d ih=>simp only [List.map_cons,List.flatten_cons,List.map_append,ih,Al7]
theorem B1d(hk:∀ x,(encA x).length=k)(hp:∀ x,∀ a∈encA x,R8 a=true)(lt:α→α→Bool)(g:Nat)
  (hcon:∀(d:List α) (i j:Nat),i < d.length→j < d.length→Con Tryz.prog g [.i .i64 i,.i .i64 j,.eptr [.sl (d.map encA)]] (.b (lt d[i]! d[j]!)))
  {w:World} {gv n cap:Nat} (hgv:gv < w.heap.size) (hne:gv≠blk) (hb:blk < w.heap.size) (hc:w.cell? ⟨gv,0,none⟩=some (.slice (some ⟨blk,0,none⟩) n cap)) (hn:n≤cap) (hm:n≤maxLen) (d0:Array α) (hs0:d0.size=n) (hH:HoldsK (Al7 encA) k w blk 0 d0) :
  A2q g #[.pointer (some ⟨gv,0,none⟩)] (Al7 encA) k lt blk 0 n w:=by
 intro W dk hF hs i j hi hj
 have hkV:∀ x,(Al7 encA x).length=k:=fun x=>by simp [Al7,hk]
 have hHW:HoldsK (Al7 encA) k W blk 0 dk:=hF.holds hb hH (by omega)
 have hsize:=hF.size
 have hcW:W.cell? ⟨gv,0,none⟩=some (.slice (some ⟨blk,0,none⟩) n cap):=by rw[hF.cell hgv hne];exact hc
 have hlen:dk.toList.length=n:=by simpa using hs
 have hrel:RelV0 (fun b=>b < W.heap.size) W (.sl (dk.toList.map encA)) (.slice (some ⟨blk,0,none⟩) n cap):=by
  have hl:(dk.toList.map encA).length=n:=by simpa using hs
  have hel:∀ j q,j < n→q < k→∃ a,(encA dk[j]!)[q]?=some a∧R8 a=true∧(Al7 encA dk[j]!)[q]! = valA a:=by
   intro j q hj hq
   have hq':q <(encA dk[j]!).length:=by rw[hk];exact hq
   refine⟨(encA dk[j]!)[q],List.getElem?_eq_getElem hq',hp _ _ (List.getElem_mem hq'),?_⟩
   rw[getElem!_pos _ q (by rw[hkV];exact hq)]
   simp [Al7]
  have:=RelV0.sl (S:=fun b=>b < W.heap.size) (w:=W) (dk.toList.map encA) (some ⟨blk,0,none⟩) cap k (fun j q=>if j < n∧q < k then(Al7 encA dk[j]!)[q]! else .bool false) (by omega) (by omega) (fun h=>by cases h)
   (fun r hr=>by obtain⟨x,_,rfl⟩:=List.mem_map.1 hr;exact hk x)
   (fun _=>⟨⟨blk,0,none⟩,rfl,by show blk < W.heap.size;omega,fun j q hj hq=>by
    have:=(hHW.cell (i:=j) (c:=q) (by omega) hq).1
    rw[if_pos ⟨by omega,hq⟩,← this]
    congr 1
    simp [Addr.add]
    try (intros;omega)⟩)
   (fun j q=>by
    split
    ·rename_i h
     obtain⟨a,_,h2,h3⟩:=hel j q h.1 h.2
     rw[h3]
     exact A03 h2
    ·rfl)
   (fun j q r a hr ha=>by
    have hj:j < n:=by have:=lt_of_getElem? hr;omega
    rw[List.getElem?_map]at hr
    have e1:dk.toList[j]?=some dk[j]!:=by rw[Array.getElem?_toList,getElem?_pos dk j (by omega),getElem!_pos dk j (by omega)]
    rw[e1,Option.map_some,Option.some.injEq]at hr
    subst hr
    have hq:q < k:=by have:=lt_of_getElem? ha;rw[hk]at this;exact this
    rw[if_pos ⟨hj,hq⟩]
    obtain⟨a',h1,h2,h3⟩:=hel j q hj hq
    rw[ha,Option.some.injEq]at h1
    subst h1
    rw[h3]
    exact A4w h2)
  rw[hl]at this
  exact this
 have hC:=(hcon dk.toList i j (by omega) (by omega)).2 W (fun b=>b < W.heap.size) [.int .i64 i,.int .i64 j,.pointer (some ⟨gv,0,none⟩)] (fun _ h=>h) rfl (fun q a u ha hu=>by
  match q with
  | 0=>simp only [List.getElem?_cons_zero,Option.some.injEq]at ha hu;subst ha;subst hu;exact .i _ _
  | 1=>simp only [List.getElem?_cons_succ,List.getElem?_cons_zero,Option.some.injEq]at ha hu;subst ha;subst hu;exact .i _ _
  | 2 =>
   simp only [List.getElem?_cons_succ,List.getElem?_cons_zero,Option.some.injEq]at ha hu
   subst ha;subst hu
   refine .eptr _ ⟨gv,0,none⟩ (fun _=>.slice (some ⟨blk,0,none⟩) n cap) (by show gv < W.heap.size;omega) (fun q hq=>?_) (fun _=>rfl) (fun q a ha=>?_)
   ·have:q=0:=by simpa using hq
    subst this
    exact hcW
   ·have:q=0:=by have:=lt_of_getElem? ha;simpa using this
    subst this
    simp only [List.getElem?_cons_zero,Option.some.injEq]at ha
    subst ha
    exact hrel
  | q+3=>simp at ha)
 refine hC.mono ?_
 rintro e w' ⟨v,rfl,hr,hB⟩
 cases hr
 refine⟨?_,hB⟩
 rw[← Array.getElem!_toList,← Array.getElem!_toList]
theorem B9e{t e:Nat}{fN:Nat→Nat}(hT:SortTy t e k fN)(hk:∀ x,(encA x).length=k)(hp:∀ x,∀ a∈encA x,R8 a=true)(lt:α→α→Bool)(hO:SWO lt)(g:Nat)(hg:E6 Tryz.prog g)(hS:E6 Tryz.prog 150)
  (hcon:∀(d:List α) (i j:Nat),i < d.length→j < d.length→Con Tryz.prog g [.i .i64 i,.i .i64 j,.eptr [.sl (d.map encA)]] (.b (lt d[i]! d[j]!))) (d:List α) (hlen:d.length < 1152921504606846976) :
  B6e Tryz.prog 150 g t true e k (d.map encA) ((d.mergeSort (fun x y=>!lt y x)).map encA):=by
 have hkV:∀ x,(Al7 encA x).length=k:=fun x=>by simp [Al7,hk]
 have hone:∀ x,∀ v∈Al7 encA x,v.oneCell'=true:=by
  intro x v hv
  obtain⟨a,ha,rfl⟩:=List.mem_map.1 hv
  exact A03 (hp x a ha)
 have hpl:∀ l:List α,∀ a∈(l.map encA).flatten,R8 a=true:=by
  intro l a ha
  obtain⟨r,hr,har⟩:=List.mem_flatten.1 ha
  obtain⟨x,_,rfl⟩:=List.mem_map.1 hr
  exact hp x a har
 refine⟨hS,by simp,fun r hr=>?_,hpl _,hpl _,fun w base v cv ho hcap=>?_⟩
 ·obtain⟨x,_,rfl⟩:=List.mem_map.1 hr;exact hk x
 ·obtain⟨gv,rfl,q1,q2,q3⟩:=hcap rfl
  simp only [if_true]
  rw[List.length_map]at ho ⊢
  rcases ho.2 with⟨rfl,h0⟩ | ⟨b,cap,cur,rfl,hb,hh,h1,h2,h3,h4⟩
  ·have:d=[]:=List.eq_nil_of_length_eq_zero h0
   subst this
   refine(A69 (enc:=Al7 encA) hT lt hO hkV g #[.pointer (some ⟨gv,0,none⟩)] hg w).mono ?_
   rintro e' w' ⟨rfl,hB⟩
   refine⟨rfl,⟨by simp,.inl ⟨rfl,rfl⟩⟩,fun j hj _=>hB.block j hj,hB.os,hB.tape,hB.output,hB.size⟩
  ·have hbl:b < w.heap.size:=(Array.getElem?_eq_some_iff.1 hh).1
   have hne:gv≠b:=fun e=>q3 (by rw[e];rfl)
   have hHd:HoldsK (Al7 encA) k w b 0 d.toArray:=P5 hkV ho (by simp) (by rw[← A6a])
   have hl:=B1d (blk:=b) hk hp lt g hcon q1 hne hbl q2 h1 (by omega) d.toArray (by simp) hHd
   have hw:=A46 (blk:=b) (off:=0) (enc:=Al7 encA) hT hkV hone lt hO g #[.pointer (some ⟨gv,0,none⟩)] hg cap d.toArray (by simp;omega) w (by simpa using hl) hHd hbl
   rw[show d.toArray.size=d.length by simp]at hw
   refine hw.mono ?_
   rintro e' w' ⟨rfl,hF⟩
   have f:=hF.facts
   have ow:=hF.owns hkV (Ay6 lt d.toArray) (by rw[← A6a]) (by simp) ho
   refine⟨rfl,?_,fun j hj hjb=>f.2.2.2 j hj (fun e=>hjb (by rw[e];rfl)),f.1,f.2.1,f.2.2.1,hF.size⟩
   rw[← A6a]
   exact ow
end
end Go.Proofs.YtokhjapfekbobaaGreat
namespace Go.Proofs.YtokhjapfekbobaaGreat
open Go.E
set_option maxRecDepth 100000
set_option maxHeartbeats 4000000
open Go Go.Sort Go.RowKit Go.Lib Go.Shelf Go.Proofs
def renClE:Go.Shelf.Ren:=⟨fun | 41=>46 | n=>n,fun | 4=>4 | 22=>22 | 23=>67 | n=>n,fun n=>n⟩
theorem Bo9:Go.Proofs.SlLaysE0.n41 Tryz.prog renClE:={ mixed:=by kernel_rfl,f41:=⟨Tryz.f46.name,by decide,Tryz.func46.trans (congrArg some (by kernel_rfl))⟩,t4:=Tryz.underlying4,a4:=Tryz.isAgg4,z4:=Tryz.sizeOf4,v4:=Tryz.zeroValue4,t22:=Tryz.underlying22,a22:=Tryz.isAgg22,z22:=Tryz.sizeOf22,v22:=Tryz.zeroValue22 }
theorem con46(es:List Entry)(hl:es.length*40≤140737488355328):A48 Tryz.prog 46 [.sl (es.map c67)] 67 (.row 4 (es.map c67)) :=
 A3e (T:=tab) Bo9 A9 (te:=_) rfl ⟨_,Tryz.func46,by kernel_rfl,by kernel_rfl⟩ (by kernel_rfl) (by decide +kernel) (fun r hr=>by obtain⟨x,_,rfl⟩:=List.mem_map.1 hr;kernel_rfl) (by rw[List.length_map];exact hl)
noncomputable def tiRowE:TypeInfo:=(Tryz.prog.info? 22).get!
noncomputable def tiE:TypeInfo:=(Tryz.prog.info? 67).get!
def swE(n:Nat):Nat:=if n=0 then 157 else if n=1 then 158 else 165
theorem swKE(n:Nat)(h2:2≤n):swapperK n tiE 25=9:=by
 have b:tiE.bytes=40:=by kernel_rfl
 have c:(n == 0)=false:=by simp;omega
 have d:(n == 1)=false:=by simp;omega
 simp [swapperK,b,c,d]
theorem Bp0:SortTy 22 67 4 swE:=by
 refine⟨tiRowE,tiE,25,false,by kernel_rfl,by kernel_rfl,by kernel_rfl,by kernel_rfl,fun _=>by kernel_rfl,fun n=>?_,by kernel_rfl,fun _=>by kernel_rfl,fun n h2=>?_⟩
 ·match n with
  | 0=>show _=some 157;kernel_rfl
  | 1=>show _=some 158;kernel_rfl
  | n+2 =>
   rw[swKE _ (by omega)]
   simp only [swE]
   rw[if_neg (by omega),if_neg (by omega)]
   show _=some 165
   kernel_rfl
 ·have e:swE n=165:=by simp only [swE];rw[if_neg (by omega),if_neg (by omega)]
  rw[e]
  exact fun args W=>run_callFunc_extern Tryz.func165 (by kernel_rfl) (by kernel_rfl) (by kernel_rfl) (e:=Extern.ReflectliteSwapper.swap false) (by kernel_rfl) args W
def ltE(a b:Entry):Bool:=dLt a.dot b.dot
theorem Aq6:SWO ltE:=by
 refine⟨fun x=>?_,fun x y z h1 h2=>?_,fun x y z h1 h2=>?_⟩ <;> simp only [ltE,dLt,decide_eq_true_eq,decide_eq_false_iff_not]at*<;> omega
theorem con151(d:List Entry)(i j:Int)(hi0:0≤i)(hj0:0≤j)(hi:i < d.length)(hj:j < d.length):Con Tryz.prog 151 [.i .i64 i,.i .i64 j,.eptr [.sl (d.map c67)]] (.b (ltE d[i.toNat]! d[j.toNat]!)) :=
 by
 refine sC A9 [.tmp 5] 17 Tryz.func151 ?_
 intro e0 cx
 refine sq<|rG cx [0,1,2] [] z0<|sn<|sq<|rA cx [5] [] (fA (0≤i) (fG c67 d i.toNat (fR 4 (fN 2 4 (fA (0≤j) (fG c67 d j.toNat (fR 4 (fN 2 4 (fT (Bd2 (d[i.toNat]!.dot) (d[j.toNat]!.dot)) (oR 2 (c67 d[i.toNat]!) (oR 7 (c67 d[j.toNat]!) (oA 10 (.b (dLt d[i.toNat]!.dot d[j.toNat]!.dot)) z0))))))))))))<|sn<|rT<|qR (.b (dLt d[i.toNat]!.dot d[j.toNat]!.dot)) (.eq ?g0);rotate_left
 case g0=>exact rfl
theorem io150(d:List Entry)(hlen:d.length < 1152921504606846976) :
  Z5 Tryz.prog 150 151 (some 22) true 67 4 (d.map c67) ((d.mergeSort (fun x y=>!ltE y x)).map c67):=by
 refine B6e.toG (fun r hr=>by obtain⟨x,_,rfl⟩:=List.mem_map.1 hr;rfl) ?_
 exact B9e (α:=Entry) (encA:=c67) (k:=4) Bp0 (fun x=>rfl)
  (fun x a ha=>by
   simp only [c67,List.mem_cons,List.not_mem_nil,or_false]at ha
   rcases ha with rfl | rfl | rfl | rfl <;> rfl)
  ltE Aq6 151 ⟨_,Tryz.func151,by kernel_rfl,by kernel_rfl⟩ ⟨_,Tryz.func150,by kernel_rfl,by kernel_rfl⟩
  (fun d i j hi hj=>by
   have:=con151 d (i:Int) (j:Int) (by omega) (by omega) (by omega) (by omega)
   rw[Int.toNat_natCast,Int.toNat_natCast]at this
   exact this) d hlen
def A6b(es:List Entry):List Entry:=es.mergeSort (fun x y=>!ltE y x)
theorem A6c(es:List Entry):(A6b es).length=es.length:=by simp [A6b]
def Bp1(es:List Entry):Int:=match es.find? (fun e=>decide (U8 e≠0))with | some e=>U8 e | none=>0
def P8(s:List Entry):Nat→Option (List Entry)
 | 0=>some []
 | n+1=>match P8 s n with
  | none=>none
  | some l=>if n=0∨s[n-1]!.dot≠s[n]!.dot then some (l++[s[n]!])else if s[n-1]! = s[n]! then some l else none
def A2v(s:List Entry):List Entry×Int:=match P8 s s.length with | some l=>(l,0) | none=>([],10)
def U4(es:List Entry):List Entry×Int:=if Bp1 es=0 then A2v (A6b es)else([],Bp1 es)
theorem Bp2{es:List Entry}(h:∀ j:Nat,j < es.length→U8 es[j]! = 0):Bp1 es=0:=by
 unfold Bp1
 have:es.find? (fun e=>decide (U8 e≠0))=none:=by
  rw[List.find?_eq_none]
  intro x hx
  obtain⟨j,hj,rfl⟩:=List.mem_iff_getElem.1 hx
  have:=h j hj
  rw[getElem!_pos es j hj]at this
  simp [this]
 rw[this]
theorem B9f{es:List Entry}:∀ {i:Nat},i < es.length→¬ U8 es[i]! = 0→(∀ j:Nat,j < i→U8 es[j]! = 0)→Bp1 es=U8 es[i]!:=by
 induction es with
 | nil=>intro i hi;simp at hi
 | cons e es ih =>
  intro i hi hb hok
  cases i with
  | zero =>
   have hb':¬ U8 e=0:=by simpa using hb
   unfold Bp1
   simp [List.find?_cons,hb']
  | succ i =>
   have h0:U8 e=0:=by simpa using hok 0 (by omega)
   have:=ih (i:=i) (by simpa using hi) (by simpa using hb) (fun j hj=>by simpa using hok (j+1) (by omega))
   unfold Bp1 at this ⊢
   simpa [List.find?_cons,h0]using this
theorem A8c{s:List Entry}{n:Nat}(h:P8 s n=none):∀ m,P8 s (n+m)=none
 | 0=>h
 | m+1=>by rw[← Nat.add_assoc,P8,A8c h m]
def B54(s:List Entry):Prop:=s.Pairwise (fun x y=>(!ltE y x)=true)
theorem B1e(es:List Entry):B54 (A6b es):=by
 refine List.pairwise_mergeSort (le:=fun x y=>!ltE y x) ?_ ?_ es
 ·intro a b c h1 h2
  simp only [Bool.not_eq_true']at *
  exact Aq6.ntrans _ _ _ h2 h1
 ·intro a b
  cases h:ltE b a with
  | false=>rfl
  | true=>simp [Aq6.asymmA h]
theorem B55(s:List Entry):(A2v s).1.length≤s.length:=by
 have:∀ n l,P8 s n=some l→l.length≤n:=by
  intro n
  induction n with
  | zero=>intro l h;simp [P8]at h;simp [← h]
  | succ n ih =>
   intro l h
   rw[P8]at h
   split at h
   ·cases h
   ·rename_i l0 h0
    have:=ih l0 h0
    split at h
    ·simp only [Option.some.injEq]at h;rw[← h];simp;omega
    ·split at h
     ·simp only [Option.some.injEq]at h;rw[← h];omega
     ·cases h
 unfold A2v
 split
 ·rename_i l h;exact this _ _ h
 ·simp
theorem B56(es:List Entry):(U4 es).1.length≤es.length:=by
 unfold U4
 split
 ·have:=B55 (A6b es)
  rwa [A6c]at this
 ·simp
def B57(es:List Entry)(i:Int):Prop:=0≤i∧i≤es.length∧∀ j:Nat,(j:Int) < i→U8 es[j]! = 0
end Go.Proofs.YtokhjapfekbobaaGreat
namespace Go.Proofs.YtokhjapfekbobaaGreat
open Go.E
set_option maxRecDepth 100000
set_option maxHeartbeats 4000000
def inv57(s:List Entry)(i:Int)(l:List Entry):Prop:=0≤i∧i≤s.length∧P8 s i.toNat=some l∧(l.length:Int)≤i
def Ay8(s:List Entry)(i:Int)(a l:List Entry):Prop:=a=s∧0≤i∧i≤s.length∧P8 s i.toNat=some l∧(l.length:Int)≤i
def dec25c(s:List Entry)(i:Int)(a l:List Entry):Nat:=(s.length-i).toNat
theorem Aj9{es:List Entry}{i:Nat}(hi:i < es.length)(hb:¬ U8 es[i]! = 0)(hok:∀ j:Nat,j < i→U8 es[j]! = 0):U4 es=([],U8 es[i]!):=by
 have:=B9f hi hb hok
 unfold U4
 rw[this,if_neg hb]
theorem A2w{es:List Entry}(hok:∀ j:Nat,j < es.length→U8 es[j]! = 0):U4 es=A2v (A6b es):=by
 unfold U4
 rw[if_pos (Bp2 hok)]
theorem A3j{s l:List Entry}{i:Int}(h0:0≤i)(h:P8 s i.toNat=some l) :
  P8 s (i+1).toNat=if ¬(0 < i∧s[(i-1).toNat]!.dot=s[i.toNat]!.dot)then some (l++[s[i.toNat]!])else if s[(i-1).toNat]! = s[i.toNat]! then some l else none:=by
 have e:(i+1).toNat=i.toNat+1:=by omega
 have e2:(i-1).toNat=i.toNat-1:=by omega
 rw[e,P8,h,e2]
 have hc:(i.toNat=0∨s[i.toNat-1]!.dot≠s[i.toNat]!.dot)↔¬(0 < i∧s[i.toNat-1]!.dot=s[i.toNat]!.dot):=by
  constructor
  ·rintro(h | h) ⟨h1,h2⟩
   ·omega
   ·exact h h2
  ·intro h
   by_cases z:i.toNat=0
   ·exact .inl z
   ·exact .inr fun g=>h ⟨by omega,g⟩
 simp only [hc]
theorem B9g{s l:List Entry}{i:Int}(h0:0≤i)(h:P8 s i.toNat=some l)(hi:i < s.length)(hl:(l.length:Int)≤i)(hc:¬(0 < i∧s[(i-1).toNat]!.dot=s[i.toNat]!.dot)):inv57 s (i+1) (l++[s[i.toNat]!]) :=
 ⟨by omega,by omega,by rw[A3j h0 h,if_pos hc],by simp;omega⟩
theorem B58{s l:List Entry}{i:Int}(h0:0≤i)(h:P8 s i.toNat=some l)(hi:i < s.length)(hl:(l.length:Int)≤i)(hc:0 < i∧s[(i-1).toNat]!.dot=s[i.toNat]!.dot)(he:¬ ¬ s[(i-1).toNat]! = s[i.toNat]!):inv57 s (i+1) l :=
 ⟨by omega,by omega,by rw[A3j h0 h,if_neg (fun k=>k hc),if_pos (Classical.not_not.1 he)],by omega⟩
theorem A8d{s l:List Entry}{i:Int}(h0:0≤i)(h:P8 s i.toNat=some l)(hi:i < s.length)(hc:0 < i∧s[(i-1).toNat]!.dot=s[i.toNat]!.dot)(he:¬ s[(i-1).toNat]! = s[i.toNat]!):A2v s=([],10):=by
 have h1:P8 s (i+1).toNat=none:=by rw[A3j h0 h,if_neg (fun k=>k hc),if_neg he]
 have h2:=A8c h1 (s.length-(i+1).toNat)
 rw[show(i+1).toNat+(s.length-(i+1).toNat)=s.length by omega]at h2
 unfold A2v
 rw[h2]
theorem Ay9{s l:List Entry}{i:Int}(h0:0≤i)(h:P8 s i.toNat=some l)(h1:i≤s.length)(hi:¬ i < s.length):A2v s=(l,0):=by
 unfold A2v
 rw[show s.length=i.toNat by omega,h]
theorem con107(es:List Entry)(hl:es.length*40≤140737488355328):Con Tryz.prog 107 [.sl (es.map c67)] (.tup [.sl ((U4 es).1.map c67),.i .i64 (U4 es).2]) :=
 by
 have hL:(es.mergeSort fun x y=>!ltE y x).length=es.length:=by simp
 have hS:=A6c es
 refine lN 0 c67 (es) Tryz.func107 fun hl_0=>sC A9 [.tmp 2,.tmp 3] 62 Tryz.func107 ?_
 intro e0 cx
 refine sq<|rG cx [0] [] z0<|sn<|sq<|sq<|rG cx [0,11,12,13] [] (tL 1 c67 es z0)<|sn<|bL 0<|sL (X:=Int) (fun x=>⟨[(0,.sl (List.map c67 es)),(11,.sl (List.map c67 es)),(12,.i .i64 ((↑es.length:Int))),(13,.i .i64 (x))],[]⟩) (fun x ↦ dec30i es x) (fun x ↦ B57 es x) [0,11,12,13] [] ((0:Int)) (show B57 es (0:Int)from ?g0) ?_;rotate_left
 intro i0 h_1
 obtain⟨hh2,hh3,hh4⟩:0≤i0∧i0≤(↑es.length:Int)∧∀(j:Nat),(↑j:Int) < i0→U8 es[j]! =(0:Int):=h_1
 refine rE cx [0,11,12,13,14] [] (zB 0 (i0 <(↑es.length:Int))) (fun h5=>?_) fun h5=>?_
 refine sK<|sn<|sq<|bL 1<|sq<|rG cx [0,11,12,13,5] [5] (fA (0≤i0) (fG c67 es i0.toNat (fR 4 (fN 4 4 (oR 0 (c67 es[i0.toNat]!) z0)))))<|sn<|sq<|rG cx [0,11,12,13,6] [] (fT (Av8 (es[i0.toNat]!)) (oA 1 (.i .i64 (U8 es[i0.toNat]!)) z0))<|sn<|sq<|rG cx [0,11,12,13,6,20] [] (tN 1 (U8 es[i0.toNat]!) (0:Int) z0)<|sn<|dC (¬U8 es[i0.toNat]! =(0:Int)) (fun h6=>?_) fun h6=>?_
 refine sq<|rG cx [2,3] [] z0<|sn<|rT<|bR<|nR<|nR<|bR<|nR<|qR (.tup [.nl,.i .i64 (U8 es[i0.toNat]!)]) (B9.tup (ZLe.cons (B9.nl' (show List.map c67 (U4 es).1=[]from ?g2)) (ZLe.cons (B9.eq (show AV.i .i64 (U8 es[i0.toNat]!)=AV.i .i64 (U4 es).2 from ?g1)) ZLe.nil)));rotate_left 2
 refine sK<|bN<|sn<|rG cx [0,11,12,13] [] (tW 0 (i0+1) z0)<|sn<|nX (i0+1) (show((↑es.length:Int)-(i0+1)).toNat <((↑es.length:Int)-i0).toNat from(by omega)) (show B57 es (i0+1)from ?g3);rotate_left
 refine eX 0<|nE<|nE<|bH<|sn<|sq<|rG cx [7] [24,7] (fT (con46 (es) (by(with_reducible assumption))) (oV 1 { val:=some (.own (67:Nat) (4:Nat)),rows:=some (List.map c67 es) } z0))<|sn<|sq<|rG cx [7] [24,7] (fR (AV.own (24) (0)) (fP (Z5 Tryz.prog (150:FuncId) (151:FuncId) (some (22:Nat)) true (67:Nat) (4:Nat) (List.map c67 es) (List.map c67 (es.mergeSort fun x y ↦ !ltE y x))) (io150 (es) (by omega)) (oV 3 { rows:=some (List.map c67 (es.mergeSort fun x y ↦ !ltE y x)) } z0)))<|sn<|sq<|rG cx [7,8] [24,7] z0<|sn<|sq<|sq<|rG cx [7,8,29,30,31] [24,7] (tL 1 c67 (es.mergeSort fun x y ↦ !ltE y x) z0)<|sn<|bL 2<|G0 8 1008 67 4 (σ':=⟨[(7,.ptr (7) (0) (0) (0)),(8,.own 1008 0),(29,.own 24 0),(30,.i .i64 ((↑(es.mergeSort fun x y ↦ !ltE y x).length:Int))),(31,.i .i64 ((0:Int)))],[(24,⟨0,67,.row 4 (List.map c67 (es.mergeSort fun x y ↦ !ltE y x))⟩),(7,⟨0,22,.var [.own 24 0]⟩),(1008,⟨0,67,.row 4 (List.map c67 [])⟩)]⟩) (by kernel_rfl)<|sL (X:=Int×List Entry×List Entry) (fun x=>⟨[(7,.ptr (7) (0) (0) (0)),(8,.own 1008 0),(29,.own 24 0),(30,.i .i64 ((↑(es.mergeSort fun x y ↦ !ltE y x).length:Int))),(31,.i .i64 (x.1))],[(24,⟨0,67,.row 4 (List.map c67 x.2.1)⟩),(7,⟨0,22,.var [.own 24 0]⟩),(1008,⟨0,67,.row 4 (List.map c67 x.2.2)⟩)]⟩) (fun x ↦ dec25c (A6b es) x.1 x.2.1 x.2.2) (fun x ↦ Ay8 (A6b es) x.1 x.2.1 x.2.2) [7,8,29,30,31] [24,7,1008] (((0:Int),es.mergeSort fun x y ↦ !ltE y x,[])) (show Ay8 (A6b es) (0:Int) (es.mergeSort fun x y ↦ !ltE y x) []from ?g4) ?_;rotate_left
 rintro⟨ii7,a8,l9⟩ h_10
 obtain⟨h11,h12,h13,h14,h15⟩:a8=A6b es∧0≤ii7∧ii7≤(↑(A6b es).length:Int)∧P8 (A6b es) ii7.toNat=some l9∧(↑l9.length:Int)≤ii7:=h_10
 refine rE cx [7,8,29,30,31,32] [24,7,1008] (zB 0 (ii7 <(↑(es.mergeSort fun x y ↦ !ltE y x).length:Int))) (fun h16=>?_) fun h16=>?_
 refine sK<|sn<|sq<|bL 3<|sq<|rG cx [7,8,29,30,31,10,9] [24,7,1008,10] (fA (0≤ii7) (fP (ii7.toNat <(List.map c67 a8).length) ?g5 (fR 4 (fP (E.rowAt { ver:=0,ty:=67,k:=BK.row (4) (List.map c67 a8):Blk } ii7.toNat (c67 a8[ii7.toNat]!)) ?g6 (fP (0+(4:Nat)≤(c67 a8[ii7.toNat]!).length) ?g7 (oR 2 (c67 a8[ii7.toNat]!) z0)))))) ?_;rotate_left 3
 refine sn<|sq<|sq<|B3 (σ':=⟨[(7,.ptr (7) (0) (0) (0)),(8,.own 1008 0),(29,.own 24 0),(30,.i .i64 ((↑(es.mergeSort fun x y ↦ !ltE y x).length:Int))),(31,.i .i64 (ii7)),(10,.ptr (10) (0) (0) (0)),(9,.i .i64 (ii7)),(48,.b (decide ((0:Int) < ii7∧a8[(ii7-1).toNat]!.dot=a8[ii7.toNat]!.dot)))],[(24,⟨0,67,.row 4 (List.map c67 a8)⟩),(7,⟨0,22,.var [.own 24 0]⟩),(1008,⟨0,67,.row 4 (List.map c67 l9)⟩),(10,⟨0,67,.var [.i .i64 (a8[ii7.toNat]!.dot.rep),.i .i64 (a8[ii7.toNat]!.dot.num),.s (a8[ii7.toNat]!.sku),.i .i64 (a8[ii7.toNat]!.qty)]⟩)]⟩) ?_ ?_
 refine A4 ((0:Int) < ii7) (fun h18=>?_) (fun h18=>?_)
 refine rA cx [7,8,29,30,31,10,9,48] [24,7,1008,10] (tT 1 (A3 h18) (tT 5 (B7 (by omega) ?g8:AV.i .i64 (IntKind.i64.wrap (ii7-1))=AV.i .i64 (ii7-1)) (fO (0≤ii7-1) (fP ((ii7-1).toNat <(List.map c67 a8).length) ?g9 (fR 4 (fP (E.rowAt { ver:=0,ty:=67,k:=BK.row (4) (List.map c67 a8):Blk } (ii7-1).toNat (c67 a8[(ii7-1).toNat]!)) ?g10 (fP (0+(2:Nat)≤(c67 a8[(ii7-1).toNat]!).length) ?g11 (fT (eq65 a8[(ii7-1).toNat]!.dot a8[ii7.toNat]!.dot) (tD 12 (decide (a8[(ii7-1).toNat]!.dot=a8[ii7.toNat]!.dot)) ((0:Int) < ii7∧a8[(ii7-1).toNat]!.dot=a8[ii7.toNat]!.dot) (by simp only [eq_true h18,tsl]) (oR 8 (c67 a8[(ii7-1).toNat]!) (oA 11 (.b (decide (a8[(ii7-1).toNat]!.dot=a8[ii7.toNat]!.dot))) z0))))))))))) ?_;rotate_left 4
 exact⟨rfl,by kernel_rfl⟩
 refine rA cx [7,8,29,30,31,10,9,48] [24,7,1008,10] (tT 1 (A0 h18) (tD 12 false ((0:Int) < ii7∧a8[(ii7-1).toNat]!.dot=a8[ii7.toNat]!.dot) (by simp only [eq_false h18,tsl]) z0)) ?_
 exact⟨rfl,by kernel_rfl⟩
 refine sn<|dC ((0:Int) < ii7∧a8[(ii7-1).toNat]!.dot=a8[ii7.toNat]!.dot) (fun h19=>?_) fun h19=>?_
 refine sq<|sq<|rA cx [7,8,29,30,31,55] [24,7,1008] (tT 2 (B7 (by omega) ?g12:AV.i .i64 (IntKind.i64.wrap (ii7-1))=AV.i .i64 (ii7-1)) (fO (0≤ii7-1) (fP ((ii7-1).toNat <(List.map c67 a8).length) ?g13 (fR 4 (fP (E.rowAt { ver:=0,ty:=67,k:=BK.row (4) (List.map c67 a8):Blk } (ii7-1).toNat (c67 a8[(ii7-1).toNat]!)) ?g14 (fP (0+(4:Nat)≤(c67 a8[(ii7-1).toNat]!).length) ?g15 (fT (V5 (eq67 a8[(ii7-1).toNat]! a8[ii7.toNat]!)) (oR 4 (c67 a8[(ii7-1).toNat]!) (oA 6 (.b (decide ¬a8[(ii7-1).toNat]! = a8[ii7.toNat]!)) z0))))))))) ?_;rotate_left 4
 refine sn<|dC (¬a8[(ii7-1).toNat]! = a8[ii7.toNat]!) (fun h20=>?_) fun h20=>?_
 refine sq<|rG cx [2,3] [] z0<|sn<|rT<|nR<|nR<|bR<|nR<|nR<|bR<|nR<|qR (.tup [.nl,.i .i64 ((10:Int))]) (B9.tup (ZLe.cons (B9.nl' (show List.map c67 (U4 es).1=[]from ?g17)) (ZLe.cons (B9.eq (show AV.i .i64 10=AV.i .i64 (U4 es).2 from ?g16)) ZLe.nil)));rotate_left 2
 refine sK<|sn<|eX 3<|nE<|bH<|sn<|rG cx [7,8,29,30,31] [24,7,1008] (tT 0 (B7 (by omega) ?g18:AV.i .i64 (IntKind.i64.wrap (ii7+1))=AV.i .i64 (ii7+1)) z0) ?_;rotate_left
 refine sn<|nX ((ii7+1,a8,l9)) (show((↑(A6b es).length:Int)-(ii7+1)).toNat <((↑(A6b es).length:Int)-ii7).toNat from ?g19) (show Ay8 (A6b es) (ii7+1) a8 l9 from ?g20);rotate_left 2
 refine sK<|sn<|rG cx [7,8,29,30,31] [24,7,1008] (fR 67 (fR 4 (fR 4 (fX c67 [a8[ii7.toNat]!] 4 (fP ((List.map c67 l9).length+(List.map c67 [a8[ii7.toNat]!]).length≤maxLen) ?g21 (fP (((List.map c67 l9).length+(List.map c67 [a8[ii7.toNat]!]).length)*(40:Nat)≤(140737488355328:Nat)) ?g22 (fM c67 l9 [a8[ii7.toNat]!] (oV 3 { rows:=some (List.map c67 (l9++[a8[ii7.toNat]!])) } z0)))))))) ?_;rotate_left 2
 refine bN<|sn<|rG cx [7,8,29,30,31] [24,7,1008] (tT 0 (B7 (by omega) ?g23:AV.i .i64 (IntKind.i64.wrap (ii7+1))=AV.i .i64 (ii7+1)) z0) ?_;rotate_left
 refine sn<|nX ((ii7+1,a8,l9++[a8[ii7.toNat]!])) (show((↑(A6b es).length:Int)-(ii7+1)).toNat <((↑(A6b es).length:Int)-ii7).toNat from ?g24) (show Ay8 (A6b es) (ii7+1) a8 (l9++[a8[ii7.toNat]!])from ?g25);rotate_left 2
 refine eX 2<|nE<|nE<|bH<|sn<|sq<|rG cx [2,3] [1008] z0<|sn<|rT<|qR (.tup [.sl (List.map c67 l9),.i .i64 ((0:Int))]) (B9.tup (ZLe.cons (B9.eq (show AV.sl (List.map c67 l9)=AV.sl (List.map c67 (U4 es).1)from ?g27)) (ZLe.cons (B9.eq (show AV.i .i64 0=AV.i .i64 (U4 es).2 from ?g26)) ZLe.nil)));rotate_left 2
 rotate_left
 revert i0 hh2 hh3 hh4 h5 h6;rotate_left
 revert i0 hh2 hh3 hh4 h5 h6;rotate_left
 revert i0 hh2 hh3 hh4 h5 h6;rotate_left
 revert i0 hh2 hh3 hh4 h5;rotate_left
 revert i0 hh2 hh3 hh4 h5 ii7 a8 l9 h11 h12 h13 h14 h15 h16;rotate_left
 revert i0 hh2 hh3 hh4 h5 ii7 a8 l9 h11 h12 h13 h14 h15 h16;rotate_left
 revert i0 hh2 hh3 hh4 h5 ii7 a8 l9 h11 h12 h13 h14 h15 h16;rotate_left
 revert i0 hh2 hh3 hh4 h5 ii7 a8 l9 h11 h12 h13 h14 h15 h16 h18;rotate_left
 revert i0 hh2 hh3 hh4 h5 ii7 a8 l9 h11 h12 h13 h14 h15 h16 h18;rotate_left
 revert i0 hh2 hh3 hh4 h5 ii7 a8 l9 h11 h12 h13 h14 h15 h16 h18;rotate_left
 revert i0 hh2 hh3 hh4 h5 ii7 a8 l9 h11 h12 h13 h14 h15 h16 h18;rotate_left
 revert i0 hh2 hh3 hh4 h5 ii7 a8 l9 h11 h12 h13 h14 h15 h16 h19;rotate_left
 revert i0 hh2 hh3 hh4 h5 ii7 a8 l9 h11 h12 h13 h14 h15 h16 h19;rotate_left
 revert i0 hh2 hh3 hh4 h5 ii7 a8 l9 h11 h12 h13 h14 h15 h16 h19;rotate_left
 revert i0 hh2 hh3 hh4 h5 ii7 a8 l9 h11 h12 h13 h14 h15 h16 h19;rotate_left
 revert i0 hh2 hh3 hh4 h5 ii7 a8 l9 h11 h12 h13 h14 h15 h16 h19 h20;rotate_left
 revert i0 hh2 hh3 hh4 h5 ii7 a8 l9 h11 h12 h13 h14 h15 h16 h19 h20;rotate_left
 revert i0 hh2 hh3 hh4 h5 ii7 a8 l9 h11 h12 h13 h14 h15 h16 h19 h20;rotate_left
 revert i0 hh2 hh3 hh4 h5 ii7 a8 l9 h11 h12 h13 h14 h15 h16 h19 h20;rotate_left
 revert i0 hh2 hh3 hh4 h5 ii7 a8 l9 h11 h12 h13 h14 h15 h16 h19 h20;rotate_left
 revert i0 hh2 hh3 hh4 h5 ii7 a8 l9 h11 h12 h13 h14 h15 h16 h19;rotate_left
 revert i0 hh2 hh3 hh4 h5 ii7 a8 l9 h11 h12 h13 h14 h15 h16 h19;rotate_left
 revert i0 hh2 hh3 hh4 h5 ii7 a8 l9 h11 h12 h13 h14 h15 h16 h19;rotate_left
 revert i0 hh2 hh3 hh4 h5 ii7 a8 l9 h11 h12 h13 h14 h15 h16 h19;rotate_left
 revert i0 hh2 hh3 hh4 h5 ii7 a8 l9 h11 h12 h13 h14 h15 h16 h19;rotate_left
 revert i0 hh2 hh3 hh4 h5 ii7 a8 l9 h11 h12 h13 h14 h15 h16;rotate_left
 revert i0 hh2 hh3 hh4 h5 ii7 a8 l9 h11 h12 h13 h14 h15 h16;rotate_left
 case g1=>intro i h0 h1 h2 h3 h4;rw[Aj9 (by omega) h4 (fun j hj=>h2 j (by omega))]
 case g2=>intro i h0 h1 h2 h3 h4;rw[Aj9 (by omega) h4 (fun j hj=>h2 j (by omega))];rfl
 case g3 =>
  intro i h0 h1 h2 h3 h4
  refine⟨by omega,by omega,fun j hj=>?_⟩
  by_cases e:j=i.toNat
  ·rw[e];exact Classical.not_not.1 h4
  ·exact h2 j (by omega)
 case g4=>intro i h0 h1 h2 h3;exact⟨rfl,by omega,by omega,rfl,by simp⟩
 case g16=>intro i h0 h1 h2 h3 i7 a l k0 k1 k2 k3 k4 k5 k6 k7;subst k0;rw[A2w (fun j hj=>h2 j (by omega)),A8d k1 k3 (by omega) k6 k7]
 case g17=>intro i h0 h1 h2 h3 i7 a l k0 k1 k2 k3 k4 k5 k6 k7;subst k0;rw[A2w (fun j hj=>h2 j (by omega)),A8d k1 k3 (by omega) k6 k7];rfl
 case g20=>intro i h0 h1 h2 h3 i7 a l k0 k1 k2 k3 k4 k5 k6 k7;subst k0;exact⟨rfl,B58 k1 k3 (by omega) k4 k6 k7⟩
 case g25=>intro i h0 h1 h2 h3 i7 a l k0 k1 k2 k3 k4 k5 k6;subst k0;exact⟨rfl,B9g k1 k3 (by omega) k4 k6⟩
 case g26=>intro i h0 h1 h2 h3 i7 a l k0 k1 k2 k3 k4 k5;rw[A2w (fun j hj=>h2 j (by omega)),Ay9 k1 k3 k2 (by omega)]
 case g27=>intro i h0 h1 h2 h3 i7 a l k0 k1 k2 k3 k4 k5;rw[A2w (fun j hj=>h2 j (by omega)),Ay9 k1 k3 k2 (by omega)]
 all_goals intros
 all_goals (try subst_vars)
 all_goals first
  | omega
  | (simp only [List.length_map,List.length_append,List.length_cons,List.length_nil,Go.maxLen];omega)
  | exact F7 (by omega)
  | exact Nat.le_of_ble_eq_true rfl
  | exact⟨by omega,by omega,fun j hj=>by omega⟩
end Go.Proofs.YtokhjapfekbobaaGreat
namespace Go.Proofs.YtokhjapfekbobaaGreat
open Go.E
set_option maxRecDepth 100000
set_option maxHeartbeats 4000000
noncomputable def Ak0(a b:Facts):Bool:=okF a && okF b
noncomputable def A2x(f:Facts):Int:=if okF f=true then 0 else 1
def zeroF:Facts:=⟨[],⟨[],[]⟩,[]⟩
theorem D7{f:Facts}:okF f=true↔D2 f.adds=0∧f.gone=A5 f.gone∧D9 f.recs=0:=by rw[Be5,decide_eq_true_iff]
theorem A4k{a b:Facts}:Ak0 a b=true↔okF a=true∧okF b=true:=by unfold Ak0;rw[Bool.and_eq_true]
end Go.Proofs.YtokhjapfekbobaaGreat
namespace Go.Proofs.YtokhjapfekbobaaGreat
open Go.E
set_option maxRecDepth 100000
set_option maxHeartbeats 4000000
theorem A0v{f:Facts}:A2x f=0↔okF f=true:=by
 unfold A2x
 by_cases h:okF f=true
 ·rw[if_pos h];exact⟨fun _=>h,fun _=>rfl⟩
 ·rw[if_neg h];exact⟨fun k=>by omega,fun k=>absurd k h⟩
theorem B59(f:Facts)(hb:szF f):Con Tryz.prog 64 [.agg (c29 f)] (.i .i64 (A2x f)) :=
 by
 have no:(¬D2 f.adds=0∨¬f.gone=A5 f.gone∨¬D9 f.recs=0)↔¬ okF f=true:=by
  rw[D7]
  constructor
  ·rintro(h | h | h) k
   ·exact h k.1
   ·exact h k.2.1
   ·exact h k.2.2
  ·intro h
   by_cases a:D2 f.adds=0
   ·by_cases b:f.gone=A5 f.gone
    ·exact .inr (.inr fun c=>h ⟨a,b,c⟩)
    ·exact .inr (.inl b)
   ·exact .inl a
 refine sC A9 [.tmp 2] 19 Tryz.func64 ?_
 intro e0 cx
 refine sq<|rG cx [1] [1] z0<|sn<|sq<|sq<|B3 (σ':=⟨[(18,.b (decide (¬D2 f.adds=0∨¬f.gone=A5 f.gone∨¬D9 f.recs=0)))],[]⟩) ?_ ?_
 refine A4 (¬D2 f.adds=0) (fun h1=>?_) (fun h1=>?_)
 refine rG cx [18] [] (fT (A2j (f.adds)) (tT 3 (D1 h1:AV.b (D2 f.adds !=0)=AV.b true) (tD 15 true (¬D2 f.adds=0∨¬f.gone=A5 f.gone∨¬D9 f.recs=0) (by simp only [eq_false h1,tsl]) (oA 2 (.i .i64 (D2 f.adds)) z0)))) ?_
 exact⟨rfl,by kernel_rfl⟩
 refine A4 (¬f.gone=A5 f.gone) (fun h2=>?_) (fun h2=>?_)
 refine rg (A:=_∧(AV.b (D2 f.adds !=0)=AV.b (decide ¬D2 f.adds=0))∧_∧_∧_∧(AV.b true=AV.b (decide (¬D2 f.adds=0∨¬f.gone=A5 f.gone∨¬D9 f.recs=0)))) cx [(2,{ val:=some (.i .i64 (D2 f.adds)) }),(3,{ tell:=some (.b (decide ¬D2 f.adds=0)) }),(4,{ tell:=some (.b (false)) }),(7,{ val:=some (.b (decide (f.gone=A5 f.gone))),tell:=some (.b (false)) }),(15,{ tell:=some (.b (decide (¬D2 f.adds=0∨¬f.gone=A5 f.gone∨¬D9 f.recs=0))) })] [18] [] ⟨(A2j (f.adds)),(E9),(A0 h1),(A0 h2),(Ag2 (f.gone) (by exact hb.1.1)),(by first | (simp only [eq_false h1,eq_false h2,tsl];done) | simp_all)⟩ ?_
 exact⟨rfl,by kernel_rfl⟩
 refine rG cx [18] [] (fT (A2j (f.adds)) (tN 3 (D2 f.adds) (0:Int) (tT 4 (A0 h1) (fT (Ag2 (f.gone) (by exact hb.1.1)) (tQ 8 (f.gone=A5 f.gone) (tT 9 (A0 h2) (fT (A9m (f.recs) (by exact A7a hb.2)) (tN 14 (D9 f.recs) (0:Int) (tT 15 (by first | (simp only [eq_false h1,eq_false h2,tsl];done) | simp_all:AV.b (decide ¬D9 f.recs=0)=AV.b (decide (¬D2 f.adds=0∨¬f.gone=A5 f.gone∨¬D9 f.recs=0))) (oA 2 (.i .i64 (D2 f.adds)) (oA 7 (.b (decide (f.gone=A5 f.gone))) (oA 13 (.i .i64 (D9 f.recs)) z0)))))))))))) ?_
 exact⟨rfl,by kernel_rfl⟩
 refine sn<|dC (¬D2 f.adds=0∨¬f.gone=A5 f.gone∨¬D9 f.recs=0) (fun h3=>?_) fun h3=>?_
 refine sq<|rG cx [2] [] z0<|sn<|rT<|nR<|qR (.i .i64 ((1:Int))) (.eq (by unfold A2x;rw[if_neg (no.1 h3)]))
 refine sK<|sn<|sq<|rG cx [2] [] z0<|sn<|rT<|qR (.i .i64 ((0:Int))) (.eq (by unfold A2x;rw[if_pos (Classical.not_not.1 fun k=>h3 (no.2 k))]))
theorem con57(a b:Facts)(ha:szF a)(hb:szF b):Con Tryz.prog 57 [.agg (c29 a),.agg (c29 b)] (.b (Ak0 a b)) :=
 by
 refine sC A9 [.tmp 4] 13 Tryz.func57 ?_
 intro e0 cx
 refine sq<|rG cx [2,3] [2,3] z0<|sn<|sq<|B3 (σ':=⟨[(4,.b (decide (A2x a=0∧A2x b=0)))],[]⟩) ?_ ?_
 refine A4 (A2x a=0) (fun h_1=>?_) (fun h_1=>?_)
 refine rG cx [4] [] (fT (B59 (a) (by(with_reducible assumption))) (tT 2 (A3 h_1) (fT (B59 (b) (by(with_reducible assumption))) (tB 6 (A2x b=0) (tD 8 (decide (A2x b=0)) (A2x a=0∧A2x b=0) (by simp only [eq_true h_1,tsl]) (oA 1 (.i .i64 (A2x a)) (oA 5 (.i .i64 (A2x b)) z0))))))) ?_
 exact⟨rfl,by kernel_rfl⟩
 refine rG cx [4] [] (fT (B59 (a) (by(with_reducible assumption))) (tT 2 (A0 h_1) (tD 8 false (A2x a=0∧A2x b=0) (by simp only [eq_false h_1,tsl]) (oA 1 (.i .i64 (A2x a)) z0)))) ?_
 exact⟨rfl,by kernel_rfl⟩
 refine sn<|rT<|qR (.b (decide (A2x a=0∧A2x b=0))) (.eq ?g0);rotate_left
 case g0 =>
  refine congrArg AV.b ?_
  rw[Bool.eq_iff_iff,decide_eq_true_iff,A0v,A0v,A4k]
end Go.Proofs.YtokhjapfekbobaaGreat
namespace Go.Proofs.YtokhjapfekbobaaGreat
open Go.E
set_option maxRecDepth 100000
set_option maxHeartbeats 4000000
def F8(es:List Entry):Past×Int:=if okL es=true then(G1 (ofT (es.map fun e=>e.dot)),0)else(⟨[],[]⟩,1)
def O1(es:List Entry)(p:Past)(t:Bool):List Entry×Int:=if okL es=true∧p=A5 p then(es.filter (fun e=>D0 p e.dot == t),0)else([],1)
theorem Ab1{es:List Entry}(h:¬ D2 es=0):F8 es=(⟨[],[]⟩,1):=by unfold F8;rw[if_neg (Av9 h)]
theorem Az0{es:List Entry}(h:D2 es=0):F8 es=(G1 (ofT (es.map fun e=>e.dot)),0):=by unfold F8;rw[if_pos (N9 h)]
theorem Az1{es:List Entry}{p:Past}{t:Bool}(h:¬ D2 es=0∨¬ p=A5 p):O1 es p t=([],1):=by
 unfold O1
 rw[if_neg]
 rintro⟨h1,h2⟩
 exact h.elim (fun k=>Av9 k h1) (fun k=>k h2)
theorem Az2{es:List Entry}{p:Past}{t:Bool}(h:D2 es=0)(h2:p=A5 p):O1 es p t=(es.filter (fun e=>D0 p e.dot == t),0):=by unfold O1;rw[if_pos ⟨N9 h,h2⟩]
def Ak1(es:List Entry)(i:Int)(l:List Dot):Prop:=l.length=es.length∧l.take i.toNat=(es.take i.toNat).map fun e=>e.dot
def invD(es:List Entry)(i:Int)(l:List Dot):Prop:=0≤i∧i≤es.length∧l.length=es.length∧Ak1 es i l
def decD(es:List Entry)(i:Int)(l:List Dot):Nat:=(es.length-i).toNat
theorem Aq7{es:List Entry}{i:Int}{l:List Dot}(h0:0≤i)(h:i < es.length)(hs:Ak1 es i l):Ak1 es (i+1) (l.set i.toNat es[i.toNat]!.dot):=by
 obtain⟨h1,h2⟩:=hs
 refine⟨by rw[List.length_set];exact h1,?_⟩
 rw[← E1 h0 h,List.map_append,← h2,show(i+1).toNat=i.toNat+1 by omega,List.take_succ_eq_append_getElem (by rw[List.length_set];omega)]
 simp [List.take_set_of_le]
theorem B1f{es:List Entry}{i:Int}{l:List Dot}(h:¬ i < es.length)(hs:Ak1 es i l):l=es.map fun e=>e.dot:=by
 obtain⟨h1,h2⟩:=hs
 rwa [List.take_of_length_le (by omega),List.take_of_length_le (by omega)]at h2
theorem ok_len{es:List Entry}(h:¬ ¬ D2 es=0):es.length≤16000000000:=A0a (N9 (Classical.not_not.1 h))
theorem A6d{es:List Entry}{p:Past}(h:¬(¬ D2 es=0∨¬ p=A5 p)):D2 es=0∧p=A5 p:=⟨Classical.not_not.1 fun k=>h (.inl k),Classical.not_not.1 fun k=>h (.inr k)⟩
theorem B5a(es:List Entry):(F8 es).1.cloud.length≤8000000000∧(F8 es).1.vec.length≤16:=by
 unfold F8
 split
 ·exact N3 _
 ·simp
theorem Bp3(es:List Entry):Con Tryz.prog 44 [.sl (es.map c67)] (.tup [.agg (c26 (F8 es).1),.i .i64 (F8 es).2]) :=
 by
 refine lN 0 c67 (es) Tryz.func44 fun hl_0=>sC A9 [.cell 2 26,.tmp 3] 29 Tryz.func44 ?_
 intro e0 cx
 refine sq<|rG cx [0,2] [2] z0<|sn<|sq<|sq<|rG cx [0,2,9] [2] (fT (A2j (es)) (tN 2 (D2 es) (0:Int) (oA 1 (.i .i64 (D2 es)) z0)))<|sn<|dC (¬D2 es=0) (fun hh0=>?_) fun hh0=>?_
 refine sq<|rG cx [2,3] [2] z0<|sn<|rT<|nR<|qR (.tup [.agg [.nl,.nl],.i .i64 ((1:Int))]) (B9.tup (ZLe.cons (B9.agg (ZLe.cons (B9.nl' (show List.map c3 (F8 es).1.vec=[]from(by rw[Ab1 hh0];rfl))) (ZLe.cons (B9.nl' (show List.map B5 (F8 es).1.cloud=[]from(by rw[Ab1 hh0];rfl))) ZLe.nil))) (ZLe.cons (B9.eq (show AV.i .i64 1=AV.i .i64 (F8 es).2 from(by rw[Ab1 hh0]))) ZLe.nil)))
 refine sK<|sn<|sq<|rG cx [0,2,4] [2,13] (tL 1 c67 es (fR (↑es.length:Int) (fR (↑es.length:Int) (fP ((16:Nat)*es.length≤(281474976710656:Nat)) (by have:=ok_len hh0;omega) (fP (es.length≤maxLen) (by(simp only [Go.maxLen];omega)) (fR 2 (fP (ZLe [AV.i .i64 (0:Int),AV.i .i64 (0:Int)] [AV.i .i64 { rep:=(0:Int),num:=(0:Int):Dot }.rep,AV.i .i64 { rep:=(0:Int),num:=(0:Int):Dot }.num]) (by(with_reducible exact ZLe.refl _)) (fP (List.replicate es.length [AV.i .i64 { rep:=(0:Int),num:=(0:Int):Dot }.rep,AV.i .i64 { rep:=(0:Int),num:=(0:Int):Dot }.num]=List.map c65 (List.replicate es.length { rep:=(0:Int),num:=(0:Int):Dot })) (by(with_reducible refine An2 ?_;kernel_rfl)) (oV 2 { row:=[.i .i64 ({ rep:=(0:Int),num:=(0:Int):Dot }.rep),.i .i64 ({ rep:=(0:Int),num:=(0:Int):Dot }.num)],rows:=some (List.map c65 (List.replicate es.length { rep:=(0:Int),num:=(0:Int):Dot })),n:=es.length } z0))))))))) ?_
 refine sn<|sq<|sq<|rG cx [2,4,14,15,16] [2,13] (tL 1 c67 es z0)<|sn<|bL 0<|sL (X:=Int×List Dot) (fun x=>⟨[(2,.ptr (2) (0) (0) (0)),(4,.own 13 0),(14,.sl (List.map c67 es)),(15,.i .i64 ((↑es.length:Int))),(16,.i .i64 (x.1))],[(2,⟨0,26,.var [.nl,.nl]⟩),(13,⟨0,65,.row 2 (List.map c65 x.2)⟩)]⟩) (fun x ↦ decD es x.1 x.2) (fun x ↦ invD es x.1 x.2) [2,4,14,15,16] [2,13] (((0:Int),List.replicate es.length { rep:=(0:Int),num:=(0:Int):Dot })) (show invD es (0:Int) (List.replicate es.length { rep:=(0:Int),num:=(0:Int):Dot })from(by exact⟨by omega,by omega,by simp,by simp,by simp⟩)) ?_
 rintro⟨i1,l2⟩ h_3
 obtain⟨hh4,h5,h6,h7⟩:0≤i1∧i1≤(↑es.length:Int)∧l2.length=es.length∧Ak1 es i1 l2:=h_3
 refine rE cx [2,4,14,15,16,17] [2,13] (zB 0 (i1 <(↑es.length:Int))) (fun h8=>?_) fun h8=>?_
 refine sK<|sn<|sq<|bL 1<|sq<|rG cx [2,4,14,15,16,6,5] [2,13,6] (fA (0≤i1) (fG c67 es i1.toNat (fR 4 (fN 4 4 (oR 1 (c67 es[i1.toNat]!) z0)))))<|sn<|rG cx [2,4,14,15,16] [2,13] (fA (0≤i1) (fP (i1.toNat <(List.map c65 l2).length) (by(first | omega | (simp only [List.length_map];omega))) (fR 2 (fG c65 l2 i1.toNat (fR 2 (fP (0+(2:Nat)≤2) (by(first | omega | (simp only [List.length_map];omega))) (fP ((List.map c65 l2).set i1.toNat (List.take (0) (c65 l2[i1.toNat]!)++E0 (AV.agg [AV.i .i64 es[i1.toNat]!.dot.rep,AV.i .i64 es[i1.toNat]!.dot.num])++List.drop (0+(2:Nat)) (c65 l2[i1.toNat]!))=List.map c65 (l2.set i1.toNat es[i1.toNat]!.dot)) (by(with_reducible refine A3d ?_;kernel_rfl)) (oV 5 { row:=(c65 l2[i1.toNat]!),rows:=some (List.map c65 (l2.set i1.toNat es[i1.toNat]!.dot)) } z0)))))))) ?_
 refine bN<|sn<|rG cx [2,4,14,15,16] [2,13] (tW 0 (i1+1) z0)<|sn<|nX ((i1+1,l2.set i1.toNat es[i1.toNat]!.dot)) (show((↑es.length:Int)-(i1+1)).toNat <((↑es.length:Int)-i1).toNat from(by omega)) (show invD es (i1+1) (l2.set i1.toNat es[i1.toNat]!.dot)from(by exact⟨by omega,by omega,by rw[List.length_set];exact h6,Aq7 hh4 h8 h7⟩))
 refine eX 0<|nE<|nE<|bH<|sn<|sq<|rG cx [2,3] [2] (fT (con93 (l2) (by have:=ok_len hh0;omega)) (oA 1 (.agg [.sl (List.map c3 (G1 (ofT l2)).vec),.sl (List.map B5 (G1 (ofT l2)).cloud)]) z0)) ?_
 refine sn<|rT<|qR (.tup [.agg [.sl (List.map c3 (G1 (ofT l2)).vec),.sl (List.map B5 (G1 (ofT l2)).cloud)],.i .i64 ((0:Int))]) (B9.tup (ZLe.cons (B9.eq (show AV.agg [AV.sl (List.map c3 (G1 (ofT l2)).vec),AV.sl (List.map B5 (G1 (ofT l2)).cloud)]=AV.agg [AV.sl (List.map c3 (F8 es).1.vec),AV.sl (List.map B5 (F8 es).1.cloud)]from(by rw[Az0 (Classical.not_not.1 hh0),B1f h8 h7]))) (ZLe.cons (B9.eq (show AV.i .i64 0=AV.i .i64 (F8 es).2 from(by rw[Az0 (Classical.not_not.1 hh0)]))) ZLe.nil)))
theorem Be6(e:Entry)(p:Past):Con Tryz.prog 116 [.agg (c67 e),.eptr (c26 p)] (.b (D0 p e.dot == false)) :=
 by
 refine sC A9 [.tmp 3] 9 Tryz.func116 ?_
 intro e0 cx
 refine sq<|rG cx [1,2] [2] z0<|sn<|sq<|rG cx [3] [] (fN 2 2 (fT (Bj3 (p) (e.dot)) (tT 4 (C9:(AV.b !D0 p e.dot)=AV.b (decide ¬D0 p e.dot=true)) (oA 3 (.b (D0 p e.dot)) z0))))<|sn<|rT<|qR (.b (decide ¬D0 p e.dot=true)) (.eq ?g0);rotate_left
 case g0=>exact(by cases D0 p e.dot <;> rfl)
theorem B9h(es:List Entry)(p:Past)(hs:es.length*40≤140737488351232):Con Tryz.prog 115 [.sl (es.map c67),.fn (.func 116) [] [.eptr (c26 p)]] (.sl ((es.filter (fun e=>D0 p e.dot == false)).map c67)) :=
 by
 refine lN 0 c67 (es) Tryz.func115 fun hl_0=>sC A9 [.tmp 4] 23 Tryz.func115 ?_
 intro e0 cx
 refine sq<|rG cx [0,1] [] z0<|sn<|sq<|rG cx [0,1,5] [] z0<|sn<|sq<|sq<|rG cx [1,5,8,9,10] [] (tL 1 c67 es z0)<|sn<|bL 0<|G0 5 1005 67 4 (σ':=⟨[(1,.fn (Fn.func (116:FuncId)) [] [.eptr [.sl (List.map c3 p.vec),.sl (List.map B5 p.cloud)]]),(5,.own 1005 0),(8,.sl (List.map c67 es)),(9,.i .i64 ((↑es.length:Int))),(10,.i .i64 ((0:Int)))],[(1005,⟨0,67,.row 4 (List.map c67 [])⟩)]⟩) (by kernel_rfl)<|sL (X:=Int×List Entry) (fun x=>⟨[(1,.fn (Fn.func (116:FuncId)) [] [.eptr [.sl (List.map c3 p.vec),.sl (List.map B5 p.cloud)]]),(5,.own 1005 0),(8,.sl (List.map c67 es)),(9,.i .i64 ((↑es.length:Int))),(10,.i .i64 (x.1))],[(1005,⟨0,67,.row 4 (List.map c67 x.2)⟩)]⟩) (fun x ↦ decP es x.1 x.2) (fun x ↦ Bk1 (fun e ↦ D0 p e.dot == false) es x.1 x.2) [1,5,8,9,10] [1005] (((0:Int),[])) (show Bk1 (fun e ↦ D0 p e.dot == false) es (0:Int) []from(by exact(B42 _ _))) ?_
 rintro⟨i0,l1⟩ h_2
 obtain⟨hh3,hh4,hh5,h6⟩:0≤i0∧i0≤(↑es.length:Int)∧l1=List.filter (fun e ↦ D0 p e.dot == false) (List.take i0.toNat es)∧(↑l1.length:Int)≤i0:=h_2
 refine rE cx [1,5,8,9,10,11] [1005] (zB 0 (i0 <(↑es.length:Int))) (fun h7=>?_) fun h7=>?_
 refine sK<|sn<|sq<|bL 1<|sq<|rG cx [1,5,8,9,10,7] [1005,7] (fA (0≤i0) (fG c67 es i0.toNat (fR 4 (fN 4 4 (oR 0 (c67 es[i0.toNat]!) z0)))))<|sn<|sq<|rG cx [1,5,8,9,10,7,16] [1005,7] (fT (Be6 (es[i0.toNat]!) (p)) (oA 2 (Bt4 (Be6 (es[i0.toNat]!) (p))) z0))<|sn<|X5 (D0 p es[i0.toNat]!.dot == false) (by kernel_rfl) (by kernel_rfl) (fun h8=>?_) (fun h8=>?_)
 refine rG cx [1,5,8,9,10] [1005] (fR 67 (fR 4 (fR 4 (fX c67 [es[i0.toNat]!] 4 (fS c67 l1 c67 [es[i0.toNat]!] (fP (((List.map c67 l1).length+(List.map c67 [es[i0.toNat]!]).length)*(40:Nat)≤(140737488355328:Nat)) (by(simp only [Go.maxLen,List.length_map,List.length_append,List.length_cons,List.length_nil];omega)) (fM c67 l1 [es[i0.toNat]!] (oV 3 { rows:=some (List.map c67 (l1++[es[i0.toNat]!])) } z0))))))))<|bN<|sn<|rG cx [1,5,8,9,10] [1005] (tW 0 (i0+1) z0)<|sn<|nX ((i0+1,l1++[es[i0.toNat]!])) (show((↑es.length:Int)-(i0+1)).toNat <((↑es.length:Int)-i0).toNat from(by omega)) (show Bk1 (fun e ↦ D0 p e.dot == false) es (i0+1) (l1++[es[i0.toNat]!])from(by exact(B86 hh3 hh5 h6 h7 h8)))
 refine sK<|bN<|sn<|rG cx [1,5,8,9,10] [1005] (tW 0 (i0+1) z0)<|sn<|nX ((i0+1,l1)) (show((↑es.length:Int)-(i0+1)).toNat <((↑es.length:Int)-i0).toNat from(by omega)) (show Bk1 (fun e ↦ D0 p e.dot == false) es (i0+1) l1 from(by exact(B43 hh3 hh5 h6 h7 (by simpa using h8))))
 refine eX 0<|nE<|nE<|bH<|sn<|sq<|rG cx [4] [1005] z0<|sn<|rT<|qR (.sl (List.map c67 l1)) (.eq (by exact(by rw[B44 hh5 h7])))
theorem con65(es:List Entry)(p:Past)(hb:p.cloud.length*16≤140737488350000):Con Tryz.prog 65 [.sl (es.map c67),.agg (c26 p)] (.tup [.sl ((O1 es p false).1.map c67),.i .i64 (O1 es p false).2]) :=
 by
 refine lN 0 c67 (es) Tryz.func65 fun hl_0=>sC A9 [.tmp 4,.tmp 5] 17 Tryz.func65 ?_
 intro e0 cx
 refine sq<|rG cx [0,3] [3] z0<|sn<|sq<|sq<|B3 (σ':=⟨[(0,.sl (List.map c67 es)),(3,.ptr (3) (0) (0) (0)),(13,.b (decide (¬D2 es=0∨¬p=A5 p)))],[(3,⟨0,26,.var [.sl (List.map c3 p.vec),.sl (List.map B5 p.cloud)]⟩)]⟩) ?_ ?_
 refine A4 (¬D2 es=0) (fun h_1=>?_) (fun h_1=>?_)
 refine rG cx [0,3,13] [3] (fT (A2j (es)) (tT 2 (D1 h_1:AV.b (D2 es !=0)=AV.b true) (tD 7 true (¬D2 es=0∨¬p=A5 p) (by simp only [eq_false h_1,tsl]) (oA 1 (.i .i64 (D2 es)) z0)))) ?_
 exact⟨rfl,by kernel_rfl⟩
 refine rG cx [0,3,13] [3] (fT (A2j (es)) (tN 2 (D2 es) (0:Int) (tT 3 (A0 h_1) (fT (Ag2 (p) (by(with_reducible assumption))) (tQ 6 (p=A5 p) (tT 7 (by first | (simp only [eq_false h_1,tsl];done) | simp_all:AV.b (decide ¬p=A5 p)=AV.b (decide (¬D2 es=0∨¬p=A5 p))) (oA 1 (.i .i64 (D2 es)) (oA 5 (.b (decide (p=A5 p))) z0)))))))) ?_
 exact⟨rfl,by kernel_rfl⟩
 refine sn<|dC (¬D2 es=0∨¬p=A5 p) (fun h2=>?_) fun h2=>?_
 refine sq<|rG cx [4,5] [] z0<|sn<|rT<|nR<|qR (.tup [.nl,.i .i64 ((1:Int))]) (B9.tup (ZLe.cons (B9.nl' (show List.map c67 (O1 es p false).1=[]from(by exact(by rw[Az1 h2];rfl)))) (ZLe.cons (B9.eq (show AV.i .i64 1=AV.i .i64 (O1 es p false).2 from(by exact(by rw[Az1 h2])))) ZLe.nil)))
 refine sK<|sn<|sq<|rG cx [4,5] [] (fT (B9h (es) (p) (by exact(by have:=A0a (N9 (A6d h2).1);omega))) (oA 2 (.sl (List.map c67 (List.filter (fun e ↦ D0 p e.dot == false) es))) z0)) ?_
 refine sn<|rT<|qR (.tup [.sl (List.map c67 (List.filter (fun e ↦ D0 p e.dot == false) es)),.i .i64 ((0:Int))]) (B9.tup (ZLe.cons (B9.eq (show AV.sl (List.map c67 (List.filter (fun e ↦ D0 p e.dot == false) es))=AV.sl (List.map c67 (O1 es p false).1)from(by exact(by rw[Az2 (A6d h2).1 (A6d h2).2])))) (ZLe.cons (B9.eq (show AV.i .i64 0=AV.i .i64 (O1 es p false).2 from(by exact(by rw[Az2 (A6d h2).1 (A6d h2).2])))) ZLe.nil)))
end Go.Proofs.YtokhjapfekbobaaGreat
namespace Go.Proofs.YtokhjapfekbobaaGreat
open Go.E
set_option maxRecDepth 100000
set_option maxHeartbeats 4000000
theorem B5b(r:Record):(⟨r.sku,r.past⟩:Record)=r:=rfl
end Go.Proofs.YtokhjapfekbobaaGreat
namespace Go.Proofs.YtokhjapfekbobaaGreat
open Go.E
set_option maxRecDepth 100000
set_option maxHeartbeats 4000000
theorem Bp4{a b:List (List AV)}(hl:a.length=b.length)(h:∀(j:Nat) (x y:List AV),a[j]?=some x→b[j]?=some y→ZLe x y):B9 (.sl a) (.sl b):=fun S w v hv=>by
 cases hv with
 | sl _ A cap sz u hc hm hn hsz hA h1 h2 =>
  rw[hl]
  refine .sl b A cap sz u (by omega) (by omega) hn (fun r hr=>?_) (fun k=>?_) h1 (fun j q r x hj hq=>?_)
  ·obtain⟨j,hj,rfl⟩:=List.mem_iff_getElem.1 hr
   have k:j < a.length:=by omega
   rw[←(h j a[j] b[j] (List.getElem?_eq_getElem k) (List.getElem?_eq_getElem hj)).1]
   exact hsz _ (List.getElem_mem k)
  ·obtain⟨ad,e,hs,hc'⟩:=hA (by omega)
   exact⟨ad,e,hs,fun j q hj=>hc' j q (by omega)⟩
  ·have k:j < a.length:=by
    have:=List.getElem?_eq_some_iff.1 hj
    obtain⟨h',_⟩:=this
    omega
   have z:=h j a[j] r (List.getElem?_eq_getElem k) hj
   have kq:q < a[j].length:=by
    have:=List.getElem?_eq_some_iff.1 hq
    obtain⟨h',_⟩:=this
    rw[z.1]
    exact h'
   exact z.2 q _ x (List.getElem?_eq_getElem kq) hq S w _ (h2 j q _ _ (List.getElem?_eq_getElem k) (List.getElem?_eq_getElem kq))
end Go.Proofs.YtokhjapfekbobaaGreat
namespace Go.Proofs.YtokhjapfekbobaaGreat
open Go.E
set_option maxRecDepth 100000
set_option maxHeartbeats 4000000
open Go Go.Lib Go.RowKit Go.Proofs
set_option maxHeartbeats 4000000 in
theorem B5c (n:Nat) (h0:0 < n) (hb:n*40≤140737488351232) (w:World):Calls Tryz.prog 152 #[.slice none 0 0,.int .i64 n] w fun e w' =>
  ∃ cap cells,e=.returned (.slice (some ⟨w.heap.size,0,none⟩) 0 cap)∧w'.heap[w.heap.size]?=some (.cells cells 67 (0,0))∧cells.size=cap*4∧cap≤maxLen∧Below w.heap.size w w':=by
 obtain⟨i,z,hi,hi1,hi2,hz,hzs⟩:∃(i:TypeInfo) (z:Value),Tryz.prog.info? 67=some i∧i.size=4∧i.bytes=40∧i.zero=some z∧z.cells.size=4 :=
  ⟨tiE,tiE.zero.get!,by kernel_rfl,by kernel_rfl,by kernel_rfl,by kernel_rfl,by kernel_rfl⟩
 have happ:=Lib.run_append_nil_zeros (P:=Tryz.prog) w 22 3 22 67 i z .i64 .i64 Tryz.underlying22 Tryz.underlying3 hi hz n h0 (by omega) (by omega) (by rw[hi2];omega)
 generalize hcap:grownCap w n 0 67=cap2 at happ
 have hcapge:n≤cap2:=by rw[← hcap];exact grownCap_ge w _ 0 67
 have hcaple:cap2≤maxLen:=by rw[← hcap];exact grownCap_le_maxLen w _ 0 67 (by unfold maxLen;omega)
 generalize hZ:(Builtin.zeroCells z.cells n++Builtin.zeroCells z.cells (cap2-n))=Z at happ
 have hZs:Z.size=cap2*4:=by rw[← hZ];simp [size_zeroCells,hzs];omega
 clear hcap hZ
 go_enter Tryz.func152,Tryz.ntmps152
 go_wp2_with (at_builtin;refine Lib.wpList_append_run _ rfl _ _ _ _ rfl _ _ rfl rfl _ _ happ ?_)
 go_ret
 exact⟨cap2,Z,rfl,heap_alloc_new w _,hZs,hcaple,⟨rfl,rfl,rfl,by simp,fun k hk=>Below.heap_alloc w _ k hk⟩⟩
set_option maxHeartbeats 4000000 in
theorem B5d (w:World):Calls Tryz.prog 152 #[.slice none 0 0,.int .i64 0] w fun e w'=>e=.returned (.slice none 0 0)∧w'=w:=by
 go_enter Tryz.func152,Tryz.ntmps152
 go_wp2
 go_ret
 exact⟨rfl,rfl⟩
theorem con152(n:Int)(h0:0≤n)(hb:n*40≤140737488351232):A48 Tryz.prog 152 [.nl,.i .i64 n] 67 (.row 4 (([]:List Entry).map c67)):=by
 refine⟨⟨_,Tryz.func152,by kernel_rfl,by kernel_rfl⟩,fun w S0 vs hS hl hv=>?_⟩
 obtain⟨v,u,rfl⟩:∃ v u,vs=[v,u]:=by
  match vs,hl with
  | [v,u],_=>exact⟨v,u,rfl⟩
 have h1:=hv 0 _ v rfl rfl
 have h2:=hv 1 _ u rfl rfl
 cases h1
 cases h2
 by_cases hn:n=0
 ·subst hn
  refine(B5d w).mono ?_
  rintro e w' ⟨rfl,rfl⟩
  exact⟨_,rfl,⟨fun r hr=>by simp at hr,[],World.ownsRow_nil _ _ _ _,fun u hu=>by simp at hu,fun j b u hb=>by simp at hb⟩,Below.refl _ _⟩
 ·obtain⟨m,rfl⟩:∃ m:Nat,n=m:=⟨n.toNat,by omega⟩
  refine(B5c m (by omega) (by omega) w).mono ?_
  rintro e w' ⟨cap,cells,rfl,g1,g2,g3,g4⟩
  exact⟨_,rfl,⟨fun r hr=>by simp at hr,[],⟨by simp,.inr ⟨w.heap.size,cap,cells,rfl,Nat.le_refl _,g1,Nat.zero_le _,g3,g2,by simp⟩⟩,fun u hu=>by simp at hu,fun j b u hb=>by simp at hb⟩,g4⟩
def c22(l:List Entry):List AV:=[.sl (l.map c67)]
section
variable {α : Type}
def B6b(ss:List (List α))(n:Int)(i:Int):Prop:=n=((ss.take i.toNat).flatten.length:Int)
def A6e(ss:List (List α))(i:Int)(l:List α):Prop:=l=(ss.take i.toNat).flatten
def A3y(ss:List (List α))(n i:Int):Prop:=0≤i∧i≤ss.length∧0≤n∧n≤140737488351232∧B6b ss n i
def Be7(ss:List (List α))(n i:Int):Nat:=(ss.length-i).toNat
def A6f(ss:List (List α))(i:Int)(l:List α):Prop:=0≤i∧i≤ss.length∧A6e ss i l
def Be8(ss:List (List α))(i:Int)(l:List α):Nat:=(ss.length-i).toNat
theorem Aq8(ss:List (List α))(i:Nat):(ss.take i).flatten.length≤ss.flatten.length:=by
 have h:(ss.take i).flatten++(ss.drop i).flatten=ss.flatten:=by rw[← List.flatten_append,List.take_append_drop]
 rw[← h,List.length_append]
 omega
theorem A2y{ss:List (List α)}{i:Int}(h0:0≤i)(h:i < ss.length):(ss.take (i+1).toNat).flatten=(ss.take i.toNat).flatten++ss[i.toNat]!:=by
 rw[← E1 h0 h,List.flatten_append]
 simp
theorem Aq9{ss:List (List α)}{n i:Int}(h0:0≤i)(h:i < ss.length)(hs:B6b ss n i):n+ss[i.toNat]!.length≤ss.flatten.length:=by
 have h1:=Aq8 ss (i+1).toNat
 rw[A2y h0 h,List.length_append]at h1
 unfold B6b at hs
 omega
theorem A6g(ss:List (List α)):A3y ss 0 0:=⟨by omega,by omega,by omega,by omega,by simp [B6b]⟩
theorem A6h{ss:List (List α)}{n i:Int}(hb:ss.flatten.length≤140737488351232)(h0:0≤i)(h:i < ss.length)(hn:0≤n)(hs:B6b ss n i):A3y ss (n+ss[i.toNat]!.length) (i+1):=by
 have:=Aq9 h0 h hs
 refine⟨by omega,by omega,by omega,by omega,?_⟩
 unfold B6b at *
 rw[A2y h0 h,List.length_append]
 omega
theorem B5e{ss:List (List α)}{n i:Int}(hs:B6b ss n i):n≤ss.flatten.length:=by
 have:=Aq8 ss i.toNat
 unfold B6b at hs
 omega
theorem Ab2{ss:List (List α)}{i:Int}{l:List α}(h0:0≤i)(h:i < ss.length)(hs:A6e ss i l):l.length+ss[i.toNat]!.length≤ss.flatten.length:=by
 have h1:=Aq8 ss (i+1).toNat
 rw[A2y h0 h,List.length_append]at h1
 unfold A6e at hs
 rw[hs]
 omega
theorem A6i{ss:List (List α)}{i:Int}{l:List α}(h0:0≤i)(h:i < ss.length)(hs:A6e ss i l):A6f ss (i+1) (l++ss[i.toNat]!) :=
 ⟨by omega,by omega,by unfold A6e at *;rw[A2y h0 h,hs]⟩
theorem Ak2{ss:List (List α)}{i:Int}{l:List α}(h:¬ i < ss.length)(hs:A6e ss i l):l=ss.flatten:=by
 unfold A6e at hs
 rw[hs,List.take_of_length_le (by omega)]
end
theorem con108(ss:List (List Entry))(hb:ss.flatten.length*40≤140737488351232):A48 Tryz.prog 108 [.sl (ss.map c22)] 67 (.row 4 (ss.flatten.map c67)) :=
 by
 refine A24 0 (c22) (ss) (by kernel_rfl) Tryz.func108 (by kernel_rfl) fun hl_0=>A8y A9 (by kernel_rfl) (.tmp 2) 36 Tryz.func108 (by kernel_rfl) (by kernel_rfl) ?_
 intro e0 cx
 refine sq<|rG cx [0] [] z0<|sn<|sq<|rG cx [0,3] [] z0<|sn<|sq<|sq<|rG cx [0,3,9,10,11] [] (tL 1 c22 ss z0)<|sn<|bL 0<|sL (X:=Int×Int) (fun x=>⟨[(0,.sl (List.map c22 ss)),(3,.i .i64 (x.1)),(9,.sl (List.map c22 ss)),(10,.i .i64 ((↑ss.length:Int))),(11,.i .i64 (x.2))],[]⟩) (fun x ↦ Be7 ss x.1 x.2) (fun x ↦ A3y ss x.1 x.2) [0,3,9,10,11] [] (((0:Int),(0:Int))) (show A3y ss (0:Int) (0:Int)from(by exact A6g ss)) ?_
 rintro⟨n0,i1⟩ h_2
 obtain⟨hh3,hh4,hh5,hh6,h7⟩:0≤i1∧i1≤(↑ss.length:Int)∧0≤n0∧n0≤140737488351232∧B6b ss n0 i1:=h_2
 refine rE cx [0,3,9,10,11,12] [] (zB 0 (i1 <(↑ss.length:Int))) (fun h8=>?_) fun h8=>?_
 refine sK<|sn<|sq<|bL 1<|sq<|rG cx [0,3,9,10,11,5] [] (fA (0≤i1) (fG c22 ss i1.toNat (fR 1 (oR 0 (c22 ss[i1.toNat]!) z0))))<|sn<|sq<|rG cx [0,3,9,10,11] [] (tL 2 c67 ss[i1.toNat]! (tT 3 (B7 (by omega) (by have:=Aq9 hh3 h8 h7;omega):AV.i .i64 (IntKind.i64.wrap (n0+(↑ss[i1.toNat]!.length:Int)))=AV.i .i64 (n0+(↑ss[i1.toNat]!.length:Int))) z0)) ?_
 refine sn<|sq<|rG cx [0,3,9,10,11,20] [] (tB 1 (n0+(↑ss[i1.toNat]!.length:Int) <(0:Int)) z0)<|sn<|Af3 (n0+(↑ss[i1.toNat]!.length:Int) <(0:Int)) (by kernel_rfl) (by kernel_rfl) (fun h9=>absurd h9 (by omega)) (fun h9=>?_)
 refine sK<|bN<|sn<|rG cx [0,3,9,10,11] [] (tW 0 (i1+1) z0)<|sn<|nX ((n0+(↑ss[i1.toNat]!.length:Int),i1+1)) (show((↑ss.length:Int)-(i1+1)).toNat <((↑ss.length:Int)-i1).toNat from(by omega)) (show A3y ss (n0+(↑ss[i1.toNat]!.length:Int)) (i1+1)from(by exact A6h (by omega) hh3 h8 hh5 h7))
 refine eX 0<|nE<|nE<|bH<|sn<|sq<|rG cx [0,6] [24] (fT (con152 (n0) (by(with_reducible assumption)) (by have:=B5e h7;omega)) (oV 1 { val:=some (.own (67:Nat) (4:Nat)),rows:=some (List.map c67 []) } z0)) ?_
 refine sn<|sq<|sq<|rG cx [6,25,26,27] [24] (tL 1 c22 ss z0)<|sn<|bL 2<|sL (X:=Int×List Entry) (fun x=>⟨[(6,.own 24 0),(25,.sl (List.map c22 ss)),(26,.i .i64 ((↑ss.length:Int))),(27,.i .i64 (x.1))],[(24,⟨0,67,.row 4 (List.map c67 x.2)⟩)]⟩) (fun x ↦ Be8 ss x.1 x.2) (fun x ↦ A6f ss x.1 x.2) [6,25,26,27] [24] (((0:Int),[])) (show A6f ss (0:Int) []from(by exact⟨by omega,by omega,by simp [A6e]⟩)) ?_
 rintro⟨i10,l11⟩ h_12
 obtain⟨h13,h14,h15⟩:0≤i10∧i10≤(↑ss.length:Int)∧A6e ss i10 l11:=h_12
 refine rE cx [6,25,26,27,28] [24] (zB 0 (i10 <(↑ss.length:Int))) (fun h16=>?_) fun h16=>?_
 refine sK<|sn<|sq<|bL 3<|sq<|rG cx [6,25,26,27,8] [24] (fA (0≤i10) (fG c22 ss i10.toNat (fR 1 (oR 0 (c22 ss[i10.toNat]!) z0))))<|sn<|rG cx [6,25,26,27] [24] (fR 67 (fR 4 (fR 4 (fX c67 ss[i10.toNat]! 4 (fP ((List.map c67 l11).length+(List.map c67 ss[i10.toNat]!).length≤maxLen) (by have:=Ab2 h13 h16 h15;simp only [List.length_map,Go.maxLen];omega) (fP (((List.map c67 l11).length+(List.map c67 ss[i10.toNat]!).length)*(40:Nat)≤(140737488355328:Nat)) (by have:=Ab2 h13 h16 h15;simp only [List.length_map];omega) (fM c67 l11 ss[i10.toNat]! (oV 2 { rows:=some (List.map c67 (l11++ss[i10.toNat]!)) } z0)))))))) ?_
 refine bN<|sn<|rG cx [6,25,26,27] [24] (tW 0 (i10+1) z0)<|sn<|nX ((i10+1,l11++ss[i10.toNat]!)) (show((↑ss.length:Int)-(i10+1)).toNat <((↑ss.length:Int)-i10).toNat from(by omega)) (show A6f ss (i10+1) (l11++ss[i10.toNat]!)from(by exact A6i h13 h16 h15))
 refine eX 2<|nE<|nE<|bH<|sn<|sq<|rG cx [2] [24] z0<|sn<|rT<|A3s (rows':=(List.map c67 l11)) .ret (.inr rfl) 2 24 0 (by kernel_rfl) (by kernel_rfl) (by kernel_rfl) (by rw[Ak2 h16 h15])
def H0(a b:List Entry):List Entry×Int:=if okL a=true∧okL b=true then A2v (A6b (a++b))else([],1)
theorem Az3{a b:List Entry}(h:¬ D2 a=0∨¬ D2 b=0):H0 a b=([],1):=by
 unfold H0
 rw[if_neg]
 rintro⟨h1,h2⟩
 exact h.elim (fun k=>Av9 k h1) (fun k=>Av9 k h2)
theorem Ab3{a b:List Entry}(h1:D2 a=0)(h2:D2 b=0):H0 a b=A2v (A6b (a++b)):=by
 unfold H0
 rw[if_pos ⟨N9 h1,N9 h2⟩]
theorem A8e{a b:List Entry}(h1:D2 a=0)(h2:D2 b=0):U4 (a++b)=H0 a b:=by
 rw[Ab3 h1 h2]
 refine A2w fun j hj=>?_
 by_cases h:j < a.length
 ·have:(a++b)[j]! = a[j]!:=by rw[getElem!_pos (a++b) j hj,getElem!_pos a j h,List.getElem_append_left h]
  rw[this]
  exact(A17 (N9 h1) h).1
 ·rw[List.length_append]at hj
  have:(a++b)[j]! = b[j-a.length]!:=by rw[getElem!_pos (a++b) j (by rw[List.length_append];omega),getElem!_pos b (j-a.length) (by omega),List.getElem_append_right (by omega)]
  rw[this]
  exact(A17 (N9 h2) (by omega)).1
theorem Bp5{a b:List Entry}(h1:D2 a=0)(h2:D2 b=0):a.length≤16000000000∧b.length≤16000000000:=⟨A0a (N9 h1),A0a (N9 h2)⟩
theorem Ab4(a b:List Entry):[a,b].flatten=a++b:=by simp
theorem A3k{a b:List Entry}(h:¬(¬ D2 a=0∨¬ D2 b=0)):D2 a=0∧D2 b=0:=⟨Classical.not_not.1 fun k=>h (.inl k),Classical.not_not.1 fun k=>h (.inr k)⟩
theorem B9i{a b:List Entry}(h:¬(¬ D2 a=0∨¬ D2 b=0)):a.length≤16000000000∧b.length≤16000000000:=Bp5 (A3k h).1 (A3k h).2
theorem Ak3{a b:List Entry}(h:¬(¬ D2 a=0∨¬ D2 b=0)):[a,b].flatten.length*40≤140737488351232:=by
 have:=B9i h
 rw[Ab4,List.length_append]
 omega
theorem con58(a b:List Entry):Con Tryz.prog 58 [.sl (a.map c67),.sl (b.map c67)] (.tup [.sl ((H0 a b).1.map c67),.i .i64 (H0 a b).2]) :=
 by
 refine lN 0 c67 (a) Tryz.func58 fun hl_0=>lN 1 c67 (b) Tryz.func58 fun hl_1=>sC A9 [.tmp 4,.tmp 5] 21 Tryz.func58 ?_
 intro e0 cx
 refine sq<|rG cx [0,1] [] z0<|sn<|sq<|sq<|B3 (σ':=⟨[(0,.sl (List.map c67 a)),(1,.sl (List.map c67 b)),(13,.b (decide (¬D2 a=0∨¬D2 b=0)))],[]⟩) ?_ ?_
 refine A4 (¬D2 a=0) (fun h_1=>?_) (fun h_1=>?_)
 refine rG cx [0,1,13] [] (fT (A2j (a)) (tT 2 (D1 h_1:AV.b (D2 a !=0)=AV.b true) (tD 7 true (¬D2 a=0∨¬D2 b=0) (by simp only [eq_false h_1,tsl]) (oA 1 (.i .i64 (D2 a)) z0)))) ?_
 exact⟨rfl,by kernel_rfl⟩
 refine rG cx [0,1,13] [] (fT (A2j (a)) (tN 2 (D2 a) (0:Int) (tT 3 (A0 h_1) (fT (A2j (b)) (tN 6 (D2 b) (0:Int) (tT 7 (by first | (simp only [eq_false h_1,tsl];done) | simp_all:AV.b (decide ¬D2 b=0)=AV.b (decide (¬D2 a=0∨¬D2 b=0))) (oA 1 (.i .i64 (D2 a)) (oA 5 (.i .i64 (D2 b)) z0)))))))) ?_
 exact⟨rfl,by kernel_rfl⟩
 refine sn<|dC (¬D2 a=0∨¬D2 b=0) (fun h2=>?_) fun h2=>?_
 refine sq<|rG cx [4,5] [] z0<|sn<|rT<|nR<|qR (.tup [.nl,.i .i64 ((1:Int))]) (B9.tup (ZLe.cons (B9.nl' (show List.map c67 (H0 a b).1=[]from(by exact(by rw[Az3 h2];rfl)))) (ZLe.cons (B9.eq (show AV.i .i64 1=AV.i .i64 (H0 a b).2 from(by exact(by rw[Az3 h2])))) ZLe.nil)))
 refine sK<|sn<|sq ?_
 have hl_3:=(B56 [a,b].flatten)
 refine rG cx [4,5] [] (fT (con108 ([a,b]) (by exact(Nat.le_trans (Ak3 h2) (by decide)))) (fT (con107 ([a,b].flatten) (by exact(Nat.le_trans (Ak3 h2) (by decide)))) (oV 3 { val:=some (.own (67:Nat) (4:Nat)),rows:=some (List.map c67 [a,b].flatten) } (oA 4 (.tup [.sl (List.map c67 (U4 [a,b].flatten).1),.i .i64 ((U4 [a,b].flatten).2)]) z0)))) ?_
 refine sn<|rT<|qR (.tup [.sl (List.map c67 (U4 [a,b].flatten).1),.i .i64 ((U4 [a,b].flatten).2)]) (B9.tup (ZLe.cons (B9.eq (show AV.sl (List.map c67 (U4 [a,b].flatten).1)=AV.sl (List.map c67 (H0 a b).1)from(by exact(by rw[Ab4,A8e (A3k h2).1 (A3k h2).2])))) (ZLe.cons (B9.eq (show AV.i .i64 (U4 [a,b].flatten).2=AV.i .i64 (H0 a b).2 from(by exact(by rw[Ab4,A8e (A3k h2).1 (A3k h2).2])))) ZLe.nil)))
end Go.Proofs.YtokhjapfekbobaaGreat
namespace Go.Proofs.YtokhjapfekbobaaGreat
open Go.E
set_option maxRecDepth 100000
set_option maxHeartbeats 4000000
open Go Go.Sort Go.RowKit Go.Lib Go.Shelf Go.Proofs
def renSk:Go.Shelf.Ren:=⟨fun
 | 6=>97 | 14=>141 | 15=>126 | 20=>183 | 21=>184 | 22=>185
 | 23=>186 | 24=>187 | 25=>188 | 26=>189 | 27=>190 | 28=>166 | 29=>167
 | 46=>205 | 47=>206 | 48=>207 | 49=>208 | 50=>209 | 57=>217 | n=>n,
 fun | 0=>0 | 3=>3 | 4=>4 | 5=>5 | 9=>9 | 22=>27 | 24=>83 | 25=>96 | 39=>166 | 45=>217 | 46=>218 | 50=>210 | 53=>201 | 55=>203 | 66=>233 | 70=>230 | 76=>244 | 77=>171 | n=>n,
 fun n=>n⟩
theorem laysSk:Go.Proofs.SlLaysF0.n6 Tryz.prog renSk:={
 mixed:=(by kernel_rfl),
 f6:=⟨Tryz.f97.name,by decide,Tryz.func97.trans (congrArg some (by kernel_rfl))⟩,
 f14:=⟨Tryz.f141.name,by decide,Tryz.func141.trans (congrArg some (by kernel_rfl))⟩,
 f15:=Tryz.func126.trans (congrArg some (by kernel_rfl)),
 f20:=⟨Tryz.f183.name,by decide,Tryz.func183.trans (congrArg some (by kernel_rfl))⟩,
 f21:=⟨Tryz.f184.name,by decide,Tryz.func184.trans (congrArg some (by kernel_rfl))⟩,
 f22:=⟨Tryz.f185.name,by decide,Tryz.func185.trans (congrArg some (by kernel_rfl))⟩,
 f23:=⟨Tryz.f186.name,by decide,Tryz.func186.trans (congrArg some (by kernel_rfl))⟩,
 f24:=⟨Tryz.f187.name,by decide,Tryz.func187.trans (congrArg some (by kernel_rfl))⟩,
 f25:=⟨Tryz.f188.name,by decide,Tryz.func188.trans (congrArg some (by kernel_rfl))⟩,
 f26:=⟨Tryz.f189.name,by decide,Tryz.func189.trans (congrArg some (by kernel_rfl))⟩,
 f27:=⟨Tryz.f190.name,by decide,Tryz.func190.trans (congrArg some (by kernel_rfl))⟩,
 f28:=Tryz.func166.trans (congrArg some (by kernel_rfl)),
 f29:=Tryz.func167.trans (congrArg some (by kernel_rfl)),
 f46:=⟨Tryz.f205.name,by decide,Tryz.func205.trans (congrArg some (by kernel_rfl))⟩,
 f47:=Tryz.func206.trans (congrArg some (by kernel_rfl)),
 f48:=Tryz.func207.trans (congrArg some (by kernel_rfl)),
 f49:=⟨Tryz.f208.name,by decide,Tryz.func208.trans (congrArg some (by kernel_rfl))⟩,
 f50:=⟨Tryz.f209.name,by decide,Tryz.func209.trans (congrArg some (by kernel_rfl))⟩,
 f57:=⟨Tryz.f217.name,by decide,Tryz.func217.trans (congrArg some (by kernel_rfl))⟩,
 t0:=Tryz.underlying0,a0:=Tryz.isAgg0,z0:=Tryz.sizeOf0,v0:=Tryz.zeroValue0,
 t3:=Tryz.underlying3,a3:=Tryz.isAgg3,z3:=Tryz.sizeOf3,v3:=Tryz.zeroValue3,
 t4:=Tryz.underlying4,a4:=Tryz.isAgg4,z4:=Tryz.sizeOf4,v4:=Tryz.zeroValue4,
 t5:=Tryz.underlying5,a5:=Tryz.isAgg5,z5:=Tryz.sizeOf5,v5:=Tryz.zeroValue5,
 t9:=Tryz.underlying9,a9:=Tryz.isAgg9,z9:=Tryz.sizeOf9,v9:=Tryz.zeroValue9,
 t22:=Tryz.underlying27,a22:=Tryz.isAgg27,z22:=Tryz.sizeOf27,v22:=Tryz.zeroValue27,
 t25:=Tryz.underlying96,a25:=Tryz.isAgg96,z25:=Tryz.sizeOf96,v25:=Tryz.zeroValue96,
 t39:=Tryz.underlying166,a39:=Tryz.isAgg166,z39:=Tryz.sizeOf166,v39:=Tryz.zeroValue166,
 t45:=Tryz.underlying217,a45:=Tryz.isAgg217,z45:=Tryz.sizeOf217,v45:=Tryz.zeroValue217,
 t46:=Tryz.underlying218,a46:=Tryz.isAgg218,z46:=Tryz.sizeOf218,v46:=Tryz.zeroValue218,
 t50:=Tryz.underlying210,a50:=Tryz.isAgg210,z50:=Tryz.sizeOf210,v50:=Tryz.zeroValue210,
 t53:=Tryz.underlying201,a53:=Tryz.isAgg201,z53:=Tryz.sizeOf201,v53:=Tryz.zeroValue201,
 t55:=Tryz.underlying203,a55:=Tryz.isAgg203,z55:=Tryz.sizeOf203,v55:=Tryz.zeroValue203,
 t66:=Tryz.underlying233,a66:=Tryz.isAgg233,z66:=Tryz.sizeOf233,v66:=Tryz.zeroValue233,
 t70:=Tryz.underlying230,a70:=Tryz.isAgg230,z70:=Tryz.sizeOf230,v70:=Tryz.zeroValue230,
 t76:=Tryz.underlying244,a76:=Tryz.isAgg244,z76:=Tryz.sizeOf244,v76:=Tryz.zeroValue244,
 t77:=Tryz.underlying171,a77:=Tryz.isAgg171,z77:=Tryz.sizeOf171,v77:=Tryz.zeroValue171 }
theorem io97(l:List Record)(hn:P0 l)(hlen:l.length < 4611686018427387904) :
  Z5 Tryz.prog 97 54 none false 83 3 (l.map c83) ((A7c l).map c83):=by
 have h:=B1a (P:=Tryz.prog) (ρ:=renSk) (β:=Bu0) (enc:=Bo4) (k:=3) laysSk ⟨_,Tryz.func97,by kernel_rfl,by kernel_rfl⟩ 54 83
  (fun args w=>N5 ⟨_,Tryz.func54,by kernel_rfl,by kernel_rfl⟩ w) (fun _=>by kernel_rfl) (fun _=>by kernel_rfl) (fun _=>rfl) Be3 totRB
  (fun x y=>B85 x.1 y.1 (by have:=Y6 x.2;unfold szR;omega) (by have:=Y6 y.2;unfold szR;omega)) (l.map B1t) (by simpa using hlen)
 have e1:(l.map B1t).map Bo4=l.map c83:=by
  conv=>rhs;rw[← Ay3 hn,List.map_map]
  rfl
 have e2:(B96 Be3 (l.map B1t)).map Bo4=(A7c l).map c83:=by
  unfold A7c srtB
  rw[List.map_map]
  rfl
 rw[e1,e2]at h
 exact h
noncomputable def tiRc:TypeInfo:=(Tryz.prog.info? 83).get!
set_option maxHeartbeats 4000000 in
theorem B1g (n:Nat) (h0:0 < n) (hb:n*64≤140737488351232) (w:World):Calls Tryz.prog 153 #[.slice none 0 0,.int .i64 n] w fun e w' =>
  ∃ cap cells,e=.returned (.slice (some ⟨w.heap.size,0,none⟩) 0 cap)∧w'.heap[w.heap.size]?=some (.cells cells 83 (0,0))∧cells.size=cap*3∧cap≤maxLen∧Below w.heap.size w w':=by
 obtain⟨i,z,hi,hi1,hi2,hz,hzs⟩:∃(i:TypeInfo) (z:Value),Tryz.prog.info? 83=some i∧i.size=3∧i.bytes=64∧i.zero=some z∧z.cells.size=3 :=
  ⟨tiRc,tiRc.zero.get!,by kernel_rfl,by kernel_rfl,by kernel_rfl,by kernel_rfl,by kernel_rfl⟩
 have happ:=Lib.run_append_nil_zeros (P:=Tryz.prog) w 27 3 27 83 i z .i64 .i64 Tryz.underlying27 Tryz.underlying3 hi hz n h0 (by omega) (by omega) (by rw[hi2];omega)
 generalize hcap:grownCap w n 0 83=cap2 at happ
 have hcapge:n≤cap2:=by rw[← hcap];exact grownCap_ge w _ 0 83
 have hcaple:cap2≤maxLen:=by rw[← hcap];exact grownCap_le_maxLen w _ 0 83 (by unfold maxLen;omega)
 generalize hZ:(Builtin.zeroCells z.cells n++Builtin.zeroCells z.cells (cap2-n))=Z at happ
 have hZs:Z.size=cap2*3:=by rw[← hZ];simp [size_zeroCells,hzs];omega
 clear hcap hZ
 go_enter Tryz.func153,Tryz.ntmps153
 go_wp2_with (at_builtin;refine Lib.wpList_append_run _ rfl _ _ _ _ rfl _ _ rfl rfl _ _ happ ?_)
 go_ret
 exact⟨cap2,Z,rfl,heap_alloc_new w _,hZs,hcaple,⟨rfl,rfl,rfl,by simp,fun k hk=>Below.heap_alloc w _ k hk⟩⟩
set_option maxHeartbeats 4000000 in
theorem B1h (w:World):Calls Tryz.prog 153 #[.slice none 0 0,.int .i64 0] w fun e w'=>e=.returned (.slice none 0 0)∧w'=w:=by
 go_enter Tryz.func153,Tryz.ntmps153
 go_wp2
 go_ret
 exact⟨rfl,rfl⟩
theorem con153(n:Int)(h0:0≤n)(hb:n*64≤140737488351232):A48 Tryz.prog 153 [.nl,.i .i64 n] 83 (.row 3 (([]:List Record).map c83)):=by
 refine⟨⟨_,Tryz.func153,by kernel_rfl,by kernel_rfl⟩,fun w S0 vs hS hl hv=>?_⟩
 obtain⟨v,u,rfl⟩:∃ v u,vs=[v,u]:=by
  match vs,hl with
  | [v,u],_=>exact⟨v,u,rfl⟩
 have h1:=hv 0 _ v rfl rfl
 have h2:=hv 1 _ u rfl rfl
 cases h1
 cases h2
 by_cases hn:n=0
 ·subst hn
  refine(B1h w).mono ?_
  rintro e w' ⟨rfl,rfl⟩
  exact⟨_,rfl,⟨fun r hr=>by simp at hr,[],World.ownsRow_nil _ _ _ _,fun u hu=>by simp at hu,fun j b u hb=>by simp at hb⟩,Below.refl _ _⟩
 ·obtain⟨m,rfl⟩:∃ m:Nat,n=m:=⟨n.toNat,by omega⟩
  refine(B1g m (by omega) (by omega) w).mono ?_
  rintro e w' ⟨cap,cells,rfl,g1,g2,g3,g4⟩
  exact⟨_,rfl,⟨fun r hr=>by simp at hr,[],⟨by simp,.inr ⟨w.heap.size,cap,cells,rfl,Nat.le_refl _,g1,Nat.zero_le _,g3,g2,by simp⟩⟩,fun u hu=>by simp at hu,fun j b u hb=>by simp at hb⟩,g4⟩
def c27(l:List Record):List AV:=[.sl (l.map c83)]
theorem con109(ss:List (List Record))(hb:ss.flatten.length*64≤140737488351232):A48 Tryz.prog 109 [.sl (ss.map c27)] 83 (.row 3 (ss.flatten.map c83)) :=
 by
 refine A24 0 (c27) (ss) (by kernel_rfl) Tryz.func109 (by kernel_rfl) fun hl_0=>A8y A9 (by kernel_rfl) (.tmp 2) 36 Tryz.func109 (by kernel_rfl) (by kernel_rfl) ?_
 intro e0 cx
 refine sq<|rG cx [0] [] z0<|sn<|sq<|rG cx [0,3] [] z0<|sn<|sq<|sq<|rG cx [0,3,9,10,11] [] (tL 1 c27 ss z0)<|sn<|bL 0<|sL (X:=Int×Int) (fun x=>⟨[(0,.sl (List.map c27 ss)),(3,.i .i64 (x.1)),(9,.sl (List.map c27 ss)),(10,.i .i64 ((↑ss.length:Int))),(11,.i .i64 (x.2))],[]⟩) (fun x ↦ Be7 ss x.1 x.2) (fun x ↦ A3y ss x.1 x.2) [0,3,9,10,11] [] (((0:Int),(0:Int))) (show A3y ss (0:Int) (0:Int)from(by exact A6g ss)) ?_
 rintro⟨n0,i1⟩ h_2
 obtain⟨hh3,hh4,hh5,hh6,h7⟩:0≤i1∧i1≤(↑ss.length:Int)∧0≤n0∧n0≤140737488351232∧B6b ss n0 i1:=h_2
 refine rE cx [0,3,9,10,11,12] [] (zB 0 (i1 <(↑ss.length:Int))) (fun h8=>?_) fun h8=>?_
 refine sK<|sn<|sq<|bL 1<|sq<|rG cx [0,3,9,10,11,5] [] (fA (0≤i1) (fG c27 ss i1.toNat (fR 1 (oR 0 (c27 ss[i1.toNat]!) z0))))<|sn<|sq<|rG cx [0,3,9,10,11] [] (tL 2 c83 ss[i1.toNat]! (tT 3 (B7 (by omega) (by have:=Aq9 hh3 h8 h7;omega):AV.i .i64 (IntKind.i64.wrap (n0+(↑ss[i1.toNat]!.length:Int)))=AV.i .i64 (n0+(↑ss[i1.toNat]!.length:Int))) z0)) ?_
 refine sn<|sq<|rG cx [0,3,9,10,11,20] [] (tB 1 (n0+(↑ss[i1.toNat]!.length:Int) <(0:Int)) z0)<|sn<|Af3 (n0+(↑ss[i1.toNat]!.length:Int) <(0:Int)) (by kernel_rfl) (by kernel_rfl) (fun h9=>absurd h9 (by omega)) (fun h9=>?_)
 refine sK<|bN<|sn<|rG cx [0,3,9,10,11] [] (tW 0 (i1+1) z0)<|sn<|nX ((n0+(↑ss[i1.toNat]!.length:Int),i1+1)) (show((↑ss.length:Int)-(i1+1)).toNat <((↑ss.length:Int)-i1).toNat from(by omega)) (show A3y ss (n0+(↑ss[i1.toNat]!.length:Int)) (i1+1)from(by exact A6h (by omega) hh3 h8 hh5 h7))
 refine eX 0<|nE<|nE<|bH<|sn<|sq<|rG cx [0,6] [24] (fT (con153 (n0) (by(with_reducible assumption)) (by have:=B5e h7;omega)) (oV 1 { val:=some (.own (83:Nat) (3:Nat)),rows:=some (List.map c83 []) } z0)) ?_
 refine sn<|sq<|sq<|rG cx [6,25,26,27] [24] (tL 1 c27 ss z0)<|sn<|bL 2<|sL (X:=Int×List Record) (fun x=>⟨[(6,.own 24 0),(25,.sl (List.map c27 ss)),(26,.i .i64 ((↑ss.length:Int))),(27,.i .i64 (x.1))],[(24,⟨0,83,.row 3 (List.map c83 x.2)⟩)]⟩) (fun x ↦ Be8 ss x.1 x.2) (fun x ↦ A6f ss x.1 x.2) [6,25,26,27] [24] (((0:Int),[])) (show A6f ss (0:Int) []from(by exact⟨by omega,by omega,by simp [A6e]⟩)) ?_
 rintro⟨i10,l11⟩ h_12
 obtain⟨h13,h14,h15⟩:0≤i10∧i10≤(↑ss.length:Int)∧A6e ss i10 l11:=h_12
 refine rE cx [6,25,26,27,28] [24] (zB 0 (i10 <(↑ss.length:Int))) (fun h16=>?_) fun h16=>?_
 refine sK<|sn<|sq<|bL 3<|sq<|rG cx [6,25,26,27,8] [24] (fA (0≤i10) (fG c27 ss i10.toNat (fR 1 (oR 0 (c27 ss[i10.toNat]!) z0))))<|sn<|rG cx [6,25,26,27] [24] (fR 83 (fR 3 (fR 3 (fX c83 ss[i10.toNat]! 3 (fP ((List.map c83 l11).length+(List.map c83 ss[i10.toNat]!).length≤maxLen) (by have:=Ab2 h13 h16 h15;simp only [List.length_map,Go.maxLen];omega) (fP (((List.map c83 l11).length+(List.map c83 ss[i10.toNat]!).length)*(64:Nat)≤(140737488355328:Nat)) (by have:=Ab2 h13 h16 h15;simp only [List.length_map];omega) (fM c83 l11 ss[i10.toNat]! (oV 2 { rows:=some (List.map c83 (l11++ss[i10.toNat]!)) } z0)))))))) ?_
 refine bN<|sn<|rG cx [6,25,26,27] [24] (tW 0 (i10+1) z0)<|sn<|nX ((i10+1,l11++ss[i10.toNat]!)) (show((↑ss.length:Int)-(i10+1)).toNat <((↑ss.length:Int)-i10).toNat from(by omega)) (show A6f ss (i10+1) (l11++ss[i10.toNat]!)from(by exact A6i h13 h16 h15))
 refine eX 2<|nE<|nE<|bH<|sn<|sq<|rG cx [2] [24] z0<|sn<|rT<|A3s (rows':=(List.map c83 l11)) .ret (.inr rfl) 2 24 0 (by kernel_rfl) (by kernel_rfl) (by kernel_rfl) (by rw[Ak2 h16 h15])
theorem con99(a b:Record)(ha:szR a)(hb:szR b):Con Tryz.prog 99 [.agg (c83 a),.agg (c83 b)] (.b (eqR a b)) :=
 by
 refine sC A9 [.tmp 4] 9 Tryz.func99 ?_
 intro e0 cx
 refine sq<|rG cx [2,3] [2,3] z0<|sn<|sq<|rG cx [4] [] (fT (B85 (a) (b) (by(with_reducible assumption)) (by(with_reducible assumption))) (tB 3 (D6 a b=0) (oA 2 (.i .i64 (D6 a b)) z0)))<|sn<|rT<|qR (.b (decide (D6 a b=0))) (.eq ?g0);rotate_left
 case g0=>exact rfl
def B9j(l:List Record)(q k:Int)(m:List Record):Prop:=m=I1 (l.take q.toNat)++l.drop k.toNat∧k=((I1 (l.take q.toNat)).length:Int)
def Bp6(l:List Record)(k:Int)(m:List Record):Prop:=m=l∧1≤k∧k≤l.length∧∀ j:Nat,1≤j→(j:Int) < k→eqR l[j]! l[j-1]! = false
def decC1(l:List Record)(k:Int)(m:List Record):Nat:=(l.length-k).toNat
def B9k(l:List Record)(k0:Int)(k k2:Int)(m:List Record):Prop:=1≤k2∧k0+k2≤l.length∧k0≤k∧k≤k0+k2-1∧m.length=l.length∧B9j l (k0+k2) k m
def decC2(l:List Record)(k0:Int)(k k2:Int)(m:List Record):Nat:=(l.length-k0-k2).toNat
theorem Ak4{out:List Record}{b:Go.E.Blk}{n m:Nat}(hb:b.k=.row m (out.map c83))(h:n < out.length):Go.E.rowAt b n (c83 out[n]!):=by
 unfold Go.E.rowAt
 rw[hb]
 exact F7 h
theorem A6j{l m:List Record}{q k:Int}(h:B9j l q k m){j:Nat}(h1:k≤j)(h2:j < l.length):m[j]! = l[j]!:=by
 obtain⟨e,hk⟩:=h
 have hlen:m.length=(I1 (l.take q.toNat)).length+(l.length-k.toNat):=by rw[e,List.length_append,List.length_drop]
 rw[getElem!_pos m j (by omega),getElem!_pos l j h2]
 simp only [e]
 rw[List.getElem_append_right (by omega),List.getElem_drop]
 congr 1
 omega
theorem Bp7{l m:List Record}{q k:Int}(h1:1≤q)(hq:q < l.length)(hk:k < l.length)(he:eqR l[q.toNat]! l[q.toNat-1]! = false)(h:B9j l q k m):B9j l (q+1) (k+1) (m.set k.toNat l[q.toNat]!):=by
 obtain⟨e,hl⟩:=h
 have hs:I1 (l.take (q+1).toNat)=I1 (l.take q.toNat)++[l[q.toNat]!]:=by
  unfold I1
  rw[show(q+1).toNat=q.toNat+1 by omega,A0t eqR (by omega) (by omega),he]
  rfl
 refine⟨?_,by rw[hs,List.length_append,List.length_singleton];omega⟩
 rw[hs,e,List.set_append_right _ _ (by omega),show k.toNat-(I1 (l.take q.toNat)).length=0 by omega,List.drop_eq_getElem_cons (show k.toNat < l.length by omega),show(k+1).toNat=k.toNat+1 by omega,List.append_assoc]
 rfl
theorem Bp8{l m:List Record}{q k:Int}(h1:1≤q)(hq:q < l.length)(he:eqR l[q.toNat]! l[q.toNat-1]! = true)(h:B9j l q k m):B9j l (q+1) k m:=by
 obtain⟨e,hl⟩:=h
 have hs:I1 (l.take (q+1).toNat)=I1 (l.take q.toNat):=by
  unfold I1
  rw[show(q+1).toNat=q.toNat+1 by omega,A0t eqR (by omega) (by omega),he]
  simp
 exact⟨by rw[hs];exact e,by rw[hs];exact hl⟩
theorem B9l{l:List Record}{k:Int}(h1:1≤k)(hk:k < l.length)(h:∀ j:Nat,1≤j→(j:Int) < k→eqR l[j]! l[j-1]! = false)(he:eqR l[k.toNat]! l[(k-1).toNat]! = true):B9j l (k+1) k l:=by
 have hs:I1 (l.take (k+1).toNat)=l.take k.toNat:=by
  unfold I1
  rw[show(k+1).toNat=k.toNat+1 by omega,A0t eqR (by omega) (by omega),← show(k-1).toNat=k.toNat-1 by omega,he,A3i eqR l k.toNat (by omega) (fun j h1 h2=>h j h1 (by omega))]
  simp
 refine⟨by rw[hs,List.take_append_drop],by rw[hs,List.length_take];omega⟩
theorem cm_end{l m:List Record}{q k:Int}(hq:q=l.length)(h:B9j l q k m):m.take k.toNat=I1 l:=by
 obtain⟨e,hl⟩:=h
 rw[List.take_of_length_le (by omega)]at e hl
 rw[e,List.take_append_of_le_length (by omega),List.take_of_length_le (by omega)]
theorem cm_all{l:List Record}{k:Int}(hk:¬ k < l.length)(h:∀ j:Nat,1≤j→(j:Int) < k→eqR l[j]! l[j-1]! = false):l=I1 l:=by
 have:=A3i eqR l l.length (Nat.le_refl _) (fun j h1 h2=>h j h1 (by omega))
 rw[List.take_length]at this
 exact this.symm
theorem B9m{l:List Record}(h:(l.length:Int) < 2):l=I1 l:=by
 match l,h with
 | [],_=>rfl
 | [a],_=>rfl
 | a :: b :: l,h=>simp only [List.length_cons]at h;omega
theorem A3l{α:Type}(c:α→List AV){m m':List α}{k:Int}(h0:0≤k)(h1:k≤m.length)(h:m'.length=m.length):((List.take ((none:Option Int).getD ((List.map c m).length:Int)-k).toNat (List.drop k.toNat (List.map c m'))).length:Int)=m.length-k:=by
 simp only [List.length_take,List.length_drop,List.length_map,Option.getD_none]
 omega
theorem cm_no(c:Record→List AV)(m:List Record):(none:Option Int).getD ((List.map c m).length:Int)=m.length:=by simp
theorem cm_cut{m X Y:List Record}{k:Nat}(h:k≤m.length):List.take k (List.take k m++X++Y)=m.take k:=by
 rw[List.append_assoc,List.take_append_of_le_length (by rw[List.length_take];omega),List.take_take,Nat.min_self]
theorem con98(l:List Record)(hs:B0t l)(hl:l.length≤1000000000000000):Bs9 Tryz.prog 98 83 3 (l.map c83) [.fn (.func 99) [] []] ((I1 l).map c83) :=
 by
 have nn:=fun m:List Record=>cm_no c83 m
 refine B2m A9 (by kernel_rfl) (.tmp 4) 66 Tryz.func98 (by kernel_rfl) (by kernel_rfl) (by(with_reducible refine O4 (fun _=>?_) _);kernel_rfl) (by(with_reducible refine O4 (fun _=>?_) _);kernel_rfl) ?_
 intro e0 cx
 refine sq<|rG cx [0,1] [0] z0<|sn<|sq<|rD cx [0,1,10] [0] (tL 1 c83 l (zB 2 ((↑l.length:Int) <(2:Int)))) (fun hh0=>?_) fun hh0=>?_
 refine sq<|rG cx [4] [0] z0<|sn<|rT<|nR<|A3s (rows':=(List.map c83 l)) .ret (.inr rfl) 4 0 0 (by kernel_rfl) (by kernel_rfl) (by kernel_rfl) (by rw[← B9m hh0])
 refine sK<|sn<|sq<|sq<|rG cx [0,1,5] [0] z0<|sn<|bL 0<|sL (X:=Int×List Record) (fun x=>⟨[(0,.own 0 0),(1,.fn (Fn.func (99:FuncId)) [] []),(5,.i .i64 (x.1))],[(0,⟨0,83,.row 3 (List.map c83 x.2)⟩)]⟩) (fun x ↦ decC1 l x.1 x.2) (fun x ↦ Bp6 l x.1 x.2) [0,1,5] [0] (((1:Int),l)) (show Bp6 l (1:Int) l from(by exact⟨rfl,by omega,by omega,fun j h1 h2=>by omega⟩)) ?_
 rintro⟨k1,m2⟩ h_3
 obtain⟨hh4,hh5,h6,h7⟩:m2=l∧1≤k1∧k1≤(↑l.length:Int)∧∀(j:Nat),(1:Nat)≤j→(↑j:Int) < k1→eqR l[j]! l[j-(1:Nat)]! = false:=h_3
 refine sq<|rD cx [0,1,5,15] [0] (tL 2 c83 m2 (zB 3 (k1 <(↑m2.length:Int)))) (fun h8=>?_) fun h8=>?_
 refine sK<|sn<|sq<|bL 1<|sq<|rA cx [0,1,5,28] [0] (fO (0≤k1) (fP (k1.toNat <(List.map c83 m2).length) (by(first | omega | (simp only [List.length_map];omega))) (fR 3 (fP (E.rowAt { ver:=0,ty:=83,k:=BK.row (3) (List.map c83 m2):Blk } k1.toNat (c83 m2[k1.toNat]!)) (by subst hh4;exact Ak4 rfl (by omega)) (fP (0+(3:Nat)≤(c83 m2[k1.toNat]!).length) (by exact Nat.le_refl 3) (tW 7 (k1-1) (fO (0≤k1-1) (fP ((k1-1).toNat <(List.map c83 m2).length) (by(first | omega | (simp only [List.length_map];omega))) (fR 3 (fP (E.rowAt { ver:=0,ty:=83,k:=BK.row (3) (List.map c83 m2):Blk } (k1-1).toNat (c83 m2[(k1-1).toNat]!)) (by subst hh4;exact Ak4 rfl (by omega)) (fP (0+(3:Nat)≤(c83 m2[(k1-1).toNat]!).length) (by exact Nat.le_refl 3) (fT (con99 (m2[k1.toNat]!) (m2[(k1-1).toNat]!) (by subst hh4;exact hs _ (E2 (by omega))) (by subst hh4;exact hs _ (E2 (by omega)))) (oR 4 (c83 m2[k1.toNat]!) (oR 9 (c83 m2[(k1-1).toNat]!) (oA 10 (.b (eqR m2[k1.toNat]! m2[(k1-1).toNat]!)) z0))))))))))))))) ?_
 refine sn<|X5 (eqR m2[k1.toNat]! m2[(k1-1).toNat]!) (by kernel_rfl) (by kernel_rfl) (fun h9=>?_) (fun h9=>?_)
 refine sq<|rG cx [0,1,5,6] [0] (fO (0≤k1) (fP (k1≤none.getD (↑(List.map c83 m2).length:Int)) (by rw[nn];omega) (fP (none.getD (↑(List.map c83 m2).length:Int)≤(↑(List.map c83 m2).length:Int)) (by rw[nn,List.length_map];exact Int.le_refl _) (fP (k1 <(↑(List.map c83 m2).length:Int)) (by(first | omega | (simp only [List.length_map];omega))) (fR (some (3)) z0))))) ?_
 refine sn<|sq<|sq<|rG cx [0,1,5,6,7] [0] z0<|sn<|bL 2<|sL (X:=Int×Int×List Record) (fun x=>⟨[(0,.own 0 0),(1,.fn (Fn.func (99:FuncId)) [] []),(5,.i .i64 (x.1)),(6,.vw (0) (0) (k1.toNat) ((none.getD (↑(List.map c83 m2).length:Int)-k1).toNat)),(7,.i .i64 (x.2.1))],[(0,⟨0,83,.row 3 (List.map c83 x.2.2)⟩)]⟩) (fun x ↦ decC2 l k1 x.1 x.2.1 x.2.2) (fun x ↦ B9k l k1 x.1 x.2.1 x.2.2) [0,1,5,6,7] [0] ((k1,(1:Int),m2)) (show B9k l k1 k1 (1:Int) m2 from(by subst hh4;exact⟨by omega,by omega,by omega,by omega,rfl,B9l hh5 h8 h7 h9⟩)) ?_
 rintro⟨k10,k11,m12⟩ h_13
 obtain⟨h14,h15,h16,h17,h18,h19⟩:1≤k11∧k1+k11≤(↑l.length:Int)∧k1≤k10∧k10≤k1+k11-1∧m12.length=l.length∧B9j l (k1+k11) k10 m12:=h_13
 refine sq<|rD cx [0,1,5,6,7,35] [0] (zB 3 (k11 <(↑(List.take (none.getD (↑(List.map c83 m2).length:Int)-k1).toNat (List.drop k1.toNat (List.map c83 m12))).length:Int))) (fun h20=>?_) fun h20=>?_
 refine sK<|sn<|sq<|bL 3<|sq<|rA cx [0,1,5,6,7,49] [0] (fO (0≤k11) (fP (k11.toNat <(none.getD (↑(List.map c83 m2).length:Int)-k1).toNat) (by subst hh4;rw[A3l _ (by omega) h6 h18]at h20;rw[nn];omega) (fR 3 (fP (E.rowAt { ver:=0,ty:=83,k:=BK.row (3) (List.map c83 m12):Blk } (k1.toNat+k11.toNat) (c83 m12[k1.toNat+k11.toNat]!)) (by subst hh4;rw[A3l _ (by omega) h6 h18]at h20;exact Ak4 rfl (by omega)) (fP (0+(3:Nat)≤(c83 m12[k1.toNat+k11.toNat]!).length) (by exact Nat.le_refl 3) (tW 7 (k11-1) (fO (0≤k11-1) (fP ((k11-1).toNat <(none.getD (↑(List.map c83 m2).length:Int)-k1).toNat) (by subst hh4;rw[A3l _ (by omega) h6 h18]at h20;rw[nn];omega) (fR 3 (fP (E.rowAt { ver:=0,ty:=83,k:=BK.row (3) (List.map c83 m12):Blk } (k1.toNat+(k11-1).toNat) (c83 m12[k1.toNat+(k11-1).toNat]!)) (by subst hh4;rw[A3l _ (by omega) h6 h18]at h20;exact Ak4 rfl (by omega)) (fP (0+(3:Nat)≤(c83 m12[k1.toNat+(k11-1).toNat]!).length) (by exact Nat.le_refl 3) (fT (con99 (m12[k1.toNat+k11.toNat]!) (m12[k1.toNat+(k11-1).toNat]!) (by subst hh4;rw[A3l _ (by omega) h6 h18]at h20;rw[A6j h19 (by omega) (by omega)];exact hs _ (E2 (by omega))) (by subst hh4;rw[A3l _ (by omega) h6 h18]at h20;rw[A6j h19 (by omega) (by omega)];exact hs _ (E2 (by omega)))) (tT 11 (C9:(AV.b !eqR m12[k1.toNat+k11.toNat]! m12[k1.toNat+(k11-1).toNat]!)=AV.b (decide ¬eqR m12[k1.toNat+k11.toNat]! m12[k1.toNat+(k11-1).toNat]! = true)) (oR 4 (c83 m12[k1.toNat+k11.toNat]!) (oR 9 (c83 m12[k1.toNat+(k11-1).toNat]!) (oA 10 (.b (eqR m12[k1.toNat+k11.toNat]! m12[k1.toNat+(k11-1).toNat]!)) z0)))))))))))))))) ?_
 refine sn<|dC (¬eqR m12[k1.toNat+k11.toNat]! m12[k1.toNat+(k11-1).toNat]! = true) (fun h21=>?_) fun h21=>?_
 refine sq<|rG cx [0,1,5,6,7] [0] (fO (0≤k11) (fP (k11.toNat <(none.getD (↑(List.map c83 m2).length:Int)-k1).toNat) (by subst hh4;rw[A3l _ (by omega) h6 h18]at h20;rw[nn];omega) (fR 3 (fP (E.rowAt { ver:=0,ty:=83,k:=BK.row (3) (List.map c83 m12):Blk } (k1.toNat+k11.toNat) (c83 m12[k1.toNat+k11.toNat]!)) (by subst hh4;rw[A3l _ (by omega) h6 h18]at h20;exact Ak4 rfl (by omega)) (fP (0+(3:Nat)≤(c83 m12[k1.toNat+k11.toNat]!).length) (by exact Nat.le_refl 3) (fO (0≤k10) (fP (k10.toNat <(List.map c83 m12).length) (by(first | omega | (simp only [List.length_map];omega))) (fR 3 (fG c83 m12 k10.toNat (fR 3 (fP (0+(3:Nat)≤3) (by(first | omega | (simp only [List.length_map];omega))) (fP ((List.map c83 m12).set k10.toNat (List.take (0) (c83 m12[k10.toNat]!)++E0 (AV.agg [AV.s m12[k1.toNat+k11.toNat]!.sku,AV.sl (List.map c3 m12[k1.toNat+k11.toNat]!.past.vec),AV.sl (List.map B5 m12[k1.toNat+k11.toNat]!.past.cloud)])++List.drop (0+(3:Nat)) (c83 m12[k10.toNat]!))=List.map c83 (m12.set k10.toNat m12[k1.toNat+k11.toNat]!)) (by(with_reducible refine A3d ?_;kernel_rfl)) (oR 5 (c83 m12[k1.toNat+k11.toNat]!) (oV 7 { row:=(c83 m12[k10.toNat]!),rows:=some (List.map c83 (m12.set k10.toNat m12[k1.toNat+k11.toNat]!)) } z0)))))))))))))) ?_
 refine sn<|rG cx [0,1,5,6,7] [0] (tW 1 (k10+1) z0)<|bN<|sn<|rG cx [0,1,5,6,7] [0] (tW 1 (k11+1) z0)<|sn<|nX ((k10+1,k11+1,m12.set k10.toNat m12[k1.toNat+k11.toNat]!)) (show((↑l.length:Int)-k1-(k11+1)).toNat <((↑l.length:Int)-k1-k11).toNat from(by subst hh4;rw[A3l _ (by omega) h6 h18]at h20;omega)) (show B9k l k1 (k10+1) (k11+1) (m12.set k10.toNat m12[k1.toNat+k11.toNat]!)from ?g23);rotate_left
 refine sK<|bN<|sn<|rG cx [0,1,5,6,7] [0] (tW 1 (k11+1) z0)<|sn<|nX ((k10,k11+1,m12)) (show((↑l.length:Int)-k1-(k11+1)).toNat <((↑l.length:Int)-k1-k11).toNat from(by subst hh4;rw[A3l _ (by omega) h6 h18]at h20;omega)) (show B9k l k1 k10 (k11+1) m12 from ?g25);rotate_left
 refine eX 2<|nE<|nE<|bH<|sn<|sq<|rG cx [0,5] [0] (fO (0≤k10) (fP (k10≤none.getD (↑(List.map c83 m12).length:Int)) (by rw[nn];omega) (fP (none.getD (↑(List.map c83 m12).length:Int)≤(↑(List.map c83 m12).length:Int)) (by rw[nn,List.length_map];exact Int.le_refl _) (fP (k10 <(↑(List.map c83 m12).length:Int)) (by(first | omega | (simp only [List.length_map];omega))) (fR (some (3)) (fR 3 (fR 3 (fP (ZLe [AV.s { data:=#[]:ByteArray },AV.nl,AV.nl] [AV.s { sku:={ data:=#[]:ByteArray },past:={ vec:=[],cloud:=[]:Past }:Record }.sku,AV.sl (List.map c3 { sku:={ data:=#[]:ByteArray },past:={ vec:=[],cloud:=[]:Past }:Record }.past.vec),AV.sl (List.map B5 { sku:={ data:=#[]:ByteArray },past:={ vec:=[],cloud:=[]:Past }:Record }.past.cloud)]) (by exact ZLe.cons (B9.refl _) (ZLe.cons B9.nl (ZLe.cons B9.nl ZLe.nil))) (fP ((0:Nat) <(none.getD (↑(List.map c83 m12).length:Int)-k10).toNat) (by rw[nn];omega) (fP (k10.toNat+(none.getD (↑(List.map c83 m12).length:Int)-k10).toNat≤(List.map c83 m12).length) (by rw[nn,List.length_map];omega) (fP (List.take k10.toNat (List.map c83 m12)++List.replicate (none.getD (↑(List.map c83 m12).length:Int)-k10).toNat [AV.s { sku:={ data:=#[]:ByteArray },past:={ vec:=[],cloud:=[]:Past }:Record }.sku,AV.sl (List.map c3 { sku:={ data:=#[]:ByteArray },past:={ vec:=[],cloud:=[]:Past }:Record }.past.vec),AV.sl (List.map B5 { sku:={ data:=#[]:ByteArray },past:={ vec:=[],cloud:=[]:Past }:Record }.past.cloud)]++List.drop (k10.toNat+(none.getD (↑(List.map c83 m12).length:Int)-k10).toNat) (List.map c83 m12)=List.map c83 (List.take k10.toNat m12++List.replicate (none.getD (↑(List.map c83 m12).length:Int)-k10).toNat { sku:={ data:=#[]:ByteArray },past:={ vec:=[],cloud:=[]:Past }:Record }++List.drop (k10.toNat+(none.getD (↑(List.map c83 m12).length:Int)-k10).toNat) m12)) (by(with_reducible refine Bh0 ?_;kernel_rfl)) (oV 3 { row:=[.s ({ sku:={ data:=#[]:ByteArray },past:={ vec:=[],cloud:=[]:Past }:Record }.sku),.sl (List.map c3 { sku:={ data:=#[]:ByteArray },past:={ vec:=[],cloud:=[]:Past }:Record }.past.vec),.sl (List.map B5 { sku:={ data:=#[]:ByteArray },past:={ vec:=[],cloud:=[]:Past }:Record }.past.cloud)],rows:=some (List.map c83 (List.take k10.toNat m12++List.replicate (none.getD (↑(List.map c83 m12).length:Int)-k10).toNat { sku:={ data:=#[]:ByteArray },past:={ vec:=[],cloud:=[]:Past }:Record }++List.drop (k10.toNat+(none.getD (↑(List.map c83 m12).length:Int)-k10).toNat) m12)) } z0)))))))))))) ?_
 refine sn<|sq<|rG cx [4] [0] (fR (0:Int) (fO (0≤k10) (fP (k10≤(↑(List.map c83 (List.take k10.toNat m12++List.replicate (none.getD (↑(List.map c83 m12).length:Int)-k10).toNat { sku:={ data:=#[]:ByteArray },past:={ vec:=[],cloud:=[]:Past }:Record }++List.drop (k10.toNat+(none.getD (↑(List.map c83 m12).length:Int)-k10).toNat) m12)).length:Int)) (by rw[List.length_map,List.length_append,List.length_append,List.length_take];omega) (fR (some (3)) (fP (List.take k10.toNat (List.map c83 (List.take k10.toNat m12++List.replicate (none.getD (↑(List.map c83 m12).length:Int)-k10).toNat { sku:={ data:=#[]:ByteArray },past:={ vec:=[],cloud:=[]:Past }:Record }++List.drop (k10.toNat+(none.getD (↑(List.map c83 m12).length:Int)-k10).toNat) m12))=List.map c83 (List.take k10.toNat (List.take k10.toNat m12++List.replicate (none.getD (↑(List.map c83 m12).length:Int)-k10).toNat { sku:={ data:=#[]:ByteArray },past:={ vec:=[],cloud:=[]:Past }:Record }++List.drop (k10.toNat+(none.getD (↑(List.map c83 m12).length:Int)-k10).toNat) m12))) (by(with_reducible exact List.map_take.symm)) (oV 2 { rows:=some (List.map c83 (List.take k10.toNat (List.take k10.toNat m12++List.replicate (none.getD (↑(List.map c83 m12).length:Int)-k10).toNat { sku:={ data:=#[]:ByteArray },past:={ vec:=[],cloud:=[]:Past }:Record }++List.drop (k10.toNat+(none.getD (↑(List.map c83 m12).length:Int)-k10).toNat) m12))),flat:=true } z0)))))) ?_
 refine sn<|rT<|bR<|nR<|nR<|bR<|nR<|A3s (rows':=(List.map c83 (List.take k10.toNat (List.take k10.toNat m12++List.replicate (none.getD (↑(List.map c83 m12).length:Int)-k10).toNat { sku:={ data:=#[]:ByteArray },past:={ vec:=[],cloud:=[]:Past }:Record }++List.drop (k10.toNat+(none.getD (↑(List.map c83 m12).length:Int)-k10).toNat) m12)))) .ret (.inr rfl) 4 0 0 (by kernel_rfl) (by kernel_rfl) (by kernel_rfl) ?g32;rotate_left
 refine sK<|bN<|sn<|rG cx [0,1,5] [0] (tW 1 (k1+1) z0)<|sn<|nX ((k1+1,m2)) (show((↑l.length:Int)-(k1+1)).toNat <((↑l.length:Int)-k1).toNat from(by subst hh4;omega)) (show Bp6 l (k1+1) m2 from ?g34);rotate_left
 refine eX 0<|nE<|nE<|bH<|sn<|sq<|rG cx [4] [0] z0<|sn<|rT<|A3s (rows':=(List.map c83 m2)) .ret (.inr rfl) 4 0 0 (by kernel_rfl) (by kernel_rfl) (by kernel_rfl) (by subst hh4;rw[← cm_all h8 h7])
 case g23 =>
  subst hh4
  rw[A3l _ (by omega) h6 h18]at h20
  rw[A6j h19 (by omega) (by omega),A6j h19 (by omega) (by omega)]at h21
  rw[A6j h19 (by omega) (by omega)]
  have e1:k1.toNat+k11.toNat=(k1+k11).toNat:=by omega
  have e2:k1.toNat+(k11-1).toNat=(k1+k11).toNat-1:=by omega
  rw[e1,e2]at h21
  rw[e1]
  refine⟨by omega,by omega,by omega,by omega,by rw[List.length_set];exact h18,?_⟩
  rw[show k1+(k11+1)=k1+k11+1 by omega]
  exact Bp7 (by omega) (by omega) (by omega) (by simpa using h21) h19
 case g25 =>
  subst hh4
  rw[A3l _ (by omega) h6 h18]at h20
  rw[A6j h19 (by omega) (by omega),A6j h19 (by omega) (by omega)]at h21
  have e1:k1.toNat+k11.toNat=(k1+k11).toNat:=by omega
  have e2:k1.toNat+(k11-1).toNat=(k1+k11).toNat-1:=by omega
  rw[e1,e2]at h21
  refine⟨by omega,by omega,by omega,by omega,h18,?_⟩
  rw[show k1+(k11+1)=k1+k11+1 by omega]
  exact Bp8 (by omega) (by omega) (Classical.not_not.1 h21) h19
 case g32 =>
  subst hh4
  rw[A3l _ (by omega) h6 h18]at h20
  rw[cm_cut (by omega),cm_end (by omega) h19]
 case g34 =>
  subst hh4
  refine⟨rfl,by omega,by omega,fun j hj1 hj2=>?_⟩
  by_cases c:j=k1.toNat
  ·subst c;rw[← show(k1-1).toNat=k1.toNat-1 by omega];exact h9
  ·exact h7 j hj1 (by omega)
theorem B9n(l:List Record):(A7c l).length=l.length:=by
 unfold A7c srtB
 rw[List.length_map,(R2 Be3 (l.map B1t)).length_eq,List.length_map]
theorem Ar0{r:Record}:Aj3 r=true↔¬(¬ r.sku=noneS∧¬ M4 r.sku=true):=by
 unfold Aj3
 rw[Bool.or_eq_true,decide_eq_true_iff]
 constructor
 ·rintro(h | h) ⟨h1,h2⟩
  ·exact h1 h
  ·exact h2 h
 ·intro h
  by_cases c:r.sku=noneS
  ·exact .inl c
  ·exact .inr (Classical.byContradiction fun k=>h ⟨c,k⟩)
theorem Az4{rs:List Record}{i:Int}(h0:0≤i)(hi:i < rs.length)(h:¬ rs[i.toNat]!.sku=noneS∧¬ M4 rs[i.toNat]!.sku=true):F6 rs=([],5):=by
 unfold F6
 rw[if_neg]
 intro k
 exact Ar0.1 (List.all_eq_true.1 k _ (E2 (by omega))) h
theorem B5f{rs:List Record}{i:Int}(hi:¬ i < rs.length)(h:∀ j:Nat,(j:Int) < i→Aj3 rs[j]! = true):F6 rs=(A2l (lsR rs),0):=by
 unfold F6
 rw[if_pos]
 rw[List.all_eq_true]
 intro r hr
 obtain⟨j,hj,rfl⟩:=List.mem_iff_getElem.1 hr
 have:=h j (by omega)
 rwa [getElem!_pos rs j hj]at this
theorem B5g{rs:List Record}{i:Int}(h0:0≤i)(hi:i < rs.length):lsR (rs.take (i+1).toNat)=lsR (rs.take i.toNat)++(if C2 rs[i.toNat]!.past=0 then[]else[clnR rs[i.toNat]!]):=by
 unfold lsR
 rw[← E1 h0 hi,List.filter_append,List.map_append]
 congr 1
 generalize rs[i.toNat]! = r
 by_cases h:C2 r.past=0
 ·rw[if_pos h,List.filter_cons_of_neg (by rw[decide_eq_true_iff];exact fun k=>k h)];rfl
 ·rw[if_neg h,List.filter_cons_of_pos (by rw[decide_eq_true_iff];exact h)];rfl
def B9o(rs:List Record)(i:Int)(out:List Record):Prop:=0≤i∧i≤rs.length∧(out.length:Int)≤i∧(∀ j:Nat,(j:Int) < i→Aj3 rs[j]! = true)∧out=lsR (rs.take i.toNat)
def decKs(rs:List Record)(i:Int)(out:List Record):Nat:=(rs.length-i).toNat
theorem con45(rs:List Record)(hb:B0t rs)(hl:rs.length*64≤140737488350000):Con Tryz.prog 45 [.sl (rs.map c83)] (.tup [.sl ((F6 rs).1.map c83),.i .i64 (F6 rs).2]) :=
 by
 refine lN 0 c83 (rs) Tryz.func45 fun hl_0=>sC A9 [.tmp 2,.tmp 3] 36 Tryz.func45 ?_
 intro e0 cx
 refine sq<|rG cx [0] [] z0<|sn<|sq<|rG cx [0,4] [] z0<|sn<|sq<|sq<|rG cx [4,7,8,9] [] (tL 1 c83 rs z0)<|sn<|bL 0<|G0 4 1004 83 3 (σ':=⟨[(4,.own 1004 0),(7,.sl (List.map c83 rs)),(8,.i .i64 ((↑rs.length:Int))),(9,.i .i64 ((0:Int)))],[(1004,⟨0,83,.row 3 (List.map c83 [])⟩)]⟩) (by kernel_rfl)<|sL (X:=Int×List Record) (fun x=>⟨[(4,.own 1004 0),(7,.sl (List.map c83 rs)),(8,.i .i64 ((↑rs.length:Int))),(9,.i .i64 (x.1))],[(1004,⟨0,83,.row 3 (List.map c83 x.2)⟩)]⟩) (fun x ↦ decKs rs x.1 x.2) (fun x ↦ B9o rs x.1 x.2) [4,7,8,9] [1004] (((0:Int),[])) (show B9o rs (0:Int) []from(by exact⟨by omega,by omega,by simp,fun j hj=>by omega,by simp [lsR]⟩)) ?_
 rintro⟨i0,o1⟩ h_2
 obtain⟨hh3,hh4,hh5,hh6,hh7⟩:0≤i0∧i0≤(↑rs.length:Int)∧(↑o1.length:Int)≤i0∧(∀(j:Nat),(↑j:Int) < i0→Aj3 rs[j]! = true)∧o1=lsR (List.take i0.toNat rs):=h_2
 refine rE cx [4,7,8,9,10] [1004] (zB 0 (i0 <(↑rs.length:Int))) (fun h8=>?_) fun h8=>?_
 refine sK<|sn<|sq<|bL 1<|sq<|rG cx [4,7,8,9,6] [1004,6] (fA (0≤i0) (fG c83 rs i0.toNat (fR 3 (fN 3 3 (oR 0 (c83 rs[i0.toNat]!) z0)))))<|sn<|sq<|sq<|B3 (σ':=⟨[(4,.own 1004 0),(7,.sl (List.map c83 rs)),(8,.i .i64 ((↑rs.length:Int))),(9,.i .i64 (i0)),(6,.ptr (6) (0) (0) (0)),(21,.b (decide (¬rs[i0.toNat]!.sku={ data:=#[]:ByteArray }∧¬M4 rs[i0.toNat]!.sku=true)))],[(1004,⟨0,83,.row 3 (List.map c83 o1)⟩),(6,⟨0,83,.var [.s (rs[i0.toNat]!.sku),.sl (List.map c3 rs[i0.toNat]!.past.vec),.sl (List.map B5 rs[i0.toNat]!.past.cloud)]⟩)]⟩) ?_ ?_
 refine A4 (¬rs[i0.toNat]!.sku={ data:=#[]:ByteArray }) (fun h_10=>?_) (fun h_10=>?_)
 refine rG cx [4,7,8,9,6,21] [1004,6] (tT 2 (A21 h_10:(AV.b !rs[i0.toNat]!.sku.toList == { data:=#[]:ByteArray }.toList)=AV.b true) (fT (Bj8 (rs[i0.toNat]!.sku)) (tT 7 (C9:(AV.b !M4 rs[i0.toNat]!.sku)=AV.b (decide ¬M4 rs[i0.toNat]!.sku=true)) (tD 8 (decide ¬M4 rs[i0.toNat]!.sku=true) (¬rs[i0.toNat]!.sku={ data:=#[]:ByteArray }∧¬M4 rs[i0.toNat]!.sku=true) (by simp only [eq_false h_10,tsl]) (oA 6 (.b (M4 rs[i0.toNat]!.sku)) z0))))) ?_
 exact⟨rfl,by kernel_rfl⟩
 refine rG cx [4,7,8,9,6,21] [1004,6] (tT 2 (A4g:(AV.b !rs[i0.toNat]!.sku.toList == { data:=#[]:ByteArray }.toList)=AV.b (decide ¬rs[i0.toNat]!.sku={ data:=#[]:ByteArray })) (tT 3 (A0 h_10) (tT 8 (by first | (simp only [eq_false h_10,tsl];done) | simp_all:AV.b false=AV.b (decide (¬rs[i0.toNat]!.sku={ data:=#[]:ByteArray }∧¬M4 rs[i0.toNat]!.sku=true))) z0))) ?_
 exact⟨rfl,by kernel_rfl⟩
 refine sn<|dC (¬rs[i0.toNat]!.sku={ data:=#[]:ByteArray }∧¬M4 rs[i0.toNat]!.sku=true) (fun h11=>?_) fun h11=>?_
 refine sq<|rG cx [2,3] [] z0<|sn<|rT<|nR<|bR<|nR<|nR<|bR<|nR<|qR (.tup [.nl,.i .i64 ((5:Int))]) (B9.tup (ZLe.cons (B9.nl' (show List.map c83 (F6 rs).1=[]from(by rw[Az4 hh3 h8 h11];rfl))) (ZLe.cons (B9.eq (show AV.i .i64 5=AV.i .i64 (F6 rs).2 from(by rw[Az4 hh3 h8 h11]))) ZLe.nil)))
 refine sK<|sn<|sq<|rG cx [4,7,8,9,6,25] [1004,6] (fT (B83 (rs[i0.toNat]!.past) (by exact Y3 hb hh3 h8)) (tQ 3 (C2 rs[i0.toNat]!.past=0) (oA 2 (.b (decide (C2 rs[i0.toNat]!.past=0))) z0))) ?_
 refine sn<|dC (¬C2 rs[i0.toNat]!.past=0) (fun h12=>?_) fun h12=>?_
 refine rG cx [4,7,8,9] [1004] (fT (Bl6 (rs[i0.toNat]!) (by exact Y3 hb hh3 h8)) (fR 83 (fR 3 (fR 3 (fX c83 [{ sku:=rs[i0.toNat]!.sku,past:=A5 rs[i0.toNat]!.past:Record }] 3 (fS c83 o1 c83 [{ sku:=rs[i0.toNat]!.sku,past:=A5 rs[i0.toNat]!.past:Record }] (fP (((List.map c83 o1).length+(List.map c83 [{ sku:=rs[i0.toNat]!.sku,past:=A5 rs[i0.toNat]!.past:Record }]).length)*(64:Nat)≤(140737488355328:Nat)) (by(simp only [Go.maxLen,List.length_map,List.length_append,List.length_cons,List.length_nil];omega)) (fM c83 o1 [{ sku:=rs[i0.toNat]!.sku,past:=A5 rs[i0.toNat]!.past:Record }] (oA 2 (.agg [.s ({ sku:=rs[i0.toNat]!.sku,past:=A5 rs[i0.toNat]!.past:Record }.sku),.sl (List.map c3 { sku:=rs[i0.toNat]!.sku,past:=A5 rs[i0.toNat]!.past:Record }.past.vec),.sl (List.map B5 { sku:=rs[i0.toNat]!.sku,past:=A5 rs[i0.toNat]!.past:Record }.past.cloud)]) (oV 4 { rows:=some (List.map c83 (o1++[{ sku:=rs[i0.toNat]!.sku,past:=A5 rs[i0.toNat]!.past:Record }])) } z0)))))))))) ?_
 refine bN<|sn<|rG cx [4,7,8,9] [1004] (tW 0 (i0+1) z0)<|sn<|nX ((i0+1,o1++[{ sku:=rs[i0.toNat]!.sku,past:=A5 rs[i0.toNat]!.past:Record }])) (show((↑rs.length:Int)-(i0+1)).toNat <((↑rs.length:Int)-i0).toNat from(by omega)) (show B9o rs (i0+1) (o1++[{ sku:=rs[i0.toNat]!.sku,past:=A5 rs[i0.toNat]!.past:Record }])from ?g5);rotate_left
 refine sK<|bN<|sn<|rG cx [4,7,8,9] [1004] (tW 0 (i0+1) z0)<|sn<|nX ((i0+1,o1)) (show((↑rs.length:Int)-(i0+1)).toNat <((↑rs.length:Int)-i0).toNat from(by omega)) (show B9o rs (i0+1) o1 from ?g6);rotate_left
 refine eX 0<|nE<|nE<|bH<|sn<|sq<|rG cx [4] [1004] (fP (Z5 Tryz.prog (97:FuncId) (54:FuncId) none false (83:Nat) (3:Nat) (List.map c83 o1) (List.map c83 (A7c o1))) (io97 (o1) (by rw[hh7];exact B9a _) (by omega)) (oV 1 { rows:=some (List.map c83 (A7c o1)) } z0)) ?_
 refine sn<|sq<|rG cx [2,3] [1004] (fT (con98 (A7c o1) (by exact Aa9 (A64 _)) (by rw[B9n];omega)) (oV 1 { val:=some (.vw (0) (0) (0) (0)),rows:=some (List.map c83 (I1 (A7c o1))) } z0)) ?_
 refine sn<|rT<|qR (.tup [.sl (((E.look [(1,{ val:=some (AV.vw (0) (0) (0) (0)),rows:=some (List.map c83 (I1 (A7c o1))):Ov })] (1)).getD {:Ov }).rows.getD []),.i .i64 ((0:Int))]) (B9.tup (ZLe.cons (B9.eq (show AV.sl (((E.look [(1,{ val:=some (AV.vw (0) (0) (0) (0)),rows:=some (List.map c83 (I1 (A7c o1))):Ov })] (1)).getD {:Ov }).rows.getD [])=AV.sl (List.map c83 (F6 rs).1)from ?g11)) (ZLe.cons (B9.eq (show AV.i .i64 0=AV.i .i64 (F6 rs).2 from(by rw[B5f h8 hh6]))) ZLe.nil)));rotate_left
 case g5 =>
  refine⟨by omega,by omega,by rw[List.length_append,List.length_singleton];omega,fun j hj=>?_,?_⟩
  ·by_cases e:j=i0.toNat
   ·rw[e];exact Ar0.2 h11
   ·exact hh6 j (by omega)
  ·rw[B5g hh3 h8,if_neg h12,hh7];rfl
 case g6 =>
  refine⟨by omega,by omega,by omega,fun j hj=>?_,?_⟩
  ·by_cases e:j=i0.toNat
   ·rw[e];exact Ar0.2 h11
   ·exact hh6 j (by omega)
  ·rw[B5g hh3 h8,if_pos (Classical.not_not.1 h12),hh7,List.append_nil]
 case g11 =>
  rw[B5f h8 hh6]
  rw[List.take_of_length_le (by omega)]at hh7
  rw[hh7]
  rfl
theorem con59(a b:List Record)(ha:B0t a)(hb:B0t b)(hl:(a.length+b.length)*64≤140737488350000):Con Tryz.prog 59 [.sl (a.map c83),.sl (b.map c83)] (.tup [.sl ((F4 a b).1.map c83),.i .i64 (F4 a b).2]) :=
 by
 have no:¬D9 a=0∨¬D9 b=0→F4 a b=([],1):=fun h=>by unfold F4;rw[if_neg (fun k=>h.elim (fun g=>g k.1) (fun g=>g k.2))]
 have yes:¬(¬D9 a=0∨¬D9 b=0)→D9 a=0∧D9 b=0:=fun h=>⟨Classical.not_not.1 fun k=>h (.inl k),Classical.not_not.1 fun k=>h (.inr k)⟩
 have fl:[a,b].flatten=a++b:=by simp
 have un:¬(¬D9 a=0∨¬D9 b=0)→F6 [a,b].flatten=F4 a b:=fun h=>by rw[fl,B1b (yes h).1 (yes h).2];unfold F4;rw[if_pos (yes h)]
 refine lN 0 c83 (a) Tryz.func59 fun hl_0=>lN 1 c83 (b) Tryz.func59 fun hl_1=>sC A9 [.tmp 4,.tmp 5] 21 Tryz.func59 ?_
 intro e0 cx
 refine sq<|rG cx [0,1] [] z0<|sn<|sq<|sq<|B3 (σ':=⟨[(0,.sl (List.map c83 a)),(1,.sl (List.map c83 b)),(13,.b (decide (¬D9 a=0∨¬D9 b=0)))],[]⟩) ?_ ?_
 refine A4 (¬D9 a=0) (fun h_1=>?_) (fun h_1=>?_)
 refine rG cx [0,1,13] [] (fT (A9m (a) (by(with_reducible assumption))) (tT 2 (D1 h_1:AV.b (D9 a !=0)=AV.b true) (tD 7 true (¬D9 a=0∨¬D9 b=0) (by simp only [eq_false h_1,tsl]) (oA 1 (.i .i64 (D9 a)) z0)))) ?_
 exact⟨rfl,by kernel_rfl⟩
 refine rG cx [0,1,13] [] (fT (A9m (a) (by(with_reducible assumption))) (tN 2 (D9 a) (0:Int) (tT 3 (A0 h_1) (fT (A9m (b) (by(with_reducible assumption))) (tN 6 (D9 b) (0:Int) (tT 7 (by first | (simp only [eq_false h_1,tsl];done) | simp_all:AV.b (decide ¬D9 b=0)=AV.b (decide (¬D9 a=0∨¬D9 b=0))) (oA 1 (.i .i64 (D9 a)) (oA 5 (.i .i64 (D9 b)) z0)))))))) ?_
 exact⟨rfl,by kernel_rfl⟩
 refine sn<|dC (¬D9 a=0∨¬D9 b=0) (fun h2=>?_) fun h2=>?_
 refine sq<|rG cx [4,5] [] z0<|sn<|rT<|nR<|qR (.tup [.nl,.i .i64 ((1:Int))]) (B9.tup (ZLe.cons (B9.nl' (show List.map c83 (F4 a b).1=[]from(by rw[no h2];rfl))) (ZLe.cons (B9.eq (show AV.i .i64 1=AV.i .i64 (F4 a b).2 from(by rw[no h2]))) ZLe.nil)))
 refine sK<|sn<|sq<|rG cx [4,5] [] (fT (con109 ([a,b]) (by rw[fl,List.length_append];omega)) (fT (con45 ([a,b].flatten) (by rw[fl];exact fun r hr=>(List.mem_append.1 hr).elim (ha r) (hb r)) (by rw[fl,List.length_append];omega)) (oV 3 { val:=some (.own (83:Nat) (3:Nat)),rows:=some (List.map c83 [a,b].flatten) } (oA 4 (.tup [.sl (List.map c83 (F6 [a,b].flatten).1),.i .i64 ((F6 [a,b].flatten).2)]) z0)))) ?_
 refine sn<|rT<|qR (.tup [.sl (List.map c83 (F6 [a,b].flatten).1),.i .i64 ((F6 [a,b].flatten).2)]) (B9.tup (ZLe.cons (B9.eq (show AV.sl (List.map c83 (F6 [a,b].flatten).1)=AV.sl (List.map c83 (F4 a b).1)from(by rw[un h2]))) (ZLe.cons (B9.eq (show AV.i .i64 (F6 [a,b].flatten).2=AV.i .i64 (F4 a b).2 from(by rw[un h2]))) ZLe.nil)))
end Go.Proofs.YtokhjapfekbobaaGreat
namespace Go.Proofs.YtokhjapfekbobaaGreat
open Go.E
set_option maxRecDepth 100000
set_option maxHeartbeats 4000000
theorem B5h{a b:List Record}(ha:D9 a=0)(hb:D9 b=0):F4 a b=(A2l (a++b),0):=by unfold F4;rw[if_pos ⟨ha,hb⟩]
theorem A2z{a b:List Record}(ha:D9 a=0)(hb:D9 b=0):P0 (a++b):=fun r hr=>(A76.1 (A2m ha hb r hr)).2.1
theorem con90(r:Record)(e:Entry)(hl:szR r):Con Tryz.prog 90 [.agg (c83 r),.agg (c67 e)] (.b (A38 r e)) :=
 by
 have hq:r.past.cloud.length≤9223372036854775807:=by unfold szR at hl;omega
 refine sC A9 [.tmp 4] 22 Tryz.func90 ?_
 intro e0 cx
 refine sq<|rG cx [2,3] [2,3] z0<|sn<|sq<|B3 (σ':=⟨[(4,.b (decide (r.sku={ data:=#[]:ByteArray }∧D0 r.past e.dot=true∨¬r.sku={ data:=#[]:ByteArray }∧r.sku=e.sku∧D0 r.past e.dot=true)))],[]⟩) ?_ ?_
 refine A4 (r.sku={ data:=#[]:ByteArray }) (fun h1=>?_) (fun h1=>?_)
 refine rG cx [4] [] (tT 2 (A20 h1:AV.b (r.sku.toList == { data:=#[]:ByteArray }.toList)=AV.b true) (fT (B8f (r.past) (e.dot) (by exact hq)) (tD 17 (D0 r.past e.dot) (r.sku={ data:=#[]:ByteArray }∧D0 r.past e.dot=true∨¬r.sku={ data:=#[]:ByteArray }∧r.sku=e.sku∧D0 r.past e.dot=true) (by simp only [eq_true h1,tsl]) (oA 15 (.b (D0 r.past e.dot)) z0)))) ?_
 exact⟨rfl,by kernel_rfl⟩
 refine A4 (r.sku=e.sku) (fun h2=>?_) (fun h2=>?_)
 refine rG cx [4] [] (tT 2 (V2 h1:AV.b (r.sku.toList == { data:=#[]:ByteArray }.toList)=AV.b false) (tT 8 (A20 h2:AV.b (r.sku.toList == e.sku.toList)=AV.b true) (fT (B8f (r.past) (e.dot) (by exact hq)) (tD 17 (D0 r.past e.dot) (r.sku={ data:=#[]:ByteArray }∧D0 r.past e.dot=true∨¬r.sku={ data:=#[]:ByteArray }∧r.sku=e.sku∧D0 r.past e.dot=true) (by simp only [eq_false h1,eq_true h2,tsl]) (oA 15 (.b (D0 r.past e.dot)) z0))))) ?_
 exact⟨rfl,by kernel_rfl⟩
 refine rG cx [4] [] (tT 2 (V2 h1:AV.b (r.sku.toList == { data:=#[]:ByteArray }.toList)=AV.b false) (tT 8 (V2 h2:AV.b (r.sku.toList == e.sku.toList)=AV.b false) (tD 17 false (r.sku={ data:=#[]:ByteArray }∧D0 r.past e.dot=true∨¬r.sku={ data:=#[]:ByteArray }∧r.sku=e.sku∧D0 r.past e.dot=true) (by simp only [eq_false h1,eq_false h2,tsl]) z0))) ?_
 exact⟨rfl,by kernel_rfl⟩
 refine sn<|rT<|qR (.b (decide (r.sku={ data:=#[]:ByteArray }∧D0 r.past e.dot=true∨¬r.sku={ data:=#[]:ByteArray }∧r.sku=e.sku∧D0 r.past e.dot=true))) (.eq ?g2);rotate_left
 case g2 =>
  refine congrArg AV.b ?_
  rw[Bool.eq_iff_iff,A0b,decide_eq_true_iff]
  show(r.sku=noneS∧_∨¬ r.sku=noneS∧_)↔_
  by_cases c:r.sku=noneS <;> simp [c]
theorem Ak5(rs:List Record)(e:Entry){i:Int}(h0:0≤i)(h1:i < rs.length):E5 (rs.take (i+1).toNat) e=E5 (rs.take i.toNat) e+if A38 rs[i.toNat]! e=true then 1 else 0:=by
 unfold E5
 rw[← E1 h0 h1,List.filter_append,List.length_append]
 generalize rs[i.toNat]! = x
 split
 ·rename_i h;simp [List.filter_cons,h]
 ·rename_i h;simp [List.filter_cons,h]
theorem con42(rs:List Record)(e:Entry)(hb:B0t rs):Con Tryz.prog 42 [.sl (rs.map c83),.agg (c67 e)] (.i .i64 (E5 rs e)) :=
 by
 refine lN 0 c83 (rs) Tryz.func42 fun hl_0=>sC A9 [.tmp 4] 22 Tryz.func42 ?_
 intro e0 cx
 refine sq<|rG cx [0,3] [3] z0<|sn<|sq<|rG cx [0,3,5] [3] z0<|sn<|sq<|sq<|rG cx [0,3,5,6] [3] z0<|sn<|bL 0<|sL (X:=Int×Int×Int×Int×ByteArray×Int) (fun x=>⟨[(0,.sl (List.map c83 rs)),(3,.ptr (3) (0) (0) (0)),(5,.i .i64 (x.1)),(6,.i .i64 (x.2.1))],[(3,⟨0,67,.var [.i .i64 (x.2.2.1),.i .i64 (x.2.2.2.1),.s (x.2.2.2.2.1),.i .i64 (x.2.2.2.2.2)]⟩)]⟩) (fun x ↦ decBr rs x.1 x.2.1 x.2.2.1 x.2.2.2.1 x.2.2.2.2.1 x.2.2.2.2.2) (fun x ↦ Ah6 rs e x.1 x.2.1 x.2.2.1 x.2.2.2.1 x.2.2.2.2.1 x.2.2.2.2.2) [0,3,5,6] [3] (((0:Int),(0:Int),e.dot.rep,e.dot.num,e.sku,e.qty)) (show Ah6 rs e (0:Int) (0:Int) e.dot.rep e.dot.num e.sku e.qty from(by exact⟨rfl,rfl,rfl,rfl,by omega,by omega,by omega,by omega,by simp [E5]⟩)) ?_
 rintro⟨n0,i1,r2,m3,s4,q5⟩ h_6
 obtain⟨hh7,hh8,hh9,hh10,h11,h12,h13,h14,h15⟩:r2=e.dot.rep∧m3=e.dot.num∧s4=e.sku∧q5=e.qty∧0≤i1∧i1≤(↑rs.length:Int)∧0≤n0∧n0≤i1∧n0=E5 (List.take i1.toNat rs) e:=h_6
 refine sq<|rD cx [0,3,5,6,10] [3] (tL 2 c83 rs (zB 3 (i1 <(↑rs.length:Int)))) (fun h16=>?_) fun h16=>?_
 refine sK<|sn<|sq<|bL 1<|sq<|rA cx [0,3,5,6,18] [3] (fA (0≤i1) (fG c83 rs i1.toNat (fR 3 (fN 3 3 (fT (con90 (rs[i1.toNat]!) ({ dot:={ rep:=r2,num:=m3:Dot },sku:=s4,qty:=q5:Entry }) (by exact Y3 hb h11 h16)) (oR 2 (c83 rs[i1.toNat]!) (oA 5 (.b (A38 rs[i1.toNat]! { dot:={ rep:=r2,num:=m3:Dot },sku:=s4,qty:=q5:Entry })) z0))))))) ?_
 refine sn<|X5 (A38 rs[i1.toNat]! { dot:={ rep:=r2,num:=m3:Dot },sku:=s4,qty:=q5:Entry }) (by kernel_rfl) (by kernel_rfl) (fun h17=>?_) (fun h17=>?_)
 refine rG cx [0,3,5,6] [3] (tW 1 (n0+1) z0)<|bN<|sn<|rG cx [0,3,5,6] [3] (tW 1 (i1+1) z0)<|sn<|nX ((n0+1,i1+1,r2,m3,s4,q5)) (show((↑rs.length:Int)-(i1+1)).toNat <((↑rs.length:Int)-i1).toNat from(by omega)) (show Ah6 rs e (n0+1) (i1+1) r2 m3 s4 q5 from ?g2);rotate_left
 refine sK<|bN<|sn<|rG cx [0,3,5,6] [3] (tW 1 (i1+1) z0)<|sn<|nX ((n0,i1+1,r2,m3,s4,q5)) (show((↑rs.length:Int)-(i1+1)).toNat <((↑rs.length:Int)-i1).toNat from(by omega)) (show Ah6 rs e n0 (i1+1) r2 m3 s4 q5 from ?g3);rotate_left
 refine eX 0<|nE<|nE<|bH<|sn<|sq<|rG cx [4] [] z0<|sn<|rT<|qR (.i .i64 (n0)) (.eq (by rw[h15,List.take_of_length_le (by omega)]))
 case g2 =>
  subst hh7 hh8 hh9 hh10
  refine⟨rfl,rfl,rfl,rfl,by omega,by omega,by omega,by omega,?_⟩
  rw[Ak5 rs e h11 h16,if_pos h17,h15]
 case g3 =>
  subst hh7 hh8 hh9 hh10
  refine⟨rfl,rfl,rfl,rfl,by omega,by omega,by omega,by omega,?_⟩
  have h17:A38 rs[i1.toNat]! e=false:=h17
  rw[Ak5 rs e h11 h16,if_neg (by rw[h17];simp),h15]
  omega
end Go.Proofs.YtokhjapfekbobaaGreat
namespace Go.Proofs.YtokhjapfekbobaaGreat
open Go.E
set_option maxRecDepth 100000
set_option maxHeartbeats 4000000
theorem Ar1{a b:Dot}:dLt a b=true↔a.rep < b.rep∨a.rep=b.rep∧a.num < b.num:=by simp [dLt]
theorem A3m(a:Dot):¬ dLt a a=true:=by rw[Ar1];omega
theorem A30{a b c:Dot}(h1:dLt a b=true)(h2:dLt b c=true):dLt a c=true:=by rw[Ar1]at *;omega
theorem Ak6{a b:Dot}(h1:¬ dLt a b=true)(h2:¬ dLt b a=true):a=b:=by
 rw[Ar1]at *
 cases a;cases b
 simp only at *
 congr 1 <;> omega
def upE(es:List Entry):Prop:=es.Pairwise (fun a b=>dLt a.dot b.dot=true)
def W4(es:List Entry):Prop:=(∀ e∈es,U8 e=0)∧upE es
theorem Bp9(es:List Entry):okL es=true↔W4 es:=by
 constructor
 ·intro h
  refine⟨fun e he=>?_,?_⟩
  ·obtain⟨i,hi,rfl⟩:=List.mem_iff_getElem.1 he
   have:=(A17 h hi).1
   rwa [getElem!_pos es i hi]at this
  ·unfold upE
   rw[List.pairwise_iff_getElem]
   have step:∀ n i:Nat,(hi:i+n+1 < es.length)→dLt es[i]!.dot es[i+n+1]!.dot=true:=by
    intro n
    induction n with
    | zero =>
     intro i hi
     have:=(A17 h hi).2
     rcases this with k | k
     ·omega
     ·simpa using k
    | succ n ih =>
     intro i hi
     have h1:=ih i (by omega)
     have h2:=(A17 h (i:=i+(n+1)+1) hi).2
     rcases h2 with k | k
     ·omega
     ·rw[show i+(n+1)+1-1=i+n+1 by omega]at k;exact A30 h1 k
   intro i j hi hj hij
   have:=step (j-i-1) i (by omega)
   rw[show i+(j-i-1)+1=j by omega,getElem!_pos es i hi,getElem!_pos es j hj]at this
   exact this
 ·rintro⟨h1,h2⟩
  unfold upE at h2
  rw[List.pairwise_iff_getElem]at h2
  unfold okL
  rw[J8]
  intro i hi
  rw[Y4]
  refine⟨h1 _ (A92 hi),?_⟩
  by_cases e:i=0
  ·exact .inl e
  ·refine .inr ?_
   have:=h2 (i-1) i (by omega) hi (by omega)
   rwa [getElem!_pos es (i-1) (by omega),getElem!_pos es i hi]
theorem Z3(es:List Entry):D2 es=0↔W4 es:=by
 rw[← Bp9]
 exact⟨N9,fun h=>by unfold D2;rw[if_pos h]⟩
theorem W5{l es:List Entry}(h:W4 es)(hs:l.Sublist es):W4 l:=⟨fun e he=>h.1 e (hs.subset he),List.Pairwise.sublist hs h.2⟩
theorem A6k{es:List Entry}(h:W4 es){x y:Entry}(hx:x∈es)(hy:y∈es)(hd:x.dot=y.dot):x=y:=by
 obtain⟨i,hi,rfl⟩:=List.mem_iff_getElem.1 hx
 obtain⟨j,hj,rfl⟩:=List.mem_iff_getElem.1 hy
 have hp:=List.pairwise_iff_getElem.1 h.2
 by_cases e:i=j
 ·subst e;rfl
 ·rcases Nat.lt_or_gt_of_ne e with e | e
  ·have:=hp i j hi hj e;rw[hd]at this;exact absurd this (A3m _)
  ·have:=hp j i hj hi e;rw[hd]at this;exact absurd this (A3m _)
theorem A8f:∀ {a b:List Entry},upE a→upE b→(∀ e,e∈a↔e∈b)→a=b
 | [],[],_,_,_=>rfl
 | [],y :: b,_,_,h=>by have:=(h y).2 (by simp);cases this
 | x :: a,[],_,_,h=>by have:=(h x).1 (by simp);cases this
 | x :: a,y :: b,ha,hb,h=>by
  have pa:=List.pairwise_cons.1 ha
  have pb:=List.pairwise_cons.1 hb
  have e:x=y:=by
   apply Classical.byContradiction
   intro hne
   have h1:x∈b:=by
    rcases List.mem_cons.1 ((h x).1 (by simp))with k | k
    ·exact absurd k hne
    ·exact k
   have h2:y∈a:=by
    rcases List.mem_cons.1 ((h y).2 (by simp))with k | k
    ·exact absurd k.symm hne
    ·exact k
   exact A3m _ (A30 (pa.1 y h2) (pb.1 x h1))
  subst e
  rw[A8f pa.2 pb.2 fun e=>?_]
  constructor
  ·intro he
   rcases List.mem_cons.1 ((h e).1 (by simp [he]))with k | k
   ·subst k;exact absurd (pa.1 e he) (A3m _)
   ·exact k
  ·intro he
   rcases List.mem_cons.1 ((h e).2 (by simp [he]))with k | k
   ·subst k;exact absurd (pb.1 e he) (A3m _)
   ·exact k
end Go.Proofs.YtokhjapfekbobaaGreat
