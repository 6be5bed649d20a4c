/- Le: lines: the library's sort at entries; copies; what sorted lists come to. Conditions: none. Lf: lines: Sort, Find and what the document says of them. Conditions: sizes. Tt: tomb: in plain words. Conditions: none. Lq: entries in form: how many there are. Conditions: none. Tu: tomb: Check, Less, Within, Order. Conditions: sizes. Lm: lines: Dots, Inside, Outside. Conditions: sizes. Lr: the document's Dots, Inside, Outside. Conditions: sizes. Tv: the document's Check, Less, Within, Order, Copy, Equal. Conditions: sizes. Tw: the law of Within, Order, Less. Conditions: sizes. Kf: keep.Covers, Bars, Fold, Apply. Conditions: sizes. Kg: keep.Covers, Bars, Fold, Apply. Conditions: sizes. EZ: what has been drawn is never taken back: a call leaves the count of draws no smaller. Conditions: none. ET3: slices.SortFunc at a row whose cells lead on, by a comparing call that may lay blocks: the row comes into the one order. Conditions: the comparing is a total order of what the row holds. Ko: records put in order, each once, in plain words. Conditions: none. Lg: lines: the law of Sort and Find. Conditions: sizes. Lh: lines: Union, and the library's Grow and Concat at entries. Conditions: sizes. -/
import Derived.Below
import Derived.OwnWalk
import Derived.WalkKit
import Derived.KernelRfl
import Derived.Laws.MakeOwn
import Derived.Laws.OwnMore
import Derived.Laws.Slices
import Derived.Laws.CopyOwn
import Derived.Laws.AppendOwnNone
import Derived.Laws.Rows
import Derived.Orders
import Derived.Test.YtaiepnaokhpmcaaGreatProg
import Derived.DataReads
import Derived.ChangeOld
import Derived.DataElems
import Derived.SizedLaws
import Derived.ChangeKeysEq
import Derived.Sort.LotA
import Derived.Shelf.SlSortFuncK.RowK2
import Derived.Lib.Walk
import Derived.Shelf.SlLaysE0
import Derived.Shelf.RegionOpenPlain
import Derived.Deep.LoopGhost
import Derived.Lib.SliceRun
import Derived.Shelf.SlSortFuncK.SWK
import Derived.Deep.Cut
import Derived.Deep.CutRange
import Derived.Deep.DeepCutAuto
import Derived.Lib.ReflectliteSwap
import Derived.Laws.Externs
import Derived.Lib.ReflectliteSlice
import Derived.Shelf.SlSortCmp.NoneTotal
import Derived.Lib.Bytealg
import Derived.Calls
import Derived.Lib.AppendZeros
import Derived.Test.YtaiepnaokhpmcaaGreatZt4
set_option linter.unusedVariables false
set_option linter.unusedSimpArgs false
set_option linter.unusedSectionVars false
namespace Go.Proofs.YtaiepnaokhpmcaaGreat
open Go.E
set_option maxRecDepth 100000
set_option maxHeartbeats 4000000
open Go Go.Sort Go.RowKit Go.Lib Go.Shelf Go.Proofs
def renClE:Go.Shelf.Ren:=⟨fun | 41=>159 | n=>n,fun | 4=>4 | 22=>22 | 23=>45 | n=>n,fun n=>n⟩
theorem Bl6:Go.Proofs.SlLaysE0.n41 Tryz.prog renClE:={ mixed:=by kernel_rfl,f41:=⟨Tryz.f159.name,by decide,Tryz.func159.trans (congrArg some (by kernel_rfl))⟩,t4:=Tryz.underlying4,a4:=Tryz.isAgg4,z4:=Tryz.sizeOf4,v4:=Tryz.zeroValue4,t22:=Tryz.underlying22,a22:=Tryz.isAgg22,z22:=Tryz.sizeOf22,v22:=Tryz.zeroValue22 }
theorem con159(es:List Entry)(hl:es.length*40≤140737488355328):A45 Tryz.prog 159 [.sl (es.map c45)] 45 (.row 4 (es.map c45)) :=
 A38 (T:=tab) Bl6 A8 (te:=_) rfl ⟨_,Tryz.func159,by kernel_rfl,by kernel_rfl⟩ (by kernel_rfl) (by decide +kernel) (fun r hr=>by obtain⟨x,_,rfl⟩:=List.mem_map.1 hr;kernel_rfl) (by rw[List.length_map];exact hl)
noncomputable def tiRowE:TypeInfo:=(Tryz.prog.info? 22).get!
noncomputable def tiE:TypeInfo:=(Tryz.prog.info? 45).get!
def swE(n:Nat):Nat:=if n=0 then 211 else if n=1 then 212 else 219
theorem swKE(n:Nat)(h2:2≤n):swapperK n tiE 25=9:=by
 have b:tiE.bytes=40:=by kernel_rfl
 have c:(n == 0)=false:=by simp;omega
 have d:(n == 1)=false:=by simp;omega
 simp [swapperK,b,c,d]
theorem Bl7:SortTy 22 45 4 swE:=by
 refine⟨tiRowE,tiE,25,false,by kernel_rfl,by kernel_rfl,by kernel_rfl,by kernel_rfl,fun _=>by kernel_rfl,fun n=>?_,by kernel_rfl,fun _=>by kernel_rfl,fun n h2=>?_⟩
 ·match n with
  | 0=>show _=some 211;kernel_rfl
  | 1=>show _=some 212;kernel_rfl
  | n+2 =>
   rw[swKE _ (by omega)]
   simp only [swE]
   rw[if_neg (by omega),if_neg (by omega)]
   show _=some 219
   kernel_rfl
 ·have e:swE n=219:=by simp only [swE];rw[if_neg (by omega),if_neg (by omega)]
  rw[e]
  exact fun args W=>run_callFunc_extern Tryz.func219 (by kernel_rfl) (by kernel_rfl) (by kernel_rfl) (e:=Extern.ReflectliteSwapper.swap false) (by kernel_rfl) args W
def ltE(a b:Entry):Bool:=dLt a.dot b.dot
theorem A5v:SWO ltE:=by
 refine⟨fun x=>?_,fun x y z h1 h2=>?_,fun x y z h1 h2=>?_⟩ <;> simp only [ltE,dLt,decide_eq_true_eq,decide_eq_false_iff_not]at*<;> omega
theorem con161(d:List Entry)(i j:Int)(hi0:0≤i)(hj0:0≤j)(hi:i < d.length)(hj:j < d.length):Con Tryz.prog 161 [.i .i64 i,.i .i64 j,.eptr [.sl (d.map c45)]] (.b (ltE d[i.toNat]! d[j.toNat]!)) :=
 by
 refine sC A8 [.tmp 5] 17 Tryz.func161 ?_
 intro e0 cx
 refine sq<|rG cx [0,1,2] [] z0<|sn<|sq<|rA cx [5] [] (fA (0≤i) (fG c45 d i.toNat (fR 4 (fN 2 4 (fA (0≤j) (fG c45 d j.toNat (fR 4 (fN 2 4 (fT (Bc1 (d[i.toNat]!.dot) (d[j.toNat]!.dot)) (oR 2 (c45 d[i.toNat]!) (oR 7 (c45 d[j.toNat]!) (oA 10 (.b (dLt d[i.toNat]!.dot d[j.toNat]!.dot)) z0))))))))))))<|sn<|rT<|qR (.b (dLt d[i.toNat]!.dot d[j.toNat]!.dot)) (.eq ?g0);rotate_left
 case g0=>exact rfl
theorem io160(d:List Entry)(hlen:d.length < 1152921504606846976) :
  Z1 Tryz.prog 160 161 (some 22) true 45 4 (d.map c45) ((d.mergeSort (fun x y=>!ltE y x)).map c45):=by
 refine B62.toG (fun r hr=>by obtain⟨x,_,rfl⟩:=List.mem_map.1 hr;rfl) ?_
 exact B8g (α:=Entry) (encA:=c45) (k:=4) Bl7 (fun x=>rfl)
  (fun x a ha=>by
   simp only [c45,List.mem_cons,List.not_mem_nil,or_false]at ha
   rcases ha with rfl | rfl | rfl | rfl <;> rfl)
  ltE A5v 161 ⟨_,Tryz.func161,by kernel_rfl,by kernel_rfl⟩ ⟨_,Tryz.func160,by kernel_rfl,by kernel_rfl⟩
  (fun d i j hi hj=>by
   have:=con161 d (i:Int) (j:Int) (by omega) (by omega) (by omega) (by omega)
   rw[Int.toNat_natCast,Int.toNat_natCast]at this
   exact this) d hlen
def A2o(es:List Entry):List Entry:=es.mergeSort (fun x y=>!ltE y x)
theorem A1l(es:List Entry):(A2o es).length=es.length:=by simp [A2o]
def Bl8(es:List Entry):Int:=match es.find? (fun e=>decide (R9 e≠0))with | some e=>R9 e | none=>0
def K8(s:List Entry):Nat→Option (List Entry)
 | 0=>some []
 | n+1=>match K8 s n with
  | none=>none
  | some l=>if n=0∨s[n-1]!.dot≠s[n]!.dot then some (l++[s[n]!])else if s[n-1]! = s[n]! then some l else none
def K4(s:List Entry):List Entry×Int:=match K8 s s.length with | some l=>(l,0) | none=>([],10)
def U3(es:List Entry):List Entry×Int:=if Bl8 es=0 then K4 (A2o es)else([],Bl8 es)
theorem Bl9{es:List Entry}(h:∀ j:Nat,j < es.length→R9 es[j]! = 0):Bl8 es=0:=by
 unfold Bl8
 have:es.find? (fun e=>decide (R9 e≠0))=none:=by
  rw[List.find?_eq_none]
  intro x hx
  obtain⟨j,hj,rfl⟩:=List.mem_iff_getElem.1 hx
  have:=h j hj
  rw[getElem!_pos es j hj]at this
  simp [this]
 rw[this]
theorem B8i{es:List Entry}:∀ {i:Nat},i < es.length→¬ R9 es[i]! = 0→(∀ j:Nat,j < i→R9 es[j]! = 0)→Bl8 es=R9 es[i]!:=by
 induction es with
 | nil=>intro i hi;simp at hi
 | cons e es ih =>
  intro i hi hb hok
  cases i with
  | zero =>
   have hb':¬ R9 e=0:=by simpa using hb
   unfold Bl8
   simp [List.find?_cons,hb']
  | succ i =>
   have h0:R9 e=0:=by simpa using hok 0 (by omega)
   have:=ih (i:=i) (by simpa using hi) (by simpa using hb) (fun j hj=>by simpa using hok (j+1) (by omega))
   unfold Bl8 at this ⊢
   simpa [List.find?_cons,h0]using this
theorem A7p{s:List Entry}{n:Nat}(h:K8 s n=none):∀ m,K8 s (n+m)=none
 | 0=>h
 | m+1=>by rw[← Nat.add_assoc,K8,A7p h m]
theorem Ag5{s:List Entry}:∀ {n:Nat} {l:List Entry},K8 s n=some l→∀ m,m < n→m=0∨s[m-1]!.dot≠s[m]!.dot∨s[m-1]! = s[m]!
 | 0,l,h,m,hm=>by omega
 | n+1,l,h,m,hm=>by
  rw[K8]at h
  split at h
  ·cases h
  ·rename_i l0 h0
   by_cases e:m=n
   ·subst e
    split at h
    ·rename_i hc
     exact hc.imp id .inl
    ·split at h
     ·rename_i hc;exact .inr (.inr hc)
     ·cases h
   ·exact Ag5 h0 m (by omega)
def A3u(s:List Entry):Prop:=s.Pairwise (fun x y=>(!ltE y x)=true)
theorem A3f {s : List Entry} (hs : A3u s) {l : List Entry} (h : K8 s s.length = some l) : ∀ i j : Nat, i ≤ j → j < s.length → s[i]!.dot = s[j]!.dot → s[i]! = s[j]! := by
  intro i j hij
  induction j with
  | zero => intro hj he; have : i = 0 := by omega
            rw[this]
  | succ j ih =>
    intro hj he
    by_cases e:i=j+1
    · rw[e]
    · have hp := List.pairwise_iff_getElem.1 hs
      have h1 : i = j ∨ (!ltE s[j]! s[i]!) = true := by
        by_cases e2:i=j
        · exact .inl e2
        · right
          have:=hp i j (by omega) (by omega) (by omega)
          rwa [← getElem!_pos s i (by omega),← getElem!_pos s j (by omega)]at this
      have h2:=hp j (j+1) (by omega) hj (by omega)
      rw[← getElem!_pos s j (by omega),← getElem!_pos s (j+1) hj]at h2
      have hd : s[i]!.dot = s[j]!.dot := by
        rcases h1 with h1 | h1
        · rw[h1]
        · have e3 : s[j]!.dot.rep = s[i]!.dot.rep ∧ s[j]!.dot.num = s[i]!.dot.num := by
            simp only [ltE,dLt,Bool.not_eq_true',decide_eq_false_iff_not]at h1 h2
            rw[← he]at h2
            omega
          cases hx:s[i]!.dot;cases hy:s[j]!.dot
          rw[hx,hy]at e3
          simp only at e3
          rw[e3.1,e3.2]
      have h3:=Ag5 h (j+1) hj
      rcases h3 with h3 | h3 | h3
      · omega
      · simp only [Nat.add_sub_cancel] at h3
        exact absurd (by rw[← hd,he]) h3
      · simp only [Nat.add_sub_cancel] at h3
        rw[← h3]
        exact ih (by omega) (by omega) (by rw[he,h3])
theorem B15{s t:List Entry}(hp:s.Perm t)(hs:A3u s)(ht:A3u t):K4 s=K4 t:=by
 have key:∀ {a b:List Entry},a.Perm b→A3u a→A3u b→∀ {l},K8 a a.length=some l→a=b:=by
  intro a b hp ha hb l h
  refine List.Perm.eq_of_pairwise (le:=fun x y=>(!ltE y x)=true) ?_ ha hb hp
  intro x y hx hy h1 h2
  have hy':=hp.symm.subset hy
  obtain⟨i,hi,rfl⟩:=List.mem_iff_getElem.1 hx
  obtain⟨j,hj,rfl⟩:=List.mem_iff_getElem.1 hy'
  have hd:a[i].dot=a[j].dot:=by
   simp only [ltE,dLt,Bool.not_eq_true',decide_eq_false_iff_not]at h1 h2
   have e3:a[i].dot.rep=a[j].dot.rep∧a[i].dot.num=a[j].dot.num:=by omega
   cases hx:a[i].dot;cases hy:a[j].dot
   rw[hx,hy]at e3
   simp only at e3
   rw[e3.1,e3.2]
  by_cases hij:i≤j
  ·have:=A3f ha h i j hij hj (by rw[getElem!_pos a i hi,getElem!_pos a j hj];exact hd)
   rwa [getElem!_pos a i hi,getElem!_pos a j hj]at this
  ·have:=A3f ha h j i (by omega) hi (by rw[getElem!_pos a i hi,getElem!_pos a j hj];exact hd.symm)
   rw[getElem!_pos a i hi,getElem!_pos a j hj]at this
   exact this.symm
 cases h1:K8 s s.length with
 | some l=>rw[key hp hs ht h1]
 | none =>
  cases h2:K8 t t.length with
  | some l=>rw[key hp.symm ht hs h2]
  | none=>simp [K4,h1,h2]
theorem A3g(es:List Entry):A3u (A2o es):=by
 refine List.pairwise_mergeSort (le:=fun x y=>!ltE y x) ?_ ?_ es
 ·intro a b c h1 h2
  simp only [Bool.not_eq_true']at *
  exact A5v.ntrans _ _ _ h2 h1
 ·intro a b
  cases h:ltE b a with
  | false=>rfl
  | true=>simp [A5v.asymmA h]
theorem A5w(s:List Entry):(K4 s).1.length≤s.length:=by
 have:∀ n l,K8 s n=some l→l.length≤n:=by
  intro n
  induction n with
  | zero=>intro l h;simp [K8]at h;simp [← h]
  | succ n ih =>
   intro l h
   rw[K8]at h
   split at h
   ·cases h
   ·rename_i l0 h0
    have:=ih l0 h0
    split at h
    ·simp only [Option.some.injEq]at h;rw[← h];simp;omega
    ·split at h
     ·simp only [Option.some.injEq]at h;rw[← h];omega
     ·cases h
 unfold K4
 split
 ·rename_i l h;exact this _ _ h
 ·simp
theorem B4t(es:List Entry):(U3 es).1.length≤es.length:=by
 unfold U3
 split
 ·have:=A5w (A2o es)
  rwa [A1l]at this
 ·simp
def B4u(es:List Entry)(i:Int):Prop:=0≤i∧i≤es.length∧∀ j:Nat,(j:Int) < i→R9 es[j]! = 0
end Go.Proofs.YtaiepnaokhpmcaaGreat
namespace Go.Proofs.YtaiepnaokhpmcaaGreat
open Go.E
set_option maxRecDepth 100000
set_option maxHeartbeats 4000000
def I3(a b:Entry)(m:Int):Bool:=if m=1 then decide (¬(sLt a.sku b.sku=true∨a.sku=b.sku))else dLt b.dot a.dot
def leM(m:Int)(a b:Entry):Bool:=!I3 a b m
def B16(s:List Entry)(i:Int)(l:List Entry):Prop:=0≤i∧i≤s.length∧K8 s i.toNat=some l∧(l.length:Int)≤i
def dec57(s:List Entry)(i:Int)(l:List Entry):Nat:=(s.length-i).toNat
def Ax1(s:List Entry)(i:Int)(a l:List Entry):Prop:=a=s∧0≤i∧i≤s.length∧K8 s i.toNat=some l∧(l.length:Int)≤i
def dec25c(s:List Entry)(i:Int)(a l:List Entry):Nat:=(s.length-i).toNat
def B7(es:List Entry)(d:Dot):Entry×Bool:=match es.find? (fun e=>decide (e.dot=d))with | some e=>(e,true) | none=>(default,false)
def B17(es:List Entry)(d:Dot)(i r n a b:Int)(s:ByteArray)(q:Int):Prop:=0≤i∧i≤es.length∧r=d.rep∧n=d.num∧∀ j:Nat,(j:Int) < i→¬ es[j]!.dot=d
def dec28(es:List Entry)(i r n a b:Int)(s:ByteArray)(q:Int):Nat:=(es.length-i).toNat
def A1m{α:Type}(es:List α)(i:Int)(l:List α):Prop:=l=es.take i.toNat
def Ag6(es:List Entry)(i:Int)(l:List Entry):Prop:=0≤i∧i≤es.length∧(l.length:Int)=i∧A1m es i l
def dec58a(es:List Entry)(i:Int)(l:List Entry):Nat:=(es.length-i).toNat
theorem Ag7{es:List Entry}{i:Nat}(hi:i < es.length)(hb:¬ R9 es[i]! = 0)(hok:∀ j:Nat,j < i→R9 es[j]! = 0):U3 es=([],R9 es[i]!):=by
 have:=B8i hi hb hok
 unfold U3
 rw[this,if_neg hb]
theorem A2p{es:List Entry}(hok:∀ j:Nat,j < es.length→R9 es[j]! = 0):U3 es=K4 (A2o es):=by
 unfold U3
 rw[if_pos (Bl9 hok)]
theorem A3h{s l:List Entry}{i:Int}(h0:0≤i)(h:K8 s i.toNat=some l) :
  K8 s (i+1).toNat=if ¬(0 < i∧s[(i-1).toNat]!.dot=s[i.toNat]!.dot)then some (l++[s[i.toNat]!])else if s[(i-1).toNat]! = s[i.toNat]! then some l else none:=by
 have e:(i+1).toNat=i.toNat+1:=by omega
 have e2:(i-1).toNat=i.toNat-1:=by omega
 rw[e,K8,h,e2]
 have hc:(i.toNat=0∨s[i.toNat-1]!.dot≠s[i.toNat]!.dot)↔¬(0 < i∧s[i.toNat-1]!.dot=s[i.toNat]!.dot):=by
  constructor
  ·rintro(h | h) ⟨h1,h2⟩
   ·omega
   ·exact h h2
  ·intro h
   by_cases z:i.toNat=0
   ·exact .inl z
   ·exact .inr fun g=>h ⟨by omega,g⟩
 simp only [hc]
theorem Ax2{s l:List Entry}{i:Int}(h0:0≤i)(h:K8 s i.toNat=some l)(hi:i < s.length)(hl:(l.length:Int)≤i)(hc:¬(0 < i∧s[(i-1).toNat]!.dot=s[i.toNat]!.dot)):B16 s (i+1) (l++[s[i.toNat]!]) :=
 ⟨by omega,by omega,by rw[A3h h0 h,if_pos hc],by simp;omega⟩
theorem Ag8{s l:List Entry}{i:Int}(h0:0≤i)(h:K8 s i.toNat=some l)(hi:i < s.length)(hl:(l.length:Int)≤i)(hc:0 < i∧s[(i-1).toNat]!.dot=s[i.toNat]!.dot)(he:¬ ¬ s[(i-1).toNat]! = s[i.toNat]!):B16 s (i+1) l :=
 ⟨by omega,by omega,by rw[A3h h0 h,if_neg (fun k=>k hc),if_pos (Classical.not_not.1 he)],by omega⟩
theorem A0o{s l:List Entry}{i:Int}(h0:0≤i)(h:K8 s i.toNat=some l)(hi:i < s.length)(hc:0 < i∧s[(i-1).toNat]!.dot=s[i.toNat]!.dot)(he:¬ s[(i-1).toNat]! = s[i.toNat]!):K4 s=([],10):=by
 have h1:K8 s (i+1).toNat=none:=by rw[A3h h0 h,if_neg (fun k=>k hc),if_neg he]
 have h2:=A7p h1 (s.length-(i+1).toNat)
 rw[show(i+1).toNat+(s.length-(i+1).toNat)=s.length by omega]at h2
 unfold K4
 rw[h2]
theorem A4h{s l:List Entry}{i:Int}(h0:0≤i)(h:K8 s i.toNat=some l)(h1:i≤s.length)(hi:¬ i < s.length):K4 s=(l,0):=by
 unfold K4
 rw[show s.length=i.toNat by omega,h]
theorem A4i{s:List Entry}{i:Int}(h0:0≤i):(i=0∨¬ s[i.toNat]!.dot=s[(i-1).toNat]!.dot)↔¬(0 < i∧s[(i-1).toNat]!.dot=s[i.toNat]!.dot):=by
 constructor
 ·rintro(h | h) ⟨h1,h2⟩
  ·omega
  ·exact h h2.symm
 ·intro h
  by_cases z:i=0
  ·exact .inl z
  ·exact .inr fun g=>h ⟨by omega,g.symm⟩
theorem Ap4(es:List Entry):Ag6 es 0 []:=⟨by omega,by omega,by simp,by simp [A1m]⟩
theorem Ap5{es l:List Entry}{i:Int}(h0:0≤i)(h:i < es.length)(hl:(l.length:Int)=i)(hn:A1m es i l):Ag6 es (i+1) (l++[es[i.toNat]!]) :=
 ⟨by omega,by omega,by simp;omega,by unfold A1m at *;rw[hn,C8 h0 h]⟩
theorem Ap6{es l:List Entry}{i m:Int}(h0:i≤es.length)(h:¬ i < es.length)(hl:(l.length:Int)=i)(hn:A1m es i l):B0y (leM m) es l.length 1 l:=by
 have e:l=es:=by unfold A1m at hn;rw[hn,List.take_of_length_le (by omega)]
 rw[e]
 exact B14 rfl
theorem B4v(m:Int)(a b:Entry):leM m a b=true↔¬ I3 a b m=true:=by unfold leM;cases I3 a b m <;> simp
theorem Ap7{C D:Prop}{k:Int}{l:List Entry}{f mid e i j:Int}{m0 l' m:List Entry}(h6:m++List.merge (R1 l i mid) (R1 l j e) (leM k)=m0++List.merge (R1 l f mid) (R1 l mid e) (leM k))(hle:C∨(D∧¬ I3 l'[i.toNat]! l'[j.toNat]! k=true))(hC:C→e≤j)(hf:0≤f)(hm:mid≤l.length)(he:e≤l.length)(h0:l'=l)(h1:f≤i)(h2:i≤mid)(h3:mid≤j)(h4:j≤e)(h5:(m.length:Int)=i+(j-mid))
  (hi:i < mid):A05 (leM k) l f mid e m0 (i+1) j l' (m++[l'[i.toNat]!]) :=
 A7o hf hm he h0 h1 h2 h3 h4 h5 h6 hi (hle.imp hC fun h=>(B4v _ _ _).2 h.2)
theorem Ap8{k:Int}{l:List Entry}{f mid e i j:Int}{m0 l' m:List Entry}(h6:m++List.merge (R1 l i mid) (R1 l j e) (leM k)=m0++List.merge (R1 l f mid) (R1 l mid e) (leM k))(hle:e≤j)(hf:0≤f)(hm:mid≤l.length)(he:e≤l.length)(h0:l'=l)(h1:f≤i)(h2:i≤mid)(h3:mid≤j)(h4:j≤e)(h5:(m.length:Int)=i+(j-mid))
  (hi:i < mid):A05 (leM k) l f mid e m0 (i+1) j l' (m++[l'[i.toNat]!]) :=
 A7o hf hm he h0 h1 h2 h3 h4 h5 h6 hi (.inl hle)
theorem Ag9{C D:Prop}{k:Int}{l:List Entry}{f mid e i j:Int}{m0 l' m:List Entry}(h6:m++List.merge (R1 l i mid) (R1 l j e) (leM k)=m0++List.merge (R1 l f mid) (R1 l mid e) (leM k))(hle:¬(C∨(D∧¬ I3 l'[i.toNat]! l'[j.toNat]! k=true)))(hD:i < mid→D)(hf:0≤f)(hm:mid≤l.length)(he:e≤l.length)(h0:l'=l)(h1:f≤i)(h2:i≤mid)(h3:mid≤j)(h4:j≤e)(h5:(m.length:Int)=i+(j-mid))
  (hj:j < e):A05 (leM k) l f mid e m0 i (j+1) l' (m++[l'[j.toNat]!]) :=
 Ap3 hf hm he h0 h1 h2 h3 h4 h5 h6 hj fun h=>hle (.inr ⟨hD h.1,(B4v _ _ _).1 h.2⟩)
theorem fin58{es l:List Entry}{n w m:Int}(hb:A1k (leM m) w.toNat l=A1k (leM m) 1 es)(hl:(l.length:Int)=n)(h:¬ w < n)(hw:1≤w):AV.sl (l.map c45)=AV.sl ((A1k (leM m) 1 es).map c45):=by
 rw[← hb,A2l _ (by omega)]
theorem A99{es:List Entry}{d:Dot}:∀ {i:Nat},i < es.length→es[i]!.dot=d→(∀ j:Nat,j < i→¬ es[j]!.dot=d)→B7 es d=(es[i]!,true):=by
 induction es with
 | nil=>intro i hi;simp at hi
 | cons e es ih =>
  intro i hi hb hok
  cases i with
  | zero =>
   have hb':e.dot=d:=by simpa using hb
   unfold B7
   simp [List.find?_cons,hb']
  | succ i =>
   have h0:¬ e.dot=d:=by simpa using hok 0 (by omega)
   have:=ih (i:=i) (by simpa using hi) (by simpa using hb) (fun j hj=>by simpa using hok (j+1) (by omega))
   unfold B7 at this ⊢
   simpa [List.find?_cons,h0]using this
theorem A9a{es:List Entry}{d:Dot}(h:∀ j:Nat,j < es.length→¬ es[j]!.dot=d):B7 es d=(default,false):=by
 unfold B7
 have:es.find? (fun e=>decide (e.dot=d))=none:=by
  rw[List.find?_eq_none]
  intro x hx
  obtain⟨j,hj,rfl⟩:=List.mem_iff_getElem.1 hx
  have:=h j hj
  rw[getElem!_pos es j hj]at this
  simpa using this
 rw[this]
theorem Bc4(a b:Entry)(m:Int):Con Tryz.prog 170 [.agg (c45 a),.agg (c45 b),.i .i64 m] (.b (I3 a b m)) :=
 by
 refine sC A8 [.tmp 6] 19 Tryz.func170 ?_
 intro e0 cx
 refine sq<|rG cx [2,3,4] [3,4] z0<|sn<|sq<|rD cx [3,4,8] [3,4] (zB 1 (m=1)) (fun h0=>?_) fun h0=>?_
 refine sq<|rG cx [6] [] (tT 4 (As6:(AV.b !(Op.bytesLess a.sku.toList b.sku.toList || a.sku.toList == b.sku.toList))=AV.b (decide ¬(sLt a.sku b.sku=true∨a.sku=b.sku))) z0)<|sn<|rT<|nR<|qR (.b (decide ¬(sLt a.sku b.sku=true∨a.sku=b.sku))) (.eq (by exact(by rw[I3,if_pos h0])))
 refine sK<|sn<|sq<|rG cx [6] [] (fT (con78 (b.dot) (a.dot)) (oA 4 (.b (dLt b.dot a.dot)) z0))<|sn<|rT<|qR (.b (dLt b.dot a.dot)) (.eq (by exact(by rw[I3,if_neg h0])))
theorem con118(es:List Entry)(hl:es.length*40≤140737488355328):Con Tryz.prog 118 [.sl (es.map c45)] (.tup [.sl ((U3 es).1.map c45),.i .i64 (U3 es).2]) :=
 by
 have hL:(es.mergeSort fun x y=>!ltE y x).length=es.length:=by simp
 have hS:=A1l es
 refine lN 0 c45 (es) Tryz.func118 fun hl_0=>sC A8 [.tmp 2,.tmp 3] 62 Tryz.func118 ?_
 intro e0 cx
 refine sq<|rG cx [0] [] z0<|sn<|sq<|sq<|rG cx [0,11,12,13] [] (tL 1 c45 es z0)<|sn<|bL 0<|sL (X:=Int) (fun x=>⟨[(0,.sl (List.map c45 es)),(11,.sl (List.map c45 es)),(12,.i .i64 ((↑es.length:Int))),(13,.i .i64 (x))],[]⟩) (fun x ↦ dec30i es x) (fun x ↦ B4u es x) [0,11,12,13] [] ((0:Int)) (show B4u es (0:Int)from ?g0) ?_;rotate_left
 intro i0 h_1
 obtain⟨hh2,hh3,hh4⟩:0≤i0∧i0≤(↑es.length:Int)∧∀(j:Nat),(↑j:Int) < i0→R9 es[j]! =(0:Int):=h_1
 refine rE cx [0,11,12,13,14] [] (zB 0 (i0 <(↑es.length:Int))) (fun h5=>?_) fun h5=>?_
 refine sK<|sn<|sq<|bL 1<|sq<|rG cx [0,11,12,13,5] [5] (fA (0≤i0) (fG c45 es i0.toNat (fR 4 (fN 4 4 (oR 0 (c45 es[i0.toNat]!) z0)))))<|sn<|sq<|rG cx [0,11,12,13,6] [] (fT (Aw6 (es[i0.toNat]!)) (oA 1 (.i .i64 (R9 es[i0.toNat]!)) z0))<|sn<|sq<|rG cx [0,11,12,13,6,20] [] (tN 1 (R9 es[i0.toNat]!) (0:Int) z0)<|sn<|dC (¬R9 es[i0.toNat]! =(0:Int)) (fun h6=>?_) fun h6=>?_
 refine sq<|rG cx [2,3] [] z0<|sn<|rT<|bR<|nR<|nR<|bR<|nR<|qR (.tup [.nl,.i .i64 (R9 es[i0.toNat]!)]) (B6.tup (ZLe.cons (B6.nl' (show List.map c45 (U3 es).1=[]from ?g2)) (ZLe.cons (B6.eq (show AV.i .i64 (R9 es[i0.toNat]!)=AV.i .i64 (U3 es).2 from ?g1)) ZLe.nil)));rotate_left 2
 refine sK<|bN<|sn<|rG cx [0,11,12,13] [] (tW 0 (i0+1) z0)<|sn<|nX (i0+1) (show((↑es.length:Int)-(i0+1)).toNat <((↑es.length:Int)-i0).toNat from(by omega)) (show B4u es (i0+1)from ?g3);rotate_left
 refine eX 0<|nE<|nE<|bH<|sn<|sq<|rG cx [7] [24,7] (fT (con159 (es) (by(with_reducible assumption))) (oV 1 { val:=some (.own (45:Nat) (4:Nat)),rows:=some (List.map c45 es) } z0))<|sn<|sq<|rG cx [7] [24,7] (fR (AV.own (24) (0)) (fP (Z1 Tryz.prog (160:FuncId) (161:FuncId) (some (22:Nat)) true (45:Nat) (4:Nat) (List.map c45 es) (List.map c45 (es.mergeSort fun x y ↦ !ltE y x))) (io160 (es) (by omega)) (oV 3 { rows:=some (List.map c45 (es.mergeSort fun x y ↦ !ltE y x)) } z0)))<|sn<|sq<|rG cx [7,8] [24,7] z0<|sn<|sq<|sq<|rG cx [7,8,29,30,31] [24,7] (tL 1 c45 (es.mergeSort fun x y ↦ !ltE y x) z0)<|sn<|bL 2<|E6 8 1008 45 4 (σ':=⟨[(7,.ptr (7) (0) (0) (0)),(8,.own 1008 0),(29,.own 24 0),(30,.i .i64 ((↑(es.mergeSort fun x y ↦ !ltE y x).length:Int))),(31,.i .i64 ((0:Int)))],[(24,⟨0,45,.row 4 (List.map c45 (es.mergeSort fun x y ↦ !ltE y x))⟩),(7,⟨0,22,.var [.own 24 0]⟩),(1008,⟨0,45,.row 4 (List.map c45 [])⟩)]⟩) (by kernel_rfl)<|sL (X:=Int×List Entry×List Entry) (fun x=>⟨[(7,.ptr (7) (0) (0) (0)),(8,.own 1008 0),(29,.own 24 0),(30,.i .i64 ((↑(es.mergeSort fun x y ↦ !ltE y x).length:Int))),(31,.i .i64 (x.1))],[(24,⟨0,45,.row 4 (List.map c45 x.2.1)⟩),(7,⟨0,22,.var [.own 24 0]⟩),(1008,⟨0,45,.row 4 (List.map c45 x.2.2)⟩)]⟩) (fun x ↦ dec25c (A2o es) x.1 x.2.1 x.2.2) (fun x ↦ Ax1 (A2o es) x.1 x.2.1 x.2.2) [7,8,29,30,31] [24,7,1008] (((0:Int),es.mergeSort fun x y ↦ !ltE y x,[])) (show Ax1 (A2o es) (0:Int) (es.mergeSort fun x y ↦ !ltE y x) []from ?g4) ?_;rotate_left
 rintro⟨ii7,a8,l9⟩ h_10
 obtain⟨h11,h12,h13,h14,h15⟩:a8=A2o es∧0≤ii7∧ii7≤(↑(A2o es).length:Int)∧K8 (A2o es) ii7.toNat=some l9∧(↑l9.length:Int)≤ii7:=h_10
 refine rE cx [7,8,29,30,31,32] [24,7,1008] (zB 0 (ii7 <(↑(es.mergeSort fun x y ↦ !ltE y x).length:Int))) (fun h16=>?_) fun h16=>?_
 refine sK<|sn<|sq<|bL 3<|sq<|rG cx [7,8,29,30,31,10,9] [24,7,1008,10] (fA (0≤ii7) (fP (ii7.toNat <(List.map c45 a8).length) ?g5 (fR 4 (fP (E.rowAt { ver:=0,ty:=45,k:=BK.row (4) (List.map c45 a8):Blk } ii7.toNat (c45 a8[ii7.toNat]!)) ?g6 (fP (0+(4:Nat)≤(c45 a8[ii7.toNat]!).length) ?g7 (oR 2 (c45 a8[ii7.toNat]!) z0)))))) ?_;rotate_left 3
 refine sn<|sq<|sq<|B1 (σ':=⟨[(7,.ptr (7) (0) (0) (0)),(8,.own 1008 0),(29,.own 24 0),(30,.i .i64 ((↑(es.mergeSort fun x y ↦ !ltE y x).length:Int))),(31,.i .i64 (ii7)),(10,.ptr (10) (0) (0) (0)),(9,.i .i64 (ii7)),(48,.b (decide ((0:Int) < ii7∧a8[(ii7-1).toNat]!.dot=a8[ii7.toNat]!.dot)))],[(24,⟨0,45,.row 4 (List.map c45 a8)⟩),(7,⟨0,22,.var [.own 24 0]⟩),(1008,⟨0,45,.row 4 (List.map c45 l9)⟩),(10,⟨0,45,.var [.i .i64 (a8[ii7.toNat]!.dot.rep),.i .i64 (a8[ii7.toNat]!.dot.num),.s (a8[ii7.toNat]!.sku),.i .i64 (a8[ii7.toNat]!.qty)]⟩)]⟩) ?_ ?_
 refine A4 ((0:Int) < ii7) (fun h18=>?_) (fun h18=>?_)
 refine rA cx [7,8,29,30,31,10,9,48] [24,7,1008,10] (tT 1 (A7 h18) (tT 5 (B4 (by omega) ?g8:AV.i .i64 (IntKind.i64.wrap (ii7-1))=AV.i .i64 (ii7-1)) (fO (0≤ii7-1) (fP ((ii7-1).toNat <(List.map c45 a8).length) ?g9 (fR 4 (fP (E.rowAt { ver:=0,ty:=45,k:=BK.row (4) (List.map c45 a8):Blk } (ii7-1).toNat (c45 a8[(ii7-1).toNat]!)) ?g10 (fP (0+(2:Nat)≤(c45 a8[(ii7-1).toNat]!).length) ?g11 (fT (eq43 a8[(ii7-1).toNat]!.dot a8[ii7.toNat]!.dot) (tD 12 (decide (a8[(ii7-1).toNat]!.dot=a8[ii7.toNat]!.dot)) ((0:Int) < ii7∧a8[(ii7-1).toNat]!.dot=a8[ii7.toNat]!.dot) (by simp only [eq_true h18,tsl]) (oR 8 (c45 a8[(ii7-1).toNat]!) (oA 11 (.b (decide (a8[(ii7-1).toNat]!.dot=a8[ii7.toNat]!.dot))) z0))))))))))) ?_;rotate_left 4
 exact⟨rfl,by kernel_rfl⟩
 refine rA cx [7,8,29,30,31,10,9,48] [24,7,1008,10] (tT 1 (A0 h18) (tD 12 false ((0:Int) < ii7∧a8[(ii7-1).toNat]!.dot=a8[ii7.toNat]!.dot) (by simp only [eq_false h18,tsl]) z0)) ?_
 exact⟨rfl,by kernel_rfl⟩
 refine sn<|dC ((0:Int) < ii7∧a8[(ii7-1).toNat]!.dot=a8[ii7.toNat]!.dot) (fun h19=>?_) fun h19=>?_
 refine sq<|sq<|rA cx [7,8,29,30,31,55] [24,7,1008] (tT 2 (B4 (by omega) ?g12:AV.i .i64 (IntKind.i64.wrap (ii7-1))=AV.i .i64 (ii7-1)) (fO (0≤ii7-1) (fP ((ii7-1).toNat <(List.map c45 a8).length) ?g13 (fR 4 (fP (E.rowAt { ver:=0,ty:=45,k:=BK.row (4) (List.map c45 a8):Blk } (ii7-1).toNat (c45 a8[(ii7-1).toNat]!)) ?g14 (fP (0+(4:Nat)≤(c45 a8[(ii7-1).toNat]!).length) ?g15 (fT (M5 (Bg3 a8[(ii7-1).toNat]! a8[ii7.toNat]!)) (oR 4 (c45 a8[(ii7-1).toNat]!) (oA 6 (.b (decide ¬a8[(ii7-1).toNat]! = a8[ii7.toNat]!)) z0))))))))) ?_;rotate_left 4
 refine sn<|dC (¬a8[(ii7-1).toNat]! = a8[ii7.toNat]!) (fun h20=>?_) fun h20=>?_
 refine sq<|rG cx [2,3] [] z0<|sn<|rT<|nR<|nR<|bR<|nR<|nR<|bR<|nR<|qR (.tup [.nl,.i .i64 ((10:Int))]) (B6.tup (ZLe.cons (B6.nl' (show List.map c45 (U3 es).1=[]from ?g17)) (ZLe.cons (B6.eq (show AV.i .i64 10=AV.i .i64 (U3 es).2 from ?g16)) ZLe.nil)));rotate_left 2
 refine sK<|sn<|eX 3<|nE<|bH<|sn<|rG cx [7,8,29,30,31] [24,7,1008] (tT 0 (B4 (by omega) ?g18:AV.i .i64 (IntKind.i64.wrap (ii7+1))=AV.i .i64 (ii7+1)) z0) ?_;rotate_left
 refine sn<|nX ((ii7+1,a8,l9)) (show((↑(A2o es).length:Int)-(ii7+1)).toNat <((↑(A2o es).length:Int)-ii7).toNat from ?g19) (show Ax1 (A2o es) (ii7+1) a8 l9 from ?g20);rotate_left 2
 refine sK<|sn<|rG cx [7,8,29,30,31] [24,7,1008] (fR 45 (fR 4 (fR 4 (fX c45 [a8[ii7.toNat]!] 4 (fP ((List.map c45 l9).length+(List.map c45 [a8[ii7.toNat]!]).length≤maxLen) ?g21 (fP (((List.map c45 l9).length+(List.map c45 [a8[ii7.toNat]!]).length)*(40:Nat)≤(140737488355328:Nat)) ?g22 (fM c45 l9 [a8[ii7.toNat]!] (oV 3 { rows:=some (List.map c45 (l9++[a8[ii7.toNat]!])) } z0)))))))) ?_;rotate_left 2
 refine bN<|sn<|rG cx [7,8,29,30,31] [24,7,1008] (tT 0 (B4 (by omega) ?g23:AV.i .i64 (IntKind.i64.wrap (ii7+1))=AV.i .i64 (ii7+1)) z0) ?_;rotate_left
 refine sn<|nX ((ii7+1,a8,l9++[a8[ii7.toNat]!])) (show((↑(A2o es).length:Int)-(ii7+1)).toNat <((↑(A2o es).length:Int)-ii7).toNat from ?g24) (show Ax1 (A2o es) (ii7+1) a8 (l9++[a8[ii7.toNat]!])from ?g25);rotate_left 2
 refine eX 2<|nE<|nE<|bH<|sn<|sq<|rG cx [2,3] [1008] z0<|sn<|rT<|qR (.tup [.sl (List.map c45 l9),.i .i64 ((0:Int))]) (B6.tup (ZLe.cons (B6.eq (show AV.sl (List.map c45 l9)=AV.sl (List.map c45 (U3 es).1)from ?g27)) (ZLe.cons (B6.eq (show AV.i .i64 0=AV.i .i64 (U3 es).2 from ?g26)) ZLe.nil)));rotate_left 2
 rotate_left
 revert i0 hh2 hh3 hh4 h5 h6;rotate_left
 revert i0 hh2 hh3 hh4 h5 h6;rotate_left
 revert i0 hh2 hh3 hh4 h5 h6;rotate_left
 revert i0 hh2 hh3 hh4 h5;rotate_left
 revert i0 hh2 hh3 hh4 h5 ii7 a8 l9 h11 h12 h13 h14 h15 h16;rotate_left
 revert i0 hh2 hh3 hh4 h5 ii7 a8 l9 h11 h12 h13 h14 h15 h16;rotate_left
 revert i0 hh2 hh3 hh4 h5 ii7 a8 l9 h11 h12 h13 h14 h15 h16;rotate_left
 revert i0 hh2 hh3 hh4 h5 ii7 a8 l9 h11 h12 h13 h14 h15 h16 h18;rotate_left
 revert i0 hh2 hh3 hh4 h5 ii7 a8 l9 h11 h12 h13 h14 h15 h16 h18;rotate_left
 revert i0 hh2 hh3 hh4 h5 ii7 a8 l9 h11 h12 h13 h14 h15 h16 h18;rotate_left
 revert i0 hh2 hh3 hh4 h5 ii7 a8 l9 h11 h12 h13 h14 h15 h16 h18;rotate_left
 revert i0 hh2 hh3 hh4 h5 ii7 a8 l9 h11 h12 h13 h14 h15 h16 h19;rotate_left
 revert i0 hh2 hh3 hh4 h5 ii7 a8 l9 h11 h12 h13 h14 h15 h16 h19;rotate_left
 revert i0 hh2 hh3 hh4 h5 ii7 a8 l9 h11 h12 h13 h14 h15 h16 h19;rotate_left
 revert i0 hh2 hh3 hh4 h5 ii7 a8 l9 h11 h12 h13 h14 h15 h16 h19;rotate_left
 revert i0 hh2 hh3 hh4 h5 ii7 a8 l9 h11 h12 h13 h14 h15 h16 h19 h20;rotate_left
 revert i0 hh2 hh3 hh4 h5 ii7 a8 l9 h11 h12 h13 h14 h15 h16 h19 h20;rotate_left
 revert i0 hh2 hh3 hh4 h5 ii7 a8 l9 h11 h12 h13 h14 h15 h16 h19 h20;rotate_left
 revert i0 hh2 hh3 hh4 h5 ii7 a8 l9 h11 h12 h13 h14 h15 h16 h19 h20;rotate_left
 revert i0 hh2 hh3 hh4 h5 ii7 a8 l9 h11 h12 h13 h14 h15 h16 h19 h20;rotate_left
 revert i0 hh2 hh3 hh4 h5 ii7 a8 l9 h11 h12 h13 h14 h15 h16 h19;rotate_left
 revert i0 hh2 hh3 hh4 h5 ii7 a8 l9 h11 h12 h13 h14 h15 h16 h19;rotate_left
 revert i0 hh2 hh3 hh4 h5 ii7 a8 l9 h11 h12 h13 h14 h15 h16 h19;rotate_left
 revert i0 hh2 hh3 hh4 h5 ii7 a8 l9 h11 h12 h13 h14 h15 h16 h19;rotate_left
 revert i0 hh2 hh3 hh4 h5 ii7 a8 l9 h11 h12 h13 h14 h15 h16 h19;rotate_left
 revert i0 hh2 hh3 hh4 h5 ii7 a8 l9 h11 h12 h13 h14 h15 h16;rotate_left
 revert i0 hh2 hh3 hh4 h5 ii7 a8 l9 h11 h12 h13 h14 h15 h16;rotate_left
 case g1=>intro i h0 h1 h2 h3 h4;rw[Ag7 (by omega) h4 (fun j hj=>h2 j (by omega))]
 case g2=>intro i h0 h1 h2 h3 h4;rw[Ag7 (by omega) h4 (fun j hj=>h2 j (by omega))];rfl
 case g3 =>
  intro i h0 h1 h2 h3 h4
  refine⟨by omega,by omega,fun j hj=>?_⟩
  by_cases e:j=i.toNat
  ·rw[e];exact Classical.not_not.1 h4
  ·exact h2 j (by omega)
 case g4=>intro i h0 h1 h2 h3;exact⟨rfl,by omega,by omega,rfl,by simp⟩
 case g16=>intro i h0 h1 h2 h3 i7 a l k0 k1 k2 k3 k4 k5 k6 k7;subst k0;rw[A2p (fun j hj=>h2 j (by omega)),A0o k1 k3 (by omega) k6 k7]
 case g17=>intro i h0 h1 h2 h3 i7 a l k0 k1 k2 k3 k4 k5 k6 k7;subst k0;rw[A2p (fun j hj=>h2 j (by omega)),A0o k1 k3 (by omega) k6 k7];rfl
 case g20=>intro i h0 h1 h2 h3 i7 a l k0 k1 k2 k3 k4 k5 k6 k7;subst k0;exact⟨rfl,Ag8 k1 k3 (by omega) k4 k6 k7⟩
 case g25=>intro i h0 h1 h2 h3 i7 a l k0 k1 k2 k3 k4 k5 k6;subst k0;exact⟨rfl,Ax2 k1 k3 (by omega) k4 k6⟩
 case g26=>intro i h0 h1 h2 h3 i7 a l k0 k1 k2 k3 k4 k5;rw[A2p (fun j hj=>h2 j (by omega)),A4h k1 k3 k2 (by omega)]
 case g27=>intro i h0 h1 h2 h3 i7 a l k0 k1 k2 k3 k4 k5;rw[A2p (fun j hj=>h2 j (by omega)),A4h k1 k3 k2 (by omega)]
 all_goals intros
 all_goals (try subst_vars)
 all_goals first
  | omega
  | (simp only [List.length_map,List.length_append,List.length_cons,List.length_nil,Go.maxLen];omega)
  | exact F9 (by omega)
  | exact Nat.le_of_ble_eq_true rfl
  | exact⟨by omega,by omega,fun j hj=>by omega⟩
theorem con126(s:List Entry)(hl:s.length*40≤140737488351232):Con Tryz.prog 126 [.sl (s.map c45)] (.tup [.sl ((K4 s).1.map c45),.i .i64 (K4 s).2]) :=
 by
 refine lN 0 c45 (s) Tryz.func126 fun hl_0=>sC A8 [.tmp 2,.tmp 3] 46 Tryz.func126 ?_
 intro e0 cx
 refine sq<|rG cx [0] [] z0<|sn<|sq<|rG cx [0,4] [] z0<|sn<|sq<|sq<|rG cx [0,4,5] [] z0<|sn<|bL 0<|E6 4 1004 45 4 (σ':=⟨[(0,.sl (List.map c45 s)),(4,.own 1004 0),(5,.i .i64 ((0:Int)))],[(1004,⟨0,45,.row 4 (List.map c45 [])⟩)]⟩) (by kernel_rfl)<|sL (X:=Int×List Entry) (fun x=>⟨[(0,.sl (List.map c45 s)),(4,.own 1004 0),(5,.i .i64 (x.1))],[(1004,⟨0,45,.row 4 (List.map c45 x.2)⟩)]⟩) (fun x ↦ dec57 s x.1 x.2) (fun x ↦ B16 s x.1 x.2) [0,4,5] [1004] (((0:Int),[])) (show B16 s (0:Int) []from(by exact⟨by omega,by omega,rfl,by simp⟩)) ?_
 rintro⟨i0,l1⟩ h_2
 obtain⟨hh3,hh4,hh5,hh6⟩:0≤i0∧i0≤(↑s.length:Int)∧K8 s i0.toNat=some l1∧(↑l1.length:Int)≤i0:=h_2
 refine sq<|rD cx [0,4,5,9] [1004] (tL 2 c45 s (zB 3 (i0 <(↑s.length:Int)))) (fun h7=>?_) fun h7=>?_
 refine sK<|sn<|sq<|bL 1<|sq<|sq<|B1 (σ':=⟨[(0,.sl (List.map c45 s)),(4,.own 1004 0),(5,.i .i64 (i0)),(27,.b (decide (i0=0∨¬s[i0.toNat]!.dot=s[(i0-1).toNat]!.dot)))],[(1004,⟨0,45,.row 4 (List.map c45 l1)⟩)]⟩) ?_ ?_
 refine A4 (i0=0) (fun h_9=>?_) (fun h_9=>?_)
 refine rA cx [0,4,5,27] [1004] (tT 1 (A7 h_9) (tD 15 true (i0=0∨¬s[i0.toNat]!.dot=s[(i0-1).toNat]!.dot) (by simp only [eq_true h_9,tsl]) z0)) ?_
 exact⟨rfl,by kernel_rfl⟩
 refine rA cx [0,4,5,27] [1004] (tT 1 (A0 h_9) (fA (0≤i0) (fG c45 s i0.toNat (fR 4 (fN 2 4 (tW 10 (i0-1) (fO (0≤i0-1) (fG c45 s ((i0-1).toNat) (fR 4 (fN 2 4 (fT (M5 (eq43 s[i0.toNat]!.dot s[(i0-1).toNat]!.dot)) (tD 15 (decide ¬s[i0.toNat]!.dot=s[(i0-1).toNat]!.dot) (i0=0∨¬s[i0.toNat]!.dot=s[(i0-1).toNat]!.dot) (by simp only [eq_false h_9,tsl]) (oR 5 (c45 s[i0.toNat]!) (oR 11 (c45 s[(i0-1).toNat]!) (oA 14 (.b (decide ¬s[i0.toNat]!.dot=s[(i0-1).toNat]!.dot)) z0))))))))))))))) ?_
 exact⟨rfl,by kernel_rfl⟩
 refine sn<|dC (i0=0∨¬s[i0.toNat]!.dot=s[(i0-1).toNat]!.dot) (fun h10=>?_) fun h10=>?_
 refine sq<|rG cx [0,4,5] [1004] (fA (0≤i0) (fG c45 s i0.toNat (fR 4 (fN 4 4 (fR 45 (fR 4 (fR 4 (fX c45 [s[i0.toNat]!] 4 (fS c45 l1 c45 [s[i0.toNat]!] (fP (((List.map c45 l1).length+(List.map c45 [s[i0.toNat]!]).length)*(40:Nat)≤(140737488355328:Nat)) (by(simp only [Go.maxLen,List.length_map,List.length_append,List.length_cons,List.length_nil];omega)) (fM c45 l1 [s[i0.toNat]!] (oR 3 (c45 s[i0.toNat]!) (oV 6 { rows:=some (List.map c45 (l1++[s[i0.toNat]!])) } z0)))))))))))))<|sn<|eX 1<|nE<|bH<|sn<|rG cx [0,4,5] [1004] (tW 1 (i0+1) z0)<|sn<|nX ((i0+1,l1++[s[i0.toNat]!])) (show((↑s.length:Int)-(i0+1)).toNat <((↑s.length:Int)-i0).toNat from(by omega)) (show B16 s (i0+1) (l1++[s[i0.toNat]!])from(by exact(Ax2 hh3 hh5 h7 hh6 ((A4i hh3).1 h10))))
 refine sK<|sn<|sq<|rA cx [0,4,5,44] [1004] (fA (0≤i0) (fG c45 s i0.toNat (fR 4 (fN 4 4 (tW 6 (i0-1) (fO (0≤i0-1) (fG c45 s ((i0-1).toNat) (fR 4 (fN 4 4 (fT (M5 (Bg3 s[i0.toNat]! s[(i0-1).toNat]!)) (oR 2 (c45 s[i0.toNat]!) (oR 7 (c45 s[(i0-1).toNat]!) (oA 9 (.b (decide ¬s[i0.toNat]! = s[(i0-1).toNat]!)) z0)))))))))))))<|sn<|dC (¬s[i0.toNat]! = s[(i0-1).toNat]!) (fun h11=>?_) fun h11=>?_
 refine sq<|rG cx [2,3] [] z0<|sn<|rT<|bR<|nR<|nR<|bR<|nR<|qR (.tup [.nl,.i .i64 ((10:Int))]) (B6.tup (ZLe.cons (B6.nl' (show List.map c45 (K4 s).1=[]from(by exact(by rw[A0o hh3 hh5 h7 (Classical.not_not.1 fun k=>h10 ((A4i hh3).2 k)) (fun k=>h11 k.symm)];rfl)))) (ZLe.cons (B6.eq (show AV.i .i64 10=AV.i .i64 (K4 s).2 from(by exact(by rw[A0o hh3 hh5 h7 (Classical.not_not.1 fun k=>h10 ((A4i hh3).2 k)) (fun k=>h11 k.symm)])))) ZLe.nil)))
 refine sK<|bN<|sn<|rG cx [0,4,5] [1004] (tW 1 (i0+1) z0)<|sn<|nX ((i0+1,l1)) (show((↑s.length:Int)-(i0+1)).toNat <((↑s.length:Int)-i0).toNat from(by omega)) (show B16 s (i0+1) l1 from(by exact(Ag8 hh3 hh5 h7 hh6 (Classical.not_not.1 fun k=>h10 ((A4i hh3).2 k)) (fun k=>h11 fun g=>k g.symm))))
 refine eX 0<|nE<|nE<|bH<|sn<|sq<|rG cx [2,3] [1004] z0<|sn<|rT<|qR (.tup [.sl (List.map c45 l1),.i .i64 ((0:Int))]) (B6.tup (ZLe.cons (B6.eq (show AV.sl (List.map c45 l1)=AV.sl (List.map c45 (K4 s).1)from(by exact(by rw[A4h hh3 hh5 hh4 h7])))) (ZLe.cons (B6.eq (show AV.i .i64 0=AV.i .i64 (K4 s).2 from(by exact(by rw[A4h hh3 hh5 hh4 h7])))) ZLe.nil)))
theorem con127(es:List Entry)(m:Int)(hl:es.length*40≤140737488351232):Con Tryz.prog 127 [.sl (es.map c45),.i .i64 m] (.sl ((A1k (leM m) 1 es).map c45)) :=
 by
 refine lN 0 c45 (es) Tryz.func127 fun hl_0=>sC A8 [.tmp 4] 109 Tryz.func127 ?_
 intro e0 cx
 refine sq<|rG cx [0,1] [] z0<|sn<|sq<|rG cx [0,1,5] [] z0<|sn<|sq<|sq<|rG cx [0,1,5,6] [] z0<|sn<|bL 0<|E6 5 1005 45 4 (σ':=⟨[(0,.sl (List.map c45 es)),(1,.i .i64 (m)),(5,.own 1005 0),(6,.i .i64 ((0:Int)))],[(1005,⟨0,45,.row 4 (List.map c45 [])⟩)]⟩) (by kernel_rfl)<|sL (X:=Int×List Entry) (fun x=>⟨[(0,.sl (List.map c45 es)),(1,.i .i64 (m)),(5,.own 1005 0),(6,.i .i64 (x.1))],[(1005,⟨0,45,.row 4 (List.map c45 x.2)⟩)]⟩) (fun x ↦ dec58a es x.1 x.2) (fun x ↦ Ag6 es x.1 x.2) [0,1,5,6] [1005] (((0:Int),[])) (show Ag6 es (0:Int) []from ?g0) ?_;rotate_left
 rintro⟨i0,l1⟩ h_2
 obtain⟨h3,h4,h5,h6⟩:0≤i0∧i0≤(↑es.length:Int)∧(↑l1.length:Int)=i0∧A1m es i0 l1:=h_2
 refine sq<|rD cx [0,1,5,6,18] [1005] (tL 2 c45 es (zB 3 (i0 <(↑es.length:Int)))) (fun h7=>?_) fun h7=>?_
 refine sK<|sn<|sq<|bL 1<|rG cx [0,1,5,6] [1005] (fA (0≤i0) (fG c45 es i0.toNat (fR 4 (fN 4 4 (fR 45 (fR 4 (fR 4 (fX c45 [es[i0.toNat]!] 4 (fS c45 l1 c45 [es[i0.toNat]!] (fP (((List.map c45 l1).length+(List.map c45 [es[i0.toNat]!]).length)*(40:Nat)≤(140737488355328:Nat)) (by(simp only [Go.maxLen,List.length_map,List.length_append,List.length_cons,List.length_nil];omega)) (fM c45 l1 [es[i0.toNat]!] (oR 3 (c45 es[i0.toNat]!) (oV 6 { rows:=some (List.map c45 (l1++[es[i0.toNat]!])) } z0)))))))))))))<|bN<|sn<|rG cx [0,1,5,6] [1005] (tW 1 (i0+1) z0)<|sn<|nX ((i0+1,l1++[es[i0.toNat]!])) (show((↑es.length:Int)-(i0+1)).toNat <((↑es.length:Int)-i0).toNat from(by omega)) (show Ag6 es (i0+1) (l1++[es[i0.toNat]!])from ?g1);rotate_left
 refine eX 0<|nE<|nE<|bH<|sn<|sq<|rG cx [1,5,7] [1005] (tL 1 c45 l1 z0)<|sn<|sq<|sq<|rG cx [1,5,7,8] [1005] z0<|sn<|bL 2<|sL (X:=Int×List Entry) (fun x=>⟨[(1,.i .i64 (m)),(5,.own 1005 0),(7,.i .i64 ((↑l1.length:Int))),(8,.i .i64 (x.1))],[(1005,⟨0,45,.row 4 (List.map c45 x.2)⟩)]⟩) (fun x ↦ decB1 (↑l1.length:Int) x.1 x.2) (fun x ↦ B0y (leM m) es (↑l1.length:Int) x.1 x.2) [1,5,7,8] [1005] (((1:Int),l1)) (show B0y (leM m) es (↑l1.length:Int) (1:Int) l1 from ?g2) ?_;rotate_left
 rintro⟨w8,l9⟩ h_10
 obtain⟨h11,h12,h13,h14⟩:1≤w8∧w8≤(2:Int)*(↑l1.length:Int)+1∧(↑l9.length:Int)=(↑l1.length:Int)∧A1k (leM m) w8.toNat l9=A1k (leM m) (1:Nat) es:=h_10
 refine sq<|rD cx [1,5,7,8,32] [1005] (zB 2 (w8 <(↑l1.length:Int))) (fun h15=>?_) fun h15=>?_
 refine sK<|sn<|sq<|bL 3<|sq<|rG cx [1,5,7,8,9] [1005,36] (fR (0:Int) (fR (↑l1.length:Int) (fO ((40:Nat)*l1.length≤(281474976710656:Nat)) (fP (l1.length≤maxLen) (by(simp only [Go.maxLen];omega)) (oV 1 { n:=l1.length,flat:=true } z0)))))<|sn<|sq<|sq<|rG cx [1,5,7,8,9,10] [1005,36] z0<|sn<|bL 4<|sL (X:=Int×List Entry×List Entry) (fun x=>⟨[(1,.i .i64 (m)),(5,.own 1005 0),(7,.i .i64 ((↑l1.length:Int))),(8,.i .i64 (w8)),(9,.own 36 0),(10,.i .i64 (x.1))],[(1005,⟨0,45,.row 4 (List.map c45 x.2.1)⟩),(36,⟨0,45,.row 4 (List.map c45 x.2.2)⟩)]⟩) (fun x ↦ decB2 (↑l1.length:Int) x.1 x.2.1 x.2.2) (fun x ↦ Ap2 (leM m) l9 (↑l1.length:Int) w8 x.1 x.2.1 x.2.2) [1,5,7,8,9,10] [1005,36] (((0:Int),l9,[])) (show Ap2 (leM m) l9 (↑l1.length:Int) w8 (0:Int) l9 []from ?g3) ?_;rotate_left
 rintro⟨f16,l17,m18⟩ h_19
 obtain⟨h20,h21,h22,h23⟩:l17=l9∧0≤f16∧f16 <(↑l1.length:Int)+(2:Int)*w8∧∃ k,f16.toNat=k*((2:Nat)*w8.toNat)∧m18=mgP (leM m) w8.toNat l9 k:=h_19
 refine sq<|rD cx [1,5,7,8,9,10,39] [1005,36] (zB 2 (f16 <(↑l1.length:Int))) (fun h24=>?_) fun h24=>?_
 refine sK<|sn<|sq<|bL 5<|sq<|rG cx [1,5,7,8,9,10,11] [1005,36] (tW 2 (f16+w8) z0)<|sn<|sq<|rD cx [1,5,7,8,9,10,11,49] [1005,36] (zB 2 ((↑l1.length:Int) < f16+w8)) (fun h25=>?_) fun h25=>?_
 refine rG cx [1,5,7,8,9,10,11] [1005,36] z0<|sn<|sq<|rG cx [1,5,7,8,9,10,11,12] [1005,36] (tW 2 ((↑l1.length:Int)+w8) z0)<|sn<|sq<|sq<|rG cx [1,5,7,8,9,10,11,12,56] [1005,36] (tB 2 ((↑l1.length:Int) <(↑l1.length:Int)+w8) z0)<|sn<|A1z ((↑l1.length:Int) <(↑l1.length:Int)+w8) (by kernel_rfl) (by kernel_rfl) (fun h26=>?_) (fun h26=>absurd (by omega) h26)
 refine rG cx [1,5,7,8,9,10,11,12] [1005,36] z0<|sn<|sq<|rG cx [1,5,7,8,9,10,11,12,13] [1005,36] z0<|sn<|sq<|rG cx ([1,5]++List.range' 7 8) [1005,36] z0<|sn<|bL 6<|sL (X:=Int×Int×List Entry×List Entry) (fun x=>⟨[(1,.i .i64 (m)),(5,.own 1005 0),(7,.i .i64 ((↑l1.length:Int))),(8,.i .i64 (w8)),(9,.own 36 0),(10,.i .i64 (f16)),(11,.i .i64 ((↑l1.length:Int))),(12,.i .i64 ((↑l1.length:Int))),(13,.i .i64 (x.1)),(14,.i .i64 (x.2.1))],[(1005,⟨0,45,.row 4 (List.map c45 x.2.2.1)⟩),(36,⟨0,45,.row 4 (List.map c45 x.2.2.2)⟩)]⟩) (fun x ↦ Bl5 (min (f16+w8) (↑l1.length:Int)) (min (min (f16+w8) (↑l1.length:Int)+w8) (↑l1.length:Int)) x.1 x.2.1 x.2.2.1 x.2.2.2) (fun x ↦ A05 (leM m) l17 f16 (min (f16+w8) (↑l1.length:Int)) (min (min (f16+w8) (↑l1.length:Int)+w8) (↑l1.length:Int)) m18 x.1 x.2.1 x.2.2.1 x.2.2.2) ([1,5]++List.range' 7 8) [1005,36] ((f16,(↑l1.length:Int),l17,m18)) (show A05 (leM m) l17 f16 (min (f16+w8) (↑l1.length:Int)) (min (min (f16+w8) (↑l1.length:Int)+w8) (↑l1.length:Int)) m18 f16 (↑l1.length:Int) l17 m18 from ?g4) ?_;rotate_left
 rintro⟨i27,j28,l29,m30⟩ h_31
 obtain⟨h32,h33,h34,h35,h36,h37,h38⟩:l29=l17∧f16≤i27∧i27≤min (f16+w8) (↑l1.length:Int)∧min (f16+w8) (↑l1.length:Int)≤j28∧j28≤min (min (f16+w8) (↑l1.length:Int)+w8) (↑l1.length:Int)∧(↑m30.length:Int)=i27+(j28-min (f16+w8) (↑l1.length:Int))∧m30++(R1 l17 i27 (min (f16+w8) (↑l1.length:Int))).merge (R1 l17 j28 (min (min (f16+w8) (↑l1.length:Int)+w8) (↑l1.length:Int))) (leM m)=m18++(R1 l17 f16 (min (f16+w8) (↑l1.length:Int))).merge (R1 l17 (min (f16+w8) (↑l1.length:Int)) (min (min (f16+w8) (↑l1.length:Int)+w8) (↑l1.length:Int))) (leM m):=h_31
 refine sq<|sq<|B1 (σ':=⟨[(1,.i .i64 (m)),(5,.own 1005 0),(7,.i .i64 ((↑l1.length:Int))),(8,.i .i64 (w8)),(9,.own 36 0),(10,.i .i64 (f16)),(11,.i .i64 ((↑l1.length:Int))),(12,.i .i64 ((↑l1.length:Int))),(13,.i .i64 (i27)),(14,.i .i64 (j28)),(67,.b (decide (i27 <(↑l1.length:Int)∨j28 <(↑l1.length:Int))))],[(1005,⟨0,45,.row 4 (List.map c45 l29)⟩),(36,⟨0,45,.row 4 (List.map c45 m30)⟩)]⟩) ?_ ?_
 refine A4 (i27 <(↑l1.length:Int)) (fun h_40=>?_) (fun h_40=>?_)
 refine rG cx ([1,5]++List.range' 7 8++[67]) [1005,36] (tT 2 (A7 h_40) (tD 7 true (i27 <(↑l1.length:Int)∨j28 <(↑l1.length:Int)) (by simp only [eq_true h_40,tsl]) z0)) ?_
 exact⟨rfl,by kernel_rfl⟩
 refine rG cx ([1,5]++List.range' 7 8++[67]) [1005,36] (tT 2 (A0 h_40) (tB 6 (j28 <(↑l1.length:Int)) (tD 7 (decide (j28 <(↑l1.length:Int))) (i27 <(↑l1.length:Int)∨j28 <(↑l1.length:Int)) (by simp only [eq_false h_40,tsl]) z0))) ?_
 exact⟨rfl,by kernel_rfl⟩
 refine sn<|dC (i27 <(↑l1.length:Int)∨j28 <(↑l1.length:Int)) (fun h41=>?_) fun h41=>?_
 refine sK<|sn<|bL 7<|sq<|A4 ((↑l1.length:Int)≤j28) (fun h42=>?_) (fun h42=>absurd (by omega) h42)
 refine rA cx ([1,5]++List.range' 7 8++[88]) [1005,36] (tT 2 (A7 h42) z0)<|sn<|Al2 (by kernel_rfl) (by kernel_rfl)<|sq<|rG cx ([1,5]++List.range' 7 8) [1005,36] (fO (0≤i27) (fP (i27.toNat <(List.map c45 l29).length) ?g5 (fR 4 (fP (E.rowAt { ver:=0,ty:=45,k:=BK.row (4) (List.map c45 l29):Blk } i27.toNat (c45 l29[i27.toNat]!)) ?g6 (fP (0+(4:Nat)≤(c45 l29[i27.toNat]!).length) ?g7 (fR 45 (fR 4 (fR 4 (fX c45 [l29[i27.toNat]!] 4 (fS c45 m30 c45 [l29[i27.toNat]!] (fP (((List.map c45 m30).length+(List.map c45 [l29[i27.toNat]!]).length)*(40:Nat)≤(140737488355328:Nat)) (by(simp only [Go.maxLen,List.length_map,List.length_append,List.length_cons,List.length_nil];omega)) (fM c45 m30 [l29[i27.toNat]!] (oR 4 (c45 l29[i27.toNat]!) (oV 6 { rows:=some (List.map c45 (m30++[l29[i27.toNat]!])) } z0)))))))))))))) ?_;rotate_left 3
 refine sn<|rG cx ([1,5]++List.range' 7 8) [1005,36] (tW 1 (i27+1) z0)<|bN<|sn<|nX ((i27+1,j28,l29,m30++[l29[i27.toNat]!])) (show(min (f16+w8) (↑l1.length:Int)-(i27+1)+(min (min (f16+w8) (↑l1.length:Int)+w8) (↑l1.length:Int)-j28)).toNat <(min (f16+w8) (↑l1.length:Int)-i27+(min (min (f16+w8) (↑l1.length:Int)+w8) (↑l1.length:Int)-j28)).toNat from(by omega)) (show A05 (leM m) l17 f16 (min (f16+w8) (↑l1.length:Int)) (min (min (f16+w8) (↑l1.length:Int)+w8) (↑l1.length:Int)) m18 (i27+1) j28 l29 (m30++[l29[i27.toNat]!])from ?g8);rotate_left
 refine eX 6<|nE<|nE<|bH<|bN<|sn<|rG cx [1,5,7,8,9,10] [1005,36] (tW 2 ((2:Int)*w8) (tW 3 (f16+(2:Int)*w8) z0))<|sn<|nX ((f16+(2:Int)*w8,l29,m30)) (show((↑l1.length:Int)-(f16+(2:Int)*w8)).toNat <((↑l1.length:Int)-f16).toNat from(by omega)) (show Ap2 (leM m) l9 (↑l1.length:Int) w8 (f16+(2:Int)*w8) l29 m30 from ?g9);rotate_left
 refine sK<|sn<|sq<|rG cx [1,5,7,8,9,10,11,12] [1005,36] (tW 2 (f16+w8+w8) z0)<|sn<|sq<|rD cx [1,5,7,8,9,10,11,12,56] [1005,36] (zB 2 ((↑l1.length:Int) < f16+w8+w8)) (fun h43=>?_) fun h43=>?_
 refine rG cx [1,5,7,8,9,10,11,12] [1005,36] z0<|sn<|sq<|rG cx [1,5,7,8,9,10,11,12,13] [1005,36] z0<|sn<|sq<|rG cx ([1,5]++List.range' 7 8) [1005,36] z0<|sn<|bL 6<|sL (X:=Int×Int×List Entry×List Entry) (fun x=>⟨[(1,.i .i64 (m)),(5,.own 1005 0),(7,.i .i64 ((↑l1.length:Int))),(8,.i .i64 (w8)),(9,.own 36 0),(10,.i .i64 (f16)),(11,.i .i64 (f16+w8)),(12,.i .i64 ((↑l1.length:Int))),(13,.i .i64 (x.1)),(14,.i .i64 (x.2.1))],[(1005,⟨0,45,.row 4 (List.map c45 x.2.2.1)⟩),(36,⟨0,45,.row 4 (List.map c45 x.2.2.2)⟩)]⟩) (fun x ↦ Bl5 (min (f16+w8) (↑l1.length:Int)) (min (min (f16+w8) (↑l1.length:Int)+w8) (↑l1.length:Int)) x.1 x.2.1 x.2.2.1 x.2.2.2) (fun x ↦ A05 (leM m) l17 f16 (min (f16+w8) (↑l1.length:Int)) (min (min (f16+w8) (↑l1.length:Int)+w8) (↑l1.length:Int)) m18 x.1 x.2.1 x.2.2.1 x.2.2.2) ([1,5]++List.range' 7 8) [1005,36] ((f16,f16+w8,l17,m18)) (show A05 (leM m) l17 f16 (min (f16+w8) (↑l1.length:Int)) (min (min (f16+w8) (↑l1.length:Int)+w8) (↑l1.length:Int)) m18 f16 (f16+w8) l17 m18 from ?g10) ?_;rotate_left
 rintro⟨i44,j45,l46,m47⟩ h_48
 obtain⟨h49,h50,h51,h52,h53,h54,h55⟩:l46=l17∧f16≤i44∧i44≤min (f16+w8) (↑l1.length:Int)∧min (f16+w8) (↑l1.length:Int)≤j45∧j45≤min (min (f16+w8) (↑l1.length:Int)+w8) (↑l1.length:Int)∧(↑m47.length:Int)=i44+(j45-min (f16+w8) (↑l1.length:Int))∧m47++(R1 l17 i44 (min (f16+w8) (↑l1.length:Int))).merge (R1 l17 j45 (min (min (f16+w8) (↑l1.length:Int)+w8) (↑l1.length:Int))) (leM m)=m18++(R1 l17 f16 (min (f16+w8) (↑l1.length:Int))).merge (R1 l17 (min (f16+w8) (↑l1.length:Int)) (min (min (f16+w8) (↑l1.length:Int)+w8) (↑l1.length:Int))) (leM m):=h_48
 refine sq<|sq<|B1 (σ':=⟨[(1,.i .i64 (m)),(5,.own 1005 0),(7,.i .i64 ((↑l1.length:Int))),(8,.i .i64 (w8)),(9,.own 36 0),(10,.i .i64 (f16)),(11,.i .i64 (f16+w8)),(12,.i .i64 ((↑l1.length:Int))),(13,.i .i64 (i44)),(14,.i .i64 (j45)),(67,.b (decide (i44 < f16+w8∨j45 <(↑l1.length:Int))))],[(1005,⟨0,45,.row 4 (List.map c45 l46)⟩),(36,⟨0,45,.row 4 (List.map c45 m47)⟩)]⟩) ?_ ?_
 refine A4 (i44 < f16+w8) (fun h_57=>?_) (fun h_57=>?_)
 refine rG cx ([1,5]++List.range' 7 8++[67]) [1005,36] (tT 2 (A7 h_57) (tD 7 true (i44 < f16+w8∨j45 <(↑l1.length:Int)) (by simp only [eq_true h_57,tsl]) z0)) ?_
 exact⟨rfl,by kernel_rfl⟩
 refine rG cx ([1,5]++List.range' 7 8++[67]) [1005,36] (tT 2 (A0 h_57) (tB 6 (j45 <(↑l1.length:Int)) (tD 7 (decide (j45 <(↑l1.length:Int))) (i44 < f16+w8∨j45 <(↑l1.length:Int)) (by simp only [eq_false h_57,tsl]) z0))) ?_
 exact⟨rfl,by kernel_rfl⟩
 refine sn<|dC (i44 < f16+w8∨j45 <(↑l1.length:Int)) (fun h58=>?_) fun h58=>?_
 refine sK<|sn<|bL 7<|sq<|B1 (σ':=⟨[(1,.i .i64 (m)),(5,.own 1005 0),(7,.i .i64 ((↑l1.length:Int))),(8,.i .i64 (w8)),(9,.own 36 0),(10,.i .i64 (f16)),(11,.i .i64 (f16+w8)),(12,.i .i64 ((↑l1.length:Int))),(13,.i .i64 (i44)),(14,.i .i64 (j45)),(88,.b (decide ((↑l1.length:Int)≤j45∨i44 < f16+w8∧¬I3 l46[i44.toNat]! l46[j45.toNat]! m=true)))],[(1005,⟨0,45,.row 4 (List.map c45 l46)⟩),(36,⟨0,45,.row 4 (List.map c45 m47)⟩)]⟩) ?_ ?_
 refine A4 ((↑l1.length:Int)≤j45) (fun h60=>?_) (fun h60=>?_)
 refine rA cx ([1,5]++List.range' 7 8++[88]) [1005,36] (tT 2 (A7 h60) (tD 20 true ((↑l1.length:Int)≤j45∨i44 < f16+w8∧¬I3 l46[i44.toNat]! l46[j45.toNat]! m=true) (by simp only [eq_true h60,tsl]) z0)) ?_
 exact⟨rfl,by kernel_rfl⟩
 refine A4 (i44 < f16+w8) (fun h61=>?_) (fun h61=>?_)
 refine rA cx ([1,5]++List.range' 7 8++[88]) [1005,36] (tT 2 (A0 h60) (tT 6 (A7 h61) (fO (0≤i44) (fP (i44.toNat <(List.map c45 l46).length) ?g11 (fR 4 (fP (E.rowAt { ver:=0,ty:=45,k:=BK.row (4) (List.map c45 l46):Blk } i44.toNat (c45 l46[i44.toNat]!)) ?g12 (fP (0+(4:Nat)≤(c45 l46[i44.toNat]!).length) ?g13 (fO (0≤j45) (fP (j45.toNat <(List.map c45 l46).length) ?g14 (fR 4 (fP (E.rowAt { ver:=0,ty:=45,k:=BK.row (4) (List.map c45 l46):Blk } j45.toNat (c45 l46[j45.toNat]!)) ?g15 (fP (0+(4:Nat)≤(c45 l46[j45.toNat]!).length) ?g16 (fT (Bc4 (l46[i44.toNat]!) (l46[j45.toNat]!) (m)) (tT 18 (D3:(AV.b !I3 l46[i44.toNat]! l46[j45.toNat]! m)=AV.b (decide ¬I3 l46[i44.toNat]! l46[j45.toNat]! m=true)) (tD 20 (decide ¬I3 l46[i44.toNat]! l46[j45.toNat]! m=true) ((↑l1.length:Int)≤j45∨i44 < f16+w8∧¬I3 l46[i44.toNat]! l46[j45.toNat]! m=true) (by simp only [eq_false h60,eq_true h61,tsl]) (oR 11 (c45 l46[i44.toNat]!) (oR 15 (c45 l46[j45.toNat]!) (oA 17 (.b (I3 l46[i44.toNat]! l46[j45.toNat]! m)) z0)))))))))))))))))) ?_;rotate_left 6
 exact⟨rfl,by kernel_rfl⟩
 refine rA cx ([1,5]++List.range' 7 8++[88]) [1005,36] (tT 2 (A0 h60) (tT 6 (A0 h61) (tD 20 false ((↑l1.length:Int)≤j45∨i44 < f16+w8∧¬I3 l46[i44.toNat]! l46[j45.toNat]! m=true) (by simp only [eq_false h60,eq_false h61,tsl]) z0))) ?_
 exact⟨rfl,by kernel_rfl⟩
 refine sn<|dC ((↑l1.length:Int)≤j45∨i44 < f16+w8∧¬I3 l46[i44.toNat]! l46[j45.toNat]! m=true) (fun h62=>?_) fun h62=>?_
 refine sq<|rG cx ([1,5]++List.range' 7 8) [1005,36] (fO (0≤i44) (fP (i44.toNat <(List.map c45 l46).length) ?g17 (fR 4 (fP (E.rowAt { ver:=0,ty:=45,k:=BK.row (4) (List.map c45 l46):Blk } i44.toNat (c45 l46[i44.toNat]!)) ?g18 (fP (0+(4:Nat)≤(c45 l46[i44.toNat]!).length) ?g19 (fR 45 (fR 4 (fR 4 (fX c45 [l46[i44.toNat]!] 4 (fS c45 m47 c45 [l46[i44.toNat]!] (fP (((List.map c45 m47).length+(List.map c45 [l46[i44.toNat]!]).length)*(40:Nat)≤(140737488355328:Nat)) (by(simp only [Go.maxLen,List.length_map,List.length_append,List.length_cons,List.length_nil];omega)) (fM c45 m47 [l46[i44.toNat]!] (oR 4 (c45 l46[i44.toNat]!) (oV 6 { rows:=some (List.map c45 (m47++[l46[i44.toNat]!])) } z0)))))))))))))) ?_;rotate_left 3
 refine sn<|rG cx ([1,5]++List.range' 7 8) [1005,36] (tW 1 (i44+1) z0)<|bN<|sn<|nX ((i44+1,j45,l46,m47++[l46[i44.toNat]!])) (show(min (f16+w8) (↑l1.length:Int)-(i44+1)+(min (min (f16+w8) (↑l1.length:Int)+w8) (↑l1.length:Int)-j45)).toNat <(min (f16+w8) (↑l1.length:Int)-i44+(min (min (f16+w8) (↑l1.length:Int)+w8) (↑l1.length:Int)-j45)).toNat from(by omega)) (show A05 (leM m) l17 f16 (min (f16+w8) (↑l1.length:Int)) (min (min (f16+w8) (↑l1.length:Int)+w8) (↑l1.length:Int)) m18 (i44+1) j45 l46 (m47++[l46[i44.toNat]!])from ?g20);rotate_left
 refine sq<|rG cx ([1,5]++List.range' 7 8) [1005,36] (fO (0≤j45) (fP (j45.toNat <(List.map c45 l46).length) ?g21 (fR 4 (fP (E.rowAt { ver:=0,ty:=45,k:=BK.row (4) (List.map c45 l46):Blk } j45.toNat (c45 l46[j45.toNat]!)) ?g22 (fP (0+(4:Nat)≤(c45 l46[j45.toNat]!).length) ?g23 (fR 45 (fR 4 (fR 4 (fX c45 [l46[j45.toNat]!] 4 (fS c45 m47 c45 [l46[j45.toNat]!] (fP (((List.map c45 m47).length+(List.map c45 [l46[j45.toNat]!]).length)*(40:Nat)≤(140737488355328:Nat)) (by(simp only [Go.maxLen,List.length_map,List.length_append,List.length_cons,List.length_nil];omega)) (fM c45 m47 [l46[j45.toNat]!] (oR 4 (c45 l46[j45.toNat]!) (oV 6 { rows:=some (List.map c45 (m47++[l46[j45.toNat]!])) } z0)))))))))))))) ?_;rotate_left 3
 refine sn<|rG cx ([1,5]++List.range' 7 8) [1005,36] (tW 1 (j45+1) z0)<|bN<|sn<|nX ((i44,j45+1,l46,m47++[l46[j45.toNat]!])) (show(min (f16+w8) (↑l1.length:Int)-i44+(min (min (f16+w8) (↑l1.length:Int)+w8) (↑l1.length:Int)-(j45+1))).toNat <(min (f16+w8) (↑l1.length:Int)-i44+(min (min (f16+w8) (↑l1.length:Int)+w8) (↑l1.length:Int)-j45)).toNat from(by omega)) (show A05 (leM m) l17 f16 (min (f16+w8) (↑l1.length:Int)) (min (min (f16+w8) (↑l1.length:Int)+w8) (↑l1.length:Int)) m18 i44 (j45+1) l46 (m47++[l46[j45.toNat]!])from ?g24);rotate_left
 refine eX 6<|nE<|nE<|bH<|bN<|sn<|rG cx [1,5,7,8,9,10] [1005,36] (tW 2 ((2:Int)*w8) (tW 3 (f16+(2:Int)*w8) z0))<|sn<|nX ((f16+(2:Int)*w8,l46,m47)) (show((↑l1.length:Int)-(f16+(2:Int)*w8)).toNat <((↑l1.length:Int)-f16).toNat from(by omega)) (show Ap2 (leM m) l9 (↑l1.length:Int) w8 (f16+(2:Int)*w8) l46 m47 from ?g25);rotate_left
 refine sK<|sn<|sq<|rG cx [1,5,7,8,9,10,11,12,13] [1005,36] z0<|sn<|sq<|rG cx ([1,5]++List.range' 7 8) [1005,36] z0<|sn<|bL 6<|sL (X:=Int×Int×List Entry×List Entry) (fun x=>⟨[(1,.i .i64 (m)),(5,.own 1005 0),(7,.i .i64 ((↑l1.length:Int))),(8,.i .i64 (w8)),(9,.own 36 0),(10,.i .i64 (f16)),(11,.i .i64 (f16+w8)),(12,.i .i64 (f16+w8+w8)),(13,.i .i64 (x.1)),(14,.i .i64 (x.2.1))],[(1005,⟨0,45,.row 4 (List.map c45 x.2.2.1)⟩),(36,⟨0,45,.row 4 (List.map c45 x.2.2.2)⟩)]⟩) (fun x ↦ Bl5 (min (f16+w8) (↑l1.length:Int)) (min (min (f16+w8) (↑l1.length:Int)+w8) (↑l1.length:Int)) x.1 x.2.1 x.2.2.1 x.2.2.2) (fun x ↦ A05 (leM m) l17 f16 (min (f16+w8) (↑l1.length:Int)) (min (min (f16+w8) (↑l1.length:Int)+w8) (↑l1.length:Int)) m18 x.1 x.2.1 x.2.2.1 x.2.2.2) ([1,5]++List.range' 7 8) [1005,36] ((f16,f16+w8,l17,m18)) (show A05 (leM m) l17 f16 (min (f16+w8) (↑l1.length:Int)) (min (min (f16+w8) (↑l1.length:Int)+w8) (↑l1.length:Int)) m18 f16 (f16+w8) l17 m18 from ?g26) ?_;rotate_left
 rintro⟨i63,j64,l65,m66⟩ h_67
 obtain⟨h68,h69,h70,h71,h72,h73,h74⟩:l65=l17∧f16≤i63∧i63≤min (f16+w8) (↑l1.length:Int)∧min (f16+w8) (↑l1.length:Int)≤j64∧j64≤min (min (f16+w8) (↑l1.length:Int)+w8) (↑l1.length:Int)∧(↑m66.length:Int)=i63+(j64-min (f16+w8) (↑l1.length:Int))∧m66++(R1 l17 i63 (min (f16+w8) (↑l1.length:Int))).merge (R1 l17 j64 (min (min (f16+w8) (↑l1.length:Int)+w8) (↑l1.length:Int))) (leM m)=m18++(R1 l17 f16 (min (f16+w8) (↑l1.length:Int))).merge (R1 l17 (min (f16+w8) (↑l1.length:Int)) (min (min (f16+w8) (↑l1.length:Int)+w8) (↑l1.length:Int))) (leM m):=h_67
 refine sq<|sq<|B1 (σ':=⟨[(1,.i .i64 (m)),(5,.own 1005 0),(7,.i .i64 ((↑l1.length:Int))),(8,.i .i64 (w8)),(9,.own 36 0),(10,.i .i64 (f16)),(11,.i .i64 (f16+w8)),(12,.i .i64 (f16+w8+w8)),(13,.i .i64 (i63)),(14,.i .i64 (j64)),(67,.b (decide (i63 < f16+w8∨j64 < f16+w8+w8)))],[(1005,⟨0,45,.row 4 (List.map c45 l65)⟩),(36,⟨0,45,.row 4 (List.map c45 m66)⟩)]⟩) ?_ ?_
 refine A4 (i63 < f16+w8) (fun h_76=>?_) (fun h_76=>?_)
 refine rG cx ([1,5]++List.range' 7 8++[67]) [1005,36] (tT 2 (A7 h_76) (tD 7 true (i63 < f16+w8∨j64 < f16+w8+w8) (by simp only [eq_true h_76,tsl]) z0)) ?_
 exact⟨rfl,by kernel_rfl⟩
 refine rG cx ([1,5]++List.range' 7 8++[67]) [1005,36] (tT 2 (A0 h_76) (tB 6 (j64 < f16+w8+w8) (tD 7 (decide (j64 < f16+w8+w8)) (i63 < f16+w8∨j64 < f16+w8+w8) (by simp only [eq_false h_76,tsl]) z0))) ?_
 exact⟨rfl,by kernel_rfl⟩
 refine sn<|dC (i63 < f16+w8∨j64 < f16+w8+w8) (fun h77=>?_) fun h77=>?_
 refine sK<|sn<|bL 7<|sq<|B1 (σ':=⟨[(1,.i .i64 (m)),(5,.own 1005 0),(7,.i .i64 ((↑l1.length:Int))),(8,.i .i64 (w8)),(9,.own 36 0),(10,.i .i64 (f16)),(11,.i .i64 (f16+w8)),(12,.i .i64 (f16+w8+w8)),(13,.i .i64 (i63)),(14,.i .i64 (j64)),(88,.b (decide (f16+w8+w8≤j64∨i63 < f16+w8∧¬I3 l65[i63.toNat]! l65[j64.toNat]! m=true)))],[(1005,⟨0,45,.row 4 (List.map c45 l65)⟩),(36,⟨0,45,.row 4 (List.map c45 m66)⟩)]⟩) ?_ ?_
 refine A4 (f16+w8+w8≤j64) (fun h79=>?_) (fun h79=>?_)
 refine rA cx ([1,5]++List.range' 7 8++[88]) [1005,36] (tT 2 (A7 h79) (tD 20 true (f16+w8+w8≤j64∨i63 < f16+w8∧¬I3 l65[i63.toNat]! l65[j64.toNat]! m=true) (by simp only [eq_true h79,tsl]) z0)) ?_
 exact⟨rfl,by kernel_rfl⟩
 refine A4 (i63 < f16+w8) (fun h80=>?_) (fun h80=>?_)
 refine rA cx ([1,5]++List.range' 7 8++[88]) [1005,36] (tT 2 (A0 h79) (tT 6 (A7 h80) (fO (0≤i63) (fP (i63.toNat <(List.map c45 l65).length) ?g27 (fR 4 (fP (E.rowAt { ver:=0,ty:=45,k:=BK.row (4) (List.map c45 l65):Blk } i63.toNat (c45 l65[i63.toNat]!)) ?g28 (fP (0+(4:Nat)≤(c45 l65[i63.toNat]!).length) ?g29 (fO (0≤j64) (fP (j64.toNat <(List.map c45 l65).length) ?g30 (fR 4 (fP (E.rowAt { ver:=0,ty:=45,k:=BK.row (4) (List.map c45 l65):Blk } j64.toNat (c45 l65[j64.toNat]!)) ?g31 (fP (0+(4:Nat)≤(c45 l65[j64.toNat]!).length) ?g32 (fT (Bc4 (l65[i63.toNat]!) (l65[j64.toNat]!) (m)) (tT 18 (D3:(AV.b !I3 l65[i63.toNat]! l65[j64.toNat]! m)=AV.b (decide ¬I3 l65[i63.toNat]! l65[j64.toNat]! m=true)) (tD 20 (decide ¬I3 l65[i63.toNat]! l65[j64.toNat]! m=true) (f16+w8+w8≤j64∨i63 < f16+w8∧¬I3 l65[i63.toNat]! l65[j64.toNat]! m=true) (by simp only [eq_false h79,eq_true h80,tsl]) (oR 11 (c45 l65[i63.toNat]!) (oR 15 (c45 l65[j64.toNat]!) (oA 17 (.b (I3 l65[i63.toNat]! l65[j64.toNat]! m)) z0)))))))))))))))))) ?_;rotate_left 6
 exact⟨rfl,by kernel_rfl⟩
 refine rA cx ([1,5]++List.range' 7 8++[88]) [1005,36] (tT 2 (A0 h79) (tT 6 (A0 h80) (tD 20 false (f16+w8+w8≤j64∨i63 < f16+w8∧¬I3 l65[i63.toNat]! l65[j64.toNat]! m=true) (by simp only [eq_false h79,eq_false h80,tsl]) z0))) ?_
 exact⟨rfl,by kernel_rfl⟩
 refine sn<|dC (f16+w8+w8≤j64∨i63 < f16+w8∧¬I3 l65[i63.toNat]! l65[j64.toNat]! m=true) (fun h81=>?_) fun h81=>?_
 refine sq<|rG cx ([1,5]++List.range' 7 8) [1005,36] (fO (0≤i63) (fP (i63.toNat <(List.map c45 l65).length) ?g33 (fR 4 (fP (E.rowAt { ver:=0,ty:=45,k:=BK.row (4) (List.map c45 l65):Blk } i63.toNat (c45 l65[i63.toNat]!)) ?g34 (fP (0+(4:Nat)≤(c45 l65[i63.toNat]!).length) ?g35 (fR 45 (fR 4 (fR 4 (fX c45 [l65[i63.toNat]!] 4 (fS c45 m66 c45 [l65[i63.toNat]!] (fP (((List.map c45 m66).length+(List.map c45 [l65[i63.toNat]!]).length)*(40:Nat)≤(140737488355328:Nat)) (by(simp only [Go.maxLen,List.length_map,List.length_append,List.length_cons,List.length_nil];omega)) (fM c45 m66 [l65[i63.toNat]!] (oR 4 (c45 l65[i63.toNat]!) (oV 6 { rows:=some (List.map c45 (m66++[l65[i63.toNat]!])) } z0)))))))))))))) ?_;rotate_left 3
 refine sn<|rG cx ([1,5]++List.range' 7 8) [1005,36] (tW 1 (i63+1) z0)<|bN<|sn<|nX ((i63+1,j64,l65,m66++[l65[i63.toNat]!])) (show(min (f16+w8) (↑l1.length:Int)-(i63+1)+(min (min (f16+w8) (↑l1.length:Int)+w8) (↑l1.length:Int)-j64)).toNat <(min (f16+w8) (↑l1.length:Int)-i63+(min (min (f16+w8) (↑l1.length:Int)+w8) (↑l1.length:Int)-j64)).toNat from(by omega)) (show A05 (leM m) l17 f16 (min (f16+w8) (↑l1.length:Int)) (min (min (f16+w8) (↑l1.length:Int)+w8) (↑l1.length:Int)) m18 (i63+1) j64 l65 (m66++[l65[i63.toNat]!])from ?g36);rotate_left
 refine sq<|rG cx ([1,5]++List.range' 7 8) [1005,36] (fO (0≤j64) (fP (j64.toNat <(List.map c45 l65).length) ?g37 (fR 4 (fP (E.rowAt { ver:=0,ty:=45,k:=BK.row (4) (List.map c45 l65):Blk } j64.toNat (c45 l65[j64.toNat]!)) ?g38 (fP (0+(4:Nat)≤(c45 l65[j64.toNat]!).length) ?g39 (fR 45 (fR 4 (fR 4 (fX c45 [l65[j64.toNat]!] 4 (fS c45 m66 c45 [l65[j64.toNat]!] (fP (((List.map c45 m66).length+(List.map c45 [l65[j64.toNat]!]).length)*(40:Nat)≤(140737488355328:Nat)) (by(simp only [Go.maxLen,List.length_map,List.length_append,List.length_cons,List.length_nil];omega)) (fM c45 m66 [l65[j64.toNat]!] (oR 4 (c45 l65[j64.toNat]!) (oV 6 { rows:=some (List.map c45 (m66++[l65[j64.toNat]!])) } z0)))))))))))))) ?_;rotate_left 3
 refine sn<|rG cx ([1,5]++List.range' 7 8) [1005,36] (tW 1 (j64+1) z0)<|bN<|sn<|nX ((i63,j64+1,l65,m66++[l65[j64.toNat]!])) (show(min (f16+w8) (↑l1.length:Int)-i63+(min (min (f16+w8) (↑l1.length:Int)+w8) (↑l1.length:Int)-(j64+1))).toNat <(min (f16+w8) (↑l1.length:Int)-i63+(min (min (f16+w8) (↑l1.length:Int)+w8) (↑l1.length:Int)-j64)).toNat from(by omega)) (show A05 (leM m) l17 f16 (min (f16+w8) (↑l1.length:Int)) (min (min (f16+w8) (↑l1.length:Int)+w8) (↑l1.length:Int)) m18 i63 (j64+1) l65 (m66++[l65[j64.toNat]!])from ?g40);rotate_left
 refine eX 6<|nE<|nE<|bH<|bN<|sn<|rG cx [1,5,7,8,9,10] [1005,36] (tW 2 ((2:Int)*w8) (tW 3 (f16+(2:Int)*w8) z0))<|sn<|nX ((f16+(2:Int)*w8,l65,m66)) (show((↑l1.length:Int)-(f16+(2:Int)*w8)).toNat <((↑l1.length:Int)-f16).toNat from(by omega)) (show Ap2 (leM m) l9 (↑l1.length:Int) w8 (f16+(2:Int)*w8) l65 m66 from ?g41);rotate_left
 refine eX 4<|nE<|nE<|bH<|sn<|rG cx [1,5,7,8] [36] z0<|bN<|sn<|rG cx [1,5,7,8] [36] (tW 1 ((2:Int)*w8) z0)<|sn<|Ac8 [(1005,36)] [] (((2:Int)*w8,m18)) (by kernel_rfl) (show((↑l1.length:Int)-(2:Int)*w8).toNat <((↑l1.length:Int)-w8).toNat from(by omega)) (show B0y (leM m) es (↑l1.length:Int) ((2:Int)*w8) m18 from ?g42);rotate_left
 refine eX 2<|nE<|nE<|bH<|sn<|sq<|rG cx [4] [1005] z0<|sn<|rT<|qR (.sl (List.map c45 l9)) (.eq ?g43);rotate_left
 rotate_left
 revert i0 l1 h3 h4 h5 h6 h7;rotate_left
 revert i0 l1 h3 h4 h5 h6 h7;rotate_left
 revert i0 l1 h3 h4 h5 h6 h7 w8 l9 h11 h12 h13 h14 h15;rotate_left
 revert i0 l1 h3 h4 h5 h6 h7 w8 l9 h11 h12 h13 h14 h15 f16 l17 m18 h20 h21 h22 h23 h24 h25 h26;rotate_left
 revert i0 l1 h3 h4 h5 h6 h7 w8 l9 h11 h12 h13 h14 h15 f16 l17 m18 h20 h21 h22 h23 h24 h25 h26 i27 j28 l29 m30 h32 h33 h34 h35 h36 h37 h38 h41 h42;rotate_left
 revert i0 l1 h3 h4 h5 h6 h7 w8 l9 h11 h12 h13 h14 h15 f16 l17 m18 h20 h21 h22 h23 h24 h25 h26 i27 j28 l29 m30 h32 h33 h34 h35 h36 h37 h38 h41 h42;rotate_left
 revert i0 l1 h3 h4 h5 h6 h7 w8 l9 h11 h12 h13 h14 h15 f16 l17 m18 h20 h21 h22 h23 h24 h25 h26 i27 j28 l29 m30 h32 h33 h34 h35 h36 h37 h38 h41 h42;rotate_left
 revert i0 l1 h3 h4 h5 h6 h7 w8 l9 h11 h12 h13 h14 h15 f16 l17 m18 h20 h21 h22 h23 h24 h25 h26 i27 j28 l29 m30 h32 h33 h34 h35 h36 h37 h38 h41 h42;rotate_left
 revert i0 l1 h3 h4 h5 h6 h7 w8 l9 h11 h12 h13 h14 h15 f16 l17 m18 h20 h21 h22 h23 h24 h25 h26 i27 j28 l29 m30 h32 h33 h34 h35 h36 h37 h38 h41;rotate_left
 revert i0 l1 h3 h4 h5 h6 h7 w8 l9 h11 h12 h13 h14 h15 f16 l17 m18 h20 h21 h22 h23 h24 h25 h43;rotate_left
 revert i0 l1 h3 h4 h5 h6 h7 w8 l9 h11 h12 h13 h14 h15 f16 l17 m18 h20 h21 h22 h23 h24 h25 h43 i44 j45 l46 m47 h49 h50 h51 h52 h53 h54 h55 h58 h60 h61;rotate_left
 revert i0 l1 h3 h4 h5 h6 h7 w8 l9 h11 h12 h13 h14 h15 f16 l17 m18 h20 h21 h22 h23 h24 h25 h43 i44 j45 l46 m47 h49 h50 h51 h52 h53 h54 h55 h58 h60 h61;rotate_left
 revert i0 l1 h3 h4 h5 h6 h7 w8 l9 h11 h12 h13 h14 h15 f16 l17 m18 h20 h21 h22 h23 h24 h25 h43 i44 j45 l46 m47 h49 h50 h51 h52 h53 h54 h55 h58 h60 h61;rotate_left
 revert i0 l1 h3 h4 h5 h6 h7 w8 l9 h11 h12 h13 h14 h15 f16 l17 m18 h20 h21 h22 h23 h24 h25 h43 i44 j45 l46 m47 h49 h50 h51 h52 h53 h54 h55 h58 h60 h61;rotate_left
 revert i0 l1 h3 h4 h5 h6 h7 w8 l9 h11 h12 h13 h14 h15 f16 l17 m18 h20 h21 h22 h23 h24 h25 h43 i44 j45 l46 m47 h49 h50 h51 h52 h53 h54 h55 h58 h60 h61;rotate_left
 revert i0 l1 h3 h4 h5 h6 h7 w8 l9 h11 h12 h13 h14 h15 f16 l17 m18 h20 h21 h22 h23 h24 h25 h43 i44 j45 l46 m47 h49 h50 h51 h52 h53 h54 h55 h58 h60 h61;rotate_left
 revert i0 l1 h3 h4 h5 h6 h7 w8 l9 h11 h12 h13 h14 h15 f16 l17 m18 h20 h21 h22 h23 h24 h25 h43 i44 j45 l46 m47 h49 h50 h51 h52 h53 h54 h55 h58 h62;rotate_left
 revert i0 l1 h3 h4 h5 h6 h7 w8 l9 h11 h12 h13 h14 h15 f16 l17 m18 h20 h21 h22 h23 h24 h25 h43 i44 j45 l46 m47 h49 h50 h51 h52 h53 h54 h55 h58 h62;rotate_left
 revert i0 l1 h3 h4 h5 h6 h7 w8 l9 h11 h12 h13 h14 h15 f16 l17 m18 h20 h21 h22 h23 h24 h25 h43 i44 j45 l46 m47 h49 h50 h51 h52 h53 h54 h55 h58 h62;rotate_left
 revert i0 l1 h3 h4 h5 h6 h7 w8 l9 h11 h12 h13 h14 h15 f16 l17 m18 h20 h21 h22 h23 h24 h25 h43 i44 j45 l46 m47 h49 h50 h51 h52 h53 h54 h55 h58 h62;rotate_left
 revert i0 l1 h3 h4 h5 h6 h7 w8 l9 h11 h12 h13 h14 h15 f16 l17 m18 h20 h21 h22 h23 h24 h25 h43 i44 j45 l46 m47 h49 h50 h51 h52 h53 h54 h55 h58 h62;rotate_left
 revert i0 l1 h3 h4 h5 h6 h7 w8 l9 h11 h12 h13 h14 h15 f16 l17 m18 h20 h21 h22 h23 h24 h25 h43 i44 j45 l46 m47 h49 h50 h51 h52 h53 h54 h55 h58 h62;rotate_left
 revert i0 l1 h3 h4 h5 h6 h7 w8 l9 h11 h12 h13 h14 h15 f16 l17 m18 h20 h21 h22 h23 h24 h25 h43 i44 j45 l46 m47 h49 h50 h51 h52 h53 h54 h55 h58 h62;rotate_left
 revert i0 l1 h3 h4 h5 h6 h7 w8 l9 h11 h12 h13 h14 h15 f16 l17 m18 h20 h21 h22 h23 h24 h25 h43 i44 j45 l46 m47 h49 h50 h51 h52 h53 h54 h55 h58 h62;rotate_left
 revert i0 l1 h3 h4 h5 h6 h7 w8 l9 h11 h12 h13 h14 h15 f16 l17 m18 h20 h21 h22 h23 h24 h25 h43 i44 j45 l46 m47 h49 h50 h51 h52 h53 h54 h55 h58;rotate_left
 revert i0 l1 h3 h4 h5 h6 h7 w8 l9 h11 h12 h13 h14 h15 f16 l17 m18 h20 h21 h22 h23 h24 h25 h43;rotate_left
 revert i0 l1 h3 h4 h5 h6 h7 w8 l9 h11 h12 h13 h14 h15 f16 l17 m18 h20 h21 h22 h23 h24 h25 h43 i63 j64 l65 m66 h68 h69 h70 h71 h72 h73 h74 h77 h79 h80;rotate_left
 revert i0 l1 h3 h4 h5 h6 h7 w8 l9 h11 h12 h13 h14 h15 f16 l17 m18 h20 h21 h22 h23 h24 h25 h43 i63 j64 l65 m66 h68 h69 h70 h71 h72 h73 h74 h77 h79 h80;rotate_left
 revert i0 l1 h3 h4 h5 h6 h7 w8 l9 h11 h12 h13 h14 h15 f16 l17 m18 h20 h21 h22 h23 h24 h25 h43 i63 j64 l65 m66 h68 h69 h70 h71 h72 h73 h74 h77 h79 h80;rotate_left
 revert i0 l1 h3 h4 h5 h6 h7 w8 l9 h11 h12 h13 h14 h15 f16 l17 m18 h20 h21 h22 h23 h24 h25 h43 i63 j64 l65 m66 h68 h69 h70 h71 h72 h73 h74 h77 h79 h80;rotate_left
 revert i0 l1 h3 h4 h5 h6 h7 w8 l9 h11 h12 h13 h14 h15 f16 l17 m18 h20 h21 h22 h23 h24 h25 h43 i63 j64 l65 m66 h68 h69 h70 h71 h72 h73 h74 h77 h79 h80;rotate_left
 revert i0 l1 h3 h4 h5 h6 h7 w8 l9 h11 h12 h13 h14 h15 f16 l17 m18 h20 h21 h22 h23 h24 h25 h43 i63 j64 l65 m66 h68 h69 h70 h71 h72 h73 h74 h77 h79 h80;rotate_left
 revert i0 l1 h3 h4 h5 h6 h7 w8 l9 h11 h12 h13 h14 h15 f16 l17 m18 h20 h21 h22 h23 h24 h25 h43 i63 j64 l65 m66 h68 h69 h70 h71 h72 h73 h74 h77 h81;rotate_left
 revert i0 l1 h3 h4 h5 h6 h7 w8 l9 h11 h12 h13 h14 h15 f16 l17 m18 h20 h21 h22 h23 h24 h25 h43 i63 j64 l65 m66 h68 h69 h70 h71 h72 h73 h74 h77 h81;rotate_left
 revert i0 l1 h3 h4 h5 h6 h7 w8 l9 h11 h12 h13 h14 h15 f16 l17 m18 h20 h21 h22 h23 h24 h25 h43 i63 j64 l65 m66 h68 h69 h70 h71 h72 h73 h74 h77 h81;rotate_left
 revert i0 l1 h3 h4 h5 h6 h7 w8 l9 h11 h12 h13 h14 h15 f16 l17 m18 h20 h21 h22 h23 h24 h25 h43 i63 j64 l65 m66 h68 h69 h70 h71 h72 h73 h74 h77 h81;rotate_left
 revert i0 l1 h3 h4 h5 h6 h7 w8 l9 h11 h12 h13 h14 h15 f16 l17 m18 h20 h21 h22 h23 h24 h25 h43 i63 j64 l65 m66 h68 h69 h70 h71 h72 h73 h74 h77 h81;rotate_left
 revert i0 l1 h3 h4 h5 h6 h7 w8 l9 h11 h12 h13 h14 h15 f16 l17 m18 h20 h21 h22 h23 h24 h25 h43 i63 j64 l65 m66 h68 h69 h70 h71 h72 h73 h74 h77 h81;rotate_left
 revert i0 l1 h3 h4 h5 h6 h7 w8 l9 h11 h12 h13 h14 h15 f16 l17 m18 h20 h21 h22 h23 h24 h25 h43 i63 j64 l65 m66 h68 h69 h70 h71 h72 h73 h74 h77 h81;rotate_left
 revert i0 l1 h3 h4 h5 h6 h7 w8 l9 h11 h12 h13 h14 h15 f16 l17 m18 h20 h21 h22 h23 h24 h25 h43 i63 j64 l65 m66 h68 h69 h70 h71 h72 h73 h74 h77 h81;rotate_left
 revert i0 l1 h3 h4 h5 h6 h7 w8 l9 h11 h12 h13 h14 h15 f16 l17 m18 h20 h21 h22 h23 h24 h25 h43 i63 j64 l65 m66 h68 h69 h70 h71 h72 h73 h74 h77;rotate_left
 revert i0 l1 h3 h4 h5 h6 h7 w8 l9 h11 h12 h13 h14 h15 f16 l17 m18 h20 h21 h22 h23 h24;rotate_left
 revert i0 l1 h3 h4 h5 h6 h7 w8 l9 h11 h12 h13 h14 h15;rotate_left
 all_goals
  ( intros <;>(try subst_vars) <;> first
  | omega
  | (simp only [List.length_map,List.length_append,List.length_cons,List.length_nil,Go.maxLen];omega)
  | exact F9 (by omega)
  | exact Nat.le_of_ble_eq_true rfl
  | exact Ap4 _
  | (apply Ap5 <;> first | assumption | omega | rfl)
  | (apply Ap6 <;> first | assumption | omega | rfl)
  | (apply B13 <;> first | assumption | omega | rfl)
  | (apply B12 <;> first | assumption | omega | rfl)
  | (apply Ap8 <;> first | assumption | omega | rfl)
  | (apply Ap7 <;> first | assumption | omega | rfl)
  | (apply Ag9 <;> first | assumption | omega | rfl)
  | (apply B0z <;> first | assumption | omega | rfl)
  | (apply B10 <;> first | assumption | omega | rfl)
  | (apply fin58 <;> first | assumption | omega | rfl)
  | skip)
theorem con67(es:List Entry)(d:Dot):Con Tryz.prog 67 [.sl (es.map c45),.agg (c43 d)] (.tup [.agg (c45 (B7 es d).1),.b (B7 es d).2]) :=
 by
 refine lN 0 c45 (es) Tryz.func67 fun hl_0=>sC A8 [.cell 4 45,.tmp 5] 21 Tryz.func67 ?_
 intro e0 cx
 refine sq<|rG cx [0,3,4] [3,4] z0<|sn<|sq<|sq<|rG cx [3,4,8,9,10] [3,4] (tL 1 c45 es z0)<|sn<|bL 0<|sL (X:=Int×Int×Int×Int×Int×ByteArray×Int) (fun x=>⟨[(3,.ptr (3) (0) (0) (0)),(4,.ptr (4) (0) (0) (0)),(8,.sl (List.map c45 es)),(9,.i .i64 ((↑es.length:Int))),(10,.i .i64 (x.1))],[(3,⟨0,43,.var [.i .i64 (x.2.1),.i .i64 (x.2.2.1)]⟩),(4,⟨0,45,.var [.i .i64 (x.2.2.2.1),.i .i64 (x.2.2.2.2.1),.s (x.2.2.2.2.2.1),.i .i64 (x.2.2.2.2.2.2)]⟩)]⟩) (fun x ↦ dec28 es x.1 x.2.1 x.2.2.1 x.2.2.2.1 x.2.2.2.2.1 x.2.2.2.2.2.1 x.2.2.2.2.2.2) (fun x ↦ B17 es d x.1 x.2.1 x.2.2.1 x.2.2.2.1 x.2.2.2.2.1 x.2.2.2.2.2.1 x.2.2.2.2.2.2) [3,4,8,9,10] [3,4] (((0:Int),d.rep,d.num,(0:Int),(0:Int),{ data:=#[]:ByteArray },(0:Int))) (show B17 es d (0:Int) d.rep d.num (0:Int) (0:Int) { data:=#[]:ByteArray } (0:Int)from(by exact⟨by omega,by omega,rfl,rfl,fun j hj=>by omega⟩)) ?_
 rintro⟨i0,r1,n2,a3,b4,s5,q6⟩ h_7
 obtain⟨h8,h9,h10,h11,h12⟩:0≤i0∧i0≤(↑es.length:Int)∧r1=d.rep∧n2=d.num∧∀(j:Nat),(↑j:Int) < i0→¬es[j]!.dot=d:=h_7
 refine rE cx [3,4,8,9,10,11] [3,4] (zB 0 (i0 <(↑es.length:Int))) (fun h13=>?_) fun h13=>?_
 refine sK<|sn<|sq<|bL 1<|sq<|rG cx [3,4,8,9,10,7] [3,4,7] (fA (0≤i0) (fG c45 es i0.toNat (fR 4 (fN 4 4 (oR 0 (c45 es[i0.toNat]!) z0)))))<|sn<|sq<|rG cx [3,4,8,9,10,7,17] [3,4,7] (fT (eq43 es[i0.toNat]!.dot { rep:=r1,num:=n2:Dot }) (oA 3 (.b (decide (es[i0.toNat]!.dot={ rep:=r1,num:=n2:Dot }))) z0))<|sn<|dC (es[i0.toNat]!.dot={ rep:=r1,num:=n2:Dot }) (fun h14=>?_) fun h14=>?_
 refine sq<|rG cx [4,5] [4] z0<|sn<|rT<|bR<|nR<|nR<|bR<|nR<|qR (.tup [.agg [.i .i64 (es[i0.toNat]!.dot.rep),.i .i64 (es[i0.toNat]!.dot.num),.s (es[i0.toNat]!.sku),.i .i64 (es[i0.toNat]!.qty)],.b (true)]) (B6.tup (ZLe.cons (B6.eq (show AV.agg [AV.i .i64 es[i0.toNat]!.dot.rep,AV.i .i64 es[i0.toNat]!.dot.num,AV.s es[i0.toNat]!.sku,AV.i .i64 es[i0.toNat]!.qty]=AV.agg [AV.i .i64 (B7 es d).1.dot.rep,AV.i .i64 (B7 es d).1.dot.num,AV.s (B7 es d).1.sku,AV.i .i64 (B7 es d).1.qty]from(by exact(by subst h10 h11;rw[A99 (by omega) h14 (fun j hj=>h12 j (by omega))])))) (ZLe.cons (B6.eq (show AV.b true=AV.b (B7 es d).2 from(by exact(by subst h10 h11;rw[A99 (by omega) h14 (fun j hj=>h12 j (by omega))])))) ZLe.nil)))
 refine sK<|bN<|sn<|rG cx [3,4,8,9,10] [3,4] (tW 0 (i0+1) z0)<|sn<|nX ((i0+1,r1,n2,a3,b4,s5,q6)) (show((↑es.length:Int)-(i0+1)).toNat <((↑es.length:Int)-i0).toNat from(by omega)) (show B17 es d (i0+1) r1 n2 a3 b4 s5 q6 from ?g3);rotate_left
 refine eX 0<|nE<|nE<|bH<|sn<|sq<|rG cx [4,5] [4] z0<|sn<|rT<|qR (.tup [.agg [.i .i64 ((0:Int)),.i .i64 ((0:Int)),.s ({ data:=#[]:ByteArray }),.i .i64 ((0:Int))],.b (false)]) (B6.tup (ZLe.cons (B6.eq (show AV.agg [AV.i .i64 (0:Int),AV.i .i64 (0:Int),AV.s { data:=#[]:ByteArray },AV.i .i64 (0:Int)]=AV.agg [AV.i .i64 (B7 es d).1.dot.rep,AV.i .i64 (B7 es d).1.dot.num,AV.s (B7 es d).1.sku,AV.i .i64 (B7 es d).1.qty]from(by exact(by rw[A9a (fun j hj=>h12 j (by omega))];rfl)))) (ZLe.cons (B6.eq (show AV.b false=AV.b (B7 es d).2 from(by exact(by rw[A9a (fun j hj=>h12 j (by omega))])))) ZLe.nil)))
 case g3=>revert i0 r1 n2 a3 b4 s5 q6 h8 h9 h10 h11 h12 h13 h14;exact(fun i r n a b s q h0 h1 h2 h3 h4 h5 h6=>⟨by omega,by omega,h2,h3,fun j hj=>by
   subst h2 h3
   by_cases e:j=i.toNat
   ·rw[e];exact h6
   ·exact h4 j (by omega)⟩)
theorem Bm0(es:List Entry)(d:Dot):Con Tryz.prog 40 [.sl (es.map c45),.agg (c43 d)] (.tup [.agg (c45 (B7 es d).1),.b (B7 es d).2]) :=
 by
 refine lN 0 c45 (es) Tryz.func40 fun hl_0=>sC A8 [.cell 4 45,.tmp 5] 25 Tryz.func40 ?_
 intro e0 cx
 refine sq<|rG cx [0,3,4] [3,4] z0<|sn<|sq<|sq<|rG cx [0,3,4,6] [3,4] z0<|sn<|bL 0<|sL (X:=Int×Int×Int×Int×Int×ByteArray×Int) (fun x=>⟨[(0,.sl (List.map c45 es)),(3,.ptr (3) (0) (0) (0)),(4,.ptr (4) (0) (0) (0)),(6,.i .i64 (x.1))],[(3,⟨0,43,.var [.i .i64 (x.2.1),.i .i64 (x.2.2.1)]⟩),(4,⟨0,45,.var [.i .i64 (x.2.2.2.1),.i .i64 (x.2.2.2.2.1),.s (x.2.2.2.2.2.1),.i .i64 (x.2.2.2.2.2.2)]⟩)]⟩) (fun x ↦ dec28 es x.1 x.2.1 x.2.2.1 x.2.2.2.1 x.2.2.2.2.1 x.2.2.2.2.2.1 x.2.2.2.2.2.2) (fun x ↦ B17 es d x.1 x.2.1 x.2.2.1 x.2.2.2.1 x.2.2.2.2.1 x.2.2.2.2.2.1 x.2.2.2.2.2.2) [0,3,4,6] [3,4] (((0:Int),d.rep,d.num,(0:Int),(0:Int),{ data:=#[]:ByteArray },(0:Int))) (show B17 es d (0:Int) d.rep d.num (0:Int) (0:Int) { data:=#[]:ByteArray } (0:Int)from(by exact⟨by omega,by omega,rfl,rfl,fun j hj=>by omega⟩)) ?_
 rintro⟨i0,r1,n2,a3,b4,s5,q6⟩ h_7
 obtain⟨h8,h9,h10,h11,h12⟩:0≤i0∧i0≤(↑es.length:Int)∧r1=d.rep∧n2=d.num∧∀(j:Nat),(↑j:Int) < i0→¬es[j]!.dot=d:=h_7
 refine sq<|rD cx [0,3,4,6,10] [3,4] (tL 2 c45 es (zB 3 (i0 <(↑es.length:Int)))) (fun h13=>?_) fun h13=>?_
 refine sK<|sn<|sq<|bL 1<|sq<|rA cx [0,3,4,6,19] [3,4] (fA (0≤i0) (fG c45 es i0.toNat (fR 4 (fN 2 4 (fT (eq43 es[i0.toNat]!.dot { rep:=r1,num:=n2:Dot }) (oR 2 (c45 es[i0.toNat]!) (oA 6 (.b (decide (es[i0.toNat]!.dot={ rep:=r1,num:=n2:Dot }))) z0)))))))<|sn<|dC (es[i0.toNat]!.dot={ rep:=r1,num:=n2:Dot }) (fun h14=>?_) fun h14=>?_
 refine sq<|rG cx [4,5] [4] (fA (0≤i0) (fG c45 es i0.toNat (fR 4 (fN 4 4 (oR 2 (c45 es[i0.toNat]!) z0)))))<|sn<|rT<|bR<|nR<|nR<|bR<|nR<|qR (.tup [.agg [.i .i64 (es[i0.toNat]!.dot.rep),.i .i64 (es[i0.toNat]!.dot.num),.s (es[i0.toNat]!.sku),.i .i64 (es[i0.toNat]!.qty)],.b (true)]) (B6.tup (ZLe.cons (B6.eq (show AV.agg [AV.i .i64 es[i0.toNat]!.dot.rep,AV.i .i64 es[i0.toNat]!.dot.num,AV.s es[i0.toNat]!.sku,AV.i .i64 es[i0.toNat]!.qty]=AV.agg [AV.i .i64 (B7 es d).1.dot.rep,AV.i .i64 (B7 es d).1.dot.num,AV.s (B7 es d).1.sku,AV.i .i64 (B7 es d).1.qty]from(by exact(by subst h10 h11;rw[A99 (by omega) h14 (fun j hj=>h12 j (by omega))])))) (ZLe.cons (B6.eq (show AV.b true=AV.b (B7 es d).2 from(by exact(by subst h10 h11;rw[A99 (by omega) h14 (fun j hj=>h12 j (by omega))])))) ZLe.nil)))
 refine sK<|bN<|sn<|rG cx [0,3,4,6] [3,4] (tW 1 (i0+1) z0)<|sn<|nX ((i0+1,r1,n2,a3,b4,s5,q6)) (show((↑es.length:Int)-(i0+1)).toNat <((↑es.length:Int)-i0).toNat from(by omega)) (show B17 es d (i0+1) r1 n2 a3 b4 s5 q6 from ?g3);rotate_left
 refine eX 0<|nE<|nE<|bH<|sn<|sq<|rG cx [4,5] [4] z0<|sn<|rT<|qR (.tup [.agg [.i .i64 ((0:Int)),.i .i64 ((0:Int)),.s ({ data:=#[]:ByteArray }),.i .i64 ((0:Int))],.b (false)]) (B6.tup (ZLe.cons (B6.eq (show AV.agg [AV.i .i64 (0:Int),AV.i .i64 (0:Int),AV.s { data:=#[]:ByteArray },AV.i .i64 (0:Int)]=AV.agg [AV.i .i64 (B7 es d).1.dot.rep,AV.i .i64 (B7 es d).1.dot.num,AV.s (B7 es d).1.sku,AV.i .i64 (B7 es d).1.qty]from(by exact(by rw[A9a (fun j hj=>h12 j (by omega))];rfl)))) (ZLe.cons (B6.eq (show AV.b false=AV.b (B7 es d).2 from(by exact(by rw[A9a (fun j hj=>h12 j (by omega))])))) ZLe.nil)))
 case g3=>revert i0 r1 n2 a3 b4 s5 q6 h8 h9 h10 h11 h12 h13 h14;exact(fun i r n a b s q h0 h1 h2 h3 h4 h5 h6=>⟨by omega,by omega,h2,h3,fun j hj=>by
   subst h2 h3
   by_cases e:j=i.toNat
   ·rw[e];exact h6
   ·exact h4 j (by omega)⟩)
end Go.Proofs.YtaiepnaokhpmcaaGreat
namespace Go.Proofs.YtaiepnaokhpmcaaGreat
open Go.E
set_option maxRecDepth 100000
set_option maxHeartbeats 4000000
noncomputable def A0y(a b:Facts):Bool:=okF a && okF b
noncomputable def D4(f:Facts):Int:=if okF f=true then 0 else 1
def zeroF:Facts:=⟨[],⟨[],[]⟩,[]⟩
theorem G2{f:Facts}:okF f=true↔D2 f.adds=0∧f.gone=A6 f.gone∧F5 f.recs=0:=by rw[Aw8,decide_eq_true_iff]
theorem H5{a b:Facts}:A0y a b=true↔okF a=true∧okF b=true:=by unfold A0y;rw[Bool.and_eq_true]
end Go.Proofs.YtaiepnaokhpmcaaGreat
namespace Go.Proofs.YtaiepnaokhpmcaaGreat
open Go.E
set_option maxRecDepth 100000
set_option maxHeartbeats 4000000
theorem Ax3{e:Entry}(h:R9 e=0):0≤e.dot.rep∧e.dot.rep < 16∧1≤e.dot.num∧e.dot.num≤1000000000:=by
 unfold R9 at h
 split at h
 ·cases h
 ·split at h
  ·cases h
  ·omega
theorem A1a{es:List Entry}(h:okL es=true){i:Nat}(hi:i < es.length):R9 es[i]! = 0∧(i=0∨dLt es[i-1]!.dot es[i]!.dot=true):=(Y2 _ _).1 ((K7 _ _).1 h i hi)
theorem B4w{es:List Entry}(h:okL es=true):∀ i:Nat,i < es.length→(i:Int)+1≤es[i]!.dot.rep*1000000000+es[i]!.dot.num
 | 0,hi=>by have:=Ax3 (A1a h hi).1;omega
 | i+1,hi=>by
  have h1:=B4w h i (by omega)
  have h2:=Ax3 (A1a h hi).1
  have h3:=Ax3 (A1a h (show i < es.length by omega)).1
  have h4:=(A1a h hi).2
  rcases h4 with h4 | h4
  ·omega
  ·simp only [Nat.add_sub_cancel,dLt,decide_eq_true_eq]at h4
   omega
theorem U4{es:List Entry}(h:okL es=true):es.length≤16000000000:=by
 by_cases h0:es.length=0
 ·omega
 ·have h1:=B4w h (es.length-1) (by omega)
  have h2:=Ax3 (A1a h (show es.length-1 < es.length by omega)).1
  omega
theorem M6{es:List Entry}(h:D2 es=0):okL es=true:=by
 unfold D2 at h
 split at h
 ·assumption
 ·cases h
theorem Ax4{es:List Entry}(h:¬ D2 es=0):¬ okL es=true:=fun k=>h (by unfold D2;rw[if_pos k])
end Go.Proofs.YtaiepnaokhpmcaaGreat
namespace Go.Proofs.YtaiepnaokhpmcaaGreat
open Go.E
set_option maxRecDepth 100000
set_option maxHeartbeats 4000000
def szG(f:Facts):Prop:=szF f∧f.recs.length*64≤140737488351232
theorem J2{f:Facts}:D4 f=0↔okF f=true:=by
 unfold D4
 by_cases h:okF f=true
 ·rw[if_pos h];exact⟨fun _=>h,fun _=>rfl⟩
 ·rw[if_neg h];exact⟨fun k=>by omega,fun k=>absurd k h⟩
theorem A42(f:Facts)(hb:szF f):Con Tryz.prog 39 [.agg (c29 f)] (.i .i64 (D4 f)) :=
 by
 have no:(¬D2 f.adds=0∨¬f.gone=A6 f.gone∨¬F5 f.recs=0)↔¬ okF f=true:=by
  rw[G2]
  constructor
  ·rintro(h | h | h) k
   ·exact h k.1
   ·exact h k.2.1
   ·exact h k.2.2
  ·intro h
   by_cases a:D2 f.adds=0
   ·by_cases b:f.gone=A6 f.gone
    ·exact .inr (.inr fun c=>h ⟨a,b,c⟩)
    ·exact .inr (.inl b)
   ·exact .inl a
 refine sC A8 [.tmp 2] 19 Tryz.func39 ?_
 intro e0 cx
 refine sq<|rG cx [1] [1] z0<|sn<|sq<|sq<|B1 (σ':=⟨[(18,.b (decide (¬D2 f.adds=0∨¬f.gone=A6 f.gone∨¬F5 f.recs=0)))],[]⟩) ?_ ?_
 refine A4 (¬D2 f.adds=0) (fun h1=>?_) (fun h1=>?_)
 refine rG cx [18] [] (fT (A5k (f.adds)) (tT 3 (D0 h1:AV.b (D2 f.adds !=0)=AV.b true) (tD 15 true (¬D2 f.adds=0∨¬f.gone=A6 f.gone∨¬F5 f.recs=0) (by simp only [eq_false h1,tsl]) (oA 2 (.i .i64 (D2 f.adds)) z0)))) ?_
 exact⟨rfl,by kernel_rfl⟩
 refine A4 (¬f.gone=A6 f.gone) (fun h2=>?_) (fun h2=>?_)
 refine rg (A:=_∧(AV.b (D2 f.adds !=0)=AV.b (decide ¬D2 f.adds=0))∧_∧_∧_∧(AV.b true=AV.b (decide (¬D2 f.adds=0∨¬f.gone=A6 f.gone∨¬F5 f.recs=0)))) cx [(2,{ val:=some (.i .i64 (D2 f.adds)) }),(3,{ tell:=some (.b (decide ¬D2 f.adds=0)) }),(4,{ tell:=some (.b (false)) }),(7,{ val:=some (.b (decide (f.gone=A6 f.gone))),tell:=some (.b (false)) }),(15,{ tell:=some (.b (decide (¬D2 f.adds=0∨¬f.gone=A6 f.gone∨¬F5 f.recs=0))) })] [18] [] ⟨(A5k (f.adds)),(A8c),(A0 h1),(A0 h2),(B3e (f.gone) (by exact hb.1.1)),(by first | (simp only [eq_false h1,eq_false h2,tsl];done) | simp_all)⟩ ?_
 exact⟨rfl,by kernel_rfl⟩
 refine rG cx [18] [] (fT (A5k (f.adds)) (tN 3 (D2 f.adds) (0:Int) (tT 4 (A0 h1) (fT (B3e (f.gone) (by exact hb.1.1)) (tQ 8 (f.gone=A6 f.gone) (tT 9 (A0 h2) (fT (B0r (f.recs) (by exact B4n hb.2)) (tN 14 (F5 f.recs) (0:Int) (tT 15 (by first | (simp only [eq_false h1,eq_false h2,tsl];done) | simp_all:AV.b (decide ¬F5 f.recs=0)=AV.b (decide (¬D2 f.adds=0∨¬f.gone=A6 f.gone∨¬F5 f.recs=0))) (oA 2 (.i .i64 (D2 f.adds)) (oA 7 (.b (decide (f.gone=A6 f.gone))) (oA 13 (.i .i64 (F5 f.recs)) z0)))))))))))) ?_
 exact⟨rfl,by kernel_rfl⟩
 refine sn<|dC (¬D2 f.adds=0∨¬f.gone=A6 f.gone∨¬F5 f.recs=0) (fun h3=>?_) fun h3=>?_
 refine sq<|rG cx [2] [] z0<|sn<|rT<|nR<|qR (.i .i64 ((1:Int))) (.eq (by unfold D4;rw[if_neg (no.1 h3)]))
 refine sK<|sn<|sq<|rG cx [2] [] z0<|sn<|rT<|qR (.i .i64 ((0:Int))) (.eq (by unfold D4;rw[if_pos (Classical.not_not.1 fun k=>h3 (no.2 k))]))
theorem con56(a b:Facts)(ha:szF a)(hb:szF b):Con Tryz.prog 56 [.agg (c29 a),.agg (c29 b)] (.b (A0y a b)) :=
 by
 refine sC A8 [.tmp 4] 13 Tryz.func56 ?_
 intro e0 cx
 refine sq<|rG cx [2,3] [2,3] z0<|sn<|sq<|B1 (σ':=⟨[(4,.b (decide (D4 a=0∧D4 b=0)))],[]⟩) ?_ ?_
 refine A4 (D4 a=0) (fun h_1=>?_) (fun h_1=>?_)
 refine rG cx [4] [] (fT (A42 (a) (by(with_reducible assumption))) (tT 2 (A7 h_1) (fT (A42 (b) (by(with_reducible assumption))) (tB 6 (D4 b=0) (tD 8 (decide (D4 b=0)) (D4 a=0∧D4 b=0) (by simp only [eq_true h_1,tsl]) (oA 1 (.i .i64 (D4 a)) (oA 5 (.i .i64 (D4 b)) z0))))))) ?_
 exact⟨rfl,by kernel_rfl⟩
 refine rG cx [4] [] (fT (A42 (a) (by(with_reducible assumption))) (tT 2 (A0 h_1) (tD 8 false (D4 a=0∧D4 b=0) (by simp only [eq_false h_1,tsl]) (oA 1 (.i .i64 (D4 a)) z0)))) ?_
 exact⟨rfl,by kernel_rfl⟩
 refine sn<|rT<|qR (.b (decide (D4 a=0∧D4 b=0))) (.eq ?g0);rotate_left
 case g0 =>
  refine congrArg AV.b ?_
  rw[Bool.eq_iff_iff,decide_eq_true_iff,J2,J2,H5]
end Go.Proofs.YtaiepnaokhpmcaaGreat
namespace Go.Proofs.YtaiepnaokhpmcaaGreat
open Go.E
set_option maxRecDepth 100000
set_option maxHeartbeats 4000000
def F2(es:List Entry):Past×Int:=if okL es=true then(G1 (ofT (es.map fun e=>e.dot)),0)else(⟨[],[]⟩,1)
def O5(es:List Entry)(p:Past)(t:Bool):List Entry×Int:=if okL es=true∧p=A6 p then(es.filter (fun e=>E8 p e.dot == t),0)else([],1)
theorem A0p{es:List Entry}(h:¬ D2 es=0):F2 es=(⟨[],[]⟩,1):=by unfold F2;rw[if_neg (Ax4 h)]
theorem A4j{es:List Entry}(h:D2 es=0):F2 es=(G1 (ofT (es.map fun e=>e.dot)),0):=by unfold F2;rw[if_pos (M6 h)]
theorem Ax5{es:List Entry}{p:Past}{t:Bool}(h:¬ D2 es=0∨¬ p=A6 p):O5 es p t=([],1):=by
 unfold O5
 rw[if_neg]
 rintro⟨h1,h2⟩
 exact h.elim (fun k=>Ax4 k h1) (fun k=>k h2)
theorem Ax6{es:List Entry}{p:Past}{t:Bool}(h:D2 es=0)(h2:p=A6 p):O5 es p t=(es.filter (fun e=>E8 p e.dot == t),0):=by unfold O5;rw[if_pos ⟨M6 h,h2⟩]
def Ah0(es:List Entry)(i:Int)(l:List Dot):Prop:=l.length=es.length∧l.take i.toNat=(es.take i.toNat).map fun e=>e.dot
def invD(es:List Entry)(i:Int)(l:List Dot):Prop:=0≤i∧i≤es.length∧l.length=es.length∧Ah0 es i l
def decD(es:List Entry)(i:Int)(l:List Dot):Nat:=(es.length-i).toNat
theorem Ap9{es:List Entry}{i:Int}{l:List Dot}(h0:0≤i)(h:i < es.length)(hs:Ah0 es i l):Ah0 es (i+1) (l.set i.toNat es[i.toNat]!.dot):=by
 obtain⟨h1,h2⟩:=hs
 refine⟨by rw[List.length_set];exact h1,?_⟩
 rw[← C8 h0 h,List.map_append,← h2,show(i+1).toNat=i.toNat+1 by omega,List.take_succ_eq_append_getElem (by rw[List.length_set];omega)]
 simp [List.take_set_of_le]
theorem B18{es:List Entry}{i:Int}{l:List Dot}(h:¬ i < es.length)(hs:Ah0 es i l):l=es.map fun e=>e.dot:=by
 obtain⟨h1,h2⟩:=hs
 rwa [List.take_of_length_le (by omega),List.take_of_length_le (by omega)]at h2
theorem ok_len{es:List Entry}(h:¬ ¬ D2 es=0):es.length≤16000000000:=U4 (M6 (Classical.not_not.1 h))
theorem A5x{es:List Entry}{p:Past}(h:¬(¬ D2 es=0∨¬ p=A6 p)):D2 es=0∧p=A6 p:=⟨Classical.not_not.1 fun k=>h (.inl k),Classical.not_not.1 fun k=>h (.inr k)⟩
def A7q(es:List Entry)(i:Int)(l:List Dot):Prop:=l=(es.take i.toNat).map fun e=>e.dot
theorem Aq0{es:List Entry}{i:Int}{l:List Dot}(h0:0≤i)(h:i < es.length)(hs:A7q es i l):A7q es (i+1) (l++[es[i.toNat]!.dot]):=by
 unfold A7q at *
 rw[← C8 h0 h,List.map_append,← hs]
 rfl
def Bm1(es:List Entry)(i:Int)(l:List Dot):Prop:=0≤i∧i≤es.length∧(l.length:Int)=i∧A7q es i l
def decRD(es:List Entry)(i:Int)(l:List Dot):Nat:=(es.length-i).toNat
theorem con87(es:List Entry):Con Tryz.prog 87 [.sl (es.map c45)] (.tup [.agg (c26 (F2 es).1),.i .i64 (F2 es).2]) :=
 by
 refine lN 0 c45 (es) Tryz.func87 fun hl_0=>sC A8 [.cell 2 26,.tmp 3] 29 Tryz.func87 ?_
 intro e0 cx
 refine sq<|rG cx [0,2] [2] z0<|sn<|sq<|sq<|rG cx [0,2,9] [2] (fT (A5k (es)) (tN 2 (D2 es) (0:Int) (oA 1 (.i .i64 (D2 es)) z0)))<|sn<|dC (¬D2 es=0) (fun hh0=>?_) fun hh0=>?_
 refine sq<|rG cx [2,3] [2] z0<|sn<|rT<|nR<|qR (.tup [.agg [.nl,.nl],.i .i64 ((1:Int))]) (B6.tup (ZLe.cons (B6.agg (ZLe.cons (B6.nl' (show List.map c3 (F2 es).1.vec=[]from(by rw[A0p hh0];rfl))) (ZLe.cons (B6.nl' (show List.map B5 (F2 es).1.cloud=[]from(by rw[A0p hh0];rfl))) ZLe.nil))) (ZLe.cons (B6.eq (show AV.i .i64 1=AV.i .i64 (F2 es).2 from(by rw[A0p hh0]))) ZLe.nil)))
 refine sK<|sn<|sq<|rG cx [0,2,4] [2,13] (tL 1 c45 es (fR (↑es.length:Int) (fR (↑es.length:Int) (fP ((16:Nat)*es.length≤(281474976710656:Nat)) (by have:=ok_len hh0;omega) (fP (es.length≤maxLen) (by(simp only [Go.maxLen];omega)) (fR 2 (fP (ZLe [AV.i .i64 (0:Int),AV.i .i64 (0:Int)] [AV.i .i64 { rep:=(0:Int),num:=(0:Int):Dot }.rep,AV.i .i64 { rep:=(0:Int),num:=(0:Int):Dot }.num]) (by(with_reducible exact ZLe.refl _)) (fP (List.replicate es.length [AV.i .i64 { rep:=(0:Int),num:=(0:Int):Dot }.rep,AV.i .i64 { rep:=(0:Int),num:=(0:Int):Dot }.num]=List.map c43 (List.replicate es.length { rep:=(0:Int),num:=(0:Int):Dot })) (by(with_reducible refine Al1 ?_;kernel_rfl)) (oV 2 { row:=[.i .i64 ({ rep:=(0:Int),num:=(0:Int):Dot }.rep),.i .i64 ({ rep:=(0:Int),num:=(0:Int):Dot }.num)],rows:=some (List.map c43 (List.replicate es.length { rep:=(0:Int),num:=(0:Int):Dot })),n:=es.length } z0))))))))) ?_
 refine sn<|sq<|sq<|rG cx [2,4,14,15,16] [2,13] (tL 1 c45 es z0)<|sn<|bL 0<|sL (X:=Int×List Dot) (fun x=>⟨[(2,.ptr (2) (0) (0) (0)),(4,.own 13 0),(14,.sl (List.map c45 es)),(15,.i .i64 ((↑es.length:Int))),(16,.i .i64 (x.1))],[(2,⟨0,26,.var [.nl,.nl]⟩),(13,⟨0,43,.row 2 (List.map c43 x.2)⟩)]⟩) (fun x ↦ decD es x.1 x.2) (fun x ↦ invD es x.1 x.2) [2,4,14,15,16] [2,13] (((0:Int),List.replicate es.length { rep:=(0:Int),num:=(0:Int):Dot })) (show invD es (0:Int) (List.replicate es.length { rep:=(0:Int),num:=(0:Int):Dot })from(by exact⟨by omega,by omega,by simp,by simp,by simp⟩)) ?_
 rintro⟨i1,l2⟩ h_3
 obtain⟨hh4,h5,h6,h7⟩:0≤i1∧i1≤(↑es.length:Int)∧l2.length=es.length∧Ah0 es i1 l2:=h_3
 refine rE cx [2,4,14,15,16,17] [2,13] (zB 0 (i1 <(↑es.length:Int))) (fun h8=>?_) fun h8=>?_
 refine sK<|sn<|sq<|bL 1<|sq<|rG cx [2,4,14,15,16,6,5] [2,13,6] (fA (0≤i1) (fG c45 es i1.toNat (fR 4 (fN 4 4 (oR 1 (c45 es[i1.toNat]!) z0)))))<|sn<|rG cx [2,4,14,15,16] [2,13] (fA (0≤i1) (fP (i1.toNat <(List.map c43 l2).length) (by(first | omega | (simp only [List.length_map];omega))) (fR 2 (fG c43 l2 i1.toNat (fR 2 (fP (0+(2:Nat)≤2) (by(first | omega | (simp only [List.length_map];omega))) (fP ((List.map c43 l2).set i1.toNat (List.take (0) (c43 l2[i1.toNat]!)++E0 (AV.agg [AV.i .i64 es[i1.toNat]!.dot.rep,AV.i .i64 es[i1.toNat]!.dot.num])++List.drop (0+(2:Nat)) (c43 l2[i1.toNat]!))=List.map c43 (l2.set i1.toNat es[i1.toNat]!.dot)) (by(with_reducible refine A37 ?_;kernel_rfl)) (oV 5 { row:=(c43 l2[i1.toNat]!),rows:=some (List.map c43 (l2.set i1.toNat es[i1.toNat]!.dot)) } z0)))))))) ?_
 refine bN<|sn<|rG cx [2,4,14,15,16] [2,13] (tW 0 (i1+1) z0)<|sn<|nX ((i1+1,l2.set i1.toNat es[i1.toNat]!.dot)) (show((↑es.length:Int)-(i1+1)).toNat <((↑es.length:Int)-i1).toNat from(by omega)) (show invD es (i1+1) (l2.set i1.toNat es[i1.toNat]!.dot)from(by exact⟨by omega,by omega,by rw[List.length_set];exact h6,Ap9 hh4 h8 h7⟩))
 refine eX 0<|nE<|nE<|bH<|sn<|sq<|rG cx [2,3] [2] (fT (con136 (l2) (by have:=ok_len hh0;omega)) (oA 1 (.agg [.sl (List.map c3 (G1 (ofT l2)).vec),.sl (List.map B5 (G1 (ofT l2)).cloud)]) z0)) ?_
 refine sn<|rT<|qR (.tup [.agg [.sl (List.map c3 (G1 (ofT l2)).vec),.sl (List.map B5 (G1 (ofT l2)).cloud)],.i .i64 ((0:Int))]) (B6.tup (ZLe.cons (B6.eq (show AV.agg [AV.sl (List.map c3 (G1 (ofT l2)).vec),AV.sl (List.map B5 (G1 (ofT l2)).cloud)]=AV.agg [AV.sl (List.map c3 (F2 es).1.vec),AV.sl (List.map B5 (F2 es).1.cloud)]from(by rw[A4j (Classical.not_not.1 hh0),B18 h8 h7]))) (ZLe.cons (B6.eq (show AV.i .i64 0=AV.i .i64 (F2 es).2 from(by rw[A4j (Classical.not_not.1 hh0)]))) ZLe.nil)))
theorem Bc5(e:Entry)(p:Past):Con Tryz.prog 114 [.agg (c45 e),.eptr (c26 p)] (.b (E8 p e.dot == false)) :=
 by
 refine sC A8 [.tmp 3] 9 Tryz.func114 ?_
 intro e0 cx
 refine sq<|rG cx [1,2] [2] z0<|sn<|sq<|rG cx [3] [] (fN 2 2 (fT (B3g (p) (e.dot)) (tT 4 (D3:(AV.b !E8 p e.dot)=AV.b (decide ¬E8 p e.dot=true)) (oA 3 (.b (E8 p e.dot)) z0))))<|sn<|rT<|qR (.b (decide ¬E8 p e.dot=true)) (.eq ?g0);rotate_left
 case g0=>exact(by cases E8 p e.dot <;> rfl)
theorem B8j(es:List Entry)(p:Past)(hs:es.length*40≤140737488351232):Con Tryz.prog 113 [.sl (es.map c45),.fn (.func 114) [] [.eptr (c26 p)]] (.sl ((es.filter (fun e=>E8 p e.dot == false)).map c45)) :=
 by
 refine lN 0 c45 (es) Tryz.func113 fun hl_0=>sC A8 [.tmp 4] 23 Tryz.func113 ?_
 intro e0 cx
 refine sq<|rG cx [0,1] [] z0<|sn<|sq<|rG cx [0,1,5] [] z0<|sn<|sq<|sq<|rG cx [1,5,8,9,10] [] (tL 1 c45 es z0)<|sn<|bL 0<|E6 5 1005 45 4 (σ':=⟨[(1,.fn (Fn.func (114:FuncId)) [] [.eptr [.sl (List.map c3 p.vec),.sl (List.map B5 p.cloud)]]),(5,.own 1005 0),(8,.sl (List.map c45 es)),(9,.i .i64 ((↑es.length:Int))),(10,.i .i64 ((0:Int)))],[(1005,⟨0,45,.row 4 (List.map c45 [])⟩)]⟩) (by kernel_rfl)<|sL (X:=Int×List Entry) (fun x=>⟨[(1,.fn (Fn.func (114:FuncId)) [] [.eptr [.sl (List.map c3 p.vec),.sl (List.map B5 p.cloud)]]),(5,.own 1005 0),(8,.sl (List.map c45 es)),(9,.i .i64 ((↑es.length:Int))),(10,.i .i64 (x.1))],[(1005,⟨0,45,.row 4 (List.map c45 x.2)⟩)]⟩) (fun x ↦ decP es x.1 x.2) (fun x ↦ Bl2 (fun e ↦ E8 p e.dot == false) es x.1 x.2) [1,5,8,9,10] [1005] (((0:Int),[])) (show Bl2 (fun e ↦ E8 p e.dot == false) es (0:Int) []from(by exact(B4o _ _))) ?_
 rintro⟨i0,l1⟩ h_2
 obtain⟨hh3,hh4,hh5,h6⟩:0≤i0∧i0≤(↑es.length:Int)∧l1=List.filter (fun e ↦ E8 p e.dot == false) (List.take i0.toNat es)∧(↑l1.length:Int)≤i0:=h_2
 refine rE cx [1,5,8,9,10,11] [1005] (zB 0 (i0 <(↑es.length:Int))) (fun h7=>?_) fun h7=>?_
 refine sK<|sn<|sq<|bL 1<|sq<|rG cx [1,5,8,9,10,7] [1005,7] (fA (0≤i0) (fG c45 es i0.toNat (fR 4 (fN 4 4 (oR 0 (c45 es[i0.toNat]!) z0)))))<|sn<|sq<|rG cx [1,5,8,9,10,7,16] [1005,7] (fT (Bc5 (es[i0.toNat]!) (p)) (oA 2 (resC (Bc5 (es[i0.toNat]!) (p))) z0))<|sn<|A1e (E8 p es[i0.toNat]!.dot == false) (by kernel_rfl) (by kernel_rfl) (fun h8=>?_) (fun h8=>?_)
 refine rG cx [1,5,8,9,10] [1005] (fR 45 (fR 4 (fR 4 (fX c45 [es[i0.toNat]!] 4 (fS c45 l1 c45 [es[i0.toNat]!] (fP (((List.map c45 l1).length+(List.map c45 [es[i0.toNat]!]).length)*(40:Nat)≤(140737488355328:Nat)) (by(simp only [Go.maxLen,List.length_map,List.length_append,List.length_cons,List.length_nil];omega)) (fM c45 l1 [es[i0.toNat]!] (oV 3 { rows:=some (List.map c45 (l1++[es[i0.toNat]!])) } z0))))))))<|bN<|sn<|rG cx [1,5,8,9,10] [1005] (tW 0 (i0+1) z0)<|sn<|nX ((i0+1,l1++[es[i0.toNat]!])) (show((↑es.length:Int)-(i0+1)).toNat <((↑es.length:Int)-i0).toNat from(by omega)) (show Bl2 (fun e ↦ E8 p e.dot == false) es (i0+1) (l1++[es[i0.toNat]!])from(by exact(B8b hh3 hh5 h6 h7 h8)))
 refine sK<|bN<|sn<|rG cx [1,5,8,9,10] [1005] (tW 0 (i0+1) z0)<|sn<|nX ((i0+1,l1)) (show((↑es.length:Int)-(i0+1)).toNat <((↑es.length:Int)-i0).toNat from(by omega)) (show Bl2 (fun e ↦ E8 p e.dot == false) es (i0+1) l1 from(by exact(B4p hh3 hh5 h6 h7 (by simpa using h8))))
 refine eX 0<|nE<|nE<|bH<|sn<|sq<|rG cx [4] [1005] z0<|sn<|rT<|qR (.sl (List.map c45 l1)) (.eq (by exact(by rw[B4q hh5 h7])))
theorem con68(es:List Entry)(p:Past)(hb:p.cloud.length*16≤140737488350000):Con Tryz.prog 68 [.sl (es.map c45),.agg (c26 p)] (.tup [.sl ((O5 es p false).1.map c45),.i .i64 (O5 es p false).2]) :=
 by
 refine lN 0 c45 (es) Tryz.func68 fun hl_0=>sC A8 [.tmp 4,.tmp 5] 17 Tryz.func68 ?_
 intro e0 cx
 refine sq<|rG cx [0,3] [3] z0<|sn<|sq<|sq<|B1 (σ':=⟨[(0,.sl (List.map c45 es)),(3,.ptr (3) (0) (0) (0)),(13,.b (decide (¬D2 es=0∨¬p=A6 p)))],[(3,⟨0,26,.var [.sl (List.map c3 p.vec),.sl (List.map B5 p.cloud)]⟩)]⟩) ?_ ?_
 refine A4 (¬D2 es=0) (fun h_1=>?_) (fun h_1=>?_)
 refine rG cx [0,3,13] [3] (fT (A5k (es)) (tT 2 (D0 h_1:AV.b (D2 es !=0)=AV.b true) (tD 7 true (¬D2 es=0∨¬p=A6 p) (by simp only [eq_false h_1,tsl]) (oA 1 (.i .i64 (D2 es)) z0)))) ?_
 exact⟨rfl,by kernel_rfl⟩
 refine rG cx [0,3,13] [3] (fT (A5k (es)) (tN 2 (D2 es) (0:Int) (tT 3 (A0 h_1) (fT (B3e (p) (by(with_reducible assumption))) (tQ 6 (p=A6 p) (tT 7 (by first | (simp only [eq_false h_1,tsl];done) | simp_all:AV.b (decide ¬p=A6 p)=AV.b (decide (¬D2 es=0∨¬p=A6 p))) (oA 1 (.i .i64 (D2 es)) (oA 5 (.b (decide (p=A6 p))) z0)))))))) ?_
 exact⟨rfl,by kernel_rfl⟩
 refine sn<|dC (¬D2 es=0∨¬p=A6 p) (fun h2=>?_) fun h2=>?_
 refine sq<|rG cx [4,5] [] z0<|sn<|rT<|nR<|qR (.tup [.nl,.i .i64 ((1:Int))]) (B6.tup (ZLe.cons (B6.nl' (show List.map c45 (O5 es p false).1=[]from(by exact(by rw[Ax5 h2];rfl)))) (ZLe.cons (B6.eq (show AV.i .i64 1=AV.i .i64 (O5 es p false).2 from(by exact(by rw[Ax5 h2])))) ZLe.nil)))
 refine sK<|sn<|sq<|rG cx [4,5] [] (fT (B8j (es) (p) (by exact(by have:=U4 (M6 (A5x h2).1);omega))) (oA 2 (.sl (List.map c45 (List.filter (fun e ↦ E8 p e.dot == false) es))) z0)) ?_
 refine sn<|rT<|qR (.tup [.sl (List.map c45 (List.filter (fun e ↦ E8 p e.dot == false) es)),.i .i64 ((0:Int))]) (B6.tup (ZLe.cons (B6.eq (show AV.sl (List.map c45 (List.filter (fun e ↦ E8 p e.dot == false) es))=AV.sl (List.map c45 (O5 es p false).1)from(by exact(by rw[Ax6 (A5x h2).1 (A5x h2).2])))) (ZLe.cons (B6.eq (show AV.i .i64 0=AV.i .i64 (O5 es p false).2 from(by exact(by rw[Ax6 (A5x h2).1 (A5x h2).2])))) ZLe.nil)))
end Go.Proofs.YtaiepnaokhpmcaaGreat
namespace Go.Proofs.YtaiepnaokhpmcaaGreat
open Go.E
set_option maxRecDepth 100000
set_option maxHeartbeats 4000000
theorem con86(es:List Entry):Con Tryz.prog 86 [.sl (es.map c45)] (.tup [.agg (c26 (F2 es).1),.i .i64 (F2 es).2]) :=
 by
 refine lN 0 c45 (es) Tryz.func86 fun hl_0=>sC A8 [.cell 2 26,.tmp 3] 26 Tryz.func86 ?_
 intro e0 cx
 refine sq<|rG cx [0,2] [2] z0<|sn<|sq<|sq<|rG cx [0,2,8] [2] (fT (Ao1 (es)) (tN 2 (D2 es) (0:Int) (oA 1 (.i .i64 (D2 es)) z0)))<|sn<|dC (¬D2 es=0) (fun hh0=>?_) fun hh0=>?_
 refine sq<|rG cx [2,3] [2] z0<|sn<|rT<|nR<|qR (.tup [.agg [.nl,.nl],.i .i64 ((1:Int))]) (B6.tup (ZLe.cons (B6.agg (ZLe.cons (B6.nl' (show List.map c3 (F2 es).1.vec=[]from(by rw[A0p hh0];rfl))) (ZLe.cons (B6.nl' (show List.map B5 (F2 es).1.cloud=[]from(by rw[A0p hh0];rfl))) ZLe.nil))) (ZLe.cons (B6.eq (show AV.i .i64 1=AV.i .i64 (F2 es).2 from(by rw[A0p hh0]))) ZLe.nil)))
 refine sK<|sn<|sq<|rG cx [0,2,4] [2] z0<|sn<|sq<|sq<|rG cx [0,2,4,5] [2] z0<|sn<|bL 0<|E6 4 1004 43 2 (σ':=⟨[(0,.sl (List.map c45 es)),(2,.ptr (2) (0) (0) (0)),(4,.own 1004 0),(5,.i .i64 ((0:Int)))],[(2,⟨0,26,.var [.nl,.nl]⟩),(1004,⟨0,43,.row 2 (List.map c43 [])⟩)]⟩) (by kernel_rfl)<|sL (X:=Int×List Dot) (fun x=>⟨[(0,.sl (List.map c45 es)),(2,.ptr (2) (0) (0) (0)),(4,.own 1004 0),(5,.i .i64 (x.1))],[(2,⟨0,26,.var [.nl,.nl]⟩),(1004,⟨0,43,.row 2 (List.map c43 x.2)⟩)]⟩) (fun x ↦ decRD es x.1 x.2) (fun x ↦ Bm1 es x.1 x.2) [0,2,4,5] [2,1004] (((0:Int),[])) (show Bm1 es (0:Int) []from(by exact⟨by omega,by omega,rfl,rfl⟩)) ?_
 rintro⟨i1,l2⟩ h_3
 obtain⟨hh4,h5,h6,h7⟩:0≤i1∧i1≤(↑es.length:Int)∧(↑l2.length:Int)=i1∧A7q es i1 l2:=h_3
 refine sq<|rD cx [0,2,4,5,13] [2,1004] (tL 2 c45 es (zB 3 (i1 <(↑es.length:Int)))) (fun h8=>?_) fun h8=>?_
 refine sK<|sn<|sq<|bL 1<|rG cx [0,2,4,5] [2,1004] (fA (0≤i1) (fG c45 es i1.toNat (fR 4 (fN 2 4 (fR 43 (fR 2 (fR 2 (fX c43 [es[i1.toNat]!.dot] 2 (fS c43 l2 c43 [es[i1.toNat]!.dot] (fP (((List.map c43 l2).length+(List.map c43 [es[i1.toNat]!.dot]).length)*(16:Nat)≤(140737488355328:Nat)) (by have:=ok_len hh0;simp only [List.length_map,List.length_cons,List.length_nil];omega) (fM c43 l2 [es[i1.toNat]!.dot] (oR 3 (c45 es[i1.toNat]!) (oV 7 { rows:=some (List.map c43 (l2++[es[i1.toNat]!.dot])) } z0))))))))))))) ?_
 refine bN<|sn<|rG cx [0,2,4,5] [2,1004] (tW 1 (i1+1) z0)<|sn<|nX ((i1+1,l2++[es[i1.toNat]!.dot])) (show((↑es.length:Int)-(i1+1)).toNat <((↑es.length:Int)-i1).toNat from(by omega)) (show Bm1 es (i1+1) (l2++[es[i1.toNat]!.dot])from(by exact⟨by omega,by omega,by rw[List.length_append];simp only [List.length_cons,List.length_nil];omega,Aq0 hh4 h8 h7⟩))
 refine eX 0<|nE<|nE<|bH<|sn<|sq<|rG cx [2,3] [2] (fT (con135 (l2) (by have:=ok_len hh0;omega)) (oA 1 (.agg [.sl (List.map c3 (G1 (ofT l2)).vec),.sl (List.map B5 (G1 (ofT l2)).cloud)]) z0)) ?_
 refine sn<|rT<|qR (.tup [.agg [.sl (List.map c3 (G1 (ofT l2)).vec),.sl (List.map B5 (G1 (ofT l2)).cloud)],.i .i64 ((0:Int))]) (B6.tup (ZLe.cons (B6.eq (show AV.agg [AV.sl (List.map c3 (G1 (ofT l2)).vec),AV.sl (List.map B5 (G1 (ofT l2)).cloud)]=AV.agg [AV.sl (List.map c3 (F2 es).1.vec),AV.sl (List.map B5 (F2 es).1.cloud)]from ?g8)) (ZLe.cons (B6.eq (show AV.i .i64 0=AV.i .i64 (F2 es).2 from(by rw[A4j (Classical.not_not.1 hh0)]))) ZLe.nil)));rotate_left
 case g8 =>
  unfold A7q at h7
  rw[List.take_of_length_le (by omega)]at h7
  rw[A4j (Classical.not_not.1 hh0),h7]
end Go.Proofs.YtaiepnaokhpmcaaGreat
namespace Go.Proofs.YtaiepnaokhpmcaaGreat
open Go.E
set_option maxRecDepth 100000
set_option maxHeartbeats 4000000
def Bm2(a b:List Record)(i:Int):Prop:=0≤i∧i≤a.length∧a.length=b.length∧∀ k:Nat,(k:Int) < i→a[k]! = b[k]!
def decSr(a:List Record)(i:Int):Nat:=(a.length-i).toNat
def smP(p:Past):Prop:=p.cloud.length≤8000000000∧p.vec.length≤16
def szC(f:Facts):Prop:=smP f.gone∧(∀ r∈f.recs,smP r.past)∧f.recs.length*64≤140737488351232∧f.adds.length*40≤140737488351232
theorem Bm3{p:Past}(h:p=A6 p):smP p:=by
 rw[h]
 exact O1 _
def Bm4(f:Facts)(i:Int)(x1:List Entry)(x2:List Int)(x3:List Span)(x4:List Record)(o:List Entry)(v:List Int)(c:List Span)(q:List Record):Prop :=
 x4=f.recs∧o=f.adds∧v=f.gone.vec∧c=f.gone.cloud∧0≤i∧i≤f.recs.length∧(q.length:Int)=i∧A1m f.recs i q
def decCy(f:Facts)(i:Int)(x1:List Entry)(x2:List Int)(x3:List Span)(x4:List Record)(o:List Entry)(v:List Int)(c:List Span)(q:List Record):Nat:=(f.recs.length-i).toNat
theorem B4x(r:Record):(⟨r.sku,r.past⟩:Record)=r:=rfl
theorem A43(f:Facts)(hb:szF f):Con Tryz.prog 41 [.agg (c29 f)] (.i .i64 (D4 f)) :=
 by
 have no:(¬D2 f.adds=0∨¬f.gone=A6 f.gone∨¬F5 f.recs=0)↔¬ okF f=true:=by
  rw[G2]
  constructor
  ·rintro(h | h | h) k
   ·exact h k.1
   ·exact h k.2.1
   ·exact h k.2.2
  ·intro h
   by_cases a:D2 f.adds=0
   ·by_cases b:f.gone=A6 f.gone
    ·exact .inr (.inr fun c=>h ⟨a,b,c⟩)
    ·exact .inr (.inl b)
   ·exact .inl a
 refine sC A8 [.tmp 2] 19 Tryz.func41 ?_
 intro e0 cx
 refine sq<|rG cx [1] [1] z0<|sn<|sq<|sq<|B1 (σ':=⟨[(18,.b (decide (¬D2 f.adds=0∨¬f.gone=A6 f.gone∨¬F5 f.recs=0)))],[]⟩) ?_ ?_
 refine A4 (¬D2 f.adds=0) (fun h1=>?_) (fun h1=>?_)
 refine rG cx [18] [] (fT (Ao1 (f.adds)) (tT 3 (D0 h1:AV.b (D2 f.adds !=0)=AV.b true) (tD 15 true (¬D2 f.adds=0∨¬f.gone=A6 f.gone∨¬F5 f.recs=0) (by simp only [eq_false h1,tsl]) (oA 2 (.i .i64 (D2 f.adds)) z0)))) ?_
 exact⟨rfl,by kernel_rfl⟩
 refine A4 (¬f.gone=A6 f.gone) (fun h2=>?_) (fun h2=>?_)
 refine rg (A:=_∧(AV.b (D2 f.adds !=0)=AV.b (decide ¬D2 f.adds=0))∧_∧_∧_∧(AV.b true=AV.b (decide (¬D2 f.adds=0∨¬f.gone=A6 f.gone∨¬F5 f.recs=0)))) cx [(2,{ val:=some (.i .i64 (D2 f.adds)) }),(3,{ tell:=some (.b (decide ¬D2 f.adds=0)) }),(4,{ tell:=some (.b (false)) }),(7,{ val:=some (.b (decide (f.gone=A6 f.gone))),tell:=some (.b (false)) }),(15,{ tell:=some (.b (decide (¬D2 f.adds=0∨¬f.gone=A6 f.gone∨¬F5 f.recs=0))) })] [18] [] ⟨(Ao1 (f.adds)),(A8c),(A0 h1),(A0 h2),(B85 (f.gone) ?g0 ?g1),(by first | (simp only [eq_false h1,eq_false h2,tsl];done) | simp_all)⟩ ?_;rotate_left 2
 exact⟨rfl,by kernel_rfl⟩
 refine rG cx [18] [] (fT (Ao1 (f.adds)) (tN 3 (D2 f.adds) (0:Int) (tT 4 (A0 h1) (fT (B85 (f.gone) ?g2 ?g3) (tQ 8 (f.gone=A6 f.gone) (tT 9 (A0 h2) (fT (B8a (f.recs) ?g4) (tN 14 (F5 f.recs) (0:Int) (tT 15 (by first | (simp only [eq_false h1,eq_false h2,tsl];done) | simp_all:AV.b (decide ¬F5 f.recs=0)=AV.b (decide (¬D2 f.adds=0∨¬f.gone=A6 f.gone∨¬F5 f.recs=0))) (oA 2 (.i .i64 (D2 f.adds)) (oA 7 (.b (decide (f.gone=A6 f.gone))) (oA 13 (.i .i64 (F5 f.recs)) z0)))))))))))) ?_;rotate_left 3
 exact⟨rfl,by kernel_rfl⟩
 refine sn<|dC (¬D2 f.adds=0∨¬f.gone=A6 f.gone∨¬F5 f.recs=0) (fun h3=>?_) fun h3=>?_
 refine sq<|rG cx [2] [] z0<|sn<|rT<|nR<|qR (.i .i64 ((1:Int))) (.eq ?g5);rotate_left
 refine sK<|sn<|sq<|rG cx [2] [] z0<|sn<|rT<|qR (.i .i64 ((0:Int))) (.eq ?g6);rotate_left
 revert h1 h2;rotate_left
 revert h1 h2;rotate_left
 revert h1 h2;rotate_left
 revert h1 h2;rotate_left
 revert h1 h2;rotate_left
 revert h3;rotate_left
 revert h3;rotate_left
 case g4=>intros;exact hb.2
 case g5=>intro h;unfold D4;rw[if_neg (no.1 h)]
 case g6=>intro h;unfold D4;rw[if_pos (Classical.not_not.1 fun k=>h (no.2 k))]
 all_goals (intros;first | exact hb.1.1 | exact hb.1.2)
theorem con64(a b:List Record)(hb:szQ a):Con Tryz.prog 64 [.sl (a.map c81),.sl (b.map c81)] (.b (decide (a=b))) :=
 by
 refine lN 0 c81 (a) Tryz.func64 fun hl_0=>lN 1 c81 (b) Tryz.func64 fun hl_1=>sC A8 [.tmp 4] 42 Tryz.func64 ?_
 intro e0 cx
 refine sq<|rG cx [0,1] [] z0<|sn<|sq<|sq<|rG cx [0,1,10] [] (tL 1 c81 a (tL 3 c81 b (tN 4 (↑a.length:Int) (↑b.length:Int) z0)))<|sn<|dC (¬(↑a.length:Int)=(↑b.length:Int)) (fun hh0=>?_) fun hh0=>?_
 refine sq<|rG cx [4] [] z0<|sn<|rT<|nR<|qR (.b (false)) (.eq (by rw[decide_eq_false (fun k=>hh0 (by rw[k]))]))
 refine sK<|sn<|sq<|sq<|rG cx [0,1,5] [] z0<|sn<|bL 0<|sL (X:=Int) (fun x=>⟨[(0,.sl (List.map c81 a)),(1,.sl (List.map c81 b)),(5,.i .i64 (x))],[]⟩) (fun x ↦ decSr a x) (fun x ↦ Bm2 a b x) [0,1,5] [] ((0:Int)) (show Bm2 a b (0:Int)from(by exact⟨by omega,by omega,by omega,fun j hj=>by omega⟩)) ?_
 intro i1 h_2
 obtain⟨hh3,hh4,hh5,h6⟩:0≤i1∧i1≤(↑a.length:Int)∧a.length=b.length∧∀(k:Nat),(↑k:Int) < i1→a[k]! = b[k]!:=h_2
 refine sq<|rD cx [0,1,5,14] [] (tL 2 c81 a (zB 3 (i1 <(↑a.length:Int)))) (fun h7=>?_) fun h7=>?_
 refine sK<|sn<|sq<|bL 1<|sq<|B1 (σ':=⟨[(0,.sl (List.map c81 a)),(1,.sl (List.map c81 b)),(5,.i .i64 (i1)),(41,.b (decide (¬a[i1.toNat]!.sku=b[i1.toNat]!.sku∨¬a[i1.toNat]!.past=b[i1.toNat]!.past)))],[]⟩) ?_ ?_
 refine A4 (¬a[i1.toNat]!.sku=b[i1.toNat]!.sku) (fun h9=>?_) (fun h9=>?_)
 refine rA cx [0,1,5,41] [] (fA (0≤i1) (fG c81 a i1.toNat (fR 3 (fA (0≤i1) (fG c81 b i1.toNat (fR 3 (tT 10 (A1y h9:(AV.b !a[i1.toNat]!.sku.toList == b[i1.toNat]!.sku.toList)=AV.b true) (tD 24 true (¬a[i1.toNat]!.sku=b[i1.toNat]!.sku∨¬a[i1.toNat]!.past=b[i1.toNat]!.past) (by simp only [eq_false h9,tsl]) (oR 2 (c81 a[i1.toNat]!) (oR 7 (c81 b[i1.toNat]!) z0)))))))))) ?_
 exact⟨rfl,by kernel_rfl⟩
 refine rA cx [0,1,5,41] [] (fA (0≤i1) (fG c81 a i1.toNat (fR 3 (fA (0≤i1) (fG c81 b i1.toNat (fR 3 (tT 10 (A4d:(AV.b !a[i1.toNat]!.sku.toList == b[i1.toNat]!.sku.toList)=AV.b (decide ¬a[i1.toNat]!.sku=b[i1.toNat]!.sku)) (tT 11 (A0 h9) (fA (0≤i1) (fG c81 a i1.toNat (fR 3 (fN 2 2 (fA (0≤i1) (fG c81 b i1.toNat (fR 3 (fN 2 2 (fT (B49 (a[i1.toNat]!.past) (b[i1.toNat]!.past) (by exact(Aw7 hb hh3 h7).2) (by have:=(Aw7 hb hh3 h7).1;omega)) (tQ 23 (a[i1.toNat]!.past=b[i1.toNat]!.past) (tT 24 (by first | (simp only [eq_false h9,tsl];done) | simp_all:AV.b (decide ¬a[i1.toNat]!.past=b[i1.toNat]!.past)=AV.b (decide (¬a[i1.toNat]!.sku=b[i1.toNat]!.sku∨¬a[i1.toNat]!.past=b[i1.toNat]!.past))) (oR 2 (c81 a[i1.toNat]!) (oR 7 (c81 b[i1.toNat]!) (oR 14 (c81 a[i1.toNat]!) (oR 19 (c81 b[i1.toNat]!) (oA 22 (.b (decide (a[i1.toNat]!.past=b[i1.toNat]!.past))) z0)))))))))))))))))))))))) ?_
 exact⟨rfl,by kernel_rfl⟩
 refine sn<|dC (¬a[i1.toNat]!.sku=b[i1.toNat]!.sku∨¬a[i1.toNat]!.past=b[i1.toNat]!.past) (fun h10=>?_) fun h10=>?_
 refine sq<|rG cx [4] [] z0<|sn<|rT<|bR<|nR<|nR<|bR<|nR<|qR (.b (false)) (.eq ?g4);rotate_left
 refine sK<|bN<|sn<|rG cx [0,1,5] [] (tW 1 (i1+1) z0)<|sn<|nX (i1+1) (show((↑a.length:Int)-(i1+1)).toNat <((↑a.length:Int)-i1).toNat from(by omega)) (show Bm2 a b (i1+1)from ?g5);rotate_left
 refine eX 0<|nE<|nE<|bH<|sn<|sq<|rG cx [4] [] z0<|sn<|rT<|qR (.b (true)) (.eq (by rw[decide_eq_true (V9 hh5 fun j hj=>h6 j (by omega))]))
 case g4 =>
  rw[decide_eq_false (fun k=>by
   rw[k]at h10
   rcases h10 with h10 | h10
   ·exact h10 rfl
   ·exact h10 rfl)]
 case g5 =>
  refine⟨by omega,by omega,hh5,fun j hj=>?_⟩
  by_cases e:j=i1.toNat
  ·rw[e]
   have k1:a[i1.toNat]!.sku=b[i1.toNat]!.sku:=Classical.byContradiction fun k=>h10 (.inl k)
   have k2:a[i1.toNat]!.past=b[i1.toNat]!.past:=Classical.byContradiction fun k=>h10 (.inr k)
   rw[← B4x a[i1.toNat]!,← B4x b[i1.toNat]!,k1,k2]
  ·exact h6 j (by omega)
theorem B8k(a b:Facts)(hb:szF a):Con Tryz.prog 24 [.agg (c29 a),.agg (c29 b)] (.b (decide (a=b))) :=
 by
 refine sC A8 [.tmp 4] 24 Tryz.func24 ?_
 intro e0 cx
 refine sq<|rG cx [2,3] [2,3] z0<|sn<|sq<|B1 (σ':=⟨[(4,.b (decide (a.adds=b.adds∧a.gone=b.gone∧a.recs=b.recs)))],[]⟩) ?_ ?_
 refine A4 (a.adds=b.adds) (fun h1=>?_) (fun h1=>?_)
 refine A4 (a.gone=b.gone) (fun h2=>?_) (fun h2=>?_)
 refine rg (A:=_∧_∧_∧_∧_∧(AV.b (decide (a.recs=b.recs))=AV.b (decide (a.adds=b.adds∧a.gone=b.gone∧a.recs=b.recs)))) cx [(4,{ val:=some (.b (decide (a.adds=b.adds))),tell:=some (.b (true)) }),(10,{ val:=some (.b (decide (a.gone=b.gone))),tell:=some (.b (true)) }),(17,{ val:=some (.b (decide (a.recs=b.recs))) }),(19,{ tell:=some (.b (decide (a.adds=b.adds∧a.gone=b.gone∧a.recs=b.recs))) })] [4] [] ⟨(A7 h1),(B8c (a.adds) (b.adds)),(A7 h2),(B49 (a.gone) (b.gone) ?g0 ?g1),(con64 (a.recs) (b.recs) ?g2),(by simp only [eq_true h1,eq_true h2,tsl])⟩ ?_;rotate_left 3
 exact⟨rfl,by kernel_rfl⟩
 refine rg (A:=_∧_∧_∧_∧(AV.b false=AV.b (decide (a.adds=b.adds∧a.gone=b.gone∧a.recs=b.recs)))) cx [(4,{ val:=some (.b (decide (a.adds=b.adds))),tell:=some (.b (true)) }),(10,{ val:=some (.b (decide (a.gone=b.gone))),tell:=some (.b (false)) }),(19,{ tell:=some (.b (decide (a.adds=b.adds∧a.gone=b.gone∧a.recs=b.recs))) })] [4] [] ⟨(A7 h1),(B8c (a.adds) (b.adds)),(A0 h2),(B49 (a.gone) (b.gone) ?g3 ?g4),(by simp only [eq_true h1,eq_false h2,tsl])⟩ ?_;rotate_left 2
 exact⟨rfl,by kernel_rfl⟩
 refine rg (A:=_∧_∧(AV.b false=AV.b (decide (a.adds=b.adds∧a.gone=b.gone∧a.recs=b.recs)))) cx [(4,{ val:=some (.b (decide (a.adds=b.adds))),tell:=some (.b (false)) }),(19,{ tell:=some (.b (decide (a.adds=b.adds∧a.gone=b.gone∧a.recs=b.recs))) })] [4] [] ⟨(A0 h1),(B8c (a.adds) (b.adds)),(by simp only [eq_false h1,tsl])⟩ ?_
 exact⟨rfl,by kernel_rfl⟩
 refine sn<|rT<|qR (.b (decide (a.adds=b.adds∧a.gone=b.gone∧a.recs=b.recs))) (.eq ?g5);rotate_left
 revert h1 h2;rotate_left
 revert h1 h2;rotate_left
 revert h1 h2;rotate_left
 revert h1 h2;rotate_left
 revert h1 h2;rotate_left
 rotate_left
 case g2=>intros;exact hb.2
 case g5 =>
  refine congrArg AV.b (decide_eq_decide.2 ?_)
  cases a;cases b
  simp
 all_goals (intros;have:=hb.1.1;have:=hb.1.2;omega)
theorem con63(p:Past)(hb:p.cloud.length*24≤140737488351232)(hv:p.vec.length*8≤140737488351232):Con Tryz.prog 63 [.agg (c26 p)] (.agg (c26 p)) :=
 by
 refine sC A8 [.cell 2 26] 12 Tryz.func63 ?_
 intro e0 cx
 refine sq<|rG cx [1,2] [1,2] z0<|sn<|sq<|rA cx [2] [2] (fR 3 (fR 1 (fR 1 (fX c3 p.vec 1 (fS c3 [] c3 p.vec (fP (((List.map c3 []).length+(List.map c3 p.vec).length)*(8:Nat)≤(140737488355328:Nat)) (by(simp only [Go.maxLen,List.length_map,List.length_append,List.length_cons,List.length_nil];omega)) (fM c3 [] p.vec (fR 104 (fR 3 (fR 3 (fX B5 p.cloud 3 (fS B5 [] B5 p.cloud (fP (((List.map B5 []).length+(List.map B5 p.cloud).length)*(24:Nat)≤(140737488355328:Nat)) (by(simp only [Go.maxLen,List.length_map,List.length_append,List.length_cons,List.length_nil];omega)) (fM B5 [] p.cloud (oV 3 { rows:=some (List.map c3 ([]++p.vec)) } (oV 7 { rows:=some (List.map B5 ([]++p.cloud)) } z0))))))))))))))))<|sn<|rT<|qR (.agg [.sl (List.map c3 ([]++p.vec)),.sl (List.map B5 ([]++p.cloud))]) (.eq ?g0);rotate_left
 case g0=>rfl
theorem con21(f:Facts)(hb:szC f):Con Tryz.prog 21 [.agg (c29 f)] (.agg (c29 f)) :=
 by
 have hr:=hb.2.2.1
 have ha:=hb.2.2.2
 have at_:∀ i:Int,0≤i→i < f.recs.length→smP f.recs[i.toNat]!.past:=fun i h0 h=>hb.2.1 _ (E9 (by omega))
 refine sC A8 [.cell 2 29] 40 Tryz.func21 ?_
 intro e0 cx
 refine sq<|rG cx [1,2] [1,2] z0<|sn<|sq<|rA cx [1,2,3] [1,2,3] (fR 45 (fR 4 (fR 4 (fX c45 f.adds 4 (fP ((List.map c45 []).length+(List.map c45 f.adds).length≤maxLen) (by simp only [List.length_map,List.length_nil,Go.maxLen];omega) (fP (((List.map c45 []).length+(List.map c45 f.adds).length)*(40:Nat)≤(140737488355328:Nat)) (by simp only [List.length_map,List.length_nil];omega) (fM c45 [] f.adds (fT (con63 (f.gone) (by have:=hb.1.1;omega) (by have:=hb.1.2;omega)) (oV 3 { rows:=some (List.map c45 ([]++f.adds)) } (oA 6 (.agg [.sl (List.map c3 f.gone.vec),.sl (List.map B5 f.gone.cloud)]) z0)))))))))) ?_
 refine sn<|sq<|sq<|rG cx [1,2,3,4] [1,2,3] z0<|sn<|bL 0<|A0e 3 81 3 3 5303 (σ':=⟨[(1,.ptr (1) (0) (0) (0)),(2,.ptr (2) (0) (0) (0)),(3,.ptr (3) (0) (0) (0)),(4,.i .i64 ((0:Int)))],[(1,⟨0,29,.var [.sl (List.map c45 f.adds),.sl (List.map c3 f.gone.vec),.sl (List.map B5 f.gone.cloud),.sl (List.map c81 f.recs)]⟩),(2,⟨0,29,.var [.nl,.nl,.nl,.nl]⟩),(3,⟨0,29,.var [.sl (List.map c45 ([]++f.adds)),.sl (List.map c3 f.gone.vec),.sl (List.map B5 f.gone.cloud),.own 5303 0]⟩),(5303,⟨0,81,.row 3 (List.map c81 [])⟩)]⟩) (by kernel_rfl)<|sL (X:=Int×List Entry×List Int×List Span×List Record×List Entry×List Int×List Span×List Record) (fun x=>⟨[(1,.ptr (1) (0) (0) (0)),(2,.ptr (2) (0) (0) (0)),(3,.ptr (3) (0) (0) (0)),(4,.i .i64 (x.1))],[(1,⟨0,29,.var [.sl (List.map c45 x.2.1),.sl (List.map c3 x.2.2.1),.sl (List.map B5 x.2.2.2.1),.sl (List.map c81 x.2.2.2.2.1)]⟩),(2,⟨0,29,.var [.nl,.nl,.nl,.nl]⟩),(3,⟨0,29,.var [.sl (List.map c45 x.2.2.2.2.2.1),.sl (List.map c3 x.2.2.2.2.2.2.1),.sl (List.map B5 x.2.2.2.2.2.2.2.1),.own 5303 0]⟩),(5303,⟨0,81,.row 3 (List.map c81 x.2.2.2.2.2.2.2.2)⟩)]⟩) (fun x ↦ decCy f x.1 x.2.1 x.2.2.1 x.2.2.2.1 x.2.2.2.2.1 x.2.2.2.2.2.1 x.2.2.2.2.2.2.1 x.2.2.2.2.2.2.2.1 x.2.2.2.2.2.2.2.2) (fun x ↦ Bm4 f x.1 x.2.1 x.2.2.1 x.2.2.2.1 x.2.2.2.2.1 x.2.2.2.2.2.1 x.2.2.2.2.2.2.1 x.2.2.2.2.2.2.2.1 x.2.2.2.2.2.2.2.2) [1,2,3,4] [1,2,3,5303] (((0:Int),f.adds,f.gone.vec,f.gone.cloud,f.recs,[]++f.adds,f.gone.vec,f.gone.cloud,[])) (show Bm4 f (0:Int) f.adds f.gone.vec f.gone.cloud f.recs ([]++f.adds) f.gone.vec f.gone.cloud []from(by exact⟨rfl,List.nil_append _,rfl,rfl,by omega,by omega,by simp,by simp [A1m]⟩)) ?_
 rintro⟨i0,xx1,xx2,xx3,xx4,o5,v6,c7,q8⟩ h_9
 obtain⟨h10,h11,h12,h13,h14,h15,h16,h17⟩:xx4=f.recs∧o5=f.adds∧v6=f.gone.vec∧c7=f.gone.cloud∧0≤i0∧i0≤(↑f.recs.length:Int)∧(↑q8.length:Int)=i0∧A1m f.recs i0 q8:=h_9
 refine sq<|rD cx [1,2,3,4,17] [1,2,3,5303] (tL 3 c81 xx4 (zB 4 (i0 <(↑xx4.length:Int)))) (fun h18=>?_) fun h18=>?_
 refine sK<|sn<|sq<|bL 1<|rA cx [1,2,3,4] [1,2,3,5303] (fA (0≤i0) (fG c81 xx4 i0.toNat (fR 3 (fA (0≤i0) (fG c81 xx4 i0.toNat (fR 3 (fN 2 2 (fT (con63 (xx4[i0.toNat]!.past) (by rw[h10]at h18 ⊢;have:=(at_ i0 h14 h18).1;omega) (by rw[h10]at h18 ⊢;have:=(at_ i0 h14 h18).2;omega)) (fR 81 (fR 3 (fR 3 (fX c81 [xx4[i0.toNat]!] 3 (fP ((List.map c81 q8).length+(List.map c81 [xx4[i0.toNat]!]).length≤maxLen) (by rw[h10]at h18;simp only [List.length_map,List.length_cons,List.length_nil,Go.maxLen];omega) (fP (((List.map c81 q8).length+(List.map c81 [xx4[i0.toNat]!]).length)*(64:Nat)≤(140737488355328:Nat)) (by rw[h10]at h18;simp only [List.length_map,List.length_cons,List.length_nil];omega) (fM c81 q8 [xx4[i0.toNat]!] (oR 5 (c81 xx4[i0.toNat]!) (oR 11 (c81 xx4[i0.toNat]!) (oA 14 (.agg [.sl (List.map c3 xx4[i0.toNat]!.past.vec),.sl (List.map B5 xx4[i0.toNat]!.past.cloud)]) (oV 17 { rows:=some (List.map c81 (q8++[xx4[i0.toNat]!])) } z0))))))))))))))))))) ?_
 refine bN<|sn<|rG cx [1,2,3,4] [1,2,3,5303] (tT 1 (B4 (by omega) (by rw[h10]at h18;omega):AV.i .i64 (IntKind.i64.wrap (i0+1))=AV.i .i64 (i0+1)) z0) ?_
 refine sn<|nX ((i0+1,xx1,xx2,xx3,xx4,o5,v6,c7,q8++[xx4[i0.toNat]!])) (show((↑f.recs.length:Int)-(i0+1)).toNat <((↑f.recs.length:Int)-i0).toNat from(by rw[h10]at h18;omega)) (show Bm4 f (i0+1) xx1 xx2 xx3 xx4 o5 v6 c7 (q8++[xx4[i0.toNat]!])from ?g11);rotate_left
 refine eX 0<|nE<|nE<|bH<|sn<|sq<|N9 [5303] [1,2,3,4,17] [1,2,3] (σ':=⟨[(1,.ptr (1) (0) (0) (0)),(2,.ptr (2) (0) (0) (0)),(3,.ptr (3) (0) (0) (0)),(4,.i .i64 (i0)),(17,.b (decide (i0 <(↑xx4.length:Int))))],[(1,⟨0,29,.var [.sl (List.map c45 xx1),.sl (List.map c3 xx2),.sl (List.map B5 xx3),.sl (List.map c81 xx4)]⟩),(2,⟨0,29,.var [.nl,.nl,.nl,.nl]⟩),(3,⟨0,29,.var [.sl (List.map c45 o5),.sl (List.map c3 v6),.sl (List.map B5 c7),.sl (List.map c81 q8)]⟩)]⟩) (by kernel_rfl)<|rG cx [2] [2] z0<|sn<|rT<|qR (.agg [.sl (List.map c45 o5),.sl (List.map c3 v6),.sl (List.map B5 c7),.sl (List.map c81 q8)]) (.eq ?g12);rotate_left
 case g11 =>
  rw[h10]at h18 ⊢
  refine⟨rfl,h11,h12,h13,by omega,by omega,by rw[List.length_append,List.length_singleton];omega,?_⟩
  have h17:q8=f.recs.take i0.toNat:=h17
  show q8++[f.recs[i0.toNat]!]=f.recs.take (i0+1).toNat
  rw[h17]
  exact C8 h14 h18
 case g12 =>
  rw[h10]at h18
  have h17:q8=f.recs.take i0.toNat:=h17
  rw[List.take_of_length_le (by omega)]at h17
  rw[h11,h12,h13,h17]
  rfl
end Go.Proofs.YtaiepnaokhpmcaaGreat
namespace Go.Proofs.YtaiepnaokhpmcaaGreat
open Go.E
set_option maxRecDepth 100000
set_option maxHeartbeats 4000000
def C1:Facts:=⟨[⟨⟨0,1⟩,⟨#[65]⟩,5⟩,⟨⟨0,2⟩,⟨#[66]⟩,2⟩,⟨⟨1,1⟩,⟨#[65]⟩,1⟩],⟨[1],[]⟩,[]⟩
def I9:Facts:=⟨[],⟨[],[]⟩,[⟨⟨#[65]⟩,⟨[0,2],[]⟩⟩]⟩
theorem A9b:okF C1=true:=by rw[Aw8];decide +kernel
theorem Ax7:(⟨[0,2],[]⟩:Past)=A6 ⟨[0,2],[]⟩:=by decide +kernel
theorem Bc6:okF I9=true:=by
 refine G2.2 ⟨rfl,A5f.symm,(A0n _).2 ⟨fun r hr=>?_,List.pairwise_singleton _ _⟩⟩
 have e:r=⟨⟨#[65]⟩,⟨[0,2],[]⟩⟩:=List.mem_singleton.1 hr
 rw[e]
 refine Ae8.2 ⟨.inr (by decide +kernel),Ax7,fun h=>?_⟩
 have:=congrArg Past.vec ((B0q Ax7).1 h)
 exact absurd this (by decide)
theorem A9c:szG C1:=⟨⟨⟨by decide,by decide⟩,fun r hr=>by cases hr⟩,by decide⟩
theorem Bc7:szG I9:=⟨⟨⟨by decide,by decide⟩,fun r hr=>by
 have:r=⟨⟨#[65]⟩,⟨[0,2],[]⟩⟩:=List.mem_singleton.1 hr
 rw[this]
 exact⟨by decide,by decide⟩⟩,by decide⟩
theorem Bm5{a b:List (List AV)}(hl:a.length=b.length)(h:∀(j:Nat) (x y:List AV),a[j]?=some x→b[j]?=some y→ZLe x y):B6 (.sl a) (.sl b):=fun S w v hv=>by
 cases hv with
 | sl _ A cap sz u hc hm hn hsz hA h1 h2 =>
  rw[hl]
  refine .sl b A cap sz u (by omega) (by omega) hn (fun r hr=>?_) (fun k=>?_) h1 (fun j q r x hj hq=>?_)
  ·obtain⟨j,hj,rfl⟩:=List.mem_iff_getElem.1 hr
   have k:j < a.length:=by omega
   rw[←(h j a[j] b[j] (List.getElem?_eq_getElem k) (List.getElem?_eq_getElem hj)).1]
   exact hsz _ (List.getElem_mem k)
  ·obtain⟨ad,e,hs,hc'⟩:=hA (by omega)
   exact⟨ad,e,hs,fun j q hj=>hc' j q (by omega)⟩
  ·have k:j < a.length:=by
    have:=List.getElem?_eq_some_iff.1 hj
    obtain⟨h',_⟩:=this
    omega
   have z:=h j a[j] r (List.getElem?_eq_getElem k) hj
   have kq:q < a[j].length:=by
    have:=List.getElem?_eq_some_iff.1 hq
    obtain⟨h',_⟩:=this
    rw[z.1]
    exact h'
   exact z.2 q _ x (List.getElem?_eq_getElem kq) hq S w _ (h2 j q _ _ (List.getElem?_eq_getElem k) (List.getElem?_eq_getElem kq))
def H6(rep num:Int)(sku:ByteArray)(qty:Int):Entry:=⟨⟨rep,num⟩,sku,qty⟩
theorem B19(rep num:Int)(sku:ByteArray)(qty:Int):Con Tryz.prog 36 [.i .i64 rep,.i .i64 num,.s sku,.i .i64 qty] (.agg (c45 (H6 rep num sku qty))) :=
 by
 refine sC A8 [.cell 8 45] 15 Tryz.func36 ?_
 intro e0 cx
 refine sq<|rG cx [0,1,2,3,8] [8] z0<|sn<|sq<|rG cx [8] [8] z0<|sn<|rT<|qR (.agg [.i .i64 (rep),.i .i64 (num),.s (sku),.i .i64 (qty)]) (.eq ?g0);rotate_left
 case g0=>rfl
theorem Bm6 :Con Tryz.prog 16 [] (.agg (c29 C1)) :=
 by
 refine sC A8 [.cell 0 29] 8 Tryz.func16 ?_
 intro e0 cx
 refine sq<|rG cx [0] [0] z0<|sn<|sq<|rG cx [0] [0] (fT (B19 ((0:Int)) ((1:Int)) ({ data:=#[(65:UInt8)]:ByteArray }) ((5:Int))) (fT (B19 ((0:Int)) ((2:Int)) ({ data:=#[(66:UInt8)]:ByteArray }) ((2:Int))) (fT (B19 ((1:Int)) ((1:Int)) ({ data:=#[(65:UInt8)]:ByteArray }) ((1:Int))) (oA 0 (.agg [.i .i64 ((0:Int)),.i .i64 ((1:Int)),.s ((H6 (0:Int) (1:Int) { data:=#[(65:UInt8)]:ByteArray } (5:Int)).sku),.i .i64 ((5:Int))]) (oA 1 (.agg [.i .i64 ((0:Int)),.i .i64 ((2:Int)),.s ((H6 (0:Int) (2:Int) { data:=#[(66:UInt8)]:ByteArray } (2:Int)).sku),.i .i64 ((2:Int))]) (oA 2 (.agg [.i .i64 ((1:Int)),.i .i64 ((1:Int)),.s ((H6 (1:Int) (1:Int) { data:=#[(65:UInt8)]:ByteArray } (1:Int)).sku),.i .i64 ((1:Int))]) z0))))))<|sn<|rT<|qR (.agg [.sl (List.map c45 [{ dot:={ rep:=(0:Int),num:=(1:Int):Dot },sku:=(H6 (0:Int) (1:Int) { data:=#[(65:UInt8)]:ByteArray } (5:Int)).sku,qty:=(5:Int):Entry },{ dot:={ rep:=(0:Int),num:=(2:Int):Dot },sku:=(H6 (0:Int) (2:Int) { data:=#[(66:UInt8)]:ByteArray } (2:Int)).sku,qty:=(2:Int):Entry },{ dot:={ rep:=(1:Int),num:=(1:Int):Dot },sku:=(H6 (1:Int) (1:Int) { data:=#[(65:UInt8)]:ByteArray } (1:Int)).sku,qty:=(1:Int):Entry }]),.sl (List.map c3 [(1:Int)]),.nl,.nl]) (B6.agg (ZLe.cons (B6.eq (show AV.sl (List.map c45 [{ dot:={ rep:=(0:Int),num:=(1:Int):Dot },sku:=(H6 (0:Int) (1:Int) { data:=#[(65:UInt8)]:ByteArray } (5:Int)).sku,qty:=(5:Int):Entry },{ dot:={ rep:=(0:Int),num:=(2:Int):Dot },sku:=(H6 (0:Int) (2:Int) { data:=#[(66:UInt8)]:ByteArray } (2:Int)).sku,qty:=(2:Int):Entry },{ dot:={ rep:=(1:Int),num:=(1:Int):Dot },sku:=(H6 (1:Int) (1:Int) { data:=#[(65:UInt8)]:ByteArray } (1:Int)).sku,qty:=(1:Int):Entry }])=AV.sl (List.map c45 C1.adds)from ?g1)) (ZLe.cons (B6.eq (show AV.sl (List.map c3 [(1:Int)])=AV.sl (List.map c3 C1.gone.vec)from ?g0)) (ZLe.cons B6.nl (ZLe.cons B6.nl ZLe.nil)))));rotate_left 2
 all_goals rfl
theorem con17 :Con Tryz.prog 17 [] (.agg (c29 I9)) :=
 by
 refine sC A8 [.cell 0 29] 6 Tryz.func17 ?_
 intro e0 cx
 refine sq<|rG cx [0] [0] z0<|sn<|sq<|rG cx [0] [0] z0<|sn<|rT<|qR (.agg [.nl,.nl,.nl,.sl [[.s ({ data:=#[(65:UInt8)]:ByteArray }),.sl (List.map c3 [(0:Int),(2:Int)]),.nl]]]) (B6.agg (ZLe.cons B6.nl (ZLe.cons B6.nl (ZLe.cons B6.nl (ZLe.cons (show B6 (AV.sl [[AV.s { data:=#[(65:UInt8)]:ByteArray },AV.sl (List.map c3 [(0:Int),(2:Int)]),AV.nl]]) (AV.sl (List.map c81 I9.recs))from ?g0) ZLe.nil)))));rotate_left
 case g0 =>
  refine Bm5 rfl fun j x y hx hy=>?_
  match j with
  | 0 =>
   simp only [List.getElem?_cons_zero,Option.some.injEq]at hx
   subst hx
   have hy:y=[AV.s ⟨#[65]⟩,AV.sl (List.map c3 [0,2]),AV.sl []]:=by
    have:some (c81 ⟨⟨#[65]⟩,⟨[0,2],[]⟩⟩)=some y:=hy
    exact(Option.some.inj this).symm
   subst hy
   exact ZLe.cons (B6.refl _) (ZLe.cons (B6.refl _) (ZLe.cons B6.nl ZLe.nil))
  | j+1=>simp at hx
end Go.Proofs.YtaiepnaokhpmcaaGreat
namespace Go.Proofs.YtaiepnaokhpmcaaGreat
open Go.E
set_option maxRecDepth 100000
set_option maxHeartbeats 4000000
def A31(r:Record)(e:Entry):Bool:=decide (r.sku=noneS∨r.sku=e.sku) && E8 r.past e.dot
def H7(rs:List Record)(e:Entry):Int:=(rs.filter fun r=>A31 r e).length
def M7(r:Record)(rs:List Record):List Record:=r :: rs.takeWhile fun x=>decide (x.sku=r.sku)
def A6u(r:Record)(rs:List Record):List Record:=rs.dropWhile fun x=>decide (x.sku=r.sku)
theorem Ah1(r:Record)(rs:List Record):(A6u r rs).length≤rs.length:=(List.dropWhile_sublist _).length_le
noncomputable def A5y(all:Past)(r:Record)(rs:List Record):Past:=if r.sku=noneS then C6 ((M7 r rs).map fun x=>x.past)else H9 (C6 ((M7 r rs).map fun x=>x.past)) all
noncomputable def allG(all:Past)(r:Record)(rs:List Record):Past:=if r.sku=noneS then C6 ((M7 r rs).map fun x=>x.past)else all
noncomputable def Y4(all:Past)(out:List Record):List Record→List Record
 | []=>out
 | r :: rs=>Y4 (allG all r rs) (if G0 (A5y all r rs)=0 then out else out++[⟨r.sku,A5y all r rs⟩]) (A6u r rs)
termination_by l=>l.length
decreasing_by
 have:=Ah1 r rs
 simp only [List.length_cons]
 omega
noncomputable def R2(rs:List Record):List Record×Int:=if F5 rs=0 then(Y4 ⟨[],[]⟩ [] rs,0)else([],1)
theorem A5z(all:Past)(out:List Record):Y4 all out []=out:=by rw[Y4]
theorem A7r(all:Past)(out:List Record)(r:Record)(rs:List Record):Y4 all out (r :: rs)=Y4 (allG all r rs) (if G0 (A5y all r rs)=0 then out else out++[⟨r.sku,A5y all r rs⟩]) (A6u r rs):=by rw[Y4]
theorem B1a(r:Record)(rs:List Record):M7 r rs++A6u r rs=r :: rs:=by
 unfold M7 A6u
 rw[List.cons_append,List.takeWhile_append_dropWhile]
theorem Ax8{α:Type}{p:α→Bool}{x:α}:∀ {l:List α},x∈l.takeWhile p→p x=true
 | [],h=>by cases h
 | y :: l,h=>by
  rw[List.takeWhile_cons]at h
  split at h
  ·rcases List.mem_cons.1 h with rfl | h
   ·assumption
   ·exact Ax8 h
  ·cases h
theorem Ah2{r:Record}{rs:List Record}{x:Record}(h:x∈M7 r rs):x.sku=r.sku:=by
 unfold M7 at h
 rcases List.mem_cons.1 h with rfl | h
 ·rfl
 ·have:=Ax8 h
  simpa using this
theorem A1n{r:Record}{e:Entry}:A31 r e=true↔(r.sku=noneS∨r.sku=e.sku)∧E8 r.past e.dot=true:=by
 unfold A31
 rw[Bool.and_eq_true,decide_eq_true_iff]
theorem B8l(e:Entry):∀(n:Nat) (l:List Record),l.length≤n→∀(all:Past) (out:List Record),(∀ d,E8 all d=true→∃ r∈out,r.sku=noneS∧E8 r.past d=true) →
  ((∃ r∈Y4 all out l,A31 r e=true)↔(∃ r∈out,A31 r e=true)∨∃ r∈l,A31 r e=true):=by
 intro n
 induction n with
 | zero =>
  intro l hl all out _
  have:l=[]:=List.eq_nil_of_length_eq_zero (by omega)
  subst this
  rw[A5z]
  simp
 | succ n ih =>
  intro l hl all out hP
  cases l with
  | nil=>rw[A5z];simp
  | cons r rs =>
   have hlen:=Ah1 r rs
   simp only [List.length_cons]at hl
   have hj:∀ d,E8 (C6 ((M7 r rs).map fun x=>x.past)) d=true↔∃ x∈M7 r rs,E8 x.past d=true:=fun d=>by
    rw[Av0,List.any_map,List.any_eq_true]
    simp only [Function.comp]
   have hg:(∃ x∈M7 r rs,A31 x e=true)↔(r.sku=noneS∨r.sku=e.sku)∧E8 (C6 ((M7 r rs).map fun x=>x.past)) e.dot=true:=by
    rw[hj]
    constructor
    ·rintro⟨x,hx,h⟩
     obtain⟨h1,h2⟩:=A1n.1 h
     rw[Ah2 hx]at h1
     exact⟨h1,x,hx,h2⟩
    ·rintro⟨h1,x,hx,h2⟩
     exact⟨x,hx,A1n.2 ⟨by rw[Ah2 hx];exact h1,h2⟩⟩
   have hs:(∃ x∈r :: rs,A31 x e=true)↔(∃ x∈M7 r rs,A31 x e=true)∨∃ x∈A6u r rs,A31 x e=true:=by
    rw[← B1a r rs]
    constructor
    ·rintro⟨x,hx,h⟩
     rcases List.mem_append.1 hx with hx | hx
     ·exact .inl ⟨x,hx,h⟩
     ·exact .inr ⟨x,hx,h⟩
    ·rintro(⟨x,hx,h⟩ | ⟨x,hx,h⟩)
     ·exact⟨x,List.mem_append.2 (.inl hx),h⟩
     ·exact⟨x,List.mem_append.2 (.inr hx),h⟩
   -- what the group's own record covers,beside what was there
   have own:∀ q:Past,(r.sku=noneS→∀ d,E8 q d=E8 (C6 ((M7 r rs).map fun x=>x.past)) d)→(¬ r.sku=noneS→∀ d,E8 q d=(E8 (C6 ((M7 r rs).map fun x=>x.past)) d && !E8 all d)) →
     ((∃ x∈(if G0 q=0 then out else out++[⟨r.sku,q⟩]),A31 x e=true)↔(∃ x∈out,A31 x e=true)∨∃ x∈M7 r rs,A31 x e=true):=by
    intro q hq1 hq2
    have hmem:(∃ x∈(if G0 q=0 then out else out++[⟨r.sku,q⟩]),A31 x e=true)↔(∃ x∈out,A31 x e=true)∨((r.sku=noneS∨r.sku=e.sku)∧E8 q e.dot=true):=by
     split
     ·rename_i h0
      have:=(A3a q).1 h0 e.dot
      rw[this]
      simp
     ·constructor
      ·rintro⟨x,hx,h⟩
       rcases List.mem_append.1 hx with hx | hx
       ·exact .inl ⟨x,hx,h⟩
       ·have:x=⟨r.sku,q⟩:=by simpa using hx
        subst this
        exact .inr (A1n.1 h)
      ·rintro(⟨x,hx,h⟩ | h)
       ·exact⟨x,by simp [hx],h⟩
       ·exact⟨⟨r.sku,q⟩,by simp,A1n.2 h⟩
    rw[hmem,hg]
    by_cases hn:r.sku=noneS
    ·rw[hq1 hn]
    ·rw[hq2 hn,Bool.and_eq_true,Bool.not_eq_true']
     constructor
     ·rintro(h | h)
      ·exact .inl h
      ·exact .inr ⟨h.1,h.2.1⟩
     ·rintro(h | ⟨h1,h2⟩)
      ·exact .inl h
      ·cases ha:E8 all e.dot with
       | false=>exact .inr ⟨h1,h2,rfl⟩
       | true =>
        obtain⟨x,hx,k1,k2⟩:=hP _ ha
        exact .inl ⟨x,hx,A1n.2 ⟨.inl k1,k2⟩⟩
   rw[A7r,ih (A6u r rs) (by omega) _ _ ?_,own (A5y all r rs) ?_ ?_,hs,or_assoc]
   ·intro hn d
    unfold A5y
    rw[if_pos hn]
   ·intro hn d
    unfold A5y
    rw[if_neg hn,Bi3]
   ·intro d hd
    unfold allG at hd
    by_cases hn:r.sku=noneS
    ·rw[if_pos hn]at hd
     have hq:A5y all r rs=C6 ((M7 r rs).map fun x=>x.past):=by unfold A5y;rw[if_pos hn]
     have h0:¬ G0 (A5y all r rs)=0:=fun h0=>by
      have:=(A3a _).1 h0 d
      rw[hq,hd]at this
      cases this
     rw[if_neg h0]
     exact⟨⟨r.sku,A5y all r rs⟩,by simp,hn,by rw[hq];exact hd⟩
    ·rw[if_neg hn]at hd
     obtain⟨x,hx,k⟩:=hP d hd
     split
     ·exact⟨x,hx,k⟩
     ·exact⟨x,by simp [hx],k⟩
theorem Ah3{rs:List Record}{e:Entry}:H7 rs e=0↔¬ ∃ r∈rs,A31 r e=true:=by
 unfold H7
 constructor
 ·rintro h ⟨r,hr,k⟩
  have:0 <(rs.filter fun r=>A31 r e).length:=List.length_pos_iff.2 (List.ne_nil_of_mem (List.mem_filter.2 ⟨hr,k⟩))
  omega
 ·intro h
  have:rs.filter (fun r=>A31 r e)=[]:=List.filter_eq_nil_iff.2 fun r hr k=>h ⟨r,hr,k⟩
  rw[this];rfl
theorem B4y(rs:List Record)(e:Entry):H7 (Y4 ⟨[],[]⟩ [] rs) e=0↔H7 rs e=0:=by
 rw[Ah3,Ah3,B8l e rs.length rs (Nat.le_refl _) _ _ (fun d h=>by rw[A4g]at h;cases h)]
 simp
noncomputable def N1(es:List Entry)(rs:List Record):List Entry×Int:=if D2 es=0∧F5 rs=0 then(es.filter fun e=>decide (H7 rs e=0),0)else([],1)
def A32(rs:List Record):Nat:=(rs.map fun r=>r.past.cloud.length+1).sum
def tokR(rs:List Record):Prop:=A32 rs*16≤140737488350000∧rs.length*64≤140737488350000
end Go.Proofs.YtaiepnaokhpmcaaGreat
namespace Go.Proofs.YtaiepnaokhpmcaaGreat
open Go.E
set_option maxRecDepth 100000
set_option maxHeartbeats 4000000
def Ah4(rs:List Record)(e:Entry)(n i r m:Int)(s:ByteArray)(q:Int):Prop:=r=e.dot.rep∧m=e.dot.num∧s=e.sku∧q=e.qty∧0≤i∧i≤rs.length∧0≤n∧n≤i∧n=H7 (rs.take i.toNat) e
def decBr(rs:List Record)(n i r m:Int)(s:ByteArray)(q:Int):Nat:=(rs.length-i).toNat
def Bm7(rs:List Record)(i:Int)(all:Past)(out:List Record):Prop:=Y4 all out (rs.drop i.toNat)=Y4 ⟨[],[]⟩ [] rs
def B1b(rs:List Record)(i:Int)(v:List Int)(c:List Span)(out:List Record):Prop:=0≤i∧i≤rs.length∧(out.length:Int)≤i∧c.length≤8000000000∧Bm7 rs i ⟨v,c⟩ out∧(∀ r∈out,r.past=A6 r.past)
def decFo(rs:List Record)(i:Int)(v:List Int)(c:List Span)(out:List Record):Nat:=(rs.length-i).toNat
def Bc8(rs:List Record)(i j:Int)(ps:List Past):Prop:=ps=((rs.drop i.toNat).take (j-i).toNat).map (fun x=>x.past)∧∀ k:Nat,i≤k→(k:Int) < j→rs[k]!.sku=rs[i.toNat]!.sku
def Bm8(rs:List Record)(i:Int)(v0:List Int)(c0:List Span)(o0:List Record)(j:Int)(v:List Int)(c:List Span)(o:List Record)(ps:List Past):Prop:=v=v0∧c=c0∧o=o0∧i≤j∧j≤rs.length∧Bc8 rs i j ps
def decGr(rs:List Record)(j:Int)(v:List Int)(c:List Span)(o:List Record)(ps:List Past):Nat:=(rs.length-j).toNat
def B8m(es:List Entry)(bars:List Record)(i:Int)(out:List Entry):Prop:=0≤i∧i≤es.length∧(out.length:Int)≤i∧out=(es.take i.toNat).filter fun e=>decide (H7 bars e=0)
def decAp(es:List Entry)(i:Int)(out:List Entry):Nat:=(es.length-i).toNat
theorem Ax9{α:Type}[Inhabited α](p:α→Bool):∀(l:List α) (n:Nat),n≤l.length→(∀ k:Nat,k < n→p l[k]! = true)→(n < l.length→p l[n]! = false)→l.takeWhile p=l.take n∧l.dropWhile p=l.drop n
 | [],n,hn,_,_=>by simp
 | x :: l,0,_,_,h=>by
  have:=h (by simp)
  have hx:p x=false:=this
  simp [List.takeWhile_cons,List.dropWhile_cons,hx]
 | x :: l,n+1,hn,h,hx=>by
  have h0:p x=true:=h 0 (by omega)
  have ih:=Ax9 p l n (by simpa using hn) (fun k hk=>by have:=h (k+1) (by omega);simpa using this) (fun hl=>by have:=hx (by simpa using hl);simpa using this)
  simp [List.takeWhile_cons,List.dropWhile_cons,h0,ih.1,ih.2]
theorem A9d{α:Type}[Inhabited α]{a:List α}{i:Int}(h0:0≤i)(h:i < a.length):a.drop i.toNat=a[i.toNat]! :: a.drop (i+1).toNat:=by
 rw[show(i+1).toNat=i.toNat+1 by omega,getElem!_pos a i.toNat (by omega)]
 exact List.drop_eq_getElem_cons (by omega)
theorem Ah5{α:Type}[Inhabited α]{a:List α}{i k:Nat}(h:i+k < a.length):(a.drop i)[k]! = a[i+k]!:=by
 rw[getElem!_pos (a.drop i) k (by rw[List.length_drop];omega),getElem!_pos a (i+k) h,List.getElem_drop]
theorem A2q{rs:List Record}{i j:Int}{ps:List Past}(h0:0≤i)(hi:i < rs.length)(hij:i≤j)(hj:j≤rs.length)(he:¬(j < rs.length∧rs[j.toNat]!.sku=rs[i.toNat]!.sku))(h:Bc8 rs i j ps) :
  i < j∧ps=(M7 rs[i.toNat]! (rs.drop (i+1).toNat)).map (fun x=>x.past)∧rs.drop j.toNat=A6u rs[i.toNat]! (rs.drop (i+1).toNat):=by
 have hlt:i < j:=by
  apply Classical.byContradiction
  intro k
  have:j=i:=by omega
  subst this
  exact he ⟨hi,rfl⟩
 have hw:=Ax9 (fun x:Record=>decide (x.sku=rs[i.toNat]!.sku)) (rs.drop i.toNat) (j-i).toNat (by rw[List.length_drop];omega) (fun k hk=>by
  rw[Ah5 (by omega),decide_eq_true_iff]
  exact h.2 (i.toNat+k) (by omega) (by omega)) (fun hl=>by
  rw[List.length_drop]at hl
  rw[Ah5 (by omega),decide_eq_false_iff_not,show i.toNat+(j-i).toNat=j.toNat by omega]
  exact fun k=>he ⟨by omega,k⟩)
 have e1:M7 rs[i.toNat]! (rs.drop (i+1).toNat)=(rs.drop i.toNat).takeWhile fun x=>decide (x.sku=rs[i.toNat]!.sku):=by
  rw[A9d h0 hi,List.takeWhile_cons]
  simp [M7]
 have e2:A6u rs[i.toNat]! (rs.drop (i+1).toNat)=(rs.drop i.toNat).dropWhile fun x=>decide (x.sku=rs[i.toNat]!.sku):=by
  rw[A9d h0 hi,List.dropWhile_cons]
  simp [A6u]
 refine⟨hlt,?_,?_⟩
 ·rw[e1,hw.1];exact h.1
 ·rw[e2,hw.2,List.drop_drop,show i.toNat+(j-i).toNat=j.toNat by omega]
theorem A9e{rs:List Record}{i j:Int}{ps:List Past}{all:Past}{out:List Record}(h0:0≤i)(hi:i < rs.length)(hij:i≤j)(hj:j≤rs.length)(he:¬(j < rs.length∧rs[j.toNat]!.sku=rs[i.toNat]!.sku))(h:Bc8 rs i j ps)(hf:Bm7 rs i all out) :
  Bm7 rs j (if rs[i.toNat]!.sku=noneS then C6 ps else all) (if G0 (if rs[i.toNat]!.sku=noneS then C6 ps else H9 (C6 ps) all)=0 then out else out++[⟨rs[i.toNat]!.sku,if rs[i.toNat]!.sku=noneS then C6 ps else H9 (C6 ps) all⟩]):=by
 obtain⟨_,e1,e2⟩:=A2q h0 hi hij hj he h
 unfold Bm7 at *
 rw[← hf,A9d h0 hi,A7r,e2,e1]
 rfl
theorem A9f(a b:List Record):A32 (a++b)=A32 a+A32 b:=by simp [A32]
theorem Bm9(a:List Record):a.length≤A32 a:=by
 induction a with
 | nil=>simp [A32]
 | cons r a ih=>simp only [A32,List.map_cons,List.sum_cons,List.length_cons]at *;omega
theorem B8n(l:List Record):A14 (l.map fun x=>x.past)=A32 l:=by simp [A14,A32,Function.comp_def]
theorem gr_tot{rs:List Record}{i j:Int}{ps:List Past}(h:Bc8 rs i j ps):A14 ps≤A32 rs:=by
 rw[h.1,B8n]
 have h1:=A9f (rs.take i.toNat) (rs.drop i.toNat)
 rw[List.take_append_drop]at h1
 have h2:=A9f ((rs.drop i.toNat).take (j-i).toNat) ((rs.drop i.toNat).drop (j-i).toNat)
 rw[List.take_append_drop]at h2
 omega
theorem Bc9{rs:List Record}{i j:Int}{ps:List Past}(h:Bc8 rs i j ps):(ps.length:Int)≤(j-i).toNat:=by
 rw[h.1,List.length_map,List.length_take]
 omega
theorem Bn0{rs:List Record}{i j:Int}{ps:List Past}(h0:0≤i)(hij:i≤j)(hj:j < rs.length)(hs:rs[j.toNat]!.sku=rs[i.toNat]!.sku)(h:Bc8 rs i j ps):Bc8 rs i (j+1) (ps++[rs[j.toNat]!.past]):=by
 refine⟨?_,fun k hk1 hk2=>?_⟩
 ·rw[h.1,show(j+1-i).toNat=(j-i).toNat+1 by omega,List.take_succ_eq_append_getElem (by rw[List.length_drop];omega),List.map_append]
  congr 1
  have hjn:i.toNat+(j-i).toNat < rs.length:=by omega
  have:(rs.drop i.toNat)[(j-i).toNat]'(by rw[List.length_drop];omega)=rs[j.toNat]!:=by
   rw[List.getElem_drop,getElem!_pos rs j.toNat (by omega)]
   congr 1
   omega
  simp only [List.map_cons,List.map_nil,this]
 ·by_cases e:k=j.toNat
  ·rw[e];exact hs
  ·exact h.2 k hk1 (by omega)
theorem Y5{p:Past}(h:p=A6 p):p.cloud.length≤8000000000:=by
 rw[h]
 exact(O1 _).1
theorem A9g(ps:List Past):(C6 ps).cloud.length≤8000000000:=(O1 _).1
theorem B8o(a b:Past):(H9 a b).cloud.length≤8000000000:=(O1 fun r=>Ad9 (B3 [a] r) (B3 [b] r)).1
theorem Bd0{rs:List Record}{i:Int}{all:Past}{out:List Record}(hi:¬ i < rs.length)(h:Bm7 rs i all out):out=Y4 ⟨[],[]⟩ [] rs:=by
 unfold Bm7 at h
 rw[List.drop_of_length_le (by omega),A5z]at h
 exact h
theorem Ay0{out:List Record}{b:Go.E.Blk}{n m:Nat}(hb:b.k=.row m (out.map c81))(h:0 <(out.length:Int))(hn:n=0):Go.E.rowAt b n (c81 out[0]!):=by
 unfold Go.E.rowAt
 rw[hb,hn]
 cases out with
 | nil=>simp at h
 | cons x l=>rfl
theorem B4z{es:List Entry}{B:List Record}{i:Int}{o:List Entry}(h0:0≤i)(hi:i < es.length)(ho:o=(es.take i.toNat).filter fun e=>decide (H7 B e=0)) :
  (es.take (i+1).toNat).filter (fun e=>decide (H7 B e=0))=o++if H7 B es[i.toNat]! = 0 then[es[i.toNat]!]else[]:=by
 rw[← C8 h0 hi,List.filter_append,ho]
 congr 1
 generalize es[i.toNat]! = x
 split
 ·rename_i h;simp [List.filter_cons,h]
 ·rename_i h;simp [List.filter_cons,h]
theorem Bn1(es:List Entry)(rs:List Record):es.filter (fun e=>decide (H7 (Y4 ⟨[],[]⟩ [] rs) e=0))=es.filter fun e=>decide (H7 rs e=0) :=
 List.filter_congr fun e _=>decide_eq_decide.2 (B4y rs e)
theorem Bd1(r:Record)(hb:szR r):Con Tryz.prog 157 [.agg (c81 r)] (.agg (c81 ⟨r.sku,A6 r.past⟩)) :=
 by
 refine sC A8 [.cell 2 81] 9 Tryz.func157 ?_
 intro e0 cx
 refine sq<|rG cx [1,2] [1,2] z0<|sn<|sq<|rA cx [2] [2] (fT (Au3 (r.past) ?g0) (oA 4 (.agg [.sl (List.map c3 (A6 r.past).vec),.sl (List.map B5 (A6 r.past).cloud)]) z0)) ?_;rotate_left
 refine sn<|rT<|qR (.agg [.s (r.sku),.sl (List.map c3 (A6 r.past).vec),.sl (List.map B5 (A6 r.past).cloud)]) (.eq ?g1);rotate_left
 case g0=>exact hb
 case g1=>exact rfl
theorem con158(r:Record)(e:Entry):Con Tryz.prog 158 [.agg (c81 r),.agg (c45 e)] (.b (A31 r e)) :=
 by
 refine sC A8 [.tmp 4] 22 Tryz.func158 ?_
 intro e0 cx
 refine sq<|rG cx [2,3] [2,3] z0<|sn<|sq<|B1 (σ':=⟨[(4,.b (decide (r.sku={ data:=#[]:ByteArray }∧E8 r.past e.dot=true∨¬r.sku={ data:=#[]:ByteArray }∧r.sku=e.sku∧E8 r.past e.dot=true)))],[]⟩) ?_ ?_
 refine A4 (r.sku={ data:=#[]:ByteArray }) (fun h_1=>?_) (fun h_1=>?_)
 refine rG cx [4] [] (tT 2 (A1x h_1:AV.b (r.sku.toList == { data:=#[]:ByteArray }.toList)=AV.b true) (fT (B3g (r.past) (e.dot)) (tD 17 (E8 r.past e.dot) (r.sku={ data:=#[]:ByteArray }∧E8 r.past e.dot=true∨¬r.sku={ data:=#[]:ByteArray }∧r.sku=e.sku∧E8 r.past e.dot=true) (by simp only [eq_true h_1,tsl]) (oA 15 (.b (E8 r.past e.dot)) z0)))) ?_
 exact⟨rfl,by kernel_rfl⟩
 refine A4 (r.sku=e.sku) (fun h_2=>?_) (fun h_2=>?_)
 refine rG cx [4] [] (tT 2 (V1 h_1:AV.b (r.sku.toList == { data:=#[]:ByteArray }.toList)=AV.b false) (tT 8 (A1x h_2:AV.b (r.sku.toList == e.sku.toList)=AV.b true) (fT (B3g (r.past) (e.dot)) (tD 17 (E8 r.past e.dot) (r.sku={ data:=#[]:ByteArray }∧E8 r.past e.dot=true∨¬r.sku={ data:=#[]:ByteArray }∧r.sku=e.sku∧E8 r.past e.dot=true) (by simp only [eq_false h_1,eq_true h_2,tsl]) (oA 15 (.b (E8 r.past e.dot)) z0))))) ?_
 exact⟨rfl,by kernel_rfl⟩
 refine rG cx [4] [] (tT 2 (V1 h_1:AV.b (r.sku.toList == { data:=#[]:ByteArray }.toList)=AV.b false) (tT 8 (V1 h_2:AV.b (r.sku.toList == e.sku.toList)=AV.b false) (tD 17 false (r.sku={ data:=#[]:ByteArray }∧E8 r.past e.dot=true∨¬r.sku={ data:=#[]:ByteArray }∧r.sku=e.sku∧E8 r.past e.dot=true) (by simp only [eq_false h_1,eq_false h_2,tsl]) z0))) ?_
 exact⟨rfl,by kernel_rfl⟩
 refine sn<|rT<|qR (.b (decide (r.sku={ data:=#[]:ByteArray }∧E8 r.past e.dot=true∨¬r.sku={ data:=#[]:ByteArray }∧r.sku=e.sku∧E8 r.past e.dot=true))) (.eq ?g0);rotate_left
 case g0 =>
  refine congrArg AV.b ?_
  rw[Bool.eq_iff_iff,A1n,decide_eq_true_iff]
  show(r.sku=noneS∧_∨¬ r.sku=noneS∧_)↔_
  by_cases c:r.sku=noneS <;> simp [c]
theorem con117(rs:List Record)(e:Entry):Con Tryz.prog 117 [.sl (rs.map c81),.agg (c45 e)] (.i .i64 (H7 rs e)) :=
 by
 have st:∀ {i:Int},0≤i→i < rs.length→H7 (rs.take (i+1).toNat) e=H7 (rs.take i.toNat) e+if A31 rs[i.toNat]! e=true then 1 else 0:=by
  intro i h0 h1
  unfold H7
  rw[← C8 h0 h1,List.filter_append,List.length_append]
  generalize rs[i.toNat]! = x
  split
  ·rename_i h;simp [List.filter_cons,h]
  ·rename_i h;simp [List.filter_cons,h]
 refine lN 0 c81 (rs) Tryz.func117 fun hl_0=>sC A8 [.tmp 4] 21 Tryz.func117 ?_
 intro e0 cx
 refine sq<|rG cx [0,3] [3] z0<|sn<|sq<|rG cx [0,3,5] [3] z0<|sn<|sq<|sq<|rG cx [3,5,8,9,10] [3] (tL 1 c81 rs z0)<|sn<|bL 0<|sL (X:=Int×Int×Int×Int×ByteArray×Int) (fun x=>⟨[(3,.ptr (3) (0) (0) (0)),(5,.i .i64 (x.1)),(8,.sl (List.map c81 rs)),(9,.i .i64 ((↑rs.length:Int))),(10,.i .i64 (x.2.1))],[(3,⟨0,45,.var [.i .i64 (x.2.2.1),.i .i64 (x.2.2.2.1),.s (x.2.2.2.2.1),.i .i64 (x.2.2.2.2.2)]⟩)]⟩) (fun x ↦ decBr rs x.1 x.2.1 x.2.2.1 x.2.2.2.1 x.2.2.2.2.1 x.2.2.2.2.2) (fun x ↦ Ah4 rs e x.1 x.2.1 x.2.2.1 x.2.2.2.1 x.2.2.2.2.1 x.2.2.2.2.2) [3,5,8,9,10] [3] (((0:Int),(0:Int),e.dot.rep,e.dot.num,e.sku,e.qty)) (show Ah4 rs e (0:Int) (0:Int) e.dot.rep e.dot.num e.sku e.qty from(by exact⟨rfl,rfl,rfl,rfl,by omega,by omega,by omega,by omega,by simp [H7]⟩)) ?_
 rintro⟨n0,i1,r2,m3,s4,q5⟩ h_6
 obtain⟨hh7,hh8,hh9,hh10,h11,h12,h13,h14,h15⟩:r2=e.dot.rep∧m3=e.dot.num∧s4=e.sku∧q5=e.qty∧0≤i1∧i1≤(↑rs.length:Int)∧0≤n0∧n0≤i1∧n0=H7 (List.take i1.toNat rs) e:=h_6
 refine rE cx [3,5,8,9,10,11] [3] (zB 0 (i1 <(↑rs.length:Int))) (fun h16=>?_) fun h16=>?_
 refine sK<|sn<|sq<|bL 1<|sq<|rG cx [3,5,8,9,10,7] [3,7] (fA (0≤i1) (fG c81 rs i1.toNat (fR 3 (fN 3 3 (oR 0 (c81 rs[i1.toNat]!) z0)))))<|sn<|sq<|rG cx [3,5,8,9,10,16] [3] (fT (con158 (rs[i1.toNat]!) ({ dot:={ rep:=r2,num:=m3:Dot },sku:=s4,qty:=q5:Entry })) (oA 2 (.b (A31 rs[i1.toNat]! { dot:={ rep:=r2,num:=m3:Dot },sku:=s4,qty:=q5:Entry })) z0))<|sn<|A1e (A31 rs[i1.toNat]! { dot:={ rep:=r2,num:=m3:Dot },sku:=s4,qty:=q5:Entry }) (by kernel_rfl) (by kernel_rfl) (fun h17=>?_) (fun h17=>?_)
 refine rG cx [3,5,8,9,10] [3] (tW 1 (n0+1) z0)<|bN<|sn<|rG cx [3,5,8,9,10] [3] (tW 0 (i1+1) z0)<|sn<|nX ((n0+1,i1+1,r2,m3,s4,q5)) (show((↑rs.length:Int)-(i1+1)).toNat <((↑rs.length:Int)-i1).toNat from(by omega)) (show Ah4 rs e (n0+1) (i1+1) r2 m3 s4 q5 from ?g1);rotate_left
 refine sK<|bN<|sn<|rG cx [3,5,8,9,10] [3] (tW 0 (i1+1) z0)<|sn<|nX ((n0,i1+1,r2,m3,s4,q5)) (show((↑rs.length:Int)-(i1+1)).toNat <((↑rs.length:Int)-i1).toNat from(by omega)) (show Ah4 rs e n0 (i1+1) r2 m3 s4 q5 from ?g2);rotate_left
 refine eX 0<|nE<|nE<|bH<|sn<|sq<|rG cx [4] [] z0<|sn<|rT<|qR (.i .i64 (n0)) (.eq (by rw[h15,List.take_of_length_le (by omega)]))
 case g1 =>
  subst hh7 hh8 hh9 hh10
  refine⟨rfl,rfl,rfl,rfl,by omega,by omega,by omega,by omega,?_⟩
  rw[st h11 h16,if_pos h17,h15]
 case g2 =>
  subst hh7 hh8 hh9 hh10
  refine⟨rfl,rfl,rfl,rfl,by omega,by omega,by omega,by omega,?_⟩
  have h17:A31 rs[i1.toNat]! e=false:=h17
  rw[st h11 h16,if_neg (by rw[h17];simp),h15]
  omega
theorem con116(rs:List Record)(hb:B1u rs)(ht:tokR rs):Con Tryz.prog 116 [.sl (rs.map c81)] (.tup [.sl ((R2 rs).1.map c81),.i .i64 (R2 rs).2]) :=
 by
 have hl:=Bm9 rs
 have ht1:=ht.1
 have ht2:=ht.2
 refine lN 0 c81 (rs) Tryz.func116 fun hl_0=>sC A8 [.tmp 2,.tmp 3] 89 Tryz.func116 ?_
 intro e0 cx
 refine sq<|rG cx [0] [] z0<|sn<|sq<|sq<|rG cx [0,12] [] (fT (B0r (rs) (by(with_reducible assumption))) (tN 2 (F5 rs) (0:Int) (oA 1 (.i .i64 (F5 rs)) z0)))<|sn<|dC (¬F5 rs=0) (fun hh0=>?_) fun hh0=>?_
 refine sq<|rG cx [2,3] [] z0<|sn<|rT<|nR<|qR (.tup [.nl,.i .i64 ((1:Int))]) (B6.tup (ZLe.cons (B6.nl' (show List.map c81 (R2 rs).1=[]from(by unfold R2;rw[if_neg hh0];rfl))) (ZLe.cons (B6.eq (show AV.i .i64 1=AV.i .i64 (R2 rs).2 from(by unfold R2;rw[if_neg hh0]))) ZLe.nil)))
 refine sK<|sn<|sq<|rG cx [0,4] [4] z0<|sn<|sq<|rG cx [0,4,5] [4] z0<|sn<|sq<|sq<|rG cx [0,4,5,6] [4] z0<|sn<|bL 0<|E6 5 1005 81 3 (σ':=⟨[(0,.sl (List.map c81 rs)),(4,.ptr (4) (0) (0) (0)),(5,.own 1005 0),(6,.i .i64 ((0:Int)))],[(4,⟨0,26,.var [.nl,.nl]⟩),(1005,⟨0,81,.row 3 (List.map c81 [])⟩)]⟩) (by kernel_rfl)<|At0 4 0 (σ':=⟨[(0,.sl (List.map c81 rs)),(4,.ptr (4) (0) (0) (0)),(5,.own 1005 0),(6,.i .i64 ((0:Int)))],[(4,⟨0,26,.var [.sl (List.map c3 []),.nl]⟩),(1005,⟨0,81,.row 3 (List.map c81 [])⟩)]⟩) (by kernel_rfl)<|At0 4 1 (σ':=⟨[(0,.sl (List.map c81 rs)),(4,.ptr (4) (0) (0) (0)),(5,.own 1005 0),(6,.i .i64 ((0:Int)))],[(4,⟨0,26,.var [.sl (List.map c3 []),.sl (List.map B5 [])]⟩),(1005,⟨0,81,.row 3 (List.map c81 [])⟩)]⟩) (by kernel_rfl)<|sL (X:=Int×List Int×List Span×List Record) (fun x=>⟨[(0,.sl (List.map c81 rs)),(4,.ptr (4) (0) (0) (0)),(5,.own 1005 0),(6,.i .i64 (x.1))],[(4,⟨0,26,.var [.sl (List.map c3 x.2.1),.sl (List.map B5 x.2.2.1)]⟩),(1005,⟨0,81,.row 3 (List.map c81 x.2.2.2)⟩)]⟩) (fun x ↦ decFo rs x.1 x.2.1 x.2.2.1 x.2.2.2) (fun x ↦ B1b rs x.1 x.2.1 x.2.2.1 x.2.2.2) [0,4,5,6] [4,1005] (((0:Int),[],[],[])) (show B1b rs (0:Int) [] [] []from(by exact⟨by omega,by omega,by simp,by simp,rfl,fun r hr=>by cases hr⟩)) ?_
 rintro⟨i1,v2,cc3,o4⟩ h_5
 obtain⟨hh6,hh7,h8,h9,h10,h11⟩:0≤i1∧i1≤(↑rs.length:Int)∧(↑o4.length:Int)≤i1∧cc3.length≤(8000000000:Nat)∧Bm7 rs i1 { vec:=v2,cloud:=cc3:Past } o4∧∀(r:Record),r∈o4→r.past=A6 r.past:=h_5
 refine sq<|rD cx [0,4,5,6,16] [4,1005] (tL 2 c81 rs (zB 3 (i1 <(↑rs.length:Int)))) (fun h12=>?_) fun h12=>?_
 refine sK<|sn<|bL 1<|sq<|rG cx [0,4,5,6,7] [4,1005] z0<|sn<|sq<|rG cx [0,4,5,6,7,8] [4,1005] z0<|sn<|sq<|bL 2<|E6 8 1008 26 2 (σ':=⟨[(0,.sl (List.map c81 rs)),(4,.ptr (4) (0) (0) (0)),(5,.own 1005 0),(6,.i .i64 (i1)),(7,.i .i64 (i1)),(8,.own 1008 0)],[(4,⟨0,26,.var [.sl (List.map c3 v2),.sl (List.map B5 cc3)]⟩),(1005,⟨0,81,.row 3 (List.map c81 o4)⟩),(1008,⟨0,26,.row 2 (List.map c26 [])⟩)]⟩) (by kernel_rfl)<|sL (X:=Int×List Int×List Span×List Record×List Past) (fun x=>⟨[(0,.sl (List.map c81 rs)),(4,.ptr (4) (0) (0) (0)),(5,.own 1005 0),(6,.i .i64 (i1)),(7,.i .i64 (x.1)),(8,.own 1008 0)],[(4,⟨0,26,.var [.sl (List.map c3 x.2.1),.sl (List.map B5 x.2.2.1)]⟩),(1005,⟨0,81,.row 3 (List.map c81 x.2.2.2.1)⟩),(1008,⟨0,26,.row 2 (List.map c26 x.2.2.2.2)⟩)]⟩) (fun x ↦ decGr rs x.1 x.2.1 x.2.2.1 x.2.2.2.1 x.2.2.2.2) (fun x ↦ Bm8 rs i1 v2 cc3 o4 x.1 x.2.1 x.2.2.1 x.2.2.2.1 x.2.2.2.2) [0,4,5,6,7,8] [4,1005,1008] ((i1,v2,cc3,o4,[])) (show Bm8 rs i1 v2 cc3 o4 i1 v2 cc3 o4 []from(by exact⟨rfl,rfl,rfl,by omega,by omega,by simp,fun k hk1 hk2=>by omega⟩)) ?_
 rintro⟨j13,v14,c15,o16,p17⟩ h_18
 obtain⟨h19,h20,h21,h22,h23,h24⟩:v14=v2∧c15=cc3∧o16=o4∧i1≤j13∧j13≤(↑rs.length:Int)∧Bc8 rs i1 j13 p17:=h_18
 refine sq<|sq<|B1 (σ':=⟨[(0,.sl (List.map c81 rs)),(4,.ptr (4) (0) (0) (0)),(5,.own 1005 0),(6,.i .i64 (i1)),(7,.i .i64 (j13)),(8,.own 1008 0),(34,.b (decide (j13 <(↑rs.length:Int)∧rs[j13.toNat]!.sku=rs[i1.toNat]!.sku)))],[(4,⟨0,26,.var [.sl (List.map c3 v14),.sl (List.map B5 c15)]⟩),(1005,⟨0,81,.row 3 (List.map c81 o16)⟩),(1008,⟨0,26,.row 2 (List.map c26 p17)⟩)]⟩) ?_ ?_
 refine A4 (j13 <(↑rs.length:Int)) (fun h_26=>?_) (fun h_26=>?_)
 refine rA cx [0,4,5,6,7,8,34] [4,1005,1008] (tL 2 c81 rs (tT 3 (A7 h_26) (fO (0≤j13) (fG c81 rs j13.toNat (fR 3 (fA (0≤i1) (fG c81 rs i1.toNat (fR 3 (tT 15 (A4c:AV.b (rs[j13.toNat]!.sku.toList == rs[i1.toNat]!.sku.toList)=AV.b (decide (rs[j13.toNat]!.sku=rs[i1.toNat]!.sku))) (tD 16 (decide (rs[j13.toNat]!.sku=rs[i1.toNat]!.sku)) (j13 <(↑rs.length:Int)∧rs[j13.toNat]!.sku=rs[i1.toNat]!.sku) (by simp only [eq_true h_26,tsl]) (oR 7 (c81 rs[j13.toNat]!) (oR 12 (c81 rs[i1.toNat]!) z0)))))))))))) ?_
 exact⟨rfl,by kernel_rfl⟩
 refine rA cx [0,4,5,6,7,8,34] [4,1005,1008] (tL 2 c81 rs (tT 3 (A0 h_26) (tD 16 false (j13 <(↑rs.length:Int)∧rs[j13.toNat]!.sku=rs[i1.toNat]!.sku) (by simp only [eq_false h_26,tsl]) z0))) ?_
 exact⟨rfl,by kernel_rfl⟩
 refine sn<|dC (j13 <(↑rs.length:Int)∧rs[j13.toNat]!.sku=rs[i1.toNat]!.sku) (fun h27=>?_) fun h27=>?_
 refine sK<|sn<|bL 3<|sq<|rG cx [0,4,5,6,7,8] [4,1005,1008] (fO (0≤j13) (fG c81 rs j13.toNat (fR 3 (fN 2 2 (fR 26 (fR 2 (fR 2 (fX c26 [rs[j13.toNat]!.past] 2 (fP ((List.map c26 p17).length+(List.map c26 [rs[j13.toNat]!.past]).length≤maxLen) (by have:=Bc9 h24;simp only [List.length_map,List.length_cons,List.length_nil,Go.maxLen];omega) (fP (((List.map c26 p17).length+(List.map c26 [rs[j13.toNat]!.past]).length)*(48:Nat)≤(140737488355328:Nat)) (by have:=Bc9 h24;simp only [List.length_map,List.length_cons,List.length_nil];omega) (fM c26 p17 [rs[j13.toNat]!.past] (oR 3 (c81 rs[j13.toNat]!) (oV 7 { rows:=some (List.map c26 (p17++[rs[j13.toNat]!.past])) } z0))))))))))))) ?_
 refine sn<|rG cx [0,4,5,6,7,8] [4,1005,1008] (tW 1 (j13+1) z0)<|bN<|sn<|nX ((j13+1,v14,c15,o16,p17++[rs[j13.toNat]!.past])) (show((↑rs.length:Int)-(j13+1)).toNat <((↑rs.length:Int)-j13).toNat from(by omega)) (show Bm8 rs i1 v2 cc3 o4 (j13+1) v14 c15 o16 (p17++[rs[j13.toNat]!.past])from(by exact⟨h19,h20,h21,by omega,by omega,Bn0 hh6 h22 h27.1 h27.2 h24⟩))
 refine eX 2<|nE<|nE<|bH<|sn<|sq<|rA cx [0,4,5,7,9] [4,1005,9] (fA (0≤i1) (fG c81 rs i1.toNat (fR 3 (fT (Bk6 (p17) (by have:=gr_tot h24;omega)) (oR 2 (c81 rs[i1.toNat]!) (oA 6 (.agg [.sl (List.map c3 (C6 p17).vec),.sl (List.map B5 (C6 p17).cloud)]) z0)))))) ?_
 refine sn<|sq<|sq<|rG cx [0,4,5,7,9,55] [4,1005,9] (tT 2 (A4c:AV.b (rs[i1.toNat]!.sku.toList == { data:=#[]:ByteArray }.toList)=AV.b (decide (rs[i1.toNat]!.sku={ data:=#[]:ByteArray }))) z0)<|sn<|dC (rs[i1.toNat]!.sku={ data:=#[]:ByteArray }) (fun h28=>?_) fun h28=>?_
 refine rG cx [0,4,5,7,9] [4,1005,9] z0<|sn<|sq<|sq<|rG cx [0,4,5,7,9,66] [4,1005,9] (fT (B7n (C6 p17) (by have:=A9g p17;omega)) (tQ 3 (G0 (C6 p17)=0) (oA 2 (.b (decide (G0 (C6 p17)=0))) z0))) ?_
 refine sn<|dC (¬G0 (C6 p17)=0) (fun h29=>?_) fun h29=>?_
 refine rG cx [0,4,5,7] [4,1005] (fR 81 (fR 3 (fR 3 (fX c81 [{ sku:=rs[i1.toNat]!.sku,past:=C6 p17:Record }] 3 (fP ((List.map c81 o16).length+(List.map c81 [{ sku:=rs[i1.toNat]!.sku,past:=C6 p17:Record }]).length≤maxLen) (by subst h21;simp only [List.length_map,List.length_cons,List.length_nil,Go.maxLen];omega) (fP (((List.map c81 o16).length+(List.map c81 [{ sku:=rs[i1.toNat]!.sku,past:=C6 p17:Record }]).length)*(64:Nat)≤(140737488355328:Nat)) (by subst h21;simp only [List.length_map,List.length_cons,List.length_nil];omega) (fM c81 o16 [{ sku:=rs[i1.toNat]!.sku,past:=C6 p17:Record }] (oV 3 { rows:=some (List.map c81 (o16++[{ sku:=rs[i1.toNat]!.sku,past:=C6 p17:Record }])) } z0)))))))) ?_
 refine sn<|rG cx [0,4,5,6] [4,1005] z0<|bN<|sn<|nX ((j13,(C6 p17).vec,(C6 p17).cloud,o16++[{ sku:=rs[i1.toNat]!.sku,past:=C6 p17:Record }])) (show((↑rs.length:Int)-j13).toNat <((↑rs.length:Int)-i1).toNat from(by have:=(A2q hh6 h12 h22 h23 h27 h24).1;omega)) (show B1b rs j13 (C6 p17).vec (C6 p17).cloud (o16++[{ sku:=rs[i1.toNat]!.sku,past:=C6 p17:Record }])from ?g12);rotate_left
 refine sK<|sn<|rG cx [0,4,5,6] [4,1005] z0<|bN<|sn<|nX ((j13,(C6 p17).vec,(C6 p17).cloud,o16)) (show((↑rs.length:Int)-j13).toNat <((↑rs.length:Int)-i1).toNat from(by have:=(A2q hh6 h12 h22 h23 h27 h24).1;omega)) (show B1b rs j13 (C6 p17).vec (C6 p17).cloud o16 from ?g14);rotate_left
 refine rG cx [0,4,5,7,9] [4,1005,9] (fT (con104 (C6 p17) ({ vec:=v14,cloud:=c15:Past }) (by have:=A9g p17;omega) (by subst h20;simp only;omega)) (oA 3 (.agg [.sl (List.map c3 (H9 (C6 p17) { vec:=v14,cloud:=c15:Past }).vec),.sl (List.map B5 (H9 (C6 p17) { vec:=v14,cloud:=c15:Past }).cloud)]) z0)) ?_
 refine sn<|sq<|sq<|rG cx [0,4,5,7,9,66] [4,1005,9] (fT (B7n (H9 (C6 p17) { vec:=v14,cloud:=c15:Past }) (by have:=B8o (C6 p17) ⟨v14,c15⟩;omega)) (tQ 3 (G0 (H9 (C6 p17) { vec:=v14,cloud:=c15:Past })=0) (oA 2 (.b (decide (G0 (H9 (C6 p17) { vec:=v14,cloud:=c15:Past })=0))) z0))) ?_
 refine sn<|dC (¬G0 (H9 (C6 p17) { vec:=v14,cloud:=c15:Past })=0) (fun h30=>?_) fun h30=>?_
 refine rG cx [0,4,5,7] [4,1005] (fR 81 (fR 3 (fR 3 (fX c81 [{ sku:=rs[i1.toNat]!.sku,past:=H9 (C6 p17) { vec:=v14,cloud:=c15:Past }:Record }] 3 (fP ((List.map c81 o16).length+(List.map c81 [{ sku:=rs[i1.toNat]!.sku,past:=H9 (C6 p17) { vec:=v14,cloud:=c15:Past }:Record }]).length≤maxLen) (by subst h21;simp only [List.length_map,List.length_cons,List.length_nil,Go.maxLen];omega) (fP (((List.map c81 o16).length+(List.map c81 [{ sku:=rs[i1.toNat]!.sku,past:=H9 (C6 p17) { vec:=v14,cloud:=c15:Past }:Record }]).length)*(64:Nat)≤(140737488355328:Nat)) (by subst h21;simp only [List.length_map,List.length_cons,List.length_nil];omega) (fM c81 o16 [{ sku:=rs[i1.toNat]!.sku,past:=H9 (C6 p17) { vec:=v14,cloud:=c15:Past }:Record }] (oV 3 { rows:=some (List.map c81 (o16++[{ sku:=rs[i1.toNat]!.sku,past:=H9 (C6 p17) { vec:=v14,cloud:=c15:Past }:Record }])) } z0)))))))) ?_
 refine sn<|rG cx [0,4,5,6] [4,1005] z0<|bN<|sn<|nX ((j13,v14,c15,o16++[{ sku:=rs[i1.toNat]!.sku,past:=H9 (C6 p17) { vec:=v14,cloud:=c15:Past }:Record }])) (show((↑rs.length:Int)-j13).toNat <((↑rs.length:Int)-i1).toNat from(by have:=(A2q hh6 h12 h22 h23 h27 h24).1;omega)) (show B1b rs j13 v14 c15 (o16++[{ sku:=rs[i1.toNat]!.sku,past:=H9 (C6 p17) { vec:=v14,cloud:=c15:Past }:Record }])from ?g21);rotate_left
 refine sK<|sn<|rG cx [0,4,5,6] [4,1005] z0<|bN<|sn<|nX ((j13,v14,c15,o16)) (show((↑rs.length:Int)-j13).toNat <((↑rs.length:Int)-i1).toNat from(by have:=(A2q hh6 h12 h22 h23 h27 h24).1;omega)) (show B1b rs j13 v14 c15 o16 from ?g23);rotate_left
 refine eX 0<|nE<|nE<|bH<|sn<|sq<|sq<|B1 (σ':=⟨[(5,.own 1005 0),(81,.b (decide ((0:Int) <(↑o4.length:Int)∧o4[0]!.sku={ data:=#[]:ByteArray })))],[(1005,⟨0,81,.row 3 (List.map c81 o4)⟩)]⟩) ?_ ?_
 refine A4 ((0:Int) <(↑o4.length:Int)) (fun h32=>?_) (fun h32=>?_)
 refine rG cx [5,81] [1005] (tL 1 c81 o4 (tT 2 (A7 h32) (fO ((0:Int)≤(0:Int)) (fP (Int.toNat (0:Int) <(List.map c81 o4).length) (by(first | omega | (simp only [List.length_map];omega))) (fR 3 (fP (E.rowAt { ver:=0,ty:=81,k:=BK.row (3) (List.map c81 o4):Blk } (0) (c81 o4[0]!)) (by exact Ay0 rfl h32 rfl) (tT 8 (A4c:AV.b (o4[0]!.sku.toList == { data:=#[]:ByteArray }.toList)=AV.b (decide (o4[0]!.sku={ data:=#[]:ByteArray }))) (tD 9 (decide (o4[0]!.sku={ data:=#[]:ByteArray })) ((0:Int) <(↑o4.length:Int)∧o4[0]!.sku={ data:=#[]:ByteArray }) (by simp only [eq_true h32,tsl]) (oR 7 (c81 o4[0]!) z0))))))))) ?_
 exact⟨rfl,by kernel_rfl⟩
 refine rG cx [5,81] [1005] (tL 1 c81 o4 (tT 2 (A0 h32) (tD 9 false ((0:Int) <(↑o4.length:Int)∧o4[0]!.sku={ data:=#[]:ByteArray }) (by simp only [eq_false h32,tsl]) z0))) ?_
 exact⟨rfl,by kernel_rfl⟩
 refine sn<|dC ((0:Int) <(↑o4.length:Int)∧o4[0]!.sku={ data:=#[]:ByteArray }) (fun h33=>?_) fun h33=>?_
 refine rG cx [5] [1005] (fO ((0:Int)≤(0:Int)) (fP (Int.toNat (0:Int) <(List.map c81 o4).length) (by(first | omega | (simp only [List.length_map];omega))) (fR 3 (fP (E.rowAt { ver:=0,ty:=81,k:=BK.row (3) (List.map c81 o4):Blk } (0) (c81 o4[0]!)) (by exact Ay0 rfl h33.1 rfl) (fP (0+(3:Nat)≤(c81 o4[0]!).length) (by exact Nat.le_refl 3) (fT (Bd1 (o4[0]!) ?g27) (fO ((0:Int)≤(0:Int)) (fP (Int.toNat (0:Int) <(List.map c81 o4).length) (by(first | omega | (simp only [List.length_map];omega))) (fR 3 (fP ((List.map c81 o4)[0]?=some (c81 o4[0]!)) (by((try simp only [Nat.mul_one,Nat.add_zero,Nat.zero_add]);with_reducible refine F9 ?_;omega)) (fR 3 (fP (0+(3:Nat)≤3) (by(first | omega | (simp only [List.length_map];omega))) (fP ((List.map c81 o4).set (0) (List.take (0) (c81 o4[0]!)++E0 (AV.agg [AV.s { sku:=o4[0]!.sku,past:=A6 o4[0]!.past:Record }.sku,AV.sl (List.map c3 { sku:=o4[0]!.sku,past:=A6 o4[0]!.past:Record }.past.vec),AV.sl (List.map B5 { sku:=o4[0]!.sku,past:=A6 o4[0]!.past:Record }.past.cloud)])++List.drop (0+(3:Nat)) (c81 o4[0]!))=List.map c81 (o4.set (0) { sku:=o4[0]!.sku,past:=A6 o4[0]!.past:Record })) (by(with_reducible refine A37 ?_;kernel_rfl)) (oR 3 (c81 o4[0]!) (oA 4 (.agg [.s ({ sku:=o4[0]!.sku,past:=A6 o4[0]!.past:Record }.sku),.sl (List.map c3 { sku:=o4[0]!.sku,past:=A6 o4[0]!.past:Record }.past.vec),.sl (List.map B5 { sku:=o4[0]!.sku,past:=A6 o4[0]!.past:Record }.past.cloud)]) (oV 6 { row:=(c81 o4[0]!),rows:=some (List.map c81 (o4.set (0) { sku:=o4[0]!.sku,past:=A6 o4[0]!.past:Record })) } z0)))))))))))))))) ?_;rotate_left
 refine sn<|sq<|rG cx [2,3] [1005] z0<|sn<|rT<|qR (.tup [.sl (List.map c81 (o4.set (0) { sku:=o4[0]!.sku,past:=A6 o4[0]!.past:Record })),.i .i64 ((0:Int))]) (B6.tup (ZLe.cons (B6.eq (show AV.sl (List.map c81 (o4.set (0) { sku:=o4[0]!.sku,past:=A6 o4[0]!.past:Record }))=AV.sl (List.map c81 (R2 rs).1)from ?g29)) (ZLe.cons (B6.eq (show AV.i .i64 0=AV.i .i64 (R2 rs).2 from(by unfold R2;rw[if_pos (Classical.not_not.1 hh0)]))) ZLe.nil)));rotate_left
 refine sK<|sn<|sq<|rG cx [2,3] [1005] z0<|sn<|rT<|qR (.tup [.sl (List.map c81 o4),.i .i64 ((0:Int))]) (B6.tup (ZLe.cons (B6.eq (show AV.sl (List.map c81 o4)=AV.sl (List.map c81 (R2 rs).1)from ?g31)) (ZLe.cons (B6.eq (show AV.i .i64 0=AV.i .i64 (R2 rs).2 from(by unfold R2;rw[if_pos (Classical.not_not.1 hh0)]))) ZLe.nil)));rotate_left
 case g12 =>
  have k4':rs[i1.toNat]!.sku=noneS:=h28
  have g:=A9e hh6 h12 h22 h23 h27 h24 h10
  have g2:=(A2q hh6 h12 h22 h23 h27 h24).1
  rw[if_pos k4',if_neg (by rw[if_pos k4'];exact h29),if_pos k4']at g
  subst h21
  refine⟨by omega,by omega,by rw[List.length_append,List.length_singleton];omega,A9g p17,g,fun r hr=>?_⟩
  rcases List.mem_append.1 hr with hr | hr
  ·exact h11 r hr
  ·have:r=⟨rs[i1.toNat]!.sku,C6 p17⟩:=by simpa using hr
   subst this
   exact Ae1 p17
 case g14 =>
  have k4':rs[i1.toNat]!.sku=noneS:=h28
  have g:=A9e hh6 h12 h22 h23 h27 h24 h10
  have g2:=(A2q hh6 h12 h22 h23 h27 h24).1
  rw[if_pos k4',if_pos (by rw[if_pos k4'];exact Classical.not_not.1 h29)]at g
  subst h21
  exact⟨by omega,by omega,by omega,A9g p17,g,h11⟩
 case g21 =>
  have k4':¬ rs[i1.toNat]!.sku=noneS:=h28
  have g:=A9e hh6 h12 h22 h23 h27 h24 h10
  have g2:=(A2q hh6 h12 h22 h23 h27 h24).1
  subst h19 h20 h21
  rw[if_neg k4',if_neg (by rw[if_neg k4'];exact h30),if_neg k4']at g
  refine⟨by omega,by omega,by rw[List.length_append,List.length_singleton];omega,h9,g,fun r hr=>?_⟩
  rcases List.mem_append.1 hr with hr | hr
  ·exact h11 r hr
  ·have:r=⟨rs[i1.toNat]!.sku,H9 (C6 p17) ⟨v14,c15⟩⟩:=by simpa using hr
   subst this
   exact B0o _ _
 case g23 =>
  have k4':¬ rs[i1.toNat]!.sku=noneS:=h28
  have g:=A9e hh6 h12 h22 h23 h27 h24 h10
  have g2:=(A2q hh6 h12 h22 h23 h27 h24).1
  subst h19 h20 h21
  rw[if_neg k4',if_pos (by rw[if_neg k4'];exact Classical.not_not.1 h30)]at g
  exact⟨by omega,by omega,by omega,h9,g,h11⟩
 case g27 =>
  have:=Y5 (h11 o4[0]! (E9 (by omega)))
  unfold szR
  omega
 case g29 =>
  have e:(⟨o4[0]!.sku,A6 o4[0]!.past⟩:Record)=o4[0]!:=by
   have:=h11 o4[0]! (E9 (by omega))
   generalize o4[0]! = r at *
   cases r
   simp only at this
   rw[← this]
  have e2:o4.set 0 o4[0]! = o4:=by
   cases o4 with
   | nil=>rfl
   | cons x l=>rfl
  unfold R2
  rw[if_pos (Classical.not_not.1 hh0),← Bd0 h12 h10]
  show AV.sl (List.map c81 (o4.set 0 ⟨o4[0]!.sku,A6 o4[0]!.past⟩))=_
  rw[e,e2]
 case g31 =>
  unfold R2
  rw[if_pos (Classical.not_not.1 hh0),← Bd0 h12 h10]
theorem con69(es:List Entry)(rs:List Record)(hb:B1u rs)(ht:tokR rs):Con Tryz.prog 69 [.sl (es.map c45),.sl (rs.map c81)] (.tup [.sl ((N1 es rs).1.map c45),.i .i64 (N1 es rs).2]) :=
 by
 have hl:D2 es=0→es.length≤16000000000:=fun h=>U4 (M6 h)
 have hf:F5 rs=0→(R2 rs).1=Y4 ⟨[],[]⟩ [] rs:=fun h=>by unfold R2;rw[if_pos h]
 have no:¬D2 es=0∨¬F5 rs=0→¬(D2 es=0∧F5 rs=0):=fun h k=>by rcases h with h | h;exact h k.1;exact h k.2
 have yes:¬(¬D2 es=0∨¬F5 rs=0)→D2 es=0∧F5 rs=0:=fun h=>⟨Classical.not_not.1 fun k=>h (.inl k),Classical.not_not.1 fun k=>h (.inr k)⟩
 refine lN 0 c45 (es) Tryz.func69 fun hl_0=>lN 1 c81 (rs) Tryz.func69 fun hl_1=>sC A8 [.tmp 4,.tmp 5] 40 Tryz.func69 ?_
 intro e0 cx
 refine sq<|rG cx [0,1] [] z0<|sn<|sq<|sq<|B1 (σ':=⟨[(0,.sl (List.map c45 es)),(1,.sl (List.map c81 rs)),(18,.b (decide (¬D2 es=0∨¬F5 rs=0)))],[]⟩) ?_ ?_
 refine A4 (¬D2 es=0) (fun h_1=>?_) (fun h_1=>?_)
 refine rG cx [0,1,18] [] (fT (A5k (es)) (tT 2 (D0 h_1:AV.b (D2 es !=0)=AV.b true) (tD 7 true (¬D2 es=0∨¬F5 rs=0) (by simp only [eq_false h_1,tsl]) (oA 1 (.i .i64 (D2 es)) z0)))) ?_
 exact⟨rfl,by kernel_rfl⟩
 refine rG cx [0,1,18] [] (fT (A5k (es)) (tN 2 (D2 es) (0:Int) (tT 3 (A0 h_1) (fT (B0r (rs) (by(with_reducible assumption))) (tN 6 (F5 rs) (0:Int) (tT 7 (by first | (simp only [eq_false h_1,tsl];done) | simp_all:AV.b (decide ¬F5 rs=0)=AV.b (decide (¬D2 es=0∨¬F5 rs=0))) (oA 1 (.i .i64 (D2 es)) (oA 5 (.i .i64 (F5 rs)) z0)))))))) ?_
 exact⟨rfl,by kernel_rfl⟩
 refine sn<|dC (¬D2 es=0∨¬F5 rs=0) (fun hh2=>?_) fun hh2=>?_
 refine sq<|rG cx [4,5] [] z0<|sn<|rT<|nR<|qR (.tup [.nl,.i .i64 ((1:Int))]) (B6.tup (ZLe.cons (B6.nl' (show List.map c45 (N1 es rs).1=[]from(by unfold N1;rw[if_neg (no hh2)];rfl))) (ZLe.cons (B6.eq (show AV.i .i64 1=AV.i .i64 (N1 es rs).2 from(by unfold N1;rw[if_neg (no hh2)]))) ZLe.nil)))
 refine sK<|sn<|sq<|rG cx [0,6] [] (fT (con116 (rs) (by(with_reducible assumption)) (by(with_reducible assumption))) (oA 1 (.tup [.sl (List.map c81 (R2 rs).1),.i .i64 ((R2 rs).2)]) z0))<|sn<|sq<|rG cx [0,6,8] [] z0<|sn<|sq<|sq<|rG cx [6,8,24,25,26] [] (tL 1 c45 es z0)<|sn<|bL 0<|E6 8 1008 45 4 (σ':=⟨[(6,.sl (List.map c81 (R2 rs).1)),(8,.own 1008 0),(24,.sl (List.map c45 es)),(25,.i .i64 ((↑es.length:Int))),(26,.i .i64 ((0:Int)))],[(1008,⟨0,45,.row 4 (List.map c45 [])⟩)]⟩) (by kernel_rfl)<|sL (X:=Int×List Entry) (fun x=>⟨[(6,.sl (List.map c81 (R2 rs).1)),(8,.own 1008 0),(24,.sl (List.map c45 es)),(25,.i .i64 ((↑es.length:Int))),(26,.i .i64 (x.1))],[(1008,⟨0,45,.row 4 (List.map c45 x.2)⟩)]⟩) (fun x ↦ decAp es x.1 x.2) (fun x ↦ B8m es (Y4 { vec:=[],cloud:=[]:Past } [] rs) x.1 x.2) [6,8,24,25,26] [1008] (((0:Int),[])) (show B8m es (Y4 { vec:=[],cloud:=[]:Past } [] rs) (0:Int) []from(by exact⟨by omega,by omega,by simp,by simp⟩)) ?_
 rintro⟨i3,o4⟩ h_5
 obtain⟨h6,h7,h8,h9⟩:0≤i3∧i3≤(↑es.length:Int)∧(↑o4.length:Int)≤i3∧o4=List.filter (fun e ↦ decide (H7 (Y4 { vec:=[],cloud:=[]:Past } [] rs) e=0)) (List.take i3.toNat es):=h_5
 refine rE cx [6,8,24,25,26,27] [1008] (zB 0 (i3 <(↑es.length:Int))) (fun h10=>?_) fun h10=>?_
 refine sK<|sn<|sq<|bL 1<|sq<|rG cx [6,8,24,25,26,10] [1008,10] (fA (0≤i3) (fG c45 es i3.toNat (fR 4 (fN 4 4 (oR 0 (c45 es[i3.toNat]!) z0)))))<|sn<|rD cx [6,8,24,25,26,10,33] [1008,10] (fT (con117 ((R2 rs).1) (es[i3.toNat]!)) (oA 2 (.i .i64 (H7 (R2 rs).1 es[i3.toNat]!)) (zB 3 (H7 (R2 rs).1 es[i3.toNat]! =(0:Int))))) (fun h11=>?_) fun h11=>?_
 refine rG cx [6,8,24,25,26] [1008] (fR 45 (fR 4 (fR 4 (fX c45 [es[i3.toNat]!] 4 (fS c45 o4 c45 [es[i3.toNat]!] (fP (((List.map c45 o4).length+(List.map c45 [es[i3.toNat]!]).length)*(40:Nat)≤(140737488355328:Nat)) (by have:=hl (yes hh2).1;simp only [List.length_map,List.length_cons,List.length_nil];omega) (fM c45 o4 [es[i3.toNat]!] (oV 3 { rows:=some (List.map c45 (o4++[es[i3.toNat]!])) } z0)))))))) ?_
 refine bN<|sn<|rG cx [6,8,24,25,26] [1008] (tW 0 (i3+1) z0)<|sn<|nX ((i3+1,o4++[es[i3.toNat]!])) (show((↑es.length:Int)-(i3+1)).toNat <((↑es.length:Int)-i3).toNat from(by omega)) (show B8m es (Y4 { vec:=[],cloud:=[]:Past } [] rs) (i3+1) (o4++[es[i3.toNat]!])from ?g4);rotate_left
 refine sK<|bN<|sn<|rG cx [6,8,24,25,26] [1008] (tW 0 (i3+1) z0)<|sn<|nX ((i3+1,o4)) (show((↑es.length:Int)-(i3+1)).toNat <((↑es.length:Int)-i3).toNat from(by omega)) (show B8m es (Y4 { vec:=[],cloud:=[]:Past } [] rs) (i3+1) o4 from ?g5);rotate_left
 refine eX 0<|nE<|nE<|bH<|sn<|sq<|rG cx [4,5] [1008] z0<|sn<|rT<|qR (.tup [.sl (List.map c45 o4),.i .i64 ((0:Int))]) (B6.tup (ZLe.cons (B6.eq (show AV.sl (List.map c45 o4)=AV.sl (List.map c45 (N1 es rs).1)from ?g7)) (ZLe.cons (B6.eq (show AV.i .i64 0=AV.i .i64 (N1 es rs).2 from(by unfold N1;rw[if_pos (yes hh2)]))) ZLe.nil)));rotate_left
 case g4 =>
  rw[hf (yes hh2).2]at h11
  refine⟨by omega,by omega,by rw[List.length_append,List.length_singleton];omega,?_⟩
  rw[B4z h6 h10 h9,if_pos h11]
 case g5 =>
  rw[hf (yes hh2).2]at h11
  refine⟨by omega,by omega,by omega,?_⟩
  rw[B4z h6 h10 h9,if_neg h11,List.append_nil]
 case g7 =>
  unfold N1
  rw[if_pos (yes hh2),h9,List.take_of_length_le (by omega),Bn1]
end Go.Proofs.YtaiepnaokhpmcaaGreat
namespace Go.E
def rlo{α:Type}(n:Nat):Result α→Prop
 | .ok _ w=>n≤w.drawn
 | .halt _ w=>n≤w.drawn
def glo(n:Nat):GStep→Prop
 | .go _ w _=>n≤w.drawn
 | .comm _ _ _ _ w _=>n≤w.drawn
 | .spawn _ _ w _=>n≤w.drawn
 | .count _ w _=>n≤w.drawn
 | .timer _ _ w _=>n≤w.drawn
 | .alone _ _ w _=>n≤w.drawn
 | .newcoro _ _ _ w _=>n≤w.drawn
 | .coroswitch _ _ _ w _=>n≤w.drawn
 | .collect _ w _=>n≤w.drawn
 | .watch _ w _=>n≤w.drawn
 | .ended _ _ _=>True
def slo(n:Nat):Stepped→Prop
 | .next m=>n≤m.world.drawn
 | .ended _ _=>True
def mlo(n:Nat):Move→Prop
 | .goroutine m _=>n≤m.world.drawn
 | .machine s _=>slo n s
theorem N2{n k:Nat}(h:n≤k){s:GStep}(hs:glo k s):glo n s:=by
 cases s <;> first | trivial | exact Nat.le_trans h hs
theorem A7s{n k:Nat}(h:n≤k){s:Stepped}(hs:slo k s):slo n s:=by
 cases s <;> first | trivial | exact Nat.le_trans h hs
theorem Ah6{n k:Nat}(h:n≤k){s:Move}(hs:mlo k s):mlo n s:=by
 cases s with
 | goroutine m i=>exact Nat.le_trans h hs
 | machine s ops=>exact A7s h hs
theorem R3(n:Nat)(es:Array Event)(s:GStep):glo n (GStep.after es s)=glo n s:=by cases s <;> rfl
theorem A9h{α:Type}:∀(x:Ask α) (w:World),w.drawn≤(w.ask x).2.drawn
 | .done a,w=>Nat.le_refl _
 | .ask what range k,w=>by
  unfold World.ask
  simp only
  split
  ·exact A9h (k 0) w
  ·exact Nat.le_trans (Nat.le_succ _) (A9h _ { w with drawn:=w.drawn+1 })
theorem Ay1(w:World)(c:Sys):w.drawn≤(w.sys c).2.drawn:=by
 unfold World.sys
 have h:=A9h (Kernel.perform c w.os) w
 split
 ·exact Nat.le_refl _
 ·rename_i heq
  rw[heq]at h
  exact h
theorem B50{p:Program}{w:World}{a k:Addr}{u:TypeId}{v:Value}{t:Bool}{r:World×List Addr}(h:w.viewStore p a u k v t=.ok r):r.1.drawn=w.drawn:=by
 unfold World.viewStore at h
 simp only [bind,Except.bind,pure,Except.pure,throw,throwThe,MonadExceptOf.throw]at h
 repeat' (split at h)
 all_goals first | (cases h;done) | (cases h;rfl) | (injection h with h;subst h;rfl)
theorem Ay2{p:Program}{w w':World}{a:Addr}{v:Value}{t:Bool}{l:List Addr}(h:w.farStore p a v t=.ok (w',l)):w'.drawn=w.drawn:=by
 unfold World.farStore at h
 split at h
 ·split at h
  ·rename_i r heq
   injection h with h
   subst h
   exact B50 heq
  ·cases h
 ·cases h
theorem A60(w:World)(a:Addr)(n:Nat):(w.freeze a n).drawn=w.drawn:=by
 unfold World.freeze
 split <;> rfl
theorem Ay3{α:Type}{n k:Nat}(h:n≤k){r:Result α}(hr:rlo k r):rlo n r:=by cases r <;> exact Nat.le_trans h hr
theorem A9i{α:Type}(p:Program)(s:Sem α):∀ w:World,rlo w.drawn (s.run p w):=by
 induction s with
 | pure a=>intro w;exact Nat.le_refl _
 | load m a k ih =>
  intro w
  unfold Sem.run
  split
  ·exact ih _ w
  ·split
   ·exact ih _ w
   ·exact Nat.le_refl _
 | store m a v k ih =>
  intro w
  have far:rlo w.drawn (match w.cell? a with
   | some _=>if w.frozen? a then Result.halt (.unsupported (.unsafePointer "a write to bytes that a string shares")) w else k.run p (w.setCell a v)
   | none=>match w.farStore p a v (m == .atomic)with
    | .ok (w,_)=>k.run p w
    | .error h=>Result.halt h w):=by
   split
   ·split
    ·exact Nat.le_refl _
    ·exact ih (w.setCell a v)
   ·split
    ·rename_i heq
     have:=ih ‹World›
     have e:=Ay2 heq
     rw[e]at this
     exact this
    ·exact Nat.le_refl _
  cases v <;> first | exact far | exact Nat.le_refl _
 | new o k ih=>intro w;exact ih w.heap.size { w with heap:=w.heap.push o }
 | shape r k ih=>intro w;exact ih _ w
 | freeze a n k ih=>intro w;have:=ih (w.freeze a n);rw[A60]at this;exact this
 | frozen a k ih=>intro w;exact ih _ w
 | getObj r k ih =>
  intro w
  unfold Sem.run
  split
  ·exact Nat.le_refl _
  ·exact ih _ w
  ·exact Nat.le_refl _
 | setObj r o k ih =>
  intro w
  unfold Sem.run
  split
  ·exact Nat.le_refl _
  ·exact ih { w with heap:=w.heap.setIfInBounds r o }
  ·exact Nat.le_refl _
 | choose q k ih =>
  intro w
  unfold Sem.run
  split
  ·exact ih _ w
  ·exact Ay3 (Nat.le_succ _) (ih _ { w with drawn:=w.drawn+1 })
 | sys c k ih=>intro w;exact Ay3 (Ay1 w c) (ih _ (w.sys c).2)
 | program k ih=>intro w;exact ih p w
 | mark m k ih=>intro w;exact ih w
 | halt h=>intro w;exact Nat.le_refl _
theorem M8{α:Type}(p:Program)(s:Sem α):∀(w:World) (es:Array Event),rlo w.drawn (s.runT p w es).1:=by
 induction s with
 | pure a=>intro w es;exact Nat.le_refl _
 | load m a k ih =>
  intro w es
  unfold Sem.runT
  split
  ·exact ih _ w _
  ·split
   ·exact ih _ w _
   ·exact Nat.le_refl _
 | store m a v k ih =>
  intro w es
  have far:rlo w.drawn (match w.cell? a with
   | some _=>if w.frozen? a then((Result.halt (.unsupported (.unsafePointer "a write to bytes that a string shares")) w,es):Result _×Array Event)else k.runT p (w.setCell a v) (es.push (⟨.cell a,true,m == Mode.atomic⟩:Event))
   | none=>match w.farStore p a v (m == Mode.atomic)with
    | .ok (w,touched)=>k.runT p w (es++touched.toArray.map (fun x=>(⟨.cell x,true,m == Mode.atomic⟩:Event)))
    | .error h=>(Result.halt h w,es)).1:=by
   split
   ·split
    ·exact Nat.le_refl _
    ·exact ih (w.setCell a v) _
   ·split
    ·rename_i heq
     have:=ih ‹World› (es++(‹List Addr›).toArray.map (fun x=>(⟨.cell x,true,m == Mode.atomic⟩:Event)))
     have e:=Ay2 heq
     rw[e]at this
     exact this
    ·exact Nat.le_refl _
  cases v <;> first | exact far | exact Nat.le_refl _
 | new o k ih=>intro w es;exact ih w.heap.size { w with heap:=w.heap.push o } es
 | shape r k ih=>intro w es;exact ih _ w es
 | freeze a n k ih=>intro w es;have:=ih (w.freeze a n) es;rw[A60]at this;exact this
 | frozen a k ih=>intro w es;exact ih _ w es
 | getObj r k ih =>
  intro w es
  unfold Sem.runT
  split
  ·exact Nat.le_refl _
  ·exact ih _ w _
  ·exact Nat.le_refl _
 | setObj r o k ih =>
  intro w es
  unfold Sem.runT
  split
  ·exact Nat.le_refl _
  ·exact ih { w with heap:=w.heap.setIfInBounds r o } _
  ·exact Nat.le_refl _
 | choose q k ih =>
  intro w es
  unfold Sem.runT
  split
  ·exact ih _ w es
  ·exact Ay3 (Nat.le_succ _) (ih _ { w with drawn:=w.drawn+1 } es)
 | sys c k ih=>intro w es;exact Ay3 (Ay1 w c) (ih _ (w.sys c).2 _)
 | program k ih=>intro w es;exact ih p w es
 | mark m k ih=>intro w es;exact ih w _
 | halt h=>intro w es;exact Nat.le_refl _
theorem O6{α:Type}{p:Program}{s:Sem α}{w w':World}{a:α}(h:s.run p w=.ok a w'):w.drawn≤w'.drawn:=by have:=A9i p s w;rw[h]at this;exact this
theorem B8p{α:Type}{p:Program}{s:Sem α}{w w':World}{a:Halt}(h:s.run p w=.halt a w'):w.drawn≤w'.drawn:=by have:=A9i p s w;rw[h]at this;exact this
theorem A9j{α:Type}{p:Program}{s:Sem α}{w w':World}{a:α}{es es':Array Event}(h:s.runT p w es=(.ok a w',es')):w.drawn≤w'.drawn:=by have:=M8 p s w es;rw[h]at this;exact this
theorem Ah7{α:Type}{p:Program}{s:Sem α}{w w':World}{a:Halt}{es es':Array Event}(h:s.runT p w es=(.halt a w',es')):w.drawn≤w'.drawn:=by have:=M8 p s w es;rw[h]at this;exact this
theorem Y6{α:Type}{p:Program}{s:Sem α}{w w':World}{a:α}{es:Array Event}(h:(s.runT p w es).1=.ok a w'):w.drawn≤w'.drawn:=by have:=M8 p s w es;rw[h]at this;exact this
theorem B1c{α:Type}{p:Program}{s:Sem α}{w w':World}{a:Halt}{es:Array Event}(h:(s.runT p w es).1=.halt a w'):w.drawn≤w'.drawn:=by have:=M8 p s w es;rw[h]at this;exact this
theorem A61{α:Type}{o:Option α}{n:Nat}{a:GStep}{f:α→GStep}(h:glo n a)(hf:∀ x,glo n (f x)):glo n (o.elim a f):=by cases o <;> first | exact h | exact hf _
theorem A9k{n:Nat}{es:Array Event}{s:GStep}(h:glo n s):glo n (GStep.after es s):=by rw[R3];exact h
theorem L6(p:Program)(main:Bool)(fr:Frame)(cs:List Frame)(d:Option Dying)(v:Value)(w:World):glo w.drawn (doReturn p main fr cs d v w):=by
 unfold doReturn
 repeat' split
 all_goals first | trivial | exact Nat.le_refl _
theorem B8q(fr:Frame)(l:List ByteArray)(m:String)(b:Bool)(w:World):glo w.drawn (dieOf fr l m b w):=Nat.le_refl _
theorem N8(fr:Frame)(m:String)(w:World):glo w.drawn (endThrow fr m w):=Nat.le_refl _
theorem B1d(n:Nat)(w:World)(fd:Nat)(t:ByteArray)(o:Outcome):glo n (endWith w fd t o):=by
 unfold endWith
 simp only
 repeat' split
 all_goals trivial
theorem A1b(p:Program)(fr:Frame)(v:Value)(w:World):glo w.drawn (endPrinting p fr v w):=by
 unfold endPrinting
 simp only
 split
 ·exact N8 _ _ _
 ·trivial
theorem A62(p:Program)(fr:Frame)(cs:List Frame)(d:Option Dying)(m:String)(w:World):glo w.drawn (endFatal p fr cs d m w):=by
 unfold endFatal
 simp only
 split
 ·rename_i h
  exact N2 (O6 h) (B8q _ _ _ _ _)
 ·trivial
 ·trivial
theorem B1e(p:Program)(fr:Frame)(d:Dying)(f:Fatal)(w:World):glo w.drawn (writeOn p fr d f w):=by
 unfold writeOn
 simp only
 split
 ·trivial
 ·split
  ·rename_i h;exact A9j h
  ·rename_i h;exact Ah7 h
  ·trivial
  ·trivial
theorem die_lo(p:Program)(fr:Frame)(d:Dying)(w:World):glo w.drawn (die p fr d w):=by
 unfold die
 split
 ·exact B1e _ _ _ _ _
 ·split
  ·split
   ·exact Nat.le_refl _
   ·exact B1d _ _ _ _ _
  ·simp only
   split
   ·exact Nat.le_refl _
   ·split
    ·rename_i h;exact O6 h
    ·trivial
   ·rw[R3]
    have h:=M8 p (invoke (.fn (.method ‹String›) #[]) #[.iface ‹TypeId› ‹Value›]) w #[]
    split <;> first | trivial | (rename_i k;rw[k]at h;first | exact h | exact N2 h (A1b _ _ _ _))
   ·trivial
theorem A63(p:Program)(fr:Frame)(cs:List Frame)(dy:Option Dying)(d:Deferred)(w:World):glo w.drawn (callDeferred p fr cs dy d w):=by
 unfold callDeferred
 by_cases hc:((match d.target with | .nil=>true | _=>false) && (match fr.mode with | .panicking _=>true | _=>false))=true
 ·exact(congrArg (glo w.drawn) (if_pos hc)).mpr trivial
 ·refine(congrArg (glo w.drawn) (if_neg hc)).mpr ?_
  simp only [R3]
  have h:=M8 p (invoke d.target d.args) w #[]
  generalize (invoke d.target d.args).runT p w #[]=r at h ⊢
  obtain⟨r,es⟩:=r
  simp only at h ⊢
  cases r with
  | ok a w' =>
   have h:w.drawn≤w'.drawn:=h
   cases a with
   | coroswitch c b=>cases b <;> first | trivial | exact h
   | alone b v=>cases b <;> first | trivial | exact h
   | _=>(try simp only) <;>(repeat' split) <;> first | trivial | exact h
  | halt e w' =>
   have h:w.drawn≤w'.drawn:=h
   cases e <;>(try simp only) <;>(repeat' split) <;> first | trivial | exact h | exact N2 h (A62 _ _ _ _ _ _) | exact N2 h (N8 _ _ _)
theorem B51(p:Program)(main:Bool)(fr:Frame)(cs:List Frame)(d:Option Dying)(w:World):glo w.drawn (unwind p main fr cs d w):=by
 unfold unwind
 split
 ·simp only [R3]
  split
  ·rename_i h
   have:=M8 p (Instr.takeDeferred ‹Nat›) w #[]
   rw[h]at this
   exact this
  ·trivial
 ·exact A63 _ _ _ _ _ _
 ·split
  ·trivial
  ·split
   ·trivial
   ·split
    ·exact Nat.le_refl _
    ·split
     ·split
      ·exact Nat.le_refl _
      ·split
       ·rename_i h;exact O6 h
       ·trivial
       ·trivial
     ·split
      ·exact A1b _ _ _ _
      ·trivial
  ·split
   ·exact L6 _ _ _ _ _ _ _
   ·simp only [R3]
    rename_i fn hfn
    have h:=M8 p (results fn fr.tmps) w #[]
    split <;> first | trivial | (rename_i k;rw[k]at h;exact N2 h (L6 _ _ _ _ _ _ _))
theorem B8r(p:Program)(fr:Frame)(cs:List Frame)(d:Option Dying)(g:Nat)(w:World):glo w.drawn (early p fr cs d g w):=by
 have nt:∀ w:World,glo w.drawn (match w.heap[g]? with
   | some (.pending c elem)=>GStep.go { frame:=fr,callers:=cs,status:=.running,dying:=d } { w with heap:=w.heap.setIfInBounds g (.cells c elem) }
   | _=>.ended (.stuck "early: the variable does not wait" (fr.pos p)) w):=by
  intro w
  split
  ·exact Nat.le_refl _
  ·trivial
 unfold early
 simp only
 split
 ·exact nt w
 ·split
  ·trivial
  ·split
   ·exact nt w
   ·split
    ·exact nt w
    ·split
     ·trivial
     ·exact Nat.le_refl _
     ·trivial
     ·exact nt w
     ·split
      ·exact Nat.le_refl _
      ·split
       ·exact nt w
       ·split
        ·rename_i h;exact N2 (O6 h) (nt _)
        ·rename_i h;exact O6 h
        ·trivial
theorem Y7(p:Program)(listen:Bool)(fr:Frame)(cs:List Frame)(d:Option Dying)(s:Sem Next)(w:World):glo w.drawn (stepG.apply p listen fr cs d s w):=by
 unfold stepG.apply
 simp only [R3]
 have h:rlo w.drawn (if listen=true then s.runT p w #[]else(s.run p w,#[])).1:=by
  split
  ·exact M8 p s w #[]
  ·exact A9i p s w
 generalize (if listen=true then s.runT p w #[]else(s.run p w,#[]))=r at h ⊢
 obtain⟨r,es⟩:=r
 simp only at h ⊢
 cases r with
 | halt hh w' =>
  cases hh with
  | unsupported u=>cases u <;> first | trivial | exact N2 h (B8r _ _ _ _ _ _)
  | _=>(try simp only) <;> first | trivial | exact h | exact N2 h (A62 _ _ _ _ _ _) | exact N2 h (N8 _ _ _)
 | ok a w' =>
  cases a <;>(try simp only) <;>(repeat' split) <;> first
   | trivial
   | exact h
   | exact N2 h (N8 _ _ _)
theorem Bn2(p:Program)(listen:Bool)(fr:Frame)(cs:List Frame)(d:Option Dying)(w:World):glo w.drawn (stepG.oper p listen fr cs d w):=by
 unfold stepG.oper
 split
 ·trivial
 ·split
  ·exact Y7 _ _ _ _ _ _ _
  ·exact Y7 _ _ _ _ _ _ _
theorem Bn3(p:Program)(main listen:Bool)(fr:Frame)(cs:List Frame)(d:Option Dying)(w:World):glo w.drawn (stepG.exec p main listen fr cs d w):=by
 unfold stepG.exec
 simp only [R3]
 repeat' split
 all_goals first
  | trivial
  | exact Nat.le_refl _
  | exact Y7 _ _ _ _ _ _ _
  | exact Bn2 _ _ _ _ _ _
  | exact O6 ‹_›
  | exact A9j ‹_›
  | exact Ah7 ‹_›
  | exact N2 (A9j ‹_›) (L6 _ _ _ _ _ _ _)
  | exact N2 (A9j ‹_›) (Y7 _ _ _ _ _ _ _)
  | exact Y6 ‹_›
  | exact B1c ‹_›
  | exact N2 (Y6 ‹_›) (L6 _ _ _ _ _ _ _)
  | exact A9k (N2 (Y6 ‹_›) (L6 _ _ _ _ _ _ _))
  | exact N2 (Y6 ‹_›) (Y7 _ _ _ _ _ _ _)
  | exact A61 trivial (fun _=>Nat.le_refl _)
  | exact A61 (Nat.le_refl _) (fun _=>Nat.le_refl _)
  | exact A61 trivial (fun _=>Y7 _ _ _ _ _ _ _)
  | exact A61 (A9k (N2 (Y6 ‹_›) (L6 _ _ _ _ _ _ _))) (fun _=>Nat.le_refl _)
  | exact A61 (N2 (Y6 ‹_›) (L6 _ _ _ _ _ _ _)) (fun _=>Nat.le_refl _)
  | exact A9k (N2 (Y6 ‹_›) (Y7 _ _ _ _ _ _ _))
theorem B8s(p:Program)(main:Bool)(g:Goroutine)(w:World)(listen:Bool):glo w.drawn (stepG p main g w listen):=by
 unfold stepG
 simp only
 split
 ·exact die_lo _ _ _ _
 ·exact Bn3 _ _ _ _ _ _ _
 ·exact B51 _ _ _ _ _ _
theorem B1f{rest:Rest}{cases:Array CommCase}{w w':World}(h:waitingAt rest cases w=some w'):w'.drawn=w.drawn:=by
 unfold waitingAt at h
 split at h
 ·split at h
  ·injection h with h;subst h;rfl
  ·cases h
 ·injection h with h;subst h;rfl
theorem Bn4(p:Program)(rest:Rest)(gs:Array Goroutine)(i:Nat)(g:Goroutine)(cases:Array CommCase)(b:Bool)(shape:CommShape)(w:World):slo w.drawn (communicate p rest gs i g cases b shape w).1:=by
 unfold communicate
 simp only
 split
 ·trivial
 ·split
  ·split
   ·split
    ·rename_i h;have:=B1f h;exact Nat.le_of_eq this.symm
    ·trivial
   ·exact Nat.le_refl _
  ·split
   ·trivial
   ·rename_i h
    have h1:=O6 h
    split
    ·split <;> first | trivial | (rename_i h2;have h3:=B8p h2;exact Nat.le_trans h1 h3)
    ·exact h1
    ·exact h1
    ·split
     ·exact h1
     ·split <;> first | trivial | (rename_i h2;have h3:=O6 h2;exact Nat.le_trans h1 h3)
    ·exact h1
    ·exact h1
    ·trivial
theorem B52(p:Program)(gs:Array Goroutine)(rest:Rest)(w:World):slo w.drawn (Go.look p gs rest w):=by
 unfold Go.look
 split
 ·simp only
  split
  ·trivial
  ·split
   ·trivial
   ·split <;> first | trivial | (rename_i h2;have h3:=O6 h2;exact h3)
 ·trivial
theorem B8t(w:World)(c:Nat):(drain w c).2.drawn=w.drawn:=by
 unfold drain
 split <;> rfl
theorem Ah8(m:Machine)(k:Nat)(t:Timer)(a b:Nat):(retime m k t a b).2.world.drawn=m.world.drawn:=by
 unfold retime
 simp only
 split
 ·exact B8t _ _
 ·rfl
theorem Ay4{m:Machine}{var:Addr}{f:Nat→Timer→Value×Machine}{v:Value}{m':Machine}{n:Nat}(hf:∀ k t,(f k t).2.world.drawn=n)(h:timerOp.named m var f=.ok (v,m')):m'.world.drawn=n:=by
 unfold timerOp.named at h
 split at h
 ·injection h with h
  have:=hf ‹Nat› (m.rest.timers.getD ‹Nat› default)
  rw[h]at this
  exact this
 ·cases h
theorem B53{m m':Machine}{var:Addr}(h:timerOp.opened m var=some m'):m'.world.drawn=m.world.drawn:=by
 unfold timerOp.opened at h
 split at h
 ·split at h
  ·injection h with h;subst h;rfl
  ·cases h
 ·injection h with h;subst h;rfl
theorem B1g{m m':Machine}{op:TimerOp}{v:Value}(h:timerOp m op=.ok (v,m')):m'.world.drawn=m.world.drawn:=by
 unfold timerOp at h
 split at h
 ·split at h
  ·injection h with h;injection h with _ h;subst h;rfl
  ·split at h
   ·split at h
    ·cases h
    ·injection h with h;injection h with _ h;subst h;rfl
   ·cases h
 ·exact Ay4 (fun k t=>Ah8 _ _ _ _ _) h
 ·split at h
  ·rename_i h2
   rw[← B53 h2]
   exact Ay4 (fun k t=>Ah8 _ _ _ _ _) h
  ·cases h
 ·injection h with h;injection h with _ h;subst h;rfl
theorem B8u(p:Program)(m:Machine)(k:Nat):slo m.world.drawn (serve p m k):=by
 unfold serve
 split
 ·trivial
 ·exact Nat.le_refl _
 ·simp only
  split
  ·trivial
  ·exact Nat.le_refl _
theorem Bn5(p:Program)(m:Machine)(i:Nat)(listen:Bool):slo m.world.drawn (Go.runT p m i listen).1:=by
 unfold Go.runT
 simp only
 have h:=B8s p (i == 0) (m.gs.swapAt! i { (default:Goroutine)with status:=.finished }).1 m.world listen
 generalize stepG p (i == 0) (m.gs.swapAt! i { (default:Goroutine)with status:=.finished }).1 m.world listen=s at h ⊢
 cases s with
 | ended o w=>trivial
 | comm g cases b shape w=>exact A7s h (Bn4 _ _ _ _ _ _ _ _ _)
 | go g w=>exact h
 | spawn g c w=>exact h
 | count g w =>
  simp only
  split
  ·trivial
  ·exact h
 | alone g on w=>exact h
 | collect g w=>exact A7s h (B52 _ _ _ _)
 | watch g w=>exact h
 | newcoro g c d w=>exact h
 | coroswitch g c e w =>
  simp only
  split
  ·exact h
  ·split
   ·rename_i k
    have:=N8 g.frame "coroswitch on exited coro" w
    rw[k]at this
    exact Nat.le_trans h this
   ·trivial
  ·trivial
 | timer g op w =>
  simp only
  split
  ·rename_i k
   have:=B1g k
   exact Nat.le_trans h (Nat.le_of_eq this.symm)
  ·split
   ·rename_i k
    have:=N8 g.frame ‹String› w
    rw[k]at this
    exact Nat.le_trans h this
   ·trivial
  ·trivial
  ·trivial
theorem Aq1 (p : Program) (rs : List Nat) (m : Machine) : mlo m.world.drawn (match (choose (.sched rs.length) : Sem Nat).run p m.world with
      | .halt _ w=>Move.machine (.ended (.stuck "sched" "") w)
      | .ok k world =>
        if rs.length≤1 then .goroutine { m with world } (rs.getD k 0)else
        match (choose (.extern "sched.slice" 65536):Sem Nat).run p world with
        | .halt _ w=>.machine (.ended (.stuck "sched.slice" "") w)
        | .ok n world => .goroutine { m with world, rest := { m.rest with slice := if n = 0 then none else some (rs.getD k 0, n) } } (rs.getD k 0)) := by
  split
  · trivial
  · rename_i h
    have h1:=O6 h
    split
    · exact h1
    · split
      · trivial
      · rename_i h2
        have h3:=O6 h2
        exact Nat.le_trans h1 h3
theorem adv_lo{m:Machine}{t:Nat}{s:Move}(h:mlo (m.advanceTo t).world.drawn s):mlo m.world.drawn s:=h
theorem A9l(p:Program)(m:Machine):mlo m.world.drawn (askOn p m):=by
 unfold askOn
 simp only
 split
 ·trivial
 ·rename_i h
  have h1:=O6 h
  split
  ·exact A7s h1 (B8u p { m with world:=‹World› } _)
  ·split
   ·split
    ·exact h1
    ·split
     ·exact h1
     ·split <;> trivial
   ·split
    ·exact Ah6 h1 (Aq1 p _ { m with world:=‹World› })
    ·split
     ·trivial
     ·rename_i h2
      have h3:=O6 h2
      exact Ah6 (Nat.le_trans h1 h3) (Aq1 p _ { m with world:=‹World› })
     ·rename_i h2
      have h3:=O6 h2
      exact Nat.le_trans h1 h3
     ·rename_i h2
      have h3:=O6 h2
      exact Ah6 (Nat.le_trans h1 h3) (adv_lo (Aq1 p _ _))
theorem Bd2(p:Program)(m:Machine):mlo m.world.drawn (ask p m):=by
 unfold ask
 split
 ·split
  ·trivial
  ·rename_i h
   have h1:=O6 h
   have h2:=B52 p m.gs m.rest ‹World›
   split
   ·rename_i k
    rw[k]at h2
    exact Ah6 (Nat.le_trans h1 h2) (A9l _ _)
   ·exact A7s h1 h2
  ·rename_i h
   exact Ah6 (O6 h) (A9l p { m with world:=‹World› })
 ·exact A9l _ _
theorem Bn6(p:Program)(m:Machine):mlo m.world.drawn (move p m):=by
 unfold move
 split
 ·split
  ·exact Nat.le_refl _
  ·trivial
 ·split
  ·split
   ·exact Nat.le_refl _
   ·exact Bd2 p { m with rest:={ m.rest with slice:=none } }
  ·exact Bd2 _ _
theorem Bn7(p:Program)(m:Machine):slo m.world.drawn (step p m):=by
 unfold step stepT
 have h:=Bn6 p m
 split
 ·rename_i k;rw[k]at h;exact A7s h (Bn5 _ _ _ _)
 ·rename_i k;rw[k]at h;exact h
theorem Ay5{p:Program}{m m':Machine}(h:Steps p m m'):m.world.drawn≤m'.world.drawn:=by
 obtain⟨n,h⟩:=h
 induction n generalizing m with
 | zero=>simp only [runN]at h;injection h with h;subst h;exact Nat.le_refl _
 | succ n ih =>
  simp only [runN]at h
  have h1:=Bn7 p m
  split at h
  ·rename_i k;rw[k]at h1;exact Nat.le_trans h1 (ih h)
  ·rename_i k;rw[h]at k;exact absurd rfl (k _)
theorem B8v{P:Program}{f:FuncId}{args:Array Value}{w:World}{R:Ending→World→Prop}(hR:∀ w',¬ R .outgrown w')(h:Calls P f args w R):Calls P f args w fun e w'=>R e w'∧w.drawn≤w'.drawn:=by
 intro cs
 obtain⟨e,w',fr,h1,h2,h3,h4⟩:=h cs
 refine⟨e,w',fr,⟨h1,?_⟩,h2,h3,h4⟩
 cases e with
 | returned v=>exact Ay5 h2
 | panicked c=>exact Ay5 h2
 | outgrown=>exact absurd h1 (hR _)
end Go.E
namespace Go.E
open Go Go.Sort Go.RowKit Go.Lib Go.Shelf Go.Proofs
structure TotC {β:Type} (c:β→β→Int):Prop where
 neg:∀ x y,c x y < 0↔0 < c y x
 tr:∀ x y z,c x y≤0→c y z≤0→c x z≤0
 anti:∀ x y,c x y=0→x=y
theorem TotC.self{β:Type}{c:β→β→Int}(h:TotC c)(x:β):c x x=0:=by
 have:=h.neg x x
 omega
theorem TotC.swo{β:Type}{c:β→β→Int}(h:TotC c):SWO (ltOf c):=by
 refine⟨fun x=>?_,fun x y z h1 h2=>?_,fun x y z h1 h2=>?_⟩
 ·unfold ltOf
  rw[decide_eq_false_iff_not,h.self x]
  omega
 ·unfold ltOf at *
  rw[decide_eq_true_iff]at *
  have h3:=h.tr x y z (by omega) (by omega)
  apply Classical.byContradiction
  intro h4
  have e:=h.anti x z (by omega)
  subst e
  have:=(h.neg x y).1 h1
  omega
 ·unfold ltOf at *
  rw[decide_eq_false_iff_not]at *
  have a1:=h.neg x y
  have a2:=h.neg y z
  have a3:=h.neg x z
  have b1:=h.neg y x
  have b2:=h.neg z y
  have b3:=h.neg z x
  have:=h.tr z y x (by omega) (by omega)
  omega
def B8w{β:Type}(c:β→β→Int)(l:List β):List β:=l.mergeSort (fun x y=>decide (c x y≤0))
def risO{β:Type}(c:β→β→Int)(l:List β):Prop:=l.Pairwise fun x y=>c x y≤0
theorem R4{β:Type}(c:β→β→Int)(l:List β):(B8w c l).Perm l:=List.mergeSort_perm _ _
theorem Ay6{β:Type}{c:β→β→Int}(h:TotC c)(l:List β):risO c (B8w c l):=by
 have:=List.pairwise_mergeSort (le:=fun x y=>decide (c x y≤0)) (fun x y z h1 h2=>by
  rw[decide_eq_true_iff]at *
  exact h.tr x y z h1 h2) (fun x y=>by
  rw[Bool.or_eq_true,decide_eq_true_iff,decide_eq_true_iff]
  have:=h.neg x y
  have:=h.neg y x
  omega) l
 exact this.imp fun h=>of_decide_eq_true h
theorem Bn8{β:Type}{c:β→β→Int}(h:TotC c){a b:List β}(hp:a.Perm b)(ha:risO c a)(hb:risO c b):a=b :=
 List.Perm.eq_of_pairwise (le:=fun x y=>c x y≤0) (fun x y _ _ h1 h2=>by
  apply h.anti
  have:=h.neg x y
  have:=h.neg y x
  omega) ha hb hp
theorem Bn9{β:Type}{c:β→β→Int}(h:TotC c){a l:List β}(hp:a.Perm l)(ha:risO c a):a=B8w c l:=Bn8 h (hp.trans (R4 c l).symm) ha (Ay6 h l)
section
variable {P : Program} {ρ : Ren} {β : Type} {enc : β → List AV} {k : Nat} {S : Nat → Prop} {w : World}
structure Cel (enc:β→List AV) (k:Nat) (S:Nat→Prop) (w:World) where
 el:β
 vs:List Value
 len:vs.length=k
 one:∀ u∈vs,u.oneCell'=true
 rel:∀(j:Nat) (a:AV) (u:Value),(enc el)[j]?=some a→vs[j]?=some u→RelV0 S w a u
theorem cels(hk:∀ x,(enc x).length=k):∀(l:List β) (xs:List Value),xs.length=l.length*k→(∀ u∈xs,u.oneCell'=true) →
  (∀(j:Nat) (a:AV) (u:Value),(l.map enc).flatten[j]?=some a→xs[j]?=some u→RelV0 S w a u) →
  ∃ ds:List (Cel enc k S w),ds.map Cel.el=l∧(ds.map Cel.vs).flatten=xs
 | [],xs,h,_,_=>⟨[],rfl,(List.eq_nil_of_length_eq_zero (by simpa using h)).symm⟩
 | x :: l,xs,h,h1,h2=>by
  rw[List.length_cons,Nat.succ_mul]at h
  obtain⟨ds,e1,e2⟩:=cels hk l (xs.drop k) (by rw[List.length_drop];omega) (fun u hu=>h1 u (List.mem_of_mem_drop hu)) (fun j a u ha hu=>by
   refine h2 (k+j) a u ?_ (by rw[List.getElem?_drop]at hu;exact hu)
   rw[List.map_cons,List.flatten_cons,List.getElem?_append_right (by rw[hk];omega),hk,Nat.add_sub_cancel_left]
   exact ha)
  refine⟨⟨x,xs.take k,by rw[List.length_take];omega,fun u hu=>h1 u (List.mem_of_mem_take hu),fun j a u ha hu=>?_⟩ :: ds,by rw[List.map_cons,e1],by rw[List.map_cons,List.flatten_cons,e2];exact List.take_append_drop k xs⟩
  have hj:j < k:=by
   have:=(List.getElem?_eq_some_iff.1 ha).1
   rwa [hk]at this
  refine h2 j a u ?_ (by rw[List.getElem?_take,if_pos hj]at hu;exact hu)
  rw[List.map_cons,List.flatten_cons,List.getElem?_append_left (by rw[hk];exact hj)]
  exact ha
theorem A9m{W W':World}(hb:Below W.heap.size W W')(hd:W.drawn≤W'.drawn):∃ q os,W'=grow (W.drewN q) os:=by
 refine⟨W'.drawn-W.drawn,W'.heap.extract W.heap.size W'.heap.size,?_⟩
 have hh:W'.heap=W.heap++W'.heap.extract W.heap.size W'.heap.size:=by
  apply Array.ext'
  rw[Array.toList_append,Array.toList_extract]
  apply List.ext_getElem?
  intro i
  by_cases hi:i < W.heap.size
  ·rw[List.getElem?_append_left (by simpa using hi)]
   have:=hb.block i hi
   simpa using this
  ·rw[List.getElem?_append_right (by simpa using hi)]
   simp only [List.extract,Array.length_toList,List.getElem?_take,List.getElem?_drop]
   have hs:=hb.size
   have e2:W.heap.size+(i-W.heap.size)=i:=by omega
   rw[e2]
   split
   ·rfl
   ·rw[List.getElem?_eq_none (by simp;omega)]
 have h1:=hb.os
 have h2:=hb.tape
 have h3:=hb.output
 have h4:W.drawn+(W'.drawn-W.drawn)=W'.drawn:=by omega
 cases W' with
 | mk heap tape drawn os output =>
  simp only [World.drewN,grow]at *
  subst h1 h2 h3
  rw[← hh,h4]
set_option maxHeartbeats 1000000 in
/-- slices.SortFunc at a row of one's own whose cells lead on. -/
theorem B1h (L:SlLaysF0.n6 P ρ) (hcal:E4 P (ρ.f 6)) (g ty:Nat) (eg:∀ args w,(callFunc g args).run P w=.ok (.enter g args) w)
  (aE:∀ w,(isAgg (ρ.t 24)).run P w=.ok true w) (zE:∀ w,(Go.sizeOf (ρ.t 24)).run P w=.ok k w) (hk:∀ x,(enc x).length=k) (cf:β→β→Int) (hO:TotC cf)
  (hcon:∀ x y:β,Con P g [.agg (enc x),.agg (enc y)] (.i .i64 (cf x y))) (l:List β) (hlen:l.length < 4611686018427387904) :
  Z1 P (ρ.f 6) g none false ty k (l.map enc) ((B8w cf l).map enc):=by
 have hsz:∀ m:List β,∀ r∈m.map enc,r.length=k:=fun m r hr=>by obtain⟨x,_,rfl⟩:=List.mem_map.1 hr;exact hk x
 refine⟨hcal,by rw[List.length_map,List.length_map,(R4 cf l).length_eq],hsz _,fun w base v cv S xs hS hb ho hx1 hxr _=>?_⟩
 rw[List.length_map]at ho ⊢
 simp only [Bool.false_eq_true,if_false,B20]
 obtain⟨ds,e1,e2⟩:=cels (S:=S) (w:=w) hk l xs ho.1 hx1 hxr
 have hl:ds.length=l.length:=by rw[← e1,List.length_map]
 rcases ho.2 with⟨rfl,h0⟩ | ⟨b,cap,cur,rfl,hb',hh,h1,h2,h3,h4⟩
 ·have:l=[]:=List.eq_nil_of_length_eq_zero h0
  subst this
  refine(AnyF.slices_SortFunc_none (P:=P) (ρ:=ρ) L none 0 _ w).mono ?_
  rintro e' w' ⟨rfl,rfl⟩
  have e0:B8w cf ([]:List β)=[]:=List.eq_nil_of_length_eq_zero (by rw[(R4 cf []).length_eq];rfl)
  rw[e0]
  exact⟨rfl,[],⟨by simp,.inl ⟨rfl,rfl⟩⟩,fun u hu=>by simp at hu,fun j a u ha hu=>by simp at hu,fun j _ _=>rfl,rfl,rfl,rfl,Nat.le_refl _⟩
 ·have hbl:b < w.heap.size:=(Array.getElem?_eq_some_iff.1 hh).1
  by_cases hn:l.length=0
  ·have:l=[]:=List.eq_nil_of_length_eq_zero hn
   subst this
   refine(AnyF.slices_SortFunc_none (P:=P) (ρ:=ρ) L (some ⟨b,0,none⟩) cap _ w).mono ?_
   rintro e' w' ⟨rfl,rfl⟩
   have e0:B8w cf ([]:List β)=[]:=List.eq_nil_of_length_eq_zero (by rw[(R4 cf []).length_eq];rfl)
   rw[e0]
   have hxs:xs=[]:=List.eq_nil_of_length_eq_zero (by simpa using ho.1)
   subst hxs
   exact⟨rfl,[],ho,fun u hu=>by simp at hu,fun j a u ha hu=>by simp at hu,fun j _ _=>rfl,rfl,rfl,rfl,Nat.le_refl _⟩
  ·haveI:Inhabited (Cel enc k S w):=⟨ds[0]'(by omega)⟩
   have hvk:∀ x:Cel enc k S w,x.vs.length=k:=fun x=>x.len
   have hv1:∀ x:Cel enc k S w,∀ v∈x.vs,v.oneCell'=true:=fun x=>x.one
   rw[← e2]at ho
   have hnb:∀ j,S j→j≠b:=fun j hj e=>hb j (by rw[e];rfl) hj
   have hHd:HoldsK Cel.vs k w b 0 ds.toArray:=P8 hvk ho (by simp [hl]) (by simp)
   have hSW:SWO (ltOf fun x y:Cel enc k S w=>cf x.el y.el):=⟨fun x=>hO.swo.irrefl _,fun x y z=>hO.swo.trans _ _ _,fun x y z=>hO.swo.ntrans _ _ _⟩
   have hcmp:CmpLays P g #[] Cel.vs k (fun x y:Cel enc k S w=>cf x.el y.el) b 0 ds.toArray.size w:=by
    intro m os dk hs x y
    have hF:Fam Cel.vs k b 0 w dk (sortWorldK Cel.vs k w b 0 m dk os):=⟨w.drawn+m,os,rfl⟩
    have hf:=hF.facts
    have hkeep:∀ j,S j→(sortWorldK Cel.vs k w b 0 m dk os).heap[j]?=w.heap[j]?:=fun j hj=>hf.2.2.2 j (hS j hj) (hnb j hj)
    have hc:=(hcon x.el y.el).2 (sortWorldK Cel.vs k w b 0 m dk os) S [.agg x.vs.toArray,.agg y.vs.toArray] (fun j hj=>Nat.lt_of_lt_of_le (hS j hj) hF.size) rfl (fun j a u ha hu=>by
     match j with
     | 0 =>
      simp only [List.getElem?_cons_zero,Option.some.injEq]at ha hu
      subst ha hu
      refine RelV0.agg _ _ (by rw[hvk,hk]) (hv1 x) fun j a u ha hu=>(x.rel j a u ha hu).mono (fun _ h=>h) hkeep
     | 1 =>
      simp only [List.getElem?_cons_succ,List.getElem?_cons_zero,Option.some.injEq]at ha hu
      subst ha hu
      refine RelV0.agg _ _ (by rw[hvk,hk]) (hv1 y) fun j a u ha hu=>(y.rel j a u ha hu).mono (fun _ h=>h) hkeep
     | n+2=>simp at ha)
    refine(B8v (fun w' h=>by obtain⟨v,hv,_⟩:=h;cases hv) hc).mono ?_
    rintro e' w' ⟨⟨v,rfl,hr,hbel⟩,hd⟩
    refine⟨?_,A9m hbel hd⟩
    cases hr
    rfl
   have hw:=AnyQ.slices_SortFunc (P:=P) (ρ:=ρ) L k aE zE Cel.vs hvk hv1 (fun x y:Cel enc k S w=>cf x.el y.el) hSW g #[] b 0 cap ds.toArray w eg hcmp hHd hbl (by simpa [hl]using hlen)
   have hsize:ds.toArray.size=l.length:=by simp [hl]
   rw[hsize]at hw
   refine hw.mono ?_
   rintro e' w' ⟨rfl,d',n,os,hper,hsor,hw'⟩
   have hF:Fam Cel.vs k b 0 w d' w':=⟨w.drawn+n,os,by rw[hw'];rfl⟩
   have f:=hF.facts
   obtain⟨hsz',_,hp⟩:=hper
   have e3:d'.extract 0 l.length=d':=by rw[← hsize,← hsz'];exact Array.extract_size
   have e4:ds.toArray.extract 0 l.length=ds.toArray:=by rw[← hsize];exact Array.extract_size
   rw[e3,e4]at hp
   have hpl:d'.toList.Perm ds:=by
    simpa using hp
   have hel:d'.toList.map Cel.el=B8w cf l:=by
    refine Bn9 hO ?_ ?_
    ·have:=hpl.map Cel.el
     rwa [e1]at this
    ·unfold risO
     rw[List.pairwise_map,List.pairwise_iff_getElem]
     intro i j hi hj hij
     rw[Array.length_toList]at hi hj
     have:=hsor i j (Nat.zero_le _) hij (by rw[hsz']at hj;simpa [hl]using hj)
     unfold ltOf at this
     rw[decide_eq_false_iff_not,getElem!_pos _ j hj,getElem!_pos _ i hi]at this
     rw[Array.getElem_toList,Array.getElem_toList]
     have this:¬ cf d'[j].el d'[i].el < 0:=this
     have a1:=hO.neg d'[j].el d'[i].el
     have a2:=hO.neg d'[i].el d'[j].el
     omega
   have ow:=hF.owns (d:=ds.toArray) hvk (by rw[hsz']) (by simp) (by simp [hl]) ho
   refine⟨rfl,(d'.toList.map Cel.vs).flatten,ow,fun u hu=>?_,fun j a u ha hu=>?_,fun j hj hjb=>f.2.2.2 j hj (fun e=>hjb (by rw[e];rfl)),f.1,f.2.1,f.2.2.1,hF.size⟩
   ·obtain⟨r,hr,hu⟩:=List.mem_flatten.1 hu
    obtain⟨x,_,rfl⟩:=List.mem_map.1 hr
    exact hv1 x u hu
   ·rw[← hel,List.map_map]at ha
    have hj:=(List.getElem?_eq_some_iff.1 hu).1
    rw[C5 (sz:=k) (fun r hr=>by obtain⟨x,_,rfl⟩:=List.mem_map.1 hr;exact hvk x),List.length_map]at hj
    have k0:0 < k:=Nat.pos_of_ne_zero fun h=>by
     have:d'.toList.length*k=0:=Nat.mul_eq_zero.2 (.inr h)
     omega
    have hq:j % k < k:=Nat.mod_lt _ k0
    have hi:j / k < d'.toList.length:=(Nat.div_lt_iff_lt_mul k0).2 hj
    have ej:j / k*k+j % k=j:=by rw[Nat.mul_comm];exact Nat.div_add_mod j k
    have g1:=F8 (sz:=k) (rows:=d'.toList.map Cel.vs) (fun r hr=>by obtain⟨x,_,rfl⟩:=List.mem_map.1 hr;exact hvk x) (j:=j / k) (q:=j % k) (r:=(d'.toList[j / k]).vs) (by rw[List.getElem?_map,List.getElem?_eq_getElem hi];rfl) hq
    have g2:=F8 (sz:=k) (rows:=d'.toList.map (enc ∘ Cel.el)) (fun r hr=>by obtain⟨x,_,rfl⟩:=List.mem_map.1 hr;exact hk _) (j:=j / k) (q:=j % k) (r:=enc (d'.toList[j / k]).el) (by rw[List.getElem?_map,List.getElem?_eq_getElem hi];rfl) hq
    rw[ej]at g1 g2
    rw[g1]at hu
    rw[g2]at ha
    exact((d'.toList[j / k]).rel _ _ _ ha hu).mono (fun _ h=>h) (fun q hq=>f.2.2.2 q (hS q hq) (hnb q hq))
end
end Go.E
namespace Go.Proofs.YtaiepnaokhpmcaaGreat
open Go.E
set_option maxRecDepth 100000
set_option maxHeartbeats 4000000
def A9n{α:Type}(p:α→α→Bool):α→List α→List α
 | _,[]=>[]
 | a,b :: l=>if p b a then A9n p b l else b :: A9n p b l
def A6v{α:Type}(p:α→α→Bool):List α→List α
 | []=>[]
 | a :: l=>a :: A9n p a l
theorem Ay7{α:Type}(p:α→α→Bool)(x:α):∀(t:List α) (a:α),A9n p a (t++[x])=A9n p a t++(if p x ((a :: t).getLast (by simp))then[]else[x])
 | [],a=>rfl
 | b :: t,a=>by
  have ih:=Ay7 p x t b
  simp only [List.cons_append,A9n,List.getLast_cons_cons]
  split
  ·exact ih
  ·rw[ih];rfl
theorem A0q{α:Type}[Inhabited α](p:α→α→Bool){l:List α}{j:Nat}(h1:1≤j)(hj:j < l.length):A6v p (l.take (j+1))=A6v p (l.take j)++(if p l[j]! l[j-1]! then[]else[l[j]!]):=by
 have e:l.take (j+1)=l.take j++[l[j]!]:=by rw[List.take_succ_eq_append_getElem hj,getElem!_pos l j hj]
 rw[e]
 cases hl:l.take j with
 | nil =>
  have:=congrArg List.length hl
  rw[List.length_take,List.length_nil]at this
  omega
 | cons a t =>
  have hlen:(a :: t).length=j:=by rw[← hl,List.length_take];omega
  have hlast:(a :: t).getLast (by simp)=l[j-1]!:=by
   rw[List.getLast_eq_getElem,getElem!_pos l (j-1) (by omega)]
   simp only [← hl,List.getElem_take]
   congr 1
   rw[hl,hlen]
  show a :: A9n p a (t++[l[j]!])=_
  rw[Ay7,hlast]
  rfl
theorem Ay8{α:Type}(p:α→α→Bool):∀(l:List α) (a:α),(A9n p a l).length≤l.length
 | [],a=>by simp [A9n]
 | b :: l,a=>by
  simp only [A9n]
  have:=Ay8 p l b
  split
  ·simp only [List.length_cons];omega
  ·simp only [List.length_cons];omega
theorem B54{α:Type}(p:α→α→Bool)(l:List α):(A6v p l).length≤l.length:=by
 cases l with
 | nil=>simp [A6v]
 | cons a l=>simp only [A6v,List.length_cons];have:=Ay8 p l a;omega
theorem A3i{α:Type}[Inhabited α](p:α→α→Bool)(l:List α):∀ k:Nat,k≤l.length→(∀ j:Nat,1≤j→j < k→p l[j]! l[j-1]! = false)→A6v p (l.take k)=l.take k
 | 0,_,_=>by simp [A6v]
 | 1,hk,_=>by
  cases l with
  | nil=>simp at hk
  | cons a l=>simp [A6v,A9n]
 | k+2,hk,h=>by
  rw[A0q p (by omega) (by omega),A3i p l (k+1) (by omega) (fun j h1 h2=>h j h1 (by omega)),h (k+1) (by omega) (by omega)]
  simp only [Bool.false_eq_true,if_false]
  rw[List.take_succ_eq_append_getElem (show k+1 < l.length by omega),getElem!_pos l (k+1) (by omega)]
def eqR(a b:Record):Bool:=decide (C2 a b=0)
def J0(l:List Record):List Record:=A6v eqR l
theorem B55:∀(l:List Record) (a:Record),(a :: l).Pairwise (fun x y=>C2 x y≤0)→(∀ r∈a :: l,r.past=A6 r.past) →
  (∀ y∈A9n eqR a l,C2 a y < 0)∧upR (A9n eqR a l)∧∀ y,y∈a :: A9n eqR a l↔y∈a :: l
 | [],a,_,_=>⟨fun y hy=>(by cases hy),List.Pairwise.nil,fun y=>by simp [A9n]⟩
 | b :: l,a,hp,hn=>by
  have h1:=List.pairwise_cons.1 hp
  have ih:=B55 l b h1.2 (fun r hr=>hn r (List.mem_cons_of_mem _ hr))
  simp only [A9n]
  by_cases e:eqR b a=true
  ·have e':b=a:=A8y (hn b (by simp)) (hn a (by simp)) (by simpa [eqR]using e)
   subst e'
   rw[if_pos e]
   refine⟨ih.1,ih.2.1,fun y=>?_⟩
   rw[ih.2.2 y]
   simp
  ·rw[if_neg e]
   have hab:C2 a b < 0:=by
    have h2:=h1.1 b (by simp)
    have h3:¬ C2 b a=0:=by simpa [eqR]using e
    have:=A15.neg a b
    omega
   refine⟨fun y hy=>?_,List.pairwise_cons.2 ⟨ih.1,ih.2.1⟩,fun y=>?_⟩
   ·rcases List.mem_cons.1 hy with rfl | hy
    ·exact hab
    ·have:=ih.1 y hy
     exact A15.lt hab (by omega)
   ·have:=ih.2.2 y
    simp only [List.mem_cons]at this ⊢
    rw[this]
theorem Ay9{l:List Record}(hp:l.Pairwise (fun x y=>C2 x y≤0))(hn:∀ r∈l,r.past=A6 r.past):upR (J0 l)∧∀ y,y∈J0 l↔y∈l:=by
 unfold J0
 cases l with
 | nil=>exact⟨List.Pairwise.nil,fun y=>by simp [A6v]⟩
 | cons a l =>
  have h:=B55 l a hp hn
  exact⟨List.pairwise_cons.2 ⟨h.1,h.2.1⟩,h.2.2⟩
def Br8:Type:={r:Record // r.past=A6 r.past}
theorem B8x:(⟨noneS,⟨[],[]⟩⟩:Record).past=A6 (⟨noneS,⟨[],[]⟩⟩:Record).past:=A5f.symm
instance:Inhabited Br8:=⟨⟨⟨noneS,⟨[],[]⟩⟩,B8x⟩⟩
noncomputable def B1x(r:Record):Br8:=if h:r.past=A6 r.past then⟨r,h⟩else default
def Bd3(x y:Br8):Int:=C2 x.1 y.1
def Bo0(x:Br8):List AV:=c81 x.1
theorem totRB:TotC Bd3:=by
 refine⟨fun x y=>?_,fun x y z h1 h2=>A15.tr x.1 y.1 z.1 h1 h2,fun x y h=>Subtype.ext (A8y x.2 y.2 h)⟩
 unfold Bd3
 have:=A15.neg x.1 y.1
 omega
noncomputable def srtB(l:List Record):List Br8:=B8w Bd3 (l.map B1x)
noncomputable def A6w(l:List Record):List Record:=(srtB l).map (·.1)
def F6(l:List Record):Prop:=∀ r∈l,r.past=A6 r.past
theorem Az0{l:List Record}(h:F6 l):(l.map B1x).map (·.1)=l:=by
 rw[List.map_map]
 conv=>rhs;rw[← List.map_id l]
 refine List.map_congr_left fun r hr=>?_
 have e:B1x r=⟨r,h r hr⟩:=by unfold B1x;exact dif_pos (h r hr)
 show(B1x r).1=r
 rw[e]
theorem Ah9{l:List Record}(h:F6 l):(A6w l).Perm l:=by
 have:=(R4 Bd3 (l.map B1x)).map (·.1)
 rw[Az0 h]at this
 exact this
theorem A64(l:List Record):F6 (A6w l):=by
 intro r hr
 obtain⟨x,_,rfl⟩:=List.mem_map.1 hr
 exact x.2
theorem A7t(l:List Record):(A6w l).Pairwise (fun x y=>C2 x y≤0):=by
 have:=Ay6 totRB (l.map B1x)
 unfold A6w srtB
 rw[List.pairwise_map]
 exact this
noncomputable def E5(l:List Record):List Record:=J0 (A6w l)
theorem A9o(l:List Record):upR (E5 l):=(Ay9 (A7t l) (A64 l)).1
theorem Y8{l:List Record}(h:F6 l)(r:Record):r∈E5 l↔r∈l:=by
 unfold E5
 rw[(Ay9 (A7t l) (A64 l)).2 r]
 exact(Ah9 h).mem_iff
theorem W4{l:List Record}(h:F6 l):F6 (E5 l):=fun r hr=>h r ((Y8 h r).1 hr)
theorem Az1{a l:List Record}(h:F6 l)(ha:upR a)(hm:∀ r,r∈a↔r∈l):a=E5 l :=
 A3c ha (A9o l) (fun r hr=>h r ((hm r).1 hr)) (W4 h) (fun r=>by rw[hm r,Y8 h r])
theorem A9p(l:List Record):(E5 l).length≤l.length:=by
 have h1:=B54 eqR (A6w l)
 have h2:(A6w l).length=l.length:=by
  unfold A6w srtB
  rw[List.length_map,(R4 Bd3 (l.map B1x)).length_eq,List.length_map]
 unfold E5 J0
 omega
theorem B8y{l:List Record}(h:F6 l):B1u l:=fun r hr=>by have:=Y5 (h r hr);unfold szR;omega
def A65:List Record→List Record→List Record
 | [],B=>B
 | a :: A,[]=>a :: A
 | a :: A,b :: B=>if C2 a b < 0 then a :: A65 A (b :: B)else if C2 a b=0 then a :: A65 A B else b :: A65 (a :: A) B
termination_by A B=>A.length+B.length
theorem Az2(A:List Record):A65 A []=A:=by cases A <;> simp [A65]
theorem Bo1:∀(n:Nat) (A B:List Record),A.length+B.length≤n→upR A→upR B→F6 A→F6 B→upR (A65 A B)∧∀ r,r∈A65 A B↔r∈A∨r∈B:=by
 intro n
 induction n with
 | zero =>
  intro A B h _ _ _ _
  have ea:A=[]:=List.eq_nil_of_length_eq_zero (by omega)
  have eb:B=[]:=List.eq_nil_of_length_eq_zero (by omega)
  subst ea eb
  exact⟨by simp [A65,upR],by simp [A65]⟩
 | succ n ih =>
  intro A B h ha hb na nb
  cases A with
  | nil=>exact⟨by simpa [A65]using hb,by simp [A65]⟩
  | cons a A =>
   cases B with
   | nil=>exact⟨by simpa [A65]using ha,by simp [A65]⟩
   | cons b B =>
    have pa:=List.pairwise_cons.1 ha
    have pb:=List.pairwise_cons.1 hb
    have na':F6 A:=fun r hr=>na r (by simp [hr])
    have nb':F6 B:=fun r hr=>nb r (by simp [hr])
    simp only [List.length_cons]at h
    rw[A65]
    by_cases c:C2 a b < 0
    ·rw[if_pos c]
     have i:=ih A (b :: B) (by simp only [List.length_cons];omega) pa.2 hb na' nb
     refine⟨List.pairwise_cons.2 ⟨fun r hr=>?_,i.1⟩,fun r=>?_⟩
     ·rcases(i.2 r).1 hr with hr | hr
      ·exact pa.1 r hr
      ·rcases List.mem_cons.1 hr with rfl | hr
       ·exact c
       ·have:=pb.1 r hr
        exact A15.lt c (by omega)
     ·have:=i.2 r
      simp only [List.mem_cons]at this ⊢
      rw[this,or_assoc]
    ·rw[if_neg c]
     by_cases d:C2 a b=0
     ·rw[if_pos d]
      have e:a=b:=A8y (na a (by simp)) (nb b (by simp)) d
      subst e
      have i:=ih A B (by omega) pa.2 pb.2 na' nb'
      refine⟨List.pairwise_cons.2 ⟨fun r hr=>?_,i.1⟩,fun r=>?_⟩
      ·rcases(i.2 r).1 hr with hr | hr
       ·exact pa.1 r hr
       ·exact pb.1 r hr
      ·have:=i.2 r
       simp only [List.mem_cons]at this ⊢
       rw[this]
       constructor
       ·rintro(h | h | h)
        ·exact .inl (.inl h)
        ·exact .inl (.inr h)
        ·exact .inr (.inr h)
       ·rintro((h | h) | h | h)
        ·exact .inl h
        ·exact .inr (.inl h)
        ·exact .inl h
        ·exact .inr (.inr h)
     ·rw[if_neg d]
      have i:=ih (a :: A) B (by simp only [List.length_cons];omega) ha pb.2 na nb'
      have hba:C2 b a < 0:=by have:=A15.neg a b;omega
      refine⟨List.pairwise_cons.2 ⟨fun r hr=>?_,i.1⟩,fun r=>?_⟩
      ·rcases(i.2 r).1 hr with hr | hr
       ·rcases List.mem_cons.1 hr with rfl | hr
        ·exact hba
        ·have:=pa.1 r hr
         exact A15.lt hba (by omega)
       ·exact pb.1 r hr
      ·have:=i.2 r
       simp only [List.mem_cons]at this ⊢
       rw[this]
       constructor
       ·rintro(h | (h | h) | h)
        ·exact .inr (.inl h)
        ·exact .inl (.inl h)
        ·exact .inl (.inr h)
        ·exact .inr (.inr h)
       ·rintro((h | h) | h | h)
        ·exact .inr (.inl (.inl h))
        ·exact .inr (.inl (.inr h))
        ·exact .inl h
        ·exact .inr (.inr h)
theorem B8z{l:List Record}(h:F6 l)(m:Nat):A65 (E5 (l.take m)) (E5 (l.drop m))=E5 l:=by
 have h1:F6 (l.take m):=fun r hr=>h r (List.mem_of_mem_take hr)
 have h2:F6 (l.drop m):=fun r hr=>h r (List.mem_of_mem_drop hr)
 have:=Bo1 _ _ _ (Nat.le_refl _) (A9o (l.take m)) (A9o (l.drop m)) (W4 h1) (W4 h2)
 refine Az1 h this.1 fun r=>?_
 rw[this.2 r,Y8 h1,Y8 h2]
 conv=>rhs;rw[← List.take_append_drop m l]
 rw[List.mem_append]
def clnR(r:Record):Record:=⟨r.sku,A6 r.past⟩
noncomputable def lsR(rs:List Record):List Record:=(rs.filter fun r=>decide (¬ G0 r.past=0)).map clnR
def Ai0(r:Record):Bool:=decide (r.sku=noneS) || U0 r.sku
noncomputable def I5(rs:List Record):List Record×Int:=if rs.all Ai0=true then(E5 (lsR rs),0)else([],5)
theorem B90(rs:List Record):F6 (lsR rs):=by
 intro r hr
 obtain⟨x,_,rfl⟩:=List.mem_map.1 hr
 exact(B3k x.past).symm
theorem B91{rs:List Record}(h:∀ r∈rs,ckR r=0):lsR rs=rs:=by
 unfold lsR
 have e:rs.filter (fun r=>decide (¬ G0 r.past=0))=rs:=List.filter_eq_self.2 fun r hr=>by
  rw[decide_eq_true_iff];exact(Ae8.1 (h r hr)).2.2
 rw[e]
 conv=>rhs;rw[← List.map_id rs]
 refine List.map_congr_left fun r hr=>?_
 unfold clnR
 rw[←(Ae8.1 (h r hr)).2.1]
 rfl
theorem B92{rs:List Record}(h:∀ r∈rs,ckR r=0):rs.all Ai0=true:=by
 rw[List.all_eq_true]
 intro r hr
 unfold Ai0
 rw[Bool.or_eq_true,decide_eq_true_iff]
 exact(Ae8.1 (h r hr)).1
noncomputable def C7(a b:List Record):List Record×Int:=if F5 a=0∧F5 b=0 then(E5 (a++b),0)else([],1)
theorem A2r{a b:List Record}(ha:F5 a=0)(hb:F5 b=0):∀ r∈a++b,ckR r=0:=fun r hr=>by
 rcases List.mem_append.1 hr with hr | hr
 ·exact((A0n a).1 ha).1 r hr
 ·exact((A0n b).1 hb).1 r hr
theorem B1i{a b:List Record}(ha:F5 a=0)(hb:F5 b=0):I5 (a++b)=(E5 (a++b),0):=by
 unfold I5
 rw[if_pos (B92 (A2r ha hb)),B91 (A2r ha hb)]
theorem B1j{a b:List Record}(ha:F5 a=0)(hb:F5 b=0):F5 (E5 (a++b))=0:=by
 have hn:F6 (a++b):=fun r hr=>(Ae8.1 (A2r ha hb r hr)).2.1
 exact(A0n _).2 ⟨fun r hr=>A2r ha hb r ((Y8 hn r).1 hr),A9o _⟩
end Go.Proofs.YtaiepnaokhpmcaaGreat
namespace Go.Proofs.YtaiepnaokhpmcaaGreat
open Go.E
set_option maxRecDepth 100000
set_option maxHeartbeats 4000000
theorem leM0(a b:Entry):leM 0 a b=!ltE b a:=rfl
theorem B93(es:List Entry):K4 (A1k (leM 0) 1 es)=K4 (A2o es):=by
 refine B15 ((A5u (leM 0) _ 1 es (Nat.le_refl _)).trans (List.mergeSort_perm es _).symm) ?_ (A3g es)
 refine A7m (le:=leM 0) ?_ ?_ _ 1 es (Nat.le_refl _) (by omega) (Ap0 _)
 ·intro a b c h1 h2
  simp only [leM0,Bool.not_eq_true']at *
  exact A5v.ntrans _ _ _ h2 h1
 ·intro a b
  simp only [leM0]
  cases h:ltE b a with
  | false=>rfl
  | true=>simp [A5v.asymmA h]
theorem Bo2(m:Int)(es:List Entry):(A1k (leM m) 1 es).length=es.length:=(A5u (leM m) _ 1 es (Nat.le_refl _)).length_eq
end Go.Proofs.YtaiepnaokhpmcaaGreat
namespace Go.Proofs.YtaiepnaokhpmcaaGreat
open Go.E
set_option maxRecDepth 100000
set_option maxHeartbeats 4000000
open Go Go.Lib Go.RowKit Go.Proofs
set_option maxHeartbeats 4000000 in
theorem B56 (n:Nat) (h0:0 < n) (hb:n*40≤140737488351232) (w:World):Calls Tryz.prog 162 #[.slice none 0 0,.int .i64 n] w fun e w' =>
  ∃ cap cells,e=.returned (.slice (some ⟨w.heap.size,0,none⟩) 0 cap)∧w'.heap[w.heap.size]?=some (.cells cells 45 (0,0))∧cells.size=cap*4∧cap≤maxLen∧Below w.heap.size w w':=by
 obtain⟨i,z,hi,hi1,hi2,hz,hzs⟩:∃(i:TypeInfo) (z:Value),Tryz.prog.info? 45=some i∧i.size=4∧i.bytes=40∧i.zero=some z∧z.cells.size=4 :=
  ⟨tiE,tiE.zero.get!,by kernel_rfl,by kernel_rfl,by kernel_rfl,by kernel_rfl,by kernel_rfl⟩
 have happ:=Lib.run_append_nil_zeros (P:=Tryz.prog) w 22 3 22 45 i z .i64 .i64 Tryz.underlying22 Tryz.underlying3 hi hz n h0 (by omega) (by omega) (by rw[hi2];omega)
 generalize hcap:grownCap w n 0 45=cap2 at happ
 have hcapge:n≤cap2:=by rw[← hcap];exact grownCap_ge w _ 0 45
 have hcaple:cap2≤maxLen:=by rw[← hcap];exact grownCap_le_maxLen w _ 0 45 (by unfold maxLen;omega)
 generalize hZ:(Builtin.zeroCells z.cells n++Builtin.zeroCells z.cells (cap2-n))=Z at happ
 have hZs:Z.size=cap2*4:=by rw[← hZ];simp [size_zeroCells,hzs];omega
 clear hcap hZ
 go_enter Tryz.func162,Tryz.ntmps162
 go_wp2_with (at_builtin;refine Lib.wpList_append_run _ rfl _ _ _ _ rfl _ _ rfl rfl _ _ happ ?_)
 go_ret
 exact⟨cap2,Z,rfl,heap_alloc_new w _,hZs,hcaple,⟨rfl,rfl,rfl,by simp,fun k hk=>Below.heap_alloc w _ k hk⟩⟩
set_option maxHeartbeats 4000000 in
theorem B57 (w:World):Calls Tryz.prog 162 #[.slice none 0 0,.int .i64 0] w fun e w'=>e=.returned (.slice none 0 0)∧w'=w:=by
 go_enter Tryz.func162,Tryz.ntmps162
 go_wp2
 go_ret
 exact⟨rfl,rfl⟩
theorem con162(n:Int)(h0:0≤n)(hb:n*40≤140737488351232):A45 Tryz.prog 162 [.nl,.i .i64 n] 45 (.row 4 (([]:List Entry).map c45)):=by
 refine⟨⟨_,Tryz.func162,by kernel_rfl,by kernel_rfl⟩,fun w S0 vs hS hl hv=>?_⟩
 obtain⟨v,u,rfl⟩:∃ v u,vs=[v,u]:=by
  match vs,hl with
  | [v,u],_=>exact⟨v,u,rfl⟩
 have h1:=hv 0 _ v rfl rfl
 have h2:=hv 1 _ u rfl rfl
 cases h1
 cases h2
 by_cases hn:n=0
 ·subst hn
  refine(B57 w).mono ?_
  rintro e w' ⟨rfl,rfl⟩
  exact⟨_,rfl,⟨fun r hr=>by simp at hr,[],World.ownsRow_nil _ _ _ _,fun u hu=>by simp at hu,fun j b u hb=>by simp at hb⟩,Below.refl _ _⟩
 ·obtain⟨m,rfl⟩:∃ m:Nat,n=m:=⟨n.toNat,by omega⟩
  refine(B56 m (by omega) (by omega) w).mono ?_
  rintro e w' ⟨cap,cells,rfl,g1,g2,g3,g4⟩
  exact⟨_,rfl,⟨fun r hr=>by simp at hr,[],⟨by simp,.inr ⟨w.heap.size,cap,cells,rfl,Nat.le_refl _,g1,Nat.zero_le _,g3,g2,by simp⟩⟩,fun u hu=>by simp at hu,fun j b u hb=>by simp at hb⟩,g4⟩
def c22(l:List Entry):List AV:=[.sl (l.map c45)]
section
variable {α : Type}
def B5y(ss:List (List α))(n:Int)(i:Int):Prop:=n=((ss.take i.toNat).flatten.length:Int)
def A66(ss:List (List α))(i:Int)(l:List α):Prop:=l=(ss.take i.toNat).flatten
def A3v(ss:List (List α))(n i:Int):Prop:=0≤i∧i≤ss.length∧0≤n∧n≤140737488351232∧B5y ss n i
def Bd4(ss:List (List α))(n i:Int):Nat:=(ss.length-i).toNat
def A67(ss:List (List α))(i:Int)(l:List α):Prop:=0≤i∧i≤ss.length∧A66 ss i l
def Bd5(ss:List (List α))(i:Int)(l:List α):Nat:=(ss.length-i).toNat
theorem Aq2(ss:List (List α))(i:Nat):(ss.take i).flatten.length≤ss.flatten.length:=by
 have h:(ss.take i).flatten++(ss.drop i).flatten=ss.flatten:=by rw[← List.flatten_append,List.take_append_drop]
 rw[← h,List.length_append]
 omega
theorem A2s{ss:List (List α)}{i:Int}(h0:0≤i)(h:i < ss.length):(ss.take (i+1).toNat).flatten=(ss.take i.toNat).flatten++ss[i.toNat]!:=by
 rw[← C8 h0 h,List.flatten_append]
 simp
theorem Aq3{ss:List (List α)}{n i:Int}(h0:0≤i)(h:i < ss.length)(hs:B5y ss n i):n+ss[i.toNat]!.length≤ss.flatten.length:=by
 have h1:=Aq2 ss (i+1).toNat
 rw[A2s h0 h,List.length_append]at h1
 unfold B5y at hs
 omega
theorem A68(ss:List (List α)):A3v ss 0 0:=⟨by omega,by omega,by omega,by omega,by simp [B5y]⟩
theorem A69{ss:List (List α)}{n i:Int}(hb:ss.flatten.length≤140737488351232)(h0:0≤i)(h:i < ss.length)(hn:0≤n)(hs:B5y ss n i):A3v ss (n+ss[i.toNat]!.length) (i+1):=by
 have:=Aq3 h0 h hs
 refine⟨by omega,by omega,by omega,by omega,?_⟩
 unfold B5y at *
 rw[A2s h0 h,List.length_append]
 omega
theorem B58{ss:List (List α)}{n i:Int}(hs:B5y ss n i):n≤ss.flatten.length:=by
 have:=Aq2 ss i.toNat
 unfold B5y at hs
 omega
theorem A9q{ss:List (List α)}{i:Int}{l:List α}(h0:0≤i)(h:i < ss.length)(hs:A66 ss i l):l.length+ss[i.toNat]!.length≤ss.flatten.length:=by
 have h1:=Aq2 ss (i+1).toNat
 rw[A2s h0 h,List.length_append]at h1
 unfold A66 at hs
 rw[hs]
 omega
theorem A6a{ss:List (List α)}{i:Int}{l:List α}(h0:0≤i)(h:i < ss.length)(hs:A66 ss i l):A67 ss (i+1) (l++ss[i.toNat]!) :=
 ⟨by omega,by omega,by unfold A66 at *;rw[A2s h0 h,hs]⟩
theorem Ai1{ss:List (List α)}{i:Int}{l:List α}(h:¬ i < ss.length)(hs:A66 ss i l):l=ss.flatten:=by
 unfold A66 at hs
 rw[hs,List.take_of_length_le (by omega)]
end
theorem con119(ss:List (List Entry))(hb:ss.flatten.length*40≤140737488351232):A45 Tryz.prog 119 [.sl (ss.map c22)] 45 (.row 4 (ss.flatten.map c45)) :=
 by
 refine A20 0 (c22) (ss) (by kernel_rfl) Tryz.func119 (by kernel_rfl) fun hl_0=>A8f A8 (by kernel_rfl) (.tmp 2) 36 Tryz.func119 (by kernel_rfl) (by kernel_rfl) ?_
 intro e0 cx
 refine sq<|rG cx [0] [] z0<|sn<|sq<|rG cx [0,3] [] z0<|sn<|sq<|sq<|rG cx [0,3,9,10,11] [] (tL 1 c22 ss z0)<|sn<|bL 0<|sL (X:=Int×Int) (fun x=>⟨[(0,.sl (List.map c22 ss)),(3,.i .i64 (x.1)),(9,.sl (List.map c22 ss)),(10,.i .i64 ((↑ss.length:Int))),(11,.i .i64 (x.2))],[]⟩) (fun x ↦ Bd4 ss x.1 x.2) (fun x ↦ A3v ss x.1 x.2) [0,3,9,10,11] [] (((0:Int),(0:Int))) (show A3v ss (0:Int) (0:Int)from(by exact A68 ss)) ?_
 rintro⟨n0,i1⟩ h_2
 obtain⟨hh3,hh4,hh5,hh6,h7⟩:0≤i1∧i1≤(↑ss.length:Int)∧0≤n0∧n0≤140737488351232∧B5y ss n0 i1:=h_2
 refine rE cx [0,3,9,10,11,12] [] (zB 0 (i1 <(↑ss.length:Int))) (fun h8=>?_) fun h8=>?_
 refine sK<|sn<|sq<|bL 1<|sq<|rG cx [0,3,9,10,11,5] [] (fA (0≤i1) (fG c22 ss i1.toNat (fR 1 (oR 0 (c22 ss[i1.toNat]!) z0))))<|sn<|sq<|rG cx [0,3,9,10,11] [] (tL 2 c45 ss[i1.toNat]! (tT 3 (B4 (by omega) (by have:=Aq3 hh3 h8 h7;omega):AV.i .i64 (IntKind.i64.wrap (n0+(↑ss[i1.toNat]!.length:Int)))=AV.i .i64 (n0+(↑ss[i1.toNat]!.length:Int))) z0)) ?_
 refine sn<|sq<|rG cx [0,3,9,10,11,20] [] (tB 1 (n0+(↑ss[i1.toNat]!.length:Int) <(0:Int)) z0)<|sn<|A1z (n0+(↑ss[i1.toNat]!.length:Int) <(0:Int)) (by kernel_rfl) (by kernel_rfl) (fun h9=>absurd h9 (by omega)) (fun h9=>?_)
 refine sK<|bN<|sn<|rG cx [0,3,9,10,11] [] (tW 0 (i1+1) z0)<|sn<|nX ((n0+(↑ss[i1.toNat]!.length:Int),i1+1)) (show((↑ss.length:Int)-(i1+1)).toNat <((↑ss.length:Int)-i1).toNat from(by omega)) (show A3v ss (n0+(↑ss[i1.toNat]!.length:Int)) (i1+1)from(by exact A69 (by omega) hh3 h8 hh5 h7))
 refine eX 0<|nE<|nE<|bH<|sn<|sq<|rG cx [0,6] [24] (fT (con162 (n0) (by(with_reducible assumption)) (by have:=B58 h7;omega)) (oV 1 { val:=some (.own (45:Nat) (4:Nat)),rows:=some (List.map c45 []) } z0)) ?_
 refine sn<|sq<|sq<|rG cx [6,25,26,27] [24] (tL 1 c22 ss z0)<|sn<|bL 2<|sL (X:=Int×List Entry) (fun x=>⟨[(6,.own 24 0),(25,.sl (List.map c22 ss)),(26,.i .i64 ((↑ss.length:Int))),(27,.i .i64 (x.1))],[(24,⟨0,45,.row 4 (List.map c45 x.2)⟩)]⟩) (fun x ↦ Bd5 ss x.1 x.2) (fun x ↦ A67 ss x.1 x.2) [6,25,26,27] [24] (((0:Int),[])) (show A67 ss (0:Int) []from(by exact⟨by omega,by omega,by simp [A66]⟩)) ?_
 rintro⟨i10,l11⟩ h_12
 obtain⟨h13,h14,h15⟩:0≤i10∧i10≤(↑ss.length:Int)∧A66 ss i10 l11:=h_12
 refine rE cx [6,25,26,27,28] [24] (zB 0 (i10 <(↑ss.length:Int))) (fun h16=>?_) fun h16=>?_
 refine sK<|sn<|sq<|bL 3<|sq<|rG cx [6,25,26,27,8] [24] (fA (0≤i10) (fG c22 ss i10.toNat (fR 1 (oR 0 (c22 ss[i10.toNat]!) z0))))<|sn<|rG cx [6,25,26,27] [24] (fR 45 (fR 4 (fR 4 (fX c45 ss[i10.toNat]! 4 (fP ((List.map c45 l11).length+(List.map c45 ss[i10.toNat]!).length≤maxLen) (by have:=A9q h13 h16 h15;simp only [List.length_map,Go.maxLen];omega) (fP (((List.map c45 l11).length+(List.map c45 ss[i10.toNat]!).length)*(40:Nat)≤(140737488355328:Nat)) (by have:=A9q h13 h16 h15;simp only [List.length_map];omega) (fM c45 l11 ss[i10.toNat]! (oV 2 { rows:=some (List.map c45 (l11++ss[i10.toNat]!)) } z0)))))))) ?_
 refine bN<|sn<|rG cx [6,25,26,27] [24] (tW 0 (i10+1) z0)<|sn<|nX ((i10+1,l11++ss[i10.toNat]!)) (show((↑ss.length:Int)-(i10+1)).toNat <((↑ss.length:Int)-i10).toNat from(by omega)) (show A67 ss (i10+1) (l11++ss[i10.toNat]!)from(by exact A6a h13 h16 h15))
 refine eX 2<|nE<|nE<|bH<|sn<|sq<|rG cx [2] [24] z0<|sn<|rT<|A3q (rows':=(List.map c45 l11)) .ret (.inr rfl) 2 24 0 (by kernel_rfl) (by kernel_rfl) (by kernel_rfl) (by rw[Ai1 h16 h15])
def D9(a b:List Entry):List Entry×Int:=if okL a=true∧okL b=true then K4 (A2o (a++b))else([],1)
theorem A4k{a b:List Entry}(h:¬ D2 a=0∨¬ D2 b=0):D9 a b=([],1):=by
 unfold D9
 rw[if_neg]
 rintro⟨h1,h2⟩
 exact h.elim (fun k=>Ax4 k h1) (fun k=>Ax4 k h2)
theorem A0r{a b:List Entry}(h1:D2 a=0)(h2:D2 b=0):D9 a b=K4 (A2o (a++b)):=by
 unfold D9
 rw[if_pos ⟨M6 h1,M6 h2⟩]
theorem A7u{a b:List Entry}(h1:D2 a=0)(h2:D2 b=0):U3 (a++b)=D9 a b:=by
 rw[A0r h1 h2]
 refine A2p fun j hj=>?_
 by_cases h:j < a.length
 ·have:(a++b)[j]! = a[j]!:=by rw[getElem!_pos (a++b) j hj,getElem!_pos a j h,List.getElem_append_left h]
  rw[this]
  exact(A1a (M6 h1) h).1
 ·rw[List.length_append]at hj
  have:(a++b)[j]! = b[j-a.length]!:=by rw[getElem!_pos (a++b) j (by rw[List.length_append];omega),getElem!_pos b (j-a.length) (by omega),List.getElem_append_right (by omega)]
  rw[this]
  exact(A1a (M6 h2) (by omega)).1
theorem Bo3{a b:List Entry}(h1:D2 a=0)(h2:D2 b=0):a.length≤16000000000∧b.length≤16000000000:=⟨U4 (M6 h1),U4 (M6 h2)⟩
theorem A9r(a b:List Entry):[a,b].flatten=a++b:=by simp
theorem A06{a b:List Entry}(h:¬(¬ D2 a=0∨¬ D2 b=0)):D2 a=0∧D2 b=0:=⟨Classical.not_not.1 fun k=>h (.inl k),Classical.not_not.1 fun k=>h (.inr k)⟩
theorem A0s{a b:List Entry}(h:¬(¬ D2 a=0∨¬ D2 b=0)):a.length≤16000000000∧b.length≤16000000000:=Bo3 (A06 h).1 (A06 h).2
theorem Ai2{a b:List Entry}(h:¬(¬ D2 a=0∨¬ D2 b=0)):[a,b].flatten.length*40≤140737488351232:=by
 have:=A0s h
 rw[A9r,List.length_append]
 omega
def A2t(a b:List Entry)(i:Int)(l:List Entry):Prop:=l=a++b.take i.toNat
theorem B1k{a b l:List Entry}{i:Int}(h0:0≤i)(h:i < b.length)(hs:A2t a b i l):A2t a b (i+1) (l++[b[i.toNat]!]):=by
 unfold A2t at *
 rw[← C8 h0 h,hs,List.append_assoc]
theorem B59{a b l:List Entry}{i:Int}(h:¬ i < b.length)(hs:A2t a b i l):l=a++b:=by
 unfold A2t at hs
 rw[hs,List.take_of_length_le (by omega)]
theorem Ai3{a b l:List Entry}{i:Int}(hu:¬(¬ D2 a=0∨¬ D2 b=0))(h:¬ i < b.length)(hs:A2t a b i l):K4 (A1k (leM 0) 1 l)=D9 a b:=by
 rw[B93,B59 h hs,A0r (A06 hu).1 (A06 hu).2]
def B5a(a:List Entry)(i:Int)(l:List Entry):Prop:=0≤i∧i≤a.length∧(l.length:Int)=i∧A1m a i l
def dec30a(a:List Entry)(i:Int)(l:List Entry):Nat:=(a.length-i).toNat
def B5b(a b:List Entry)(i:Int)(l:List Entry):Prop:=0≤i∧i≤b.length∧(l.length:Int)=a.length+i∧A2t a b i l
def dec30b(b:List Entry)(i:Int)(l:List Entry):Nat:=(b.length-i).toNat
theorem con70(a b:List Entry):Con Tryz.prog 70 [.sl (a.map c45),.sl (b.map c45)] (.tup [.sl ((D9 a b).1.map c45),.i .i64 (D9 a b).2]) :=
 by
 refine lN 0 c45 (a) Tryz.func70 fun hl_0=>lN 1 c45 (b) Tryz.func70 fun hl_1=>sC A8 [.tmp 4,.tmp 5] 21 Tryz.func70 ?_
 intro e0 cx
 refine sq<|rG cx [0,1] [] z0<|sn<|sq<|sq<|B1 (σ':=⟨[(0,.sl (List.map c45 a)),(1,.sl (List.map c45 b)),(13,.b (decide (¬D2 a=0∨¬D2 b=0)))],[]⟩) ?_ ?_
 refine A4 (¬D2 a=0) (fun h_1=>?_) (fun h_1=>?_)
 refine rG cx [0,1,13] [] (fT (A5k (a)) (tT 2 (D0 h_1:AV.b (D2 a !=0)=AV.b true) (tD 7 true (¬D2 a=0∨¬D2 b=0) (by simp only [eq_false h_1,tsl]) (oA 1 (.i .i64 (D2 a)) z0)))) ?_
 exact⟨rfl,by kernel_rfl⟩
 refine rG cx [0,1,13] [] (fT (A5k (a)) (tN 2 (D2 a) (0:Int) (tT 3 (A0 h_1) (fT (A5k (b)) (tN 6 (D2 b) (0:Int) (tT 7 (by first | (simp only [eq_false h_1,tsl];done) | simp_all:AV.b (decide ¬D2 b=0)=AV.b (decide (¬D2 a=0∨¬D2 b=0))) (oA 1 (.i .i64 (D2 a)) (oA 5 (.i .i64 (D2 b)) z0)))))))) ?_
 exact⟨rfl,by kernel_rfl⟩
 refine sn<|dC (¬D2 a=0∨¬D2 b=0) (fun h2=>?_) fun h2=>?_
 refine sq<|rG cx [4,5] [] z0<|sn<|rT<|nR<|qR (.tup [.nl,.i .i64 ((1:Int))]) (B6.tup (ZLe.cons (B6.nl' (show List.map c45 (D9 a b).1=[]from(by exact(by rw[A4k h2];rfl)))) (ZLe.cons (B6.eq (show AV.i .i64 1=AV.i .i64 (D9 a b).2 from(by exact(by rw[A4k h2])))) ZLe.nil)))
 refine sK<|sn<|sq ?_
 have hl_3:=(B4t [a,b].flatten)
 refine rG cx [4,5] [] (fT (con119 ([a,b]) (by exact(Nat.le_trans (Ai2 h2) (by decide)))) (fT (con118 ([a,b].flatten) (by exact(Nat.le_trans (Ai2 h2) (by decide)))) (oV 3 { val:=some (.own (45:Nat) (4:Nat)),rows:=some (List.map c45 [a,b].flatten) } (oA 4 (.tup [.sl (List.map c45 (U3 [a,b].flatten).1),.i .i64 ((U3 [a,b].flatten).2)]) z0)))) ?_
 refine sn<|rT<|qR (.tup [.sl (List.map c45 (U3 [a,b].flatten).1),.i .i64 ((U3 [a,b].flatten).2)]) (B6.tup (ZLe.cons (B6.eq (show AV.sl (List.map c45 (U3 [a,b].flatten).1)=AV.sl (List.map c45 (D9 a b).1)from(by exact(by rw[A9r,A7u (A06 h2).1 (A06 h2).2])))) (ZLe.cons (B6.eq (show AV.i .i64 (U3 [a,b].flatten).2=AV.i .i64 (D9 a b).2 from(by exact(by rw[A9r,A7u (A06 h2).1 (A06 h2).2])))) ZLe.nil)))
theorem con79(a b:List Entry):Con Tryz.prog 79 [.sl (a.map c45),.sl (b.map c45)] (.tup [.sl ((D9 a b).1.map c45),.i .i64 (D9 a b).2]) :=
 by
 refine lN 0 c45 (a) Tryz.func79 fun hl_0=>lN 1 c45 (b) Tryz.func79 fun hl_1=>sC A8 [.tmp 4,.tmp 5] 48 Tryz.func79 ?_
 intro e0 cx
 refine sq<|rG cx [0,1] [] z0<|sn<|sq<|sq<|B1 (σ':=⟨[(0,.sl (List.map c45 a)),(1,.sl (List.map c45 b)),(16,.b (decide (¬D2 a=0∨¬D2 b=0)))],[]⟩) ?_ ?_
 refine A4 (¬D2 a=0) (fun h_1=>?_) (fun h_1=>?_)
 refine rG cx [0,1,16] [] (fT (Ao1 (a)) (tT 2 (D0 h_1:AV.b (D2 a !=0)=AV.b true) (tD 7 true (¬D2 a=0∨¬D2 b=0) (by simp only [eq_false h_1,tsl]) (oA 1 (.i .i64 (D2 a)) z0)))) ?_
 exact⟨rfl,by kernel_rfl⟩
 refine rG cx [0,1,16] [] (fT (Ao1 (a)) (tN 2 (D2 a) (0:Int) (tT 3 (A0 h_1) (fT (Ao1 (b)) (tN 6 (D2 b) (0:Int) (tT 7 (by first | (simp only [eq_false h_1,tsl];done) | simp_all:AV.b (decide ¬D2 b=0)=AV.b (decide (¬D2 a=0∨¬D2 b=0))) (oA 1 (.i .i64 (D2 a)) (oA 5 (.i .i64 (D2 b)) z0)))))))) ?_
 exact⟨rfl,by kernel_rfl⟩
 refine sn<|dC (¬D2 a=0∨¬D2 b=0) (fun hh2=>?_) fun hh2=>?_
 refine sq<|rG cx [4,5] [] z0<|sn<|rT<|nR<|qR (.tup [.nl,.i .i64 ((1:Int))]) (B6.tup (ZLe.cons (B6.nl' (show List.map c45 (D9 a b).1=[]from ?g1)) (ZLe.cons (B6.eq (show AV.i .i64 1=AV.i .i64 (D9 a b).2 from ?g0)) ZLe.nil)));rotate_left 2
 refine sK<|sn<|sq<|rG cx [0,1,6] [] z0<|sn<|sq<|sq<|rG cx [0,1,6,7] [] z0<|sn<|bL 0<|E6 6 1006 45 4 (σ':=⟨[(0,.sl (List.map c45 a)),(1,.sl (List.map c45 b)),(6,.own 1006 0),(7,.i .i64 ((0:Int)))],[(1006,⟨0,45,.row 4 (List.map c45 [])⟩)]⟩) (by kernel_rfl)<|sL (X:=Int×List Entry) (fun x=>⟨[(0,.sl (List.map c45 a)),(1,.sl (List.map c45 b)),(6,.own 1006 0),(7,.i .i64 (x.1))],[(1006,⟨0,45,.row 4 (List.map c45 x.2)⟩)]⟩) (fun x ↦ dec30a a x.1 x.2) (fun x ↦ B5a a x.1 x.2) [0,1,6,7] [1006] (((0:Int),[])) (show B5a a (0:Int) []from ?g2) ?_;rotate_left
 rintro⟨i3,l4⟩ h_5
 obtain⟨h6,h7,h8,h9⟩:0≤i3∧i3≤(↑a.length:Int)∧(↑l4.length:Int)=i3∧A1m a i3 l4:=h_5
 refine sq<|rD cx [0,1,6,7,20] [1006] (tL 2 c45 a (zB 3 (i3 <(↑a.length:Int)))) (fun h10=>?_) fun h10=>?_
 refine sK<|sn<|sq<|bL 1<|rG cx [0,1,6,7] [1006] (fA (0≤i3) (fG c45 a i3.toNat (fR 4 (fN 4 4 (fR 45 (fR 4 (fR 4 (fX c45 [a[i3.toNat]!] 4 (fS c45 l4 c45 [a[i3.toNat]!] (fP (((List.map c45 l4).length+(List.map c45 [a[i3.toNat]!]).length)*(40:Nat)≤(140737488355328:Nat)) ?g3 (fM c45 l4 [a[i3.toNat]!] (oR 3 (c45 a[i3.toNat]!) (oV 6 { rows:=some (List.map c45 (l4++[a[i3.toNat]!])) } z0))))))))))))) ?_;rotate_left
 refine bN<|sn<|rG cx [0,1,6,7] [1006] (tW 1 (i3+1) z0)<|sn<|nX ((i3+1,l4++[a[i3.toNat]!])) (show((↑a.length:Int)-(i3+1)).toNat <((↑a.length:Int)-i3).toNat from(by omega)) (show B5a a (i3+1) (l4++[a[i3.toNat]!])from ?g4);rotate_left
 refine eX 0<|nE<|nE<|bH<|sn<|sq<|sq<|rG cx [1,6,8] [1006] z0<|sn<|bL 2<|sL (X:=Int×List Entry) (fun x=>⟨[(1,.sl (List.map c45 b)),(6,.own 1006 0),(8,.i .i64 (x.1))],[(1006,⟨0,45,.row 4 (List.map c45 x.2)⟩)]⟩) (fun x ↦ dec30b b x.1 x.2) (fun x ↦ B5b a b x.1 x.2) [1,6,8] [1006] (((0:Int),l4)) (show B5b a b (0:Int) l4 from ?g5) ?_;rotate_left
 rintro⟨i11,l12⟩ h_13
 obtain⟨h14,h15,h16,h17⟩:0≤i11∧i11≤(↑b.length:Int)∧(↑l12.length:Int)=(↑a.length:Int)+i11∧A2t a b i11 l12:=h_13
 refine sq<|rD cx [1,6,8,33] [1006] (tL 2 c45 b (zB 3 (i11 <(↑b.length:Int)))) (fun h18=>?_) fun h18=>?_
 refine sK<|sn<|sq<|bL 3<|rG cx [1,6,8] [1006] (fA (0≤i11) (fG c45 b i11.toNat (fR 4 (fN 4 4 (fR 45 (fR 4 (fR 4 (fX c45 [b[i11.toNat]!] 4 (fP ((List.map c45 l12).length+(List.map c45 [b[i11.toNat]!]).length≤maxLen) ?g6 (fP (((List.map c45 l12).length+(List.map c45 [b[i11.toNat]!]).length)*(40:Nat)≤(140737488355328:Nat)) ?g7 (fM c45 l12 [b[i11.toNat]!] (oR 3 (c45 b[i11.toNat]!) (oV 6 { rows:=some (List.map c45 (l12++[b[i11.toNat]!])) } z0))))))))))))) ?_;rotate_left 2
 refine bN<|sn<|rG cx [1,6,8] [1006] (tW 1 (i11+1) z0)<|sn<|nX ((i11+1,l12++[b[i11.toNat]!])) (show((↑b.length:Int)-(i11+1)).toNat <((↑b.length:Int)-i11).toNat from(by omega)) (show B5b a b (i11+1) (l12++[b[i11.toNat]!])from ?g8);rotate_left
 refine eX 2<|nE<|nE<|bH<|sn<|sq ?_
 have hl_19:=(A5w (A1k (leM (0:Int)) (1:Nat) l12))
 refine rG cx [4,5] [] (fT (con127 (l12) ((0:Int)) ?g9) (fT (con126 (A1k (leM (0:Int)) (1:Nat) l12) ?g10) (oA 1 (.sl (List.map c45 (A1k (leM (0:Int)) (1:Nat) l12))) (oA 2 (.tup [.sl (List.map c45 (K4 (A1k (leM (0:Int)) (1:Nat) l12)).1),.i .i64 ((K4 (A1k (leM (0:Int)) (1:Nat) l12)).2)]) z0)))) ?_;rotate_left 2
 refine sn<|rT<|qR (.tup [.sl (List.map c45 (K4 (A1k (leM (0:Int)) (1:Nat) l12)).1),.i .i64 ((K4 (A1k (leM (0:Int)) (1:Nat) l12)).2)]) (B6.tup (ZLe.cons (B6.eq (show AV.sl (List.map c45 (K4 (A1k (leM (0:Int)) (1:Nat) l12)).1)=AV.sl (List.map c45 (D9 a b).1)from ?g12)) (ZLe.cons (B6.eq (show AV.i .i64 (K4 (A1k (leM (0:Int)) (1:Nat) l12)).2=AV.i .i64 (D9 a b).2 from ?g11)) ZLe.nil)));rotate_left 2
 revert hh2;rotate_left
 revert hh2;rotate_left
 revert hh2;rotate_left
 revert hh2 i3 l4 h6 h7 h8 h9 h10;rotate_left
 revert hh2 i3 l4 h6 h7 h8 h9 h10;rotate_left
 revert hh2 i3 l4 h6 h7 h8 h9 h10;rotate_left
 revert hh2 i3 l4 h6 h7 h8 h9 h10 i11 l12 h14 h15 h16 h17 h18;rotate_left
 revert hh2 i3 l4 h6 h7 h8 h9 h10 i11 l12 h14 h15 h16 h17 h18;rotate_left
 revert hh2 i3 l4 h6 h7 h8 h9 h10 i11 l12 h14 h15 h16 h17 h18;rotate_left
 clear hl_19;revert hh2 i3 l4 h6 h7 h8 h9 h10 i11 l12 h14 h15 h16 h17 h18;rotate_left
 clear hl_19;revert hh2 i3 l4 h6 h7 h8 h9 h10 i11 l12 h14 h15 h16 h17 h18;rotate_left
 clear hl_19;revert hh2 i3 l4 h6 h7 h8 h9 h10 i11 l12 h14 h15 h16 h17 h18;rotate_left
 clear hl_19;revert hh2 i3 l4 h6 h7 h8 h9 h10 i11 l12 h14 h15 h16 h17 h18;rotate_left
 case g0=>intro h;rw[A4k h]
 case g1=>intro h;rw[A4k h];rfl
 case g2=>intro h;exact⟨by omega,by omega,by simp,by simp [A1m]⟩
 case g3=>intro h i l h0 h1 h2 h3 h4;have:=A0s h;simp only [List.length_map,List.length_cons,List.length_nil];omega
 case g4=>intro h i l h0 h1 h2 h3 h4;exact⟨by omega,by omega,by simp;omega,by unfold A1m at *;rw[h3,C8 h0 h4]⟩
 case g5=>intro h i l h0 h1 h2 h3 h4;exact⟨by omega,by omega,by omega,by unfold A2t;unfold A1m at h3;rw[h3,List.take_of_length_le (by omega)];simp⟩
 case g6=>intro h i l h0 h1 h2 h3 h4 j m k0 k1 k2 k3 k4;have:=A0s h;simp only [List.length_map,List.length_cons,List.length_nil,Go.maxLen];omega
 case g7=>intro h i l h0 h1 h2 h3 h4 j m k0 k1 k2 k3 k4;have:=A0s h;simp only [List.length_map,List.length_cons,List.length_nil];omega
 case g8=>intro h i l h0 h1 h2 h3 h4 j m k0 k1 k2 k3 k4;exact⟨by omega,by omega,by rw[List.length_append];simp only [List.length_cons,List.length_nil];omega,B1k k0 k4 k3⟩
 case g9=>intro h i l h0 h1 h2 h3 h4 j m k0 k1 k2 k3 k4;have:=A0s h;omega
 case g10=>intro h i l h0 h1 h2 h3 h4 j m k0 k1 k2 k3 k4;have:=A0s h;rw[Bo2];omega
 case g11=>intro h i l h0 h1 h2 h3 h4 j m k0 k1 k2 k3 k4;rw[Ai3 h k4 k3]
 case g12=>intro h i l h0 h1 h2 h3 h4 j m k0 k1 k2 k3 k4;rw[Ai3 h k4 k3]
end Go.Proofs.YtaiepnaokhpmcaaGreat
