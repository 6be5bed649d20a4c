/- Ks: records: slices.SortFunc, CompactFunc, Grow and Concat at them, keep.Sort, keep.Union. Conditions: sizes. Kt: records in the documents: ordered, Union, Bars. Conditions: sizes. Lpa: entries in form, in plain words (first part). Conditions: none. Tx: tomb: Join, Live, Past, Clash, and the document's. Conditions: sizes. Ty: the document's tomb: Join, Live, Past, Clash. Conditions: sizes. Lp: entries in form, in plain words. Conditions: none. Tn: what the tomb's calls come to, in plain words. Conditions: none. Za: the laws of the tomb: what they share; TombForms, TombJoins, TombClashes. Conditions: sizes. Zb: the law TombUnion, TombOrderless. Conditions: sizes. EN: from a law's contract to its row: 'for every input it answers true, and the input reads as it did'. Conditions: none named, none written. Wx: what is handed in, by its types. Conditions: none. Wy: what is handed in, by its types (acts, facts). Conditions: none. Qk: what is handed in, small (facts). Conditions: none. Qj: facts of the program that every row asks for, each by itself. Conditions: none. -/
import Derived.Below
import Derived.OwnWalk
import Derived.WalkKit
import Derived.KernelRfl
import Derived.Laws.MakeOwn
import Derived.Laws.OwnMore
import Derived.Laws.Slices
import Derived.Laws.CopyOwn
import Derived.Laws.AppendOwnNone
import Derived.Laws.Rows
import Derived.Orders
import Derived.Test.YtaiepnaokhpmcaaGreatProg
import Derived.DataReads
import Derived.ChangeOld
import Derived.DataElems
import Derived.SizedLaws
import Derived.ChangeKeysEq
import Derived.Sort.LotA
import Derived.Shelf.SlSortFuncK.RowK2
import Derived.Shelf.SlSortCmp.NoneTotal
import Derived.Lib.Walk
import Derived.Shelf.SlLaysE0
import Derived.Shelf.RegionOpenPlain
import Derived.Deep.LoopGhost
import Derived.Lib.SliceRun
import Derived.Lib.Bytealg
import Derived.Shelf.SlSortFuncK.SWK
import Derived.Deep.Cut
import Derived.Deep.CutRange
import Derived.Deep.DeepCutAuto
import Derived.Lib.ReflectliteSwap
import Derived.Laws.Externs
import Derived.Lib.ReflectliteSlice
import Derived.Calls
import Derived.Lib.AppendZeros
import Derived.ProofKit
import Derived.JoinedCond
import Derived.Deep.CondSized
import Derived.Test.YtaiepnaokhpmcaaGreatRows
import Derived.Test.YtaiepnaokhpmcaaGreatZt5
set_option linter.unusedVariables false
set_option linter.unusedSimpArgs false
namespace Go.Proofs.YtaiepnaokhpmcaaGreat
open Go.E
set_option maxRecDepth 100000
set_option maxHeartbeats 4000000
open Go Go.Sort Go.RowKit Go.Lib Go.Shelf Go.Proofs
def renSk:Go.Shelf.Ren:=⟨fun
 | 6=>165 | 14=>197 | 15=>198 | 20=>222 | 21=>223 | 22=>224
 | 23=>225 | 24=>226 | 25=>227 | 26=>228 | 27=>229 | 28=>230 | 29=>231
 | 46=>243 | 47=>244 | 48=>245 | 49=>246 | 50=>247 | 57=>251 | n=>n,
 fun | 0=>0 | 3=>3 | 4=>4 | 5=>5 | 9=>9 | 22=>27 | 24=>81 | 25=>129 | 39=>160 | 45=>222 | 46=>223 | 50=>127 | 53=>229 | 55=>78 | 66=>238 | 70=>242 | 76=>245 | 77=>111 | n=>n,
 fun n=>n⟩
theorem laysSk:Go.Proofs.SlLaysF0.n6 Tryz.prog renSk:={
 mixed:=(by kernel_rfl),
 f6:=⟨Tryz.f165.name,by decide,Tryz.func165.trans (congrArg some (by kernel_rfl))⟩,
 f14:=⟨Tryz.f197.name,by decide,Tryz.func197.trans (congrArg some (by kernel_rfl))⟩,
 f15:=Tryz.func198.trans (congrArg some (by kernel_rfl)),
 f20:=⟨Tryz.f222.name,by decide,Tryz.func222.trans (congrArg some (by kernel_rfl))⟩,
 f21:=⟨Tryz.f223.name,by decide,Tryz.func223.trans (congrArg some (by kernel_rfl))⟩,
 f22:=⟨Tryz.f224.name,by decide,Tryz.func224.trans (congrArg some (by kernel_rfl))⟩,
 f23:=⟨Tryz.f225.name,by decide,Tryz.func225.trans (congrArg some (by kernel_rfl))⟩,
 f24:=⟨Tryz.f226.name,by decide,Tryz.func226.trans (congrArg some (by kernel_rfl))⟩,
 f25:=⟨Tryz.f227.name,by decide,Tryz.func227.trans (congrArg some (by kernel_rfl))⟩,
 f26:=⟨Tryz.f228.name,by decide,Tryz.func228.trans (congrArg some (by kernel_rfl))⟩,
 f27:=⟨Tryz.f229.name,by decide,Tryz.func229.trans (congrArg some (by kernel_rfl))⟩,
 f28:=Tryz.func230.trans (congrArg some (by kernel_rfl)),
 f29:=Tryz.func231.trans (congrArg some (by kernel_rfl)),
 f46:=⟨Tryz.f243.name,by decide,Tryz.func243.trans (congrArg some (by kernel_rfl))⟩,
 f47:=Tryz.func244.trans (congrArg some (by kernel_rfl)),
 f48:=Tryz.func245.trans (congrArg some (by kernel_rfl)),
 f49:=⟨Tryz.f246.name,by decide,Tryz.func246.trans (congrArg some (by kernel_rfl))⟩,
 f50:=⟨Tryz.f247.name,by decide,Tryz.func247.trans (congrArg some (by kernel_rfl))⟩,
 f57:=⟨Tryz.f251.name,by decide,Tryz.func251.trans (congrArg some (by kernel_rfl))⟩,
 t0:=Tryz.underlying0,a0:=Tryz.isAgg0,z0:=Tryz.sizeOf0,v0:=Tryz.zeroValue0,
 t3:=Tryz.underlying3,a3:=Tryz.isAgg3,z3:=Tryz.sizeOf3,v3:=Tryz.zeroValue3,
 t4:=Tryz.underlying4,a4:=Tryz.isAgg4,z4:=Tryz.sizeOf4,v4:=Tryz.zeroValue4,
 t5:=Tryz.underlying5,a5:=Tryz.isAgg5,z5:=Tryz.sizeOf5,v5:=Tryz.zeroValue5,
 t9:=Tryz.underlying9,a9:=Tryz.isAgg9,z9:=Tryz.sizeOf9,v9:=Tryz.zeroValue9,
 t22:=Tryz.underlying27,a22:=Tryz.isAgg27,z22:=Tryz.sizeOf27,v22:=Tryz.zeroValue27,
 t25:=Tryz.underlying129,a25:=Tryz.isAgg129,z25:=Tryz.sizeOf129,v25:=Tryz.zeroValue129,
 t39:=Tryz.underlying160,a39:=Tryz.isAgg160,z39:=Tryz.sizeOf160,v39:=Tryz.zeroValue160,
 t45:=Tryz.underlying222,a45:=Tryz.isAgg222,z45:=Tryz.sizeOf222,v45:=Tryz.zeroValue222,
 t46:=Tryz.underlying223,a46:=Tryz.isAgg223,z46:=Tryz.sizeOf223,v46:=Tryz.zeroValue223,
 t50:=Tryz.underlying127,a50:=Tryz.isAgg127,z50:=Tryz.sizeOf127,v50:=Tryz.zeroValue127,
 t53:=Tryz.underlying229,a53:=Tryz.isAgg229,z53:=Tryz.sizeOf229,v53:=Tryz.zeroValue229,
 t55:=Tryz.underlying78,a55:=Tryz.isAgg78,z55:=Tryz.sizeOf78,v55:=Tryz.zeroValue78,
 t66:=Tryz.underlying238,a66:=Tryz.isAgg238,z66:=Tryz.sizeOf238,v66:=Tryz.zeroValue238,
 t70:=Tryz.underlying242,a70:=Tryz.isAgg242,z70:=Tryz.sizeOf242,v70:=Tryz.zeroValue242,
 t76:=Tryz.underlying245,a76:=Tryz.isAgg245,z76:=Tryz.sizeOf245,v76:=Tryz.zeroValue245,
 t77:=Tryz.underlying111,a77:=Tryz.isAgg111,z77:=Tryz.sizeOf111,v77:=Tryz.zeroValue111 }
theorem io165(l:List Record)(hn:F6 l)(hlen:l.length < 4611686018427387904) :
  Z1 Tryz.prog 165 106 none false 81 3 (l.map c81) ((A6w l).map c81):=by
 have h:=B1h (P:=Tryz.prog) (ρ:=renSk) (β:=Br8) (enc:=Bo0) (k:=3) laysSk ⟨_,Tryz.func165,by kernel_rfl,by kernel_rfl⟩ 106 81
  (fun args w=>O3 ⟨_,Tryz.func106,by kernel_rfl,by kernel_rfl⟩ w) (fun _=>by kernel_rfl) (fun _=>by kernel_rfl) (fun _=>rfl) Bd3 totRB
  (fun x y=>B47 x.1 y.1 (by have:=Y5 x.2;unfold szR;omega) (by have:=Y5 y.2;unfold szR;omega)) (l.map B1x) (by simpa using hlen)
 have e1:(l.map B1x).map Bo0=l.map c81:=by
  conv=>rhs;rw[← Az0 hn,List.map_map]
  rfl
 have e2:(B8w Bd3 (l.map B1x)).map Bo0=(A6w l).map c81:=by
  unfold A6w srtB
  rw[List.map_map]
  rfl
 rw[e1,e2]at h
 exact h
noncomputable def tiRc:TypeInfo:=(Tryz.prog.info? 81).get!
set_option maxHeartbeats 4000000 in
theorem B1l (n:Nat) (h0:0 < n) (hb:n*64≤140737488351232) (w:World):Calls Tryz.prog 168 #[.slice none 0 0,.int .i64 n] w fun e w' =>
  ∃ cap cells,e=.returned (.slice (some ⟨w.heap.size,0,none⟩) 0 cap)∧w'.heap[w.heap.size]?=some (.cells cells 81 (0,0))∧cells.size=cap*3∧cap≤maxLen∧Below w.heap.size w w':=by
 obtain⟨i,z,hi,hi1,hi2,hz,hzs⟩:∃(i:TypeInfo) (z:Value),Tryz.prog.info? 81=some i∧i.size=3∧i.bytes=64∧i.zero=some z∧z.cells.size=3 :=
  ⟨tiRc,tiRc.zero.get!,by kernel_rfl,by kernel_rfl,by kernel_rfl,by kernel_rfl,by kernel_rfl⟩
 have happ:=Lib.run_append_nil_zeros (P:=Tryz.prog) w 27 3 27 81 i z .i64 .i64 Tryz.underlying27 Tryz.underlying3 hi hz n h0 (by omega) (by omega) (by rw[hi2];omega)
 generalize hcap:grownCap w n 0 81=cap2 at happ
 have hcapge:n≤cap2:=by rw[← hcap];exact grownCap_ge w _ 0 81
 have hcaple:cap2≤maxLen:=by rw[← hcap];exact grownCap_le_maxLen w _ 0 81 (by unfold maxLen;omega)
 generalize hZ:(Builtin.zeroCells z.cells n++Builtin.zeroCells z.cells (cap2-n))=Z at happ
 have hZs:Z.size=cap2*3:=by rw[← hZ];simp [size_zeroCells,hzs];omega
 clear hcap hZ
 go_enter Tryz.func168,Tryz.ntmps168
 go_wp2_with (at_builtin;refine Lib.wpList_append_run _ rfl _ _ _ _ rfl _ _ rfl rfl _ _ happ ?_)
 go_ret
 exact⟨cap2,Z,rfl,heap_alloc_new w _,hZs,hcaple,⟨rfl,rfl,rfl,by simp,fun k hk=>Below.heap_alloc w _ k hk⟩⟩
set_option maxHeartbeats 4000000 in
theorem B1m (w:World):Calls Tryz.prog 168 #[.slice none 0 0,.int .i64 0] w fun e w'=>e=.returned (.slice none 0 0)∧w'=w:=by
 go_enter Tryz.func168,Tryz.ntmps168
 go_wp2
 go_ret
 exact⟨rfl,rfl⟩
theorem con168(n:Int)(h0:0≤n)(hb:n*64≤140737488351232):A45 Tryz.prog 168 [.nl,.i .i64 n] 81 (.row 3 (([]:List Record).map c81)):=by
 refine⟨⟨_,Tryz.func168,by kernel_rfl,by kernel_rfl⟩,fun w S0 vs hS hl hv=>?_⟩
 obtain⟨v,u,rfl⟩:∃ v u,vs=[v,u]:=by
  match vs,hl with
  | [v,u],_=>exact⟨v,u,rfl⟩
 have h1:=hv 0 _ v rfl rfl
 have h2:=hv 1 _ u rfl rfl
 cases h1
 cases h2
 by_cases hn:n=0
 ·subst hn
  refine(B1m w).mono ?_
  rintro e w' ⟨rfl,rfl⟩
  exact⟨_,rfl,⟨fun r hr=>by simp at hr,[],World.ownsRow_nil _ _ _ _,fun u hu=>by simp at hu,fun j b u hb=>by simp at hb⟩,Below.refl _ _⟩
 ·obtain⟨m,rfl⟩:∃ m:Nat,n=m:=⟨n.toNat,by omega⟩
  refine(B1l m (by omega) (by omega) w).mono ?_
  rintro e w' ⟨cap,cells,rfl,g1,g2,g3,g4⟩
  exact⟨_,rfl,⟨fun r hr=>by simp at hr,[],⟨by simp,.inr ⟨w.heap.size,cap,cells,rfl,Nat.le_refl _,g1,Nat.zero_le _,g3,g2,by simp⟩⟩,fun u hu=>by simp at hu,fun j b u hb=>by simp at hb⟩,g4⟩
def c27(l:List Record):List AV:=[.sl (l.map c81)]
theorem con123(ss:List (List Record))(hb:ss.flatten.length*64≤140737488351232):A45 Tryz.prog 123 [.sl (ss.map c27)] 81 (.row 3 (ss.flatten.map c81)) :=
 by
 refine A20 0 (c27) (ss) (by kernel_rfl) Tryz.func123 (by kernel_rfl) fun hl_0=>A8f A8 (by kernel_rfl) (.tmp 2) 36 Tryz.func123 (by kernel_rfl) (by kernel_rfl) ?_
 intro e0 cx
 refine sq<|rG cx [0] [] z0<|sn<|sq<|rG cx [0,3] [] z0<|sn<|sq<|sq<|rG cx [0,3,9,10,11] [] (tL 1 c27 ss z0)<|sn<|bL 0<|sL (X:=Int×Int) (fun x=>⟨[(0,.sl (List.map c27 ss)),(3,.i .i64 (x.1)),(9,.sl (List.map c27 ss)),(10,.i .i64 ((↑ss.length:Int))),(11,.i .i64 (x.2))],[]⟩) (fun x ↦ Bd4 ss x.1 x.2) (fun x ↦ A3v ss x.1 x.2) [0,3,9,10,11] [] (((0:Int),(0:Int))) (show A3v ss (0:Int) (0:Int)from(by exact A68 ss)) ?_
 rintro⟨n0,i1⟩ h_2
 obtain⟨hh3,hh4,hh5,hh6,h7⟩:0≤i1∧i1≤(↑ss.length:Int)∧0≤n0∧n0≤140737488351232∧B5y ss n0 i1:=h_2
 refine rE cx [0,3,9,10,11,12] [] (zB 0 (i1 <(↑ss.length:Int))) (fun h8=>?_) fun h8=>?_
 refine sK<|sn<|sq<|bL 1<|sq<|rG cx [0,3,9,10,11,5] [] (fA (0≤i1) (fG c27 ss i1.toNat (fR 1 (oR 0 (c27 ss[i1.toNat]!) z0))))<|sn<|sq<|rG cx [0,3,9,10,11] [] (tL 2 c81 ss[i1.toNat]! (tT 3 (B4 (by omega) (by have:=Aq3 hh3 h8 h7;omega):AV.i .i64 (IntKind.i64.wrap (n0+(↑ss[i1.toNat]!.length:Int)))=AV.i .i64 (n0+(↑ss[i1.toNat]!.length:Int))) z0)) ?_
 refine sn<|sq<|rG cx [0,3,9,10,11,20] [] (tB 1 (n0+(↑ss[i1.toNat]!.length:Int) <(0:Int)) z0)<|sn<|A1z (n0+(↑ss[i1.toNat]!.length:Int) <(0:Int)) (by kernel_rfl) (by kernel_rfl) (fun h9=>absurd h9 (by omega)) (fun h9=>?_)
 refine sK<|bN<|sn<|rG cx [0,3,9,10,11] [] (tW 0 (i1+1) z0)<|sn<|nX ((n0+(↑ss[i1.toNat]!.length:Int),i1+1)) (show((↑ss.length:Int)-(i1+1)).toNat <((↑ss.length:Int)-i1).toNat from(by omega)) (show A3v ss (n0+(↑ss[i1.toNat]!.length:Int)) (i1+1)from(by exact A69 (by omega) hh3 h8 hh5 h7))
 refine eX 0<|nE<|nE<|bH<|sn<|sq<|rG cx [0,6] [24] (fT (con168 (n0) (by(with_reducible assumption)) (by have:=B58 h7;omega)) (oV 1 { val:=some (.own (81:Nat) (3:Nat)),rows:=some (List.map c81 []) } z0)) ?_
 refine sn<|sq<|sq<|rG cx [6,25,26,27] [24] (tL 1 c27 ss z0)<|sn<|bL 2<|sL (X:=Int×List Record) (fun x=>⟨[(6,.own 24 0),(25,.sl (List.map c27 ss)),(26,.i .i64 ((↑ss.length:Int))),(27,.i .i64 (x.1))],[(24,⟨0,81,.row 3 (List.map c81 x.2)⟩)]⟩) (fun x ↦ Bd5 ss x.1 x.2) (fun x ↦ A67 ss x.1 x.2) [6,25,26,27] [24] (((0:Int),[])) (show A67 ss (0:Int) []from(by exact⟨by omega,by omega,by simp [A66]⟩)) ?_
 rintro⟨i10,l11⟩ h_12
 obtain⟨h13,h14,h15⟩:0≤i10∧i10≤(↑ss.length:Int)∧A66 ss i10 l11:=h_12
 refine rE cx [6,25,26,27,28] [24] (zB 0 (i10 <(↑ss.length:Int))) (fun h16=>?_) fun h16=>?_
 refine sK<|sn<|sq<|bL 3<|sq<|rG cx [6,25,26,27,8] [24] (fA (0≤i10) (fG c27 ss i10.toNat (fR 1 (oR 0 (c27 ss[i10.toNat]!) z0))))<|sn<|rG cx [6,25,26,27] [24] (fR 81 (fR 3 (fR 3 (fX c81 ss[i10.toNat]! 3 (fP ((List.map c81 l11).length+(List.map c81 ss[i10.toNat]!).length≤maxLen) (by have:=A9q h13 h16 h15;simp only [List.length_map,Go.maxLen];omega) (fP (((List.map c81 l11).length+(List.map c81 ss[i10.toNat]!).length)*(64:Nat)≤(140737488355328:Nat)) (by have:=A9q h13 h16 h15;simp only [List.length_map];omega) (fM c81 l11 ss[i10.toNat]! (oV 2 { rows:=some (List.map c81 (l11++ss[i10.toNat]!)) } z0)))))))) ?_
 refine bN<|sn<|rG cx [6,25,26,27] [24] (tW 0 (i10+1) z0)<|sn<|nX ((i10+1,l11++ss[i10.toNat]!)) (show((↑ss.length:Int)-(i10+1)).toNat <((↑ss.length:Int)-i10).toNat from(by omega)) (show A67 ss (i10+1) (l11++ss[i10.toNat]!)from(by exact A6a h13 h16 h15))
 refine eX 2<|nE<|nE<|bH<|sn<|sq<|rG cx [2] [24] z0<|sn<|rT<|A3q (rows':=(List.map c81 l11)) .ret (.inr rfl) 2 24 0 (by kernel_rfl) (by kernel_rfl) (by kernel_rfl) (by rw[Ai1 h16 h15])
theorem Bd6(a b:Record)(ha:szR a)(hb:szR b):Con Tryz.prog 167 [.agg (c81 a),.agg (c81 b)] (.b (eqR a b)) :=
 by
 refine sC A8 [.tmp 4] 9 Tryz.func167 ?_
 intro e0 cx
 refine sq<|rG cx [2,3] [2,3] z0<|sn<|sq<|rG cx [4] [] (fT (B47 (a) (b) (by(with_reducible assumption)) (by(with_reducible assumption))) (tB 3 (C2 a b=0) (oA 2 (.i .i64 (C2 a b)) z0)))<|sn<|rT<|qR (.b (decide (C2 a b=0))) (.eq ?g0);rotate_left
 case g0=>exact rfl
def B94(l:List Record)(q k:Int)(m:List Record):Prop:=m=J0 (l.take q.toNat)++l.drop k.toNat∧k=((J0 (l.take q.toNat)).length:Int)
def Bo4(l:List Record)(k:Int)(m:List Record):Prop:=m=l∧1≤k∧k≤l.length∧∀ j:Nat,1≤j→(j:Int) < k→eqR l[j]! l[j-1]! = false
def decC1(l:List Record)(k:Int)(m:List Record):Nat:=(l.length-k).toNat
def B95(l:List Record)(k0:Int)(k k2:Int)(m:List Record):Prop:=1≤k2∧k0+k2≤l.length∧k0≤k∧k≤k0+k2-1∧m.length=l.length∧B94 l (k0+k2) k m
def decC2(l:List Record)(k0:Int)(k k2:Int)(m:List Record):Nat:=(l.length-k0-k2).toNat
theorem Ai4{out:List Record}{b:Go.E.Blk}{n m:Nat}(hb:b.k=.row m (out.map c81))(h:n < out.length):Go.E.rowAt b n (c81 out[n]!):=by
 unfold Go.E.rowAt
 rw[hb]
 exact F9 h
theorem A6b{l m:List Record}{q k:Int}(h:B94 l q k m){j:Nat}(h1:k≤j)(h2:j < l.length):m[j]! = l[j]!:=by
 obtain⟨e,hk⟩:=h
 have hlen:m.length=(J0 (l.take q.toNat)).length+(l.length-k.toNat):=by rw[e,List.length_append,List.length_drop]
 rw[getElem!_pos m j (by omega),getElem!_pos l j h2]
 simp only [e]
 rw[List.getElem_append_right (by omega),List.getElem_drop]
 congr 1
 omega
theorem Bo5{l m:List Record}{q k:Int}(h1:1≤q)(hq:q < l.length)(hk:k < l.length)(he:eqR l[q.toNat]! l[q.toNat-1]! = false)(h:B94 l q k m):B94 l (q+1) (k+1) (m.set k.toNat l[q.toNat]!):=by
 obtain⟨e,hl⟩:=h
 have hs:J0 (l.take (q+1).toNat)=J0 (l.take q.toNat)++[l[q.toNat]!]:=by
  unfold J0
  rw[show(q+1).toNat=q.toNat+1 by omega,A0q eqR (by omega) (by omega),he]
  rfl
 refine⟨?_,by rw[hs,List.length_append,List.length_singleton];omega⟩
 rw[hs,e,List.set_append_right _ _ (by omega),show k.toNat-(J0 (l.take q.toNat)).length=0 by omega,List.drop_eq_getElem_cons (show k.toNat < l.length by omega),show(k+1).toNat=k.toNat+1 by omega,List.append_assoc]
 rfl
theorem Bo6{l m:List Record}{q k:Int}(h1:1≤q)(hq:q < l.length)(he:eqR l[q.toNat]! l[q.toNat-1]! = true)(h:B94 l q k m):B94 l (q+1) k m:=by
 obtain⟨e,hl⟩:=h
 have hs:J0 (l.take (q+1).toNat)=J0 (l.take q.toNat):=by
  unfold J0
  rw[show(q+1).toNat=q.toNat+1 by omega,A0q eqR (by omega) (by omega),he]
  simp
 exact⟨by rw[hs];exact e,by rw[hs];exact hl⟩
theorem B96{l:List Record}{k:Int}(h1:1≤k)(hk:k < l.length)(h:∀ j:Nat,1≤j→(j:Int) < k→eqR l[j]! l[j-1]! = false)(he:eqR l[k.toNat]! l[(k-1).toNat]! = true):B94 l (k+1) k l:=by
 have hs:J0 (l.take (k+1).toNat)=l.take k.toNat:=by
  unfold J0
  rw[show(k+1).toNat=k.toNat+1 by omega,A0q eqR (by omega) (by omega),← show(k-1).toNat=k.toNat-1 by omega,he,A3i eqR l k.toNat (by omega) (fun j h1 h2=>h j h1 (by omega))]
  simp
 refine⟨by rw[hs,List.take_append_drop],by rw[hs,List.length_take];omega⟩
theorem cm_end{l m:List Record}{q k:Int}(hq:q=l.length)(h:B94 l q k m):m.take k.toNat=J0 l:=by
 obtain⟨e,hl⟩:=h
 rw[List.take_of_length_le (by omega)]at e hl
 rw[e,List.take_append_of_le_length (by omega),List.take_of_length_le (by omega)]
theorem cm_all{l:List Record}{k:Int}(hk:¬ k < l.length)(h:∀ j:Nat,1≤j→(j:Int) < k→eqR l[j]! l[j-1]! = false):l=J0 l:=by
 have:=A3i eqR l l.length (Nat.le_refl _) (fun j h1 h2=>h j h1 (by omega))
 rw[List.take_length]at this
 exact this.symm
theorem B97{l:List Record}(h:(l.length:Int) < 2):l=J0 l:=by
 match l,h with
 | [],_=>rfl
 | [a],_=>rfl
 | a :: b :: l,h=>simp only [List.length_cons]at h;omega
theorem A3j{α:Type}(c:α→List AV){m m':List α}{k:Int}(h0:0≤k)(h1:k≤m.length)(h:m'.length=m.length):((List.take ((none:Option Int).getD ((List.map c m).length:Int)-k).toNat (List.drop k.toNat (List.map c m'))).length:Int)=m.length-k:=by
 simp only [List.length_take,List.length_drop,List.length_map,Option.getD_none]
 omega
theorem Bo7(c:Record→List AV)(m:List Record):(none:Option Int).getD ((List.map c m).length:Int)=m.length:=by simp
theorem cm_cut{m X Y:List Record}{k:Nat}(h:k≤m.length):List.take k (List.take k m++X++Y)=m.take k:=by
 rw[List.append_assoc,List.take_append_of_le_length (by rw[List.length_take];omega),List.take_take,Nat.min_self]
theorem con166(l:List Record)(hs:B1u l)(hl:l.length≤1000000000000000):Bq9 Tryz.prog 166 81 3 (l.map c81) [.fn (.func 167) [] []] ((J0 l).map c81) :=
 by
 have nn:=fun m:List Record=>Bo7 c81 m
 refine B2r A8 (by kernel_rfl) (.tmp 4) 66 Tryz.func166 (by kernel_rfl) (by kernel_rfl) (by(with_reducible refine O8 (fun _=>?_) _);kernel_rfl) (by(with_reducible refine O8 (fun _=>?_) _);kernel_rfl) ?_
 intro e0 cx
 refine sq<|rG cx [0,1] [0] z0<|sn<|sq<|rD cx [0,1,10] [0] (tL 1 c81 l (zB 2 ((↑l.length:Int) <(2:Int)))) (fun hh0=>?_) fun hh0=>?_
 refine sq<|rG cx [4] [0] z0<|sn<|rT<|nR<|A3q (rows':=(List.map c81 l)) .ret (.inr rfl) 4 0 0 (by kernel_rfl) (by kernel_rfl) (by kernel_rfl) (by rw[← B97 hh0])
 refine sK<|sn<|sq<|sq<|rG cx [0,1,5] [0] z0<|sn<|bL 0<|sL (X:=Int×List Record) (fun x=>⟨[(0,.own 0 0),(1,.fn (Fn.func (167:FuncId)) [] []),(5,.i .i64 (x.1))],[(0,⟨0,81,.row 3 (List.map c81 x.2)⟩)]⟩) (fun x ↦ decC1 l x.1 x.2) (fun x ↦ Bo4 l x.1 x.2) [0,1,5] [0] (((1:Int),l)) (show Bo4 l (1:Int) l from(by exact⟨rfl,by omega,by omega,fun j h1 h2=>by omega⟩)) ?_
 rintro⟨k1,m2⟩ h_3
 obtain⟨hh4,hh5,h6,h7⟩:m2=l∧1≤k1∧k1≤(↑l.length:Int)∧∀(j:Nat),(1:Nat)≤j→(↑j:Int) < k1→eqR l[j]! l[j-(1:Nat)]! = false:=h_3
 refine sq<|rD cx [0,1,5,15] [0] (tL 2 c81 m2 (zB 3 (k1 <(↑m2.length:Int)))) (fun h8=>?_) fun h8=>?_
 refine sK<|sn<|sq<|bL 1<|sq<|rA cx [0,1,5,28] [0] (fO (0≤k1) (fP (k1.toNat <(List.map c81 m2).length) (by(first | omega | (simp only [List.length_map];omega))) (fR 3 (fP (E.rowAt { ver:=0,ty:=81,k:=BK.row (3) (List.map c81 m2):Blk } k1.toNat (c81 m2[k1.toNat]!)) (by subst hh4;exact Ai4 rfl (by omega)) (fP (0+(3:Nat)≤(c81 m2[k1.toNat]!).length) (by exact Nat.le_refl 3) (tW 7 (k1-1) (fO (0≤k1-1) (fP ((k1-1).toNat <(List.map c81 m2).length) (by(first | omega | (simp only [List.length_map];omega))) (fR 3 (fP (E.rowAt { ver:=0,ty:=81,k:=BK.row (3) (List.map c81 m2):Blk } (k1-1).toNat (c81 m2[(k1-1).toNat]!)) (by subst hh4;exact Ai4 rfl (by omega)) (fP (0+(3:Nat)≤(c81 m2[(k1-1).toNat]!).length) (by exact Nat.le_refl 3) (fT (Bd6 (m2[k1.toNat]!) (m2[(k1-1).toNat]!) (by subst hh4;exact hs _ (E9 (by omega))) (by subst hh4;exact hs _ (E9 (by omega)))) (oR 4 (c81 m2[k1.toNat]!) (oR 9 (c81 m2[(k1-1).toNat]!) (oA 10 (.b (eqR m2[k1.toNat]! m2[(k1-1).toNat]!)) z0))))))))))))))) ?_
 refine sn<|A1e (eqR m2[k1.toNat]! m2[(k1-1).toNat]!) (by kernel_rfl) (by kernel_rfl) (fun h9=>?_) (fun h9=>?_)
 refine sq<|rG cx [0,1,5,6] [0] (fO (0≤k1) (fP (k1≤none.getD (↑(List.map c81 m2).length:Int)) (by rw[nn];omega) (fP (none.getD (↑(List.map c81 m2).length:Int)≤(↑(List.map c81 m2).length:Int)) (by rw[nn,List.length_map];exact Int.le_refl _) (fP (k1 <(↑(List.map c81 m2).length:Int)) (by(first | omega | (simp only [List.length_map];omega))) (fR (some (3)) z0))))) ?_
 refine sn<|sq<|sq<|rG cx [0,1,5,6,7] [0] z0<|sn<|bL 2<|sL (X:=Int×Int×List Record) (fun x=>⟨[(0,.own 0 0),(1,.fn (Fn.func (167:FuncId)) [] []),(5,.i .i64 (x.1)),(6,.vw (0) (0) (k1.toNat) ((none.getD (↑(List.map c81 m2).length:Int)-k1).toNat)),(7,.i .i64 (x.2.1))],[(0,⟨0,81,.row 3 (List.map c81 x.2.2)⟩)]⟩) (fun x ↦ decC2 l k1 x.1 x.2.1 x.2.2) (fun x ↦ B95 l k1 x.1 x.2.1 x.2.2) [0,1,5,6,7] [0] ((k1,(1:Int),m2)) (show B95 l k1 k1 (1:Int) m2 from(by subst hh4;exact⟨by omega,by omega,by omega,by omega,rfl,B96 hh5 h8 h7 h9⟩)) ?_
 rintro⟨k10,k11,m12⟩ h_13
 obtain⟨h14,h15,h16,h17,h18,h19⟩:1≤k11∧k1+k11≤(↑l.length:Int)∧k1≤k10∧k10≤k1+k11-1∧m12.length=l.length∧B94 l (k1+k11) k10 m12:=h_13
 refine sq<|rD cx [0,1,5,6,7,35] [0] (zB 3 (k11 <(↑(List.take (none.getD (↑(List.map c81 m2).length:Int)-k1).toNat (List.drop k1.toNat (List.map c81 m12))).length:Int))) (fun h20=>?_) fun h20=>?_
 refine sK<|sn<|sq<|bL 3<|sq<|rA cx [0,1,5,6,7,49] [0] (fO (0≤k11) (fP (k11.toNat <(none.getD (↑(List.map c81 m2).length:Int)-k1).toNat) (by subst hh4;rw[A3j _ (by omega) h6 h18]at h20;rw[nn];omega) (fR 3 (fP (E.rowAt { ver:=0,ty:=81,k:=BK.row (3) (List.map c81 m12):Blk } (k1.toNat+k11.toNat) (c81 m12[k1.toNat+k11.toNat]!)) (by subst hh4;rw[A3j _ (by omega) h6 h18]at h20;exact Ai4 rfl (by omega)) (fP (0+(3:Nat)≤(c81 m12[k1.toNat+k11.toNat]!).length) (by exact Nat.le_refl 3) (tW 7 (k11-1) (fO (0≤k11-1) (fP ((k11-1).toNat <(none.getD (↑(List.map c81 m2).length:Int)-k1).toNat) (by subst hh4;rw[A3j _ (by omega) h6 h18]at h20;rw[nn];omega) (fR 3 (fP (E.rowAt { ver:=0,ty:=81,k:=BK.row (3) (List.map c81 m12):Blk } (k1.toNat+(k11-1).toNat) (c81 m12[k1.toNat+(k11-1).toNat]!)) (by subst hh4;rw[A3j _ (by omega) h6 h18]at h20;exact Ai4 rfl (by omega)) (fP (0+(3:Nat)≤(c81 m12[k1.toNat+(k11-1).toNat]!).length) (by exact Nat.le_refl 3) (fT (Bd6 (m12[k1.toNat+k11.toNat]!) (m12[k1.toNat+(k11-1).toNat]!) (by subst hh4;rw[A3j _ (by omega) h6 h18]at h20;rw[A6b h19 (by omega) (by omega)];exact hs _ (E9 (by omega))) (by subst hh4;rw[A3j _ (by omega) h6 h18]at h20;rw[A6b h19 (by omega) (by omega)];exact hs _ (E9 (by omega)))) (tT 11 (D3:(AV.b !eqR m12[k1.toNat+k11.toNat]! m12[k1.toNat+(k11-1).toNat]!)=AV.b (decide ¬eqR m12[k1.toNat+k11.toNat]! m12[k1.toNat+(k11-1).toNat]! = true)) (oR 4 (c81 m12[k1.toNat+k11.toNat]!) (oR 9 (c81 m12[k1.toNat+(k11-1).toNat]!) (oA 10 (.b (eqR m12[k1.toNat+k11.toNat]! m12[k1.toNat+(k11-1).toNat]!)) z0)))))))))))))))) ?_
 refine sn<|dC (¬eqR m12[k1.toNat+k11.toNat]! m12[k1.toNat+(k11-1).toNat]! = true) (fun h21=>?_) fun h21=>?_
 refine sq<|rG cx [0,1,5,6,7] [0] (fO (0≤k11) (fP (k11.toNat <(none.getD (↑(List.map c81 m2).length:Int)-k1).toNat) (by subst hh4;rw[A3j _ (by omega) h6 h18]at h20;rw[nn];omega) (fR 3 (fP (E.rowAt { ver:=0,ty:=81,k:=BK.row (3) (List.map c81 m12):Blk } (k1.toNat+k11.toNat) (c81 m12[k1.toNat+k11.toNat]!)) (by subst hh4;rw[A3j _ (by omega) h6 h18]at h20;exact Ai4 rfl (by omega)) (fP (0+(3:Nat)≤(c81 m12[k1.toNat+k11.toNat]!).length) (by exact Nat.le_refl 3) (fO (0≤k10) (fP (k10.toNat <(List.map c81 m12).length) (by(first | omega | (simp only [List.length_map];omega))) (fR 3 (fG c81 m12 k10.toNat (fR 3 (fP (0+(3:Nat)≤3) (by(first | omega | (simp only [List.length_map];omega))) (fP ((List.map c81 m12).set k10.toNat (List.take (0) (c81 m12[k10.toNat]!)++E0 (AV.agg [AV.s m12[k1.toNat+k11.toNat]!.sku,AV.sl (List.map c3 m12[k1.toNat+k11.toNat]!.past.vec),AV.sl (List.map B5 m12[k1.toNat+k11.toNat]!.past.cloud)])++List.drop (0+(3:Nat)) (c81 m12[k10.toNat]!))=List.map c81 (m12.set k10.toNat m12[k1.toNat+k11.toNat]!)) (by(with_reducible refine A37 ?_;kernel_rfl)) (oR 5 (c81 m12[k1.toNat+k11.toNat]!) (oV 7 { row:=(c81 m12[k10.toNat]!),rows:=some (List.map c81 (m12.set k10.toNat m12[k1.toNat+k11.toNat]!)) } z0)))))))))))))) ?_
 refine sn<|rG cx [0,1,5,6,7] [0] (tW 1 (k10+1) z0)<|bN<|sn<|rG cx [0,1,5,6,7] [0] (tW 1 (k11+1) z0)<|sn<|nX ((k10+1,k11+1,m12.set k10.toNat m12[k1.toNat+k11.toNat]!)) (show((↑l.length:Int)-k1-(k11+1)).toNat <((↑l.length:Int)-k1-k11).toNat from(by subst hh4;rw[A3j _ (by omega) h6 h18]at h20;omega)) (show B95 l k1 (k10+1) (k11+1) (m12.set k10.toNat m12[k1.toNat+k11.toNat]!)from ?g23);rotate_left
 refine sK<|bN<|sn<|rG cx [0,1,5,6,7] [0] (tW 1 (k11+1) z0)<|sn<|nX ((k10,k11+1,m12)) (show((↑l.length:Int)-k1-(k11+1)).toNat <((↑l.length:Int)-k1-k11).toNat from(by subst hh4;rw[A3j _ (by omega) h6 h18]at h20;omega)) (show B95 l k1 k10 (k11+1) m12 from ?g25);rotate_left
 refine eX 2<|nE<|nE<|bH<|sn<|sq<|rG cx [0,5] [0] (fO (0≤k10) (fP (k10≤none.getD (↑(List.map c81 m12).length:Int)) (by rw[nn];omega) (fP (none.getD (↑(List.map c81 m12).length:Int)≤(↑(List.map c81 m12).length:Int)) (by rw[nn,List.length_map];exact Int.le_refl _) (fP (k10 <(↑(List.map c81 m12).length:Int)) (by(first | omega | (simp only [List.length_map];omega))) (fR (some (3)) (fR 3 (fR 3 (fP (ZLe [AV.s { data:=#[]:ByteArray },AV.nl,AV.nl] [AV.s { sku:={ data:=#[]:ByteArray },past:={ vec:=[],cloud:=[]:Past }:Record }.sku,AV.sl (List.map c3 { sku:={ data:=#[]:ByteArray },past:={ vec:=[],cloud:=[]:Past }:Record }.past.vec),AV.sl (List.map B5 { sku:={ data:=#[]:ByteArray },past:={ vec:=[],cloud:=[]:Past }:Record }.past.cloud)]) (by exact ZLe.cons (B6.refl _) (ZLe.cons B6.nl (ZLe.cons B6.nl ZLe.nil))) (fP ((0:Nat) <(none.getD (↑(List.map c81 m12).length:Int)-k10).toNat) (by rw[nn];omega) (fP (k10.toNat+(none.getD (↑(List.map c81 m12).length:Int)-k10).toNat≤(List.map c81 m12).length) (by rw[nn,List.length_map];omega) (fP (List.take k10.toNat (List.map c81 m12)++List.replicate (none.getD (↑(List.map c81 m12).length:Int)-k10).toNat [AV.s { sku:={ data:=#[]:ByteArray },past:={ vec:=[],cloud:=[]:Past }:Record }.sku,AV.sl (List.map c3 { sku:={ data:=#[]:ByteArray },past:={ vec:=[],cloud:=[]:Past }:Record }.past.vec),AV.sl (List.map B5 { sku:={ data:=#[]:ByteArray },past:={ vec:=[],cloud:=[]:Past }:Record }.past.cloud)]++List.drop (k10.toNat+(none.getD (↑(List.map c81 m12).length:Int)-k10).toNat) (List.map c81 m12)=List.map c81 (List.take k10.toNat m12++List.replicate (none.getD (↑(List.map c81 m12).length:Int)-k10).toNat { sku:={ data:=#[]:ByteArray },past:={ vec:=[],cloud:=[]:Past }:Record }++List.drop (k10.toNat+(none.getD (↑(List.map c81 m12).length:Int)-k10).toNat) m12)) (by(with_reducible refine Bf1 ?_;kernel_rfl)) (oV 3 { row:=[.s ({ sku:={ data:=#[]:ByteArray },past:={ vec:=[],cloud:=[]:Past }:Record }.sku),.sl (List.map c3 { sku:={ data:=#[]:ByteArray },past:={ vec:=[],cloud:=[]:Past }:Record }.past.vec),.sl (List.map B5 { sku:={ data:=#[]:ByteArray },past:={ vec:=[],cloud:=[]:Past }:Record }.past.cloud)],rows:=some (List.map c81 (List.take k10.toNat m12++List.replicate (none.getD (↑(List.map c81 m12).length:Int)-k10).toNat { sku:={ data:=#[]:ByteArray },past:={ vec:=[],cloud:=[]:Past }:Record }++List.drop (k10.toNat+(none.getD (↑(List.map c81 m12).length:Int)-k10).toNat) m12)) } z0)))))))))))) ?_
 refine sn<|sq<|rG cx [4] [0] (fR (0:Int) (fO (0≤k10) (fP (k10≤(↑(List.map c81 (List.take k10.toNat m12++List.replicate (none.getD (↑(List.map c81 m12).length:Int)-k10).toNat { sku:={ data:=#[]:ByteArray },past:={ vec:=[],cloud:=[]:Past }:Record }++List.drop (k10.toNat+(none.getD (↑(List.map c81 m12).length:Int)-k10).toNat) m12)).length:Int)) (by rw[List.length_map,List.length_append,List.length_append,List.length_take];omega) (fR (some (3)) (fP (List.take k10.toNat (List.map c81 (List.take k10.toNat m12++List.replicate (none.getD (↑(List.map c81 m12).length:Int)-k10).toNat { sku:={ data:=#[]:ByteArray },past:={ vec:=[],cloud:=[]:Past }:Record }++List.drop (k10.toNat+(none.getD (↑(List.map c81 m12).length:Int)-k10).toNat) m12))=List.map c81 (List.take k10.toNat (List.take k10.toNat m12++List.replicate (none.getD (↑(List.map c81 m12).length:Int)-k10).toNat { sku:={ data:=#[]:ByteArray },past:={ vec:=[],cloud:=[]:Past }:Record }++List.drop (k10.toNat+(none.getD (↑(List.map c81 m12).length:Int)-k10).toNat) m12))) (by(with_reducible exact List.map_take.symm)) (oV 2 { rows:=some (List.map c81 (List.take k10.toNat (List.take k10.toNat m12++List.replicate (none.getD (↑(List.map c81 m12).length:Int)-k10).toNat { sku:={ data:=#[]:ByteArray },past:={ vec:=[],cloud:=[]:Past }:Record }++List.drop (k10.toNat+(none.getD (↑(List.map c81 m12).length:Int)-k10).toNat) m12))),flat:=true } z0)))))) ?_
 refine sn<|rT<|bR<|nR<|nR<|bR<|nR<|A3q (rows':=(List.map c81 (List.take k10.toNat (List.take k10.toNat m12++List.replicate (none.getD (↑(List.map c81 m12).length:Int)-k10).toNat { sku:={ data:=#[]:ByteArray },past:={ vec:=[],cloud:=[]:Past }:Record }++List.drop (k10.toNat+(none.getD (↑(List.map c81 m12).length:Int)-k10).toNat) m12)))) .ret (.inr rfl) 4 0 0 (by kernel_rfl) (by kernel_rfl) (by kernel_rfl) ?g32;rotate_left
 refine sK<|bN<|sn<|rG cx [0,1,5] [0] (tW 1 (k1+1) z0)<|sn<|nX ((k1+1,m2)) (show((↑l.length:Int)-(k1+1)).toNat <((↑l.length:Int)-k1).toNat from(by subst hh4;omega)) (show Bo4 l (k1+1) m2 from ?g34);rotate_left
 refine eX 0<|nE<|nE<|bH<|sn<|sq<|rG cx [4] [0] z0<|sn<|rT<|A3q (rows':=(List.map c81 m2)) .ret (.inr rfl) 4 0 0 (by kernel_rfl) (by kernel_rfl) (by kernel_rfl) (by subst hh4;rw[← cm_all h8 h7])
 case g23 =>
  subst hh4
  rw[A3j _ (by omega) h6 h18]at h20
  rw[A6b h19 (by omega) (by omega),A6b h19 (by omega) (by omega)]at h21
  rw[A6b h19 (by omega) (by omega)]
  have e1:k1.toNat+k11.toNat=(k1+k11).toNat:=by omega
  have e2:k1.toNat+(k11-1).toNat=(k1+k11).toNat-1:=by omega
  rw[e1,e2]at h21
  rw[e1]
  refine⟨by omega,by omega,by omega,by omega,by rw[List.length_set];exact h18,?_⟩
  rw[show k1+(k11+1)=k1+k11+1 by omega]
  exact Bo5 (by omega) (by omega) (by omega) (by simpa using h21) h19
 case g25 =>
  subst hh4
  rw[A3j _ (by omega) h6 h18]at h20
  rw[A6b h19 (by omega) (by omega),A6b h19 (by omega) (by omega)]at h21
  have e1:k1.toNat+k11.toNat=(k1+k11).toNat:=by omega
  have e2:k1.toNat+(k11-1).toNat=(k1+k11).toNat-1:=by omega
  rw[e1,e2]at h21
  refine⟨by omega,by omega,by omega,by omega,h18,?_⟩
  rw[show k1+(k11+1)=k1+k11+1 by omega]
  exact Bo6 (by omega) (by omega) (Classical.not_not.1 h21) h19
 case g32 =>
  subst hh4
  rw[A3j _ (by omega) h6 h18]at h20
  rw[cm_cut (by omega),cm_end (by omega) h19]
 case g34 =>
  subst hh4
  refine⟨rfl,by omega,by omega,fun j hj1 hj2=>?_⟩
  by_cases c:j=k1.toNat
  ·subst c;rw[← show(k1-1).toNat=k1.toNat-1 by omega];exact h9
  ·exact h7 j hj1 (by omega)
theorem B98(l:List Record):(A6w l).length=l.length:=by
 unfold A6w srtB
 rw[List.length_map,(R4 Bd3 (l.map B1x)).length_eq,List.length_map]
theorem Aq4{r:Record}:Ai0 r=true↔¬(¬ r.sku=noneS∧¬ U0 r.sku=true):=by
 unfold Ai0
 rw[Bool.or_eq_true,decide_eq_true_iff]
 constructor
 ·rintro(h | h) ⟨h1,h2⟩
  ·exact h1 h
  ·exact h2 h
 ·intro h
  by_cases c:r.sku=noneS
  ·exact .inl c
  ·exact .inr (Classical.byContradiction fun k=>h ⟨c,k⟩)
theorem Az3{rs:List Record}{i:Int}(h0:0≤i)(hi:i < rs.length)(h:¬ rs[i.toNat]!.sku=noneS∧¬ U0 rs[i.toNat]!.sku=true):I5 rs=([],5):=by
 unfold I5
 rw[if_neg]
 intro k
 exact Aq4.1 (List.all_eq_true.1 k _ (E9 (by omega))) h
theorem B5c{rs:List Record}{i:Int}(hi:¬ i < rs.length)(h:∀ j:Nat,(j:Int) < i→Ai0 rs[j]! = true):I5 rs=(E5 (lsR rs),0):=by
 unfold I5
 rw[if_pos]
 rw[List.all_eq_true]
 intro r hr
 obtain⟨j,hj,rfl⟩:=List.mem_iff_getElem.1 hr
 have:=h j (by omega)
 rwa [getElem!_pos rs j hj]at this
theorem B5d{rs:List Record}{i:Int}(h0:0≤i)(hi:i < rs.length):lsR (rs.take (i+1).toNat)=lsR (rs.take i.toNat)++(if G0 rs[i.toNat]!.past=0 then[]else[clnR rs[i.toNat]!]):=by
 unfold lsR
 rw[← C8 h0 hi,List.filter_append,List.map_append]
 congr 1
 generalize rs[i.toNat]! = r
 by_cases h:G0 r.past=0
 ·rw[if_pos h,List.filter_cons_of_neg (by rw[decide_eq_true_iff];exact fun k=>k h)];rfl
 ·rw[if_neg h,List.filter_cons_of_pos (by rw[decide_eq_true_iff];exact h)];rfl
def B99(rs:List Record)(i:Int)(out:List Record):Prop:=0≤i∧i≤rs.length∧(out.length:Int)≤i∧(∀ j:Nat,(j:Int) < i→Ai0 rs[j]! = true)∧out=lsR (rs.take i.toNat)
def decKs(rs:List Record)(i:Int)(out:List Record):Nat:=(rs.length-i).toNat
theorem con122(rs:List Record)(hb:B1u rs)(hl:rs.length*64≤140737488350000):Con Tryz.prog 122 [.sl (rs.map c81)] (.tup [.sl ((I5 rs).1.map c81),.i .i64 (I5 rs).2]) :=
 by
 refine lN 0 c81 (rs) Tryz.func122 fun hl_0=>sC A8 [.tmp 2,.tmp 3] 36 Tryz.func122 ?_
 intro e0 cx
 refine sq<|rG cx [0] [] z0<|sn<|sq<|rG cx [0,4] [] z0<|sn<|sq<|sq<|rG cx [4,7,8,9] [] (tL 1 c81 rs z0)<|sn<|bL 0<|E6 4 1004 81 3 (σ':=⟨[(4,.own 1004 0),(7,.sl (List.map c81 rs)),(8,.i .i64 ((↑rs.length:Int))),(9,.i .i64 ((0:Int)))],[(1004,⟨0,81,.row 3 (List.map c81 [])⟩)]⟩) (by kernel_rfl)<|sL (X:=Int×List Record) (fun x=>⟨[(4,.own 1004 0),(7,.sl (List.map c81 rs)),(8,.i .i64 ((↑rs.length:Int))),(9,.i .i64 (x.1))],[(1004,⟨0,81,.row 3 (List.map c81 x.2)⟩)]⟩) (fun x ↦ decKs rs x.1 x.2) (fun x ↦ B99 rs x.1 x.2) [4,7,8,9] [1004] (((0:Int),[])) (show B99 rs (0:Int) []from(by exact⟨by omega,by omega,by simp,fun j hj=>by omega,by simp [lsR]⟩)) ?_
 rintro⟨i0,o1⟩ h_2
 obtain⟨hh3,hh4,hh5,hh6,hh7⟩:0≤i0∧i0≤(↑rs.length:Int)∧(↑o1.length:Int)≤i0∧(∀(j:Nat),(↑j:Int) < i0→Ai0 rs[j]! = true)∧o1=lsR (List.take i0.toNat rs):=h_2
 refine rE cx [4,7,8,9,10] [1004] (zB 0 (i0 <(↑rs.length:Int))) (fun h8=>?_) fun h8=>?_
 refine sK<|sn<|sq<|bL 1<|sq<|rG cx [4,7,8,9,6] [1004,6] (fA (0≤i0) (fG c81 rs i0.toNat (fR 3 (fN 3 3 (oR 0 (c81 rs[i0.toNat]!) z0)))))<|sn<|sq<|sq<|B1 (σ':=⟨[(4,.own 1004 0),(7,.sl (List.map c81 rs)),(8,.i .i64 ((↑rs.length:Int))),(9,.i .i64 (i0)),(6,.ptr (6) (0) (0) (0)),(21,.b (decide (¬rs[i0.toNat]!.sku={ data:=#[]:ByteArray }∧¬U0 rs[i0.toNat]!.sku=true)))],[(1004,⟨0,81,.row 3 (List.map c81 o1)⟩),(6,⟨0,81,.var [.s (rs[i0.toNat]!.sku),.sl (List.map c3 rs[i0.toNat]!.past.vec),.sl (List.map B5 rs[i0.toNat]!.past.cloud)]⟩)]⟩) ?_ ?_
 refine A4 (¬rs[i0.toNat]!.sku={ data:=#[]:ByteArray }) (fun h_10=>?_) (fun h_10=>?_)
 refine rG cx [4,7,8,9,6,21] [1004,6] (tT 2 (A1y h_10:(AV.b !rs[i0.toNat]!.sku.toList == { data:=#[]:ByteArray }.toList)=AV.b true) (fT (B43 (rs[i0.toNat]!.sku)) (tT 7 (D3:(AV.b !U0 rs[i0.toNat]!.sku)=AV.b (decide ¬U0 rs[i0.toNat]!.sku=true)) (tD 8 (decide ¬U0 rs[i0.toNat]!.sku=true) (¬rs[i0.toNat]!.sku={ data:=#[]:ByteArray }∧¬U0 rs[i0.toNat]!.sku=true) (by simp only [eq_false h_10,tsl]) (oA 6 (.b (U0 rs[i0.toNat]!.sku)) z0))))) ?_
 exact⟨rfl,by kernel_rfl⟩
 refine rG cx [4,7,8,9,6,21] [1004,6] (tT 2 (A4d:(AV.b !rs[i0.toNat]!.sku.toList == { data:=#[]:ByteArray }.toList)=AV.b (decide ¬rs[i0.toNat]!.sku={ data:=#[]:ByteArray })) (tT 3 (A0 h_10) (tT 8 (by first | (simp only [eq_false h_10,tsl];done) | simp_all:AV.b false=AV.b (decide (¬rs[i0.toNat]!.sku={ data:=#[]:ByteArray }∧¬U0 rs[i0.toNat]!.sku=true))) z0))) ?_
 exact⟨rfl,by kernel_rfl⟩
 refine sn<|dC (¬rs[i0.toNat]!.sku={ data:=#[]:ByteArray }∧¬U0 rs[i0.toNat]!.sku=true) (fun h11=>?_) fun h11=>?_
 refine sq<|rG cx [2,3] [] z0<|sn<|rT<|nR<|bR<|nR<|nR<|bR<|nR<|qR (.tup [.nl,.i .i64 ((5:Int))]) (B6.tup (ZLe.cons (B6.nl' (show List.map c81 (I5 rs).1=[]from(by rw[Az3 hh3 h8 h11];rfl))) (ZLe.cons (B6.eq (show AV.i .i64 5=AV.i .i64 (I5 rs).2 from(by rw[Az3 hh3 h8 h11]))) ZLe.nil)))
 refine sK<|sn<|sq<|rG cx [4,7,8,9,6,25] [1004,6] (fT (B7n (rs[i0.toNat]!.past) (by exact A1j hb hh3 h8)) (tQ 3 (G0 rs[i0.toNat]!.past=0) (oA 2 (.b (decide (G0 rs[i0.toNat]!.past=0))) z0))) ?_
 refine sn<|dC (¬G0 rs[i0.toNat]!.past=0) (fun h12=>?_) fun h12=>?_
 refine rG cx [4,7,8,9] [1004] (fT (Bd1 (rs[i0.toNat]!) (by exact A1j hb hh3 h8)) (fR 81 (fR 3 (fR 3 (fX c81 [{ sku:=rs[i0.toNat]!.sku,past:=A6 rs[i0.toNat]!.past:Record }] 3 (fS c81 o1 c81 [{ sku:=rs[i0.toNat]!.sku,past:=A6 rs[i0.toNat]!.past:Record }] (fP (((List.map c81 o1).length+(List.map c81 [{ sku:=rs[i0.toNat]!.sku,past:=A6 rs[i0.toNat]!.past:Record }]).length)*(64:Nat)≤(140737488355328:Nat)) (by(simp only [Go.maxLen,List.length_map,List.length_append,List.length_cons,List.length_nil];omega)) (fM c81 o1 [{ sku:=rs[i0.toNat]!.sku,past:=A6 rs[i0.toNat]!.past:Record }] (oA 2 (.agg [.s ({ sku:=rs[i0.toNat]!.sku,past:=A6 rs[i0.toNat]!.past:Record }.sku),.sl (List.map c3 { sku:=rs[i0.toNat]!.sku,past:=A6 rs[i0.toNat]!.past:Record }.past.vec),.sl (List.map B5 { sku:=rs[i0.toNat]!.sku,past:=A6 rs[i0.toNat]!.past:Record }.past.cloud)]) (oV 4 { rows:=some (List.map c81 (o1++[{ sku:=rs[i0.toNat]!.sku,past:=A6 rs[i0.toNat]!.past:Record }])) } z0)))))))))) ?_
 refine bN<|sn<|rG cx [4,7,8,9] [1004] (tW 0 (i0+1) z0)<|sn<|nX ((i0+1,o1++[{ sku:=rs[i0.toNat]!.sku,past:=A6 rs[i0.toNat]!.past:Record }])) (show((↑rs.length:Int)-(i0+1)).toNat <((↑rs.length:Int)-i0).toNat from(by omega)) (show B99 rs (i0+1) (o1++[{ sku:=rs[i0.toNat]!.sku,past:=A6 rs[i0.toNat]!.past:Record }])from ?g5);rotate_left
 refine sK<|bN<|sn<|rG cx [4,7,8,9] [1004] (tW 0 (i0+1) z0)<|sn<|nX ((i0+1,o1)) (show((↑rs.length:Int)-(i0+1)).toNat <((↑rs.length:Int)-i0).toNat from(by omega)) (show B99 rs (i0+1) o1 from ?g6);rotate_left
 refine eX 0<|nE<|nE<|bH<|sn<|sq<|rG cx [4] [1004] (fP (Z1 Tryz.prog (165:FuncId) (106:FuncId) none false (81:Nat) (3:Nat) (List.map c81 o1) (List.map c81 (A6w o1))) (io165 (o1) (by rw[hh7];exact B90 _) (by omega)) (oV 1 { rows:=some (List.map c81 (A6w o1)) } z0)) ?_
 refine sn<|sq<|rG cx [2,3] [1004] (fT (con166 (A6w o1) (by exact B8y (A64 _)) (by rw[B98];omega)) (oV 1 { val:=some (.vw (0) (0) (0) (0)),rows:=some (List.map c81 (J0 (A6w o1))) } z0)) ?_
 refine sn<|rT<|qR (.tup [.sl (((E.look [(1,{ val:=some (AV.vw (0) (0) (0) (0)),rows:=some (List.map c81 (J0 (A6w o1))):Ov })] (1)).getD {:Ov }).rows.getD []),.i .i64 ((0:Int))]) (B6.tup (ZLe.cons (B6.eq (show AV.sl (((E.look [(1,{ val:=some (AV.vw (0) (0) (0) (0)),rows:=some (List.map c81 (J0 (A6w o1))):Ov })] (1)).getD {:Ov }).rows.getD [])=AV.sl (List.map c81 (I5 rs).1)from ?g11)) (ZLe.cons (B6.eq (show AV.i .i64 0=AV.i .i64 (I5 rs).2 from(by rw[B5c h8 hh6]))) ZLe.nil)));rotate_left
 case g5 =>
  refine⟨by omega,by omega,by rw[List.length_append,List.length_singleton];omega,fun j hj=>?_,?_⟩
  ·by_cases e:j=i0.toNat
   ·rw[e];exact Aq4.2 h11
   ·exact hh6 j (by omega)
  ·rw[B5d hh3 h8,if_neg h12,hh7];rfl
 case g6 =>
  refine⟨by omega,by omega,by omega,fun j hj=>?_,?_⟩
  ·by_cases e:j=i0.toNat
   ·rw[e];exact Aq4.2 h11
   ·exact hh6 j (by omega)
  ·rw[B5d hh3 h8,if_pos (Classical.not_not.1 h12),hh7,List.append_nil]
 case g11 =>
  rw[B5c h8 hh6]
  rw[List.take_of_length_le (by omega)]at hh7
  rw[hh7]
  rfl
theorem con75(a b:List Record)(ha:B1u a)(hb:B1u b)(hl:(a.length+b.length)*64≤140737488350000):Con Tryz.prog 75 [.sl (a.map c81),.sl (b.map c81)] (.tup [.sl ((C7 a b).1.map c81),.i .i64 (C7 a b).2]) :=
 by
 have no:¬F5 a=0∨¬F5 b=0→C7 a b=([],1):=fun h=>by unfold C7;rw[if_neg (fun k=>h.elim (fun g=>g k.1) (fun g=>g k.2))]
 have yes:¬(¬F5 a=0∨¬F5 b=0)→F5 a=0∧F5 b=0:=fun h=>⟨Classical.not_not.1 fun k=>h (.inl k),Classical.not_not.1 fun k=>h (.inr k)⟩
 have fl:[a,b].flatten=a++b:=by simp
 have un:¬(¬F5 a=0∨¬F5 b=0)→I5 [a,b].flatten=C7 a b:=fun h=>by rw[fl,B1i (yes h).1 (yes h).2];unfold C7;rw[if_pos (yes h)]
 refine lN 0 c81 (a) Tryz.func75 fun hl_0=>lN 1 c81 (b) Tryz.func75 fun hl_1=>sC A8 [.tmp 4,.tmp 5] 21 Tryz.func75 ?_
 intro e0 cx
 refine sq<|rG cx [0,1] [] z0<|sn<|sq<|sq<|B1 (σ':=⟨[(0,.sl (List.map c81 a)),(1,.sl (List.map c81 b)),(13,.b (decide (¬F5 a=0∨¬F5 b=0)))],[]⟩) ?_ ?_
 refine A4 (¬F5 a=0) (fun h_1=>?_) (fun h_1=>?_)
 refine rG cx [0,1,13] [] (fT (B0r (a) (by(with_reducible assumption))) (tT 2 (D0 h_1:AV.b (F5 a !=0)=AV.b true) (tD 7 true (¬F5 a=0∨¬F5 b=0) (by simp only [eq_false h_1,tsl]) (oA 1 (.i .i64 (F5 a)) z0)))) ?_
 exact⟨rfl,by kernel_rfl⟩
 refine rG cx [0,1,13] [] (fT (B0r (a) (by(with_reducible assumption))) (tN 2 (F5 a) (0:Int) (tT 3 (A0 h_1) (fT (B0r (b) (by(with_reducible assumption))) (tN 6 (F5 b) (0:Int) (tT 7 (by first | (simp only [eq_false h_1,tsl];done) | simp_all:AV.b (decide ¬F5 b=0)=AV.b (decide (¬F5 a=0∨¬F5 b=0))) (oA 1 (.i .i64 (F5 a)) (oA 5 (.i .i64 (F5 b)) z0)))))))) ?_
 exact⟨rfl,by kernel_rfl⟩
 refine sn<|dC (¬F5 a=0∨¬F5 b=0) (fun h2=>?_) fun h2=>?_
 refine sq<|rG cx [4,5] [] z0<|sn<|rT<|nR<|qR (.tup [.nl,.i .i64 ((1:Int))]) (B6.tup (ZLe.cons (B6.nl' (show List.map c81 (C7 a b).1=[]from(by rw[no h2];rfl))) (ZLe.cons (B6.eq (show AV.i .i64 1=AV.i .i64 (C7 a b).2 from(by rw[no h2]))) ZLe.nil)))
 refine sK<|sn<|sq<|rG cx [4,5] [] (fT (con123 ([a,b]) (by rw[fl,List.length_append];omega)) (fT (con122 ([a,b].flatten) (by rw[fl];exact fun r hr=>(List.mem_append.1 hr).elim (ha r) (hb r)) (by rw[fl,List.length_append];omega)) (oV 3 { val:=some (.own (81:Nat) (3:Nat)),rows:=some (List.map c81 [a,b].flatten) } (oA 4 (.tup [.sl (List.map c81 (I5 [a,b].flatten).1),.i .i64 ((I5 [a,b].flatten).2)]) z0)))) ?_
 refine sn<|rT<|qR (.tup [.sl (List.map c81 (I5 [a,b].flatten).1),.i .i64 ((I5 [a,b].flatten).2)]) (B6.tup (ZLe.cons (B6.eq (show AV.sl (List.map c81 (I5 [a,b].flatten).1)=AV.sl (List.map c81 (C7 a b).1)from(by rw[un h2]))) (ZLe.cons (B6.eq (show AV.i .i64 (I5 [a,b].flatten).2=AV.i .i64 (C7 a b).2 from(by rw[un h2]))) ZLe.nil)))
end Go.Proofs.YtaiepnaokhpmcaaGreat
namespace Go.Proofs.YtaiepnaokhpmcaaGreat
open Go.E
set_option maxRecDepth 100000
set_option maxHeartbeats 4000000
noncomputable def hfA(l:List Record):List Record:=E5 (List.take ((l.length:Int).tdiv 2).toNat l)
noncomputable def hfB(l:List Record):List Record:=E5 (List.drop ((l.length:Int).tdiv 2).toNat l)
theorem Bo8{l:List Record}:0≤(l.length:Int).tdiv 2∧2*(l.length:Int).tdiv 2≤l.length∧(l.length:Int)≤2*(l.length:Int).tdiv 2+1:=by
 rw[Int.tdiv_eq_ediv_of_nonneg (by omega)]
 omega
theorem Bo9(l:List Record):((hfA l).length:Int)≤(l.length:Int).tdiv 2:=by
 have:=A9p (List.take ((l.length:Int).tdiv 2).toNat l)
 have h:=Bo8 (l:=l)
 rw[List.length_take]at this
 unfold hfA
 omega
theorem Bp0(l:List Record):((hfB l).length:Int)≤l.length-(l.length:Int).tdiv 2:=by
 have:=A9p (List.drop ((l.length:Int).tdiv 2).toNat l)
 have h:=Bo8 (l:=l)
 rw[List.length_drop]at this
 unfold hfB
 omega
theorem A6c{l:List Record}(h:F6 l)(m:Nat):F6 (l.take m):=fun r hr=>h r (List.mem_of_mem_take hr)
theorem A6d{l:List Record}(h:F6 l)(m:Nat):F6 (l.drop m):=fun r hr=>h r (List.mem_of_mem_drop hr)
theorem B9a{l:List Record}(h:F6 l):F6 (hfA l):=W4 (A6c h _)
theorem B9b{l:List Record}(h:F6 l):F6 (hfB l):=W4 (A6d h _)
theorem B9c{r:Record}(h:r.past=A6 r.past):szR r:=by have:=Y5 h;unfold szR;omega
theorem Bd7{l:List Record}(h:F6 l){i:Int}(h0:0≤i)(hi:i < l.length):szR l[i.toNat]!:=B9c (h _ (E9 (by omega)))
theorem B5e{l:List Record}(h:F6 l)(hl:(l.length:Int) < 2):E5 l=l:=by
 refine(Az1 h ?_ fun r=>Iff.rfl).symm
 match l,hl with
 | [],_=>exact List.Pairwise.nil
 | [a],_=>exact List.pairwise_singleton _ _
 | a :: b :: l,hl=>simp only [List.length_cons]at hl;omega
def B1n(A B:List Record)(i j:Int)(s:List Record):Prop:=s++A65 (A.drop i.toNat) (B.drop j.toNat)=A65 A B
def Aq5(A B:List Record)(i j:Int)(s:List Record):Prop:=0≤i∧i≤A.length∧0≤j∧j≤B.length∧(s.length:Int)≤i+j∧B1n A B i j s
def decO3(A B:List Record)(i j:Int)(s:List Record):Nat:=(A.length+B.length-i-j).toNat
theorem B5f{A B:List Record}{i j:Int}{s:List Record}(h0:0≤i)(hi:i < A.length)(j0:0≤j)(hj:¬ j < B.length∨(j < B.length∧C2 A[i.toNat]! B[j.toNat]! < 0))(h:B1n A B i j s):B1n A B (i+1) j (s++[A[i.toNat]!]):=by
 unfold B1n at *
 rw[← h,List.append_assoc]
 congr 1
 rw[A9d h0 hi]
 by_cases e:j < B.length
 ·have hlt:=(hj.resolve_left fun k=>k e).2
  rw[A9d j0 e,A65,if_pos hlt]
  rfl
 ·rw[List.drop_of_length_le (l:=B) (by omega),Az2,Az2]
  rfl
theorem Bp1{A B:List Record}{i j:Int}{s:List Record}(h0:0≤i)(hi:i < A.length)(j0:0≤j)(hj:j < B.length)(hc:C2 A[i.toNat]! B[j.toNat]! = 0)(h:B1n A B i j s):B1n A B (i+1) (j+1) (s++[A[i.toNat]!]):=by
 unfold B1n at *
 rw[← h,List.append_assoc]
 congr 1
 rw[A9d h0 hi,A9d j0 hj,A65,if_neg (by omega),if_pos hc]
 rfl
theorem Az4{A B:List Record}{i j:Int}{s:List Record}(h0:0≤i)(j0:0≤j)(hj:j < B.length)(hi:¬ i < A.length∨(i < A.length∧0 < C2 A[i.toNat]! B[j.toNat]!))(h:B1n A B i j s):B1n A B i (j+1) (s++[B[j.toNat]!]):=by
 unfold B1n at *
 rw[← h,List.append_assoc]
 congr 1
 rw[A9d j0 hj]
 by_cases e:i < A.length
 ·have hlt:=(hi.resolve_left fun k=>k e).2
  rw[A9d h0 e,A65,if_neg (by omega),if_neg (by omega)]
  rfl
 ·rw[List.drop_of_length_le (l:=A) (by omega)]
  simp [A65]
theorem m3_end{l:List Record}(hn:F6 l){i j:Int}{s:List Record}(hi:¬ i <(hfA l).length)(hj:¬ j <(hfB l).length)(h:B1n (hfA l) (hfB l) i j s):s=E5 l:=by
 unfold B1n at h
 rw[List.drop_of_length_le (by omega),List.drop_of_length_le (by omega)]at h
 rw[← B8z hn ((l.length:Int).tdiv 2).toNat]
 have:A65 ([]:List Record) []=[]:=by simp [A65]
 rw[this,List.append_nil]at h
 exact h
theorem Az5(l:List Record)(n:Nat)(hn:l.length≤n)(ih:∀ m:List Record,m.length < n→F6 m→m.length*64≤140737488351232→Con Tryz.prog 128 [.sl (m.map c81)] (.sl ((E5 m).map c81)))(hf:F6 l)(hb:l.length*64≤140737488351232):Con Tryz.prog 128 [.sl (l.map c81)] (.sl ((E5 l).map c81)) :=
 by
 have b1:=Bo8 (l:=l)
 have b2:=Bo9 l
 have b3:=Bp0 l
 refine lN 0 c81 (l) Tryz.func128 fun hl_0=>sC A8 [.tmp 2] 77 Tryz.func128 ?_
 intro e0 cx
 refine sq<|rG cx [0] [] z0<|sn<|sq<|rD cx [0,11] [] (tL 1 c81 l (zB 2 ((↑l.length:Int) <(2:Int)))) (fun h0=>?_) fun h0=>?_
 refine sq<|rG cx [2] [12] (fR 81 (fR 3 (fR 3 (fX c81 l 3 (fS c81 [] c81 l (fP (((List.map c81 []).length+(List.map c81 l).length)*(64:Nat)≤(140737488355328:Nat)) (by(simp only [Go.maxLen,List.length_map,List.length_append,List.length_cons,List.length_nil];omega)) (fM c81 [] l (oV 2 { rows:=some (List.map c81 ([]++l)) } z0))))))))<|sn<|rT<|nR<|qR (.sl (List.map c81 ([]++l))) (.eq (by rw[List.nil_append,B5e hf h0]))
 refine sK<|sn<|sq<|rG cx [0,3] [] (tL 2 c81 l (tT 3 (B4 (by omega) (by omega):AV.i .i64 (IntKind.i64.wrap ((↑l.length:Int).tdiv (2:Int)))=AV.i .i64 ((↑l.length:Int).tdiv (2:Int))) (tT 4 (As9 c81 l ((↑l.length:Int).tdiv (2:Int)).toNat:AV.sl (List.drop (Int.toNat (0:Int)) (List.take ((↑l.length:Int).tdiv (2:Int)).toNat (List.map c81 l)))=AV.sl (List.map c81 (List.take ((↑l.length:Int).tdiv (2:Int)).toNat l))) (fO ((0:Int)≤(0:Int)) (fP (0≤(↑l.length:Int).tdiv (2:Int)) (by omega) (fP ((↑l.length:Int).tdiv 2≤(↑(List.map c81 l).length:Int)) (by rw[List.length_map];omega) (fX c81 l 3 (fP (Con Tryz.prog (128:FuncId) [AV.sl (List.map c81 (List.take ((↑l.length:Int).tdiv (2:Int)).toNat l))] (AV.sl (List.map c81 (E5 (List.take ((↑l.length:Int).tdiv (2:Int)).toNat l))))) (ih (List.take ((↑l.length:Int).tdiv (2:Int)).toNat l) (by rw[List.length_take];omega) (by exact A6c hf _) (by rw[List.length_take];omega)) (oA 5 (.sl (List.map c81 (E5 (List.take ((↑l.length:Int).tdiv (2:Int)).toNat l)))) z0))))))))) ?_
 refine sn<|sq<|rG cx [3,4] [] (tL 2 c81 l (tT 3 (B4 (by omega) (by omega):AV.i .i64 (IntKind.i64.wrap ((↑l.length:Int).tdiv (2:Int)))=AV.i .i64 ((↑l.length:Int).tdiv (2:Int))) (tT 4 (A8g c81 l ((↑l.length:Int).tdiv (2:Int)).toNat:AV.sl (List.drop ((↑l.length:Int).tdiv (2:Int)).toNat (List.take (none.getD (↑(List.map c81 l).length:Int)).toNat (List.map c81 l)))=AV.sl (List.map c81 (List.drop ((↑l.length:Int).tdiv (2:Int)).toNat l))) (fP (0≤(↑l.length:Int).tdiv (2:Int)) (by omega) (fP ((↑l.length:Int).tdiv 2≤none.getD (↑(List.map c81 l).length:Int)) (by rw[Bo7];omega) (fP (none.getD (↑(List.map c81 l).length:Int)≤(↑(List.map c81 l).length:Int)) (by rw[Bo7,List.length_map];exact Int.le_refl _) (fX c81 l 3 (fP (Con Tryz.prog (128:FuncId) [AV.sl (List.map c81 (List.drop ((↑l.length:Int).tdiv (2:Int)).toNat l))] (AV.sl (List.map c81 (E5 (List.drop ((↑l.length:Int).tdiv (2:Int)).toNat l))))) (ih (List.drop ((↑l.length:Int).tdiv (2:Int)).toNat l) (by rw[List.length_drop];omega) (by exact A6d hf _) (by rw[List.length_drop];omega)) (oA 5 (.sl (List.map c81 (E5 (List.drop ((↑l.length:Int).tdiv (2:Int)).toNat l)))) z0))))))))) ?_
 refine sn<|sq<|rG cx [3,4,5] [] z0<|sn<|sq<|rG cx [3,4,5,6,7] [] z0<|sn<|sq<|bL 0<|E6 5 1005 81 3 (σ':=⟨[(3,.sl (List.map c81 (E5 (List.take ((↑l.length:Int).tdiv (2:Int)).toNat l)))),(4,.sl (List.map c81 (E5 (List.drop ((↑l.length:Int).tdiv (2:Int)).toNat l)))),(5,.own 1005 0),(6,.i .i64 ((0:Int))),(7,.i .i64 ((0:Int)))],[(1005,⟨0,81,.row 3 (List.map c81 [])⟩)]⟩) (by kernel_rfl)<|sL (X:=Int×Int×List Record) (fun x=>⟨[(3,.sl (List.map c81 (E5 (List.take ((↑l.length:Int).tdiv (2:Int)).toNat l)))),(4,.sl (List.map c81 (E5 (List.drop ((↑l.length:Int).tdiv (2:Int)).toNat l)))),(5,.own 1005 0),(6,.i .i64 (x.1)),(7,.i .i64 (x.2.1))],[(1005,⟨0,81,.row 3 (List.map c81 x.2.2)⟩)]⟩) (fun x ↦ decO3 (hfA l) (hfB l) x.1 x.2.1 x.2.2) (fun x ↦ Aq5 (hfA l) (hfB l) x.1 x.2.1 x.2.2) [3,4,5,6,7] [1005] (((0:Int),(0:Int),[])) (show Aq5 (hfA l) (hfB l) (0:Int) (0:Int) []from(by exact⟨by omega,by omega,by omega,by omega,by simp,rfl⟩)) ?_
 rintro⟨i1,j2,s3⟩ h_4
 obtain⟨h5,h6,h7,h8,h9,h10⟩:0≤i1∧i1≤(↑(hfA l).length:Int)∧0≤j2∧j2≤(↑(hfB l).length:Int)∧(↑s3.length:Int)≤i1+j2∧B1n (hfA l) (hfB l) i1 j2 s3:=h_4
 refine sq<|sq<|B1 (σ':=⟨[(3,.sl (List.map c81 (E5 (List.take ((↑l.length:Int).tdiv (2:Int)).toNat l)))),(4,.sl (List.map c81 (E5 (List.drop ((↑l.length:Int).tdiv (2:Int)).toNat l)))),(5,.own 1005 0),(6,.i .i64 (i1)),(7,.i .i64 (j2)),(36,.b (decide (i1 <(↑(E5 (List.take ((↑l.length:Int).tdiv (2:Int)).toNat l)).length:Int)∨j2 <(↑(E5 (List.drop ((↑l.length:Int).tdiv (2:Int)).toNat l)).length:Int))))],[(1005,⟨0,81,.row 3 (List.map c81 s3)⟩)]⟩) ?_ ?_
 refine A4 (i1 <(↑(E5 (List.take ((↑l.length:Int).tdiv (2:Int)).toNat l)).length:Int)) (fun h_12=>?_) (fun h_12=>?_)
 refine rG cx [3,4,5,6,7,36] [1005] (tL 2 c81 (E5 (List.take ((↑l.length:Int).tdiv (2:Int)).toNat l)) (tT 3 (A7 h_12) (tD 9 true (i1 <(↑(E5 (List.take ((↑l.length:Int).tdiv (2:Int)).toNat l)).length:Int)∨j2 <(↑(E5 (List.drop ((↑l.length:Int).tdiv (2:Int)).toNat l)).length:Int)) (by simp only [eq_true h_12,tsl]) z0))) ?_
 exact⟨rfl,by kernel_rfl⟩
 refine rG cx [3,4,5,6,7,36] [1005] (tL 2 c81 (E5 (List.take ((↑l.length:Int).tdiv (2:Int)).toNat l)) (tT 3 (A0 h_12) (tL 7 c81 (E5 (List.drop ((↑l.length:Int).tdiv (2:Int)).toNat l)) (tB 8 (j2 <(↑(E5 (List.drop ((↑l.length:Int).tdiv (2:Int)).toNat l)).length:Int)) (tD 9 (decide (j2 <(↑(E5 (List.drop ((↑l.length:Int).tdiv (2:Int)).toNat l)).length:Int))) (i1 <(↑(E5 (List.take ((↑l.length:Int).tdiv (2:Int)).toNat l)).length:Int)∨j2 <(↑(E5 (List.drop ((↑l.length:Int).tdiv (2:Int)).toNat l)).length:Int)) (by simp only [eq_false h_12,tsl]) z0))))) ?_
 exact⟨rfl,by kernel_rfl⟩
 refine sn<|dC (i1 <(↑(E5 (List.take ((↑l.length:Int).tdiv (2:Int)).toNat l)).length:Int)∨j2 <(↑(E5 (List.drop ((↑l.length:Int).tdiv (2:Int)).toNat l)).length:Int)) (fun h13=>?_) fun h13=>?_
 refine sK<|sn<|bL 1<|sq<|rG cx [3,4,5,6,7] [1005] z0<|sn<|sq<|rD cx [3,4,5,6,7,40] [1005] (tL 2 c81 (E5 (List.take ((↑l.length:Int).tdiv (2:Int)).toNat l)) (zB 3 (i1=(↑(E5 (List.take ((↑l.length:Int).tdiv (2:Int)).toNat l)).length:Int)))) (fun h14=>?_) fun h14=>?_
 refine rG cx [3,4,5,6,7,8] [1005] z0<|sn<|sq<|sq<|rG cx [3,4,5,6,7,8,55] [1005] z0<|sn<|O0 (by kernel_rfl) (by kernel_rfl)<|rG cx [3,4,5,6,7,8] [1005] (fA (0≤j2) (fG c81 (E5 (List.drop ((↑l.length:Int).tdiv (2:Int)).toNat l)) j2.toNat (fR 3 (fN 3 3 (fR 81 (fR 3 (fR 3 (fX c81 [(E5 (List.drop ((↑l.length:Int).tdiv (2:Int)).toNat l))[j2.toNat]!] 3 (fP ((List.map c81 s3).length+(List.map c81 [(E5 (List.drop ((↑l.length:Int).tdiv (2:Int)).toNat l))[j2.toNat]!]).length≤maxLen) (by have k6':i1 <(hfA l).length∨j2 <(hfB l).length:=h13;have k7':i1=(hfA l).length:=h14;simp only [List.length_map,List.length_cons,List.length_nil,Go.maxLen];omega) (fP (((List.map c81 s3).length+(List.map c81 [(E5 (List.drop ((↑l.length:Int).tdiv (2:Int)).toNat l))[j2.toNat]!]).length)*(64:Nat)≤(140737488355328:Nat)) (by have k6':i1 <(hfA l).length∨j2 <(hfB l).length:=h13;have k7':i1=(hfA l).length:=h14;simp only [List.length_map,List.length_cons,List.length_nil];omega) (fM c81 s3 [(E5 (List.drop ((↑l.length:Int).tdiv (2:Int)).toNat l))[j2.toNat]!] (oR 3 (c81 (E5 (List.drop ((↑l.length:Int).tdiv (2:Int)).toNat l))[j2.toNat]!) (oV 6 { rows:=some (List.map c81 (s3++[(E5 (List.drop ((↑l.length:Int).tdiv (2:Int)).toNat l))[j2.toNat]!])) } z0))))))))))))) ?_
 refine sn<|sq<|rG cx [3,4,5,6,7,73] [1005] z0<|sn<|Al2 (by kernel_rfl) (by kernel_rfl)<|rG cx [3,4,5,6,7] [1005] (tT 1 (B4 (by omega) (by have k6':i1 <(hfA l).length∨j2 <(hfB l).length:=h13;have k7':i1=(hfA l).length:=h14;omega):AV.i .i64 (IntKind.i64.wrap (j2+1))=AV.i .i64 (j2+1)) z0) ?_
 refine bN<|sn<|nX ((i1,j2+1,s3++[(E5 (List.drop ((↑l.length:Int).tdiv (2:Int)).toNat l))[j2.toNat]!])) (show((↑(hfA l).length:Int)+(↑(hfB l).length:Int)-i1-(j2+1)).toNat <((↑(hfA l).length:Int)+(↑(hfB l).length:Int)-i1-j2).toNat from(by have k6':i1 <(hfA l).length∨j2 <(hfB l).length:=h13;have k7':i1=(hfA l).length:=h14;omega)) (show Aq5 (hfA l) (hfB l) i1 (j2+1) (s3++[(E5 (List.drop ((↑l.length:Int).tdiv (2:Int)).toNat l))[j2.toNat]!])from(by have k6':i1 <(hfA l).length∨j2 <(hfB l).length:=h13;have k7':i1=(hfA l).length:=h14;exact⟨by omega,by omega,by omega,by omega,by rw[List.length_append,List.length_singleton];omega,Az4 h5 h7 (by omega) (.inl (by omega)) h10⟩))
 refine rD cx [3,4,5,6,7,44] [1005] (tL 2 c81 (E5 (List.drop ((↑l.length:Int).tdiv (2:Int)).toNat l)) (zB 3 (j2=(↑(E5 (List.drop ((↑l.length:Int).tdiv (2:Int)).toNat l)).length:Int)))) (fun h15=>?_) fun h15=>?_
 refine rG cx [3,4,5,6,7,8] [1005] z0<|sn<|sq<|sq<|rG cx [3,4,5,6,7,8,55] [1005] z0<|sn<|Al2 (by kernel_rfl) (by kernel_rfl)<|sq<|rG cx [3,4,5,6,7,8] [1005] (fA (0≤i1) (fG c81 (E5 (List.take ((↑l.length:Int).tdiv (2:Int)).toNat l)) i1.toNat (fR 3 (fN 3 3 (fR 81 (fR 3 (fR 3 (fX c81 [(E5 (List.take ((↑l.length:Int).tdiv (2:Int)).toNat l))[i1.toNat]!] 3 (fP ((List.map c81 s3).length+(List.map c81 [(E5 (List.take ((↑l.length:Int).tdiv (2:Int)).toNat l))[i1.toNat]!]).length≤maxLen) (by have k7':¬ i1=(hfA l).length:=h14;have k8':j2=(hfB l).length:=h15;simp only [List.length_map,List.length_cons,List.length_nil,Go.maxLen];omega) (fP (((List.map c81 s3).length+(List.map c81 [(E5 (List.take ((↑l.length:Int).tdiv (2:Int)).toNat l))[i1.toNat]!]).length)*(64:Nat)≤(140737488355328:Nat)) (by have k7':¬ i1=(hfA l).length:=h14;have k8':j2=(hfB l).length:=h15;simp only [List.length_map,List.length_cons,List.length_nil];omega) (fM c81 s3 [(E5 (List.take ((↑l.length:Int).tdiv (2:Int)).toNat l))[i1.toNat]!] (oR 3 (c81 (E5 (List.take ((↑l.length:Int).tdiv (2:Int)).toNat l))[i1.toNat]!) (oV 6 { rows:=some (List.map c81 (s3++[(E5 (List.take ((↑l.length:Int).tdiv (2:Int)).toNat l))[i1.toNat]!])) } z0))))))))))))) ?_
 refine sn<|rG cx [3,4,5,6,7,8] [1005] (tT 1 (B4 (by omega) (by have k7':¬ i1=(hfA l).length:=h14;have k8':j2=(hfB l).length:=h15;omega):AV.i .i64 (IntKind.i64.wrap (i1+1))=AV.i .i64 (i1+1)) z0) ?_
 refine sn<|sq<|rG cx [3,4,5,6,7,73] [1005] z0<|sn<|O0 (by kernel_rfl) (by kernel_rfl)<|sK<|bN<|sn<|nX ((i1+1,j2,s3++[(E5 (List.take ((↑l.length:Int).tdiv (2:Int)).toNat l))[i1.toNat]!])) (show((↑(hfA l).length:Int)+(↑(hfB l).length:Int)-(i1+1)-j2).toNat <((↑(hfA l).length:Int)+(↑(hfB l).length:Int)-i1-j2).toNat from(by have k7':¬ i1=(hfA l).length:=h14;have k8':j2=(hfB l).length:=h15;omega)) (show Aq5 (hfA l) (hfB l) (i1+1) j2 (s3++[(E5 (List.take ((↑l.length:Int).tdiv (2:Int)).toNat l))[i1.toNat]!])from(by have k7':¬ i1=(hfA l).length:=h14;have k8':j2=(hfB l).length:=h15;exact⟨by omega,by omega,by omega,by omega,by rw[List.length_append,List.length_singleton];omega,B5f h5 (by omega) h7 (.inl (by omega)) h10⟩))
 refine rA cx [3,4,5,6,7,8] [1005] (fA (0≤i1) (fP ((List.map c81 (E5 (List.take ((↑l.length:Int).tdiv (2:Int)).toNat l)))[i1.toNat]?=some (c81 (E5 (List.take ((↑l.length:Int).tdiv (2:Int)).toNat l))[i1.toNat]!)) (by have k7':¬ i1=(hfA l).length:=h14;have k8':¬ j2=(hfB l).length:=h15;exact F9 (xs:=hfA l) (by omega)) (fR 3 (fN 3 3 (fA (0≤j2) (fP ((List.map c81 (E5 (List.drop ((↑l.length:Int).tdiv (2:Int)).toNat l)))[j2.toNat]?=some (c81 (E5 (List.drop ((↑l.length:Int).tdiv (2:Int)).toNat l))[j2.toNat]!)) (by have k7':¬ i1=(hfA l).length:=h14;have k8':¬ j2=(hfB l).length:=h15;exact F9 (xs:=hfB l) (by omega)) (fR 3 (fN 3 3 (fT (Bc2 ((E5 (List.take ((↑l.length:Int).tdiv (2:Int)).toNat l))[i1.toNat]!) ((E5 (List.drop ((↑l.length:Int).tdiv (2:Int)).toNat l))[j2.toNat]!) (by have k7':¬ i1=(hfA l).length:=h14;have k8':¬ j2=(hfB l).length:=h15;exact Bd7 (B9a hf) h5 (by omega)) (by have k7':¬ i1=(hfA l).length:=h14;have k8':¬ j2=(hfB l).length:=h15;exact Bd7 (B9b hf) h7 (by omega))) (oR 2 (c81 (E5 (List.take ((↑l.length:Int).tdiv (2:Int)).toNat l))[i1.toNat]!) (oR 6 (c81 (E5 (List.drop ((↑l.length:Int).tdiv (2:Int)).toNat l))[j2.toNat]!) (oA 8 (.i .i64 (C2 (E5 (List.take ((↑l.length:Int).tdiv (2:Int)).toNat l))[i1.toNat]! (E5 (List.drop ((↑l.length:Int).tdiv (2:Int)).toNat l))[j2.toNat]!)) z0)))))))))))) ?_
 refine sn<|sq<|rD cx [3,4,5,6,7,8,55] [1005] (zB 1 (C2 (E5 (List.take ((↑l.length:Int).tdiv (2:Int)).toNat l))[i1.toNat]! (E5 (List.drop ((↑l.length:Int).tdiv (2:Int)).toNat l))[j2.toNat]!≤0)) (fun h16=>?_) fun h16=>?_
 refine sq<|rG cx [3,4,5,6,7,8] [1005] (fA (0≤i1) (fP ((List.map c81 (E5 (List.take ((↑l.length:Int).tdiv (2:Int)).toNat l)))[i1.toNat]?=some (c81 (E5 (List.take ((↑l.length:Int).tdiv (2:Int)).toNat l))[i1.toNat]!)) (by have k7':¬ i1=(hfA l).length:=h14;have k8':¬ j2=(hfB l).length:=h15;exact F9 (xs:=hfA l) (by omega)) (fR 3 (fN 3 3 (fR 81 (fR 3 (fR 3 (fX c81 [(E5 (List.take ((↑l.length:Int).tdiv (2:Int)).toNat l))[i1.toNat]!] 3 (fP ((List.map c81 s3).length+(List.map c81 [(E5 (List.take ((↑l.length:Int).tdiv (2:Int)).toNat l))[i1.toNat]!]).length≤maxLen) (by have k7':¬ i1=(hfA l).length:=h14;have k8':¬ j2=(hfB l).length:=h15;simp only [List.length_map,List.length_cons,List.length_nil,Go.maxLen];omega) (fP (((List.map c81 s3).length+(List.map c81 [(E5 (List.take ((↑l.length:Int).tdiv (2:Int)).toNat l))[i1.toNat]!]).length)*(64:Nat)≤(140737488355328:Nat)) (by have k7':¬ i1=(hfA l).length:=h14;have k8':¬ j2=(hfB l).length:=h15;simp only [List.length_map,List.length_cons,List.length_nil];omega) (fM c81 s3 [(E5 (List.take ((↑l.length:Int).tdiv (2:Int)).toNat l))[i1.toNat]!] (oR 3 (c81 (E5 (List.take ((↑l.length:Int).tdiv (2:Int)).toNat l))[i1.toNat]!) (oV 6 { rows:=some (List.map c81 (s3++[(E5 (List.take ((↑l.length:Int).tdiv (2:Int)).toNat l))[i1.toNat]!])) } z0))))))))))))) ?_
 refine sn<|rG cx [3,4,5,6,7,8] [1005] (tT 1 (B4 (by omega) (by have k7':¬ i1=(hfA l).length:=h14;have k8':¬ j2=(hfB l).length:=h15;omega):AV.i .i64 (IntKind.i64.wrap (i1+1))=AV.i .i64 (i1+1)) z0) ?_
 refine sn<|rD cx [3,4,5,6,7,73] [1005] (zB 1 (0≤C2 (E5 (List.take ((↑l.length:Int).tdiv (2:Int)).toNat l))[i1.toNat]! (E5 (List.drop ((↑l.length:Int).tdiv (2:Int)).toNat l))[j2.toNat]!)) (fun h17=>?_) fun h17=>?_
 refine rG cx [3,4,5,6,7] [1005] (tT 1 (B4 (by omega) (by have k7':¬ i1=(hfA l).length:=h14;have k8':¬ j2=(hfB l).length:=h15;omega):AV.i .i64 (IntKind.i64.wrap (j2+1))=AV.i .i64 (j2+1)) z0) ?_
 refine bN<|sn<|nX ((i1+1,j2+1,s3++[(E5 (List.take ((↑l.length:Int).tdiv (2:Int)).toNat l))[i1.toNat]!])) (show((↑(hfA l).length:Int)+(↑(hfB l).length:Int)-(i1+1)-(j2+1)).toNat <((↑(hfA l).length:Int)+(↑(hfB l).length:Int)-i1-j2).toNat from(by have k7':¬ i1=(hfA l).length:=h14;have k8':¬ j2=(hfB l).length:=h15;omega)) (show Aq5 (hfA l) (hfB l) (i1+1) (j2+1) (s3++[(E5 (List.take ((↑l.length:Int).tdiv (2:Int)).toNat l))[i1.toNat]!])from(by have k7':¬ i1=(hfA l).length:=h14;have k8':¬ j2=(hfB l).length:=h15;have k9':C2 (hfA l)[i1.toNat]! (hfB l)[j2.toNat]!≤0:=h16;have k10':0≤C2 (hfA l)[i1.toNat]! (hfB l)[j2.toNat]!:=h17;exact⟨by omega,by omega,by omega,by omega,by rw[List.length_append,List.length_singleton];omega,Bp1 h5 (by omega) h7 (by omega) (by omega) h10⟩))
 refine sK<|bN<|sn<|nX ((i1+1,j2,s3++[(E5 (List.take ((↑l.length:Int).tdiv (2:Int)).toNat l))[i1.toNat]!])) (show((↑(hfA l).length:Int)+(↑(hfB l).length:Int)-(i1+1)-j2).toNat <((↑(hfA l).length:Int)+(↑(hfB l).length:Int)-i1-j2).toNat from(by have k7':¬ i1=(hfA l).length:=h14;have k8':¬ j2=(hfB l).length:=h15;omega)) (show Aq5 (hfA l) (hfB l) (i1+1) j2 (s3++[(E5 (List.take ((↑l.length:Int).tdiv (2:Int)).toNat l))[i1.toNat]!])from(by have k7':¬ i1=(hfA l).length:=h14;have k8':¬ j2=(hfB l).length:=h15;have k10':¬ 0≤C2 (hfA l)[i1.toNat]! (hfB l)[j2.toNat]!:=h17;exact⟨by omega,by omega,by omega,by omega,by rw[List.length_append,List.length_singleton];omega,B5f h5 (by omega) h7 (.inr ⟨by omega,by omega⟩) h10⟩))
 refine rG cx [3,4,5,6,7,8] [1005] (fA (0≤j2) (fP ((List.map c81 (E5 (List.drop ((↑l.length:Int).tdiv (2:Int)).toNat l)))[j2.toNat]?=some (c81 (E5 (List.drop ((↑l.length:Int).tdiv (2:Int)).toNat l))[j2.toNat]!)) (by have k7':¬ i1=(hfA l).length:=h14;have k8':¬ j2=(hfB l).length:=h15;exact F9 (xs:=hfB l) (by omega)) (fR 3 (fN 3 3 (fR 81 (fR 3 (fR 3 (fX c81 [(E5 (List.drop ((↑l.length:Int).tdiv (2:Int)).toNat l))[j2.toNat]!] 3 (fP ((List.map c81 s3).length+(List.map c81 [(E5 (List.drop ((↑l.length:Int).tdiv (2:Int)).toNat l))[j2.toNat]!]).length≤maxLen) (by have k7':¬ i1=(hfA l).length:=h14;have k8':¬ j2=(hfB l).length:=h15;simp only [List.length_map,List.length_cons,List.length_nil,Go.maxLen];omega) (fP (((List.map c81 s3).length+(List.map c81 [(E5 (List.drop ((↑l.length:Int).tdiv (2:Int)).toNat l))[j2.toNat]!]).length)*(64:Nat)≤(140737488355328:Nat)) (by have k7':¬ i1=(hfA l).length:=h14;have k8':¬ j2=(hfB l).length:=h15;simp only [List.length_map,List.length_cons,List.length_nil];omega) (fM c81 s3 [(E5 (List.drop ((↑l.length:Int).tdiv (2:Int)).toNat l))[j2.toNat]!] (oR 3 (c81 (E5 (List.drop ((↑l.length:Int).tdiv (2:Int)).toNat l))[j2.toNat]!) (oV 6 { rows:=some (List.map c81 (s3++[(E5 (List.drop ((↑l.length:Int).tdiv (2:Int)).toNat l))[j2.toNat]!])) } z0))))))))))))) ?_
 refine sn<|sq<|rG cx [3,4,5,6,7,73] [1005] (tB 1 (0≤C2 (E5 (List.take ((↑l.length:Int).tdiv (2:Int)).toNat l))[i1.toNat]! (E5 (List.drop ((↑l.length:Int).tdiv (2:Int)).toNat l))[j2.toNat]!) z0)<|sn<|A1z (0≤C2 (E5 (List.take ((↑l.length:Int).tdiv (2:Int)).toNat l))[i1.toNat]! (E5 (List.drop ((↑l.length:Int).tdiv (2:Int)).toNat l))[j2.toNat]!) (by kernel_rfl) (by kernel_rfl) (fun h18=>?_) (fun h18=>absurd (by omega) h18)
 refine rG cx [3,4,5,6,7] [1005] (tT 1 (B4 (by omega) (by have k7':¬ i1=(hfA l).length:=h14;have k8':¬ j2=(hfB l).length:=h15;omega):AV.i .i64 (IntKind.i64.wrap (j2+1))=AV.i .i64 (j2+1)) z0) ?_
 refine bN<|sn<|nX ((i1,j2+1,s3++[(E5 (List.drop ((↑l.length:Int).tdiv (2:Int)).toNat l))[j2.toNat]!])) (show((↑(hfA l).length:Int)+(↑(hfB l).length:Int)-i1-(j2+1)).toNat <((↑(hfA l).length:Int)+(↑(hfB l).length:Int)-i1-j2).toNat from(by have k7':¬ i1=(hfA l).length:=h14;have k8':¬ j2=(hfB l).length:=h15;omega)) (show Aq5 (hfA l) (hfB l) i1 (j2+1) (s3++[(E5 (List.drop ((↑l.length:Int).tdiv (2:Int)).toNat l))[j2.toNat]!])from(by have k7':¬ i1=(hfA l).length:=h14;have k8':¬ j2=(hfB l).length:=h15;have k9':¬ C2 (hfA l)[i1.toNat]! (hfB l)[j2.toNat]!≤0:=h16;exact⟨by omega,by omega,by omega,by omega,by rw[List.length_append,List.length_singleton];omega,Az4 h5 h7 (by omega) (.inr ⟨by omega,by omega⟩) h10⟩))
 refine eX 0<|nE<|nE<|bH<|sn<|sq<|rG cx [2] [1005] z0<|sn<|rT<|qR (.sl (List.map c81 s3)) (.eq (by have k6':¬(i1 <(hfA l).length∨j2 <(hfB l).length):=h13;rw[m3_end hf (fun k=>k6' (.inl k)) (fun k=>k6' (.inr k)) h10]))
theorem B5g:∀(n:Nat) (l:List Record),l.length≤n→F6 l→l.length*64≤140737488351232→Con Tryz.prog 128 [.sl (l.map c81)] (.sl ((E5 l).map c81))
 | 0,l,h,hf,hb=>Az5 l 0 h (fun m hm=>by omega) hf hb
 | n+1,l,h,hf,hb=>Az5 l (n+1) h (fun m hm hf' hb'=>B5g n m (by omega) hf' hb') hf hb
theorem con128(l:List Record)(hf:F6 l)(hb:l.length*64≤140737488351232):Con Tryz.prog 128 [.sl (l.map c81)] (.sl ((E5 l).map c81)):=B5g l.length l (Nat.le_refl _) hf hb
theorem Bd8{a b:List Record}(h:¬F5 a=0∨¬F5 b=0):C7 a b=([],1):=by unfold C7;rw[if_neg (fun k=>h.elim (fun g=>g k.1) (fun g=>g k.2))]
theorem A3k{a b:List Record}(h:¬(¬F5 a=0∨¬F5 b=0)):F5 a=0∧F5 b=0:=⟨Classical.not_not.1 fun k=>h (.inl k),Classical.not_not.1 fun k=>h (.inr k)⟩
theorem A2u{a b:List Record}(ha:F5 a=0)(hb:F5 b=0):C7 a b=(E5 (a++b),0):=by unfold C7;rw[if_pos ⟨ha,hb⟩]
theorem A2v{a b:List Record}(ha:F5 a=0)(hb:F5 b=0):F6 (a++b):=fun r hr=>(Ae8.1 (A2r ha hb r hr)).2.1
theorem con80(a b:List Record)(ha:szQ a)(hb:szQ b)(hl:(a.length+b.length)*64≤140737488350000):Con Tryz.prog 80 [.sl (a.map c81),.sl (b.map c81)] (.tup [.sl ((C7 a b).1.map c81),.i .i64 (C7 a b).2]) :=
 by
 refine lN 0 c81 (a) Tryz.func80 fun hl_0=>lN 1 c81 (b) Tryz.func80 fun hl_1=>sC A8 [.tmp 4,.tmp 5] 20 Tryz.func80 ?_
 intro e0 cx
 refine sq<|rG cx [0,1] [] z0<|sn<|sq<|sq<|B1 (σ':=⟨[(0,.sl (List.map c81 a)),(1,.sl (List.map c81 b)),(13,.b (decide (¬F5 a=0∨¬F5 b=0)))],[]⟩) ?_ ?_
 refine A4 (¬F5 a=0) (fun h_1=>?_) (fun h_1=>?_)
 refine rG cx [0,1,13] [] (fT (B8a (a) (by(with_reducible assumption))) (tT 2 (D0 h_1:AV.b (F5 a !=0)=AV.b true) (tD 7 true (¬F5 a=0∨¬F5 b=0) (by simp only [eq_false h_1,tsl]) (oA 1 (.i .i64 (F5 a)) z0)))) ?_
 exact⟨rfl,by kernel_rfl⟩
 refine rG cx [0,1,13] [] (fT (B8a (a) (by(with_reducible assumption))) (tN 2 (F5 a) (0:Int) (tT 3 (A0 h_1) (fT (B8a (b) (by(with_reducible assumption))) (tN 6 (F5 b) (0:Int) (tT 7 (by first | (simp only [eq_false h_1,tsl];done) | simp_all:AV.b (decide ¬F5 b=0)=AV.b (decide (¬F5 a=0∨¬F5 b=0))) (oA 1 (.i .i64 (F5 a)) (oA 5 (.i .i64 (F5 b)) z0)))))))) ?_
 exact⟨rfl,by kernel_rfl⟩
 refine sn<|dC (¬F5 a=0∨¬F5 b=0) (fun h2=>?_) fun h2=>?_
 refine sq<|rG cx [4,5] [] z0<|sn<|rT<|nR<|qR (.tup [.nl,.i .i64 ((1:Int))]) (B6.tup (ZLe.cons (B6.nl' (show List.map c81 (C7 a b).1=[]from(by rw[Bd8 h2];rfl))) (ZLe.cons (B6.eq (show AV.i .i64 1=AV.i .i64 (C7 a b).2 from(by rw[Bd8 h2]))) ZLe.nil)))
 refine sK<|sn<|sq<|rG cx [4,5] [] (fR 81 (fR 3 (fR 3 (fX c81 a 3 (fS c81 [] c81 a (fP (((List.map c81 []).length+(List.map c81 a).length)*(64:Nat)≤(140737488355328:Nat)) (by(simp only [Go.maxLen,List.length_map,List.length_append,List.length_cons,List.length_nil];omega)) (fM c81 [] a (fR 81 (fR 3 (fR 3 (fX c81 b 3 (fS c81 ([]++a) c81 b (fP (((List.map c81 ([]++a)).length+(List.map c81 b).length)*(64:Nat)≤(140737488355328:Nat)) (by(simp only [Go.maxLen,List.length_map,List.length_append,List.length_cons,List.length_nil];omega)) (fM c81 ([]++a) b (fT (con128 ([]++a++b) (by rw[List.nil_append];exact A2v (A3k h2).1 (A3k h2).2) (by(simp only [List.length_append,List.length_cons,List.length_nil];omega))) (oV 2 { rows:=some (List.map c81 ([]++a)) } (oV 4 { rows:=some (List.map c81 ([]++a++b)) } (oA 5 (.sl (List.map c81 (E5 ([]++a++b)))) z0)))))))))))))))))) ?_
 refine sn<|rT<|qR (.tup [.sl (List.map c81 (E5 ([]++a++b))),.i .i64 ((0:Int))]) (B6.tup (ZLe.cons (B6.eq (show AV.sl (List.map c81 (E5 ([]++a++b)))=AV.sl (List.map c81 (C7 a b).1)from(by rw[A2u (A3k h2).1 (A3k h2).2,List.nil_append]))) (ZLe.cons (B6.eq (show AV.i .i64 0=AV.i .i64 (C7 a b).2 from(by rw[A2u (A3k h2).1 (A3k h2).2]))) ZLe.nil)))
theorem con124(r:Record)(e:Entry)(hl:szR r):Con Tryz.prog 124 [.agg (c81 r),.agg (c45 e)] (.b (A31 r e)) :=
 by
 have hq:r.past.cloud.length≤9223372036854775807:=by unfold szR at hl;omega
 refine sC A8 [.tmp 4] 22 Tryz.func124 ?_
 intro e0 cx
 refine sq<|rG cx [2,3] [2,3] z0<|sn<|sq<|B1 (σ':=⟨[(4,.b (decide (r.sku={ data:=#[]:ByteArray }∧E8 r.past e.dot=true∨¬r.sku={ data:=#[]:ByteArray }∧r.sku=e.sku∧E8 r.past e.dot=true)))],[]⟩) ?_ ?_
 refine A4 (r.sku={ data:=#[]:ByteArray }) (fun h1=>?_) (fun h1=>?_)
 refine rG cx [4] [] (tT 2 (A1x h1:AV.b (r.sku.toList == { data:=#[]:ByteArray }.toList)=AV.b true) (fT (B7p (r.past) (e.dot) (by exact hq)) (tD 17 (E8 r.past e.dot) (r.sku={ data:=#[]:ByteArray }∧E8 r.past e.dot=true∨¬r.sku={ data:=#[]:ByteArray }∧r.sku=e.sku∧E8 r.past e.dot=true) (by simp only [eq_true h1,tsl]) (oA 15 (.b (E8 r.past e.dot)) z0)))) ?_
 exact⟨rfl,by kernel_rfl⟩
 refine A4 (r.sku=e.sku) (fun h2=>?_) (fun h2=>?_)
 refine rG cx [4] [] (tT 2 (V1 h1:AV.b (r.sku.toList == { data:=#[]:ByteArray }.toList)=AV.b false) (tT 8 (A1x h2:AV.b (r.sku.toList == e.sku.toList)=AV.b true) (fT (B7p (r.past) (e.dot) (by exact hq)) (tD 17 (E8 r.past e.dot) (r.sku={ data:=#[]:ByteArray }∧E8 r.past e.dot=true∨¬r.sku={ data:=#[]:ByteArray }∧r.sku=e.sku∧E8 r.past e.dot=true) (by simp only [eq_false h1,eq_true h2,tsl]) (oA 15 (.b (E8 r.past e.dot)) z0))))) ?_
 exact⟨rfl,by kernel_rfl⟩
 refine rG cx [4] [] (tT 2 (V1 h1:AV.b (r.sku.toList == { data:=#[]:ByteArray }.toList)=AV.b false) (tT 8 (V1 h2:AV.b (r.sku.toList == e.sku.toList)=AV.b false) (tD 17 false (r.sku={ data:=#[]:ByteArray }∧E8 r.past e.dot=true∨¬r.sku={ data:=#[]:ByteArray }∧r.sku=e.sku∧E8 r.past e.dot=true) (by simp only [eq_false h1,eq_false h2,tsl]) z0))) ?_
 exact⟨rfl,by kernel_rfl⟩
 refine sn<|rT<|qR (.b (decide (r.sku={ data:=#[]:ByteArray }∧E8 r.past e.dot=true∨¬r.sku={ data:=#[]:ByteArray }∧r.sku=e.sku∧E8 r.past e.dot=true))) (.eq ?g2);rotate_left
 case g2 =>
  refine congrArg AV.b ?_
  rw[Bool.eq_iff_iff,A1n,decide_eq_true_iff]
  show(r.sku=noneS∧_∨¬ r.sku=noneS∧_)↔_
  by_cases c:r.sku=noneS <;> simp [c]
theorem Ai5(rs:List Record)(e:Entry){i:Int}(h0:0≤i)(h1:i < rs.length):H7 (rs.take (i+1).toNat) e=H7 (rs.take i.toNat) e+if A31 rs[i.toNat]! e=true then 1 else 0:=by
 unfold H7
 rw[← C8 h0 h1,List.filter_append,List.length_append]
 generalize rs[i.toNat]! = x
 split
 ·rename_i h;simp [List.filter_cons,h]
 ·rename_i h;simp [List.filter_cons,h]
theorem con76(rs:List Record)(e:Entry)(hb:B1u rs):Con Tryz.prog 76 [.sl (rs.map c81),.agg (c45 e)] (.i .i64 (H7 rs e)) :=
 by
 refine lN 0 c81 (rs) Tryz.func76 fun hl_0=>sC A8 [.tmp 4] 22 Tryz.func76 ?_
 intro e0 cx
 refine sq<|rG cx [0,3] [3] z0<|sn<|sq<|rG cx [0,3,5] [3] z0<|sn<|sq<|sq<|rG cx [0,3,5,6] [3] z0<|sn<|bL 0<|sL (X:=Int×Int×Int×Int×ByteArray×Int) (fun x=>⟨[(0,.sl (List.map c81 rs)),(3,.ptr (3) (0) (0) (0)),(5,.i .i64 (x.1)),(6,.i .i64 (x.2.1))],[(3,⟨0,45,.var [.i .i64 (x.2.2.1),.i .i64 (x.2.2.2.1),.s (x.2.2.2.2.1),.i .i64 (x.2.2.2.2.2)]⟩)]⟩) (fun x ↦ decBr rs x.1 x.2.1 x.2.2.1 x.2.2.2.1 x.2.2.2.2.1 x.2.2.2.2.2) (fun x ↦ Ah4 rs e x.1 x.2.1 x.2.2.1 x.2.2.2.1 x.2.2.2.2.1 x.2.2.2.2.2) [0,3,5,6] [3] (((0:Int),(0:Int),e.dot.rep,e.dot.num,e.sku,e.qty)) (show Ah4 rs e (0:Int) (0:Int) e.dot.rep e.dot.num e.sku e.qty from(by exact⟨rfl,rfl,rfl,rfl,by omega,by omega,by omega,by omega,by simp [H7]⟩)) ?_
 rintro⟨n0,i1,r2,m3,s4,q5⟩ h_6
 obtain⟨hh7,hh8,hh9,hh10,h11,h12,h13,h14,h15⟩:r2=e.dot.rep∧m3=e.dot.num∧s4=e.sku∧q5=e.qty∧0≤i1∧i1≤(↑rs.length:Int)∧0≤n0∧n0≤i1∧n0=H7 (List.take i1.toNat rs) e:=h_6
 refine sq<|rD cx [0,3,5,6,10] [3] (tL 2 c81 rs (zB 3 (i1 <(↑rs.length:Int)))) (fun h16=>?_) fun h16=>?_
 refine sK<|sn<|sq<|bL 1<|sq<|rA cx [0,3,5,6,18] [3] (fA (0≤i1) (fG c81 rs i1.toNat (fR 3 (fN 3 3 (fT (con124 (rs[i1.toNat]!) ({ dot:={ rep:=r2,num:=m3:Dot },sku:=s4,qty:=q5:Entry }) (by exact A1j hb h11 h16)) (oR 2 (c81 rs[i1.toNat]!) (oA 5 (.b (A31 rs[i1.toNat]! { dot:={ rep:=r2,num:=m3:Dot },sku:=s4,qty:=q5:Entry })) z0))))))) ?_
 refine sn<|A1e (A31 rs[i1.toNat]! { dot:={ rep:=r2,num:=m3:Dot },sku:=s4,qty:=q5:Entry }) (by kernel_rfl) (by kernel_rfl) (fun h17=>?_) (fun h17=>?_)
 refine rG cx [0,3,5,6] [3] (tW 1 (n0+1) z0)<|bN<|sn<|rG cx [0,3,5,6] [3] (tW 1 (i1+1) z0)<|sn<|nX ((n0+1,i1+1,r2,m3,s4,q5)) (show((↑rs.length:Int)-(i1+1)).toNat <((↑rs.length:Int)-i1).toNat from(by omega)) (show Ah4 rs e (n0+1) (i1+1) r2 m3 s4 q5 from ?g2);rotate_left
 refine sK<|bN<|sn<|rG cx [0,3,5,6] [3] (tW 1 (i1+1) z0)<|sn<|nX ((n0,i1+1,r2,m3,s4,q5)) (show((↑rs.length:Int)-(i1+1)).toNat <((↑rs.length:Int)-i1).toNat from(by omega)) (show Ah4 rs e n0 (i1+1) r2 m3 s4 q5 from ?g3);rotate_left
 refine eX 0<|nE<|nE<|bH<|sn<|sq<|rG cx [4] [] z0<|sn<|rT<|qR (.i .i64 (n0)) (.eq (by rw[h15,List.take_of_length_le (by omega)]))
 case g2 =>
  subst hh7 hh8 hh9 hh10
  refine⟨rfl,rfl,rfl,rfl,by omega,by omega,by omega,by omega,?_⟩
  rw[Ai5 rs e h11 h16,if_pos h17,h15]
 case g3 =>
  subst hh7 hh8 hh9 hh10
  refine⟨rfl,rfl,rfl,rfl,by omega,by omega,by omega,by omega,?_⟩
  have h17:A31 rs[i1.toNat]! e=false:=h17
  rw[Ai5 rs e h11 h16,if_neg (by rw[h17];simp),h15]
  omega
end Go.Proofs.YtaiepnaokhpmcaaGreat
namespace Go.Proofs.YtaiepnaokhpmcaaGreat
open Go.E
set_option maxRecDepth 100000
set_option maxHeartbeats 4000000
theorem Aq6{a b:Dot}:dLt a b=true↔a.rep < b.rep∨a.rep=b.rep∧a.num < b.num:=by simp [dLt]
theorem A6e(a:Dot):¬ dLt a a=true:=by rw[Aq6];omega
theorem Ai6{a b c:Dot}(h1:dLt a b=true)(h2:dLt b c=true):dLt a c=true:=by rw[Aq6]at *;omega
theorem Ai7{a b:Dot}(h1:¬ dLt a b=true)(h2:¬ dLt b a=true):a=b:=by
 rw[Aq6]at *
 cases a;cases b
 simp only at *
 congr 1 <;> omega
def upE(es:List Entry):Prop:=es.Pairwise (fun a b=>dLt a.dot b.dot=true)
def A2w(es:List Entry):Prop:=(∀ e∈es,R9 e=0)∧upE es
theorem Bp2(es:List Entry):okL es=true↔A2w es:=by
 constructor
 ·intro h
  refine⟨fun e he=>?_,?_⟩
  ·obtain⟨i,hi,rfl⟩:=List.mem_iff_getElem.1 he
   have:=(A1a h hi).1
   rwa [getElem!_pos es i hi]at this
  ·unfold upE
   rw[List.pairwise_iff_getElem]
   have step:∀ n i:Nat,(hi:i+n+1 < es.length)→dLt es[i]!.dot es[i+n+1]!.dot=true:=by
    intro n
    induction n with
    | zero =>
     intro i hi
     have:=(A1a h hi).2
     rcases this with k | k
     ·omega
     ·simpa using k
    | succ n ih =>
     intro i hi
     have h1:=ih i (by omega)
     have h2:=(A1a h (i:=i+(n+1)+1) hi).2
     rcases h2 with k | k
     ·omega
     ·rw[show i+(n+1)+1-1=i+n+1 by omega]at k;exact Ai6 h1 k
   intro i j hi hj hij
   have:=step (j-i-1) i (by omega)
   rw[show i+(j-i-1)+1=j by omega,getElem!_pos es i hi,getElem!_pos es j hj]at this
   exact this
 ·rintro⟨h1,h2⟩
  unfold upE at h2
  rw[List.pairwise_iff_getElem]at h2
  unfold okL
  rw[K7]
  intro i hi
  rw[Y2]
  refine⟨h1 _ (A8k hi),?_⟩
  by_cases e:i=0
  ·exact .inl e
  ·refine .inr ?_
   have:=h2 (i-1) i (by omega) hi (by omega)
   rwa [getElem!_pos es (i-1) (by omega),getElem!_pos es i hi]
theorem Y9(es:List Entry):D2 es=0↔A2w es:=by
 rw[← Bp2]
 exact⟨M6,fun h=>by unfold D2;rw[if_pos h]⟩
theorem B5h{l es:List Entry}(h:A2w es)(hs:l.Sublist es):A2w l:=⟨fun e he=>h.1 e (hs.subset he),List.Pairwise.sublist hs h.2⟩
theorem A6f{es:List Entry}(h:A2w es){x y:Entry}(hx:x∈es)(hy:y∈es)(hd:x.dot=y.dot):x=y:=by
 obtain⟨i,hi,rfl⟩:=List.mem_iff_getElem.1 hx
 obtain⟨j,hj,rfl⟩:=List.mem_iff_getElem.1 hy
 have hp:=List.pairwise_iff_getElem.1 h.2
 by_cases e:i=j
 ·subst e;rfl
 ·rcases Nat.lt_or_gt_of_ne e with e | e
  ·have:=hp i j hi hj e;rw[hd]at this;exact absurd this (A6e _)
  ·have:=hp j i hj hi e;rw[hd]at this;exact absurd this (A6e _)
theorem A7v:∀ {a b:List Entry},upE a→upE b→(∀ e,e∈a↔e∈b)→a=b
 | [],[],_,_,_=>rfl
 | [],y :: b,_,_,h=>by have:=(h y).2 (by simp);cases this
 | x :: a,[],_,_,h=>by have:=(h x).1 (by simp);cases this
 | x :: a,y :: b,ha,hb,h=>by
  have pa:=List.pairwise_cons.1 ha
  have pb:=List.pairwise_cons.1 hb
  have e:x=y:=by
   apply Classical.byContradiction
   intro hne
   have h1:x∈b:=by
    rcases List.mem_cons.1 ((h x).1 (by simp))with k | k
    ·exact absurd k hne
    ·exact k
   have h2:y∈a:=by
    rcases List.mem_cons.1 ((h y).2 (by simp))with k | k
    ·exact absurd k.symm hne
    ·exact k
   exact A6e _ (Ai6 (pa.1 y h2) (pb.1 x h1))
  subst e
  rw[A7v pa.2 pb.2 fun e=>?_]
  constructor
  ·intro he
   rcases List.mem_cons.1 ((h e).1 (by simp [he]))with k | k
   ·subst k;exact absurd (pa.1 e he) (A6e _)
   ·exact k
  ·intro he
   rcases List.mem_cons.1 ((h e).2 (by simp [he]))with k | k
   ·subst k;exact absurd (pb.1 e he) (A6e _)
   ·exact k
end Go.Proofs.YtaiepnaokhpmcaaGreat
namespace Go.Proofs.YtaiepnaokhpmcaaGreat
open Go.E
set_option maxRecDepth 100000
set_option maxHeartbeats 4000000
theorem B9d(s:List Entry):(K4 s).2=0∨(K4 s).2=10:=by unfold K4;split <;> simp
theorem B5i{a b:List Entry}(ha:D2 a=0)(hb:D2 b=0):(D9 a b).2=0∨(D9 a b).2=10:=by rw[A0r ha hb];exact B9d _
noncomputable def U5(a b:Facts):Facts:=⟨(D9 a.adds b.adds).1,C6 [a.gone,b.gone],E5 (a.recs++b.recs)⟩
noncomputable def A3(a b:Facts):Facts×Int:=if A0y a b=true then(if(D9 a.adds b.adds).2=0 then(U5 a b,0)else(zeroF,10))else(zeroF,1)
noncomputable def Bp3(f:Facts):List Entry:=(f.adds.filter fun e=>E8 f.gone e.dot == false).filter fun e=>decide (H7 f.recs e=0)
noncomputable def D7(f:Facts):List Entry×Int:=if okF f=true then(Bp3 f,0)else([],1)
def A9s(es:List Entry):Past:=G1 (ofT (es.map fun e=>e.dot))
noncomputable def I6(f:Facts):Past×Int:=if okF f=true then(C6 [A9s f.adds,f.gone],0)else(⟨[],[]⟩,1)
noncomputable def Aj6(b:Facts)(e:Entry):Bool:=(B7 b.adds e.dot).2 && decide (¬(B7 b.adds e.dot).1=e)
noncomputable def A5(a b:Facts):Dot×Bool:=if A0y a b=true then(match a.adds.find? (Aj6 b)with | some e=>(e.dot,true) | none=>(⟨0,0⟩,false))else(⟨0,0⟩,false)
def szB(n:Nat)(f:Facts):Prop:=szF f∧f.recs.length≤n*1048576∧A32 f.recs≤n*1099512676352
theorem F7{n m:Nat}{f:Facts}(h:szB n f)(hm:n≤m):szB m f:=⟨h.1,Nat.le_trans h.2.1 (Nat.mul_le_mul_right _ hm),Nat.le_trans h.2.2 (Nat.mul_le_mul_right _ hm)⟩
theorem Bp4{n:Nat}{f:Facts}(h:szB n f)(hn:n≤7):tokR f.recs:=⟨by have:=h.2.2;omega,by have:=h.2.1;omega⟩
def Bp5(a b:Facts)(i:Int)(y1:List Entry)(y2:List Int)(y3:List Span)(y4:List Record)(r m:Int):Prop:=y1=b.adds∧0≤i∧i≤a.adds.length∧∀ j:Nat,(j:Int) < i→Aj6 b a.adds[j]! = false
def decCl(a:Facts)(i:Int)(y1:List Entry)(y2:List Int)(y3:List Span)(y4:List Record)(r m:Int):Nat:=(a.adds.length-i).toNat
theorem R5{a b:Facts}(h:¬ A0y a b=true):A3 a b=(zeroF,1):=by unfold A3;rw[if_neg h]
theorem R6{a b:Facts}(h:A0y a b=true)(k:¬(D9 a.adds b.adds).2=0):A3 a b=(zeroF,10):=by unfold A3;rw[if_pos h,if_neg k]
theorem A6g{a b:Facts}(h:A0y a b=true)(k:(D9 a.adds b.adds).2=0):A3 a b=(U5 a b,0):=by unfold A3;rw[if_pos h,if_pos k]
theorem J1{a b:Facts}(h:A0y a b=true):(D2 a.adds=0∧a.gone=A6 a.gone∧F5 a.recs=0)∧(D2 b.adds=0∧b.gone=A6 b.gone∧F5 b.recs=0) :=
 ⟨G2.1 (H5.1 h).1,G2.1 (H5.1 h).2⟩
theorem B5j{a b:Facts}(h:A0y a b=true)(k:¬(D9 a.adds b.adds).2=0):(D9 a.adds b.adds).2=10:=(B5i (J1 h).1.1 (J1 h).2.1).resolve_left k
theorem B5k{a b:Facts}(h:A0y a b=true):A14 [a.gone,b.gone]*16≤140737488350000:=by
 have h1:=Y5 (J1 h).1.2.1
 have h2:=Y5 (J1 h).2.2.1
 have e:A14 [a.gone,b.gone]=a.gone.cloud.length+1+(b.gone.cloud.length+1):=by simp [A14]
 rw[e]
 omega
theorem A6h{es:List Entry}(h:D2 es=0):F2 es=(A9s es,0):=by unfold F2;rw[if_pos (M6 h)];rfl
theorem B5l(es:List Entry):A9s es=A6 (A9s es):=(A4f _).symm
theorem Az6{f:Facts}(h:okF f=true):A14 [(F2 f.adds).1,f.gone]*16≤140737488350000:=by
 rw[A6h (G2.1 h).1]
 have h1:=Y5 (B5l f.adds)
 have h2:=Y5 (G2.1 h).2.1
 have e:A14 [A9s f.adds,f.gone]=(A9s f.adds).cloud.length+1+(f.gone.cloud.length+1):=by simp [A14]
 show A14 [A9s f.adds,f.gone]*16≤_
 rw[e]
 omega
theorem Aq7{f:Facts}(h:okF f=true):O5 f.adds f.gone false=(f.adds.filter (fun e=>E8 f.gone e.dot == false),0):=by
 unfold O5
 rw[if_pos ⟨M6 (G2.1 h).1,(G2.1 h).2.1⟩]
theorem A7w{f:Facts}(h:okF f=true):N1 (O5 f.adds f.gone false).1 f.recs=D7 f:=by
 rw[Aq7 h]
 unfold N1 D7
 rw[if_pos h,if_pos ⟨(Y9 _).2 (B5h ((Y9 _).1 (G2.1 h).1) List.filter_sublist),(G2.1 h).2.2⟩]
 rfl
theorem A9t{f:Facts}(h:¬ D4 f=0):D7 f=([],1):=by unfold D7;rw[if_neg (fun k=>h (J2.2 k))]
theorem Aq8{f:Facts}(h:¬ D4 f=0):I6 f=(⟨[],[]⟩,1):=by unfold I6;rw[if_neg (fun k=>h (J2.2 k))]
theorem A9u{f:Facts}(h:okF f=true):I6 f=(C6 [A9s f.adds,f.gone],0):=by unfold I6;rw[if_pos h]
theorem A2x{a b:Facts}(h:¬ A0y a b=true):A5 a b=(⟨0,0⟩,false):=by unfold A5;rw[if_neg h]
theorem A07{a b:Facts}(h:A0y a b=true){i:Int}(h0:0≤i)(hi:i < a.adds.length)(hb:∀ j:Nat,(j:Int) < i→Aj6 b a.adds[j]! = false)(hc:Aj6 b a.adds[i.toNat]! = true):A5 a b=(a.adds[i.toNat]!.dot,true):=by
 have e:a.adds.find? (Aj6 b)=some a.adds[i.toNat]!:=by
  rw[List.find?_eq_some_iff_getElem]
  refine⟨hc,i.toNat,by omega,by rw[getElem!_pos a.adds i.toNat (by omega)],fun j hj=>?_⟩
  have:=hb j (by omega)
  rw[getElem!_pos a.adds j (by omega)]at this
  rw[this]
  rfl
 unfold A5
 rw[if_pos h,e]
theorem A0t{a b:Facts}(h:A0y a b=true){i:Int}(hi:¬ i < a.adds.length)(hb:∀ j:Nat,(j:Int) < i→Aj6 b a.adds[j]! = false):A5 a b=(⟨0,0⟩,false):=by
 have e:a.adds.find? (Aj6 b)=none:=by
  rw[List.find?_eq_none]
  intro x hx
  obtain⟨j,hj,rfl⟩:=List.mem_iff_getElem.1 hx
  have:=hb j (by omega)
  rw[getElem!_pos a.adds j hj]at this
  rw[this]
  simp
 unfold A5
 rw[if_pos h,e]
theorem U6{b:Facts}{e:Entry}:Aj6 b e=true↔(B7 b.adds e.dot).2=true∧¬(B7 b.adds e.dot).1=e:=by unfold Aj6;rw[Bool.and_eq_true,decide_eq_true_iff]
theorem A9v(a b:Facts)(ha:szB 3 a)(hb:szB 3 b):Con Tryz.prog 30 [.agg (c29 a),.agg (c29 b)] (.tup [.agg (c29 (A3 a b).1),.i .i64 (A3 a b).2]) :=
 by
 have y:¬¬A0y a b=true→A0y a b=true:=Classical.not_not.1
 have ru:¬¬A0y a b=true→C7 a.recs b.recs=(E5 (a.recs++b.recs),0):=fun h=>A2u (J1 (y h)).1.2.2 (J1 (y h)).2.2.2
 refine sC A8 [.cell 4 29,.tmp 5] 47 Tryz.func30 ?_
 intro e0 cx
 refine sq<|rG cx [2,3,4] [2,3,4] z0<|sn<|sq<|sq<|rG cx [2,3,4,12] [2,3,4] (fT (con56 (a) (b) (by exact ha.1) (by exact hb.1)) (tT 3 (D3:(AV.b !A0y a b)=AV.b (decide ¬A0y a b=true)) (oA 2 (.b (A0y a b)) z0))) ?_
 refine sn<|dC (¬A0y a b=true) (fun h0=>?_) fun h0=>?_
 refine sq<|rG cx [4,5] [4] z0<|sn<|rT<|nR<|qR (.tup [.agg [.nl,.nl,.nl,.nl],.i .i64 ((1:Int))]) (B6.tup (ZLe.cons (B6.agg (ZLe.cons (B6.nl' (show List.map c45 (A3 a b).1.adds=[]from(by rw[R5 h0];rfl))) (ZLe.cons (B6.nl' (show List.map c3 (A3 a b).1.gone.vec=[]from(by rw[R5 h0];rfl))) (ZLe.cons (B6.nl' (show List.map B5 (A3 a b).1.gone.cloud=[]from(by rw[R5 h0];rfl))) (ZLe.cons (B6.nl' (show List.map c81 (A3 a b).1.recs=[]from(by rw[R5 h0];rfl))) ZLe.nil))))) (ZLe.cons (B6.eq (show AV.i .i64 1=AV.i .i64 (A3 a b).2 from(by rw[R5 h0]))) ZLe.nil)))
 refine sK<|sn<|sq<|rG cx [2,3,4,6,7] [2,3,4] (fT (con70 (a.adds) (b.adds)) (oA 4 (resC (con70 (a.adds) (b.adds))) z0))<|sn<|sq<|sq<|rG cx [2,3,4,6,7,23] [2,3,4] (tN 1 ((D9 a.adds b.adds).2) (0:Int) z0)<|sn<|dC (¬(D9 a.adds b.adds).2=0) (fun h1=>?_) fun h1=>?_
 refine sq<|rG cx [4,5] [4] z0<|sn<|rT<|nR<|qR (.tup [.agg [.nl,.nl,.nl,.nl],.i .i64 ((D9 a.adds b.adds).2)]) (B6.tup (ZLe.cons (B6.agg (ZLe.cons (B6.nl' (show List.map c45 (A3 a b).1.adds=[]from(by rw[R6 (y h0) h1];rfl))) (ZLe.cons (B6.nl' (show List.map c3 (A3 a b).1.gone.vec=[]from(by rw[R6 (y h0) h1];rfl))) (ZLe.cons (B6.nl' (show List.map B5 (A3 a b).1.gone.cloud=[]from(by rw[R6 (y h0) h1];rfl))) (ZLe.cons (B6.nl' (show List.map c81 (A3 a b).1.recs=[]from(by rw[R6 (y h0) h1];rfl))) ZLe.nil))))) (ZLe.cons (B6.eq (show AV.i .i64 (D9 a.adds b.adds).2=AV.i .i64 (A3 a b).2 from(by rw[R6 (y h0) h1,B5j (y h0) h1]))) ZLe.nil)))
 refine sK<|sn<|sq<|rG cx [2,3,4,6,7,8] [2,3,4] (fT (con75 (a.recs) (b.recs) (by exact B4n ha.1.2) (by exact B4n hb.1.2) (by have:=ha.2.1;have:=hb.2.1;omega)) (oA 4 (.tup [.sl (List.map c81 (C7 a.recs b.recs).1),.i .i64 ((C7 a.recs b.recs).2)]) z0)) ?_
 refine sn<|sq<|sq<|rG cx [2,3,4,6,7,8,35] [2,3,4] (tN 1 ((C7 a.recs b.recs).2) (0:Int) z0)<|sn<|dC (¬(C7 a.recs b.recs).2=0) (fun h2=>?_) fun h2=>?_
 refine sq<|rG cx [4,5] [4] z0<|sn<|rT<|nR<|qR (.tup [.agg [.nl,.nl,.nl,.nl],.i .i64 ((C7 a.recs b.recs).2)]) (B6.tup (ZLe.cons (B6.agg (ZLe.cons (B6.nl' (show List.map c45 (A3 a b).1.adds=[]from(by exact absurd (by rw[ru h0]) h2))) (ZLe.cons (B6.nl' (show List.map c3 (A3 a b).1.gone.vec=[]from(by exact absurd (by rw[ru h0]) h2))) (ZLe.cons (B6.nl' (show List.map B5 (A3 a b).1.gone.cloud=[]from(by exact absurd (by rw[ru h0]) h2))) (ZLe.cons (B6.nl' (show List.map c81 (A3 a b).1.recs=[]from(by exact absurd (by rw[ru h0]) h2))) ZLe.nil))))) (ZLe.cons (B6.eq (show AV.i .i64 (C7 a.recs b.recs).2=AV.i .i64 (A3 a b).2 from(by exact absurd (by rw[ru h0]) h2))) ZLe.nil)))
 refine sK<|sn<|sq<|rG cx [4,5] [4] (fT (Bk6 ([a.gone,b.gone]) (by exact B5k (y h0))) (oA 6 (.agg [.sl (List.map c3 (C6 [a.gone,b.gone]).vec),.sl (List.map B5 (C6 [a.gone,b.gone]).cloud)]) z0)) ?_
 refine sn<|rT<|qR (.tup [.agg [.sl (List.map c45 (D9 a.adds b.adds).1),.sl (List.map c3 (C6 [a.gone,b.gone]).vec),.sl (List.map B5 (C6 [a.gone,b.gone]).cloud),.sl (List.map c81 (C7 a.recs b.recs).1)],.i .i64 ((0:Int))]) (B6.tup (ZLe.cons (B6.eq (show AV.agg [AV.sl (List.map c45 (D9 a.adds b.adds).1),AV.sl (List.map c3 (C6 [a.gone,b.gone]).vec),AV.sl (List.map B5 (C6 [a.gone,b.gone]).cloud),AV.sl (List.map c81 (C7 a.recs b.recs).1)]=AV.agg [AV.sl (List.map c45 (A3 a b).1.adds),AV.sl (List.map c3 (A3 a b).1.gone.vec),AV.sl (List.map B5 (A3 a b).1.gone.cloud),AV.sl (List.map c81 (A3 a b).1.recs)]from(by rw[A6g (y h0) (Classical.not_not.1 h1),ru h0];rfl))) (ZLe.cons (B6.eq (show AV.i .i64 0=AV.i .i64 (A3 a b).2 from(by rw[A6g (y h0) (Classical.not_not.1 h1)]))) ZLe.nil)))
theorem con31(f:Facts)(hb:szB 7 f):Con Tryz.prog 31 [.agg (c29 f)] (.tup [.sl ((D7 f).1.map c45),.i .i64 (D7 f).2]) :=
 by
 have y:¬¬D4 f=0→okF f=true:=fun h=>J2.1 (Classical.not_not.1 h)
 refine sC A8 [.tmp 2,.tmp 3] 26 Tryz.func31 ?_
 intro e0 cx
 refine sq<|rG cx [1] [1] z0<|sn<|sq<|sq<|rG cx [1,8] [1] (fT (A42 (f) (by exact hb.1)) (tN 2 (D4 f) (0:Int) (oA 1 (.i .i64 (D4 f)) z0))) ?_
 refine sn<|dC (¬D4 f=0) (fun h0=>?_) fun h0=>?_
 refine sq<|rG cx [2,3] [] z0<|sn<|rT<|nR<|qR (.tup [.nl,.i .i64 ((1:Int))]) (B6.tup (ZLe.cons (B6.nl' (show List.map c45 (D7 f).1=[]from(by rw[A9t h0];rfl))) (ZLe.cons (B6.eq (show AV.i .i64 1=AV.i .i64 (D7 f).2 from(by rw[A9t h0]))) ZLe.nil)))
 refine sK<|sn<|sq<|rG cx [1,4,5] [1] (fT (con68 (f.adds) (f.gone) (by exact hb.1.1.1)) (oA 4 (.tup [.sl (List.map c45 (O5 f.adds f.gone false).1),.i .i64 ((O5 f.adds f.gone false).2)]) z0)) ?_
 refine sn<|sq<|sq<|rG cx [1,4,5,18] [1] (tN 1 ((O5 f.adds f.gone false).2) (0:Int) z0)<|sn<|dC (¬(O5 f.adds f.gone false).2=0) (fun h1=>?_) fun h1=>?_
 refine sq<|rG cx [2,3] [] z0<|sn<|rT<|nR<|qR (.tup [.nl,.i .i64 ((O5 f.adds f.gone false).2)]) (B6.tup (ZLe.cons (B6.nl' (show List.map c45 (D7 f).1=[]from(by exact absurd (by rw[Aq7 (y h0)]) h1))) (ZLe.cons (B6.eq (show AV.i .i64 (O5 f.adds f.gone false).2=AV.i .i64 (D7 f).2 from(by exact absurd (by rw[Aq7 (y h0)]) h1))) ZLe.nil)))
 refine sK<|sn<|sq<|rG cx [2,3] [] (fT (con69 ((O5 f.adds f.gone false).1) (f.recs) (by exact B4n hb.1.2) (by exact Bp4 hb (Nat.le_refl _))) (oA 3 (.tup [.sl (List.map c45 (N1 (O5 f.adds f.gone false).1 f.recs).1),.i .i64 ((N1 (O5 f.adds f.gone false).1 f.recs).2)]) z0)) ?_
 refine sn<|rT<|qR (.tup [.sl (List.map c45 (N1 (O5 f.adds f.gone false).1 f.recs).1),.i .i64 ((N1 (O5 f.adds f.gone false).1 f.recs).2)]) (B6.tup (ZLe.cons (B6.eq (show AV.sl (List.map c45 (N1 (O5 f.adds f.gone false).1 f.recs).1)=AV.sl (List.map c45 (D7 f).1)from(by rw[A7w (y h0)]))) (ZLe.cons (B6.eq (show AV.i .i64 (N1 (O5 f.adds f.gone false).1 f.recs).2=AV.i .i64 (D7 f).2 from(by rw[A7w (y h0)]))) ZLe.nil)))
theorem con45(f:Facts)(hb:szF f):Con Tryz.prog 45 [.agg (c29 f)] (.tup [.agg (c26 (I6 f).1),.i .i64 (I6 f).2]) :=
 by
 have y:¬¬D4 f=0→okF f=true:=fun h=>J2.1 (Classical.not_not.1 h)
 refine sC A8 [.cell 2 26,.tmp 3] 22 Tryz.func45 ?_
 intro e0 cx
 refine sq<|rG cx [1,2] [1,2] z0<|sn<|sq<|sq<|rG cx [1,2,8] [1,2] (fT (A42 (f) (by(with_reducible assumption))) (tN 2 (D4 f) (0:Int) (oA 1 (.i .i64 (D4 f)) z0)))<|sn<|dC (¬D4 f=0) (fun h0=>?_) fun h0=>?_
 refine sq<|rG cx [2,3] [2] z0<|sn<|rT<|nR<|qR (.tup [.agg [.nl,.nl],.i .i64 ((1:Int))]) (B6.tup (ZLe.cons (B6.agg (ZLe.cons (B6.nl' (show List.map c3 (I6 f).1.vec=[]from(by rw[Aq8 h0];rfl))) (ZLe.cons (B6.nl' (show List.map B5 (I6 f).1.cloud=[]from(by rw[Aq8 h0];rfl))) ZLe.nil))) (ZLe.cons (B6.eq (show AV.i .i64 1=AV.i .i64 (I6 f).2 from(by rw[Aq8 h0]))) ZLe.nil)))
 refine sK<|sn<|sq<|rG cx [1,2,4,5] [1,2,4] (fT (con87 (f.adds)) (oA 2 (.tup [.agg [.sl (List.map c3 (F2 f.adds).1.vec),.sl (List.map B5 (F2 f.adds).1.cloud)],.i .i64 ((F2 f.adds).2)]) z0))<|sn<|sq<|rG cx [2,3] [2] (fT (Bk6 ([(F2 f.adds).1,f.gone]) (by exact Az6 (y h0))) (oA 4 (.agg [.sl (List.map c3 (C6 [(F2 f.adds).1,f.gone]).vec),.sl (List.map B5 (C6 [(F2 f.adds).1,f.gone]).cloud)]) z0)) ?_
 refine sn<|rT<|qR (.tup [.agg [.sl (List.map c3 (C6 [(F2 f.adds).1,f.gone]).vec),.sl (List.map B5 (C6 [(F2 f.adds).1,f.gone]).cloud)],.i .i64 ((F2 f.adds).2)]) (B6.tup (ZLe.cons (B6.eq (show AV.agg [AV.sl (List.map c3 (C6 [(F2 f.adds).1,f.gone]).vec),AV.sl (List.map B5 (C6 [(F2 f.adds).1,f.gone]).cloud)]=AV.agg [AV.sl (List.map c3 (I6 f).1.vec),AV.sl (List.map B5 (I6 f).1.cloud)]from(by rw[A9u (y h0),A6h (G2.1 (y h0)).1]))) (ZLe.cons (B6.eq (show AV.i .i64 (F2 f.adds).2=AV.i .i64 (I6 f).2 from(by rw[A9u (y h0),A6h (G2.1 (y h0)).1]))) ZLe.nil)))
theorem Bp6(a b:Facts)(ha:szF a)(hb:szF b):Con Tryz.prog 35 [.agg (c29 a),.agg (c29 b)] (.tup [.agg (c43 (A5 a b).1),.b (A5 a b).2]) :=
 by
 have y:¬¬A0y a b=true→A0y a b=true:=Classical.not_not.1
 refine sC A8 [.cell 4 43,.tmp 5] 40 Tryz.func35 ?_
 intro e0 cx
 refine sq<|rG cx [2,3,4] [2,3,4] z0<|sn<|sq<|sq<|rG cx [2,3,4,13] [2,3,4] (fT (con56 (a) (b) (by(with_reducible assumption)) (by(with_reducible assumption))) (tT 3 (D3:(AV.b !A0y a b)=AV.b (decide ¬A0y a b=true)) (oA 2 (.b (A0y a b)) z0)))<|sn<|dC (¬A0y a b=true) (fun hh0=>?_) fun hh0=>?_
 refine sq<|rG cx [4,5] [4] z0<|sn<|rT<|nR<|qR (.tup [.agg [.i .i64 ((0:Int)),.i .i64 ((0:Int))],.b (false)]) (B6.tup (ZLe.cons (B6.eq (show AV.agg [AV.i .i64 (0:Int),AV.i .i64 (0:Int)]=AV.agg [AV.i .i64 (A5 a b).1.rep,AV.i .i64 (A5 a b).1.num]from(by rw[A2x hh0]))) (ZLe.cons (B6.eq (show AV.b false=AV.b (A5 a b).2 from(by rw[A2x hh0]))) ZLe.nil)))
 refine sK<|sn<|sq<|sq<|rG cx [3,4,16,17,18] [3,4] (tL 2 c45 a.adds z0)<|sn<|bL 0<|sL (X:=Int×List Entry×List Int×List Span×List Record×Int×Int) (fun x=>⟨[(3,.ptr (3) (0) (0) (0)),(4,.ptr (4) (0) (0) (0)),(16,.sl (List.map c45 a.adds)),(17,.i .i64 ((↑a.adds.length:Int))),(18,.i .i64 (x.1))],[(3,⟨0,29,.var [.sl (List.map c45 x.2.1),.sl (List.map c3 x.2.2.1),.sl (List.map B5 x.2.2.2.1),.sl (List.map c81 x.2.2.2.2.1)]⟩),(4,⟨0,43,.var [.i .i64 (x.2.2.2.2.2.1),.i .i64 (x.2.2.2.2.2.2)]⟩)]⟩) (fun x ↦ decCl a x.1 x.2.1 x.2.2.1 x.2.2.2.1 x.2.2.2.2.1 x.2.2.2.2.2.1 x.2.2.2.2.2.2) (fun x ↦ Bp5 a b x.1 x.2.1 x.2.2.1 x.2.2.2.1 x.2.2.2.2.1 x.2.2.2.2.2.1 x.2.2.2.2.2.2) [3,4,16,17,18] [3,4] (((0:Int),b.adds,b.gone.vec,b.gone.cloud,b.recs,(0:Int),(0:Int))) (show Bp5 a b (0:Int) b.adds b.gone.vec b.gone.cloud b.recs (0:Int) (0:Int)from(by exact⟨rfl,by omega,by omega,fun j hj=>by omega⟩)) ?_
 rintro⟨i1,yy2,yy3,yy4,y5,r6,m7⟩ h_8
 obtain⟨h9,h10,h11,h12⟩:yy2=b.adds∧0≤i1∧i1≤(↑a.adds.length:Int)∧∀(j:Nat),(↑j:Int) < i1→Aj6 b a.adds[j]! = false:=h_8
 refine rE cx [3,4,16,17,18,19] [3,4] (zB 0 (i1 <(↑a.adds.length:Int))) (fun h13=>?_) fun h13=>?_
 refine sK<|sn<|sq<|bL 1<|sq<|rG cx [3,4,16,17,18,7] [3,4,7] (fA (0≤i1) (fG c45 a.adds i1.toNat (fR 4 (fN 4 4 (oR 0 (c45 a.adds[i1.toNat]!) z0)))))<|sn<|sq<|rG cx [3,4,16,17,18,7,8,9] [3,4,7,8] (fT (con67 (yy2) (a.adds[i1.toNat]!.dot)) (oA 4 (.tup [.agg [.i .i64 ((B7 yy2 a.adds[i1.toNat]!.dot).1.dot.rep),.i .i64 ((B7 yy2 a.adds[i1.toNat]!.dot).1.dot.num),.s ((B7 yy2 a.adds[i1.toNat]!.dot).1.sku),.i .i64 ((B7 yy2 a.adds[i1.toNat]!.dot).1.qty)],.b ((B7 yy2 a.adds[i1.toNat]!.dot).2)]) z0))<|sn<|sq<|B1 (σ':=⟨[(3,.ptr (3) (0) (0) (0)),(4,.ptr (4) (0) (0) (0)),(16,.sl (List.map c45 a.adds)),(17,.i .i64 ((↑a.adds.length:Int))),(18,.i .i64 (i1)),(7,.ptr (7) (0) (0) (0)),(35,.b (decide ((B7 yy2 a.adds[i1.toNat]!.dot).2=true∧¬(B7 yy2 a.adds[i1.toNat]!.dot).1=a.adds[i1.toNat]!)))],[(3,⟨0,29,.var [.sl (List.map c45 yy2),.sl (List.map c3 yy3),.sl (List.map B5 yy4),.sl (List.map c81 y5)]⟩),(4,⟨0,43,.var [.i .i64 (r6),.i .i64 (m7)]⟩),(7,⟨0,45,.var [.i .i64 (a.adds[i1.toNat]!.dot.rep),.i .i64 (a.adds[i1.toNat]!.dot.num),.s (a.adds[i1.toNat]!.sku),.i .i64 (a.adds[i1.toNat]!.qty)]⟩)]⟩) ?_ ?_
 refine A4 ((B7 yy2 a.adds[i1.toNat]!.dot).2=true) (fun h_15=>?_) (fun h_15=>?_)
 refine rG cx [3,4,16,17,18,7,35] [3,4,7] (tT 0 (X4 h_15) (fT (M5 (Bg3 (B7 yy2 a.adds[i1.toNat]!.dot).1 a.adds[i1.toNat]!)) (tD 5 (decide ¬(B7 yy2 a.adds[i1.toNat]!.dot).1=a.adds[i1.toNat]!) ((B7 yy2 a.adds[i1.toNat]!.dot).2=true∧¬(B7 yy2 a.adds[i1.toNat]!.dot).1=a.adds[i1.toNat]!) (by simp only [eq_true h_15,tsl]) (oA 4 (.b (decide ¬(B7 yy2 a.adds[i1.toNat]!.dot).1=a.adds[i1.toNat]!)) z0)))) ?_
 exact⟨rfl,by kernel_rfl⟩
 refine rG cx [3,4,16,17,18,7,35] [3,4,7] (tT 0 (K1 h_15:AV.b (B7 yy2 a.adds[i1.toNat]!.dot).2=AV.b false) (tD 5 false ((B7 yy2 a.adds[i1.toNat]!.dot).2=true∧¬(B7 yy2 a.adds[i1.toNat]!.dot).1=a.adds[i1.toNat]!) (by simp only [eq_false h_15,tsl]) z0)) ?_
 exact⟨rfl,by kernel_rfl⟩
 refine sn<|dC ((B7 yy2 a.adds[i1.toNat]!.dot).2=true∧¬(B7 yy2 a.adds[i1.toNat]!.dot).1=a.adds[i1.toNat]!) (fun h16=>?_) fun h16=>?_
 refine sq<|rG cx [4,5] [4] z0<|sn<|rT<|bR<|nR<|nR<|bR<|nR<|qR (.tup [.agg [.i .i64 (a.adds[i1.toNat]!.dot.rep),.i .i64 (a.adds[i1.toNat]!.dot.num)],.b (true)]) (B6.tup (ZLe.cons (B6.eq (show AV.agg [AV.i .i64 a.adds[i1.toNat]!.dot.rep,AV.i .i64 a.adds[i1.toNat]!.dot.num]=AV.agg [AV.i .i64 (A5 a b).1.rep,AV.i .i64 (A5 a b).1.num]from(by subst h9;rw[A07 (y hh0) h10 h13 h12 (U6.2 h16)]))) (ZLe.cons (B6.eq (show AV.b true=AV.b (A5 a b).2 from(by subst h9;rw[A07 (y hh0) h10 h13 h12 (U6.2 h16)]))) ZLe.nil)))
 refine sK<|bN<|sn<|rG cx [3,4,16,17,18] [3,4] (tT 0 (B4 (by omega) (by have:=U4 (M6 (J1 (y hh0)).1.1);omega):AV.i .i64 (IntKind.i64.wrap (i1+1))=AV.i .i64 (i1+1)) z0) ?_
 refine sn<|nX ((i1+1,yy2,yy3,yy4,y5,r6,m7)) (show((↑a.adds.length:Int)-(i1+1)).toNat <((↑a.adds.length:Int)-i1).toNat from(by omega)) (show Bp5 a b (i1+1) yy2 yy3 yy4 y5 r6 m7 from ?g6);rotate_left
 refine eX 0<|nE<|nE<|bH<|sn<|sq<|rG cx [4,5] [4] z0<|sn<|rT<|qR (.tup [.agg [.i .i64 ((0:Int)),.i .i64 ((0:Int))],.b (false)]) (B6.tup (ZLe.cons (B6.eq (show AV.agg [AV.i .i64 (0:Int),AV.i .i64 (0:Int)]=AV.agg [AV.i .i64 (A5 a b).1.rep,AV.i .i64 (A5 a b).1.num]from(by rw[A0t (y hh0) h13 h12]))) (ZLe.cons (B6.eq (show AV.b false=AV.b (A5 a b).2 from(by rw[A0t (y hh0) h13 h12]))) ZLe.nil)))
 case g6 =>
  subst h9
  refine⟨rfl,by omega,by omega,fun j hj=>?_⟩
  by_cases c:j=i1.toNat
  ·rw[c];exact Bool.eq_false_iff.2 fun k=>h16 (U6.1 k)
  ·exact h12 j (by omega)
end Go.Proofs.YtaiepnaokhpmcaaGreat
namespace Go.Proofs.YtaiepnaokhpmcaaGreat
open Go.E
set_option maxRecDepth 100000
set_option maxHeartbeats 4000000
def B9e(f:Facts)(i:Int)(x1:List Entry)(x2:List Int)(x3:List Span)(x4:List Record)(o:List Entry):Prop:=x1=f.adds∧x2=f.gone.vec∧x3=f.gone.cloud∧x4=f.recs∧0≤i∧i≤f.adds.length∧(o.length:Int)≤i∧o=((f.adds.take i.toNat).filter fun e=>E8 f.gone e.dot == false).filter fun e=>decide (H7 f.recs e=0)
def decLv(f:Facts)(i:Int)(x1:List Entry)(x2:List Int)(x3:List Span)(x4:List Record)(o:List Entry):Nat:=(f.adds.length-i).toNat
def Bp7(a b:Facts)(i:Int)(x1:List Entry)(x2:List Int)(x3:List Span)(x4:List Record)(y1:List Entry)(y2:List Int)(y3:List Span)(y4:List Record)(r m:Int):Prop:=x1=a.adds∧y1=b.adds∧0≤i∧i≤a.adds.length∧∀ j:Nat,(j:Int) < i→Aj6 b a.adds[j]! = false
def decCr(a:Facts)(i:Int)(x1:List Entry)(x2:List Int)(x3:List Span)(x4:List Record)(y1:List Entry)(y2:List Int)(y3:List Span)(y4:List Record)(r m:Int):Nat:=(a.adds.length-i).toNat
theorem U7{a b:Facts}(h:¬D4 a=0∨¬D4 b=0):¬ A0y a b=true:=fun k=>h.elim (fun g=>g (J2.2 (H5.1 k).1)) (fun g=>g (J2.2 (H5.1 k).2))
theorem I7{a b:Facts}(h:¬(¬D4 a=0∨¬D4 b=0)):A0y a b=true:=H5.2 ⟨J2.1 (Classical.not_not.1 fun k=>h (.inl k)),J2.1 (Classical.not_not.1 fun k=>h (.inr k))⟩
theorem Az7{es:List Entry}{d:Dot}(h:(B7 es d).2=true):(B7 es d).1.dot=d:=by
 unfold B7 at *
 split at h
 ·rename_i e he
  have:=List.find?_some he
  exact of_decide_eq_true this
 ·cases h
theorem B5m{f:Facts}{i:Int}{o:List Entry}(h0:0≤i)(hi:i < f.adds.length)(ho:o=((f.adds.take i.toNat).filter fun e=>E8 f.gone e.dot == false).filter fun e=>decide (H7 f.recs e=0)) :
  ((f.adds.take (i+1).toNat).filter fun e=>E8 f.gone e.dot == false).filter (fun e=>decide (H7 f.recs e=0))=o++(if ¬ E8 f.gone f.adds[i.toNat]!.dot=true∧H7 f.recs f.adds[i.toNat]! = 0 then[f.adds[i.toNat]!]else[]):=by
 rw[← C8 h0 hi,List.filter_append,List.filter_append,ho]
 congr 1
 generalize f.adds[i.toNat]! = x
 cases hx:E8 f.gone x.dot with
 | true=>simp [List.filter_cons,hx]
 | false=>by_cases hb:H7 f.recs x=0 <;> simp [List.filter_cons,hx,hb]
theorem con37(a b:Facts)(ha:szB 3 a)(hb:szB 3 b):Con Tryz.prog 37 [.agg (c29 a),.agg (c29 b)] (.tup [.agg (c29 (A3 a b).1),.i .i64 (A3 a b).2]) :=
 by
 refine sC A8 [.cell 4 29,.tmp 5] 47 Tryz.func37 ?_
 intro e0 cx
 refine sq<|rG cx [2,3,4] [2,3,4] z0<|sn<|sq<|sq<|B1 (σ':=⟨[(2,.ptr (2) (0) (0) (0)),(3,.ptr (3) (0) (0) (0)),(4,.ptr (4) (0) (0) (0)),(17,.b (decide (¬D4 a=0∨¬D4 b=0)))],[(2,⟨0,29,.var [.sl (List.map c45 a.adds),.sl (List.map c3 a.gone.vec),.sl (List.map B5 a.gone.cloud),.sl (List.map c81 a.recs)]⟩),(3,⟨0,29,.var [.sl (List.map c45 b.adds),.sl (List.map c3 b.gone.vec),.sl (List.map B5 b.gone.cloud),.sl (List.map c81 b.recs)]⟩),(4,⟨0,29,.var [.nl,.nl,.nl,.nl]⟩)]⟩) ?_ ?_
 refine A4 (¬D4 a=0) (fun h1=>?_) (fun h1=>?_)
 refine rG cx [2,3,4,17] [2,3,4] (fT (A43 (a) (by exact ha.1)) (tT 2 (D0 h1:AV.b (D4 a !=0)=AV.b true) (tD 7 true (¬D4 a=0∨¬D4 b=0) (by simp only [eq_false h1,tsl]) (oA 1 (.i .i64 (D4 a)) z0)))) ?_
 exact⟨rfl,by kernel_rfl⟩
 refine rG cx [2,3,4,17] [2,3,4] (fT (A43 (a) (by exact ha.1)) (tN 2 (D4 a) (0:Int) (tT 3 (A0 h1) (fT (A43 (b) (by exact hb.1)) (tN 6 (D4 b) (0:Int) (tT 7 (by first | (simp only [eq_false h1,tsl];done) | simp_all:AV.b (decide ¬D4 b=0)=AV.b (decide (¬D4 a=0∨¬D4 b=0))) (oA 1 (.i .i64 (D4 a)) (oA 5 (.i .i64 (D4 b)) z0)))))))) ?_
 exact⟨rfl,by kernel_rfl⟩
 refine sn<|dC (¬D4 a=0∨¬D4 b=0) (fun h2=>?_) fun h2=>?_
 refine sq<|rG cx [4,5] [4] z0<|sn<|rT<|nR<|qR (.tup [.agg [.nl,.nl,.nl,.nl],.i .i64 ((1:Int))]) (B6.tup (ZLe.cons (B6.agg (ZLe.cons (B6.nl' (show List.map c45 (A3 a b).1.adds=[]from(by rw[R5 (U7 h2)];rfl))) (ZLe.cons (B6.nl' (show List.map c3 (A3 a b).1.gone.vec=[]from(by rw[R5 (U7 h2)];rfl))) (ZLe.cons (B6.nl' (show List.map B5 (A3 a b).1.gone.cloud=[]from(by rw[R5 (U7 h2)];rfl))) (ZLe.cons (B6.nl' (show List.map c81 (A3 a b).1.recs=[]from(by rw[R5 (U7 h2)];rfl))) ZLe.nil))))) (ZLe.cons (B6.eq (show AV.i .i64 1=AV.i .i64 (A3 a b).2 from(by rw[R5 (U7 h2)]))) ZLe.nil)))
 refine sK<|sn<|sq<|rG cx [2,3,4,6,7] [2,3,4] (fT (con79 (a.adds) (b.adds)) (oA 4 (resC (con79 (a.adds) (b.adds))) z0))<|sn<|sq<|sq<|rG cx [2,3,4,6,28] [2,3,4] (tN 1 ((D9 a.adds b.adds).2) (0:Int) z0)<|sn<|dC (¬(D9 a.adds b.adds).2=0) (fun h3=>?_) fun h3=>?_
 refine sq<|rG cx [4,5] [4] z0<|sn<|rT<|nR<|qR (.tup [.agg [.nl,.nl,.nl,.nl],.i .i64 ((10:Int))]) (B6.tup (ZLe.cons (B6.agg (ZLe.cons (B6.nl' (show List.map c45 (A3 a b).1.adds=[]from(by rw[R6 (I7 h2) h3];rfl))) (ZLe.cons (B6.nl' (show List.map c3 (A3 a b).1.gone.vec=[]from(by rw[R6 (I7 h2) h3];rfl))) (ZLe.cons (B6.nl' (show List.map B5 (A3 a b).1.gone.cloud=[]from(by rw[R6 (I7 h2) h3];rfl))) (ZLe.cons (B6.nl' (show List.map c81 (A3 a b).1.recs=[]from(by rw[R6 (I7 h2) h3];rfl))) ZLe.nil))))) (ZLe.cons (B6.eq (show AV.i .i64 10=AV.i .i64 (A3 a b).2 from(by rw[R6 (I7 h2) h3]))) ZLe.nil)))
 refine sK<|sn<|sq<|rG cx [2,3,4,6,8] [2,3,4] (fT (con80 (a.recs) (b.recs) (by exact ha.1.2) (by exact hb.1.2) (by have:=ha.2.1;have:=hb.2.1;omega)) (oA 4 (.tup [.sl (List.map c81 (C7 a.recs b.recs).1),.i .i64 ((C7 a.recs b.recs).2)]) z0)) ?_
 refine sn<|sq<|rG cx [4,5] [4] (fT (con81 ([a.gone,b.gone]) (by exact B5k (I7 h2))) (oA 6 (.agg [.sl (List.map c3 (C6 [a.gone,b.gone]).vec),.sl (List.map B5 (C6 [a.gone,b.gone]).cloud)]) z0)) ?_
 refine sn<|rT<|qR (.tup [.agg [.sl (List.map c45 (D9 a.adds b.adds).1),.sl (List.map c3 (C6 [a.gone,b.gone]).vec),.sl (List.map B5 (C6 [a.gone,b.gone]).cloud),.sl (List.map c81 (C7 a.recs b.recs).1)],.i .i64 ((0:Int))]) (B6.tup (ZLe.cons (B6.eq (show AV.agg [AV.sl (List.map c45 (D9 a.adds b.adds).1),AV.sl (List.map c3 (C6 [a.gone,b.gone]).vec),AV.sl (List.map B5 (C6 [a.gone,b.gone]).cloud),AV.sl (List.map c81 (C7 a.recs b.recs).1)]=AV.agg [AV.sl (List.map c45 (A3 a b).1.adds),AV.sl (List.map c3 (A3 a b).1.gone.vec),AV.sl (List.map B5 (A3 a b).1.gone.cloud),AV.sl (List.map c81 (A3 a b).1.recs)]from(by rw[A6g (I7 h2) (Classical.not_not.1 h3),A2u (J1 (I7 h2)).1.2.2 (J1 (I7 h2)).2.2.2];rfl))) (ZLe.cons (B6.eq (show AV.i .i64 0=AV.i .i64 (A3 a b).2 from(by rw[A6g (I7 h2) (Classical.not_not.1 h3)]))) ZLe.nil)))
theorem con42(f:Facts)(hb:szB 7 f):Con Tryz.prog 42 [.agg (c29 f)] (.tup [.sl ((D7 f).1.map c45),.i .i64 (D7 f).2]) :=
 by
 have y:¬¬D4 f=0→okF f=true:=fun h=>J2.1 (Classical.not_not.1 h)
 have hl:¬¬D4 f=0→f.adds.length≤16000000000:=fun h=>U4 (M6 (G2.1 (y h)).1)
 refine sC A8 [.tmp 2,.tmp 3] 40 Tryz.func42 ?_
 intro e0 cx
 refine sq<|rG cx [1] [1] z0<|sn<|sq<|sq<|rG cx [1,9] [1] (fT (A43 (f) (by exact hb.1)) (tN 2 (D4 f) (0:Int) (oA 1 (.i .i64 (D4 f)) z0))) ?_
 refine sn<|dC (¬D4 f=0) (fun h0=>?_) fun h0=>?_
 refine sq<|rG cx [2,3] [] z0<|sn<|rT<|nR<|qR (.tup [.nl,.i .i64 ((1:Int))]) (B6.tup (ZLe.cons (B6.nl' (show List.map c45 (D7 f).1=[]from(by rw[A9t h0];rfl))) (ZLe.cons (B6.eq (show AV.i .i64 1=AV.i .i64 (D7 f).2 from(by rw[A9t h0]))) ZLe.nil)))
 refine sK<|sn<|sq<|rG cx [1,4] [1] z0<|sn<|sq<|sq<|rG cx [1,4,5] [1] z0<|sn<|bL 0<|E6 4 1004 45 4 (σ':=⟨[(1,.ptr (1) (0) (0) (0)),(4,.own 1004 0),(5,.i .i64 ((0:Int)))],[(1,⟨0,29,.var [.sl (List.map c45 f.adds),.sl (List.map c3 f.gone.vec),.sl (List.map B5 f.gone.cloud),.sl (List.map c81 f.recs)]⟩),(1004,⟨0,45,.row 4 (List.map c45 [])⟩)]⟩) (by kernel_rfl)<|sL (X:=Int×List Entry×List Int×List Span×List Record×List Entry) (fun x=>⟨[(1,.ptr (1) (0) (0) (0)),(4,.own 1004 0),(5,.i .i64 (x.1))],[(1,⟨0,29,.var [.sl (List.map c45 x.2.1),.sl (List.map c3 x.2.2.1),.sl (List.map B5 x.2.2.2.1),.sl (List.map c81 x.2.2.2.2.1)]⟩),(1004,⟨0,45,.row 4 (List.map c45 x.2.2.2.2.2)⟩)]⟩) (fun x ↦ decLv f x.1 x.2.1 x.2.2.1 x.2.2.2.1 x.2.2.2.2.1 x.2.2.2.2.2) (fun x ↦ B9e f x.1 x.2.1 x.2.2.1 x.2.2.2.1 x.2.2.2.2.1 x.2.2.2.2.2) [1,4,5] [1,1004] (((0:Int),f.adds,f.gone.vec,f.gone.cloud,f.recs,[])) (show B9e f (0:Int) f.adds f.gone.vec f.gone.cloud f.recs []from(by exact⟨rfl,rfl,rfl,rfl,by omega,by omega,by simp,by simp⟩)) ?_
 rintro⟨i1,xx2,xx3,xx4,x5,o6⟩ h_7
 obtain⟨h8,h9,h10,h11,h12,h13,h14,h15⟩:xx2=f.adds∧xx3=f.gone.vec∧xx4=f.gone.cloud∧x5=f.recs∧0≤i1∧i1≤(↑f.adds.length:Int)∧(↑o6.length:Int)≤i1∧o6=List.filter (fun e ↦ decide (H7 f.recs e=0)) (List.filter (fun e ↦ E8 f.gone e.dot == false) (List.take i1.toNat f.adds)):=h_7
 refine sq<|rD cx [1,4,5,14] [1,1004] (tL 3 c45 xx2 (zB 4 (i1 <(↑xx2.length:Int)))) (fun h16=>?_) fun h16=>?_
 refine sK<|sn<|sq<|bL 1<|sq<|rG cx [1,4,5,6] [1,1004,6] (fA (0≤i1) (fG c45 xx2 i1.toNat (fR 4 (fN 4 4 (oR 3 (c45 xx2[i1.toNat]!) z0)))))<|sn<|sq<|B1 (σ':=⟨[(1,.ptr (1) (0) (0) (0)),(4,.own 1004 0),(5,.i .i64 (i1)),(6,.ptr (6) (0) (0) (0)),(34,.b (decide (¬E8 { vec:=xx3,cloud:=xx4:Past } xx2[i1.toNat]!.dot=true∧H7 x5 xx2[i1.toNat]! =(0:Int))))],[(1,⟨0,29,.var [.sl (List.map c45 xx2),.sl (List.map c3 xx3),.sl (List.map B5 xx4),.sl (List.map c81 x5)]⟩),(1004,⟨0,45,.row 4 (List.map c45 o6)⟩),(6,⟨0,45,.var [.i .i64 (xx2[i1.toNat]!.dot.rep),.i .i64 (xx2[i1.toNat]!.dot.num),.s (xx2[i1.toNat]!.sku),.i .i64 (xx2[i1.toNat]!.qty)]⟩)]⟩) ?_ ?_
 refine A4 (¬E8 { vec:=xx3,cloud:=xx4:Past } xx2[i1.toNat]!.dot=true) (fun h18=>?_) (fun h18=>?_)
 refine rg (A:=(AV.b (E8 { vec:=xx3,cloud:=xx4:Past } xx2[i1.toNat]!.dot)=AV.b false)∧_∧_∧(AV.b (H7 x5 xx2[i1.toNat]! ==(0:Int))=AV.b (decide (H7 x5 xx2[i1.toNat]! =(0:Int))))∧(AV.b (decide (H7 x5 xx2[i1.toNat]! =(0:Int)))=AV.b (decide (¬E8 { vec:=xx3,cloud:=xx4:Past } xx2[i1.toNat]!.dot=true∧H7 x5 xx2[i1.toNat]! =(0:Int))))) cx [(4,{ val:=some (.b (E8 { vec:=xx3,cloud:=xx4:Past } xx2[i1.toNat]!.dot)),tell:=some (.b (false)) }),(10,{ val:=some (.i .i64 (H7 x5 xx2[i1.toNat]!)) }),(11,{ tell:=some (.b (decide (H7 x5 xx2[i1.toNat]! =(0:Int)))) }),(12,{ tell:=some (.b (decide (¬E8 { vec:=xx3,cloud:=xx4:Past } xx2[i1.toNat]!.dot=true∧H7 x5 xx2[i1.toNat]! =(0:Int)))) })] [1,4,5,6,34] [1,1004,6] ⟨(K1 h18),(B7p ({ vec:=xx3,cloud:=xx4:Past }) (xx2[i1.toNat]!.dot) (by subst h10;have:=hb.1.1.1;show f.gone.cloud.length≤_;omega)),(con76 (x5) (xx2[i1.toNat]!) (by rw[h11];exact B4n hb.1.2)),(by kernel_rfl),(by simp only [eq_false h18,tsl])⟩ ?_
 exact⟨rfl,by kernel_rfl⟩
 refine rG cx [1,4,5,6,34] [1,1004,6] (fT (B7p ({ vec:=xx3,cloud:=xx4:Past }) (xx2[i1.toNat]!.dot) (by subst h10;have:=hb.1.1.1;show f.gone.cloud.length≤_;omega)) (tT 5 (D3:(AV.b !E8 { vec:=xx3,cloud:=xx4:Past } xx2[i1.toNat]!.dot)=AV.b (decide ¬E8 { vec:=xx3,cloud:=xx4:Past } xx2[i1.toNat]!.dot=true)) (tT 6 (A0 h18) (tT 12 (by first | (simp only [eq_false h18,tsl];done) | simp_all:AV.b false=AV.b (decide (¬E8 { vec:=xx3,cloud:=xx4:Past } xx2[i1.toNat]!.dot=true∧H7 x5 xx2[i1.toNat]! =(0:Int)))) (oA 4 (.b (E8 { vec:=xx3,cloud:=xx4:Past } xx2[i1.toNat]!.dot)) z0))))) ?_
 exact⟨rfl,by kernel_rfl⟩
 refine sn<|dC (¬E8 { vec:=xx3,cloud:=xx4:Past } xx2[i1.toNat]!.dot=true∧H7 x5 xx2[i1.toNat]! =(0:Int)) (fun h19=>?_) fun h19=>?_
 refine rG cx [1,4,5] [1,1004] (fR 45 (fR 4 (fR 4 (fX c45 [xx2[i1.toNat]!] 4 (fP ((List.map c45 o6).length+(List.map c45 [xx2[i1.toNat]!]).length≤maxLen) (by have:=hl h0;simp only [List.length_map,List.length_cons,List.length_nil,Go.maxLen];omega) (fP (((List.map c45 o6).length+(List.map c45 [xx2[i1.toNat]!]).length)*(40:Nat)≤(140737488355328:Nat)) (by have:=hl h0;simp only [List.length_map,List.length_cons,List.length_nil];omega) (fM c45 o6 [xx2[i1.toNat]!] (oV 3 { rows:=some (List.map c45 (o6++[xx2[i1.toNat]!])) } z0)))))))) ?_
 refine bN<|sn<|rG cx [1,4,5] [1,1004] (tT 1 (B4 (by omega) (by have:=hl h0;omega):AV.i .i64 (IntKind.i64.wrap (i1+1))=AV.i .i64 (i1+1)) z0) ?_
 refine sn<|nX ((i1+1,xx2,xx3,xx4,x5,o6++[xx2[i1.toNat]!])) (show((↑f.adds.length:Int)-(i1+1)).toNat <((↑f.adds.length:Int)-i1).toNat from(by subst h8;omega)) (show B9e f (i1+1) xx2 xx3 xx4 x5 (o6++[xx2[i1.toNat]!])from(by subst h8 h9 h10 h11;exact⟨rfl,rfl,rfl,rfl,by omega,by omega,by rw[List.length_append,List.length_singleton];omega,by rw[B5m h12 h16 h15,if_pos h19]⟩))
 refine sK<|bN<|sn<|rG cx [1,4,5] [1,1004] (tT 1 (B4 (by omega) (by have:=hl h0;omega):AV.i .i64 (IntKind.i64.wrap (i1+1))=AV.i .i64 (i1+1)) z0) ?_
 refine sn<|nX ((i1+1,xx2,xx3,xx4,x5,o6)) (show((↑f.adds.length:Int)-(i1+1)).toNat <((↑f.adds.length:Int)-i1).toNat from(by subst h8;omega)) (show B9e f (i1+1) xx2 xx3 xx4 x5 o6 from(by subst h8 h9 h10 h11;exact⟨rfl,rfl,rfl,rfl,by omega,by omega,by omega,by rw[B5m h12 h16 h15,if_neg h19,List.append_nil]⟩))
 refine eX 0<|nE<|nE<|bH<|sn<|sq<|rG cx [2,3] [1004] z0<|sn<|rT<|qR (.tup [.sl (List.map c45 o6),.i .i64 ((0:Int))]) (B6.tup (ZLe.cons (B6.eq (show AV.sl (List.map c45 o6)=AV.sl (List.map c45 (D7 f).1)from(by subst h8;unfold D7;rw[if_pos (y h0),h15,List.take_of_length_le (by omega)];rfl))) (ZLe.cons (B6.eq (show AV.i .i64 0=AV.i .i64 (D7 f).2 from(by unfold D7;rw[if_pos (y h0)]))) ZLe.nil)))
theorem con43(f:Facts)(hb:szF f):Con Tryz.prog 43 [.agg (c29 f)] (.tup [.agg (c26 (I6 f).1),.i .i64 (I6 f).2]) :=
 by
 have n1:¬(F2 f.adds).2=0∨¬D4 f=0→I6 f=(⟨[],[]⟩,1):=fun h=>by
  unfold I6
  rw[if_neg]
  intro k
  rcases h with h | h
  ·exact h (by rw[A6h (G2.1 k).1])
  ·exact h (J2.2 k)
 have y:¬(¬(F2 f.adds).2=0∨¬D4 f=0)→okF f=true:=fun h=>J2.1 (Classical.not_not.1 fun k=>h (.inr k))
 refine sC A8 [.cell 2 26,.tmp 3] 25 Tryz.func43 ?_
 intro e0 cx
 refine sq<|rG cx [1,2] [1,2] z0<|sn<|sq<|rG cx [1,2,4,5] [1,2,4] (fT (con86 (f.adds)) (oA 2 (.tup [.agg [.sl (List.map c3 (F2 f.adds).1.vec),.sl (List.map B5 (F2 f.adds).1.cloud)],.i .i64 ((F2 f.adds).2)]) z0))<|sn<|sq<|sq<|B1 (σ':=⟨[(1,.ptr (1) (0) (0) (0)),(2,.ptr (2) (0) (0) (0)),(4,.ptr (4) (0) (0) (0)),(18,.b (decide (¬(F2 f.adds).2=0∨¬D4 f=0)))],[(1,⟨0,29,.var [.sl (List.map c45 f.adds),.sl (List.map c3 f.gone.vec),.sl (List.map B5 f.gone.cloud),.sl (List.map c81 f.recs)]⟩),(2,⟨0,26,.var [.nl,.nl]⟩),(4,⟨0,26,.var [.sl (List.map c3 (F2 f.adds).1.vec),.sl (List.map B5 (F2 f.adds).1.cloud)]⟩)]⟩) ?_ ?_
 refine A4 (¬(F2 f.adds).2=0) (fun h_1=>?_) (fun h_1=>?_)
 refine rG cx [1,2,4,18] [1,2,4] (tT 1 (D0 h_1:AV.b ((F2 f.adds).2 !=0)=AV.b true) (tD 6 true (¬(F2 f.adds).2=0∨¬D4 f=0) (by simp only [eq_false h_1,tsl]) z0)) ?_
 exact⟨rfl,by kernel_rfl⟩
 refine rG cx [1,2,4,18] [1,2,4] (tN 1 ((F2 f.adds).2) (0:Int) (tT 2 (A0 h_1) (fT (A43 (f) (by(with_reducible assumption))) (tN 5 (D4 f) (0:Int) (tT 6 (by first | (simp only [eq_false h_1,tsl];done) | simp_all:AV.b (decide ¬D4 f=0)=AV.b (decide (¬(F2 f.adds).2=0∨¬D4 f=0))) (oA 4 (.i .i64 (D4 f)) z0)))))) ?_
 exact⟨rfl,by kernel_rfl⟩
 refine sn<|dC (¬(F2 f.adds).2=0∨¬D4 f=0) (fun h2=>?_) fun h2=>?_
 refine sq<|rG cx [2,3] [2] z0<|sn<|rT<|nR<|qR (.tup [.agg [.nl,.nl],.i .i64 ((1:Int))]) (B6.tup (ZLe.cons (B6.agg (ZLe.cons (B6.nl' (show List.map c3 (I6 f).1.vec=[]from(by rw[n1 h2];rfl))) (ZLe.cons (B6.nl' (show List.map B5 (I6 f).1.cloud=[]from(by rw[n1 h2];rfl))) ZLe.nil))) (ZLe.cons (B6.eq (show AV.i .i64 1=AV.i .i64 (I6 f).2 from(by rw[n1 h2]))) ZLe.nil)))
 refine sK<|sn<|sq<|rG cx [2,3] [2] (fT (con81 ([(F2 f.adds).1,f.gone]) (by exact Az6 (y h2))) (oA 4 (.agg [.sl (List.map c3 (C6 [(F2 f.adds).1,f.gone]).vec),.sl (List.map B5 (C6 [(F2 f.adds).1,f.gone]).cloud)]) z0)) ?_
 refine sn<|rT<|qR (.tup [.agg [.sl (List.map c3 (C6 [(F2 f.adds).1,f.gone]).vec),.sl (List.map B5 (C6 [(F2 f.adds).1,f.gone]).cloud)],.i .i64 ((0:Int))]) (B6.tup (ZLe.cons (B6.eq (show AV.agg [AV.sl (List.map c3 (C6 [(F2 f.adds).1,f.gone]).vec),AV.sl (List.map B5 (C6 [(F2 f.adds).1,f.gone]).cloud)]=AV.agg [AV.sl (List.map c3 (I6 f).1.vec),AV.sl (List.map B5 (I6 f).1.cloud)]from(by rw[A9u (y h2),A6h (G2.1 (y h2)).1]))) (ZLe.cons (B6.eq (show AV.i .i64 0=AV.i .i64 (I6 f).2 from(by rw[A9u (y h2)]))) ZLe.nil)))
theorem con38(a b:Facts)(ha:szF a)(hb:szF b):Con Tryz.prog 38 [.agg (c29 a),.agg (c29 b)] (.tup [.agg (c43 (A5 a b).1),.b (A5 a b).2]) :=
 by
 refine sC A8 [.cell 4 43,.tmp 5] 50 Tryz.func38 ?_
 intro e0 cx
 refine sq<|rG cx [2,3,4] [2,3,4] z0<|sn<|sq<|sq<|B1 (σ':=⟨[(2,.ptr (2) (0) (0) (0)),(3,.ptr (3) (0) (0) (0)),(4,.ptr (4) (0) (0) (0)),(16,.b (decide (¬D4 a=0∨¬D4 b=0)))],[(2,⟨0,29,.var [.sl (List.map c45 a.adds),.sl (List.map c3 a.gone.vec),.sl (List.map B5 a.gone.cloud),.sl (List.map c81 a.recs)]⟩),(3,⟨0,29,.var [.sl (List.map c45 b.adds),.sl (List.map c3 b.gone.vec),.sl (List.map B5 b.gone.cloud),.sl (List.map c81 b.recs)]⟩),(4,⟨0,43,.var [.i .i64 ((0:Int)),.i .i64 ((0:Int))]⟩)]⟩) ?_ ?_
 refine A4 (¬D4 a=0) (fun h_1=>?_) (fun h_1=>?_)
 refine rG cx [2,3,4,16] [2,3,4] (fT (A43 (a) (by(with_reducible assumption))) (tT 2 (D0 h_1:AV.b (D4 a !=0)=AV.b true) (tD 7 true (¬D4 a=0∨¬D4 b=0) (by simp only [eq_false h_1,tsl]) (oA 1 (.i .i64 (D4 a)) z0)))) ?_
 exact⟨rfl,by kernel_rfl⟩
 refine rG cx [2,3,4,16] [2,3,4] (fT (A43 (a) (by(with_reducible assumption))) (tN 2 (D4 a) (0:Int) (tT 3 (A0 h_1) (fT (A43 (b) (by(with_reducible assumption))) (tN 6 (D4 b) (0:Int) (tT 7 (by first | (simp only [eq_false h_1,tsl];done) | simp_all:AV.b (decide ¬D4 b=0)=AV.b (decide (¬D4 a=0∨¬D4 b=0))) (oA 1 (.i .i64 (D4 a)) (oA 5 (.i .i64 (D4 b)) z0)))))))) ?_
 exact⟨rfl,by kernel_rfl⟩
 refine sn<|dC (¬D4 a=0∨¬D4 b=0) (fun h2=>?_) fun h2=>?_
 refine sq<|rG cx [4,5] [4] z0<|sn<|rT<|nR<|qR (.tup [.agg [.i .i64 ((0:Int)),.i .i64 ((0:Int))],.b (false)]) (B6.tup (ZLe.cons (B6.eq (show AV.agg [AV.i .i64 (0:Int),AV.i .i64 (0:Int)]=AV.agg [AV.i .i64 (A5 a b).1.rep,AV.i .i64 (A5 a b).1.num]from(by rw[A2x (U7 h2)]))) (ZLe.cons (B6.eq (show AV.b false=AV.b (A5 a b).2 from(by rw[A2x (U7 h2)]))) ZLe.nil)))
 refine sK<|sn<|sq<|sq<|rG cx [2,3,4,6] [2,3,4] z0<|sn<|bL 0<|sL (X:=Int×List Entry×List Int×List Span×List Record×List Entry×List Int×List Span×List Record×Int×Int) (fun x=>⟨[(2,.ptr (2) (0) (0) (0)),(3,.ptr (3) (0) (0) (0)),(4,.ptr (4) (0) (0) (0)),(6,.i .i64 (x.1))],[(2,⟨0,29,.var [.sl (List.map c45 x.2.1),.sl (List.map c3 x.2.2.1),.sl (List.map B5 x.2.2.2.1),.sl (List.map c81 x.2.2.2.2.1)]⟩),(3,⟨0,29,.var [.sl (List.map c45 x.2.2.2.2.2.1),.sl (List.map c3 x.2.2.2.2.2.2.1),.sl (List.map B5 x.2.2.2.2.2.2.2.1),.sl (List.map c81 x.2.2.2.2.2.2.2.2.1)]⟩),(4,⟨0,43,.var [.i .i64 (x.2.2.2.2.2.2.2.2.2.1),.i .i64 (x.2.2.2.2.2.2.2.2.2.2)]⟩)]⟩) (fun x ↦ decCr a x.1 x.2.1 x.2.2.1 x.2.2.2.1 x.2.2.2.2.1 x.2.2.2.2.2.1 x.2.2.2.2.2.2.1 x.2.2.2.2.2.2.2.1 x.2.2.2.2.2.2.2.2.1 x.2.2.2.2.2.2.2.2.2.1 x.2.2.2.2.2.2.2.2.2.2) (fun x ↦ Bp7 a b x.1 x.2.1 x.2.2.1 x.2.2.2.1 x.2.2.2.2.1 x.2.2.2.2.2.1 x.2.2.2.2.2.2.1 x.2.2.2.2.2.2.2.1 x.2.2.2.2.2.2.2.2.1 x.2.2.2.2.2.2.2.2.2.1 x.2.2.2.2.2.2.2.2.2.2) [2,3,4,6] [2,3,4] (((0:Int),a.adds,a.gone.vec,a.gone.cloud,a.recs,b.adds,b.gone.vec,b.gone.cloud,b.recs,(0:Int),(0:Int))) (show Bp7 a b (0:Int) a.adds a.gone.vec a.gone.cloud a.recs b.adds b.gone.vec b.gone.cloud b.recs (0:Int) (0:Int)from(by exact⟨rfl,rfl,by omega,by omega,fun j hj=>by omega⟩)) ?_
 rintro⟨i3,xx4,x5,x6,x7,y8,y9,y10,y11,r12,m13⟩ h_14
 obtain⟨h15,h16,h17,h18,h19⟩:xx4=a.adds∧y8=b.adds∧0≤i3∧i3≤(↑a.adds.length:Int)∧∀(j:Nat),(↑j:Int) < i3→Aj6 b a.adds[j]! = false:=h_14
 refine sq<|rD cx [2,3,4,6,22] [2,3,4] (tL 3 c45 xx4 (zB 4 (i3 <(↑xx4.length:Int)))) (fun h20=>?_) fun h20=>?_
 refine sK<|sn<|sq<|bL 1<|sq<|rA cx [2,3,4,6,7,8] [2,3,4,7] (fA (0≤i3) (fG c45 xx4 i3.toNat (fR 4 (fN 2 4 (fT (Bm0 (y8) (xx4[i3.toNat]!.dot)) (oR 5 (c45 xx4[i3.toNat]!) (oA 8 (.tup [.agg [.i .i64 ((B7 y8 xx4[i3.toNat]!.dot).1.dot.rep),.i .i64 ((B7 y8 xx4[i3.toNat]!.dot).1.dot.num),.s ((B7 y8 xx4[i3.toNat]!.dot).1.sku),.i .i64 ((B7 y8 xx4[i3.toNat]!.dot).1.qty)],.b ((B7 y8 xx4[i3.toNat]!.dot).2)]) z0)))))))<|sn<|sq<|B1 (σ':=⟨[(2,.ptr (2) (0) (0) (0)),(3,.ptr (3) (0) (0) (0)),(4,.ptr (4) (0) (0) (0)),(6,.i .i64 (i3)),(7,.ptr (7) (0) (0) (0)),(46,.b (decide ((B7 y8 xx4[i3.toNat]!.dot).2=true∧¬(B7 y8 xx4[i3.toNat]!.dot).1=xx4[i3.toNat]!)))],[(2,⟨0,29,.var [.sl (List.map c45 xx4),.sl (List.map c3 x5),.sl (List.map B5 x6),.sl (List.map c81 x7)]⟩),(3,⟨0,29,.var [.sl (List.map c45 y8),.sl (List.map c3 y9),.sl (List.map B5 y10),.sl (List.map c81 y11)]⟩),(4,⟨0,43,.var [.i .i64 (r12),.i .i64 (m13)]⟩),(7,⟨0,45,.var [.i .i64 ((B7 y8 xx4[i3.toNat]!.dot).1.dot.rep),.i .i64 ((B7 y8 xx4[i3.toNat]!.dot).1.dot.num),.s ((B7 y8 xx4[i3.toNat]!.dot).1.sku),.i .i64 ((B7 y8 xx4[i3.toNat]!.dot).1.qty)]⟩)]⟩) ?_ ?_
 refine A4 ((B7 y8 xx4[i3.toNat]!.dot).2=true) (fun h_22=>?_) (fun h_22=>?_)
 refine rA cx [2,3,4,6,7,46] [2,3,4,7] (tT 0 (X4 h_22) (fA (0≤i3) (fG c45 xx4 i3.toNat (fR 4 (fN 4 4 (fT (M5 (Bg3 (B7 y8 xx4[i3.toNat]!.dot).1 xx4[i3.toNat]!)) (tD 9 (decide ¬(B7 y8 xx4[i3.toNat]!.dot).1=xx4[i3.toNat]!) ((B7 y8 xx4[i3.toNat]!.dot).2=true∧¬(B7 y8 xx4[i3.toNat]!.dot).1=xx4[i3.toNat]!) (by simp only [eq_true h_22,tsl]) (oR 6 (c45 xx4[i3.toNat]!) (oA 8 (.b (decide ¬(B7 y8 xx4[i3.toNat]!.dot).1=xx4[i3.toNat]!)) z0))))))))) ?_
 exact⟨rfl,by kernel_rfl⟩
 refine rA cx [2,3,4,6,7,46] [2,3,4,7] (tT 0 (K1 h_22:AV.b (B7 y8 xx4[i3.toNat]!.dot).2=AV.b false) (tD 9 false ((B7 y8 xx4[i3.toNat]!.dot).2=true∧¬(B7 y8 xx4[i3.toNat]!.dot).1=xx4[i3.toNat]!) (by simp only [eq_false h_22,tsl]) z0)) ?_
 exact⟨rfl,by kernel_rfl⟩
 refine sn<|dC ((B7 y8 xx4[i3.toNat]!.dot).2=true∧¬(B7 y8 xx4[i3.toNat]!.dot).1=xx4[i3.toNat]!) (fun h23=>?_) fun h23=>?_
 refine sq<|rG cx [4,5] [4] z0<|sn<|rT<|bR<|nR<|nR<|bR<|nR<|qR (.tup [.agg [.i .i64 ((B7 y8 xx4[i3.toNat]!.dot).1.dot.rep),.i .i64 ((B7 y8 xx4[i3.toNat]!.dot).1.dot.num)],.b (true)]) (B6.tup (ZLe.cons (B6.eq (show AV.agg [AV.i .i64 (B7 y8 xx4[i3.toNat]!.dot).1.dot.rep,AV.i .i64 (B7 y8 xx4[i3.toNat]!.dot).1.dot.num]=AV.agg [AV.i .i64 (A5 a b).1.rep,AV.i .i64 (A5 a b).1.num]from(by subst h15 h16;rw[A07 (I7 h2) h17 h20 h19 (U6.2 h23),Az7 h23.1]))) (ZLe.cons (B6.eq (show AV.b true=AV.b (A5 a b).2 from(by subst h15 h16;rw[A07 (I7 h2) h17 h20 h19 (U6.2 h23)]))) ZLe.nil)))
 refine sK<|bN<|sn<|rG cx [2,3,4,6] [2,3,4] (tT 1 (B4 (by omega) (by have:=U4 (M6 (J1 (I7 h2)).1.1);omega):AV.i .i64 (IntKind.i64.wrap (i3+1))=AV.i .i64 (i3+1)) z0) ?_
 refine sn<|nX ((i3+1,xx4,x5,x6,x7,y8,y9,y10,y11,r12,m13)) (show((↑a.adds.length:Int)-(i3+1)).toNat <((↑a.adds.length:Int)-i3).toNat from(by subst h15;omega)) (show Bp7 a b (i3+1) xx4 x5 x6 x7 y8 y9 y10 y11 r12 m13 from ?g7);rotate_left
 refine eX 0<|nE<|nE<|bH<|sn<|sq<|rG cx [4,5] [4] z0<|sn<|rT<|qR (.tup [.agg [.i .i64 ((0:Int)),.i .i64 ((0:Int))],.b (false)]) (B6.tup (ZLe.cons (B6.eq (show AV.agg [AV.i .i64 (0:Int),AV.i .i64 (0:Int)]=AV.agg [AV.i .i64 (A5 a b).1.rep,AV.i .i64 (A5 a b).1.num]from(by subst h15;rw[A0t (I7 h2) h20 h19]))) (ZLe.cons (B6.eq (show AV.b false=AV.b (A5 a b).2 from(by subst h15;rw[A0t (I7 h2) h20 h19]))) ZLe.nil)))
 case g7 =>
  subst h15 h16
  refine⟨rfl,rfl,by omega,by omega,fun j hj=>?_⟩
  by_cases c:j=i3.toNat
  ·rw[c];exact Bool.eq_false_iff.2 fun k=>h23 (U6.1 k)
  ·exact h19 j (by omega)
end Go.Proofs.YtaiepnaokhpmcaaGreat
namespace Go.Proofs.YtaiepnaokhpmcaaGreat
open Go.E
set_option maxRecDepth 100000
set_option maxHeartbeats 4000000
theorem A9w{s:List Entry}(hs:A3u s){i j:Nat}(hij:i < j)(hj:j < s.length):¬ dLt s[j]!.dot s[i]!.dot=true:=by
 have:=List.pairwise_iff_getElem.1 hs i j (by omega) hj hij
 rw[← getElem!_pos s i (by omega),← getElem!_pos s j hj]at this
 simpa [ltE]using this
theorem B5n{s:List Entry}(hs:A3u s):∀(n:Nat) (l:List Entry),n≤s.length→K8 s n=some l→upE l∧∀ e,e∈l↔e∈s.take n
 | 0,l,_,h=>by
  simp only [K8,Option.some.injEq]at h
  subst h
  exact⟨List.Pairwise.nil,fun e=>by simp⟩
 | n+1,l,hn,h=>by
  rw[K8]at h
  split at h
  ·cases h
  ·rename_i l0 h0
   obtain⟨i1,i2⟩:=B5n hs n l0 (by omega) h0
   have et:s.take (n+1)=s.take n++[s[n]!]:=by rw[getElem!_pos s n (by omega),← List.take_succ_eq_append_getElem (by omega)]
   split at h
   ·rename_i hc
    simp only [Option.some.injEq]at h
    subst h
    refine⟨List.pairwise_append.2 ⟨i1,by simp,fun x hx y hy=>?_⟩,fun e=>?_⟩
    ·have:y=s[n]!:=by simpa using hy
     subst this
     obtain⟨i,hi,rfl⟩:=List.mem_iff_getElem.1 ((i2 x).1 hx)
     rw[List.length_take]at hi
     rw[List.getElem_take,← getElem!_pos s i (by omega)]
     have h1:=A9w hs (i:=i) (j:=n) (by omega) (by omega)
     apply Classical.byContradiction
     intro h2
     have hd:=Ai7 h2 h1
     rcases hc with hc | hc
     ·omega
     ·by_cases ei:i=n-1
      ·subst ei;exact hc hd
      ·have h3:=A9w hs (i:=i) (j:=n-1) (by omega) (by omega)
       have h4:=A9w hs (i:=n-1) (j:=n) (by omega) (by omega)
       rw[hd]at h3
       exact hc (Ai7 h3 h4)
    ·rw[List.mem_append,et,List.mem_append,i2]
   ·rename_i hc
    split at h
    ·rename_i he
     simp only [Option.some.injEq]at h
     subst h
     refine⟨i1,fun e=>?_⟩
     rw[et,List.mem_append,i2]
     constructor
     ·exact fun k=>.inl k
     ·rintro(k | k)
      ·exact k
      ·have hn0:¬ n=0:=fun k0=>hc (.inl k0)
       have:e=s[n-1]!:=by rw[he];simpa using k
       subst this
       have hlt:n-1 <(s.take n).length:=by rw[List.length_take];omega
       have:=List.getElem_mem hlt
       rw[List.getElem_take,← getElem!_pos s (n-1) (by omega)]at this
       exact this
    ·cases h
theorem Ai8{s:List Entry}(hc:∀ x∈s,∀ y∈s,x.dot=y.dot→x=y):∀ n:Nat,n≤s.length→∃ l,K8 s n=some l
 | 0,_=>⟨[],rfl⟩
 | n+1,hn=>by
  obtain⟨l,hl⟩:=Ai8 hc n (by omega)
  rw[K8,hl]
  simp only
  split
  ·exact⟨_,rfl⟩
  ·rename_i h
   rw[if_pos]
   ·exact⟨_,rfl⟩
   ·refine hc _ (A8k (by omega)) _ (A8k (by omega)) ?_
    apply Classical.byContradiction
    exact fun k=>h (.inr k)
theorem A9x(es:List Entry)(e:Entry):e∈A2o es↔e∈es:=(List.mergeSort_perm es _).mem_iff
def A2y(a b:List Entry):Prop:=∀ x∈a,∀ y∈b,x.dot=y.dot→x=y
theorem B5o{a b:List Entry}(ha:A2w a)(hb:A2w b)(hc:A2y a b):∃ l,D9 a b=(l,0)∧A2w l∧∀ e,e∈l↔e∈a∨e∈b:=by
 rw[A0r ((Y9 a).2 ha) ((Y9 b).2 hb)]
 have hall:∀ x∈A2o (a++b),∀ y∈A2o (a++b),x.dot=y.dot→x=y:=by
  intro x hx y hy hd
  rw[A9x,List.mem_append]at hx hy
  rcases hx with hx | hx <;> rcases hy with hy | hy
  ·exact A6f ha hx hy hd
  ·exact hc x hx y hy hd
  ·exact(hc y hy x hx hd.symm).symm
  ·exact A6f hb hx hy hd
 obtain⟨l,hl⟩:=Ai8 hall _ (Nat.le_refl _)
 obtain⟨h1,h2⟩:=B5n (A3g _) _ l (Nat.le_refl _) hl
 have h3:∀ e,e∈l↔e∈a∨e∈b:=fun e=>by rw[h2,List.take_length,A9x,List.mem_append]
 refine⟨l,by unfold K4;rw[hl],⟨fun e he=>?_,h1⟩,h3⟩
 rcases(h3 e).1 he with k | k
 ·exact ha.1 e k
 ·exact hb.1 e k
theorem Aq9{a b:List Entry}(ha:A2w a)(hb:A2w b)(hc:¬ A2y a b):D9 a b=([],10):=by
 rw[A0r ((Y9 a).2 ha) ((Y9 b).2 hb)]
 unfold K4
 cases hl:K8 (A2o (a++b)) (A2o (a++b)).length with
 | none=>rfl
 | some l =>
  refine absurd (fun x hx y hy hd=>?_) hc
  have hx':x∈A2o (a++b):=by rw[A9x,List.mem_append];exact .inl hx
  have hy':y∈A2o (a++b):=by rw[A9x,List.mem_append];exact .inr hy
  obtain⟨i,hi,rfl⟩:=List.mem_iff_getElem.1 hx'
  obtain⟨j,hj,rfl⟩:=List.mem_iff_getElem.1 hy'
  have cl:=A3f (A3g _) hl
  rw[← getElem!_pos _ i hi,← getElem!_pos _ j hj]at hd ⊢
  rcases Nat.le_total i j with hij | hij
  ·exact cl i j hij hj hd
  ·exact(cl j i hij hi hd.symm).symm
end Go.Proofs.YtaiepnaokhpmcaaGreat
namespace Go.Proofs.YtaiepnaokhpmcaaGreat
open Go.E
set_option maxRecDepth 100000
set_option maxHeartbeats 4000000
theorem A1o{f:Facts}:okF f=true↔A2w f.adds∧f.gone=A6 f.gone∧Bi6 f.recs:=by rw[G2,Y9,A0n]
theorem B5p{es:List Entry}(h:A2w es){x:Entry}(hx:x∈es):B7 es x.dot=(x,true):=by
 unfold B7
 cases hf:es.find? (fun e=>decide (e.dot=x.dot))with
 | none =>
  rw[List.find?_eq_none]at hf
  exact absurd (decide_eq_true rfl) (hf x hx)
 | some e =>
  have h0:=List.find?_some hf
  have h1:e.dot=x.dot:=of_decide_eq_true h0
  rw[A6f h (List.mem_of_find?_eq_some hf) hx h1]
theorem B9f{es:List Entry}{d:Dot}(h:(B7 es d).2=true):(B7 es d).1∈es:=by
 unfold B7 at *
 split at h
 ·rename_i e he
  exact List.mem_of_find?_eq_some he
 ·cases h
theorem B1o{a b:Facts}(h:A0y a b=true):(A5 a b).2=true↔∃ e∈a.adds,Aj6 b e=true:=by
 unfold A5
 rw[if_pos h]
 cases hf:a.adds.find? (Aj6 b)with
 | none =>
  rw[List.find?_eq_none]at hf
  constructor
  ·intro k;cases k
  ·rintro⟨e,he,k⟩
   exact absurd k (hf e he)
 | some e=>exact⟨fun _=>⟨e,List.mem_of_find?_eq_some hf,List.find?_some hf⟩,fun _=>rfl⟩
theorem B5q{a b:List Entry}{f:Facts}(hb:A2w f.adds):(∃ e∈a,Aj6 f e=true)↔¬ A2y a f.adds:=by
 constructor
 ·rintro⟨e,he,k⟩ h
  obtain⟨k1,k2⟩:=U6.1 k
  exact k2 (h e he _ (B9f k1) (Az7 k1).symm).symm
 ·intro h
  apply Classical.byContradiction
  intro k
  refine h fun x hx y hy hd=>?_
  apply Classical.byContradiction
  intro c
  refine k ⟨x,hx,U6.2 ?_⟩
  rw[hd,B5p hb hy]
  exact⟨rfl,fun e=>c e.symm⟩
noncomputable def D8(a b:Facts):Bool:=A0y a b && !(A5 a b).2
def agF(a b:Facts):Prop:=okF a=true∧okF b=true∧A2y a.adds b.adds
theorem Z0{a b:Facts}(h:A0y a b=true):(A5 a b).2=true↔¬ A2y a.adds b.adds:=by
 rw[B1o h]
 exact B5q (b:=[]) (A1o.1 (H5.1 h).2).1
theorem A9y{a b:Facts}:D8 a b=true↔agF a b:=by
 unfold D8 agF
 rw[Bool.and_eq_true,Bool.not_eq_true',Bool.eq_false_iff]
 constructor
 ·rintro⟨h1,h2⟩
  exact⟨(H5.1 h1).1,(H5.1 h1).2,Classical.byContradiction fun k=>h2 ((Z0 h1).2 k)⟩
 ·rintro⟨h1,h2,h3⟩
  have h:=H5.2 ⟨h1,h2⟩
  exact⟨h,fun k=>(Z0 h).1 k h3⟩
theorem B1p{a b:List Entry}(h:A2y a b):A2y b a:=fun x hx y hy hd=>(h y hy x hx hd.symm).symm
theorem agF.symm{a b:Facts}(h:agF a b):agF b a:=⟨h.2.1,h.1,B1p h.2.2⟩
theorem Bp8{x y:Facts}(hx:okF x=true)(hy:okF y=true)(h1:∀ e,e∈x.adds↔e∈y.adds)(h2:∀ d,E8 x.gone d=E8 y.gone d)(h3:∀ r,r∈x.recs↔r∈y.recs):x=y:=by
 obtain⟨x1,x2,x3⟩:=A1o.1 hx
 obtain⟨y1,y2,y3⟩:=A1o.1 hy
 have e1:=A7v x1.2 y1.2 h1
 have e2:=Au8 x2 y2 h2
 have e3:=A3c x3.2 y3.2 (fun r hr=>(Ae8.1 (x3.1 r hr)).2.1) (fun r hr=>(Ae8.1 (y3.1 r hr)).2.1) h3
 cases x
 cases y
 simp only at e1 e2 e3
 rw[e1,e2,e3]
theorem I8{a b:Facts}(h:agF a b):A3 a b=(U5 a b,0)∧okF (U5 a b)=true∧(∀ e,e∈(U5 a b).adds↔e∈a.adds∨e∈b.adds)∧(∀ d,E8 (U5 a b).gone d=(E8 a.gone d || E8 b.gone d))∧∀ r,r∈(U5 a b).recs↔r∈a.recs∨r∈b.recs:=by
 obtain⟨a1,a2,a3⟩:=G2.1 h.1
 obtain⟨b1,b2,b3⟩:=G2.1 h.2.1
 obtain⟨l,u1,u2,u3⟩:=B5o ((Y9 _).1 a1) ((Y9 _).1 b1) h.2.2
 have hb:=H5.2 ⟨h.1,h.2.1⟩
 have hn:=A2v a3 b3
 refine⟨A6g hb (by rw[u1]),A1o.2 ⟨?_,Ae1 _,(A0n _).1 (B1j a3 b3)⟩,fun e=>?_,fun d=>?_,fun r=>?_⟩
 ·show A2w (D9 a.adds b.adds).1
  rw[u1];exact u2
 ·show e∈(D9 a.adds b.adds).1↔_
  rw[u1];exact u3 e
 ·show E8 (C6 [a.gone,b.gone]) d=_
  rw[Av0]
  simp
 ·show r∈E5 (a.recs++b.recs)↔_
  rw[Y8 hn,List.mem_append]
theorem B9g{a b:Facts}(h:A0y a b=true)(hc:¬ A2y a.adds b.adds):A3 a b=(zeroF,10):=by
 have u:=Aq9 (A1o.1 (H5.1 h).1).1 (A1o.1 (H5.1 h).2).1 hc
 exact R6 h (by rw[u];decide)
theorem Bp9{f:Facts}(h:okF f=true):D7 f=(Bp3 f,0):=by unfold D7;rw[if_pos h]
theorem B5r{a b:List Record}(h:a.Perm b):A32 a=A32 b:=by
 induction h with
 | nil=>rfl
 | cons x _ ih=>simp only [A32,List.map_cons,List.sum_cons]at *;omega
 | swap x y l=>simp only [A32,List.map_cons,List.sum_cons];omega
 | trans _ _ ih1 ih2=>omega
theorem B9h{a b:List Record}(h:a.Sublist b):A32 a≤A32 b:=by
 induction h with
 | slnil=>exact Nat.le_refl _
 | cons x h ih=>simp only [A32,List.map_cons,List.sum_cons]at *;omega
 | cons_cons x h ih=>simp only [A32,List.map_cons,List.sum_cons]at *;omega
theorem A9z{α:Type}(p:α→α→Bool):∀(l:List α) (a:α),(A9n p a l).Sublist l
 | [],a=>by simp [A9n]
 | b :: l,a=>by
  simp only [A9n]
  split
  ·exact .cons _ (A9z p l b)
  ·exact .cons_cons _ (A9z p l b)
theorem B9i{l:List Record}(h:F6 l):A32 (E5 l)≤A32 l:=by
 have h1:(E5 l).Sublist (A6w l):=by
  unfold E5 J0
  cases A6w l with
  | nil=>exact .slnil
  | cons a t=>exact .cons_cons _ (A9z _ t a)
 rw[← B5r (Ah9 h)]
 exact B9h h1
theorem M9{a b:Facts}{n m:Nat}(ha:szB n a)(hb:szB m b):szB (n+m) (A3 a b).1:=by
 have z:szB (n+m) zeroF:=⟨⟨⟨by decide,by decide⟩,fun r hr=>(by cases hr)⟩,Nat.zero_le _,Nat.zero_le _⟩
 unfold A3
 split
 ·rename_i h
  split
  ·have hp:=J1 h
   have hn:=A2v hp.1.2.2 hp.2.2.2
   have t:=O1 (B3 [a.gone,b.gone])
   refine⟨⟨⟨?_,?_⟩,fun r hr=>?_⟩,?_,?_⟩
   ·show(G1 (B3 [a.gone,b.gone])).cloud.length*16≤_
    have:=t.1;omega
   ·show(G1 (B3 [a.gone,b.gone])).vec.length≤_
    have:=t.2;omega
   ·have hr:r∈E5 (a.recs++b.recs):=hr
    rw[Y8 hn,List.mem_append]at hr
    exact hr.elim (ha.1.2 r) (hb.1.2 r)
   ·show(E5 (a.recs++b.recs)).length≤_
    have h1:=A9p (a.recs++b.recs)
    rw[List.length_append]at h1
    have h2:=ha.2.1
    have h3:=hb.2.1
    rw[Nat.add_mul]
    omega
   ·show A32 (E5 (a.recs++b.recs))≤_
    have h1:=B9i hn
    rw[A9f]at h1
    have h2:=ha.2.2
    have h3:=hb.2.2
    rw[Nat.add_mul]
    omega
  ·exact z
 ·exact z
theorem B1q{a b:List Entry}(ha:D2 a=0)(hb:D2 b=0):(D9 a b).1.length≤a.length+b.length:=by
 rw[A0r ha hb]
 have:=A5w (A2o (a++b))
 rw[A1l,List.length_append]at this
 exact this
theorem B9j{a b:Facts}{n m:Nat}(ha:szB n a)(hb:szB m b)(hn:n+m≤7):szC (A3 a b).1:=by
 have hs:=M9 ha hb
 unfold A3 at *
 split at hs
 ·rename_i h
  rw[if_pos h]
  have hp:=J1 h
  split at hs
  ·rename_i h0
   rw[if_pos h0]
   have hq:=A2v hp.1.2.2 hp.2.2.2
   refine⟨O1 _,fun r hr=>?_,by have:=hs.2.1;simp only at this ⊢;omega,?_⟩
   ·have hr:r∈E5 (a.recs++b.recs):=hr
    exact Bm3 (W4 hq r hr)
   ·have h1:=B1q hp.1.1 hp.2.1
    have h2:=U4 (M6 hp.1.1)
    have h3:=U4 (M6 hp.2.1)
    show(D9 a.adds b.adds).1.length*40≤_
    omega
  ·rename_i h0
   rw[if_neg h0]
   exact⟨⟨by decide,by decide⟩,fun r hr=>(by cases hr),by decide,by decide⟩
 ·rename_i h
  rw[if_neg h]
  exact⟨⟨by decide,by decide⟩,fun r hr=>(by cases hr),by decide,by decide⟩
end Go.Proofs.YtaiepnaokhpmcaaGreat
namespace Go.Proofs.YtaiepnaokhpmcaaGreat
open Go.E
set_option maxRecDepth 100000
set_option maxHeartbeats 4000000
def Ar0:Facts:=⟨C1.adds,C1.gone,I9.recs⟩
theorem Az8:okF Ar0=true:=G2.2 ⟨(G2.1 A9b).1,(G2.1 A9b).2.1,(G2.1 Bc6).2.2⟩
theorem A2z:A3 C1 I9=(Ar0,0):=by
 have J:=I8 (a:=C1) (b:=I9) ⟨A9b,Bc6,fun x hx y hy=>(by cases hy)⟩
 rw[J.1]
 congr 1
 refine Bp8 J.2.1 Az8 (fun e=>?_) (fun d=>?_) (fun r=>?_)
 ·rw[J.2.2.1];simp [I9,Ar0]
 ·rw[J.2.2.2.1]
  show(E8 C1.gone d || E8 ⟨[],[]⟩ d)=E8 C1.gone d
  rw[A4g,Bool.or_false]
 ·rw[J.2.2.2.2];simp [C1,Ar0]
theorem Ai9:D7 Ar0=([⟨⟨0,2⟩,⟨#[66]⟩,2⟩],0):=by
 have e:Bp3 Ar0=[⟨⟨0,2⟩,⟨#[66]⟩,2⟩]:=by decide +kernel
 rw[Bp9 Az8,e]
theorem B9k:szB 3 C1:=⟨A9c.1,by decide,by decide⟩
theorem Bq0:szB 3 I9:=⟨Bc7.1,by decide,by decide⟩
theorem B9l:szB 7 Ar0:=⟨⟨A9c.1.1,Bc7.1.2⟩,by decide,by decide⟩
def B5z(q:Int):Facts:=⟨[⟨⟨0,1⟩,⟨#[65]⟩,q⟩],⟨[],[]⟩,[]⟩
theorem Bq1:okF (B5z 5)=true:=by rw[Aw8];decide +kernel
theorem Bq2:okF (B5z 6)=true:=by rw[Aw8];decide +kernel
theorem cl_56:A5 (B5z 5) (B5z 6)=(⟨0,1⟩,true) :=
 A07 (H5.2 ⟨Bq1,Bq2⟩) (i:=0) (by decide) (by decide) (fun j hj=>by omega) (U6.2 ⟨by decide +kernel,by decide +kernel⟩)
theorem cl_56':¬(¬(A5 (B5z 5) (B5z 6)).2=true∨¬(A5 (B5z 5) (B5z 6)).1.rep=0∨¬(A5 (B5z 5) (B5z 6)).1.num=1):=by
 rw[cl_56]
 decide
theorem Bq3:D4 ⟨[],⟨[0],[]⟩,[]⟩=1:=by
 unfold D4
 rw[if_neg]
 intro h
 exact absurd (G2.1 h).2.1 (by decide +kernel)
theorem Bq4{f:Facts}(hb:szF f):(I6 f).1.vec.length≤16∧(I6 f).1.cloud.length≤8000000000:=by
 unfold I6
 split
 ·have t:=O1 (B3 [A9s f.adds,f.gone])
  exact⟨t.2,t.1⟩
 ·exact⟨by decide,by decide⟩
theorem B5s :Con Tryz.prog 28 [] (.b true) :=
 by
 refine sC A8 [.tmp 0] 43 Tryz.func28 ?_
 intro e0 cx
 refine sq<|rG cx [] [] z0<|sn<|sq<|rG cx [1,2] [1] (fT (Bm6 ) (fT (con17 ) (fT (A9v (C1) (I9) (by exact B9k) (by exact Bq0)) (oA 0 (.agg [.sl (List.map c45 C1.adds),.sl (List.map c3 C1.gone.vec),.sl (List.map B5 C1.gone.cloud),.sl (List.map c81 C1.recs)]) (oA 1 (.agg [.sl (List.map c45 I9.adds),.sl (List.map c3 I9.gone.vec),.sl (List.map B5 I9.gone.cloud),.sl (List.map c81 I9.recs)]) (oA 2 (.tup [.agg [.sl (List.map c45 (A3 C1 I9).1.adds),.sl (List.map c3 (A3 C1 I9).1.gone.vec),.sl (List.map B5 (A3 C1 I9).1.gone.cloud),.sl (List.map c81 (A3 C1 I9).1.recs)],.i .i64 ((A3 C1 I9).2)]) z0)))))) ?_
 refine sn<|sq<|sq<|B1 (σ':=⟨[(1,.ptr (1) (0) (0) (0)),(23,.b (decide (¬(A3 C1 I9).2=0∨¬(↑(A3 C1 I9).1.adds.length:Int)=3∨¬(↑(A3 C1 I9).1.recs.length:Int)=1)))],[(1,⟨0,29,.var [.sl (List.map c45 (A3 C1 I9).1.adds),.sl (List.map c3 (A3 C1 I9).1.gone.vec),.sl (List.map B5 (A3 C1 I9).1.gone.cloud),.sl (List.map c81 (A3 C1 I9).1.recs)]⟩)]⟩) ?_ ?_
 refine A4 (¬(A3 C1 I9).2=0) (fun h_1=>?_) (fun h_1=>?_)
 refine rG cx [1,23] [1] (tT 1 (D0 h_1:AV.b ((A3 C1 I9).2 !=0)=AV.b true) (tD 13 true (¬(A3 C1 I9).2=0∨¬(↑(A3 C1 I9).1.adds.length:Int)=3∨¬(↑(A3 C1 I9).1.recs.length:Int)=1) (by simp only [eq_false h_1,tsl]) z0)) ?_
 exact⟨rfl,by kernel_rfl⟩
 refine A4 (¬(↑(A3 C1 I9).1.adds.length:Int)=3) (fun h_2=>?_) (fun h_2=>?_)
 refine rG cx [1,23] [1] (tN 1 ((A3 C1 I9).2) (0:Int) (tT 2 (A0 h_1) (tL 5 c45 ((A3 C1 I9).1.adds) (tT 6 (D0 h_2:AV.b ((↑(A3 C1 I9).1.adds.length:Int) !=3)=AV.b true) (tT 13 (by first | (simp only [eq_false h_1,eq_false h_2,tsl];done) | simp_all:AV.b true=AV.b (decide (¬(A3 C1 I9).2=0∨¬(↑(A3 C1 I9).1.adds.length:Int)=3∨¬(↑(A3 C1 I9).1.recs.length:Int)=1))) z0))))) ?_
 exact⟨rfl,by kernel_rfl⟩
 refine rG cx [1,23] [1] (tN 1 ((A3 C1 I9).2) (0:Int) (tT 2 (A0 h_1) (tL 5 c45 ((A3 C1 I9).1.adds) (tN 6 (↑(A3 C1 I9).1.adds.length:Int) (3:Int) (tT 7 (A0 h_2) (tL 11 c81 ((A3 C1 I9).1.recs) (tN 12 (↑(A3 C1 I9).1.recs.length:Int) (1:Int) (tT 13 (by first | (simp only [eq_false h_1,eq_false h_2,tsl];done) | simp_all:AV.b (decide ¬(↑(A3 C1 I9).1.recs.length:Int)=1)=AV.b (decide (¬(A3 C1 I9).2=0∨¬(↑(A3 C1 I9).1.adds.length:Int)=3∨¬(↑(A3 C1 I9).1.recs.length:Int)=1))) z0)))))))) ?_
 exact⟨rfl,by kernel_rfl⟩
 refine sn<|dC (¬(A3 C1 I9).2=0∨¬(↑(A3 C1 I9).1.adds.length:Int)=3∨¬(↑(A3 C1 I9).1.recs.length:Int)=1) (fun h3=>?_) fun h3=>?_
 refine sq<|rG cx [0] [] z0<|sn<|rT<|nR<|qR (.b (false)) (.eq ?g2);rotate_left
 refine sK<|sn<|sq<|rG cx [3,2] [] (fT (con31 ((A3 C1 I9).1) (by rw[A2z];exact B9l)) (oA 1 (.tup [.sl (List.map c45 (D7 (A3 C1 I9).1).1),.i .i64 ((D7 (A3 C1 I9).1).2)]) z0)) ?_
 refine sn<|sq<|B1 (σ':=⟨[(0,.b (decide ((D7 (A3 C1 I9).1).2=0∧(↑(D7 (A3 C1 I9).1).1.length:Int)=1∧(D7 (A3 C1 I9).1).1[(0:Nat)]! = { dot:={ rep:=(0:Int),num:=(2:Int):Dot },sku:=(H6 (0:Int) (2:Int) { data:=#[(66:UInt8)]:ByteArray } (2:Int)).sku,qty:=(2:Int):Entry })))],[]⟩) ?_ ?_
 refine A4 ((D7 (A3 C1 I9).1).2=0) (fun h5=>?_) (fun h5=>?_)
 refine A4 ((↑(D7 (A3 C1 I9).1).1.length:Int)=1) (fun h6=>?_) (fun h6=>?_)
 refine rA cx [0] [] (tT 1 (A7 h5) (tL 4 c45 ((D7 (A3 C1 I9).1).1) (tT 5 (A7 h6) (fO ((0:Int)≤(0:Int)) (fP ((List.map c45 (D7 (A3 C1 I9).1).1)[Int.toNat (0:Int)]?=some (c45 (D7 (A3 C1 I9).1).1[(0:Nat)]!)) (by rw[A2z,Ai9];rfl) (fR 4 (fN 4 4 (fT (B19 ((0:Int)) ((2:Int)) ({ data:=#[(66:UInt8)]:ByteArray }) ((2:Int))) (fT (Bg3 (D7 (A3 C1 I9).1).1[(0:Nat)]! { dot:={ rep:=(0:Int),num:=(2:Int):Dot },sku:=(H6 (0:Int) (2:Int) { data:=#[(66:UInt8)]:ByteArray } (2:Int)).sku,qty:=(2:Int):Entry }) (tD 14 (decide ((D7 (A3 C1 I9).1).1[(0:Nat)]! = { dot:={ rep:=(0:Int),num:=(2:Int):Dot },sku:=(H6 (0:Int) (2:Int) { data:=#[(66:UInt8)]:ByteArray } (2:Int)).sku,qty:=(2:Int):Entry })) ((D7 (A3 C1 I9).1).2=0∧(↑(D7 (A3 C1 I9).1).1.length:Int)=1∧(D7 (A3 C1 I9).1).1[(0:Nat)]! = { dot:={ rep:=(0:Int),num:=(2:Int):Dot },sku:=(H6 (0:Int) (2:Int) { data:=#[(66:UInt8)]:ByteArray } (2:Int)).sku,qty:=(2:Int):Entry }) (by simp only [eq_true h5,eq_true h6,tsl]) (oR 9 (c45 (D7 (A3 C1 I9).1).1[(0:Nat)]!) (oA 11 (.agg [.i .i64 ((0:Int)),.i .i64 ((2:Int)),.s ((H6 (0:Int) (2:Int) { data:=#[(66:UInt8)]:ByteArray } (2:Int)).sku),.i .i64 ((2:Int))]) (oA 12 (.b (decide ((D7 (A3 C1 I9).1).1[(0:Nat)]! = { dot:={ rep:=(0:Int),num:=(2:Int):Dot },sku:=(H6 (0:Int) (2:Int) { data:=#[(66:UInt8)]:ByteArray } (2:Int)).sku,qty:=(2:Int):Entry }))) z0))))))))))))) ?_
 exact⟨rfl,by kernel_rfl⟩
 refine rA cx [0] [] (tT 1 (A7 h5) (tL 4 c45 ((D7 (A3 C1 I9).1).1) (tT 5 (A0 h6) (tD 14 false ((D7 (A3 C1 I9).1).2=0∧(↑(D7 (A3 C1 I9).1).1.length:Int)=1∧(D7 (A3 C1 I9).1).1[(0:Nat)]! = { dot:={ rep:=(0:Int),num:=(2:Int):Dot },sku:=(H6 (0:Int) (2:Int) { data:=#[(66:UInt8)]:ByteArray } (2:Int)).sku,qty:=(2:Int):Entry }) (by simp only [eq_true h5,eq_false h6,tsl]) z0)))) ?_
 exact⟨rfl,by kernel_rfl⟩
 refine rA cx [0] [] (tT 1 (A0 h5) (tD 14 false ((D7 (A3 C1 I9).1).2=0∧(↑(D7 (A3 C1 I9).1).1.length:Int)=1∧(D7 (A3 C1 I9).1).1[(0:Nat)]! = { dot:={ rep:=(0:Int),num:=(2:Int):Dot },sku:=(H6 (0:Int) (2:Int) { data:=#[(66:UInt8)]:ByteArray } (2:Int)).sku,qty:=(2:Int):Entry }) (by simp only [eq_false h5,tsl]) z0)) ?_
 exact⟨rfl,by kernel_rfl⟩
 refine sn<|rT<|qR (.b (decide ((D7 (A3 C1 I9).1).2=0∧(↑(D7 (A3 C1 I9).1).1.length:Int)=1∧(D7 (A3 C1 I9).1).1[(0:Nat)]! = { dot:={ rep:=(0:Int),num:=(2:Int):Dot },sku:=(H6 (0:Int) (2:Int) { data:=#[(66:UInt8)]:ByteArray } (2:Int)).sku,qty:=(2:Int):Entry }))) (.eq (by rw[A2z,Ai9];rfl))
 case g2=>rw[A2z]at h3;rcases h3 with h3 | h3 | h3 <;> exact absurd rfl h3
theorem B1r(a b:Facts)(ha:szF a)(hb:szF b):Con Tryz.prog 29 [.agg (c29 a),.agg (c29 b)] (.b (D8 a b)) :=
 by
 refine sC A8 [.tmp 4] 23 Tryz.func29 ?_
 intro e0 cx
 refine sq<|rG cx [2,3] [2,3] z0<|sn<|sq<|sq<|B1 (σ':=⟨[(2,.ptr (2) (0) (0) (0)),(3,.ptr (3) (0) (0) (0)),(14,.b (decide (¬D4 a=0∨¬D4 b=0)))],[(2,⟨0,29,.var [.sl (List.map c45 a.adds),.sl (List.map c3 a.gone.vec),.sl (List.map B5 a.gone.cloud),.sl (List.map c81 a.recs)]⟩),(3,⟨0,29,.var [.sl (List.map c45 b.adds),.sl (List.map c3 b.gone.vec),.sl (List.map B5 b.gone.cloud),.sl (List.map c81 b.recs)]⟩)]⟩) ?_ ?_
 refine A4 (¬D4 a=0) (fun h_1=>?_) (fun h_1=>?_)
 refine rG cx [2,3,14] [2,3] (fT (A43 (a) (by(with_reducible assumption))) (tT 2 (D0 h_1:AV.b (D4 a !=0)=AV.b true) (tD 7 true (¬D4 a=0∨¬D4 b=0) (by simp only [eq_false h_1,tsl]) (oA 1 (.i .i64 (D4 a)) z0)))) ?_
 exact⟨rfl,by kernel_rfl⟩
 refine rG cx [2,3,14] [2,3] (fT (A43 (a) (by(with_reducible assumption))) (tN 2 (D4 a) (0:Int) (tT 3 (A0 h_1) (fT (A43 (b) (by(with_reducible assumption))) (tN 6 (D4 b) (0:Int) (tT 7 (by first | (simp only [eq_false h_1,tsl];done) | simp_all:AV.b (decide ¬D4 b=0)=AV.b (decide (¬D4 a=0∨¬D4 b=0))) (oA 1 (.i .i64 (D4 a)) (oA 5 (.i .i64 (D4 b)) z0)))))))) ?_
 exact⟨rfl,by kernel_rfl⟩
 refine sn<|dC (¬D4 a=0∨¬D4 b=0) (fun h2=>?_) fun h2=>?_
 refine sq<|rG cx [4] [] z0<|sn<|rT<|nR<|qR (.b (false)) (.eq (by unfold D8;rw[Bool.eq_false_iff.2 (U7 h2)];rfl))
 refine sK<|sn<|sq<|rG cx [6] [] (fT (con38 (a) (b) (by(with_reducible assumption)) (by(with_reducible assumption))) (oA 2 (.tup [.agg [.i .i64 ((A5 a b).1.rep),.i .i64 ((A5 a b).1.num)],.b ((A5 a b).2)]) z0))<|sn<|sq<|rG cx [4] [] (tO 1 ((A5 a b).2) z0)<|sn<|rT<|qR (.b (decide ¬(A5 a b).2=true)) (.eq ?g1);rotate_left
 case g1=>unfold D8;rw[I7 h2];cases(A5 a b).2 <;> rfl
theorem con9(f:Facts)(hf:szB 1 f):Con Tryz.prog 9 [.agg (c29 f)] (.b true) :=
 by
 have hz:=Bq4 hf.1
 refine sC A8 [.tmp 2] 68 Tryz.func9 ?_
 intro e0 cx
 refine sq<|rG cx [1] [1] z0<|sn<|sq<|sq<|B1 (σ':=⟨[(1,.ptr (1) (0) (0) (0)),(24,.b (decide (¬D4 C1=0∨¬D4 { adds:=[],gone:={ vec:=[(0:Int)],cloud:=[]:Past },recs:=[]:Facts }=(1:Int))))],[(1,⟨0,29,.var [.sl (List.map c45 f.adds),.sl (List.map c3 f.gone.vec),.sl (List.map B5 f.gone.cloud),.sl (List.map c81 f.recs)]⟩)]⟩) ?_ ?_
 refine A4 (¬D4 C1=0) (fun h1=>?_) (fun h1=>?_)
 refine rG cx [1,24] [1] (fT (B5s ) (fT (Bm6 ) (fT (A42 (C1) (by exact A9c.1)) (tT 5 (D0 h1:AV.b (D4 C1 !=0)=AV.b true) (tD 13 true (¬D4 C1=0∨¬D4 { adds:=[],gone:={ vec:=[(0:Int)],cloud:=[]:Past },recs:=[]:Facts }=(1:Int)) (by simp only [eq_false h1,tsl]) (oA 0 (.b (true)) (oA 3 (.agg [.sl (List.map c45 C1.adds),.sl (List.map c3 C1.gone.vec),.sl (List.map B5 C1.gone.cloud),.sl (List.map c81 C1.recs)]) (oA 4 (.i .i64 (D4 C1)) z0)))))))) ?_
 exact⟨rfl,by kernel_rfl⟩
 refine rG cx [1,24] [1] (fT (B5s ) (fT (Bm6 ) (fT (A42 (C1) (by exact A9c.1)) (tN 5 (D4 C1) (0:Int) (tT 6 (A0 h1) (fP (Con Tryz.prog (39:Nat) [AV.agg [AV.nl,AV.sl (List.map c3 [(0:Int)]),AV.nl,AV.nl]] (AV.i .i64 (D4 { adds:=[],gone:={ vec:=[(0:Int)],cloud:=[]:Past },recs:=[]:Facts }))) (Con.le (A42 ({ adds:=[],gone:={ vec:=[(0:Int)],cloud:=[]:Past },recs:=[]:Facts }) (by exact⟨⟨by decide,by decide⟩,fun r hr=>(by cases hr)⟩)) (ZLe.cons (B6.agg (ZLe.cons B6.nl (ZLe.cons (B6.refl _) (ZLe.cons B6.nl (ZLe.cons B6.nl ZLe.nil))))) ZLe.nil)) (tN 12 (D4 { adds:=[],gone:={ vec:=[(0:Int)],cloud:=[]:Past },recs:=[]:Facts }) (1:Int) (tT 13 (by first | (simp only [eq_false h1,tsl];done) | simp_all:AV.b (decide ¬D4 { adds:=[],gone:={ vec:=[(0:Int)],cloud:=[]:Past },recs:=[]:Facts }=(1:Int))=AV.b (decide (¬D4 C1=0∨¬D4 { adds:=[],gone:={ vec:=[(0:Int)],cloud:=[]:Past },recs:=[]:Facts }=(1:Int)))) (oA 0 (.b (true)) (oA 3 (.agg [.sl (List.map c45 C1.adds),.sl (List.map c3 C1.gone.vec),.sl (List.map B5 C1.gone.cloud),.sl (List.map c81 C1.recs)]) (oA 4 (.i .i64 (D4 C1)) (oA 11 (.i .i64 (D4 { adds:=[],gone:={ vec:=[(0:Int)],cloud:=[]:Past },recs:=[]:Facts })) z0)))))))))))) ?_
 exact⟨rfl,by kernel_rfl⟩
 refine sn<|dC (¬D4 C1=0∨¬D4 { adds:=[],gone:={ vec:=[(0:Int)],cloud:=[]:Past },recs:=[]:Facts }=(1:Int)) (fun h2=>?_) fun h2=>?_
 refine sq<|rG cx [2] [] z0<|sn<|rT<|nR<|qR (.b (false)) (.eq (by exact absurd h2 (fun k=>k.elim (fun g=>g (J2.2 A9b)) (fun g=>g Bq3))))
 refine sK<|sn<|sq<|rG cx [1,3] [1] (fT (A43 (f) (by exact hf.1)) (oA 1 (.i .i64 (D4 f)) z0)) ?_
 refine sn<|sq<|rG cx [1,3,4,5] [1] (fT (con42 (f) (by exact F7 hf (by decide))) (oA 1 (.tup [.sl (List.map c45 (D7 f).1),.i .i64 ((D7 f).2)]) z0)) ?_
 refine sn<|sq<|rG cx [1,3,4,5,6,7] [1,6] (fT (con43 (f) (by exact hf.1)) (oA 1 (.tup [.agg [.sl (List.map c3 (I6 f).1.vec),.sl (List.map B5 (I6 f).1.cloud)],.i .i64 ((I6 f).2)]) z0)) ?_
 refine sn<|sq<|sq<|rG cx [1,4,5,6,7,40] [1,6] (fT (A42 (f) (by exact hf.1)) (tT 3 (A4b:AV.b (D4 f != D4 f)=AV.b false) (oA 1 (.i .i64 (D4 f)) z0))) ?_
 refine sn<|O0 (by kernel_rfl) (by kernel_rfl)<|sK<|sn<|sq<|rG cx [1,4,5,6,7,8,9] [1,6] (fT (con31 (f) (by exact F7 hf (by decide))) (oA 1 (.tup [.sl (List.map c45 (D7 f).1),.i .i64 ((D7 f).2)]) z0)) ?_
 refine sn<|sq<|sq<|rG cx [1,6,7,54] [1,6] (tT 2 (A4b:AV.b ((D7 f).2 !=(D7 f).2)=AV.b false) (fT (B8c ((D7 f).1) ((D7 f).1)) (tQ 7 ((D7 f).1=(D7 f).1) (oA 6 (.b (decide ((D7 f).1=(D7 f).1))) z0))))<|sn<|A1z (¬(D7 f).1=(D7 f).1) (by kernel_rfl) (by kernel_rfl) (fun h3=>absurd h3 (fun hn=>hn rfl)) (fun h3=>?_)
 refine sK<|sn<|sq<|rG cx [6,7,10,9] [6,10] (fT (con45 (f) (by exact hf.1)) (oA 1 (.tup [.agg [.sl (List.map c3 (I6 f).1.vec),.sl (List.map B5 (I6 f).1.cloud)],.i .i64 ((I6 f).2)]) z0)) ?_
 refine sn<|sq<|rG cx [2] [] (tT 2 (B6v:AV.b ((I6 f).2 ==(I6 f).2)=AV.b true) (fT (B49 ((I6 f).1) ((I6 f).1) (by omega) (by omega)) (oA 6 (.b (decide ((I6 f).1=(I6 f).1))) z0))) ?_
 refine sn<|rT<|qR (.b (decide ((I6 f).1=(I6 f).1))) (.eq (by rw[decide_eq_true rfl]))
theorem con7(a b:Facts)(ha:szB 1 a)(hb:szB 1 b):Con Tryz.prog 7 [.agg (c29 a),.agg (c29 b)] (.b true) :=
 by
 refine sC A8 [.tmp 4] 80 Tryz.func7 ?_
 intro e0 cx
 refine sq<|rG cx [2,3] [2,3] z0<|sn<|sq<|sq<|rG cx [2,3,14] [2,3] (fT (B5s ) (oA 0 (.b (true)) z0))<|sn<|O0 (by kernel_rfl) (by kernel_rfl)<|sK<|sn<|sq<|rG cx [2,3,5,6] [2,3,5] (fT (B19 ((0:Int)) ((1:Int)) ({ data:=#[(65:UInt8)]:ByteArray }) ((5:Int))) (fT (B19 ((0:Int)) ((1:Int)) ({ data:=#[(65:UInt8)]:ByteArray }) ((6:Int))) (fP (Con Tryz.prog (35:Nat) [AV.agg [AV.sl (List.map c45 [{ dot:={ rep:=(0:Int),num:=(1:Int):Dot },sku:=(H6 (0:Int) (1:Int) { data:=#[(65:UInt8)]:ByteArray } (5:Int)).sku,qty:=(5:Int):Entry }]),AV.nl,AV.nl,AV.nl],AV.agg [AV.sl (List.map c45 [{ dot:={ rep:=(0:Int),num:=(1:Int):Dot },sku:=(H6 (0:Int) (1:Int) { data:=#[(65:UInt8)]:ByteArray } (6:Int)).sku,qty:=(6:Int):Entry }]),AV.nl,AV.nl,AV.nl]] (AV.tup [AV.agg [AV.i .i64 (A5 { adds:=[{ dot:={ rep:=(0:Int),num:=(1:Int):Dot },sku:=(H6 (0:Int) (1:Int) { data:=#[(65:UInt8)]:ByteArray } (5:Int)).sku,qty:=(5:Int):Entry }],gone:={ vec:=[],cloud:=[]:Past },recs:=[]:Facts } { adds:=[{ dot:={ rep:=(0:Int),num:=(1:Int):Dot },sku:=(H6 (0:Int) (1:Int) { data:=#[(65:UInt8)]:ByteArray } (6:Int)).sku,qty:=(6:Int):Entry }],gone:={ vec:=[],cloud:=[]:Past },recs:=[]:Facts }).1.rep,AV.i .i64 (A5 { adds:=[{ dot:={ rep:=(0:Int),num:=(1:Int):Dot },sku:=(H6 (0:Int) (1:Int) { data:=#[(65:UInt8)]:ByteArray } (5:Int)).sku,qty:=(5:Int):Entry }],gone:={ vec:=[],cloud:=[]:Past },recs:=[]:Facts } { adds:=[{ dot:={ rep:=(0:Int),num:=(1:Int):Dot },sku:=(H6 (0:Int) (1:Int) { data:=#[(65:UInt8)]:ByteArray } (6:Int)).sku,qty:=(6:Int):Entry }],gone:={ vec:=[],cloud:=[]:Past },recs:=[]:Facts }).1.num],AV.b (A5 { adds:=[{ dot:={ rep:=(0:Int),num:=(1:Int):Dot },sku:=(H6 (0:Int) (1:Int) { data:=#[(65:UInt8)]:ByteArray } (5:Int)).sku,qty:=(5:Int):Entry }],gone:={ vec:=[],cloud:=[]:Past },recs:=[]:Facts } { adds:=[{ dot:={ rep:=(0:Int),num:=(1:Int):Dot },sku:=(H6 (0:Int) (1:Int) { data:=#[(65:UInt8)]:ByteArray } (6:Int)).sku,qty:=(6:Int):Entry }],gone:={ vec:=[],cloud:=[]:Past },recs:=[]:Facts }).2])) (Con.le (Bp6 ({ adds:=[{ dot:={ rep:=(0:Int),num:=(1:Int):Dot },sku:=(H6 (0:Int) (1:Int) { data:=#[(65:UInt8)]:ByteArray } (5:Int)).sku,qty:=(5:Int):Entry }],gone:={ vec:=[],cloud:=[]:Past },recs:=[]:Facts }) ({ adds:=[{ dot:={ rep:=(0:Int),num:=(1:Int):Dot },sku:=(H6 (0:Int) (1:Int) { data:=#[(65:UInt8)]:ByteArray } (6:Int)).sku,qty:=(6:Int):Entry }],gone:={ vec:=[],cloud:=[]:Past },recs:=[]:Facts }) (by exact⟨⟨by decide,by decide⟩,fun r hr=>(by cases hr)⟩) (by exact⟨⟨by decide,by decide⟩,fun r hr=>(by cases hr)⟩)) (ZLe.cons (B6.agg (ZLe.cons (B6.refl _) (ZLe.cons B6.nl (ZLe.cons B6.nl (ZLe.cons B6.nl ZLe.nil))))) (ZLe.cons (B6.agg (ZLe.cons (B6.refl _) (ZLe.cons B6.nl (ZLe.cons B6.nl (ZLe.cons B6.nl ZLe.nil))))) ZLe.nil))) (oA 0 (.agg [.i .i64 ((0:Int)),.i .i64 ((1:Int)),.s ((H6 (0:Int) (1:Int) { data:=#[(65:UInt8)]:ByteArray } (5:Int)).sku),.i .i64 ((5:Int))]) (oA 3 (.agg [.i .i64 ((0:Int)),.i .i64 ((1:Int)),.s ((H6 (0:Int) (1:Int) { data:=#[(65:UInt8)]:ByteArray } (6:Int)).sku),.i .i64 ((6:Int))]) (oA 6 (.tup [.agg [.i .i64 ((A5 { adds:=[{ dot:={ rep:=(0:Int),num:=(1:Int):Dot },sku:=(H6 (0:Int) (1:Int) { data:=#[(65:UInt8)]:ByteArray } (5:Int)).sku,qty:=(5:Int):Entry }],gone:={ vec:=[],cloud:=[]:Past },recs:=[]:Facts } { adds:=[{ dot:={ rep:=(0:Int),num:=(1:Int):Dot },sku:=(H6 (0:Int) (1:Int) { data:=#[(65:UInt8)]:ByteArray } (6:Int)).sku,qty:=(6:Int):Entry }],gone:={ vec:=[],cloud:=[]:Past },recs:=[]:Facts }).1.rep),.i .i64 ((A5 { adds:=[{ dot:={ rep:=(0:Int),num:=(1:Int):Dot },sku:=(H6 (0:Int) (1:Int) { data:=#[(65:UInt8)]:ByteArray } (5:Int)).sku,qty:=(5:Int):Entry }],gone:={ vec:=[],cloud:=[]:Past },recs:=[]:Facts } { adds:=[{ dot:={ rep:=(0:Int),num:=(1:Int):Dot },sku:=(H6 (0:Int) (1:Int) { data:=#[(65:UInt8)]:ByteArray } (6:Int)).sku,qty:=(6:Int):Entry }],gone:={ vec:=[],cloud:=[]:Past },recs:=[]:Facts }).1.num)],.b ((A5 { adds:=[{ dot:={ rep:=(0:Int),num:=(1:Int):Dot },sku:=(H6 (0:Int) (1:Int) { data:=#[(65:UInt8)]:ByteArray } (5:Int)).sku,qty:=(5:Int):Entry }],gone:={ vec:=[],cloud:=[]:Past },recs:=[]:Facts } { adds:=[{ dot:={ rep:=(0:Int),num:=(1:Int):Dot },sku:=(H6 (0:Int) (1:Int) { data:=#[(65:UInt8)]:ByteArray } (6:Int)).sku,qty:=(6:Int):Entry }],gone:={ vec:=[],cloud:=[]:Past },recs:=[]:Facts }).2)]) z0)))))) ?_
 refine sn<|sq<|sq<|B1 (σ':=⟨[(2,.ptr (2) (0) (0) (0)),(3,.ptr (3) (0) (0) (0)),(5,.ptr (5) (0) (0) (0)),(36,.b (decide (¬(A5 { adds:=[{ dot:={ rep:=(0:Int),num:=(1:Int):Dot },sku:=(H6 (0:Int) (1:Int) { data:=#[(65:UInt8)]:ByteArray } (5:Int)).sku,qty:=(5:Int):Entry }],gone:={ vec:=[],cloud:=[]:Past },recs:=[]:Facts } { adds:=[{ dot:={ rep:=(0:Int),num:=(1:Int):Dot },sku:=(H6 (0:Int) (1:Int) { data:=#[(65:UInt8)]:ByteArray } (6:Int)).sku,qty:=(6:Int):Entry }],gone:={ vec:=[],cloud:=[]:Past },recs:=[]:Facts }).2=true∨¬(A5 { adds:=[{ dot:={ rep:=(0:Int),num:=(1:Int):Dot },sku:=(H6 (0:Int) (1:Int) { data:=#[(65:UInt8)]:ByteArray } (5:Int)).sku,qty:=(5:Int):Entry }],gone:={ vec:=[],cloud:=[]:Past },recs:=[]:Facts } { adds:=[{ dot:={ rep:=(0:Int),num:=(1:Int):Dot },sku:=(H6 (0:Int) (1:Int) { data:=#[(65:UInt8)]:ByteArray } (6:Int)).sku,qty:=(6:Int):Entry }],gone:={ vec:=[],cloud:=[]:Past },recs:=[]:Facts }).1.rep=0∨¬(A5 { adds:=[{ dot:={ rep:=(0:Int),num:=(1:Int):Dot },sku:=(H6 (0:Int) (1:Int) { data:=#[(65:UInt8)]:ByteArray } (5:Int)).sku,qty:=(5:Int):Entry }],gone:={ vec:=[],cloud:=[]:Past },recs:=[]:Facts } { adds:=[{ dot:={ rep:=(0:Int),num:=(1:Int):Dot },sku:=(H6 (0:Int) (1:Int) { data:=#[(65:UInt8)]:ByteArray } (6:Int)).sku,qty:=(6:Int):Entry }],gone:={ vec:=[],cloud:=[]:Past },recs:=[]:Facts }).1.num=1)))],[(2,⟨0,29,.var [.sl (List.map c45 a.adds),.sl (List.map c3 a.gone.vec),.sl (List.map B5 a.gone.cloud),.sl (List.map c81 a.recs)]⟩),(3,⟨0,29,.var [.sl (List.map c45 b.adds),.sl (List.map c3 b.gone.vec),.sl (List.map B5 b.gone.cloud),.sl (List.map c81 b.recs)]⟩),(5,⟨0,43,.var [.i .i64 ((A5 { adds:=[{ dot:={ rep:=(0:Int),num:=(1:Int):Dot },sku:=(H6 (0:Int) (1:Int) { data:=#[(65:UInt8)]:ByteArray } (5:Int)).sku,qty:=(5:Int):Entry }],gone:={ vec:=[],cloud:=[]:Past },recs:=[]:Facts } { adds:=[{ dot:={ rep:=(0:Int),num:=(1:Int):Dot },sku:=(H6 (0:Int) (1:Int) { data:=#[(65:UInt8)]:ByteArray } (6:Int)).sku,qty:=(6:Int):Entry }],gone:={ vec:=[],cloud:=[]:Past },recs:=[]:Facts }).1.rep),.i .i64 ((A5 { adds:=[{ dot:={ rep:=(0:Int),num:=(1:Int):Dot },sku:=(H6 (0:Int) (1:Int) { data:=#[(65:UInt8)]:ByteArray } (5:Int)).sku,qty:=(5:Int):Entry }],gone:={ vec:=[],cloud:=[]:Past },recs:=[]:Facts } { adds:=[{ dot:={ rep:=(0:Int),num:=(1:Int):Dot },sku:=(H6 (0:Int) (1:Int) { data:=#[(65:UInt8)]:ByteArray } (6:Int)).sku,qty:=(6:Int):Entry }],gone:={ vec:=[],cloud:=[]:Past },recs:=[]:Facts }).1.num)]⟩)]⟩) ?_ ?_
 refine A4 (¬(A5 { adds:=[{ dot:={ rep:=(0:Int),num:=(1:Int):Dot },sku:=(H6 (0:Int) (1:Int) { data:=#[(65:UInt8)]:ByteArray } (5:Int)).sku,qty:=(5:Int):Entry }],gone:={ vec:=[],cloud:=[]:Past },recs:=[]:Facts } { adds:=[{ dot:={ rep:=(0:Int),num:=(1:Int):Dot },sku:=(H6 (0:Int) (1:Int) { data:=#[(65:UInt8)]:ByteArray } (6:Int)).sku,qty:=(6:Int):Entry }],gone:={ vec:=[],cloud:=[]:Past },recs:=[]:Facts }).2=true) (fun h_1=>?_) (fun h_1=>?_)
 refine rG cx [2,3,5,36] [2,3,5] (tT 0 (K1 h_1:AV.b (A5 { adds:=[{ dot:={ rep:=(0:Int),num:=(1:Int):Dot },sku:=(H6 (0:Int) (1:Int) { data:=#[(65:UInt8)]:ByteArray } (5:Int)).sku,qty:=(5:Int):Entry }],gone:={ vec:=[],cloud:=[]:Past },recs:=[]:Facts } { adds:=[{ dot:={ rep:=(0:Int),num:=(1:Int):Dot },sku:=(H6 (0:Int) (1:Int) { data:=#[(65:UInt8)]:ByteArray } (6:Int)).sku,qty:=(6:Int):Entry }],gone:={ vec:=[],cloud:=[]:Past },recs:=[]:Facts }).2=AV.b false) (tD 11 true (¬(A5 { adds:=[{ dot:={ rep:=(0:Int),num:=(1:Int):Dot },sku:=(H6 (0:Int) (1:Int) { data:=#[(65:UInt8)]:ByteArray } (5:Int)).sku,qty:=(5:Int):Entry }],gone:={ vec:=[],cloud:=[]:Past },recs:=[]:Facts } { adds:=[{ dot:={ rep:=(0:Int),num:=(1:Int):Dot },sku:=(H6 (0:Int) (1:Int) { data:=#[(65:UInt8)]:ByteArray } (6:Int)).sku,qty:=(6:Int):Entry }],gone:={ vec:=[],cloud:=[]:Past },recs:=[]:Facts }).2=true∨¬(A5 { adds:=[{ dot:={ rep:=(0:Int),num:=(1:Int):Dot },sku:=(H6 (0:Int) (1:Int) { data:=#[(65:UInt8)]:ByteArray } (5:Int)).sku,qty:=(5:Int):Entry }],gone:={ vec:=[],cloud:=[]:Past },recs:=[]:Facts } { adds:=[{ dot:={ rep:=(0:Int),num:=(1:Int):Dot },sku:=(H6 (0:Int) (1:Int) { data:=#[(65:UInt8)]:ByteArray } (6:Int)).sku,qty:=(6:Int):Entry }],gone:={ vec:=[],cloud:=[]:Past },recs:=[]:Facts }).1.rep=0∨¬(A5 { adds:=[{ dot:={ rep:=(0:Int),num:=(1:Int):Dot },sku:=(H6 (0:Int) (1:Int) { data:=#[(65:UInt8)]:ByteArray } (5:Int)).sku,qty:=(5:Int):Entry }],gone:={ vec:=[],cloud:=[]:Past },recs:=[]:Facts } { adds:=[{ dot:={ rep:=(0:Int),num:=(1:Int):Dot },sku:=(H6 (0:Int) (1:Int) { data:=#[(65:UInt8)]:ByteArray } (6:Int)).sku,qty:=(6:Int):Entry }],gone:={ vec:=[],cloud:=[]:Past },recs:=[]:Facts }).1.num=1) (by simp only [eq_false h_1,tsl]) z0)) ?_
 exact⟨rfl,by kernel_rfl⟩
 refine A4 (¬(A5 { adds:=[{ dot:={ rep:=(0:Int),num:=(1:Int):Dot },sku:=(H6 (0:Int) (1:Int) { data:=#[(65:UInt8)]:ByteArray } (5:Int)).sku,qty:=(5:Int):Entry }],gone:={ vec:=[],cloud:=[]:Past },recs:=[]:Facts } { adds:=[{ dot:={ rep:=(0:Int),num:=(1:Int):Dot },sku:=(H6 (0:Int) (1:Int) { data:=#[(65:UInt8)]:ByteArray } (6:Int)).sku,qty:=(6:Int):Entry }],gone:={ vec:=[],cloud:=[]:Past },recs:=[]:Facts }).1.rep=0) (fun h_2=>?_) (fun h_2=>?_)
 refine rG cx [2,3,5,36] [2,3,5] (tO 1 ((A5 { adds:=[{ dot:={ rep:=(0:Int),num:=(1:Int):Dot },sku:=(H6 (0:Int) (1:Int) { data:=#[(65:UInt8)]:ByteArray } (5:Int)).sku,qty:=(5:Int):Entry }],gone:={ vec:=[],cloud:=[]:Past },recs:=[]:Facts } { adds:=[{ dot:={ rep:=(0:Int),num:=(1:Int):Dot },sku:=(H6 (0:Int) (1:Int) { data:=#[(65:UInt8)]:ByteArray } (6:Int)).sku,qty:=(6:Int):Entry }],gone:={ vec:=[],cloud:=[]:Past },recs:=[]:Facts }).2) (tT 2 (A0 h_1) (tT 5 (D0 h_2:AV.b ((A5 { adds:=[{ dot:={ rep:=(0:Int),num:=(1:Int):Dot },sku:=(H6 (0:Int) (1:Int) { data:=#[(65:UInt8)]:ByteArray } (5:Int)).sku,qty:=(5:Int):Entry }],gone:={ vec:=[],cloud:=[]:Past },recs:=[]:Facts } { adds:=[{ dot:={ rep:=(0:Int),num:=(1:Int):Dot },sku:=(H6 (0:Int) (1:Int) { data:=#[(65:UInt8)]:ByteArray } (6:Int)).sku,qty:=(6:Int):Entry }],gone:={ vec:=[],cloud:=[]:Past },recs:=[]:Facts }).1.rep !=0)=AV.b true) (tT 11 (by first | (simp only [eq_false h_1,eq_false h_2,tsl];done) | simp_all:AV.b true=AV.b (decide (¬(A5 { adds:=[{ dot:={ rep:=(0:Int),num:=(1:Int):Dot },sku:=(H6 (0:Int) (1:Int) { data:=#[(65:UInt8)]:ByteArray } (5:Int)).sku,qty:=(5:Int):Entry }],gone:={ vec:=[],cloud:=[]:Past },recs:=[]:Facts } { adds:=[{ dot:={ rep:=(0:Int),num:=(1:Int):Dot },sku:=(H6 (0:Int) (1:Int) { data:=#[(65:UInt8)]:ByteArray } (6:Int)).sku,qty:=(6:Int):Entry }],gone:={ vec:=[],cloud:=[]:Past },recs:=[]:Facts }).2=true∨¬(A5 { adds:=[{ dot:={ rep:=(0:Int),num:=(1:Int):Dot },sku:=(H6 (0:Int) (1:Int) { data:=#[(65:UInt8)]:ByteArray } (5:Int)).sku,qty:=(5:Int):Entry }],gone:={ vec:=[],cloud:=[]:Past },recs:=[]:Facts } { adds:=[{ dot:={ rep:=(0:Int),num:=(1:Int):Dot },sku:=(H6 (0:Int) (1:Int) { data:=#[(65:UInt8)]:ByteArray } (6:Int)).sku,qty:=(6:Int):Entry }],gone:={ vec:=[],cloud:=[]:Past },recs:=[]:Facts }).1.rep=0∨¬(A5 { adds:=[{ dot:={ rep:=(0:Int),num:=(1:Int):Dot },sku:=(H6 (0:Int) (1:Int) { data:=#[(65:UInt8)]:ByteArray } (5:Int)).sku,qty:=(5:Int):Entry }],gone:={ vec:=[],cloud:=[]:Past },recs:=[]:Facts } { adds:=[{ dot:={ rep:=(0:Int),num:=(1:Int):Dot },sku:=(H6 (0:Int) (1:Int) { data:=#[(65:UInt8)]:ByteArray } (6:Int)).sku,qty:=(6:Int):Entry }],gone:={ vec:=[],cloud:=[]:Past },recs:=[]:Facts }).1.num=1))) z0)))) ?_
 exact⟨rfl,by kernel_rfl⟩
 refine rG cx [2,3,5,36] [2,3,5] (tO 1 ((A5 { adds:=[{ dot:={ rep:=(0:Int),num:=(1:Int):Dot },sku:=(H6 (0:Int) (1:Int) { data:=#[(65:UInt8)]:ByteArray } (5:Int)).sku,qty:=(5:Int):Entry }],gone:={ vec:=[],cloud:=[]:Past },recs:=[]:Facts } { adds:=[{ dot:={ rep:=(0:Int),num:=(1:Int):Dot },sku:=(H6 (0:Int) (1:Int) { data:=#[(65:UInt8)]:ByteArray } (6:Int)).sku,qty:=(6:Int):Entry }],gone:={ vec:=[],cloud:=[]:Past },recs:=[]:Facts }).2) (tT 2 (A0 h_1) (tN 5 ((A5 { adds:=[{ dot:={ rep:=(0:Int),num:=(1:Int):Dot },sku:=(H6 (0:Int) (1:Int) { data:=#[(65:UInt8)]:ByteArray } (5:Int)).sku,qty:=(5:Int):Entry }],gone:={ vec:=[],cloud:=[]:Past },recs:=[]:Facts } { adds:=[{ dot:={ rep:=(0:Int),num:=(1:Int):Dot },sku:=(H6 (0:Int) (1:Int) { data:=#[(65:UInt8)]:ByteArray } (6:Int)).sku,qty:=(6:Int):Entry }],gone:={ vec:=[],cloud:=[]:Past },recs:=[]:Facts }).1.rep) (0:Int) (tT 6 (A0 h_2) (tN 10 ((A5 { adds:=[{ dot:={ rep:=(0:Int),num:=(1:Int):Dot },sku:=(H6 (0:Int) (1:Int) { data:=#[(65:UInt8)]:ByteArray } (5:Int)).sku,qty:=(5:Int):Entry }],gone:={ vec:=[],cloud:=[]:Past },recs:=[]:Facts } { adds:=[{ dot:={ rep:=(0:Int),num:=(1:Int):Dot },sku:=(H6 (0:Int) (1:Int) { data:=#[(65:UInt8)]:ByteArray } (6:Int)).sku,qty:=(6:Int):Entry }],gone:={ vec:=[],cloud:=[]:Past },recs:=[]:Facts }).1.num) (1:Int) (tT 11 (by first | (simp only [eq_false h_1,eq_false h_2,tsl];done) | simp_all:AV.b (decide ¬(A5 { adds:=[{ dot:={ rep:=(0:Int),num:=(1:Int):Dot },sku:=(H6 (0:Int) (1:Int) { data:=#[(65:UInt8)]:ByteArray } (5:Int)).sku,qty:=(5:Int):Entry }],gone:={ vec:=[],cloud:=[]:Past },recs:=[]:Facts } { adds:=[{ dot:={ rep:=(0:Int),num:=(1:Int):Dot },sku:=(H6 (0:Int) (1:Int) { data:=#[(65:UInt8)]:ByteArray } (6:Int)).sku,qty:=(6:Int):Entry }],gone:={ vec:=[],cloud:=[]:Past },recs:=[]:Facts }).1.num=1)=AV.b (decide (¬(A5 { adds:=[{ dot:={ rep:=(0:Int),num:=(1:Int):Dot },sku:=(H6 (0:Int) (1:Int) { data:=#[(65:UInt8)]:ByteArray } (5:Int)).sku,qty:=(5:Int):Entry }],gone:={ vec:=[],cloud:=[]:Past },recs:=[]:Facts } { adds:=[{ dot:={ rep:=(0:Int),num:=(1:Int):Dot },sku:=(H6 (0:Int) (1:Int) { data:=#[(65:UInt8)]:ByteArray } (6:Int)).sku,qty:=(6:Int):Entry }],gone:={ vec:=[],cloud:=[]:Past },recs:=[]:Facts }).2=true∨¬(A5 { adds:=[{ dot:={ rep:=(0:Int),num:=(1:Int):Dot },sku:=(H6 (0:Int) (1:Int) { data:=#[(65:UInt8)]:ByteArray } (5:Int)).sku,qty:=(5:Int):Entry }],gone:={ vec:=[],cloud:=[]:Past },recs:=[]:Facts } { adds:=[{ dot:={ rep:=(0:Int),num:=(1:Int):Dot },sku:=(H6 (0:Int) (1:Int) { data:=#[(65:UInt8)]:ByteArray } (6:Int)).sku,qty:=(6:Int):Entry }],gone:={ vec:=[],cloud:=[]:Past },recs:=[]:Facts }).1.rep=0∨¬(A5 { adds:=[{ dot:={ rep:=(0:Int),num:=(1:Int):Dot },sku:=(H6 (0:Int) (1:Int) { data:=#[(65:UInt8)]:ByteArray } (5:Int)).sku,qty:=(5:Int):Entry }],gone:={ vec:=[],cloud:=[]:Past },recs:=[]:Facts } { adds:=[{ dot:={ rep:=(0:Int),num:=(1:Int):Dot },sku:=(H6 (0:Int) (1:Int) { data:=#[(65:UInt8)]:ByteArray } (6:Int)).sku,qty:=(6:Int):Entry }],gone:={ vec:=[],cloud:=[]:Past },recs:=[]:Facts }).1.num=1))) z0)))))) ?_
 exact⟨rfl,by kernel_rfl⟩
 refine sn<|dC (¬(A5 { adds:=[{ dot:={ rep:=(0:Int),num:=(1:Int):Dot },sku:=(H6 (0:Int) (1:Int) { data:=#[(65:UInt8)]:ByteArray } (5:Int)).sku,qty:=(5:Int):Entry }],gone:={ vec:=[],cloud:=[]:Past },recs:=[]:Facts } { adds:=[{ dot:={ rep:=(0:Int),num:=(1:Int):Dot },sku:=(H6 (0:Int) (1:Int) { data:=#[(65:UInt8)]:ByteArray } (6:Int)).sku,qty:=(6:Int):Entry }],gone:={ vec:=[],cloud:=[]:Past },recs:=[]:Facts }).2=true∨¬(A5 { adds:=[{ dot:={ rep:=(0:Int),num:=(1:Int):Dot },sku:=(H6 (0:Int) (1:Int) { data:=#[(65:UInt8)]:ByteArray } (5:Int)).sku,qty:=(5:Int):Entry }],gone:={ vec:=[],cloud:=[]:Past },recs:=[]:Facts } { adds:=[{ dot:={ rep:=(0:Int),num:=(1:Int):Dot },sku:=(H6 (0:Int) (1:Int) { data:=#[(65:UInt8)]:ByteArray } (6:Int)).sku,qty:=(6:Int):Entry }],gone:={ vec:=[],cloud:=[]:Past },recs:=[]:Facts }).1.rep=0∨¬(A5 { adds:=[{ dot:={ rep:=(0:Int),num:=(1:Int):Dot },sku:=(H6 (0:Int) (1:Int) { data:=#[(65:UInt8)]:ByteArray } (5:Int)).sku,qty:=(5:Int):Entry }],gone:={ vec:=[],cloud:=[]:Past },recs:=[]:Facts } { adds:=[{ dot:={ rep:=(0:Int),num:=(1:Int):Dot },sku:=(H6 (0:Int) (1:Int) { data:=#[(65:UInt8)]:ByteArray } (6:Int)).sku,qty:=(6:Int):Entry }],gone:={ vec:=[],cloud:=[]:Past },recs:=[]:Facts }).1.num=1) (fun h3=>?_) fun h3=>?_
 refine sq<|rG cx [4] [] z0<|sn<|rT<|nR<|qR (.b (false)) (.eq (by exact absurd h3 cl_56'))
 refine sK<|sn<|sq<|rG cx [2,3,5,7,8] [2,3,5,7] (fT (con37 (a) (b) (by exact F7 ha (by decide)) (by exact F7 hb (by decide))) (oA 2 (.tup [.agg [.sl (List.map c45 (A3 a b).1.adds),.sl (List.map c3 (A3 a b).1.gone.vec),.sl (List.map B5 (A3 a b).1.gone.cloud),.sl (List.map c81 (A3 a b).1.recs)],.i .i64 ((A3 a b).2)]) z0)) ?_
 refine sn<|sq<|rG cx [2,3,5,7,8] [2,3,5,7] (fT (con21 ((A3 a b).1) (by exact B9j ha hb (by decide))) (oA 1 (.agg [.sl (List.map c45 (A3 a b).1.adds),.sl (List.map c3 (A3 a b).1.gone.vec),.sl (List.map B5 (A3 a b).1.gone.cloud),.sl (List.map c81 (A3 a b).1.recs)]) z0)) ?_
 refine sn<|sq<|rG cx [2,3,5,7,8,9,10] [2,3,5,7,9] (fT (con38 (a) (b) (by exact ha.1) (by exact hb.1)) (oA 2 (.tup [.agg [.i .i64 ((A5 a b).1.rep),.i .i64 ((A5 a b).1.num)],.b ((A5 a b).2)]) z0)) ?_
 refine sn<|sq<|rG cx [2,3,5,7,8,9,10,11,12] [2,3,5,7,9,11] (fT (A9v (a) (b) (by exact F7 ha (by decide)) (by exact F7 hb (by decide))) (oA 2 (.tup [.agg [.sl (List.map c45 (A3 a b).1.adds),.sl (List.map c3 (A3 a b).1.gone.vec),.sl (List.map B5 (A3 a b).1.gone.cloud),.sl (List.map c81 (A3 a b).1.recs)],.i .i64 ((A3 a b).2)]) z0)) ?_
 refine sn<|sq<|sq<|rG cx [2,3,5,9,10,65] [2,3,5,9] (tT 2 (A4b:AV.b ((A3 a b).2 !=(A3 a b).2)=AV.b false) (fT (B8k ((A3 a b).1) ((A3 a b).1) (by exact(M9 ha hb).1)) (tQ 7 ((A3 a b).1=(A3 a b).1) (oA 6 (.b (decide ((A3 a b).1=(A3 a b).1))) z0)))) ?_
 refine sn<|A1z (¬(A3 a b).1=(A3 a b).1) (by kernel_rfl) (by kernel_rfl) (fun h4=>absurd h4 (fun hn=>hn rfl)) (fun h4=>?_)
 refine sK<|sn<|sq<|rG cx [5,9,10,6] [5,9] (fT (Bp6 (a) (b) (by exact ha.1) (by exact hb.1)) (oA 2 (.tup [.agg [.i .i64 ((A5 a b).1.rep),.i .i64 ((A5 a b).1.num)],.b ((A5 a b).2)]) z0)) ?_
 refine sn<|sq<|rG cx [4] [] (tT 2 (B2p:AV.b ((A5 a b).2 ==(A5 a b).2)=AV.b true) (fT (B0g (eq43 (A5 a b).1 (A5 a b).1) (Eq.refl (A5 a b).1)) (oA 6 (.b (true)) z0)))<|sn<|rT ?_
 exact A8b (r:=.b (true)) (obl:=[]) (by kernel_rfl) trivial (B6.refl _)
theorem con8(a b:Facts)(ha:szB 1 a)(hb:szB 1 b):Con Tryz.prog 8 [.agg (c29 a),.agg (c29 b)] (.b true) :=
 by
 refine sC A8 [.tmp 4] 94 Tryz.func8 ?_
 intro e0 cx
 refine sq<|rG cx [2,3] [2,3] z0<|sn<|sq<|sq<|rG cx [2,3,14] [2,3] (fT (B5s ) (oA 0 (.b (true)) z0))<|sn<|O0 (by kernel_rfl) (by kernel_rfl)<|sK<|sn<|sq<|rG cx [2,3,6] [2,3] (fT (A9v (a) (b) (by exact F7 ha (by decide)) (by exact F7 hb (by decide))) (oA 2 (.tup [.agg [.sl (List.map c45 (A3 a b).1.adds),.sl (List.map c3 (A3 a b).1.gone.vec),.sl (List.map B5 (A3 a b).1.gone.cloud),.sl (List.map c81 (A3 a b).1.recs)],.i .i64 ((A3 a b).2)]) z0)) ?_
 refine sn<|sq<|rG cx [2,3,6,7,8] [2,3,7] (fT (Bp6 (a) (b) (by exact ha.1) (by exact hb.1)) (oA 2 (.tup [.agg [.i .i64 ((A5 a b).1.rep),.i .i64 ((A5 a b).1.num)],.b ((A5 a b).2)]) z0)) ?_
 refine sn<|sq<|sq<|B1 (σ':=⟨[(2,.ptr (2) (0) (0) (0)),(3,.ptr (3) (0) (0) (0)),(6,.i .i64 ((A3 a b).2)),(7,.ptr (7) (0) (0) (0)),(8,.b ((A5 a b).2)),(34,.b (decide (¬D4 a=0∨¬D4 b=0)))],[(2,⟨0,29,.var [.sl (List.map c45 a.adds),.sl (List.map c3 a.gone.vec),.sl (List.map B5 a.gone.cloud),.sl (List.map c81 a.recs)]⟩),(3,⟨0,29,.var [.sl (List.map c45 b.adds),.sl (List.map c3 b.gone.vec),.sl (List.map B5 b.gone.cloud),.sl (List.map c81 b.recs)]⟩),(7,⟨0,43,.var [.i .i64 ((A5 a b).1.rep),.i .i64 ((A5 a b).1.num)]⟩)]⟩) ?_ ?_
 refine A4 (¬D4 a=0) (fun h1=>?_) (fun h1=>?_)
 refine rG cx [2,3,6,7,8,34] [2,3,7] (fT (A42 (a) (by exact ha.1)) (tT 2 (D0 h1:AV.b (D4 a !=0)=AV.b true) (tD 7 true (¬D4 a=0∨¬D4 b=0) (by simp only [eq_false h1,tsl]) (oA 1 (.i .i64 (D4 a)) z0)))) ?_
 exact⟨rfl,by kernel_rfl⟩
 refine rG cx [2,3,6,7,8,34] [2,3,7] (fT (A42 (a) (by exact ha.1)) (tN 2 (D4 a) (0:Int) (tT 3 (A0 h1) (fT (A42 (b) (by exact hb.1)) (tN 6 (D4 b) (0:Int) (tT 7 (by first | (simp only [eq_false h1,tsl];done) | simp_all:AV.b (decide ¬D4 b=0)=AV.b (decide (¬D4 a=0∨¬D4 b=0))) (oA 1 (.i .i64 (D4 a)) (oA 5 (.i .i64 (D4 b)) z0)))))))) ?_
 exact⟨rfl,by kernel_rfl⟩
 refine sn<|dC (¬D4 a=0∨¬D4 b=0) (fun h2=>?_) fun h2=>?_
 refine sq<|B1 (σ':=⟨[(4,.b (decide ((A3 a b).2=1∧¬(A5 a b).2=true∧(A5 a b).1.rep=0∧(A5 a b).1.num=0)))],[]⟩) ?_ ?_
 refine A4 ((A3 a b).2=1) (fun h_4=>?_) (fun h_4=>?_)
 refine A4 (¬(A5 a b).2=true) (fun h_5=>?_) (fun h_5=>?_)
 refine A4 ((A5 a b).1.rep=0) (fun h_6=>?_) (fun h_6=>?_)
 refine rG cx [4] [] (tT 1 (A7 h_4) (tT 3 (K1 h_5:AV.b (A5 a b).2=AV.b false) (tT 9 (A7 h_6) (tB 14 ((A5 a b).1.num=0) (tD 16 (decide ((A5 a b).1.num=0)) ((A3 a b).2=1∧¬(A5 a b).2=true∧(A5 a b).1.rep=0∧(A5 a b).1.num=0) (by simp only [eq_true h_4,eq_false h_5,eq_true h_6,tsl]) z0))))) ?_
 exact⟨rfl,by kernel_rfl⟩
 refine rG cx [4] [] (tT 1 (A7 h_4) (tT 3 (K1 h_5:AV.b (A5 a b).2=AV.b false) (tT 9 (A0 h_6) (tD 16 false ((A3 a b).2=1∧¬(A5 a b).2=true∧(A5 a b).1.rep=0∧(A5 a b).1.num=0) (by simp only [eq_true h_4,eq_false h_5,eq_false h_6,tsl]) z0)))) ?_
 exact⟨rfl,by kernel_rfl⟩
 refine rG cx [4] [] (tT 1 (A7 h_4) (tO 4 ((A5 a b).2) (tT 5 (A0 h_5) (tT 16 (by first | (simp only [eq_true h_4,eq_false h_5,tsl];done) | simp_all:AV.b false=AV.b (decide ((A3 a b).2=1∧¬(A5 a b).2=true∧(A5 a b).1.rep=0∧(A5 a b).1.num=0))) z0)))) ?_
 exact⟨rfl,by kernel_rfl⟩
 refine rG cx [4] [] (tT 1 (A0 h_4) (tD 16 false ((A3 a b).2=1∧¬(A5 a b).2=true∧(A5 a b).1.rep=0∧(A5 a b).1.num=0) (by simp only [eq_false h_4,tsl]) z0)) ?_
 exact⟨rfl,by kernel_rfl⟩
 refine sn<|rT<|nR<|qR (.b (decide ((A3 a b).2=1∧¬(A5 a b).2=true∧(A5 a b).1.rep=0∧(A5 a b).1.num=0))) (.eq (by rw[R5 (U7 h2),A2x (U7 h2)];rfl))
 refine sK<|sn<|sq<|sq<|B1 (σ':=⟨[(2,.ptr (2) (0) (0) (0)),(3,.ptr (3) (0) (0) (0)),(7,.ptr (7) (0) (0) (0)),(8,.b ((A5 a b).2)),(60,.b (decide (¬(A5 a b).2=decide ((A3 a b).2=10)∨¬(A5 a b).2=decide ¬(A3 a b).2=0)))],[(2,⟨0,29,.var [.sl (List.map c45 a.adds),.sl (List.map c3 a.gone.vec),.sl (List.map B5 a.gone.cloud),.sl (List.map c81 a.recs)]⟩),(3,⟨0,29,.var [.sl (List.map c45 b.adds),.sl (List.map c3 b.gone.vec),.sl (List.map B5 b.gone.cloud),.sl (List.map c81 b.recs)]⟩),(7,⟨0,43,.var [.i .i64 ((A5 a b).1.rep),.i .i64 ((A5 a b).1.num)]⟩)]⟩) ?_ ?_
 refine A4 (¬(A5 a b).2=decide ((A3 a b).2=10)) (fun h_8=>?_) (fun h_8=>?_)
 refine rG cx [2,3,7,8,60] [2,3,7] (tB 2 ((A3 a b).2=10) (tT 3 (B2q h_8:(AV.b !(A5 a b).2 == decide ((A3 a b).2=10))=AV.b true) (tD 9 true (¬(A5 a b).2=decide ((A3 a b).2=10)∨¬(A5 a b).2=decide ¬(A3 a b).2=0) (by simp only [eq_false h_8,tsl]) z0))) ?_
 exact⟨rfl,by kernel_rfl⟩
 refine rG cx [2,3,7,8,60] [2,3,7] (tB 2 ((A3 a b).2=10) (tT 3 (As5:(AV.b !(A5 a b).2 == decide ((A3 a b).2=10))=AV.b (decide ¬(A5 a b).2=decide ((A3 a b).2=10))) (tT 4 (A0 h_8) (tN 7 ((A3 a b).2) (0:Int) (tT 8 (As5:(AV.b !(A5 a b).2 == decide ¬(A3 a b).2=0)=AV.b (decide ¬(A5 a b).2=decide ¬(A3 a b).2=0)) (tT 9 (by first | (simp only [eq_false h_8,tsl];done) | simp_all:AV.b (decide ¬(A5 a b).2=decide ¬(A3 a b).2=0)=AV.b (decide (¬(A5 a b).2=decide ((A3 a b).2=10)∨¬(A5 a b).2=decide ¬(A3 a b).2=0))) z0)))))) ?_
 exact⟨rfl,by kernel_rfl⟩
 refine sn<|dC (¬(A5 a b).2=decide ((A3 a b).2=10)∨¬(A5 a b).2=decide ¬(A3 a b).2=0) (fun h9=>?_) fun h9=>?_
 refine sq<|rG cx [4] [] z0<|sn<|rT<|nR<|qR (.b (false)) (.eq ?g8);rotate_left
 refine sK<|sn<|sq<|sq<|rG cx [2,3,7,62] [2,3,7] (tO 1 ((A5 a b).2) z0)<|sn<|dC (¬(A5 a b).2=true) (fun h10=>?_) fun h10=>?_
 refine sq<|B1 (σ':=⟨[(4,.b (decide ((A5 a b).1.rep=0∧(A5 a b).1.num=0)))],[]⟩) ?_ ?_
 refine A4 ((A5 a b).1.rep=0) (fun h_12=>?_) (fun h_12=>?_)
 refine rG cx [4] [] (tT 2 (A7 h_12) (tB 6 ((A5 a b).1.num=0) (tD 8 (decide ((A5 a b).1.num=0)) ((A5 a b).1.rep=0∧(A5 a b).1.num=0) (by simp only [eq_true h_12,tsl]) z0))) ?_
 exact⟨rfl,by kernel_rfl⟩
 refine rG cx [4] [] (tT 2 (A0 h_12) (tD 8 false ((A5 a b).1.rep=0∧(A5 a b).1.num=0) (by simp only [eq_false h_12,tsl]) z0)) ?_
 exact⟨rfl,by kernel_rfl⟩
 refine sn<|rT<|nR<|qR (.b (decide ((A5 a b).1.rep=0∧(A5 a b).1.num=0))) (.eq ?g9);rotate_left
 refine sK<|sn<|sq<|rG cx [3,7,9,10] [3,7,9] (fT (Bm0 (a.adds) ((A5 a b).1)) (oA 3 (.tup [.agg [.i .i64 ((B7 a.adds (A5 a b).1).1.dot.rep),.i .i64 ((B7 a.adds (A5 a b).1).1.dot.num),.s ((B7 a.adds (A5 a b).1).1.sku),.i .i64 ((B7 a.adds (A5 a b).1).1.qty)],.b ((B7 a.adds (A5 a b).1).2)]) z0))<|sn<|sq<|rG cx [9,10,11,12] [9,11] (fT (Bm0 (b.adds) ((A5 a b).1)) (oA 3 (.tup [.agg [.i .i64 ((B7 b.adds (A5 a b).1).1.dot.rep),.i .i64 ((B7 b.adds (A5 a b).1).1.dot.num),.s ((B7 b.adds (A5 a b).1).1.sku),.i .i64 ((B7 b.adds (A5 a b).1).1.qty)],.b ((B7 b.adds (A5 a b).1).2)]) z0))<|sn<|sq<|B1 (σ':=⟨[(4,.b (decide ((B7 a.adds (A5 a b).1).2=true∧(B7 b.adds (A5 a b).1).2=true∧¬(B7 a.adds (A5 a b).1).1=(B7 b.adds (A5 a b).1).1)))],[]⟩) ?_ ?_
 refine A4 ((B7 a.adds (A5 a b).1).2=true) (fun h_14=>?_) (fun h_14=>?_)
 refine A4 ((B7 b.adds (A5 a b).1).2=true) (fun h_15=>?_) (fun h_15=>?_)
 refine rG cx [4] [] (tT 0 (X4 h_14) (tT 2 (X4 h_15) (fT (M5 (Bg3 (B7 a.adds (A5 a b).1).1 (B7 b.adds (A5 a b).1).1)) (tD 9 (decide ¬(B7 a.adds (A5 a b).1).1=(B7 b.adds (A5 a b).1).1) ((B7 a.adds (A5 a b).1).2=true∧(B7 b.adds (A5 a b).1).2=true∧¬(B7 a.adds (A5 a b).1).1=(B7 b.adds (A5 a b).1).1) (by simp only [eq_true h_14,eq_true h_15,tsl]) (oA 7 (.b (decide ¬(B7 a.adds (A5 a b).1).1=(B7 b.adds (A5 a b).1).1)) z0))))) ?_
 exact⟨rfl,by kernel_rfl⟩
 refine rG cx [4] [] (tT 0 (X4 h_14) (tT 2 (K1 h_15:AV.b (B7 b.adds (A5 a b).1).2=AV.b false) (tD 9 false ((B7 a.adds (A5 a b).1).2=true∧(B7 b.adds (A5 a b).1).2=true∧¬(B7 a.adds (A5 a b).1).1=(B7 b.adds (A5 a b).1).1) (by simp only [eq_true h_14,eq_false h_15,tsl]) z0))) ?_
 exact⟨rfl,by kernel_rfl⟩
 refine rG cx [4] [] (tT 0 (K1 h_14:AV.b (B7 a.adds (A5 a b).1).2=AV.b false) (tD 9 false ((B7 a.adds (A5 a b).1).2=true∧(B7 b.adds (A5 a b).1).2=true∧¬(B7 a.adds (A5 a b).1).1=(B7 b.adds (A5 a b).1).1) (by simp only [eq_false h_14,tsl]) z0)) ?_
 exact⟨rfl,by kernel_rfl⟩
 refine sn<|rT<|qR (.b (decide ((B7 a.adds (A5 a b).1).2=true∧(B7 b.adds (A5 a b).1).2=true∧¬(B7 a.adds (A5 a b).1).1=(B7 b.adds (A5 a b).1).1))) (.eq ?g10);rotate_left
 case g8 =>
  have hb':=I7 h2
  by_cases c:A2y a.adds b.adds
  ·have e1:(A5 a b).2=false:=Bool.eq_false_iff.2 fun m=>(Z0 hb').1 m c
   rw[(I8 ⟨(H5.1 hb').1,(H5.1 hb').2,c⟩).1,e1]at h9
   rcases h9 with h9 | h9 <;> exact absurd rfl h9
  ·have e1:(A5 a b).2=true:=(Z0 hb').2 c
   rw[B9g hb' c,e1]at h9
   rcases h9 with h9 | h9 <;> exact absurd rfl h9
 case g9 =>
  have hb':=I7 h2
  have e:A5 a b=(⟨0,0⟩,false):=by
   unfold A5 at h10 ⊢
   rw[if_pos hb']at h10 ⊢
   split at h10
   ·exact absurd rfl h10
   ·rfl
  rw[e]
  rfl
 case g10 =>
  have hb':=I7 h2
  have h10:=Classical.not_not.1 h10
  obtain⟨e,he,hc,hd⟩:∃ e∈a.adds,Aj6 b e=true∧(A5 a b).1=e.dot:=by
   unfold A5 at h10 ⊢
   rw[if_pos hb']at h10 ⊢
   split at h10
   ·rename_i e he
    exact⟨e,List.mem_of_find?_eq_some he,List.find?_some he,rfl⟩
   ·cases h10
  obtain⟨c1,c2⟩:=U6.1 hc
  rw[hd,B5p (A1o.1 (H5.1 hb').1).1 he,c1]
  exact congrArg AV.b (decide_eq_true ⟨rfl,rfl,fun h9=>c2 h9.symm⟩)
end Go.Proofs.YtaiepnaokhpmcaaGreat
namespace Go.Proofs.YtaiepnaokhpmcaaGreat
open Go.E
set_option maxRecDepth 100000
set_option maxHeartbeats 4000000
theorem A6i{a b c:Facts}(h:agF a b)(h1:agF a c)(h2:agF b c):agF (U5 a b) c :=
 ⟨(I8 h).2.1,h1.2.1,fun x hx y hy hd=>(((I8 h).2.2.1 x).1 hx).elim (fun k=>h1.2.2 x k y hy hd) (fun k=>h2.2.2 x k y hy hd)⟩
theorem Aj0{a b:Facts}(h:agF a b):U5 a b=U5 b a:=by
 obtain⟨_,o1,p1,q1,r1⟩:=I8 h
 obtain⟨_,o2,p2,q2,r2⟩:=I8 h.symm
 exact Bp8 o1 o2 (fun e=>by rw[p1,p2,or_comm]) (fun d=>by rw[q1,q2,Bool.or_comm]) (fun r=>by rw[r1,r2,or_comm])
theorem A3l{a b c:Facts}(hab:agF a b)(hbc:agF b c)(hac:agF a c):U5 (U5 a b) c=U5 a (U5 b c):=by
 obtain⟨_,o1,p1,q1,r1⟩:=I8 hab
 obtain⟨_,o2,p2,q2,r2⟩:=I8 hbc
 obtain⟨_,o3,p3,q3,r3⟩:=I8 (A6i hab hac hbc)
 obtain⟨_,o4,p4,q4,r4⟩:=I8 (A6i hbc hab.symm hac.symm).symm
 exact Bp8 o3 o4 (fun e=>by rw[p3,p4,p1,p2,or_assoc]) (fun d=>by rw[q3,q4,q1,q2,Bool.or_assoc]) (fun r=>by rw[r3,r4,r1,r2,or_assoc])
theorem con5(a b c:Facts)(ha:szB 1 a)(hb:szB 1 b)(hc:szB 1 c):Con Tryz.prog 5 [.agg (c29 a),.agg (c29 b),.agg (c29 c)] (.b true) :=
 by
 have W1:¬(¬D8 a b=true∨¬D8 b c=true∨¬D8 a c=true)→agF a b:=fun h=>A9y.1 (Classical.byContradiction fun k=>h (.inl k))
 have W2:¬(¬D8 a b=true∨¬D8 b c=true∨¬D8 a c=true)→agF b c:=fun h=>A9y.1 (Classical.byContradiction fun k=>h (.inr (.inl k)))
 have W3:¬(¬D8 a b=true∨¬D8 b c=true∨¬D8 a c=true)→agF a c:=fun h=>A9y.1 (Classical.byContradiction fun k=>h (.inr (.inr k)))
 have E1:∀ h:¬(¬D8 a b=true∨¬D8 b c=true∨¬D8 a c=true),A3 (A3 a b).1 c=(U5 (U5 a b) c,0):=fun h=>by rw[(I8 (W1 h)).1];exact(I8 (A6i (W1 h) (W3 h) (W2 h))).1
 have E2:∀ h:¬(¬D8 a b=true∨¬D8 b c=true∨¬D8 a c=true),A3 a (A3 b c).1=(U5 (U5 a b) c,0):=fun h=>by
  rw[(I8 (W2 h)).1,A3l (W1 h) (W2 h) (W3 h)];exact(I8 (A6i (W2 h) (W1 h).symm (W3 h).symm).symm).1
 have E3:∀ h:¬(¬D8 a b=true∨¬D8 b c=true∨¬D8 a c=true),A3 (A3 c a).1 b=(U5 (U5 a b) c,0):=fun h=>by
  rw[(I8 (W3 h).symm).1,A3l (W1 h) (W2 h) (W3 h),Aj0 (W2 h)]
  have g:=A6i (W3 h).symm (W2 h).symm (W1 h)
  show A3 (U5 c a) b=_
  rw[(I8 g).1,Aj0 (W3 h).symm,A3l (W3 h) (W2 h).symm (W1 h)]
 refine sC A8 [.tmp 6] 103 Tryz.func5 ?_
 intro e0 cx
 refine sq<|rG cx [3,4,5] [3,4,5] z0<|sn<|sq<|sq<|rG cx [3,4,5,20] [3,4,5] (fT (B5s ) (oA 0 (.b (true)) z0))<|sn<|O0 (by kernel_rfl) (by kernel_rfl)<|sK<|sn<|sq<|sq<|B1 (σ':=⟨[(3,.ptr (3) (0) (0) (0)),(4,.ptr (4) (0) (0) (0)),(5,.ptr (5) (0) (0) (0)),(36,.b (decide (¬D8 a b=true∨¬D8 b c=true∨¬D8 a c=true)))],[(3,⟨0,29,.var [.sl (List.map c45 a.adds),.sl (List.map c3 a.gone.vec),.sl (List.map B5 a.gone.cloud),.sl (List.map c81 a.recs)]⟩),(4,⟨0,29,.var [.sl (List.map c45 b.adds),.sl (List.map c3 b.gone.vec),.sl (List.map B5 b.gone.cloud),.sl (List.map c81 b.recs)]⟩),(5,⟨0,29,.var [.sl (List.map c45 c.adds),.sl (List.map c3 c.gone.vec),.sl (List.map B5 c.gone.cloud),.sl (List.map c81 c.recs)]⟩)]⟩) ?_ ?_
 refine A4 (¬D8 a b=true) (fun h1=>?_) (fun h1=>?_)
 refine rg (A:=(AV.b (D8 a b)=AV.b false)∧_∧(AV.b true=AV.b (decide (¬D8 a b=true∨¬D8 b c=true∨¬D8 a c=true)))) cx [(2,{ val:=some (.b (D8 a b)),tell:=some (.b (false)) }),(15,{ tell:=some (.b (decide (¬D8 a b=true∨¬D8 b c=true∨¬D8 a c=true))) })] [3,4,5,36] [3,4,5] ⟨(K1 h1),(B1r (a) (b) (by exact ha.1) (by exact hb.1)),(by simp only [eq_false h1,tsl])⟩ ?_
 exact⟨rfl,by kernel_rfl⟩
 refine A4 (¬D8 b c=true) (fun h2=>?_) (fun h2=>?_)
 refine rg (A:=_∧((AV.b !D8 a b)=AV.b (decide ¬D8 a b=true))∧_∧(AV.b (D8 b c)=AV.b false)∧_∧(AV.b true=AV.b (decide (¬D8 a b=true∨¬D8 b c=true∨¬D8 a c=true)))) cx [(2,{ val:=some (.b (D8 a b)) }),(3,{ tell:=some (.b (decide ¬D8 a b=true)) }),(4,{ tell:=some (.b (false)) }),(7,{ val:=some (.b (D8 b c)),tell:=some (.b (false)) }),(15,{ tell:=some (.b (decide (¬D8 a b=true∨¬D8 b c=true∨¬D8 a c=true))) })] [3,4,5,36] [3,4,5] ⟨(B1r (a) (b) (by exact ha.1) (by exact hb.1)),(D3),(A0 h1),(K1 h2),(B1r (b) (c) (by exact hb.1) (by exact hc.1)),(by first | (simp only [eq_false h1,eq_false h2,tsl];done) | simp_all)⟩ ?_
 exact⟨rfl,by kernel_rfl⟩
 refine rG cx [3,4,5,36] [3,4,5] (fT (B1r (a) (b) (by exact ha.1) (by exact hb.1)) (tT 3 (D3:(AV.b !D8 a b)=AV.b (decide ¬D8 a b=true)) (tT 4 (A0 h1) (fT (B1r (b) (c) (by exact hb.1) (by exact hc.1)) (tT 8 (D3:(AV.b !D8 b c)=AV.b (decide ¬D8 b c=true)) (tT 9 (A0 h2) (fT (B1r (a) (c) (by exact ha.1) (by exact hc.1)) (tT 14 (D3:(AV.b !D8 a c)=AV.b (decide ¬D8 a c=true)) (tT 15 (by first | (simp only [eq_false h1,eq_false h2,tsl];done) | simp_all:AV.b (decide ¬D8 a c=true)=AV.b (decide (¬D8 a b=true∨¬D8 b c=true∨¬D8 a c=true))) (oA 2 (.b (D8 a b)) (oA 7 (.b (D8 b c)) (oA 13 (.b (D8 a c)) z0)))))))))))) ?_
 exact⟨rfl,by kernel_rfl⟩
 refine sn<|dC (¬D8 a b=true∨¬D8 b c=true∨¬D8 a c=true) (fun h3=>?_) fun h3=>?_
 refine sq<|rG cx [6] [] z0<|sn<|rT<|nR ?_
 exact A8b (r:=.b (true)) (obl:=[]) (by kernel_rfl) trivial (B6.refl _)
 refine sK<|sn<|sq<|rG cx [3,4,5,7,8] [3,4,5,7] (fT (A9v (a) (b) (by exact F7 ha (by decide)) (by exact F7 hb (by decide))) (oA 2 (.tup [.agg [.sl (List.map c45 (A3 a b).1.adds),.sl (List.map c3 (A3 a b).1.gone.vec),.sl (List.map B5 (A3 a b).1.gone.cloud),.sl (List.map c81 (A3 a b).1.recs)],.i .i64 ((A3 a b).2)]) z0)) ?_
 refine sn<|sq<|rG cx [3,4,5,7,8,9,10] [3,4,5,7,9] (fT (A9v (b) (c) (by exact F7 hb (by decide)) (by exact F7 hc (by decide))) (oA 2 (.tup [.agg [.sl (List.map c45 (A3 b c).1.adds),.sl (List.map c3 (A3 b c).1.gone.vec),.sl (List.map B5 (A3 b c).1.gone.cloud),.sl (List.map c81 (A3 b c).1.recs)],.i .i64 ((A3 b c).2)]) z0)) ?_
 refine sn<|sq<|rG cx [3,4,5,8,9,10,11,12] [3,4,5,9,11] (fT (A9v ((A3 a b).1) (c) (by exact F7 (M9 ha hb) (by decide)) (by exact F7 hc (by decide))) (oA 2 (.tup [.agg [.sl (List.map c45 (A3 (A3 a b).1 c).1.adds),.sl (List.map c3 (A3 (A3 a b).1 c).1.gone.vec),.sl (List.map B5 (A3 (A3 a b).1 c).1.gone.cloud),.sl (List.map c81 (A3 (A3 a b).1 c).1.recs)],.i .i64 ((A3 (A3 a b).1 c).2)]) z0)) ?_
 refine sn<|sq<|rG cx [3,4,5,8,10,11,12,13,14] [3,4,5,11,13] (fT (A9v (a) ((A3 b c).1) (by exact F7 ha (by decide)) (by exact F7 (M9 hb hc) (by decide))) (oA 2 (.tup [.agg [.sl (List.map c45 (A3 a (A3 b c).1).1.adds),.sl (List.map c3 (A3 a (A3 b c).1).1.gone.vec),.sl (List.map B5 (A3 a (A3 b c).1).1.gone.cloud),.sl (List.map c81 (A3 a (A3 b c).1).1.recs)],.i .i64 ((A3 a (A3 b c).1).2)]) z0)) ?_
 refine sn<|sq<|rG cx [4,8,10,11,12,13,14,15,16] [4,11,13,15] (fT (A9v (c) (a) (by exact F7 hc (by decide)) (by exact F7 ha (by decide))) (oA 2 (.tup [.agg [.sl (List.map c45 (A3 c a).1.adds),.sl (List.map c3 (A3 c a).1.gone.vec),.sl (List.map B5 (A3 c a).1.gone.cloud),.sl (List.map c81 (A3 c a).1.recs)],.i .i64 ((A3 c a).2)]) z0)) ?_
 refine sn<|sq<|rG cx [8,10,11,12,13,14,16,17,18] [11,13,17] (fT (A9v ((A3 c a).1) (b) (by exact F7 (M9 hc ha) (by decide)) (by exact F7 hb (by decide))) (oA 2 (.tup [.agg [.sl (List.map c45 (A3 (A3 c a).1 b).1.adds),.sl (List.map c3 (A3 (A3 c a).1 b).1.gone.vec),.sl (List.map B5 (A3 (A3 c a).1 b).1.gone.cloud),.sl (List.map c81 (A3 (A3 c a).1 b).1.recs)],.i .i64 ((A3 (A3 c a).1 b).2)]) z0)) ?_
 refine sn<|sq<|sq<|B1 (σ':=⟨[(11,.ptr (11) (0) (0) (0)),(13,.ptr (13) (0) (0) (0)),(17,.ptr (17) (0) (0) (0)),(94,.b (decide (¬(A3 a b).2=0∨¬(A3 b c).2=0∨¬(A3 (A3 a b).1 c).2=0∨¬(A3 a (A3 b c).1).2=0∨¬(A3 c a).2=0∨¬(A3 (A3 c a).1 b).2=0)))],[(11,⟨0,29,.var [.sl (List.map c45 (A3 (A3 a b).1 c).1.adds),.sl (List.map c3 (A3 (A3 a b).1 c).1.gone.vec),.sl (List.map B5 (A3 (A3 a b).1 c).1.gone.cloud),.sl (List.map c81 (A3 (A3 a b).1 c).1.recs)]⟩),(13,⟨0,29,.var [.sl (List.map c45 (A3 a (A3 b c).1).1.adds),.sl (List.map c3 (A3 a (A3 b c).1).1.gone.vec),.sl (List.map B5 (A3 a (A3 b c).1).1.gone.cloud),.sl (List.map c81 (A3 a (A3 b c).1).1.recs)]⟩),(17,⟨0,29,.var [.sl (List.map c45 (A3 (A3 c a).1 b).1.adds),.sl (List.map c3 (A3 (A3 c a).1 b).1.gone.vec),.sl (List.map B5 (A3 (A3 c a).1 b).1.gone.cloud),.sl (List.map c81 (A3 (A3 c a).1 b).1.recs)]⟩)]⟩) ?_ ?_
 refine A4 (¬(A3 a b).2=0) (fun h_5=>?_) (fun h_5=>?_)
 refine rG cx [11,13,17,94] [11,13,17] (tT 1 (D0 h_5:AV.b ((A3 a b).2 !=0)=AV.b true) (tD 21 true (¬(A3 a b).2=0∨¬(A3 b c).2=0∨¬(A3 (A3 a b).1 c).2=0∨¬(A3 a (A3 b c).1).2=0∨¬(A3 c a).2=0∨¬(A3 (A3 c a).1 b).2=0) (by simp only [eq_false h_5,tsl]) z0)) ?_
 exact⟨rfl,by kernel_rfl⟩
 refine A4 (¬(A3 b c).2=0) (fun h_6=>?_) (fun h_6=>?_)
 refine rG cx [11,13,17,94] [11,13,17] (tN 1 ((A3 a b).2) (0:Int) (tT 2 (A0 h_5) (tT 4 (D0 h_6:AV.b ((A3 b c).2 !=0)=AV.b true) (tT 21 (by first | (simp only [eq_false h_5,eq_false h_6,tsl];done) | simp_all:AV.b true=AV.b (decide (¬(A3 a b).2=0∨¬(A3 b c).2=0∨¬(A3 (A3 a b).1 c).2=0∨¬(A3 a (A3 b c).1).2=0∨¬(A3 c a).2=0∨¬(A3 (A3 c a).1 b).2=0))) z0)))) ?_
 exact⟨rfl,by kernel_rfl⟩
 refine A4 (¬(A3 (A3 a b).1 c).2=0) (fun h_7=>?_) (fun h_7=>?_)
 refine rG cx [11,13,17,94] [11,13,17] (tN 1 ((A3 a b).2) (0:Int) (tT 2 (A0 h_5) (tN 4 ((A3 b c).2) (0:Int) (tT 5 (A0 h_6) (tT 8 (D0 h_7:AV.b ((A3 (A3 a b).1 c).2 !=0)=AV.b true) (tT 21 (by first | (simp only [eq_false h_5,eq_false h_6,eq_false h_7,tsl];done) | simp_all:AV.b true=AV.b (decide (¬(A3 a b).2=0∨¬(A3 b c).2=0∨¬(A3 (A3 a b).1 c).2=0∨¬(A3 a (A3 b c).1).2=0∨¬(A3 c a).2=0∨¬(A3 (A3 c a).1 b).2=0))) z0)))))) ?_
 exact⟨rfl,by kernel_rfl⟩
 refine A4 (¬(A3 a (A3 b c).1).2=0) (fun h_8=>?_) (fun h_8=>?_)
 refine rG cx [11,13,17,94] [11,13,17] (tN 1 ((A3 a b).2) (0:Int) (tT 2 (A0 h_5) (tN 4 ((A3 b c).2) (0:Int) (tT 5 (A0 h_6) (tN 8 ((A3 (A3 a b).1 c).2) (0:Int) (tT 9 (A0 h_7) (tT 12 (D0 h_8:AV.b ((A3 a (A3 b c).1).2 !=0)=AV.b true) (tT 21 (by first | (simp only [eq_false h_5,eq_false h_6,eq_false h_7,eq_false h_8,tsl];done) | simp_all:AV.b true=AV.b (decide (¬(A3 a b).2=0∨¬(A3 b c).2=0∨¬(A3 (A3 a b).1 c).2=0∨¬(A3 a (A3 b c).1).2=0∨¬(A3 c a).2=0∨¬(A3 (A3 c a).1 b).2=0))) z0)))))))) ?_
 exact⟨rfl,by kernel_rfl⟩
 refine A4 (¬(A3 c a).2=0) (fun h_9=>?_) (fun h_9=>?_)
 refine rG cx [11,13,17,94] [11,13,17] (tN 1 ((A3 a b).2) (0:Int) (tT 2 (A0 h_5) (tN 4 ((A3 b c).2) (0:Int) (tT 5 (A0 h_6) (tN 8 ((A3 (A3 a b).1 c).2) (0:Int) (tT 9 (A0 h_7) (tN 12 ((A3 a (A3 b c).1).2) (0:Int) (tT 13 (A0 h_8) (tT 16 (D0 h_9:AV.b ((A3 c a).2 !=0)=AV.b true) (tT 21 (by first | (simp only [eq_false h_5,eq_false h_6,eq_false h_7,eq_false h_8,eq_false h_9,tsl];done) | simp_all:AV.b true=AV.b (decide (¬(A3 a b).2=0∨¬(A3 b c).2=0∨¬(A3 (A3 a b).1 c).2=0∨¬(A3 a (A3 b c).1).2=0∨¬(A3 c a).2=0∨¬(A3 (A3 c a).1 b).2=0))) z0)))))))))) ?_
 exact⟨rfl,by kernel_rfl⟩
 refine rG cx [11,13,17,94] [11,13,17] (tN 1 ((A3 a b).2) (0:Int) (tT 2 (A0 h_5) (tN 4 ((A3 b c).2) (0:Int) (tT 5 (A0 h_6) (tN 8 ((A3 (A3 a b).1 c).2) (0:Int) (tT 9 (A0 h_7) (tN 12 ((A3 a (A3 b c).1).2) (0:Int) (tT 13 (A0 h_8) (tN 16 ((A3 c a).2) (0:Int) (tT 17 (A0 h_9) (tN 20 ((A3 (A3 c a).1 b).2) (0:Int) (tT 21 (by first | (simp only [eq_false h_5,eq_false h_6,eq_false h_7,eq_false h_8,eq_false h_9,tsl];done) | simp_all:AV.b (decide ¬(A3 (A3 c a).1 b).2=0)=AV.b (decide (¬(A3 a b).2=0∨¬(A3 b c).2=0∨¬(A3 (A3 a b).1 c).2=0∨¬(A3 a (A3 b c).1).2=0∨¬(A3 c a).2=0∨¬(A3 (A3 c a).1 b).2=0))) z0)))))))))))) ?_
 exact⟨rfl,by kernel_rfl⟩
 refine sn<|dC (¬(A3 a b).2=0∨¬(A3 b c).2=0∨¬(A3 (A3 a b).1 c).2=0∨¬(A3 a (A3 b c).1).2=0∨¬(A3 c a).2=0∨¬(A3 (A3 c a).1 b).2=0) (fun h10=>?_) fun h10=>?_
 refine sq<|rG cx [6] [] z0<|sn<|rT<|nR<|qR (.b (false)) (.eq ?g24);rotate_left
 refine sK<|sn<|sq<|B1 (σ':=⟨[(6,.b (decide ((A3 (A3 a b).1 c).1=(A3 a (A3 b c).1).1∧(A3 (A3 a b).1 c).1=(A3 (A3 c a).1 b).1)))],[]⟩) ?_ ?_
 refine A4 ((A3 (A3 a b).1 c).1=(A3 a (A3 b c).1).1) (fun h12=>?_) (fun h12=>?_)
 refine rg (A:=_∧_∧_∧(AV.b (decide ((A3 (A3 a b).1 c).1=(A3 (A3 c a).1 b).1))=AV.b (decide ((A3 (A3 a b).1 c).1=(A3 a (A3 b c).1).1∧(A3 (A3 a b).1 c).1=(A3 (A3 c a).1 b).1)))) cx [(2,{ val:=some (.b (decide ((A3 (A3 a b).1 c).1=(A3 a (A3 b c).1).1))),tell:=some (.b (true)) }),(6,{ val:=some (.b (decide ((A3 (A3 a b).1 c).1=(A3 (A3 c a).1 b).1))) }),(8,{ tell:=some (.b (decide ((A3 (A3 a b).1 c).1=(A3 a (A3 b c).1).1∧(A3 (A3 a b).1 c).1=(A3 (A3 c a).1 b).1))) })] [6] [] ⟨(A7 h12),(B8k ((A3 (A3 a b).1 c).1) ((A3 a (A3 b c).1).1) (by exact(M9 (M9 ha hb) hc).1)),(B8k ((A3 (A3 a b).1 c).1) ((A3 (A3 c a).1 b).1) (by exact(M9 (M9 ha hb) hc).1)),(by simp only [eq_true h12,tsl])⟩ ?_
 exact⟨rfl,by kernel_rfl⟩
 refine rg (A:=_∧_∧(AV.b false=AV.b (decide ((A3 (A3 a b).1 c).1=(A3 a (A3 b c).1).1∧(A3 (A3 a b).1 c).1=(A3 (A3 c a).1 b).1)))) cx [(2,{ val:=some (.b (decide ((A3 (A3 a b).1 c).1=(A3 a (A3 b c).1).1))),tell:=some (.b (false)) }),(8,{ tell:=some (.b (decide ((A3 (A3 a b).1 c).1=(A3 a (A3 b c).1).1∧(A3 (A3 a b).1 c).1=(A3 (A3 c a).1 b).1))) })] [6] [] ⟨(A0 h12),(B8k ((A3 (A3 a b).1 c).1) ((A3 a (A3 b c).1).1) (by exact(M9 (M9 ha hb) hc).1)),(by simp only [eq_false h12,tsl])⟩ ?_
 exact⟨rfl,by kernel_rfl⟩
 refine sn<|rT<|qR (.b (decide ((A3 (A3 a b).1 c).1=(A3 a (A3 b c).1).1∧(A3 (A3 a b).1 c).1=(A3 (A3 c a).1 b).1))) (.eq (by exact congrArg AV.b (decide_eq_true ⟨by rw[E1 h3,E2 h3],by rw[E1 h3,E3 h3]⟩)))
 case g24 =>
  rw[E1 h3,E2 h3,E3 h3,(I8 (W1 h3)).1,(I8 (W2 h3)).1,(I8 (W3 h3).symm).1]at h10
  rcases h10 with h10 | h10 | h10 | h10 | h10 | h10 <;> exact absurd rfl h10
end Go.Proofs.YtaiepnaokhpmcaaGreat
namespace Go.E
open Go.RowKit Go.ChangeShapes Go.WideShapes Go.ChangeAt
def TyA(T:Tab)(L n t:Nat)(av:AV):Prop :=
 match look T t with
 | some ti=>if ti.isAgg then ∃ cs,av=.agg cs∧TyC T L n t cs else TyC T L n t [av]
 | none=>False
def B9m(T:Tab)(L n:Nat):List Nat→List AV→Prop
 | [],[]=>True
 | t :: ts,a :: aL=>TyA T L n t a∧B9m T L n ts aL
 | _,_=>False
section
variable {P : Program} {T : Tab} {H : Type} {enc : TypeId × Value → H} {W : World} {spare : Nat → Bool} {held : Bool}
theorem A6x(hT:TabOk P T){n t:Nat}{ti:TI}(hti:look T t=some ti)(hp:O4 T n t=true)(hg:ti.isAgg=false){r:Reach}{base:Nat}{v:Value}(hv:Value.okWide P W r base t v):v.oneCell'=true∨∃ x,v=x∧v.cells=#[v]:=by
 have hu:=(hT t ti hti).1
 unfold Value.okWide at hv
 rw[hu]at hv
 cases n with
 | zero=>simp [O4]at hp
 | succ n =>
  unfold O4 at hp
  rw[hti]at hp
  simp only at hp
  unfold TI.isAgg at hg
  cases hd:ti.desc with
  | bool=>rw[hd]at hv;simp only [Cell.okWide,hu,hd,Cell.ok]at hv;cases v <;> simp_all [Value.oneCell',Value.cells]
  | int k=>rw[hd]at hv;simp only [Cell.okWide,hu,hd,Cell.ok]at hv;cases v <;> simp_all [Value.oneCell',Value.cells]
  | string=>rw[hd]at hv;simp only [Cell.okWide,hu,hd,Cell.ok]at hv;cases v <;> simp_all [Value.oneCell',Value.cells]
  | slice e=>rw[hd]at hv;simp only [Cell.okWide,hu,hd,Cell.ok]at hv;cases v <;> simp_all [Value.oneCell',Value.cells]
  | struct fs=>rw[hd]at hg;simp at hg
  | array k e=>rw[hd]at hg;simp at hg
  | _=>rw[hd]at hp;first | exact absurd hp Bool.false_ne_true | cases hp
theorem B9n(hT:TabOk P T){n t:Nat}(hp:O4 T n t=true){r:Reach}{base:Nat}{v:Value}{d:DataW H}{ps:List MemPlace}(hv:Value.okWide P W r base t v)
  (hd:DataW.Trod enc P W 0 spare held t v d ps) (hw:∀ m∈d.weights P t,m≤reachBytes) {L:Nat} (hL:bulkD d≤L):∃ av,RelV0 (fun k=>k < W.heap.size) W av v∧TyA T L n t av:=by
 obtain⟨ti,hti⟩:=V2 hp
 obtain⟨fuel,hf⟩:=hd
 obtain⟨avs,hc,hty⟩:=B76 hT n t hp fuel _ _ _ hf hw L hL
 by_cases hg:ti.isAgg=true
 ·have hu:=(hT t ti hti).1
  have hv':=hv
  unfold Value.okWide at hv'
  rw[hu]at hv'
  have:∃ cs,v=.agg cs:=by
   unfold TI.isAgg at hg
   split at hg
   ·rename_i fs hd;rw[hd]at hv';obtain⟨cs,h,_⟩:=hv';exact⟨cs,h⟩
   ·rename_i k e hd;rw[hd]at hv';obtain⟨cs,h,_⟩:=hv';exact⟨cs,h⟩
   ·cases hg
  obtain⟨cs,rfl⟩:=this
  refine⟨.agg avs,?_,by unfold TyA;rw[hti];simp only [hg,if_true];exact⟨avs,rfl,hty⟩⟩
  have:=RelV0.agg (S:=fun k=>k < W.heap.size) (w:=W) avs cs.toList (by rw[hc.1];simp [Value.cells]) (fun u hu=>hc.2.1 u (by simpa [Value.cells]using hu)) (fun j a u ha hu=>hc.2.2 j a u ha (by simpa [Value.cells]using hu))
  simpa using this
 ·have hg':ti.isAgg=false:=by simpa using hg
  have h1:v.cells.toList=[v]:=by
   rcases A6x hT hti hp hg' hv with h | ⟨_,_,h⟩
   ·cases v <;> simp_all [Value.oneCell',Value.cells]
   ·rw[h]
  rw[h1]at hc
  obtain⟨c1,_,c3⟩:=hc
  match avs,c1,c3,hty with
  | [a],_,c3,hty=>exact⟨a,c3 0 a v rfl rfl,by unfold TyA;rw[hti];simp only [hg',Bool.false_eq_true,if_false];exact hty⟩
theorem Aj1(hT:TabOk P T){L n:Nat}{r:Reach}{base:Nat}:∀(ts:List Nat) (vs:List Value) (ds:List (DataW H)) (ps:List MemPlace),(∀ t∈ts,O4 T n t=true) →
  (∀(j:Nat) t v,ts[j]?=some t→vs[j]?=some v→Value.okWide P W r base t v)→DataW.TrodAll enc P W 0 spare held ts vs ds ps→(∀ m∈DataW.weightsEach P ts ds,m≤reachBytes)→bulkDs ds≤L →
  ∃ avs:List AV,avs.length=vs.length∧(∀(j:Nat) (a:AV) (u:Value),avs[j]?=some a→vs[j]?=some u→RelV0 (fun k=>k < W.heap.size) W a u)∧B9m T L n ts avs∧ds.length=ts.length
 | [],[],[],ps,_,_,_,_,_=>⟨[],rfl,fun j a u ha=>by simp at ha,trivial,rfl⟩
 | t :: ts,v :: vs,d :: ds,ps,hp,hv,hA,hw,hL=>by
  simp only [bulkDs]at hL
  obtain⟨p,q,h1,h2,_⟩:=hA
  obtain⟨a,e1,e2⟩:=B9n hT (hp t (by simp)) (hv 0 t v rfl rfl) h1 (fun m hm=>hw m (by simp only [DataW.weightsEach,List.mem_append];exact .inl hm)) (L:=L) (by omega)
  obtain⟨aL,f1,f2,f3,f4⟩:=Aj1 (L:=L) hT ts vs ds q (fun t ht=>hp t (List.mem_cons_of_mem _ ht)) (fun j t v ht hv'=>hv (j+1) t v (by simpa using ht) (by simpa using hv')) h2 (fun m hm=>hw m (by simp only [DataW.weightsEach,List.mem_append];exact .inr hm)) (by omega)
  refine⟨a :: aL,by simp [f1],fun j b u hb hu=>?_,⟨e2,f3⟩,by simp [f4]⟩
  cases j with
  | zero=>simp at hb hu;subst hb hu;exact e1
  | succ j=>exact f2 j b u (by simpa using hb) (by simpa using hu)
 | [],_ :: _,_,_,_,_,hA,_,_=>hA.elim
 | [],[],_ :: _,_,_,_,hA,_,_=>hA.elim
 | _ :: _,[],_,_,_,_,hA,_,_=>hA.elim
 | _ :: _,_ :: _,[],_,_,_,hA,_,_=>hA.elim
theorem A30(hl:laidOutB P=true){W':World}(hb:Below W.heap.size W W'):∀(ts:List Nat) (vs:List Value) (ds:List (DataW H)) (ps:List MemPlace),(∀ t∈ts,P.readableRec t=true∧t < P.types.size) →
  (∀ x∈ps,x.block < W.heap.size)→DataW.TrodAll enc P W 0 (fun _=>true) true ts vs ds ps→DataW.TrodAll enc P W' 0 (fun b=>decide (b < W.heap.size)) true ts vs ds ps
 | [],[],[],ps,_,_,h=>h
 | t :: ts,v :: vs,d :: ds,ps,hr,hlt,h=>by
  obtain⟨p,q,h1,h2,rfl⟩:=h
  exact⟨p,q,Below.trod hl (hr t (by simp)).1 (hr t (by simp)).2 h1 hb (fun x hx=>hlt x (List.mem_append_left _ hx)),
   A30 hl hb ts vs ds q (fun t ht=>hr t (List.mem_cons_of_mem _ ht)) (fun x hx=>hlt x (List.mem_append_right _ hx)) h2,rfl⟩
 | [],_ :: _,_,_,_,_,hA=>hA.elim
 | [],[],_ :: _,_,_,_,hA=>hA.elim
 | _ :: _,[],_,_,_,_,hA=>hA.elim
 | _ :: _,_ :: _,[],_,_,_,hA=>hA.elim
end
theorem B9o{T:Tab}{C:Checked}{f:FuncId}{fn:Func}{s:ChangeSpec}{H:Type}{enc:TypeId×Value→H}(ts:List Nat)(tb L n:Nat)
  (hT:TabOk C.prog T) (hl:laidOutB C.prog=true)
  (hts:fn.params=ts.toArray) (htb:fn.resultTypes=#[tb]) (hub:C.prog.underlying tb=some .bool) (hpl:ts.all (fun t=>O4 T n t && C.prog.readableRec t && Nat.blt t C.prog.types.size)=true)
  (hvars:s.vars=[]) (hspec:∀ ds:List (DataW H),ds.length=ts.length→s.fn H (ds++[])={ results:=[.lit (.bool true)],args:=ds })
  (hcon:∀ avs,B9m T L n ts avs→Con C.prog f avs (.b true)) {W:World} {base:Nat} {args:Array Value} {ds gs:List (DataW H)} {before:List MemPlace} {us:List Nat}
  (hval:∀(j:Nat) t v,fn.params[j]?=some t→args[j]?=some v→Value.okWide C.prog W .any base t v) (hW:DataW.Whole enc C.prog fn.params.toList s.vars false W args.toList ds gs before)
  (hsz:(DataW.weightsEach C.prog (fn.params.toList++us) (ds++gs)).all (·≤reachBytes)=true) (hbk:bulkDs (ds++gs)≤L) :
  Calls C.prog f args W fun e W'=>∃ v,e=.returned v∧s.post enc C.prog fn false true false false W args v W':=by
 have hW':=hW
 obtain⟨p,q,hA,hV,rfl,_,_⟩:=hW
 rw[hvars]at hV
 obtain⟨rfl,rfl⟩:=trodVars_none hV
 rw[List.append_nil]at hW' hbk
 have hpars:fn.params.toList=ts:=by rw[hts]
 have hA':DataW.TrodAll enc C.prog W 0 (fun _=>true) true ts args.toList ds p:=by rw[← hpars];exact hA
 have hpl':∀ t∈ts,O4 T n t=true∧C.prog.readableRec t=true∧t < C.prog.types.size:=by
  intro t ht
  have:=List.all_eq_true.1 hpl t ht
  simp only [Bool.and_eq_true]at this
  exact⟨this.1.1,this.1.2,by simpa using this.2⟩
 have hw:∀ m∈DataW.weightsEach C.prog ts ds,m≤reachBytes:=by
  intro m hm
  have hsz':=hsz
  rw[List.append_nil,hpars]at hsz'
  have hsub:∀(ts us:List Nat) (ds:List (DataW H)),∀ m∈DataW.weightsEach C.prog ts ds,m∈DataW.weightsEach C.prog (ts++us) ds:=by
   intro ts us ds
   induction ts generalizing ds with
   | nil=>intro m hm;cases ds <;> simp [DataW.weightsEach]at hm
   | cons t ts ih =>
    intro m hm
    cases ds with
    | nil=>simp [DataW.weightsEach]at hm
    | cons d ds =>
     simp only [DataW.weightsEach,List.cons_append,List.mem_append]at hm ⊢
     rcases hm with hm | hm
     ·exact .inl hm
     ·exact .inr (ih ds m hm)
  have:=List.all_eq_true.1 hsz' m (hsub ts _ ds m hm)
  simpa using this
 obtain⟨avs,h1,h2,h3,h4⟩:=Aj1 hT ts args.toList ds p (fun t ht=>(hpl' t ht).1) (fun j t v ht hv=>hval j t v (by rw[hts];simpa using ht) (by simpa using hv)) hA' hw hbk
 have hlt:∀ x∈p,x.block < W.heap.size:=fun x hx=>hW'.lt x hx
 have hsp:=hspec ds h4
 have:=(hcon avs h3).2 W (fun k=>k < W.heap.size) args.toList (fun _ h=>h) (by rw[h1]) h2
 rw[Array.toArray_toList]at this
 refine this.mono fun e W' ⟨v,he,hr,hb⟩=>?_
 cases hr with
 | b =>
  refine⟨_,he,ds,[],p,[],p,[],hW',?_,?_,?_,hb.frame _,fun h=>by cases h⟩
  ·rw[hsp,htb]
   exact trodAll_mk1 (shut_bool hub true)
  ·rw[hsp,hpars]
   exact A30 hl hb ts args.toList ds p (fun t ht=>(hpl' t ht).2) hlt hA'
  ·rw[hsp,hvars]
   rfl
theorem N0{T:Tab}{C:Checked}{os:Os}{f:FuncId}{fn:Func}{s:ChangeSpec}{u:OpenSpec}{k:(H:Type)→List (DataW H)→Bool}{conds:List PathCond}{H:Type}{enc:TypeId×Value→H}(F:Stop.Interp)(ts:List Nat)(tb L n:Nat)
  (hu:u={ OpenSpec.ofChange s with cond:=some k }) (hk:∀ ds:List (DataW H),k H ds=true→bulkDs ds≤L)
  (hT:TabOk C.prog T) (hl:laidOutB C.prog=true) (own:ownKnob C.prog.godebug=none) (started:os.Started) (noInit:C.prog.inits.idxOf? f=none) (hfn:C.prog.funcs[f]?=some fn)
  (hts:fn.params=ts.toArray) (htb:fn.resultTypes=#[tb]) (hub:C.prog.underlying tb=some .bool) (hpl:ts.all (fun t=>O4 T n t && C.prog.readableRec t && Nat.blt t C.prog.types.size)=true)
  (hvars:s.vars=[]) (hspec:∀ ds:List (DataW H),ds.length=ts.length→s.fn H (ds++[])={ results:=[.lit (.bool true)],args:=ds })
  (witness:∃(w:World) (tape:Tape) (i:Input),w.os=os∧(w.forCall tape i).Shaped C.prog∧i.vars=[]∧Input.okWide C.prog (w.forCall tape i) .any w.heap.size f i ∧
   u.pre6 enc C.prog fn conds false (w.forCall tape i).memory i.args∧({}:Assume).holds C.prog (lone (Frame.enter C.prog f i.args .normal) [] (w.forCall tape i)))
  (hcon:∀ avs,B9m T L n ts avs→Con C.prog f avs (.b true)) :
  ReturnsInHanded {} C os f .any (u.pre6 enc C.prog fn conds false) ((u.at F).post enc C.prog fn false true false false):=by
 subst hu
 refine returnsInHanded_of_cond_sized (k:=k) rfl own started noInit hfn witness ?_
 intro W base args ds gs before hval hW _ hkk hsz _
 exact B9o ts tb L n hT hl hts htb hub hpl hvars hspec hcon hval hW hsz (hk _ hkk)
theorem W5{α:Type}{g:α→List AV}{Q:α→Prop}{C:List AV→Prop}(h:∀ r,C r→∃ x,r=g x∧Q x):∀(rows:List (List AV)),(∀ r∈rows,C r)→∃ xs:List α,rows=xs.map g∧∀ x∈xs,Q x
 | [],_=>⟨[],rfl,fun x hx=>by simp at hx⟩
 | r :: rows,hr=>by
  obtain⟨x,h1,h2⟩:=h r (hr r (by simp))
  obtain⟨xs,h3,h4⟩:=W5 h rows fun q hq=>hr q (List.mem_cons_of_mem _ hq)
  refine⟨x :: xs,by rw[h1,h3];rfl,fun y hy=>?_⟩
  rcases List.mem_cons.1 hy with rfl | hy
  ·exact h2
  ·exact h4 y hy
end Go.E
namespace Go.Proofs.YtaiepnaokhpmcaaGreat
open Go.E
set_option maxRecDepth 100000
set_option maxHeartbeats 4000000
open Go.ChangeShapes Go.WideShapes Go.ChangeAt Go.RowKit Go
theorem Tryz.own:Go.ownKnob Tryz.prog.godebug=none:=by kernel_rfl
theorem Tryz.laidOut:laidOutB Tryz.prog=true:=by kernel_rfl
def inr(n:Int):Prop:=-9223372036854775808≤n∧n≤9223372036854775807
theorem ty3{L n:Nat}{cs:List AV}(h:TyC tab L (n+1) 3 cs):∃ x,cs=c3 x∧inr x:=by
 obtain⟨x,rfl,h1,h2⟩:=h
 exact⟨x,rfl,h1,h2⟩
theorem ty43{L n:Nat}{cs:List AV}(h:TyC tab L (n+2) 43 cs):∃ d:Dot,cs=c43 d∧inr d.rep∧inr d.num:=by
 obtain⟨a,b,rfl,ha,c,d,rfl,hc,rfl⟩:=h
 obtain⟨x,rfl,hx⟩:=ty3 ha
 obtain⟨y,rfl,hy⟩:=ty3 hc
 exact⟨⟨x,y⟩,rfl,hx,hy⟩
theorem ty9{L n:Nat}{cs:List AV}(h:TyC tab L (n+1) 9 cs):∃ s:ByteArray,cs=[.s s]∧s.size≤140737488351232:=by
 obtain⟨s,rfl,_,h2,_⟩:=h
 exact⟨s,rfl,h2⟩
theorem ty104{L n:Nat}{cs:List AV}(h:TyC tab L (n+2) 104 cs):∃ d:Span,cs=B5 d∧inr d.rep∧inr d.lo∧inr d.hi:=by
 obtain⟨a,b,rfl,ha,c,d,rfl,hc,e,f,rfl,he,rfl⟩:=h
 obtain⟨x,rfl,hx⟩:=ty3 ha
 obtain⟨y,rfl,hy⟩:=ty3 hc
 obtain⟨z,rfl,hz⟩:=ty3 he
 exact⟨⟨x,y,z⟩,rfl,hx,hy,hz⟩
def inE(e:Entry):Prop:=inr e.dot.rep∧inr e.dot.num∧e.sku.size≤140737488351232∧inr e.qty
theorem ty45{L n:Nat}{cs:List AV}(h:TyC tab L (n+3) 45 cs):∃ e:Entry,cs=c45 e∧inE e:=by
 obtain⟨a,b,rfl,ha,c,d,rfl,hc,e,f,rfl,he,rfl⟩:=h
 obtain⟨x,rfl,hx⟩:=ty43 ha
 obtain⟨y,rfl,hy⟩:=ty9 hc
 obtain⟨z,rfl,hz⟩:=ty3 he
 exact⟨⟨x,y,z⟩,rfl,hx.1,hx.2,hy,hz⟩
theorem ty22{L n:Nat}{cs:List AV}(h:TyC tab L (n+4) 22 cs):∃ xs:List Entry,cs=[.sl (xs.map c45)]∧((∀ x∈xs,inE x)∧xs.length*40≤140737488351232)∧xs.length≤L:=by
 obtain⟨rows,rfl,h1,h2,hL,h3⟩:=h
 obtain⟨xs,rfl,hx⟩:=W5 (fun r hr=>ty45 hr) rows h3
 exact⟨xs,rfl,⟨hx,by rw[List.length_map]at h2;exact h2⟩,by rw[List.length_map]at hL;exact hL⟩
mutual
theorem bulk_eq {H : Type} : ∀ d : DataW H, Rows.uptoBulk d = bulkD d
  | .lit l => by cases l <;> simp [Rows.uptoBulk, bulkD]
  | .nil => by simp [Rows.uptoBulk, bulkD]
  | .ptr d => by simp only [Rows.uptoBulk, bulkD, bulk_eq d]
  | .slice elems spare => by simp only [Rows.uptoBulk, bulkD, bulks_eq elems, bulks_eq spare]
  | .agg parts => by simp only [Rows.uptoBulk, bulkD, bulks_eq parts]
  | .iface _ d => by simp only [Rows.uptoBulk, bulkD, bulk_eq d]
  | .map entries => by simp only [Rows.uptoBulk, bulkD, bulkm_eq entries]
  | .held _ => by simp [Rows.uptoBulk, bulkD]
theorem bulks_eq {H : Type} : ∀ l : List (DataW H), Rows.uptoBulkAll l = bulkDs l
  | [] => by simp [Rows.uptoBulkAll, bulkDs]
  | d :: r => by simp only [Rows.uptoBulkAll, bulkDs, bulk_eq d, bulks_eq r]
theorem bulkm_eq {H : Type} : ∀ l : List (Lit × DataW H), Rows.uptoBulkEntries l = bulkDm l
  | [] => by simp [Rows.uptoBulkEntries, bulkDm]
  | x :: r => by simp only [Rows.uptoBulkEntries, bulkDm, bulke_eq x, bulkm_eq r]
theorem bulke_eq {H : Type} : ∀ x : Lit × DataW H, Rows.uptoBulkEntry x = bulkDe x
  | (l, d) => by cases l <;> simp only [Rows.uptoBulkEntry, bulkDe, bulk_eq d]
end
theorem A0u{H:Type}(ds:List (DataW H))(h:Rows.uptoSmall H ds=true):bulkDs ds≤1048576:=by
 rw[← bulks_eq]
 exact of_decide_eq_true h
end Go.Proofs.YtaiepnaokhpmcaaGreat
namespace Go.Proofs.YtaiepnaokhpmcaaGreat
open Go.E
set_option maxRecDepth 100000
set_option maxHeartbeats 4000000
def inPL(L:Nat)(p:Past):Prop:=szP p∧p.cloud.length≤L∧p.vec.length≤L
theorem ly23{L n:Nat}{cs:List AV}(h:TyC tab L (n+2) 23 cs):∃ xs:List Int,cs=c23 xs∧xs.length*8≤140737488351232∧xs.length≤L:=by
 obtain⟨rows,rfl,h1,h2,hL,h3⟩:=h
 obtain⟨xs,rfl,hx⟩:=W5 (fun r hr=>ty3 hr) rows h3
 exact⟨xs,rfl,by rw[List.length_map]at h2;exact h2,by rw[List.length_map]at hL;exact hL⟩
theorem ly24{L n:Nat}{cs:List AV}(h:TyC tab L (n+3) 24 cs):∃ xs:List Span,cs=[.sl (xs.map B5)]∧xs.length*24≤140737488351232∧xs.length≤L:=by
 obtain⟨rows,rfl,h1,h2,hL,h3⟩:=h
 obtain⟨xs,rfl,hx⟩:=W5 (fun r hr=>ty104 hr) rows h3
 exact⟨xs,rfl,by rw[List.length_map]at h2;exact h2,by rw[List.length_map]at hL;exact hL⟩
theorem ly26{L n:Nat}{cs:List AV}(h:TyC tab L (n+4) 26 cs):∃ p:Past,cs=c26 p∧inPL L p:=by
 obtain⟨a,b,rfl,ha,c,d,rfl,hc,rfl⟩:=h
 obtain⟨x,rfl,hx⟩:=ly23 (L:=L) (n:=n+1) ha
 obtain⟨y,rfl,hy⟩:=ly24 hc
 exact⟨⟨x,y⟩,rfl,⟨by simp only;omega,by simp only;omega⟩,hy.2,hx.2⟩
theorem ly81{L n:Nat}{cs:List AV}(h:TyC tab L (n+5) 81 cs):∃ r:Record,cs=c81 r∧inPL L r.past:=by
 obtain⟨a,b,rfl,ha,c,d,rfl,hc,rfl⟩:=h
 obtain⟨x,rfl,hx⟩:=ty9 (L:=L) (n:=n+3) ha
 obtain⟨y,rfl,hy⟩:=ly26 hc
 exact⟨⟨x,y⟩,rfl,hy⟩
def inRL(L:Nat)(rs:List Record):Prop:=(∀ r∈rs,inPL L r.past)∧rs.length*64≤140737488351232∧rs.length≤L
theorem ly27{L n:Nat}{cs:List AV}(h:TyC tab L (n+6) 27 cs):∃ rs:List Record,cs=[.sl (rs.map c81)]∧inRL L rs:=by
 obtain⟨rows,rfl,h1,h2,hL,h3⟩:=h
 obtain⟨xs,rfl,hx⟩:=W5 (fun r hr=>ly81 hr) rows h3
 exact⟨xs,rfl,hx,by rw[List.length_map]at h2;exact h2,by rw[List.length_map]at hL;exact hL⟩
def inFL(L:Nat)(f:Facts):Prop:=(f.adds.length*40≤140737488351232∧f.adds.length≤L)∧inPL L f.gone∧inRL L f.recs
theorem ly29{L n:Nat}{cs:List AV}(h:TyC tab L (n+7) 29 cs):∃ f:Facts,cs=c29 f∧inFL L f:=by
 obtain⟨a,b,rfl,ha,c,d,rfl,hc,e,g,rfl,he,rfl⟩:=h
 obtain⟨x,rfl,hx⟩:=ty22 (L:=L) (n:=n+2) ha
 obtain⟨y,rfl,hy⟩:=ly26 (L:=L) (n:=n+2) hc
 obtain⟨z,rfl,hz⟩:=ly27 he
 exact⟨⟨x,y,z⟩,rfl,⟨hx.1.2,hx.2⟩,hy,hz⟩
theorem Bd9{L:Nat}{a:AV}(h:TyA tab L 9 29 a):∃ f:Facts,a=.agg (c29 f)∧inFL L f:=by
 obtain⟨cs,rfl,h2⟩:=(show ∃ cs,a=.agg cs∧TyC tab L 9 29 cs from h)
 obtain⟨d,rfl,k⟩:=ly29 (L:=L) (n:=2) h2
 exact⟨d,rfl,k⟩
theorem inF_sz{L:Nat}{f:Facts}(h:inFL L f):szF f:=⟨h.2.1.1,fun r hr=>(h.2.2.1 r hr).1⟩
end Go.Proofs.YtaiepnaokhpmcaaGreat
namespace Go.Proofs.YtaiepnaokhpmcaaGreat
open Go.E
set_option maxRecDepth 100000
set_option maxHeartbeats 4000000
theorem B5t{L M:Nat}(hM:M=L+1):∀ {rs:List Record},(∀ r∈rs,r.past.cloud.length≤L)→A32 rs≤rs.length*M
 | [],_=>by simp [A32]
 | r :: rs,h=>by
  have h1:=h r (by simp)
  have h2:=B5t hM (rs:=rs) (fun x hx=>h x (by simp [hx]))
  simp only [A32,List.map_cons,List.sum_cons,List.length_cons,Nat.add_mul]at *
  omega
theorem Bq5{f:Facts}(h1:szF f)(h2:f.recs.length≤1048576)(h3:A32 f.recs≤1099512676352):szB 1 f:=by
 unfold szB
 rw[Nat.one_mul,Nat.one_mul]
 exact⟨h1,h2,h3⟩
theorem Aj2{f:Facts}(h:inFL 1048576 f):szB 1 f:=by
 have h0:f.recs.length≤1048576:=h.2.2.2.2
 have h1:A32 f.recs≤f.recs.length*1048577:=B5t (L:=1048576) rfl (fun r hr=>(h.2.2.1 r hr).2.1)
 have h2:f.recs.length*1048577≤1048576*1048577:=Nat.mul_le_mul_right _ h0
 exact Bq5 (inF_sz h) h0 (Nat.le_trans h1 (Nat.le_trans h2 (by decide)))
end Go.Proofs.YtaiepnaokhpmcaaGreat
namespace Go.Proofs.YtaiepnaokhpmcaaGreat
open Go.E
set_option maxRecDepth 100000
set_option maxHeartbeats 4000000
theorem Tryz.rowedM:Go.mapsRowed Tryz.prog=true:=by kernel_rfl
theorem Tryz.stopsH:Tryz.prog.stopsHeard=true:=by kernel_rfl
theorem Tryz.mayE:Tryz.prog.mayEnter=true:=by kernel_rfl
end Go.Proofs.YtaiepnaokhpmcaaGreat
