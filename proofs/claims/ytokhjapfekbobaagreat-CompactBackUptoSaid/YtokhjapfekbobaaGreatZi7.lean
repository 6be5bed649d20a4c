/- R3: CompactBack answers true for every input, and the input reads as it did. Conditions: none. (with texts that it needs)  -/
import Derived.Below
import Derived.OwnWalk
import Derived.WalkKit
import Derived.KernelRfl
import Derived.Laws.MakeOwn
import Derived.Laws.OwnMore
import Derived.Laws.Slices
import Derived.Laws.CopyOwn
import Derived.Laws.AppendOwnNone
import Derived.Laws.Rows
import Derived.Orders
import Derived.Test.YtokhjapfekbobaaGreatProg
import Derived.DataReads
import Derived.ChangeOld
import Derived.DataElems
import Derived.SizedLaws
import Derived.ChangeKeysEq
import Derived.Sort.LotA
import Derived.Shelf.SlSortFuncK.RowK2
import Derived.Shelf.SlSortCmp.NoneTotal
import Derived.Lib.Walk
import Derived.Shelf.SlLaysE0
import Derived.Shelf.RegionOpenPlain
import Derived.Deep.LoopGhost
import Derived.Lib.SliceRun
import Derived.Lib.Bytealg
import Derived.Calls
import Derived.Shelf.SlSortFuncK.SWK
import Derived.Deep.Cut
import Derived.Deep.CutRange
import Derived.Deep.DeepCutAuto
import Derived.Lib.ReflectliteSwap
import Derived.Laws.Externs
import Derived.Lib.ReflectliteSlice
import Derived.Lib.AppendZeros
import Derived.BigQuiet
import Derived.Shelf.SlSortFuncK.WholeK
import Derived.Shelf.GgSortFunc.Tiny
import Derived.Maps.RangeRun
import Derived.ProofKit
import Derived.JoinedCond
import Derived.Deep.CondSized
import Derived.Test.YtokhjapfekbobaaGreatRows
import Derived.Test.YtokhjapfekbobaaGreatZi6
set_option linter.unusedVariables false
set_option linter.unusedSimpArgs false
namespace Go.Proofs.YtokhjapfekbobaaGreat
open Go.E Go.ChangeShapes Go.WideShapes Go.ChangeAt Go.RowKit
set_option maxRecDepth 100000
theorem law3  {a1:AV}(h1:TyA tab 1048576 9 34 a1):Con Tryz.prog 3 [a1] (.b true):=by
 obtain⟨x1,rfl,k1⟩:=ta34 h1
 exact con3 x1 (Bs4 k1.1) (Bs4 k1.2.1) (Bs4 k1.2.2.2.1) (Bs5 k1.1) (Bs5 k1.2.1) (Bs5 k1.2.2.2.1)
theorem CompactBack_lifted(os:Os)(started:os.Started)(H:Type)(enc:TypeId×Value→H)(F:Stop.Interp) :
  ReturnsInHanded {} Tryz.checked os 3 .any ((Rows.OpenSpec.upto Rows.compactBackSpec).pre6 enc Tryz.prog Tryz.f3 Rows.compactBackUptoRow.domain false) (((Rows.OpenSpec.upto Rows.compactBackSpec).at F).post enc Tryz.prog Tryz.f3 false true false false):=by
 refine A6u (C:=Tryz.checked) (s:=Rows.compactBackSpec) (k:=Rows.uptoSmall) F [34] 4 1048576 9 rfl (fun ds=>B1n ds) A9 Tryz.laidOut Tryz.own started (by kernel_rfl) Tryz.func3 rfl rfl (by kernel_rfl) (by kernel_rfl) rfl ?_
  (OpenSpec.witness (enc:=enc) (C:=Tryz.checked) (s:=Rows.OpenSpec.upto Rows.compactBackSpec) (k:=Rows.uptoSmall) rfl false ⟨#[],#[.agg #[.slice none 0 0,.slice none 0 0,.slice none 0 0,.slice none 0 0,.slice none 0 0,.slice none 0 0,.slice none 0 0,.slice none 0 0,.slice none 0 0,.slice none 0 0,.slice none 0 0,.slice none 0 0,.slice none 0 0,.slice none 0 0,.slice none 0 0,.slice none 0 0,.slice none 0 0,.string ⟨#[]⟩]],[]⟩ 8 (by kernel_rfl) (by kernel_rfl) (by kernel_rfl)
   (x:=([.agg [.agg [.nil,.agg [.nil,.nil],.nil],.agg [.nil,.agg [.nil,.nil],.nil],.agg [.nil,.agg [.nil,.nil],.nil],.agg [.nil,.agg [.nil,.nil],.nil],.nil,.lit (.string [])]],[],[])) (by kernel_rfl) rfl (by kernel_rfl)) ?_
 ·intro ds hds
  rcases ds with _ | ⟨d1,_ | ⟨d2,l⟩⟩
  ·exact absurd hds (by simp)
  ·kernel_rfl
  ·exact absurd hds (by simp)
 ·intro avs h
  rcases avs with _ | ⟨a1,_ | ⟨a2,l⟩⟩
  ·exact h.elim
  ·exact law3 h.1
  ·exact h.2.elim
theorem CompactBack_j1:Rows.compactBackUptoRow.inPlace=Tryz.prog.inPlace 3:=by kernel_rfl
theorem CompactBack_j2:Rows.compactBackUptoRow.unfollowed=Tryz.prog.unfollowed 3:=by kernel_rfl
theorem CompactBack_j3:Rows.compactBackUptoRow.recurses=Tryz.prog.recurses 3:=by kernel_rfl
theorem CompactBack_j4:Rows.compactBackUptoRow.named=Tryz.prog.varsNamed 3:=by kernel_rfl
theorem CompactBack_j5:Rows.compactBackUptoRow.plainKeys=Tryz.prog.plainKeys:=by kernel_rfl
theorem CompactBack_j6:Rows.compactBackUptoRow.lifted=Tryz.prog.liftsFinal:=by kernel_rfl
theorem CompactBack_j7:Tryz.prog.funcNamed Rows.compactBackUptoRow.func=some 3:=by kernel_rfl
theorem CompactBack_joined:Go.joinedFacts Tryz.prog 3 Tryz.f3 (Rows.OpenSpec.upto Rows.compactBackSpec).bare Rows.compactBackUptoRow=true:=by
 unfold Go.joinedFacts
 rw[Tryz.laidOut,Tryz.rowedM,Tryz.stopsH,Tryz.mayE,← CompactBack_j1,← CompactBack_j2,← CompactBack_j3,← CompactBack_j4,← CompactBack_j5,← CompactBack_j6]
 kernel_rfl
theorem CompactBack_holds:Rows.CompactBackUptoSaid :=
 OpenClaim.holds_of_cond 3 Tryz.f3 rfl rfl rfl rfl rfl rfl rfl ⟨rfl,rfl,rfl,rfl,rfl⟩ rfl rfl rfl rfl rfl CompactBack_j7 Tryz.func3 CompactBack_joined
  (of_decide_eq_true (by kernel_rfl)) (by unfold Func.isWrapper;first | (rw[if_pos (by decide +kernel)];kernel_rfl) | (rw[if_neg (by decide +kernel)];exact⟨rfl,rfl⟩))
  (fun os started H enc _ F=>CompactBack_lifted os started H enc F)
end Go.Proofs.YtokhjapfekbobaaGreat
