/- R7: DigestHealsFacts answers true for every input, and the input reads as it did. Conditions: none. (with texts that it needs)  -/
import Derived.Below
import Derived.OwnWalk
import Derived.WalkKit
import Derived.KernelRfl
import Derived.Laws.MakeOwn
import Derived.Laws.OwnMore
import Derived.Laws.Slices
import Derived.Laws.CopyOwn
import Derived.Laws.AppendOwnNone
import Derived.Laws.Rows
import Derived.Orders
import Derived.Test.YtokhjapfekbobaaGreatProg
import Derived.DataReads
import Derived.ChangeOld
import Derived.DataElems
import Derived.SizedLaws
import Derived.ChangeKeysEq
import Derived.Sort.LotA
import Derived.Shelf.SlSortFuncK.RowK2
import Derived.Shelf.SlSortCmp.NoneTotal
import Derived.Lib.Walk
import Derived.Shelf.SlLaysE0
import Derived.Shelf.RegionOpenPlain
import Derived.Deep.LoopGhost
import Derived.Lib.SliceRun
import Derived.Lib.Bytealg
import Derived.Calls
import Derived.Shelf.SlSortFuncK.SWK
import Derived.Deep.Cut
import Derived.Deep.CutRange
import Derived.Deep.DeepCutAuto
import Derived.Lib.ReflectliteSwap
import Derived.Laws.Externs
import Derived.Lib.ReflectliteSlice
import Derived.Lib.AppendZeros
import Derived.BigQuiet
import Derived.Shelf.SlSortFuncK.WholeK
import Derived.Shelf.GgSortFunc.Tiny
import Derived.Maps.RangeRun
import Derived.ProofKit
import Derived.JoinedCond
import Derived.Deep.CondSized
import Derived.Test.YtokhjapfekbobaaGreatRows
import Derived.Test.YtokhjapfekbobaaGreatZh6
set_option linter.unusedVariables false
set_option linter.unusedSimpArgs false
namespace Go.Proofs.YtokhjapfekbobaaGreat
open Go.E Go.ChangeShapes Go.WideShapes Go.ChangeAt Go.RowKit
set_option maxRecDepth 100000
theorem law7  {a1:AV}(h1:TyA tab 1048576 9 29 a1){a2:AV}(h2:TyA tab 1048576 9 29 a2):Con Tryz.prog 7 [a1,a2] (.b true):=by
 obtain⟨x1,rfl,k1⟩:=ta29 h1
 obtain⟨x2,rfl,k2⟩:=ta29 h2
 exact con7 x1 x2 (inF_B k1) (inF_B k2)
theorem DigestHealsFacts_lifted(os:Os)(started:os.Started)(H:Type)(enc:TypeId×Value→H)(F:Stop.Interp) :
  ReturnsInHanded {} Tryz.checked os 7 .any ((Rows.OpenSpec.upto Rows.digestHealsFactsSpec).pre6 enc Tryz.prog Tryz.f7 Rows.digestHealsFactsUptoRow.domain false) (((Rows.OpenSpec.upto Rows.digestHealsFactsSpec).at F).post enc Tryz.prog Tryz.f7 false true false false):=by
 refine A61 (C:=Tryz.checked) (s:=Rows.digestHealsFactsSpec) (k:=Rows.uptoSmall) F [29,29] 4 1048576 9 rfl (fun ds=>B0l ds) A9 Tryz.laidOut Tryz.own started (by kernel_rfl) Tryz.func7 rfl rfl (by kernel_rfl) (by kernel_rfl) rfl ?_
  (OpenSpec.witness (enc:=enc) (C:=Tryz.checked) (s:=Rows.OpenSpec.upto Rows.digestHealsFactsSpec) (k:=Rows.uptoSmall) rfl false ⟨#[],#[.agg #[.slice none 0 0,.slice none 0 0,.slice none 0 0,.slice none 0 0],.agg #[.slice none 0 0,.slice none 0 0,.slice none 0 0,.slice none 0 0]],[]⟩ 8 (by kernel_rfl) (by kernel_rfl) (by kernel_rfl)
   (x:=([.agg [.nil,.agg [.nil,.nil],.nil],.agg [.nil,.agg [.nil,.nil],.nil]],[],[])) (by kernel_rfl) rfl (by kernel_rfl)) ?_
 ·intro ds hds
  rcases ds with _ | ⟨d1,_ | ⟨d2,_ | ⟨d3,l⟩⟩⟩
  ·exact absurd hds (by simp)
  ·exact absurd hds (by simp)
  ·kernel_rfl
  ·exact absurd hds (by simp)
 ·intro avs h
  rcases avs with _ | ⟨a1,_ | ⟨a2,_ | ⟨a3,l⟩⟩⟩
  ·exact h.elim
  ·exact h.2.elim
  ·exact law7 h.1 h.2.1
  ·exact h.2.2.elim
theorem DigestHealsFacts_j1:Rows.digestHealsFactsUptoRow.inPlace=Tryz.prog.inPlace 7:=by kernel_rfl
theorem DigestHealsFacts_j2:Rows.digestHealsFactsUptoRow.unfollowed=Tryz.prog.unfollowed 7:=by kernel_rfl
theorem DigestHealsFacts_j3:Rows.digestHealsFactsUptoRow.recurses=Tryz.prog.recurses 7:=by kernel_rfl
theorem DigestHealsFacts_j4:Rows.digestHealsFactsUptoRow.named=Tryz.prog.varsNamed 7:=by kernel_rfl
theorem DigestHealsFacts_j5:Rows.digestHealsFactsUptoRow.plainKeys=Tryz.prog.plainKeys:=by kernel_rfl
theorem DigestHealsFacts_j6:Rows.digestHealsFactsUptoRow.lifted=Tryz.prog.liftsFinal:=by kernel_rfl
theorem DigestHealsFacts_j7:Tryz.prog.funcNamed Rows.digestHealsFactsUptoRow.func=some 7:=by kernel_rfl
theorem DigestHealsFacts_joined:Go.joinedFacts Tryz.prog 7 Tryz.f7 (Rows.OpenSpec.upto Rows.digestHealsFactsSpec).bare Rows.digestHealsFactsUptoRow=true:=by
 unfold Go.joinedFacts
 rw[Tryz.laidOut,Tryz.rowedM,Tryz.stopsH,Tryz.mayE,← DigestHealsFacts_j1,← DigestHealsFacts_j2,← DigestHealsFacts_j3,← DigestHealsFacts_j4,← DigestHealsFacts_j5,← DigestHealsFacts_j6]
 kernel_rfl
theorem DigestHealsFacts_holds:Rows.DigestHealsFactsUptoSaid :=
 OpenClaim.holds_of_cond 7 Tryz.f7 rfl rfl rfl rfl rfl rfl rfl ⟨rfl,rfl,rfl,rfl,rfl⟩ rfl rfl rfl rfl rfl DigestHealsFacts_j7 Tryz.func7 DigestHealsFacts_joined
  (of_decide_eq_true (by kernel_rfl)) (by unfold Func.isWrapper;first | (rw[if_pos (by decide +kernel)];kernel_rfl) | (rw[if_neg (by decide +kernel)];exact⟨rfl,rfl⟩))
  (fun os started H enc _ F=>DigestHealsFacts_lifted os started H enc F)
end Go.Proofs.YtokhjapfekbobaaGreat
