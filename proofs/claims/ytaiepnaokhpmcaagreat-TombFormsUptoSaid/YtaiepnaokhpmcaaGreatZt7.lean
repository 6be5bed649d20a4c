/- R9: TombForms answers true for every input, and the input reads as it did. Conditions: none. (with texts that it needs)  -/
import Derived.Below
import Derived.OwnWalk
import Derived.WalkKit
import Derived.KernelRfl
import Derived.Laws.MakeOwn
import Derived.Laws.OwnMore
import Derived.Laws.Slices
import Derived.Laws.CopyOwn
import Derived.Laws.AppendOwnNone
import Derived.Laws.Rows
import Derived.Orders
import Derived.Test.YtaiepnaokhpmcaaGreatProg
import Derived.DataReads
import Derived.ChangeOld
import Derived.DataElems
import Derived.SizedLaws
import Derived.ChangeKeysEq
import Derived.Sort.LotA
import Derived.Shelf.SlSortFuncK.RowK2
import Derived.Shelf.SlSortCmp.NoneTotal
import Derived.Lib.Walk
import Derived.Shelf.SlLaysE0
import Derived.Shelf.RegionOpenPlain
import Derived.Deep.LoopGhost
import Derived.Lib.SliceRun
import Derived.Lib.Bytealg
import Derived.Shelf.SlSortFuncK.SWK
import Derived.Deep.Cut
import Derived.Deep.CutRange
import Derived.Deep.DeepCutAuto
import Derived.Lib.ReflectliteSwap
import Derived.Laws.Externs
import Derived.Lib.ReflectliteSlice
import Derived.Calls
import Derived.Lib.AppendZeros
import Derived.ProofKit
import Derived.JoinedCond
import Derived.Deep.CondSized
import Derived.Test.YtaiepnaokhpmcaaGreatRows
import Derived.Test.YtaiepnaokhpmcaaGreatZt6
set_option linter.unusedVariables false
set_option linter.unusedSimpArgs false
namespace Go.Proofs.YtaiepnaokhpmcaaGreat
open Go.E Go.ChangeShapes Go.WideShapes Go.ChangeAt Go.RowKit
set_option maxRecDepth 100000
theorem law5  {a1:AV}(h1:TyA tab 1048576 9 29 a1){a2:AV}(h2:TyA tab 1048576 9 29 a2){a3:AV}(h3:TyA tab 1048576 9 29 a3):Con Tryz.prog 5 [a1,a2,a3] (.b true):=by
 obtain⟨x1,rfl,k1⟩:=Bd9 h1
 obtain⟨x2,rfl,k2⟩:=Bd9 h2
 obtain⟨x3,rfl,k3⟩:=Bd9 h3
 exact con5 x1 x2 x3 (Aj2 k1) (Aj2 k2) (Aj2 k3)
theorem TombOrderless_lifted(os:Os)(started:os.Started)(H:Type)(enc:TypeId×Value→H)(F:Stop.Interp) :
  ReturnsInHanded {} Tryz.checked os 5 .any ((Rows.OpenSpec.upto Rows.tombOrderlessSpec).pre6 enc Tryz.prog Tryz.f5 Rows.tombOrderlessUptoRow.domain false) (((Rows.OpenSpec.upto Rows.tombOrderlessSpec).at F).post enc Tryz.prog Tryz.f5 false true false false):=by
 refine N0 (C:=Tryz.checked) (s:=Rows.tombOrderlessSpec) (k:=Rows.uptoSmall) F [29,29,29] 4 1048576 9 rfl (fun ds=>A0u ds) A8 Tryz.laidOut Tryz.own started (by kernel_rfl) Tryz.func5 rfl rfl (by kernel_rfl) (by kernel_rfl) rfl ?_
  (OpenSpec.witness (enc:=enc) (C:=Tryz.checked) (s:=Rows.OpenSpec.upto Rows.tombOrderlessSpec) (k:=Rows.uptoSmall) rfl false ⟨#[],#[.agg #[.slice none 0 0,.slice none 0 0,.slice none 0 0,.slice none 0 0],.agg #[.slice none 0 0,.slice none 0 0,.slice none 0 0,.slice none 0 0],.agg #[.slice none 0 0,.slice none 0 0,.slice none 0 0,.slice none 0 0]],[]⟩ 8 (by kernel_rfl) (by kernel_rfl) (by kernel_rfl)
   (x:=([.agg [.nil,.agg [.nil,.nil],.nil],.agg [.nil,.agg [.nil,.nil],.nil],.agg [.nil,.agg [.nil,.nil],.nil]],[],[])) (by kernel_rfl) rfl (by kernel_rfl)) ?_
 ·intro ds hds
  rcases ds with _ | ⟨d1,_ | ⟨d2,_ | ⟨d3,_ | ⟨d4,l⟩⟩⟩⟩
  ·exact absurd hds (by simp)
  ·exact absurd hds (by simp)
  ·exact absurd hds (by simp)
  ·kernel_rfl
  ·exact absurd hds (by simp)
 ·intro avs h
  rcases avs with _ | ⟨a1,_ | ⟨a2,_ | ⟨a3,_ | ⟨a4,l⟩⟩⟩⟩
  ·exact h.elim
  ·exact h.2.elim
  ·exact h.2.2.elim
  ·exact law5 h.1 h.2.1 h.2.2.1
  ·exact h.2.2.2.elim
theorem TombOrderless_j1:Rows.tombOrderlessUptoRow.inPlace=Tryz.prog.inPlace 5:=by kernel_rfl
theorem TombOrderless_j2:Rows.tombOrderlessUptoRow.unfollowed=Tryz.prog.unfollowed 5:=by kernel_rfl
theorem TombOrderless_j3:Rows.tombOrderlessUptoRow.recurses=Tryz.prog.recurses 5:=by kernel_rfl
theorem TombOrderless_j4:Rows.tombOrderlessUptoRow.named=Tryz.prog.varsNamed 5:=by kernel_rfl
theorem TombOrderless_j5:Rows.tombOrderlessUptoRow.plainKeys=Tryz.prog.plainKeys:=by kernel_rfl
theorem TombOrderless_j6:Rows.tombOrderlessUptoRow.lifted=Tryz.prog.liftsFinal:=by kernel_rfl
theorem TombOrderless_j7:Tryz.prog.funcNamed Rows.tombOrderlessUptoRow.func=some 5:=by kernel_rfl
theorem TombOrderless_joined:Go.joinedFacts Tryz.prog 5 Tryz.f5 (Rows.OpenSpec.upto Rows.tombOrderlessSpec).bare Rows.tombOrderlessUptoRow=true:=by
 unfold Go.joinedFacts
 rw[Tryz.laidOut,Tryz.rowedM,Tryz.stopsH,Tryz.mayE,← TombOrderless_j1,← TombOrderless_j2,← TombOrderless_j3,← TombOrderless_j4,← TombOrderless_j5,← TombOrderless_j6]
 kernel_rfl
theorem TombOrderless_holds:Rows.TombOrderlessUptoSaid :=
 OpenClaim.holds_of_cond 5 Tryz.f5 rfl rfl rfl rfl rfl rfl rfl ⟨rfl,rfl,rfl,rfl,rfl⟩ rfl rfl rfl rfl rfl TombOrderless_j7 Tryz.func5 TombOrderless_joined
  (of_decide_eq_true (by kernel_rfl)) (by unfold Func.isWrapper;first | (rw[if_pos (by decide +kernel)];kernel_rfl) | (rw[if_neg (by decide +kernel)];exact⟨rfl,rfl⟩))
  (fun os started H enc _ F=>TombOrderless_lifted os started H enc F)
end Go.Proofs.YtaiepnaokhpmcaaGreat
namespace Go.Proofs.YtaiepnaokhpmcaaGreat
open Go.E Go.ChangeShapes Go.WideShapes Go.ChangeAt Go.RowKit
set_option maxRecDepth 100000
theorem law7  {a1:AV}(h1:TyA tab 1048576 9 29 a1){a2:AV}(h2:TyA tab 1048576 9 29 a2):Con Tryz.prog 7 [a1,a2] (.b true):=by
 obtain⟨x1,rfl,k1⟩:=Bd9 h1
 obtain⟨x2,rfl,k2⟩:=Bd9 h2
 exact con7 x1 x2 (Aj2 k1) (Aj2 k2)
theorem TombJoins_lifted(os:Os)(started:os.Started)(H:Type)(enc:TypeId×Value→H)(F:Stop.Interp) :
  ReturnsInHanded {} Tryz.checked os 7 .any ((Rows.OpenSpec.upto Rows.tombJoinsSpec).pre6 enc Tryz.prog Tryz.f7 Rows.tombJoinsUptoRow.domain false) (((Rows.OpenSpec.upto Rows.tombJoinsSpec).at F).post enc Tryz.prog Tryz.f7 false true false false):=by
 refine N0 (C:=Tryz.checked) (s:=Rows.tombJoinsSpec) (k:=Rows.uptoSmall) F [29,29] 4 1048576 9 rfl (fun ds=>A0u ds) A8 Tryz.laidOut Tryz.own started (by kernel_rfl) Tryz.func7 rfl rfl (by kernel_rfl) (by kernel_rfl) rfl ?_
  (OpenSpec.witness (enc:=enc) (C:=Tryz.checked) (s:=Rows.OpenSpec.upto Rows.tombJoinsSpec) (k:=Rows.uptoSmall) rfl false ⟨#[],#[.agg #[.slice none 0 0,.slice none 0 0,.slice none 0 0,.slice none 0 0],.agg #[.slice none 0 0,.slice none 0 0,.slice none 0 0,.slice none 0 0]],[]⟩ 8 (by kernel_rfl) (by kernel_rfl) (by kernel_rfl)
   (x:=([.agg [.nil,.agg [.nil,.nil],.nil],.agg [.nil,.agg [.nil,.nil],.nil]],[],[])) (by kernel_rfl) rfl (by kernel_rfl)) ?_
 ·intro ds hds
  rcases ds with _ | ⟨d1,_ | ⟨d2,_ | ⟨d3,l⟩⟩⟩
  ·exact absurd hds (by simp)
  ·exact absurd hds (by simp)
  ·kernel_rfl
  ·exact absurd hds (by simp)
 ·intro avs h
  rcases avs with _ | ⟨a1,_ | ⟨a2,_ | ⟨a3,l⟩⟩⟩
  ·exact h.elim
  ·exact h.2.elim
  ·exact law7 h.1 h.2.1
  ·exact h.2.2.elim
theorem TombJoins_j1:Rows.tombJoinsUptoRow.inPlace=Tryz.prog.inPlace 7:=by kernel_rfl
theorem TombJoins_j2:Rows.tombJoinsUptoRow.unfollowed=Tryz.prog.unfollowed 7:=by kernel_rfl
theorem TombJoins_j3:Rows.tombJoinsUptoRow.recurses=Tryz.prog.recurses 7:=by kernel_rfl
theorem TombJoins_j4:Rows.tombJoinsUptoRow.named=Tryz.prog.varsNamed 7:=by kernel_rfl
theorem TombJoins_j5:Rows.tombJoinsUptoRow.plainKeys=Tryz.prog.plainKeys:=by kernel_rfl
theorem TombJoins_j6:Rows.tombJoinsUptoRow.lifted=Tryz.prog.liftsFinal:=by kernel_rfl
theorem TombJoins_j7:Tryz.prog.funcNamed Rows.tombJoinsUptoRow.func=some 7:=by kernel_rfl
theorem TombJoins_joined:Go.joinedFacts Tryz.prog 7 Tryz.f7 (Rows.OpenSpec.upto Rows.tombJoinsSpec).bare Rows.tombJoinsUptoRow=true:=by
 unfold Go.joinedFacts
 rw[Tryz.laidOut,Tryz.rowedM,Tryz.stopsH,Tryz.mayE,← TombJoins_j1,← TombJoins_j2,← TombJoins_j3,← TombJoins_j4,← TombJoins_j5,← TombJoins_j6]
 kernel_rfl
theorem TombJoins_holds:Rows.TombJoinsUptoSaid :=
 OpenClaim.holds_of_cond 7 Tryz.f7 rfl rfl rfl rfl rfl rfl rfl ⟨rfl,rfl,rfl,rfl,rfl⟩ rfl rfl rfl rfl rfl TombJoins_j7 Tryz.func7 TombJoins_joined
  (of_decide_eq_true (by kernel_rfl)) (by unfold Func.isWrapper;first | (rw[if_pos (by decide +kernel)];kernel_rfl) | (rw[if_neg (by decide +kernel)];exact⟨rfl,rfl⟩))
  (fun os started H enc _ F=>TombJoins_lifted os started H enc F)
end Go.Proofs.YtaiepnaokhpmcaaGreat
namespace Go.Proofs.YtaiepnaokhpmcaaGreat
open Go.E Go.ChangeShapes Go.WideShapes Go.ChangeAt Go.RowKit
set_option maxRecDepth 100000
theorem law8  {a1:AV}(h1:TyA tab 1048576 9 29 a1){a2:AV}(h2:TyA tab 1048576 9 29 a2):Con Tryz.prog 8 [a1,a2] (.b true):=by
 obtain⟨x1,rfl,k1⟩:=Bd9 h1
 obtain⟨x2,rfl,k2⟩:=Bd9 h2
 exact con8 x1 x2 (Aj2 k1) (Aj2 k2)
theorem TombClashes_lifted(os:Os)(started:os.Started)(H:Type)(enc:TypeId×Value→H)(F:Stop.Interp) :
  ReturnsInHanded {} Tryz.checked os 8 .any ((Rows.OpenSpec.upto Rows.tombClashesSpec).pre6 enc Tryz.prog Tryz.f8 Rows.tombClashesUptoRow.domain false) (((Rows.OpenSpec.upto Rows.tombClashesSpec).at F).post enc Tryz.prog Tryz.f8 false true false false):=by
 refine N0 (C:=Tryz.checked) (s:=Rows.tombClashesSpec) (k:=Rows.uptoSmall) F [29,29] 4 1048576 9 rfl (fun ds=>A0u ds) A8 Tryz.laidOut Tryz.own started (by kernel_rfl) Tryz.func8 rfl rfl (by kernel_rfl) (by kernel_rfl) rfl ?_
  (OpenSpec.witness (enc:=enc) (C:=Tryz.checked) (s:=Rows.OpenSpec.upto Rows.tombClashesSpec) (k:=Rows.uptoSmall) rfl false ⟨#[],#[.agg #[.slice none 0 0,.slice none 0 0,.slice none 0 0,.slice none 0 0],.agg #[.slice none 0 0,.slice none 0 0,.slice none 0 0,.slice none 0 0]],[]⟩ 8 (by kernel_rfl) (by kernel_rfl) (by kernel_rfl)
   (x:=([.agg [.nil,.agg [.nil,.nil],.nil],.agg [.nil,.agg [.nil,.nil],.nil]],[],[])) (by kernel_rfl) rfl (by kernel_rfl)) ?_
 ·intro ds hds
  rcases ds with _ | ⟨d1,_ | ⟨d2,_ | ⟨d3,l⟩⟩⟩
  ·exact absurd hds (by simp)
  ·exact absurd hds (by simp)
  ·kernel_rfl
  ·exact absurd hds (by simp)
 ·intro avs h
  rcases avs with _ | ⟨a1,_ | ⟨a2,_ | ⟨a3,l⟩⟩⟩
  ·exact h.elim
  ·exact h.2.elim
  ·exact law8 h.1 h.2.1
  ·exact h.2.2.elim
theorem TombClashes_j1:Rows.tombClashesUptoRow.inPlace=Tryz.prog.inPlace 8:=by kernel_rfl
theorem TombClashes_j2:Rows.tombClashesUptoRow.unfollowed=Tryz.prog.unfollowed 8:=by kernel_rfl
theorem TombClashes_j3:Rows.tombClashesUptoRow.recurses=Tryz.prog.recurses 8:=by kernel_rfl
theorem TombClashes_j4:Rows.tombClashesUptoRow.named=Tryz.prog.varsNamed 8:=by kernel_rfl
theorem TombClashes_j5:Rows.tombClashesUptoRow.plainKeys=Tryz.prog.plainKeys:=by kernel_rfl
theorem TombClashes_j6:Rows.tombClashesUptoRow.lifted=Tryz.prog.liftsFinal:=by kernel_rfl
theorem TombClashes_j7:Tryz.prog.funcNamed Rows.tombClashesUptoRow.func=some 8:=by kernel_rfl
theorem TombClashes_joined:Go.joinedFacts Tryz.prog 8 Tryz.f8 (Rows.OpenSpec.upto Rows.tombClashesSpec).bare Rows.tombClashesUptoRow=true:=by
 unfold Go.joinedFacts
 rw[Tryz.laidOut,Tryz.rowedM,Tryz.stopsH,Tryz.mayE,← TombClashes_j1,← TombClashes_j2,← TombClashes_j3,← TombClashes_j4,← TombClashes_j5,← TombClashes_j6]
 kernel_rfl
theorem TombClashes_holds:Rows.TombClashesUptoSaid :=
 OpenClaim.holds_of_cond 8 Tryz.f8 rfl rfl rfl rfl rfl rfl rfl ⟨rfl,rfl,rfl,rfl,rfl⟩ rfl rfl rfl rfl rfl TombClashes_j7 Tryz.func8 TombClashes_joined
  (of_decide_eq_true (by kernel_rfl)) (by unfold Func.isWrapper;first | (rw[if_pos (by decide +kernel)];kernel_rfl) | (rw[if_neg (by decide +kernel)];exact⟨rfl,rfl⟩))
  (fun os started H enc _ F=>TombClashes_lifted os started H enc F)
end Go.Proofs.YtaiepnaokhpmcaaGreat
namespace Go.Proofs.YtaiepnaokhpmcaaGreat
open Go.E Go.ChangeShapes Go.WideShapes Go.ChangeAt Go.RowKit
set_option maxRecDepth 100000
theorem law9  {a1:AV}(h1:TyA tab 1048576 9 29 a1):Con Tryz.prog 9 [a1] (.b true):=by
 obtain⟨x1,rfl,k1⟩:=Bd9 h1
 exact con9 x1 (Aj2 k1)
theorem TombForms_lifted(os:Os)(started:os.Started)(H:Type)(enc:TypeId×Value→H)(F:Stop.Interp) :
  ReturnsInHanded {} Tryz.checked os 9 .any ((Rows.OpenSpec.upto Rows.tombFormsSpec).pre6 enc Tryz.prog Tryz.f9 Rows.tombFormsUptoRow.domain false) (((Rows.OpenSpec.upto Rows.tombFormsSpec).at F).post enc Tryz.prog Tryz.f9 false true false false):=by
 refine N0 (C:=Tryz.checked) (s:=Rows.tombFormsSpec) (k:=Rows.uptoSmall) F [29] 4 1048576 9 rfl (fun ds=>A0u ds) A8 Tryz.laidOut Tryz.own started (by kernel_rfl) Tryz.func9 rfl rfl (by kernel_rfl) (by kernel_rfl) rfl ?_
  (OpenSpec.witness (enc:=enc) (C:=Tryz.checked) (s:=Rows.OpenSpec.upto Rows.tombFormsSpec) (k:=Rows.uptoSmall) rfl false ⟨#[],#[.agg #[.slice none 0 0,.slice none 0 0,.slice none 0 0,.slice none 0 0]],[]⟩ 8 (by kernel_rfl) (by kernel_rfl) (by kernel_rfl)
   (x:=([.agg [.nil,.agg [.nil,.nil],.nil]],[],[])) (by kernel_rfl) rfl (by kernel_rfl)) ?_
 ·intro ds hds
  rcases ds with _ | ⟨d1,_ | ⟨d2,l⟩⟩
  ·exact absurd hds (by simp)
  ·kernel_rfl
  ·exact absurd hds (by simp)
 ·intro avs h
  rcases avs with _ | ⟨a1,_ | ⟨a2,l⟩⟩
  ·exact h.elim
  ·exact law9 h.1
  ·exact h.2.elim
theorem TombForms_j1:Rows.tombFormsUptoRow.inPlace=Tryz.prog.inPlace 9:=by kernel_rfl
theorem TombForms_j2:Rows.tombFormsUptoRow.unfollowed=Tryz.prog.unfollowed 9:=by kernel_rfl
theorem TombForms_j3:Rows.tombFormsUptoRow.recurses=Tryz.prog.recurses 9:=by kernel_rfl
theorem TombForms_j4:Rows.tombFormsUptoRow.named=Tryz.prog.varsNamed 9:=by kernel_rfl
theorem TombForms_j5:Rows.tombFormsUptoRow.plainKeys=Tryz.prog.plainKeys:=by kernel_rfl
theorem TombForms_j6:Rows.tombFormsUptoRow.lifted=Tryz.prog.liftsFinal:=by kernel_rfl
theorem TombForms_j7:Tryz.prog.funcNamed Rows.tombFormsUptoRow.func=some 9:=by kernel_rfl
theorem TombForms_joined:Go.joinedFacts Tryz.prog 9 Tryz.f9 (Rows.OpenSpec.upto Rows.tombFormsSpec).bare Rows.tombFormsUptoRow=true:=by
 unfold Go.joinedFacts
 rw[Tryz.laidOut,Tryz.rowedM,Tryz.stopsH,Tryz.mayE,← TombForms_j1,← TombForms_j2,← TombForms_j3,← TombForms_j4,← TombForms_j5,← TombForms_j6]
 kernel_rfl
theorem TombForms_holds:Rows.TombFormsUptoSaid :=
 OpenClaim.holds_of_cond 9 Tryz.f9 rfl rfl rfl rfl rfl rfl rfl ⟨rfl,rfl,rfl,rfl,rfl⟩ rfl rfl rfl rfl rfl TombForms_j7 Tryz.func9 TombForms_joined
  (of_decide_eq_true (by kernel_rfl)) (by unfold Func.isWrapper;first | (rw[if_pos (by decide +kernel)];kernel_rfl) | (rw[if_neg (by decide +kernel)];exact⟨rfl,rfl⟩))
  (fun os started H enc _ F=>TombForms_lifted os started H enc F)
end Go.Proofs.YtaiepnaokhpmcaaGreat
