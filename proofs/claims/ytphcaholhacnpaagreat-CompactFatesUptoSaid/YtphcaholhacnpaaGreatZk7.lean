/- R12: CompactFates answers true for every input, and the input reads as it did. Conditions: none. (with texts that it needs)  -/
import Derived.Below
import Derived.OwnWalk
import Derived.WalkKit
import Derived.KernelRfl
import Derived.Laws.MakeOwn
import Derived.Laws.OwnMore
import Derived.Laws.Slices
import Derived.Laws.CopyOwn
import Derived.Laws.AppendOwnNone
import Derived.Laws.Rows
import Derived.Orders
import Derived.Test.YtphcaholhacnpaaGreatProg
import Derived.DataReads
import Derived.ChangeOld
import Derived.DataElems
import Derived.SizedLaws
import Derived.ChangeKeysEq
import Derived.Sort.LotA
import Derived.Shelf.SlSortFuncK.RowK2
import Derived.Shelf.SlSortCmp.NoneTotal
import Derived.Lib.Walk
import Derived.Shelf.SlLaysE0
import Derived.Shelf.RegionOpenPlain
import Derived.Deep.LoopGhost
import Derived.Lib.SliceRun
import Derived.Lib.Bytealg
import Derived.Calls
import Derived.Shelf.SlSortFuncK.SWK
import Derived.Deep.Cut
import Derived.Deep.CutRange
import Derived.Deep.DeepCutAuto
import Derived.Lib.ReflectliteSwap
import Derived.Laws.Externs
import Derived.Lib.ReflectliteSlice
import Derived.Lib.AppendZeros
import Derived.BigQuiet
import Derived.Shelf.SlSortFuncK.WholeK
import Derived.Shelf.GgSortFunc.Tiny
import Derived.Maps.RangeRun
import Derived.ProofKit
import Derived.JoinedCond
import Derived.Deep.CondSized
import Derived.Test.YtphcaholhacnpaaGreatRows
import Derived.Test.YtphcaholhacnpaaGreatZk6
set_option linter.unusedVariables false
set_option linter.unusedSimpArgs false
namespace Go.Proofs.YtphcaholhacnpaaGreat
open Go.E Go.ChangeShapes Go.WideShapes Go.ChangeAt Go.RowKit
set_option maxRecDepth 100000
theorem law11  {a1:AV}(h1:TyA tab 1048576 9 104 a1):Con Tryz.prog 11 [a1] (.b true):=by
 obtain⟨x1,rfl,k1⟩:=ta104 h1
 exact con11 x1 (B30 k1.1) (B30 k1.2.1) (B30 k1.2.2.1) (B30 k1.2.2.2.1) (B31 k1.1) (B31 k1.2.1) (B31 k1.2.2.1) (B31 k1.2.2.2.1)
theorem CompactStates_lifted(os:Os)(started:os.Started)(H:Type)(enc:TypeId×Value→H)(F:Stop.Interp) :
  ReturnsInHanded {} Tryz.checked os 11 .any ((Rows.OpenSpec.upto Rows.compactStatesSpec).pre6 enc Tryz.prog Tryz.f11 Rows.compactStatesUptoRow.domain false) (((Rows.OpenSpec.upto Rows.compactStatesSpec).at F).post enc Tryz.prog Tryz.f11 false true false false):=by
 refine Y5 (C:=Tryz.checked) (s:=Rows.compactStatesSpec) (k:=Rows.uptoSmall) F [104] 4 1048576 9 rfl (fun ds=>A6e ds) A6 Tryz.laidOut Tryz.own started (by kernel_rfl) Tryz.func11 rfl rfl (by kernel_rfl) (by kernel_rfl) rfl ?_
  (OpenSpec.witness (enc:=enc) (C:=Tryz.checked) (s:=Rows.OpenSpec.upto Rows.compactStatesSpec) (k:=Rows.uptoSmall) rfl false ⟨#[],#[.agg #[.slice none 0 0,.slice none 0 0,.slice none 0 0,.slice none 0 0,.slice none 0 0,.slice none 0 0,.slice none 0 0,.slice none 0 0,.slice none 0 0,.slice none 0 0,.slice none 0 0,.slice none 0 0,.slice none 0 0,.slice none 0 0,.slice none 0 0,.slice none 0 0,.slice none 0 0,.string ⟨#[]⟩]],[]⟩ 8 (by kernel_rfl) (by kernel_rfl) (by kernel_rfl)
   (x:=([.agg [.agg [.nil,.agg [.nil,.nil],.nil],.agg [.nil,.agg [.nil,.nil],.nil],.agg [.nil,.agg [.nil,.nil],.nil],.agg [.nil,.agg [.nil,.nil],.nil],.nil,.lit (.string [])]],[],[])) (by kernel_rfl) rfl (by kernel_rfl)) ?_
 ·intro ds hds
  rcases ds with _ | ⟨d1,_ | ⟨d2,l⟩⟩
  ·exact absurd hds (by simp)
  ·kernel_rfl
  ·exact absurd hds (by simp)
 ·intro avs h
  rcases avs with _ | ⟨a1,_ | ⟨a2,l⟩⟩
  ·exact h.elim
  ·exact law11 h.1
  ·exact h.2.elim
theorem CompactStates_j1:Rows.compactStatesUptoRow.inPlace=Tryz.prog.inPlace 11:=by kernel_rfl
theorem CompactStates_j2:Rows.compactStatesUptoRow.unfollowed=Tryz.prog.unfollowed 11:=by kernel_rfl
theorem CompactStates_j3:Rows.compactStatesUptoRow.recurses=Tryz.prog.recurses 11:=by kernel_rfl
theorem CompactStates_j4:Rows.compactStatesUptoRow.named=Tryz.prog.varsNamed 11:=by kernel_rfl
theorem CompactStates_j5:Rows.compactStatesUptoRow.plainKeys=Tryz.prog.plainKeys:=by kernel_rfl
theorem CompactStates_j6:Rows.compactStatesUptoRow.lifted=Tryz.prog.liftsFinal:=by kernel_rfl
theorem CompactStates_j7:Tryz.prog.funcNamed Rows.compactStatesUptoRow.func=some 11:=by kernel_rfl
theorem CompactStates_joined:Go.joinedFacts Tryz.prog 11 Tryz.f11 (Rows.OpenSpec.upto Rows.compactStatesSpec).bare Rows.compactStatesUptoRow=true:=by
 unfold Go.joinedFacts
 rw[Tryz.laidOut,Tryz.rowedM,Tryz.stopsH,Tryz.mayE,← CompactStates_j1,← CompactStates_j2,← CompactStates_j3,← CompactStates_j4,← CompactStates_j5,← CompactStates_j6]
 kernel_rfl
theorem CompactStates_holds:Rows.CompactStatesUptoSaid :=
 OpenClaim.holds_of_cond 11 Tryz.f11 rfl rfl rfl rfl rfl rfl rfl ⟨rfl,rfl,rfl,rfl,rfl⟩ rfl rfl rfl rfl rfl CompactStates_j7 Tryz.func11 CompactStates_joined
  (of_decide_eq_true (by kernel_rfl)) (by unfold Func.isWrapper;first | (rw[if_pos (by decide +kernel)];kernel_rfl) | (rw[if_neg (by decide +kernel)];exact⟨rfl,rfl⟩))
  (fun os started H enc _ F=>CompactStates_lifted os started H enc F)
end Go.Proofs.YtphcaholhacnpaaGreat
namespace Go.Proofs.YtphcaholhacnpaaGreat
open Go.E Go.ChangeShapes Go.WideShapes Go.ChangeAt Go.RowKit
set_option maxRecDepth 100000
theorem law12  {a1:AV}(h1:TyA tab 1048576 9 104 a1):Con Tryz.prog 12 [a1] (.b true):=by
 obtain⟨x1,rfl,k1⟩:=ta104 h1
 exact con12 x1 (B30 k1.1) (B31 k1.1) k1.2.2.2.2 k1.1.1.2
theorem CompactFates_lifted(os:Os)(started:os.Started)(H:Type)(enc:TypeId×Value→H)(F:Stop.Interp) :
  ReturnsInHanded {} Tryz.checked os 12 .any ((Rows.OpenSpec.upto Rows.compactFatesSpec).pre6 enc Tryz.prog Tryz.f12 Rows.compactFatesUptoRow.domain false) (((Rows.OpenSpec.upto Rows.compactFatesSpec).at F).post enc Tryz.prog Tryz.f12 false true false false):=by
 refine Y5 (C:=Tryz.checked) (s:=Rows.compactFatesSpec) (k:=Rows.uptoSmall) F [104] 4 1048576 9 rfl (fun ds=>A6e ds) A6 Tryz.laidOut Tryz.own started (by kernel_rfl) Tryz.func12 rfl rfl (by kernel_rfl) (by kernel_rfl) rfl ?_
  (OpenSpec.witness (enc:=enc) (C:=Tryz.checked) (s:=Rows.OpenSpec.upto Rows.compactFatesSpec) (k:=Rows.uptoSmall) rfl false ⟨#[],#[.agg #[.slice none 0 0,.slice none 0 0,.slice none 0 0,.slice none 0 0,.slice none 0 0,.slice none 0 0,.slice none 0 0,.slice none 0 0,.slice none 0 0,.slice none 0 0,.slice none 0 0,.slice none 0 0,.slice none 0 0,.slice none 0 0,.slice none 0 0,.slice none 0 0,.slice none 0 0,.string ⟨#[]⟩]],[]⟩ 8 (by kernel_rfl) (by kernel_rfl) (by kernel_rfl)
   (x:=([.agg [.agg [.nil,.agg [.nil,.nil],.nil],.agg [.nil,.agg [.nil,.nil],.nil],.agg [.nil,.agg [.nil,.nil],.nil],.agg [.nil,.agg [.nil,.nil],.nil],.nil,.lit (.string [])]],[],[])) (by kernel_rfl) rfl (by kernel_rfl)) ?_
 ·intro ds hds
  rcases ds with _ | ⟨d1,_ | ⟨d2,l⟩⟩
  ·exact absurd hds (by simp)
  ·kernel_rfl
  ·exact absurd hds (by simp)
 ·intro avs h
  rcases avs with _ | ⟨a1,_ | ⟨a2,l⟩⟩
  ·exact h.elim
  ·exact law12 h.1
  ·exact h.2.elim
theorem CompactFates_j1:Rows.compactFatesUptoRow.inPlace=Tryz.prog.inPlace 12:=by kernel_rfl
theorem CompactFates_j2:Rows.compactFatesUptoRow.unfollowed=Tryz.prog.unfollowed 12:=by kernel_rfl
theorem CompactFates_j3:Rows.compactFatesUptoRow.recurses=Tryz.prog.recurses 12:=by kernel_rfl
theorem CompactFates_j4:Rows.compactFatesUptoRow.named=Tryz.prog.varsNamed 12:=by kernel_rfl
theorem CompactFates_j5:Rows.compactFatesUptoRow.plainKeys=Tryz.prog.plainKeys:=by kernel_rfl
theorem CompactFates_j6:Rows.compactFatesUptoRow.lifted=Tryz.prog.liftsFinal:=by kernel_rfl
theorem CompactFates_j7:Tryz.prog.funcNamed Rows.compactFatesUptoRow.func=some 12:=by kernel_rfl
theorem CompactFates_joined:Go.joinedFacts Tryz.prog 12 Tryz.f12 (Rows.OpenSpec.upto Rows.compactFatesSpec).bare Rows.compactFatesUptoRow=true:=by
 unfold Go.joinedFacts
 rw[Tryz.laidOut,Tryz.rowedM,Tryz.stopsH,Tryz.mayE,← CompactFates_j1,← CompactFates_j2,← CompactFates_j3,← CompactFates_j4,← CompactFates_j5,← CompactFates_j6]
 kernel_rfl
theorem CompactFates_holds:Rows.CompactFatesUptoSaid :=
 OpenClaim.holds_of_cond 12 Tryz.f12 rfl rfl rfl rfl rfl rfl rfl ⟨rfl,rfl,rfl,rfl,rfl⟩ rfl rfl rfl rfl rfl CompactFates_j7 Tryz.func12 CompactFates_joined
  (of_decide_eq_true (by kernel_rfl)) (by unfold Func.isWrapper;first | (rw[if_pos (by decide +kernel)];kernel_rfl) | (rw[if_neg (by decide +kernel)];exact⟨rfl,rfl⟩))
  (fun os started H enc _ F=>CompactFates_lifted os started H enc F)
end Go.Proofs.YtphcaholhacnpaaGreat
