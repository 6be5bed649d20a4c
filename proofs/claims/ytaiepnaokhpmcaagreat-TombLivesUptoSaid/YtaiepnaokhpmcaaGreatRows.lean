/-
  No cell of these rows narrows 'for every input' (looked for: loops, veiled, ifaces, maps, wideKeys, modest, calm, conditions, laid).
  DERIVED. THE GIVEN ROWS OF THIS SEAT. 12 by the template 'for every input the law returns true; each argument reads behind the call as it read before'; 0 by the template 'total and deterministic' (their statements: YtaiepnaokhpmcaaGreatTotals.lean).
  GIVEN WITH THE SEED: the statements are not yours to turn. If you find one false, say at which input.
  Laid BY PROGRAM, IN A SANDBOX (cutbox-rows.mjs): the forced cells as the released guide's own fill.sh prints them over the translation 5ddb52c5c009ff8a… (all of the seat's roots in one cut). By AI agents, Wed Nov 11 2026. No macro, syntax, notation, axiom, sorry.
-/
import Derived.Test.YtaiepnaokhpmcaaGreatChecked
import GoSem.Claim
import GoSem.ClaimJoined
import GoSem.ClaimMapViews
import Derived.JoinedTies
import Derived.KernelRfl
namespace Go.Proofs.YtaiepnaokhpmcaaGreat
/- THE CELL 'sum', in the pinned program and in every row, IS THE sha256 OF THE DUMP (.gsa) THAT YtaiepnaokhpmcaaGreatProg.lean LOADS. Nothing in Lean hashes anything: it is a label: what it is worth is what the hold of that sum in a sandbox is worth. -/
noncomputable def Tryz.pinned : Pinned := { name := "ytaiepnaokhpmcaagreat", sum := "5ddb52c5c009ff8ada76dd6944cbd838bf400a05c62ab3eca3698a3e183c17dd", checked := Tryz.checked }
namespace Rows
def none {H : Type} : Left H := { results := [], args := [] }

/-- 'barrowlaw10.TombOrders': WHATEVER THE INPUT: true; the input reads as it did. -/
def tombOrdersSpec : ChangeSpec := { name := "tombOrders", fn := fun _ => fun
  | [d1, d2] => { results := [.lit (.bool true)], args := [d1, d2] }
  | _ => none }
def tombOrdersRow : OpenClaim := { program := "ytaiepnaokhpmcaagreat", sum := "5ddb52c5c009ff8ada76dd6944cbd838bf400a05c62ab3eca3698a3e183c17dd", func := "barrow/barrowlaw10.TombOrders", spec := "tombOrders", inPlace := ["internal/bytealg.abigen_runtime_cmpstring"], unfollowed := true, recurses := true, apart := false }
def TombOrdersSaid : Prop := tombOrdersRow.holds Tryz.pinned (OpenSpec.ofChange tombOrdersSpec)

/-- ITS FALSE NEIGHBOUR: 'it returns false'. Refute it at one input. -/
def tombOrdersWrong : ChangeSpec := { name := "tombOrders", fn := fun _ => fun
  | [d1, d2] => { results := [.lit (.bool false)], args := [d1, d2] }
  | _ => none }
def TombOrdersWrongFalsely : Prop := tombOrdersRow.holds Tryz.pinned (OpenSpec.ofChange tombOrdersWrong)

/-- 'barrowlaw08.ActEffects': WHATEVER THE INPUT: true; the input reads as it did. -/
def actEffectsSpec : ChangeSpec := { name := "actEffects", fn := fun _ => fun
  | [d1, d2] => { results := [.lit (.bool true)], args := [d1, d2] }
  | _ => none }
def actEffectsRow : OpenClaim := { program := "ytaiepnaokhpmcaagreat", sum := "5ddb52c5c009ff8ada76dd6944cbd838bf400a05c62ab3eca3698a3e183c17dd", func := "barrow/barrowlaw08.ActEffects", spec := "actEffects", inPlace := ["internal/bytealg.abigen_runtime_cmpstring", "internal/reflectlite.ValueOf", "internal/reflectlite.Swapper", "(internal/reflectlite.Value).Len"], unfollowed := true, recurses := true, apart := false }
def ActEffectsSaid : Prop := actEffectsRow.holds Tryz.pinned (OpenSpec.ofChange actEffectsSpec)

/-- ITS FALSE NEIGHBOUR: 'it returns false'. Refute it at one input. -/
def actEffectsWrong : ChangeSpec := { name := "actEffects", fn := fun _ => fun
  | [d1, d2] => { results := [.lit (.bool false)], args := [d1, d2] }
  | _ => none }
def ActEffectsWrongFalsely : Prop := actEffectsRow.holds Tryz.pinned (OpenSpec.ofChange actEffectsWrong)

/-- 'barrowlaw10.TombOrderless': WHATEVER THE INPUT: true; the input reads as it did. -/
def tombOrderlessSpec : ChangeSpec := { name := "tombOrderless", fn := fun _ => fun
  | [d1, d2, d3] => { results := [.lit (.bool true)], args := [d1, d2, d3] }
  | _ => none }
def tombOrderlessRow : OpenClaim := { program := "ytaiepnaokhpmcaagreat", sum := "5ddb52c5c009ff8ada76dd6944cbd838bf400a05c62ab3eca3698a3e183c17dd", func := "barrow/barrowlaw10.TombOrderless", spec := "tombOrderless", inPlace := ["internal/bytealg.abigen_runtime_cmpstring", "internal/reflectlite.ValueOf", "internal/reflectlite.Swapper", "(internal/reflectlite.Value).Len"], unfollowed := true, recurses := true, apart := false }
def TombOrderlessSaid : Prop := tombOrderlessRow.holds Tryz.pinned (OpenSpec.ofChange tombOrderlessSpec)

/-- ITS FALSE NEIGHBOUR: 'it returns false'. Refute it at one input. -/
def tombOrderlessWrong : ChangeSpec := { name := "tombOrderless", fn := fun _ => fun
  | [d1, d2, d3] => { results := [.lit (.bool false)], args := [d1, d2, d3] }
  | _ => none }
def TombOrderlessWrongFalsely : Prop := tombOrderlessRow.holds Tryz.pinned (OpenSpec.ofChange tombOrderlessWrong)

/-- 'barrowlaw10.TombLives': WHATEVER THE INPUT: true; the input reads as it did. -/
def tombLivesSpec : ChangeSpec := { name := "tombLives", fn := fun _ => fun
  | [d1, d2] => { results := [.lit (.bool true)], args := [d1, d2] }
  | _ => none }
def tombLivesRow : OpenClaim := { program := "ytaiepnaokhpmcaagreat", sum := "5ddb52c5c009ff8ada76dd6944cbd838bf400a05c62ab3eca3698a3e183c17dd", func := "barrow/barrowlaw10.TombLives", spec := "tombLives", inPlace := ["internal/bytealg.abigen_runtime_cmpstring", "internal/reflectlite.ValueOf", "internal/reflectlite.Swapper", "(internal/reflectlite.Value).Len"], unfollowed := true, recurses := true, apart := false }
def TombLivesSaid : Prop := tombLivesRow.holds Tryz.pinned (OpenSpec.ofChange tombLivesSpec)

/-- ITS FALSE NEIGHBOUR: 'it returns false'. Refute it at one input. -/
def tombLivesWrong : ChangeSpec := { name := "tombLives", fn := fun _ => fun
  | [d1, d2] => { results := [.lit (.bool false)], args := [d1, d2] }
  | _ => none }
def TombLivesWrongFalsely : Prop := tombLivesRow.holds Tryz.pinned (OpenSpec.ofChange tombLivesWrong)

/-- 'barrowlaw10.TombJoins': WHATEVER THE INPUT: true; the input reads as it did. -/
def tombJoinsSpec : ChangeSpec := { name := "tombJoins", fn := fun _ => fun
  | [d1, d2] => { results := [.lit (.bool true)], args := [d1, d2] }
  | _ => none }
def tombJoinsRow : OpenClaim := { program := "ytaiepnaokhpmcaagreat", sum := "5ddb52c5c009ff8ada76dd6944cbd838bf400a05c62ab3eca3698a3e183c17dd", func := "barrow/barrowlaw10.TombJoins", spec := "tombJoins", inPlace := ["internal/bytealg.abigen_runtime_cmpstring", "internal/reflectlite.ValueOf", "internal/reflectlite.Swapper", "(internal/reflectlite.Value).Len"], unfollowed := true, recurses := true, apart := false }
def TombJoinsSaid : Prop := tombJoinsRow.holds Tryz.pinned (OpenSpec.ofChange tombJoinsSpec)

/-- ITS FALSE NEIGHBOUR: 'it returns false'. Refute it at one input. -/
def tombJoinsWrong : ChangeSpec := { name := "tombJoins", fn := fun _ => fun
  | [d1, d2] => { results := [.lit (.bool false)], args := [d1, d2] }
  | _ => none }
def TombJoinsWrongFalsely : Prop := tombJoinsRow.holds Tryz.pinned (OpenSpec.ofChange tombJoinsWrong)

/-- 'barrowlaw10.TombClashes': WHATEVER THE INPUT: true; the input reads as it did. -/
def tombClashesSpec : ChangeSpec := { name := "tombClashes", fn := fun _ => fun
  | [d1, d2] => { results := [.lit (.bool true)], args := [d1, d2] }
  | _ => none }
def tombClashesRow : OpenClaim := { program := "ytaiepnaokhpmcaagreat", sum := "5ddb52c5c009ff8ada76dd6944cbd838bf400a05c62ab3eca3698a3e183c17dd", func := "barrow/barrowlaw10.TombClashes", spec := "tombClashes", inPlace := ["internal/bytealg.abigen_runtime_cmpstring", "internal/reflectlite.ValueOf", "internal/reflectlite.Swapper", "(internal/reflectlite.Value).Len"], unfollowed := true, recurses := true, apart := false }
def TombClashesSaid : Prop := tombClashesRow.holds Tryz.pinned (OpenSpec.ofChange tombClashesSpec)

/-- ITS FALSE NEIGHBOUR: 'it returns false'. Refute it at one input. -/
def tombClashesWrong : ChangeSpec := { name := "tombClashes", fn := fun _ => fun
  | [d1, d2] => { results := [.lit (.bool false)], args := [d1, d2] }
  | _ => none }
def TombClashesWrongFalsely : Prop := tombClashesRow.holds Tryz.pinned (OpenSpec.ofChange tombClashesWrong)

/-- 'barrowlaw10.TombForms': WHATEVER THE INPUT: true; the input reads as it did. -/
def tombFormsSpec : ChangeSpec := { name := "tombForms", fn := fun _ => fun
  | [d] => { results := [.lit (.bool true)], args := [d] }
  | _ => none }
def tombFormsRow : OpenClaim := { program := "ytaiepnaokhpmcaagreat", sum := "5ddb52c5c009ff8ada76dd6944cbd838bf400a05c62ab3eca3698a3e183c17dd", func := "barrow/barrowlaw10.TombForms", spec := "tombForms", inPlace := ["internal/bytealg.abigen_runtime_cmpstring", "internal/reflectlite.ValueOf", "internal/reflectlite.Swapper", "(internal/reflectlite.Value).Len"], unfollowed := true, recurses := true, apart := false }
def TombFormsSaid : Prop := tombFormsRow.holds Tryz.pinned (OpenSpec.ofChange tombFormsSpec)

/-- ITS FALSE NEIGHBOUR: 'it returns false'. Refute it at one input. -/
def tombFormsWrong : ChangeSpec := { name := "tombForms", fn := fun _ => fun
  | [d] => { results := [.lit (.bool false)], args := [d] }
  | _ => none }
def TombFormsWrongFalsely : Prop := tombFormsRow.holds Tryz.pinned (OpenSpec.ofChange tombFormsWrong)

/-- 'barrowlaw10.TombHears': WHATEVER THE INPUT: true; the input reads as it did. -/
def tombHearsSpec : ChangeSpec := { name := "tombHears", fn := fun _ => fun
  | [d1, d2, d3] => { results := [.lit (.bool true)], args := [d1, d2, d3] }
  | _ => none }
def tombHearsRow : OpenClaim := { program := "ytaiepnaokhpmcaagreat", sum := "5ddb52c5c009ff8ada76dd6944cbd838bf400a05c62ab3eca3698a3e183c17dd", func := "barrow/barrowlaw10.TombHears", spec := "tombHears", inPlace := ["internal/bytealg.abigen_runtime_cmpstring", "internal/reflectlite.ValueOf", "internal/reflectlite.Swapper", "(internal/reflectlite.Value).Len"], unfollowed := true, recurses := true, apart := false }
def TombHearsSaid : Prop := tombHearsRow.holds Tryz.pinned (OpenSpec.ofChange tombHearsSpec)

/-- ITS FALSE NEIGHBOUR: 'it returns false'. Refute it at one input. -/
def tombHearsWrong : ChangeSpec := { name := "tombHears", fn := fun _ => fun
  | [d1, d2, d3] => { results := [.lit (.bool false)], args := [d1, d2, d3] }
  | _ => none }
def TombHearsWrongFalsely : Prop := tombHearsRow.holds Tryz.pinned (OpenSpec.ofChange tombHearsWrong)

/-- 'barrowlaw10.TombUnion': WHATEVER THE INPUT: true; the input reads as it did. -/
def tombUnionSpec : ChangeSpec := { name := "tombUnion", fn := fun _ => fun
  | [d1, d2, d3] => { results := [.lit (.bool true)], args := [d1, d2, d3] }
  | _ => none }
def tombUnionRow : OpenClaim := { program := "ytaiepnaokhpmcaagreat", sum := "5ddb52c5c009ff8ada76dd6944cbd838bf400a05c62ab3eca3698a3e183c17dd", func := "barrow/barrowlaw10.TombUnion", spec := "tombUnion", inPlace := ["internal/bytealg.abigen_runtime_cmpstring", "internal/reflectlite.ValueOf", "internal/reflectlite.Swapper", "(internal/reflectlite.Value).Len"], unfollowed := true, recurses := true, apart := false }
def TombUnionSaid : Prop := tombUnionRow.holds Tryz.pinned (OpenSpec.ofChange tombUnionSpec)

/-- ITS FALSE NEIGHBOUR: 'it returns false'. Refute it at one input. -/
def tombUnionWrong : ChangeSpec := { name := "tombUnion", fn := fun _ => fun
  | [d1, d2, d3] => { results := [.lit (.bool false)], args := [d1, d2, d3] }
  | _ => none }
def TombUnionWrongFalsely : Prop := tombUnionRow.holds Tryz.pinned (OpenSpec.ofChange tombUnionWrong)

/-- 'barrowlaw10.TombRests': WHATEVER THE INPUT: true; the input reads as it did. -/
def tombRestsSpec : ChangeSpec := { name := "tombRests", fn := fun _ => fun
  | [d1, d2] => { results := [.lit (.bool true)], args := [d1, d2] }
  | _ => none }
def tombRestsRow : OpenClaim := { program := "ytaiepnaokhpmcaagreat", sum := "5ddb52c5c009ff8ada76dd6944cbd838bf400a05c62ab3eca3698a3e183c17dd", func := "barrow/barrowlaw10.TombRests", spec := "tombRests", inPlace := ["internal/bytealg.abigen_runtime_cmpstring", "internal/reflectlite.ValueOf", "internal/reflectlite.Swapper", "(internal/reflectlite.Value).Len"], unfollowed := true, recurses := true, apart := false }
def TombRestsSaid : Prop := tombRestsRow.holds Tryz.pinned (OpenSpec.ofChange tombRestsSpec)

/-- ITS FALSE NEIGHBOUR: 'it returns false'. Refute it at one input. -/
def tombRestsWrong : ChangeSpec := { name := "tombRests", fn := fun _ => fun
  | [d1, d2] => { results := [.lit (.bool false)], args := [d1, d2] }
  | _ => none }
def TombRestsWrongFalsely : Prop := tombRestsRow.holds Tryz.pinned (OpenSpec.ofChange tombRestsWrong)

/-- 'barrowlaw08.ActDecides': WHATEVER THE INPUT: true; the input reads as it did. -/
def actDecidesSpec : ChangeSpec := { name := "actDecides", fn := fun _ => fun
  | [d] => { results := [.lit (.bool true)], args := [d] }
  | _ => none }
def actDecidesRow : OpenClaim := { program := "ytaiepnaokhpmcaagreat", sum := "5ddb52c5c009ff8ada76dd6944cbd838bf400a05c62ab3eca3698a3e183c17dd", func := "barrow/barrowlaw08.ActDecides", spec := "actDecides", inPlace := ["internal/reflectlite.ValueOf", "internal/reflectlite.Swapper", "(internal/reflectlite.Value).Len", "internal/bytealg.abigen_runtime_cmpstring"], unfollowed := true, recurses := true, apart := false }
def ActDecidesSaid : Prop := actDecidesRow.holds Tryz.pinned (OpenSpec.ofChange actDecidesSpec)

/-- ITS FALSE NEIGHBOUR: 'it returns false'. Refute it at one input. -/
def actDecidesWrong : ChangeSpec := { name := "actDecides", fn := fun _ => fun
  | [d] => { results := [.lit (.bool false)], args := [d] }
  | _ => none }
def ActDecidesWrongFalsely : Prop := actDecidesRow.holds Tryz.pinned (OpenSpec.ofChange actDecidesWrong)

/-- 'barrowlaw08.ActMakes': WHATEVER THE INPUT: true; the input reads as it did. -/
def actMakesSpec : ChangeSpec := { name := "actMakes", fn := fun _ => fun
  | [d1, d2] => { results := [.lit (.bool true)], args := [d1, d2] }
  | _ => none }
def actMakesRow : OpenClaim := { program := "ytaiepnaokhpmcaagreat", sum := "5ddb52c5c009ff8ada76dd6944cbd838bf400a05c62ab3eca3698a3e183c17dd", func := "barrow/barrowlaw08.ActMakes", spec := "actMakes", inPlace := ["internal/reflectlite.ValueOf", "internal/reflectlite.Swapper", "(internal/reflectlite.Value).Len", "internal/bytealg.abigen_runtime_cmpstring"], unfollowed := true, recurses := true, apart := false }
def ActMakesSaid : Prop := actMakesRow.holds Tryz.pinned (OpenSpec.ofChange actMakesSpec)

/-- ITS FALSE NEIGHBOUR: 'it returns false'. Refute it at one input. -/
def actMakesWrong : ChangeSpec := { name := "actMakes", fn := fun _ => fun
  | [d1, d2] => { results := [.lit (.bool false)], args := [d1, d2] }
  | _ => none }
def ActMakesWrongFalsely : Prop := actMakesRow.holds Tryz.pinned (OpenSpec.ofChange actMakesWrong)

/- THE SECOND FORM. 'bulk': how many values and letters a reading holds, each counted each time it is reached (what is shared counts as often as it is met; a slice's spare places count too). A statement '..UptoSaid' is the law's where the arguments, and the package variables that the reading takes, are together of bulk at most 1048576: NARROWER than '..Said'. Prove '..Said' where nothing that the law and all that it calls make is longer than what came in: it says more and counts as full. Else prove '..UptoSaid'. A law counts once. -/
mutual
def uptoBulk {H : Type} : DataW H → Nat
  | .lit (.string bytes) => bytes.length + 1
  | .lit _ => 1
  | .nil => 1
  | .ptr d => uptoBulk d + 1
  | .slice elems spare => uptoBulkAll elems + uptoBulkAll spare + 1
  | .agg parts => uptoBulkAll parts + 1
  | .iface _ d => uptoBulk d + 1
  | .map entries => uptoBulkEntries entries + 1
  | .held _ => 1
def uptoBulkAll {H : Type} : List (DataW H) → Nat
  | [] => 0
  | d :: r => uptoBulk d + uptoBulkAll r
def uptoBulkEntries {H : Type} : List (Lit × DataW H) → Nat
  | [] => 0
  | x :: r => uptoBulkEntry x + uptoBulkEntries r
def uptoBulkEntry {H : Type} : Lit × DataW H → Nat
  | (.string bytes, d) => bytes.length + uptoBulk d + 1
  | (_, d) => uptoBulk d + 1
 end
def uptoSmall : (H : Type) → List (DataW H) → Bool := fun _ ds => decide (uptoBulkAll ds ≤ 1048576)
def OpenSpec.upto (s : _root_.Go.ChangeSpec) : _root_.Go.OpenSpec := { _root_.Go.OpenSpec.ofChange s with cond := some uptoSmall }

/-- 'barrowlaw10.TombOrders', WHERE WHAT IT READS IS OF BULK AT MOST 1048576: true; the input reads as it did. -/
def tombOrdersUptoRow : OpenClaim := { program := "ytaiepnaokhpmcaagreat", sum := "5ddb52c5c009ff8ada76dd6944cbd838bf400a05c62ab3eca3698a3e183c17dd", func := "barrow/barrowlaw10.TombOrders", spec := "tombOrders", inPlace := ["internal/bytealg.abigen_runtime_cmpstring"], unfollowed := true, recurses := true, apart := false, narrowed := true }
def TombOrdersUptoSaid : Prop := tombOrdersUptoRow.holds Tryz.pinned (OpenSpec.upto tombOrdersSpec)

/-- 'barrowlaw08.ActEffects', WHERE WHAT IT READS IS OF BULK AT MOST 1048576: true; the input reads as it did. -/
def actEffectsUptoRow : OpenClaim := { program := "ytaiepnaokhpmcaagreat", sum := "5ddb52c5c009ff8ada76dd6944cbd838bf400a05c62ab3eca3698a3e183c17dd", func := "barrow/barrowlaw08.ActEffects", spec := "actEffects", inPlace := ["internal/bytealg.abigen_runtime_cmpstring", "internal/reflectlite.ValueOf", "internal/reflectlite.Swapper", "(internal/reflectlite.Value).Len"], unfollowed := true, recurses := true, apart := false, narrowed := true }
def ActEffectsUptoSaid : Prop := actEffectsUptoRow.holds Tryz.pinned (OpenSpec.upto actEffectsSpec)

/-- 'barrowlaw10.TombOrderless', WHERE WHAT IT READS IS OF BULK AT MOST 1048576: true; the input reads as it did. -/
def tombOrderlessUptoRow : OpenClaim := { program := "ytaiepnaokhpmcaagreat", sum := "5ddb52c5c009ff8ada76dd6944cbd838bf400a05c62ab3eca3698a3e183c17dd", func := "barrow/barrowlaw10.TombOrderless", spec := "tombOrderless", inPlace := ["internal/bytealg.abigen_runtime_cmpstring", "internal/reflectlite.ValueOf", "internal/reflectlite.Swapper", "(internal/reflectlite.Value).Len"], unfollowed := true, recurses := true, apart := false, narrowed := true }
def TombOrderlessUptoSaid : Prop := tombOrderlessUptoRow.holds Tryz.pinned (OpenSpec.upto tombOrderlessSpec)

/-- 'barrowlaw10.TombLives', WHERE WHAT IT READS IS OF BULK AT MOST 1048576: true; the input reads as it did. -/
def tombLivesUptoRow : OpenClaim := { program := "ytaiepnaokhpmcaagreat", sum := "5ddb52c5c009ff8ada76dd6944cbd838bf400a05c62ab3eca3698a3e183c17dd", func := "barrow/barrowlaw10.TombLives", spec := "tombLives", inPlace := ["internal/bytealg.abigen_runtime_cmpstring", "internal/reflectlite.ValueOf", "internal/reflectlite.Swapper", "(internal/reflectlite.Value).Len"], unfollowed := true, recurses := true, apart := false, narrowed := true }
def TombLivesUptoSaid : Prop := tombLivesUptoRow.holds Tryz.pinned (OpenSpec.upto tombLivesSpec)

/-- 'barrowlaw10.TombJoins', WHERE WHAT IT READS IS OF BULK AT MOST 1048576: true; the input reads as it did. -/
def tombJoinsUptoRow : OpenClaim := { program := "ytaiepnaokhpmcaagreat", sum := "5ddb52c5c009ff8ada76dd6944cbd838bf400a05c62ab3eca3698a3e183c17dd", func := "barrow/barrowlaw10.TombJoins", spec := "tombJoins", inPlace := ["internal/bytealg.abigen_runtime_cmpstring", "internal/reflectlite.ValueOf", "internal/reflectlite.Swapper", "(internal/reflectlite.Value).Len"], unfollowed := true, recurses := true, apart := false, narrowed := true }
def TombJoinsUptoSaid : Prop := tombJoinsUptoRow.holds Tryz.pinned (OpenSpec.upto tombJoinsSpec)

/-- 'barrowlaw10.TombClashes', WHERE WHAT IT READS IS OF BULK AT MOST 1048576: true; the input reads as it did. -/
def tombClashesUptoRow : OpenClaim := { program := "ytaiepnaokhpmcaagreat", sum := "5ddb52c5c009ff8ada76dd6944cbd838bf400a05c62ab3eca3698a3e183c17dd", func := "barrow/barrowlaw10.TombClashes", spec := "tombClashes", inPlace := ["internal/bytealg.abigen_runtime_cmpstring", "internal/reflectlite.ValueOf", "internal/reflectlite.Swapper", "(internal/reflectlite.Value).Len"], unfollowed := true, recurses := true, apart := false, narrowed := true }
def TombClashesUptoSaid : Prop := tombClashesUptoRow.holds Tryz.pinned (OpenSpec.upto tombClashesSpec)

/-- 'barrowlaw10.TombForms', WHERE WHAT IT READS IS OF BULK AT MOST 1048576: true; the input reads as it did. -/
def tombFormsUptoRow : OpenClaim := { program := "ytaiepnaokhpmcaagreat", sum := "5ddb52c5c009ff8ada76dd6944cbd838bf400a05c62ab3eca3698a3e183c17dd", func := "barrow/barrowlaw10.TombForms", spec := "tombForms", inPlace := ["internal/bytealg.abigen_runtime_cmpstring", "internal/reflectlite.ValueOf", "internal/reflectlite.Swapper", "(internal/reflectlite.Value).Len"], unfollowed := true, recurses := true, apart := false, narrowed := true }
def TombFormsUptoSaid : Prop := tombFormsUptoRow.holds Tryz.pinned (OpenSpec.upto tombFormsSpec)

/-- 'barrowlaw10.TombHears', WHERE WHAT IT READS IS OF BULK AT MOST 1048576: true; the input reads as it did. -/
def tombHearsUptoRow : OpenClaim := { program := "ytaiepnaokhpmcaagreat", sum := "5ddb52c5c009ff8ada76dd6944cbd838bf400a05c62ab3eca3698a3e183c17dd", func := "barrow/barrowlaw10.TombHears", spec := "tombHears", inPlace := ["internal/bytealg.abigen_runtime_cmpstring", "internal/reflectlite.ValueOf", "internal/reflectlite.Swapper", "(internal/reflectlite.Value).Len"], unfollowed := true, recurses := true, apart := false, narrowed := true }
def TombHearsUptoSaid : Prop := tombHearsUptoRow.holds Tryz.pinned (OpenSpec.upto tombHearsSpec)

/-- 'barrowlaw10.TombUnion', WHERE WHAT IT READS IS OF BULK AT MOST 1048576: true; the input reads as it did. -/
def tombUnionUptoRow : OpenClaim := { program := "ytaiepnaokhpmcaagreat", sum := "5ddb52c5c009ff8ada76dd6944cbd838bf400a05c62ab3eca3698a3e183c17dd", func := "barrow/barrowlaw10.TombUnion", spec := "tombUnion", inPlace := ["internal/bytealg.abigen_runtime_cmpstring", "internal/reflectlite.ValueOf", "internal/reflectlite.Swapper", "(internal/reflectlite.Value).Len"], unfollowed := true, recurses := true, apart := false, narrowed := true }
def TombUnionUptoSaid : Prop := tombUnionUptoRow.holds Tryz.pinned (OpenSpec.upto tombUnionSpec)

/-- 'barrowlaw10.TombRests', WHERE WHAT IT READS IS OF BULK AT MOST 1048576: true; the input reads as it did. -/
def tombRestsUptoRow : OpenClaim := { program := "ytaiepnaokhpmcaagreat", sum := "5ddb52c5c009ff8ada76dd6944cbd838bf400a05c62ab3eca3698a3e183c17dd", func := "barrow/barrowlaw10.TombRests", spec := "tombRests", inPlace := ["internal/bytealg.abigen_runtime_cmpstring", "internal/reflectlite.ValueOf", "internal/reflectlite.Swapper", "(internal/reflectlite.Value).Len"], unfollowed := true, recurses := true, apart := false, narrowed := true }
def TombRestsUptoSaid : Prop := tombRestsUptoRow.holds Tryz.pinned (OpenSpec.upto tombRestsSpec)

/-- 'barrowlaw08.ActDecides', WHERE WHAT IT READS IS OF BULK AT MOST 1048576: true; the input reads as it did. -/
def actDecidesUptoRow : OpenClaim := { program := "ytaiepnaokhpmcaagreat", sum := "5ddb52c5c009ff8ada76dd6944cbd838bf400a05c62ab3eca3698a3e183c17dd", func := "barrow/barrowlaw08.ActDecides", spec := "actDecides", inPlace := ["internal/reflectlite.ValueOf", "internal/reflectlite.Swapper", "(internal/reflectlite.Value).Len", "internal/bytealg.abigen_runtime_cmpstring"], unfollowed := true, recurses := true, apart := false, narrowed := true }
def ActDecidesUptoSaid : Prop := actDecidesUptoRow.holds Tryz.pinned (OpenSpec.upto actDecidesSpec)

/-- 'barrowlaw08.ActMakes', WHERE WHAT IT READS IS OF BULK AT MOST 1048576: true; the input reads as it did. -/
def actMakesUptoRow : OpenClaim := { program := "ytaiepnaokhpmcaagreat", sum := "5ddb52c5c009ff8ada76dd6944cbd838bf400a05c62ab3eca3698a3e183c17dd", func := "barrow/barrowlaw08.ActMakes", spec := "actMakes", inPlace := ["internal/reflectlite.ValueOf", "internal/reflectlite.Swapper", "(internal/reflectlite.Value).Len", "internal/bytealg.abigen_runtime_cmpstring"], unfollowed := true, recurses := true, apart := false, narrowed := true }
def ActMakesUptoSaid : Prop := actMakesUptoRow.holds Tryz.pinned (OpenSpec.upto actMakesSpec)

end Rows
end Go.Proofs.YtaiepnaokhpmcaaGreat
