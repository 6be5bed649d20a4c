/-
  No cell of these rows narrows 'for every input' (looked for: loops, veiled, ifaces, maps, wideKeys, modest, calm, conditions, laid).
  DERIVED. THE GIVEN ROWS OF THIS SEAT. 5 by the template 'for every input the law returns true; each argument reads behind the call as it read before'; 0 by the template 'total and deterministic' (their statements: YtokhjapfekbobaaGreatTotals.lean).
  GIVEN WITH THE SEED: the statements are not yours to turn. If you find one false, say at which input.
  Laid BY PROGRAM, IN A SANDBOX (cutbox-rows.mjs): the forced cells as the released guide's own fill.sh prints them over the translation da4d00eb8508784c… (all of the seat's roots in one cut). By AI agents, Wed Nov 11 2026. No macro, syntax, notation, axiom, sorry.
-/
import Derived.Test.YtokhjapfekbobaaGreatChecked
import GoSem.Claim
import GoSem.ClaimJoined
import GoSem.ClaimMapViews
import Derived.JoinedTies
import Derived.KernelRfl
namespace Go.Proofs.YtokhjapfekbobaaGreat
/- THE CELL 'sum', in the pinned program and in every row, IS THE sha256 OF THE DUMP (.gsa) THAT YtokhjapfekbobaaGreatProg.lean LOADS. Nothing in Lean hashes anything: it is a label: what it is worth is what the hold of that sum in a sandbox is worth. -/
noncomputable def Tryz.pinned : Pinned := { name := "ytokhjapfekbobaagreat", sum := "da4d00eb8508784ccabb0d320d9cb6e902d6c0bfec95b846e4ee57215e1a0d0b", checked := Tryz.checked }
namespace Rows
def none {H : Type} : Left H := { results := [], args := [] }

/-- 'barrowlaw13.CompactBack': WHATEVER THE INPUT: true; the input reads as it did. -/
def compactBackSpec : ChangeSpec := { name := "compactBack", fn := fun _ => fun
  | [d] => { results := [.lit (.bool true)], args := [d] }
  | _ => none }
def compactBackRow : OpenClaim := { program := "ytokhjapfekbobaagreat", sum := "da4d00eb8508784ccabb0d320d9cb6e902d6c0bfec95b846e4ee57215e1a0d0b", func := "barrow/barrowlaw13.CompactBack", spec := "compactBack", inPlace := ["internal/bytealg.abigen_runtime_cmpstring", "internal/reflectlite.ValueOf", "internal/reflectlite.Swapper", "(internal/reflectlite.Value).Len"], unfollowed := true, recurses := true, apart := false }
def CompactBackSaid : Prop := compactBackRow.holds Tryz.pinned (OpenSpec.ofChange compactBackSpec)

/-- ITS FALSE NEIGHBOUR: 'it returns false'. Refute it at one input. -/
def compactBackWrong : ChangeSpec := { name := "compactBack", fn := fun _ => fun
  | [d] => { results := [.lit (.bool false)], args := [d] }
  | _ => none }
def CompactBackWrongFalsely : Prop := compactBackRow.holds Tryz.pinned (OpenSpec.ofChange compactBackWrong)

/-- 'barrowlaw13.CompactJoins': WHATEVER THE INPUT: true; the input reads as it did. -/
def compactJoinsSpec : ChangeSpec := { name := "compactJoins", fn := fun _ => fun
  | [d] => { results := [.lit (.bool true)], args := [d] }
  | _ => none }
def compactJoinsRow : OpenClaim := { program := "ytokhjapfekbobaagreat", sum := "da4d00eb8508784ccabb0d320d9cb6e902d6c0bfec95b846e4ee57215e1a0d0b", func := "barrow/barrowlaw13.CompactJoins", spec := "compactJoins", inPlace := ["internal/bytealg.abigen_runtime_cmpstring", "internal/reflectlite.ValueOf", "internal/reflectlite.Swapper", "(internal/reflectlite.Value).Len"], unfollowed := true, recurses := true, apart := false }
def CompactJoinsSaid : Prop := compactJoinsRow.holds Tryz.pinned (OpenSpec.ofChange compactJoinsSpec)

/-- ITS FALSE NEIGHBOUR: 'it returns false'. Refute it at one input. -/
def compactJoinsWrong : ChangeSpec := { name := "compactJoins", fn := fun _ => fun
  | [d] => { results := [.lit (.bool false)], args := [d] }
  | _ => none }
def CompactJoinsWrongFalsely : Prop := compactJoinsRow.holds Tryz.pinned (OpenSpec.ofChange compactJoinsWrong)

/-- 'barrowlaw13.CompactSeen': WHATEVER THE INPUT: true; the input reads as it did. -/
def compactSeenSpec : ChangeSpec := { name := "compactSeen", fn := fun _ => fun
  | [d] => { results := [.lit (.bool true)], args := [d] }
  | _ => none }
def compactSeenRow : OpenClaim := { program := "ytokhjapfekbobaagreat", sum := "da4d00eb8508784ccabb0d320d9cb6e902d6c0bfec95b846e4ee57215e1a0d0b", func := "barrow/barrowlaw13.CompactSeen", spec := "compactSeen", inPlace := ["internal/bytealg.abigen_runtime_cmpstring", "internal/reflectlite.ValueOf", "internal/reflectlite.Swapper", "(internal/reflectlite.Value).Len"], unfollowed := true, recurses := true, apart := false }
def CompactSeenSaid : Prop := compactSeenRow.holds Tryz.pinned (OpenSpec.ofChange compactSeenSpec)

/-- ITS FALSE NEIGHBOUR: 'it returns false'. Refute it at one input. -/
def compactSeenWrong : ChangeSpec := { name := "compactSeen", fn := fun _ => fun
  | [d] => { results := [.lit (.bool false)], args := [d] }
  | _ => none }
def CompactSeenWrongFalsely : Prop := compactSeenRow.holds Tryz.pinned (OpenSpec.ofChange compactSeenWrong)

/-- 'barrowlaw14.DigestHeals': WHATEVER THE INPUT: true; the input reads as it did. -/
def digestHealsSpec : ChangeSpec := { name := "digestHeals", fn := fun _ => fun
  | [d1, d2] => { results := [.lit (.bool true)], args := [d1, d2] }
  | _ => none }
def digestHealsRow : OpenClaim := { program := "ytokhjapfekbobaagreat", sum := "da4d00eb8508784ccabb0d320d9cb6e902d6c0bfec95b846e4ee57215e1a0d0b", func := "barrow/barrowlaw14.DigestHeals", spec := "digestHeals", inPlace := ["internal/bytealg.abigen_runtime_cmpstring"], unfollowed := true, recurses := true, apart := false }
def DigestHealsSaid : Prop := digestHealsRow.holds Tryz.pinned (OpenSpec.ofChange digestHealsSpec)

/-- ITS FALSE NEIGHBOUR: 'it returns false'. Refute it at one input. -/
def digestHealsWrong : ChangeSpec := { name := "digestHeals", fn := fun _ => fun
  | [d1, d2] => { results := [.lit (.bool false)], args := [d1, d2] }
  | _ => none }
def DigestHealsWrongFalsely : Prop := digestHealsRow.holds Tryz.pinned (OpenSpec.ofChange digestHealsWrong)

/-- 'barrowlaw14.DigestHealsFacts': WHATEVER THE INPUT: true; the input reads as it did. -/
def digestHealsFactsSpec : ChangeSpec := { name := "digestHealsFacts", fn := fun _ => fun
  | [d1, d2] => { results := [.lit (.bool true)], args := [d1, d2] }
  | _ => none }
def digestHealsFactsRow : OpenClaim := { program := "ytokhjapfekbobaagreat", sum := "da4d00eb8508784ccabb0d320d9cb6e902d6c0bfec95b846e4ee57215e1a0d0b", func := "barrow/barrowlaw14.DigestHealsFacts", spec := "digestHealsFacts", inPlace := ["internal/bytealg.abigen_runtime_cmpstring", "internal/reflectlite.ValueOf", "internal/reflectlite.Swapper", "(internal/reflectlite.Value).Len"], unfollowed := true, recurses := true, apart := false }
def DigestHealsFactsSaid : Prop := digestHealsFactsRow.holds Tryz.pinned (OpenSpec.ofChange digestHealsFactsSpec)

/-- ITS FALSE NEIGHBOUR: 'it returns false'. Refute it at one input. -/
def digestHealsFactsWrong : ChangeSpec := { name := "digestHealsFacts", fn := fun _ => fun
  | [d1, d2] => { results := [.lit (.bool false)], args := [d1, d2] }
  | _ => none }
def DigestHealsFactsWrongFalsely : Prop := digestHealsFactsRow.holds Tryz.pinned (OpenSpec.ofChange digestHealsFactsWrong)

/- THE SECOND FORM. 'bulk': how many values and letters a reading holds, each counted each time it is reached (what is shared counts as often as it is met; a slice's spare places count too). A statement '..UptoSaid' is the law's where the arguments, and the package variables that the reading takes, are together of bulk at most 1048576: NARROWER than '..Said'. Prove '..Said' where nothing that the law and all that it calls make is longer than what came in: it says more and counts as full. Else prove '..UptoSaid'. A law counts once. -/
mutual
def uptoBulk {H : Type} : DataW H → Nat
  | .lit (.string bytes) => bytes.length + 1
  | .lit _ => 1
  | .nil => 1
  | .ptr d => uptoBulk d + 1
  | .slice elems spare => uptoBulkAll elems + uptoBulkAll spare + 1
  | .agg parts => uptoBulkAll parts + 1
  | .iface _ d => uptoBulk d + 1
  | .map entries => uptoBulkEntries entries + 1
  | .held _ => 1
def uptoBulkAll {H : Type} : List (DataW H) → Nat
  | [] => 0
  | d :: r => uptoBulk d + uptoBulkAll r
def uptoBulkEntries {H : Type} : List (Lit × DataW H) → Nat
  | [] => 0
  | x :: r => uptoBulkEntry x + uptoBulkEntries r
def uptoBulkEntry {H : Type} : Lit × DataW H → Nat
  | (.string bytes, d) => bytes.length + uptoBulk d + 1
  | (_, d) => uptoBulk d + 1
 end
def uptoSmall : (H : Type) → List (DataW H) → Bool := fun _ ds => decide (uptoBulkAll ds ≤ 1048576)
def OpenSpec.upto (s : _root_.Go.ChangeSpec) : _root_.Go.OpenSpec := { _root_.Go.OpenSpec.ofChange s with cond := some uptoSmall }

/-- 'barrowlaw13.CompactBack', WHERE WHAT IT READS IS OF BULK AT MOST 1048576: true; the input reads as it did. -/
def compactBackUptoRow : OpenClaim := { program := "ytokhjapfekbobaagreat", sum := "da4d00eb8508784ccabb0d320d9cb6e902d6c0bfec95b846e4ee57215e1a0d0b", func := "barrow/barrowlaw13.CompactBack", spec := "compactBack", inPlace := ["internal/bytealg.abigen_runtime_cmpstring", "internal/reflectlite.ValueOf", "internal/reflectlite.Swapper", "(internal/reflectlite.Value).Len"], unfollowed := true, recurses := true, apart := false, narrowed := true }
def CompactBackUptoSaid : Prop := compactBackUptoRow.holds Tryz.pinned (OpenSpec.upto compactBackSpec)

/-- 'barrowlaw13.CompactJoins', WHERE WHAT IT READS IS OF BULK AT MOST 1048576: true; the input reads as it did. -/
def compactJoinsUptoRow : OpenClaim := { program := "ytokhjapfekbobaagreat", sum := "da4d00eb8508784ccabb0d320d9cb6e902d6c0bfec95b846e4ee57215e1a0d0b", func := "barrow/barrowlaw13.CompactJoins", spec := "compactJoins", inPlace := ["internal/bytealg.abigen_runtime_cmpstring", "internal/reflectlite.ValueOf", "internal/reflectlite.Swapper", "(internal/reflectlite.Value).Len"], unfollowed := true, recurses := true, apart := false, narrowed := true }
def CompactJoinsUptoSaid : Prop := compactJoinsUptoRow.holds Tryz.pinned (OpenSpec.upto compactJoinsSpec)

/-- 'barrowlaw13.CompactSeen', WHERE WHAT IT READS IS OF BULK AT MOST 1048576: true; the input reads as it did. -/
def compactSeenUptoRow : OpenClaim := { program := "ytokhjapfekbobaagreat", sum := "da4d00eb8508784ccabb0d320d9cb6e902d6c0bfec95b846e4ee57215e1a0d0b", func := "barrow/barrowlaw13.CompactSeen", spec := "compactSeen", inPlace := ["internal/bytealg.abigen_runtime_cmpstring", "internal/reflectlite.ValueOf", "internal/reflectlite.Swapper", "(internal/reflectlite.Value).Len"], unfollowed := true, recurses := true, apart := false, narrowed := true }
def CompactSeenUptoSaid : Prop := compactSeenUptoRow.holds Tryz.pinned (OpenSpec.upto compactSeenSpec)

/-- 'barrowlaw14.DigestHeals', WHERE WHAT IT READS IS OF BULK AT MOST 1048576: true; the input reads as it did. -/
def digestHealsUptoRow : OpenClaim := { program := "ytokhjapfekbobaagreat", sum := "da4d00eb8508784ccabb0d320d9cb6e902d6c0bfec95b846e4ee57215e1a0d0b", func := "barrow/barrowlaw14.DigestHeals", spec := "digestHeals", inPlace := ["internal/bytealg.abigen_runtime_cmpstring"], unfollowed := true, recurses := true, apart := false, narrowed := true }
def DigestHealsUptoSaid : Prop := digestHealsUptoRow.holds Tryz.pinned (OpenSpec.upto digestHealsSpec)

/-- 'barrowlaw14.DigestHealsFacts', WHERE WHAT IT READS IS OF BULK AT MOST 1048576: true; the input reads as it did. -/
def digestHealsFactsUptoRow : OpenClaim := { program := "ytokhjapfekbobaagreat", sum := "da4d00eb8508784ccabb0d320d9cb6e902d6c0bfec95b846e4ee57215e1a0d0b", func := "barrow/barrowlaw14.DigestHealsFacts", spec := "digestHealsFacts", inPlace := ["internal/bytealg.abigen_runtime_cmpstring", "internal/reflectlite.ValueOf", "internal/reflectlite.Swapper", "(internal/reflectlite.Value).Len"], unfollowed := true, recurses := true, apart := false, narrowed := true }
def DigestHealsFactsUptoSaid : Prop := digestHealsFactsUptoRow.holds Tryz.pinned (OpenSpec.upto digestHealsFactsSpec)

end Rows
end Go.Proofs.YtokhjapfekbobaaGreat
