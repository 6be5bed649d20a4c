/-
  No cell of these rows narrows 'for every input' (looked for: loops, veiled, ifaces, maps, wideKeys, modest, calm, conditions, laid).
  DERIVED. THE GIVEN ROWS OF THIS SEAT. 11 by the template 'for every input the law returns true; each argument reads behind the call as it read before'; 0 by the template 'total and deterministic' (their statements: YtjngmlkaijpbgaaTotals.lean).
  GIVEN WITH THE SEED: the statements are not yours to turn. If you find one false, say at which input.
  Laid BY PROGRAM, IN A SANDBOX (cutbox-rows.mjs): the forced cells as the released guide's own fill.sh prints them over the translation 4f84a6d5dbdbff9f… (all of the seat's roots in one cut). By AI agents, Wed Nov 11 2026. No macro, syntax, notation, axiom, sorry.
-/
import Derived.Test.YtjngmlkaijpbgaaChecked
import GoSem.Claim
import GoSem.ClaimJoined
import GoSem.ClaimMapViews
import Derived.JoinedTies
import Derived.KernelRfl
namespace Go.Proofs.Ytjngmlkaijpbgaa
/- THE CELL 'sum', in the pinned program and in every row, IS THE sha256 OF THE DUMP (.gsa) THAT YtjngmlkaijpbgaaProg.lean LOADS. Nothing in Lean hashes anything: it is a label: what it is worth is what the hold of that sum in a sandbox is worth. -/
noncomputable def Try.pinned : Pinned := { name := "ytjngmlkaijpbgaa", sum := "4f84a6d5dbdbff9f4155ebb3f3de55c610522c82429ea4c84b12de7b804f00c4", checked := Try.checked }
namespace Rows
def none {H : Type} : Left H := { results := [], args := [] }

/-- 'barrowlaw06.LinesChecks': WHATEVER THE INPUT: true; the input reads as it did. -/
def linesChecksSpec : ChangeSpec := { name := "linesChecks", fn := fun _ => fun
  | [d] => { results := [.lit (.bool true)], args := [d] }
  | _ => none }
def linesChecksRow : OpenClaim := { program := "ytjngmlkaijpbgaa", sum := "4f84a6d5dbdbff9f4155ebb3f3de55c610522c82429ea4c84b12de7b804f00c4", func := "barrow/barrowlaw06.LinesChecks", spec := "linesChecks", apart := false }
def LinesChecksSaid : Prop := linesChecksRow.holds Try.pinned (OpenSpec.ofChange linesChecksSpec)

/-- ITS FALSE NEIGHBOUR: 'it returns false'. Refute it at one input. -/
def linesChecksWrong : ChangeSpec := { name := "linesChecks", fn := fun _ => fun
  | [d] => { results := [.lit (.bool false)], args := [d] }
  | _ => none }
def LinesChecksWrongFalsely : Prop := linesChecksRow.holds Try.pinned (OpenSpec.ofChange linesChecksWrong)

/-- 'barrowlaw06.LinesPicks': WHATEVER THE INPUT: true; the input reads as it did. -/
def linesPicksSpec : ChangeSpec := { name := "linesPicks", fn := fun _ => fun
  | [d] => { results := [.lit (.bool true)], args := [d] }
  | _ => none }
def linesPicksRow : OpenClaim := { program := "ytjngmlkaijpbgaa", sum := "4f84a6d5dbdbff9f4155ebb3f3de55c610522c82429ea4c84b12de7b804f00c4", func := "barrow/barrowlaw06.LinesPicks", spec := "linesPicks", unfollowed := true, recurses := true, apart := false }
def LinesPicksSaid : Prop := linesPicksRow.holds Try.pinned (OpenSpec.ofChange linesPicksSpec)

/-- ITS FALSE NEIGHBOUR: 'it returns false'. Refute it at one input. -/
def linesPicksWrong : ChangeSpec := { name := "linesPicks", fn := fun _ => fun
  | [d] => { results := [.lit (.bool false)], args := [d] }
  | _ => none }
def LinesPicksWrongFalsely : Prop := linesPicksRow.holds Try.pinned (OpenSpec.ofChange linesPicksWrong)

/-- 'barrowlaw06.LinesOwners': WHATEVER THE INPUT: true; the input reads as it did. -/
def linesOwnersSpec : ChangeSpec := { name := "linesOwners", fn := fun _ => fun
  | [d1, d2] => { results := [.lit (.bool true)], args := [d1, d2] }
  | _ => none }
def linesOwnersRow : OpenClaim := { program := "ytjngmlkaijpbgaa", sum := "4f84a6d5dbdbff9f4155ebb3f3de55c610522c82429ea4c84b12de7b804f00c4", func := "barrow/barrowlaw06.LinesOwners", spec := "linesOwners", unfollowed := true, recurses := true, apart := false }
def LinesOwnersSaid : Prop := linesOwnersRow.holds Try.pinned (OpenSpec.ofChange linesOwnersSpec)

/-- ITS FALSE NEIGHBOUR: 'it returns false'. Refute it at one input. -/
def linesOwnersWrong : ChangeSpec := { name := "linesOwners", fn := fun _ => fun
  | [d1, d2] => { results := [.lit (.bool false)], args := [d1, d2] }
  | _ => none }
def LinesOwnersWrongFalsely : Prop := linesOwnersRow.holds Try.pinned (OpenSpec.ofChange linesOwnersWrong)

/-- 'barrowlaw06.LinesSorts': WHATEVER THE INPUT: true; the input reads as it did. -/
def linesSortsSpec : ChangeSpec := { name := "linesSorts", fn := fun _ => fun
  | [d1, d2] => { results := [.lit (.bool true)], args := [d1, d2] }
  | _ => none }
def linesSortsRow : OpenClaim := { program := "ytjngmlkaijpbgaa", sum := "4f84a6d5dbdbff9f4155ebb3f3de55c610522c82429ea4c84b12de7b804f00c4", func := "barrow/barrowlaw06.LinesSorts", spec := "linesSorts", inPlace := ["internal/reflectlite.ValueOf", "internal/reflectlite.Swapper", "(internal/reflectlite.Value).Len"], unfollowed := true, recurses := true, apart := false }
def LinesSortsSaid : Prop := linesSortsRow.holds Try.pinned (OpenSpec.ofChange linesSortsSpec)

/-- ITS FALSE NEIGHBOUR: 'it returns false'. Refute it at one input. -/
def linesSortsWrong : ChangeSpec := { name := "linesSorts", fn := fun _ => fun
  | [d1, d2] => { results := [.lit (.bool false)], args := [d1, d2] }
  | _ => none }
def LinesSortsWrongFalsely : Prop := linesSortsRow.holds Try.pinned (OpenSpec.ofChange linesSortsWrong)

/-- 'barrowlaw06.LinesUnions': WHATEVER THE INPUT: true; the input reads as it did. -/
def linesUnionsSpec : ChangeSpec := { name := "linesUnions", fn := fun _ => fun
  | [d] => { results := [.lit (.bool true)], args := [d] }
  | _ => none }
def linesUnionsRow : OpenClaim := { program := "ytjngmlkaijpbgaa", sum := "4f84a6d5dbdbff9f4155ebb3f3de55c610522c82429ea4c84b12de7b804f00c4", func := "barrow/barrowlaw06.LinesUnions", spec := "linesUnions", inPlace := ["internal/reflectlite.ValueOf", "internal/reflectlite.Swapper", "(internal/reflectlite.Value).Len"], unfollowed := true, recurses := true, apart := false }
def LinesUnionsSaid : Prop := linesUnionsRow.holds Try.pinned (OpenSpec.ofChange linesUnionsSpec)

/-- ITS FALSE NEIGHBOUR: 'it returns false'. Refute it at one input. -/
def linesUnionsWrong : ChangeSpec := { name := "linesUnions", fn := fun _ => fun
  | [d] => { results := [.lit (.bool false)], args := [d] }
  | _ => none }
def LinesUnionsWrongFalsely : Prop := linesUnionsRow.holds Try.pinned (OpenSpec.ofChange linesUnionsWrong)

/-- 'barrowlaw06.LinesReads': WHATEVER THE INPUT: true; the input reads as it did. -/
def linesReadsSpec : ChangeSpec := { name := "linesReads", fn := fun _ => fun
  | [d1, d2] => { results := [.lit (.bool true)], args := [d1, d2] }
  | _ => none }
def linesReadsRow : OpenClaim := { program := "ytjngmlkaijpbgaa", sum := "4f84a6d5dbdbff9f4155ebb3f3de55c610522c82429ea4c84b12de7b804f00c4", func := "barrow/barrowlaw06.LinesReads", spec := "linesReads", inPlace := ["internal/reflectlite.ValueOf", "internal/reflectlite.Swapper", "(internal/reflectlite.Value).Len"], unfollowed := true, recurses := true, apart := false }
def LinesReadsSaid : Prop := linesReadsRow.holds Try.pinned (OpenSpec.ofChange linesReadsSpec)

/-- ITS FALSE NEIGHBOUR: 'it returns false'. Refute it at one input. -/
def linesReadsWrong : ChangeSpec := { name := "linesReads", fn := fun _ => fun
  | [d1, d2] => { results := [.lit (.bool false)], args := [d1, d2] }
  | _ => none }
def LinesReadsWrongFalsely : Prop := linesReadsRow.holds Try.pinned (OpenSpec.ofChange linesReadsWrong)

/-- 'barrowlaw06.LinesAdds': WHATEVER THE INPUT: true; the input reads as it did. -/
def linesAddsSpec : ChangeSpec := { name := "linesAdds", fn := fun _ => fun
  | [d] => { results := [.lit (.bool true)], args := [d] }
  | _ => none }
def linesAddsRow : OpenClaim := { program := "ytjngmlkaijpbgaa", sum := "4f84a6d5dbdbff9f4155ebb3f3de55c610522c82429ea4c84b12de7b804f00c4", func := "barrow/barrowlaw06.LinesAdds", spec := "linesAdds", inPlace := ["internal/reflectlite.ValueOf", "internal/reflectlite.Swapper", "(internal/reflectlite.Value).Len"], unfollowed := true, recurses := true, apart := false }
def LinesAddsSaid : Prop := linesAddsRow.holds Try.pinned (OpenSpec.ofChange linesAddsSpec)

/-- ITS FALSE NEIGHBOUR: 'it returns false'. Refute it at one input. -/
def linesAddsWrong : ChangeSpec := { name := "linesAdds", fn := fun _ => fun
  | [d] => { results := [.lit (.bool false)], args := [d] }
  | _ => none }
def LinesAddsWrongFalsely : Prop := linesAddsRow.holds Try.pinned (OpenSpec.ofChange linesAddsWrong)

/-- 'barrowlaw06.LinesSides': WHATEVER THE INPUT: true; the input reads as it did. -/
def linesSidesSpec : ChangeSpec := { name := "linesSides", fn := fun _ => fun
  | [d] => { results := [.lit (.bool true)], args := [d] }
  | _ => none }
def linesSidesRow : OpenClaim := { program := "ytjngmlkaijpbgaa", sum := "4f84a6d5dbdbff9f4155ebb3f3de55c610522c82429ea4c84b12de7b804f00c4", func := "barrow/barrowlaw06.LinesSides", spec := "linesSides", unfollowed := true, recurses := true, apart := false }
def LinesSidesSaid : Prop := linesSidesRow.holds Try.pinned (OpenSpec.ofChange linesSidesSpec)

/-- ITS FALSE NEIGHBOUR: 'it returns false'. Refute it at one input. -/
def linesSidesWrong : ChangeSpec := { name := "linesSides", fn := fun _ => fun
  | [d] => { results := [.lit (.bool false)], args := [d] }
  | _ => none }
def LinesSidesWrongFalsely : Prop := linesSidesRow.holds Try.pinned (OpenSpec.ofChange linesSidesWrong)

/-- 'barrowlaw06.LinesSettles': WHATEVER THE INPUT: true; the input reads as it did. -/
def linesSettlesSpec : ChangeSpec := { name := "linesSettles", fn := fun _ => fun
  | [d1, d2] => { results := [.lit (.bool true)], args := [d1, d2] }
  | _ => none }
def linesSettlesRow : OpenClaim := { program := "ytjngmlkaijpbgaa", sum := "4f84a6d5dbdbff9f4155ebb3f3de55c610522c82429ea4c84b12de7b804f00c4", func := "barrow/barrowlaw06.LinesSettles", spec := "linesSettles", inPlace := ["internal/reflectlite.ValueOf", "internal/reflectlite.Swapper", "(internal/reflectlite.Value).Len"], unfollowed := true, recurses := true, apart := false }
def LinesSettlesSaid : Prop := linesSettlesRow.holds Try.pinned (OpenSpec.ofChange linesSettlesSpec)

/-- ITS FALSE NEIGHBOUR: 'it returns false'. Refute it at one input. -/
def linesSettlesWrong : ChangeSpec := { name := "linesSettles", fn := fun _ => fun
  | [d1, d2] => { results := [.lit (.bool false)], args := [d1, d2] }
  | _ => none }
def LinesSettlesWrongFalsely : Prop := linesSettlesRow.holds Try.pinned (OpenSpec.ofChange linesSettlesWrong)

/-- 'barrowlaw06.LinesFolds': WHATEVER THE INPUT: true; the input reads as it did. -/
def linesFoldsSpec : ChangeSpec := { name := "linesFolds", fn := fun _ => fun
  | [d1, d2] => { results := [.lit (.bool true)], args := [d1, d2] }
  | _ => none }
def linesFoldsRow : OpenClaim := { program := "ytjngmlkaijpbgaa", sum := "4f84a6d5dbdbff9f4155ebb3f3de55c610522c82429ea4c84b12de7b804f00c4", func := "barrow/barrowlaw06.LinesFolds", spec := "linesFolds", inPlace := ["internal/reflectlite.ValueOf", "internal/reflectlite.Swapper", "(internal/reflectlite.Value).Len"], unfollowed := true, recurses := true, apart := false }
def LinesFoldsSaid : Prop := linesFoldsRow.holds Try.pinned (OpenSpec.ofChange linesFoldsSpec)

/-- ITS FALSE NEIGHBOUR: 'it returns false'. Refute it at one input. -/
def linesFoldsWrong : ChangeSpec := { name := "linesFolds", fn := fun _ => fun
  | [d1, d2] => { results := [.lit (.bool false)], args := [d1, d2] }
  | _ => none }
def LinesFoldsWrongFalsely : Prop := linesFoldsRow.holds Try.pinned (OpenSpec.ofChange linesFoldsWrong)

/-- 'barrowlaw06.LinesParts': WHATEVER THE INPUT: true; the input reads as it did. -/
def linesPartsSpec : ChangeSpec := { name := "linesParts", fn := fun _ => fun
  | [d] => { results := [.lit (.bool true)], args := [d] }
  | _ => none }
def linesPartsRow : OpenClaim := { program := "ytjngmlkaijpbgaa", sum := "4f84a6d5dbdbff9f4155ebb3f3de55c610522c82429ea4c84b12de7b804f00c4", func := "barrow/barrowlaw06.LinesParts", spec := "linesParts", inPlace := ["internal/reflectlite.ValueOf", "internal/reflectlite.Swapper", "(internal/reflectlite.Value).Len"], unfollowed := true, recurses := true, apart := false }
def LinesPartsSaid : Prop := linesPartsRow.holds Try.pinned (OpenSpec.ofChange linesPartsSpec)

/-- ITS FALSE NEIGHBOUR: 'it returns false'. Refute it at one input. -/
def linesPartsWrong : ChangeSpec := { name := "linesParts", fn := fun _ => fun
  | [d] => { results := [.lit (.bool false)], args := [d] }
  | _ => none }
def LinesPartsWrongFalsely : Prop := linesPartsRow.holds Try.pinned (OpenSpec.ofChange linesPartsWrong)

/- THE SECOND FORM. 'bulk': how many values and letters a reading holds, each counted each time it is reached (what is shared counts as often as it is met; a slice's spare places count too). A statement '..UptoSaid' is the law's where the arguments, and the package variables that the reading takes, are together of bulk at most 1048576: NARROWER than '..Said'. Prove '..Said' where nothing that the law and all that it calls make is longer than what came in: it says more and counts as full. Else prove '..UptoSaid'. A law counts once. -/
mutual
def uptoBulk {H : Type} : DataW H → Nat
  | .lit (.string bytes) => bytes.length + 1
  | .lit _ => 1
  | .nil => 1
  | .ptr d => uptoBulk d + 1
  | .slice elems spare => uptoBulkAll elems + uptoBulkAll spare + 1
  | .agg parts => uptoBulkAll parts + 1
  | .iface _ d => uptoBulk d + 1
  | .map entries => uptoBulkEntries entries + 1
  | .held _ => 1
def uptoBulkAll {H : Type} : List (DataW H) → Nat
  | [] => 0
  | d :: r => uptoBulk d + uptoBulkAll r
def uptoBulkEntries {H : Type} : List (Lit × DataW H) → Nat
  | [] => 0
  | x :: r => uptoBulkEntry x + uptoBulkEntries r
def uptoBulkEntry {H : Type} : Lit × DataW H → Nat
  | (.string bytes, d) => bytes.length + uptoBulk d + 1
  | (_, d) => uptoBulk d + 1
 end
def uptoSmall : (H : Type) → List (DataW H) → Bool := fun _ ds => decide (uptoBulkAll ds ≤ 1048576)
def OpenSpec.upto (s : _root_.Go.ChangeSpec) : _root_.Go.OpenSpec := { _root_.Go.OpenSpec.ofChange s with cond := some uptoSmall }

/-- 'barrowlaw06.LinesChecks', WHERE WHAT IT READS IS OF BULK AT MOST 1048576: true; the input reads as it did. -/
def linesChecksUptoRow : OpenClaim := { program := "ytjngmlkaijpbgaa", sum := "4f84a6d5dbdbff9f4155ebb3f3de55c610522c82429ea4c84b12de7b804f00c4", func := "barrow/barrowlaw06.LinesChecks", spec := "linesChecks", apart := false, narrowed := true }
def LinesChecksUptoSaid : Prop := linesChecksUptoRow.holds Try.pinned (OpenSpec.upto linesChecksSpec)

/-- 'barrowlaw06.LinesPicks', WHERE WHAT IT READS IS OF BULK AT MOST 1048576: true; the input reads as it did. -/
def linesPicksUptoRow : OpenClaim := { program := "ytjngmlkaijpbgaa", sum := "4f84a6d5dbdbff9f4155ebb3f3de55c610522c82429ea4c84b12de7b804f00c4", func := "barrow/barrowlaw06.LinesPicks", spec := "linesPicks", unfollowed := true, recurses := true, apart := false, narrowed := true }
def LinesPicksUptoSaid : Prop := linesPicksUptoRow.holds Try.pinned (OpenSpec.upto linesPicksSpec)

/-- 'barrowlaw06.LinesOwners', WHERE WHAT IT READS IS OF BULK AT MOST 1048576: true; the input reads as it did. -/
def linesOwnersUptoRow : OpenClaim := { program := "ytjngmlkaijpbgaa", sum := "4f84a6d5dbdbff9f4155ebb3f3de55c610522c82429ea4c84b12de7b804f00c4", func := "barrow/barrowlaw06.LinesOwners", spec := "linesOwners", unfollowed := true, recurses := true, apart := false, narrowed := true }
def LinesOwnersUptoSaid : Prop := linesOwnersUptoRow.holds Try.pinned (OpenSpec.upto linesOwnersSpec)

/-- 'barrowlaw06.LinesSorts', WHERE WHAT IT READS IS OF BULK AT MOST 1048576: true; the input reads as it did. -/
def linesSortsUptoRow : OpenClaim := { program := "ytjngmlkaijpbgaa", sum := "4f84a6d5dbdbff9f4155ebb3f3de55c610522c82429ea4c84b12de7b804f00c4", func := "barrow/barrowlaw06.LinesSorts", spec := "linesSorts", inPlace := ["internal/reflectlite.ValueOf", "internal/reflectlite.Swapper", "(internal/reflectlite.Value).Len"], unfollowed := true, recurses := true, apart := false, narrowed := true }
def LinesSortsUptoSaid : Prop := linesSortsUptoRow.holds Try.pinned (OpenSpec.upto linesSortsSpec)

/-- 'barrowlaw06.LinesUnions', WHERE WHAT IT READS IS OF BULK AT MOST 1048576: true; the input reads as it did. -/
def linesUnionsUptoRow : OpenClaim := { program := "ytjngmlkaijpbgaa", sum := "4f84a6d5dbdbff9f4155ebb3f3de55c610522c82429ea4c84b12de7b804f00c4", func := "barrow/barrowlaw06.LinesUnions", spec := "linesUnions", inPlace := ["internal/reflectlite.ValueOf", "internal/reflectlite.Swapper", "(internal/reflectlite.Value).Len"], unfollowed := true, recurses := true, apart := false, narrowed := true }
def LinesUnionsUptoSaid : Prop := linesUnionsUptoRow.holds Try.pinned (OpenSpec.upto linesUnionsSpec)

/-- 'barrowlaw06.LinesReads', WHERE WHAT IT READS IS OF BULK AT MOST 1048576: true; the input reads as it did. -/
def linesReadsUptoRow : OpenClaim := { program := "ytjngmlkaijpbgaa", sum := "4f84a6d5dbdbff9f4155ebb3f3de55c610522c82429ea4c84b12de7b804f00c4", func := "barrow/barrowlaw06.LinesReads", spec := "linesReads", inPlace := ["internal/reflectlite.ValueOf", "internal/reflectlite.Swapper", "(internal/reflectlite.Value).Len"], unfollowed := true, recurses := true, apart := false, narrowed := true }
def LinesReadsUptoSaid : Prop := linesReadsUptoRow.holds Try.pinned (OpenSpec.upto linesReadsSpec)

/-- 'barrowlaw06.LinesAdds', WHERE WHAT IT READS IS OF BULK AT MOST 1048576: true; the input reads as it did. -/
def linesAddsUptoRow : OpenClaim := { program := "ytjngmlkaijpbgaa", sum := "4f84a6d5dbdbff9f4155ebb3f3de55c610522c82429ea4c84b12de7b804f00c4", func := "barrow/barrowlaw06.LinesAdds", spec := "linesAdds", inPlace := ["internal/reflectlite.ValueOf", "internal/reflectlite.Swapper", "(internal/reflectlite.Value).Len"], unfollowed := true, recurses := true, apart := false, narrowed := true }
def LinesAddsUptoSaid : Prop := linesAddsUptoRow.holds Try.pinned (OpenSpec.upto linesAddsSpec)

/-- 'barrowlaw06.LinesSides', WHERE WHAT IT READS IS OF BULK AT MOST 1048576: true; the input reads as it did. -/
def linesSidesUptoRow : OpenClaim := { program := "ytjngmlkaijpbgaa", sum := "4f84a6d5dbdbff9f4155ebb3f3de55c610522c82429ea4c84b12de7b804f00c4", func := "barrow/barrowlaw06.LinesSides", spec := "linesSides", unfollowed := true, recurses := true, apart := false, narrowed := true }
def LinesSidesUptoSaid : Prop := linesSidesUptoRow.holds Try.pinned (OpenSpec.upto linesSidesSpec)

/-- 'barrowlaw06.LinesSettles', WHERE WHAT IT READS IS OF BULK AT MOST 1048576: true; the input reads as it did. -/
def linesSettlesUptoRow : OpenClaim := { program := "ytjngmlkaijpbgaa", sum := "4f84a6d5dbdbff9f4155ebb3f3de55c610522c82429ea4c84b12de7b804f00c4", func := "barrow/barrowlaw06.LinesSettles", spec := "linesSettles", inPlace := ["internal/reflectlite.ValueOf", "internal/reflectlite.Swapper", "(internal/reflectlite.Value).Len"], unfollowed := true, recurses := true, apart := false, narrowed := true }
def LinesSettlesUptoSaid : Prop := linesSettlesUptoRow.holds Try.pinned (OpenSpec.upto linesSettlesSpec)

/-- 'barrowlaw06.LinesFolds', WHERE WHAT IT READS IS OF BULK AT MOST 1048576: true; the input reads as it did. -/
def linesFoldsUptoRow : OpenClaim := { program := "ytjngmlkaijpbgaa", sum := "4f84a6d5dbdbff9f4155ebb3f3de55c610522c82429ea4c84b12de7b804f00c4", func := "barrow/barrowlaw06.LinesFolds", spec := "linesFolds", inPlace := ["internal/reflectlite.ValueOf", "internal/reflectlite.Swapper", "(internal/reflectlite.Value).Len"], unfollowed := true, recurses := true, apart := false, narrowed := true }
def LinesFoldsUptoSaid : Prop := linesFoldsUptoRow.holds Try.pinned (OpenSpec.upto linesFoldsSpec)

/-- 'barrowlaw06.LinesParts', WHERE WHAT IT READS IS OF BULK AT MOST 1048576: true; the input reads as it did. -/
def linesPartsUptoRow : OpenClaim := { program := "ytjngmlkaijpbgaa", sum := "4f84a6d5dbdbff9f4155ebb3f3de55c610522c82429ea4c84b12de7b804f00c4", func := "barrow/barrowlaw06.LinesParts", spec := "linesParts", inPlace := ["internal/reflectlite.ValueOf", "internal/reflectlite.Swapper", "(internal/reflectlite.Value).Len"], unfollowed := true, recurses := true, apart := false, narrowed := true }
def LinesPartsUptoSaid : Prop := linesPartsUptoRow.holds Try.pinned (OpenSpec.upto linesPartsSpec)

end Rows
end Go.Proofs.Ytjngmlkaijpbgaa
