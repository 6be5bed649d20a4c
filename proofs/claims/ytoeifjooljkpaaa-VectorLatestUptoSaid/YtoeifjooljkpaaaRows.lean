/-
  No cell of these rows narrows 'for every input' (looked for: loops, veiled, ifaces, maps, wideKeys, modest, calm, conditions, laid).
  DERIVED. THE GIVEN ROWS OF THIS SEAT. 12 by the template 'for every input the law returns true; each argument reads behind the call as it read before'; 0 by the template 'total and deterministic' (their statements: YtoeifjooljkpaaaTotals.lean).
  GIVEN WITH THE SEED: the statements are not yours to turn. If you find one false, say at which input.
  Laid BY PROGRAM, IN A SANDBOX (cutbox-rows.mjs): the forced cells as the released guide's own fill.sh prints them over the translation 54917f807b2ffb9d… (all of the seat's roots in one cut). By AI agents, Wed Nov 11 2026. No macro, syntax, notation, axiom, sorry.
-/
import Derived.Test.YtoeifjooljkpaaaChecked
import GoSem.Claim
import GoSem.ClaimJoined
import GoSem.ClaimMapViews
import Derived.JoinedTies
import Derived.KernelRfl
namespace Go.Proofs.Ytoeifjooljkpaaa
/- THE CELL 'sum', in the pinned program and in every row, IS THE sha256 OF THE DUMP (.gsa) THAT YtoeifjooljkpaaaProg.lean LOADS. Nothing in Lean hashes anything: it is a label: what it is worth is what the hold of that sum in a sandbox is worth. -/
noncomputable def Try.pinned : Pinned := { name := "ytoeifjooljkpaaa", sum := "54917f807b2ffb9d808530f6c31a4c759552f0eb569ffde81368dcb633d68e8f", checked := Try.checked }
namespace Rows
def none {H : Type} : Left H := { results := [], args := [] }

/-- 'barrowlaw03.VectorFinds': WHATEVER THE INPUT: true; the input reads as it did. -/
def vectorFindsSpec : ChangeSpec := { name := "vectorFinds", fn := fun _ => fun
  | [d1, d2] => { results := [.lit (.bool true)], args := [d1, d2] }
  | _ => none }
def vectorFindsRow : OpenClaim := { program := "ytoeifjooljkpaaa", sum := "54917f807b2ffb9d808530f6c31a4c759552f0eb569ffde81368dcb633d68e8f", func := "barrow/barrowlaw03.VectorFinds", spec := "vectorFinds", apart := false }
def VectorFindsSaid : Prop := vectorFindsRow.holds Try.pinned (OpenSpec.ofChange vectorFindsSpec)

/-- ITS FALSE NEIGHBOUR: 'it returns false'. Refute it at one input. -/
def vectorFindsWrong : ChangeSpec := { name := "vectorFinds", fn := fun _ => fun
  | [d1, d2] => { results := [.lit (.bool false)], args := [d1, d2] }
  | _ => none }
def VectorFindsWrongFalsely : Prop := vectorFindsRow.holds Try.pinned (OpenSpec.ofChange vectorFindsWrong)

/-- 'barrowlaw03.VectorChanges': WHATEVER THE INPUT: true; the input reads as it did. -/
def vectorChangesSpec : ChangeSpec := { name := "vectorChanges", fn := fun _ => fun
  | [d1, d2, d3] => { results := [.lit (.bool true)], args := [d1, d2, d3] }
  | _ => none }
def vectorChangesRow : OpenClaim := { program := "ytoeifjooljkpaaa", sum := "54917f807b2ffb9d808530f6c31a4c759552f0eb569ffde81368dcb633d68e8f", func := "barrow/barrowlaw03.VectorChanges", spec := "vectorChanges", apart := false }
def VectorChangesSaid : Prop := vectorChangesRow.holds Try.pinned (OpenSpec.ofChange vectorChangesSpec)

/-- ITS FALSE NEIGHBOUR: 'it returns false'. Refute it at one input. -/
def vectorChangesWrong : ChangeSpec := { name := "vectorChanges", fn := fun _ => fun
  | [d1, d2, d3] => { results := [.lit (.bool false)], args := [d1, d2, d3] }
  | _ => none }
def VectorChangesWrongFalsely : Prop := vectorChangesRow.holds Try.pinned (OpenSpec.ofChange vectorChangesWrong)

/-- 'barrowlaw03.VectorMerges': WHATEVER THE INPUT: true; the input reads as it did. -/
def vectorMergesSpec : ChangeSpec := { name := "vectorMerges", fn := fun _ => fun
  | [d] => { results := [.lit (.bool true)], args := [d] }
  | _ => none }
def vectorMergesRow : OpenClaim := { program := "ytoeifjooljkpaaa", sum := "54917f807b2ffb9d808530f6c31a4c759552f0eb569ffde81368dcb633d68e8f", func := "barrow/barrowlaw03.VectorMerges", spec := "vectorMerges", apart := false }
def VectorMergesSaid : Prop := vectorMergesRow.holds Try.pinned (OpenSpec.ofChange vectorMergesSpec)

/-- ITS FALSE NEIGHBOUR: 'it returns false'. Refute it at one input. -/
def vectorMergesWrong : ChangeSpec := { name := "vectorMerges", fn := fun _ => fun
  | [d] => { results := [.lit (.bool false)], args := [d] }
  | _ => none }
def VectorMergesWrongFalsely : Prop := vectorMergesRow.holds Try.pinned (OpenSpec.ofChange vectorMergesWrong)

/-- 'barrowlaw03.VectorForms': WHATEVER THE INPUT: true; the input reads as it did. -/
def vectorFormsSpec : ChangeSpec := { name := "vectorForms", fn := fun _ => fun
  | [d] => { results := [.lit (.bool true)], args := [d] }
  | _ => none }
def vectorFormsRow : OpenClaim := { program := "ytoeifjooljkpaaa", sum := "54917f807b2ffb9d808530f6c31a4c759552f0eb569ffde81368dcb633d68e8f", func := "barrow/barrowlaw03.VectorForms", spec := "vectorForms", apart := false }
def VectorFormsSaid : Prop := vectorFormsRow.holds Try.pinned (OpenSpec.ofChange vectorFormsSpec)

/-- ITS FALSE NEIGHBOUR: 'it returns false'. Refute it at one input. -/
def vectorFormsWrong : ChangeSpec := { name := "vectorForms", fn := fun _ => fun
  | [d] => { results := [.lit (.bool false)], args := [d] }
  | _ => none }
def VectorFormsWrongFalsely : Prop := vectorFormsRow.holds Try.pinned (OpenSpec.ofChange vectorFormsWrong)

/-- 'barrowlaw03.VectorOrders': WHATEVER THE INPUT: true; the input reads as it did. -/
def vectorOrdersSpec : ChangeSpec := { name := "vectorOrders", fn := fun _ => fun
  | [d1, d2] => { results := [.lit (.bool true)], args := [d1, d2] }
  | _ => none }
def vectorOrdersRow : OpenClaim := { program := "ytoeifjooljkpaaa", sum := "54917f807b2ffb9d808530f6c31a4c759552f0eb569ffde81368dcb633d68e8f", func := "barrow/barrowlaw03.VectorOrders", spec := "vectorOrders", apart := false }
def VectorOrdersSaid : Prop := vectorOrdersRow.holds Try.pinned (OpenSpec.ofChange vectorOrdersSpec)

/-- ITS FALSE NEIGHBOUR: 'it returns false'. Refute it at one input. -/
def vectorOrdersWrong : ChangeSpec := { name := "vectorOrders", fn := fun _ => fun
  | [d1, d2] => { results := [.lit (.bool false)], args := [d1, d2] }
  | _ => none }
def VectorOrdersWrongFalsely : Prop := vectorOrdersRow.holds Try.pinned (OpenSpec.ofChange vectorOrdersWrong)

/-- 'barrowlaw03.VectorDots': WHATEVER THE INPUT: true; the input reads as it did. -/
def vectorDotsSpec : ChangeSpec := { name := "vectorDots", fn := fun _ => fun
  | [d1, d2, d3] => { results := [.lit (.bool true)], args := [d1, d2, d3] }
  | _ => none }
def vectorDotsRow : OpenClaim := { program := "ytoeifjooljkpaaa", sum := "54917f807b2ffb9d808530f6c31a4c759552f0eb569ffde81368dcb633d68e8f", func := "barrow/barrowlaw03.VectorDots", spec := "vectorDots", apart := false }
def VectorDotsSaid : Prop := vectorDotsRow.holds Try.pinned (OpenSpec.ofChange vectorDotsSpec)

/-- ITS FALSE NEIGHBOUR: 'it returns false'. Refute it at one input. -/
def vectorDotsWrong : ChangeSpec := { name := "vectorDots", fn := fun _ => fun
  | [d1, d2, d3] => { results := [.lit (.bool false)], args := [d1, d2, d3] }
  | _ => none }
def VectorDotsWrongFalsely : Prop := vectorDotsRow.holds Try.pinned (OpenSpec.ofChange vectorDotsWrong)

/-- 'barrowlaw03.VectorTotal': WHATEVER THE INPUT: true; the input reads as it did. -/
def vectorTotalSpec : ChangeSpec := { name := "vectorTotal", fn := fun _ => fun
  | [d1, d2, d3] => { results := [.lit (.bool true)], args := [d1, d2, d3] }
  | _ => none }
def vectorTotalRow : OpenClaim := { program := "ytoeifjooljkpaaa", sum := "54917f807b2ffb9d808530f6c31a4c759552f0eb569ffde81368dcb633d68e8f", func := "barrow/barrowlaw03.VectorTotal", spec := "vectorTotal", apart := false }
def VectorTotalSaid : Prop := vectorTotalRow.holds Try.pinned (OpenSpec.ofChange vectorTotalSpec)

/-- ITS FALSE NEIGHBOUR: 'it returns false'. Refute it at one input. -/
def vectorTotalWrong : ChangeSpec := { name := "vectorTotal", fn := fun _ => fun
  | [d1, d2, d3] => { results := [.lit (.bool false)], args := [d1, d2, d3] }
  | _ => none }
def VectorTotalWrongFalsely : Prop := vectorTotalRow.holds Try.pinned (OpenSpec.ofChange vectorTotalWrong)

/-- 'barrowlaw03.VectorLeast': WHATEVER THE INPUT: true; the input reads as it did. -/
def vectorLeastSpec : ChangeSpec := { name := "vectorLeast", fn := fun _ => fun
  | [d1, d2, d3] => { results := [.lit (.bool true)], args := [d1, d2, d3] }
  | _ => none }
def vectorLeastRow : OpenClaim := { program := "ytoeifjooljkpaaa", sum := "54917f807b2ffb9d808530f6c31a4c759552f0eb569ffde81368dcb633d68e8f", func := "barrow/barrowlaw03.VectorLeast", spec := "vectorLeast", apart := false }
def VectorLeastSaid : Prop := vectorLeastRow.holds Try.pinned (OpenSpec.ofChange vectorLeastSpec)

/-- ITS FALSE NEIGHBOUR: 'it returns false'. Refute it at one input. -/
def vectorLeastWrong : ChangeSpec := { name := "vectorLeast", fn := fun _ => fun
  | [d1, d2, d3] => { results := [.lit (.bool false)], args := [d1, d2, d3] }
  | _ => none }
def VectorLeastWrongFalsely : Prop := vectorLeastRow.holds Try.pinned (OpenSpec.ofChange vectorLeastWrong)

/-- 'barrowlaw03.VectorCounts': WHATEVER THE INPUT: true; the input reads as it did. -/
def vectorCountsSpec : ChangeSpec := { name := "vectorCounts", fn := fun _ => fun
  | [d1, d2, d3] => { results := [.lit (.bool true)], args := [d1, d2, d3] }
  | _ => none }
def vectorCountsRow : OpenClaim := { program := "ytoeifjooljkpaaa", sum := "54917f807b2ffb9d808530f6c31a4c759552f0eb569ffde81368dcb633d68e8f", func := "barrow/barrowlaw03.VectorCounts", spec := "vectorCounts", apart := false }
def VectorCountsSaid : Prop := vectorCountsRow.holds Try.pinned (OpenSpec.ofChange vectorCountsSpec)

/-- ITS FALSE NEIGHBOUR: 'it returns false'. Refute it at one input. -/
def vectorCountsWrong : ChangeSpec := { name := "vectorCounts", fn := fun _ => fun
  | [d1, d2, d3] => { results := [.lit (.bool false)], args := [d1, d2, d3] }
  | _ => none }
def VectorCountsWrongFalsely : Prop := vectorCountsRow.holds Try.pinned (OpenSpec.ofChange vectorCountsWrong)

/-- 'barrowlaw03.VectorRanked': WHATEVER THE INPUT: true; the input reads as it did. -/
def vectorRankedSpec : ChangeSpec := { name := "vectorRanked", fn := fun _ => fun
  | [d] => { results := [.lit (.bool true)], args := [d] }
  | _ => none }
def vectorRankedRow : OpenClaim := { program := "ytoeifjooljkpaaa", sum := "54917f807b2ffb9d808530f6c31a4c759552f0eb569ffde81368dcb633d68e8f", func := "barrow/barrowlaw03.VectorRanked", spec := "vectorRanked", inPlace := ["internal/reflectlite.ValueOf", "internal/reflectlite.Swapper", "(internal/reflectlite.Value).Len"], unfollowed := true, recurses := true, apart := false }
def VectorRankedSaid : Prop := vectorRankedRow.holds Try.pinned (OpenSpec.ofChange vectorRankedSpec)

/-- ITS FALSE NEIGHBOUR: 'it returns false'. Refute it at one input. -/
def vectorRankedWrong : ChangeSpec := { name := "vectorRanked", fn := fun _ => fun
  | [d] => { results := [.lit (.bool false)], args := [d] }
  | _ => none }
def VectorRankedWrongFalsely : Prop := vectorRankedRow.holds Try.pinned (OpenSpec.ofChange vectorRankedWrong)

/-- 'barrowlaw03.VectorSorts': WHATEVER THE INPUT: true; the input reads as it did. -/
def vectorSortsSpec : ChangeSpec := { name := "vectorSorts", fn := fun _ => fun
  | [d] => { results := [.lit (.bool true)], args := [d] }
  | _ => none }
def vectorSortsRow : OpenClaim := { program := "ytoeifjooljkpaaa", sum := "54917f807b2ffb9d808530f6c31a4c759552f0eb569ffde81368dcb633d68e8f", func := "barrow/barrowlaw03.VectorSorts", spec := "vectorSorts", inPlace := ["internal/reflectlite.ValueOf", "internal/reflectlite.Swapper", "(internal/reflectlite.Value).Len"], unfollowed := true, recurses := true, apart := false }
def VectorSortsSaid : Prop := vectorSortsRow.holds Try.pinned (OpenSpec.ofChange vectorSortsSpec)

/-- ITS FALSE NEIGHBOUR: 'it returns false'. Refute it at one input. -/
def vectorSortsWrong : ChangeSpec := { name := "vectorSorts", fn := fun _ => fun
  | [d] => { results := [.lit (.bool false)], args := [d] }
  | _ => none }
def VectorSortsWrongFalsely : Prop := vectorSortsRow.holds Try.pinned (OpenSpec.ofChange vectorSortsWrong)

/-- 'barrowlaw03.VectorLatest': WHATEVER THE INPUT: true; the input reads as it did. -/
def vectorLatestSpec : ChangeSpec := { name := "vectorLatest", fn := fun _ => fun
  | [d] => { results := [.lit (.bool true)], args := [d] }
  | _ => none }
def vectorLatestRow : OpenClaim := { program := "ytoeifjooljkpaaa", sum := "54917f807b2ffb9d808530f6c31a4c759552f0eb569ffde81368dcb633d68e8f", func := "barrow/barrowlaw03.VectorLatest", spec := "vectorLatest", inPlace := ["internal/reflectlite.ValueOf", "internal/reflectlite.Swapper", "(internal/reflectlite.Value).Len"], unfollowed := true, recurses := true, apart := false }
def VectorLatestSaid : Prop := vectorLatestRow.holds Try.pinned (OpenSpec.ofChange vectorLatestSpec)

/-- ITS FALSE NEIGHBOUR: 'it returns false'. Refute it at one input. -/
def vectorLatestWrong : ChangeSpec := { name := "vectorLatest", fn := fun _ => fun
  | [d] => { results := [.lit (.bool false)], args := [d] }
  | _ => none }
def VectorLatestWrongFalsely : Prop := vectorLatestRow.holds Try.pinned (OpenSpec.ofChange vectorLatestWrong)

/- THE SECOND FORM. 'bulk': how many values and letters a reading holds, each counted each time it is reached (what is shared counts as often as it is met; a slice's spare places count too). A statement '..UptoSaid' is the law's where the arguments, and the package variables that the reading takes, are together of bulk at most 1048576: NARROWER than '..Said'. Prove '..Said' where nothing that the law and all that it calls make is longer than what came in: it says more and counts as full. Else prove '..UptoSaid'. A law counts once. -/
mutual
def uptoBulk {H : Type} : DataW H → Nat
  | .lit (.string bytes) => bytes.length + 1
  | .lit _ => 1
  | .nil => 1
  | .ptr d => uptoBulk d + 1
  | .slice elems spare => uptoBulkAll elems + uptoBulkAll spare + 1
  | .agg parts => uptoBulkAll parts + 1
  | .iface _ d => uptoBulk d + 1
  | .map entries => uptoBulkEntries entries + 1
  | .held _ => 1
def uptoBulkAll {H : Type} : List (DataW H) → Nat
  | [] => 0
  | d :: r => uptoBulk d + uptoBulkAll r
def uptoBulkEntries {H : Type} : List (Lit × DataW H) → Nat
  | [] => 0
  | x :: r => uptoBulkEntry x + uptoBulkEntries r
def uptoBulkEntry {H : Type} : Lit × DataW H → Nat
  | (.string bytes, d) => bytes.length + uptoBulk d + 1
  | (_, d) => uptoBulk d + 1
 end
def uptoSmall : (H : Type) → List (DataW H) → Bool := fun _ ds => decide (uptoBulkAll ds ≤ 1048576)
def OpenSpec.upto (s : _root_.Go.ChangeSpec) : _root_.Go.OpenSpec := { _root_.Go.OpenSpec.ofChange s with cond := some uptoSmall }

/-- 'barrowlaw03.VectorFinds', WHERE WHAT IT READS IS OF BULK AT MOST 1048576: true; the input reads as it did. -/
def vectorFindsUptoRow : OpenClaim := { program := "ytoeifjooljkpaaa", sum := "54917f807b2ffb9d808530f6c31a4c759552f0eb569ffde81368dcb633d68e8f", func := "barrow/barrowlaw03.VectorFinds", spec := "vectorFinds", apart := false, narrowed := true }
def VectorFindsUptoSaid : Prop := vectorFindsUptoRow.holds Try.pinned (OpenSpec.upto vectorFindsSpec)

/-- 'barrowlaw03.VectorChanges', WHERE WHAT IT READS IS OF BULK AT MOST 1048576: true; the input reads as it did. -/
def vectorChangesUptoRow : OpenClaim := { program := "ytoeifjooljkpaaa", sum := "54917f807b2ffb9d808530f6c31a4c759552f0eb569ffde81368dcb633d68e8f", func := "barrow/barrowlaw03.VectorChanges", spec := "vectorChanges", apart := false, narrowed := true }
def VectorChangesUptoSaid : Prop := vectorChangesUptoRow.holds Try.pinned (OpenSpec.upto vectorChangesSpec)

/-- 'barrowlaw03.VectorMerges', WHERE WHAT IT READS IS OF BULK AT MOST 1048576: true; the input reads as it did. -/
def vectorMergesUptoRow : OpenClaim := { program := "ytoeifjooljkpaaa", sum := "54917f807b2ffb9d808530f6c31a4c759552f0eb569ffde81368dcb633d68e8f", func := "barrow/barrowlaw03.VectorMerges", spec := "vectorMerges", apart := false, narrowed := true }
def VectorMergesUptoSaid : Prop := vectorMergesUptoRow.holds Try.pinned (OpenSpec.upto vectorMergesSpec)

/-- 'barrowlaw03.VectorForms', WHERE WHAT IT READS IS OF BULK AT MOST 1048576: true; the input reads as it did. -/
def vectorFormsUptoRow : OpenClaim := { program := "ytoeifjooljkpaaa", sum := "54917f807b2ffb9d808530f6c31a4c759552f0eb569ffde81368dcb633d68e8f", func := "barrow/barrowlaw03.VectorForms", spec := "vectorForms", apart := false, narrowed := true }
def VectorFormsUptoSaid : Prop := vectorFormsUptoRow.holds Try.pinned (OpenSpec.upto vectorFormsSpec)

/-- 'barrowlaw03.VectorOrders', WHERE WHAT IT READS IS OF BULK AT MOST 1048576: true; the input reads as it did. -/
def vectorOrdersUptoRow : OpenClaim := { program := "ytoeifjooljkpaaa", sum := "54917f807b2ffb9d808530f6c31a4c759552f0eb569ffde81368dcb633d68e8f", func := "barrow/barrowlaw03.VectorOrders", spec := "vectorOrders", apart := false, narrowed := true }
def VectorOrdersUptoSaid : Prop := vectorOrdersUptoRow.holds Try.pinned (OpenSpec.upto vectorOrdersSpec)

/-- 'barrowlaw03.VectorDots', WHERE WHAT IT READS IS OF BULK AT MOST 1048576: true; the input reads as it did. -/
def vectorDotsUptoRow : OpenClaim := { program := "ytoeifjooljkpaaa", sum := "54917f807b2ffb9d808530f6c31a4c759552f0eb569ffde81368dcb633d68e8f", func := "barrow/barrowlaw03.VectorDots", spec := "vectorDots", apart := false, narrowed := true }
def VectorDotsUptoSaid : Prop := vectorDotsUptoRow.holds Try.pinned (OpenSpec.upto vectorDotsSpec)

/-- 'barrowlaw03.VectorTotal', WHERE WHAT IT READS IS OF BULK AT MOST 1048576: true; the input reads as it did. -/
def vectorTotalUptoRow : OpenClaim := { program := "ytoeifjooljkpaaa", sum := "54917f807b2ffb9d808530f6c31a4c759552f0eb569ffde81368dcb633d68e8f", func := "barrow/barrowlaw03.VectorTotal", spec := "vectorTotal", apart := false, narrowed := true }
def VectorTotalUptoSaid : Prop := vectorTotalUptoRow.holds Try.pinned (OpenSpec.upto vectorTotalSpec)

/-- 'barrowlaw03.VectorLeast', WHERE WHAT IT READS IS OF BULK AT MOST 1048576: true; the input reads as it did. -/
def vectorLeastUptoRow : OpenClaim := { program := "ytoeifjooljkpaaa", sum := "54917f807b2ffb9d808530f6c31a4c759552f0eb569ffde81368dcb633d68e8f", func := "barrow/barrowlaw03.VectorLeast", spec := "vectorLeast", apart := false, narrowed := true }
def VectorLeastUptoSaid : Prop := vectorLeastUptoRow.holds Try.pinned (OpenSpec.upto vectorLeastSpec)

/-- 'barrowlaw03.VectorCounts', WHERE WHAT IT READS IS OF BULK AT MOST 1048576: true; the input reads as it did. -/
def vectorCountsUptoRow : OpenClaim := { program := "ytoeifjooljkpaaa", sum := "54917f807b2ffb9d808530f6c31a4c759552f0eb569ffde81368dcb633d68e8f", func := "barrow/barrowlaw03.VectorCounts", spec := "vectorCounts", apart := false, narrowed := true }
def VectorCountsUptoSaid : Prop := vectorCountsUptoRow.holds Try.pinned (OpenSpec.upto vectorCountsSpec)

/-- 'barrowlaw03.VectorRanked', WHERE WHAT IT READS IS OF BULK AT MOST 1048576: true; the input reads as it did. -/
def vectorRankedUptoRow : OpenClaim := { program := "ytoeifjooljkpaaa", sum := "54917f807b2ffb9d808530f6c31a4c759552f0eb569ffde81368dcb633d68e8f", func := "barrow/barrowlaw03.VectorRanked", spec := "vectorRanked", inPlace := ["internal/reflectlite.ValueOf", "internal/reflectlite.Swapper", "(internal/reflectlite.Value).Len"], unfollowed := true, recurses := true, apart := false, narrowed := true }
def VectorRankedUptoSaid : Prop := vectorRankedUptoRow.holds Try.pinned (OpenSpec.upto vectorRankedSpec)

/-- 'barrowlaw03.VectorSorts', WHERE WHAT IT READS IS OF BULK AT MOST 1048576: true; the input reads as it did. -/
def vectorSortsUptoRow : OpenClaim := { program := "ytoeifjooljkpaaa", sum := "54917f807b2ffb9d808530f6c31a4c759552f0eb569ffde81368dcb633d68e8f", func := "barrow/barrowlaw03.VectorSorts", spec := "vectorSorts", inPlace := ["internal/reflectlite.ValueOf", "internal/reflectlite.Swapper", "(internal/reflectlite.Value).Len"], unfollowed := true, recurses := true, apart := false, narrowed := true }
def VectorSortsUptoSaid : Prop := vectorSortsUptoRow.holds Try.pinned (OpenSpec.upto vectorSortsSpec)

/-- 'barrowlaw03.VectorLatest', WHERE WHAT IT READS IS OF BULK AT MOST 1048576: true; the input reads as it did. -/
def vectorLatestUptoRow : OpenClaim := { program := "ytoeifjooljkpaaa", sum := "54917f807b2ffb9d808530f6c31a4c759552f0eb569ffde81368dcb633d68e8f", func := "barrow/barrowlaw03.VectorLatest", spec := "vectorLatest", inPlace := ["internal/reflectlite.ValueOf", "internal/reflectlite.Swapper", "(internal/reflectlite.Value).Len"], unfollowed := true, recurses := true, apart := false, narrowed := true }
def VectorLatestUptoSaid : Prop := vectorLatestUptoRow.holds Try.pinned (OpenSpec.upto vectorLatestSpec)

end Rows
end Go.Proofs.Ytoeifjooljkpaaa
