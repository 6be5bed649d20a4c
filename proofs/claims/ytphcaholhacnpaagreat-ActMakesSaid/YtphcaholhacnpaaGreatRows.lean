/-
  No cell of these rows narrows 'for every input' (looked for: loops, veiled, ifaces, maps, wideKeys, modest, calm, conditions, laid).
  DERIVED. THE GIVEN ROWS OF THIS SEAT. 10 by the template 'for every input the law returns true; each argument reads behind the call as it read before'; 0 by the template 'total and deterministic' (their statements: YtphcaholhacnpaaGreatTotals.lean).
  GIVEN WITH THE SEED: the statements are not yours to turn. If you find one false, say at which input.
  Laid BY PROGRAM, IN A SANDBOX (cutbox-rows.mjs): the forced cells as the released guide's own fill.sh prints them over the translation efe71bf5609a95b2… (all of the seat's roots in one cut). By AI agents, Wed Nov 11 2026. No macro, syntax, notation, axiom, sorry.
-/
import Derived.Test.YtphcaholhacnpaaGreatChecked
import GoSem.Claim
import GoSem.ClaimJoined
import GoSem.ClaimMapViews
import Derived.JoinedTies
import Derived.KernelRfl
namespace Go.Proofs.YtphcaholhacnpaaGreat
/- THE CELL 'sum', in the pinned program and in every row, IS THE sha256 OF THE DUMP (.gsa) THAT YtphcaholhacnpaaGreatProg.lean LOADS. Nothing in Lean hashes anything: it is a label: what it is worth is what the hold of that sum in a sandbox is worth. -/
noncomputable def Tryz.pinned : Pinned := { name := "ytphcaholhacnpaagreat", sum := "efe71bf5609a95b27c78caa0645a940155388cca2cd1691accf9e2b73a4e49a6", checked := Tryz.checked }
namespace Rows
def none {H : Type} : Left H := { results := [], args := [] }

/-- 'barrowlaw08.ActDecides': WHATEVER THE INPUT: true; the input reads as it did. -/
def actDecidesSpec : ChangeSpec := { name := "actDecides", fn := fun _ => fun
  | [d] => { results := [.lit (.bool true)], args := [d] }
  | _ => none }
def actDecidesRow : OpenClaim := { program := "ytphcaholhacnpaagreat", sum := "efe71bf5609a95b27c78caa0645a940155388cca2cd1691accf9e2b73a4e49a6", func := "barrow/barrowlaw08.ActDecides", spec := "actDecides", inPlace := ["internal/reflectlite.ValueOf", "internal/reflectlite.Swapper", "(internal/reflectlite.Value).Len", "internal/bytealg.abigen_runtime_cmpstring"], unfollowed := true, recurses := true, apart := false }
def ActDecidesSaid : Prop := actDecidesRow.holds Tryz.pinned (OpenSpec.ofChange actDecidesSpec)

/-- ITS FALSE NEIGHBOUR: 'it returns false'. Refute it at one input. -/
def actDecidesWrong : ChangeSpec := { name := "actDecides", fn := fun _ => fun
  | [d] => { results := [.lit (.bool false)], args := [d] }
  | _ => none }
def ActDecidesWrongFalsely : Prop := actDecidesRow.holds Tryz.pinned (OpenSpec.ofChange actDecidesWrong)

/-- 'barrowlaw08.ActMakes': WHATEVER THE INPUT: true; the input reads as it did. -/
def actMakesSpec : ChangeSpec := { name := "actMakes", fn := fun _ => fun
  | [d1, d2] => { results := [.lit (.bool true)], args := [d1, d2] }
  | _ => none }
def actMakesRow : OpenClaim := { program := "ytphcaholhacnpaagreat", sum := "efe71bf5609a95b27c78caa0645a940155388cca2cd1691accf9e2b73a4e49a6", func := "barrow/barrowlaw08.ActMakes", spec := "actMakes", inPlace := ["internal/reflectlite.ValueOf", "internal/reflectlite.Swapper", "(internal/reflectlite.Value).Len", "internal/bytealg.abigen_runtime_cmpstring"], unfollowed := true, recurses := true, apart := false }
def ActMakesSaid : Prop := actMakesRow.holds Tryz.pinned (OpenSpec.ofChange actMakesSpec)

/-- ITS FALSE NEIGHBOUR: 'it returns false'. Refute it at one input. -/
def actMakesWrong : ChangeSpec := { name := "actMakes", fn := fun _ => fun
  | [d1, d2] => { results := [.lit (.bool false)], args := [d1, d2] }
  | _ => none }
def ActMakesWrongFalsely : Prop := actMakesRow.holds Tryz.pinned (OpenSpec.ofChange actMakesWrong)

/-- 'barrowlaw08.ActReads': WHATEVER THE INPUT: true; the input reads as it did. -/
def actReadsSpec : ChangeSpec := { name := "actReads", fn := fun _ => fun
  | [d] => { results := [.lit (.bool true)], args := [d] }
  | _ => none }
def actReadsRow : OpenClaim := { program := "ytphcaholhacnpaagreat", sum := "efe71bf5609a95b27c78caa0645a940155388cca2cd1691accf9e2b73a4e49a6", func := "barrow/barrowlaw08.ActReads", spec := "actReads", inPlace := ["internal/reflectlite.ValueOf", "internal/reflectlite.Swapper", "(internal/reflectlite.Value).Len", "internal/bytealg.abigen_runtime_cmpstring"], unfollowed := true, recurses := true, apart := false }
def ActReadsSaid : Prop := actReadsRow.holds Tryz.pinned (OpenSpec.ofChange actReadsSpec)

/-- ITS FALSE NEIGHBOUR: 'it returns false'. Refute it at one input. -/
def actReadsWrong : ChangeSpec := { name := "actReads", fn := fun _ => fun
  | [d] => { results := [.lit (.bool false)], args := [d] }
  | _ => none }
def ActReadsWrongFalsely : Prop := actReadsRow.holds Tryz.pinned (OpenSpec.ofChange actReadsWrong)

/-- 'barrowlaw08.ActAlone': WHATEVER THE INPUT: true; the input reads as it did. -/
def actAloneSpec : ChangeSpec := { name := "actAlone", fn := fun _ => fun
  | [d1, d2, d3] => { results := [.lit (.bool true)], args := [d1, d2, d3] }
  | _ => none }
def actAloneRow : OpenClaim := { program := "ytphcaholhacnpaagreat", sum := "efe71bf5609a95b27c78caa0645a940155388cca2cd1691accf9e2b73a4e49a6", func := "barrow/barrowlaw08.ActAlone", spec := "actAlone", inPlace := ["internal/reflectlite.ValueOf", "internal/reflectlite.Swapper", "(internal/reflectlite.Value).Len", "internal/bytealg.abigen_runtime_cmpstring"], unfollowed := true, recurses := true, apart := false }
def ActAloneSaid : Prop := actAloneRow.holds Tryz.pinned (OpenSpec.ofChange actAloneSpec)

/-- ITS FALSE NEIGHBOUR: 'it returns false'. Refute it at one input. -/
def actAloneWrong : ChangeSpec := { name := "actAlone", fn := fun _ => fun
  | [d1, d2, d3] => { results := [.lit (.bool false)], args := [d1, d2, d3] }
  | _ => none }
def ActAloneWrongFalsely : Prop := actAloneRow.holds Tryz.pinned (OpenSpec.ofChange actAloneWrong)

/-- 'barrowlaw14.DigestTells': WHATEVER THE INPUT: true; the input reads as it did. -/
def digestTellsSpec : ChangeSpec := { name := "digestTells", fn := fun _ => fun
  | [d1, d2, d3] => { results := [.lit (.bool true)], args := [d1, d2, d3] }
  | _ => none }
def digestTellsRow : OpenClaim := { program := "ytphcaholhacnpaagreat", sum := "efe71bf5609a95b27c78caa0645a940155388cca2cd1691accf9e2b73a4e49a6", func := "barrow/barrowlaw14.DigestTells", spec := "digestTells", inPlace := ["internal/bytealg.abigen_runtime_cmpstring"], unfollowed := true, recurses := true, apart := false }
def DigestTellsSaid : Prop := digestTellsRow.holds Tryz.pinned (OpenSpec.ofChange digestTellsSpec)

/-- ITS FALSE NEIGHBOUR: 'it returns false'. Refute it at one input. -/
def digestTellsWrong : ChangeSpec := { name := "digestTells", fn := fun _ => fun
  | [d1, d2, d3] => { results := [.lit (.bool false)], args := [d1, d2, d3] }
  | _ => none }
def DigestTellsWrongFalsely : Prop := digestTellsRow.holds Tryz.pinned (OpenSpec.ofChange digestTellsWrong)

/-- 'barrowlaw14.DigestSpares': WHATEVER THE INPUT: true; the input reads as it did. -/
def digestSparesSpec : ChangeSpec := { name := "digestSpares", fn := fun _ => fun
  | [d1, d2] => { results := [.lit (.bool true)], args := [d1, d2] }
  | _ => none }
def digestSparesRow : OpenClaim := { program := "ytphcaholhacnpaagreat", sum := "efe71bf5609a95b27c78caa0645a940155388cca2cd1691accf9e2b73a4e49a6", func := "barrow/barrowlaw14.DigestSpares", spec := "digestSpares", inPlace := ["internal/bytealg.abigen_runtime_cmpstring"], unfollowed := true, recurses := true, apart := false }
def DigestSparesSaid : Prop := digestSparesRow.holds Tryz.pinned (OpenSpec.ofChange digestSparesSpec)

/-- ITS FALSE NEIGHBOUR: 'it returns false'. Refute it at one input. -/
def digestSparesWrong : ChangeSpec := { name := "digestSpares", fn := fun _ => fun
  | [d1, d2] => { results := [.lit (.bool false)], args := [d1, d2] }
  | _ => none }
def DigestSparesWrongFalsely : Prop := digestSparesRow.holds Tryz.pinned (OpenSpec.ofChange digestSparesWrong)

/-- 'barrowlaw14.DigestLacks': WHATEVER THE INPUT: true; the input reads as it did. -/
def digestLacksSpec : ChangeSpec := { name := "digestLacks", fn := fun _ => fun
  | [d1, d2, d3] => { results := [.lit (.bool true)], args := [d1, d2, d3] }
  | _ => none }
def digestLacksRow : OpenClaim := { program := "ytphcaholhacnpaagreat", sum := "efe71bf5609a95b27c78caa0645a940155388cca2cd1691accf9e2b73a4e49a6", func := "barrow/barrowlaw14.DigestLacks", spec := "digestLacks", inPlace := ["internal/bytealg.abigen_runtime_cmpstring"], unfollowed := true, recurses := true, apart := false }
def DigestLacksSaid : Prop := digestLacksRow.holds Tryz.pinned (OpenSpec.ofChange digestLacksSpec)

/-- ITS FALSE NEIGHBOUR: 'it returns false'. Refute it at one input. -/
def digestLacksWrong : ChangeSpec := { name := "digestLacks", fn := fun _ => fun
  | [d1, d2, d3] => { results := [.lit (.bool false)], args := [d1, d2, d3] }
  | _ => none }
def DigestLacksWrongFalsely : Prop := digestLacksRow.holds Tryz.pinned (OpenSpec.ofChange digestLacksWrong)

/-- 'barrowlaw14.DigestPictures': WHATEVER THE INPUT: true; the input reads as it did. -/
def digestPicturesSpec : ChangeSpec := { name := "digestPictures", fn := fun _ => fun
  | [d1, d2] => { results := [.lit (.bool true)], args := [d1, d2] }
  | _ => none }
def digestPicturesRow : OpenClaim := { program := "ytphcaholhacnpaagreat", sum := "efe71bf5609a95b27c78caa0645a940155388cca2cd1691accf9e2b73a4e49a6", func := "barrow/barrowlaw14.DigestPictures", spec := "digestPictures", inPlace := ["internal/bytealg.abigen_runtime_cmpstring"], unfollowed := true, recurses := true, apart := false }
def DigestPicturesSaid : Prop := digestPicturesRow.holds Tryz.pinned (OpenSpec.ofChange digestPicturesSpec)

/-- ITS FALSE NEIGHBOUR: 'it returns false'. Refute it at one input. -/
def digestPicturesWrong : ChangeSpec := { name := "digestPictures", fn := fun _ => fun
  | [d1, d2] => { results := [.lit (.bool false)], args := [d1, d2] }
  | _ => none }
def DigestPicturesWrongFalsely : Prop := digestPicturesRow.holds Tryz.pinned (OpenSpec.ofChange digestPicturesWrong)

/-- 'barrowlaw13.CompactStates': WHATEVER THE INPUT: true; the input reads as it did. -/
def compactStatesSpec : ChangeSpec := { name := "compactStates", fn := fun _ => fun
  | [d] => { results := [.lit (.bool true)], args := [d] }
  | _ => none }
def compactStatesRow : OpenClaim := { program := "ytphcaholhacnpaagreat", sum := "efe71bf5609a95b27c78caa0645a940155388cca2cd1691accf9e2b73a4e49a6", func := "barrow/barrowlaw13.CompactStates", spec := "compactStates", inPlace := ["internal/bytealg.abigen_runtime_cmpstring"], unfollowed := true, recurses := true, apart := false }
def CompactStatesSaid : Prop := compactStatesRow.holds Tryz.pinned (OpenSpec.ofChange compactStatesSpec)

/-- ITS FALSE NEIGHBOUR: 'it returns false'. Refute it at one input. -/
def compactStatesWrong : ChangeSpec := { name := "compactStates", fn := fun _ => fun
  | [d] => { results := [.lit (.bool false)], args := [d] }
  | _ => none }
def CompactStatesWrongFalsely : Prop := compactStatesRow.holds Tryz.pinned (OpenSpec.ofChange compactStatesWrong)

/-- 'barrowlaw13.CompactFates': WHATEVER THE INPUT: true; the input reads as it did. -/
def compactFatesSpec : ChangeSpec := { name := "compactFates", fn := fun _ => fun
  | [d] => { results := [.lit (.bool true)], args := [d] }
  | _ => none }
def compactFatesRow : OpenClaim := { program := "ytphcaholhacnpaagreat", sum := "efe71bf5609a95b27c78caa0645a940155388cca2cd1691accf9e2b73a4e49a6", func := "barrow/barrowlaw13.CompactFates", spec := "compactFates", inPlace := ["internal/bytealg.abigen_runtime_cmpstring"], unfollowed := true, recurses := true, apart := false }
def CompactFatesSaid : Prop := compactFatesRow.holds Tryz.pinned (OpenSpec.ofChange compactFatesSpec)

/-- ITS FALSE NEIGHBOUR: 'it returns false'. Refute it at one input. -/
def compactFatesWrong : ChangeSpec := { name := "compactFates", fn := fun _ => fun
  | [d] => { results := [.lit (.bool false)], args := [d] }
  | _ => none }
def CompactFatesWrongFalsely : Prop := compactFatesRow.holds Tryz.pinned (OpenSpec.ofChange compactFatesWrong)

/- THE SECOND FORM. 'bulk': how many values and letters a reading holds, each counted each time it is reached (what is shared counts as often as it is met; a slice's spare places count too). A statement '..UptoSaid' is the law's where the arguments, and the package variables that the reading takes, are together of bulk at most 1048576: NARROWER than '..Said'. Prove '..Said' where nothing that the law and all that it calls make is longer than what came in: it says more and counts as full. Else prove '..UptoSaid'. A law counts once. -/
mutual
def uptoBulk {H : Type} : DataW H → Nat
  | .lit (.string bytes) => bytes.length + 1
  | .lit _ => 1
  | .nil => 1
  | .ptr d => uptoBulk d + 1
  | .slice elems spare => uptoBulkAll elems + uptoBulkAll spare + 1
  | .agg parts => uptoBulkAll parts + 1
  | .iface _ d => uptoBulk d + 1
  | .map entries => uptoBulkEntries entries + 1
  | .held _ => 1
def uptoBulkAll {H : Type} : List (DataW H) → Nat
  | [] => 0
  | d :: r => uptoBulk d + uptoBulkAll r
def uptoBulkEntries {H : Type} : List (Lit × DataW H) → Nat
  | [] => 0
  | x :: r => uptoBulkEntry x + uptoBulkEntries r
def uptoBulkEntry {H : Type} : Lit × DataW H → Nat
  | (.string bytes, d) => bytes.length + uptoBulk d + 1
  | (_, d) => uptoBulk d + 1
 end
def uptoSmall : (H : Type) → List (DataW H) → Bool := fun _ ds => decide (uptoBulkAll ds ≤ 1048576)
def OpenSpec.upto (s : _root_.Go.ChangeSpec) : _root_.Go.OpenSpec := { _root_.Go.OpenSpec.ofChange s with cond := some uptoSmall }

/-- 'barrowlaw08.ActDecides', WHERE WHAT IT READS IS OF BULK AT MOST 1048576: true; the input reads as it did. -/
def actDecidesUptoRow : OpenClaim := { program := "ytphcaholhacnpaagreat", sum := "efe71bf5609a95b27c78caa0645a940155388cca2cd1691accf9e2b73a4e49a6", func := "barrow/barrowlaw08.ActDecides", spec := "actDecides", inPlace := ["internal/reflectlite.ValueOf", "internal/reflectlite.Swapper", "(internal/reflectlite.Value).Len", "internal/bytealg.abigen_runtime_cmpstring"], unfollowed := true, recurses := true, apart := false, narrowed := true }
def ActDecidesUptoSaid : Prop := actDecidesUptoRow.holds Tryz.pinned (OpenSpec.upto actDecidesSpec)

/-- 'barrowlaw08.ActMakes', WHERE WHAT IT READS IS OF BULK AT MOST 1048576: true; the input reads as it did. -/
def actMakesUptoRow : OpenClaim := { program := "ytphcaholhacnpaagreat", sum := "efe71bf5609a95b27c78caa0645a940155388cca2cd1691accf9e2b73a4e49a6", func := "barrow/barrowlaw08.ActMakes", spec := "actMakes", inPlace := ["internal/reflectlite.ValueOf", "internal/reflectlite.Swapper", "(internal/reflectlite.Value).Len", "internal/bytealg.abigen_runtime_cmpstring"], unfollowed := true, recurses := true, apart := false, narrowed := true }
def ActMakesUptoSaid : Prop := actMakesUptoRow.holds Tryz.pinned (OpenSpec.upto actMakesSpec)

/-- 'barrowlaw08.ActReads', WHERE WHAT IT READS IS OF BULK AT MOST 1048576: true; the input reads as it did. -/
def actReadsUptoRow : OpenClaim := { program := "ytphcaholhacnpaagreat", sum := "efe71bf5609a95b27c78caa0645a940155388cca2cd1691accf9e2b73a4e49a6", func := "barrow/barrowlaw08.ActReads", spec := "actReads", inPlace := ["internal/reflectlite.ValueOf", "internal/reflectlite.Swapper", "(internal/reflectlite.Value).Len", "internal/bytealg.abigen_runtime_cmpstring"], unfollowed := true, recurses := true, apart := false, narrowed := true }
def ActReadsUptoSaid : Prop := actReadsUptoRow.holds Tryz.pinned (OpenSpec.upto actReadsSpec)

/-- 'barrowlaw08.ActAlone', WHERE WHAT IT READS IS OF BULK AT MOST 1048576: true; the input reads as it did. -/
def actAloneUptoRow : OpenClaim := { program := "ytphcaholhacnpaagreat", sum := "efe71bf5609a95b27c78caa0645a940155388cca2cd1691accf9e2b73a4e49a6", func := "barrow/barrowlaw08.ActAlone", spec := "actAlone", inPlace := ["internal/reflectlite.ValueOf", "internal/reflectlite.Swapper", "(internal/reflectlite.Value).Len", "internal/bytealg.abigen_runtime_cmpstring"], unfollowed := true, recurses := true, apart := false, narrowed := true }
def ActAloneUptoSaid : Prop := actAloneUptoRow.holds Tryz.pinned (OpenSpec.upto actAloneSpec)

/-- 'barrowlaw14.DigestTells', WHERE WHAT IT READS IS OF BULK AT MOST 1048576: true; the input reads as it did. -/
def digestTellsUptoRow : OpenClaim := { program := "ytphcaholhacnpaagreat", sum := "efe71bf5609a95b27c78caa0645a940155388cca2cd1691accf9e2b73a4e49a6", func := "barrow/barrowlaw14.DigestTells", spec := "digestTells", inPlace := ["internal/bytealg.abigen_runtime_cmpstring"], unfollowed := true, recurses := true, apart := false, narrowed := true }
def DigestTellsUptoSaid : Prop := digestTellsUptoRow.holds Tryz.pinned (OpenSpec.upto digestTellsSpec)

/-- 'barrowlaw14.DigestSpares', WHERE WHAT IT READS IS OF BULK AT MOST 1048576: true; the input reads as it did. -/
def digestSparesUptoRow : OpenClaim := { program := "ytphcaholhacnpaagreat", sum := "efe71bf5609a95b27c78caa0645a940155388cca2cd1691accf9e2b73a4e49a6", func := "barrow/barrowlaw14.DigestSpares", spec := "digestSpares", inPlace := ["internal/bytealg.abigen_runtime_cmpstring"], unfollowed := true, recurses := true, apart := false, narrowed := true }
def DigestSparesUptoSaid : Prop := digestSparesUptoRow.holds Tryz.pinned (OpenSpec.upto digestSparesSpec)

/-- 'barrowlaw14.DigestLacks', WHERE WHAT IT READS IS OF BULK AT MOST 1048576: true; the input reads as it did. -/
def digestLacksUptoRow : OpenClaim := { program := "ytphcaholhacnpaagreat", sum := "efe71bf5609a95b27c78caa0645a940155388cca2cd1691accf9e2b73a4e49a6", func := "barrow/barrowlaw14.DigestLacks", spec := "digestLacks", inPlace := ["internal/bytealg.abigen_runtime_cmpstring"], unfollowed := true, recurses := true, apart := false, narrowed := true }
def DigestLacksUptoSaid : Prop := digestLacksUptoRow.holds Tryz.pinned (OpenSpec.upto digestLacksSpec)

/-- 'barrowlaw14.DigestPictures', WHERE WHAT IT READS IS OF BULK AT MOST 1048576: true; the input reads as it did. -/
def digestPicturesUptoRow : OpenClaim := { program := "ytphcaholhacnpaagreat", sum := "efe71bf5609a95b27c78caa0645a940155388cca2cd1691accf9e2b73a4e49a6", func := "barrow/barrowlaw14.DigestPictures", spec := "digestPictures", inPlace := ["internal/bytealg.abigen_runtime_cmpstring"], unfollowed := true, recurses := true, apart := false, narrowed := true }
def DigestPicturesUptoSaid : Prop := digestPicturesUptoRow.holds Tryz.pinned (OpenSpec.upto digestPicturesSpec)

/-- 'barrowlaw13.CompactStates', WHERE WHAT IT READS IS OF BULK AT MOST 1048576: true; the input reads as it did. -/
def compactStatesUptoRow : OpenClaim := { program := "ytphcaholhacnpaagreat", sum := "efe71bf5609a95b27c78caa0645a940155388cca2cd1691accf9e2b73a4e49a6", func := "barrow/barrowlaw13.CompactStates", spec := "compactStates", inPlace := ["internal/bytealg.abigen_runtime_cmpstring"], unfollowed := true, recurses := true, apart := false, narrowed := true }
def CompactStatesUptoSaid : Prop := compactStatesUptoRow.holds Tryz.pinned (OpenSpec.upto compactStatesSpec)

/-- 'barrowlaw13.CompactFates', WHERE WHAT IT READS IS OF BULK AT MOST 1048576: true; the input reads as it did. -/
def compactFatesUptoRow : OpenClaim := { program := "ytphcaholhacnpaagreat", sum := "efe71bf5609a95b27c78caa0645a940155388cca2cd1691accf9e2b73a4e49a6", func := "barrow/barrowlaw13.CompactFates", spec := "compactFates", inPlace := ["internal/bytealg.abigen_runtime_cmpstring"], unfollowed := true, recurses := true, apart := false, narrowed := true }
def CompactFatesUptoSaid : Prop := compactFatesUptoRow.holds Tryz.pinned (OpenSpec.upto compactFatesSpec)

end Rows
end Go.Proofs.YtphcaholhacnpaaGreat
