/-
  No cell of these rows narrows 'for every input' (looked for: loops, veiled, ifaces, maps, wideKeys, modest, calm, conditions, laid).
  DERIVED. THE GIVEN ROWS OF THIS SEAT. 5 by the template 'for every input the law returns true; each argument reads behind the call as it read before'; 0 by the template 'total and deterministic' (their statements: YtjhpcfpccnfniaaTotals.lean).
  GIVEN WITH THE SEED: the statements are not yours to turn. If you find one false, say at which input.
  Laid BY PROGRAM, IN A SANDBOX (cutbox-rows.mjs): the forced cells as the released guide's own fill.sh prints them over the translation 73e8ebe31d9c72bb… (all of the seat's roots in one cut). By AI agents, Wed Nov 11 2026. No macro, syntax, notation, axiom, sorry.
-/
import Derived.Test.YtjhpcfpccnfniaaChecked
import GoSem.Claim
import GoSem.ClaimJoined
import GoSem.ClaimMapViews
import Derived.JoinedTies
import Derived.KernelRfl
namespace Go.Proofs.Ytjhpcfpccnfniaa
/- THE CELL 'sum', in the pinned program and in every row, IS THE sha256 OF THE DUMP (.gsa) THAT YtjhpcfpccnfniaaProg.lean LOADS. Nothing in Lean hashes anything: it is a label: what it is worth is what the hold of that sum in a sandbox is worth. -/
noncomputable def Try.pinned : Pinned := { name := "ytjhpcfpccnfniaa", sum := "73e8ebe31d9c72bbb6e44784fd603bc86448200577f3a227ca65b229c57e544c", checked := Try.checked }
namespace Rows
def none {H : Type} : Left H := { results := [], args := [] }

/-- 'erasurelaw19.FontCodes': WHATEVER THE INPUT: true; the input reads as it did. -/
def fontCodesSpec : ChangeSpec := { name := "fontCodes", fn := fun _ => fun
  | [d1, d2, d3] => { results := [.lit (.bool true)], args := [d1, d2, d3] }
  | _ => none }
def fontCodesRow : OpenClaim := { program := "ytjhpcfpccnfniaa", sum := "73e8ebe31d9c72bbb6e44784fd603bc86448200577f3a227ca65b229c57e544c", func := "erasure/erasurelaw19.FontCodes", spec := "fontCodes", inPlace := ["internal/abi.NoEscape"], unfollowed := true, recurses := true, apart := false }
def FontCodesSaid : Prop := fontCodesRow.holds Try.pinned (OpenSpec.ofChange fontCodesSpec)

/-- ITS FALSE NEIGHBOUR: 'it returns false'. Refute it at one input. -/
def fontCodesWrong : ChangeSpec := { name := "fontCodes", fn := fun _ => fun
  | [d1, d2, d3] => { results := [.lit (.bool false)], args := [d1, d2, d3] }
  | _ => none }
def FontCodesWrongFalsely : Prop := fontCodesRow.holds Try.pinned (OpenSpec.ofChange fontCodesWrong)

/-- 'erasurelaw19.FontTells': WHATEVER THE INPUT: true; the input reads as it did. -/
def fontTellsSpec : ChangeSpec := { name := "fontTells", fn := fun _ => fun
  | [d1, d2, d3, d4] => { results := [.lit (.bool true)], args := [d1, d2, d3, d4] }
  | _ => none }
def fontTellsRow : OpenClaim := { program := "ytjhpcfpccnfniaa", sum := "73e8ebe31d9c72bbb6e44784fd603bc86448200577f3a227ca65b229c57e544c", func := "erasure/erasurelaw19.FontTells", spec := "fontTells", inPlace := ["internal/abi.NoEscape"], unfollowed := true, recurses := true, apart := false }
def FontTellsSaid : Prop := fontTellsRow.holds Try.pinned (OpenSpec.ofChange fontTellsSpec)

/-- ITS FALSE NEIGHBOUR: 'it returns false'. Refute it at one input. -/
def fontTellsWrong : ChangeSpec := { name := "fontTells", fn := fun _ => fun
  | [d1, d2, d3, d4] => { results := [.lit (.bool false)], args := [d1, d2, d3, d4] }
  | _ => none }
def FontTellsWrongFalsely : Prop := fontTellsRow.holds Try.pinned (OpenSpec.ofChange fontTellsWrong)

/-- 'erasurelaw19.FontCuts': WHATEVER THE INPUT: true; the input reads as it did. -/
def fontCutsSpec : ChangeSpec := { name := "fontCuts", fn := fun _ => fun
  | [d1, d2] => { results := [.lit (.bool true)], args := [d1, d2] }
  | _ => none }
def fontCutsRow : OpenClaim := { program := "ytjhpcfpccnfniaa", sum := "73e8ebe31d9c72bbb6e44784fd603bc86448200577f3a227ca65b229c57e544c", func := "erasure/erasurelaw19.FontCuts", spec := "fontCuts", inPlace := ["slices.overlaps[erasure/api.Glyph]"], unfollowed := true, recurses := true, apart := false }
def FontCutsSaid : Prop := fontCutsRow.holds Try.pinned (OpenSpec.ofChange fontCutsSpec)

/-- ITS FALSE NEIGHBOUR: 'it returns false'. Refute it at one input. -/
def fontCutsWrong : ChangeSpec := { name := "fontCuts", fn := fun _ => fun
  | [d1, d2] => { results := [.lit (.bool false)], args := [d1, d2] }
  | _ => none }
def FontCutsWrongFalsely : Prop := fontCutsRow.holds Try.pinned (OpenSpec.ofChange fontCutsWrong)

/-- 'erasurelaw19.FontKeeps': WHATEVER THE INPUT: true; the input reads as it did. -/
def fontKeepsSpec : ChangeSpec := { name := "fontKeeps", fn := fun _ => fun
  | [d1, d2, d3] => { results := [.lit (.bool true)], args := [d1, d2, d3] }
  | _ => none }
def fontKeepsRow : OpenClaim := { program := "ytjhpcfpccnfniaa", sum := "73e8ebe31d9c72bbb6e44784fd603bc86448200577f3a227ca65b229c57e544c", func := "erasure/erasurelaw19.FontKeeps", spec := "fontKeeps", inPlace := ["slices.overlaps[erasure/api.Glyph]"], unfollowed := true, recurses := true, apart := false }
def FontKeepsSaid : Prop := fontKeepsRow.holds Try.pinned (OpenSpec.ofChange fontKeepsSpec)

/-- ITS FALSE NEIGHBOUR: 'it returns false'. Refute it at one input. -/
def fontKeepsWrong : ChangeSpec := { name := "fontKeeps", fn := fun _ => fun
  | [d1, d2, d3] => { results := [.lit (.bool false)], args := [d1, d2, d3] }
  | _ => none }
def FontKeepsWrongFalsely : Prop := fontKeepsRow.holds Try.pinned (OpenSpec.ofChange fontKeepsWrong)

/-- 'erasurelaw19.FontNone': WHATEVER THE INPUT: true; the input reads as it did. -/
def fontNoneSpec : ChangeSpec := { name := "fontNone", fn := fun _ => fun
  | [d] => { results := [.lit (.bool true)], args := [d] }
  | _ => none }
def fontNoneRow : OpenClaim := { program := "ytjhpcfpccnfniaa", sum := "73e8ebe31d9c72bbb6e44784fd603bc86448200577f3a227ca65b229c57e544c", func := "erasure/erasurelaw19.FontNone", spec := "fontNone", inPlace := ["slices.overlaps[erasure/api.Glyph]", "internal/abi.NoEscape"], unfollowed := true, recurses := true, apart := false }
def FontNoneSaid : Prop := fontNoneRow.holds Try.pinned (OpenSpec.ofChange fontNoneSpec)

/-- ITS FALSE NEIGHBOUR: 'it returns false'. Refute it at one input. -/
def fontNoneWrong : ChangeSpec := { name := "fontNone", fn := fun _ => fun
  | [d] => { results := [.lit (.bool false)], args := [d] }
  | _ => none }
def FontNoneWrongFalsely : Prop := fontNoneRow.holds Try.pinned (OpenSpec.ofChange fontNoneWrong)

/- THE SECOND FORM. 'bulk': how many values and letters a reading holds, each counted each time it is reached (what is shared counts as often as it is met; a slice's spare places count too). A statement '..UptoSaid' is the law's where the arguments, and the package variables that the reading takes, are together of bulk at most 1048576: NARROWER than '..Said'. Prove '..Said' where nothing that the law and all that it calls make is longer than what came in: it says more and counts as full. Else prove '..UptoSaid'. A law counts once. -/
mutual
def uptoBulk {H : Type} : DataW H → Nat
  | .lit (.string bytes) => bytes.length + 1
  | .lit _ => 1
  | .nil => 1
  | .ptr d => uptoBulk d + 1
  | .slice elems spare => uptoBulkAll elems + uptoBulkAll spare + 1
  | .agg parts => uptoBulkAll parts + 1
  | .iface _ d => uptoBulk d + 1
  | .map entries => uptoBulkEntries entries + 1
  | .held _ => 1
def uptoBulkAll {H : Type} : List (DataW H) → Nat
  | [] => 0
  | d :: r => uptoBulk d + uptoBulkAll r
def uptoBulkEntries {H : Type} : List (Lit × DataW H) → Nat
  | [] => 0
  | x :: r => uptoBulkEntry x + uptoBulkEntries r
def uptoBulkEntry {H : Type} : Lit × DataW H → Nat
  | (.string bytes, d) => bytes.length + uptoBulk d + 1
  | (_, d) => uptoBulk d + 1
 end
def uptoSmall : (H : Type) → List (DataW H) → Bool := fun _ ds => decide (uptoBulkAll ds ≤ 1048576)
def OpenSpec.upto (s : _root_.Go.ChangeSpec) : _root_.Go.OpenSpec := { _root_.Go.OpenSpec.ofChange s with cond := some uptoSmall }

/-- 'erasurelaw19.FontCodes', WHERE WHAT IT READS IS OF BULK AT MOST 1048576: true; the input reads as it did. -/
def fontCodesUptoRow : OpenClaim := { program := "ytjhpcfpccnfniaa", sum := "73e8ebe31d9c72bbb6e44784fd603bc86448200577f3a227ca65b229c57e544c", func := "erasure/erasurelaw19.FontCodes", spec := "fontCodes", inPlace := ["internal/abi.NoEscape"], unfollowed := true, recurses := true, apart := false, narrowed := true }
def FontCodesUptoSaid : Prop := fontCodesUptoRow.holds Try.pinned (OpenSpec.upto fontCodesSpec)

/-- 'erasurelaw19.FontTells', WHERE WHAT IT READS IS OF BULK AT MOST 1048576: true; the input reads as it did. -/
def fontTellsUptoRow : OpenClaim := { program := "ytjhpcfpccnfniaa", sum := "73e8ebe31d9c72bbb6e44784fd603bc86448200577f3a227ca65b229c57e544c", func := "erasure/erasurelaw19.FontTells", spec := "fontTells", inPlace := ["internal/abi.NoEscape"], unfollowed := true, recurses := true, apart := false, narrowed := true }
def FontTellsUptoSaid : Prop := fontTellsUptoRow.holds Try.pinned (OpenSpec.upto fontTellsSpec)

/-- 'erasurelaw19.FontCuts', WHERE WHAT IT READS IS OF BULK AT MOST 1048576: true; the input reads as it did. -/
def fontCutsUptoRow : OpenClaim := { program := "ytjhpcfpccnfniaa", sum := "73e8ebe31d9c72bbb6e44784fd603bc86448200577f3a227ca65b229c57e544c", func := "erasure/erasurelaw19.FontCuts", spec := "fontCuts", inPlace := ["slices.overlaps[erasure/api.Glyph]"], unfollowed := true, recurses := true, apart := false, narrowed := true }
def FontCutsUptoSaid : Prop := fontCutsUptoRow.holds Try.pinned (OpenSpec.upto fontCutsSpec)

/-- 'erasurelaw19.FontKeeps', WHERE WHAT IT READS IS OF BULK AT MOST 1048576: true; the input reads as it did. -/
def fontKeepsUptoRow : OpenClaim := { program := "ytjhpcfpccnfniaa", sum := "73e8ebe31d9c72bbb6e44784fd603bc86448200577f3a227ca65b229c57e544c", func := "erasure/erasurelaw19.FontKeeps", spec := "fontKeeps", inPlace := ["slices.overlaps[erasure/api.Glyph]"], unfollowed := true, recurses := true, apart := false, narrowed := true }
def FontKeepsUptoSaid : Prop := fontKeepsUptoRow.holds Try.pinned (OpenSpec.upto fontKeepsSpec)

/-- 'erasurelaw19.FontNone', WHERE WHAT IT READS IS OF BULK AT MOST 1048576: true; the input reads as it did. -/
def fontNoneUptoRow : OpenClaim := { program := "ytjhpcfpccnfniaa", sum := "73e8ebe31d9c72bbb6e44784fd603bc86448200577f3a227ca65b229c57e544c", func := "erasure/erasurelaw19.FontNone", spec := "fontNone", inPlace := ["slices.overlaps[erasure/api.Glyph]", "internal/abi.NoEscape"], unfollowed := true, recurses := true, apart := false, narrowed := true }
def FontNoneUptoSaid : Prop := fontNoneUptoRow.holds Try.pinned (OpenSpec.upto fontNoneSpec)

end Rows
end Go.Proofs.Ytjhpcfpccnfniaa
