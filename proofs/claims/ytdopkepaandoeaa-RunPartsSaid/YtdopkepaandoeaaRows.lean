/-
  No cell of these rows narrows 'for every input' (looked for: loops, veiled, ifaces, maps, wideKeys, modest, calm, conditions, laid).
  DERIVED. THE GIVEN ROWS OF THIS SEAT. 4 by the template 'for every input the law returns true; each argument reads behind the call as it read before'; 0 by the template 'total and deterministic' (their statements: YtdopkepaandoeaaTotals.lean).
  GIVEN WITH THE SEED: the statements are not yours to turn. If you find one false, say at which input.
  Laid BY PROGRAM, IN A SANDBOX (cutbox-rows.mjs): the forced cells as the released guide's own fill.sh prints them over the translation 96136a05d7540161… (all of the seat's roots in one cut). By AI agents, Wed Nov 11 2026. No macro, syntax, notation, axiom, sorry.
-/
import Derived.Test.YtdopkepaandoeaaChecked
import GoSem.Claim
import GoSem.ClaimJoined
import GoSem.ClaimMapViews
import Derived.JoinedTies
import Derived.KernelRfl
namespace Go.Proofs.Ytdopkepaandoeaa
/- THE CELL 'sum', in the pinned program and in every row, IS THE sha256 OF THE DUMP (.gsa) THAT YtdopkepaandoeaaProg.lean LOADS. Nothing in Lean hashes anything: it is a label: what it is worth is what the hold of that sum in a sandbox is worth. -/
noncomputable def Try.pinned : Pinned := { name := "ytdopkepaandoeaa", sum := "96136a05d75401611f145abb1c1e7dcd889b05969d3e651a427c785c6f86f8de", checked := Try.checked }
namespace Rows
def none {H : Type} : Left H := { results := [], args := [] }

/-- 'erasurelaw11.RunDoes': WHATEVER THE INPUT: true; the input reads as it did. -/
def runDoesSpec : ChangeSpec := { name := "runDoes", fn := fun _ => fun
  | [d1, d2] => { results := [.lit (.bool true)], args := [d1, d2] }
  | _ => none }
def runDoesRow : OpenClaim := { program := "ytdopkepaandoeaa", sum := "96136a05d75401611f145abb1c1e7dcd889b05969d3e651a427c785c6f86f8de", func := "erasure/erasurelaw11.RunDoes", spec := "runDoes", unfollowed := true, recurses := true, apart := false }
def RunDoesSaid : Prop := runDoesRow.holds Try.pinned (OpenSpec.ofChange runDoesSpec)

/-- ITS FALSE NEIGHBOUR: 'it returns false'. Refute it at one input. -/
def runDoesWrong : ChangeSpec := { name := "runDoes", fn := fun _ => fun
  | [d1, d2] => { results := [.lit (.bool false)], args := [d1, d2] }
  | _ => none }
def RunDoesWrongFalsely : Prop := runDoesRow.holds Try.pinned (OpenSpec.ofChange runDoesWrong)

/-- 'erasurelaw11.RunBack': WHATEVER THE INPUT: true; the input reads as it did. -/
def runBackSpec : ChangeSpec := { name := "runBack", fn := fun _ => fun
  | [d1, d2, d3] => { results := [.lit (.bool true)], args := [d1, d2, d3] }
  | _ => none }
def runBackRow : OpenClaim := { program := "ytdopkepaandoeaa", sum := "96136a05d75401611f145abb1c1e7dcd889b05969d3e651a427c785c6f86f8de", func := "erasure/erasurelaw11.RunBack", spec := "runBack", unfollowed := true, recurses := true, apart := false }
def RunBackSaid : Prop := runBackRow.holds Try.pinned (OpenSpec.ofChange runBackSpec)

/-- ITS FALSE NEIGHBOUR: 'it returns false'. Refute it at one input. -/
def runBackWrong : ChangeSpec := { name := "runBack", fn := fun _ => fun
  | [d1, d2, d3] => { results := [.lit (.bool false)], args := [d1, d2, d3] }
  | _ => none }
def RunBackWrongFalsely : Prop := runBackRow.holds Try.pinned (OpenSpec.ofChange runBackWrong)

/-- 'erasurelaw11.RunOften': WHATEVER THE INPUT: true; the input reads as it did. -/
def runOftenSpec : ChangeSpec := { name := "runOften", fn := fun _ => fun
  | [d1, d2] => { results := [.lit (.bool true)], args := [d1, d2] }
  | _ => none }
def runOftenRow : OpenClaim := { program := "ytdopkepaandoeaa", sum := "96136a05d75401611f145abb1c1e7dcd889b05969d3e651a427c785c6f86f8de", func := "erasure/erasurelaw11.RunOften", spec := "runOften", unfollowed := true, recurses := true, apart := false }
def RunOftenSaid : Prop := runOftenRow.holds Try.pinned (OpenSpec.ofChange runOftenSpec)

/-- ITS FALSE NEIGHBOUR: 'it returns false'. Refute it at one input. -/
def runOftenWrong : ChangeSpec := { name := "runOften", fn := fun _ => fun
  | [d1, d2] => { results := [.lit (.bool false)], args := [d1, d2] }
  | _ => none }
def RunOftenWrongFalsely : Prop := runOftenRow.holds Try.pinned (OpenSpec.ofChange runOftenWrong)

/-- 'erasurelaw11.RunParts': WHATEVER THE INPUT: true; the input reads as it did. -/
def runPartsSpec : ChangeSpec := { name := "runParts", fn := fun _ => fun
  | [d1, d2] => { results := [.lit (.bool true)], args := [d1, d2] }
  | _ => none }
def runPartsRow : OpenClaim := { program := "ytdopkepaandoeaa", sum := "96136a05d75401611f145abb1c1e7dcd889b05969d3e651a427c785c6f86f8de", func := "erasure/erasurelaw11.RunParts", spec := "runParts", unfollowed := true, recurses := true, apart := false }
def RunPartsSaid : Prop := runPartsRow.holds Try.pinned (OpenSpec.ofChange runPartsSpec)

/-- ITS FALSE NEIGHBOUR: 'it returns false'. Refute it at one input. -/
def runPartsWrong : ChangeSpec := { name := "runParts", fn := fun _ => fun
  | [d1, d2] => { results := [.lit (.bool false)], args := [d1, d2] }
  | _ => none }
def RunPartsWrongFalsely : Prop := runPartsRow.holds Try.pinned (OpenSpec.ofChange runPartsWrong)

/- THE SECOND FORM. 'bulk': how many values and letters a reading holds, each counted each time it is reached (what is shared counts as often as it is met; a slice's spare places count too). A statement '..UptoSaid' is the law's where the arguments, and the package variables that the reading takes, are together of bulk at most 1048576: NARROWER than '..Said'. Prove '..Said' where nothing that the law and all that it calls make is longer than what came in: it says more and counts as full. Else prove '..UptoSaid'. A law counts once. -/
mutual
def uptoBulk {H : Type} : DataW H → Nat
  | .lit (.string bytes) => bytes.length + 1
  | .lit _ => 1
  | .nil => 1
  | .ptr d => uptoBulk d + 1
  | .slice elems spare => uptoBulkAll elems + uptoBulkAll spare + 1
  | .agg parts => uptoBulkAll parts + 1
  | .iface _ d => uptoBulk d + 1
  | .map entries => uptoBulkEntries entries + 1
  | .held _ => 1
def uptoBulkAll {H : Type} : List (DataW H) → Nat
  | [] => 0
  | d :: r => uptoBulk d + uptoBulkAll r
def uptoBulkEntries {H : Type} : List (Lit × DataW H) → Nat
  | [] => 0
  | x :: r => uptoBulkEntry x + uptoBulkEntries r
def uptoBulkEntry {H : Type} : Lit × DataW H → Nat
  | (.string bytes, d) => bytes.length + uptoBulk d + 1
  | (_, d) => uptoBulk d + 1
 end
def uptoSmall : (H : Type) → List (DataW H) → Bool := fun _ ds => decide (uptoBulkAll ds ≤ 1048576)
def OpenSpec.upto (s : _root_.Go.ChangeSpec) : _root_.Go.OpenSpec := { _root_.Go.OpenSpec.ofChange s with cond := some uptoSmall }

/-- 'erasurelaw11.RunDoes', WHERE WHAT IT READS IS OF BULK AT MOST 1048576: true; the input reads as it did. -/
def runDoesUptoRow : OpenClaim := { program := "ytdopkepaandoeaa", sum := "96136a05d75401611f145abb1c1e7dcd889b05969d3e651a427c785c6f86f8de", func := "erasure/erasurelaw11.RunDoes", spec := "runDoes", unfollowed := true, recurses := true, apart := false, narrowed := true }
def RunDoesUptoSaid : Prop := runDoesUptoRow.holds Try.pinned (OpenSpec.upto runDoesSpec)

/-- 'erasurelaw11.RunBack', WHERE WHAT IT READS IS OF BULK AT MOST 1048576: true; the input reads as it did. -/
def runBackUptoRow : OpenClaim := { program := "ytdopkepaandoeaa", sum := "96136a05d75401611f145abb1c1e7dcd889b05969d3e651a427c785c6f86f8de", func := "erasure/erasurelaw11.RunBack", spec := "runBack", unfollowed := true, recurses := true, apart := false, narrowed := true }
def RunBackUptoSaid : Prop := runBackUptoRow.holds Try.pinned (OpenSpec.upto runBackSpec)

/-- 'erasurelaw11.RunOften', WHERE WHAT IT READS IS OF BULK AT MOST 1048576: true; the input reads as it did. -/
def runOftenUptoRow : OpenClaim := { program := "ytdopkepaandoeaa", sum := "96136a05d75401611f145abb1c1e7dcd889b05969d3e651a427c785c6f86f8de", func := "erasure/erasurelaw11.RunOften", spec := "runOften", unfollowed := true, recurses := true, apart := false, narrowed := true }
def RunOftenUptoSaid : Prop := runOftenUptoRow.holds Try.pinned (OpenSpec.upto runOftenSpec)

/-- 'erasurelaw11.RunParts', WHERE WHAT IT READS IS OF BULK AT MOST 1048576: true; the input reads as it did. -/
def runPartsUptoRow : OpenClaim := { program := "ytdopkepaandoeaa", sum := "96136a05d75401611f145abb1c1e7dcd889b05969d3e651a427c785c6f86f8de", func := "erasure/erasurelaw11.RunParts", spec := "runParts", unfollowed := true, recurses := true, apart := false, narrowed := true }
def RunPartsUptoSaid : Prop := runPartsUptoRow.holds Try.pinned (OpenSpec.upto runPartsSpec)

end Rows
end Go.Proofs.Ytdopkepaandoeaa
