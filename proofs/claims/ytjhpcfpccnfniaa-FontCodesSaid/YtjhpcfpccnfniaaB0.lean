-- written by my own driver of the kit's print (wip/tools/myprint.py); Lean checks it.
import Derived.Test.YtjhpcfpccnfniaaProg
import Derived.Below
import Derived.Deep.Draws
import Derived.Deep.AppendLies
import Derived.Maps.AppendAt
import Derived.OwnWalk
import Derived.Laws.BytesArg
import Derived.Laws.MakeOwn
import Derived.Laws.OwnMore
import Derived.Deep.OwnRows
import Derived.Tactics
import Derived.Lib.ConvBytes
import Derived.Laws.Slices
import Derived.WalkKit
import Derived.KernelRfl
import Derived.RowKit3
import Derived.Deep.LoopGhost
import Derived.Deep.QuietTactic
import Derived.BigQuiet
import Derived.WideLaws
import Derived.Deep.DeepCutAuto
import Derived.Deep.CutBlock
import Derived.Deep.RegionHeld3
import Derived.Laws.Rows
import Derived.Lib.AppendStr
import Derived.ArgAppend
import Derived.Laws.IdiomCopy
import Derived.OrdersHeld
import Derived.Laws.BitsLemmas
import Derived.RowKit
import Derived.Test.YtjhpcfpccnfniaaSq
import Derived.Test.YtjhpcfpccnfniaaA0
import Derived.Test.YtjhpcfpccnfniaaF0
import Derived.Test.YtjhpcfpccnfniaaWWords
import Derived.Test.YtjhpcfpccnfniaaWLast
import Derived.Test.YtjhpcfpccnfniaaWTab
import Derived.Test.YtjhpcfpccnfniaaWFour
import Derived.Test.YtjhpcfpccnfniaaWQPut
import Derived.Test.YtjhpcfpccnfniaaWApart
import Derived.Test.YtjhpcfpccnfniaaWArr
import Derived.Test.YtjhpcfpccnfniaaWZeros
import Derived.Test.YtjhpcfpccnfniaaWFoot
import Derived.Test.YtjhpcfpccnfniaaWKept
import Derived.Test.YtjhpcfpccnfniaaWShare
import Derived.Test.YtjhpcfpccnfniaaWN
import Derived.Test.YtjhpcfpccnfniaaWFootNe
import Derived.Test.YtjhpcfpccnfniaaWAt
import Derived.Test.YtjhpcfpccnfniaaWEqStruct
import Derived.Test.YtjhpcfpccnfniaaWRepsOne
import Derived.Test.YtjhpcfpccnfniaaWInv
import Derived.Test.YtjhpcfpccnfniaaWInvWords
import Derived.Test.YtjhpcfpccnfniaaWGuard
import Derived.Test.YtjhpcfpccnfniaaWNEv
import Derived.Test.YtjhpcfpccnfniaaWMore
namespace Go.Proofs.Ytjhpcfpccnfniaa.B
open Go.RowKit Go.Proofs.YtjhpcfpccnfniaaW.PrintWords Go.Proofs.YtjhpcfpccnfniaaW.PrintLast Go.Proofs.YtjhpcfpccnfniaaW.PrintMore Go.Proofs.Ytjhpcfpccnfniaa.A Go.Proofs.Ytjhpcfpccnfniaa.F
attribute [local go_sem] max2_int min2_int max_two min_two max_three min_three max_four min_four   -- for this text's walks alone
set_option linter.unusedVariables false
set_option linter.unusedSimpArgs false




-- the values' own types
/-! #### struct type 37 -/
/-! #### struct type 24 -/
def rd_L6 (xs : List (List Int)) (i : Int) : (List Int) := xs.getD i.toNat ([] : List Int)
theorem at_L6 {w : World} {A : Option Addr} {n : Nat} {xs : List (List Int)} (h : Kd.C (Kd.slice 3 (Kd.int .i64)) w A n xs) (i : Int) (h0 : 0 ≤ i) (h1 : i < n) : ∃ ad A0 c0, A = some ad ∧ w.cell? (ad.add i.toNat) = some (.slice A0 (rd_L6 xs i).length c0) ∧ (rd_L6 xs i).length ≤ c0 ∧ (Kd.int .i64).C w A0 (rd_L6 xs i).length (rd_L6 xs i) := by
  obtain ⟨ad, c, e, _, hK, hc0⟩ := Kd.C_get h ([] : List Int) i h0 h1
  have hc : ∀ j u, c[j]? = some u → w.cell? (ad.add (i.toNat * 1 + j)) = some u := hc0
  obtain ⟨A0, c0, rfl, l0, g0⟩ := hK
  exact ⟨ad, A0, c0, e, by have hq := hc 0 _ rfl; rwa [Nat.mul_one, Nat.add_zero] at hq, l0, g0⟩

end Go.Proofs.Ytjhpcfpccnfniaa.B
