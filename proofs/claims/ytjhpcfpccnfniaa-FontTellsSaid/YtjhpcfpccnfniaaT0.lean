-- written by my own driver of the kit's print (wip/tools/myprint.py); Lean checks it.
import Derived.Below
import Derived.Deep.Draws
import Derived.Deep.AppendLies
import Derived.Maps.AppendAt
import Derived.OwnWalk
import Derived.Laws.BytesArg
import Derived.Laws.MakeOwn
import Derived.Laws.OwnMore
import Derived.Deep.OwnRows
import Derived.Tactics
import Derived.Lib.ConvBytes
import Derived.Laws.Slices
import Derived.WalkKit
import Derived.KernelRfl
import Derived.RowKit3
import Derived.Deep.LoopGhost
import Derived.Deep.QuietTactic
import Derived.BigQuiet
import Derived.WideLaws
import Derived.Deep.DeepCutAuto
import Derived.Deep.CutBlock
import Derived.Deep.RegionHeld3
import Derived.Laws.Rows
import Derived.Lib.AppendStr
import Derived.ArgAppend
import Derived.Laws.IdiomCopy
import Derived.OrdersHeld
import Derived.Laws.BitsLemmas
import Derived.RowKit
import Derived.Test.YtjhpcfpccnfniaaProg
import Derived.Test.YtjhpcfpccnfniaaSq
import Derived.Test.YtjhpcfpccnfniaaA0
import Derived.Test.YtjhpcfpccnfniaaF0
import Derived.Test.YtjhpcfpccnfniaaC0
import Derived.Test.YtjhpcfpccnfniaaWWords
import Derived.Test.YtjhpcfpccnfniaaWLast
import Derived.Test.YtjhpcfpccnfniaaWTab
import Derived.Test.YtjhpcfpccnfniaaWApart
import Derived.Test.YtjhpcfpccnfniaaWFoot
import Derived.Test.YtjhpcfpccnfniaaWKept
import Derived.Test.YtjhpcfpccnfniaaWShare
import Derived.Test.YtjhpcfpccnfniaaWN
import Derived.Test.YtjhpcfpccnfniaaWEqStruct
import Derived.Test.YtjhpcfpccnfniaaWRepsOne
import Derived.Test.YtjhpcfpccnfniaaWGuard
import Derived.Test.YtjhpcfpccnfniaaWMore
namespace Go.Proofs.Ytjhpcfpccnfniaa.T
open Go.RowKit Go.Proofs.YtjhpcfpccnfniaaW.PrintWords Go.Proofs.YtjhpcfpccnfniaaW.PrintLast Go.Proofs.YtjhpcfpccnfniaaW.PrintMore Go.Proofs.Ytjhpcfpccnfniaa.A Go.Proofs.Ytjhpcfpccnfniaa.F Go.Proofs.Ytjhpcfpccnfniaa.C
attribute [local go_sem] max2_int min2_int max_two min_two max_three min_three max_four min_four   -- for this text's walks alone
set_option linter.unusedVariables false
set_option linter.unusedSimpArgs false
end Go.Proofs.Ytjhpcfpccnfniaa.T
