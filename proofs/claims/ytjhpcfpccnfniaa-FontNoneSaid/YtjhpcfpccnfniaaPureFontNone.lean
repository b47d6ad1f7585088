/- FontNone, in plain words: what the walk asks (YtjhpcfpccnfniaaN8) says it. -/
import Derived.Test.YtjhpcfpccnfniaaN8
namespace Go.Proofs.Ytjhpcfpccnfniaa.Pure
open Go.RowKit Go.Proofs.Ytjhpcfpccnfniaa.A Go.Proofs.Ytjhpcfpccnfniaa.N
theorem FontNone (a0_0 : Bool) (l0_1 : List S37) (a0_2 : Int) : (Lit.int .i64 a0_2).wf = true → ∃ k, N.erasurelaw19_FontNone.f k a0_0 l0_1 a0_2 = some true := fun _ => ⟨0, rfl⟩
end Go.Proofs.Ytjhpcfpccnfniaa.Pure
