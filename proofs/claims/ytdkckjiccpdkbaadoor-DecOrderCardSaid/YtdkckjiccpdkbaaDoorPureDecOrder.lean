import Derived.Test.YtdkckjiccpdkbaaDoorD3
namespace Go.Proofs.YtdkckjiccpdkbaaDoor.Pure
open Go.RowKit
theorem DecOrder (a0 a1 b0 b1 c0 c1 : Int) (_ : (Lit.int .i64 a0).wf = true) (_ : (Lit.int .i64 a1).wf = true) (_ : (Lit.int .i64 b0).wf = true) (_ : (Lit.int .i64 b1).wf = true) (_ : (Lit.int .i64 c0).wf = true) (_ : (Lit.int .i64 c1).wf = true) :
    ∃ k : Nat, D.erasurelaw01_DecOrder.f a0 a1 b0 b1 c0 c1 = some true := ⟨0, rfl⟩
end Go.Proofs.YtdkckjiccpdkbaaDoor.Pure
