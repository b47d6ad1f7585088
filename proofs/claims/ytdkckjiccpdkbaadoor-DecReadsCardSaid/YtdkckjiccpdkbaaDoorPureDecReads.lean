import Derived.Test.YtdkckjiccpdkbaaDoorD4
namespace Go.Proofs.YtdkckjiccpdkbaaDoor.Pure
open Go.RowKit
theorem DecReads (t : ByteArray) (m s : Int) (_ : t.size ≤ 140737488351232) (_ : (Lit.int .i64 m).wf = true) (_ : (Lit.int .i64 s).wf = true) : ∃ k : Nat, D.erasurelaw01_DecReads.f t m s = some true := ⟨0, rfl⟩
end Go.Proofs.YtdkckjiccpdkbaaDoor.Pure
