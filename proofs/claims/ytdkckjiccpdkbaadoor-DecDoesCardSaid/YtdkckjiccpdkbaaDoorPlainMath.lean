/- Decimals as whole numbers at a place: what is told depends on the value alone. -/
import Derived.Test.YtdkckjiccpdkbaaDoorPlainDec
namespace Go.Proofs.YtdkckjiccpdkbaaDoor.Plain
open Go.RowKit Go.Proofs.YtdkckjiccpdkbaaDoor.A Go.Proofs.YtdkckjiccpdkbaaDoor.B Go.Proofs.YtdkckjiccpdkbaaDoor.H
theorem strip_good (N s : Nat) (h : s = 0 ∨ N % 10 ≠ 0) : strip N s = (N, s) := by
  cases s with
  | zero => rfl
  | succ s => rw [strip, if_neg (by omega)]
theorem good_nat {M S : Int} (h : Good M S) : ∃ s : Nat, S = s ∧ s ≤ 9 := by
  obtain ⟨_, _, h3, h4, _⟩ := h
  exact ⟨S.toNat, by omega, by omega⟩
end Go.Proofs.YtdkckjiccpdkbaaDoor.Plain
