/- FontCuts: a font is cut just so, or refused; what was handed in stays. -/
import Derived.Test.YtjhpcfpccnfniaaPlainSame
import Derived.Test.YtjhpcfpccnfniaaC4
namespace Go.Proofs.Ytjhpcfpccnfniaa.Pure
open Go.RowKit Go.Proofs.Ytjhpcfpccnfniaa.A Go.Proofs.Ytjhpcfpccnfniaa.C Go.Proofs.YtjhpcfpccnfniaaW.PrintWords Go.Proofs.YtjhpcfpccnfniaaW.PrintLast Go.Proofs.Ytjhpcfpccnfniaa.Plain
set_option linter.unusedVariables false
open Classical in
theorem FontCuts (a0_0 : Bool) (l0_1 : List S37) (a0_2 : Int) (l1 : List Int) : (Lit.int .i64 a0_2).wf = true → l1.length * 8 ≤ 140737488351232 → (∀ x ∈ l1, (Lit.int .i64 x).wf = true) → ∃ k, C.erasurelaw19_FontCuts.f k a0_0 l0_1 a0_2 l1 = some true := by
  intro _ _ _
  refine ⟨3000002 + 1, ?_⟩
  unfold erasurelaw19_FontCuts.f
  have hskip : erasurelaw19_FontCuts.j0 (3000002 + 1) l1 true a0_0 l0_1 a0_2 = some true := by rw [erasurelaw19_FontCuts.j0, if_pos rfl]
  by_cases h1 : (l0_1.length : Int) > 150
  · rw [if_pos h1]; exact hskip
  · rw [if_neg h1]
    by_cases h2 : (l1.length : Int) > 100
    · rw [decide_eq_true h2]; exact hskip
    · rw [decide_eq_false h2, erasurelaw19_FontCuts.j0, if_neg Bool.false_ne_true, Option.bind_some, List.length_nil, if_pos (by omega), List.nil_append, Option.bind_some,
        cut_f a0_0 l0_1 a0_2 (by omega) l1 (by omega) 3000002 (by omega), Option.bind_some, rcut_f a0_0 l0_1 a0_2 (by omega) l1 (by omega) 3000002 (by omega), Option.bind_some,
        show erasurelaw19_awake.f = some true from rfl, Option.bind_some, if_pos rfl]
      have hlen : (if Right a0_0 l0_1 a0_2 then (a0_0, cutL a0_0 l0_1 a0_2 l1, (0 : Int), (0 : Int)) else (false, [], 0, 1)).2.1.length ≤ 1000 := by
        by_cases hR : Right a0_0 l0_1 a0_2
        · rw [if_pos hR]
          have := cutL_len a0_0 l0_1 a0_2 l1 []
          unfold cutL
          simp at this ⊢
          omega
        · rw [if_neg hR]
          exact Nat.zero_le _
      generalize (if Right a0_0 l0_1 a0_2 then (a0_0, cutL a0_0 l0_1 a0_2 l1, (0 : Int), (0 : Int)) else (false, [], 0, 1)) = r at hlen
      rw [same_refl r.1 r.2.1 r.2.2.1 (by omega) 3000002 (by omega), Option.bind_some, if_pos rfl, if_pos rfl, same_refl a0_0 l0_1 a0_2 (by omega) 3000002 (by omega), Option.bind_some]
end Go.Proofs.Ytjhpcfpccnfniaa.Pure
