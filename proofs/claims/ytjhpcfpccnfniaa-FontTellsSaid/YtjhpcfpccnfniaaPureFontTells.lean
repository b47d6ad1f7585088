/- FontTells: a font is right, or not; codes are found, told of bytes, as bytes, and what they mean, just so, or refused. -/
import Derived.Test.YtjhpcfpccnfniaaPlainTells
import Derived.Test.YtjhpcfpccnfniaaT3
namespace Go.Proofs.Ytjhpcfpccnfniaa.Pure
open Go.RowKit Go.Proofs.Ytjhpcfpccnfniaa.A Go.Proofs.Ytjhpcfpccnfniaa.C Go.Proofs.Ytjhpcfpccnfniaa.F Go.Proofs.Ytjhpcfpccnfniaa.T Go.Proofs.YtjhpcfpccnfniaaW.PrintWords Go.Proofs.YtjhpcfpccnfniaaW.PrintLast Go.Proofs.Ytjhpcfpccnfniaa.Plain
set_option linter.unusedVariables false
theorem codes_len (w : Bool) (l : List S37) (o : Int) (s : ByteArray) (p : Prop) [Decidable p] (q : Prop) [Decidable q] : (if p then (if q then (codesL w (bytesOf s), (0 : Int)) else ([], 4)) else ([], 1)).1.length ≤ s.size := by
  split
  · split
    · have := codesL_len w (bytesOf s)
      rw [bytesOf_length] at this
      exact this
    · exact Nat.zero_le _
  · exact Nat.zero_le _
open Classical in
theorem check_right (w : Bool) (l : List S37) (o : Int) : (((if Right w l o then (0 : Int) else 1) == 0) == decide (Right w l o)) = true := by
  by_cases h : Right w l o
  · rw [if_pos h, decide_eq_true h]; rfl
  · rw [if_neg h, decide_eq_false h]; rfl
open Classical in
theorem FontTells (a0_0 : Bool) (l0_1 : List S37) (a0_2 : Int) (a1 : Int) (a2 : ByteArray) (l3 : List Int) : (Lit.int .i64 a0_2).wf = true → (Lit.int .i64 a1).wf = true → a2.size ≤ 140737488351232 → l3.length * 8 ≤ 140737488351232 → (∀ x ∈ l3, (Lit.int .i64 x).wf = true) → ∃ k, T.erasurelaw19_FontTells.f k a0_0 l0_1 a0_2 a1 a2 l3 = some true := by
  intro _ _ _ _ _
  refine ⟨20000 + 1, ?_⟩
  unfold erasurelaw19_FontTells.f
  have hskip : erasurelaw19_FontTells.j0 (20000 + 1) a1 a2 l3 true a0_0 l0_1 a0_2 = some true := by rw [erasurelaw19_FontTells.j0, if_pos rfl]
  by_cases h1 : (l0_1.length : Int) > 150
  · rw [if_pos h1]; exact hskip
  rw [if_neg h1]
  by_cases h2 : (a2.size : Int) > 200
  · rw [if_pos h2]; exact hskip
  rw [if_neg h2]
  by_cases h3 : (l3.length : Int) > 100
  · rw [decide_eq_true h3]; exact hskip
  have hlen := codes_len a0_0 l0_1 a0_2 a2 (Right a0_0 l0_1 a0_2) (a0_0 = true → a2.size % 2 = 0)
  rw [decide_eq_false h3, erasurelaw19_FontTells.j0, if_neg Bool.false_ne_true,
    codes_f a0_0 l0_1 a0_2 a2 (by omega) (by omega) 20000 (by omega), Option.bind_some, rcodes_f a0_0 l0_1 a0_2 a2 (by omega) (by omega) 20000 (by omega), Option.bind_some,
    bytes_f a0_0 l0_1 a0_2 l3 (by omega) (by omega) 20000 (by omega), Option.bind_some, rbytes_f a0_0 l0_1 a0_2 l3 (by omega) (by omega) 20000 (by omega), Option.bind_some,
    means_ff a0_0 l0_1 a0_2 l3 (by omega) (by omega) (right_few a0_0 l0_1 a0_2) 20000 (by omega), Option.bind_some, rmeans_f a0_0 l0_1 a0_2 l3 (by omega) (by omega) (right_few a0_0 l0_1 a0_2) 20000 (by omega), Option.bind_some,
    show erasurelaw19_awake.f = some true from rfl, Option.bind_some, if_pos rfl, check_f a0_0 l0_1 a0_2 (by omega) 20000 (by omega), Option.bind_some, right_f a0_0 l0_1 a0_2 (by omega) 20000 (by omega), Option.bind_some,
    if_pos (check_right a0_0 l0_1 a0_2), find_f, Option.bind_some, rfind_f a0_0 l0_1 a0_2 a1 (by omega) 20000 (by omega), Option.bind_some]
  dsimp only
  rw [if_pos (by simp), ints_f _ _ (by omega) 20000 (by omega), Option.bind_some, decide_eq_true rfl, if_pos rfl, if_pos rfl, if_pos rfl, if_pos rfl, if_pos rfl]
  simp
end Go.Proofs.Ytjhpcfpccnfniaa.Pure
