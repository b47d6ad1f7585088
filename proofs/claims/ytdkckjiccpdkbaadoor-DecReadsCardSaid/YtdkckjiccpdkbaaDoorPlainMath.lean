/- Decimals as whole numbers at a place: what is told depends on the value alone. -/
import Derived.Test.YtdkckjiccpdkbaaDoorPlainDec
namespace Go.Proofs.YtdkckjiccpdkbaaDoor.Plain
open Go.RowKit Go.Proofs.YtdkckjiccpdkbaaDoor.A Go.Proofs.YtdkckjiccpdkbaaDoor.B Go.Proofs.YtdkckjiccpdkbaaDoor.H

theorem up_zero (M : Int) : up M 0 = M := by unfold up; rw [Nat.pow_zero]; omega
theorem up_nil (d : Nat) : up 0 d = 0 := by unfold up; rw [Int.zero_mul]
theorem up_up (M : Int) (a b : Nat) : up (up M a) b = up M (a + b) := by
  unfold up
  rw [Nat.pow_add, Int.natCast_mul, Int.mul_assoc]
theorem up_add (x y : Int) (d : Nat) : up (x + y) d = up x d + up y d := by unfold up; rw [Int.add_mul]
theorem up_neg (x : Int) (d : Nat) : up (-x) d = -up x d := by unfold up; rw [Int.neg_mul]
theorem up_mul (x y : Int) (a b : Nat) : up x a * up y b = up (x * y) (a + b) := by
  unfold up
  rw [Nat.pow_add, Int.natCast_mul]
  grind
theorem up_pos (d : Nat) : (0 : Int) < ((10 ^ d : Nat) : Int) := by
  have : 0 < 10 ^ d := Nat.pow_pos (by decide)
  omega
theorem up_inj {x y : Int} {d : Nat} (h : up x d = up y d) : x = y := by
  unfold up at h
  exact Int.eq_of_mul_eq_mul_right (Int.ne_of_gt (up_pos d)) h
theorem up_lt_iff (x y : Int) (d : Nat) : up x d < up y d ↔ x < y := by
  unfold up
  exact ⟨fun h => Int.lt_of_mul_lt_mul_right h (Int.le_of_lt (up_pos d)), fun h => Int.mul_lt_mul_of_pos_right h (up_pos d)⟩
theorem up_one (M : Int) : up M 1 = 10 * M := by
  unfold up
  rw [Nat.pow_one]
  omega

theorem strip_mul : ∀ (d N s : Nat), strip (N * 10 ^ d) (s + d) = strip N s := by
  intro d
  induction d with
  | zero => intro N s; rw [Nat.pow_zero, Nat.mul_one, Nat.add_zero]
  | succ d ih =>
    intro N s
    have h : N * 10 ^ (d + 1) = N * 10 ^ d * 10 := by rw [Nat.pow_succ, Nat.mul_assoc]
    rw [h, show s + (d + 1) = s + d + 1 from rfl, strip, if_pos (by omega), Nat.mul_div_cancel _ (by decide)]
    exact ih N s
theorem strip_spec : ∀ (s N : Nat), (strip N s).2 ≤ s ∧ (strip N s).1 * 10 ^ (s - (strip N s).2) = N ∧ ((strip N s).2 = 0 ∨ (strip N s).1 % 10 ≠ 0) := by
  intro s
  induction s with
  | zero => intro N; exact ⟨Nat.le_refl _, by show N * 10 ^ 0 = N; omega, Or.inl rfl⟩
  | succ s ih =>
    intro N
    by_cases h : N % 10 = 0
    · rw [strip, if_pos h]
      obtain ⟨h1, h2, h3⟩ := ih (N / 10)
      refine ⟨by omega, ?_, h3⟩
      rw [show s + 1 - (strip (N / 10) s).2 = s - (strip (N / 10) s).2 + 1 from by omega, Nat.pow_succ, ← Nat.mul_assoc, h2]
      omega
    · rw [strip, if_neg h]
      exact ⟨Nat.le_refl _, by show N * 10 ^ (s + 1 - (s + 1)) = N; rw [Nat.sub_self]; omega, Or.inr h⟩
theorem strip_good (N s : Nat) (h : s = 0 ∨ N % 10 ≠ 0) : strip N s = (N, s) := by
  cases s with
  | zero => rfl
  | succ s => rw [strip, if_neg (by omega)]
theorem tellZ_up (Z : Int) (s d : Nat) : tellZ (up Z d) (s + d) = tellZ Z s := by
  unfold tellZ told
  have hp := up_pos d
  have h1 : (up Z d < 0) ↔ Z < 0 := by
    have := up_lt_iff Z 0 d
    rwa [up_nil] at this
  rw [up_abs, strip_mul, show decide (up Z d < 0) = decide (Z < 0) from by simp [h1]]
theorem tellZ_congr {Z1 Z2 : Int} {s1 s2 : Nat} (h : up Z1 s2 = up Z2 s1) : tellZ Z1 s1 = tellZ Z2 s2 := by
  rw [← tellZ_up Z1 s1 s2, h, Nat.add_comm, tellZ_up]
theorem good_nat {M S : Int} (h : Good M S) : ∃ s : Nat, S = s ∧ s ≤ 9 := by
  obtain ⟨_, _, h3, h4, _⟩ := h
  exact ⟨S.toNat, by omega, by omega⟩
theorem tellZ_good (M : Int) (s : Nat) (h : Good M s) : tellZ M s = (M, (s : Int), 0) := by
  obtain ⟨h1, h2, h3, h4, h5⟩ := h
  unfold tellZ told
  rw [strip_good M.natAbs s (by omega), if_neg (by show ¬ (M.natAbs > 999999999999999999 ∨ s > 9); omega)]
  by_cases h : M < 0
  · rw [if_pos (decide_eq_true h)]
    show (-((M.natAbs : Nat) : Int), (s : Int), (0 : Int)) = _
    rw [show -((M.natAbs : Nat) : Int) = M from by omega]
  · rw [if_neg (by rw [decide_eq_true_iff]; exact h)]
    show (((M.natAbs : Nat) : Int), (s : Int), (0 : Int)) = _
    rw [show ((M.natAbs : Nat) : Int) = M from by omega]
/-- What is told is right, and of the same value; or it cannot be told. -/
theorem tellZ_cases (Z : Int) (s : Nat) : tellZ Z s = (0, 0, 5) ∨ ∃ (M : Int) (t : Nat), tellZ Z s = (M, (t : Int), 0) ∧ Good M t ∧ up M s = up Z t := by
  obtain ⟨h1, h2, h3⟩ := strip_spec s Z.natAbs
  unfold tellZ told
  obtain ⟨N, hN⟩ : ∃ x, (strip Z.natAbs s).1 = x := ⟨_, rfl⟩
  obtain ⟨t, ht⟩ : ∃ x, (strip Z.natAbs s).2 = x := ⟨_, rfl⟩
  rw [hN, ht] at h2 h3
  rw [ht] at h1
  rw [hN, ht]
  by_cases h : N > 999999999999999999 ∨ t > 9
  · exact Or.inl (if_pos h)
  · refine Or.inr ⟨if Z < 0 then -(N : Int) else N, t, ?_, ?_, ?_⟩
    · rw [if_neg h]
      by_cases hz : Z < 0
      · rw [if_pos hz, if_pos (decide_eq_true hz)]
      · rw [if_neg hz, if_neg (by rw [decide_eq_true_iff]; exact hz)]
    · refine ⟨?_, ?_, by omega, by omega, ?_⟩
      · split <;> omega
      · split <;> omega
      · split <;> omega
    · have e : up (N : Int) (s - t) = (Z.natAbs : Int) := by
        unfold up
        rw [← Int.natCast_mul, h2]
      have e2 : up (if Z < 0 then -(N : Int) else N) (s - t) = Z := by
        split
        · rw [up_neg, e]; omega
        · rw [e]; omega
      have e3 := congrArg (fun x => up x t) e2
      simp only [up_up] at e3
      rw [show s - t + t = s from by omega] at e3
      exact e3
end Go.Proofs.YtdkckjiccpdkbaaDoor.Plain
