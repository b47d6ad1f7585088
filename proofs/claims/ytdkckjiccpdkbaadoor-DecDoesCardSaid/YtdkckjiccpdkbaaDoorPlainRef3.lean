/- The document's Make, in plain words. -/
import Derived.Test.YtdkckjiccpdkbaaDoorE4
import Derived.Test.YtdkckjiccpdkbaaDoorPlainRef
namespace Go.Proofs.YtdkckjiccpdkbaaDoor.Plain
open Go.RowKit Go.Proofs.YtdkckjiccpdkbaaDoorW.PrintWords Go.Proofs.YtdkckjiccpdkbaaDoor.A Go.Proofs.YtdkckjiccpdkbaaDoor.B Go.Proofs.YtdkckjiccpdkbaaDoor.H Go.Proofs.YtdkckjiccpdkbaaDoor.E
theorem okD_nil : okD [] := fun d hd => by cases hd
theorem of_l0 (b : Bool) (S : Int) : ∀ (n N : Nat), N < 10 ^ n → n ≤ 18 → ∀ (acc : List Nat) (k : Nat), acc.length ≤ 100 - n → n + 1 ≤ k →
    ∃ D, okD D ∧ rv D = N ∧ D.length ≤ n ∧ erasureref01_of.l0 k (N : Int) b (dIs acc) S = some (b, dIs (acc ++ D), S) := by
  intro n
  induction n with
  | zero =>
    intro N h hn acc k ha hk
    obtain ⟨k, rfl⟩ : ∃ q, k = q + 1 := ⟨k - 1, by omega⟩
    have h0 : N = 0 := by simpa using h
    subst h0
    refine ⟨[], okD_nil, rfl, Nat.le_refl _, ?_⟩
    rw [erasureref01_of.l0, if_neg (by decide), List.append_nil]
  | succ n ih =>
    intro N h hn acc k ha hk
    obtain ⟨k, rfl⟩ : ∃ q, k = q + 1 := ⟨k - 1, by omega⟩
    by_cases h0 : N = 0
    · subst h0
      refine ⟨[], okD_nil, rfl, Nat.zero_le _, ?_⟩
      rw [erasureref01_of.l0, if_neg (by decide), List.append_nil]
    · have hb : N < 10 ^ 18 := Nat.lt_of_lt_of_le h (Nat.pow_le_pow_right (by decide) hn)
      rw [p18] at hb
      obtain ⟨D, h1, h2, h3, h4⟩ := ih (N / 10) (by rw [Nat.pow_succ] at h; omega) (by omega) (acc ++ [N % 10]) k (by rw [List.length_append]; show _ + 1 ≤ _; omega) (by omega)
      refine ⟨N % 10 :: D, fun d hd => ?_, ?_, by rw [List.length_cons]; omega, ?_⟩
      · rcases List.mem_cons.1 hd with rfl | hd
        · omega
        · exact h1 d hd
      · show N % 10 + 10 * rv D = N
        omega
      · rw [erasureref01_of.l0, if_pos (by omega), dIs_len, if_pos (by omega), td10, tm10, wsm _ (by omega) (by omega)]
        rw [dIs_app, List.append_assoc, List.singleton_append] at h4
        exact h4
theorem of_f (M S : Int) (h0 : -999999999999999999 ≤ M) (h1 : M ≤ 999999999999999999) (k : Nat) (hk : 25 ≤ k) : ∃ D, okD D ∧ rv D = M.natAbs ∧ D.length ≤ 18 ∧ erasureref01_of.f k M S = some (decide (M < 0), dIs D, S) := by
  obtain ⟨k, rfl⟩ : ∃ q, k = q + 1 := ⟨k - 1, by omega⟩
  obtain ⟨D, d1, d2, d3, d4⟩ := of_l0 (decide (M < 0)) S 18 M.natAbs (by rw [p18]; omega) (Nat.le_refl _) [] k (by show 0 ≤ _; omega) (by omega)
  refine ⟨D, d1, d2, d3, ?_⟩
  unfold erasureref01_of.f
  by_cases hm : M < 0
  · rw [if_pos hm, erasureref01_of.j0, wsm _ (by omega) (by omega), show -M = ((M.natAbs : Nat) : Int) from by omega]
    exact d4
  · rw [if_neg hm, erasureref01_of.j0]
    have e : (M.natAbs : Int) = M := by omega
    rw [e] at d4
    exact d4
end Go.Proofs.YtdkckjiccpdkbaaDoor.Plain
