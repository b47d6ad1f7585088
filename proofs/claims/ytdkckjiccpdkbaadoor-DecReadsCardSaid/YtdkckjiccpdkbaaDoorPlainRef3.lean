/- The document's Make, in plain words. -/
import Derived.Test.YtdkckjiccpdkbaaDoorE5
import Derived.Test.YtdkckjiccpdkbaaDoorPlainRef
namespace Go.Proofs.YtdkckjiccpdkbaaDoor.Plain
open Go.RowKit Go.Proofs.YtdkckjiccpdkbaaDoorW.PrintWords Go.Proofs.YtdkckjiccpdkbaaDoor.A Go.Proofs.YtdkckjiccpdkbaaDoor.B Go.Proofs.YtdkckjiccpdkbaaDoor.H Go.Proofs.YtdkckjiccpdkbaaDoor.E

/-! of, Make -/
theorem okD_nil : okD [] := fun d hd => by cases hd
theorem of_l0 (b : Bool) (S : Int) : ∀ (n N : Nat), N < 10 ^ n → n ≤ 18 → ∀ (acc : List Nat) (k : Nat), acc.length ≤ 100 - n → n + 1 ≤ k →
    ∃ D, okD D ∧ rv D = N ∧ D.length ≤ n ∧ erasureref01_of.l0 k (N : Int) b (dIs acc) S = some (b, dIs (acc ++ D), S) := by
  intro n
  induction n with
  | zero =>
    intro N h hn acc k ha hk
    obtain ⟨k, rfl⟩ : ∃ q, k = q + 1 := ⟨k - 1, by omega⟩
    have h0 : N = 0 := by simpa using h
    subst h0
    refine ⟨[], okD_nil, rfl, Nat.le_refl _, ?_⟩
    rw [erasureref01_of.l0, if_neg (by decide), List.append_nil]
  | succ n ih =>
    intro N h hn acc k ha hk
    obtain ⟨k, rfl⟩ : ∃ q, k = q + 1 := ⟨k - 1, by omega⟩
    by_cases h0 : N = 0
    · subst h0
      refine ⟨[], okD_nil, rfl, Nat.zero_le _, ?_⟩
      rw [erasureref01_of.l0, if_neg (by decide), List.append_nil]
    · have hb : N < 10 ^ 18 := Nat.lt_of_lt_of_le h (Nat.pow_le_pow_right (by decide) hn)
      rw [p18] at hb
      obtain ⟨D, h1, h2, h3, h4⟩ := ih (N / 10) (by rw [Nat.pow_succ] at h; omega) (by omega) (acc ++ [N % 10]) k (by rw [List.length_append]; show _ + 1 ≤ _; omega) (by omega)
      refine ⟨N % 10 :: D, fun d hd => ?_, ?_, by rw [List.length_cons]; omega, ?_⟩
      · rcases List.mem_cons.1 hd with rfl | hd
        · omega
        · exact h1 d hd
      · show N % 10 + 10 * rv D = N
        omega
      · rw [erasureref01_of.l0, if_pos (by omega), dIs_len, if_pos (by omega), td10, tm10, wsm _ (by omega) (by omega)]
        rw [dIs_app, List.append_assoc, List.singleton_append] at h4
        exact h4
theorem of_f (M S : Int) (h0 : -999999999999999999 ≤ M) (h1 : M ≤ 999999999999999999) (k : Nat) (hk : 25 ≤ k) : ∃ D, okD D ∧ rv D = M.natAbs ∧ D.length ≤ 18 ∧ erasureref01_of.f k M S = some (decide (M < 0), dIs D, S) := by
  obtain ⟨k, rfl⟩ : ∃ q, k = q + 1 := ⟨k - 1, by omega⟩
  obtain ⟨D, d1, d2, d3, d4⟩ := of_l0 (decide (M < 0)) S 18 M.natAbs (by rw [p18]; omega) (Nat.le_refl _) [] k (by show 0 ≤ _; omega) (by omega)
  refine ⟨D, d1, d2, d3, ?_⟩
  unfold erasureref01_of.f
  by_cases hm : M < 0
  · rw [if_pos hm, erasureref01_of.j0, wsm _ (by omega) (by omega), show -M = ((M.natAbs : Nat) : Int) from by omega]
    exact d4
  · rw [if_neg hm, erasureref01_of.j0]
    have e : (M.natAbs : Int) = M := by omega
    rw [e] at d4
    exact d4
theorem make_ref (m s : Int) (k : Nat) (hk : 200 ≤ k) :
    erasureref01_Make.f k m s = some (if s < 0 ∨ s > 18 ∨ m < -999999999999999999 ∨ m > 999999999999999999 then (0, 0, 1) else tellZ m s.toNat) := by
  obtain ⟨k, rfl⟩ : ∃ m, k = m + 1 := ⟨k - 1, by omega⟩
  unfold erasureref01_Make.f
  by_cases h1 : s < 0
  · rw [if_pos h1, erasureref01_Make.j0, if_pos rfl, if_pos (Or.inl h1)]
  rw [if_neg h1]
  by_cases h2 : s > 18
  · rw [if_pos h2, erasureref01_Make.j0, if_pos rfl, if_pos (Or.inr (Or.inl h2))]
  rw [if_neg h2]
  by_cases h3 : m < (-999999999999999999)
  · rw [if_pos h3, erasureref01_Make.j0, if_pos rfl, if_pos (Or.inr (Or.inr (Or.inl h3)))]
  rw [if_neg h3, erasureref01_Make.j0]
  by_cases h4 : m > 999999999999999999
  · rw [if_pos (decide_eq_true h4), if_pos (Or.inr (Or.inr (Or.inr h4)))]
  · obtain ⟨D, d1, d2, d3, d4⟩ := of_f m 0 (by omega) (by omega) k (by omega)
    rw [if_neg (by rw [decide_eq_true_iff]; exact h4), d4, Option.bind_some, if_neg (by omega)]
    have ht := told_ref (decide (m < 0)) s.toNat D k (by omega) (by omega) d1 (by omega)
    rw [show ((s.toNat : Nat) : Int) = s from by omega] at ht
    dsimp only
    rw [ht, Option.bind_some, d2]
    rfl
end Go.Proofs.YtdkckjiccpdkbaaDoor.Plain
