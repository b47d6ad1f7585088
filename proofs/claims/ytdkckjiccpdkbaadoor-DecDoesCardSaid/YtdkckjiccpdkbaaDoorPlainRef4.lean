/- The document's less and lift, in plain words (for DecDoes). -/
import Derived.Test.YtdkckjiccpdkbaaDoorG2
import Derived.Test.YtdkckjiccpdkbaaDoorPlainRef3
namespace Go.Proofs.YtdkckjiccpdkbaaDoor.Plain
open Go.RowKit Go.Proofs.YtdkckjiccpdkbaaDoorW.PrintWords Go.Proofs.YtdkckjiccpdkbaaDoor.A Go.Proofs.YtdkckjiccpdkbaaDoor.B Go.Proofs.YtdkckjiccpdkbaaDoor.H Go.Proofs.YtdkckjiccpdkbaaDoor.E Go.Proofs.YtdkckjiccpdkbaaDoor.G
def atD (D : List Nat) (i : Nat) : Nat := D.getD i 0
theorem digit_f (D : List Nat) (i : Nat) : erasureref01_digit.f (dIs D) (i : Int) = some (atD D i : Int) := by
  unfold erasureref01_digit.f atD
  rw [if_neg (by omega), dIs_len]
  by_cases h : i < D.length
  · have hd : D[i]? = some (D[i]'h) := List.getElem?_eq_getElem h
    rw [if_neg (by omega), if_pos (by omega), if_pos (by omega), dIs_rd D i _ hd, List.getD_eq_getElem?_getD, hd]
    rfl
  · rw [if_pos (by omega), List.getD_eq_getElem?_getD, List.getElem?_eq_none (by omega)]
    rfl
theorem atD_le (D : List Nat) (h : okD D) (i : Nat) : atD D i ≤ 9 := by
  unfold atD
  rw [List.getD_eq_getElem?_getD]
  cases hq : D[i]? with
  | none => exact Nat.zero_le _
  | some d => exact h d (List.mem_of_getElem? hq)
theorem take_step (D : List Nat) (i : Nat) : rv (D.take (i + 1)) = rv (D.take i) + 10 ^ i * atD D i := by
  unfold atD
  rw [List.getD_eq_getElem?_getD, List.take_add_one]
  cases hq : D[i]? with
  | none =>
    show rv (D.take i ++ []) = rv (D.take i) + 10 ^ i * 0
    rw [List.append_nil, Nat.mul_zero, Nat.add_zero]
  | some d =>
    have hl : i < D.length := by
      rcases Nat.lt_or_ge i D.length with h | h
      · exact h
      · rw [List.getElem?_eq_none h] at hq; cases hq
    show rv (D.take i ++ [d]) = rv (D.take i) + 10 ^ i * d
    rw [rv_app, List.length_take, Nat.min_eq_left (by omega)]
    show _ + 10 ^ i * (d + 10 * 0) = _
    rw [Nat.mul_zero, Nat.add_zero]
theorem take_lt (D : List Nat) (h : okD D) (i : Nat) : rv (D.take i) < 10 ^ i := by
  have h1 := rv_lt (D.take i) (fun d hd => h d (List.mem_of_mem_take hd))
  have h2 : 10 ^ (D.take i).length ≤ 10 ^ i := Nat.pow_le_pow_right (by decide) (by rw [List.length_take]; omega)
  omega
theorem less_l0 (A B : List Nat) (hA : okD A) (hB : okD B) : ∀ (i k : Nat), i ≤ 1000 → i + 1 ≤ k → erasureref01_less.l0 k (dIs A) (dIs B) ((i : Int) - 1) = some (decide (rv (A.take i) < rv (B.take i))) := by
  intro i
  induction i with
  | zero =>
    intro k hi hk
    obtain ⟨k, rfl⟩ : ∃ q, k = q + 1 := ⟨k - 1, by omega⟩
    rw [erasureref01_less.l0, if_neg (by omega)]
    rfl
  | succ i ih =>
    intro k hi hk
    obtain ⟨k, rfl⟩ : ∃ q, k = q + 1 := ⟨k - 1, by omega⟩
    rw [erasureref01_less.l0, if_pos (by omega), show ((i + 1 : Nat) : Int) - 1 = (i : Int) from by omega, digit_f, Option.bind_some, digit_f, Option.bind_some, take_step, take_step]
    have la := take_lt A hA i
    have lb := take_lt B hB i
    obtain ⟨a, ha⟩ : ∃ x, atD A i = x := ⟨_, rfl⟩
    obtain ⟨b, hb⟩ : ∃ x, atD B i = x := ⟨_, rfl⟩
    obtain ⟨p, hp⟩ : ∃ x, 10 ^ i = x := ⟨_, rfl⟩
    rw [hp] at la lb
    rw [ha, hb, hp]
    by_cases h : (a : Int) = (b : Int)
    · have h2 : a = b := by omega
      subst h2
      rw [if_pos rfl, wsm _ (by omega) (by omega), ih k (by omega) (by omega)]
      congr 1
      rw [decide_eq_decide]
      omega
    · rw [if_neg h, Option.bind_some, Option.bind_some]
      congr 1
      rw [decide_eq_decide]
      constructor
      · intro hlt
        have h3 : p * (a + 1) ≤ p * b := Nat.mul_le_mul_left _ (by omega)
        rw [Nat.mul_add, Nat.mul_one] at h3
        omega
      · intro hlt
        refine Classical.byContradiction fun hn => ?_
        have h3 : p * (b + 1) ≤ p * a := Nat.mul_le_mul_left _ (by omega)
        rw [Nat.mul_add, Nat.mul_one] at h3
        omega
theorem less_f (A B : List Nat) (hA : okD A) (hB : okD B) (la : A.length ≤ 900) (lb : B.length ≤ 900) (k : Nat) (hk : 1000 ≤ k) : erasureref01_less.f k (dIs A) (dIs B) = some (decide (rv A < rv B)) := by
  unfold erasureref01_less.f
  rw [dIs_len, dIs_len, mx_nat, wsm _ (by omega) (by omega), less_l0 A B hA hB (max A.length B.length) k (by omega) (by omega), List.take_of_length_le (by omega), List.take_of_length_le (by omega)]
theorem lift_ref (b : Bool) (D : List Nat) (S : Nat) : ∀ (d s k : Nat) (acc : List Nat), s + d = S → acc.length + d + D.length ≤ 1000 → S ≤ 1000 → d + 1 ≤ k → ∀ (x : Bool) (y : Int),
    erasureref01_lift.l0 k (S : Int) x (dIs D) y b (dIs acc) (s : Int) = some (b, dIs (acc ++ List.replicate d 0 ++ D), (S : Int)) := by
  intro d
  induction d with
  | zero =>
    intro s k acc hs hl hS hk x y
    obtain ⟨k, rfl⟩ : ∃ q, k = q + 1 := ⟨k - 1, by omega⟩
    rw [erasureref01_lift.l0, if_neg (by omega), dIs_len, dIs_len, if_pos (by omega), ← dIs_app, show (s : Int) = (S : Int) from by omega]
    show some (b, dIs (acc ++ D), (S : Int)) = some (b, dIs (acc ++ [] ++ D), (S : Int))
    rw [List.append_nil]
  | succ d ih =>
    intro s k acc hs hl hS hk x y
    obtain ⟨k, rfl⟩ : ∃ q, k = q + 1 := ⟨k - 1, by omega⟩
    rw [erasureref01_lift.l0, if_pos (by omega), dIs_len, if_pos (by omega), wsm _ (by omega) (by omega)]
    have := ih (s + 1) k (acc ++ [0]) (by omega) (by rw [List.length_append]; show _ + 1 + _ + _ ≤ _; omega) hS (by omega) x y
    rw [dIs_app, List.append_assoc acc, List.singleton_append] at this
    rw [List.replicate_succ]
    exact this
theorem rv_zeros : ∀ d, rv (List.replicate d 0) = 0
  | 0 => rfl
  | d + 1 => by
    rw [List.replicate_succ]
    show 0 + 10 * rv (List.replicate d 0) = 0
    rw [rv_zeros d]
end Go.Proofs.YtdkckjiccpdkbaaDoor.Plain
