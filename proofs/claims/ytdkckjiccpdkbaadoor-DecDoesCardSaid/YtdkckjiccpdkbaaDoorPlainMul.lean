/- The schoolbook's product and sum, as rows of digits (for DecDoes): plain numbers alone. -/
import Derived.Test.YtdkckjiccpdkbaaDoorPlainRef4
namespace Go.Proofs.YtdkckjiccpdkbaaDoor.Plain
set_option linter.unusedVariables false
theorem rv_set : ∀ (l : List Nat) (i v : Nat), i < l.length → rv (l.set i v) + 10 ^ i * atD l i = rv l + 10 ^ i * v
  | [], i, v, h => absurd h (Nat.not_lt_zero _)
  | d :: D, 0, v, h => by
    show v + 10 * rv D + 10 ^ 0 * d = d + 10 * rv D + 10 ^ 0 * v
    omega
  | d :: D, i + 1, v, h => by
    have ih := rv_set D i v (by simpa using h)
    have e : atD (d :: D) (i + 1) = atD D i := rfl
    show d + 10 * rv (D.set i v) + 10 ^ (i + 1) * atD (d :: D) (i + 1) = d + 10 * rv D + 10 ^ (i + 1) * v
    rw [e, Nat.pow_succ]
    generalize atD D i = a at ih
    generalize 10 ^ i = p at ih
    have h1 : p * 10 * a = 10 * (p * a) := by rw [Nat.mul_comm p 10, Nat.mul_assoc]
    have h2 : p * 10 * v = 10 * (p * v) := by rw [Nat.mul_comm p 10, Nat.mul_assoc]
    rw [h1, h2]
    omega
theorem atD_set (l : List Nat) (i j v : Nat) (h : i < l.length) : atD (l.set i v) j = if i = j then v else atD l j := by
  unfold atD
  rw [List.getD_eq_getElem?_getD, List.getD_eq_getElem?_getD, List.getElem?_set]
  by_cases e : i = j
  · rw [if_pos e, if_pos e, if_pos (by omega)]
    rfl
  · rw [if_neg e, if_neg e]
theorem rv_take_drop (l : List Nat) (i : Nat) (h : i ≤ l.length) : rv l = rv (l.take i) + 10 ^ i * rv (l.drop i) := by
  induction l generalizing i with
  | nil => 
    have : i = 0 := by simpa using h
    subst this
    rfl
  | cons d D ih =>
    match i, h with
    | 0, _ => show d + 10 * rv D = 0 + 10 ^ 0 * (d + 10 * rv D); omega
    | i + 1, h =>
      have h1 := ih i (by simpa using h)
      show d + 10 * rv D = d + 10 * rv (D.take i) + 10 ^ (i + 1) * rv (D.drop i)
      rw [h1, Nat.pow_succ, Nat.mul_add]
      have : 10 ^ i * 10 * rv (D.drop i) = 10 * (10 ^ i * rv (D.drop i)) := by rw [Nat.mul_comm (10 ^ i) 10, Nat.mul_assoc]
      omega
theorem rv_at (l : List Nat) (i : Nat) : 10 ^ i * atD l i ≤ rv l := by
  rcases Nat.lt_or_ge i l.length with h | h
  · rw [rv_take_drop l i (by omega), List.drop_eq_getElem_cons h]
    have e : atD l i = l[i] := by unfold atD; rw [List.getD_eq_getElem?_getD, List.getElem?_eq_getElem h]; rfl
    rw [e]
    show 10 ^ i * l[i] ≤ rv (l.take i) + 10 ^ i * (l[i] + 10 * rv (l.drop (i + 1)))
    rw [Nat.mul_add]
    omega
  · unfold atD
    rw [List.getD_eq_getElem?_getD, List.getElem?_eq_none (by omega)]
    show 10 ^ i * 0 ≤ _
    omega
theorem mul_step (l : List Nat) (j x y : Nat) (h : j < l.length) : rv (l.set j (atD l j + x * y)) = rv l + 10 ^ j * (x * y) := by
  have h1 := rv_set l j (atD l j + x * y) h
  rw [Nat.mul_add] at h1
  omega
theorem carry_step (l : List Nat) (i : Nat) (h : i + 1 < l.length) : rv ((l.set (i + 1) (atD l (i + 1) + atD l i / 10)).set i (atD l i % 10)) = rv l := by
  have h1 := rv_set l (i + 1) (atD l (i + 1) + atD l i / 10) h
  have h2 := rv_set (l.set (i + 1) (atD l (i + 1) + atD l i / 10)) i (atD l i % 10) (by rw [List.length_set]; omega)
  rw [atD_set l (i + 1) i _ h, if_neg (by omega)] at h2
  rw [Nat.mul_add, Nat.pow_succ] at h1
  generalize atD l i = a at h1 h2 ⊢
  generalize atD l (i + 1) = b at h1 h2 ⊢
  generalize 10 ^ i = p at h1 h2
  have hd : a = 10 * (a / 10) + a % 10 := by omega
  have h3 : p * a = 10 * (p * (a / 10)) + p * (a % 10) := by
    conv => lhs; rw [hd]
    rw [Nat.mul_add, ← Nat.mul_assoc, Nat.mul_comm p 10, Nat.mul_assoc]
  have h4 : p * 10 * (a / 10) = 10 * (p * (a / 10)) := by rw [Nat.mul_comm p 10, Nat.mul_assoc]
  omega
theorem top_zero (l : List Nat) (n : Nat) (h : rv l < 10 ^ n) : atD l n = 0 := by
  have h1 := rv_at l n
  rcases Nat.eq_zero_or_pos (atD l n) with e | e
  · exact e
  · have : 10 ^ n * 1 ≤ 10 ^ n * atD l n := Nat.mul_le_mul_left _ e
    omega
theorem mul_row (X Y : List Nat) (i : Nat) : rv (X.take (i + 1)) * rv Y = rv (X.take i) * rv Y + 10 ^ i * (atD X i * rv Y) := by
  rw [take_step, Nat.add_mul, Nat.mul_assoc]
theorem mul_cell (Y : List Nat) (x k : Nat) : x * rv (Y.take (k + 1)) = x * rv (Y.take k) + 10 ^ k * (x * atD Y k) := by
  rw [take_step, Nat.mul_add, Nat.mul_left_comm]
theorem sum_step (out A B : List Nat) (at_ : Nat) (s c c' : Int) (d : Nat) (hl : out.length = at_)
    (hI : (rv out : Int) + ((10 ^ at_ : Nat) : Int) * c = (rv (A.take at_) : Int) + s * (rv (B.take at_) : Int))
    (hn : (atD A at_ : Int) + s * (atD B at_ : Int) + c = (d : Int) + 10 * c') :
    (rv (out ++ [d]) : Int) + ((10 ^ (at_ + 1) : Nat) : Int) * c' = (rv (A.take (at_ + 1)) : Int) + s * (rv (B.take (at_ + 1)) : Int) := by
  rw [rv_app, hl, take_step, take_step]
  have e1 : rv [d] = d := by show d + 10 * 0 = d; omega
  rw [e1, Nat.pow_succ]
  generalize 10 ^ at_ = p at hI
  generalize atD A at_ = a at hn
  generalize atD B at_ = b at hn
  generalize rv (A.take at_) = ra at hI
  generalize rv (B.take at_) = rb at hI
  generalize rv out = ro at hI
  have h1 : (p : Int) * ((a : Int) + s * (b : Int) + c) = (p : Int) * ((d : Int) + 10 * c') := by rw [hn]
  push_cast
  grind
theorem sum_end (out : List Nat) (c T : Int) (n : Nat) (hl : out.length = n) (ho : okD out) (hc : -1 ≤ c ∧ c ≤ 1) (hI : (rv out : Int) + ((10 ^ n : Nat) : Int) * c = T) (h0 : 0 ≤ T) (h1 : T < ((10 ^ n : Nat) : Int)) : (rv out : Int) = T := by
  have hr := rv_lt out ho
  rw [hl] at hr
  generalize 10 ^ n = p at *
  have hc3 : c = -1 ∨ c = 0 ∨ c = 1 := by omega
  rcases hc3 with rfl | rfl | rfl <;> omega
end Go.Proofs.YtdkckjiccpdkbaaDoor.Plain
