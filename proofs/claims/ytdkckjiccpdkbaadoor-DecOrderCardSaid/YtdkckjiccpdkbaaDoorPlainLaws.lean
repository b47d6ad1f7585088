/- Sums, products and the order of decimals, in plain words. -/
import Derived.Test.YtdkckjiccpdkbaaDoorPlainMath
namespace Go.Proofs.YtdkckjiccpdkbaaDoor.Plain
open Go.RowKit Go.Proofs.YtdkckjiccpdkbaaDoor.A Go.Proofs.YtdkckjiccpdkbaaDoor.B Go.Proofs.YtdkckjiccpdkbaaDoor.H

theorem up_eq {x : Int} {a b : Nat} (h : a = b) : up x a = up x b := by rw [h]
theorem mul_up (x y : Int) (d : Nat) : x * up y d = up (x * y) d := by unfold up; rw [Int.mul_assoc]
theorem addD_val (a : Int) (s : Nat) (b : Int) (t : Nat) : addD a s b t = tellZ (up a t + up b s) (s + t) := by
  unfold addD
  refine tellZ_congr ?_
  rw [up_add, up_add, up_up, up_up, up_up, up_up, up_eq (show max s t - s + (s + t) = t + max s t from by omega), up_eq (show max s t - t + (s + t) = s + max s t from by omega)]
theorem addD_comm (a : Int) (s : Nat) (b : Int) (t : Nat) : addD a s b t = addD b t a s := by
  rw [addD_val, addD_val, Int.add_comm, Nat.add_comm]
theorem tellZ_ok {Z M : Int} {s : Nat} {S : Int} (h : tellZ Z s = (M, S, 0)) : ∃ t : Nat, S = t ∧ Good M t ∧ up M s = up Z t := by
  rcases tellZ_cases Z s with h1 | ⟨M', t, h1, h2, h3⟩
  · rw [h1] at h
    simp only [Prod.mk.injEq] at h
    exact absurd h.2.2 (by decide)
  · rw [h1] at h
    simp only [Prod.mk.injEq] at h
    obtain ⟨rfl, rfl, _⟩ := h
    exact ⟨t, rfl, h2, h3⟩
theorem add_zero_f (a : Int) (s : Nat) (h : Good a s) : addD a s 0 0 = (a, (s : Int), 0) := by
  rw [addD_val, up_zero, up_nil, Int.add_zero, Nat.add_zero, tellZ_good a s h]
theorem assoc_left {a b c m : Int} {s t u v : Nat} (h : up m (s + t) = up (up a t + up b s) v) : addD m v c u = tellZ (up a (t + u) + up b (s + u) + up c (s + t)) (s + t + u) := by
  rw [addD_val]
  refine tellZ_congr ?_
  have h1 := congrArg (fun x => up x (u + u)) h
  simp only [up_add, up_up] at h1
  simp only [up_add, up_up]
  rw [up_eq (show u + (s + t + u) = s + t + (u + u) from by omega), h1, up_eq (show t + v + (u + u) = t + u + (v + u) from by omega), up_eq (show s + v + (u + u) = s + u + (v + u) from by omega), up_eq (show v + (s + t + u) = s + t + (v + u) from by omega)]
theorem assoc_right {a b c m : Int} {s t u v : Nat} (h : up m (t + u) = up (up b u + up c t) v) : addD a s m v = tellZ (up a (t + u) + up b (s + u) + up c (s + t)) (s + t + u) := by
  rw [addD_val]
  refine tellZ_congr ?_
  have h1 := congrArg (fun x => up x (s + s)) h
  simp only [up_add, up_up] at h1
  simp only [up_add, up_up]
  rw [up_eq (show s + (s + t + u) = t + u + (s + s) from by omega), h1, up_eq (show u + v + (s + s) = s + u + (s + v) from by omega), up_eq (show t + v + (s + s) = s + t + (s + v) from by omega), up_eq (show v + (s + t + u) = t + u + (s + v) from by omega), Int.add_assoc]
theorem share {a b c m p q : Int} {s t u v sp sq : Nat} (h1 : up m (t + u) = up (up b u + up c t) v) (h2 : up p (s + t) = up (a * b) sp) (h3 : up q (s + u) = up (a * c) sq) :
    tellZ (a * m) (s + v) = addD p sp q sq := by
  rw [addD_val]
  refine tellZ_congr ?_
  refine up_inj (d := s + t + u) ?_
  have e1 := congrArg (fun x => up (a * x) (sp + sq + s)) h1
  simp only [up_add, up_up, mul_up, Int.mul_add] at e1
  have e2 := congrArg (fun x => up x (sq + (s + v) + u)) h2
  have e3 := congrArg (fun x => up x (sp + (s + v) + t)) h3
  simp only [up_up] at e2 e3
  simp only [up_add, up_up]
  rw [up_eq (show sp + sq + (s + t + u) = t + u + (sp + sq + s) from by omega), e1, up_eq (show sq + (s + v) + (s + t + u) = s + t + (sq + (s + v) + u) from by omega), e2, up_eq (show sp + (s + v) + (s + t + u) = s + u + (sp + (s + v) + t) from by omega), e3, up_eq (show u + v + (sp + sq + s) = sp + (sq + (s + v) + u) from by omega), up_eq (show t + v + (sp + sq + s) = sq + (sp + (s + v) + t) from by omega)]
/-! the order -/
def at9 (a : Int) (s : Nat) : Int := up a (9 - s)
theorem cmpZ_up (x y : Int) (d : Nat) : cmpZ (up x d) (up y d) = cmpZ x y := by
  have h1 := up_lt_iff x y d
  have h2 := up_lt_iff y x d
  unfold cmpZ
  by_cases a : x < y
  · rw [if_pos a, if_pos (h1.2 a)]
  · rw [if_neg a, if_neg (fun h => a (h1.1 h))]
    by_cases b : x > y
    · rw [if_pos b, if_pos (h2.2 b)]
    · rw [if_neg b, if_neg (fun h => b (h2.1 h))]
theorem cmp_at9 (a b : Int) (s t : Nat) (hs : s ≤ 9) (ht : t ≤ 9) : cmpZ (up a (max s t - s)) (up b (max s t - t)) = cmpZ (at9 a s) (at9 b t) := by
  unfold at9
  rw [← cmpZ_up _ _ (9 - max s t), up_up, up_up, up_eq (show max s t - s + (9 - max s t) = 9 - s from by omega), up_eq (show max s t - t + (9 - max s t) = 9 - t from by omega)]
theorem at9_inj {a b : Int} {s t : Nat} (ha : Good a s) (hb : Good b t) (h : at9 a s = at9 b t) : a = b ∧ s = t := by
  have hs : s ≤ 9 := by have := ha.2.2.2.1; omega
  have ht : t ≤ 9 := by have := hb.2.2.2.1; omega
  unfold at9 at h
  have h1 := congrArg (fun x => up x (s + t)) h
  simp only [up_up] at h1
  rw [up_eq (show 9 - s + (s + t) = t + 9 from by omega), up_eq (show 9 - t + (s + t) = s + 9 from by omega), ← up_up, ← up_up] at h1
  have h2 := tellZ_congr (up_inj h1)
  rw [tellZ_good a s ha, tellZ_good b t hb] at h2
  simp only [Prod.mk.injEq] at h2
  exact ⟨h2.1, by omega⟩
/-- A sum with the other side tells the order. -/
theorem sum_sign {a b M : Int} {s t v : Nat} (hs : s ≤ 9) (ht : t ≤ 9) (hv : v ≤ 9) (h : up M (s + t) = up (up a t + up (-b) s) v) : (M < 0 ↔ at9 a s < at9 b t) ∧ (M = 0 ↔ at9 a s = at9 b t) := by
  have e1 : at9 a s - at9 b t = up (up a t + up (-b) s) (9 - (s + t)) ∨ True := Or.inr trivial
  have k1 := congrArg (fun x => up x 9) h
  have e2 : up (up (up a t + up (-b) s) v) 9 = up (at9 a s - at9 b t) (s + t + v) := by
    unfold at9
    simp only [Int.sub_eq_add_neg, ← up_neg, up_add, up_up]
    rw [up_eq (show t + v + 9 = 9 - s + (s + t + v) from by omega), up_eq (show s + v + 9 = 9 - t + (s + t + v) from by omega)]
  simp only [e2] at k1
  rw [up_up] at k1
  have z0 : up (0 : Int) (s + t + 9) = 0 := up_nil _
  have z1 : up (0 : Int) (s + t + v) = 0 := up_nil _
  have l1 := up_lt_iff M 0 (s + t + 9)
  have l2 := up_lt_iff (at9 a s - at9 b t) 0 (s + t + v)
  have l3 := up_lt_iff 0 M (s + t + 9)
  have l4 := up_lt_iff 0 (at9 a s - at9 b t) (s + t + v)
  rw [z0] at l1 l3
  rw [z1] at l2 l4
  rw [k1] at l1 l3
  omega
end Go.Proofs.YtdkckjiccpdkbaaDoor.Plain
