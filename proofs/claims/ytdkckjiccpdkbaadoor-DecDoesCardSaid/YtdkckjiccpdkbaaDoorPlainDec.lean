/- dec's functions in plain words: Check, size, Mul64, lift, pair, Add, Mul, Neg, Compare, Make. -/
import Derived.Test.YtdkckjiccpdkbaaDoorPlainTell
import Derived.Test.YtdkckjiccpdkbaaDoorB3
namespace Go.Proofs.YtdkckjiccpdkbaaDoor.Plain
open Go.RowKit Go.Proofs.YtdkckjiccpdkbaaDoor.A Go.Proofs.YtdkckjiccpdkbaaDoor.B Go.Proofs.YtdkckjiccpdkbaaDoor.H Go.Proofs.YtdkckjiccpdkbaaDoorW.PrintWords Go.Proofs.YtdkckjiccpdkbaaDoorW.PrintLast Go.Proofs.YtdkckjiccpdkbaaDoorW.PrintMore
def Good (M S : Int) : Prop := -999999999999999999 ≤ M ∧ M ≤ 999999999999999999 ∧ 0 ≤ S ∧ S ≤ 9 ∧ (S = 0 ∨ M % 10 ≠ 0)
instance (M S : Int) : Decidable (Good M S) := inferInstanceAs (Decidable (_ ∧ _))
theorem tmod0 (M : Int) : (Int.tmod M 10 = 0) ↔ M % 10 = 0 := by
  rw [← Int.dvd_iff_tmod_eq_zero, Int.dvd_iff_emod_eq_zero]
theorem check_f (M S : Int) : dec_Check.f M S = some (if Good M S then 0 else 1) := by
  unfold dec_Check.f
  by_cases h1 : M < (-999999999999999999)
  · rw [if_pos h1, if_neg (fun h => by unfold Good at h; omega)]
  rw [if_neg h1]
  by_cases h2 : M > 999999999999999999
  · rw [if_pos h2, if_neg (fun h => by unfold Good at h; omega)]
  rw [if_neg h2]
  by_cases h3 : S < 0
  · rw [if_pos h3, if_neg (fun h => by unfold Good at h; omega)]
  rw [if_neg h3]
  by_cases h4 : S > 9
  · rw [if_pos h4, if_neg (fun h => by unfold Good at h; omega)]
  rw [if_neg h4]
  by_cases h5 : S > 0
  · rw [if_pos h5]
    by_cases h6 : Int.tmod M 10 = 0
    · rw [if_pos h6, if_neg (fun h => by have := (tmod0 M).1 h6; unfold Good at h; omega)]
    · rw [if_neg h6, if_pos (by have h7 : ¬ M % 10 = 0 := fun h => h6 ((tmod0 M).2 h); exact ⟨by omega, by omega, by omega, by omega, Or.inr h7⟩)]
  · rw [if_neg h5, if_pos ⟨by omega, by omega, by omega, by omega, Or.inl (by omega)⟩]
theorem size_f (M : Int) (h0 : -999999999999999999 ≤ M) (h1 : M ≤ 999999999999999999) : dec_size.f M = some (M.natAbs : Int) := by
  unfold dec_size.f mx
  rw [wrap_small (-M) (by omega) (by omega)]
  by_cases h : M < -M
  · rw [if_pos h, wu _ (by omega) (by omega)]
    congr 1
    omega
  · rw [if_neg h, wu _ (by omega) (by omega)]
    congr 1
    omega
theorem mul_parts (x1 x0 y1 y0 : Nat) : (x1 * 4294967296 + x0) * (y1 * 4294967296 + y0) = x1 * y1 * 18446744073709551616 + (x1 * y0 + x0 * y1) * 4294967296 + x0 * y0 := by grind
theorem le_parts (x y : Nat) (hx : x < 4294967296) (hy : y < 4294967296) : x * y ≤ 18446744065119617025 := by
  have h : x * y ≤ 4294967295 * 4294967295 := Nat.mul_le_mul (by omega) (by omega)
  omega
theorem hi_parts (p11 p10 p01 p00 t : Nat) (h11 : p11 ≤ 18446744065119617025) (h10 : p10 ≤ 18446744065119617025) (h01 : p01 ≤ 18446744065119617025) (h00 : p00 ≤ 18446744065119617025) (ht : p10 + p00 / 4294967296 = t) :
    p11 + t / 4294967296 + (t % 4294967296 + p01) / 4294967296 = (p11 * 18446744073709551616 + (p10 + p01) * 4294967296 + p00) / 18446744073709551616 := by omega
set_option maxHeartbeats 2000000 in
theorem mul64_f (a b : Nat) (ha : a < 18446744073709551616) (hb : b < 18446744073709551616) :
    bits_Mul64.f (a : Int) (b : Int) = some (((a * b / 18446744073709551616 : Nat) : Int), ((a * b % 18446744073709551616 : Nat) : Int)) := by
  unfold bits_Mul64.f
  obtain ⟨x1, hx1⟩ : ∃ x, a / 4294967296 = x := ⟨_, rfl⟩
  obtain ⟨x0, hx0⟩ : ∃ x, a % 4294967296 = x := ⟨_, rfl⟩
  obtain ⟨y1, hy1⟩ : ∃ x, b / 4294967296 = x := ⟨_, rfl⟩
  obtain ⟨y0, hy0⟩ : ∃ x, b % 4294967296 = x := ⟨_, rfl⟩
  have ax : a = x1 * 4294967296 + x0 := by omega
  have ay : b = y1 * 4294967296 + y0 := by omega
  have b1 : x1 < 4294967296 := by omega
  have b2 : x0 < 4294967296 := by omega
  have b3 : y1 < 4294967296 := by omega
  have b4 : y0 < 4294967296 := by omega
  have d1 : (a : Int) / 4294967296 = (x1 : Int) := by omega
  have d2 : (b : Int) / 4294967296 = (y1 : Int) := by omega
  have hm := mul_parts x1 x0 y1 y0
  rw [← ax, ← ay] at hm
  have q11 := le_parts x1 y1 b1 b3
  have q10 := le_parts x1 y0 b1 b4
  have q01 := le_parts x0 y1 b2 b3
  have q00 := le_parts x0 y0 b2 b4
  rw [d1, d2, and32 a ha, and32 b hb, hx0, hy0]
  have m1 : (x1 : Int) * (y1 : Int) = ((x1 * y1 : Nat) : Int) := (Int.natCast_mul _ _).symm
  have m2 : (x1 : Int) * (y0 : Int) = ((x1 * y0 : Nat) : Int) := (Int.natCast_mul _ _).symm
  have m3 : (x0 : Int) * (y1 : Int) = ((x0 * y1 : Nat) : Int) := (Int.natCast_mul _ _).symm
  have m4 : (x0 : Int) * (y0 : Int) = ((x0 * y0 : Nat) : Int) := (Int.natCast_mul _ _).symm
  have m5 : (a : Int) * (b : Int) = ((a * b : Nat) : Int) := (Int.natCast_mul _ _).symm
  rw [m1, m2, m3, m4, m5]
  clear m1 m2 m3 m4 m5 d1 d2 ax ay
  obtain ⟨p11, h11⟩ : ∃ x, x1 * y1 = x := ⟨_, rfl⟩
  obtain ⟨p10, h10⟩ : ∃ x, x1 * y0 = x := ⟨_, rfl⟩
  obtain ⟨p01, h01⟩ : ∃ x, x0 * y1 = x := ⟨_, rfl⟩
  obtain ⟨p00, h00⟩ : ∃ x, x0 * y0 = x := ⟨_, rfl⟩
  rw [h11, h10, h01, h00] at hm
  rw [h11] at q11; rw [h10] at q10; rw [h01] at q01; rw [h00] at q00
  rw [h11, h10, h01, h00, hm]
  clear hm h11 h10 h01 h00 hx1 hx0 hy1 hy0 b1 b2 b3 b4 ha hb
  rw [wu (p11 : Int) (by omega) (by omega), wu (p10 : Int) (by omega) (by omega), wu (p01 : Int) (by omega) (by omega), wu (p00 : Int) (by omega) (by omega)]
  obtain ⟨t, ht⟩ : ∃ x, p10 + p00 / 4294967296 = x := ⟨_, rfl⟩
  have e1 : (p10 : Int) + (p00 : Int) / 4294967296 = (t : Int) := by omega
  have hz := hi_parts p11 p10 p01 p00 t q11 q10 q01 q00 ht
  rw [e1, wu (t : Int) (by omega) (by omega), and32 t (by omega), wu (((t % 4294967296 : Nat) : Int) + (p01 : Int)) (by omega) (by omega)]
  have e2 : (p11 : Int) + (t : Int) / 4294967296 = ((p11 + t / 4294967296 : Nat) : Int) := by omega
  have e3 : (((t % 4294967296 : Nat) : Int) + (p01 : Int)) / 4294967296 = (((t % 4294967296 + p01) / 4294967296 : Nat) : Int) := by omega
  rw [e2, e3, wu ((p11 + t / 4294967296 : Nat) : Int) (by omega) (by omega), ← Int.natCast_add, hz]
  have bz : (p11 * 18446744073709551616 + (p10 + p01) * 4294967296 + p00) / 18446744073709551616 < 18446744073709551616 := by omega
  rw [wu _ (by omega) (by omega), IntKind.wrap_u64]
  congr 2
theorem lift_step (N : Nat) (h : N * 10 < 340282366920938463463374607431768211456) :
    IntKind.u64.wrap ((IntKind.u64.wrap (((N / 18446744073709551616 : Nat) : Int) * 10)) + ((N % 18446744073709551616 * 10 / 18446744073709551616 : Nat) : Int)) = ((N * 10 / 18446744073709551616 : Nat) : Int) ∧ N % 18446744073709551616 * 10 % 18446744073709551616 = N * 10 % 18446744073709551616 := by
  obtain ⟨hi, hhi⟩ : ∃ x, N / 18446744073709551616 = x := ⟨_, rfl⟩
  obtain ⟨lo, hlo⟩ : ∃ x, N % 18446744073709551616 = x := ⟨_, rfl⟩
  have hN : N = hi * 18446744073709551616 + lo := by omega
  have hl : lo < 18446744073709551616 := by omega
  rw [hhi, hlo, hN]
  have b1 : (hi * 18446744073709551616 + lo) * 10 / 18446744073709551616 = hi * 10 + lo * 10 / 18446744073709551616 := by omega
  have b2 : hi * 10 + lo * 10 / 18446744073709551616 < 18446744073709551616 := by omega
  rw [b1, wu ((hi : Int) * 10) (by omega) (by omega), wu _ (by omega) (by omega)]
  omega
theorem lift_l0 : ∀ (d s N k : Nat), N * 10 ^ d < 340282366920938463463374607431768211456 → s + d ≤ 1000 → d + 1 ≤ k →
    dec_lift.l0 k ((s + d : Nat) : Int) (s : Int) ((N / 18446744073709551616 : Nat) : Int) ((N % 18446744073709551616 : Nat) : Int) = some (((N * 10 ^ d / 18446744073709551616 : Nat) : Int), ((N * 10 ^ d % 18446744073709551616 : Nat) : Int)) := by
  intro d
  induction d with
  | zero =>
    intro s N k h hs hk
    obtain ⟨k, rfl⟩ : ∃ m, k = m + 1 := ⟨k - 1, by omega⟩
    rw [dec_lift.l0, if_neg (by omega), Nat.pow_zero, Nat.mul_one]
  | succ d ih =>
    intro s N k h hs hk
    obtain ⟨k, rfl⟩ : ∃ m, k = m + 1 := ⟨k - 1, by omega⟩
    have hp : 1 ≤ 10 ^ d := Nat.one_le_pow _ _ (by decide)
    have h2 : N * 10 * 10 ^ d = N * 10 ^ (d + 1) := by rw [Nat.pow_succ, Nat.mul_comm (10 ^ d) 10, Nat.mul_assoc]
    have h3 : N * 10 * 1 ≤ N * 10 * 10 ^ d := Nat.mul_le_mul_left _ hp
    have hm := mul64_f (N % 18446744073709551616) 10 (by omega) (by decide)
    obtain ⟨l1, l2⟩ := lift_step N (by omega)
    rw [dec_lift.l0, if_pos (by omega), show (10 : Int) = ((10 : Nat) : Int) from rfl, hm, Option.bind_some, wrap_small _ (by omega) (by omega), show ((10 : Nat) : Int) = (10 : Int) from rfl, l1, l2]
    have := ih (s + 1) (N * 10) k (by omega) (by omega) (by omega)
    rw [h2, show s + 1 + d = s + (d + 1) from by omega] at this
    exact this
theorem pow10_le (d : Nat) (h : d ≤ 9) : 10 ^ d ≤ 1000000000 := Nat.pow_le_pow_right (n := 10) (by decide) h
theorem up_lt (N d : Nat) (hN : N ≤ 999999999999999999) (h : d ≤ 9) : N * 10 ^ d ≤ 999999999999999999000000000 := by
  have := Nat.mul_le_mul hN (pow10_le d h)
  omega
theorem lift_f (M : Int) (s S : Nat) (h0 : -999999999999999999 ≤ M) (h1 : M ≤ 999999999999999999) (hs : s ≤ S) (hS : S ≤ 9) (k : Nat) (hk : 10 ≤ k) :
    dec_lift.f k M (s : Int) (S : Int) = some (((M.natAbs * 10 ^ (S - s) / 18446744073709551616 : Nat) : Int), ((M.natAbs * 10 ^ (S - s) % 18446744073709551616 : Nat) : Int)) := by
  unfold dec_lift.f
  have hb := up_lt M.natAbs (S - s) (by omega) (by omega)
  have := lift_l0 (S - s) s M.natAbs k (by omega) (by omega) (by omega)
  rw [size_f M h0 h1, Option.bind_some]
  rw [show s + (S - s) = S from by omega, show M.natAbs / 18446744073709551616 = 0 from by omega, show M.natAbs % 18446744073709551616 = M.natAbs from by omega] at this
  exact this
theorem mx_nat (a b : Nat) : mx (a : Int) (b : Int) = ((max a b : Nat) : Int) := by
  unfold mx
  split <;> omega
theorem pair_f (a b : Int) (s t : Nat) (ha : Good a s) (hb : Good b t) (k : Nat) (hk : 12 ≤ k) :
    dec_pair.f k a (s : Int) b (t : Int) = some (((a.natAbs * 10 ^ (max s t - s) / 18446744073709551616 : Nat) : Int), ((a.natAbs * 10 ^ (max s t - s) % 18446744073709551616 : Nat) : Int), ((b.natAbs * 10 ^ (max s t - t) / 18446744073709551616 : Nat) : Int), ((b.natAbs * 10 ^ (max s t - t) % 18446744073709551616 : Nat) : Int), ((max s t : Nat) : Int), 0) := by
  obtain ⟨k, rfl⟩ : ∃ m, k = m + 1 := ⟨k - 1, by omega⟩
  obtain ⟨a1, a2, a3, a4, _⟩ := id ha
  obtain ⟨b1, b2, b3, b4, _⟩ := id hb
  unfold dec_pair.f
  rw [check_f, if_pos ha, Option.bind_some, if_pos rfl, check_f, if_pos hb, Option.bind_some, show ((0 : Int) != 0) = false from rfl, dec_pair.j0, if_neg (by decide), mx_nat, lift_f a s (max s t) a1 a2 (by omega) (by omega) k (by omega), Option.bind_some, lift_f b t (max s t) b1 b2 (by omega) (by omega) k (by omega), Option.bind_some]
theorem pair_bad (a b s t : Int) (h : ¬ (Good a s ∧ Good b t)) (k : Nat) (hk : 12 ≤ k) :
    dec_pair.f k a s b t = some (0, 0, 0, 0, 0, 1) := by
  obtain ⟨k, rfl⟩ : ∃ m, k = m + 1 := ⟨k - 1, by omega⟩
  unfold dec_pair.f
  by_cases ha : Good a s
  · have hb : ¬ Good b t := fun hb => h ⟨ha, hb⟩
    rw [check_f, if_pos ha, Option.bind_some, if_pos rfl, check_f, if_neg hb, Option.bind_some, show ((1 : Int) != 0) = true from rfl, dec_pair.j0, if_pos rfl]
  · rw [check_f, if_neg ha, Option.bind_some, if_neg (by decide), dec_pair.j0, if_pos rfl]
theorem isNaN_f (a : Int) : cmp_isNaN_uint64.f a = some false := by
  unfold cmp_isNaN_uint64.f
  rw [bne_self_eq_false]
theorem isNaNi_f (a : Int) : cmp_isNaN_int.f a = some false := by
  unfold cmp_isNaN_int.f
  rw [bne_self_eq_false]
def cmpZ (a b : Int) : Int := if a < b then -1 else if a > b then 1 else 0
theorem cmp64_f (a b : Int) : cmp_Compare_uint64.f a b = some (cmpZ a b) := by
  unfold cmp_Compare_uint64.f cmpZ
  rw [isNaN_f, Option.bind_some, isNaN_f, Option.bind_some, if_neg (by decide), if_neg (by decide)]
  split
  · rfl
  · split <;> rfl
theorem cmpInt_f (a b : Int) : cmp_Compare_int.f a b = some (cmpZ a b) := by
  unfold cmp_Compare_int.f cmpZ
  rw [isNaNi_f, Option.bind_some, isNaNi_f, Option.bind_some, if_neg (by decide), if_neg (by decide)]
  split
  · rfl
  · split <;> rfl
theorem or_f (a b : Int) (k : Nat) (hk : 4 ≤ k) : cmp_Or_int.f k [a, b] = some (if a = 0 then b else a) := by
  obtain ⟨k, rfl⟩ : ∃ m, k = m + 3 := ⟨k - 3, by omega⟩
  unfold cmp_Or_int.f
  rw [show ((([a, b] : List Int).length : Nat) : Int) = 2 from rfl, cmp_Or_int.l0, if_pos (by decide), if_pos (by decide), if_pos (show (0 : Int) < (([a, b] : List Int).length : Int) from by show (0 : Int) < 2; decide), show rd [a, b] 0 = a from rfl]
  by_cases h : a = 0
  · rw [if_pos h, if_pos h, cmp_Or_int.l0, show wrap64 (0 + 1) = 1 from wrap_small _ (by decide) (by decide), if_pos (by decide), if_pos (by decide), if_pos (show (1 : Int) < (([a, b] : List Int).length : Int) from by show (1 : Int) < 2; decide), show rd [a, b] 1 = b from rfl]
    by_cases h2 : b = 0
    · rw [if_pos h2, cmp_Or_int.l0, show wrap64 (1 + 1) = 2 from wrap_small _ (by decide) (by decide), if_neg (by decide), h2]
    · rw [if_neg h2]
  · rw [if_neg h, if_neg h]
theorem compare_f (X Y k : Nat) (hk : 4 ≤ k) :
    dec_wide_compare.f k ((X / 18446744073709551616 : Nat) : Int) ((X % 18446744073709551616 : Nat) : Int) ((Y / 18446744073709551616 : Nat) : Int) ((Y % 18446744073709551616 : Nat) : Int) = some (cmpZ (X : Int) (Y : Int)) := by
  unfold dec_wide_compare.f
  rw [cmp64_f, Option.bind_some, cmp64_f, Option.bind_some, or_f _ _ k hk, Option.bind_some]
  congr 1
  unfold cmpZ
  (repeat' split) <;> omega
def tellZ (Z : Int) (s : Nat) : Int × Int × Int := told (decide (Z < 0)) Z.natAbs s
theorem strip_zero : ∀ s, strip 0 s = (0, 0)
  | 0 => rfl
  | s + 1 => by rw [strip, if_pos rfl]; exact strip_zero s
theorem told_zero (b : Bool) (s : Nat) : told b 0 s = (0, 0, 0) := by
  unfold told
  rw [strip_zero, if_neg (by decide)]
  cases b <;> rfl
theorem tellZ_pos (b : Bool) (N s : Nat) (Z : Int) (hZ : Z = if b then -(N : Int) else (N : Int)) : told b N s = tellZ Z s := by
  unfold tellZ
  by_cases h : N = 0
  · subst h
    have : Z.natAbs = 0 := by cases b <;> simp at hZ <;> omega
    rw [this, told_zero, told_zero]
  · cases b
    · simp at hZ
      subst hZ
      rw [show decide ((N : Int) < 0) = false from by rw [decide_eq_false_iff_not]; omega, Int.natAbs_natCast]
    · simp at hZ
      subst hZ
      rw [show decide (-(N : Int) < 0) = true from by rw [decide_eq_true_iff]; omega, Int.natAbs_neg, Int.natAbs_natCast]
def up (M : Int) (d : Nat) : Int := M * ((10 ^ d : Nat) : Int)
theorem up_sign (M : Int) (d : Nat) : up M d = if M < 0 then -((M.natAbs * 10 ^ d : Nat) : Int) else ((M.natAbs * 10 ^ d : Nat) : Int) := by
  have hp : (0 : Int) ≤ ((10 ^ d : Nat) : Int) := Int.natCast_nonneg _
  unfold up
  rw [Int.natCast_mul]
  split
  · rw [show (M.natAbs : Int) = -M from by omega, Int.neg_mul, Int.neg_neg]
  · rw [show (M.natAbs : Int) = M from by omega]
def addD (a : Int) (s : Nat) (b : Int) (t : Nat) : Int × Int × Int := tellZ (up a (max s t - s) + up b (max s t - t)) (max s t)
theorem carry_eq (X Y : Nat) (h : X + Y < 340282366920938463463374607431768211456) :
    IntKind.u64.wrap ((IntKind.u64.wrap (((X / 18446744073709551616 : Nat) : Int) + ((Y / 18446744073709551616 : Nat) : Int))) + (((X % 18446744073709551616 : Nat) : Int) + ((Y % 18446744073709551616 : Nat) : Int) + 0) / 18446744073709551616) = (((X + Y) / 18446744073709551616 : Nat) : Int)
    ∧ (((X % 18446744073709551616 : Nat) : Int) + ((Y % 18446744073709551616 : Nat) : Int) + 0) % 18446744073709551616 = (((X + Y) % 18446744073709551616 : Nat) : Int) := by
  have e : (X + Y) / 18446744073709551616 = X / 18446744073709551616 + Y / 18446744073709551616 + (X % 18446744073709551616 + Y % 18446744073709551616) / 18446744073709551616 := by omega
  have b : (X + Y) / 18446744073709551616 < 18446744073709551616 := by omega
  rw [wu (((X / 18446744073709551616 : Nat) : Int) + ((Y / 18446744073709551616 : Nat) : Int)) (by omega) (by omega), wu _ (by omega) (by omega)]
  omega
theorem borrow_eq (X Y : Nat) (hX : X < 340282366920938463463374607431768211456) (h : Y ≤ X) :
    IntKind.u64.wrap ((IntKind.u64.wrap (((X / 18446744073709551616 : Nat) : Int) - ((Y / 18446744073709551616 : Nat) : Int))) - (if ((X % 18446744073709551616 : Nat) : Int) < ((Y % 18446744073709551616 : Nat) : Int) then 1 else 0)) = (((X - Y) / 18446744073709551616 : Nat) : Int)
    ∧ (((X % 18446744073709551616 : Nat) : Int) + 18446744073709551616 - ((Y % 18446744073709551616 : Nat) : Int)) % 18446744073709551616 = (((X - Y) % 18446744073709551616 : Nat) : Int) := by
  by_cases c : X % 18446744073709551616 < Y % 18446744073709551616
  · have e : (X - Y) / 18446744073709551616 + Y / 18446744073709551616 + 1 = X / 18446744073709551616 := by omega
    have b : X / 18446744073709551616 < 18446744073709551616 := by omega
    rw [if_pos (by omega), wu (((X / 18446744073709551616 : Nat) : Int) - ((Y / 18446744073709551616 : Nat) : Int)) (by omega) (by omega), wu _ (by omega) (by omega)]
    omega
  · have e : (X - Y) / 18446744073709551616 + Y / 18446744073709551616 = X / 18446744073709551616 := by omega
    have b : X / 18446744073709551616 < 18446744073709551616 := by omega
    rw [if_neg (by omega), wu (((X / 18446744073709551616 : Nat) : Int) - ((Y / 18446744073709551616 : Nat) : Int)) (by omega) (by omega), wu _ (by omega) (by omega)]
    omega
theorem add64_f (X Y : Nat) : bits_Add64.f ((X % 18446744073709551616 : Nat) : Int) ((Y % 18446744073709551616 : Nat) : Int) 0 = some ((((X % 18446744073709551616 : Nat) : Int) + ((Y % 18446744073709551616 : Nat) : Int) + 0) % 18446744073709551616, (((X % 18446744073709551616 : Nat) : Int) + ((Y % 18446744073709551616 : Nat) : Int) + 0) / 18446744073709551616) := by
  unfold bits_Add64.f
  rw [if_pos ⟨by omega, by omega, by decide, by decide⟩]
theorem sub64_f (X Y : Nat) : bits_Sub64.f ((X % 18446744073709551616 : Nat) : Int) ((Y % 18446744073709551616 : Nat) : Int) 0 = some ((((X % 18446744073709551616 : Nat) : Int) + 18446744073709551616 - ((Y % 18446744073709551616 : Nat) : Int)) % 18446744073709551616, if ((X % 18446744073709551616 : Nat) : Int) < ((Y % 18446744073709551616 : Nat) : Int) then 1 else 0) := by
  unfold bits_Sub64.f
  rw [if_pos ⟨by omega, by omega, by omega, rfl⟩]
theorem add_f (a b : Int) (s t : Nat) (ha : Good a s) (hb : Good b t) (k : Nat) (hk : 30 ≤ k) :
    dec_Add.f k a (s : Int) b (t : Int) = some (addD a s b t) := by
  obtain ⟨a1, a2, a3, a4, _⟩ := id ha
  obtain ⟨b1, b2, b3, b4, _⟩ := id hb
  have hX := up_lt a.natAbs (max s t - s) (by omega) (by omega)
  have hY := up_lt b.natAbs (max s t - t) (by omega) (by omega)
  have sa := up_sign a (max s t - s)
  have sb := up_sign b (max s t - t)
  unfold dec_Add.f addD
  rw [pair_f a b s t ha hb k (by omega), Option.bind_some, sa, sb]
  clear sa sb
  obtain ⟨X, eX⟩ : ∃ x, a.natAbs * 10 ^ (max s t - s) = x := ⟨_, rfl⟩
  obtain ⟨Y, eY⟩ : ∃ x, b.natAbs * 10 ^ (max s t - t) = x := ⟨_, rfl⟩
  rw [eX] at hX; rw [eY] at hY
  rw [eX, eY]
  have fin : ∀ z : Int × Int × Int, some (z.1, z.2.1, z.2.2) = some z := fun z => rfl
  dsimp only
  rw [if_pos rfl]
  by_cases h : ((decide (a < 0)) == (decide (b < 0))) = true
  · rw [if_pos h, add64_f X Y, Option.bind_some]
    obtain ⟨c1, c2⟩ := carry_eq X Y (by omega)
    dsimp only
    rw [c1, c2, tell_f _ _ _ _ (by omega) (by omega) (by omega), Option.bind_some, fin]
    congr 1
    refine tellZ_pos _ _ _ _ ?_
    have h2 : (a < 0) = (b < 0) := by simpa using h
    by_cases h3 : a < 0
    · have h4 : b < 0 := by rw [← h2]; exact h3
      rw [if_pos h3, if_pos h4, if_pos (decide_eq_true h3)]
      omega
    · have h4 : ¬ b < 0 := by rw [← h2]; exact h3
      rw [if_neg h3, if_neg h4, if_neg (by rw [decide_eq_true_iff]; exact h3)]
      omega
  · rw [if_neg h, compare_f X Y k (by omega), Option.bind_some]
    have h2 : (a < 0) ≠ (b < 0) := fun e => h (by simp [e])
    by_cases c : X < Y
    · have hc : cmpZ (X : Int) (Y : Int) < 0 := by
        unfold cmpZ
        rw [if_pos (by omega)]
        decide
      rw [if_pos hc, sub64_f Y X, Option.bind_some]
      obtain ⟨c1, c2⟩ := borrow_eq Y X (by omega) (by omega)
      dsimp only
      rw [c1, c2, tell_f _ _ _ _ (by omega) (by omega) (by omega), Option.bind_some, fin]
      congr 1
      refine tellZ_pos _ _ _ _ ?_
      by_cases h3 : a < 0
      · have h4 : ¬ b < 0 := fun h4 => h2 (by simp [h3, h4])
        rw [if_pos h3, if_neg h4, show (!(decide (a < 0))) = false from by simp [h3], if_neg (by decide)]
        omega
      · have h4 : b < 0 := Classical.byContradiction fun h4 => h2 (by simp [h3, h4])
        rw [if_neg h3, if_pos h4, show (!(decide (a < 0))) = true from by simp [h3], if_pos rfl]
        omega
    · have hc : ¬ cmpZ (X : Int) (Y : Int) < 0 := by
        unfold cmpZ
        rw [if_neg (by omega)]
        split <;> decide
      rw [if_neg hc, sub64_f X Y, Option.bind_some]
      obtain ⟨c1, c2⟩ := borrow_eq X Y (by omega) (by omega)
      dsimp only
      rw [c1, c2, tell_f _ _ _ _ (by omega) (by omega) (by omega), Option.bind_some, fin]
      congr 1
      refine tellZ_pos _ _ _ _ ?_
      by_cases h3 : a < 0
      · have h4 : ¬ b < 0 := fun h4 => h2 (by simp [h3, h4])
        rw [if_pos h3, if_neg h4, if_pos (decide_eq_true h3)]
        omega
      · have h4 : b < 0 := Classical.byContradiction fun h4 => h2 (by simp [h3, h4])
        rw [if_neg h3, if_pos h4, if_neg (by rw [decide_eq_true_iff]; exact h3)]
        omega
theorem add_bad (a b s t : Int) (h : ¬ (Good a s ∧ Good b t)) (k : Nat) (hk : 12 ≤ k) : dec_Add.f k a s b t = some (0, 0, 1) := by
  unfold dec_Add.f
  rw [pair_bad a b s t h k hk, Option.bind_some, if_neg (by decide)]
theorem mul_lt (a b : Nat) (ha : a ≤ 999999999999999999) (hb : b ≤ 999999999999999999) : a * b ≤ 999999999999999998000000000000000001 := by
  have h : a * b ≤ 999999999999999999 * 999999999999999999 := Nat.mul_le_mul ha hb
  omega
theorem mul_f (a b : Int) (s t : Nat) (ha : Good a s) (hb : Good b t) (k : Nat) (hk : 40 ≤ k) :
    dec_Mul.f k a (s : Int) b (t : Int) = some (tellZ (a * b) (s + t)) := by
  obtain ⟨a1, a2, a3, a4, _⟩ := id ha
  obtain ⟨b1, b2, b3, b4, _⟩ := id hb
  obtain ⟨k, rfl⟩ : ∃ m, k = m + 1 := ⟨k - 1, by omega⟩
  have hl := mul_lt a.natAbs b.natAbs (by omega) (by omega)
  have fin : ∀ z : Int × Int × Int, some (z.1, z.2.1, z.2.2) = some z := fun z => rfl
  unfold dec_Mul.f
  rw [check_f, if_pos ha, Option.bind_some, if_pos rfl, check_f, if_pos hb, Option.bind_some, show ((0 : Int) != 0) = false from rfl, dec_Mul.j0, if_neg (by decide), size_f a a1 a2, Option.bind_some, size_f b b1 b2, Option.bind_some, mul64_f _ _ (by omega) (by omega), Option.bind_some, wrap_small _ (by omega) (by omega)]
  dsimp only
  rw [show (s : Int) + (t : Int) = ((s + t : Nat) : Int) from (Int.natCast_add _ _).symm, tell_f _ (s + t) _ k (by omega) (by omega) (by omega), Option.bind_some, fin]
  congr 1
  refine tellZ_pos _ _ _ _ ?_
  rw [Int.natCast_mul]
  by_cases h3 : a < 0
  · by_cases h4 : b < 0
    · rw [show (decide (a < 0) != decide (b < 0)) = false from by simp [h3, h4], if_neg (by decide), show (a.natAbs : Int) = -a from by omega, show (b.natAbs : Int) = -b from by omega, Int.neg_mul_neg]
    · rw [show (decide (a < 0) != decide (b < 0)) = true from by simp [h3, h4], if_pos rfl, show (a.natAbs : Int) = -a from by omega, show (b.natAbs : Int) = b from by omega, Int.neg_mul, Int.neg_neg]
  · by_cases h4 : b < 0
    · rw [show (decide (a < 0) != decide (b < 0)) = true from by simp [h3, h4], if_pos rfl, show (a.natAbs : Int) = a from by omega, show (b.natAbs : Int) = -b from by omega, Int.mul_neg, Int.neg_neg]
    · rw [show (decide (a < 0) != decide (b < 0)) = false from by simp [h3, h4], if_neg (by decide), show (a.natAbs : Int) = a from by omega, show (b.natAbs : Int) = b from by omega]
theorem mul_bad (a b s t : Int) (h : ¬ (Good a s ∧ Good b t)) (k : Nat) (hk : 12 ≤ k) : dec_Mul.f k a s b t = some (0, 0, 1) := by
  obtain ⟨k, rfl⟩ : ∃ m, k = m + 1 := ⟨k - 1, by omega⟩
  unfold dec_Mul.f
  by_cases ha : Good a s
  · have hb : ¬ Good b t := fun hb => h ⟨ha, hb⟩
    rw [check_f, if_pos ha, Option.bind_some, if_pos rfl, check_f, if_neg hb, Option.bind_some, show ((1 : Int) != 0) = true from rfl, dec_Mul.j0, if_pos rfl]
  · rw [check_f, if_neg ha, Option.bind_some, if_neg (by decide), dec_Mul.j0, if_pos rfl]
theorem neg_f (a s : Int) : dec_Neg.f a s = some (if Good a s then (-a, s, 0) else (0, 0, 1)) := by
  unfold dec_Neg.f
  by_cases ha : Good a s
  · obtain ⟨a1, a2, _⟩ := id ha
    rw [check_f, if_pos ha, Option.bind_some, if_pos rfl, wrap_small _ (by omega) (by omega), if_pos ha]
  · rw [check_f, if_neg ha, Option.bind_some, if_neg (by decide), if_neg ha]
theorem compareD_f (a b : Int) (s t : Nat) (ha : Good a s) (hb : Good b t) (k : Nat) (hk : 30 ≤ k) :
    dec_Compare.f k a (s : Int) b (t : Int) = some (cmpZ (up a (max s t - s)) (up b (max s t - t)), 0) := by
  obtain ⟨a1, a2, a3, a4, _⟩ := id ha
  obtain ⟨b1, b2, b3, b4, _⟩ := id hb
  have sa := up_sign a (max s t - s)
  have sb := up_sign b (max s t - t)
  have pa : 1 ≤ 10 ^ (max s t - s) := Nat.one_le_pow _ _ (by decide)
  have pb : 1 ≤ 10 ^ (max s t - t) := Nat.one_le_pow _ _ (by decide)
  have qa : a.natAbs * 1 ≤ a.natAbs * 10 ^ (max s t - s) := Nat.mul_le_mul_left _ pa
  have qb : b.natAbs * 1 ≤ b.natAbs * 10 ^ (max s t - t) := Nat.mul_le_mul_left _ pb
  unfold dec_Compare.f
  rw [pair_f a b s t ha hb k (by omega), Option.bind_some, sa, sb]
  clear sa sb pa pb
  obtain ⟨X, eX⟩ : ∃ x, a.natAbs * 10 ^ (max s t - s) = x := ⟨_, rfl⟩
  obtain ⟨Y, eY⟩ : ∃ x, b.natAbs * 10 ^ (max s t - t) = x := ⟨_, rfl⟩
  rw [eX] at qa; rw [eY] at qb
  rw [eX, eY]
  dsimp only
  rw [if_pos rfl]
  obtain ⟨k, rfl⟩ : ∃ m, k = m + 1 := ⟨k - 1, by omega⟩
  by_cases h3 : a < 0
  · rw [if_pos h3, if_pos h3, dec_Compare.j0]
    by_cases h4 : b < 0
    · rw [if_pos (decide_eq_true h4), compare_f Y X k (by omega), Option.bind_some, if_pos h4]
      congr 2
      unfold cmpZ
      (repeat' split) <;> omega
    · rw [if_neg (by rw [decide_eq_true_iff]; exact h4), if_pos (by simp [h3, h4]), cmpInt_f, Option.bind_some, if_neg h4]
      congr 2
      unfold cmpZ
      (repeat' split) <;> omega
  · rw [if_neg h3, if_neg h3, dec_Compare.j0, if_neg (by decide)]
    by_cases h4 : b < 0
    · rw [if_pos (by simp [h3, h4]), cmpInt_f, Option.bind_some, if_pos h4]
      congr 2
      unfold cmpZ
      (repeat' split) <;> omega
    · rw [if_neg (by simp [h3, h4]), compare_f X Y k (by omega), Option.bind_some, if_neg h4]
theorem compareD_bad (a b s t : Int) (h : ¬ (Good a s ∧ Good b t)) (k : Nat) (hk : 12 ≤ k) : dec_Compare.f k a s b t = some (0, 1) := by
  unfold dec_Compare.f
  rw [pair_bad a b s t h k hk, Option.bind_some, if_neg (by decide)]
end Go.Proofs.YtdkckjiccpdkbaaDoor.Plain
