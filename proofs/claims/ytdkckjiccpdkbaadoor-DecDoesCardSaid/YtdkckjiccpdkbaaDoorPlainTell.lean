/- dec.tell in plain words: a whole number of two words is stripped of zeros, and told. -/
import Derived.Test.YtdkckjiccpdkbaaDoorA2
import Derived.Laws.Bits64b
namespace Go.Proofs.YtdkckjiccpdkbaaDoor.Plain
open Go.RowKit Go.Proofs.YtdkckjiccpdkbaaDoor.A Go.Proofs.YtdkckjiccpdkbaaDoor.H Go.Proofs.YtdkckjiccpdkbaaDoorW.PrintWords Go.Proofs.YtdkckjiccpdkbaaDoorW.PrintLast Go.Proofs.YtdkckjiccpdkbaaDoorW.PrintMore
theorem wrap_small (n : Int) (h0 : -9223372036854775808 ≤ n) (h1 : n < 9223372036854775808) : wrap64 n = n := by
  unfold wrap64
  omega
theorem wu (n : Int) (h0 : 0 ≤ n) (h1 : n < 18446744073709551616) : IntKind.u64.wrap n = n := by
  rw [IntKind.wrap_u64]
  omega
theorem tm10 (n : Nat) : Int.tmod (n : Int) 10 = ((n % 10 : Nat) : Int) := rfl
theorem td10 (n : Nat) : Int.tdiv (n : Int) 10 = ((n / 10 : Nat) : Int) := rfl
theorem shl10 : shl .u64 10 60 = 11529215046068469760 := by decide
theorem lz10 : bits_LeadingZeros64.f 10 = some 60 := by decide
theorem shl60 (n : Nat) : shl .u64 (n : Int) 60 = ((n % 16 * 1152921504606846976 : Nat) : Int) := by
  unfold shl
  rw [IntKind.wrap_u64, show (2 : Int) ^ min (60 : Int).toNat IntKind.u64.bits = 1152921504606846976 from by decide]
  omega
theorem shr4 (n : Nat) : shr .u64 (n : Int) 4 = ((n / 16 : Nat) : Int) := by
  unfold shr
  rw [show (2 : Int) ^ min (4 : Int).toNat IntKind.u64.bits = 16 from by decide]
  omega
theorem shr60 (n : Nat) : shr .u64 (n : Int) 60 = ((n / 1152921504606846976 : Nat) : Int) := by
  unfold shr
  rw [show (2 : Int) ^ min (60 : Int).toNat IntKind.u64.bits = 1152921504606846976 from by decide]
  omega
theorem or60 (a b : Nat) (ha : a < 16) (hb : b < 1152921504606846976) : Go.bits .or .u64 ((a * 1152921504606846976 : Nat) : Int) (b : Int) = ((a * 1152921504606846976 + b : Nat) : Int) := by
  rw [bits_or_u64_nat _ _ (by omega) (by omega)]
  have h := Nat.two_pow_add_eq_or_of_lt (i := 60) (b := b) (by omega) a
  have h2 : (2 : Nat) ^ 60 = 1152921504606846976 := by decide
  rw [h2] at h
  rw [Nat.mul_comm a, h]
theorem and32 (n : Nat) (hn : n < 18446744073709551616) : Go.bits .and .u64 (n : Int) 4294967295 = ((n % 4294967296 : Nat) : Int) := by
  have h := bits_and_u64_nat n 4294967295 hn (by decide)
  rw [show ((4294967295 : Nat) : Int) = 4294967295 from rfl] at h
  rw [h]
  have h2 := Nat.and_two_pow_sub_one_eq_mod n 32
  rw [show (2 : Nat) ^ 32 - 1 = 4294967295 from by decide, show (2 : Nat) ^ 32 = 4294967296 from by decide] at h2
  rw [h2]
theorem wsub (X r m : Int) (h0 : 0 ≤ r + m) (h1 : r + m < 18446744073709551616) : IntKind.u64.wrap ((IntKind.u64.wrap ((IntKind.u64.wrap (X + r)) + m)) - (IntKind.u64.wrap X)) = r + m := by
  rw [IntKind.wrap_u64, IntKind.wrap_u64, IntKind.wrap_u64, IntKind.wrap_u64]
  omega
set_option maxRecDepth 100000 in
theorem key10 (N u l m q1 rh v q0 rr : Nat) (h1 : N = 16 * u + l) (h2 : l * 268435456 = m) (h3 : u = q1 * 2684354560 + rh) (h4 : v = rh * 4294967296 + m) (h5 : v = q0 * 2684354560 + rr) : N * 1152921504606846976 = 11529215046068469760 * (q1 * 4294967296 + q0) + rr * 4294967296 := by
  grind
set_option maxRecDepth 100000 in
theorem last10 (N Q rr : Nat) (hr : rr < 2684354560) (h : N * 1152921504606846976 = 11529215046068469760 * Q + rr * 4294967296) : rr * 4294967296 / 1152921504606846976 = N % 10 ∧ Q = N / 10 := by
  have h1 : N - 10 * Q = rr * 4294967296 / 1152921504606846976 := by omega
  have h2 : rr * 4294967296 / 1152921504606846976 < 10 := by omega
  omega
set_option maxHeartbeats 4000000 in
theorem div64_10 (N : Nat) (hN : N < 184467440737095516160) (k : Nat) (hk : 6 ≤ k) :
    bits_Div64.f k ((N / 18446744073709551616 : Nat) : Int) ((N % 18446744073709551616 : Nat) : Int) 10 = some (((N / 10 : Nat) : Int), ((N % 10 : Nat) : Int)) := by
  obtain ⟨k, rfl⟩ : ∃ m, k = m + 6 := ⟨k - 6, by omega⟩
  obtain ⟨hi, hhi⟩ : ∃ x, N / 18446744073709551616 = x := ⟨_, rfl⟩
  obtain ⟨lo, hlo⟩ : ∃ x, N % 18446744073709551616 = x := ⟨_, rfl⟩
  rw [hhi, hlo]
  have hhi10 : hi < 10 := by omega
  have hlo64 : lo < 18446744073709551616 := by omega
  unfold bits_Div64.f
  rw [if_neg (by decide), if_neg (by omega)]
  by_cases h0 : hi = 0
  · subst h0
    rw [if_pos (show ((0 : Nat) : Int) = 0 from rfl)]
    have h1 : N = lo := by omega
    subst h1
    rw [show Int.tdiv (N : Int) 10 = ((N / 10 : Nat) : Int) from rfl, show Int.tmod (N : Int) 10 = ((N % 10 : Nat) : Int) from rfl, wu _ (by omega) (by omega)]
  · rw [if_neg (by omega), lz10, Option.bind_some]
    have e1 : IntKind.u64.wrap (60 : Int) = 60 := by decide
    have e2 : IntKind.u64.wrap (64 - (60 : Int)) = 4 := by decide
    have e3 : (11529215046068469760 : Int) / 4294967296 = 2684354560 := by decide
    have e4 : Go.bits .and .u64 11529215046068469760 4294967295 = 0 := by decide
    rw [e1, e2, if_pos (by decide), if_pos (by decide), shl10, e3, e4, if_neg (by decide), shl60, shl60, shr4, Nat.mod_eq_of_lt (show hi < 16 by omega), or60 hi (lo / 16) (by omega) (by omega), and32 _ (by omega)]
    obtain ⟨u, hu⟩ : ∃ x, hi * 1152921504606846976 + lo / 16 = x := ⟨_, rfl⟩
    rw [hu, show Int.tdiv (u : Int) 2684354560 = ((u / 2684354560 : Nat) : Int) from rfl]
    obtain ⟨q1, hq1⟩ : ∃ x, u / 2684354560 = x := ⟨_, rfl⟩
    rw [hq1]
    have b1 : q1 < 4294967296 := by omega
    rw [wu (q1 : Int) (by omega) (by omega), wu ((q1 : Int) * 2684354560) (by omega) (by omega), wu ((u : Int) - (q1 : Int) * 2684354560) (by omega) (by omega)]
    have e5 : ((lo % 16 * 1152921504606846976 : Nat) : Int) / 4294967296 = ((lo % 16 * 268435456 : Nat) : Int) := by omega
    have e6 : ((lo % 16 * 1152921504606846976 % 4294967296 : Nat) : Int) = 0 := by omega
    have e7 : (u : Int) - (q1 : Int) * 2684354560 = ((u % 2684354560 : Nat) : Int) := by omega
    obtain ⟨rh, hrh⟩ : ∃ x, u % 2684354560 = x := ⟨_, rfl⟩
    obtain ⟨m, hm⟩ : ∃ x, lo % 16 * 268435456 = x := ⟨_, rfl⟩
    rw [e5, e6, e7, hrh, hm]
    have b2 : rh < 2684354560 := by omega
    have b3 : m < 4294967296 := by omega
    rw [bits_Div64.l0, if_neg (by omega)]
    have c1 : decide (IntKind.u64.wrap ((q1 : Int) * 0) > IntKind.u64.wrap (IntKind.u64.wrap (4294967296 * (rh : Int)) + (m : Int))) = false := by
      rw [decide_eq_false_iff_not, Int.mul_zero, wu 0 (by decide) (by decide), wu (4294967296 * (rh : Int)) (by omega) (by omega), wu _ (by omega) (by omega)]
      omega
    rw [c1, bits_Div64.j1, if_neg (by decide), bits_Div64.j2, if_neg (by decide)]
    have e8 : IntKind.u64.wrap ((IntKind.u64.wrap ((IntKind.u64.wrap ((u : Int) * 4294967296)) + (m : Int))) - (IntKind.u64.wrap ((q1 : Int) * 11529215046068469760))) = ((rh * 4294967296 + m : Nat) : Int) := by
      have h := wsub ((q1 : Int) * 11529215046068469760) ((rh : Int) * 4294967296) (m : Int) (by omega) (by omega)
      rw [show (q1 : Int) * 11529215046068469760 + (rh : Int) * 4294967296 = (u : Int) * 4294967296 from by omega] at h
      rw [h]
      omega
    rw [e8]
    obtain ⟨v, hv⟩ : ∃ x, rh * 4294967296 + m = x := ⟨_, rfl⟩
    rw [hv, show Int.tdiv (v : Int) 2684354560 = ((v / 2684354560 : Nat) : Int) from rfl]
    obtain ⟨q0, hq0⟩ : ∃ x, v / 2684354560 = x := ⟨_, rfl⟩
    rw [hq0]
    have b4 : q0 < 4294967296 := by omega
    rw [wu (q0 : Int) (by omega) (by omega), wu ((q0 : Int) * 2684354560) (by omega) (by omega), wu ((v : Int) - (q0 : Int) * 2684354560) (by omega) (by omega)]
    have e9 : (v : Int) - (q0 : Int) * 2684354560 = ((v % 2684354560 : Nat) : Int) := by omega
    obtain ⟨rr, hrr⟩ : ∃ x, v % 2684354560 = x := ⟨_, rfl⟩
    rw [e9, hrr]
    have b5 : rr < 2684354560 := by omega
    rw [bits_Div64.l1, if_neg (by omega)]
    have c2 : decide (IntKind.u64.wrap ((q0 : Int) * 0) > IntKind.u64.wrap (IntKind.u64.wrap (4294967296 * (rr : Int)) + 0)) = false := by
      rw [decide_eq_false_iff_not, Int.mul_zero, wu 0 (by decide) (by decide), wu (4294967296 * (rr : Int)) (by omega) (by omega), wu _ (by omega) (by omega)]
      omega
    rw [c2, bits_Div64.j4, if_neg (by decide), if_pos (by decide)]
    have e10 : IntKind.u64.wrap ((IntKind.u64.wrap ((IntKind.u64.wrap ((v : Int) * 4294967296)) + 0)) - (IntKind.u64.wrap ((q0 : Int) * 11529215046068469760))) = ((rr * 4294967296 : Nat) : Int) := by
      have h := wsub ((q0 : Int) * 11529215046068469760) ((rr : Int) * 4294967296) 0 (by omega) (by omega)
      rw [show (q0 : Int) * 11529215046068469760 + (rr : Int) * 4294967296 = (v : Int) * 4294967296 from by omega] at h
      rw [h]
      omega
    rw [e10, shr60, wu ((q1 : Int) * 4294967296) (by omega) (by omega), wu _ (by omega) (by omega)]
    have n1 : N = 16 * u + lo % 16 := by omega
    have key : N * 1152921504606846976 = 11529215046068469760 * (q1 * 4294967296 + q0) + rr * 4294967296 := key10 N u (lo % 16) m q1 rh v q0 rr n1 hm (by omega) hv.symm (by omega)
    clear e8 e9 e10 e7 e5 e6 c1 c2 n1
    obtain ⟨r1, r3⟩ := last10 N _ rr b5 key
    have r2 : (q1 : Int) * 4294967296 + (q0 : Int) = ((N / 10 : Nat) : Int) := by rw [← r3]; omega
    rw [r1, r2]
set_option maxRecDepth 100000 in
theorem by_f (N : Nat) (hN : N < 340282366920938463463374607431768211456) (k : Nat) (hk : 6 ≤ k) :
    dec_wide_by.f k ((N / 18446744073709551616 : Nat) : Int) ((N % 18446744073709551616 : Nat) : Int) = some (((N / 10 / 18446744073709551616 : Nat) : Int), ((N / 10 % 18446744073709551616 : Nat) : Int), ((N % 10 : Nat) : Int)) := by
  unfold dec_wide_by.f
  have h := div64_10 (N / 18446744073709551616 % 10 * 18446744073709551616 + N % 18446744073709551616) (by omega) k hk
  rw [show (N / 18446744073709551616 % 10 * 18446744073709551616 + N % 18446744073709551616) / 18446744073709551616 = N / 18446744073709551616 % 10 from by omega, show (N / 18446744073709551616 % 10 * 18446744073709551616 + N % 18446744073709551616) % 18446744073709551616 = N % 18446744073709551616 from by omega] at h
  rw [tm10, h, Option.bind_some, td10, wu _ (by omega) (by omega)]
  have h1 : N / 18446744073709551616 / 10 = N / 10 / 18446744073709551616 := by omega
  have h2 : (N / 18446744073709551616 % 10 * 18446744073709551616 + N % 18446744073709551616) / 10 = N / 10 % 18446744073709551616 := by omega
  have h3 : (N / 18446744073709551616 % 10 * 18446744073709551616 + N % 18446744073709551616) % 10 = N % 10 := by omega
  rw [h1, h2, h3]
def strip : Nat → Nat → Nat × Nat
  | N, 0 => (N, 0)
  | N, s + 1 => if N % 10 = 0 then strip (N / 10) s else (N, s + 1)
def told (below : Bool) (N s : Nat) : Int × Int × Int :=
  if (strip N s).1 > 999999999999999999 ∨ (strip N s).2 > 9 then (0, 0, 5) else (if below then -((strip N s).1 : Int) else ((strip N s).1 : Int), ((strip N s).2 : Int), 0)
theorem j1_f (below : Bool) (N s : Nat) (hs : s ≤ 1000) (k : Nat) (hk : 2 ≤ k) :
    dec_tell.j1 k below (s : Int) ((N / 18446744073709551616 : Nat) : Int) ((N % 18446744073709551616 : Nat) : Int) = some (if N > 999999999999999999 ∨ s > 9 then (0, 0, 5) else (if below then -(N : Int) else (N : Int), (s : Int), 0)) := by
  obtain ⟨k, rfl⟩ : ∃ m, k = m + 2 := ⟨k - 2, by omega⟩
  rw [dec_tell.j1]
  by_cases h1 : N ≥ 18446744073709551616
  · rw [if_neg (by omega), dec_tell.j2, if_pos rfl, if_pos (by omega)]
  · rw [if_pos (by omega)]
    have h2 : N % 18446744073709551616 = N := by omega
    rw [h2]
    by_cases h3 : N > 999999999999999999
    · rw [if_pos (by omega), dec_tell.j2, if_pos rfl, if_pos (by omega)]
    · rw [if_neg (by omega), dec_tell.j2]
      by_cases h4 : s > 9
      · rw [if_pos (by rw [decide_eq_true_iff]; omega), if_pos (by omega)]
      · rw [if_neg (by rw [decide_eq_true_iff]; omega), if_neg (show ¬ (N > 999999999999999999 ∨ s > 9) by omega), wrap_small (N : Int) (by omega) (by omega)]
        cases below
        · rfl
        · rw [if_pos rfl, wrap_small (-(N : Int)) (by omega) (by omega)]
          rfl
theorem tell_l0 (below : Bool) : ∀ (s N k : Nat), s ≤ 1000 → N < 340282366920938463463374607431768211456 → s + 7 ≤ k →
    dec_tell.l0 k below (s : Int) ((N / 18446744073709551616 : Nat) : Int) ((N % 18446744073709551616 : Nat) : Int) = some (told below N s) := by
  intro s
  induction s with
  | zero =>
    intro N k hs hN hk
    obtain ⟨k, rfl⟩ : ∃ m, k = m + 1 := ⟨k - 1, by omega⟩
    rw [dec_tell.l0, if_neg (by decide), j1_f below N 0 hs k (by omega)]
    rfl
  | succ s ih =>
    intro N k hs hN hk
    obtain ⟨k, rfl⟩ : ∃ m, k = m + 1 := ⟨k - 1, by omega⟩
    rw [dec_tell.l0, if_pos (by omega), by_f N hN k (by omega), Option.bind_some]
    by_cases h : N % 10 = 0
    · refine (if_pos (by show ((N % 10 : Nat) : Int) = 0; omega)).trans ?_
      rw [wrap_small _ (by omega) (by omega), show ((s + 1 : Nat) : Int) - 1 = (s : Int) from by omega]
      have h2 := ih (N / 10) k (by omega) (by omega) (by omega)
      refine h2.trans ?_
      unfold told
      rw [show strip N (s + 1) = strip (N / 10) s from by rw [strip, if_pos h]]
    · rw [if_neg (by show ¬ (((N % 10 : Nat) : Int) = 0); omega), j1_f below N (s + 1) hs k (by omega)]
      unfold told
      rw [show strip N (s + 1) = (N, s + 1) from by rw [strip, if_neg h]]
theorem tell_f (below : Bool) (s N k : Nat) (hs : s ≤ 1000) (hN : N < 340282366920938463463374607431768211456) (hk : s + 7 ≤ k) :
    dec_tell.f k below ((N / 18446744073709551616 : Nat) : Int) ((N % 18446744073709551616 : Nat) : Int) (s : Int) = some (told below N s) := tell_l0 below s N k hs hN hk
end Go.Proofs.YtdkckjiccpdkbaaDoor.Plain
