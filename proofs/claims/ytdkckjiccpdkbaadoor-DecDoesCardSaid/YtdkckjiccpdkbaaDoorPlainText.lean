/- Rows of digits: their numbers; dec.Parse and dec.Print in plain words. -/
import Derived.Test.YtdkckjiccpdkbaaDoorH1
import Derived.Test.YtdkckjiccpdkbaaDoorPlainMath
import Derived.Lib.IndexLaws
namespace Go.Proofs.YtdkckjiccpdkbaaDoor.Plain
open Go.RowKit Go.Proofs.YtdkckjiccpdkbaaDoor.A Go.Proofs.YtdkckjiccpdkbaaDoor.B Go.Proofs.YtdkckjiccpdkbaaDoor.H
def isDig (c : UInt8) : Prop := 48 ≤ c.toNat ∧ c.toNat ≤ 57
instance (c : UInt8) : Decidable (isDig c) := inferInstanceAs (Decidable (_ ∧ _))
def allDig (l : List UInt8) : Prop := ∀ c ∈ l, isDig c
instance (l : List UInt8) : Decidable (allDig l) := inferInstanceAs (Decidable (∀ c ∈ l, isDig c))
theorem allDig_append (a b : List UInt8) : allDig (a ++ b) ↔ allDig a ∧ allDig b := by
  unfold allDig
  simp only [List.mem_append]
  exact ⟨fun h => ⟨fun c hc => h c (Or.inl hc), fun c hc => h c (Or.inr hc)⟩, fun h c hc => hc.elim (h.1 c) (h.2 c)⟩
theorem allDig_cons (c : UInt8) (t : List UInt8) : allDig (c :: t) ↔ isDig c ∧ allDig t := by
  unfold allDig
  simp
def valA : Nat → List UInt8 → Nat
  | n, [] => n
  | n, c :: t => valA (n * 10 + (c.toNat - 48)) t
def val (l : List UInt8) : Nat := valA 0 l
theorem valA_append : ∀ (a b : List UInt8) (n : Nat), valA n (a ++ b) = valA (valA n a) b := by
  intro a
  induction a with
  | nil => intro b n; rfl
  | cons c t ih => intro b n; exact ih b _
theorem valA_step (n d p v : Nat) : (n * 10 + d) * p + v = n * (p * 10) + ((0 * 10 + d) * p + v) := by grind
theorem valA_eq : ∀ (l : List UInt8) (n : Nat), valA n l = n * 10 ^ l.length + val l
  | [], n => by
    show n = n * 10 ^ 0 + 0
    rw [Nat.pow_zero]
    omega
  | c :: t, n => by
    have h1 : valA n (c :: t) = valA (n * 10 + (c.toNat - 48)) t := rfl
    have h2 : val (c :: t) = valA (0 * 10 + (c.toNat - 48)) t := rfl
    rw [h1, h2, valA_eq t, valA_eq t (0 * 10 + (c.toNat - 48)), List.length_cons, Nat.pow_succ]
    exact valA_step _ _ _ _
theorem val_append (a b : List UInt8) : val (a ++ b) = val a * 10 ^ b.length + val b := by
  unfold val
  rw [valA_append, valA_eq b]
  rfl
theorem val_lt : ∀ (l : List UInt8), allDig l → val l < 10 ^ l.length
  | [], _ => by decide
  | c :: t, h => by
    obtain ⟨h1, h2⟩ := (allDig_cons c t).1 h
    have ih := val_lt t h2
    have e : val (c :: t) = (c.toNat - 48) * 10 ^ t.length + val t := by
      show valA (0 * 10 + (c.toNat - 48)) t = _
      rw [valA_eq, Nat.zero_mul, Nat.zero_add]
    have h3 : (c.toNat - 48) * 10 ^ t.length ≤ 9 * 10 ^ t.length := Nat.mul_le_mul_right _ (by unfold isDig at h1; omega)
    rw [e, List.length_cons, Nat.pow_succ]
    omega
theorem val_zeros : ∀ j, val (List.replicate j 48) = 0
  | 0 => rfl
  | j + 1 => by
    rw [List.replicate_succ]
    show valA (0 * 10 + ((48 : UInt8).toNat - 48)) _ = 0
    exact val_zeros j
theorem allDig_zeros (j : Nat) : allDig (List.replicate j 48) := fun c hc => by
  rw [List.eq_of_mem_replicate hc]
  decide
theorem nd_le : ∀ (k N : Nat), N < 10 ^ (k + 1) → Lib.nDigits N ≤ k + 1
  | 0, N, h => by rw [Lib.nDigits_small (by simpa using h)]; omega
  | k + 1, N, h => by
    by_cases h10 : N < 10
    · rw [Lib.nDigits_small h10]; omega
    · rw [Lib.nDigits_big h10]
      have h2 : N / 10 < 10 ^ (k + 1) := by rw [Nat.pow_succ] at h; omega
      have := nd_le k (N / 10) h2
      omega
theorem toNat_dig (d : Nat) (h : d < 10) : (UInt8.ofNat (48 + d)).toNat = 48 + d := by
  rw [UInt8.toNat_ofNat']
  omega
theorem dec_dig : ∀ (n N : Nat), N ≤ n → allDig (Lib.decDigits N) ∧ val (Lib.decDigits N) = N := by
  intro n
  induction n with
  | zero =>
    intro N h
    obtain rfl : N = 0 := by omega
    rw [Lib.decDigits_one (by decide)]
    exact ⟨by decide, by decide⟩
  | succ n ih =>
    intro N h
    by_cases h10 : N < 10
    · rw [Lib.decDigits_one h10]
      have e := toNat_dig N h10
      refine ⟨fun c hc => ?_, ?_⟩
      · rw [List.mem_singleton.1 hc]
        unfold isDig
        omega
      · show 0 * 10 + ((UInt8.ofNat (48 + N)).toNat - 48) = N
        omega
    · obtain ⟨i1, i2⟩ := ih (N / 10) (by omega)
      have e := toNat_dig (N % 10) (by omega)
      rw [Lib.decDigits, dif_neg h10]
      refine ⟨(allDig_append _ _).2 ⟨i1, fun c hc => ?_⟩, ?_⟩
      · rw [List.mem_singleton.1 hc]
        unfold isDig
        omega
      · rw [val_append, i2]
        show N / 10 * 10 ^ 1 + (0 * 10 + ((UInt8.ofNat (48 + N % 10)).toNat - 48)) = N
        omega
def padD (N s : Nat) : List UInt8 := if (Lib.decDigits N).length ≤ s then Lib.repeatL [48] (s - (Lib.decDigits N).length + 1) ++ Lib.decDigits N else Lib.decDigits N
theorem repeat_zeros : ∀ n, Lib.repeatL [48] n = List.replicate n 48
  | 0 => rfl
  | n + 1 => by rw [Lib.repeatL, repeat_zeros n]; rfl
theorem pad_facts (N s : Nat) : allDig (padD N s) ∧ val (padD N s) = N ∧ (padD N s).length = max (Lib.nDigits N) (s + 1) := by
  obtain ⟨h1, h2⟩ := dec_dig N N (Nat.le_refl _)
  have h3 := Lib.decDigits_length N
  unfold padD
  by_cases h : (Lib.decDigits N).length ≤ s
  · rw [if_pos h, repeat_zeros]
    refine ⟨(allDig_append _ _).2 ⟨allDig_zeros _, h1⟩, ?_, ?_⟩
    · rw [val_append, val_zeros, h2]
      omega
    · rw [List.length_append, List.length_replicate]
      omega
  · rw [if_neg h]
    exact ⟨h1, h2, by omega⟩
def bodyL (N s : Nat) : List UInt8 := if s > 0 then (padD N s).take ((padD N s).length - s) ++ 46 :: (padD N s).drop ((padD N s).length - s) else padD N s
def printL (M : Int) (s : Nat) : List UInt8 := if M < 0 then 45 :: bodyL M.natAbs s else bodyL M.natAbs s
theorem bytes_take (P : List UInt8) (i : Nat) : (⟨P.toArray⟩ : ByteArray).extract 0 i = ⟨(P.take i).toArray⟩ := by
  apply ByteArray.ext
  simp
theorem bytes_drop (P : List UInt8) (i : Nat) : (⟨P.toArray⟩ : ByteArray).extract i (⟨P.toArray⟩ : ByteArray).size = ⟨(P.drop i).toArray⟩ := by
  apply ByteArray.ext
  simp only [ByteArray.data_extract, ByteArray.size, List.size_toArray, List.extract_toArray, List.extract_eq_take_drop]
  rw [List.take_of_length_le (by rw [List.length_drop]; exact Nat.le_refl _)]
theorem bytes_app (P Q : List UInt8) : (⟨P.toArray⟩ : ByteArray) ++ (⟨Q.toArray⟩ : ByteArray) = ⟨(P ++ Q).toArray⟩ := by
  apply ByteArray.ext
  simp
theorem bytes_size (P : List UInt8) : (⟨P.toArray⟩ : ByteArray).size = P.length := by simp [ByteArray.size]
theorem print_j0 (M : Int) (s : Nat) (P : List UInt8) (hP : s ≤ P.length) (hl : P.length ≤ 100) (k : Nat) (hk : 1 ≤ k) :
    dec_Print.j0 k ⟨P.toArray⟩ M (s : Int) = some (⟨(if M < 0 then 45 :: (if s > 0 then P.take (P.length - s) ++ 46 :: P.drop (P.length - s) else P) else (if s > 0 then P.take (P.length - s) ++ 46 :: P.drop (P.length - s) else P)).toArray⟩, 0) := by
  obtain ⟨k, rfl⟩ : ∃ m, k = m + 1 := ⟨k - 1, by omega⟩
  have e1 : (⟨#[46]⟩ : ByteArray) = ⟨([46] : List UInt8).toArray⟩ := rfl
  have e2 : (⟨#[45]⟩ : ByteArray) = ⟨([45] : List UInt8).toArray⟩ := rfl
  rw [dec_Print.j0, bytes_size]
  by_cases hs : s > 0
  · rw [if_pos (by omega), if_pos hs, wrap_small _ (by omega) (by omega), if_pos (by omega), if_pos (by omega), show ((P.length : Int) - (s : Int)).toNat = P.length - s from by omega]
    have e3 := bytes_drop P (P.length - s)
    rw [bytes_size] at e3
    rw [bytes_take, e3, e1, e2, bytes_app, bytes_app, bytes_app, bytes_size, bytes_size, bytes_size, bytes_size]
    have l1 : (P.take (P.length - s)).length ≤ 100 := by rw [List.length_take]; omega
    have l2 : (P.drop (P.length - s)).length ≤ 100 := by rw [List.length_drop]; omega
    have l3 : (P.take (P.length - s) ++ [46]).length ≤ 101 := by rw [List.length_append]; show _ + 1 ≤ _; omega
    have l4 : (P.take (P.length - s) ++ [46] ++ P.drop (P.length - s)).length ≤ 201 := by rw [List.length_append]; omega
    rw [if_pos (by omega), if_pos (by omega), List.append_assoc, List.singleton_append]
    rw [List.append_assoc, List.singleton_append] at l4
    by_cases hm : M < 0
    · rw [if_pos hm, if_pos hm, if_pos (by omega)]
      rfl
    · rw [if_neg hm, if_neg hm]
  · rw [if_neg (by omega), if_neg hs]
    by_cases hm : M < 0
    · rw [if_pos hm, if_pos hm, if_pos (by omega), e2, bytes_app]
      rfl
    · rw [if_neg hm, if_neg hm]
theorem print_f (M : Int) (s : Nat) (hg : Good M s) (k : Nat) (hk : 3 ≤ k) : dec_Print.f k M (s : Int) = some (⟨(printL M s).toArray⟩, 0) := by
  obtain ⟨g1, g2, g3, g4, _⟩ := id hg
  have hn : Lib.nDigits M.natAbs ≤ 18 := nd_le 17 M.natAbs (by rw [show (10 : Nat) ^ (17 + 1) = 1000000000000000000 from by decide]; omega)
  have hd := Lib.decDigits_length M.natAbs
  obtain ⟨_, _, hpl⟩ := pad_facts M.natAbs s
  have hfin := print_j0 M s (padD M.natAbs s) (by omega) (by omega) k (by omega)
  have hfmt : strconv_FormatUint.f (M.natAbs : Int) 10 = some ⟨(Lib.decDigits M.natAbs).toArray⟩ := by
    unfold strconv_FormatUint.f
    rw [if_pos ⟨rfl, by omega, by omega⟩, Int.toNat_natCast]
  unfold dec_Print.f
  rw [check_f, if_pos hg, Option.bind_some, if_pos rfl, size_f M g1 g2, Option.bind_some, hfmt, Option.bind_some, bytes_size]
  have hgoal : dec_Print.j0 k ⟨(padD M.natAbs s).toArray⟩ M (s : Int) = some (⟨(printL M s).toArray⟩, 0) := hfin
  unfold padD at hgoal
  by_cases h : (Lib.decDigits M.natAbs).length ≤ s
  · rw [if_pos (by omega)]
    rw [if_pos h] at hgoal
    have hrep : strings_Repeat.f (⟨#[48]⟩ : ByteArray) (((s - (Lib.decDigits M.natAbs).length + 1 : Nat)) : Int) = some ⟨(Lib.repeatL [48] (s - (Lib.decDigits M.natAbs).length + 1)).toArray⟩ := by
      unfold strings_Repeat.f
      rw [if_pos ⟨by omega, by omega, by decide⟩, Int.toNat_natCast]
    rw [wrap_small ((s : Int) - ((Lib.decDigits M.natAbs).length : Int)) (by omega) (by omega), wrap_small _ (by omega) (by omega), show (s : Int) - ((Lib.decDigits M.natAbs).length : Int) + 1 = ((s - (Lib.decDigits M.natAbs).length + 1 : Nat) : Int) from by omega, hrep, Option.bind_some, bytes_size, repeat_zeros, List.length_replicate, if_pos (by omega), bytes_app]
    rw [repeat_zeros] at hgoal
    exact hgoal
  · rw [if_neg (by omega)]
    rw [if_neg h] at hgoal
    exact hgoal
theorem print_bad (M s : Int) (hg : ¬ Good M s) (k : Nat) : dec_Print.f k M s = some (⟨#[]⟩, 1) := by
  unfold dec_Print.f
  rw [check_f, if_neg hg, Option.bind_some, if_neg (by decide)]
end Go.Proofs.YtdkckjiccpdkbaaDoor.Plain
