/- Rows of digits: their numbers; dec.Parse and dec.Print in plain words. -/
import Derived.Test.YtdkckjiccpdkbaaDoorH1
import Derived.Test.YtdkckjiccpdkbaaDoorPlainMath
import Derived.Lib.IndexLaws
namespace Go.Proofs.YtdkckjiccpdkbaaDoor.Plain
open Go.RowKit Go.Proofs.YtdkckjiccpdkbaaDoor.A Go.Proofs.YtdkckjiccpdkbaaDoor.B Go.Proofs.YtdkckjiccpdkbaaDoor.H

def isDig (c : UInt8) : Prop := 48 ≤ c.toNat ∧ c.toNat ≤ 57
instance (c : UInt8) : Decidable (isDig c) := inferInstanceAs (Decidable (_ ∧ _))
def allDig (l : List UInt8) : Prop := ∀ c ∈ l, isDig c
instance (l : List UInt8) : Decidable (allDig l) := inferInstanceAs (Decidable (∀ c ∈ l, isDig c))
theorem allDig_append (a b : List UInt8) : allDig (a ++ b) ↔ allDig a ∧ allDig b := by
  unfold allDig
  simp only [List.mem_append]
  exact ⟨fun h => ⟨fun c hc => h c (Or.inl hc), fun c hc => h c (Or.inr hc)⟩, fun h c hc => hc.elim (h.1 c) (h.2 c)⟩
theorem allDig_cons (c : UInt8) (t : List UInt8) : allDig (c :: t) ↔ isDig c ∧ allDig t := by
  unfold allDig
  simp
def valA : Nat → List UInt8 → Nat
  | n, [] => n
  | n, c :: t => valA (n * 10 + (c.toNat - 48)) t
def val (l : List UInt8) : Nat := valA 0 l
def cnt : Nat → List UInt8 → Nat
  | n, [] => n
  | n, c :: t => cnt (if n > 0 ∨ 48 < c.toNat then n + 1 else n) t
theorem valA_append : ∀ (a b : List UInt8) (n : Nat), valA n (a ++ b) = valA (valA n a) b := by
  intro a
  induction a with
  | nil => intro b n; rfl
  | cons c t ih => intro b n; exact ih b _
theorem valA_step (n d p v : Nat) : (n * 10 + d) * p + v = n * (p * 10) + ((0 * 10 + d) * p + v) := by grind
theorem valA_eq : ∀ (l : List UInt8) (n : Nat), valA n l = n * 10 ^ l.length + val l
  | [], n => by
    show n = n * 10 ^ 0 + 0
    rw [Nat.pow_zero]
    omega
  | c :: t, n => by
    have h1 : valA n (c :: t) = valA (n * 10 + (c.toNat - 48)) t := rfl
    have h2 : val (c :: t) = valA (0 * 10 + (c.toNat - 48)) t := rfl
    rw [h1, h2, valA_eq t, valA_eq t (0 * 10 + (c.toNat - 48)), List.length_cons, Nat.pow_succ]
    exact valA_step _ _ _ _
theorem val_append (a b : List UInt8) : val (a ++ b) = val a * 10 ^ b.length + val b := by
  unfold val
  rw [valA_append, valA_eq b]
  rfl
theorem val_lt : ∀ (l : List UInt8), allDig l → val l < 10 ^ l.length
  | [], _ => by decide
  | c :: t, h => by
    obtain ⟨h1, h2⟩ := (allDig_cons c t).1 h
    have ih := val_lt t h2
    have e : val (c :: t) = (c.toNat - 48) * 10 ^ t.length + val t := by
      show valA (0 * 10 + (c.toNat - 48)) t = _
      rw [valA_eq, Nat.zero_mul, Nat.zero_add]
    have h3 : (c.toNat - 48) * 10 ^ t.length ≤ 9 * 10 ^ t.length := Nat.mul_le_mul_right _ (by unfold isDig at h1; omega)
    rw [e, List.length_cons, Nat.pow_succ]
    omega
theorem cnt_pos : ∀ (l : List UInt8) (n : Nat), 0 < n → cnt n l = n + l.length
  | [], _, _ => rfl
  | c :: t, n, h => by
    show cnt (if n > 0 ∨ 48 < c.toNat then n + 1 else n) t = _
    rw [if_pos (Or.inl h), cnt_pos t (n + 1) (by omega), List.length_cons]
    omega
/-- How many digits count: as the number's size tells. -/
theorem cnt_zero : ∀ (l : List UInt8), allDig l → val l < 10 ^ cnt 0 l ∧ (0 < cnt 0 l → 10 ^ (cnt 0 l - 1) ≤ val l)
  | [], _ => ⟨by decide, fun h => absurd h (by decide)⟩
  | c :: t, h => by
    obtain ⟨h1, h2⟩ := (allDig_cons c t).1 h
    have e : val (c :: t) = (c.toNat - 48) * 10 ^ t.length + val t := by
      show valA (0 * 10 + (c.toNat - 48)) t = _
      rw [valA_eq, Nat.zero_mul, Nat.zero_add]
    by_cases hc : 48 < c.toNat
    · have e2 : cnt 0 (c :: t) = t.length + 1 := by
        show cnt (if 0 > 0 ∨ 48 < c.toNat then 0 + 1 else 0) t = _
        rw [if_pos (Or.inr hc), cnt_pos t 1 (by decide)]
        omega
      rw [e2]
      refine ⟨val_lt (c :: t) h, fun _ => ?_⟩
      have h3 : 1 * 10 ^ t.length ≤ (c.toNat - 48) * 10 ^ t.length := Nat.mul_le_mul_right _ (by omega)
      rw [e, Nat.add_sub_cancel]
      omega
    · have e2 : cnt 0 (c :: t) = cnt 0 t := by
        show cnt (if 0 > 0 ∨ 48 < c.toNat then 0 + 1 else 0) t = _
        rw [if_neg (by omega)]
      rw [e2, e, show c.toNat - 48 = 0 from by omega, Nat.zero_mul, Nat.zero_add]
      exact cnt_zero t h2
theorem cnt_18 (l : List UInt8) (h : allDig l) : cnt 0 l ≤ 18 ↔ val l ≤ 999999999999999999 := by
  obtain ⟨h1, h2⟩ := cnt_zero l h
  constructor
  · intro hc
    have : 10 ^ cnt 0 l ≤ 10 ^ 18 := Nat.pow_le_pow_right (by decide) hc
    have e : (10 : Nat) ^ 18 = 1000000000000000000 := by decide
    omega
  · intro hv
    refine Classical.byContradiction fun hc => ?_
    have h3 := h2 (by omega)
    have : 10 ^ 18 ≤ 10 ^ (cnt 0 l - 1) := Nat.pow_le_pow_right (by decide) (by omega)
    have e : (10 : Nat) ^ 18 = 1000000000000000000 := by decide
    omega
/-! the walk over the digits -/
theorem digs_none : ∀ (l : List UInt8) (m n e : Int), ¬ allDig l → digs l m n e = none
  | [], _, _, _, h => absurd (fun c hc => by cases hc) h
  | c :: t, m, n, e, h => by
    rw [digs]
    by_cases hc : (c.toNat : Int) < 48 ∨ 57 < (c.toNat : Int)
    · rw [if_pos hc]
    · rw [if_neg hc]
      have ht : ¬ allDig t := fun ht => h ((allDig_cons c t).2 ⟨⟨by omega, by omega⟩, ht⟩)
      dsimp only
      (repeat' split) <;> exact digs_none t _ _ _ ht
theorem digs_far : ∀ (l : List UInt8) (m : Int) (n : Nat), allDig l → 18 < n → digs l m (n : Int) 5 = some (m, ((n + l.length : Nat) : Int), 5)
  | [], _, _, _, _ => rfl
  | c :: t, m, n, h, hn => by
    obtain ⟨h1, h2⟩ := (allDig_cons c t).1 h
    rw [digs, if_neg (by unfold isDig at h1; omega)]
    dsimp only
    rw [if_pos (Or.inl (by omega)), if_pos (by omega)]
    have := digs_far t m (n + 1) h2 (by omega)
    rw [Int.natCast_add] at this
    refine this.trans ?_
    rw [List.length_cons, show n + 1 + t.length = n + (t.length + 1) from by omega]
theorem digs_all : ∀ (l : List UInt8) (m n : Nat), allDig l → n ≤ 18 →
    (cnt n l ≤ 18 → digs l (m : Int) (n : Int) 0 = some ((valA m l : Int), (cnt n l : Int), 0)) ∧ (18 < cnt n l → ∃ m', digs l (m : Int) (n : Int) 0 = some (m', (cnt n l : Int), 5))
  | [], m, n, _, hn => ⟨fun _ => rfl, fun h => absurd h (by show ¬ 18 < n; omega)⟩
  | c :: t, m, n, h, hn => by
    obtain ⟨h1, h2⟩ := (allDig_cons c t).1 h
    have e1 : digs (c :: t) (m : Int) (n : Int) 0 = if ((if n > 0 ∨ 48 < c.toNat then n + 1 else n : Nat) : Int) > 18 then digs t m ((if n > 0 ∨ 48 < c.toNat then n + 1 else n : Nat) : Int) 5 else digs t ((m * 10 + (c.toNat - 48) : Nat) : Int) ((if n > 0 ∨ 48 < c.toNat then n + 1 else n : Nat) : Int) 0 := by
      rw [digs, if_neg (by unfold isDig at h1; omega)]
      dsimp only
      have e2 : (if (n : Int) > 0 ∨ 48 < (c.toNat : Int) then (n : Int) + 1 else (n : Int)) = ((if n > 0 ∨ 48 < c.toNat then n + 1 else n : Nat) : Int) := by
        by_cases hq : n > 0 ∨ 48 < c.toNat
        · rw [if_pos hq, if_pos (by omega)]; rfl
        · rw [if_neg hq, if_neg (by omega)]
      rw [e2, show (m : Int) * 10 + ((c.toNat : Int) - 48) = ((m * 10 + (c.toNat - 48) : Nat) : Int) from by unfold isDig at h1; omega]
    rw [e1]
    show (cnt (if n > 0 ∨ 48 < c.toNat then n + 1 else n) t ≤ 18 → _ = some ((valA (m * 10 + (c.toNat - 48)) t : Int), (cnt (if n > 0 ∨ 48 < c.toNat then n + 1 else n) t : Int), 0)) ∧ (18 < cnt (if n > 0 ∨ 48 < c.toNat then n + 1 else n) t → ∃ m', _ = some (m', (cnt (if n > 0 ∨ 48 < c.toNat then n + 1 else n) t : Int), 5))
    obtain ⟨n', hn'⟩ : ∃ x, (if n > 0 ∨ 48 < c.toNat then n + 1 else n) = x := ⟨_, rfl⟩
    rw [hn']
    by_cases h18 : n' ≤ 18
    · rw [if_neg (by omega)]
      exact digs_all t (m * 10 + (c.toNat - 48)) n' h2 h18
    · rw [if_pos (by omega), digs_far t m n' h2 (by omega), cnt_pos t n' (by omega)]
      exact ⟨fun h => absurd h (by omega), fun _ => ⟨_, rfl⟩⟩
/-! zeros stripped -/
theorem dropZ (l : List UInt8) : ∃ j, l = List.replicate j 48 ++ l.dropWhile (· == 48) := by
  induction l with
  | nil => exact ⟨0, rfl⟩
  | cons c t ih =>
    by_cases h : (c == 48) = true
    · obtain ⟨j, hj⟩ := ih
      have h2 : c = 48 := by simpa using h
      subst h2
      refine ⟨j + 1, ?_⟩
      rw [List.dropWhile_cons_of_pos (p := (· == 48)) h, List.replicate_succ, List.cons_append, ← hj]
    · exact ⟨0, by rw [List.dropWhile_cons_of_neg (p := (· == 48)) h]; rfl⟩
theorem val_zeros : ∀ j, val (List.replicate j 48) = 0
  | 0 => rfl
  | j + 1 => by
    rw [List.replicate_succ]
    show valA (0 * 10 + ((48 : UInt8).toNat - 48)) _ = 0
    exact val_zeros j
theorem allDig_zeros (j : Nat) : allDig (List.replicate j 48) := fun c hc => by
  rw [List.eq_of_mem_replicate hc]
  decide
theorem trimL (l : List UInt8) : ∃ j, l = List.replicate j 48 ++ Lib.trimLeftB l 48 := dropZ l
theorem trimR (l : List UInt8) : ∃ j, l = Lib.trimRightB l 48 ++ List.replicate j 48 := by
  obtain ⟨j, hj⟩ := dropZ l.reverse
  refine ⟨j, ?_⟩
  have := congrArg List.reverse hj
  rw [List.reverse_reverse, List.reverse_append, List.reverse_replicate] at this
  exact this
theorem trimR_last (l : List UInt8) (h : allDig l) (a : List UInt8) : Lib.trimRightB l 48 = [] ∨ val (a ++ Lib.trimRightB l 48) % 10 ≠ 0 := by
  unfold Lib.trimRightB
  have hm : ∀ c ∈ l.reverse.dropWhile (· == 48), isDig c := fun c hc => h c (List.mem_reverse.1 ((List.dropWhile_suffix _).subset hc))
  cases hq : l.reverse.dropWhile (· == 48) with
  | nil => exact Or.inl rfl
  | cons c t =>
    refine Or.inr ?_
    have hc : ¬ (c == 48) = true := by
      have := List.head?_dropWhile_not (· == 48) l.reverse
      rw [hq] at this
      simpa using this
    rw [hq] at hm
    have hd := hm c (List.mem_cons_self ..)
    have hne : c.toNat ≠ 48 := fun e => hc (by rw [beq_iff_eq]; exact UInt8.toNat_inj.1 e)
    rw [List.reverse_cons, ← List.append_assoc, val_append]
    show (val (a ++ t.reverse) * 10 ^ 1 + valA (0 * 10 + (c.toNat - 48)) []) % 10 ≠ 0
    show (val (a ++ t.reverse) * 10 ^ 1 + (0 * 10 + (c.toNat - 48))) % 10 ≠ 0
    unfold isDig at hd
    omega

/-! dec.Parse -/
theorem told_zeros (b : Bool) (N s j : Nat) : told b (N * 10 ^ j) (s + j) = told b N s := by
  unfold told
  rw [strip_mul]
def parseL (l : List UInt8) : Int × Int × Int :=
  if l.length > 40 ∨ (cutAt (headB l).2 46).1 ++ (cutAt (headB l).2 46).2.1 = [] ∨ ¬ allDig ((cutAt (headB l).2 46).1 ++ (cutAt (headB l).2 46).2.1) then (0, 0, 4)
  else told (headB l).1 (val ((cutAt (headB l).2 46).1 ++ (cutAt (headB l).2 46).2.1)) (cutAt (headB l).2 46).2.1.length
theorem told_far (b : Bool) (v s : Nat) (h : s = 0 ∨ v % 10 ≠ 0) (hf : v > 999999999999999999 ∨ s > 9) : told b v s = (0, 0, 5) := by
  unfold told
  rw [strip_good v s h, if_pos hf]
theorem parseDigs_f (b : Bool) (F K : List UInt8) (hK : K.length ≤ 41) (k : Nat) (hk : 60 ≤ k) :
    parseDigs k b (Lib.trimLeftB F 48) (Lib.trimRightB K 48) = some (if ¬ allDig (F ++ K) then (0, 0, 4) else told b (val (F ++ K)) K.length) := by
  obtain ⟨i, hi⟩ := trimL F
  obtain ⟨j, hj⟩ := trimR K
  have hiff : allDig (F ++ K) ↔ allDig (Lib.trimLeftB F 48 ++ Lib.trimRightB K 48) := by
    rw [allDig_append, allDig_append]
    constructor
    · intro h
      rw [hi, hj] at h
      exact ⟨((allDig_append _ _).1 h.1).2, ((allDig_append _ _).1 h.2).1⟩
    · intro h
      rw [hi, hj]
      exact ⟨(allDig_append _ _).2 ⟨allDig_zeros _, h.1⟩, (allDig_append _ _).2 ⟨h.2, allDig_zeros _⟩⟩
  have hlK : K.length = (Lib.trimRightB K 48).length + j := by
    have := congrArg List.length hj
    rw [List.length_append, List.length_replicate] at this
    exact this
  have hval : val (F ++ K) = val (Lib.trimLeftB F 48 ++ Lib.trimRightB K 48) * 10 ^ j := by
    have h1 : F ++ K = List.replicate i 48 ++ ((Lib.trimLeftB F 48 ++ Lib.trimRightB K 48) ++ List.replicate j 48) := by
      rw [← List.append_assoc, ← List.append_assoc, List.append_assoc (List.replicate i 48 ++ _), ← hi, ← hj]
    rw [h1, val_append, val_zeros, Nat.zero_mul, Nat.zero_add, val_append, val_zeros, List.length_replicate, Nat.add_zero]
  unfold parseDigs
  by_cases hd : allDig (Lib.trimLeftB F 48 ++ Lib.trimRightB K 48)
  · rw [if_neg (by rw [Classical.not_not]; exact hiff.2 hd), hval, hlK, told_zeros]
    have hlast := trimR_last K ((allDig_append _ _).1 (hiff.2 hd)).2 (Lib.trimLeftB F 48)
    obtain ⟨L, hL⟩ : ∃ x, Lib.trimLeftB F 48 ++ Lib.trimRightB K 48 = x := ⟨_, rfl⟩
    have hlast' : (Lib.trimRightB K 48).length = 0 ∨ val L % 10 ≠ 0 := by
      rw [← hL]
      exact hlast.imp (fun h => by rw [h]; rfl) id
    rw [hL] at hd
    rw [hL]
    obtain ⟨d1, d2⟩ := digs_all L 0 0 hd (by decide)
    have h18 := cnt_18 L hd
    by_cases hc : cnt 0 L ≤ 18
    · have e := d1 hc
      rw [show ((0 : Nat) : Int) = 0 from rfl] at e
      rw [e]
      dsimp only
      by_cases h9 : (Lib.trimRightB K 48).length > 9
      · rw [if_pos (Or.inr h9), told_far _ _ _ hlast' (Or.inr h9)]
      · rw [if_neg (fun h => h.elim (fun h => h rfl) h9)]
        have hv := h18.1 hc
        have ht := tell_f b (Lib.trimRightB K 48).length (val L) k (by omega) (by omega) (by omega)
        rw [show val L / 18446744073709551616 = 0 from by omega, show val L % 18446744073709551616 = val L from by omega] at ht
        exact ht
    · obtain ⟨m', e⟩ := d2 (by omega)
      rw [show ((0 : Nat) : Int) = 0 from rfl] at e
      rw [e]
      dsimp only
      rw [if_pos (Or.inl (by decide)), told_far _ _ _ hlast' (Or.inl (by omega))]
  · rw [digs_none _ _ _ _ hd, if_pos (fun h => hd (hiff.1 h))]
theorem parse_f (t : ByteArray) (k : Nat) (hk : 60 ≤ k) : dec_Parse.f k t = some (parseL t.data.toList) := by
  unfold dec_Parse.f parseL
  have hs : t.size = t.data.toList.length := Array.length_toList.symm
  by_cases h1 : t.size > 40
  · rw [if_pos h1, if_pos (Or.inl (by omega))]
  · rw [if_neg h1]
    dsimp only
    have hl := headB_len t.data.toList
    have hl2 := (cutAt_len (headB t.data.toList).2 46).2
    by_cases h2 : (cutAt (headB t.data.toList).2 46).1 ++ (cutAt (headB t.data.toList).2 46).2.1 = []
    · rw [if_pos h2, if_pos (Or.inr (Or.inl h2))]
    · rw [if_neg h2, parseDigs_f _ _ _ (by omega) k hk]
      by_cases h3 : ¬ allDig ((cutAt (headB t.data.toList).2 46).1 ++ (cutAt (headB t.data.toList).2 46).2.1)
      · rw [if_pos h3, if_pos (Or.inr (Or.inr h3))]
      · rw [if_neg h3, if_neg (by intro h; rcases h with h | h | h; exact absurd h (by omega); exact h2 h; exact h3 h)]
/-! dec.Print -/
theorem nd_le : ∀ (k N : Nat), N < 10 ^ (k + 1) → Lib.nDigits N ≤ k + 1
  | 0, N, h => by rw [Lib.nDigits_small (by simpa using h)]; omega
  | k + 1, N, h => by
    by_cases h10 : N < 10
    · rw [Lib.nDigits_small h10]; omega
    · rw [Lib.nDigits_big h10]
      have h2 : N / 10 < 10 ^ (k + 1) := by rw [Nat.pow_succ] at h; omega
      have := nd_le k (N / 10) h2
      omega
theorem toNat_dig (d : Nat) (h : d < 10) : (UInt8.ofNat (48 + d)).toNat = 48 + d := by
  rw [UInt8.toNat_ofNat']
  omega
theorem dec_dig : ∀ (n N : Nat), N ≤ n → allDig (Lib.decDigits N) ∧ val (Lib.decDigits N) = N := by
  intro n
  induction n with
  | zero =>
    intro N h
    obtain rfl : N = 0 := by omega
    rw [Lib.decDigits_one (by decide)]
    exact ⟨by decide, by decide⟩
  | succ n ih =>
    intro N h
    by_cases h10 : N < 10
    · rw [Lib.decDigits_one h10]
      have e := toNat_dig N h10
      refine ⟨fun c hc => ?_, ?_⟩
      · rw [List.mem_singleton.1 hc]
        unfold isDig
        omega
      · show 0 * 10 + ((UInt8.ofNat (48 + N)).toNat - 48) = N
        omega
    · obtain ⟨i1, i2⟩ := ih (N / 10) (by omega)
      have e := toNat_dig (N % 10) (by omega)
      rw [Lib.decDigits, dif_neg h10]
      refine ⟨(allDig_append _ _).2 ⟨i1, fun c hc => ?_⟩, ?_⟩
      · rw [List.mem_singleton.1 hc]
        unfold isDig
        omega
      · rw [val_append, i2]
        show N / 10 * 10 ^ 1 + (0 * 10 + ((UInt8.ofNat (48 + N % 10)).toNat - 48)) = N
        omega
def padD (N s : Nat) : List UInt8 := if (Lib.decDigits N).length ≤ s then Lib.repeatL [48] (s - (Lib.decDigits N).length + 1) ++ Lib.decDigits N else Lib.decDigits N
theorem repeat_zeros : ∀ n, Lib.repeatL [48] n = List.replicate n 48
  | 0 => rfl
  | n + 1 => by rw [Lib.repeatL, repeat_zeros n]; rfl
theorem pad_facts (N s : Nat) : allDig (padD N s) ∧ val (padD N s) = N ∧ (padD N s).length = max (Lib.nDigits N) (s + 1) := by
  obtain ⟨h1, h2⟩ := dec_dig N N (Nat.le_refl _)
  have h3 := Lib.decDigits_length N
  unfold padD
  by_cases h : (Lib.decDigits N).length ≤ s
  · rw [if_pos h, repeat_zeros]
    refine ⟨(allDig_append _ _).2 ⟨allDig_zeros _, h1⟩, ?_, ?_⟩
    · rw [val_append, val_zeros, h2]
      omega
    · rw [List.length_append, List.length_replicate]
      omega
  · rw [if_neg h]
    exact ⟨h1, h2, by omega⟩
def bodyL (N s : Nat) : List UInt8 := if s > 0 then (padD N s).take ((padD N s).length - s) ++ 46 :: (padD N s).drop ((padD N s).length - s) else padD N s
def printL (M : Int) (s : Nat) : List UInt8 := if M < 0 then 45 :: bodyL M.natAbs s else bodyL M.natAbs s
theorem body_len (N s : Nat) : (bodyL N s).length = max (Lib.nDigits N) (s + 1) + if s > 0 then 1 else 0 := by
  obtain ⟨_, _, h3⟩ := pad_facts N s
  unfold bodyL
  by_cases h : s > 0
  · rw [if_pos h, if_pos h, List.length_append, List.length_cons, List.length_take, List.length_drop]
    omega
  · rw [if_neg h, if_neg h, h3]
    omega
theorem bytes_take (P : List UInt8) (i : Nat) : (⟨P.toArray⟩ : ByteArray).extract 0 i = ⟨(P.take i).toArray⟩ := by
  apply ByteArray.ext
  simp
theorem bytes_drop (P : List UInt8) (i : Nat) : (⟨P.toArray⟩ : ByteArray).extract i (⟨P.toArray⟩ : ByteArray).size = ⟨(P.drop i).toArray⟩ := by
  apply ByteArray.ext
  simp only [ByteArray.data_extract, ByteArray.size, List.size_toArray, List.extract_toArray, List.extract_eq_take_drop]
  rw [List.take_of_length_le (by rw [List.length_drop]; exact Nat.le_refl _)]
theorem bytes_app (P Q : List UInt8) : (⟨P.toArray⟩ : ByteArray) ++ (⟨Q.toArray⟩ : ByteArray) = ⟨(P ++ Q).toArray⟩ := by
  apply ByteArray.ext
  simp
theorem bytes_size (P : List UInt8) : (⟨P.toArray⟩ : ByteArray).size = P.length := by simp [ByteArray.size]
theorem print_j0 (M : Int) (s : Nat) (P : List UInt8) (hP : s ≤ P.length) (hl : P.length ≤ 100) (k : Nat) (hk : 1 ≤ k) :
    dec_Print.j0 k ⟨P.toArray⟩ M (s : Int) = some (⟨(if M < 0 then 45 :: (if s > 0 then P.take (P.length - s) ++ 46 :: P.drop (P.length - s) else P) else (if s > 0 then P.take (P.length - s) ++ 46 :: P.drop (P.length - s) else P)).toArray⟩, 0) := by
  obtain ⟨k, rfl⟩ : ∃ m, k = m + 1 := ⟨k - 1, by omega⟩
  have e1 : (⟨#[46]⟩ : ByteArray) = ⟨([46] : List UInt8).toArray⟩ := rfl
  have e2 : (⟨#[45]⟩ : ByteArray) = ⟨([45] : List UInt8).toArray⟩ := rfl
  rw [dec_Print.j0, bytes_size]
  by_cases hs : s > 0
  · rw [if_pos (by omega), if_pos hs, wrap_small _ (by omega) (by omega), if_pos (by omega), if_pos (by omega), show ((P.length : Int) - (s : Int)).toNat = P.length - s from by omega]
    have e3 := bytes_drop P (P.length - s)
    rw [bytes_size] at e3
    rw [bytes_take, e3, e1, e2, bytes_app, bytes_app, bytes_app, bytes_size, bytes_size, bytes_size, bytes_size]
    have l1 : (P.take (P.length - s)).length ≤ 100 := by rw [List.length_take]; omega
    have l2 : (P.drop (P.length - s)).length ≤ 100 := by rw [List.length_drop]; omega
    have l3 : (P.take (P.length - s) ++ [46]).length ≤ 101 := by rw [List.length_append]; show _ + 1 ≤ _; omega
    have l4 : (P.take (P.length - s) ++ [46] ++ P.drop (P.length - s)).length ≤ 201 := by rw [List.length_append]; omega
    rw [if_pos (by omega), if_pos (by omega), List.append_assoc, List.singleton_append]
    rw [List.append_assoc, List.singleton_append] at l4
    by_cases hm : M < 0
    · rw [if_pos hm, if_pos hm, if_pos (by omega)]
      rfl
    · rw [if_neg hm, if_neg hm]
  · rw [if_neg (by omega), if_neg hs]
    by_cases hm : M < 0
    · rw [if_pos hm, if_pos hm, if_pos (by omega), e2, bytes_app]
      rfl
    · rw [if_neg hm, if_neg hm]
theorem print_f (M : Int) (s : Nat) (hg : Good M s) (k : Nat) (hk : 3 ≤ k) : dec_Print.f k M (s : Int) = some (⟨(printL M s).toArray⟩, 0) := by
  obtain ⟨g1, g2, g3, g4, _⟩ := id hg
  have hn : Lib.nDigits M.natAbs ≤ 18 := nd_le 17 M.natAbs (by rw [show (10 : Nat) ^ (17 + 1) = 1000000000000000000 from by decide]; omega)
  have hd := Lib.decDigits_length M.natAbs
  obtain ⟨_, _, hpl⟩ := pad_facts M.natAbs s
  have hfin := print_j0 M s (padD M.natAbs s) (by omega) (by omega) k (by omega)
  have hfmt : strconv_FormatUint.f (M.natAbs : Int) 10 = some ⟨(Lib.decDigits M.natAbs).toArray⟩ := by
    unfold strconv_FormatUint.f
    rw [if_pos ⟨rfl, by omega, by omega⟩, Int.toNat_natCast]
  unfold dec_Print.f
  rw [check_f, if_pos hg, Option.bind_some, if_pos rfl, size_f M g1 g2, Option.bind_some, hfmt, Option.bind_some, bytes_size]
  have hgoal : dec_Print.j0 k ⟨(padD M.natAbs s).toArray⟩ M (s : Int) = some (⟨(printL M s).toArray⟩, 0) := hfin
  unfold padD at hgoal
  by_cases h : (Lib.decDigits M.natAbs).length ≤ s
  · rw [if_pos (by omega)]
    rw [if_pos h] at hgoal
    have hrep : strings_Repeat.f (⟨#[48]⟩ : ByteArray) (((s - (Lib.decDigits M.natAbs).length + 1 : Nat)) : Int) = some ⟨(Lib.repeatL [48] (s - (Lib.decDigits M.natAbs).length + 1)).toArray⟩ := by
      unfold strings_Repeat.f
      rw [if_pos ⟨by omega, by omega, by decide⟩, Int.toNat_natCast]
    rw [wrap_small ((s : Int) - ((Lib.decDigits M.natAbs).length : Int)) (by omega) (by omega), wrap_small _ (by omega) (by omega), show (s : Int) - ((Lib.decDigits M.natAbs).length : Int) + 1 = ((s - (Lib.decDigits M.natAbs).length + 1 : Nat) : Int) from by omega, hrep, Option.bind_some, bytes_size, repeat_zeros, List.length_replicate, if_pos (by omega), bytes_app]
    rw [repeat_zeros] at hgoal
    exact hgoal
  · rw [if_neg (by omega)]
    rw [if_neg h] at hgoal
    exact hgoal
theorem print_bad (M s : Int) (hg : ¬ Good M s) (k : Nat) : dec_Print.f k M s = some (⟨#[]⟩, 1) := by
  unfold dec_Print.f
  rw [check_f, if_neg hg, Option.bind_some, if_neg (by decide)]
/-! printed and parsed -/
theorem index_none : ∀ (l : List UInt8), (∀ c ∈ l, c ≠ 46) → Lib.indexByte l 46 = -1
  | [], _ => rfl
  | b :: l, h => by
    rw [Lib.indexByte, if_neg (by rw [beq_iff_eq]; exact h b (List.mem_cons_self ..)), index_none l (fun c hc => h c (List.mem_cons_of_mem _ hc))]
    rfl
theorem index_app : ∀ (l r : List UInt8), (∀ c ∈ l, c ≠ 46) → Lib.indexByte (l ++ 46 :: r) 46 = l.length
  | [], _, _ => rfl
  | b :: l, r, h => by
    have ih := index_app l r (fun c hc => h c (List.mem_cons_of_mem _ hc))
    rw [List.cons_append, Lib.indexByte, if_neg (by rw [beq_iff_eq]; exact h b (List.mem_cons_self ..)), ih, if_neg (by rw [beq_iff_eq]; omega)]
    rfl
theorem dig_no_dot (l : List UInt8) (h : allDig l) : ∀ c ∈ l, c ≠ 46 := fun c hc e => by
  have := h c hc
  rw [e] at this
  exact absurd this (by decide)
theorem cut_dot (l r : List UInt8) (h : allDig l) : cutAt (l ++ 46 :: r) 46 = (l, r, true) := by
  unfold cutAt
  rw [index_app l r (dig_no_dot l h), if_pos (by omega), Int.toNat_natCast, List.take_left, List.drop_append]
  simp
theorem cut_none (l : List UInt8) (h : allDig l) : cutAt l 46 = (l, [], false) := by
  unfold cutAt
  rw [index_none l (dig_no_dot l h), if_neg (by decide)]
theorem head_dig (c : UInt8) (t : List UInt8) (h : isDig c) : headB (c :: t) = (false, c :: t) := by
  show (if c = 43 ∨ c = 45 then (decide (c = 45), t) else (false, c :: t)) = _
  rw [if_neg]
  rintro (e | e) <;> (rw [e] at h; exact absurd h (by decide))
theorem head_body (N s : Nat) : headB (bodyL N s) = (false, bodyL N s) := by
  obtain ⟨h1, h2, h3⟩ := pad_facts N s
  unfold bodyL
  cases hp : padD N s with
  | nil => rw [hp] at h3; exact absurd h3 (by show ¬ 0 = _; omega)
  | cons c t =>
    rw [hp] at h1 h3
    have hc := ((allDig_cons c t).1 h1).1
    split
    · have hl : (c :: t).length - s = ((c :: t).length - s - 1) + 1 := by omega
      rw [hl, List.take_succ_cons, List.cons_append]
      exact head_dig _ _ hc
    · exact head_dig _ _ hc
theorem cut_body (N s : Nat) : (cutAt (bodyL N s) 46).1 ++ (cutAt (bodyL N s) 46).2.1 = padD N s ∧ (cutAt (bodyL N s) 46).2.1.length = s := by
  obtain ⟨h1, h2, h3⟩ := pad_facts N s
  unfold bodyL
  by_cases h : s > 0
  · rw [if_pos h, cut_dot _ _ (fun c hc => h1 c (List.mem_of_mem_take hc))]
    refine ⟨List.take_append_drop _ _, ?_⟩
    show ((padD N s).drop _).length = s
    rw [List.length_drop]
    omega
  · rw [if_neg h, cut_none _ h1]
    exact ⟨List.append_nil _, by show 0 = s; omega⟩
theorem print_len (M : Int) (s : Nat) : (printL M s).length = (if M < 0 then 1 else 0) + (max (Lib.nDigits M.natAbs) (s + 1) + if s > 0 then 1 else 0) := by
  unfold printL
  split
  · rw [List.length_cons, body_len]
    omega
  · rw [body_len]
    omega
theorem parse_print (M : Int) (s : Nat) (hg : Good M s) : parseL (printL M s) = (M, (s : Int), 0) := by
  obtain ⟨g1, g2, g3, g4, _⟩ := id hg
  have hn : Lib.nDigits M.natAbs ≤ 18 := nd_le 17 M.natAbs (by rw [show (10 : Nat) ^ (17 + 1) = 1000000000000000000 from by decide]; omega)
  have hlen := print_len M s
  have hh : headB (printL M s) = (decide (M < 0), bodyL M.natAbs s) := by
    unfold printL
    by_cases hm : M < 0
    · rw [if_pos hm, decide_eq_true hm]
      rfl
    · rw [if_neg hm, decide_eq_false hm]
      exact head_body _ _
  obtain ⟨c1, c2⟩ := cut_body M.natAbs s
  obtain ⟨h1, h2, h3⟩ := pad_facts M.natAbs s
  unfold parseL
  rw [hh]
  dsimp only
  rw [c1, c2, if_neg, h2]
  · exact tellZ_good M s hg
  · rintro (h | h | h)
    · rw [hlen] at h
      (repeat' split at h) <;> omega
    · rw [h] at h3
      exact absurd h3 (by show ¬ 0 = _; omega)
    · exact h h1
theorem cut_len2 (l : List UInt8) : l.length = (cutAt l 46).1.length + (cutAt l 46).2.1.length + (if (cutAt l 46).2.2 then 1 else 0) ∧ ((cutAt l 46).2.1 ≠ [] → (cutAt l 46).2.2 = true) := by
  unfold cutAt
  have := indexByte_range l 46
  by_cases h : 0 ≤ Lib.indexByte l 46
  · rw [if_pos h]
    refine ⟨?_, fun _ => rfl⟩
    show l.length = (l.take _).length + (l.drop _).length + 1
    rw [List.length_take, List.length_drop]
    omega
  · rw [if_neg h]
    exact ⟨rfl, fun h => absurd rfl h⟩
theorem head_len2 (l : List UInt8) : (headB l).2.length + (if (headB l).1 then 1 else 0) ≤ l.length := by
  cases l with
  | nil => exact Nat.le_refl _
  | cons c t =>
    show (if c = 43 ∨ c = 45 then (decide (c = 45), t) else (false, c :: t)).2.length + (if (if c = 43 ∨ c = 45 then (decide (c = 45), t) else (false, c :: t)).1 = true then 1 else 0) ≤ t.length + 1
    by_cases h : c = 43 ∨ c = 45
    · rw [if_pos h]
      dsimp only
      split <;> omega
    · rw [if_neg h]
      exact Nat.le_refl _
theorem told_three (b : Bool) (v s : Nat) : told b v s = (0, 0, 5) ∨ ∃ (n u : Nat), told b v s = (if b then -(n : Int) else n, (u : Int), 0) ∧ Good (if b then -(n : Int) else n) u ∧ n * 10 ^ (s - u) = v ∧ u ≤ s := by
  obtain ⟨h1, h2, h3⟩ := strip_spec s v
  unfold told
  by_cases h : (strip v s).1 > 999999999999999999 ∨ (strip v s).2 > 9
  · exact Or.inl (if_pos h)
  · refine Or.inr ⟨_, _, if_neg h, ?_, h2, h1⟩
    refine ⟨?_, ?_, by omega, by omega, ?_⟩
    · split <;> omega
    · split <;> omega
    · split <;> omega
/-- What is parsed is right, and its shortest text is no longer; or it is refused. -/
theorem parse_three (l : List UInt8) : (∃ e, parseL l = (0, 0, e) ∧ e ≠ 0) ∨ ∃ (M : Int) (u : Nat), parseL l = (M, (u : Int), 0) ∧ Good M u ∧ (printL M u).length ≤ l.length + 1 := by
  unfold parseL
  by_cases h : l.length > 40 ∨ (cutAt (headB l).2 46).1 ++ (cutAt (headB l).2 46).2.1 = [] ∨ ¬ allDig ((cutAt (headB l).2 46).1 ++ (cutAt (headB l).2 46).2.1)
  · exact Or.inl ⟨4, if_pos h, by decide⟩
  · rw [if_neg h]
    have hd : allDig ((cutAt (headB l).2 46).1 ++ (cutAt (headB l).2 46).2.1) := Classical.not_not.1 fun n => h (Or.inr (Or.inr n))
    have hv := val_lt _ hd
    have hl1 := head_len2 l
    obtain ⟨hl2, hl3⟩ := cut_len2 (headB l).2
    obtain ⟨F, hF⟩ : ∃ x, (cutAt (headB l).2 46).1 = x := ⟨_, rfl⟩
    obtain ⟨K, hK⟩ : ∃ x, (cutAt (headB l).2 46).2.1 = x := ⟨_, rfl⟩
    obtain ⟨d, hdot⟩ : ∃ x, (cutAt (headB l).2 46).2.2 = x := ⟨_, rfl⟩
    obtain ⟨b, hb⟩ : ∃ x, (headB l).1 = x := ⟨_, rfl⟩
    rw [hF, hK] at hv
    rw [hF, hK, hdot] at hl2
    rw [hK, hdot] at hl3
    rw [hb] at hl1
    rw [hF, hK, hb]
    rcases told_three b (val (F ++ K)) K.length with h5 | ⟨n, u, h1, h2, h3, h4⟩
    · exact Or.inl ⟨5, h5, by decide⟩
    · refine Or.inr ⟨_, u, h1, h2, ?_⟩
      rw [print_len]
      have hn : n < 10 ^ (F.length + u) := by
        rw [← h3, List.length_append, show F.length + K.length = (F.length + u) + (K.length - u) from by omega, Nat.pow_add] at hv
        exact Nat.lt_of_mul_lt_mul_right hv
      have hnd : Lib.nDigits n ≤ max 1 (F.length + u) := by
        cases hq : F.length + u with
        | zero => rw [hq] at hn; rw [Lib.nDigits_small (by simpa using (show n < 10 by omega))]; omega
        | succ m => rw [hq] at hn; have := nd_le m n hn; omega
      have ha : (if b then -(n : Int) else (n : Int)).natAbs = n := by cases b <;> simp
      have hs : (if (if b then -(n : Int) else (n : Int)) < 0 then 1 else 0) ≤ (if b then 1 else 0) := by
        cases b
        · simp
        · simp
          split <;> omega
      have hdot2 : (if u > 0 then 1 else 0) ≤ (if d then 1 else 0) := by
        by_cases hu : u > 0
        · rw [hl3 (fun e => by rw [e] at h4; exact absurd h4 (by show ¬ u ≤ 0; omega))]
          simp
          split <;> omega
        · rw [if_neg hu]
          omega
      rw [ha]
      omega
end Go.Proofs.YtdkckjiccpdkbaaDoor.Plain
