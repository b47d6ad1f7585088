/- Put together: PlainText, PlainRef, PlainRef2, PlainRef3, PlainRef4, PlainRef5, PlainRef7, PlainLex, PlainTok, PlainTok3, PlainPrint, PureLexPrints, Open, Laid (each in a section of its own). -/
import Derived.Test.YtnhgnejfagncpaaDoorLot3
import Derived.Test.YtnhgnejfagncpaaDoorLot11
import Derived.Lib.IndexLaws
import Derived.Test.YtnhgnejfagncpaaDoorLot9
import Derived.Test.YtnhgnejfagncpaaDoorLot10
import Derived.Test.YtnhgnejfagncpaaDoorLot8
import Derived.ChangeSlices
import Derived.ChangeArms
import Derived.Deep.Slices
import Derived.DataReads
import Derived.WideShapes
import Derived.Test.YtnhgnejfagncpaaDoorLot0
import Derived.Test.YtnhgnejfagncpaaDoorRows
import Derived.Test.YtnhgnejfagncpaaDoorLot2
import Derived.LaidSub
import Derived.LaidMore
import Derived.Lib.LaidTab
section
namespace Go.Proofs.YtnhgnejfagncpaaDoor.Plain
open Go.RowKit Go.Proofs.YtnhgnejfagncpaaDoor.A Go.Proofs.YtnhgnejfagncpaaDoor.B Go.Proofs.YtnhgnejfagncpaaDoor.H
def isDig (c : UInt8) : Prop := 48 ≤ c.toNat ∧ c.toNat ≤ 57
instance (c : UInt8) : Decidable (isDig c) := inferInstanceAs (Decidable (_ ∧ _))
def allDig (l : List UInt8) : Prop := ∀ c ∈ l, isDig c
instance (l : List UInt8) : Decidable (allDig l) := inferInstanceAs (Decidable (∀ c ∈ l, isDig c))
theorem allDig_append (a b : List UInt8) : allDig (a ++ b) ↔ allDig a ∧ allDig b := by
  unfold allDig
  simp only [List.mem_append]
  exact ⟨fun h => ⟨fun c hc => h c (Or.inl hc), fun c hc => h c (Or.inr hc)⟩, fun h c hc => hc.elim (h.1 c) (h.2 c)⟩
theorem allDig_cons (c : UInt8) (t : List UInt8) : allDig (c :: t) ↔ isDig c ∧ allDig t := by
  unfold allDig
  simp
def valA : Nat → List UInt8 → Nat
  | n, [] => n
  | n, c :: t => valA (n * 10 + (c.toNat - 48)) t
def val (l : List UInt8) : Nat := valA 0 l
def cnt : Nat → List UInt8 → Nat
  | n, [] => n
  | n, c :: t => cnt (if n > 0 ∨ 48 < c.toNat then n + 1 else n) t
theorem valA_append : ∀ (a b : List UInt8) (n : Nat), valA n (a ++ b) = valA (valA n a) b := by
  intro a
  induction a with
  | nil => intro b n; rfl
  | cons c t ih => intro b n; exact ih b _
theorem valA_step (n d p v : Nat) : (n * 10 + d) * p + v = n * (p * 10) + ((0 * 10 + d) * p + v) := by grind
theorem valA_eq : ∀ (l : List UInt8) (n : Nat), valA n l = n * 10 ^ l.length + val l
  | [], n => by
    show n = n * 10 ^ 0 + 0
    rw [Nat.pow_zero]
    omega
  | c :: t, n => by
    have h1 : valA n (c :: t) = valA (n * 10 + (c.toNat - 48)) t := rfl
    have h2 : val (c :: t) = valA (0 * 10 + (c.toNat - 48)) t := rfl
    rw [h1, h2, valA_eq t, valA_eq t (0 * 10 + (c.toNat - 48)), List.length_cons, Nat.pow_succ]
    exact valA_step _ _ _ _
theorem val_append (a b : List UInt8) : val (a ++ b) = val a * 10 ^ b.length + val b := by
  unfold val
  rw [valA_append, valA_eq b]
  rfl
theorem val_lt : ∀ (l : List UInt8), allDig l → val l < 10 ^ l.length
  | [], _ => by decide
  | c :: t, h => by
    obtain ⟨h1, h2⟩ := (allDig_cons c t).1 h
    have ih := val_lt t h2
    have e : val (c :: t) = (c.toNat - 48) * 10 ^ t.length + val t := by
      show valA (0 * 10 + (c.toNat - 48)) t = _
      rw [valA_eq, Nat.zero_mul, Nat.zero_add]
    have h3 : (c.toNat - 48) * 10 ^ t.length ≤ 9 * 10 ^ t.length := Nat.mul_le_mul_right _ (by unfold isDig at h1; omega)
    rw [e, List.length_cons, Nat.pow_succ]
    omega
theorem cnt_pos : ∀ (l : List UInt8) (n : Nat), 0 < n → cnt n l = n + l.length
  | [], _, _ => rfl
  | c :: t, n, h => by
    show cnt (if n > 0 ∨ 48 < c.toNat then n + 1 else n) t = _
    rw [if_pos (Or.inl h), cnt_pos t (n + 1) (by omega), List.length_cons]
    omega
theorem cnt_zero : ∀ (l : List UInt8), allDig l → val l < 10 ^ cnt 0 l ∧ (0 < cnt 0 l → 10 ^ (cnt 0 l - 1) ≤ val l)
  | [], _ => ⟨by decide, fun h => absurd h (by decide)⟩
  | c :: t, h => by
    obtain ⟨h1, h2⟩ := (allDig_cons c t).1 h
    have e : val (c :: t) = (c.toNat - 48) * 10 ^ t.length + val t := by
      show valA (0 * 10 + (c.toNat - 48)) t = _
      rw [valA_eq, Nat.zero_mul, Nat.zero_add]
    by_cases hc : 48 < c.toNat
    · have e2 : cnt 0 (c :: t) = t.length + 1 := by
        show cnt (if 0 > 0 ∨ 48 < c.toNat then 0 + 1 else 0) t = _
        rw [if_pos (Or.inr hc), cnt_pos t 1 (by decide)]
        omega
      rw [e2]
      refine ⟨val_lt (c :: t) h, fun _ => ?_⟩
      have h3 : 1 * 10 ^ t.length ≤ (c.toNat - 48) * 10 ^ t.length := Nat.mul_le_mul_right _ (by omega)
      rw [e, Nat.add_sub_cancel]
      omega
    · have e2 : cnt 0 (c :: t) = cnt 0 t := by
        show cnt (if 0 > 0 ∨ 48 < c.toNat then 0 + 1 else 0) t = _
        rw [if_neg (by omega)]
      rw [e2, e, show c.toNat - 48 = 0 from by omega, Nat.zero_mul, Nat.zero_add]
      exact cnt_zero t h2
theorem cnt_18 (l : List UInt8) (h : allDig l) : cnt 0 l ≤ 18 ↔ val l ≤ 999999999999999999 := by
  obtain ⟨h1, h2⟩ := cnt_zero l h
  constructor
  · intro hc
    have : 10 ^ cnt 0 l ≤ 10 ^ 18 := Nat.pow_le_pow_right (by decide) hc
    have e : (10 : Nat) ^ 18 = 1000000000000000000 := by decide
    omega
  · intro hv
    refine Classical.byContradiction fun hc => ?_
    have h3 := h2 (by omega)
    have : 10 ^ 18 ≤ 10 ^ (cnt 0 l - 1) := Nat.pow_le_pow_right (by decide) (by omega)
    have e : (10 : Nat) ^ 18 = 1000000000000000000 := by decide
    omega
theorem digs_none : ∀ (l : List UInt8) (m n e : Int), ¬ allDig l → digs l m n e = none
  | [], _, _, _, h => absurd (fun c hc => by cases hc) h
  | c :: t, m, n, e, h => by
    rw [digs]
    by_cases hc : (c.toNat : Int) < 48 ∨ 57 < (c.toNat : Int)
    · rw [if_pos hc]
    · rw [if_neg hc]
      have ht : ¬ allDig t := fun ht => h ((allDig_cons c t).2 ⟨⟨by omega, by omega⟩, ht⟩)
      dsimp only
      (repeat' split) <;> exact digs_none t _ _ _ ht
theorem digs_far : ∀ (l : List UInt8) (m : Int) (n : Nat), allDig l → 18 < n → digs l m (n : Int) 5 = some (m, ((n + l.length : Nat) : Int), 5)
  | [], _, _, _, _ => rfl
  | c :: t, m, n, h, hn => by
    obtain ⟨h1, h2⟩ := (allDig_cons c t).1 h
    rw [digs, if_neg (by unfold isDig at h1; omega)]
    dsimp only
    rw [if_pos (Or.inl (by omega)), if_pos (by omega)]
    have := digs_far t m (n + 1) h2 (by omega)
    rw [Int.natCast_add] at this
    refine this.trans ?_
    rw [List.length_cons, show n + 1 + t.length = n + (t.length + 1) from by omega]
theorem digs_all : ∀ (l : List UInt8) (m n : Nat), allDig l → n ≤ 18 →
    (cnt n l ≤ 18 → digs l (m : Int) (n : Int) 0 = some ((valA m l : Int), (cnt n l : Int), 0)) ∧ (18 < cnt n l → ∃ m', digs l (m : Int) (n : Int) 0 = some (m', (cnt n l : Int), 5))
  | [], m, n, _, hn => ⟨fun _ => rfl, fun h => absurd h (by show ¬ 18 < n; omega)⟩
  | c :: t, m, n, h, hn => by
    obtain ⟨h1, h2⟩ := (allDig_cons c t).1 h
    have e1 : digs (c :: t) (m : Int) (n : Int) 0 = if ((if n > 0 ∨ 48 < c.toNat then n + 1 else n : Nat) : Int) > 18 then digs t m ((if n > 0 ∨ 48 < c.toNat then n + 1 else n : Nat) : Int) 5 else digs t ((m * 10 + (c.toNat - 48) : Nat) : Int) ((if n > 0 ∨ 48 < c.toNat then n + 1 else n : Nat) : Int) 0 := by
      rw [digs, if_neg (by unfold isDig at h1; omega)]
      dsimp only
      have e2 : (if (n : Int) > 0 ∨ 48 < (c.toNat : Int) then (n : Int) + 1 else (n : Int)) = ((if n > 0 ∨ 48 < c.toNat then n + 1 else n : Nat) : Int) := by
        by_cases hq : n > 0 ∨ 48 < c.toNat
        · rw [if_pos hq, if_pos (by omega)]; rfl
        · rw [if_neg hq, if_neg (by omega)]
      rw [e2, show (m : Int) * 10 + ((c.toNat : Int) - 48) = ((m * 10 + (c.toNat - 48) : Nat) : Int) from by unfold isDig at h1; omega]
    rw [e1]
    show (cnt (if n > 0 ∨ 48 < c.toNat then n + 1 else n) t ≤ 18 → _ = some ((valA (m * 10 + (c.toNat - 48)) t : Int), (cnt (if n > 0 ∨ 48 < c.toNat then n + 1 else n) t : Int), 0)) ∧ (18 < cnt (if n > 0 ∨ 48 < c.toNat then n + 1 else n) t → ∃ m', _ = some (m', (cnt (if n > 0 ∨ 48 < c.toNat then n + 1 else n) t : Int), 5))
    obtain ⟨n', hn'⟩ : ∃ x, (if n > 0 ∨ 48 < c.toNat then n + 1 else n) = x := ⟨_, rfl⟩
    rw [hn']
    by_cases h18 : n' ≤ 18
    · rw [if_neg (by omega)]
      exact digs_all t (m * 10 + (c.toNat - 48)) n' h2 h18
    · rw [if_pos (by omega), digs_far t m n' h2 (by omega), cnt_pos t n' (by omega)]
      exact ⟨fun h => absurd h (by omega), fun _ => ⟨_, rfl⟩⟩
theorem dropZ (l : List UInt8) : ∃ j, l = List.replicate j 48 ++ l.dropWhile (· == 48) := by
  induction l with
  | nil => exact ⟨0, rfl⟩
  | cons c t ih =>
    by_cases h : (c == 48) = true
    · obtain ⟨j, hj⟩ := ih
      have h2 : c = 48 := by simpa using h
      subst h2
      refine ⟨j + 1, ?_⟩
      rw [List.dropWhile_cons_of_pos (p := (· == 48)) h, List.replicate_succ, List.cons_append, ← hj]
    · exact ⟨0, by rw [List.dropWhile_cons_of_neg (p := (· == 48)) h]; rfl⟩
theorem val_zeros : ∀ j, val (List.replicate j 48) = 0
  | 0 => rfl
  | j + 1 => by
    rw [List.replicate_succ]
    show valA (0 * 10 + ((48 : UInt8).toNat - 48)) _ = 0
    exact val_zeros j
theorem allDig_zeros (j : Nat) : allDig (List.replicate j 48) := fun c hc => by
  rw [List.eq_of_mem_replicate hc]
  decide
theorem trimL (l : List UInt8) : ∃ j, l = List.replicate j 48 ++ Lib.trimLeftB l 48 := dropZ l
theorem trimR (l : List UInt8) : ∃ j, l = Lib.trimRightB l 48 ++ List.replicate j 48 := by
  obtain ⟨j, hj⟩ := dropZ l.reverse
  refine ⟨j, ?_⟩
  have := congrArg List.reverse hj
  rw [List.reverse_reverse, List.reverse_append, List.reverse_replicate] at this
  exact this
theorem trimR_last (l : List UInt8) (h : allDig l) (a : List UInt8) : Lib.trimRightB l 48 = [] ∨ val (a ++ Lib.trimRightB l 48) % 10 ≠ 0 := by
  unfold Lib.trimRightB
  have hm : ∀ c ∈ l.reverse.dropWhile (· == 48), isDig c := fun c hc => h c (List.mem_reverse.1 ((List.dropWhile_suffix _).subset hc))
  cases hq : l.reverse.dropWhile (· == 48) with
  | nil => exact Or.inl rfl
  | cons c t =>
    refine Or.inr ?_
    have hc : ¬ (c == 48) = true := by
      have := List.head?_dropWhile_not (· == 48) l.reverse
      rw [hq] at this
      simpa using this
    rw [hq] at hm
    have hd := hm c (List.mem_cons_self ..)
    have hne : c.toNat ≠ 48 := fun e => hc (by rw [beq_iff_eq]; exact UInt8.toNat_inj.1 e)
    rw [List.reverse_cons, ← List.append_assoc, val_append]
    show (val (a ++ t.reverse) * 10 ^ 1 + valA (0 * 10 + (c.toNat - 48)) []) % 10 ≠ 0
    show (val (a ++ t.reverse) * 10 ^ 1 + (0 * 10 + (c.toNat - 48))) % 10 ≠ 0
    unfold isDig at hd
    omega
theorem told_zeros (b : Bool) (N s j : Nat) : told b (N * 10 ^ j) (s + j) = told b N s := by
  unfold told
  rw [strip_mul]
def parseL (l : List UInt8) : Int × Int × Int :=
  if l.length > 40 ∨ (cutAt (headB l).2 46).1 ++ (cutAt (headB l).2 46).2.1 = [] ∨ ¬ allDig ((cutAt (headB l).2 46).1 ++ (cutAt (headB l).2 46).2.1) then (0, 0, 4)
  else told (headB l).1 (val ((cutAt (headB l).2 46).1 ++ (cutAt (headB l).2 46).2.1)) (cutAt (headB l).2 46).2.1.length
theorem told_far (b : Bool) (v s : Nat) (h : s = 0 ∨ v % 10 ≠ 0) (hf : v > 999999999999999999 ∨ s > 9) : told b v s = (0, 0, 5) := by
  unfold told
  rw [strip_good v s h, if_pos hf]
theorem parseDigs_f (b : Bool) (F K : List UInt8) (hK : K.length ≤ 41) (k : Nat) (hk : 60 ≤ k) :
    parseDigs k b (Lib.trimLeftB F 48) (Lib.trimRightB K 48) = some (if ¬ allDig (F ++ K) then (0, 0, 4) else told b (val (F ++ K)) K.length) := by
  obtain ⟨i, hi⟩ := trimL F
  obtain ⟨j, hj⟩ := trimR K
  have hiff : allDig (F ++ K) ↔ allDig (Lib.trimLeftB F 48 ++ Lib.trimRightB K 48) := by
    rw [allDig_append, allDig_append]
    constructor
    · intro h
      rw [hi, hj] at h
      exact ⟨((allDig_append _ _).1 h.1).2, ((allDig_append _ _).1 h.2).1⟩
    · intro h
      rw [hi, hj]
      exact ⟨(allDig_append _ _).2 ⟨allDig_zeros _, h.1⟩, (allDig_append _ _).2 ⟨h.2, allDig_zeros _⟩⟩
  have hlK : K.length = (Lib.trimRightB K 48).length + j := by
    have := congrArg List.length hj
    rw [List.length_append, List.length_replicate] at this
    exact this
  have hval : val (F ++ K) = val (Lib.trimLeftB F 48 ++ Lib.trimRightB K 48) * 10 ^ j := by
    have h1 : F ++ K = List.replicate i 48 ++ ((Lib.trimLeftB F 48 ++ Lib.trimRightB K 48) ++ List.replicate j 48) := by
      rw [← List.append_assoc, ← List.append_assoc, List.append_assoc (List.replicate i 48 ++ _), ← hi, ← hj]
    rw [h1, val_append, val_zeros, Nat.zero_mul, Nat.zero_add, val_append, val_zeros, List.length_replicate, Nat.add_zero]
  unfold parseDigs
  by_cases hd : allDig (Lib.trimLeftB F 48 ++ Lib.trimRightB K 48)
  · rw [if_neg (by rw [Classical.not_not]; exact hiff.2 hd), hval, hlK, told_zeros]
    have hlast := trimR_last K ((allDig_append _ _).1 (hiff.2 hd)).2 (Lib.trimLeftB F 48)
    obtain ⟨L, hL⟩ : ∃ x, Lib.trimLeftB F 48 ++ Lib.trimRightB K 48 = x := ⟨_, rfl⟩
    have hlast' : (Lib.trimRightB K 48).length = 0 ∨ val L % 10 ≠ 0 := by
      rw [← hL]
      exact hlast.imp (fun h => by rw [h]; rfl) id
    rw [hL] at hd
    rw [hL]
    obtain ⟨d1, d2⟩ := digs_all L 0 0 hd (by decide)
    have h18 := cnt_18 L hd
    by_cases hc : cnt 0 L ≤ 18
    · have e := d1 hc
      rw [show ((0 : Nat) : Int) = 0 from rfl] at e
      rw [e]
      dsimp only
      by_cases h9 : (Lib.trimRightB K 48).length > 9
      · rw [if_pos (Or.inr h9), told_far _ _ _ hlast' (Or.inr h9)]
      · rw [if_neg (fun h => h.elim (fun h => h rfl) h9)]
        have hv := h18.1 hc
        have ht := tell_f b (Lib.trimRightB K 48).length (val L) k (by omega) (by omega) (by omega)
        rw [show val L / 18446744073709551616 = 0 from by omega, show val L % 18446744073709551616 = val L from by omega] at ht
        exact ht
    · obtain ⟨m', e⟩ := d2 (by omega)
      rw [show ((0 : Nat) : Int) = 0 from rfl] at e
      rw [e]
      dsimp only
      rw [if_pos (Or.inl (by decide)), told_far _ _ _ hlast' (Or.inl (by omega))]
  · rw [digs_none _ _ _ _ hd, if_pos (fun h => hd (hiff.1 h))]
theorem parse_f (t : ByteArray) (k : Nat) (hk : 60 ≤ k) : dec_Parse.f k t = some (parseL t.data.toList) := by
  unfold dec_Parse.f parseL
  have hs : t.size = t.data.toList.length := Array.length_toList.symm
  by_cases h1 : t.size > 40
  · rw [if_pos h1, if_pos (Or.inl (by omega))]
  · rw [if_neg h1]
    dsimp only
    have hl := headB_len t.data.toList
    have hl2 := (cutAt_len (headB t.data.toList).2 46).2
    by_cases h2 : (cutAt (headB t.data.toList).2 46).1 ++ (cutAt (headB t.data.toList).2 46).2.1 = []
    · rw [if_pos h2, if_pos (Or.inr (Or.inl h2))]
    · rw [if_neg h2, parseDigs_f _ _ _ (by omega) k hk]
      by_cases h3 : ¬ allDig ((cutAt (headB t.data.toList).2 46).1 ++ (cutAt (headB t.data.toList).2 46).2.1)
      · rw [if_pos h3, if_pos (Or.inr (Or.inr h3))]
      · rw [if_neg h3, if_neg (by intro h; rcases h with h | h | h; exact absurd h (by omega); exact h2 h; exact h3 h)]
theorem nd_le : ∀ (k N : Nat), N < 10 ^ (k + 1) → Lib.nDigits N ≤ k + 1
  | 0, N, h => by rw [Lib.nDigits_small (by simpa using h)]; omega
  | k + 1, N, h => by
    by_cases h10 : N < 10
    · rw [Lib.nDigits_small h10]; omega
    · rw [Lib.nDigits_big h10]
      have h2 : N / 10 < 10 ^ (k + 1) := by rw [Nat.pow_succ] at h; omega
      have := nd_le k (N / 10) h2
      omega
theorem toNat_dig (d : Nat) (h : d < 10) : (UInt8.ofNat (48 + d)).toNat = 48 + d := by
  rw [UInt8.toNat_ofNat']
  omega
theorem dec_dig : ∀ (n N : Nat), N ≤ n → allDig (Lib.decDigits N) ∧ val (Lib.decDigits N) = N := by
  intro n
  induction n with
  | zero =>
    intro N h
    obtain rfl : N = 0 := by omega
    rw [Lib.decDigits_one (by decide)]
    exact ⟨by decide, by decide⟩
  | succ n ih =>
    intro N h
    by_cases h10 : N < 10
    · rw [Lib.decDigits_one h10]
      have e := toNat_dig N h10
      refine ⟨fun c hc => ?_, ?_⟩
      · rw [List.mem_singleton.1 hc]
        unfold isDig
        omega
      · show 0 * 10 + ((UInt8.ofNat (48 + N)).toNat - 48) = N
        omega
    · obtain ⟨i1, i2⟩ := ih (N / 10) (by omega)
      have e := toNat_dig (N % 10) (by omega)
      rw [Lib.decDigits, dif_neg h10]
      refine ⟨(allDig_append _ _).2 ⟨i1, fun c hc => ?_⟩, ?_⟩
      · rw [List.mem_singleton.1 hc]
        unfold isDig
        omega
      · rw [val_append, i2]
        show N / 10 * 10 ^ 1 + (0 * 10 + ((UInt8.ofNat (48 + N % 10)).toNat - 48)) = N
        omega
def padD (N s : Nat) : List UInt8 := if (Lib.decDigits N).length ≤ s then Lib.repeatL [48] (s - (Lib.decDigits N).length + 1) ++ Lib.decDigits N else Lib.decDigits N
theorem repeat_zeros : ∀ n, Lib.repeatL [48] n = List.replicate n 48
  | 0 => rfl
  | n + 1 => by rw [Lib.repeatL, repeat_zeros n]; rfl
theorem pad_facts (N s : Nat) : allDig (padD N s) ∧ val (padD N s) = N ∧ (padD N s).length = max (Lib.nDigits N) (s + 1) := by
  obtain ⟨h1, h2⟩ := dec_dig N N (Nat.le_refl _)
  have h3 := Lib.decDigits_length N
  unfold padD
  by_cases h : (Lib.decDigits N).length ≤ s
  · rw [if_pos h, repeat_zeros]
    refine ⟨(allDig_append _ _).2 ⟨allDig_zeros _, h1⟩, ?_, ?_⟩
    · rw [val_append, val_zeros, h2]
      omega
    · rw [List.length_append, List.length_replicate]
      omega
  · rw [if_neg h]
    exact ⟨h1, h2, by omega⟩
def bodyL (N s : Nat) : List UInt8 := if s > 0 then (padD N s).take ((padD N s).length - s) ++ 46 :: (padD N s).drop ((padD N s).length - s) else padD N s
def printL (M : Int) (s : Nat) : List UInt8 := if M < 0 then 45 :: bodyL M.natAbs s else bodyL M.natAbs s
theorem bytes_take (P : List UInt8) (i : Nat) : (⟨P.toArray⟩ : ByteArray).extract 0 i = ⟨(P.take i).toArray⟩ := by
  apply ByteArray.ext
  simp
theorem bytes_drop (P : List UInt8) (i : Nat) : (⟨P.toArray⟩ : ByteArray).extract i (⟨P.toArray⟩ : ByteArray).size = ⟨(P.drop i).toArray⟩ := by
  apply ByteArray.ext
  simp only [ByteArray.data_extract, ByteArray.size, List.size_toArray, List.extract_toArray, List.extract_eq_take_drop]
  rw [List.take_of_length_le (by rw [List.length_drop]; exact Nat.le_refl _)]
theorem bytes_app (P Q : List UInt8) : (⟨P.toArray⟩ : ByteArray) ++ (⟨Q.toArray⟩ : ByteArray) = ⟨(P ++ Q).toArray⟩ := by
  apply ByteArray.ext
  simp
theorem bytes_size (P : List UInt8) : (⟨P.toArray⟩ : ByteArray).size = P.length := by simp [ByteArray.size]
theorem print_j0 (M : Int) (s : Nat) (P : List UInt8) (hP : s ≤ P.length) (hl : P.length ≤ 100) (k : Nat) (hk : 1 ≤ k) :
    dec_Print.j0 k ⟨P.toArray⟩ M (s : Int) = some (⟨(if M < 0 then 45 :: (if s > 0 then P.take (P.length - s) ++ 46 :: P.drop (P.length - s) else P) else (if s > 0 then P.take (P.length - s) ++ 46 :: P.drop (P.length - s) else P)).toArray⟩, 0) := by
  obtain ⟨k, rfl⟩ : ∃ m, k = m + 1 := ⟨k - 1, by omega⟩
  have e1 : (⟨#[46]⟩ : ByteArray) = ⟨([46] : List UInt8).toArray⟩ := rfl
  have e2 : (⟨#[45]⟩ : ByteArray) = ⟨([45] : List UInt8).toArray⟩ := rfl
  rw [dec_Print.j0, bytes_size]
  by_cases hs : s > 0
  · rw [if_pos (by omega), if_pos hs, wrap_small _ (by omega) (by omega), if_pos (by omega), if_pos (by omega), show ((P.length : Int) - (s : Int)).toNat = P.length - s from by omega]
    have e3 := bytes_drop P (P.length - s)
    rw [bytes_size] at e3
    rw [bytes_take, e3, e1, e2, bytes_app, bytes_app, bytes_app, bytes_size, bytes_size, bytes_size, bytes_size]
    have l1 : (P.take (P.length - s)).length ≤ 100 := by rw [List.length_take]; omega
    have l2 : (P.drop (P.length - s)).length ≤ 100 := by rw [List.length_drop]; omega
    have l3 : (P.take (P.length - s) ++ [46]).length ≤ 101 := by rw [List.length_append]; show _ + 1 ≤ _; omega
    have l4 : (P.take (P.length - s) ++ [46] ++ P.drop (P.length - s)).length ≤ 201 := by rw [List.length_append]; omega
    rw [if_pos (by omega), if_pos (by omega), List.append_assoc, List.singleton_append]
    rw [List.append_assoc, List.singleton_append] at l4
    by_cases hm : M < 0
    · rw [if_pos hm, if_pos hm, if_pos (by omega)]
      rfl
    · rw [if_neg hm, if_neg hm]
  · rw [if_neg (by omega), if_neg hs]
    by_cases hm : M < 0
    · rw [if_pos hm, if_pos hm, if_pos (by omega), e2, bytes_app]
      rfl
    · rw [if_neg hm, if_neg hm]
theorem print_f (M : Int) (s : Nat) (hg : Good M s) (k : Nat) (hk : 3 ≤ k) : dec_Print.f k M (s : Int) = some (⟨(printL M s).toArray⟩, 0) := by
  obtain ⟨g1, g2, g3, g4, _⟩ := id hg
  have hn : Lib.nDigits M.natAbs ≤ 18 := nd_le 17 M.natAbs (by rw [show (10 : Nat) ^ (17 + 1) = 1000000000000000000 from by decide]; omega)
  have hd := Lib.decDigits_length M.natAbs
  obtain ⟨_, _, hpl⟩ := pad_facts M.natAbs s
  have hfin := print_j0 M s (padD M.natAbs s) (by omega) (by omega) k (by omega)
  have hfmt : strconv_FormatUint.f (M.natAbs : Int) 10 = some ⟨(Lib.decDigits M.natAbs).toArray⟩ := by
    unfold strconv_FormatUint.f
    rw [if_pos ⟨rfl, by omega, by omega⟩, Int.toNat_natCast]
  unfold dec_Print.f
  rw [check_f, if_pos hg, Option.bind_some, if_pos rfl, size_f M g1 g2, Option.bind_some, hfmt, Option.bind_some, bytes_size]
  have hgoal : dec_Print.j0 k ⟨(padD M.natAbs s).toArray⟩ M (s : Int) = some (⟨(printL M s).toArray⟩, 0) := hfin
  unfold padD at hgoal
  by_cases h : (Lib.decDigits M.natAbs).length ≤ s
  · rw [if_pos (by omega)]
    rw [if_pos h] at hgoal
    have hrep : strings_Repeat.f (⟨#[48]⟩ : ByteArray) (((s - (Lib.decDigits M.natAbs).length + 1 : Nat)) : Int) = some ⟨(Lib.repeatL [48] (s - (Lib.decDigits M.natAbs).length + 1)).toArray⟩ := by
      unfold strings_Repeat.f
      rw [if_pos ⟨by omega, by omega, by decide⟩, Int.toNat_natCast]
    rw [wrap_small ((s : Int) - ((Lib.decDigits M.natAbs).length : Int)) (by omega) (by omega), wrap_small _ (by omega) (by omega), show (s : Int) - ((Lib.decDigits M.natAbs).length : Int) + 1 = ((s - (Lib.decDigits M.natAbs).length + 1 : Nat) : Int) from by omega, hrep, Option.bind_some, bytes_size, repeat_zeros, List.length_replicate, if_pos (by omega), bytes_app]
    rw [repeat_zeros] at hgoal
    exact hgoal
  · rw [if_neg (by omega)]
    rw [if_neg h] at hgoal
    exact hgoal
end Go.Proofs.YtnhgnejfagncpaaDoor.Plain
end
section
namespace Go.Proofs.YtnhgnejfagncpaaDoor.Plain
open Go.RowKit Go.Proofs.YtnhgnejfagncpaaDoorW.PrintWords Go.Proofs.YtnhgnejfagncpaaDoor.A Go.Proofs.YtnhgnejfagncpaaDoor.B Go.Proofs.YtnhgnejfagncpaaDoor.H Go.Proofs.YtnhgnejfagncpaaDoor.E
theorem wsm (n : Int) (h0 : -9223372036854775808 ≤ n) (h1 : n < 9223372036854775808) : wrap64 n = n := by
  unfold wrap64
  omega
def rv : List Nat → Nat
  | [] => 0
  | d :: t => d + 10 * rv t
def okD (D : List Nat) : Prop := ∀ d ∈ D, d ≤ 9
def dIs (D : List Nat) : List Int := D.map (fun d : Nat => (d : Int))
theorem dIs_len (D : List Nat) : (dIs D).length = D.length := List.length_map ..
theorem dIs_app (D E : List Nat) : dIs (D ++ E) = dIs D ++ dIs E := List.map_append ..
theorem dIs_rd (D : List Nat) (i d : Nat) (h : D[i]? = some d) : rd (dIs D) (i : Int) = (d : Int) := by
  unfold rd dIs
  rw [Int.toNat_natCast, List.getD_eq_getElem?_getD, List.getElem?_map, h]
  rfl
theorem rv_app : ∀ (D E : List Nat), rv (D ++ E) = rv D + 10 ^ D.length * rv E
  | [], E => by show rv E = 0 + 10 ^ 0 * rv E; omega
  | d :: t, E => by
    show d + 10 * rv (t ++ E) = d + 10 * rv t + 10 ^ (t.length + 1) * rv E
    rw [rv_app t E, Nat.pow_succ]
    grind
theorem rv_lt : ∀ (D : List Nat), okD D → rv D < 10 ^ D.length
  | [], _ => by decide
  | d :: t, h => by
    have ih := rv_lt t (fun x hx => h x (List.mem_cons_of_mem _ hx))
    have hd := h d (List.mem_cons_self ..)
    show d + 10 * rv t < 10 ^ (t.length + 1)
    rw [Nat.pow_succ]
    omega
def fin (b : Bool) (N s : Nat) : Int × Int × Int := if N > 999999999999999999 ∨ s > 9 then (0, 0, 5) else (if b then -(N : Int) else (N : Int), (s : Int), 0)
theorem p18 : (10 : Nat) ^ 18 = 1000000000000000000 := by decide
theorem l2_f (b : Bool) (D : List Nat) (hD : okD D) (hl : D.length ≤ 18) (s : Int) (x1 : List Int) (x2 : Int) : ∀ (i m k : Nat), i ≤ D.length → m * 10 ^ i + rv (D.take i) ≤ 999999999999999999 → i + 1 ≤ k →
    erasureref01_told.l2 k (dIs D) s (m : Int) ((i : Int) - 1) b x1 x2 = some (if b then -((m * 10 ^ i + rv (D.take i) : Nat) : Int) else ((m * 10 ^ i + rv (D.take i) : Nat) : Int), s, 0) := by
  intro i
  induction i with
  | zero =>
    intro m k hi hN hk
    obtain ⟨k, rfl⟩ : ∃ q, k = q + 1 := ⟨k - 1, by omega⟩
    have e : m * 10 ^ 0 + rv (D.take 0) = m := by show m * 1 + 0 = m; omega
    rw [e] at hN
    rw [e, erasureref01_told.l2, if_neg (by omega)]
    cases b
    · rfl
    · rw [if_pos rfl, if_pos rfl, wsm _ (by omega) (by omega)]
  | succ i ih =>
    intro m k hi hN hk
    obtain ⟨k, rfl⟩ : ∃ q, k = q + 1 := ⟨k - 1, by omega⟩
    obtain ⟨d, hd⟩ : ∃ d, D[i]? = some d := ⟨D[i]'(by omega), List.getElem?_eq_getElem (by omega)⟩
    have hd9 : d ≤ 9 := hD d (List.mem_of_getElem? hd)
    have ht : D.take (i + 1) = D.take i ++ [d] := by rw [List.take_add_one, hd]; rfl
    have hr : rv (D.take (i + 1)) = rv (D.take i) + 10 ^ i * d := by
      rw [ht, rv_app, List.length_take, Nat.min_eq_left (by omega)]
      show _ + 10 ^ i * (d + 10 * 0) = _
      rw [Nat.mul_zero, Nat.add_zero]
    have hv : m * 10 ^ (i + 1) + rv (D.take (i + 1)) = (m * 10 + d) * 10 ^ i + rv (D.take i) := by
      rw [hr, Nat.pow_succ]
      grind
    rw [hv] at hN
    have hp : 1 ≤ 10 ^ i := Nat.one_le_pow _ _ (by decide)
    have hb : (m * 10 + d) * 1 ≤ (m * 10 + d) * 10 ^ i := Nat.mul_le_mul_left _ hp
    rw [hv, erasureref01_told.l2, if_pos (by omega), if_pos (by omega), dIs_len, if_pos (by omega), show ((i + 1 : Nat) : Int) - 1 = (i : Int) from by omega, dIs_rd D i d hd, wsm (10 * (m : Int)) (by omega) (by omega), wsm (10 * (m : Int) + (d : Int)) (by omega) (by omega), wsm ((i : Int) - 1) (by omega) (by omega), show 10 * (m : Int) + (d : Int) = ((m * 10 + d : Nat) : Int) from by omega]
    exact ih (m * 10 + d) k (by omega) hN (by omega)
theorem j3_f (b : Bool) (D : List Nat) (hD : okD D) (s : Nat) (hbig : D.length > 18 → rv D > 999999999999999999) (hs : s ≤ 1000) (x1 : List Int) (x2 : Int) (k : Nat) (hk : 24 ≤ k) (hl : D.length ≤ 1000) :
    erasureref01_told.j3 k (dIs D) (s : Int) b x1 x2 = some (fin b (rv D) s) := by
  obtain ⟨k, rfl⟩ : ∃ q, k = q + 2 := ⟨k - 2, by omega⟩
  unfold fin
  rw [erasureref01_told.j3, dIs_len]
  by_cases h18 : D.length > 18
  · rw [if_pos (by omega), erasureref01_told.j4, if_pos rfl, if_pos (Or.inl (hbig h18))]
  · rw [if_neg (by omega), erasureref01_told.j4]
    have hlt := rv_lt D hD
    have hpw : 10 ^ D.length ≤ 10 ^ 18 := Nat.pow_le_pow_right (by decide) (by omega)
    rw [p18] at hpw
    by_cases h9 : s > 9
    · rw [if_pos (by rw [decide_eq_true_iff]; omega), if_pos (Or.inr h9)]
    · rw [if_neg (by rw [decide_eq_true_iff]; omega), if_neg (by omega), dIs_len, wsm _ (by omega) (by omega)]
      have h := l2_f b D hD (by omega) s x1 x2 D.length 0 k (Nat.le_refl _) (by rw [List.take_length, Nat.zero_mul]; omega) (by omega)
      rw [List.take_length, Nat.zero_mul, Nat.zero_add] at h
      exact h
theorem l1_f (b : Bool) (s : Nat) (hs : s ≤ 1000) (x1 : List Int) (x2 : Int) : ∀ (n : Nat) (D : List Nat) (k : Nat), D.length = n → okD D → n ≤ 1000 → n + 25 ≤ k →
    erasureref01_told.l1 k (dIs D) (s : Int) b x1 x2 = some (fin b (rv D) s) := by
  intro n
  induction n with
  | zero =>
    intro D k hn hD hl hk
    obtain ⟨k, rfl⟩ : ∃ q, k = q + 1 := ⟨k - 1, by omega⟩
    rw [erasureref01_told.l1, dIs_len, if_neg (by omega)]
    exact j3_f b D hD s (by omega) hs x1 x2 k (by omega) (by omega)
  | succ n ih =>
    intro D k hn hD hl hk
    obtain ⟨k, rfl⟩ : ∃ q, k = q + 1 := ⟨k - 1, by omega⟩
    rcases List.eq_nil_or_concat D with rfl | ⟨E, d, rfl⟩
    · exact absurd hn (by show ¬ 0 = _; omega)
    · rw [List.concat_eq_append] at hn hD ⊢
      rw [List.length_append] at hn
      have hE : E.length = n := by simp at hn; exact hn
      have hat : (E ++ [d])[n]? = some d := by rw [← hE]; simp
      have hrd := dIs_rd (E ++ [d]) n d hat
      have hlen : (E ++ [d]).length = n + 1 := by rw [List.length_append, hE]; rfl
      rw [erasureref01_told.l1, dIs_len, hlen, if_pos (by omega), wsm _ (by omega) (by omega), if_pos (by omega), if_pos (by omega), show ((n + 1 : Nat) : Int) - 1 = (n : Int) from by omega, hrd]
      by_cases h0 : d = 0
      · have ht : (dIs (E ++ [d])).take (n : Int).toNat = dIs E := by
          rw [Int.toNat_natCast, dIs_app, ← hE, ← dIs_len E, List.take_left]
        have hv : rv (E ++ [d]) = rv E := by rw [rv_app, h0]; show rv E + 10 ^ E.length * (0 + 10 * 0) = rv E; omega
        rw [if_pos (by omega), if_pos (by omega), ht, hv]
        exact ih E k hE (fun x hx => hD x (List.mem_append_left _ hx)) (by omega) (by omega)
      · rw [if_neg (by omega)]
        refine j3_f b (E ++ [d]) hD s (fun h18 => ?_) hs x1 x2 k (by omega) (by omega)
        rw [rv_app]
        have hp : 10 ^ 18 ≤ 10 ^ E.length := Nat.pow_le_pow_right (by decide) (by omega)
        rw [p18] at hp
        show rv E + 10 ^ E.length * (d + 10 * 0) > _
        have h1 : 10 ^ E.length * 1 ≤ 10 ^ E.length * (d + 10 * 0) := Nat.mul_le_mul_left _ (by omega)
        omega
theorem told_fin (b : Bool) (N s : Nat) (h : s = 0 ∨ N % 10 ≠ 0) : told b N s = fin b N s := by
  unfold told fin
  rw [strip_good N s h]
theorem l0_f (b : Bool) (x1 : List Int) (x2 : Int) : ∀ (s : Nat) (D : List Nat) (k : Nat), s ≤ 1000 → D.length ≤ 1000 → okD D → 2 * s + D.length + 40 ≤ k →
    erasureref01_told.l0 k (dIs D) (s : Int) b x1 x2 = some (told b (rv D) s) := by
  intro s
  induction s with
  | zero =>
    intro D k hs hl hD hk
    obtain ⟨k, rfl⟩ : ∃ q, k = q + 2 := ⟨k - 2, by omega⟩
    rw [erasureref01_told.l0, if_neg (by decide), erasureref01_told.j1, if_neg (by decide), told_fin b _ 0 (Or.inl rfl)]
    exact l1_f b 0 (by decide) x1 x2 D.length D k rfl hD hl (by omega)
  | succ s ih =>
    intro D k hs hl hD hk
    obtain ⟨k, rfl⟩ : ∃ q, k = q + 2 := ⟨k - 2, by omega⟩
    rw [erasureref01_told.l0, if_pos (by omega)]
    cases D with
    | nil =>
      have hd : erasureref01_digit.f (dIs []) 0 = some 0 := rfl
      rw [hd, Option.bind_some, erasureref01_told.j1, if_pos (by decide), if_neg (by decide), wsm _ (by omega) (by omega), show ((s + 1 : Nat) : Int) - 1 = (s : Int) from by omega, ih [] k (by omega) hl hD (by omega)]
      unfold told
      rw [show rv [] = 0 from rfl, strip_zero, strip_zero]
    | cons d t =>
      have hd : erasureref01_digit.f (dIs (d :: t)) 0 = some (d : Int) := by
        unfold erasureref01_digit.f
        rw [if_neg (by decide), dIs_len, if_neg (by rw [List.length_cons]; omega), if_pos (by decide), if_pos (by rw [List.length_cons]; omega), show (0 : Int) = ((0 : Nat) : Int) from rfl, dIs_rd (d :: t) 0 d rfl]
      have hd9 := hD d (List.mem_cons_self ..)
      have ht : okD t := fun x hx => hD x (List.mem_cons_of_mem _ hx)
      rw [List.length_cons] at hl hk
      rw [hd, Option.bind_some, erasureref01_told.j1]
      by_cases h0 : d = 0
      · subst h0
        rw [if_pos (by rw [beq_iff_eq]; rfl), dIs_len, if_pos (by rw [List.length_cons]; omega), if_pos (by rw [List.length_cons]; omega), wsm _ (by omega) (by omega), show ((s + 1 : Nat) : Int) - 1 = (s : Int) from by omega]
        have e : (dIs (0 :: t)).drop (1 : Int).toNat = dIs t := rfl
        rw [e, ih t k (by omega) (by omega) ht (by omega)]
        unfold told
        have e2 : rv (0 :: t) = 10 * rv t := by show 0 + 10 * rv t = _; omega
        rw [e2, show strip (10 * rv t) (s + 1) = strip (rv t) s from by rw [strip, if_pos (by omega), Nat.mul_div_cancel_left _ (by decide)]]
      · rw [if_neg (by rw [beq_iff_eq]; omega), told_fin b _ (s + 1) (Or.inr (by show (d + 10 * rv t) % 10 ≠ 0; omega))]
        exact l1_f b (s + 1) (by omega) x1 x2 (d :: t).length (d :: t) k rfl hD (by rw [List.length_cons]; omega) (by rw [List.length_cons]; omega)
theorem told_ref (b : Bool) (s : Nat) (D : List Nat) (k : Nat) (hs : s ≤ 1000) (hl : D.length ≤ 1000) (hD : okD D) (hk : 2 * s + D.length + 40 ≤ k) : erasureref01_told.f k b (dIs D) (s : Int) = some (told b (rv D) s) := by
  unfold erasureref01_told.f
  rw [dIs_len, if_pos (by show 0 + _ < _; omega), List.nil_append]
  exact l0_f b _ _ s D k hs hl hD hk
end Go.Proofs.YtnhgnejfagncpaaDoor.Plain
end
section
namespace Go.Proofs.YtnhgnejfagncpaaDoor.Plain
open Go.RowKit Go.Proofs.YtnhgnejfagncpaaDoorW.PrintWords Go.Proofs.YtnhgnejfagncpaaDoor.A Go.Proofs.YtnhgnejfagncpaaDoor.B Go.Proofs.YtnhgnejfagncpaaDoor.H Go.Proofs.YtnhgnejfagncpaaDoor.E
def dgn (c : UInt8) : Nat := c.toNat - 48
theorem bt_get (t : ByteArray) (i : Nat) (c : UInt8) (h : t.data.toList[i]? = some c) : bt t (i : Int) = (c.toNat : Int) := by
  have hl : i < t.data.toList.length := by
    rcases Nat.lt_or_ge i t.data.toList.length with h2 | h2
    · exact h2
    · rw [List.getElem?_eq_none h2] at h; cases h
  have hs : i < t.size := by rw [Array.length_toList] at hl; exact hl
  unfold bt
  rw [Int.toNat_natCast, dif_pos hs]
  have e : t[i] = c := by
    have h3 : t.data[i]? = some c := by rw [← Array.getElem?_toList]; exact h
    have h4 : t.data[i]? = some (t.data[i]'hs) := Array.getElem?_eq_getElem hs
    rw [h4] at h3
    exact Option.some.inj h3
  rw [e]
theorem rv_digits : ∀ (l : List UInt8), rv (l.map dgn).reverse = val l := by
  intro l
  have key : ∀ (l : List UInt8), rv (l.reverse.map dgn) = val l.reverse.reverse := by
    intro l
    induction l with
    | nil => rfl
    | cons c t ih =>
      rw [List.reverse_cons, List.map_append, rv_app]
      have e : rv (List.map dgn [c]) = dgn c := by show dgn c + 10 * 0 = dgn c; omega
      rw [e, ih, List.reverse_append, List.length_map, List.length_reverse]
      show val t.reverse.reverse + 10 ^ t.length * dgn c = val (c :: t.reverse.reverse)
      rw [List.reverse_reverse]
      have e2 : val (c :: t) = valA (0 * 10 + (c.toNat - 48)) t := rfl
      rw [e2, valA_eq]
      unfold dgn
      grind
  have h := key l
  rw [List.reverse_reverse, List.map_reverse] at h
  exact h
theorem okD_digits (l : List UInt8) (h : allDig l) : okD (l.map dgn).reverse := fun d hd => by
  obtain ⟨c, hc, rfl⟩ := List.mem_map.1 (List.mem_reverse.1 hd)
  have := h c hc
  unfold isDig at this
  unfold dgn
  omega
theorem turn_f (b : Bool) (X : List Nat) (hX : okD X) (hl : X.length ≤ 500) (s : Nat) (hs : s ≤ 500) : ∀ (i : Nat) (acc : List Nat) (k : Nat), i ≤ X.length → acc.length + i ≤ 600 → acc ++ (X.take i).reverse = X.reverse → i + 1700 ≤ k →
    erasureref01_Parse.l1 k (dIs X) ((i : Int) - 1) b (dIs acc) (s : Int) = some (told b (rv X.reverse) s) := by
  intro i
  induction i with
  | zero =>
    intro acc k hi ha he hk
    obtain ⟨k, rfl⟩ : ∃ q, k = q + 1 := ⟨k - 1, by omega⟩
    have he' : acc = X.reverse := by rw [← he]; show acc = acc ++ []; rw [List.append_nil]
    subst he'
    have fin3 : ∀ z : Int × Int × Int, some (z.1, z.2.1, z.2.2) = some z := fun z => rfl
    rw [erasureref01_Parse.l1, if_neg (by omega), told_ref b s X.reverse k (by omega) (by rw [List.length_reverse]; omega) (fun d hd => hX d (List.mem_reverse.1 hd)) (by rw [List.length_reverse]; omega), Option.bind_some, fin3]
  | succ i ih =>
    intro acc k hi ha he hk
    obtain ⟨k, rfl⟩ : ∃ q, k = q + 1 := ⟨k - 1, by omega⟩
    obtain ⟨d, hd⟩ : ∃ d, X[i]? = some d := ⟨X[i]'(by omega), List.getElem?_eq_getElem (by omega)⟩
    have ht : X.take (i + 1) = X.take i ++ [d] := by rw [List.take_add_one, hd]; rfl
    rw [erasureref01_Parse.l1, if_pos (by omega), if_pos (by omega), dIs_len, if_pos (by omega), dIs_len, if_pos (by omega), show ((i + 1 : Nat) : Int) - 1 = (i : Int) from by omega, dIs_rd X i d hd, wsm _ (by omega) (by omega)]
    have := ih (acc ++ [d]) k (by omega) (by rw [List.length_append]; show _ + 1 + _ ≤ _; omega) (by rw [List.append_assoc, ← List.singleton_append, ← List.append_assoc] at *; rw [← he, ht, List.reverse_append]; simp) (by omega)
    rw [dIs_app] at this
    exact this
def doneR (len : Nat) (b : Bool) (l : List UInt8) (s : Nat) : Int × Int × Int := if l = [] ∨ len > 40 then (0, 0, 4) else told b (val l) s
theorem done_f (t : ByteArray) (ht : t.size ≤ 500) (b pt : Bool) (l : List UInt8) (hd : allDig l) (hl : l.length ≤ t.size) (s : Nat) (hs : s ≤ l.length) (k : Nat) (hk : 2300 ≤ k) :
    erasureref01_Parse.l0 k t (t.size : Int) (dIs (l.map dgn)) pt b (s : Int) = some (doneR t.size b l s) := by
  obtain ⟨k, rfl⟩ : ∃ q, k = q + 2 := ⟨k - 2, by omega⟩
  have hokm : okD (l.map dgn) := fun d hd' => okD_digits l hd d (List.mem_reverse.2 hd')
  unfold doneR
  rw [erasureref01_Parse.l0, if_neg (by omega), dIs_len, List.length_map]
  by_cases h0 : l = []
  · rw [if_pos (by rw [h0]; rfl), erasureref01_Parse.j5, if_pos rfl, if_pos (Or.inl h0)]
  · have hne : l.length ≠ 0 := fun h => h0 (List.length_eq_zero_iff.1 h)
    rw [if_neg (by omega), erasureref01_Parse.j5]
    by_cases h40 : t.size > 40
    · rw [if_pos (by rw [decide_eq_true_iff]; omega), if_pos (Or.inr h40)]
    · rw [if_neg (by rw [decide_eq_true_iff]; omega), if_neg (by intro h; exact h.elim h0 h40), dIs_len, List.length_map, wsm _ (by omega) (by omega)]
      have h := turn_f b (l.map dgn) hokm (by rw [List.length_map]; omega) s (by omega) l.length [] k (by rw [List.length_map]; exact Nat.le_refl _) (by show 0 + _ ≤ _; omega) (by rw [List.nil_append, ← List.length_map (f := dgn), List.take_length]) (by omega)
      rw [rv_digits] at h
      exact h
theorem scanT (t : ByteArray) (ht : t.size ≤ 500) (b : Bool) : ∀ (rest : List UInt8) (i : Nat) (l : List UInt8) (s k : Nat), t.data.toList.drop i = rest → i ≤ t.size → allDig l → l.length ≤ i → s ≤ l.length → 3 * rest.length + 2300 ≤ k →
    erasureref01_Parse.l0 k t (i : Int) (dIs (l.map dgn)) true b (s : Int) = some (if allDig rest then doneR t.size b (l ++ rest) (s + rest.length) else (0, 0, 4)) := by
  intro rest
  have hsz : t.data.toList.length = t.size := Array.length_toList
  induction rest with
  | nil =>
    intro i l s k hr hi hd hl hs hk
    have hi2 : i = t.size := by
      have := List.drop_eq_nil_iff.1 hr
      omega
    subst hi2
    rw [if_pos (show allDig [] from fun c hc => by cases hc), List.append_nil]
    exact done_f t ht b true l hd hl s hs k (by omega)
  | cons c r ih =>
    intro i l s k hr hi hd hl hs hk
    obtain ⟨k, rfl⟩ : ∃ q, k = q + 3 := ⟨k - 3, by omega⟩
    rw [List.length_cons] at hk
    have hlt : i < t.size := by
      rcases Nat.lt_or_ge i t.size with h | h
      · exact h
      · rw [List.drop_eq_nil_iff.2 (by omega)] at hr; cases hr
    have hc : t.data.toList[i]? = some c := by
      have := congrArg (·[0]?) hr
      simpa using this
    have hr2 : t.data.toList.drop (i + 1) = r := by rw [← List.drop_drop, hr]; rfl
    have hb := bt_get t i c hc
    have e0 : erasureref01_Parse.l0 (k + 3) t (i : Int) (dIs (l.map dgn)) true b (s : Int) = erasureref01_Parse.j3 (k + 2) t (i : Int) (dIs (l.map dgn)) true false b (s : Int) := by
      rw [erasureref01_Parse.l0, if_pos (by omega), if_pos (by omega)]
      split <;> rfl
    rw [e0, erasureref01_Parse.j3, if_neg (by decide), if_pos (by omega), if_pos (by omega), hb]
    by_cases hdig : isDig c
    · obtain ⟨g1, g2⟩ := id hdig
      rw [if_neg (by omega), erasureref01_Parse.j4, if_neg (by rw [decide_eq_true_iff]; omega), if_pos (by omega), if_pos (by omega), dIs_len, List.length_map, if_pos (by omega), Option.bind_some, if_pos rfl, hb, wsm _ (by omega) (by omega), wsm _ (by omega) (by omega)]
      have e1 : dIs (l.map dgn) ++ [((c.toNat : Int) - 48) % 256] = dIs ((l ++ [c]).map dgn) := by
        rw [List.map_append, dIs_app]
        congr 1
        show [_] = [((dgn c : Nat) : Int)]
        unfold dgn
        congr 1
        omega
      rw [e1]
      have := ih (i + 1) (l ++ [c]) (s + 1) k hr2 (by omega) ((allDig_append _ _).2 ⟨hd, fun x hx => by rw [List.mem_singleton.1 hx]; exact hdig⟩) (by rw [List.length_append]; show _ + 1 ≤ _; omega) (by rw [List.length_append]; show _ ≤ _ + 1; omega) (by omega)
      refine this.trans ?_
      have hiff : allDig (c :: r) ↔ allDig r := by rw [allDig_cons]; exact ⟨fun h => h.2, fun h => ⟨hdig, h⟩⟩
      rw [List.append_assoc, List.singleton_append, List.length_cons, show s + 1 + r.length = s + (r.length + 1) from by omega]
      by_cases hr3 : allDig r
      · rw [if_pos hr3, if_pos (hiff.2 hr3)]
      · rw [if_neg hr3, if_neg (fun h => hr3 (hiff.1 h))]
    · have hn : ¬ allDig (c :: r) := fun h => hdig ((allDig_cons c r).1 h).1
      rw [if_neg hn]
      by_cases h48 : (c.toNat : Int) < 48
      · rw [if_pos h48, erasureref01_Parse.j4, if_pos rfl]
      · rw [if_neg h48, erasureref01_Parse.j4, if_pos (by rw [decide_eq_true_iff]; unfold isDig at hdig; omega)]
theorem cut_cons (c : UInt8) (t : List UInt8) (h : c ≠ 46) : (cutAt (c :: t) 46).1 = c :: (cutAt t 46).1 ∧ (cutAt (c :: t) 46).2.1 = (cutAt t 46).2.1 := by
  have hr := indexByte_range t 46
  have e : Lib.indexByte (c :: t) 46 = if Lib.indexByte t 46 == -1 then -1 else Lib.indexByte t 46 + 1 := by
    rw [Lib.indexByte, if_neg (by rw [beq_iff_eq]; exact h)]
  by_cases h1 : Lib.indexByte t 46 = -1
  · have e1 : Lib.indexByte (c :: t) 46 = -1 := by rw [e, if_pos (by rw [beq_iff_eq]; exact h1)]
    unfold cutAt
    rw [if_neg (by omega), if_neg (by omega)]
    exact ⟨rfl, rfl⟩
  · have e1 : Lib.indexByte (c :: t) 46 = Lib.indexByte t 46 + 1 := by rw [e, if_neg (by rw [beq_iff_eq]; exact h1)]
    have e2 : (Lib.indexByte (c :: t) 46).toNat = (Lib.indexByte t 46).toNat + 1 := by omega
    unfold cutAt
    rw [if_pos (by omega), if_pos (by omega), e2]
    exact ⟨rfl, rfl⟩
theorem cut_first (t : List UInt8) : cutAt (46 :: t) 46 = ([], t, true) := rfl
theorem cut_nil : cutAt [] 46 = ([], [], false) := rfl
theorem scanF (t : ByteArray) (ht : t.size ≤ 500) (b : Bool) : ∀ (rest : List UInt8) (i : Nat) (l : List UInt8) (k : Nat), t.data.toList.drop i = rest → i ≤ t.size → allDig l → l.length ≤ i → 3 * rest.length + 2400 ≤ k →
    erasureref01_Parse.l0 k t (i : Int) (dIs (l.map dgn)) false b 0 = some (if allDig ((cutAt rest 46).1 ++ (cutAt rest 46).2.1) then doneR t.size b (l ++ ((cutAt rest 46).1 ++ (cutAt rest 46).2.1)) (cutAt rest 46).2.1.length else (0, 0, 4)) := by
  intro rest
  have hsz : t.data.toList.length = t.size := Array.length_toList
  induction rest with
  | nil =>
    intro i l k hr hi hd hl hk
    have hi2 : i = t.size := by
      have := List.drop_eq_nil_iff.1 hr
      omega
    subst hi2
    rw [cut_nil]
    dsimp only
    rw [List.append_nil, List.append_nil, if_pos (show allDig [] from fun c hc => by cases hc)]
    exact done_f t ht b false l hd hl 0 (Nat.zero_le _) k (by omega)
  | cons c r ih =>
    intro i l k hr hi hd hl hk
    obtain ⟨k, rfl⟩ : ∃ q, k = q + 3 := ⟨k - 3, by omega⟩
    rw [List.length_cons] at hk
    have hlt : i < t.size := by
      rcases Nat.lt_or_ge i t.size with h | h
      · exact h
      · rw [List.drop_eq_nil_iff.2 (by omega)] at hr; cases hr
    have hc : t.data.toList[i]? = some c := by
      have := congrArg (·[0]?) hr
      simpa using this
    have hr2 : t.data.toList.drop (i + 1) = r := by rw [← List.drop_drop, hr]; rfl
    have hb := bt_get t i c hc
    by_cases hdot : c = 46
    · subst hdot
      rw [erasureref01_Parse.l0, if_pos (by omega), if_pos (by omega), if_pos (by rw [hb]; rfl), erasureref01_Parse.j3, if_pos (show (!false) = true from rfl), wsm _ (by omega) (by omega), cut_first]
      dsimp only
      have := scanT t ht b r (i + 1) l 0 (k + 1) hr2 (by omega) hd (by omega) (Nat.zero_le _) (by omega)
      rw [Nat.zero_add] at this
      exact this
    · obtain ⟨c1, c2⟩ := cut_cons c r hdot
      have hne : (c.toNat : Int) ≠ 46 := fun h => hdot (UInt8.toNat_inj.1 (by show c.toNat = 46; omega))
      rw [c1, c2, List.cons_append]
      rw [erasureref01_Parse.l0, if_pos (by omega), if_pos (by omega), if_neg (by rw [hb]; exact hne), erasureref01_Parse.j3, if_neg (by decide), if_pos (by omega), if_pos (by omega), hb]
      by_cases hdig : isDig c
      · obtain ⟨g1, g2⟩ := id hdig
        rw [if_neg (by omega), erasureref01_Parse.j4, if_neg (by rw [decide_eq_true_iff]; omega), if_pos (by omega), if_pos (by omega), dIs_len, List.length_map, if_pos (by omega), Option.bind_some, if_neg (by decide), hb, wsm _ (by omega) (by omega)]
        have e1 : dIs (l.map dgn) ++ [((c.toNat : Int) - 48) % 256] = dIs ((l ++ [c]).map dgn) := by
          rw [List.map_append, dIs_app]
          congr 1
          show [_] = [((dgn c : Nat) : Int)]
          unfold dgn
          congr 1
          omega
        rw [e1]
        have := ih (i + 1) (l ++ [c]) k hr2 (by omega) ((allDig_append _ _).2 ⟨hd, fun x hx => by rw [List.mem_singleton.1 hx]; exact hdig⟩) (by rw [List.length_append]; show _ + 1 ≤ _; omega) (by omega)
        refine this.trans ?_
        have hiff : allDig (c :: ((cutAt r 46).1 ++ (cutAt r 46).2.1)) ↔ allDig ((cutAt r 46).1 ++ (cutAt r 46).2.1) := by rw [allDig_cons]; exact ⟨fun h => h.2, fun h => ⟨hdig, h⟩⟩
        rw [List.append_assoc l, List.singleton_append]
        by_cases hr3 : allDig ((cutAt r 46).1 ++ (cutAt r 46).2.1)
        · rw [if_pos hr3, if_pos (hiff.2 hr3)]
        · rw [if_neg hr3, if_neg (fun h => hr3 (hiff.1 h))]
      · have hn : ¬ allDig (c :: ((cutAt r 46).1 ++ (cutAt r 46).2.1)) := fun h => hdig ((allDig_cons c _).1 h).1
        rw [if_neg hn]
        by_cases h48 : (c.toNat : Int) < 48
        · rw [if_pos h48, erasureref01_Parse.j4, if_pos rfl]
        · rw [if_neg h48, erasureref01_Parse.j4, if_pos (by rw [decide_eq_true_iff]; unfold isDig at hdig; omega)]
theorem done_parse (l : List UInt8) (n : Nat) (hn : l.length = n) :
    (if allDig ((cutAt (headB l).2 46).1 ++ (cutAt (headB l).2 46).2.1) then doneR n (headB l).1 ([] ++ ((cutAt (headB l).2 46).1 ++ (cutAt (headB l).2 46).2.1)) (cutAt (headB l).2 46).2.1.length else (0, 0, 4)) = parseL l := by
  unfold parseL doneR
  rw [List.nil_append, hn]
  by_cases h1 : allDig ((cutAt (headB l).2 46).1 ++ (cutAt (headB l).2 46).2.1)
  · rw [if_pos h1]
    by_cases h2 : (cutAt (headB l).2 46).1 ++ (cutAt (headB l).2 46).2.1 = [] ∨ n > 40
    · rw [if_pos h2, if_pos (by rcases h2 with h2 | h2; exact Or.inr (Or.inl h2); exact Or.inl h2)]
    · rw [if_neg h2, if_neg (by intro h; rcases h with h | h | h; exact h2 (Or.inr h); exact h2 (Or.inl h); exact h h1)]
  · rw [if_neg h1, if_pos (Or.inr (Or.inr h1))]
theorem parse_ref (t : ByteArray) (ht : t.size ≤ 500) (k : Nat) (hk : 5000 ≤ k) : erasureref01_Parse.f k t = some (parseL t.data.toList) := by
  obtain ⟨k, rfl⟩ : ∃ q, k = q + 2 := ⟨k - 2, by omega⟩
  have hsz : t.data.toList.length = t.size := Array.length_toList
  have hfin := done_parse t.data.toList t.size hsz
  have hlist : t.toList = t.data.toList := ByteArray.toList_eq t
  unfold erasureref01_Parse.f
  rw [hlist]
  cases hq : t.data.toList with
  | nil =>
    rw [hq] at hfin
    have hs0 : t.size = 0 := by rw [← hsz, hq]; rfl
    rw [if_pos rfl, erasureref01_Parse.j0, if_neg (by decide), erasureref01_Parse.j1]
    have := scanF t ht false [] 0 [] k (by rw [hq]; rfl) (Nat.zero_le _) (fun c hc => by cases hc) (Nat.zero_le _) (by show 3 * 0 + 2400 ≤ k; omega)
    exact this.trans (congrArg some hfin)
  | cons c r =>
    rw [hq] at hfin
    have hl1 : r.length + 1 = t.size := by rw [← hsz, hq]; rfl
    have hb := bt_get t 0 c (by rw [hq]; rfl)
    rw [show ((0 : Nat) : Int) = 0 from rfl] at hb
    rw [if_neg (by intro h; cases h), if_pos (by omega), hb]
    have hh : headB (c :: r) = if c = 43 ∨ c = 45 then (decide (c = 45), r) else (false, c :: r) := rfl
    have n43 : (c.toNat : Int) = 43 ↔ c = 43 := ⟨fun h => UInt8.toNat_inj.1 (by show c.toNat = 43; omega), fun h => by rw [h]; rfl⟩
    have n45 : (c.toNat : Int) = 45 ↔ c = 45 := ⟨fun h => UInt8.toNat_inj.1 (by show c.toNat = 45; omega), fun h => by rw [h]; rfl⟩
    have hbeq : ((c.toNat : Int) == 45) = decide (c = 45) := by
      by_cases h : c = 45
      · rw [decide_eq_true h, beq_iff_eq]; exact n45.2 h
      · rw [decide_eq_false h, beq_eq_false_iff_ne]; exact fun h2 => h (n45.1 h2)
    have hsign : ∀ x21, (c = 43 ∨ c = 45) → x21 = true → erasureref01_Parse.j0 (k + 2) t 0 x21 false 0 = some (parseL (c :: r)) := fun x21 hs hx => by
      subst hx
      rw [hh, if_pos hs] at hfin
      rw [erasureref01_Parse.j0, if_pos rfl, if_pos (by omega), hb, hbeq, erasureref01_Parse.j1]
      have := scanF t ht (decide (c = 45)) r 1 [] k (by rw [hq]; rfl) (by omega) (fun c hc => by cases hc) (Nat.zero_le _) (by omega)
      exact this.trans (congrArg some hfin)
    by_cases h43 : c = 43
    · rw [if_pos (n43.2 h43)]
      exact hsign true (Or.inl h43) rfl
    · rw [if_neg (fun h => h43 (n43.1 h)), hbeq]
      by_cases h45 : c = 45
      · rw [decide_eq_true h45]
        exact hsign true (Or.inr h45) rfl
      · rw [decide_eq_false h45, erasureref01_Parse.j0, if_neg (by decide), erasureref01_Parse.j1]
        have hh2 : headB (c :: r) = (false, c :: r) := by rw [hh, if_neg (fun h => Or.elim h h43 h45)]
        rw [hh2] at hfin
        have := scanF t ht false (c :: r) 0 [] k (by rw [hq]; rfl) (Nat.zero_le _) (fun c hc => by cases hc) (Nat.zero_le _) (by rw [List.length_cons]; omega)
        exact this.trans (congrArg some hfin)
end Go.Proofs.YtnhgnejfagncpaaDoor.Plain
end
section
namespace Go.Proofs.YtnhgnejfagncpaaDoor.Plain
open Go.RowKit Go.Proofs.YtnhgnejfagncpaaDoorW.PrintWords Go.Proofs.YtnhgnejfagncpaaDoor.A Go.Proofs.YtnhgnejfagncpaaDoor.B Go.Proofs.YtnhgnejfagncpaaDoor.H Go.Proofs.YtnhgnejfagncpaaDoor.E
theorem okD_nil : okD [] := fun d hd => by cases hd
end Go.Proofs.YtnhgnejfagncpaaDoor.Plain
end
section
namespace Go.Proofs.YtnhgnejfagncpaaDoor.Plain
open Go.RowKit Go.Proofs.YtnhgnejfagncpaaDoorW.PrintWords Go.Proofs.YtnhgnejfagncpaaDoor.A Go.Proofs.YtnhgnejfagncpaaDoor.B Go.Proofs.YtnhgnejfagncpaaDoor.H Go.Proofs.YtnhgnejfagncpaaDoor.E
def atD (D : List Nat) (i : Nat) : Nat := D.getD i 0
theorem digit_f (D : List Nat) (i : Nat) : erasureref01_digit.f (dIs D) (i : Int) = some (atD D i : Int) := by
  unfold erasureref01_digit.f atD
  rw [if_neg (by omega), dIs_len]
  by_cases h : i < D.length
  · have hd : D[i]? = some (D[i]'h) := List.getElem?_eq_getElem h
    rw [if_neg (by omega), if_pos (by omega), if_pos (by omega), dIs_rd D i _ hd, List.getD_eq_getElem?_getD, hd]
    rfl
  · rw [if_pos (by omega), List.getD_eq_getElem?_getD, List.getElem?_eq_none (by omega)]
    rfl
theorem atD_le (D : List Nat) (h : okD D) (i : Nat) : atD D i ≤ 9 := by
  unfold atD
  rw [List.getD_eq_getElem?_getD]
  cases hq : D[i]? with
  | none => exact Nat.zero_le _
  | some d => exact h d (List.mem_of_getElem? hq)
theorem take_step (D : List Nat) (i : Nat) : rv (D.take (i + 1)) = rv (D.take i) + 10 ^ i * atD D i := by
  unfold atD
  rw [List.getD_eq_getElem?_getD, List.take_add_one]
  cases hq : D[i]? with
  | none =>
    show rv (D.take i ++ []) = rv (D.take i) + 10 ^ i * 0
    rw [List.append_nil, Nat.mul_zero, Nat.add_zero]
  | some d =>
    have hl : i < D.length := by
      rcases Nat.lt_or_ge i D.length with h | h
      · exact h
      · rw [List.getElem?_eq_none h] at hq; cases hq
    show rv (D.take i ++ [d]) = rv (D.take i) + 10 ^ i * d
    rw [rv_app, List.length_take, Nat.min_eq_left (by omega)]
    show _ + 10 ^ i * (d + 10 * 0) = _
    rw [Nat.mul_zero, Nat.add_zero]
end Go.Proofs.YtnhgnejfagncpaaDoor.Plain
end
section
namespace Go.Proofs.YtnhgnejfagncpaaDoor.Plain
open Go.RowKit Go.Proofs.YtnhgnejfagncpaaDoorW.PrintWords Go.Proofs.YtnhgnejfagncpaaDoor.A Go.Proofs.YtnhgnejfagncpaaDoor.B Go.Proofs.YtnhgnejfagncpaaDoor.H Go.Proofs.YtnhgnejfagncpaaDoor.E
set_option linter.unusedVariables false
theorem wone (a : Nat) (h : a < 1000000) : wrap64 ((a : Int) + 1) = ((a + 1 : Nat) : Int) := by
  rw [wsm _ (by omega) (by omega)]
  omega
theorem right_ref (M S : Int) : erasureref01_Right.f M S = some (decide (Good M S)) := by
  unfold erasureref01_Right.f
  by_cases h1 : M ≥ -999999999999999999
  · rw [if_pos h1]
    by_cases h2 : M ≤ 999999999999999999
    · rw [if_pos h2]
      by_cases h3 : S ≥ 0
      · rw [if_pos h3]
        by_cases h4 : S ≤ 9
        · rw [if_pos h4]
          by_cases h5 : S = 0
          · rw [if_pos h5, decide_eq_true (show Good M S by unfold Good; omega)]
          · rw [if_neg h5]
            by_cases h6 : Int.tmod M 10 = 0
            · rw [show ((Int.tmod M 10) != 0) = false from by rw [h6]; rfl, decide_eq_false (show ¬ Good M S by have := (tmod0 M).1 h6; unfold Good; omega)]
            · rw [show ((Int.tmod M 10) != 0) = true from bne_iff_ne.mpr h6, decide_eq_true (show Good M S by have h7 : M % 10 ≠ 0 := fun h => h6 ((tmod0 M).2 h); unfold Good; omega)]
        · rw [if_neg h4, decide_eq_false (show ¬ Good M S by unfold Good; omega)]
      · rw [if_neg h3, decide_eq_false (show ¬ Good M S by unfold Good; omega)]
    · rw [if_neg h2, decide_eq_false (show ¬ Good M S by unfold Good; omega)]
  · rw [if_neg h1, decide_eq_false (show ¬ Good M S by unfold Good; omega)]
end Go.Proofs.YtnhgnejfagncpaaDoor.Plain
end
section
namespace Go.Proofs.YtnhgnejfagncpaaDoor.Plain
open Go.RowKit Go.Proofs.YtnhgnejfagncpaaDoorW.PrintWords Go.Proofs.YtnhgnejfagncpaaDoor.A Go.Proofs.YtnhgnejfagncpaaDoor.B Go.Proofs.YtnhgnejfagncpaaDoor.H Go.Proofs.YtnhgnejfagncpaaDoor.E
set_option linter.unusedVariables false
theorem of_l0t (b : Bool) (S : Int) : ∀ (n N : Nat), N < 10 ^ n → n ≤ 18 → ∀ (acc : List Nat) (k : Nat), acc.length ≤ 100 - n → n + 1 ≤ k →
    ∃ D, okD D ∧ rv D = N ∧ D.length ≤ n ∧ (0 < D.length → 10 ^ (D.length - 1) ≤ N) ∧ erasureref01_of.l0 k (N : Int) b (dIs acc) S = some (b, dIs (acc ++ D), S) := by
  intro n
  induction n with
  | zero =>
    intro N h hn acc k ha hk
    obtain ⟨k, rfl⟩ : ∃ q, k = q + 1 := ⟨k - 1, by omega⟩
    have h0 : N = 0 := by simpa using h
    subst h0
    refine ⟨[], okD_nil, rfl, Nat.le_refl _, fun h => absurd h (Nat.lt_irrefl _), ?_⟩
    rw [erasureref01_of.l0, if_neg (by decide), List.append_nil]
  | succ n ih =>
    intro N h hn acc k ha hk
    obtain ⟨k, rfl⟩ : ∃ q, k = q + 1 := ⟨k - 1, by omega⟩
    by_cases h0 : N = 0
    · subst h0
      refine ⟨[], okD_nil, rfl, Nat.zero_le _, fun h => absurd h (Nat.lt_irrefl _), ?_⟩
      rw [erasureref01_of.l0, if_neg (by decide), List.append_nil]
    · have hb : N < 10 ^ 18 := Nat.lt_of_lt_of_le h (Nat.pow_le_pow_right (by decide) hn)
      rw [p18] at hb
      obtain ⟨D, h1, h2, h3, h5, h4⟩ := ih (N / 10) (by rw [Nat.pow_succ] at h; omega) (by omega) (acc ++ [N % 10]) k (by rw [List.length_append]; show _ + 1 ≤ _; omega) (by omega)
      refine ⟨N % 10 :: D, fun d hd => ?_, ?_, by rw [List.length_cons]; omega, ?_, ?_⟩
      · rcases List.mem_cons.1 hd with rfl | hd
        · omega
        · exact h1 d hd
      · show N % 10 + 10 * rv D = N
        omega
      · intro _
        rw [List.length_cons, Nat.add_sub_cancel]
        rcases Nat.eq_zero_or_pos D.length with e | e
        · rw [e, Nat.pow_zero]; omega
        · have h6 := h5 e
          obtain ⟨m, hm⟩ : ∃ m, D.length = m + 1 := ⟨D.length - 1, by omega⟩
          rw [hm, Nat.add_sub_cancel] at h6
          rw [hm, Nat.pow_succ]
          omega
      · rw [erasureref01_of.l0, if_pos (by omega), dIs_len, if_pos (by omega), td10, tm10, wsm _ (by omega) (by omega)]
        rw [dIs_app, List.append_assoc, List.singleton_append] at h4
        exact h4
theorem of_ft (M S : Int) (h0 : -999999999999999999 ≤ M) (h1 : M ≤ 999999999999999999) (k : Nat) (hk : 25 ≤ k) : ∃ D, okD D ∧ rv D = M.natAbs ∧ D.length ≤ 18 ∧ (0 < D.length → 10 ^ (D.length - 1) ≤ M.natAbs) ∧ erasureref01_of.f k M S = some (decide (M < 0), dIs D, S) := by
  obtain ⟨k, rfl⟩ : ∃ q, k = q + 1 := ⟨k - 1, by omega⟩
  obtain ⟨D, d1, d2, d3, d5, d4⟩ := of_l0t (decide (M < 0)) S 18 M.natAbs (by rw [p18]; omega) (Nat.le_refl _) [] k (by show 0 ≤ _; omega) (by omega)
  refine ⟨D, d1, d2, d3, d5, ?_⟩
  unfold erasureref01_of.f
  by_cases hm : M < 0
  · rw [if_pos hm, erasureref01_of.j0, wsm _ (by omega) (by omega), show -M = ((M.natAbs : Nat) : Int) from by omega]
    exact d4
  · rw [if_neg hm, erasureref01_of.j0]
    have e : (M.natAbs : Int) = M := by omega
    rw [e] at d4
    exact d4
def ch (d : Nat) : UInt8 := UInt8.ofNat (48 + d)
def digD (D : List Nat) : Nat → List UInt8
  | 0 => []
  | i + 1 => ch (atD D i) :: digD D i
def tailD (D : List Nat) (s : Nat) : Nat → List UInt8
  | 0 => []
  | i + 1 => if i + 1 = s then 46 :: ch (atD D i) :: tailD D s i else ch (atD D i) :: tailD D s i
theorem dig_len (D : List Nat) : ∀ i, (digD D i).length = i
  | 0 => rfl
  | i + 1 => by show (digD D i).length + 1 = i + 1; rw [dig_len D i]
theorem dig_all (D : List Nat) (h : okD D) : ∀ i, allDig (digD D i)
  | 0 => fun c hc => by cases hc
  | i + 1 => by
    refine (allDig_cons _ _).2 ⟨?_, dig_all D h i⟩
    have := atD_le D h i
    unfold isDig ch
    rw [toNat_dig _ (by omega)]
    omega
theorem val_cons (c : UInt8) (t : List UInt8) : val (c :: t) = (c.toNat - 48) * 10 ^ t.length + val t := by
  show valA (0 * 10 + (c.toNat - 48)) t = _
  rw [valA_eq, Nat.zero_mul, Nat.zero_add]
theorem dig_val (D : List Nat) (h : okD D) : ∀ i, val (digD D i) = rv (D.take i)
  | 0 => rfl
  | i + 1 => by
    have := atD_le D h i
    show val (ch (atD D i) :: digD D i) = _
    rw [val_cons, dig_len, dig_val D h i, take_step]
    unfold ch
    rw [toNat_dig _ (by omega), Nat.add_sub_cancel_left, Nat.mul_comm, Nat.add_comm]
theorem uniq : ∀ (P Q : List UInt8), P.length = Q.length → allDig P → allDig Q → val P = val Q → P = Q
  | [], [], _, _, _, _ => rfl
  | [], _ :: _, h, _, _, _ => by simp at h
  | _ :: _, [], h, _, _, _ => by simp at h
  | a :: P, b :: Q, hl, hP, hQ, hv => by
    obtain ⟨pa, pP⟩ := (allDig_cons _ _).1 hP
    obtain ⟨qb, qQ⟩ := (allDig_cons _ _).1 hQ
    have hl' : P.length = Q.length := by simpa using hl
    rw [val_cons, val_cons, hl'] at hv
    have l1 := val_lt P pP
    have l2 := val_lt Q qQ
    rw [hl'] at l1
    unfold isDig at pa qb
    have e : a.toNat - 48 = b.toNat - 48 := by
      generalize 10 ^ Q.length = p at *
      generalize a.toNat - 48 = x at *
      generalize b.toNat - 48 = y at *
      rcases Nat.lt_trichotomy x y with h | h | h
      · exfalso
        have : (x + 1) * p ≤ y * p := Nat.mul_le_mul_right _ h
        rw [Nat.add_mul, Nat.one_mul] at this
        omega
      · exact h
      · exfalso
        have : (y + 1) * p ≤ x * p := Nat.mul_le_mul_right _ h
        rw [Nat.add_mul, Nat.one_mul] at this
        omega
    have e2 : a = b := UInt8.toNat_inj.1 (by omega)
    subst e2
    rw [uniq P Q hl' pP qQ (by omega)]
theorem tail_none (D : List Nat) (s : Nat) : ∀ i, (s = 0 ∨ i < s) → tailD D s i = digD D i
  | 0, _ => rfl
  | i + 1, h => by
    show (if i + 1 = s then _ else _) = _
    rw [if_neg (by omega), tail_none D s i (by omega)]
    rfl
theorem tail_point (D : List Nat) (s : Nat) (hs : 0 < s) : ∀ i, s ≤ i → tailD D s i = (digD D i).take (i - s) ++ 46 :: (digD D i).drop (i - s)
  | 0, h => absurd h (by omega)
  | i + 1, h => by
    show (if i + 1 = s then _ else _) = _
    by_cases e : i + 1 = s
    · rw [if_pos e, tail_none D s i (Or.inr (by omega)), show i + 1 - s = 0 from by omega]
      rfl
    · rw [if_neg e, tail_point D s hs i (by omega), show i + 1 - s = (i - s) + 1 from by omega]
      rfl
theorem num_ch (d : Nat) (h : d ≤ 9) : strOfNums [(wrap64 (48 + (d : Int))) % 256] = ⟨[ch d].toArray⟩ := by
  rw [wsm _ (by omega) (by omega), show (48 + (d : Int)) % 256 = ((48 + d : Nat) : Int) from by omega]
  rfl
theorem print_l0r (D : List Nat) (hD : okD D) (s : Nat) (hs : s ≤ 9) (b : Bool) : ∀ (i k : Nat) (L : List UInt8), L.length + 2 * i ≤ 1000 → i + 1 ≤ k →
    erasureref01_Print.l0 k (⟨L.toArray⟩ : ByteArray) ((i : Int) - 1) b (dIs D) (s : Int) = some (⟨(L ++ tailD D s i).toArray⟩, 0) := by
  intro i
  induction i with
  | zero =>
    intro k L hl hk
    obtain ⟨k, rfl⟩ : ∃ q, k = q + 1 := ⟨k - 1, by omega⟩
    rw [erasureref01_Print.l0, if_neg (by decide)]
    show some _ = some ((⟨(L ++ []).toArray⟩ : ByteArray), (0 : Int))
    rw [List.append_nil]
  | succ i ih =>
    intro k L hl hk
    obtain ⟨k, rfl⟩ : ∃ q, k = q + 1 := ⟨k - 1, by omega⟩
    have h9 := atD_le D hD i
    have e0 : ((i + 1 : Nat) : Int) - 1 = (i : Int) := by omega
    have f0 : (i : Int) ≥ 0 := by omega
    have e46 : (⟨L.toArray⟩ : ByteArray) ++ (⟨#[46]⟩ : ByteArray) = ⟨(L ++ [46]).toArray⟩ := bytes_app L [46]
    have z1 : (⟨L.toArray⟩ : ByteArray).size + 1 ≤ 9223372036854775807 := by rw [bytes_size]; omega
    have z2 : (⟨(L ++ [46]).toArray⟩ : ByteArray).size + (⟨[ch (atD D i)].toArray⟩ : ByteArray).size ≤ 9223372036854775807 := by rw [bytes_size, bytes_size, List.length_append]; show L.length + 1 + 1 ≤ _; omega
    have z3 : (⟨L.toArray⟩ : ByteArray).size + (⟨[ch (atD D i)].toArray⟩ : ByteArray).size ≤ 9223372036854775807 := by rw [bytes_size, bytes_size]; show L.length + 1 ≤ _; omega
    have l1 : ((L ++ [46]) ++ [ch (atD D i)]).length + 2 * i ≤ 1000 := by rw [List.length_append, List.length_append]; show L.length + 1 + 1 + _ ≤ _; omega
    have l2 : (L ++ [ch (atD D i)]).length + 2 * i ≤ 1000 := by rw [List.length_append]; show L.length + 1 + _ ≤ _; omega
    have hk' : i + 1 ≤ k := by omega
    have w1 : -9223372036854775808 ≤ (s : Int) - 1 := by omega
    have w2 : (s : Int) - 1 < 9223372036854775808 := by omega
    have w3 : -9223372036854775808 ≤ (i : Int) - 1 := by omega
    have w4 : (i : Int) - 1 < 9223372036854775808 := by omega
    by_cases hp : i + 1 = s
    · have f1 : (i : Int) = (s : Int) - 1 := by omega
      have r := ih k ((L ++ [46]) ++ [ch (atD D i)]) l1 hk'
      have et : tailD D s (i + 1) = 46 :: ch (atD D i) :: tailD D s i := if_pos hp
      rw [et, erasureref01_Print.l0, e0, if_pos f0, wsm ((s : Int) - 1) w1 w2, if_pos f1, if_pos z1, digit_f, Option.bind_some, Option.bind_some, num_ch _ h9, e46, if_pos z2, bytes_app, wsm ((i : Int) - 1) w3 w4, r]
      simp
    · have f1 : ¬ (i : Int) = (s : Int) - 1 := by omega
      have r := ih k (L ++ [ch (atD D i)]) l2 hk'
      have et : tailD D s (i + 1) = ch (atD D i) :: tailD D s i := if_neg hp
      rw [et, erasureref01_Print.l0, e0, if_pos f0, wsm ((s : Int) - 1) w1 w2, if_neg f1, digit_f, Option.bind_some, Option.bind_some, num_ch _ h9, if_pos z3, bytes_app, wsm ((i : Int) - 1) w3 w4, r]
      simp
theorem print_ref (M : Int) (s : Nat) (hg : Good M s) (k : Nat) (hk : 100 ≤ k) : erasureref01_Print.f k M (s : Int) = some (⟨(printL M s).toArray⟩, 0) := by
  obtain ⟨a1, a2, a3, a4, _⟩ := id hg
  obtain ⟨D, d1, d2, d3, d5, d4⟩ := of_ft M (s : Int) a1 a2 k (by omega)
  obtain ⟨N, hN⟩ : ∃ N, N = M.natAbs := ⟨_, rfl⟩
  rw [← hN] at d2 d5
  obtain ⟨T, hT⟩ : ∃ T, T = max D.length (s + 1) := ⟨_, rfl⟩
  obtain ⟨p1, p2, p3⟩ := pad_facts N s
  have hlen : (padD N s).length = T := by
    rw [p3, hT]
    rcases Nat.eq_zero_or_pos D.length with e | e
    · have : D = [] := List.eq_nil_of_length_eq_zero e
      subst this
      obtain rfl : 0 = N := d2
      rw [Lib.nDigits_small (by decide)]
      show max 1 (s + 1) = max 0 (s + 1)
      omega
    · have h1 := d5 e
      have h2 := rv_lt D d1
      rw [d2] at h2
      obtain ⟨m, hm⟩ : ∃ m, D.length = m + 1 := ⟨D.length - 1, by omega⟩
      rw [hm, Nat.add_sub_cancel] at h1
      rw [hm] at h2
      rw [Lib.nDigits_unique m N h1 h2, hm]
  have hpad : digD D T = padD N s := by
    refine uniq _ _ (by rw [dig_len, hlen]) (dig_all D d1 T) p1 ?_
    rw [dig_val D d1, List.take_of_length_le (by omega), d2, p2]
  have hbody : tailD D s T = bodyL N s := by
    unfold bodyL
    by_cases h : s > 0
    · rw [if_pos h, tail_point D s h T (by omega), hpad, hlen]
    · rw [if_neg h, tail_none D s T (Or.inl (by omega)), hpad]
  have hj : ∀ L : List UInt8, L.length ≤ 1 → erasureref01_Print.j0 k (⟨L.toArray⟩ : ByteArray) (decide (M < 0)) (dIs D) (s : Int) = some (⟨(L ++ bodyL N s).toArray⟩, 0) := by
    intro L hL
    obtain ⟨k, rfl⟩ : ∃ q, k = q + 1 := ⟨k - 1, by omega⟩
    have g1 : s < 1000000 := by omega
    have g2 : -9223372036854775808 ≤ (T : Int) - 1 := by omega
    have g3 : (T : Int) - 1 < 9223372036854775808 := by omega
    have g4 : s ≤ 9 := by omega
    have g5 : L.length + 2 * T ≤ 1000 := by omega
    have g6 : T + 1 ≤ k := by omega
    rw [erasureref01_Print.j0, dIs_len, wone s g1, mx_nat, ← hT, wsm ((T : Int) - 1) g2 g3, print_l0r D d1 s g4 _ T k L g5 g6, hbody]
  unfold erasureref01_Print.f
  rw [right_ref, Option.bind_some, decide_eq_true hg, if_pos rfl, d4, Option.bind_some]
  dsimp only
  unfold printL
  rw [← hN]
  by_cases h : M < 0
  · rw [decide_eq_true h] at hj ⊢
    rw [if_pos rfl, if_pos h]
    exact hj [45] (Nat.le_refl _)
  · rw [decide_eq_false h] at hj ⊢
    rw [if_neg (by decide), if_neg h]
    exact hj [] (Nat.zero_le _)
end Go.Proofs.YtnhgnejfagncpaaDoor.Plain
end
section
namespace Go.Proofs.YtnhgnejfagncpaaDoor.Plain
open Go Go.RowKit Go.Proofs.YtnhgnejfagncpaaDoorW.PrintWords Go.Proofs.YtnhgnejfagncpaaDoor.H Go.Proofs.YtnhgnejfagncpaaDoor.A Go.Proofs.YtnhgnejfagncpaaDoor.B Go.Proofs.YtnhgnejfagncpaaDoor.E Go.Proofs.YtnhgnejfagncpaaDoor.L Go.Proofs.YtnhgnejfagncpaaDoor.M Go.Proofs.YtnhgnejfagncpaaDoor.P
set_option linter.unusedVariables false
def whiteB (c : Int) : Bool := c == 0 || c == 9 || c == 10 || c == 12 || c == 13 || c == 32
def markB (c : Int) : Bool := c == 40 || c == 41 || c == 60 || c == 62 || c == 91 || c == 93 || c == 123 || c == 125 || c == 47 || c == 37
def otherB (c : Int) : Bool := !markB c && !whiteB c
theorem white_f (c : Int) : erasureref10_White.f c = some (whiteB c) := by
  unfold erasureref10_White.f
  by_cases h0 : c = 0
  · subst h0; rfl
  by_cases h1 : c = 9
  · subst h1; rfl
  by_cases h2 : c = 10
  · subst h2; rfl
  by_cases h3 : c = 12
  · subst h3; rfl
  by_cases h4 : c = 13
  · subst h4; rfl
  rw [if_neg h0, if_neg h1, if_neg h2, if_neg h3, if_neg h4]
  unfold whiteB
  rw [beq_eq_false_iff_ne.mpr h0, beq_eq_false_iff_ne.mpr h1, beq_eq_false_iff_ne.mpr h2, beq_eq_false_iff_ne.mpr h3, beq_eq_false_iff_ne.mpr h4]
  rfl
theorem mark_f (c : Int) : erasureref14_mark.f c = some (markB c) := by
  unfold erasureref14_mark.f
  by_cases h0 : c = 40
  · subst h0; rfl
  by_cases h1 : c = 41
  · subst h1; rfl
  by_cases h2 : c = 60
  · subst h2; rfl
  by_cases h3 : c = 62
  · subst h3; rfl
  by_cases h4 : c = 91
  · subst h4; rfl
  by_cases h5 : c = 93
  · subst h5; rfl
  by_cases h6 : c = 123
  · subst h6; rfl
  by_cases h7 : c = 125
  · subst h7; rfl
  by_cases h8 : c = 47
  · subst h8; rfl
  rw [if_neg h0, if_neg h1, if_neg h2, if_neg h3, if_neg h4, if_neg h5, if_neg h6, if_neg h7, if_neg h8]
  unfold markB
  rw [beq_eq_false_iff_ne.mpr h0, beq_eq_false_iff_ne.mpr h1, beq_eq_false_iff_ne.mpr h2, beq_eq_false_iff_ne.mpr h3, beq_eq_false_iff_ne.mpr h4, beq_eq_false_iff_ne.mpr h5, beq_eq_false_iff_ne.mpr h6, beq_eq_false_iff_ne.mpr h7, beq_eq_false_iff_ne.mpr h8]
  rfl
theorem other_f (c : Int) : erasureref14_other.f c = some (otherB c) := by
  unfold erasureref14_other.f otherB
  rw [mark_f, Option.bind_some]
  cases h : markB c with
  | true => rfl
  | false => rw [if_neg (by decide), white_f, Option.bind_some]; rfl
theorem of_f14 (c : Int) (k : Nat) (hk : 1 ≤ k) : lex_of.f k c = some (if whiteB c = true then 0 else if markB c = true then 1 else 2) := by
  obtain ⟨k, rfl⟩ : ∃ q, k = q + 1 := ⟨k - 1, by omega⟩
  unfold lex_of.f
  by_cases h0 : c = 0
  · subst h0; rfl
  by_cases h1 : c = 9
  · subst h1; rfl
  by_cases h2 : c = 10
  · subst h2; rfl
  by_cases h3 : c = 12
  · subst h3; rfl
  by_cases h4 : c = 13
  · subst h4; rfl
  by_cases h5 : c = 32
  · subst h5; rfl
  rw [if_neg h0, if_neg h1, if_neg h2, if_neg h3, if_neg h4, beq_eq_false_iff_ne.mpr h5, lex_of.j0, if_neg (by decide)]
  have hw : whiteB c = false := by
    unfold whiteB
    rw [beq_eq_false_iff_ne.mpr h0, beq_eq_false_iff_ne.mpr h1, beq_eq_false_iff_ne.mpr h2, beq_eq_false_iff_ne.mpr h3, beq_eq_false_iff_ne.mpr h4, beq_eq_false_iff_ne.mpr h5]
    rfl
  rw [hw]
  simp only [Bool.false_eq_true, if_false]
  by_cases g0 : c = 40
  · subst g0; rfl
  by_cases g1 : c = 41
  · subst g1; rfl
  by_cases g2 : c = 60
  · subst g2; rfl
  by_cases g3 : c = 62
  · subst g3; rfl
  by_cases g4 : c = 91
  · subst g4; rfl
  by_cases g5 : c = 93
  · subst g5; rfl
  by_cases g6 : c = 123
  · subst g6; rfl
  by_cases g7 : c = 125
  · subst g7; rfl
  by_cases g8 : c = 47
  · subst g8; rfl
  by_cases g9 : c = 37
  · subst g9; rfl
  rw [if_neg g0, if_neg g1, if_neg g2, if_neg g3, if_neg g4, if_neg g5, if_neg g6, if_neg g7, if_neg g8, if_neg g9]
  have hm : markB c = false := by
    unfold markB
    rw [beq_eq_false_iff_ne.mpr g0, beq_eq_false_iff_ne.mpr g1, beq_eq_false_iff_ne.mpr g2, beq_eq_false_iff_ne.mpr g3, beq_eq_false_iff_ne.mpr g4, beq_eq_false_iff_ne.mpr g5, beq_eq_false_iff_ne.mpr g6, beq_eq_false_iff_ne.mpr g7, beq_eq_false_iff_ne.mpr g8, beq_eq_false_iff_ne.mpr g9]
    rfl
  rw [hm]
  rfl
theorem of_two (c : Int) (k : Nat) (hk : 1 ≤ k) : ∃ t, lex_of.f k c = some t ∧ (t = 2 ↔ otherB c = true) := by
  refine ⟨_, of_f14 c k hk, ?_⟩
  unfold otherB
  cases whiteB c <;> cases markB c <;> decide
def twoOk (n : Nat) : Bool := match lex_two.f (n : Int), erasureref14_two.f (n : Int) with
  | some a, some b => a.data.toList == b.data.toList && a.data.toList.length == 2
  | _, _ => false
set_option maxRecDepth 100000 in
theorem two_all : (List.range 256).all twoOk = true := by decide
theorem two_f (c : Int) (h0 : 0 ≤ c) (h1 : c ≤ 255) : ∃ z : ByteArray, lex_two.f c = some z ∧ erasureref14_two.f c = some z ∧ z.size = 2 := by
  obtain ⟨n, rfl⟩ := Int.eq_ofNat_of_zero_le h0
  have h := List.all_eq_true.1 two_all n (List.mem_range.2 (by omega))
  unfold twoOk at h
  cases ha : lex_two.f (n : Int) with
  | none => simp [ha] at h
  | some a =>
    cases hb : erasureref14_two.f (n : Int) with
    | none => simp [ha, hb] at h
    | some b =>
      rw [ha, hb] at h
      simp only [Bool.and_eq_true, beq_iff_eq] at h
      have e : a = b := by
        exact ByteArray.ext (Array.toList_inj.1 h.1)
      subst e
      refine ⟨a, rfl, rfl, ?_⟩
      rw [← h.2, Array.length_toList]
      rfl
end Go.Proofs.YtnhgnejfagncpaaDoor.Plain
end
section
namespace Go.Proofs.YtnhgnejfagncpaaDoor.Plain
open Go Go.RowKit Go.Proofs.YtnhgnejfagncpaaDoorW.PrintWords
set_option linter.unusedVariables false
def u8L (l : List Int) : List UInt8 := l.map fun n => UInt8.ofNat n.toNat
end Go.Proofs.YtnhgnejfagncpaaDoor.Plain
end
section
namespace Go.Proofs.YtnhgnejfagncpaaDoor.Plain
open Go Go.RowKit Go.Proofs.YtnhgnejfagncpaaDoorW.PrintWords
set_option linter.unusedVariables false
def I8 (l : List UInt8) : List Int := l.map fun c => (c.toNat : Int)
theorem u8_i8 (l : List UInt8) : u8L (I8 l) = l := by
  unfold u8L I8
  rw [List.map_map]
  conv => rhs; rw [← List.map_id l]
  refine List.map_congr_left fun c _ => ?_
  show UInt8.ofNat ((c.toNat : Int).toNat) = c
  rw [Int.toNat_natCast]
  exact UInt8.ofNat_toNat
def hx (n : Int) : Int := if n < 10 then 48 + n else 87 + n
def keepB (c : Int) : Bool := otherB c && c != 35 && decide (32 < c) && decide (c ≤ 126)
def escN : List Int → List Int
  | [] => []
  | c :: t => if keepB c = true then c :: escN t else 35 :: hx (c / 16) :: hx (c % 16) :: escN t
def hexN : List Int → List Int
  | [] => []
  | c :: t => hx (c / 16) :: hx (c % 16) :: hexN t
def RightT (kind M S : Int) (s : List Int) : Prop :=
  if kind = 1 then Good M S ∧ s = [] else M = 0 ∧ S = 0 ∧
  (if kind = 2 then (∀ c ∈ s, c ≠ 0) else if kind = 3 then True else if kind = 4 then s ≠ [] ∧ s.length ≤ 127 ∧ (∀ c ∈ s, otherB c = true) ∧ (parseL (u8L s)).2.2 = 4 else 0 ≤ kind ∧ kind ≤ 8 ∧ s = [])
instance (kind M S : Int) (s : List Int) : Decidable (RightT kind M S s) := by unfold RightT; infer_instance
def prL (kind M S : Int) (s : List Int) : List Int :=
  if kind = 1 then I8 (printL M S.toNat) else if kind = 2 then 47 :: escN s else if kind = 3 then 60 :: (hexN s ++ [62]) else if kind = 4 then s
  else if kind = 5 then [91] else if kind = 6 then [93] else if kind = 7 then [60, 60] else if kind = 8 then [62, 62] else []
end Go.Proofs.YtnhgnejfagncpaaDoor.Plain
end
section
namespace Go.Proofs.YtnhgnejfagncpaaDoor.Plain
open Go Go.RowKit Go.Proofs.YtnhgnejfagncpaaDoorW.PrintWords Go.Proofs.YtnhgnejfagncpaaDoor.H Go.Proofs.YtnhgnejfagncpaaDoor.A Go.Proofs.YtnhgnejfagncpaaDoor.B Go.Proofs.YtnhgnejfagncpaaDoor.E Go.Proofs.YtnhgnejfagncpaaDoor.L Go.Proofs.YtnhgnejfagncpaaDoor.M Go.Proofs.YtnhgnejfagncpaaDoor.P
set_option linter.unusedVariables false
theorem dc {p q : Prop} [Decidable p] [Decidable q] (h : p ↔ q) : decide p = decide q := by rw [Bool.eq_iff_iff, decide_eq_true_iff, decide_eq_true_iff]; exact h
def nb (s : ByteArray) : List Int := I8 s.data.toList
def bs (l : List Int) : ByteArray := ⟨(u8L l).toArray⟩
theorem bs_nb (s : ByteArray) : bs (nb s) = s := by unfold bs nb; rw [u8_i8]
theorem nb_len (s : ByteArray) : (nb s).length = s.size := by unfold nb I8; rw [List.length_map]; exact Array.length_toList
theorem u8_app (a b : List Int) : u8L (a ++ b) = u8L a ++ u8L b := List.map_append ..
theorem bs_app (a b : List Int) : bs a ++ bs b = bs (a ++ b) := by unfold bs; rw [bytes_app, u8_app]
theorem bs_len (l : List Int) : (bs l).size = l.length := by unfold bs; rw [bytes_size]; exact List.length_map ..
theorem drop_at (s : ByteArray) (i : Nat) (c : UInt8) (r : List UInt8) (h : s.data.toList.drop i = c :: r) : bt s (i : Int) = (c.toNat : Int) ∧ i < s.size ∧ s.data.toList.drop (i + 1) = r := by
  have hsz : s.data.toList.length = s.size := Array.length_toList
  have hlt : i < s.size := by
    rcases Nat.lt_or_ge i s.size with h2 | h2
    · exact h2
    · rw [List.drop_eq_nil_iff.2 (by omega)] at h; cases h
  have hc : s.data.toList[i]? = some c := by
    have := congrArg (·[0]?) h
    simpa using this
  exact ⟨bt_get s i c hc, hlt, by rw [← List.drop_drop, h]; rfl⟩
theorem drop_end (s : ByteArray) (i : Nat) (hi : i ≤ s.size) (h : s.data.toList.drop i = []) : i = s.size := by
  have hsz : s.data.toList.length = s.size := Array.length_toList
  have := List.drop_eq_nil_iff.1 h
  omega
theorem plain_l0 (s : ByteArray) : ∀ (rest : List UInt8) (i k : Nat), s.data.toList.drop i = rest → i ≤ s.size → rest.length + 2 ≤ k → lex_plain.l0 k s (i : Int) = some ((I8 rest).all otherB) := by
  intro rest
  induction rest with
  | nil =>
    intro i k h hi hk
    obtain ⟨k, rfl⟩ : ∃ q, k = q + 1 := ⟨k - 1, by omega⟩
    have := drop_end s i hi h
    rw [lex_plain.l0, if_neg (by omega)]
    rfl
  | cons c r ih =>
    intro i k h hi hk
    obtain ⟨k, rfl⟩ : ∃ q, k = q + 1 := ⟨k - 1, by omega⟩
    rw [List.length_cons] at hk
    obtain ⟨hb, hlt, hr⟩ := drop_at s i c r h
    obtain ⟨t, ht, hiff⟩ := of_two (c.toNat : Int) k (by omega)
    rw [lex_plain.l0, if_pos (by omega), hb, ht, Option.bind_some]
    have e : (I8 (c :: r)).all otherB = (otherB (c.toNat : Int) && (I8 r).all otherB) := rfl
    by_cases h2 : t = 2
    · rw [if_pos h2, e, hiff.1 h2, Bool.true_and]
      exact ih (i + 1) k hr (by omega) (by omega)
    · have : otherB (c.toNat : Int) = false := by
        cases hq : otherB (c.toNat : Int) with
        | false => rfl
        | true => exact absurd (hiff.2 hq) h2
      rw [if_neg h2, e, this, Bool.false_and]
theorem word_l0 (s : ByteArray) (hs : s.size ≤ 500) : ∀ (rest : List UInt8) (i k : Nat), s.data.toList.drop i = rest → i ≤ s.size → rest.length + 5001 ≤ k →
    erasureref14_Word.l0 k s (i : Int) = some ((I8 rest).all otherB && decide (1 ≤ s.size ∧ s.size ≤ 127 ∧ (parseL s.data.toList).2.2 = 4)) := by
  intro rest
  induction rest with
  | nil =>
    intro i k h hi hk
    obtain ⟨k, rfl⟩ : ∃ q, k = q + 1 := ⟨k - 1, by omega⟩
    have := drop_end s i hi h
    rw [erasureref14_Word.l0, if_neg (by omega), parse_ref s hs k (by omega), Option.bind_some]
    show _ = some (true && _)
    rw [Bool.true_and]
    by_cases h1 : s.size ≥ 1
    · rw [if_pos (by omega)]
      by_cases h2 : s.size ≤ 127
      · rw [if_pos (by omega)]
        congr 1
        rw [Bool.eq_iff_iff, beq_iff_eq, decide_eq_true_iff]
        exact ⟨fun h => ⟨h1, h2, h⟩, fun h => h.2.2⟩
      · rw [if_neg (by omega), decide_eq_false (fun h => h2 h.2.1)]
    · rw [if_neg (by omega), decide_eq_false (fun h => h1 h.1)]
  | cons c r ih =>
    intro i k h hi hk
    obtain ⟨k, rfl⟩ : ∃ q, k = q + 1 := ⟨k - 1, by omega⟩
    rw [List.length_cons] at hk
    obtain ⟨hb, hlt, hr⟩ := drop_at s i c r h
    have e : (I8 (c :: r)).all otherB = (otherB (c.toNat : Int) && (I8 r).all otherB) := rfl
    rw [erasureref14_Word.l0, if_pos (by omega), if_pos (by omega), hb, other_f, Option.bind_some, e]
    cases hq : otherB (c.toNat : Int) with
    | true =>
      rw [if_pos rfl, wsm _ (by omega) (by omega), Bool.true_and]
      exact ih (i + 1) k hr (by omega) (by omega)
    | false => rw [if_neg (by decide), Bool.false_and]; rfl
theorem name_l0 (s : ByteArray) (hs : s.size ≤ 500) : ∀ (rest : List UInt8) (i k : Nat), s.data.toList.drop i = rest → i ≤ s.size → rest.length + 1 ≤ k →
    erasureref14_Name.l0 k s (i : Int) = some (decide (∀ c ∈ I8 rest, c ≠ 0)) := by
  intro rest
  induction rest with
  | nil =>
    intro i k h hi hk
    obtain ⟨k, rfl⟩ : ∃ q, k = q + 1 := ⟨k - 1, by omega⟩
    have := drop_end s i hi h
    rw [erasureref14_Name.l0, if_neg (by omega), decide_eq_true (by omega), decide_eq_true (fun c hc => by cases hc)]
  | cons c r ih =>
    intro i k h hi hk
    obtain ⟨k, rfl⟩ : ∃ q, k = q + 1 := ⟨k - 1, by omega⟩
    rw [List.length_cons] at hk
    obtain ⟨hb, hlt, hr⟩ := drop_at s i c r h
    rw [erasureref14_Name.l0, if_pos (by omega), if_pos (by omega), hb]
    by_cases h0 : (c.toNat : Int) = 0
    · rw [if_pos h0, decide_eq_false (fun h => h _ (List.mem_cons_self ..) h0)]
    · rw [if_neg h0, wsm _ (by omega) (by omega)]
      refine (ih (i + 1) k hr (by omega) (by omega)).trans ?_
      congr 1
      rw [Bool.eq_iff_iff, decide_eq_true_iff, decide_eq_true_iff]
      constructor
      · intro h x hx
        rcases List.mem_cons.1 hx with rfl | hx
        · exact h0
        · exact h x hx
      · exact fun h x hx => h x (List.mem_cons_of_mem _ hx)
theorem index_zero : ∀ (l : List UInt8), decide (Lib.indexByte l 0 < 0) = decide (∀ c ∈ I8 l, c ≠ 0)
  | [] => rfl
  | c :: t => by
    have ih := index_zero t
    have hr := indexByte_range t 0
    rw [Lib.indexByte]
    by_cases h0 : c = 0
    · subst h0
      rw [if_pos (by rfl), decide_eq_false (by decide), decide_eq_false]
      exact fun h => h 0 (List.mem_cons_self ..) rfl
    · have hc : (c.toNat : Int) ≠ 0 := fun h => h0 (UInt8.toNat_inj.1 (by show c.toNat = 0; omega))
      rw [if_neg (by rw [beq_iff_eq]; exact h0)]
      rw [Bool.eq_iff_iff, decide_eq_true_iff, decide_eq_true_iff] at ih ⊢
      have e : (∀ x ∈ I8 (c :: t), x ≠ 0) ↔ ∀ x ∈ I8 t, x ≠ 0 := ⟨fun h x hx => h x (List.mem_cons_of_mem _ hx), fun h x hx => by
        rcases List.mem_cons.1 hx with rfl | hx
        · exact hc
        · exact h x hx⟩
      rw [e, ← ih]
      by_cases h1 : Lib.indexByte t 0 = -1
      · rw [if_pos (by rw [beq_iff_eq]; exact h1), h1]
      · rw [if_neg (by rw [beq_iff_eq]; exact h1)]
        omega
theorem empty_iff (s : ByteArray) : (s.toList == ([] : List UInt8)) = decide (nb s = []) := by
  rw [ByteArray.toList_eq, Bool.eq_iff_iff, beq_iff_eq, decide_eq_true_iff]
  unfold nb I8
  rw [List.map_eq_nil_iff]
theorem all_iff (l : List Int) : (l.all otherB = true) ↔ ∀ c ∈ l, otherB c = true := List.all_eq_true
theorem zero_iff (M S : Int) : ((M == 0 && (S == 0)) = true) ↔ M = 0 ∧ S = 0 := by rw [Bool.and_eq_true, beq_iff_eq, beq_iff_eq]
theorem rightT_1 (M S : Int) (s : List Int) : RightT 1 M S s ↔ Good M S ∧ s = [] := by unfold RightT; rw [if_pos rfl]
theorem rightT_2 (M S : Int) (s : List Int) : RightT 2 M S s ↔ M = 0 ∧ S = 0 ∧ ∀ c ∈ s, c ≠ 0 := by unfold RightT; rw [if_neg (by decide), if_pos rfl]
theorem rightT_3 (M S : Int) (s : List Int) : RightT 3 M S s ↔ M = 0 ∧ S = 0 := by unfold RightT; rw [if_neg (by decide), if_neg (by decide), if_pos rfl, and_true]
theorem rightT_4 (M S : Int) (s : List Int) : RightT 4 M S s ↔ M = 0 ∧ S = 0 ∧ s ≠ [] ∧ s.length ≤ 127 ∧ (∀ c ∈ s, otherB c = true) ∧ (parseL (u8L s)).2.2 = 4 := by unfold RightT; rw [if_neg (by decide), if_neg (by decide), if_neg (by decide), if_pos rfl]
theorem rightT_5 (kind M S : Int) (s : List Int) (h1 : kind ≠ 1) (h2 : kind ≠ 2) (h3 : kind ≠ 3) (h4 : kind ≠ 4) : RightT kind M S s ↔ M = 0 ∧ S = 0 ∧ 0 ≤ kind ∧ kind ≤ 8 ∧ s = [] := by unfold RightT; rw [if_neg h1, if_neg h2, if_neg h3, if_neg h4]
theorem check_lex (kind M S : Int) (s : ByteArray) (hs : s.size ≤ 500) (k : Nat) (hk : 600 ≤ k) : lex_check.f k kind M S s = some (decide (RightT kind M S (nb s))) := by
  have hsz : s.data.toList.length = s.size := Array.length_toList
  have hnil : s.toList = ([] : List UInt8) ↔ nb s = [] := by
    have := empty_iff s
    rw [Bool.eq_iff_iff, beq_iff_eq, decide_eq_true_iff] at this
    exact this
  unfold lex_check.f
  by_cases k1 : kind = 1
  · subst k1
    rw [if_pos rfl, check_f, Option.bind_some, dc (rightT_1 M S (nb s))]
    by_cases hg : Good M S
    · rw [if_pos hg, if_pos rfl, empty_iff]
      congr 1
      exact dc ⟨fun h => ⟨hg, h⟩, fun h => h.2⟩
    · rw [if_neg hg, if_neg (by decide), decide_eq_false (fun h => hg h.1)]
  rw [if_neg k1]
  by_cases k2 : kind = 2
  · subst k2
    rw [if_pos rfl, dc (rightT_2 M S (nb s))]
    by_cases hz : (M == 0 && (S == 0)) = true
    · have h2 := (zero_iff M S).1 hz
      rw [if_pos hz, if_pos (by omega)]
      show some (decide (Lib.indexByte s.data.toList 0 < 0)) = _
      rw [index_zero]
      congr 1
      exact dc ⟨fun h => ⟨h2.1, h2.2, h⟩, fun h => h.2.2⟩
    · rw [if_neg hz, decide_eq_false (fun h => hz ((zero_iff M S).2 ⟨h.1, h.2.1⟩))]
  rw [if_neg k2]
  by_cases k3 : kind = 3
  · subst k3
    rw [if_pos rfl, dc (rightT_3 M S (nb s))]
    by_cases hz : (M == 0 && (S == 0)) = true
    · rw [if_pos hz, decide_eq_true (show ((s.size : Int) ≤ 65535) from by omega), decide_eq_true ((zero_iff M S).1 hz)]
    · rw [if_neg hz, decide_eq_false (fun h => hz ((zero_iff M S).2 h))]
  rw [if_neg k3]
  by_cases k4 : kind = 4
  · subst k4
    rw [if_pos rfl, parse_f s k (by omega), Option.bind_some, dc (rightT_4 M S (nb s))]
    by_cases hz : (M == 0 && (S == 0)) = true
    · have h2 := (zero_iff M S).1 hz
      rw [if_pos hz]
      by_cases he : s.toList = ([] : List UInt8)
      · rw [if_pos he, decide_eq_false (fun h => h.2.2.1 (hnil.1 he))]
      rw [if_neg he]
      by_cases h127 : s.size ≤ 127
      · have hp : lex_plain.f k s = some ((nb s).all otherB) := by
          unfold lex_plain.f
          rw [if_pos (by omega)]
          exact plain_l0 s s.data.toList 0 k List.drop_zero (Nat.zero_le _) (by omega)
        rw [if_pos (by omega), hp, Option.bind_some]
        by_cases ha : (nb s).all otherB = true
        · rw [if_pos ha]
          congr 1
          rw [Bool.eq_iff_iff, beq_iff_eq, decide_eq_true_iff, show u8L (nb s) = s.data.toList from u8_i8 _, nb_len]
          exact ⟨fun h => ⟨h2.1, h2.2, fun e => he (hnil.2 e), h127, (all_iff _).1 ha, h⟩, fun h => h.2.2.2.2.2⟩
        · rw [if_neg ha, decide_eq_false (fun h => ha ((all_iff _).2 h.2.2.2.2.1))]
      · rw [if_neg (by omega), decide_eq_false (fun h => h127 (by have := h.2.2.2.1; rw [nb_len] at this; exact this))]
    · rw [if_neg hz, decide_eq_false (fun h => hz ((zero_iff M S).2 ⟨h.1, h.2.1⟩))]
  rw [if_neg k4, dc (rightT_5 kind M S (nb s) k1 k2 k3 k4)]
  by_cases hz : (M == 0 && (S == 0)) = true
  · have h2 := (zero_iff M S).1 hz
    rw [if_pos hz]
    by_cases h0 : kind ≥ 0
    · rw [if_pos h0]
      by_cases h8 : kind ≤ 8
      · rw [if_pos h8, empty_iff]
        congr 1
        exact dc ⟨fun h => ⟨h2.1, h2.2, h0, h8, h⟩, fun h => h.2.2.2.2⟩
      · rw [if_neg h8, decide_eq_false (fun h => h8 h.2.2.2.1)]
    · rw [if_neg h0, decide_eq_false (fun h => h0 h.2.2.1)]
  · rw [if_neg hz, decide_eq_false (fun h => hz ((zero_iff M S).2 ⟨h.1, h.2.1⟩))]
theorem right_ref14 (kind M S : Int) (s : ByteArray) (hs : s.size ≤ 500) (k : Nat) (hk : 6000 ≤ k) : erasureref14_Right.f k kind M S s = some (decide (RightT kind M S (nb s))) := by
  have hsz : s.data.toList.length = s.size := Array.length_toList
  have hz2 : ((!(M == 0) || (!(S == 0))) = true) ↔ ¬ (M = 0 ∧ S = 0) := by
    rw [← zero_iff]
    cases (M == 0) <;> cases (S == 0) <;> decide
  unfold erasureref14_Right.f
  by_cases k1 : kind = 1
  · subst k1
    rw [if_pos rfl, right_ref, Option.bind_some, dc (rightT_1 M S (nb s))]
    by_cases hg : Good M S
    · rw [if_pos (decide_eq_true hg), empty_iff]
      congr 1
      exact dc ⟨fun h => ⟨hg, h⟩, fun h => h.2⟩
    · rw [if_neg (by rw [decide_eq_true_iff]; exact hg), decide_eq_false (fun h => hg h.1)]
  rw [if_neg k1]
  by_cases hz : (!(M == 0) || (!(S == 0))) = true
  · rw [if_pos hz, decide_eq_false]
    intro h
    refine hz2.1 hz ?_
    unfold RightT at h
    rw [if_neg k1] at h
    exact ⟨h.1, h.2.1⟩
  have h2 : M = 0 ∧ S = 0 := Classical.not_not.1 fun h => hz (hz2.2 h)
  rw [if_neg hz]
  by_cases k2 : kind = 2
  · subst k2
    rw [if_pos rfl, dc (rightT_2 M S (nb s))]
    have := name_l0 s hs s.data.toList 0 k List.drop_zero (Nat.zero_le _) (by omega)
    unfold erasureref14_Name.f
    rw [show (0 : Int) = ((0 : Nat) : Int) from rfl, this, Option.bind_some]
    congr 1
    exact dc ⟨fun h => ⟨h2.1, h2.2, h⟩, fun h => h.2.2⟩
  rw [if_neg k2]
  by_cases k3 : kind = 3
  · subst k3
    rw [if_pos rfl, dc (rightT_3 M S (nb s)), decide_eq_true (show ((s.size : Int) ≤ 65535) from by omega), decide_eq_true h2]
  rw [if_neg k3]
  by_cases k4 : kind = 4
  · subst k4
    rw [if_pos rfl, dc (rightT_4 M S (nb s))]
    have := word_l0 s hs s.data.toList 0 k List.drop_zero (Nat.zero_le _) (by omega)
    unfold erasureref14_Word.f
    rw [show (0 : Int) = ((0 : Nat) : Int) from rfl, this, Option.bind_some]
    congr 1
    rw [Bool.eq_iff_iff, Bool.and_eq_true, decide_eq_true_iff, decide_eq_true_iff, show u8L (nb s) = s.data.toList from u8_i8 _, nb_len]
    have hne : nb s ≠ [] ↔ 1 ≤ s.size := by
      rw [← nb_len]
      constructor
      · intro h
        rcases Nat.eq_zero_or_pos (nb s).length with h3 | h3
        · exact absurd (List.length_eq_zero_iff.1 h3) h
        · exact h3
      · intro h e
        rw [e] at h
        exact absurd h (by decide)
    rw [hne]
    exact ⟨fun h => ⟨h2.1, h2.2, h.2.1, h.2.2.1, (all_iff _).1 h.1, h.2.2.2⟩, fun h => ⟨(all_iff _).2 h.2.2.2.2.1, h.2.2.1, h.2.2.2.1, h.2.2.2.2.2⟩⟩
  rw [if_neg k4, dc (rightT_5 kind M S (nb s) k1 k2 k3 k4)]
  by_cases h0 : kind ≥ 0
  · rw [if_pos h0]
    by_cases h8 : kind ≤ 8
    · rw [if_pos h8, empty_iff]
      congr 1
      exact dc ⟨fun h => ⟨h2.1, h2.2, h0, h8, h⟩, fun h => h.2.2.2.2⟩
    · rw [if_neg h8, decide_eq_false (fun h => h8 h.2.2.2.1)]
  · rw [if_neg h0, decide_eq_false (fun h => h0 h.2.2.1)]
def twoV (n : Nat) : Bool := match lex_two.f (n : Int) with
  | some a => a.data.toList == u8L [hx ((n : Int) / 16), hx ((n : Int) % 16)]
  | _ => false
set_option maxRecDepth 100000 in
theorem twoV_all : (List.range 256).all twoV = true := by decide
theorem two_v (c : UInt8) : lex_two.f (c.toNat : Int) = some (bs [hx ((c.toNat : Int) / 16), hx ((c.toNat : Int) % 16)]) ∧ erasureref14_two.f (c.toNat : Int) = some (bs [hx ((c.toNat : Int) / 16), hx ((c.toNat : Int) % 16)]) := by
  have hc := c.toNat_lt
  have h := List.all_eq_true.1 twoV_all c.toNat (List.mem_range.2 (by omega))
  obtain ⟨z, z1, z2, z3⟩ := two_f (c.toNat : Int) (by omega) (by omega)
  unfold twoV at h
  rw [z1] at h
  have e : z = bs [hx ((c.toNat : Int) / 16), hx ((c.toNat : Int) % 16)] := by
    refine ByteArray.ext (Array.toList_inj.1 ?_)
    exact beq_iff_eq.1 h
  rw [z1, z2, e]
  exact ⟨rfl, rfl⟩
theorem esc_cons (c : UInt8) (r : List UInt8) : escN (I8 (c :: r)) = (if keepB (c.toNat : Int) = true then [(c.toNat : Int)] else [35, hx ((c.toNat : Int) / 16), hx ((c.toNat : Int) % 16)]) ++ escN (I8 r) := by
  show (if keepB (c.toNat : Int) = true then _ else _) = _
  split <;> rfl
theorem u8_one (c : UInt8) : u8L [(c.toNat : Int)] = [c] := by
  have := u8_i8 [c]
  exact this
theorem keep_parts (c : Int) : keepB c = true ↔ otherB c = true ∧ c ≠ 35 ∧ 32 < c ∧ c ≤ 126 := by
  unfold keepB
  rw [Bool.and_eq_true, Bool.and_eq_true, Bool.and_eq_true, bne_iff_ne, decide_eq_true_iff, decide_eq_true_iff, and_assoc, and_assoc]
theorem ln_f (s : ByteArray) (hs : s.size ≤ 500) : ∀ (rest : List UInt8) (i : Nat) (acc : List UInt8) (k : Nat), s.data.toList.drop i = rest → i ≤ s.size → acc.length ≤ 3 * i + 10 → rest.length + 2 ≤ k →
    lex_Print.ln k s (i : Int) acc = some (acc ++ u8L (escN (I8 rest))) := by
  intro rest
  induction rest with
  | nil =>
    intro i acc k h hi ha hk
    obtain ⟨k, rfl⟩ : ∃ q, k = q + 1 := ⟨k - 1, by omega⟩
    have := drop_end s i hi h
    rw [lex_Print.ln, if_neg (by omega)]
    show some acc = some (acc ++ [])
    rw [List.append_nil]
  | cons c r ih =>
    intro i acc k h hi ha hk
    obtain ⟨k, rfl⟩ : ∃ q, k = q + 1 := ⟨k - 1, by omega⟩
    rw [List.length_cons] at hk
    obtain ⟨hb, hlt, hr⟩ := drop_at s i c r h
    obtain ⟨t, ht, hiff⟩ := of_two (c.toNat : Int) k (by omega)
    have hkp := keep_parts (c.toNat : Int)
    have hz : ¬ keepB (c.toNat : Int) = true → lex_Print.ln.lz (fun a => lex_Print.ln k s ((i : Int) + 1) a) s (i : Int) acc = some (acc ++ u8L (escN (I8 (c :: r)))) := fun hn => by
      unfold lex_Print.ln.lz
      rw [hb, (two_v c).1, Option.bind_some, if_pos (by rw [bs_len]; show 2 ≤ 100; decide)]
      have e2 : acc ++ 35 :: (bs [hx ((c.toNat : Int) / 16), hx ((c.toNat : Int) % 16)]).data.toList = acc ++ u8L [35, hx ((c.toNat : Int) / 16), hx ((c.toNat : Int) % 16)] := rfl
      have := ih (i + 1) (acc ++ u8L [35, hx ((c.toNat : Int) / 16), hx ((c.toNat : Int) % 16)]) k hr (by omega) (by rw [List.length_append]; show _ + 3 ≤ _; omega) (by omega)
      rw [esc_cons, if_neg hn, u8_app, ← List.append_assoc]
      show lex_Print.ln k s ((i : Int) + 1) (acc ++ 35 :: (bs [hx ((c.toNat : Int) / 16), hx ((c.toNat : Int) % 16)]).data.toList) = _
      rw [e2]
      exact this
    rw [lex_Print.ln, if_pos (by omega), if_pos (by omega), hb, ht, Option.bind_some]
    by_cases h2 : t = 2
    · rw [if_pos h2]
      by_cases h35 : (c.toNat : Int) = 35
      · rw [if_pos h35]
        exact hz (fun h => (hkp.1 h).2.1 h35)
      · rw [if_neg h35]
        by_cases h32 : (32 : Int) < c.toNat
        · rw [if_pos h32]
          by_cases h126 : (c.toNat : Int) ≤ 126
          · rw [if_pos h126, Int.toNat_natCast]
            have hy := hkp.2 ⟨hiff.1 h2, h35, h32, h126⟩
            rw [esc_cons, if_pos hy, u8_app, u8_one, ← List.append_assoc, UInt8.ofNat_toNat]
            exact ih (i + 1) (acc ++ [c]) k hr (by omega) (by rw [List.length_append]; show _ + 1 ≤ _; omega) (by omega)
          · rw [if_neg h126]
            exact hz (fun h => h126 (hkp.1 h).2.2.2)
        · rw [if_neg h32]
          exact hz (fun h => h32 (hkp.1 h).2.2.1)
    · rw [if_neg h2]
      exact hz (fun h => h2 (hiff.2 (hkp.1 h).1))
theorem hex_cons (c : UInt8) (r : List UInt8) : hexN (I8 (c :: r)) = [hx ((c.toNat : Int) / 16), hx ((c.toNat : Int) % 16)] ++ hexN (I8 r) := rfl
theorem lt_f (s : ByteArray) (hs : s.size ≤ 500) : ∀ (rest : List UInt8) (i : Nat) (acc : List UInt8) (k : Nat), s.data.toList.drop i = rest → i ≤ s.size → acc.length ≤ 3 * i + 10 → rest.length + 2 ≤ k →
    lex_Print.lt k s (i : Int) acc = some (acc ++ u8L (hexN (I8 rest))) := by
  intro rest
  induction rest with
  | nil =>
    intro i acc k h hi ha hk
    obtain ⟨k, rfl⟩ : ∃ q, k = q + 1 := ⟨k - 1, by omega⟩
    have := drop_end s i hi h
    rw [lex_Print.lt, if_neg (by omega)]
    show some acc = some (acc ++ [])
    rw [List.append_nil]
  | cons c r ih =>
    intro i acc k h hi ha hk
    obtain ⟨k, rfl⟩ : ∃ q, k = q + 1 := ⟨k - 1, by omega⟩
    rw [List.length_cons] at hk
    obtain ⟨hb, hlt, hr⟩ := drop_at s i c r h
    have := ih (i + 1) (acc ++ u8L [hx ((c.toNat : Int) / 16), hx ((c.toNat : Int) % 16)]) k hr (by omega) (by rw [List.length_append]; show _ + 2 ≤ _; omega) (by omega)
    rw [lex_Print.lt, if_pos (by omega), if_pos (by omega), hb, (two_v c).1, Option.bind_some, if_pos (by rw [bs_len]; show 2 ≤ 100; decide), hex_cons, u8_app, ← List.append_assoc]
    exact this
theorem ref_l0 (s : ByteArray) (hs : s.size ≤ 500) (kind M S : Int) : ∀ (rest : List UInt8) (i : Nat) (A : List Int) (k : Nat), s.data.toList.drop i = rest → i ≤ s.size → A.length ≤ 3 * i + 10 → rest.length + 2 ≤ k →
    erasureref14_Print.l0 k (bs A) (i : Int) kind M S s = some (bs (A ++ escN (I8 rest)), 0) := by
  intro rest
  induction rest with
  | nil =>
    intro i A k h hi ha hk
    obtain ⟨k, rfl⟩ : ∃ q, k = q + 1 := ⟨k - 1, by omega⟩
    have := drop_end s i hi h
    rw [erasureref14_Print.l0, if_neg (by omega)]
    show some (bs A, 0) = some (bs (A ++ []), 0)
    rw [List.append_nil]
  | cons c r ih =>
    intro i A k h hi ha hk
    obtain ⟨k, rfl⟩ : ∃ q, k = q + 1 := ⟨k - 1, by omega⟩
    rw [List.length_cons] at hk
    obtain ⟨hb, hlt, hr⟩ := drop_at s i c r h
    have hw : wrap64 ((i : Int) + 1) = ((i + 1 : Nat) : Int) := by rw [wsm _ (by omega) (by omega)]; omega
    have hkp := keep_parts (c.toNat : Int)
    have e35 : (⟨#[35]⟩ : ByteArray) = bs [35] := rfl
    have hz : ¬ keepB (c.toNat : Int) = true → (if (bs A).size + 1 ≤ 9223372036854775807 then ((erasureref14_two.f (c.toNat : Int)).bind fun t293 => (if (bs A ++ (⟨#[35]⟩ : ByteArray)).size + t293.size ≤ 9223372036854775807 then (erasureref14_Print.l0 k ((bs A ++ (⟨#[35]⟩ : ByteArray)) ++ t293) (wrap64 ((i : Int) + 1)) kind M S s) else (none))) else (none)) = some (bs (A ++ escN (I8 (c :: r))), 0) := fun hn => by
      have := ih (i + 1) (A ++ [35, hx ((c.toNat : Int) / 16), hx ((c.toNat : Int) % 16)]) k hr (by omega) (by rw [List.length_append]; show _ + 3 ≤ _; omega) (by omega)
      rw [bs_len, if_pos (by omega), (two_v c).2, Option.bind_some, e35, bs_app, bs_len, bs_len, List.length_append, if_pos (by show _ + 1 + 2 ≤ _; omega), bs_app, hw, esc_cons, if_neg hn, ← List.append_assoc A]
      rw [show A ++ [35] ++ [hx ((c.toNat : Int) / 16), hx ((c.toNat : Int) % 16)] = A ++ [35, hx ((c.toNat : Int) / 16), hx ((c.toNat : Int) % 16)] from List.append_assoc ..]
      exact this
    rw [erasureref14_Print.l0, if_pos (by omega), if_pos (by omega), hb, other_f, Option.bind_some]
    cases ho : otherB (c.toNat : Int) with
    | true =>
      rw [if_pos rfl]
      by_cases h35 : (c.toNat : Int) = 35
      · rw [if_pos h35]
        exact hz (fun h => (hkp.1 h).2.1 h35)
      rw [if_neg h35]
      by_cases h33 : (c.toNat : Int) < 33
      · rw [if_pos h33]
        exact hz (fun h => by have := (hkp.1 h).2.2.1; omega)
      rw [if_neg h33]
      by_cases h126 : (c.toNat : Int) > 126
      · rw [if_pos h126]
        exact hz (fun h => by have := (hkp.1 h).2.2.2; omega)
      rw [if_neg h126]
      have hy := hkp.2 ⟨ho, h35, by omega, by omega⟩
      have hx1 : s.extract ((i : Nat) : Int).toNat ((i + 1 : Nat) : Int).toNat = bs [(c.toNat : Int)] := by
        rw [Int.toNat_natCast, Int.toNat_natCast]
        refine ByteArray.ext (Array.toList_inj.1 ?_)
        rw [show (bs [(c.toNat : Int)]).data.toList = [c] from u8_one c, ByteArray.data_extract, Array.toList_extract, List.extract_eq_take_drop, h, show i + 1 - i = 1 from by omega]
        rfl
      rw [hw, if_pos (by omega), if_pos (by omega), hx1, bs_len, bs_len, if_pos (by show _ + 1 ≤ _; omega), bs_app, esc_cons, if_pos hy, ← List.append_assoc]
      exact ih (i + 1) (A ++ [(c.toNat : Int)]) k hr (by omega) (by rw [List.length_append]; show _ + 1 ≤ _; omega) (by omega)
    | false =>
      rw [if_neg (by decide)]
      exact hz (fun h => by have := (hkp.1 h).1; rw [ho] at this; cases this)
theorem ref_l1 (s : ByteArray) (hs : s.size ≤ 500) (kind M S : Int) : ∀ (rest : List UInt8) (i : Nat) (A : List Int) (k : Nat), s.data.toList.drop i = rest → i ≤ s.size → A.length ≤ 3 * i + 10 → rest.length + 2 ≤ k →
    erasureref14_Print.l1 k (bs A) (i : Int) kind M S s = some (bs (A ++ hexN (I8 rest) ++ [62]), 0) := by
  intro rest
  induction rest with
  | nil =>
    intro i A k h hi ha hk
    obtain ⟨k, rfl⟩ : ∃ q, k = q + 1 := ⟨k - 1, by omega⟩
    have := drop_end s i hi h
    rw [erasureref14_Print.l1, if_neg (by omega), bs_len, if_pos (by omega), show (⟨#[62]⟩ : ByteArray) = bs [62] from rfl, bs_app]
    show some (bs (A ++ [62]), 0) = some (bs (A ++ [] ++ [62]), 0)
    rw [List.append_nil]
  | cons c r ih =>
    intro i A k h hi ha hk
    obtain ⟨k, rfl⟩ : ∃ q, k = q + 1 := ⟨k - 1, by omega⟩
    rw [List.length_cons] at hk
    obtain ⟨hb, hlt, hr⟩ := drop_at s i c r h
    have hw : wrap64 ((i : Int) + 1) = ((i + 1 : Nat) : Int) := by rw [wsm _ (by omega) (by omega)]; omega
    have := ih (i + 1) (A ++ [hx ((c.toNat : Int) / 16), hx ((c.toNat : Int) % 16)]) k hr (by omega) (by rw [List.length_append]; show _ + 2 ≤ _; omega) (by omega)
    rw [erasureref14_Print.l1, if_pos (by omega), if_pos (by omega), hb, (two_v c).2, Option.bind_some, bs_len, bs_len, if_pos (by show _ + 2 ≤ _; omega), bs_app, hw, hex_cons, ← List.append_assoc]
    exact this
theorem bs_i8 (l : List UInt8) : bs (I8 l) = ⟨l.toArray⟩ := by unfold bs; rw [u8_i8]
def prR (kind M S : Int) (s : ByteArray) : ByteArray × Int := if RightT kind M S (nb s) then (bs (prL kind M S (nb s)), 0) else (⟨#[]⟩, 1)
theorem print_lex (kind M S : Int) (s : ByteArray) (hs : s.size ≤ 500) (k : Nat) (hk : 6000 ≤ k) : lex_Print.f k kind M S s = some (prR kind M S s) := by
  have hsz : s.data.toList.length = s.size := Array.length_toList
  unfold lex_Print.f prR
  rw [check_lex kind M S s hs k (by omega), Option.bind_some]
  by_cases h : RightT kind M S (nb s)
  · rw [if_pos (decide_eq_true h), if_pos h]
    unfold prL
    by_cases k1 : kind = 1
    · subst k1
      obtain ⟨hg, _⟩ := (rightT_1 M S _).1 h
      obtain ⟨_, _, g3, _⟩ := id hg
      have hS : ((S.toNat : Nat) : Int) = S := Int.toNat_of_nonneg g3
      rw [if_pos rfl, if_pos rfl, bs_i8]
      have := print_f M S.toNat (by rw [hS]; exact hg) k (by omega)
      rw [hS] at this
      exact this
    rw [if_neg k1, if_neg k1]
    by_cases k2 : kind = 2
    · have := ln_f s hs s.data.toList 0 [47] k List.drop_zero (Nat.zero_le _) (by decide) (by omega)
      rw [if_pos k2, if_pos k2, if_pos (by omega), show (0 : Int) = ((0 : Nat) : Int) from rfl, this]
      rfl
    rw [if_neg k2, if_neg k2]
    by_cases k3 : kind = 3
    · have := lt_f s hs s.data.toList 0 [60] k List.drop_zero (Nat.zero_le _) (by decide) (by omega)
      have hl : (hexN (I8 s.data.toList)).length = 2 * s.size := by
        rw [← hsz]
        clear hsz this
        generalize s.data.toList = L
        induction L with
        | nil => rfl
        | cons c r ih => rw [hex_cons, List.length_append, ih, List.length_cons]; show 2 + 2 * r.length = 2 * (r.length + 1); omega
      rw [if_pos k3, if_pos k3, if_pos (by omega), show (0 : Int) = ((0 : Nat) : Int) from rfl, this, Option.bind_some, if_pos (by rw [List.length_append]; show 1 + _ < _; unfold u8L; rw [List.length_map]; omega)]
      show some ((⟨((60 :: u8L (hexN (I8 s.data.toList))) ++ [62]).toArray⟩ : ByteArray), (0 : Int)) = some (bs (60 :: (hexN (nb s) ++ [62])), 0)
      unfold bs nb
      rw [show (60 :: (hexN (I8 s.data.toList) ++ [62]) : List Int) = [60] ++ (hexN (I8 s.data.toList) ++ [62]) from rfl, u8_app, u8_app]
      rfl
    rw [if_neg k3, if_neg k3]
    by_cases k4 : kind = 4
    · rw [if_pos k4, if_pos k4, bs_nb]
    rw [if_neg k4, if_neg k4]
    by_cases k5 : kind = 5
    · rw [if_pos k5, if_pos k5]; rfl
    rw [if_neg k5, if_neg k5]
    by_cases k6 : kind = 6
    · rw [if_pos k6, if_pos k6]; rfl
    rw [if_neg k6, if_neg k6]
    by_cases k7 : kind = 7
    · rw [if_pos k7, if_pos k7]; rfl
    rw [if_neg k7, if_neg k7]
    by_cases k8 : kind = 8
    · rw [if_pos k8, if_pos k8]; rfl
    rw [if_neg k8, if_neg k8]; rfl
  · rw [if_neg (by rw [decide_eq_true_iff]; exact h), if_neg h]
theorem print_ref14 (kind M S : Int) (s : ByteArray) (hs : s.size ≤ 500) (k : Nat) (hk : 6000 ≤ k) : erasureref14_Print.f k kind M S s = some (prR kind M S s) := by
  have hsz : s.data.toList.length = s.size := Array.length_toList
  unfold erasureref14_Print.f prR
  rw [right_ref14 kind M S s hs k (by omega), Option.bind_some]
  by_cases h : RightT kind M S (nb s)
  · rw [if_pos (decide_eq_true h), if_pos h]
    unfold prL
    by_cases k1 : kind = 1
    · subst k1
      obtain ⟨hg, _⟩ := (rightT_1 M S _).1 h
      obtain ⟨_, _, g3, _⟩ := id hg
      have hS : ((S.toNat : Nat) : Int) = S := Int.toNat_of_nonneg g3
      have := print_ref M S.toNat (by rw [hS]; exact hg) k (by omega)
      rw [hS] at this
      rw [if_pos rfl, if_pos rfl, bs_i8, this]
      rfl
    rw [if_neg k1, if_neg k1]
    by_cases k2 : kind = 2
    · have := ref_l0 s hs kind M S s.data.toList 0 [47] k List.drop_zero (Nat.zero_le _) (by decide) (by omega)
      rw [if_pos k2, if_pos k2, show (⟨#[47]⟩ : ByteArray) = bs [47] from rfl, show (0 : Int) = ((0 : Nat) : Int) from rfl, this]
      rfl
    rw [if_neg k2, if_neg k2]
    by_cases k3 : kind = 3
    · have := ref_l1 s hs kind M S s.data.toList 0 [60] k List.drop_zero (Nat.zero_le _) (by decide) (by omega)
      rw [if_pos k3, if_pos k3, show (⟨#[60]⟩ : ByteArray) = bs [60] from rfl, show (0 : Int) = ((0 : Nat) : Int) from rfl, this]
      rfl
    rw [if_neg k3, if_neg k3]
    by_cases k4 : kind = 4
    · rw [if_pos k4, if_pos k4, bs_nb]
    rw [if_neg k4, if_neg k4, Option.bind_some]
    obtain ⟨_, _, h0, h8, _⟩ := (rightT_5 kind M S _ k1 k2 k3 k4).1 h
    rw [if_pos h0, if_pos (by show kind < 9; omega)]
    have hc : kind = 0 ∨ kind = 5 ∨ kind = 6 ∨ kind = 7 ∨ kind = 8 := by omega
    rcases hc with rfl | rfl | rfl | rfl | rfl <;> rfl
  · rw [if_neg (by rw [decide_eq_true_iff]; exact h), if_neg h]
end Go.Proofs.YtnhgnejfagncpaaDoor.Plain
end
section
namespace Go.Proofs.YtnhgnejfagncpaaDoor.Pure
open Go Go.RowKit Go.Proofs.YtnhgnejfagncpaaDoorW.PrintWords Go.Proofs.YtnhgnejfagncpaaDoor.Plain Go.Proofs.YtnhgnejfagncpaaDoor.L Go.Proofs.YtnhgnejfagncpaaDoor.P
set_option linter.unusedVariables false
theorem LexPrints (a0_0 : Int) (a0_1 : Int) (a0_2 : Int) (a0_3 : ByteArray) : (Lit.int .i64 a0_0).wf = true → (Lit.int .i64 a0_1).wf = true → (Lit.int .i64 a0_2).wf = true → a0_3.size ≤ maxLen → ∃ k, Q.erasurelaw14_LexPrints.f k a0_0 a0_1 a0_2 a0_3 = some true := by
  intro _ _ _ _
  refine ⟨6000, ?_⟩
  unfold Q.erasurelaw14_LexPrints.f
  by_cases h : (a0_3.size : Int) > 500
  · rw [if_pos h]
  · rw [if_neg h, print_lex _ _ _ _ (by omega) 6000 (Nat.le_refl _), Option.bind_some, print_ref14 _ _ _ _ (by omega) 6000 (Nat.le_refl _), Option.bind_some]
    rw [show erasurelaw14_awake.f = some true from rfl, Option.bind_some, if_pos rfl, if_pos rfl, beq_iff_eq.2 rfl]
end Go.Proofs.YtnhgnejfagncpaaDoor.Pure
end
section
namespace Go.Proofs.YtnhgnejfagncpaaDoor.Opened
open Go.ChangeShapes Go.WideShapes Go.RowKit Go.Deep
open Go.Proofs.YtnhgnejfagncpaaDoorW.PrintWords
set_option linter.unusedVariables false
section
variable {H : Type} {enc : TypeId × Value → H} {P : Program} {w : World} {base : Nat} {spare : Nat → Bool} {held : Bool}
def Rd {α : Type} (enc : TypeId × Value → H) (P : Program) (w : World) (base : Nat) (spare : Nat → Bool) (held : Bool) (n : Nat) (t : TypeId) (K : Kd α) (Wf : α → Prop) : Prop :=
  ∀ m, m ≤ n → ∀ cs x, DataW.trod enc P w base spare held m t cs = some x → ∃ p, K.K w p cs ∧ Wf p
theorem Rd.mono {α : Type} {n n' : Nat} {t : TypeId} {K : Kd α} {Wf : α → Prop} (h : Rd enc P w base spare held n t K Wf) (hn : n' ≤ n) : Rd enc P w base spare held n' t K Wf := fun m hm => h m (Nat.le_trans hm hn)
theorem Rd.zero {α : Type} {t : TypeId} {K : Kd α} {Wf : α → Prop} : Rd enc P w base spare held 0 t K Wf := fun m hm cs x h => by
  obtain rfl : m = 0 := by omega
  simp [DataW.trod] at h
theorem rd_int {n : Nat} {t : TypeId} {k : IntKind} (ht : P.underlying t = some (.int k)) : Rd enc P w base spare held n t (Kd.int k) (fun x => (Lit.int k x).wf = true) := fun m _ cs x h => by
  obtain ⟨v, rfl, _, hw⟩ := DataW.trod_int ht h
  exact ⟨v, rfl, hw⟩
theorem rd_string {n : Nat} {t : TypeId} (ht : P.underlying t = some .string) : Rd enc P w base spare held n t Kd.string (fun s => s.size ≤ maxLen) := fun m _ cs x h => by
  obtain ⟨v, rfl, _, hw⟩ := DataW.trod_string ht h
  exact ⟨v, rfl, hw⟩
def RdF {α : Type} (enc : TypeId × Value → H) (P : Program) (w : World) (base : Nat) (spare : Nat → Bool) (held : Bool) (n : Nat) (fs : Array Field) (i o : Nat) (K : Kd α) (Wf : α → Prop) : Prop :=
  ∀ m, m ≤ n → ∀ cs : List Value, cs.length = o + K.sz → (∀ j f, i ≤ j → fs[j]? = some f → ∃ x, DataW.trod enc P w base spare held m f.type ((cs.drop f.offset).take (P.cellsOf f.type)) = some x) → ∃ p, K.K w p (cs.drop o) ∧ Wf p
theorem rdF_one {α : Type} {n : Nat} {fs : Array Field} {i o : Nat} {f : Field} {K : Kd α} {Wf : α → Prop} (hf : fs[i]? = some f) (ho : f.offset = o) (hc : P.cellsOf f.type = K.sz) (h : Rd enc P w base spare held n f.type K Wf) : RdF enc P w base spare held n fs i o K Wf := fun m hm cs hl hx => by
  obtain ⟨x, hx⟩ := hx i f (Nat.le_refl _) hf
  obtain ⟨p, hp, hw⟩ := h m hm _ _ hx
  rw [ho, hc, List.take_of_length_le (by rw [List.length_drop]; omega)] at hp
  exact ⟨p, hp, hw⟩
theorem rdF_cons {α β : Type} {n : Nat} {fs : Array Field} {i o : Nat} {f : Field} {K : Kd α} {Wf : α → Prop} {L : Kd β} {Wl : β → Prop} (hf : fs[i]? = some f) (ho : f.offset = o) (hc : P.cellsOf f.type = K.sz) (h : Rd enc P w base spare held n f.type K Wf)
    (hr : RdF enc P w base spare held n fs (i + 1) (o + K.sz) L Wl) : RdF enc P w base spare held n fs i o (Kd.pair K L) (fun p => Wf p.1 ∧ Wl p.2) := fun m hm cs hl hx => by
  obtain ⟨x, hx0⟩ := hx i f (Nat.le_refl _) hf
  obtain ⟨p, hp, hw⟩ := h m hm _ _ hx0
  have hl' : cs.length = o + (K.sz + L.sz) := hl
  obtain ⟨q, hq, hwq⟩ := hr m hm cs (by omega) (fun j g hj hg => hx j g (by omega) hg)
  rw [ho, hc] at hp
  refine ⟨(p, q), ⟨(cs.drop o).take K.sz, cs.drop (o + K.sz), ?_, hp, hq⟩, hw, hwq⟩
  rw [← List.drop_drop, List.take_append_drop]
theorem rd_struct {α β : Type} {n : Nat} {t : TypeId} {fs : Array Field} {K : Kd α} {Wf : α → Prop} (f : β → α) (g : α → β) (hfg : ∀ p, f (g p) = p) (ht : P.underlying t = some (.struct fs)) (hc : P.cellsOf t = K.sz) (h : RdF enc P w base spare held n fs 0 0 K Wf) :
    Rd enc P w base spare held (n + 1) t (Kd.iso K f) (fun x => Wf (f x)) := fun m hm cs x hx => by
  obtain ⟨xs, m', rfl, _, hl, hxl, hi⟩ := DataW.trod_struct ht hx
  obtain ⟨p, hp, hw⟩ := h m' (by omega) cs (by rw [hl, hc, Nat.zero_add]) (fun j f _ hf => by
    have := hi j f hf
    obtain ⟨hj, _⟩ := Array.getElem?_eq_some_iff.1 hf
    exact ⟨_, this.trans (List.getElem?_eq_getElem (by omega))⟩)
  refine ⟨g p, ?_, ?_⟩
  · show K.K w (f (g p)) cs
    rw [hfg]
    exact hp
  · show Wf (f (g p))
    rw [hfg]
    exact hw
theorem rd_tuple {α : Type} {n : Nat} {t : TypeId} {fs : Array Field} {K : Kd α} {Wf : α → Prop} (ht : P.underlying t = some (.struct fs)) (hc : P.cellsOf t = K.sz) (h : RdF enc P w base spare held n fs 0 0 K Wf) :
    Rd enc P w base spare held (n + 1) t K Wf := rd_struct (K := K) id id (fun _ => rfl) ht hc h
theorem rd_val {α : Type} {t : TypeId} {K : Kd α} {Wf : α → Prop} {v : Value} {d : DataW H} {ps : List MemPlace} (h : DataW.Trod enc P w base spare held t v d ps) (hr : ∀ n, Rd enc P w base spare held n t K Wf) : ∃ p, K.K w p v.cells.toList ∧ Wf p := by
  obtain ⟨fuel, hf⟩ := h
  exact hr fuel fuel (Nat.le_refl _) _ _ hf
theorem Rd.all {α : Type} {n : Nat} {t : TypeId} {K : Kd α} {Wf : α → Prop} (h : Rd enc P w base spare held (n + 1) t K Wf) : Rd enc P w base spare held n t K Wf := h.mono (Nat.le_succ _)
end
end Go.Proofs.YtnhgnejfagncpaaDoor.Opened
end
section
namespace Go.Proofs.YtnhgnejfagncpaaDoor.H
open Go.RowKit
theorem pow10_data : (Rows.laid_internal_strconv_uint64pow10 : DataW Unit) = Lib.tabData .u64 Lib.pow10Tab := by kernel_rfl
theorem tab_of_laid {W : World} (h : laidMetH Tryd.prog [("math/bits.deBruijn32tab", Rows.laid_math_bits_deBruijn32tab), ("math/bits.deBruijn64tab", Rows.laid_math_bits_deBruijn64tab), ("internal/strconv.uint64pow10", Rows.laid_internal_strconv_uint64pow10), ("unicode/utf8.acceptRanges", Rows.laid_unicode_utf8_acceptRanges), ("unicode/utf8.first", Rows.laid_unicode_utf8_first)] W) : Tab W := by
  have h1 := laidMetH.filter (fun x => x.1 == "internal/strconv.uint64pow10") h
  have h2 : laidMetH Tryd.prog [("internal/strconv.uint64pow10", Rows.laid_internal_strconv_uint64pow10)] W := h1
  rw [MakeChecks.laidMetH_plain _ _ _ (by kernel_rfl), pow10_data] at h2
  exact Lib.tabIs_of_head (g := 3) (t := 157) (by kernel_rfl) (by kernel_rfl) Tryd.underlying157 Tryd.underlying75 (by kernel_rfl) (by kernel_rfl) h2
end Go.Proofs.YtnhgnejfagncpaaDoor.H
end
