/- Put together: PlainPrint, PlainRead, PlainRead2, PlainRead3, PlainTok4, U2, PlainBack (each in a section of its own). -/
import Derived.Test.YtnhgnejfagncpaaDoorLot8
import Derived.Laws.BitsLemmas
section
namespace Go.Proofs.YtnhgnejfagncpaaDoor.Plain
open Go Go.RowKit Go.Proofs.YtnhgnejfagncpaaDoorW.PrintWords Go.Proofs.YtnhgnejfagncpaaDoor.H Go.Proofs.YtnhgnejfagncpaaDoor.A Go.Proofs.YtnhgnejfagncpaaDoor.B Go.Proofs.YtnhgnejfagncpaaDoor.E Go.Proofs.YtnhgnejfagncpaaDoor.L Go.Proofs.YtnhgnejfagncpaaDoor.M Go.Proofs.YtnhgnejfagncpaaDoor.P
set_option linter.unusedVariables false
theorem dc {p q : Prop} [Decidable p] [Decidable q] (h : p ↔ q) : decide p = decide q := by rw [Bool.eq_iff_iff, decide_eq_true_iff, decide_eq_true_iff]; exact h
def nb (s : ByteArray) : List Int := I8 s.data.toList
def bs (l : List Int) : ByteArray := ⟨(u8L l).toArray⟩
theorem bs_nb (s : ByteArray) : bs (nb s) = s := by unfold bs nb; rw [u8_i8]
theorem nb_bs (l : List Int) (h : okB l) : nb (bs l) = l := by unfold bs nb; exact i8_u8 l h
theorem nb_len (s : ByteArray) : (nb s).length = s.size := by unfold nb I8; rw [List.length_map]; exact Array.length_toList
theorem u8_app (a b : List Int) : u8L (a ++ b) = u8L a ++ u8L b := List.map_append ..
theorem bs_app (a b : List Int) : bs a ++ bs b = bs (a ++ b) := by unfold bs; rw [bytes_app, u8_app]
theorem bs_len (l : List Int) : (bs l).size = l.length := by unfold bs; rw [bytes_size]; exact List.length_map ..
theorem drop_at (s : ByteArray) (i : Nat) (c : UInt8) (r : List UInt8) (h : s.data.toList.drop i = c :: r) : bt s (i : Int) = (c.toNat : Int) ∧ i < s.size ∧ s.data.toList.drop (i + 1) = r := by
  have hsz : s.data.toList.length = s.size := Array.length_toList
  have hlt : i < s.size := by
    rcases Nat.lt_or_ge i s.size with h2 | h2
    · exact h2
    · rw [List.drop_eq_nil_iff.2 (by omega)] at h; cases h
  have hc : s.data.toList[i]? = some c := by
    have := congrArg (·[0]?) h
    simpa using this
  exact ⟨bt_get s i c hc, hlt, by rw [← List.drop_drop, h]; rfl⟩
theorem drop_end (s : ByteArray) (i : Nat) (hi : i ≤ s.size) (h : s.data.toList.drop i = []) : i = s.size := by
  have hsz : s.data.toList.length = s.size := Array.length_toList
  have := List.drop_eq_nil_iff.1 h
  omega
theorem plain_l0 (s : ByteArray) : ∀ (rest : List UInt8) (i k : Nat), s.data.toList.drop i = rest → i ≤ s.size → rest.length + 2 ≤ k → lex_plain.l0 k s (i : Int) = some ((I8 rest).all otherB) := by
  intro rest
  induction rest with
  | nil =>
    intro i k h hi hk
    obtain ⟨k, rfl⟩ : ∃ q, k = q + 1 := ⟨k - 1, by omega⟩
    have := drop_end s i hi h
    rw [lex_plain.l0, if_neg (by omega)]
    rfl
  | cons c r ih =>
    intro i k h hi hk
    obtain ⟨k, rfl⟩ : ∃ q, k = q + 1 := ⟨k - 1, by omega⟩
    rw [List.length_cons] at hk
    obtain ⟨hb, hlt, hr⟩ := drop_at s i c r h
    obtain ⟨t, ht, hiff⟩ := of_two (c.toNat : Int) k (by omega)
    rw [lex_plain.l0, if_pos (by omega), hb, ht, Option.bind_some]
    have e : (I8 (c :: r)).all otherB = (otherB (c.toNat : Int) && (I8 r).all otherB) := rfl
    by_cases h2 : t = 2
    · rw [if_pos h2, e, hiff.1 h2, Bool.true_and]
      exact ih (i + 1) k hr (by omega) (by omega)
    · have : otherB (c.toNat : Int) = false := by
        cases hq : otherB (c.toNat : Int) with
        | false => rfl
        | true => exact absurd (hiff.2 hq) h2
      rw [if_neg h2, e, this, Bool.false_and]
theorem index_zero : ∀ (l : List UInt8), decide (Lib.indexByte l 0 < 0) = decide (∀ c ∈ I8 l, c ≠ 0)
  | [] => rfl
  | c :: t => by
    have ih := index_zero t
    have hr := indexByte_range t 0
    rw [Lib.indexByte]
    by_cases h0 : c = 0
    · subst h0
      rw [if_pos (by rfl), decide_eq_false (by decide), decide_eq_false]
      exact fun h => h 0 (List.mem_cons_self ..) rfl
    · have hc : (c.toNat : Int) ≠ 0 := fun h => h0 (UInt8.toNat_inj.1 (by show c.toNat = 0; omega))
      rw [if_neg (by rw [beq_iff_eq]; exact h0)]
      rw [Bool.eq_iff_iff, decide_eq_true_iff, decide_eq_true_iff] at ih ⊢
      have e : (∀ x ∈ I8 (c :: t), x ≠ 0) ↔ ∀ x ∈ I8 t, x ≠ 0 := ⟨fun h x hx => h x (List.mem_cons_of_mem _ hx), fun h x hx => by
        rcases List.mem_cons.1 hx with rfl | hx
        · exact hc
        · exact h x hx⟩
      rw [e, ← ih]
      by_cases h1 : Lib.indexByte t 0 = -1
      · rw [if_pos (by rw [beq_iff_eq]; exact h1), h1]
      · rw [if_neg (by rw [beq_iff_eq]; exact h1)]
        omega
theorem empty_iff (s : ByteArray) : (s.toList == ([] : List UInt8)) = decide (nb s = []) := by
  rw [ByteArray.toList_eq, Bool.eq_iff_iff, beq_iff_eq, decide_eq_true_iff]
  unfold nb I8
  rw [List.map_eq_nil_iff]
theorem all_iff (l : List Int) : (l.all otherB = true) ↔ ∀ c ∈ l, otherB c = true := List.all_eq_true
theorem zero_iff (M S : Int) : ((M == 0 && (S == 0)) = true) ↔ M = 0 ∧ S = 0 := by rw [Bool.and_eq_true, beq_iff_eq, beq_iff_eq]
theorem rightT_1 (M S : Int) (s : List Int) : RightT 1 M S s ↔ Good M S ∧ s = [] := by unfold RightT; rw [if_pos rfl]
theorem rightT_2 (M S : Int) (s : List Int) : RightT 2 M S s ↔ M = 0 ∧ S = 0 ∧ ∀ c ∈ s, c ≠ 0 := by unfold RightT; rw [if_neg (by decide), if_pos rfl]
theorem rightT_3 (M S : Int) (s : List Int) : RightT 3 M S s ↔ M = 0 ∧ S = 0 := by unfold RightT; rw [if_neg (by decide), if_neg (by decide), if_pos rfl, and_true]
theorem rightT_4 (M S : Int) (s : List Int) : RightT 4 M S s ↔ M = 0 ∧ S = 0 ∧ s ≠ [] ∧ s.length ≤ 127 ∧ (∀ c ∈ s, otherB c = true) ∧ (parseL (u8L s)).2.2 = 4 := by unfold RightT; rw [if_neg (by decide), if_neg (by decide), if_neg (by decide), if_pos rfl]
theorem rightT_5 (kind M S : Int) (s : List Int) (h1 : kind ≠ 1) (h2 : kind ≠ 2) (h3 : kind ≠ 3) (h4 : kind ≠ 4) : RightT kind M S s ↔ M = 0 ∧ S = 0 ∧ 0 ≤ kind ∧ kind ≤ 8 ∧ s = [] := by unfold RightT; rw [if_neg h1, if_neg h2, if_neg h3, if_neg h4]
theorem check_lex (kind M S : Int) (s : ByteArray) (hs : s.size ≤ 500) (k : Nat) (hk : 600 ≤ k) : lex_check.f k kind M S s = some (decide (RightT kind M S (nb s))) := by
  have hsz : s.data.toList.length = s.size := Array.length_toList
  have hnil : s.toList = ([] : List UInt8) ↔ nb s = [] := by
    have := empty_iff s
    rw [Bool.eq_iff_iff, beq_iff_eq, decide_eq_true_iff] at this
    exact this
  unfold lex_check.f
  by_cases k1 : kind = 1
  · subst k1
    rw [if_pos rfl, check_f, Option.bind_some, dc (rightT_1 M S (nb s))]
    by_cases hg : Good M S
    · rw [if_pos hg, if_pos rfl, empty_iff]
      congr 1
      exact dc ⟨fun h => ⟨hg, h⟩, fun h => h.2⟩
    · rw [if_neg hg, if_neg (by decide), decide_eq_false (fun h => hg h.1)]
  rw [if_neg k1]
  by_cases k2 : kind = 2
  · subst k2
    rw [if_pos rfl, dc (rightT_2 M S (nb s))]
    by_cases hz : (M == 0 && (S == 0)) = true
    · have h2 := (zero_iff M S).1 hz
      rw [if_pos hz, if_pos (by omega)]
      show some (decide (Lib.indexByte s.data.toList 0 < 0)) = _
      rw [index_zero]
      congr 1
      exact dc ⟨fun h => ⟨h2.1, h2.2, h⟩, fun h => h.2.2⟩
    · rw [if_neg hz, decide_eq_false (fun h => hz ((zero_iff M S).2 ⟨h.1, h.2.1⟩))]
  rw [if_neg k2]
  by_cases k3 : kind = 3
  · subst k3
    rw [if_pos rfl, dc (rightT_3 M S (nb s))]
    by_cases hz : (M == 0 && (S == 0)) = true
    · rw [if_pos hz, decide_eq_true (show ((s.size : Int) ≤ 65535) from by omega), decide_eq_true ((zero_iff M S).1 hz)]
    · rw [if_neg hz, decide_eq_false (fun h => hz ((zero_iff M S).2 h))]
  rw [if_neg k3]
  by_cases k4 : kind = 4
  · subst k4
    rw [if_pos rfl, parse_f s k (by omega), Option.bind_some, dc (rightT_4 M S (nb s))]
    by_cases hz : (M == 0 && (S == 0)) = true
    · have h2 := (zero_iff M S).1 hz
      rw [if_pos hz]
      by_cases he : s.toList = ([] : List UInt8)
      · rw [if_pos he, decide_eq_false (fun h => h.2.2.1 (hnil.1 he))]
      rw [if_neg he]
      by_cases h127 : s.size ≤ 127
      · have hp : lex_plain.f k s = some ((nb s).all otherB) := by
          unfold lex_plain.f
          rw [if_pos (by omega)]
          exact plain_l0 s s.data.toList 0 k List.drop_zero (Nat.zero_le _) (by omega)
        rw [if_pos (by omega), hp, Option.bind_some]
        by_cases ha : (nb s).all otherB = true
        · rw [if_pos ha]
          congr 1
          rw [Bool.eq_iff_iff, beq_iff_eq, decide_eq_true_iff, show u8L (nb s) = s.data.toList from u8_i8 _, nb_len]
          exact ⟨fun h => ⟨h2.1, h2.2, fun e => he (hnil.2 e), h127, (all_iff _).1 ha, h⟩, fun h => h.2.2.2.2.2⟩
        · rw [if_neg ha, decide_eq_false (fun h => ha ((all_iff _).2 h.2.2.2.2.1))]
      · rw [if_neg (by omega), decide_eq_false (fun h => h127 (by have := h.2.2.2.1; rw [nb_len] at this; exact this))]
    · rw [if_neg hz, decide_eq_false (fun h => hz ((zero_iff M S).2 ⟨h.1, h.2.1⟩))]
  rw [if_neg k4, dc (rightT_5 kind M S (nb s) k1 k2 k3 k4)]
  by_cases hz : (M == 0 && (S == 0)) = true
  · have h2 := (zero_iff M S).1 hz
    rw [if_pos hz]
    by_cases h0 : kind ≥ 0
    · rw [if_pos h0]
      by_cases h8 : kind ≤ 8
      · rw [if_pos h8, empty_iff]
        congr 1
        exact dc ⟨fun h => ⟨h2.1, h2.2, h0, h8, h⟩, fun h => h.2.2.2.2⟩
      · rw [if_neg h8, decide_eq_false (fun h => h8 h.2.2.2.1)]
    · rw [if_neg h0, decide_eq_false (fun h => h0 h.2.2.1)]
  · rw [if_neg hz, decide_eq_false (fun h => hz ((zero_iff M S).2 ⟨h.1, h.2.1⟩))]
def twoV (n : Nat) : Bool := match lex_two.f (n : Int) with
  | some a => a.data.toList == u8L [hx ((n : Int) / 16), hx ((n : Int) % 16)]
  | _ => false
set_option maxRecDepth 100000 in
theorem twoV_all : (List.range 256).all twoV = true := by decide
theorem two_v (c : UInt8) : lex_two.f (c.toNat : Int) = some (bs [hx ((c.toNat : Int) / 16), hx ((c.toNat : Int) % 16)]) ∧ erasureref14_two.f (c.toNat : Int) = some (bs [hx ((c.toNat : Int) / 16), hx ((c.toNat : Int) % 16)]) := by
  have hc := c.toNat_lt
  have h := List.all_eq_true.1 twoV_all c.toNat (List.mem_range.2 (by omega))
  obtain ⟨z, z1, z2, z3⟩ := two_f (c.toNat : Int) (by omega) (by omega)
  unfold twoV at h
  rw [z1] at h
  have e : z = bs [hx ((c.toNat : Int) / 16), hx ((c.toNat : Int) % 16)] := by
    refine ByteArray.ext (Array.toList_inj.1 ?_)
    exact beq_iff_eq.1 h
  rw [z1, z2, e]
  exact ⟨rfl, rfl⟩
theorem esc_cons (c : UInt8) (r : List UInt8) : escN (I8 (c :: r)) = (if keepB (c.toNat : Int) = true then [(c.toNat : Int)] else [35, hx ((c.toNat : Int) / 16), hx ((c.toNat : Int) % 16)]) ++ escN (I8 r) := by
  show (if keepB (c.toNat : Int) = true then _ else _) = _
  split <;> rfl
theorem u8_one (c : UInt8) : u8L [(c.toNat : Int)] = [c] := by
  have := u8_i8 [c]
  exact this
theorem keep_parts (c : Int) : keepB c = true ↔ otherB c = true ∧ c ≠ 35 ∧ 32 < c ∧ c ≤ 126 := by
  unfold keepB
  rw [Bool.and_eq_true, Bool.and_eq_true, Bool.and_eq_true, bne_iff_ne, decide_eq_true_iff, decide_eq_true_iff, and_assoc, and_assoc]
theorem ln_f (s : ByteArray) (hs : s.size ≤ 500) : ∀ (rest : List UInt8) (i : Nat) (acc : List UInt8) (k : Nat), s.data.toList.drop i = rest → i ≤ s.size → acc.length ≤ 3 * i + 10 → rest.length + 2 ≤ k →
    lex_Print.ln k s (i : Int) acc = some (acc ++ u8L (escN (I8 rest))) := by
  intro rest
  induction rest with
  | nil =>
    intro i acc k h hi ha hk
    obtain ⟨k, rfl⟩ : ∃ q, k = q + 1 := ⟨k - 1, by omega⟩
    have := drop_end s i hi h
    rw [lex_Print.ln, if_neg (by omega)]
    show some acc = some (acc ++ [])
    rw [List.append_nil]
  | cons c r ih =>
    intro i acc k h hi ha hk
    obtain ⟨k, rfl⟩ : ∃ q, k = q + 1 := ⟨k - 1, by omega⟩
    rw [List.length_cons] at hk
    obtain ⟨hb, hlt, hr⟩ := drop_at s i c r h
    obtain ⟨t, ht, hiff⟩ := of_two (c.toNat : Int) k (by omega)
    have hkp := keep_parts (c.toNat : Int)
    have hz : ¬ keepB (c.toNat : Int) = true → lex_Print.ln.lz (fun a => lex_Print.ln k s ((i : Int) + 1) a) s (i : Int) acc = some (acc ++ u8L (escN (I8 (c :: r)))) := fun hn => by
      unfold lex_Print.ln.lz
      rw [hb, (two_v c).1, Option.bind_some, if_pos (by rw [bs_len]; show 2 ≤ 100; decide)]
      have e2 : acc ++ 35 :: (bs [hx ((c.toNat : Int) / 16), hx ((c.toNat : Int) % 16)]).data.toList = acc ++ u8L [35, hx ((c.toNat : Int) / 16), hx ((c.toNat : Int) % 16)] := rfl
      have := ih (i + 1) (acc ++ u8L [35, hx ((c.toNat : Int) / 16), hx ((c.toNat : Int) % 16)]) k hr (by omega) (by rw [List.length_append]; show _ + 3 ≤ _; omega) (by omega)
      rw [esc_cons, if_neg hn, u8_app, ← List.append_assoc]
      show lex_Print.ln k s ((i : Int) + 1) (acc ++ 35 :: (bs [hx ((c.toNat : Int) / 16), hx ((c.toNat : Int) % 16)]).data.toList) = _
      rw [e2]
      exact this
    rw [lex_Print.ln, if_pos (by omega), if_pos (by omega), hb, ht, Option.bind_some]
    by_cases h2 : t = 2
    · rw [if_pos h2]
      by_cases h35 : (c.toNat : Int) = 35
      · rw [if_pos h35]
        exact hz (fun h => (hkp.1 h).2.1 h35)
      · rw [if_neg h35]
        by_cases h32 : (32 : Int) < c.toNat
        · rw [if_pos h32]
          by_cases h126 : (c.toNat : Int) ≤ 126
          · rw [if_pos h126, Int.toNat_natCast]
            have hy := hkp.2 ⟨hiff.1 h2, h35, h32, h126⟩
            rw [esc_cons, if_pos hy, u8_app, u8_one, ← List.append_assoc, UInt8.ofNat_toNat]
            exact ih (i + 1) (acc ++ [c]) k hr (by omega) (by rw [List.length_append]; show _ + 1 ≤ _; omega) (by omega)
          · rw [if_neg h126]
            exact hz (fun h => h126 (hkp.1 h).2.2.2)
        · rw [if_neg h32]
          exact hz (fun h => h32 (hkp.1 h).2.2.1)
    · rw [if_neg h2]
      exact hz (fun h => h2 (hiff.2 (hkp.1 h).1))
theorem hex_cons (c : UInt8) (r : List UInt8) : hexN (I8 (c :: r)) = [hx ((c.toNat : Int) / 16), hx ((c.toNat : Int) % 16)] ++ hexN (I8 r) := rfl
theorem lt_f (s : ByteArray) (hs : s.size ≤ 500) : ∀ (rest : List UInt8) (i : Nat) (acc : List UInt8) (k : Nat), s.data.toList.drop i = rest → i ≤ s.size → acc.length ≤ 3 * i + 10 → rest.length + 2 ≤ k →
    lex_Print.lt k s (i : Int) acc = some (acc ++ u8L (hexN (I8 rest))) := by
  intro rest
  induction rest with
  | nil =>
    intro i acc k h hi ha hk
    obtain ⟨k, rfl⟩ : ∃ q, k = q + 1 := ⟨k - 1, by omega⟩
    have := drop_end s i hi h
    rw [lex_Print.lt, if_neg (by omega)]
    show some acc = some (acc ++ [])
    rw [List.append_nil]
  | cons c r ih =>
    intro i acc k h hi ha hk
    obtain ⟨k, rfl⟩ : ∃ q, k = q + 1 := ⟨k - 1, by omega⟩
    rw [List.length_cons] at hk
    obtain ⟨hb, hlt, hr⟩ := drop_at s i c r h
    have := ih (i + 1) (acc ++ u8L [hx ((c.toNat : Int) / 16), hx ((c.toNat : Int) % 16)]) k hr (by omega) (by rw [List.length_append]; show _ + 2 ≤ _; omega) (by omega)
    rw [lex_Print.lt, if_pos (by omega), if_pos (by omega), hb, (two_v c).1, Option.bind_some, if_pos (by rw [bs_len]; show 2 ≤ 100; decide), hex_cons, u8_app, ← List.append_assoc]
    exact this
theorem bs_i8 (l : List UInt8) : bs (I8 l) = ⟨l.toArray⟩ := by unfold bs; rw [u8_i8]
def prR (kind M S : Int) (s : ByteArray) : ByteArray × Int := if RightT kind M S (nb s) then (bs (prL kind M S (nb s)), 0) else (⟨#[]⟩, 1)
theorem print_lex (kind M S : Int) (s : ByteArray) (hs : s.size ≤ 500) (k : Nat) (hk : 6000 ≤ k) : lex_Print.f k kind M S s = some (prR kind M S s) := by
  have hsz : s.data.toList.length = s.size := Array.length_toList
  unfold lex_Print.f prR
  rw [check_lex kind M S s hs k (by omega), Option.bind_some]
  by_cases h : RightT kind M S (nb s)
  · rw [if_pos (decide_eq_true h), if_pos h]
    unfold prL
    by_cases k1 : kind = 1
    · subst k1
      obtain ⟨hg, _⟩ := (rightT_1 M S _).1 h
      obtain ⟨_, _, g3, _⟩ := id hg
      have hS : ((S.toNat : Nat) : Int) = S := Int.toNat_of_nonneg g3
      rw [if_pos rfl, if_pos rfl, bs_i8]
      have := print_f M S.toNat (by rw [hS]; exact hg) k (by omega)
      rw [hS] at this
      exact this
    rw [if_neg k1, if_neg k1]
    by_cases k2 : kind = 2
    · have := ln_f s hs s.data.toList 0 [47] k List.drop_zero (Nat.zero_le _) (by decide) (by omega)
      rw [if_pos k2, if_pos k2, if_pos (by omega), show (0 : Int) = ((0 : Nat) : Int) from rfl, this]
      rfl
    rw [if_neg k2, if_neg k2]
    by_cases k3 : kind = 3
    · have := lt_f s hs s.data.toList 0 [60] k List.drop_zero (Nat.zero_le _) (by decide) (by omega)
      have hl : (hexN (I8 s.data.toList)).length = 2 * s.size := by
        rw [← hsz]
        clear hsz this
        generalize s.data.toList = L
        induction L with
        | nil => rfl
        | cons c r ih => rw [hex_cons, List.length_append, ih, List.length_cons]; show 2 + 2 * r.length = 2 * (r.length + 1); omega
      rw [if_pos k3, if_pos k3, if_pos (by omega), show (0 : Int) = ((0 : Nat) : Int) from rfl, this, Option.bind_some, if_pos (by rw [List.length_append]; show 1 + _ < _; unfold u8L; rw [List.length_map]; omega)]
      show some ((⟨((60 :: u8L (hexN (I8 s.data.toList))) ++ [62]).toArray⟩ : ByteArray), (0 : Int)) = some (bs (60 :: (hexN (nb s) ++ [62])), 0)
      unfold bs nb
      rw [show (60 :: (hexN (I8 s.data.toList) ++ [62]) : List Int) = [60] ++ (hexN (I8 s.data.toList) ++ [62]) from rfl, u8_app, u8_app]
      rfl
    rw [if_neg k3, if_neg k3]
    by_cases k4 : kind = 4
    · rw [if_pos k4, if_pos k4, bs_nb]
    rw [if_neg k4, if_neg k4]
    by_cases k5 : kind = 5
    · rw [if_pos k5, if_pos k5]; rfl
    rw [if_neg k5, if_neg k5]
    by_cases k6 : kind = 6
    · rw [if_pos k6, if_pos k6]; rfl
    rw [if_neg k6, if_neg k6]
    by_cases k7 : kind = 7
    · rw [if_pos k7, if_pos k7]; rfl
    rw [if_neg k7, if_neg k7]
    by_cases k8 : kind = 8
    · rw [if_pos k8, if_pos k8]; rfl
    rw [if_neg k8, if_neg k8]; rfl
  · rw [if_neg (by rw [decide_eq_true_iff]; exact h), if_neg h]
end Go.Proofs.YtnhgnejfagncpaaDoor.Plain
end
section
namespace Go.Proofs.YtnhgnejfagncpaaDoor.Plain
open Go Go.RowKit Go.Proofs.YtnhgnejfagncpaaDoorW.PrintWords Go.Proofs.YtnhgnejfagncpaaDoor.H Go.Proofs.YtnhgnejfagncpaaDoor.A Go.Proofs.YtnhgnejfagncpaaDoor.B Go.Proofs.YtnhgnejfagncpaaDoor.E Go.Proofs.YtnhgnejfagncpaaDoor.L Go.Proofs.YtnhgnejfagncpaaDoor.M Go.Proofs.YtnhgnejfagncpaaDoor.P
set_option linter.unusedVariables false
def At (l : List Int) (p : Nat) (r : List Int) : Prop := p ≤ l.length ∧ l.drop p = r
theorem At.len {l r : List Int} {p : Nat} (h : At l p r) : p + r.length = l.length := by
  obtain ⟨h1, h2⟩ := h
  rw [← h2, List.length_drop]
  omega
theorem At.cons {l t : List Int} {c : Int} {p : Nat} (h : At l p (c :: t)) : p < l.length ∧ rd l (p : Int) = c ∧ At l (p + 1) t := by
  have hl := h.len
  rw [List.length_cons] at hl
  obtain ⟨h1, h2⟩ := h
  have hc : l[p]? = some c := by
    have := congrArg (·[0]?) h2
    simpa using this
  refine ⟨by omega, ?_, by omega, by rw [← List.drop_drop, h2]; rfl⟩
  unfold rd
  rw [Int.toNat_natCast, List.getD_eq_getElem?_getD, hc]
  rfl
theorem At.ok {l r : List Int} {p : Nat} (h : At l p r) (hl : okB l) : okB r := fun c hc => hl c (by rw [← h.2] at hc; exact List.mem_of_mem_drop hc)
theorem w1n (p : Nat) (h : p ≤ 5000) : wrap64 ((p : Int) + 1) = ((p + 1 : Nat) : Int) := by rw [wsm _ (by omega) (by omega)]; omega
theorem w2n (p : Nat) (h : p ≤ 5000) : wrap64 ((p : Int) + 2) = ((p + 1 + 1 : Nat) : Int) := by rw [wsm _ (by omega) (by omega)]; omega
theorem w0n (p : Nat) (h : p ≤ 5000) : wrap64 ((p : Int) + 0) = (p : Int) := by rw [wsm _ (by omega) (by omega)]; omega
def pk (r : List Int) : Int × Bool := match r with | [] => (0, false) | c :: _ => (c, true)
theorem peek_at (l : List Int) (hl : l.length ≤ 4000) {p : Nat} {r : List Int} (h : At l p r) : lex_reader_peek.f l (p : Int) 0 = some ((pk r).1, (pk r).2, (p : Int)) := by
  have hn := h.len
  unfold lex_reader_peek.f
  rw [w0n p (by omega)]
  cases r with
  | nil => rw [if_pos (by rw [List.length_nil] at hn; omega)]; rfl
  | cons c t =>
    obtain ⟨h1, h2, _⟩ := h.cons
    rw [if_neg (by omega), if_pos (by omega), if_pos (by omega), h2]
    rfl
theorem peek1_at (l : List Int) (hl : l.length ≤ 4000) {p : Nat} {c : Int} {t : List Int} (h : At l p (c :: t)) : lex_reader_peek.f l (p : Int) 1 = some ((pk t).1, (pk t).2, (p : Int)) := by
  obtain ⟨h1, _, h3⟩ := h.cons
  have hn := h3.len
  unfold lex_reader_peek.f
  rw [w1n p (by omega)]
  cases t with
  | nil => rw [if_pos (by rw [List.length_nil] at hn; omega)]; rfl
  | cons d t =>
    obtain ⟨h4, h5, _⟩ := h3.cons
    rw [if_neg (by omega), if_pos (by omega), if_pos (by omega), h5]
    rfl
theorem skip_p (l : List Int) (hl : l.length ≤ 4000) : ∀ (r : List Int) (p : Nat) (cm : Bool) (k : Nat), At l p r → 4 * r.length + 4 ≤ k →
    ∃ p', At l p' (skipL cm r) ∧ lex_reader_skip.l0 k cm (pk r).1 (pk r).2 l (p : Int) = some (p' : Int)
  | [], p, cm, k => fun h hk => by
    obtain ⟨k, rfl⟩ : ∃ q, k = q + 1 := ⟨k - 1, by omega⟩
    refine ⟨p, h, ?_⟩
    show lex_reader_skip.l0 (k + 1) cm 0 false l (p : Int) = _
    rw [lex_reader_skip.l0, if_neg (by decide)]
  | c :: t, p, cm, k => fun h hk => by
    rw [List.length_cons] at hk
    obtain ⟨k, rfl⟩ : ∃ q, k = q + 4 := ⟨k - 4, by omega⟩
    obtain ⟨h1, h2, h3⟩ := h.cons
    have hp4 : p ≤ 5000 := by omega
    have hp := peek_at l hl h3
    have ih := fun cm => skip_p l hl t (p + 1) cm k h3 (by omega)
    have ih1 := fun cm => skip_p l hl t (p + 1) cm (k + 1) h3 (by omega)
    have ih2 := fun cm => skip_p l hl t (p + 1) cm (k + 2) h3 (by omega)
    show ∃ p', At l p' (skipL cm (c :: t)) ∧ lex_reader_skip.l0 (k + 4) cm c true l (p : Int) = some (p' : Int)
    have e0 : lex_reader_skip.l0 (k + 4) cm c true l (p : Int) = lex_reader_skip.j1 (k + 3) cm c (decide (c = 10 ∨ c = 13)) l (p : Int) := by
      rw [lex_reader_skip.l0, if_pos rfl]
      by_cases h10 : c = 10
      · rw [if_pos h10, decide_eq_true (Or.inl h10)]
      · rw [if_neg h10]
        congr 1
        rw [Bool.eq_iff_iff, beq_iff_eq, decide_eq_true_iff]
        exact ⟨Or.inr, fun h => h.resolve_left h10⟩
    rw [e0, lex_reader_skip.j1]
    unfold skipL
    by_cases hA : c = 10 ∨ c = 13
    · have pA : decide (c = 10 ∨ c = 13) = true := decide_eq_true hA
      rw [if_pos hA, if_pos pA, w1n p hp4, hp, Option.bind_some]
      exact ih2 false
    · have nA : ¬ (decide (c = 10 ∨ c = 13) = true) := by rw [decide_eq_true_iff]; exact hA
      rw [if_neg hA, if_neg nA]
      have e1 : (if cm = true then (lex_reader_skip.j2 (k + 2) cm c true l (p : Int)) else ((lex_of.f (k + 2) c).bind fun t108 => (lex_reader_skip.j2 (k + 2) cm c (t108 == 0) l (p : Int)))) = lex_reader_skip.j2 (k + 2) cm c (decide (cm = true ∨ whiteB c = true)) l (p : Int) := by
        by_cases hc : cm = true
        · rw [if_pos hc, decide_eq_true (Or.inl hc)]
        · rw [if_neg hc, of_f14 c (k + 2) (by omega), Option.bind_some]
          congr 1
          cases hw2 : whiteB c with
          | true => rw [if_pos rfl, decide_eq_true (Or.inr rfl)]; rfl
          | false =>
            rw [if_neg (by decide), decide_eq_false (by rintro (h | h); exact hc h; cases h)]
            cases markB c <;> rfl
      rw [e1, lex_reader_skip.j2]
      by_cases hB : cm = true ∨ whiteB c = true
      · have pB : decide (cm = true ∨ whiteB c = true) = true := decide_eq_true hB
        rw [if_pos hB, if_pos pB, w1n p hp4, hp, Option.bind_some]
        exact ih1 cm
      · have nB : ¬ (decide (cm = true ∨ whiteB c = true) = true) := by rw [decide_eq_true_iff]; exact hB
        rw [if_neg hB, if_neg nB]
        by_cases hC : c = 37
        · rw [if_pos hC, if_pos hC, w1n p hp4, hp, Option.bind_some]
          exact ih1 true
        · rw [if_neg hC, if_neg hC]
          exact ⟨p, h, rfl⟩
theorem skip_pf (l : List Int) (hl : l.length ≤ 4000) (r : List Int) (p k : Nat) (h : At l p r) (hk : 4 * r.length + 4 ≤ k) : ∃ p', At l p' (skipL false r) ∧ lex_reader_skip.f k l (p : Int) = some (p' : Int) := by
  unfold lex_reader_skip.f
  rw [peek_at l hl h, Option.bind_some]
  exact skip_p l hl r p false k h hk
theorem row_cut (l : List Int) (p : Nat) (r : List Int) (h : At l p r) : (l.take (p + (rowA r).length)).drop p = rowA r := by
  rw [← List.take_drop, h.2]
  have := row_eq r
  have h2 : List.take (rowA r).length (rowA r ++ rowZ r) = rowA r := List.take_left ..
  rw [this] at h2
  exact h2
theorem row_p (l : List Int) (hl : l.length ≤ 4000) : ∀ (r : List Int) (p k : Nat) (from_ : Int), At l p r → 2 * r.length + 2 ≤ k →
    lex_reader_row.l0 k (pk r).1 (pk r).2 from_ l (p : Int) = rowCut from_ l ((p + (rowA r).length : Nat) : Int) ∧ At l (p + (rowA r).length) (rowZ r)
  | [], p, k, from_ => fun h hk => by
    obtain ⟨k, rfl⟩ : ∃ q, k = q + 1 := ⟨k - 1, by omega⟩
    refine ⟨?_, h⟩
    show lex_reader_row.l0 (k + 1) 0 false from_ l (p : Int) = _
    rw [lex_reader_row.l0, if_neg (by decide)]
    rfl
  | c :: t, p, k, from_ => fun h hk => by
    rw [List.length_cons] at hk
    obtain ⟨k, rfl⟩ : ∃ q, k = q + 1 := ⟨k - 1, by omega⟩
    obtain ⟨h1, h2, h3⟩ := h.cons
    obtain ⟨q, hq, hiff⟩ := of_two c k (by omega)
    show lex_reader_row.l0 (k + 1) c true from_ l (p : Int) = _ ∧ _
    rw [lex_reader_row.l0, if_pos rfl, hq, Option.bind_some]
    unfold rowA rowZ
    by_cases ho : otherB c = true
    · rw [if_pos (hiff.2 ho), if_pos ho, if_pos ho, w1n p (by omega), peek_at l hl h3, Option.bind_some, List.length_cons]
      have := row_p l hl t (p + 1) k from_ h3 (by omega)
      rw [show p + ((rowA t).length + 1) = p + 1 + (rowA t).length from by omega]
      exact this
    · rw [if_neg (fun e => ho (hiff.1 e)), if_neg ho, if_neg ho]
      exact ⟨rfl, h⟩
theorem row_pf (l : List Int) (hl : l.length ≤ 4000) (r : List Int) (p k : Nat) (h : At l p r) (hk : 2 * r.length + 2 ≤ k) : ∃ p', At l p' (rowZ r) ∧ lex_reader_row.f k l (p : Int) = some (bs (rowA r), (p' : Int)) := by
  obtain ⟨a, b⟩ := row_p l hl r p k (p : Int) h hk
  refine ⟨_, b, ?_⟩
  have hn := b.1
  unfold lex_reader_row.f
  rw [peek_at l hl h, Option.bind_some, a]
  unfold rowCut
  rw [if_pos (by omega), Int.toNat_natCast, Int.toNat_natCast, row_cut l p r h]
  rfl
def hexD : List UInt8 := [48, 49, 50, 51, 52, 53, 54, 55, 56, 57, 97, 98, 99, 100, 101, 102]
theorem index_not (b : UInt8) : ∀ l : List UInt8, (∀ x ∈ l, x ≠ b) → Lib.indexByte l b = -1
  | [], _ => rfl
  | x :: l, h => by
    rw [Lib.indexByte, if_neg (by rw [beq_iff_eq]; exact h x (List.mem_cons_self ..)), index_not b l (fun c hc => h c (List.mem_cons_of_mem _ hc))]
    rfl
def ix (c : Int) : Int := Lib.indexByte hexD c.toNat.toUInt8
theorem ix_dig : ∀ n ∈ [48, 49, 50, 51, 52, 53, 54, 55, 56, 57], ix (n : Nat) = (n : Int) - 48 := by decide
theorem ix_low : ∀ n ∈ [97, 98, 99, 100, 101, 102], ix (n : Nat) = (n : Int) - 87 := by decide
theorem hexD_nat : hexD.map (·.toNat) = [48, 49, 50, 51, 52, 53, 54, 55, 56, 57, 97, 98, 99, 100, 101, 102] := by decide
theorem ix_f (c : Int) (h0 : 0 ≤ c) (h1 : c ≤ 255) : ix c = if 48 ≤ c ∧ c ≤ 57 then c - 48 else if 97 ≤ c ∧ c ≤ 102 then c - 87 else -1 := by
  obtain ⟨n, rfl⟩ := Int.eq_ofNat_of_zero_le h0
  by_cases hd : 48 ≤ (n : Int) ∧ (n : Int) ≤ 57
  · rw [if_pos hd]
    exact ix_dig n (by simp only [List.mem_cons, List.not_mem_nil, or_false]; omega)
  rw [if_neg hd]
  by_cases hlo : 97 ≤ (n : Int) ∧ (n : Int) ≤ 102
  · rw [if_pos hlo]
    exact ix_low n (by simp only [List.mem_cons, List.not_mem_nil, or_false]; omega)
  rw [if_neg hlo]
  unfold ix
  refine index_not _ _ fun x hx e => ?_
  have hm : x.toNat ∈ hexD.map (·.toNat) := List.mem_map_of_mem hx
  rw [hexD_nat, e, Int.toNat_natCast] at hm
  have en : n.toUInt8.toNat = n := by
    show (UInt8.ofNat n).toNat = n
    rw [UInt8.toNat_ofNat', Nat.mod_eq_of_lt (by omega)]
  rw [en] at hm
  simp only [List.mem_cons, List.not_mem_nil, or_false] at hm
  omega
theorem digit_p (c : Int) (h0 : 0 ≤ c) (h1 : c ≤ 255) : lex_digit.f c = some (dgI c) := by
  have hx : ∀ d, strings_IndexByte.f (⟨#[48, 49, 50, 51, 52, 53, 54, 55, 56, 57, 97, 98, 99, 100, 101, 102]⟩ : ByteArray) d = some (ix d) := fun d => rfl
  unfold lex_digit.f dgI
  rw [hx, hx, Option.bind_some, Option.bind_some, ix_f c h0 h1]
  by_cases h65 : c ≥ 65
  · rw [if_pos h65]
    by_cases h70 : c ≤ 70
    · rw [if_pos h70, ix_f _ (by omega) (by omega), if_neg (by omega), if_pos (by omega), if_neg (by omega), if_pos (by omega)]
      congr 1
      omega
    · rw [if_neg h70, if_neg (show ¬ (48 ≤ c ∧ c ≤ 57) from by omega), if_neg (show ¬ (48 ≤ c ∧ c ≤ 57) from by omega), if_neg (show ¬ (65 ≤ c ∧ c ≤ 70) from by omega)]
  · rw [if_neg h65]
    by_cases hd : 48 ≤ c ∧ c ≤ 57
    · rw [if_pos hd, if_pos hd]
    · rw [if_neg hd, if_neg hd, if_neg (by omega), if_neg (by omega)]
theorem dg_lt (c : Int) : -1 ≤ dgI c ∧ dgI c < 16 := by unfold dgI; split; omega; split; omega; split <;> omega
theorem i64_small (n : Int) (h0 : 0 ≤ n) (h1 : n < 2 ^ 20) : IntKind.i64.wrap n = n := by rw [IntKind.wrap_i64]; omega
theorem or64 (i : Nat) (x y : Int) (hx₀ : 0 ≤ x) (hx : x % 2 ^ i = 0) (hx₁ : x < 2 ^ 20) (hy₀ : 0 ≤ y) (hy : y < 2 ^ i) (hy₁ : y < 2 ^ 20) : Go.bits .or .i64 x y = x + y := bits_join .i64 20 (by decide) i64_small i x y hx₀ hx hx₁ hy₀ hy hy₁
theorem and64 (x : Int) (h₀ : 0 ≤ x) (h₁ : x < 2 ^ 20) : Go.bits .and .i64 x 1 = x % 2 := bits_mask .i64 20 (by decide) i64_small 1 (by decide) x h₀ h₁
theorem or8 (i : Nat) (x y : Int) (hx₀ : 0 ≤ x) (hx : x % 2 ^ i = 0) (hx₁ : x < 2 ^ 8) (hy₀ : 0 ≤ y) (hy : y < 2 ^ i) (hy₁ : y < 2 ^ 8) : Go.bits .or .u8 x y = x + y := bits_join .u8 8 (by decide) wraps_u8 i x y hx₀ hx hx₁ hy₀ hy hy₁
theorem bt_at (s : ByteArray) {p : Nat} {c : Int} {t : List Int} (h : At (nb s) p (c :: t)) : bt s (p : Int) = c ∧ p < s.size := by
  obtain ⟨h1, h2, h3⟩ := h.cons
  rw [nb_len] at h1
  refine ⟨?_, h1⟩
  have hd := h.2
  unfold nb I8 at hd
  rw [← List.map_drop] at hd
  cases hq : s.data.toList.drop p with
  | nil => rw [hq] at hd; cases hd
  | cons x y =>
    rw [hq, List.map_cons] at hd
    obtain ⟨a, _⟩ := List.cons.inj hd
    rw [(drop_at s p x y hq).1, a]
def nameR (o : Option (List Int)) (out : List Int) : ByteArray × Int := match o with | none => (⟨#[]⟩, 4) | some q => (bs (out ++ q), 0)
theorem name_p (s : ByteArray) (hs : s.size ≤ 4000) : ∀ (n : Nat) (r : List Int) (p : Nat) (out : List Int) (k f : Nat), r.length ≤ n → At (nb s) p r → out.length ≤ p → 3 * r.length + 3 ≤ k → r.length + 1 ≤ f →
    lex_name.l0 k s out (p : Int) = some (nameR (nameL f r) out)
  | n, [], p, out, k, f => fun hn h ho hk hf => by
    obtain ⟨k, rfl⟩ : ∃ q, k = q + 1 := ⟨k - 1, by omega⟩
    obtain ⟨f, rfl⟩ : ∃ q, f = q + 1 := ⟨f - 1, by omega⟩
    have hl := h.len
    rw [nb_len, List.length_nil] at hl
    rw [lex_name.l0, if_neg (by omega)]
    show some (bs out, 0) = some (bs (out ++ []), 0)
    rw [List.append_nil]
  | 0, c :: t, p, out, k, f => fun hn h ho hk hf => by rw [List.length_cons] at hn; omega
  | n + 1, c :: t, p, out, k, f => fun hn h ho hk hf => by
    have hok : okB (c :: t) := h.ok (i8_ok _)
    rw [List.length_cons] at hn hk hf
    obtain ⟨k, rfl⟩ : ∃ q, k = q + 3 := ⟨k - 3, by omega⟩
    obtain ⟨f, rfl⟩ : ∃ q, f = q + 1 := ⟨f - 1, by omega⟩
    obtain ⟨hb, hlt⟩ := bt_at s h
    obtain ⟨_, _, h3⟩ := h.cons
    have hl3 := h3.len
    rw [nb_len] at hl3
    have hp4 : p ≤ 4000 := by omega
    rw [lex_name.l0, if_pos (by omega), if_pos (by omega), hb]
    unfold nameL
    by_cases h35 : c = 35
    · rw [if_pos h35, if_pos h35, w1n p (by omega), w2n p (by omega)]
      have bad : lex_name.j1 (k + 2) s out (p : Int) true = some (nameR none out) := by rw [lex_name.j1, if_pos rfl]; rfl
      cases t with
      | nil => rw [if_pos (by rw [List.length_nil] at hl3; omega)]; exact bad
      | cons a t =>
        cases t with
        | nil => rw [if_pos (by rw [List.length_cons, List.length_nil] at hl3; omega)]; exact bad
        | cons b r =>
          dsimp only
          rw [List.length_cons, List.length_cons] at hl3 hk hf hn
          obtain ⟨hba, _⟩ := bt_at s h3
          obtain ⟨_, _, h4⟩ := h3.cons
          obtain ⟨hbb, _⟩ := bt_at s h4
          obtain ⟨_, _, h5⟩ := h4.cons
          obtain ⟨a0, a1⟩ := hok a (by simp)
          obtain ⟨b0, b1⟩ := hok b (by simp)
          have da := dg_lt a
          have db := dg_lt b
          rw [if_neg (by omega), if_pos (by omega), if_pos (by omega), hba, digit_p a a0 a1, Option.bind_some]
          by_cases hA : dgI a < 0
          · rw [if_pos hA, if_pos (Or.inl hA)]; exact bad
          rw [if_neg hA, if_pos (by omega), if_pos (by omega), hbb, digit_p b b0 b1, Option.bind_some]
          by_cases hB : dgI b < 0
          · rw [decide_eq_true hB, if_pos (Or.inr hB)]; exact bad
          have hno : ¬ (dgI a < 0 ∨ dgI b < 0) := by omega
          have hor : Go.bits .or .i64 (wrap64 (dgI a * 16)) (dgI b) = 16 * dgI a + dgI b := by
            rw [wsm _ (by omega) (by omega), or64 4 _ _ (by omega) (by omega) (by omega) (by omega) (by omega) (by omega)]
            omega
          rw [decide_eq_false hB, if_neg hno, lex_name.j1, if_neg (by decide), w1n p (by omega), w2n p (by omega), if_pos (by omega), if_pos (by omega), hba, digit_p a a0 a1, Option.bind_some, if_pos (by omega), if_pos (by omega), hbb, digit_p b b0 b1, Option.bind_some, hor, show (16 * dgI a + dgI b) % 256 = 16 * dgI a + dgI b from by omega]
          by_cases hz : 16 * dgI a + dgI b = 0
          · rw [if_pos hz, if_pos hz]; rfl
          rw [if_neg hz, if_neg hz, if_pos (by omega), w1n (p + 1 + 1) (by omega)]
          rw [name_p s hs n r (p + 1 + 1 + 1) (out ++ [16 * dgI a + dgI b]) (k + 1) f (by omega) h5 (by rw [List.length_append]; show _ + 1 ≤ _; omega) (by omega) (by omega)]
          cases nameL f r with
          | none => rfl
          | some o =>
            show some (bs (out ++ [16 * dgI a + dgI b] ++ o), 0) = some (bs (out ++ ((16 * dgI a + dgI b) :: o)), 0)
            rw [List.append_assoc]
            rfl
    · rw [if_neg h35, if_neg h35, if_pos (by omega), w1n p (by omega)]
      rw [name_p s hs n t (p + 1) (out ++ [c]) (k + 2) f (by omega) h3 (by rw [List.length_append]; show _ + 1 ≤ _; omega) (by omega) (by omega)]
      cases nameL f t with
      | none => rfl
      | some o =>
        show some (bs (out ++ [c] ++ o), 0) = some (bs (out ++ (c :: o)), 0)
        rw [List.append_assoc]
        rfl
theorem name_pf (R : List Int) (hR : okB R) (hn : R.length ≤ 4000) (k f : Nat) (hk : 3 * R.length + 3 ≤ k) (hf : R.length + 1 ≤ f) : lex_name.f k (bs R) = some (nameR (nameL f R) []) := by
  have hnb := nb_bs R hR
  unfold lex_name.f
  exact name_p (bs R) (by rw [bs_len]; exact hn) R.length R 0 [] k f (Nat.le_refl _) ⟨Nat.zero_le _, hnb⟩ (Nat.le_refl _) hk hf
end Go.Proofs.YtnhgnejfagncpaaDoor.Plain
end
section
namespace Go.Proofs.YtnhgnejfagncpaaDoor.Plain
open Go Go.RowKit Go.Proofs.YtnhgnejfagncpaaDoorW.PrintWords Go.Proofs.YtnhgnejfagncpaaDoor.H Go.Proofs.YtnhgnejfagncpaaDoor.A Go.Proofs.YtnhgnejfagncpaaDoor.B Go.Proofs.YtnhgnejfagncpaaDoor.E Go.Proofs.YtnhgnejfagncpaaDoor.L Go.Proofs.YtnhgnejfagncpaaDoor.M Go.Proofs.YtnhgnejfagncpaaDoor.P
set_option linter.unusedVariables false
def Rd (l : List Int) (x : Option (ByteArray × Int × Int)) (o : Option (List Int × List Int)) : Prop := match o with
  | none => ∃ q, x = some (⟨#[]⟩, 4, q)
  | some (s, r) => ∃ p' : Nat, At l p' r ∧ x = some (bs s, 0, (p' : Int))
theorem of_white (c : Int) (k : Nat) (hk : 1 ≤ k) : ∃ t, lex_of.f k c = some t ∧ (t = 0 ↔ whiteB c = true) := by
  refine ⟨_, of_f14 c k hk, ?_⟩
  cases whiteB c <;> cases markB c <;> decide
def ok16 (l : List Int) : Prop := ∀ c ∈ l, 0 ≤ c ∧ c < 16
theorem packs_len : ∀ ds : List Int, (packs ds).length = (ds.length + 1) / 2
  | [] => rfl
  | [a] => by simp [packs]
  | a :: b :: t => by
    show (packs t).length + 1 = (t.length + 1 + 1 + 1) / 2
    rw [packs_len t]
    omega
theorem packs_even : ∀ (ds : List Int) (d : Int), ds.length % 2 = 0 → packs (ds ++ [d]) = packs ds ++ [16 * d]
  | [], d, _ => rfl
  | [a], d, h => by cases h
  | a :: b :: t, d, h => by
    show (16 * a + b) :: packs (t ++ [d]) = (16 * a + b) :: (packs t ++ [16 * d])
    rw [packs_even t d (by rw [List.length_cons, List.length_cons] at h; omega)]
theorem packs_odd : ∀ (ds : List Int) (d : Int), ds.length % 2 = 1 → ∃ a ∈ ds, (packs ds)[ds.length / 2]? = some (16 * a) ∧ packs (ds ++ [d]) = (packs ds).set (ds.length / 2) (16 * a + d)
  | [], d, h => by cases h
  | [a], d, h => ⟨a, List.mem_cons_self .., by simp [packs], by simp [packs]⟩
  | a :: b :: t, d, h => by
    obtain ⟨x, h1, h2, h3⟩ := packs_odd t d (by rw [List.length_cons, List.length_cons] at h; omega)
    have e : (a :: b :: t).length / 2 = t.length / 2 + 1 := by rw [List.length_cons, List.length_cons]; omega
    refine ⟨x, List.mem_cons_of_mem _ (List.mem_cons_of_mem _ h1), ?_, ?_⟩
    · rw [e]
      exact h2
    · rw [e]
      show (16 * a + b) :: packs (t ++ [d]) = (16 * a + b) :: (packs t).set (t.length / 2) (16 * x + d)
      rw [h3]
theorem rd_get (L : List Int) (i : Nat) (x : Int) (h : L[i]? = some x) : rd L (i : Int) = x := by
  unfold rd
  rw [Int.toNat_natCast, List.getD_eq_getElem?_getD, h]
  rfl
theorem hexa_p (l : List Int) (hl : l.length ≤ 4000) (hok : okB l) : ∀ (r : List Int) (p : Nat) (ds : List Int) (k : Nat), At l p r → ok16 ds → ds.length ≤ p → r.length + 3 ≤ k →
    Rd l (lex_reader_hexa.l0 k (packs ds) (ds.length : Int) l (p : Int)) (hexL ds r)
  | [], p, ds, k => fun h hd hn hk => by
    obtain ⟨k, rfl⟩ : ∃ q, k = q + 1 := ⟨k - 1, by omega⟩
    refine ⟨p, ?_⟩
    rw [lex_reader_hexa.l0, peek_at l hl h, Option.bind_some]
    exact if_neg Bool.false_ne_true
  | c :: t, p, ds, k => fun h hd hn hk => by
    have hcok := h.ok hok
    rw [List.length_cons] at hk
    obtain ⟨k, rfl⟩ : ∃ q, k = q + 1 := ⟨k - 1, by omega⟩
    obtain ⟨h1, h2, h3⟩ := h.cons
    obtain ⟨c0, c1⟩ := hcok c (List.mem_cons_self ..)
    obtain ⟨q, hq, hw⟩ := of_white c k (by omega)
    have hdg := dg_lt c
    rw [lex_reader_hexa.l0, peek_at l hl h, Option.bind_some]
    show Rd l (if true = true then _ else _) _
    rw [if_pos rfl]
    show Rd l ((lex_digit.f c).bind _) _
    rw [digit_p c c0 c1, Option.bind_some]
    show Rd l (if c = 62 then _ else _) _
    unfold hexL
    by_cases h62 : c = 62
    · rw [if_pos h62, if_pos h62]
      refine ⟨p + 1, h3, ?_⟩
      show some (strOfNums (packs ds), (0 : Int), wrap64 ((p : Int) + 1)) = _
      rw [w1n p (by omega)]
      rfl
    rw [if_neg h62, if_neg h62]
    show Rd l ((lex_of.f k c).bind _) _
    rw [hq, Option.bind_some]
    have hp1 : (fun X : Int => lex_reader_hexa.l0 k (packs ds) (ds.length : Int) l X) (wrap64 ((p : Int) + 1)) = lex_reader_hexa.l0 k (packs ds) (ds.length : Int) l ((p + 1 : Nat) : Int) := by rw [w1n p (by omega)]
    by_cases hwt : whiteB c = true
    · rw [if_pos (hw.2 hwt), if_pos hwt]
      show Rd l (lex_reader_hexa.l0 k (packs ds) (ds.length : Int) l (wrap64 ((p : Int) + 1))) _
      rw [w1n p (by omega)]
      exact hexa_p l hl hok t (p + 1) ds k h3 hd (by omega) (by omega)
    rw [if_neg (fun e => hwt (hw.1 e)), if_neg hwt]
    by_cases hneg : dgI c < 0
    · rw [if_pos hneg, if_pos hneg]
      exact ⟨_, rfl⟩
    rw [if_neg hneg, if_neg hneg, and64 _ (by omega) (by omega)]
    have hd2 : ok16 (ds ++ [dgI c]) := fun x hx => by
      rcases List.mem_append.1 hx with hx | hx
      · exact hd x hx
      · rw [List.mem_singleton.1 hx]; omega
    have hn2 : ((ds ++ [dgI c]).length : Int) = (ds.length : Int) + 1 := by rw [List.length_append]; rfl
    have ih := hexa_p l hl hok t (p + 1) (ds ++ [dgI c]) k h3 hd2 (by rw [List.length_append]; show _ + 1 ≤ _; omega) (by omega)
    have hlen := packs_len ds
    rw [hn2] at ih
    by_cases he : ds.length % 2 = 0
    · rw [if_pos (by omega), if_pos (by omega)]
      rw [packs_even ds _ he] at ih
      show Rd l (lex_reader_hexa.l0 k (packs ds ++ [(wrap64 (dgI c * 16)) % 256]) (wrap64 ((ds.length : Int) + 1)) l (wrap64 ((p : Int) + 1))) _
      rw [w1n p (by omega), w1n ds.length (by omega), wsm (dgI c * 16) (by omega) (by omega), show (dgI c * 16) % 256 = 16 * dgI c from by omega]
      exact ih
    · obtain ⟨a, ha, hg, hs⟩ := packs_odd ds (dgI c) (by omega)
      obtain ⟨a0, a1⟩ := hd a ha
      have e2 : (ds.length : Int) / 2 = ((ds.length / 2 : Nat) : Int) := by omega
      rw [if_neg (by omega), if_pos (by omega), if_pos (by omega), e2]
      rw [hs] at ih
      show Rd l (lex_reader_hexa.l0 k ((packs ds).set (((ds.length / 2 : Nat) : Int)).toNat (Go.bits .or .u8 (rd (packs ds) ((ds.length / 2 : Nat) : Int)) (dgI c % 256))) (wrap64 ((ds.length : Int) + 1)) l (wrap64 ((p : Int) + 1))) _
      rw [w1n p (by omega), w1n ds.length (by omega), rd_get _ _ _ hg, show dgI c % 256 = dgI c from by omega, or8 4 (16 * a) (dgI c) (by omega) (by omega) (by omega) (by omega) (by omega) (by omega), Int.toNat_natCast]
      exact ih
theorem oct_p (l : List Int) (hl : l.length ≤ 4000) (hok : okB l) : ∀ (j : Nat) (r : List Int) (p : Nat) (n : Int) (out : List Int) (k : Nat), At l p r → 0 ≤ n → (j = 0 ∧ n ≤ 4095 ∨ j = 1 ∧ n ≤ 511 ∨ j = 2 ∧ n ≤ 63) → out.length ≤ 5000 → j + 2 ≤ k →
    ∃ p', At l p' (octL j n r).2 ∧ lex_reader_escape.l0 k out n (2 - (j : Int)) l (p : Int) = some (out ++ (octL j n r).1, true, (p' : Int))
  | 0, r, p, n, out, k => fun h hn hb ho hk => by
    obtain ⟨k, rfl⟩ : ∃ q, k = q + 1 := ⟨k - 1, by omega⟩
    refine ⟨p, h, ?_⟩
    rw [lex_reader_escape.l0, if_neg (by omega), if_pos (by omega)]
    rfl
  | j + 1, [], p, n, out, k => fun h hn hb ho hk => by
    obtain ⟨k, rfl⟩ : ∃ q, k = q + 1 := ⟨k - 1, by omega⟩
    refine ⟨p, h, ?_⟩
    rw [lex_reader_escape.l0, if_pos (by omega), peek_at l hl h, Option.bind_some]
    show (if false = true then _ else _) = _
    rw [if_neg (by decide), if_pos (by omega)]
    rfl
  | j + 1, d :: t, p, n, out, k => fun h hn hb ho hk => by
    obtain ⟨k, rfl⟩ : ∃ q, k = q + 1 := ⟨k - 1, by omega⟩
    obtain ⟨h1, h2, h3⟩ := h.cons
    rw [lex_reader_escape.l0, if_pos (by omega), peek_at l hl h, Option.bind_some]
    show ∃ p', _ ∧ (if true = true then (if d < 48 then _ else (if d > 55 then _ else lex_reader_escape.l0 k out (Go.bits .or .i64 (wrap64 (n * 8)) ((d - 48) % 256)) (wrap64 (2 - ((j + 1 : Nat) : Int) + 1)) l (wrap64 ((p : Int) + 1)))) else _) = _
    rw [if_pos rfl]
    unfold octL
    by_cases h48 : d < 48
    · rw [if_pos h48, if_neg (by omega), if_pos (by omega)]
      exact ⟨p, h, rfl⟩
    rw [if_neg h48]
    by_cases h55 : d > 55
    · rw [if_pos h55, if_neg (by omega), if_pos (by omega)]
      exact ⟨p, h, rfl⟩
    rw [if_neg h55, if_pos (by omega), w1n p (by omega), wsm (n * 8) (by omega) (by omega), wsm (2 - ((j + 1 : Nat) : Int) + 1) (by omega) (by omega), show (d - 48) % 256 = d - 48 from by omega, or64 3 (n * 8) (d - 48) (by omega) (by omega) (by omega) (by omega) (by omega) (by omega), show 2 - ((j + 1 : Nat) : Int) + 1 = 2 - (j : Int) from by omega, show n * 8 + (d - 48) = 8 * n + (d - 48) from by omega]
    exact oct_p l hl hok j t (p + 1) (8 * n + (d - 48)) out k h3 (by omega) (by omega) ho (by omega)
def escD : List UInt8 := [110, 114, 116, 98, 102]
theorem esc_none (c : Int) (h0 : 0 ≤ c) (h1 : c ≤ 255) (n1 : c ≠ 110) (n2 : c ≠ 114) (n3 : c ≠ 116) (n4 : c ≠ 98) (n5 : c ≠ 102) : Lib.indexByte escD c.toNat.toUInt8 = -1 := by
  obtain ⟨n, rfl⟩ := Int.eq_ofNat_of_zero_le h0
  refine index_not _ _ fun x hx e => ?_
  have hm : x.toNat ∈ escD.map (·.toNat) := List.mem_map_of_mem hx
  have en : n.toUInt8.toNat = n := by
    show (UInt8.ofNat n).toNat = n
    rw [UInt8.toNat_ofNat', Nat.mod_eq_of_lt (by omega)]
  rw [e, Int.toNat_natCast, en, show escD.map (·.toNat) = [110, 114, 116, 98, 102] from by decide] at hm
  simp only [List.mem_cons, List.not_mem_nil, or_false] at hm
  omega
theorem esc_end (l : List Int) (hl : l.length ≤ 4000) {p : Nat} (h : At l p []) (out : List Int) (k : Nat) : lex_reader_escape.f k l (p : Int) out = some ([], false, (p : Int)) := by
  unfold lex_reader_escape.f
  rw [peek_at l hl h, Option.bind_some]
  exact if_neg Bool.false_ne_true
theorem esc_p (l : List Int) (hl : l.length ≤ 4000) (hok : okB l) (c : Int) (t : List Int) (p : Nat) (out : List Int) (k : Nat) (h : At l p (c :: t)) (ho : out.length ≤ 5000) (hk : 5 ≤ k) :
    ∃ p', At l p' (escL c t).2 ∧ lex_reader_escape.f k l (p : Int) out = some (out ++ (escL c t).1, true, (p' : Int)) := by
  obtain ⟨h1, h2, h3⟩ := h.cons
  obtain ⟨c0, c1⟩ := h.ok hok c (List.mem_cons_self ..)
  have hix : ∀ d, strings_IndexByte.f (⟨#[110, 114, 116, 98, 102]⟩ : ByteArray) d = some (Lib.indexByte escD d.toNat.toUInt8) := fun d => rfl
  unfold lex_reader_escape.f
  rw [peek_at l hl h, Option.bind_some]
  show ∃ p', _ ∧ (if true = true then _ else _) = _
  rw [if_pos rfl]
  show ∃ p', _ ∧ ((strings_IndexByte.f (⟨#[110, 114, 116, 98, 102]⟩ : ByteArray) c).bind _) = _
  rw [hix, Option.bind_some]
  show ∃ p', _ ∧ (if Lib.indexByte escD c.toNat.toUInt8 ≥ 0 then (if 0 ≤ Lib.indexByte escD c.toNat.toUInt8 then (if Lib.indexByte escD c.toNat.toUInt8 < 5 then (if out.length < 140737488355328 then (some ((out ++ [bt (⟨#[10, 13, 9, 8, 12]⟩ : ByteArray) (Lib.indexByte escD c.toNat.toUInt8)]), true, wrap64 ((p : Int) + 1))) else (none)) else (none)) else (none)) else (if c = 13 then ((lex_reader_peek.f l (wrap64 ((p : Int) + 1)) 0).bind fun bt142 => (if bt142.2.1 = true then (if bt142.1 = 10 then (some (out, true, wrap64 (bt142.2.2 + 1))) else (some (out, true, bt142.2.2))) else (some (out, true, bt142.2.2)))) else (if c = 10 then (some (out, true, wrap64 ((p : Int) + 1))) else (if c < 48 then (if out.length < 140737488355328 then (some ((out ++ [c]), true, wrap64 ((p : Int) + 1))) else (none)) else (if c > 55 then (if out.length < 140737488355328 then (some ((out ++ [c]), true, wrap64 ((p : Int) + 1))) else (none)) else (lex_reader_escape.l0 k out ((c - 48) % 256) 0 l (wrap64 ((p : Int) + 1)))))))) = _
  rw [w1n p (by omega)]
  have hit : ∀ (i v : Int), Lib.indexByte escD c.toNat.toUInt8 = i → 0 ≤ i → i < 5 → bt (⟨#[10, 13, 9, 8, 12]⟩ : ByteArray) i = v → (escL c t) = ([v], t) →
      ∃ p' : Nat, At l p' (escL c t).2 ∧ (if Lib.indexByte escD c.toNat.toUInt8 ≥ 0 then (if 0 ≤ Lib.indexByte escD c.toNat.toUInt8 then (if Lib.indexByte escD c.toNat.toUInt8 < 5 then (if out.length < 140737488355328 then (some ((out ++ [bt (⟨#[10, 13, 9, 8, 12]⟩ : ByteArray) (Lib.indexByte escD c.toNat.toUInt8)]), true, ((p + 1 : Nat) : Int))) else (none)) else (none)) else (none)) else (if c = 13 then ((lex_reader_peek.f l ((p + 1 : Nat) : Int) 0).bind fun bt142 => (if bt142.2.1 = true then (if bt142.1 = 10 then (some (out, true, wrap64 (bt142.2.2 + 1))) else (some (out, true, bt142.2.2))) else (some (out, true, bt142.2.2)))) else (if c = 10 then (some (out, true, ((p + 1 : Nat) : Int))) else (if c < 48 then (if out.length < 140737488355328 then (some ((out ++ [c]), true, ((p + 1 : Nat) : Int))) else (none)) else (if c > 55 then (if out.length < 140737488355328 then (some ((out ++ [c]), true, ((p + 1 : Nat) : Int))) else (none)) else (lex_reader_escape.l0 k out ((c - 48) % 256) 0 l ((p + 1 : Nat) : Int))))))) = some (out ++ (escL c t).1, true, (p' : Int)) := fun i v hi i0 i5 hv he => by
    rw [hi, if_pos i0, if_pos i0, if_pos i5, if_pos (by omega), hv, he]
    exact ⟨p + 1, h3, rfl⟩
  by_cases e1 : c = 110
  · exact hit 0 10 (by rw [e1]; decide) (by decide) (by decide) (by decide) (by unfold escL; rw [if_pos e1])
  by_cases e2 : c = 114
  · exact hit 1 13 (by rw [e2]; decide) (by decide) (by decide) (by decide) (by unfold escL; rw [if_neg e1, if_pos e2])
  by_cases e3 : c = 116
  · exact hit 2 9 (by rw [e3]; decide) (by decide) (by decide) (by decide) (by unfold escL; rw [if_neg e1, if_neg e2, if_pos e3])
  by_cases e4 : c = 98
  · exact hit 3 8 (by rw [e4]; decide) (by decide) (by decide) (by decide) (by unfold escL; rw [if_neg e1, if_neg e2, if_neg e3, if_pos e4])
  by_cases e5 : c = 102
  · exact hit 4 12 (by rw [e5]; decide) (by decide) (by decide) (by decide) (by unfold escL; rw [if_neg e1, if_neg e2, if_neg e3, if_neg e4, if_pos e5])
  clear hit hix
  rw [esc_none c c0 c1 e1 e2 e3 e4 e5, if_neg (by decide)]
  unfold escL
  rw [if_neg e1, if_neg e2, if_neg e3, if_neg e4, if_neg e5]
  by_cases e13 : c = 13
  · rw [if_pos e13, if_pos e13, peek_at l hl h3, Option.bind_some]
    cases t with
    | nil =>
      refine ⟨p + 1, h3, ?_⟩
      show (if false = true then _ else _) = some (out ++ [], true, ((p + 1 : Nat) : Int))
      rw [if_neg (by decide), List.append_nil]
    | cons d r =>
      obtain ⟨_, _, h4⟩ := h3.cons
      have hn4 := h4.len
      show ∃ p', At l p' (if d = 10 then ([], r) else ([], d :: r) : List Int × List Int).2 ∧ (if true = true then (if d = 10 then (some (out, true, wrap64 (((p + 1 : Nat) : Int) + 1))) else (some (out, true, ((p + 1 : Nat) : Int)))) else _) = some (out ++ (if d = 10 then ([], r) else ([], d :: r) : List Int × List Int).1, true, (p' : Int))
      rw [if_pos rfl]
      by_cases h10 : d = 10
      · rw [if_pos h10, if_pos h10, w1n (p + 1) (by omega)]
        exact ⟨p + 1 + 1, h4, by rw [List.append_nil]⟩
      · rw [if_neg h10, if_neg h10]
        exact ⟨p + 1, h3, by rw [List.append_nil]⟩
  rw [if_neg e13, if_neg e13]
  by_cases e10 : c = 10
  · rw [if_pos e10, if_pos e10]
    exact ⟨p + 1, h3, by rw [List.append_nil]⟩
  rw [if_neg e10, if_neg e10]
  by_cases h48 : c < 48
  · rw [if_pos h48, if_pos (Or.inl h48), if_pos (by omega)]
    exact ⟨p + 1, h3, rfl⟩
  rw [if_neg h48]
  by_cases h55 : c > 55
  · rw [if_pos h55, if_pos (Or.inr h55), if_pos (by omega)]
    exact ⟨p + 1, h3, rfl⟩
  rw [if_neg h55, if_neg (by omega), show (c - 48) % 256 = c - 48 from by omega]
  exact oct_p l hl hok 2 t (p + 1) (c - 48) out k h3 (by omega) (by omega) ho (by omega)
theorem oct_one : ∀ (k : Nat) (n : Int) (t : List Int), (octL k n t).1.length = 1
  | 0, n, t => rfl
  | _ + 1, n, [] => rfl
  | k + 1, n, d :: t => by
    unfold octL
    split
    · exact oct_one k _ t
    · rfl
theorem esc_one (c : Int) (t : List Int) : (escL c t).1.length ≤ 1 := by
  unfold escL
  split; exact Nat.le_refl _
  split; exact Nat.le_refl _
  split; exact Nat.le_refl _
  split; exact Nat.le_refl _
  split; exact Nat.le_refl _
  split
  · cases t with
    | nil => exact Nat.zero_le _
    | cons d r => dsimp only; split <;> exact Nat.zero_le _
  split; exact Nat.zero_le _
  split; exact Nat.le_refl _
  rw [oct_one]
  exact Nat.le_refl _
theorem put_f (rest : List Int → Int → Int → Option (ByteArray × Int × Int)) (out : List Int) (c d a : Int) (h : out.length ≤ 5000) : textPut rest out c d a = rest (out ++ [c]) d a := by
  unfold textPut
  rw [if_pos (by omega)]
theorem wdn (d : Nat) (h : d ≤ 5000) (h1 : 1 ≤ d) : wrap64 ((d : Int) - 1) = ((d - 1 : Nat) : Int) := by rw [wsm _ (by omega) (by omega)]; omega
theorem text_p (l : List Int) (hl : l.length ≤ 4000) (hok : okB l) : ∀ (n : Nat) (r : List Int) (p : Nat) (out : List Int) (deep : Nat) (k f : Nat), r.length ≤ n → At l p r → out.length ≤ p → 1 ≤ deep → deep ≤ p + 1 → r.length + 7 ≤ k → r.length + 1 ≤ f →
    Rd l (lex_reader_text.l0 k out (deep : Int) l (p : Int)) (textL f (deep : Int) out r)
  | n, [], p, out, deep, k, f => fun hn h ho d1 d2 hk hf => by
    obtain ⟨k, rfl⟩ : ∃ q, k = q + 1 := ⟨k - 1, by omega⟩
    obtain ⟨f, rfl⟩ : ∃ q, f = q + 1 := ⟨f - 1, by omega⟩
    refine ⟨p, ?_⟩
    rw [lex_reader_text.l0, peek_at l hl h, Option.bind_some]
    exact if_neg Bool.false_ne_true
  | 0, c :: t, p, out, deep, k, f => fun hn h ho d1 d2 hk hf => by rw [List.length_cons] at hn; omega
  | n + 1, c :: t, p, out, deep, k, f => fun hn h ho d1 d2 hk hf => by
    rw [List.length_cons] at hn hk hf
    obtain ⟨k, rfl⟩ : ∃ q, k = q + 1 := ⟨k - 1, by omega⟩
    obtain ⟨f, rfl⟩ : ∃ q, f = q + 1 := ⟨f - 1, by omega⟩
    obtain ⟨h1, h2, h3⟩ := h.cons
    have hn3 := h3.len
    have go : ∀ (r' : List Int) (p' : Nat) (o : List Int) (d' : Nat), r'.length ≤ t.length → At l p' r' → o.length ≤ p' → 1 ≤ d' → d' ≤ p' + 1 → Rd l (lex_reader_text.l0 k o (d' : Int) l (p' : Int)) (textL f (d' : Int) o r') := fun r' p' o d' a b c d e => text_p l hl hok n r' p' o d' k f (by omega) b c d e (by omega) (by omega)
    rw [lex_reader_text.l0, peek_at l hl h, Option.bind_some]
    show Rd l (if true = true then (if c = 92 then (lex_reader_escape.f k l (wrap64 ((p : Int) + 1)) out).bind fun q => if q.2.1 = true then lex_reader_text.l0 k q.1 (deep : Int) l q.2.2 else some (⟨#[]⟩, 4, q.2.2)
      else if c = 40 then textPut (fun o d a => lex_reader_text.l0 k o d l a) out 40 (wrap64 ((deep : Int) + 1)) (wrap64 ((p : Int) + 1))
      else if c = 41 then (if wrap64 ((deep : Int) - 1) = 0 then some (strOfNums out, 0, wrap64 ((p : Int) + 1)) else textPut (fun o d a => lex_reader_text.l0 k o d l a) out 41 (wrap64 ((deep : Int) - 1)) (wrap64 ((p : Int) + 1)))
      else if c = 13 then (lex_reader_peek.f l (wrap64 ((p : Int) + 1)) 0).bind fun q => if q.2.1 = true then (if q.1 = 10 then textPut (fun o d a => lex_reader_text.l0 k o d l a) out 10 (deep : Int) (wrap64 (q.2.2 + 1)) else textPut (fun o d a => lex_reader_text.l0 k o d l a) out 10 (deep : Int) q.2.2) else textPut (fun o d a => lex_reader_text.l0 k o d l a) out 10 (deep : Int) q.2.2
      else textPut (fun o d a => lex_reader_text.l0 k o d l a) out c (deep : Int) (wrap64 ((p : Int) + 1))) else _) _
    rw [if_pos rfl, w1n p (by omega), put_f _ _ _ _ _ (by omega), put_f _ _ _ _ _ (by omega), put_f _ _ _ _ _ (by omega)]
    unfold textL
    have ho1 : ∀ x : Int, (out ++ [x]).length ≤ p + 1 := fun x => by rw [List.length_append]; show _ + 1 ≤ _; omega
    by_cases e92 : c = 92
    · rw [if_pos e92, if_pos e92]
      cases t with
      | nil =>
        rw [esc_end l hl h3, Option.bind_some]
        exact ⟨_, if_neg Bool.false_ne_true⟩
      | cons d r =>
        obtain ⟨p', hp', he⟩ := esc_p l hl hok d r (p + 1) out k h3 (by omega) (by omega)
        rw [he, Option.bind_some]
        show Rd l (if true = true then lex_reader_text.l0 k (out ++ (escL d r).1) (deep : Int) l (p' : Int) else _) (textL f (deep : Int) (out ++ (escL d r).1) (escL d r).2)
        rw [if_pos rfl]
        have hs := (esc_suf d r).length_le
        have h1' := esc_one d r
        have hl' := hp'.len
        rw [List.length_cons] at hn3
        exact go _ p' _ deep (by rw [List.length_cons]; omega) hp' (by rw [List.length_append]; omega) d1 (by omega)
    rw [if_neg e92, if_neg e92]
    by_cases e40 : c = 40
    · rw [if_pos e40, if_pos e40, w1n deep (by omega)]
      exact go t (p + 1) _ (deep + 1) (Nat.le_refl _) h3 (ho1 _) (by omega) (by omega)
    rw [if_neg e40, if_neg e40]
    by_cases e41 : c = 41
    · rw [if_pos e41, if_pos e41, wdn deep (by omega) d1]
      by_cases hd : deep = 1
      · rw [if_pos (by omega), if_pos (by omega)]
        exact ⟨p + 1, h3, rfl⟩
      · rw [if_neg (by omega), if_neg (by omega), show ((deep : Int) - 1) = ((deep - 1 : Nat) : Int) from by omega]
        exact go t (p + 1) _ (deep - 1) (Nat.le_refl _) h3 (ho1 _) (by omega) (by omega)
    rw [if_neg e41, if_neg e41]
    by_cases e13 : c = 13
    · rw [if_pos e13, if_pos e13, peek_at l hl h3, Option.bind_some]
      cases t with
      | nil =>
        show Rd l (if false = true then _ else textPut (fun o d a => lex_reader_text.l0 k o d l a) out 10 (deep : Int) ((p + 1 : Nat) : Int)) (textL f (deep : Int) (out ++ [10]) [])
        rw [if_neg (by decide), put_f _ _ _ _ _ (by omega)]
        exact go [] (p + 1) _ deep (Nat.le_refl _) h3 (ho1 _) d1 (by omega)
      | cons d r =>
        obtain ⟨_, _, h4⟩ := h3.cons
        have hn4 := h4.len
        show Rd l (if true = true then (if d = 10 then textPut (fun o d a => lex_reader_text.l0 k o d l a) out 10 (deep : Int) (wrap64 (((p + 1 : Nat) : Int) + 1)) else textPut (fun o d a => lex_reader_text.l0 k o d l a) out 10 (deep : Int) ((p + 1 : Nat) : Int)) else _) (if d = 10 then textL f (deep : Int) (out ++ [10]) r else textL f (deep : Int) (out ++ [10]) (d :: r))
        rw [if_pos rfl, put_f _ _ _ _ _ (by omega), put_f _ _ _ _ _ (by omega), w1n (p + 1) (by omega)]
        by_cases h10 : d = 10
        · rw [if_pos h10, if_pos h10]
          exact go r (p + 1 + 1) _ deep (by rw [List.length_cons]; omega) h4 (by have := ho1 10; omega) d1 (by omega)
        · rw [if_neg h10, if_neg h10]
          exact go (d :: r) (p + 1) _ deep (Nat.le_refl _) h3 (ho1 _) d1 (by omega)
    rw [if_neg e13, if_neg e13]
    exact go t (p + 1) _ deep (Nat.le_refl _) h3 (ho1 _) d1 (by omega)
end Go.Proofs.YtnhgnejfagncpaaDoor.Plain
end
section
namespace Go.Proofs.YtnhgnejfagncpaaDoor.Plain
open Go Go.RowKit Go.Proofs.YtnhgnejfagncpaaDoorW.PrintWords Go.Proofs.YtnhgnejfagncpaaDoor.H Go.Proofs.YtnhgnejfagncpaaDoor.A Go.Proofs.YtnhgnejfagncpaaDoor.B Go.Proofs.YtnhgnejfagncpaaDoor.E Go.Proofs.YtnhgnejfagncpaaDoor.L Go.Proofs.YtnhgnejfagncpaaDoor.M Go.Proofs.YtnhgnejfagncpaaDoor.P
set_option linter.unusedVariables false
theorem hex_len : ∀ (r ds s r' : List Int), hexL ds r = some (s, r') → s.length ≤ ds.length + r.length
  | [], _, _, _ => fun h => by cases h
  | c :: t, ds, s, r' => fun h => by
    unfold hexL at h
    rw [List.length_cons]
    split at h
    · obtain ⟨rfl, _⟩ := Prod.mk.inj (Option.some.inj h)
      rw [packs_len]
      omega
    split at h
    · have := hex_len t ds s r' h; omega
    split at h
    · cases h
    · have := hex_len t _ s r' h
      rw [List.length_append] at this
      have e : [dgI c].length = 1 := rfl
      omega
theorem text_len : ∀ (k : Nat) (deep : Int) (out r s r' : List Int), textL k deep out r = some (s, r') → s.length ≤ out.length + r.length
  | 0, _, _, _, _, _ => fun h => by cases h
  | _ + 1, _, _, [], _, _ => fun h => by cases h
  | k + 1, deep, out, c :: t, s, r' => fun h => by
    have go : ∀ (d : Int) (o q : List Int), o.length + q.length ≤ out.length + (c :: t).length → textL k d o q = some (s, r') → s.length ≤ out.length + (c :: t).length := fun d o q hl hh => by
      have := text_len k d o q s r' hh
      omega
    have one : ∀ x : Int, (out ++ [x]).length + t.length ≤ out.length + (c :: t).length := fun x => by rw [List.length_append, List.length_cons]; show out.length + 1 + t.length ≤ out.length + (t.length + 1); omega
    unfold textL at h
    split at h
    · cases t with
      | nil => cases h
      | cons d q =>
        dsimp only at h
        refine go _ _ _ ?_ h
        have h1 := esc_one d q
        have h2 := (esc_suf d q).length_le
        rw [List.length_append, List.length_cons, List.length_cons]
        omega
    split at h
    · exact go _ _ _ (one _) h
    split at h
    · split at h
      · obtain ⟨rfl, _⟩ := Prod.mk.inj (Option.some.inj h)
        omega
      · exact go _ _ _ (one _) h
    split at h
    · cases t with
      | nil => exact go _ _ _ (one _) h
      | cons d q =>
        dsimp only at h
        split at h
        · refine go _ _ _ ?_ h
          have := one 10
          rw [List.length_cons] at this
          omega
        · exact go _ _ _ (one _) h
    · exact go _ _ _ (one _) h
theorem name_len : ∀ (k : Nat) (r o : List Int), nameL k r = some o → o.length ≤ r.length
  | 0, _, _ => fun h => by cases h
  | _ + 1, [], _ => fun h => by cases h; exact Nat.le_refl _
  | k + 1, c :: t, o => fun h => by
    unfold nameL at h
    rw [List.length_cons]
    split at h
    · cases t with
      | nil => cases h
      | cons a t =>
        cases t with
        | nil => cases h
        | cons b q =>
          dsimp only at h
          split at h
          · cases h
          split at h
          · cases h
          · obtain ⟨x, hx, rfl⟩ := Option.map_eq_some_iff.1 h
            have := name_len k q x hx
            rw [List.length_cons, List.length_cons, List.length_cons]
            omega
    · obtain ⟨x, hx, rfl⟩ := Option.map_eq_some_iff.1 h
      have := name_len k t x hx
      rw [List.length_cons]
      omega
theorem row_len (r : List Int) : (rowA r).length ≤ r.length := by
  have := congrArg List.length (row_eq r)
  rw [List.length_append] at this
  omega
def TkR (l : List Int) (x : Option (Int × Int × Int × ByteArray × Int × Int)) (o : TokR) : Prop := match o with
  | .err e => e ≠ 0 ∧ ∃ q, x = some (0, 0, 0, ⟨#[]⟩, e, q)
  | .tok kind M S s r => ∃ p' : Nat, At l p' r ∧ x = some (kind, M, S, bs s, 0, (p' : Int))
theorem whole_p (l : List Int) (kind : Int) (X : Option (ByteArray × Int × Int)) (o : Option (List Int × List Int)) (k : Nat) (hk : 1 ≤ k) (ho : ∀ s r, o = some (s, r) → s.length ≤ 65535) (h : Rd l X o) :
    TkR l (X.bind fun bt => lex_reader_token.j2 k kind bt.1 bt.2.1 l bt.2.2) (wholeL kind o) := by
  obtain ⟨k, rfl⟩ : ∃ q, k = q + 1 := ⟨k - 1, by omega⟩
  cases o with
  | none =>
    obtain ⟨q, rfl⟩ := h
    refine ⟨by decide, q, ?_⟩
    rw [Option.bind_some, lex_reader_token.j2]
    exact if_neg (show ¬ ((4 : Int) = 0) from by decide)
  | some p =>
    obtain ⟨s, r⟩ := p
    obtain ⟨p', hp, rfl⟩ := h
    have := ho s r rfl
    refine ⟨p', hp, ?_⟩
    rw [Option.bind_some, lex_reader_token.j2]
    show (if (0 : Int) = 0 then (if ((bs s).size : Int) > 65535 then _ else _) else _) = _
    rw [if_pos rfl, bs_len, if_neg (by omega)]
theorem word_p (l : List Int) (hl : l.length ≤ 4000) (c : Int) (t : List Int) (p k : Nat) (h : At l p (c :: t)) (hc : otherB c = true) (hk : 9000 ≤ k) :
    TkR l (lex_reader_word.f k l (p : Int)) (wordL (c :: rowA t) (rowZ t)) := by
  have hn := h.len
  obtain ⟨p', hp, hr⟩ := row_pf l hl (c :: t) p k h (by omega)
  have ea : rowA (c :: t) = c :: rowA t := by show (if _ then _ else _) = _; rw [if_pos hc]
  have ez : rowZ (c :: t) = rowZ t := by show (if _ then _ else _) = _; rw [if_pos hc]
  rw [ea] at hr
  rw [ez] at hp
  unfold lex_reader_word.f
  rw [hr, Option.bind_some]
  show TkR l ((dec_Parse.f k (bs (c :: rowA t))).bind _) _
  rw [parse_f _ k (by omega), Option.bind_some, show (bs (c :: rowA t)).data.toList = u8L (c :: rowA t) from rfl]
  unfold wordL
  by_cases h0 : (parseL (u8L (c :: rowA t))).2.2 = 0
  · rw [if_pos h0, if_pos h0]
    refine ⟨p', hp, ?_⟩
    rw [h0]
    rfl
  rw [if_neg h0, if_neg h0]
  by_cases h5 : (parseL (u8L (c :: rowA t))).2.2 = 5
  · rw [if_pos h5, if_pos h5]
    refine ⟨by decide, (p' : Int), ?_⟩
    rw [h5]
  rw [if_neg h5, if_neg h5]
  by_cases h127 : 127 < (c :: rowA t).length
  · rw [if_pos (by rw [bs_len]; omega), if_pos h127]
    exact ⟨by decide, _, rfl⟩
  · rw [if_neg (by rw [bs_len]; omega), if_neg h127]
    exact ⟨p', hp, rfl⟩
theorem j2_tok (l : List Int) (kind : Int) (k : Nat) (hk : 1 ≤ k) (p : Nat) (r : List Int) (h : At l p r) : TkR l (lex_reader_token.j2 k kind (⟨#[]⟩ : ByteArray) 0 l (p : Int)) (.tok kind 0 0 [] r) := by
  obtain ⟨k, rfl⟩ : ∃ q, k = q + 1 := ⟨k - 1, by omega⟩
  refine ⟨p, h, ?_⟩
  rw [lex_reader_token.j2, if_pos rfl, if_neg (by decide)]
  rfl
theorem j2_bad (l : List Int) (kind : Int) (k : Nat) (hk : 1 ≤ k) (p : Int) : TkR l (lex_reader_token.j2 k kind (⟨#[]⟩ : ByteArray) 4 l p) (.err 4) := by
  obtain ⟨k, rfl⟩ : ∃ q, k = q + 1 := ⟨k - 1, by omega⟩
  refine ⟨by decide, p, ?_⟩
  rw [lex_reader_token.j2, if_neg (by decide)]
theorem mark_p (l : List Int) (hl : l.length ≤ 4000) (hok : okB l) (c : Int) (t : List Int) (p k : Nat) (h : At l p (c :: t)) (hk : 13000 ≤ k) :
    TkR l (if c = 91 then (lex_reader_token.j2 k 5 (⟨#[]⟩ : ByteArray) 0 l (wrap64 ((p : Int) + 1))) else (if c = 93 then (lex_reader_token.j2 k 6 (⟨#[]⟩ : ByteArray) 0 l (wrap64 ((p : Int) + 1))) else (if c = 60 then (if (pk t).2 = true then (lex_reader_token.j0 k c (pk t).2 (pk t).1 3 (⟨#[]⟩ : ByteArray) 0 ((pk t).1 == c) l (wrap64 ((p : Int) + 1))) else (lex_reader_token.j0 k c (pk t).2 (pk t).1 3 (⟨#[]⟩ : ByteArray) 0 false l (wrap64 ((p : Int) + 1)))) else (lex_reader_token.j0 k c (pk t).2 (pk t).1 3 (⟨#[]⟩ : ByteArray) 0 false l (wrap64 ((p : Int) + 1)))))) (markL c t) := by
  obtain ⟨k, rfl⟩ : ∃ q, k = q + 2 := ⟨k - 2, by omega⟩
  obtain ⟨h1, h2, h3⟩ := h.cons
  have hn3 := h3.len
  rw [w1n p (by omega)]
  have hhex : TkR l ((lex_reader_hexa.f k l ((p + 1 : Nat) : Int)).bind fun bt160 => (lex_reader_token.j2 k 3 bt160.1 bt160.2.1 l bt160.2.2)) (wholeL 3 (hexL [] t)) := by
    refine whole_p l 3 _ _ k (by omega) (fun s r hs => ?_) ?_
    · have := hex_len t [] s r hs
      rw [List.length_nil] at this
      omega
    · unfold lex_reader_hexa.f
      exact hexa_p l hl hok t (p + 1) [] k h3 (fun c hc => by cases hc) (Nat.zero_le _) (by omega)
  have j1no : ∀ q : Int × Bool, lex_reader_token.j0 (k + 2) c q.2 q.1 3 (⟨#[]⟩ : ByteArray) 0 false l ((p + 1 : Nat) : Int) = (if c = 62 then (if q.2 = true then (lex_reader_token.j1 (k + 1) c 3 (⟨#[]⟩ : ByteArray) 0 (q.1 == c) l ((p + 1 : Nat) : Int)) else (lex_reader_token.j1 (k + 1) c 3 (⟨#[]⟩ : ByteArray) 0 false l ((p + 1 : Nat) : Int))) else (lex_reader_token.j1 (k + 1) c 3 (⟨#[]⟩ : ByteArray) 0 false l ((p + 1 : Nat) : Int))) := fun q => by
    rw [lex_reader_token.j0, if_neg (by decide)]
  have j1f : lex_reader_token.j1 (k + 1) c 3 (⟨#[]⟩ : ByteArray) 0 false l ((p + 1 : Nat) : Int) = (if c = 60 then ((lex_reader_hexa.f k l ((p + 1 : Nat) : Int)).bind fun bt160 => (lex_reader_token.j2 k 3 bt160.1 bt160.2.1 l bt160.2.2)) else (if c = 40 then ((lex_reader_text.f k l ((p + 1 : Nat) : Int)).bind fun bt163 => (lex_reader_token.j2 k 3 bt163.1 bt163.2.1 l bt163.2.2)) else (if c = 47 then ((lex_reader_row.f k l ((p + 1 : Nat) : Int)).bind fun bt166 => ((lex_name.f k bt166.1).bind fun bt168 => (lex_reader_token.j2 k 2 bt168.1 bt168.2 l bt166.2))) else (lex_reader_token.j2 k 3 (⟨#[]⟩ : ByteArray) 4 l ((p + 1 : Nat) : Int))))) := by
    rw [lex_reader_token.j1, if_neg (by decide)]
  unfold markL
  by_cases e1 : c = 91
  · rw [if_pos e1, if_pos e1]
    exact j2_tok l 5 _ (by omega) (p + 1) t h3
  rw [if_neg e1, if_neg e1]
  by_cases e2 : c = 93
  · rw [if_pos e2, if_pos e2]
    exact j2_tok l 6 _ (by omega) (p + 1) t h3
  rw [if_neg e2, if_neg e2]
  by_cases e3 : c = 60
  · rw [if_pos e3, if_pos e3]
    have n62 : ¬ c = 62 := by omega
    have plain : TkR l (lex_reader_token.j0 (k + 2) c (pk t).2 (pk t).1 3 (⟨#[]⟩ : ByteArray) 0 false l ((p + 1 : Nat) : Int)) (wholeL 3 (hexL [] t)) := by
      rw [j1no, if_neg n62, j1f, if_pos e3]
      exact hhex
    cases t with
    | nil =>
      rw [show (pk []).2 = false from rfl, if_neg Bool.false_ne_true]
      exact plain
    | cons d r =>
      obtain ⟨_, _, h4⟩ := h3.cons
      have hn4 := h4.len
      rw [show (pk (d :: r)).2 = true from rfl, if_pos rfl, show (pk (d :: r)).1 = d from rfl]
      dsimp only
      by_cases hd : d = 60
      · rw [if_pos hd, beq_iff_eq.2 (hd.trans e3.symm), lex_reader_token.j0, if_pos rfl, w1n (p + 1) (by omega)]
        exact j2_tok l 7 _ (by omega) (p + 1 + 1) r h4
      · rw [if_neg hd, beq_eq_false_iff_ne.2 (fun e => hd (e.trans e3))]
        exact plain
  rw [if_neg e3, if_neg e3, j1no]
  by_cases e4 : c = 62
  · rw [if_pos e4, if_pos e4]
    have bad : TkR l (lex_reader_token.j1 (k + 1) c 3 (⟨#[]⟩ : ByteArray) 0 false l ((p + 1 : Nat) : Int)) (.err 4) := by
      rw [j1f, if_neg e3, if_neg (by omega), if_neg (by omega)]
      exact j2_bad l 3 k (by omega) _
    cases t with
    | nil =>
      rw [show (pk []).2 = false from rfl, if_neg Bool.false_ne_true]
      exact bad
    | cons d r =>
      obtain ⟨_, _, h4⟩ := h3.cons
      have hn4 := h4.len
      rw [show (pk (d :: r)).2 = true from rfl, if_pos rfl, show (pk (d :: r)).1 = d from rfl]
      dsimp only
      by_cases hd : d = 62
      · rw [if_pos hd, beq_iff_eq.2 (hd.trans e4.symm), lex_reader_token.j1, if_pos rfl, w1n (p + 1) (by omega)]
        exact j2_tok l 8 _ (by omega) (p + 1 + 1) r h4
      · rw [if_neg hd, beq_eq_false_iff_ne.2 (fun e => hd (e.trans e4))]
        exact bad
  rw [if_neg e4, if_neg e4, j1f, if_neg e3]
  by_cases e5 : c = 40
  · rw [if_pos e5, if_pos e5]
    refine whole_p l 3 _ _ k (by omega) (fun s r hs => ?_) ?_
    · have := text_len _ _ _ _ s r hs
      rw [List.length_nil] at this
      omega
    · unfold lex_reader_text.f
      exact text_p l hl hok t.length t (p + 1) [] 1 k (t.length + 1) (Nat.le_refl _) h3 (Nat.zero_le _) (Nat.le_refl _) (by omega) (by omega) (Nat.le_refl _)
  rw [if_neg e5, if_neg e5]
  by_cases e6 : c = 47
  · rw [if_pos e6, if_pos e6]
    obtain ⟨p', hp, hr⟩ := row_pf l hl t (p + 1) k h3 (by omega)
    have hrl := row_len t
    have hra : okB (rowA t) := fun x hx => (h3.ok hok) x (by rw [← row_eq t]; exact List.mem_append_left _ hx)
    rw [hr, Option.bind_some]
    show TkR l ((lex_name.f k (bs (rowA t))).bind _) _
    rw [name_pf (rowA t) hra (by omega) k ((rowA t).length + 1) (by omega) (Nat.le_refl _), Option.bind_some]
    obtain ⟨k, rfl⟩ : ∃ q, k = q + 1 := ⟨k - 1, by omega⟩
    cases hnm : nameL ((rowA t).length + 1) (rowA t) with
    | none =>
      refine ⟨by decide, (p' : Int), ?_⟩
      show lex_reader_token.j2 (k + 1) 2 (⟨#[]⟩ : ByteArray) 4 l (p' : Int) = _
      rw [lex_reader_token.j2, if_neg (by decide)]
    | some o =>
      have hol := name_len _ _ o hnm
      refine ⟨p', hp, ?_⟩
      show lex_reader_token.j2 (k + 1) 2 (bs ([] ++ o)) 0 l (p' : Int) = _
      rw [lex_reader_token.j2, if_pos rfl, bs_len, List.nil_append, if_neg (by omega)]
  · rw [if_neg e6, if_neg e6]
    exact j2_bad l 3 k (by omega) _
theorem token_p (l : List Int) (hl : l.length ≤ 4000) (hok : okB l) (r : List Int) (p k : Nat) (h : At l p r) (hk : 20000 ≤ k) : TkR l (lex_reader_token.f k l (p : Int)) (nextL r) := by
  have hn := h.len
  obtain ⟨q, hq, hs⟩ := skip_pf l hl r p k h (by omega)
  unfold lex_reader_token.f nextL
  rw [hs, Option.bind_some, peek_at l hl hq, Option.bind_some]
  cases hr : skipL false r with
  | nil =>
    rw [hr] at hq
    refine ⟨q, hq, ?_⟩
    show (if false = true then _ else _) = _
    rw [if_neg Bool.false_ne_true]
    rfl
  | cons c t =>
    rw [hr] at hq
    obtain ⟨y, hy, hiff⟩ := of_two c k (by omega)
    show TkR l (if true = true then ((lex_of.f k c).bind fun t150 => (if t150 = 2 then ((lex_reader_word.f k l (q : Int)).bind fun bt151 => (some (bt151.1, bt151.2.1, bt151.2.2.1, bt151.2.2.2.1, bt151.2.2.2.2.1, bt151.2.2.2.2.2))) else ((lex_reader_peek.f l (q : Int) 1).bind fun bt157 => (if c = 91 then (lex_reader_token.j2 k 5 (⟨#[]⟩ : ByteArray) 0 l (wrap64 (bt157.2.2 + 1))) else (if c = 93 then (lex_reader_token.j2 k 6 (⟨#[]⟩ : ByteArray) 0 l (wrap64 (bt157.2.2 + 1))) else (if c = 60 then (if bt157.2.1 = true then (lex_reader_token.j0 k c bt157.2.1 bt157.1 3 (⟨#[]⟩ : ByteArray) 0 (bt157.1 == c) l (wrap64 (bt157.2.2 + 1))) else (lex_reader_token.j0 k c bt157.2.1 bt157.1 3 (⟨#[]⟩ : ByteArray) 0 false l (wrap64 (bt157.2.2 + 1)))) else (lex_reader_token.j0 k c bt157.2.1 bt157.1 3 (⟨#[]⟩ : ByteArray) 0 false l (wrap64 (bt157.2.2 + 1))))))))) else _) (if otherB c = true then wordL (c :: rowA t) (rowZ t) else markL c t)
    rw [if_pos rfl, hy, Option.bind_some]
    by_cases ho : otherB c = true
    · rw [if_pos (hiff.2 ho), if_pos ho]
      have := word_p l hl c t q k hq ho (by omega)
      cases hx : lex_reader_word.f k l (q : Int) with
      | none =>
        rw [hx] at this
        unfold TkR at this
        split at this
        · obtain ⟨_, _, h⟩ := this; cases h
        · obtain ⟨_, _, h⟩ := this; cases h
      | some v =>
        rw [hx] at this
        exact this
    · rw [if_neg (fun e => ho (hiff.1 e)), if_neg ho, peek1_at l hl hq, Option.bind_some]
      exact mark_p l hl hok c t q k hq (by omega)
def NxR (l : List Int) (x : Option (Int × Int × Int × ByteArray × Int × Int)) (o : TokR) : Prop := match o with
  | .err e => e ≠ 0 ∧ x = some (0, 0, 0, ⟨#[]⟩, 0, e)
  | .tok kind M S s r => ∃ p' : Nat, At l p' r ∧ x = some (kind, M, S, bs s, (p' : Int), 0)
theorem next_p (l : List Int) (hl : l.length ≤ 4000) (hok : okB l) (r : List Int) (p k : Nat) (h : At l p r) (hk : 20000 ≤ k) : NxR l (lex_Next.f k l (p : Int)) (nextL r) := by
  have hn := h.len
  have := token_p l hl hok r p k h hk
  unfold lex_Next.f
  rw [if_neg (by omega)]
  cases ho : nextL r with
  | err e =>
    rw [ho] at this
    obtain ⟨he, q, hx⟩ := this
    refine ⟨he, ?_⟩
    rw [hx, Option.bind_some]
    exact if_neg he
  | tok kind M S s r' =>
    rw [ho] at this
    obtain ⟨p', hp, hx⟩ := this
    refine ⟨p', hp, ?_⟩
    rw [hx, Option.bind_some]
    exact if_pos rfl
theorem next_bad (l : List Int) (a k : Int) (kk : Nat) (h : a < 0 ∨ (l.length : Int) < a) : lex_Next.f kk l a = some (0, 0, 0, ⟨#[]⟩, 0, 1) := by
  unfold lex_Next.f
  rw [if_pos h]
end Go.Proofs.YtnhgnejfagncpaaDoor.Plain
end
section
namespace Go.Proofs.YtnhgnejfagncpaaDoor.Plain
open Go Go.RowKit Go.Proofs.YtnhgnejfagncpaaDoorW.PrintWords
set_option linter.unusedVariables false
theorem okB_app {a b : List Int} (ha : okB a) (hb : okB b) : okB (a ++ b) := fun c hc => (List.mem_append.1 hc).elim (ha c) (hb c)
theorem okB_one {x : Int} (h0 : 0 ≤ x) (h1 : x ≤ 255) : okB [x] := fun c hc => by rw [List.mem_singleton.1 hc]; exact ⟨h0, h1⟩
theorem okB_nil : okB [] := fun c hc => by cases hc
end Go.Proofs.YtnhgnejfagncpaaDoor.Plain
end
section
namespace Go.Proofs.YtnhgnejfagncpaaDoor.U
open Go
open Go.RowKit Go.Proofs.YtnhgnejfagncpaaDoorW.PrintWords Go.Proofs.YtnhgnejfagncpaaDoorW.PrintLast Go.Proofs.YtnhgnejfagncpaaDoorW.PrintMore Go.Proofs.YtnhgnejfagncpaaDoor.H Go.Proofs.YtnhgnejfagncpaaDoor.A Go.Proofs.YtnhgnejfagncpaaDoor.B Go.Proofs.YtnhgnejfagncpaaDoor.E Go.Proofs.YtnhgnejfagncpaaDoor.L Go.Proofs.YtnhgnejfagncpaaDoor.M Go.Proofs.YtnhgnejfagncpaaDoor.P
set_option linter.unusedVariables false
set_option linter.unusedSimpArgs false
theorem C_bytes (w : World) (s : ByteArray) (c : Nat) (fr : Nat × Nat) (h : s.size ≤ 9223372036854775807) : Kd.C (Kd.int .u8) (w.alloc (.cells (bytesRow s c) 5 fr)) (some ⟨w.heap.size, 0, none⟩) (Plain.nb s).length (Plain.nb s) := by
  refine ⟨rfl, by rw [Plain.nb_len]; exact h, fun hn => ⟨_, rfl, fun j p hj => ⟨[.int .u8 p], rfl, rfl, fun i u hi => ?_⟩⟩⟩
  have hi0 : i = 0 := by
    rcases i with _ | i
    · rfl
    · simp at hi
  subst hi0
  simp at hi
  subst hi
  have := World.cell?_alloc_mark w (bytesRow s c) 5 fr j
  have e : ((⟨w.heap.size, 0, none⟩ : Addr).add (j * (Kd.int .u8).sz + 0)) = ⟨w.heap.size, j, none⟩ := by
    have : (Kd.int .u8).sz = 1 := rfl
    rw [this]
    rcases j with _ | j <;> simp [Addr.add]
  rw [e, this]
  have hj2 : (Plain.nb s)[j]? = some p := hj
  have hjl : j < s.size := by
    rcases Nat.lt_or_ge j s.size with h2 | h2
    · exact h2
    · rw [List.getElem?_eq_none (by rw [Plain.nb_len]; exact h2)] at hj2; cases hj2
  unfold bytesRow
  rw [Array.getElem?_append_left (by rw [Array.size_map]; exact hjl), Array.getElem?_map]
  unfold Plain.nb Plain.I8 at hj2
  rw [List.getElem?_map, Array.getElem?_toList] at hj2
  cases hq : s.data[j]? with
  | none => rw [hq] at hj2; cases hj2
  | some b => rw [hq] at hj2; cases hj2; rfl
theorem cap_ge (w : World) (s : ByteArray) : (Plain.nb s).length ≤ grownCap w s.size 0 5 := by rw [Plain.nb_len]; exact grownCap_ge ..
def capB (X : ByteArray) (W : World) : Nat := grownCap W X.size 0 5
def layB (X : ByteArray) (W : World) : World := W.drew.alloc (.cells (bytesRow X (capB X W)) 5 ((bytesRow X (capB X W)).size, (bytesRow X (capB X W)).size + 1))
theorem run_lay (X Y : ByteArray) (h : X = Y) (W : World) : (convert 9 22 (.string Y)).run Tryd.prog W = .ok (.slice (some ⟨W.heap.size, 0, none⟩) (Plain.nb X).length (capB X W)) (layB X W) := by
  subst h
  rw [Plain.nb_len]
  exact run_bytes_of_string W 9 22 5 X Tryd.underlying9 Tryd.underlying22 Tryd.underlying5
theorem C_lay (X : ByteArray) (W : World) (h : X.size ≤ 9223372036854775807) : Kd.C (Kd.int .u8) (layB X W) (some ⟨W.heap.size, 0, none⟩) (Plain.nb X).length (Plain.nb X) := C_bytes W.drew X _ _ h
theorem cap_lay (X : ByteArray) (W : World) : (Plain.nb X).length ≤ capB X W := cap_ge W X
theorem blk_lay (X : ByteArray) {W : World} {g : Nat} {o : Obj} (h : W.heap[g]? = some o) : (layB X W).heap[g]? = some o := blk_alloc (blk_drew h) _
theorem below_lay (X : ByteArray) {w W : World} (h : Below w.heap.size w W) : Below w.heap.size w (layB X W) := below_alloc (pw_below_drewN h 1) _
end Go.Proofs.YtnhgnejfagncpaaDoor.U
end
section
namespace Go.Proofs.YtnhgnejfagncpaaDoor.Plain
open Go Go.RowKit Go.Proofs.YtnhgnejfagncpaaDoorW.PrintWords Go.Proofs.YtnhgnejfagncpaaDoor.P
set_option linter.unusedVariables false
theorem hx_ok (n : Int) (h0 : 0 ≤ n) (h1 : n < 16) : okB [hx n] := by unfold hx; split <;> exact okB_one (by omega) (by omega)
theorem esc_okB : ∀ l : List Int, okB l → okB (escN l) ∧ (escN l).length ≤ 3 * l.length
  | [], _ => ⟨okB_nil, Nat.zero_le _⟩
  | c :: t, h => by
    have hc := h c (List.mem_cons_self ..)
    obtain ⟨a, b⟩ := esc_okB t (fun x hx => h x (List.mem_cons_of_mem _ hx))
    unfold escN
    split
    · exact ⟨okB_app (a := [c]) (okB_one hc.1 hc.2) a, by rw [List.length_cons, List.length_cons]; omega⟩
    · exact ⟨okB_app (a := [35]) (okB_one (by decide) (by decide)) (okB_app (a := [hx (c / 16)]) (hx_ok _ (by omega) (by omega)) (okB_app (a := [hx (c % 16)]) (hx_ok _ (by omega) (by omega)) a)), by rw [List.length_cons, List.length_cons, List.length_cons, List.length_cons]; omega⟩
theorem hex_okB : ∀ l : List Int, okB l → okB (hexN l) ∧ (hexN l).length = 2 * l.length
  | [], _ => ⟨okB_nil, rfl⟩
  | c :: t, h => by
    have hc := h c (List.mem_cons_self ..)
    obtain ⟨a, b⟩ := hex_okB t (fun x hx => h x (List.mem_cons_of_mem _ hx))
    refine ⟨okB_app (a := [hx (c / 16)]) (hx_ok _ (by omega) (by omega)) (okB_app (a := [hx (c % 16)]) (hx_ok _ (by omega) (by omega)) a), ?_⟩
    show (hexN t).length + 1 + 1 = 2 * (t.length + 1)
    omega
theorem pr_okB (kind M S : Int) (s : List Int) (hs : okB s) (h : RightT kind M S s) : okB (prL kind M S s) ∧ (prL kind M S s).length ≤ 3 * s.length + 100 := by
  unfold prL
  by_cases k1 : kind = 1
  · subst k1
    obtain ⟨⟨g1, g2, g3, g4, _⟩, _⟩ := (rightT_1 M S s).1 h
    rw [if_pos rfl]
    refine ⟨i8_ok _, ?_⟩
    have hn : Lib.nDigits M.natAbs ≤ 18 := nd_le 17 M.natAbs (by rw [show (10 : Nat) ^ (17 + 1) = 1000000000000000000 from by decide]; omega)
    unfold I8
    rw [List.length_map, print_len]
    split <;> split <;> omega
  rw [if_neg k1]
  split
  · obtain ⟨a, b⟩ := esc_okB s hs
    exact ⟨okB_app (a := [47]) (okB_one (by decide) (by decide)) a, by rw [List.length_cons]; omega⟩
  split
  · obtain ⟨a, b⟩ := hex_okB s hs
    exact ⟨okB_app (a := [60]) (okB_one (by decide) (by decide)) (okB_app a (okB_one (by decide) (by decide))), by rw [List.length_cons, List.length_append, b]; show 2 * s.length + 1 + 1 ≤ _; omega⟩
  split
  · exact ⟨hs, by omega⟩
  split
  · exact ⟨okB_one (by decide) (by decide), by show 1 ≤ _; omega⟩
  split
  · exact ⟨okB_one (by decide) (by decide), by show 1 ≤ _; omega⟩
  split
  · exact ⟨okB_app (a := [60]) (okB_one (by decide) (by decide)) (okB_one (by decide) (by decide)), by show 2 ≤ _; omega⟩
  split
  · exact ⟨okB_app (a := [62]) (okB_one (by decide) (by decide)) (okB_one (by decide) (by decide)), by show 2 ≤ _; omega⟩
  · exact ⟨okB_nil, Nat.zero_le _⟩
theorem right_zero (M S : Int) (s : List Int) (h : RightT 0 M S s) : M = 0 ∧ S = 0 ∧ s = [] := by
  obtain ⟨a, b, _, _, c⟩ := (rightT_5 0 M S s (by decide) (by decide) (by decide) (by decide)).1 h
  exact ⟨a, b, c⟩
theorem u_next (k M S : Int) (s : List Int) (hs : okB s) (h : RightT k M S s) : ∃ r, nextL (prL k M S s ++ [32]) = .tok k M S s r ∧ nextL r = .tok 0 0 0 [] [] := by
  by_cases hk : k = 0
  · subst hk
    obtain ⟨rfl, rfl, rfl⟩ := right_zero M S s h
    exact ⟨[], rfl, rfl⟩
  · exact ⟨[32], next_back k M S s hs h hk 32 [] rfl, rfl⟩
def catX (s v : ByteArray) : ByteArray := ((((⟨#[32, 37, 120, 10]⟩ : ByteArray) ++ s) ++ (⟨#[10, 9, 37, 41, 13]⟩ : ByteArray)) ++ v) ++ (⟨#[32]⟩ : ByteArray)
theorem nb_catX (L1 L2 : List Int) (h1 : okB L1) (h2 : okB L2) : nb (catX (bs L1) (bs L2)) = 32 :: 37 :: 120 :: 10 :: (L1 ++ 10 :: 9 :: 37 :: 41 :: 13 :: (L2 ++ [32])) := by
  have e : catX (bs L1) (bs L2) = bs ((([32, 37, 120, 10] ++ L1) ++ [10, 9, 37, 41, 13]) ++ L2 ++ [32]) := by
    rw [← bs_app, ← bs_app, ← bs_app, ← bs_app]
    rfl
  have q : okB ((([32, 37, 120, 10] ++ L1) ++ [10, 9, 37, 41, 13]) ++ L2 ++ [32]) := by
    refine okB_app (okB_app (okB_app (okB_app ?_ h1) ?_) h2) ?_
    · intro c hc
      simp only [List.mem_cons, List.not_mem_nil, or_false] at hc
      omega
    · intro c hc
      simp only [List.mem_cons, List.not_mem_nil, or_false] at hc
      omega
    · exact okB_one (by decide) (by decide)
  rw [e, nb_bs _ q]
  simp
theorem back_next (k1 M1 S1 : Int) (T1 : ByteArray) (k2 M2 S2 : Int) (T2 : ByteArray) (h1 : RightT k1 M1 S1 (nb T1)) (h2 : RightT k2 M2 S2 (nb T2)) (hsz : T1.size + T2.size ≤ 500) (X : ByteArray) (hX : X = catX (bs (prL k1 M1 S1 (nb T1))) (bs (prL k2 M2 S2 (nb T2)))) :
    (k1 = 0 → ∃ p1 : Nat, lex_Next.f 20000 (nb X) 0 = some (k2, M2, S2, T2, (p1 : Int), 0)) ∧
    (k1 ≠ 0 → ∃ p1 p2 : Nat, lex_Next.f 20000 (nb X) 0 = some (k1, M1, S1, T1, (p1 : Int), 0) ∧ lex_Next.f 20000 (nb X) (p1 : Int) = some (k2, M2, S2, T2, (p2 : Int), 0) ∧ lex_Next.f 20000 (nb X) (p2 : Int) = some (0, 0, 0, ⟨#[]⟩, ((nb X).length : Int), 0)) := by
  have o1 : okB (nb T1) := i8_ok _
  have o2 : okB (nb T2) := i8_ok _
  obtain ⟨q1, l1⟩ := pr_okB k1 M1 S1 (nb T1) o1 h1
  obtain ⟨q2, l2⟩ := pr_okB k2 M2 S2 (nb T2) o2 h2
  rw [nb_len] at l1 l2
  have hnb := nb_catX _ _ q1 q2
  rw [← hX] at hnb
  have hok : okB (nb X) := i8_ok _
  have hlen : (nb X).length ≤ 4000 := by
    rw [hnb]
    simp only [List.length_cons, List.length_append, List.length_nil]
    omega
  obtain ⟨r, u1, u2⟩ := u_next k2 M2 S2 (nb T2) o2 h2
  have n0 := next_p (nb X) hlen hok _ 0 20000 ⟨Nat.zero_le _, hnb⟩ (Nat.le_refl _)
  have e0 : nextL (32 :: 37 :: 120 :: 10 :: (prL k1 M1 S1 (nb T1) ++ 10 :: 9 :: 37 :: 41 :: 13 :: (prL k2 M2 S2 (nb T2) ++ [32]))) = nextL (prL k1 M1 S1 (nb T1) ++ 10 :: 9 :: 37 :: 41 :: 13 :: (prL k2 M2 S2 (nb T2) ++ [32])) := next_skip _ _ (skip_front _)
  have e1 : nextL (10 :: 9 :: 37 :: 41 :: 13 :: (prL k2 M2 S2 (nb T2) ++ [32])) = .tok k2 M2 S2 (nb T2) r := (next_skip _ _ (skip_between _)).trans u1
  rw [e0] at n0
  have z : ((0 : Nat) : Int) = 0 := rfl
  rw [z] at n0
  constructor
  · intro hk
    subst hk
    rw [show prL 0 M1 S1 (nb T1) = [] from rfl, List.nil_append, e1] at n0
    obtain ⟨p, _, hv⟩ := n0
    rw [bs_nb] at hv
    exact ⟨p, hv⟩
  · intro hk
    rw [next_back k1 M1 S1 (nb T1) o1 h1 hk 10 _ rfl] at n0
    obtain ⟨p1, a1, v1⟩ := n0
    have n1 := next_p (nb X) hlen hok _ p1 20000 a1 (Nat.le_refl _)
    rw [e1] at n1
    obtain ⟨p2, a2, v2⟩ := n1
    have n2 := next_p (nb X) hlen hok _ p2 20000 a2 (Nat.le_refl _)
    rw [u2] at n2
    obtain ⟨p3, a3, v3⟩ := n2
    have hp3 := a3.len
    rw [List.length_nil] at hp3
    rw [bs_nb] at v1 v2
    refine ⟨p1, p2, v1, v2, ?_⟩
    rw [v3, show p3 = (nb X).length from by omega]
    rfl
end Go.Proofs.YtnhgnejfagncpaaDoor.Plain
end
