/- Put together: PlainRead, PlainRead2, PlainRead3, PlainNext, PlainNext2, PureLexReads, Open, Laid (each in a section of its own). -/
import Derived.Test.YtnhgnejfagncpaaDoorLot13
import Derived.Test.YtnhgnejfagncpaaDoorLot7
import Derived.Laws.BitsLemmas
import Derived.ChangeSlices
import Derived.ChangeArms
import Derived.Deep.Slices
import Derived.DataReads
import Derived.WideShapes
import Derived.Test.YtnhgnejfagncpaaDoorLot0
import Derived.Test.YtnhgnejfagncpaaDoorRows
import Derived.Test.YtnhgnejfagncpaaDoorLot2
import Derived.LaidSub
import Derived.LaidMore
import Derived.Lib.LaidTab
section
namespace Go.Proofs.YtnhgnejfagncpaaDoor.Plain
open Go Go.RowKit Go.Proofs.YtnhgnejfagncpaaDoorW.PrintWords Go.Proofs.YtnhgnejfagncpaaDoor.H Go.Proofs.YtnhgnejfagncpaaDoor.A Go.Proofs.YtnhgnejfagncpaaDoor.B Go.Proofs.YtnhgnejfagncpaaDoor.E Go.Proofs.YtnhgnejfagncpaaDoor.L Go.Proofs.YtnhgnejfagncpaaDoor.M Go.Proofs.YtnhgnejfagncpaaDoor.P
set_option linter.unusedVariables false
def At (l : List Int) (p : Nat) (r : List Int) : Prop := p ≤ l.length ∧ l.drop p = r
theorem At.len {l r : List Int} {p : Nat} (h : At l p r) : p + r.length = l.length := by
  obtain ⟨h1, h2⟩ := h
  rw [← h2, List.length_drop]
  omega
theorem At.cons {l t : List Int} {c : Int} {p : Nat} (h : At l p (c :: t)) : p < l.length ∧ rd l (p : Int) = c ∧ At l (p + 1) t := by
  have hl := h.len
  rw [List.length_cons] at hl
  obtain ⟨h1, h2⟩ := h
  have hc : l[p]? = some c := by
    have := congrArg (·[0]?) h2
    simpa using this
  refine ⟨by omega, ?_, by omega, by rw [← List.drop_drop, h2]; rfl⟩
  unfold rd
  rw [Int.toNat_natCast, List.getD_eq_getElem?_getD, hc]
  rfl
theorem At.ok {l r : List Int} {p : Nat} (h : At l p r) (hl : okB l) : okB r := fun c hc => hl c (by rw [← h.2] at hc; exact List.mem_of_mem_drop hc)
theorem At.uniq {l r : List Int} {p q : Nat} (h : At l p r) (h2 : At l q r) : p = q := by have := h.len; have := h2.len; omega
theorem w1n (p : Nat) (h : p ≤ 5000) : wrap64 ((p : Int) + 1) = ((p + 1 : Nat) : Int) := by rw [wsm _ (by omega) (by omega)]; omega
theorem w2n (p : Nat) (h : p ≤ 5000) : wrap64 ((p : Int) + 2) = ((p + 1 + 1 : Nat) : Int) := by rw [wsm _ (by omega) (by omega)]; omega
theorem w0n (p : Nat) (h : p ≤ 5000) : wrap64 ((p : Int) + 0) = (p : Int) := by rw [wsm _ (by omega) (by omega)]; omega
def pk (r : List Int) : Int × Bool := match r with | [] => (0, false) | c :: _ => (c, true)
theorem peek_at (l : List Int) (hl : l.length ≤ 4000) {p : Nat} {r : List Int} (h : At l p r) : lex_reader_peek.f l (p : Int) 0 = some ((pk r).1, (pk r).2, (p : Int)) := by
  have hn := h.len
  unfold lex_reader_peek.f
  rw [w0n p (by omega)]
  cases r with
  | nil => rw [if_pos (by rw [List.length_nil] at hn; omega)]; rfl
  | cons c t =>
    obtain ⟨h1, h2, _⟩ := h.cons
    rw [if_neg (by omega), if_pos (by omega), if_pos (by omega), h2]
    rfl
theorem peek1_at (l : List Int) (hl : l.length ≤ 4000) {p : Nat} {c : Int} {t : List Int} (h : At l p (c :: t)) : lex_reader_peek.f l (p : Int) 1 = some ((pk t).1, (pk t).2, (p : Int)) := by
  obtain ⟨h1, _, h3⟩ := h.cons
  have hn := h3.len
  unfold lex_reader_peek.f
  rw [w1n p (by omega)]
  cases t with
  | nil => rw [if_pos (by rw [List.length_nil] at hn; omega)]; rfl
  | cons d t =>
    obtain ⟨h4, h5, _⟩ := h3.cons
    rw [if_neg (by omega), if_pos (by omega), if_pos (by omega), h5]
    rfl
theorem skip_p (l : List Int) (hl : l.length ≤ 4000) : ∀ (r : List Int) (p : Nat) (cm : Bool) (k : Nat), At l p r → 4 * r.length + 4 ≤ k →
    ∃ p', At l p' (skipL cm r) ∧ lex_reader_skip.l0 k cm (pk r).1 (pk r).2 l (p : Int) = some (p' : Int)
  | [], p, cm, k => fun h hk => by
    obtain ⟨k, rfl⟩ : ∃ q, k = q + 1 := ⟨k - 1, by omega⟩
    refine ⟨p, h, ?_⟩
    show lex_reader_skip.l0 (k + 1) cm 0 false l (p : Int) = _
    rw [lex_reader_skip.l0, if_neg (by decide)]
  | c :: t, p, cm, k => fun h hk => by
    rw [List.length_cons] at hk
    obtain ⟨k, rfl⟩ : ∃ q, k = q + 4 := ⟨k - 4, by omega⟩
    obtain ⟨h1, h2, h3⟩ := h.cons
    have hp4 : p ≤ 5000 := by omega
    have hp := peek_at l hl h3
    have ih := fun cm => skip_p l hl t (p + 1) cm k h3 (by omega)
    have ih1 := fun cm => skip_p l hl t (p + 1) cm (k + 1) h3 (by omega)
    have ih2 := fun cm => skip_p l hl t (p + 1) cm (k + 2) h3 (by omega)
    show ∃ p', At l p' (skipL cm (c :: t)) ∧ lex_reader_skip.l0 (k + 4) cm c true l (p : Int) = some (p' : Int)
    have e0 : lex_reader_skip.l0 (k + 4) cm c true l (p : Int) = lex_reader_skip.j1 (k + 3) cm c (decide (c = 10 ∨ c = 13)) l (p : Int) := by
      rw [lex_reader_skip.l0, if_pos rfl]
      by_cases h10 : c = 10
      · rw [if_pos h10, decide_eq_true (Or.inl h10)]
      · rw [if_neg h10]
        congr 1
        rw [Bool.eq_iff_iff, beq_iff_eq, decide_eq_true_iff]
        exact ⟨Or.inr, fun h => h.resolve_left h10⟩
    rw [e0, lex_reader_skip.j1]
    unfold skipL
    by_cases hA : c = 10 ∨ c = 13
    · have pA : decide (c = 10 ∨ c = 13) = true := decide_eq_true hA
      rw [if_pos hA, if_pos pA, w1n p hp4, hp, Option.bind_some]
      exact ih2 false
    · have nA : ¬ (decide (c = 10 ∨ c = 13) = true) := by rw [decide_eq_true_iff]; exact hA
      rw [if_neg hA, if_neg nA]
      have e1 : (if cm = true then (lex_reader_skip.j2 (k + 2) cm c true l (p : Int)) else ((lex_of.f (k + 2) c).bind fun t108 => (lex_reader_skip.j2 (k + 2) cm c (t108 == 0) l (p : Int)))) = lex_reader_skip.j2 (k + 2) cm c (decide (cm = true ∨ whiteB c = true)) l (p : Int) := by
        by_cases hc : cm = true
        · rw [if_pos hc, decide_eq_true (Or.inl hc)]
        · rw [if_neg hc, of_f14 c (k + 2) (by omega), Option.bind_some]
          congr 1
          cases hw2 : whiteB c with
          | true => rw [if_pos rfl, decide_eq_true (Or.inr rfl)]; rfl
          | false =>
            rw [if_neg (by decide), decide_eq_false (by rintro (h | h); exact hc h; cases h)]
            cases markB c <;> rfl
      rw [e1, lex_reader_skip.j2]
      by_cases hB : cm = true ∨ whiteB c = true
      · have pB : decide (cm = true ∨ whiteB c = true) = true := decide_eq_true hB
        rw [if_pos hB, if_pos pB, w1n p hp4, hp, Option.bind_some]
        exact ih1 cm
      · have nB : ¬ (decide (cm = true ∨ whiteB c = true) = true) := by rw [decide_eq_true_iff]; exact hB
        rw [if_neg hB, if_neg nB]
        by_cases hC : c = 37
        · rw [if_pos hC, if_pos hC, w1n p hp4, hp, Option.bind_some]
          exact ih1 true
        · rw [if_neg hC, if_neg hC]
          exact ⟨p, h, rfl⟩
theorem skip_pf (l : List Int) (hl : l.length ≤ 4000) (r : List Int) (p k : Nat) (h : At l p r) (hk : 4 * r.length + 4 ≤ k) : ∃ p', At l p' (skipL false r) ∧ lex_reader_skip.f k l (p : Int) = some (p' : Int) := by
  unfold lex_reader_skip.f
  rw [peek_at l hl h, Option.bind_some]
  exact skip_p l hl r p false k h hk
theorem row_cut (l : List Int) (p : Nat) (r : List Int) (h : At l p r) : (l.take (p + (rowA r).length)).drop p = rowA r := by
  rw [← List.take_drop, h.2]
  have := row_eq r
  have h2 : List.take (rowA r).length (rowA r ++ rowZ r) = rowA r := List.take_left ..
  rw [this] at h2
  exact h2
theorem row_p (l : List Int) (hl : l.length ≤ 4000) : ∀ (r : List Int) (p k : Nat) (from_ : Int), At l p r → 2 * r.length + 2 ≤ k →
    lex_reader_row.l0 k (pk r).1 (pk r).2 from_ l (p : Int) = rowCut from_ l ((p + (rowA r).length : Nat) : Int) ∧ At l (p + (rowA r).length) (rowZ r)
  | [], p, k, from_ => fun h hk => by
    obtain ⟨k, rfl⟩ : ∃ q, k = q + 1 := ⟨k - 1, by omega⟩
    refine ⟨?_, h⟩
    show lex_reader_row.l0 (k + 1) 0 false from_ l (p : Int) = _
    rw [lex_reader_row.l0, if_neg (by decide)]
    rfl
  | c :: t, p, k, from_ => fun h hk => by
    rw [List.length_cons] at hk
    obtain ⟨k, rfl⟩ : ∃ q, k = q + 1 := ⟨k - 1, by omega⟩
    obtain ⟨h1, h2, h3⟩ := h.cons
    obtain ⟨q, hq, hiff⟩ := of_two c k (by omega)
    show lex_reader_row.l0 (k + 1) c true from_ l (p : Int) = _ ∧ _
    rw [lex_reader_row.l0, if_pos rfl, hq, Option.bind_some]
    unfold rowA rowZ
    by_cases ho : otherB c = true
    · rw [if_pos (hiff.2 ho), if_pos ho, if_pos ho, w1n p (by omega), peek_at l hl h3, Option.bind_some, List.length_cons]
      have := row_p l hl t (p + 1) k from_ h3 (by omega)
      rw [show p + ((rowA t).length + 1) = p + 1 + (rowA t).length from by omega]
      exact this
    · rw [if_neg (fun e => ho (hiff.1 e)), if_neg ho, if_neg ho]
      exact ⟨rfl, h⟩
theorem row_pf (l : List Int) (hl : l.length ≤ 4000) (r : List Int) (p k : Nat) (h : At l p r) (hk : 2 * r.length + 2 ≤ k) : ∃ p', At l p' (rowZ r) ∧ lex_reader_row.f k l (p : Int) = some (bs (rowA r), (p' : Int)) := by
  obtain ⟨a, b⟩ := row_p l hl r p k (p : Int) h hk
  refine ⟨_, b, ?_⟩
  have hn := b.1
  unfold lex_reader_row.f
  rw [peek_at l hl h, Option.bind_some, a]
  unfold rowCut
  rw [if_pos (by omega), Int.toNat_natCast, Int.toNat_natCast, row_cut l p r h]
  rfl
def hexD : List UInt8 := [48, 49, 50, 51, 52, 53, 54, 55, 56, 57, 97, 98, 99, 100, 101, 102]
theorem index_not (b : UInt8) : ∀ l : List UInt8, (∀ x ∈ l, x ≠ b) → Lib.indexByte l b = -1
  | [], _ => rfl
  | x :: l, h => by
    rw [Lib.indexByte, if_neg (by rw [beq_iff_eq]; exact h x (List.mem_cons_self ..)), index_not b l (fun c hc => h c (List.mem_cons_of_mem _ hc))]
    rfl
def ix (c : Int) : Int := Lib.indexByte hexD c.toNat.toUInt8
theorem ix_dig : ∀ n ∈ [48, 49, 50, 51, 52, 53, 54, 55, 56, 57], ix (n : Nat) = (n : Int) - 48 := by decide
theorem ix_low : ∀ n ∈ [97, 98, 99, 100, 101, 102], ix (n : Nat) = (n : Int) - 87 := by decide
theorem hexD_nat : hexD.map (·.toNat) = [48, 49, 50, 51, 52, 53, 54, 55, 56, 57, 97, 98, 99, 100, 101, 102] := by decide
theorem ix_f (c : Int) (h0 : 0 ≤ c) (h1 : c ≤ 255) : ix c = if 48 ≤ c ∧ c ≤ 57 then c - 48 else if 97 ≤ c ∧ c ≤ 102 then c - 87 else -1 := by
  obtain ⟨n, rfl⟩ := Int.eq_ofNat_of_zero_le h0
  by_cases hd : 48 ≤ (n : Int) ∧ (n : Int) ≤ 57
  · rw [if_pos hd]
    exact ix_dig n (by simp only [List.mem_cons, List.not_mem_nil, or_false]; omega)
  rw [if_neg hd]
  by_cases hlo : 97 ≤ (n : Int) ∧ (n : Int) ≤ 102
  · rw [if_pos hlo]
    exact ix_low n (by simp only [List.mem_cons, List.not_mem_nil, or_false]; omega)
  rw [if_neg hlo]
  unfold ix
  refine index_not _ _ fun x hx e => ?_
  have hm : x.toNat ∈ hexD.map (·.toNat) := List.mem_map_of_mem hx
  rw [hexD_nat, e, Int.toNat_natCast] at hm
  have en : n.toUInt8.toNat = n := by
    show (UInt8.ofNat n).toNat = n
    rw [UInt8.toNat_ofNat', Nat.mod_eq_of_lt (by omega)]
  rw [en] at hm
  simp only [List.mem_cons, List.not_mem_nil, or_false] at hm
  omega
theorem digit_p (c : Int) (h0 : 0 ≤ c) (h1 : c ≤ 255) : lex_digit.f c = some (dgI c) := by
  have hx : ∀ d, strings_IndexByte.f (⟨#[48, 49, 50, 51, 52, 53, 54, 55, 56, 57, 97, 98, 99, 100, 101, 102]⟩ : ByteArray) d = some (ix d) := fun d => rfl
  unfold lex_digit.f dgI
  rw [hx, hx, Option.bind_some, Option.bind_some, ix_f c h0 h1]
  by_cases h65 : c ≥ 65
  · rw [if_pos h65]
    by_cases h70 : c ≤ 70
    · rw [if_pos h70, ix_f _ (by omega) (by omega), if_neg (by omega), if_pos (by omega), if_neg (by omega), if_pos (by omega)]
      congr 1
      omega
    · rw [if_neg h70, if_neg (show ¬ (48 ≤ c ∧ c ≤ 57) from by omega), if_neg (show ¬ (48 ≤ c ∧ c ≤ 57) from by omega), if_neg (show ¬ (65 ≤ c ∧ c ≤ 70) from by omega)]
  · rw [if_neg h65]
    by_cases hd : 48 ≤ c ∧ c ≤ 57
    · rw [if_pos hd, if_pos hd]
    · rw [if_neg hd, if_neg hd, if_neg (by omega), if_neg (by omega)]
theorem dg_lt (c : Int) : -1 ≤ dgI c ∧ dgI c < 16 := by unfold dgI; split; omega; split; omega; split <;> omega
theorem i64_small (n : Int) (h0 : 0 ≤ n) (h1 : n < 2 ^ 20) : IntKind.i64.wrap n = n := by rw [IntKind.wrap_i64]; omega
theorem or64 (i : Nat) (x y : Int) (hx₀ : 0 ≤ x) (hx : x % 2 ^ i = 0) (hx₁ : x < 2 ^ 20) (hy₀ : 0 ≤ y) (hy : y < 2 ^ i) (hy₁ : y < 2 ^ 20) : Go.bits .or .i64 x y = x + y := bits_join .i64 20 (by decide) i64_small i x y hx₀ hx hx₁ hy₀ hy hy₁
theorem and64 (x : Int) (h₀ : 0 ≤ x) (h₁ : x < 2 ^ 20) : Go.bits .and .i64 x 1 = x % 2 := bits_mask .i64 20 (by decide) i64_small 1 (by decide) x h₀ h₁
theorem or8 (i : Nat) (x y : Int) (hx₀ : 0 ≤ x) (hx : x % 2 ^ i = 0) (hx₁ : x < 2 ^ 8) (hy₀ : 0 ≤ y) (hy : y < 2 ^ i) (hy₁ : y < 2 ^ 8) : Go.bits .or .u8 x y = x + y := bits_join .u8 8 (by decide) wraps_u8 i x y hx₀ hx hx₁ hy₀ hy hy₁
theorem bt_at (s : ByteArray) {p : Nat} {c : Int} {t : List Int} (h : At (nb s) p (c :: t)) : bt s (p : Int) = c ∧ p < s.size := by
  obtain ⟨h1, h2, h3⟩ := h.cons
  rw [nb_len] at h1
  refine ⟨?_, h1⟩
  have hd := h.2
  unfold nb I8 at hd
  rw [← List.map_drop] at hd
  cases hq : s.data.toList.drop p with
  | nil => rw [hq] at hd; cases hd
  | cons x y =>
    rw [hq, List.map_cons] at hd
    obtain ⟨a, _⟩ := List.cons.inj hd
    rw [(drop_at s p x y hq).1, a]
def nameR (o : Option (List Int)) (out : List Int) : ByteArray × Int := match o with | none => (⟨#[]⟩, 4) | some q => (bs (out ++ q), 0)
theorem name_p (s : ByteArray) (hs : s.size ≤ 4000) : ∀ (n : Nat) (r : List Int) (p : Nat) (out : List Int) (k f : Nat), r.length ≤ n → At (nb s) p r → out.length ≤ p → 3 * r.length + 3 ≤ k → r.length + 1 ≤ f →
    lex_name.l0 k s out (p : Int) = some (nameR (nameL f r) out)
  | n, [], p, out, k, f => fun hn h ho hk hf => by
    obtain ⟨k, rfl⟩ : ∃ q, k = q + 1 := ⟨k - 1, by omega⟩
    obtain ⟨f, rfl⟩ : ∃ q, f = q + 1 := ⟨f - 1, by omega⟩
    have hl := h.len
    rw [nb_len, List.length_nil] at hl
    rw [lex_name.l0, if_neg (by omega)]
    show some (bs out, 0) = some (bs (out ++ []), 0)
    rw [List.append_nil]
  | 0, c :: t, p, out, k, f => fun hn h ho hk hf => by rw [List.length_cons] at hn; omega
  | n + 1, c :: t, p, out, k, f => fun hn h ho hk hf => by
    have hok : okB (c :: t) := h.ok (i8_ok _)
    rw [List.length_cons] at hn hk hf
    obtain ⟨k, rfl⟩ : ∃ q, k = q + 3 := ⟨k - 3, by omega⟩
    obtain ⟨f, rfl⟩ : ∃ q, f = q + 1 := ⟨f - 1, by omega⟩
    obtain ⟨hb, hlt⟩ := bt_at s h
    obtain ⟨_, _, h3⟩ := h.cons
    have hl3 := h3.len
    rw [nb_len] at hl3
    have hp4 : p ≤ 4000 := by omega
    rw [lex_name.l0, if_pos (by omega), if_pos (by omega), hb]
    unfold nameL
    by_cases h35 : c = 35
    · rw [if_pos h35, if_pos h35, w1n p (by omega), w2n p (by omega)]
      have bad : lex_name.j1 (k + 2) s out (p : Int) true = some (nameR none out) := by rw [lex_name.j1, if_pos rfl]; rfl
      cases t with
      | nil => rw [if_pos (by rw [List.length_nil] at hl3; omega)]; exact bad
      | cons a t =>
        cases t with
        | nil => rw [if_pos (by rw [List.length_cons, List.length_nil] at hl3; omega)]; exact bad
        | cons b r =>
          dsimp only
          rw [List.length_cons, List.length_cons] at hl3 hk hf hn
          obtain ⟨hba, _⟩ := bt_at s h3
          obtain ⟨_, _, h4⟩ := h3.cons
          obtain ⟨hbb, _⟩ := bt_at s h4
          obtain ⟨_, _, h5⟩ := h4.cons
          obtain ⟨a0, a1⟩ := hok a (by simp)
          obtain ⟨b0, b1⟩ := hok b (by simp)
          have da := dg_lt a
          have db := dg_lt b
          rw [if_neg (by omega), if_pos (by omega), if_pos (by omega), hba, digit_p a a0 a1, Option.bind_some]
          by_cases hA : dgI a < 0
          · rw [if_pos hA, if_pos (Or.inl hA)]; exact bad
          rw [if_neg hA, if_pos (by omega), if_pos (by omega), hbb, digit_p b b0 b1, Option.bind_some]
          by_cases hB : dgI b < 0
          · rw [decide_eq_true hB, if_pos (Or.inr hB)]; exact bad
          have hno : ¬ (dgI a < 0 ∨ dgI b < 0) := by omega
          have hor : Go.bits .or .i64 (wrap64 (dgI a * 16)) (dgI b) = 16 * dgI a + dgI b := by
            rw [wsm _ (by omega) (by omega), or64 4 _ _ (by omega) (by omega) (by omega) (by omega) (by omega) (by omega)]
            omega
          rw [decide_eq_false hB, if_neg hno, lex_name.j1, if_neg (by decide), w1n p (by omega), w2n p (by omega), if_pos (by omega), if_pos (by omega), hba, digit_p a a0 a1, Option.bind_some, if_pos (by omega), if_pos (by omega), hbb, digit_p b b0 b1, Option.bind_some, hor, show (16 * dgI a + dgI b) % 256 = 16 * dgI a + dgI b from by omega]
          by_cases hz : 16 * dgI a + dgI b = 0
          · rw [if_pos hz, if_pos hz]; rfl
          rw [if_neg hz, if_neg hz, if_pos (by omega), w1n (p + 1 + 1) (by omega)]
          rw [name_p s hs n r (p + 1 + 1 + 1) (out ++ [16 * dgI a + dgI b]) (k + 1) f (by omega) h5 (by rw [List.length_append]; show _ + 1 ≤ _; omega) (by omega) (by omega)]
          cases nameL f r with
          | none => rfl
          | some o =>
            show some (bs (out ++ [16 * dgI a + dgI b] ++ o), 0) = some (bs (out ++ ((16 * dgI a + dgI b) :: o)), 0)
            rw [List.append_assoc]
            rfl
    · rw [if_neg h35, if_neg h35, if_pos (by omega), w1n p (by omega)]
      rw [name_p s hs n t (p + 1) (out ++ [c]) (k + 2) f (by omega) h3 (by rw [List.length_append]; show _ + 1 ≤ _; omega) (by omega) (by omega)]
      cases nameL f t with
      | none => rfl
      | some o =>
        show some (bs (out ++ [c] ++ o), 0) = some (bs (out ++ (c :: o)), 0)
        rw [List.append_assoc]
        rfl
theorem name_pf (R : List Int) (hR : okB R) (hn : R.length ≤ 4000) (k f : Nat) (hk : 3 * R.length + 3 ≤ k) (hf : R.length + 1 ≤ f) : lex_name.f k (bs R) = some (nameR (nameL f R) []) := by
  have hnb := nb_bs R hR
  unfold lex_name.f
  exact name_p (bs R) (by rw [bs_len]; exact hn) R.length R 0 [] k f (Nat.le_refl _) ⟨Nat.zero_le _, hnb⟩ (Nat.le_refl _) hk hf
end Go.Proofs.YtnhgnejfagncpaaDoor.Plain
end
section
namespace Go.Proofs.YtnhgnejfagncpaaDoor.Plain
open Go Go.RowKit Go.Proofs.YtnhgnejfagncpaaDoorW.PrintWords Go.Proofs.YtnhgnejfagncpaaDoor.H Go.Proofs.YtnhgnejfagncpaaDoor.A Go.Proofs.YtnhgnejfagncpaaDoor.B Go.Proofs.YtnhgnejfagncpaaDoor.E Go.Proofs.YtnhgnejfagncpaaDoor.L Go.Proofs.YtnhgnejfagncpaaDoor.M Go.Proofs.YtnhgnejfagncpaaDoor.P
set_option linter.unusedVariables false
def Rd (l : List Int) (x : Option (ByteArray × Int × Int)) (o : Option (List Int × List Int)) : Prop := match o with
  | none => ∃ q, x = some (⟨#[]⟩, 4, q)
  | some (s, r) => ∃ p' : Nat, At l p' r ∧ x = some (bs s, 0, (p' : Int))
theorem of_white (c : Int) (k : Nat) (hk : 1 ≤ k) : ∃ t, lex_of.f k c = some t ∧ (t = 0 ↔ whiteB c = true) := by
  refine ⟨_, of_f14 c k hk, ?_⟩
  cases whiteB c <;> cases markB c <;> decide
def ok16 (l : List Int) : Prop := ∀ c ∈ l, 0 ≤ c ∧ c < 16
theorem packs_len : ∀ ds : List Int, (packs ds).length = (ds.length + 1) / 2
  | [] => rfl
  | [a] => by simp [packs]
  | a :: b :: t => by
    show (packs t).length + 1 = (t.length + 1 + 1 + 1) / 2
    rw [packs_len t]
    omega
theorem packs_even : ∀ (ds : List Int) (d : Int), ds.length % 2 = 0 → packs (ds ++ [d]) = packs ds ++ [16 * d]
  | [], d, _ => rfl
  | [a], d, h => by cases h
  | a :: b :: t, d, h => by
    show (16 * a + b) :: packs (t ++ [d]) = (16 * a + b) :: (packs t ++ [16 * d])
    rw [packs_even t d (by rw [List.length_cons, List.length_cons] at h; omega)]
theorem packs_odd : ∀ (ds : List Int) (d : Int), ds.length % 2 = 1 → ∃ a ∈ ds, (packs ds)[ds.length / 2]? = some (16 * a) ∧ packs (ds ++ [d]) = (packs ds).set (ds.length / 2) (16 * a + d)
  | [], d, h => by cases h
  | [a], d, h => ⟨a, List.mem_cons_self .., by simp [packs], by simp [packs]⟩
  | a :: b :: t, d, h => by
    obtain ⟨x, h1, h2, h3⟩ := packs_odd t d (by rw [List.length_cons, List.length_cons] at h; omega)
    have e : (a :: b :: t).length / 2 = t.length / 2 + 1 := by rw [List.length_cons, List.length_cons]; omega
    refine ⟨x, List.mem_cons_of_mem _ (List.mem_cons_of_mem _ h1), ?_, ?_⟩
    · rw [e]
      exact h2
    · rw [e]
      show (16 * a + b) :: packs (t ++ [d]) = (16 * a + b) :: (packs t).set (t.length / 2) (16 * x + d)
      rw [h3]
theorem rd_get (L : List Int) (i : Nat) (x : Int) (h : L[i]? = some x) : rd L (i : Int) = x := by
  unfold rd
  rw [Int.toNat_natCast, List.getD_eq_getElem?_getD, h]
  rfl
theorem hexa_p (l : List Int) (hl : l.length ≤ 4000) (hok : okB l) : ∀ (r : List Int) (p : Nat) (ds : List Int) (k : Nat), At l p r → ok16 ds → ds.length ≤ p → r.length + 3 ≤ k →
    Rd l (lex_reader_hexa.l0 k (packs ds) (ds.length : Int) l (p : Int)) (hexL ds r)
  | [], p, ds, k => fun h hd hn hk => by
    obtain ⟨k, rfl⟩ : ∃ q, k = q + 1 := ⟨k - 1, by omega⟩
    refine ⟨p, ?_⟩
    rw [lex_reader_hexa.l0, peek_at l hl h, Option.bind_some]
    exact if_neg Bool.false_ne_true
  | c :: t, p, ds, k => fun h hd hn hk => by
    have hcok := h.ok hok
    rw [List.length_cons] at hk
    obtain ⟨k, rfl⟩ : ∃ q, k = q + 1 := ⟨k - 1, by omega⟩
    obtain ⟨h1, h2, h3⟩ := h.cons
    obtain ⟨c0, c1⟩ := hcok c (List.mem_cons_self ..)
    obtain ⟨q, hq, hw⟩ := of_white c k (by omega)
    have hdg := dg_lt c
    rw [lex_reader_hexa.l0, peek_at l hl h, Option.bind_some]
    show Rd l (if true = true then _ else _) _
    rw [if_pos rfl]
    show Rd l ((lex_digit.f c).bind _) _
    rw [digit_p c c0 c1, Option.bind_some]
    show Rd l (if c = 62 then _ else _) _
    unfold hexL
    by_cases h62 : c = 62
    · rw [if_pos h62, if_pos h62]
      refine ⟨p + 1, h3, ?_⟩
      show some (strOfNums (packs ds), (0 : Int), wrap64 ((p : Int) + 1)) = _
      rw [w1n p (by omega)]
      rfl
    rw [if_neg h62, if_neg h62]
    show Rd l ((lex_of.f k c).bind _) _
    rw [hq, Option.bind_some]
    have hp1 : (fun X : Int => lex_reader_hexa.l0 k (packs ds) (ds.length : Int) l X) (wrap64 ((p : Int) + 1)) = lex_reader_hexa.l0 k (packs ds) (ds.length : Int) l ((p + 1 : Nat) : Int) := by rw [w1n p (by omega)]
    by_cases hwt : whiteB c = true
    · rw [if_pos (hw.2 hwt), if_pos hwt]
      show Rd l (lex_reader_hexa.l0 k (packs ds) (ds.length : Int) l (wrap64 ((p : Int) + 1))) _
      rw [w1n p (by omega)]
      exact hexa_p l hl hok t (p + 1) ds k h3 hd (by omega) (by omega)
    rw [if_neg (fun e => hwt (hw.1 e)), if_neg hwt]
    by_cases hneg : dgI c < 0
    · rw [if_pos hneg, if_pos hneg]
      exact ⟨_, rfl⟩
    rw [if_neg hneg, if_neg hneg, and64 _ (by omega) (by omega)]
    have hd2 : ok16 (ds ++ [dgI c]) := fun x hx => by
      rcases List.mem_append.1 hx with hx | hx
      · exact hd x hx
      · rw [List.mem_singleton.1 hx]; omega
    have hn2 : ((ds ++ [dgI c]).length : Int) = (ds.length : Int) + 1 := by rw [List.length_append]; rfl
    have ih := hexa_p l hl hok t (p + 1) (ds ++ [dgI c]) k h3 hd2 (by rw [List.length_append]; show _ + 1 ≤ _; omega) (by omega)
    have hlen := packs_len ds
    rw [hn2] at ih
    by_cases he : ds.length % 2 = 0
    · rw [if_pos (by omega), if_pos (by omega)]
      rw [packs_even ds _ he] at ih
      show Rd l (lex_reader_hexa.l0 k (packs ds ++ [(wrap64 (dgI c * 16)) % 256]) (wrap64 ((ds.length : Int) + 1)) l (wrap64 ((p : Int) + 1))) _
      rw [w1n p (by omega), w1n ds.length (by omega), wsm (dgI c * 16) (by omega) (by omega), show (dgI c * 16) % 256 = 16 * dgI c from by omega]
      exact ih
    · obtain ⟨a, ha, hg, hs⟩ := packs_odd ds (dgI c) (by omega)
      obtain ⟨a0, a1⟩ := hd a ha
      have e2 : (ds.length : Int) / 2 = ((ds.length / 2 : Nat) : Int) := by omega
      rw [if_neg (by omega), if_pos (by omega), if_pos (by omega), e2]
      rw [hs] at ih
      show Rd l (lex_reader_hexa.l0 k ((packs ds).set (((ds.length / 2 : Nat) : Int)).toNat (Go.bits .or .u8 (rd (packs ds) ((ds.length / 2 : Nat) : Int)) (dgI c % 256))) (wrap64 ((ds.length : Int) + 1)) l (wrap64 ((p : Int) + 1))) _
      rw [w1n p (by omega), w1n ds.length (by omega), rd_get _ _ _ hg, show dgI c % 256 = dgI c from by omega, or8 4 (16 * a) (dgI c) (by omega) (by omega) (by omega) (by omega) (by omega) (by omega), Int.toNat_natCast]
      exact ih
theorem oct_p (l : List Int) (hl : l.length ≤ 4000) (hok : okB l) : ∀ (j : Nat) (r : List Int) (p : Nat) (n : Int) (out : List Int) (k : Nat), At l p r → 0 ≤ n → (j = 0 ∧ n ≤ 4095 ∨ j = 1 ∧ n ≤ 511 ∨ j = 2 ∧ n ≤ 63) → out.length ≤ 5000 → j + 2 ≤ k →
    ∃ p', At l p' (octL j n r).2 ∧ lex_reader_escape.l0 k out n (2 - (j : Int)) l (p : Int) = some (out ++ (octL j n r).1, true, (p' : Int))
  | 0, r, p, n, out, k => fun h hn hb ho hk => by
    obtain ⟨k, rfl⟩ : ∃ q, k = q + 1 := ⟨k - 1, by omega⟩
    refine ⟨p, h, ?_⟩
    rw [lex_reader_escape.l0, if_neg (by omega), if_pos (by omega)]
    rfl
  | j + 1, [], p, n, out, k => fun h hn hb ho hk => by
    obtain ⟨k, rfl⟩ : ∃ q, k = q + 1 := ⟨k - 1, by omega⟩
    refine ⟨p, h, ?_⟩
    rw [lex_reader_escape.l0, if_pos (by omega), peek_at l hl h, Option.bind_some]
    show (if false = true then _ else _) = _
    rw [if_neg (by decide), if_pos (by omega)]
    rfl
  | j + 1, d :: t, p, n, out, k => fun h hn hb ho hk => by
    obtain ⟨k, rfl⟩ : ∃ q, k = q + 1 := ⟨k - 1, by omega⟩
    obtain ⟨h1, h2, h3⟩ := h.cons
    rw [lex_reader_escape.l0, if_pos (by omega), peek_at l hl h, Option.bind_some]
    show ∃ p', _ ∧ (if true = true then (if d < 48 then _ else (if d > 55 then _ else lex_reader_escape.l0 k out (Go.bits .or .i64 (wrap64 (n * 8)) ((d - 48) % 256)) (wrap64 (2 - ((j + 1 : Nat) : Int) + 1)) l (wrap64 ((p : Int) + 1)))) else _) = _
    rw [if_pos rfl]
    unfold octL
    by_cases h48 : d < 48
    · rw [if_pos h48, if_neg (by omega), if_pos (by omega)]
      exact ⟨p, h, rfl⟩
    rw [if_neg h48]
    by_cases h55 : d > 55
    · rw [if_pos h55, if_neg (by omega), if_pos (by omega)]
      exact ⟨p, h, rfl⟩
    rw [if_neg h55, if_pos (by omega), w1n p (by omega), wsm (n * 8) (by omega) (by omega), wsm (2 - ((j + 1 : Nat) : Int) + 1) (by omega) (by omega), show (d - 48) % 256 = d - 48 from by omega, or64 3 (n * 8) (d - 48) (by omega) (by omega) (by omega) (by omega) (by omega) (by omega), show 2 - ((j + 1 : Nat) : Int) + 1 = 2 - (j : Int) from by omega, show n * 8 + (d - 48) = 8 * n + (d - 48) from by omega]
    exact oct_p l hl hok j t (p + 1) (8 * n + (d - 48)) out k h3 (by omega) (by omega) ho (by omega)
def escD : List UInt8 := [110, 114, 116, 98, 102]
theorem esc_none (c : Int) (h0 : 0 ≤ c) (h1 : c ≤ 255) (n1 : c ≠ 110) (n2 : c ≠ 114) (n3 : c ≠ 116) (n4 : c ≠ 98) (n5 : c ≠ 102) : Lib.indexByte escD c.toNat.toUInt8 = -1 := by
  obtain ⟨n, rfl⟩ := Int.eq_ofNat_of_zero_le h0
  refine index_not _ _ fun x hx e => ?_
  have hm : x.toNat ∈ escD.map (·.toNat) := List.mem_map_of_mem hx
  have en : n.toUInt8.toNat = n := by
    show (UInt8.ofNat n).toNat = n
    rw [UInt8.toNat_ofNat', Nat.mod_eq_of_lt (by omega)]
  rw [e, Int.toNat_natCast, en, show escD.map (·.toNat) = [110, 114, 116, 98, 102] from by decide] at hm
  simp only [List.mem_cons, List.not_mem_nil, or_false] at hm
  omega
theorem esc_end (l : List Int) (hl : l.length ≤ 4000) {p : Nat} (h : At l p []) (out : List Int) (k : Nat) : lex_reader_escape.f k l (p : Int) out = some ([], false, (p : Int)) := by
  unfold lex_reader_escape.f
  rw [peek_at l hl h, Option.bind_some]
  exact if_neg Bool.false_ne_true
theorem esc_p (l : List Int) (hl : l.length ≤ 4000) (hok : okB l) (c : Int) (t : List Int) (p : Nat) (out : List Int) (k : Nat) (h : At l p (c :: t)) (ho : out.length ≤ 5000) (hk : 5 ≤ k) :
    ∃ p', At l p' (escL c t).2 ∧ lex_reader_escape.f k l (p : Int) out = some (out ++ (escL c t).1, true, (p' : Int)) := by
  obtain ⟨h1, h2, h3⟩ := h.cons
  obtain ⟨c0, c1⟩ := h.ok hok c (List.mem_cons_self ..)
  have hix : ∀ d, strings_IndexByte.f (⟨#[110, 114, 116, 98, 102]⟩ : ByteArray) d = some (Lib.indexByte escD d.toNat.toUInt8) := fun d => rfl
  unfold lex_reader_escape.f
  rw [peek_at l hl h, Option.bind_some]
  show ∃ p', _ ∧ (if true = true then _ else _) = _
  rw [if_pos rfl]
  show ∃ p', _ ∧ ((strings_IndexByte.f (⟨#[110, 114, 116, 98, 102]⟩ : ByteArray) c).bind _) = _
  rw [hix, Option.bind_some]
  show ∃ p', _ ∧ (if Lib.indexByte escD c.toNat.toUInt8 ≥ 0 then (if 0 ≤ Lib.indexByte escD c.toNat.toUInt8 then (if Lib.indexByte escD c.toNat.toUInt8 < 5 then (if out.length < 140737488355328 then (some ((out ++ [bt (⟨#[10, 13, 9, 8, 12]⟩ : ByteArray) (Lib.indexByte escD c.toNat.toUInt8)]), true, wrap64 ((p : Int) + 1))) else (none)) else (none)) else (none)) else (if c = 13 then ((lex_reader_peek.f l (wrap64 ((p : Int) + 1)) 0).bind fun bt142 => (if bt142.2.1 = true then (if bt142.1 = 10 then (some (out, true, wrap64 (bt142.2.2 + 1))) else (some (out, true, bt142.2.2))) else (some (out, true, bt142.2.2)))) else (if c = 10 then (some (out, true, wrap64 ((p : Int) + 1))) else (if c < 48 then (if out.length < 140737488355328 then (some ((out ++ [c]), true, wrap64 ((p : Int) + 1))) else (none)) else (if c > 55 then (if out.length < 140737488355328 then (some ((out ++ [c]), true, wrap64 ((p : Int) + 1))) else (none)) else (lex_reader_escape.l0 k out ((c - 48) % 256) 0 l (wrap64 ((p : Int) + 1)))))))) = _
  rw [w1n p (by omega)]
  have hit : ∀ (i v : Int), Lib.indexByte escD c.toNat.toUInt8 = i → 0 ≤ i → i < 5 → bt (⟨#[10, 13, 9, 8, 12]⟩ : ByteArray) i = v → (escL c t) = ([v], t) →
      ∃ p' : Nat, At l p' (escL c t).2 ∧ (if Lib.indexByte escD c.toNat.toUInt8 ≥ 0 then (if 0 ≤ Lib.indexByte escD c.toNat.toUInt8 then (if Lib.indexByte escD c.toNat.toUInt8 < 5 then (if out.length < 140737488355328 then (some ((out ++ [bt (⟨#[10, 13, 9, 8, 12]⟩ : ByteArray) (Lib.indexByte escD c.toNat.toUInt8)]), true, ((p + 1 : Nat) : Int))) else (none)) else (none)) else (none)) else (if c = 13 then ((lex_reader_peek.f l ((p + 1 : Nat) : Int) 0).bind fun bt142 => (if bt142.2.1 = true then (if bt142.1 = 10 then (some (out, true, wrap64 (bt142.2.2 + 1))) else (some (out, true, bt142.2.2))) else (some (out, true, bt142.2.2)))) else (if c = 10 then (some (out, true, ((p + 1 : Nat) : Int))) else (if c < 48 then (if out.length < 140737488355328 then (some ((out ++ [c]), true, ((p + 1 : Nat) : Int))) else (none)) else (if c > 55 then (if out.length < 140737488355328 then (some ((out ++ [c]), true, ((p + 1 : Nat) : Int))) else (none)) else (lex_reader_escape.l0 k out ((c - 48) % 256) 0 l ((p + 1 : Nat) : Int))))))) = some (out ++ (escL c t).1, true, (p' : Int)) := fun i v hi i0 i5 hv he => by
    rw [hi, if_pos i0, if_pos i0, if_pos i5, if_pos (by omega), hv, he]
    exact ⟨p + 1, h3, rfl⟩
  by_cases e1 : c = 110
  · exact hit 0 10 (by rw [e1]; decide) (by decide) (by decide) (by decide) (by unfold escL; rw [if_pos e1])
  by_cases e2 : c = 114
  · exact hit 1 13 (by rw [e2]; decide) (by decide) (by decide) (by decide) (by unfold escL; rw [if_neg e1, if_pos e2])
  by_cases e3 : c = 116
  · exact hit 2 9 (by rw [e3]; decide) (by decide) (by decide) (by decide) (by unfold escL; rw [if_neg e1, if_neg e2, if_pos e3])
  by_cases e4 : c = 98
  · exact hit 3 8 (by rw [e4]; decide) (by decide) (by decide) (by decide) (by unfold escL; rw [if_neg e1, if_neg e2, if_neg e3, if_pos e4])
  by_cases e5 : c = 102
  · exact hit 4 12 (by rw [e5]; decide) (by decide) (by decide) (by decide) (by unfold escL; rw [if_neg e1, if_neg e2, if_neg e3, if_neg e4, if_pos e5])
  clear hit hix
  rw [esc_none c c0 c1 e1 e2 e3 e4 e5, if_neg (by decide)]
  unfold escL
  rw [if_neg e1, if_neg e2, if_neg e3, if_neg e4, if_neg e5]
  by_cases e13 : c = 13
  · rw [if_pos e13, if_pos e13, peek_at l hl h3, Option.bind_some]
    cases t with
    | nil =>
      refine ⟨p + 1, h3, ?_⟩
      show (if false = true then _ else _) = some (out ++ [], true, ((p + 1 : Nat) : Int))
      rw [if_neg (by decide), List.append_nil]
    | cons d r =>
      obtain ⟨_, _, h4⟩ := h3.cons
      have hn4 := h4.len
      show ∃ p', At l p' (if d = 10 then ([], r) else ([], d :: r) : List Int × List Int).2 ∧ (if true = true then (if d = 10 then (some (out, true, wrap64 (((p + 1 : Nat) : Int) + 1))) else (some (out, true, ((p + 1 : Nat) : Int)))) else _) = some (out ++ (if d = 10 then ([], r) else ([], d :: r) : List Int × List Int).1, true, (p' : Int))
      rw [if_pos rfl]
      by_cases h10 : d = 10
      · rw [if_pos h10, if_pos h10, w1n (p + 1) (by omega)]
        exact ⟨p + 1 + 1, h4, by rw [List.append_nil]⟩
      · rw [if_neg h10, if_neg h10]
        exact ⟨p + 1, h3, by rw [List.append_nil]⟩
  rw [if_neg e13, if_neg e13]
  by_cases e10 : c = 10
  · rw [if_pos e10, if_pos e10]
    exact ⟨p + 1, h3, by rw [List.append_nil]⟩
  rw [if_neg e10, if_neg e10]
  by_cases h48 : c < 48
  · rw [if_pos h48, if_pos (Or.inl h48), if_pos (by omega)]
    exact ⟨p + 1, h3, rfl⟩
  rw [if_neg h48]
  by_cases h55 : c > 55
  · rw [if_pos h55, if_pos (Or.inr h55), if_pos (by omega)]
    exact ⟨p + 1, h3, rfl⟩
  rw [if_neg h55, if_neg (by omega), show (c - 48) % 256 = c - 48 from by omega]
  exact oct_p l hl hok 2 t (p + 1) (c - 48) out k h3 (by omega) (by omega) ho (by omega)
theorem oct_one : ∀ (k : Nat) (n : Int) (t : List Int), (octL k n t).1.length = 1
  | 0, n, t => rfl
  | _ + 1, n, [] => rfl
  | k + 1, n, d :: t => by
    unfold octL
    split
    · exact oct_one k _ t
    · rfl
theorem esc_one (c : Int) (t : List Int) : (escL c t).1.length ≤ 1 := by
  unfold escL
  split; exact Nat.le_refl _
  split; exact Nat.le_refl _
  split; exact Nat.le_refl _
  split; exact Nat.le_refl _
  split; exact Nat.le_refl _
  split
  · cases t with
    | nil => exact Nat.zero_le _
    | cons d r => dsimp only; split <;> exact Nat.zero_le _
  split; exact Nat.zero_le _
  split; exact Nat.le_refl _
  rw [oct_one]
  exact Nat.le_refl _
theorem put_f (rest : List Int → Int → Int → Option (ByteArray × Int × Int)) (out : List Int) (c d a : Int) (h : out.length ≤ 5000) : textPut rest out c d a = rest (out ++ [c]) d a := by
  unfold textPut
  rw [if_pos (by omega)]
theorem wdn (d : Nat) (h : d ≤ 5000) (h1 : 1 ≤ d) : wrap64 ((d : Int) - 1) = ((d - 1 : Nat) : Int) := by rw [wsm _ (by omega) (by omega)]; omega
theorem text_p (l : List Int) (hl : l.length ≤ 4000) (hok : okB l) : ∀ (n : Nat) (r : List Int) (p : Nat) (out : List Int) (deep : Nat) (k f : Nat), r.length ≤ n → At l p r → out.length ≤ p → 1 ≤ deep → deep ≤ p + 1 → r.length + 7 ≤ k → r.length + 1 ≤ f →
    Rd l (lex_reader_text.l0 k out (deep : Int) l (p : Int)) (textL f (deep : Int) out r)
  | n, [], p, out, deep, k, f => fun hn h ho d1 d2 hk hf => by
    obtain ⟨k, rfl⟩ : ∃ q, k = q + 1 := ⟨k - 1, by omega⟩
    obtain ⟨f, rfl⟩ : ∃ q, f = q + 1 := ⟨f - 1, by omega⟩
    refine ⟨p, ?_⟩
    rw [lex_reader_text.l0, peek_at l hl h, Option.bind_some]
    exact if_neg Bool.false_ne_true
  | 0, c :: t, p, out, deep, k, f => fun hn h ho d1 d2 hk hf => by rw [List.length_cons] at hn; omega
  | n + 1, c :: t, p, out, deep, k, f => fun hn h ho d1 d2 hk hf => by
    rw [List.length_cons] at hn hk hf
    obtain ⟨k, rfl⟩ : ∃ q, k = q + 1 := ⟨k - 1, by omega⟩
    obtain ⟨f, rfl⟩ : ∃ q, f = q + 1 := ⟨f - 1, by omega⟩
    obtain ⟨h1, h2, h3⟩ := h.cons
    have hn3 := h3.len
    have go : ∀ (r' : List Int) (p' : Nat) (o : List Int) (d' : Nat), r'.length ≤ t.length → At l p' r' → o.length ≤ p' → 1 ≤ d' → d' ≤ p' + 1 → Rd l (lex_reader_text.l0 k o (d' : Int) l (p' : Int)) (textL f (d' : Int) o r') := fun r' p' o d' a b c d e => text_p l hl hok n r' p' o d' k f (by omega) b c d e (by omega) (by omega)
    rw [lex_reader_text.l0, peek_at l hl h, Option.bind_some]
    show Rd l (if true = true then (if c = 92 then (lex_reader_escape.f k l (wrap64 ((p : Int) + 1)) out).bind fun q => if q.2.1 = true then lex_reader_text.l0 k q.1 (deep : Int) l q.2.2 else some (⟨#[]⟩, 4, q.2.2)
      else if c = 40 then textPut (fun o d a => lex_reader_text.l0 k o d l a) out 40 (wrap64 ((deep : Int) + 1)) (wrap64 ((p : Int) + 1))
      else if c = 41 then (if wrap64 ((deep : Int) - 1) = 0 then some (strOfNums out, 0, wrap64 ((p : Int) + 1)) else textPut (fun o d a => lex_reader_text.l0 k o d l a) out 41 (wrap64 ((deep : Int) - 1)) (wrap64 ((p : Int) + 1)))
      else if c = 13 then (lex_reader_peek.f l (wrap64 ((p : Int) + 1)) 0).bind fun q => if q.2.1 = true then (if q.1 = 10 then textPut (fun o d a => lex_reader_text.l0 k o d l a) out 10 (deep : Int) (wrap64 (q.2.2 + 1)) else textPut (fun o d a => lex_reader_text.l0 k o d l a) out 10 (deep : Int) q.2.2) else textPut (fun o d a => lex_reader_text.l0 k o d l a) out 10 (deep : Int) q.2.2
      else textPut (fun o d a => lex_reader_text.l0 k o d l a) out c (deep : Int) (wrap64 ((p : Int) + 1))) else _) _
    rw [if_pos rfl, w1n p (by omega), put_f _ _ _ _ _ (by omega), put_f _ _ _ _ _ (by omega), put_f _ _ _ _ _ (by omega)]
    unfold textL
    have ho1 : ∀ x : Int, (out ++ [x]).length ≤ p + 1 := fun x => by rw [List.length_append]; show _ + 1 ≤ _; omega
    by_cases e92 : c = 92
    · rw [if_pos e92, if_pos e92]
      cases t with
      | nil =>
        rw [esc_end l hl h3, Option.bind_some]
        exact ⟨_, if_neg Bool.false_ne_true⟩
      | cons d r =>
        obtain ⟨p', hp', he⟩ := esc_p l hl hok d r (p + 1) out k h3 (by omega) (by omega)
        rw [he, Option.bind_some]
        show Rd l (if true = true then lex_reader_text.l0 k (out ++ (escL d r).1) (deep : Int) l (p' : Int) else _) (textL f (deep : Int) (out ++ (escL d r).1) (escL d r).2)
        rw [if_pos rfl]
        have hs := (esc_suf d r).length_le
        have h1' := esc_one d r
        have hl' := hp'.len
        rw [List.length_cons] at hn3
        exact go _ p' _ deep (by rw [List.length_cons]; omega) hp' (by rw [List.length_append]; omega) d1 (by omega)
    rw [if_neg e92, if_neg e92]
    by_cases e40 : c = 40
    · rw [if_pos e40, if_pos e40, w1n deep (by omega)]
      exact go t (p + 1) _ (deep + 1) (Nat.le_refl _) h3 (ho1 _) (by omega) (by omega)
    rw [if_neg e40, if_neg e40]
    by_cases e41 : c = 41
    · rw [if_pos e41, if_pos e41, wdn deep (by omega) d1]
      by_cases hd : deep = 1
      · rw [if_pos (by omega), if_pos (by omega)]
        exact ⟨p + 1, h3, rfl⟩
      · rw [if_neg (by omega), if_neg (by omega), show ((deep : Int) - 1) = ((deep - 1 : Nat) : Int) from by omega]
        exact go t (p + 1) _ (deep - 1) (Nat.le_refl _) h3 (ho1 _) (by omega) (by omega)
    rw [if_neg e41, if_neg e41]
    by_cases e13 : c = 13
    · rw [if_pos e13, if_pos e13, peek_at l hl h3, Option.bind_some]
      cases t with
      | nil =>
        show Rd l (if false = true then _ else textPut (fun o d a => lex_reader_text.l0 k o d l a) out 10 (deep : Int) ((p + 1 : Nat) : Int)) (textL f (deep : Int) (out ++ [10]) [])
        rw [if_neg (by decide), put_f _ _ _ _ _ (by omega)]
        exact go [] (p + 1) _ deep (Nat.le_refl _) h3 (ho1 _) d1 (by omega)
      | cons d r =>
        obtain ⟨_, _, h4⟩ := h3.cons
        have hn4 := h4.len
        show Rd l (if true = true then (if d = 10 then textPut (fun o d a => lex_reader_text.l0 k o d l a) out 10 (deep : Int) (wrap64 (((p + 1 : Nat) : Int) + 1)) else textPut (fun o d a => lex_reader_text.l0 k o d l a) out 10 (deep : Int) ((p + 1 : Nat) : Int)) else _) (if d = 10 then textL f (deep : Int) (out ++ [10]) r else textL f (deep : Int) (out ++ [10]) (d :: r))
        rw [if_pos rfl, put_f _ _ _ _ _ (by omega), put_f _ _ _ _ _ (by omega), w1n (p + 1) (by omega)]
        by_cases h10 : d = 10
        · rw [if_pos h10, if_pos h10]
          exact go r (p + 1 + 1) _ deep (by rw [List.length_cons]; omega) h4 (by have := ho1 10; omega) d1 (by omega)
        · rw [if_neg h10, if_neg h10]
          exact go (d :: r) (p + 1) _ deep (Nat.le_refl _) h3 (ho1 _) d1 (by omega)
    rw [if_neg e13, if_neg e13]
    exact go t (p + 1) _ deep (Nat.le_refl _) h3 (ho1 _) d1 (by omega)
end Go.Proofs.YtnhgnejfagncpaaDoor.Plain
end
section
namespace Go.Proofs.YtnhgnejfagncpaaDoor.Plain
open Go Go.RowKit Go.Proofs.YtnhgnejfagncpaaDoorW.PrintWords Go.Proofs.YtnhgnejfagncpaaDoor.H Go.Proofs.YtnhgnejfagncpaaDoor.A Go.Proofs.YtnhgnejfagncpaaDoor.B Go.Proofs.YtnhgnejfagncpaaDoor.E Go.Proofs.YtnhgnejfagncpaaDoor.L Go.Proofs.YtnhgnejfagncpaaDoor.M Go.Proofs.YtnhgnejfagncpaaDoor.P
set_option linter.unusedVariables false
theorem hex_len : ∀ (r ds s r' : List Int), hexL ds r = some (s, r') → s.length ≤ ds.length + r.length
  | [], _, _, _ => fun h => by cases h
  | c :: t, ds, s, r' => fun h => by
    unfold hexL at h
    rw [List.length_cons]
    split at h
    · obtain ⟨rfl, _⟩ := Prod.mk.inj (Option.some.inj h)
      rw [packs_len]
      omega
    split at h
    · have := hex_len t ds s r' h; omega
    split at h
    · cases h
    · have := hex_len t _ s r' h
      rw [List.length_append] at this
      have e : [dgI c].length = 1 := rfl
      omega
theorem text_len : ∀ (k : Nat) (deep : Int) (out r s r' : List Int), textL k deep out r = some (s, r') → s.length ≤ out.length + r.length
  | 0, _, _, _, _, _ => fun h => by cases h
  | _ + 1, _, _, [], _, _ => fun h => by cases h
  | k + 1, deep, out, c :: t, s, r' => fun h => by
    have go : ∀ (d : Int) (o q : List Int), o.length + q.length ≤ out.length + (c :: t).length → textL k d o q = some (s, r') → s.length ≤ out.length + (c :: t).length := fun d o q hl hh => by
      have := text_len k d o q s r' hh
      omega
    have one : ∀ x : Int, (out ++ [x]).length + t.length ≤ out.length + (c :: t).length := fun x => by rw [List.length_append, List.length_cons]; show out.length + 1 + t.length ≤ out.length + (t.length + 1); omega
    unfold textL at h
    split at h
    · cases t with
      | nil => cases h
      | cons d q =>
        dsimp only at h
        refine go _ _ _ ?_ h
        have h1 := esc_one d q
        have h2 := (esc_suf d q).length_le
        rw [List.length_append, List.length_cons, List.length_cons]
        omega
    split at h
    · exact go _ _ _ (one _) h
    split at h
    · split at h
      · obtain ⟨rfl, _⟩ := Prod.mk.inj (Option.some.inj h)
        omega
      · exact go _ _ _ (one _) h
    split at h
    · cases t with
      | nil => exact go _ _ _ (one _) h
      | cons d q =>
        dsimp only at h
        split at h
        · refine go _ _ _ ?_ h
          have := one 10
          rw [List.length_cons] at this
          omega
        · exact go _ _ _ (one _) h
    · exact go _ _ _ (one _) h
theorem name_len : ∀ (k : Nat) (r o : List Int), nameL k r = some o → o.length ≤ r.length
  | 0, _, _ => fun h => by cases h
  | _ + 1, [], _ => fun h => by cases h; exact Nat.le_refl _
  | k + 1, c :: t, o => fun h => by
    unfold nameL at h
    rw [List.length_cons]
    split at h
    · cases t with
      | nil => cases h
      | cons a t =>
        cases t with
        | nil => cases h
        | cons b q =>
          dsimp only at h
          split at h
          · cases h
          split at h
          · cases h
          · obtain ⟨x, hx, rfl⟩ := Option.map_eq_some_iff.1 h
            have := name_len k q x hx
            rw [List.length_cons, List.length_cons, List.length_cons]
            omega
    · obtain ⟨x, hx, rfl⟩ := Option.map_eq_some_iff.1 h
      have := name_len k t x hx
      rw [List.length_cons]
      omega
theorem row_len (r : List Int) : (rowA r).length ≤ r.length := by
  have := congrArg List.length (row_eq r)
  rw [List.length_append] at this
  omega
def TkR (l : List Int) (x : Option (Int × Int × Int × ByteArray × Int × Int)) (o : TokR) : Prop := match o with
  | .err e => e ≠ 0 ∧ ∃ q, x = some (0, 0, 0, ⟨#[]⟩, e, q)
  | .tok kind M S s r => ∃ p' : Nat, At l p' r ∧ x = some (kind, M, S, bs s, 0, (p' : Int))
theorem whole_p (l : List Int) (kind : Int) (X : Option (ByteArray × Int × Int)) (o : Option (List Int × List Int)) (k : Nat) (hk : 1 ≤ k) (ho : ∀ s r, o = some (s, r) → s.length ≤ 65535) (h : Rd l X o) :
    TkR l (X.bind fun bt => lex_reader_token.j2 k kind bt.1 bt.2.1 l bt.2.2) (wholeL kind o) := by
  obtain ⟨k, rfl⟩ : ∃ q, k = q + 1 := ⟨k - 1, by omega⟩
  cases o with
  | none =>
    obtain ⟨q, rfl⟩ := h
    refine ⟨by decide, q, ?_⟩
    rw [Option.bind_some, lex_reader_token.j2]
    exact if_neg (show ¬ ((4 : Int) = 0) from by decide)
  | some p =>
    obtain ⟨s, r⟩ := p
    obtain ⟨p', hp, rfl⟩ := h
    have := ho s r rfl
    refine ⟨p', hp, ?_⟩
    rw [Option.bind_some, lex_reader_token.j2]
    show (if (0 : Int) = 0 then (if ((bs s).size : Int) > 65535 then _ else _) else _) = _
    rw [if_pos rfl, bs_len, if_neg (by omega)]
theorem word_p (l : List Int) (hl : l.length ≤ 4000) (c : Int) (t : List Int) (p k : Nat) (h : At l p (c :: t)) (hc : otherB c = true) (hk : 9000 ≤ k) :
    TkR l (lex_reader_word.f k l (p : Int)) (wordL (c :: rowA t) (rowZ t)) := by
  have hn := h.len
  obtain ⟨p', hp, hr⟩ := row_pf l hl (c :: t) p k h (by omega)
  have ea : rowA (c :: t) = c :: rowA t := by show (if _ then _ else _) = _; rw [if_pos hc]
  have ez : rowZ (c :: t) = rowZ t := by show (if _ then _ else _) = _; rw [if_pos hc]
  rw [ea] at hr
  rw [ez] at hp
  unfold lex_reader_word.f
  rw [hr, Option.bind_some]
  show TkR l ((dec_Parse.f k (bs (c :: rowA t))).bind _) _
  rw [parse_f _ k (by omega), Option.bind_some, show (bs (c :: rowA t)).data.toList = u8L (c :: rowA t) from rfl]
  unfold wordL
  by_cases h0 : (parseL (u8L (c :: rowA t))).2.2 = 0
  · rw [if_pos h0, if_pos h0]
    refine ⟨p', hp, ?_⟩
    rw [h0]
    rfl
  rw [if_neg h0, if_neg h0]
  by_cases h5 : (parseL (u8L (c :: rowA t))).2.2 = 5
  · rw [if_pos h5, if_pos h5]
    refine ⟨by decide, (p' : Int), ?_⟩
    rw [h5]
  rw [if_neg h5, if_neg h5]
  by_cases h127 : 127 < (c :: rowA t).length
  · rw [if_pos (by rw [bs_len]; omega), if_pos h127]
    exact ⟨by decide, _, rfl⟩
  · rw [if_neg (by rw [bs_len]; omega), if_neg h127]
    exact ⟨p', hp, rfl⟩
theorem j2_tok (l : List Int) (kind : Int) (k : Nat) (hk : 1 ≤ k) (p : Nat) (r : List Int) (h : At l p r) : TkR l (lex_reader_token.j2 k kind (⟨#[]⟩ : ByteArray) 0 l (p : Int)) (.tok kind 0 0 [] r) := by
  obtain ⟨k, rfl⟩ : ∃ q, k = q + 1 := ⟨k - 1, by omega⟩
  refine ⟨p, h, ?_⟩
  rw [lex_reader_token.j2, if_pos rfl, if_neg (by decide)]
  rfl
theorem j2_bad (l : List Int) (kind : Int) (k : Nat) (hk : 1 ≤ k) (p : Int) : TkR l (lex_reader_token.j2 k kind (⟨#[]⟩ : ByteArray) 4 l p) (.err 4) := by
  obtain ⟨k, rfl⟩ : ∃ q, k = q + 1 := ⟨k - 1, by omega⟩
  refine ⟨by decide, p, ?_⟩
  rw [lex_reader_token.j2, if_neg (by decide)]
theorem mark_p (l : List Int) (hl : l.length ≤ 4000) (hok : okB l) (c : Int) (t : List Int) (p k : Nat) (h : At l p (c :: t)) (hk : 13000 ≤ k) :
    TkR l (if c = 91 then (lex_reader_token.j2 k 5 (⟨#[]⟩ : ByteArray) 0 l (wrap64 ((p : Int) + 1))) else (if c = 93 then (lex_reader_token.j2 k 6 (⟨#[]⟩ : ByteArray) 0 l (wrap64 ((p : Int) + 1))) else (if c = 60 then (if (pk t).2 = true then (lex_reader_token.j0 k c (pk t).2 (pk t).1 3 (⟨#[]⟩ : ByteArray) 0 ((pk t).1 == c) l (wrap64 ((p : Int) + 1))) else (lex_reader_token.j0 k c (pk t).2 (pk t).1 3 (⟨#[]⟩ : ByteArray) 0 false l (wrap64 ((p : Int) + 1)))) else (lex_reader_token.j0 k c (pk t).2 (pk t).1 3 (⟨#[]⟩ : ByteArray) 0 false l (wrap64 ((p : Int) + 1)))))) (markL c t) := by
  obtain ⟨k, rfl⟩ : ∃ q, k = q + 2 := ⟨k - 2, by omega⟩
  obtain ⟨h1, h2, h3⟩ := h.cons
  have hn3 := h3.len
  rw [w1n p (by omega)]
  have hhex : TkR l ((lex_reader_hexa.f k l ((p + 1 : Nat) : Int)).bind fun bt160 => (lex_reader_token.j2 k 3 bt160.1 bt160.2.1 l bt160.2.2)) (wholeL 3 (hexL [] t)) := by
    refine whole_p l 3 _ _ k (by omega) (fun s r hs => ?_) ?_
    · have := hex_len t [] s r hs
      rw [List.length_nil] at this
      omega
    · unfold lex_reader_hexa.f
      exact hexa_p l hl hok t (p + 1) [] k h3 (fun c hc => by cases hc) (Nat.zero_le _) (by omega)
  have j1no : ∀ q : Int × Bool, lex_reader_token.j0 (k + 2) c q.2 q.1 3 (⟨#[]⟩ : ByteArray) 0 false l ((p + 1 : Nat) : Int) = (if c = 62 then (if q.2 = true then (lex_reader_token.j1 (k + 1) c 3 (⟨#[]⟩ : ByteArray) 0 (q.1 == c) l ((p + 1 : Nat) : Int)) else (lex_reader_token.j1 (k + 1) c 3 (⟨#[]⟩ : ByteArray) 0 false l ((p + 1 : Nat) : Int))) else (lex_reader_token.j1 (k + 1) c 3 (⟨#[]⟩ : ByteArray) 0 false l ((p + 1 : Nat) : Int))) := fun q => by
    rw [lex_reader_token.j0, if_neg (by decide)]
  have j1f : lex_reader_token.j1 (k + 1) c 3 (⟨#[]⟩ : ByteArray) 0 false l ((p + 1 : Nat) : Int) = (if c = 60 then ((lex_reader_hexa.f k l ((p + 1 : Nat) : Int)).bind fun bt160 => (lex_reader_token.j2 k 3 bt160.1 bt160.2.1 l bt160.2.2)) else (if c = 40 then ((lex_reader_text.f k l ((p + 1 : Nat) : Int)).bind fun bt163 => (lex_reader_token.j2 k 3 bt163.1 bt163.2.1 l bt163.2.2)) else (if c = 47 then ((lex_reader_row.f k l ((p + 1 : Nat) : Int)).bind fun bt166 => ((lex_name.f k bt166.1).bind fun bt168 => (lex_reader_token.j2 k 2 bt168.1 bt168.2 l bt166.2))) else (lex_reader_token.j2 k 3 (⟨#[]⟩ : ByteArray) 4 l ((p + 1 : Nat) : Int))))) := by
    rw [lex_reader_token.j1, if_neg (by decide)]
  unfold markL
  by_cases e1 : c = 91
  · rw [if_pos e1, if_pos e1]
    exact j2_tok l 5 _ (by omega) (p + 1) t h3
  rw [if_neg e1, if_neg e1]
  by_cases e2 : c = 93
  · rw [if_pos e2, if_pos e2]
    exact j2_tok l 6 _ (by omega) (p + 1) t h3
  rw [if_neg e2, if_neg e2]
  by_cases e3 : c = 60
  · rw [if_pos e3, if_pos e3]
    have n62 : ¬ c = 62 := by omega
    have plain : TkR l (lex_reader_token.j0 (k + 2) c (pk t).2 (pk t).1 3 (⟨#[]⟩ : ByteArray) 0 false l ((p + 1 : Nat) : Int)) (wholeL 3 (hexL [] t)) := by
      rw [j1no, if_neg n62, j1f, if_pos e3]
      exact hhex
    cases t with
    | nil =>
      rw [show (pk []).2 = false from rfl, if_neg Bool.false_ne_true]
      exact plain
    | cons d r =>
      obtain ⟨_, _, h4⟩ := h3.cons
      have hn4 := h4.len
      rw [show (pk (d :: r)).2 = true from rfl, if_pos rfl, show (pk (d :: r)).1 = d from rfl]
      dsimp only
      by_cases hd : d = 60
      · rw [if_pos hd, beq_iff_eq.2 (hd.trans e3.symm), lex_reader_token.j0, if_pos rfl, w1n (p + 1) (by omega)]
        exact j2_tok l 7 _ (by omega) (p + 1 + 1) r h4
      · rw [if_neg hd, beq_eq_false_iff_ne.2 (fun e => hd (e.trans e3))]
        exact plain
  rw [if_neg e3, if_neg e3, j1no]
  by_cases e4 : c = 62
  · rw [if_pos e4, if_pos e4]
    have bad : TkR l (lex_reader_token.j1 (k + 1) c 3 (⟨#[]⟩ : ByteArray) 0 false l ((p + 1 : Nat) : Int)) (.err 4) := by
      rw [j1f, if_neg e3, if_neg (by omega), if_neg (by omega)]
      exact j2_bad l 3 k (by omega) _
    cases t with
    | nil =>
      rw [show (pk []).2 = false from rfl, if_neg Bool.false_ne_true]
      exact bad
    | cons d r =>
      obtain ⟨_, _, h4⟩ := h3.cons
      have hn4 := h4.len
      rw [show (pk (d :: r)).2 = true from rfl, if_pos rfl, show (pk (d :: r)).1 = d from rfl]
      dsimp only
      by_cases hd : d = 62
      · rw [if_pos hd, beq_iff_eq.2 (hd.trans e4.symm), lex_reader_token.j1, if_pos rfl, w1n (p + 1) (by omega)]
        exact j2_tok l 8 _ (by omega) (p + 1 + 1) r h4
      · rw [if_neg hd, beq_eq_false_iff_ne.2 (fun e => hd (e.trans e4))]
        exact bad
  rw [if_neg e4, if_neg e4, j1f, if_neg e3]
  by_cases e5 : c = 40
  · rw [if_pos e5, if_pos e5]
    refine whole_p l 3 _ _ k (by omega) (fun s r hs => ?_) ?_
    · have := text_len _ _ _ _ s r hs
      rw [List.length_nil] at this
      omega
    · unfold lex_reader_text.f
      exact text_p l hl hok t.length t (p + 1) [] 1 k (t.length + 1) (Nat.le_refl _) h3 (Nat.zero_le _) (Nat.le_refl _) (by omega) (by omega) (Nat.le_refl _)
  rw [if_neg e5, if_neg e5]
  by_cases e6 : c = 47
  · rw [if_pos e6, if_pos e6]
    obtain ⟨p', hp, hr⟩ := row_pf l hl t (p + 1) k h3 (by omega)
    have hrl := row_len t
    have hra : okB (rowA t) := fun x hx => (h3.ok hok) x (by rw [← row_eq t]; exact List.mem_append_left _ hx)
    rw [hr, Option.bind_some]
    show TkR l ((lex_name.f k (bs (rowA t))).bind _) _
    rw [name_pf (rowA t) hra (by omega) k ((rowA t).length + 1) (by omega) (Nat.le_refl _), Option.bind_some]
    obtain ⟨k, rfl⟩ : ∃ q, k = q + 1 := ⟨k - 1, by omega⟩
    cases hnm : nameL ((rowA t).length + 1) (rowA t) with
    | none =>
      refine ⟨by decide, (p' : Int), ?_⟩
      show lex_reader_token.j2 (k + 1) 2 (⟨#[]⟩ : ByteArray) 4 l (p' : Int) = _
      rw [lex_reader_token.j2, if_neg (by decide)]
    | some o =>
      have hol := name_len _ _ o hnm
      refine ⟨p', hp, ?_⟩
      show lex_reader_token.j2 (k + 1) 2 (bs ([] ++ o)) 0 l (p' : Int) = _
      rw [lex_reader_token.j2, if_pos rfl, bs_len, List.nil_append, if_neg (by omega)]
  · rw [if_neg e6, if_neg e6]
    exact j2_bad l 3 k (by omega) _
theorem token_p (l : List Int) (hl : l.length ≤ 4000) (hok : okB l) (r : List Int) (p k : Nat) (h : At l p r) (hk : 20000 ≤ k) : TkR l (lex_reader_token.f k l (p : Int)) (nextL r) := by
  have hn := h.len
  obtain ⟨q, hq, hs⟩ := skip_pf l hl r p k h (by omega)
  unfold lex_reader_token.f nextL
  rw [hs, Option.bind_some, peek_at l hl hq, Option.bind_some]
  cases hr : skipL false r with
  | nil =>
    rw [hr] at hq
    refine ⟨q, hq, ?_⟩
    show (if false = true then _ else _) = _
    rw [if_neg Bool.false_ne_true]
    rfl
  | cons c t =>
    rw [hr] at hq
    obtain ⟨y, hy, hiff⟩ := of_two c k (by omega)
    show TkR l (if true = true then ((lex_of.f k c).bind fun t150 => (if t150 = 2 then ((lex_reader_word.f k l (q : Int)).bind fun bt151 => (some (bt151.1, bt151.2.1, bt151.2.2.1, bt151.2.2.2.1, bt151.2.2.2.2.1, bt151.2.2.2.2.2))) else ((lex_reader_peek.f l (q : Int) 1).bind fun bt157 => (if c = 91 then (lex_reader_token.j2 k 5 (⟨#[]⟩ : ByteArray) 0 l (wrap64 (bt157.2.2 + 1))) else (if c = 93 then (lex_reader_token.j2 k 6 (⟨#[]⟩ : ByteArray) 0 l (wrap64 (bt157.2.2 + 1))) else (if c = 60 then (if bt157.2.1 = true then (lex_reader_token.j0 k c bt157.2.1 bt157.1 3 (⟨#[]⟩ : ByteArray) 0 (bt157.1 == c) l (wrap64 (bt157.2.2 + 1))) else (lex_reader_token.j0 k c bt157.2.1 bt157.1 3 (⟨#[]⟩ : ByteArray) 0 false l (wrap64 (bt157.2.2 + 1)))) else (lex_reader_token.j0 k c bt157.2.1 bt157.1 3 (⟨#[]⟩ : ByteArray) 0 false l (wrap64 (bt157.2.2 + 1))))))))) else _) (if otherB c = true then wordL (c :: rowA t) (rowZ t) else markL c t)
    rw [if_pos rfl, hy, Option.bind_some]
    by_cases ho : otherB c = true
    · rw [if_pos (hiff.2 ho), if_pos ho]
      have := word_p l hl c t q k hq ho (by omega)
      cases hx : lex_reader_word.f k l (q : Int) with
      | none =>
        rw [hx] at this
        unfold TkR at this
        split at this
        · obtain ⟨_, _, h⟩ := this; cases h
        · obtain ⟨_, _, h⟩ := this; cases h
      | some v =>
        rw [hx] at this
        exact this
    · rw [if_neg (fun e => ho (hiff.1 e)), if_neg ho, peek1_at l hl hq, Option.bind_some]
      exact mark_p l hl hok c t q k hq (by omega)
def NxR (l : List Int) (x : Option (Int × Int × Int × ByteArray × Int × Int)) (o : TokR) : Prop := match o with
  | .err e => e ≠ 0 ∧ x = some (0, 0, 0, ⟨#[]⟩, 0, e)
  | .tok kind M S s r => ∃ p' : Nat, At l p' r ∧ x = some (kind, M, S, bs s, (p' : Int), 0)
theorem next_p (l : List Int) (hl : l.length ≤ 4000) (hok : okB l) (r : List Int) (p k : Nat) (h : At l p r) (hk : 20000 ≤ k) : NxR l (lex_Next.f k l (p : Int)) (nextL r) := by
  have hn := h.len
  have := token_p l hl hok r p k h hk
  unfold lex_Next.f
  rw [if_neg (by omega)]
  cases ho : nextL r with
  | err e =>
    rw [ho] at this
    obtain ⟨he, q, hx⟩ := this
    refine ⟨he, ?_⟩
    rw [hx, Option.bind_some]
    exact if_neg he
  | tok kind M S s r' =>
    rw [ho] at this
    obtain ⟨p', hp, hx⟩ := this
    refine ⟨p', hp, ?_⟩
    rw [hx, Option.bind_some]
    exact if_pos rfl
theorem next_bad (l : List Int) (a k : Int) (kk : Nat) (h : a < 0 ∨ (l.length : Int) < a) : lex_Next.f kk l a = some (0, 0, 0, ⟨#[]⟩, 0, 1) := by
  unfold lex_Next.f
  rw [if_pos h]
end Go.Proofs.YtnhgnejfagncpaaDoor.Plain
end
section
namespace Go.Proofs.YtnhgnejfagncpaaDoor.Plain
open Go Go.RowKit Go.Proofs.YtnhgnejfagncpaaDoorW.PrintWords Go.Proofs.YtnhgnejfagncpaaDoor.H Go.Proofs.YtnhgnejfagncpaaDoor.A Go.Proofs.YtnhgnejfagncpaaDoor.B Go.Proofs.YtnhgnejfagncpaaDoor.E Go.Proofs.YtnhgnejfagncpaaDoor.L Go.Proofs.YtnhgnejfagncpaaDoor.M Go.Proofs.YtnhgnejfagncpaaDoor.P
set_option linter.unusedVariables false
theorem white_nl (c : Int) (h : c = 10 ∨ c = 13) : whiteB c = true := by rcases h with rfl | rfl <;> rfl
theorem skip_r (l : List Int) (hl : l.length ≤ 4000) : ∀ (r : List Int) (p : Nat), At l p r →
    (∀ k, 3 * r.length + 3 ≤ k → ∃ p', At l p' (skipL false r) ∧ erasureref14_skip.l0 k l (p : Int) = some (p' : Int)) ∧
    (∀ k, 3 * r.length + 3 ≤ k → ∃ p', At l p' (skipL true r) ∧ erasureref14_skip.l1 k l (p : Int) = some (p' : Int))
  | [], p => fun h => by
    have hn := h.len
    rw [List.length_nil] at hn
    have a : ∀ k, 2 ≤ k → ∃ p', At l p' (skipL false []) ∧ erasureref14_skip.l0 k l (p : Int) = some (p' : Int) := fun k hk => by
      obtain ⟨k, rfl⟩ : ∃ q, k = q + 1 := ⟨k - 1, by omega⟩
      exact ⟨p, h, by rw [erasureref14_skip.l0, if_neg (by omega)]⟩
    refine ⟨fun k hk => a k (by omega), fun k hk => ?_⟩
    obtain ⟨k, rfl⟩ : ∃ q, k = q + 1 := ⟨k - 1, by omega⟩
    rw [erasureref14_skip.l1, if_neg (by omega)]
    exact a k (by omega)
  | c :: t, p => fun h => by
    obtain ⟨h1, h2, h3⟩ := h.cons
    obtain ⟨i0, i1⟩ := skip_r l hl t (p + 1) h3
    rw [List.length_cons]
    have b : ∀ k, 3 * t.length + 4 ≤ k → ¬ (c = 10 ∨ c = 13) → ∃ p', At l p' (skipL true t) ∧ erasureref14_skip.l1 k l (p : Int) = some (p' : Int) := fun k hk hc => by
      obtain ⟨k, rfl⟩ : ∃ q, k = q + 1 := ⟨k - 1, by omega⟩
      rw [erasureref14_skip.l1, if_pos (by omega), if_pos (by omega), h2, if_neg (fun e => hc (Or.inl e)), if_neg (fun e => hc (Or.inr e)), w1n p (by omega)]
      exact i1 k (by omega)
    have a : ∀ k, 3 * t.length + 5 ≤ k → ∃ p', At l p' (skipL false (c :: t)) ∧ erasureref14_skip.l0 k l (p : Int) = some (p' : Int) := fun k hk => by
      obtain ⟨k, rfl⟩ : ∃ q, k = q + 1 := ⟨k - 1, by omega⟩
      rw [erasureref14_skip.l0, if_pos (by omega), if_pos (by omega), h2, white_f, Option.bind_some]
      unfold skipL
      by_cases hw : whiteB c = true
      · rw [if_pos hw, w1n p (by omega)]
        have e : (if c = 10 ∨ c = 13 then skipL false t else if false = true ∨ whiteB c = true then skipL false t else if c = 37 then skipL true t else c :: t) = skipL false t := by
          by_cases hA : c = 10 ∨ c = 13
          · rw [if_pos hA]
          · rw [if_neg hA, if_pos (Or.inr hw)]
        rw [e]
        exact i0 k (by omega)
      · have hA : ¬ (c = 10 ∨ c = 13) := fun e => hw (white_nl c e)
        have hB : ¬ (false = true ∨ whiteB c = true) := by rintro (e | e); cases e; exact hw e
        rw [if_neg hw, if_neg hA, if_neg hB]
        by_cases h37 : c = 37
        · rw [if_pos h37, if_pos h37]
          exact b k (by omega) hA
        · rw [if_neg h37, if_neg h37]
          exact ⟨p, h, rfl⟩
    refine ⟨fun k hk => a k (by omega), fun k hk => ?_⟩
    by_cases hA : c = 10 ∨ c = 13
    · obtain ⟨k, rfl⟩ : ∃ q, k = q + 1 := ⟨k - 1, by omega⟩
      have e : erasureref14_skip.l1 (k + 1) l (p : Int) = erasureref14_skip.l0 k l (p : Int) := by
        rw [erasureref14_skip.l1, if_pos (by omega), if_pos (by omega), h2]
        rcases hA with e | e
        · rw [if_pos e]
        · rw [if_pos e]
          split <;> rfl
      have e2 : skipL true (c :: t) = skipL false (c :: t) := by unfold skipL; rw [if_pos hA, if_pos hA]
      rw [e, e2]
      exact a k (by omega)
    · have e2 : skipL true (c :: t) = skipL true t := by
        show (if _ then _ else _) = _
        rw [if_neg hA, if_pos (Or.inl rfl)]
      rw [e2]
      exact b k (by omega) hA
theorem digit_r (c : Int) (h0 : 0 ≤ c) (h1 : c ≤ 255) (k : Nat) (hk : 2 ≤ k) : erasureref10_Digit.f k c = some (dgI c) := by
  obtain ⟨k, rfl⟩ : ∃ q, k = q + 2 := ⟨k - 2, by omega⟩
  have j0f : ¬ (48 ≤ c ∧ c ≤ 57) → erasureref10_Digit.j0 (k + 2) c false = some (dgI c) := fun hd => by
    rw [erasureref10_Digit.j0, if_neg (by decide)]
    unfold dgI
    rw [if_neg hd]
    by_cases h65 : c ≥ 65
    · rw [if_pos h65, erasureref10_Digit.j1]
      by_cases h70 : c ≤ 70
      · rw [if_pos (decide_eq_true h70), if_pos (show 65 ≤ c ∧ c ≤ 70 from ⟨h65, h70⟩)]
        congr 1
        omega
      · have n70 : ¬ (decide (c ≤ 70) = true) := by rw [decide_eq_true_iff]; exact h70
        rw [if_neg n70, if_neg (show ¬ (65 ≤ c ∧ c ≤ 70) from fun e => h70 e.2)]
        by_cases h97 : c ≥ 97
        · rw [if_pos h97]
          by_cases h102 : c ≤ 102
          · rw [if_pos h102, if_pos (show 97 ≤ c ∧ c ≤ 102 from ⟨h97, h102⟩)]
            congr 1
            omega
          · rw [if_neg h102, if_neg (show ¬ (97 ≤ c ∧ c ≤ 102) from fun e => h102 e.2)]
        · rw [if_neg h97, if_neg (show ¬ (97 ≤ c ∧ c ≤ 102) from fun e => h97 e.1)]
    · rw [if_neg h65, erasureref10_Digit.j1, if_neg (by decide), if_neg (show ¬ c ≥ 97 from by omega), if_neg (show ¬ (65 ≤ c ∧ c ≤ 70) from by omega), if_neg (show ¬ (97 ≤ c ∧ c ≤ 102) from by omega)]
  unfold erasureref10_Digit.f
  by_cases h48 : c ≥ 48
  · rw [if_pos h48]
    by_cases h57 : c ≤ 57
    · rw [decide_eq_true h57, erasureref10_Digit.j0, if_pos rfl]
      unfold dgI
      rw [if_pos (show 48 ≤ c ∧ c ≤ 57 from ⟨h48, h57⟩)]
      congr 1
      omega
    · rw [decide_eq_false h57]
      exact j0f (fun e => h57 e.2)
  · rw [if_neg h48]
    exact j0f (fun e => h48 e.1)
theorem row_l0 (l : List Int) (hl : l.length ≤ 4000) (from_ : Nat) (Z : List Int) (hf : (l.take (from_ + Z.length)).drop from_ = Z) : ∀ (r : List Int) (p k : Nat), At l p r → from_ ≤ p → p + (rowA r).length = from_ + Z.length → r.length + 1 ≤ k →
    erasureref14_row.l0 k l (from_ : Int) (p : Int) = some (bs Z, ((p + (rowA r).length : Nat) : Int)) ∧ At l (p + (rowA r).length) (rowZ r)
  | [], p, k => fun h hle he hk => by
    obtain ⟨k, rfl⟩ : ∃ q, k = q + 1 := ⟨k - 1, by omega⟩
    have hn := h.len
    rw [List.length_nil] at hn
    refine ⟨?_, h⟩
    rw [erasureref14_row.l0, if_neg (by omega), if_pos (by omega), if_pos (by omega), if_pos (by omega), Int.toNat_natCast, Int.toNat_natCast]
    have hp : p = from_ + Z.length := he
    show some (strOfNums ((l.take p).drop from_), (p : Int)) = some (bs Z, (p : Int))
    rw [hp, hf]
    rfl
  | c :: t, p, k => fun h hle he hk => by
    obtain ⟨k, rfl⟩ : ∃ q, k = q + 1 := ⟨k - 1, by omega⟩
    obtain ⟨h1, h2, h3⟩ := h.cons
    rw [List.length_cons] at hk
    rw [erasureref14_row.l0, if_pos (by omega), if_pos (by omega), h2, other_f, Option.bind_some]
    unfold rowA rowZ
    unfold rowA at he
    by_cases ho : otherB c = true
    · rw [if_pos ho, List.length_cons] at he
      rw [if_pos ho, if_pos ho, if_pos ho, w1n p (by omega), List.length_cons, show p + ((rowA t).length + 1) = p + 1 + (rowA t).length from by omega]
      exact row_l0 l hl from_ Z hf t (p + 1) k h3 (by omega) (by omega) (by omega)
    · rw [if_neg ho] at he
      rw [if_neg ho, if_neg ho, if_neg ho, if_pos (by omega), if_pos (by omega), if_pos (by omega), Int.toNat_natCast, Int.toNat_natCast]
      refine ⟨?_, h⟩
      have hp : p = from_ + Z.length := he
      show some (strOfNums ((l.take p).drop from_), (p : Int)) = some (bs Z, (p : Int))
      rw [hp, hf]
      rfl
theorem row_rf (l : List Int) (hl : l.length ≤ 4000) (r : List Int) (p k : Nat) (h : At l p r) (hk : r.length + 1 ≤ k) : ∃ p', At l p' (rowZ r) ∧ erasureref14_row.f k l (p : Int) = some (bs (rowA r), (p' : Int)) := by
  obtain ⟨a, b⟩ := row_l0 l hl p (rowA r) (row_cut l p r h) r p k h (Nat.le_refl _) rfl hk
  exact ⟨_, b, a⟩
def RdB (l : List Int) (x : Option (ByteArray × Int × Bool)) (o : Option (List Int × List Int)) : Prop := match o with
  | none => x = some (⟨#[]⟩, 0, false)
  | some (s, r) => ∃ p' : Nat, At l p' r ∧ x = some (bs s, (p' : Int), true)
theorem packs_pad : ∀ ds : List Int, ds.length % 2 = 1 → packs (ds ++ [0]) = packs ds
  | [], h => by cases h
  | [a], _ => by simp [packs]
  | a :: b :: t, h => by
    show (16 * a + b) :: packs (t ++ [0]) = (16 * a + b) :: packs t
    rw [packs_pad t (by rw [List.length_cons, List.length_cons] at h; omega)]
theorem hex_l1 (q : Int) (D : List Int) (hD : D.length ≤ 5000) (hok : ok16 D) : ∀ (n : Nat) (r : List Int) (i : Nat) (A : List Int) (k : Nat), r.length ≤ n → At D i r → r.length % 2 = 0 → A.length ≤ i → r.length + 1 ≤ k →
    erasureref14_hexa.l1 k q D (bs A) (i : Int) = some (bs (A ++ packs r), q, true)
  | n, [], i, A, k => fun hn h he ha hk => by
    obtain ⟨k, rfl⟩ : ∃ q, k = q + 1 := ⟨k - 1, by omega⟩
    have hl := h.len
    rw [List.length_nil] at hl
    rw [erasureref14_hexa.l1, if_neg (by omega)]
    show some (bs A, q, true) = some (bs (A ++ []), q, true)
    rw [List.append_nil]
  | n, [a], i, A, k => fun hn h he ha hk => by cases he
  | 0, a :: b :: t, i, A, k => fun hn h he ha hk => by rw [List.length_cons] at hn; omega
  | n + 1, a :: b :: t, i, A, k => fun hn h he ha hk => by
    obtain ⟨k, rfl⟩ : ∃ q, k = q + 1 := ⟨k - 1, by omega⟩
    have hm : ∀ x ∈ a :: b :: t, 0 ≤ x ∧ x < 16 := fun x hx => hok x (by rw [← h.2] at hx; exact List.mem_of_mem_drop hx)
    obtain ⟨a0, a1⟩ := hm a (by simp)
    obtain ⟨b0, b1⟩ := hm b (by simp)
    obtain ⟨h1, h2, h3⟩ := h.cons
    obtain ⟨h4, h5, h6⟩ := h3.cons
    rw [List.length_cons, List.length_cons] at hn he hk
    rw [erasureref14_hexa.l1, if_pos (by omega), if_pos (by omega), w1n i (by omega), if_pos (by omega), if_pos (by omega), h2, h5, Option.bind_some, wsm (16 * a) (by omega) (by omega), wsm (16 * a + b) (by omega) (by omega), show (16 * a + b) % 256 = 16 * a + b from by omega, show strOfNums [16 * a + b] = bs [16 * a + b] from rfl, bs_len, bs_len, if_pos (by show _ + 1 ≤ _; omega), bs_app, w2n i (by omega)]
    rw [hex_l1 q D hD hok n t (i + 1 + 1) (A ++ [16 * a + b]) k (by omega) h6 (by omega) (by rw [List.length_append]; show _ + 1 ≤ _; omega) (by omega), List.append_assoc]
    rfl
theorem hexa_r (l : List Int) (hl : l.length ≤ 4000) (hok : okB l) : ∀ (r : List Int) (p : Nat) (ds : List Int) (k : Nat), At l p r → ok16 ds → ds.length ≤ p → 2 * r.length + p + 10 ≤ k →
    RdB l (erasureref14_hexa.l0 k l (p : Int) ds) (hexL ds r)
  | [], p, ds, k => fun h hd hn hk => by
    obtain ⟨k, rfl⟩ : ∃ q, k = q + 1 := ⟨k - 1, by omega⟩
    have hl := h.len
    rw [List.length_nil] at hl
    show erasureref14_hexa.l0 (k + 1) l (p : Int) ds = _
    rw [erasureref14_hexa.l0, if_neg (by omega)]
  | c :: t, p, ds, k => fun h hd hn hk => by
    have hcok := h.ok hok
    have hlen := h.len
    rw [List.length_cons] at hk hlen
    obtain ⟨k, rfl⟩ : ∃ q, k = q + 2 := ⟨k - 2, by omega⟩
    obtain ⟨h1, h2, h3⟩ := h.cons
    obtain ⟨c0, c1⟩ := hcok c (List.mem_cons_self ..)
    have hdg := dg_lt c
    have fin : ∀ D : List Int, ok16 D → D.length ≤ 4001 → D.length ≤ p + 1 → D.length % 2 = 0 → erasureref14_hexa.j1 (k + 1) ((p + 1 : Nat) : Int) D = some (bs (packs D), ((p + 1 : Nat) : Int), true) := fun D hD hDl hDp hDe => by
      rw [erasureref14_hexa.j1]
      exact hex_l1 _ D (by omega) hD D.length D 0 [] k (Nat.le_refl _) ⟨Nat.zero_le _, rfl⟩ hDe (Nat.le_refl _) (by omega)
    rw [erasureref14_hexa.l0, if_pos (by omega), if_pos (by omega), h2, w1n p (by omega)]
    unfold hexL
    by_cases h62 : c = 62
    · rw [if_pos h62, if_pos h62]
      refine ⟨p + 1, h3, ?_⟩
      by_cases he : ds.length % 2 = 1
      · rw [if_pos (by omega), if_pos (by omega), fin (ds ++ [0]) (fun x hx => by
          rcases List.mem_append.1 hx with hx | hx
          · exact hd x hx
          · rw [List.mem_singleton.1 hx]; decide) (by rw [List.length_append]; show _ + 1 ≤ _; omega) (by rw [List.length_append]; show _ + 1 ≤ _; omega) (by rw [List.length_append]; show (_ + 1) % 2 = 0; omega), packs_pad ds he]
      · rw [if_neg (by omega), fin ds hd (by omega) (by omega) (by omega)]
    rw [if_neg h62, if_neg h62, white_f, Option.bind_some]
    by_cases hwt : whiteB c = true
    · rw [if_pos hwt, if_pos hwt]
      exact hexa_r l hl hok t (p + 1) ds (k + 1) h3 hd (by omega) (by omega)
    rw [if_neg hwt, if_neg hwt, digit_r c c0 c1 _ (by omega), Option.bind_some]
    by_cases hneg : dgI c < 0
    · rw [if_pos hneg, if_pos hneg]
      exact rfl
    rw [if_neg hneg, if_neg hneg, Option.bind_some, if_pos (by omega)]
    exact hexa_r l hl hok t (p + 1) (ds ++ [dgI c]) (k + 1) h3 (fun x hx => by
      rcases List.mem_append.1 hx with hx | hx
      · exact hd x hx
      · rw [List.mem_singleton.1 hx]; omega) (by rw [List.length_append]; show _ + 1 ≤ _; omega) (by omega)
theorem oct_r (l : List Int) (hl : l.length ≤ 4000) (hok : okB l) (p : Nat) : ∀ (j : Nat) (r : List Int) (n : Int) (k : Nat), At l (p + (3 - j)) r → 0 ≤ n → (j = 0 ∧ n ≤ 4095 ∨ j = 1 ∧ n ≤ 511 ∨ j = 2 ∧ n ≤ 63 ∨ j = 3 ∧ n ≤ 7) → j + 2 ≤ k →
    ∃ p', At l p' (octL j n r).2 ∧ erasureref14_escape.l1 k l (p : Int) n (3 - (j : Int)) = some (bs (octL j n r).1, (p' : Int))
  | 0, r, n, k => fun h hn hb hk => by
    obtain ⟨k, rfl⟩ : ∃ q, k = q + 1 := ⟨k - 1, by omega⟩
    have hp := h.1
    refine ⟨p + 3, h, ?_⟩
    rw [erasureref14_escape.l1, if_neg (by omega), wsm _ (by omega) (by omega), Int.tmod_eq_emod_of_nonneg hn, show n % 256 % 256 = n % 256 from by omega]
    show some (bs [n % 256], (p : Int) + (3 - ((0 : Nat) : Int))) = some (bs [n % 256], ((p + 3 : Nat) : Int))
    congr 2
  | j + 1, [], n, k => fun h hn hb hk => by
    obtain ⟨k, rfl⟩ : ∃ q, k = q + 1 := ⟨k - 1, by omega⟩
    have hp := h.len
    rw [List.length_nil] at hp
    refine ⟨_, h, ?_⟩
    rw [erasureref14_escape.l1, if_pos (by omega), wsm _ (by omega) (by omega), if_neg (by omega), Int.tmod_eq_emod_of_nonneg hn, show n % 256 % 256 = n % 256 from by omega, show (p : Int) + (3 - ((j + 1 : Nat) : Int)) = ((p + (3 - (j + 1)) : Nat) : Int) from by omega]
    rfl
  | j + 1, d :: t, n, k => fun h hn hb hk => by
    obtain ⟨k, rfl⟩ : ∃ q, k = q + 1 := ⟨k - 1, by omega⟩
    obtain ⟨h1, h2, h3⟩ := h.cons
    have e : wrap64 ((p : Int) + (3 - ((j + 1 : Nat) : Int))) = ((p + (3 - (j + 1)) : Nat) : Int) := by rw [wsm _ (by omega) (by omega)]; omega
    rw [erasureref14_escape.l1, if_pos (by omega), e]
    clear e
    have e2 : wrap64 (3 - ((j + 1 : Nat) : Int) + 1) = 3 - (j : Int) := by rw [wsm _ (by omega) (by omega)]; omega
    rw [if_pos (by omega), if_pos (by omega), h2, e2]
    clear e2
    unfold octL
    have tm : Int.tmod n 256 % 256 = n % 256 := by rw [Int.tmod_eq_emod_of_nonneg hn]; omega
    by_cases h48 : d ≥ 48
    · rw [if_pos h48]
      by_cases h55 : d ≤ 55
      · rw [if_pos h55, if_pos ⟨h48, h55⟩, show (d - 48) % 256 = d - 48 from by omega, wsm (8 * n) (by omega) (by omega), wsm (8 * n + (d - 48)) (by omega) (by omega)]
        have h3' : At l (p + (3 - j)) t := by
          have : p + (3 - (j + 1)) + 1 = p + (3 - j) := by omega
          rw [← this]; exact h3
        exact oct_r l hl hok p j t (8 * n + (d - 48)) k h3' (by omega) (by omega) (by omega)
      · rw [if_neg h55, if_neg (by omega), tm]
        exact ⟨_, h, rfl⟩
    · rw [if_neg h48, if_neg (by omega), tm]
      exact ⟨_, h, rfl⟩
theorem esc_r (l : List Int) (hl : l.length ≤ 4000) (hok : okB l) (c : Int) (t : List Int) (p : Nat) (k : Nat) (h : At l p (c :: t)) (hk : 20 ≤ k) :
    ∃ p', At l p' (escL c t).2 ∧ erasureref14_escape.f k l (p : Int) = some (bs (escL c t).1, (p' : Int)) := by
  obtain ⟨k, rfl⟩ : ∃ q, k = q + 9 := ⟨k - 9, by omega⟩
  obtain ⟨h1, h2, h3⟩ := h.cons
  have hn3 := h3.len
  have X : ∀ (i : Nat) (v : Int), i < 5 → (⟨#[10, 13, 9, 8, 12]⟩ : ByteArray).extract i (i + 1) = bs [v] → ∀ (q : Nat), c = bt (⟨#[110, 114, 116, 98, 102]⟩ : ByteArray) (i : Int) →
      erasureref14_escape.l0 (q + 1) l (p : Int) c (⟨#[110, 114, 116, 98, 102]⟩ : ByteArray) (⟨#[10, 13, 9, 8, 12]⟩ : ByteArray) (i : Int) = some (bs [v], ((p + 1 : Nat) : Int)) := fun i v hi hv q hc => by
    rw [erasureref14_escape.l0, if_pos (by omega), if_pos (by omega), if_pos (by show (i : Int) < 5; omega), if_pos hc, w1n i (by omega), if_pos (by omega), if_pos (by show ((i + 1 : Nat) : Int) ≤ 5; omega), Int.toNat_natCast, Int.toNat_natCast, hv, w1n p (by omega)]
  have Y : ∀ (i : Nat), i < 5 → ∀ (q : Nat), c ≠ bt (⟨#[110, 114, 116, 98, 102]⟩ : ByteArray) (i : Int) →
      erasureref14_escape.l0 (q + 1) l (p : Int) c (⟨#[110, 114, 116, 98, 102]⟩ : ByteArray) (⟨#[10, 13, 9, 8, 12]⟩ : ByteArray) (i : Int) = erasureref14_escape.l0 q l (p : Int) c (⟨#[110, 114, 116, 98, 102]⟩ : ByteArray) (⟨#[10, 13, 9, 8, 12]⟩ : ByteArray) ((i + 1 : Nat) : Int) := fun i hi q hc => by
    rw [erasureref14_escape.l0, if_pos (by omega), if_pos (by omega), if_pos (by show (i : Int) < 5; omega), if_neg hc, w1n i (by omega)]
  unfold erasureref14_escape.f
  rw [if_pos (by omega), if_pos (by omega), h2, show (0 : Int) = ((0 : Nat) : Int) from rfl]
  unfold escL
  by_cases e1 : c = 110
  · rw [if_pos e1, X 0 10 (by decide) rfl _ e1]
    exact ⟨p + 1, h3, rfl⟩
  rw [if_neg e1, Y 0 (by decide) _ e1]
  by_cases e2 : c = 114
  · rw [if_pos e2, X 1 13 (by decide) rfl _ e2]
    exact ⟨p + 1, h3, rfl⟩
  rw [if_neg e2, Y 1 (by decide) _ e2]
  by_cases e3 : c = 116
  · rw [if_pos e3, X 2 9 (by decide) rfl _ e3]
    exact ⟨p + 1, h3, rfl⟩
  rw [if_neg e3, Y 2 (by decide) _ e3]
  by_cases e4 : c = 98
  · rw [if_pos e4, X 3 8 (by decide) rfl _ e4]
    exact ⟨p + 1, h3, rfl⟩
  rw [if_neg e4, Y 3 (by decide) _ e4]
  by_cases e5 : c = 102
  · rw [if_pos e5, X 4 12 (by decide) rfl _ e5]
    exact ⟨p + 1, h3, rfl⟩
  have n5 : ¬ (((4 + 1 : Nat) : Int) < 5) := by decide
  rw [if_neg e5, Y 4 (by decide) _ e5, erasureref14_escape.l0, if_neg n5]
  clear X Y
  by_cases e13 : c = 13
  · rw [if_pos e13, if_pos e13, w1n p (by omega)]
    have no : erasureref14_escape.j1 (k + 3) l (p : Int) c false = some (⟨#[]⟩, ((p + 1 : Nat) : Int)) := by
      rw [erasureref14_escape.j1, if_neg Bool.false_ne_true, if_pos e13, erasureref14_escape.j2, if_pos rfl, w1n p (by omega)]
    cases t with
    | nil =>
      rw [if_neg (by rw [List.length_nil] at hn3; omega), no]
      exact ⟨p + 1, h3, rfl⟩
    | cons d r =>
      obtain ⟨h4, h5, h6⟩ := h3.cons
      dsimp only
      have a1 : ((p + 1 : Nat) : Int) < (l.length : Int) := by omega
      have a2 : (0 : Int) ≤ ((p + 1 : Nat) : Int) := by omega
      rw [if_pos a1, if_pos a2, h5]
      by_cases h10 : d = 10
      · rw [if_pos h10, beq_iff_eq.2 h10, erasureref14_escape.j1, if_pos rfl, w2n p (by omega)]
        exact ⟨p + 1 + 1, h6, rfl⟩
      · rw [if_neg h10, beq_eq_false_iff_ne.2 h10, no]
        exact ⟨p + 1, h3, rfl⟩
  rw [if_neg e13, if_neg e13, erasureref14_escape.j1, if_neg Bool.false_ne_true, if_neg e13, erasureref14_escape.j2]
  by_cases e10 : c = 10
  · rw [if_pos e10, if_pos (beq_iff_eq.2 e10), w1n p (by omega)]
    exact ⟨p + 1, h3, rfl⟩
  have nb10 : ¬ ((c == 10) = true) := by rw [beq_iff_eq]; exact e10
  rw [if_neg e10, if_neg nb10]
  by_cases h48 : c < 48
  · rw [if_pos h48, if_pos (Or.inl h48), erasureref14_escape.j3, if_pos rfl, w1n p (by omega)]
    exact ⟨p + 1, h3, rfl⟩
  rw [if_neg h48, erasureref14_escape.j3]
  by_cases h55 : c > 55
  · rw [if_pos (decide_eq_true h55), if_pos (Or.inr h55), w1n p (by omega)]
    exact ⟨p + 1, h3, rfl⟩
  have nd55 : ¬ (decide (c > 55) = true) := by rw [decide_eq_true_iff]; exact h55
  have no8 : ¬ (c < 48 ∨ 55 < c) := by omega
  rw [if_neg nd55, if_neg no8]
  have := oct_r l hl hok p 3 (c :: t) 0 k h (Int.le_refl _) (by omega) (by omega)
  have e : octL 3 0 (c :: t) = octL 2 (c - 48) t := by
    show (if _ then _ else _) = _
    rw [if_pos (by omega), show 8 * (0 : Int) + (c - 48) = c - 48 from by omega]
  rw [e] at this
  exact this
theorem text_r (l : List Int) (hl : l.length ≤ 4000) (hok : okB l) : ∀ (n : Nat) (r : List Int) (p : Nat) (out : List Int) (deep : Nat) (k f : Nat), r.length ≤ n → At l p r → out.length ≤ p → 1 ≤ deep → deep ≤ p + 1 → 3 * r.length + 30 ≤ k → r.length + 1 ≤ f →
    RdB l (erasureref14_text.l0 k l (p : Int) (bs out) (deep : Int)) (textL f (deep : Int) out r)
  | n, [], p, out, deep, k, f => fun hn h ho d1 d2 hk hf => by
    obtain ⟨k, rfl⟩ : ∃ q, k = q + 1 := ⟨k - 1, by omega⟩
    obtain ⟨f, rfl⟩ : ∃ q, f = q + 1 := ⟨f - 1, by omega⟩
    have hl := h.len
    rw [List.length_nil] at hl
    show erasureref14_text.l0 (k + 1) l (p : Int) (bs out) (deep : Int) = _
    rw [erasureref14_text.l0, if_neg (by omega)]
  | 0, c :: t, p, out, deep, k, f => fun hn h ho d1 d2 hk hf => by rw [List.length_cons] at hn; omega
  | n + 1, c :: t, p, out, deep, k, f => fun hn h ho d1 d2 hk hf => by
    rw [List.length_cons] at hn hk hf
    obtain ⟨k, rfl⟩ : ∃ q, k = q + 3 := ⟨k - 3, by omega⟩
    obtain ⟨f, rfl⟩ : ∃ q, f = q + 1 := ⟨f - 1, by omega⟩
    obtain ⟨h1, h2, h3⟩ := h.cons
    have hn3 := h3.len
    have go : ∀ (r' : List Int) (p' : Nat) (o : List Int) (d' : Nat) (kk : Nat), k ≤ kk → r'.length ≤ t.length → At l p' r' → o.length ≤ p' → 1 ≤ d' → d' ≤ p' + 1 → RdB l (erasureref14_text.l0 kk l (p' : Int) (bs o) (d' : Int)) (textL f (d' : Int) o r') := fun r' p' o d' kk q a b c d e => text_r l hl hok n r' p' o d' kk f (by omega) b c d e (by omega) (by omega)
    have ho1 : ∀ x : Int, (out ++ [x]).length ≤ p + 1 := fun x => by rw [List.length_append]; show _ + 1 ≤ _; omega
    have put : ∀ (d' : Nat), c ≠ 13 → erasureref14_text.j2 (k + 1) l ((p + 1 : Nat) : Int) (bs out) (d' : Int) c = erasureref14_text.l0 k l ((p + 1 : Nat) : Int) (bs (out ++ [c])) (d' : Int) := fun d' hc => by
      rw [erasureref14_text.j2, if_neg hc, Option.bind_some, show strOfNums [c] = bs [c] from rfl, bs_len, bs_len, if_pos (by show _ + 1 ≤ _; omega), bs_app]
    rw [erasureref14_text.l0, if_pos (by omega), if_pos (by omega), h2, w1n p (by omega)]
    unfold textL
    by_cases e92 : c = 92
    · rw [if_pos e92, if_pos e92]
      cases t with
      | nil =>
        rw [if_pos (by rw [List.length_nil] at hn3; omega)]
        exact rfl
      | cons d r =>
        rw [if_neg (by rw [List.length_cons] at hn3; omega)]
        obtain ⟨p', hp', he⟩ := esc_r l hl hok d r (p + 1) (k + 2) h3 (by omega)
        have hs := (esc_suf d r).length_le
        have h1' := esc_one d r
        have hl' := hp'.len
        rw [List.length_cons] at hn3
        rw [he, Option.bind_some, bs_len, bs_len, if_pos (by omega), bs_app]
        exact go _ p' _ deep (k + 2) (by omega) (by rw [List.length_cons]; omega) hp' (by rw [List.length_append]; omega) d1 (by omega)
    rw [if_neg e92, if_neg e92]
    by_cases e40 : c = 40
    · rw [if_pos e40, if_pos e40, w1n deep (by omega), erasureref14_text.j1, if_neg (by omega), put (deep + 1) (by omega), ← e40]
      exact go t (p + 1) _ (deep + 1) k (Nat.le_refl _) (Nat.le_refl _) h3 (ho1 _) (by omega) (by omega)
    rw [if_neg e40, if_neg e40, erasureref14_text.j1]
    by_cases e41 : c = 41
    · rw [if_pos e41, if_pos e41, wdn deep (by omega) d1]
      by_cases hd : deep = 1
      · rw [if_pos (by omega), if_pos (by omega)]
        exact ⟨p + 1, h3, rfl⟩
      · rw [if_neg (by omega), if_neg (by omega), put (deep - 1) (by omega), show ((deep : Int) - 1) = ((deep - 1 : Nat) : Int) from by omega, ← e41]
        exact go t (p + 1) _ (deep - 1) k (Nat.le_refl _) (Nat.le_refl _) h3 (ho1 _) (by omega) (by omega)
    rw [if_neg e41, if_neg e41]
    by_cases e13 : c = 13
    · have b10 : ∀ X : Int, (if (bs out).size + (strOfNums [10]).size ≤ 9223372036854775807 then (erasureref14_text.l0 k l X (bs out ++ strOfNums [10]) (deep : Int)) else none) = erasureref14_text.l0 k l X (bs (out ++ [10])) (deep : Int) := fun X => by
        rw [show strOfNums [10] = bs [10] from rfl, bs_len, bs_len, if_pos (by show _ + 1 ≤ _; omega), bs_app]
      rw [if_pos e13, erasureref14_text.j2, if_pos e13, Option.bind_some, Option.bind_some, b10, b10]
      cases t with
      | nil =>
        rw [if_neg (by rw [List.length_nil] at hn3; omega)]
        exact go [] (p + 1) _ deep k (Nat.le_refl _) (Nat.le_refl _) h3 (ho1 _) d1 (by omega)
      | cons d r =>
        obtain ⟨h4, h5, h6⟩ := h3.cons
        have hn6 := h6.len
        dsimp only
        have a1 : ((p + 1 : Nat) : Int) < (l.length : Int) := by omega
        have a2 : (0 : Int) ≤ ((p + 1 : Nat) : Int) := by omega
        rw [if_pos a1, if_pos a2, h5, w1n (p + 1) (by omega)]
        by_cases h10 : d = 10
        · rw [if_pos h10, if_pos h10]
          exact go r (p + 1 + 1) _ deep k (Nat.le_refl _) (by rw [List.length_cons]; omega) h6 (by have := ho1 10; omega) d1 (by omega)
        · rw [if_neg h10, if_neg h10]
          exact go (d :: r) (p + 1) _ deep k (Nat.le_refl _) (Nat.le_refl _) h3 (ho1 _) d1 (by omega)
    rw [if_neg e13, put deep e13]
    exact go t (p + 1) _ deep k (Nat.le_refl _) (Nat.le_refl _) h3 (ho1 _) d1 (by omega)
theorem ext_at (s : ByteArray) {p : Nat} {c : Int} {t : List Int} (h : At (nb s) p (c :: t)) : s.extract p (p + 1) = bs [c] := by
  have hd := h.2
  unfold nb I8 at hd
  rw [← List.map_drop] at hd
  cases hq : s.data.toList.drop p with
  | nil => rw [hq] at hd; cases hd
  | cons x y =>
    rw [hq, List.map_cons] at hd
    obtain ⟨a, _⟩ := List.cons.inj hd
    refine ByteArray.ext (Array.toList_inj.1 ?_)
    rw [← a, show (bs [(x.toNat : Int)]).data.toList = [x] from u8_one x, ByteArray.data_extract, Array.toList_extract, List.extract_eq_take_drop, hq, show p + 1 - p = 1 from by omega]
    rfl
def nameB (o : Option (List Int)) (out : List Int) : ByteArray × Bool := match o with | none => (⟨#[]⟩, false) | some q => (bs (out ++ q), true)
theorem name_r (s : ByteArray) (hs : s.size ≤ 4000) : ∀ (n : Nat) (r : List Int) (p : Nat) (out : List Int) (k f : Nat), r.length ≤ n → At (nb s) p r → out.length ≤ p → 3 * r.length + 6 ≤ k → r.length + 1 ≤ f →
    erasureref14_name.l0 k s (bs out) (p : Int) = some (nameB (nameL f r) out)
  | n, [], p, out, k, f => fun hn h ho hk hf => by
    obtain ⟨k, rfl⟩ : ∃ q, k = q + 1 := ⟨k - 1, by omega⟩
    obtain ⟨f, rfl⟩ : ∃ q, f = q + 1 := ⟨f - 1, by omega⟩
    have hl := h.len
    rw [nb_len, List.length_nil] at hl
    rw [erasureref14_name.l0, if_neg (by omega)]
    show some (bs out, true) = some (bs (out ++ []), true)
    rw [List.append_nil]
  | 0, c :: t, p, out, k, f => fun hn h ho hk hf => by rw [List.length_cons] at hn; omega
  | n + 1, c :: t, p, out, k, f => fun hn h ho hk hf => by
    have hok : okB (c :: t) := h.ok (i8_ok _)
    rw [List.length_cons] at hn hk hf
    obtain ⟨k, rfl⟩ : ∃ q, k = q + 3 := ⟨k - 3, by omega⟩
    obtain ⟨f, rfl⟩ : ∃ q, f = q + 1 := ⟨f - 1, by omega⟩
    obtain ⟨hb, hlt⟩ := bt_at s h
    have hx := ext_at s h
    obtain ⟨_, _, h3⟩ := h.cons
    have hl3 := h3.len
    rw [nb_len] at hl3
    rw [erasureref14_name.l0, if_pos (by omega), if_pos (by omega), hb]
    unfold nameL
    by_cases h35 : c = 35
    · rw [if_pos h35, if_pos h35, w1n p (by omega), w2n p (by omega)]
      have bad : erasureref14_name.j1 (k + 2) s (bs out) (p : Int) true = some (nameB none out) := by rw [erasureref14_name.j1, if_pos rfl]; rfl
      cases t with
      | nil => rw [if_pos (by rw [List.length_nil] at hl3; omega)]; exact bad
      | cons a t =>
        cases t with
        | nil => rw [if_pos (by rw [List.length_cons, List.length_nil] at hl3; omega)]; exact bad
        | cons b r =>
          dsimp only
          rw [List.length_cons, List.length_cons] at hl3 hk hf hn
          obtain ⟨hba, _⟩ := bt_at s h3
          obtain ⟨_, _, h4⟩ := h3.cons
          obtain ⟨hbb, _⟩ := bt_at s h4
          obtain ⟨_, _, h5⟩ := h4.cons
          obtain ⟨a0, a1⟩ := hok a (by simp)
          obtain ⟨b0, b1⟩ := hok b (by simp)
          have da := dg_lt a
          have db := dg_lt b
          rw [if_neg (by omega), if_pos (by omega), if_pos (by omega), hba, digit_r a a0 a1 _ (by omega), Option.bind_some]
          by_cases hA : dgI a < 0
          · rw [if_pos hA, if_pos (Or.inl hA)]; exact bad
          rw [if_neg hA, if_pos (by omega), if_pos (by omega), hbb, digit_r b b0 b1 _ (by omega), Option.bind_some]
          by_cases hB : dgI b < 0
          · rw [decide_eq_true hB, if_pos (Or.inr hB)]; exact bad
          have hno : ¬ (dgI a < 0 ∨ dgI b < 0) := by omega
          have hval : wrap64 (wrap64 (16 * dgI a) + dgI b) = 16 * dgI a + dgI b := by
            rw [wsm (16 * dgI a) (by omega) (by omega), wsm (16 * dgI a + dgI b) (by omega) (by omega)]
          rw [decide_eq_false hB, if_neg hno, erasureref14_name.j1, if_neg (by decide), w1n p (by omega), w2n p (by omega), if_pos (by omega), if_pos (by omega), hba, digit_r a a0 a1 _ (by omega), Option.bind_some, if_pos (by omega), if_pos (by omega), hbb, digit_r b b0 b1 _ (by omega), Option.bind_some, hval]
          clear hval
          by_cases hz : 16 * dgI a + dgI b = 0
          · rw [if_pos hz, if_pos hz]; rfl
          rw [if_neg hz, if_neg hz, Option.bind_some, show (16 * dgI a + dgI b) % 256 = 16 * dgI a + dgI b from by omega, show strOfNums [16 * dgI a + dgI b] = bs [16 * dgI a + dgI b] from rfl, bs_len, bs_len, if_pos (by show _ + 1 ≤ _; omega), bs_app, w1n (p + 1 + 1) (by omega)]
          rw [name_r s hs n r (p + 1 + 1 + 1) (out ++ [16 * dgI a + dgI b]) (k + 1) f (by omega) h5 (by rw [List.length_append]; show _ + 1 ≤ _; omega) (by omega) (by omega)]
          cases nameL f r with
          | none => rfl
          | some o =>
            show some (bs (out ++ [16 * dgI a + dgI b] ++ o), true) = some (bs (out ++ ((16 * dgI a + dgI b) :: o)), true)
            rw [List.append_assoc]
            rfl
    · rw [if_neg h35, if_neg h35, w1n p (by omega), if_pos (by omega), if_pos (by omega), Int.toNat_natCast, Int.toNat_natCast, hx, bs_len, bs_len, if_pos (by show _ + 1 ≤ _; omega), bs_app]
      rw [name_r s hs n t (p + 1) (out ++ [c]) (k + 2) f (by omega) h3 (by rw [List.length_append]; show _ + 1 ≤ _; omega) (by omega) (by omega)]
      cases nameL f t with
      | none => rfl
      | some o =>
        show some (bs (out ++ [c] ++ o), true) = some (bs (out ++ (c :: o)), true)
        rw [List.append_assoc]
        rfl
theorem name_rf (R : List Int) (hR : okB R) (hn : R.length ≤ 4000) (k f : Nat) (hk : 3 * R.length + 6 ≤ k) (hf : R.length + 1 ≤ f) : erasureref14_name.f k (bs R) = some (nameB (nameL f R) []) := by
  have hnb := nb_bs R hR
  unfold erasureref14_name.f
  exact name_r (bs R) (by rw [bs_len]; exact hn) R.length R 0 [] k f (Nat.le_refl _) ⟨Nat.zero_le _, hnb⟩ (Nat.le_refl _) hk hf
end Go.Proofs.YtnhgnejfagncpaaDoor.Plain
end
section
namespace Go.Proofs.YtnhgnejfagncpaaDoor.Plain
open Go Go.RowKit Go.Proofs.YtnhgnejfagncpaaDoorW.PrintWords Go.Proofs.YtnhgnejfagncpaaDoor.H Go.Proofs.YtnhgnejfagncpaaDoor.A Go.Proofs.YtnhgnejfagncpaaDoor.B Go.Proofs.YtnhgnejfagncpaaDoor.E Go.Proofs.YtnhgnejfagncpaaDoor.L Go.Proofs.YtnhgnejfagncpaaDoor.M Go.Proofs.YtnhgnejfagncpaaDoor.P
set_option linter.unusedVariables false
theorem skip_stop : ∀ (r : List Int) (cm : Bool) (c : Int) (t : List Int), skipL cm r = c :: t → whiteB c = false
  | [], _, _, _ => fun h => by cases h
  | d :: r, cm, c, t => fun h => by
    unfold skipL at h
    split at h
    · exact skip_stop r _ c t h
    split at h
    · exact skip_stop r _ c t h
    rename_i h2
    split at h
    · exact skip_stop r _ c t h
    · obtain ⟨rfl, _⟩ := List.cons.inj h
      cases hw : whiteB d with
      | false => rfl
      | true => exact absurd (Or.inr hw) h2
theorem whole_r (l : List Int) (kind : Int) (X : Option (ByteArray × Int × Bool)) (o : Option (List Int × List Int)) (ho : ∀ s r, o = some (s, r) → s.length ≤ 65535) (h : RdB l X o) :
    NxR l (X.bind fun bt => (erasureref14_whole.f kind bt.1 bt.2.1 bt.2.2).bind fun bt223 => (some (bt223.1, bt223.2.1, bt223.2.2.1, bt223.2.2.2.1, bt223.2.2.2.2.1, bt223.2.2.2.2.2))) (wholeL kind o) := by
  cases o with
  | none =>
    have hX : X = some (⟨#[]⟩, 0, false) := h
    refine ⟨by decide, ?_⟩
    rw [hX, Option.bind_some]
    unfold erasureref14_whole.f
    rw [if_neg Bool.false_ne_true]
    rfl
  | some p =>
    obtain ⟨s, r⟩ := p
    obtain ⟨p', hp, rfl⟩ := h
    have := ho s r rfl
    have hs : ¬ (((bs s).size : Int) > 65535) := by rw [bs_len]; omega
    refine ⟨p', hp, ?_⟩
    rw [Option.bind_some]
    unfold erasureref14_whole.f
    rw [if_pos rfl, if_neg hs]
    rfl
theorem j1_r (l : List Int) (hl : l.length ≤ 500) (hok : okB l) (c : Int) (t : List Int) (p k : Nat) (h : At l p (c :: t)) (hw : whiteB c = false) (hk : 15000 ≤ k) (b : Bool) (hb : b = (match t with | [] => false | d :: _ => d == c)) :
    NxR l (erasureref14_Next.j1 k l (p : Int) b) (if otherB c = true then wordL (c :: rowA t) (rowZ t) else markL c t) := by
  obtain ⟨k, rfl⟩ : ∃ q, k = q + 1 := ⟨k - 1, by omega⟩
  have hl4 : l.length ≤ 4000 := by omega
  obtain ⟨h1, h2, h3⟩ := h.cons
  have hn3 := h3.len
  have hrl := row_len t
  have hoc : otherB c = !markB c := by unfold otherB; rw [hw]; simp
  rw [erasureref14_Next.j1, if_pos (by omega), if_pos (by omega), h2, w1n p (by omega), w2n p (by omega)]
  have hmark : ∀ x : Int, c = x → markB x = true → ¬ (otherB c = true) := fun x hx hm => by rw [hoc, hx, hm]; decide
  have ref : markL c t = markL c t := rfl
  by_cases e1 : c = 91
  · have no := hmark 91 e1 rfl
    rw [if_pos e1, if_neg no]
    unfold markL
    rw [if_pos e1]
    exact ⟨p + 1, h3, rfl⟩
  rw [if_neg e1]
  by_cases e2 : c = 93
  · have no := hmark 93 e2 rfl
    rw [if_pos e2, if_neg no]
    unfold markL
    rw [if_neg e1, if_pos e2]
    exact ⟨p + 1, h3, rfl⟩
  rw [if_neg e2]
  by_cases e3 : c = 60
  · have no := hmark 60 e3 rfl
    rw [if_pos e3, if_neg no]
    unfold markL
    rw [if_neg e1, if_neg e2, if_pos e3]
    have hx : NxR l ((erasureref14_hexa.f k l ((p + 1 : Nat) : Int)).bind fun bt220 => ((erasureref14_whole.f 3 bt220.1 bt220.2.1 bt220.2.2).bind fun bt223 => (some (bt223.1, bt223.2.1, bt223.2.2.1, bt223.2.2.2.1, bt223.2.2.2.2.1, bt223.2.2.2.2.2)))) (wholeL 3 (hexL [] t)) := by
      refine whole_r l 3 _ _ (fun s r hs => ?_) ?_
      · have := hex_len t [] s r hs
        rw [List.length_nil] at this
        omega
      · unfold erasureref14_hexa.f
        exact hexa_r l hl4 hok t (p + 1) [] k h3 (fun c hc => by cases hc) (Nat.zero_le _) (by omega)
    cases t with
    | nil =>
      have hb2 : b = false := hb
      rw [hb2, if_neg Bool.false_ne_true]
      exact hx
    | cons d r =>
      obtain ⟨_, _, h4⟩ := h3.cons
      have hb2 : b = (d == c) := hb
      dsimp only
      by_cases hd : d = 60
      · rw [if_pos hd, hb2, beq_iff_eq.2 (hd.trans e3.symm), if_pos rfl]
        exact ⟨p + 1 + 1, h4, rfl⟩
      · rw [if_neg hd, hb2, beq_eq_false_iff_ne.2 (fun e => hd (e.trans e3)), if_neg Bool.false_ne_true]
        exact hx
  rw [if_neg e3]
  by_cases e4 : c = 62
  · have no := hmark 62 e4 rfl
    rw [if_pos e4, if_neg no]
    unfold markL
    rw [if_neg e1, if_neg e2, if_neg e3, if_pos e4]
    cases t with
    | nil =>
      have hb2 : b = false := hb
      rw [hb2, if_neg Bool.false_ne_true]
      exact ⟨by decide, rfl⟩
    | cons d r =>
      obtain ⟨_, _, h4⟩ := h3.cons
      have hb2 : b = (d == c) := hb
      dsimp only
      by_cases hd : d = 62
      · rw [if_pos hd, hb2, beq_iff_eq.2 (hd.trans e4.symm), if_pos rfl]
        exact ⟨p + 1 + 1, h4, rfl⟩
      · rw [if_neg hd, hb2, beq_eq_false_iff_ne.2 (fun e => hd (e.trans e4)), if_neg Bool.false_ne_true]
        exact ⟨by decide, rfl⟩
  rw [if_neg e4]
  by_cases e5 : c = 40
  · have no := hmark 40 e5 rfl
    rw [if_pos e5, if_neg no]
    unfold markL
    rw [if_neg e1, if_neg e2, if_neg e3, if_neg e4, if_pos e5]
    refine whole_r l 3 _ _ (fun s r hs => ?_) ?_
    · have := text_len _ _ _ _ s r hs
      rw [List.length_nil] at this
      omega
    · unfold erasureref14_text.f
      exact text_r l hl4 hok t.length t (p + 1) [] 1 k (t.length + 1) (Nat.le_refl _) h3 (Nat.zero_le _) (Nat.le_refl _) (by omega) (by omega) (Nat.le_refl _)
  rw [if_neg e5]
  by_cases e6 : c = 47
  · have no := hmark 47 e6 rfl
    rw [if_pos e6, if_neg no]
    unfold markL
    rw [if_neg e1, if_neg e2, if_neg e3, if_neg e4, if_neg e5, if_pos e6]
    obtain ⟨p', hp, hr⟩ := row_rf l hl4 t (p + 1) k h3 (by omega)
    have hra : okB (rowA t) := fun x hx => (h3.ok hok) x (by rw [← row_eq t]; exact List.mem_append_left _ hx)
    rw [hr, Option.bind_some]
    show NxR l ((erasureref14_name.f k (bs (rowA t))).bind _) _
    rw [name_rf (rowA t) hra (by omega) k ((rowA t).length + 1) (by omega) (Nat.le_refl _), Option.bind_some]
    cases hnm : nameL ((rowA t).length + 1) (rowA t) with
    | none => exact ⟨by decide, rfl⟩
    | some o =>
      have hol := name_len _ _ o hnm
      have hs : ¬ (((bs ([] ++ o)).size : Int) > 65535) := by rw [bs_len, List.nil_append]; omega
      refine ⟨p', hp, ?_⟩
      show (erasureref14_whole.f 2 (bs ([] ++ o)) (p' : Int) true).bind _ = _
      unfold erasureref14_whole.f
      rw [if_pos rfl, if_neg hs]
      rfl
  rw [if_neg e6, mark_f, Option.bind_some]
  cases hm : markB c with
  | true =>
    rw [if_pos rfl, hoc, hm]
    show NxR l _ (if false = true then _ else markL c t)
    rw [if_neg Bool.false_ne_true]
    unfold markL
    rw [if_neg e1, if_neg e2, if_neg e3, if_neg e4, if_neg e5, if_neg e6]
    exact ⟨by decide, rfl⟩
  | false =>
    have ho : otherB c = true := by rw [hoc, hm]; rfl
    rw [if_neg Bool.false_ne_true, if_pos ho]
    obtain ⟨p', hp, hr⟩ := row_rf l hl4 (c :: t) p k h (by rw [List.length_cons]; omega)
    have ea : rowA (c :: t) = c :: rowA t := by show (if _ then _ else _) = _; rw [if_pos ho]
    have ez : rowZ (c :: t) = rowZ t := by show (if _ then _ else _) = _; rw [if_pos ho]
    rw [ea] at hr
    rw [ez] at hp
    rw [hr, Option.bind_some]
    show NxR l ((erasureref01_Parse.f k (bs (c :: rowA t))).bind _) _
    have hsz : (bs (c :: rowA t)).size ≤ 500 := by rw [bs_len, List.length_cons]; omega
    rw [parse_ref _ hsz k (by omega), Option.bind_some, show (bs (c :: rowA t)).data.toList = u8L (c :: rowA t) from rfl]
    unfold wordL
    by_cases g0 : (parseL (u8L (c :: rowA t))).2.2 = 0
    · rw [if_pos g0, if_pos g0]
      exact ⟨p', hp, rfl⟩
    rw [if_neg g0, if_neg g0]
    by_cases g5 : (parseL (u8L (c :: rowA t))).2.2 = 5
    · rw [if_pos g5, if_pos g5]
      refine ⟨by decide, ?_⟩
      rw [g5]
    rw [if_neg g5, if_neg g5]
    by_cases g127 : 127 < (c :: rowA t).length
    · have g : ((bs (c :: rowA t)).size : Int) > 127 := by rw [bs_len]; omega
      rw [if_pos g, if_pos g127]
      exact ⟨by decide, rfl⟩
    · have g : ¬ (((bs (c :: rowA t)).size : Int) > 127) := by rw [bs_len]; omega
      rw [if_neg g, if_neg g127]
      exact ⟨p', hp, rfl⟩
theorem next_r (l : List Int) (hl : l.length ≤ 500) (hok : okB l) (r : List Int) (p k : Nat) (h : At l p r) (hk : 20000 ≤ k) : NxR l (erasureref14_Next.f k l (p : Int)) (nextL r) := by
  obtain ⟨k, rfl⟩ : ∃ q, k = q + 1 := ⟨k - 1, by omega⟩
  have hn := h.len
  obtain ⟨q, hq, hs⟩ := (skip_r l (by omega) r p h).1 k (by omega)
  have hnq := hq.len
  unfold erasureref14_Next.f nextL
  rw [if_neg (show ¬ ((p : Int) < 0) from by omega), decide_eq_false (show ¬ ((p : Int) > (l.length : Int)) from by omega), erasureref14_Next.j0, if_neg Bool.false_ne_true]
  unfold erasureref14_skip.f
  rw [hs, Option.bind_some]
  cases hr : skipL false r with
  | nil =>
    rw [hr] at hq hnq
    rw [List.length_nil] at hnq
    rw [if_pos (show (q : Int) = (l.length : Int) from by omega)]
    exact ⟨q, hq, rfl⟩
  | cons c t =>
    rw [hr] at hq hnq
    have hw := skip_stop _ _ _ _ hr
    obtain ⟨h1, h2, h3⟩ := hq.cons
    have hn3 := h3.len
    rw [if_neg (show ¬ ((q : Int) = (l.length : Int)) from by omega), w1n q (by omega)]
    cases t with
    | nil =>
      rw [List.length_nil] at hn3
      rw [if_neg (show ¬ (((q + 1 : Nat) : Int) < (l.length : Int)) from by omega)]
      exact j1_r l hl hok c [] q k hq hw (by omega) false rfl
    | cons d t =>
      obtain ⟨h4, h5, h6⟩ := h3.cons
      rw [if_pos (show ((q + 1 : Nat) : Int) < (l.length : Int) from by omega), if_pos (show (0 : Int) ≤ ((q + 1 : Nat) : Int) from by omega), if_pos (show (0 : Int) ≤ (q : Int) from by omega), if_pos (show (q : Int) < (l.length : Int) from by omega), h2, h5]
      exact j1_r l hl hok c (d :: t) q k hq hw (by omega) (d == c) rfl
theorem next_rbad (l : List Int) (a : Int) (kk : Nat) (h : a < 0 ∨ (l.length : Int) < a) : erasureref14_Next.f (kk + 1) l a = some (0, 0, 0, ⟨#[]⟩, 0, 1) := by
  unfold erasureref14_Next.f
  by_cases h0 : a < 0
  · rw [if_pos h0, erasureref14_Next.j0, if_pos rfl]
  · rw [if_neg h0, decide_eq_true (show a > (l.length : Int) from by omega), erasureref14_Next.j0, if_pos rfl]
end Go.Proofs.YtnhgnejfagncpaaDoor.Plain
end
section
namespace Go.Proofs.YtnhgnejfagncpaaDoor.Pure
open Go Go.RowKit Go.Proofs.YtnhgnejfagncpaaDoorW.PrintWords Go.Proofs.YtnhgnejfagncpaaDoor.Plain Go.Proofs.YtnhgnejfagncpaaDoor.L Go.Proofs.YtnhgnejfagncpaaDoor.P
set_option linter.unusedVariables false
theorem j1_end (k : Nat) (l : List Int) (i at_ e kind M S : Int) (s : ByteArray) (h : e ≠ 0 ∨ kind = 0) : R.erasurelaw14_LexReads.j1 (k + 1) l l i at_ e false kind M S s = some true := by
  have fin : ((erasurelaw14_awake.f).bind fun t259 => (if t259 = true then (some ((strOfNums l).toList == (strOfNums l).toList)) else (some false))) = some true := by
    rw [show erasurelaw14_awake.f = some true from rfl, Option.bind_some, if_pos rfl, beq_iff_eq.2 rfl]
  rw [R.erasurelaw14_LexReads.j1, if_neg Bool.false_ne_true]
  by_cases he : e = 0
  · rw [if_pos he, if_pos (h.resolve_left (fun x => x he))]
    exact fin
  · rw [if_neg he]
    exact fin
theorem l0_same (k : Nat) (l : List Int) (a i : Int) (kind M S : Int) (s : ByteArray) (n e : Int) (hi : i ≤ wrap64 ((l.length : Int) + 1)) (h1 : lex_Next.f k l a = some (kind, M, S, s, n, e)) (h2 : erasureref14_Next.f k l a = some (kind, M, S, s, n, e)) :
    R.erasurelaw14_LexReads.l0 (k + 1) l a l i = R.erasurelaw14_LexReads.j1 k l l i n e false kind M S s := by
  have hno : ¬ ((!(kind == kind) || ((!(M == M) || (!(S == S))) || (!(s.toList == s.toList)))) = true) := by simp
  rw [R.erasurelaw14_LexReads.l0, if_pos hi, h1, Option.bind_some, h2, Option.bind_some]
  dsimp only
  rw [if_neg hno, if_pos rfl, bne_self_eq_false]
theorem reads_l0 (l : List Int) (hl : l.length ≤ 500) (hok : okB l) : ∀ (n : Nat) (r : List Int) (p i k : Nat), r.length ≤ n → At l p r → i + r.length ≤ l.length → 2 * r.length + 20003 ≤ k →
    R.erasurelaw14_LexReads.l0 k l (p : Int) l (i : Int) = some true := by
  intro n
  induction n with
  | zero =>
    intro r p i k hn h hi hk
    obtain ⟨k, rfl⟩ : ∃ q, k = q + 2 := ⟨k - 2, by omega⟩
    have a := next_p l (by omega) hok r p (k + 1) h (by omega)
    have b := next_r l hl hok r p (k + 1) h (by omega)
    have hw : (i : Int) ≤ wrap64 ((l.length : Int) + 1) := by rw [w1n l.length (by omega)]; omega
    cases ho : nextL r with
    | err e =>
      rw [ho] at a b
      rw [l0_same (k + 1) l p i _ _ _ _ _ _ hw a.2 b.2]
      exact j1_end k l i _ e _ _ _ _ (Or.inl a.1)
    | tok kind M S s r' =>
      rw [ho] at a b
      obtain ⟨p1, hp1, ha⟩ := a
      obtain ⟨p2, hp2, hb⟩ := b
      rw [← hp1.uniq hp2] at hb
      have hz : kind = 0 := Classical.byContradiction fun h0 => by
        have := (next_tok _ _ _ _ _ _ ho).2.1 h0
        omega
      rw [l0_same (k + 1) l p i _ _ _ _ _ _ hw ha hb]
      exact j1_end k l i _ _ _ _ _ _ (Or.inr hz)
  | succ n ih =>
    intro r p i k hn h hi hk
    obtain ⟨k, rfl⟩ : ∃ q, k = q + 2 := ⟨k - 2, by omega⟩
    have a := next_p l (by omega) hok r p (k + 1) h (by omega)
    have b := next_r l hl hok r p (k + 1) h (by omega)
    have hw : (i : Int) ≤ wrap64 ((l.length : Int) + 1) := by rw [w1n l.length (by omega)]; omega
    cases ho : nextL r with
    | err e =>
      rw [ho] at a b
      rw [l0_same (k + 1) l p i _ _ _ _ _ _ hw a.2 b.2]
      exact j1_end k l i _ e _ _ _ _ (Or.inl a.1)
    | tok kind M S s r' =>
      rw [ho] at a b
      obtain ⟨p1, hp1, ha⟩ := a
      obtain ⟨p2, hp2, hb⟩ := b
      rw [← hp1.uniq hp2] at hb
      rw [l0_same (k + 1) l p i _ _ _ _ _ _ hw ha hb]
      by_cases hz : kind = 0
      · exact j1_end k l i _ _ _ _ _ _ (Or.inr hz)
      · have hlt := (next_tok _ _ _ _ _ _ ho).2.1 hz
        rw [R.erasurelaw14_LexReads.j1, if_neg Bool.false_ne_true, if_pos rfl, if_neg hz, w1n i (by omega)]
        exact ih r' p1 (i + 1) k (by omega) hp1 (by omega) (by omega)
theorem LexReads_any (l : List Int) (a : Int) (hok : okB l) : ∃ k, R.erasurelaw14_LexReads.f k l a = some true := by
  refine ⟨30000, ?_⟩
  unfold R.erasurelaw14_LexReads.f
  by_cases h : (l.length : Int) > 500
  · rw [if_pos h]
  rw [if_neg h]
  have hown : erasureref04_Own.f l = some l := by
    unfold erasureref04_Own.f
    rw [if_pos (by show 0 + _ < _; omega)]
    rfl
  rw [hown, Option.bind_some]
  by_cases hr : a < 0 ∨ (l.length : Int) < a
  · have hw : (0 : Int) ≤ wrap64 ((l.length : Int) + 1) := by rw [w1n l.length (by omega)]; omega
    rw [l0_same 29999 l a 0 _ _ _ _ _ _ hw (next_bad l a 0 29999 hr) (next_rbad l a 29998 hr)]
    exact j1_end 29998 l 0 _ 1 _ _ _ _ (Or.inl (by decide))
  · obtain ⟨p, rfl⟩ := Int.eq_ofNat_of_zero_le (show 0 ≤ a from by omega)
    exact reads_l0 l (by omega) hok l.length (l.drop p) p 0 30000 (by rw [List.length_drop]; omega) ⟨by omega, rfl⟩ (by rw [List.length_drop]; omega) (by rw [List.length_drop]; omega)
theorem ok_of_wf {l : List Int} (h : ∀ x ∈ l, (Lit.int .u8 x).wf = true) : okB l := fun x hx => by
  have := h x hx
  simp only [Lit.wf, IntKind.min, IntKind.max, IntKind.signed, IntKind.bits, Bool.and_eq_true, decide_eq_true_eq] at this
  simp at this
  omega
theorem LexReads (l0 : List Int) (a1 : Int) : l0.length * 1 ≤ 140737488351232 → (∀ x ∈ l0, (Lit.int .u8 x).wf = true) → (Lit.int .i64 a1).wf = true → ∃ k, R.erasurelaw14_LexReads.f k l0 a1 = some true :=
  fun _ h _ => LexReads_any l0 a1 (ok_of_wf h)
end Go.Proofs.YtnhgnejfagncpaaDoor.Pure
end
section
namespace Go.Proofs.YtnhgnejfagncpaaDoor.Opened
open Go.ChangeShapes Go.WideShapes Go.RowKit Go.Deep
open Go.Proofs.YtnhgnejfagncpaaDoorW.PrintWords
set_option linter.unusedVariables false
section
variable {H : Type} {enc : TypeId × Value → H} {P : Program} {w : World} {base : Nat} {spare : Nat → Bool} {held : Bool}
def Rd {α : Type} (enc : TypeId × Value → H) (P : Program) (w : World) (base : Nat) (spare : Nat → Bool) (held : Bool) (n : Nat) (t : TypeId) (K : Kd α) (Wf : α → Prop) : Prop :=
  ∀ m, m ≤ n → ∀ cs x, DataW.trod enc P w base spare held m t cs = some x → ∃ p, K.K w p cs ∧ Wf p
theorem Rd.mono {α : Type} {n n' : Nat} {t : TypeId} {K : Kd α} {Wf : α → Prop} (h : Rd enc P w base spare held n t K Wf) (hn : n' ≤ n) : Rd enc P w base spare held n' t K Wf := fun m hm => h m (Nat.le_trans hm hn)
theorem Rd.zero {α : Type} {t : TypeId} {K : Kd α} {Wf : α → Prop} : Rd enc P w base spare held 0 t K Wf := fun m hm cs x h => by
  obtain rfl : m = 0 := by omega
  simp [DataW.trod] at h
theorem rd_int {n : Nat} {t : TypeId} {k : IntKind} (ht : P.underlying t = some (.int k)) : Rd enc P w base spare held n t (Kd.int k) (fun x => (Lit.int k x).wf = true) := fun m _ cs x h => by
  obtain ⟨v, rfl, _, hw⟩ := DataW.trod_int ht h
  exact ⟨v, rfl, hw⟩
theorem rd_slice {α : Type} {n : Nat} {t e e' : TypeId} {K : Kd α} {Wf : α → Prop} (ht : P.underlying t = some (.slice e)) (hc : P.cellsOf e = K.sz) (he : Rd enc P w base spare held n e K Wf) :
    Rd enc P w base spare held (n + 1) t (Kd.slice e' K) (fun l => ∀ x ∈ l, Wf x) := fun m hm cs x h => by
  rcases DataW.trod_slice ht h with ⟨rfl, _⟩ | ⟨a, len, cap, elems, rest, m', rfl, rfl, _, _, hl, hmx, hel, hget, _, _⟩
  · exact ⟨[], ⟨none, 0, rfl, Nat.le_refl _, rfl, Nat.zero_le _, fun hn => absurd hn (Nat.lt_irrefl _)⟩, fun x hx => absurd hx List.not_mem_nil⟩
  · have hall : ∀ i, i < len → ∃ p : α, ∃ c, c.length = K.sz ∧ K.K w p c ∧ Wf p ∧ ∀ j u, c[j]? = some u → w.cell? (a.add (i * K.sz + j)) = some u := fun i hi => by
      have hk := hget i hi
      rw [List.getElem?_eq_getElem (by omega)] at hk
      obtain ⟨c, h1, h2⟩ := Option.bind_eq_some_iff.1 hk
      obtain ⟨_, hcl, hcell⟩ := World.cells?_some h1
      obtain ⟨p, hp, hw⟩ := he m' (by omega) _ _ h2
      refine ⟨p, c, by rw [hcl, hc], hp, hw, fun j u hu => ?_⟩
      have hj : j < P.cellsOf e := by
        obtain ⟨hj, _⟩ := List.getElem?_eq_some_iff.1 hu
        omega
      have := hcell j hj
      rw [Go.Deep.add_add, hc] at this
      rw [this, hu]
    rcases Nat.eq_zero_or_pos len with h0 | h0
    · subst h0
      exact ⟨[], ⟨some a, cap, rfl, hl, rfl, Nat.zero_le _, fun hn => absurd hn (Nat.lt_irrefl _)⟩, fun x hx => absurd hx List.not_mem_nil⟩
    · obtain ⟨p0, _⟩ := hall 0 h0
      have : Inhabited α := ⟨p0⟩
      obtain ⟨R, hR⟩ := Go.Deep.choose_lt hall
      have hlen : ((List.range len).map R).length = len := by rw [List.length_map, List.length_range]
      refine ⟨(List.range len).map R, ⟨some a, cap, by rw [hlen], by rw [hlen]; exact hl, rfl, ?_, fun _ => ⟨a, rfl, fun j p hj => ?_⟩⟩, fun r hr => ?_⟩
      · rw [hlen]
        exact Nat.le_trans hl hmx
      · have hjl : j < len := by
          obtain ⟨hj1, _⟩ := List.getElem?_eq_some_iff.1 hj
          rw [hlen] at hj1
          exact hj1
        have hp : R j = p := by
          rw [List.getElem?_map, List.getElem?_range hjl] at hj
          simpa using hj
        obtain ⟨c, h1, h2, _, h4⟩ := hR j hjl
        rw [hp] at h2
        exact ⟨c, h1, h2, h4⟩
      · obtain ⟨i, hi, rfl⟩ := List.mem_map.1 hr
        obtain ⟨c, _, _, h3, _⟩ := hR i (List.mem_range.1 hi)
        exact h3
theorem rd_val {α : Type} {t : TypeId} {K : Kd α} {Wf : α → Prop} {v : Value} {d : DataW H} {ps : List MemPlace} (h : DataW.Trod enc P w base spare held t v d ps) (hr : ∀ n, Rd enc P w base spare held n t K Wf) : ∃ p, K.K w p v.cells.toList ∧ Wf p := by
  obtain ⟨fuel, hf⟩ := h
  exact hr fuel fuel (Nat.le_refl _) _ _ hf
theorem Rd.all {α : Type} {n : Nat} {t : TypeId} {K : Kd α} {Wf : α → Prop} (h : Rd enc P w base spare held (n + 1) t K Wf) : Rd enc P w base spare held n t K Wf := h.mono (Nat.le_succ _)
end
end Go.Proofs.YtnhgnejfagncpaaDoor.Opened
end
section
namespace Go.Proofs.YtnhgnejfagncpaaDoor.H
open Go.RowKit
theorem pow10_data : (Rows.laid_internal_strconv_uint64pow10 : DataW Unit) = Lib.tabData .u64 Lib.pow10Tab := by kernel_rfl
theorem tab_of_laid {W : World} (h : laidMetH Tryd.prog [("math/bits.deBruijn32tab", Rows.laid_math_bits_deBruijn32tab), ("math/bits.deBruijn64tab", Rows.laid_math_bits_deBruijn64tab), ("internal/strconv.uint64pow10", Rows.laid_internal_strconv_uint64pow10), ("unicode/utf8.acceptRanges", Rows.laid_unicode_utf8_acceptRanges), ("unicode/utf8.first", Rows.laid_unicode_utf8_first)] W) : Tab W := by
  have h1 := laidMetH.filter (fun x => x.1 == "internal/strconv.uint64pow10") h
  have h2 : laidMetH Tryd.prog [("internal/strconv.uint64pow10", Rows.laid_internal_strconv_uint64pow10)] W := h1
  rw [MakeChecks.laidMetH_plain _ _ _ (by kernel_rfl), pow10_data] at h2
  exact Lib.tabIs_of_head (g := 3) (t := 157) (by kernel_rfl) (by kernel_rfl) Tryd.underlying157 Tryd.underlying75 (by kernel_rfl) (by kernel_rfl) h2
end Go.Proofs.YtnhgnejfagncpaaDoor.H
end
