/- font.Codes, font.Bytes in plain words. -/
import Derived.Test.YtjhpcfpccnfniaaPlainCheck
import Derived.Test.YtjhpcfpccnfniaaH7
import Derived.Laws.BitsLemmas
import Derived.Test.YtjhpcfpccnfniaaA4
namespace Go.Proofs.Ytjhpcfpccnfniaa.Plain
open Go.RowKit Go.Proofs.Ytjhpcfpccnfniaa.A Go.Proofs.YtjhpcfpccnfniaaW.PrintWords Go.Proofs.YtjhpcfpccnfniaaW.PrintLast
theorem ints_l0 (a b : List Int) (hab : a.length = b.length) (ha : a.length ≤ 1000000000) : ∀ (d k i : Nat), i + d = a.length → d < k → erasureref05_Ints.l0 k a b (i : Int) = some (decide (a.drop i = b.drop i)) := by
  intro d
  induction d with
  | zero =>
    intro k i hi hk
    obtain ⟨k, rfl⟩ : ∃ m, k = m + 1 := ⟨k - 1, by omega⟩
    have h1 : ¬ ((i : Int) < (a.length : Int)) := by omega
    rw [erasureref05_Ints.l0, if_neg h1, List.drop_eq_nil_of_le (by omega), List.drop_eq_nil_of_le (by omega)]
    rfl
  | succ d ih =>
    intro k i hi hk
    obtain ⟨k, rfl⟩ : ∃ m, k = m + 1 := ⟨k - 1, by omega⟩
    have h1 : (i : Int) < (a.length : Int) := by omega
    have h0 : 0 ≤ (i : Int) := by omega
    have h2 : (i : Int) < (b.length : Int) := by omega
    have hw : wrap64 ((i : Int) + 1) = ((i + 1 : Nat) : Int) := by unfold wrap64; omega
    have hia : i < a.length := by omega
    have hib : i < b.length := by omega
    have ra : rd a (i : Int) = a[i] := by unfold rd; rw [Int.toNat_natCast, List.getD_eq_getElem?_getD, List.getElem?_eq_getElem hia]; rfl
    have rb : rd b (i : Int) = b[i] := by unfold rd; rw [Int.toNat_natCast, List.getD_eq_getElem?_getD, List.getElem?_eq_getElem hib]; rfl
    rw [erasureref05_Ints.l0, if_pos h1, if_pos h0, if_pos h2, ra, rb, hw, ih k (i + 1) (by omega) (by omega), List.drop_eq_getElem_cons hia, List.drop_eq_getElem_cons hib]
    by_cases he : a[i] = b[i]
    · rw [if_pos he, he]
      congr 1
      rw [Bool.eq_iff_iff, decide_eq_true_iff, decide_eq_true_iff]
      constructor
      · intro h
        rw [h]
      · intro h
        exact (List.cons.inj h).2
    · rw [if_neg he]
      congr 1
      rw [decide_eq_false (fun h => he (List.cons.inj h).1)]
theorem ints_f (a b : List Int) (ha : a.length ≤ 1000000000) (k : Nat) (hk : a.length < k) : erasureref05_Ints.f k a b = some (decide (a = b)) := by
  unfold erasureref05_Ints.f
  by_cases h : a.length = b.length
  · have h1 : (a.length : Int) = (b.length : Int) := by omega
    rw [if_pos h1]
    have := ints_l0 a b h ha a.length k 0 (by omega) hk
    rw [List.drop_zero, List.drop_zero] at this
    exact this
  · have h1 : ¬ ((a.length : Int) = (b.length : Int)) := by omega
    rw [if_neg h1]
    congr 1
    rw [decide_eq_false (fun e => h (by rw [e]))]
end Go.Proofs.Ytjhpcfpccnfniaa.Plain
namespace Go.Proofs.Ytjhpcfpccnfniaa.Plain
open Go.RowKit Go.Proofs.Ytjhpcfpccnfniaa.A Go.Proofs.YtjhpcfpccnfniaaW.PrintWords Go.Proofs.YtjhpcfpccnfniaaW.PrintLast
set_option linter.unusedVariables false
def Byte (l : List Int) : Prop := ∀ x ∈ l, 0 ≤ x ∧ x ≤ 255
def pairsL : List Int → List Int
  | x :: y :: t => (x * 256 + y) :: pairsL t
  | _ => []
def codesL (w : Bool) (l : List Int) : List Int := match w with
  | false => l
  | true => pairsL l
theorem codesL_cons (x y : Int) (t : List Int) : codesL true (x :: y :: t) = (x * 256 + y) :: codesL true t := rfl
theorem wraps_i64 (n : Int) (h₀ : 0 ≤ n) (h₁ : n < 2 ^ 63) : IntKind.i64.wrap n = n := by rw [IntKind.wrap_i64]; omega
theorem wrap_in (n : Int) (h0 : 0 ≤ n) (h1 : n < 9223372036854775808) : wrap64 n = n := by unfold wrap64; omega
theorem step_eq (n c : Int) (hn : 0 ≤ n) (hn1 : n ≤ 255) (hc : 0 ≤ c) (hc1 : c ≤ 255) : codeStep n c = n * 256 + c := by
  unfold codeStep
  rw [wrap_in (n * 256) (by omega) (by omega), wrap_in c hc (by omega)]
  exact bits_join .i64 63 (by decide) wraps_i64 8 (n * 256) c (by omega) (by omega) (by omega) hc (by omega) (by omega)
theorem chunks_codes (w : Bool) (l : List Int) (hb : Byte l) (he : w = true → l.length % 2 = 0) (n : Nat) (hn : 1 ≤ n) (hnw : n = if w = true then 2 else 1) : ∀ (f a : Nat), l.length < a + f → (w = true → a % 2 = 0) →
    (chunks n l.length hn f a).map (fun x => codeAt l x.1) = codesL w (l.drop a) := by
  intro f
  induction f with
  | zero =>
    intro a ha _
    rw [List.drop_eq_nil_of_le (by omega)]
    cases w <;> rfl
  | succ f ih =>
    intro a ha hpar
    rw [chunks]
    by_cases hlt : a < l.length
    · rw [dif_pos hlt, List.map_cons]
      cases w with
      | false =>
        obtain rfl : n = 1 := hnw
        rw [ih (a + 1) (by omega) (fun h => by cases h)]
        have hx := hb l[a] (List.getElem_mem hlt)
        have e1 : min 1 (l.length - a) = 1 := by omega
        have e2 : codeAt l (a, min 1 (l.length - a)) = l[a] := by
          unfold codeAt
          rw [e1, List.drop_eq_getElem_cons hlt, List.take_succ_cons, List.take_zero]
          show codeStep 0 l[a] = l[a]
          rw [step_eq 0 _ (by omega) (by omega) hx.1 hx.2]
          omega
        show codeAt l (a, min 1 (l.length - a)) :: _ = _
        rw [e2, List.drop_eq_getElem_cons hlt]
        rfl
      | true =>
        obtain rfl : n = 2 := hnw
        have hp := hpar rfl
        have hev := he rfl
        have hlt2 : a + 1 < l.length := by omega
        rw [ih (a + 2) (by omega) (fun _ => by omega)]
        have hx := hb l[a] (List.getElem_mem hlt)
        have hy := hb l[a + 1] (List.getElem_mem hlt2)
        have e1 : min 2 (l.length - a) = 2 := by omega
        have e2 : codeAt l (a, min 2 (l.length - a)) = l[a] * 256 + l[a + 1] := by
          unfold codeAt
          rw [e1, List.drop_eq_getElem_cons hlt, List.drop_eq_getElem_cons hlt2, List.take_succ_cons, List.take_succ_cons, List.take_zero]
          show codeStep (codeStep 0 l[a]) l[a + 1] = _
          rw [step_eq 0 _ (by omega) (by omega) hx.1 hx.2]
          rw [step_eq _ _ (by omega) (by omega) hy.1 hy.2]
          omega
        show codeAt l (a, min 2 (l.length - a)) :: _ = _
        rw [e2, List.drop_eq_getElem_cons hlt, List.drop_eq_getElem_cons hlt2]
        rfl
    · rw [dif_neg hlt, List.drop_eq_nil_of_le (by omega)]
      cases w <;> rfl
theorem codesOf_eq (w : Bool) (l : List Int) (hb : Byte l) (he : w = true → l.length % 2 = 0) : codesOf w l = codesL w l := by
  have := chunks_codes w l hb he (if w = true then 2 else 1) (by split <;> omega) rfl (l.length + 1) 0 (by omega) (fun _ => rfl)
  rw [List.drop_zero] at this
  exact this
theorem bytesOf_byte (s : ByteArray) : Byte (bytesOf s) := fun x hx => by
  obtain ⟨b, _, rfl⟩ := List.mem_map.1 hx
  have := b.toNat_lt
  omega
def B8 (l : List UInt8) : List Int := l.map fun b => (b.toNat : Int)
theorem codesL_len : ∀ (w : Bool) (l : List Int), (codesL w l).length ≤ l.length
  | false, l => Nat.le_refl _
  | true, [] => Nat.le_refl _
  | true, [_] => Nat.zero_le _
  | true, a :: b :: t => by
    have := codesL_len true t
    rw [codesL_cons, List.length_cons, List.length_cons, List.length_cons]
    omega
theorem inTop_iff (w : Bool) (c : Int) : inTop w c = true ↔ 0 ≤ c ∧ c ≤ top w := by
  unfold inTop top
  rw [Bool.and_eq_true, decide_eq_true_iff, decide_eq_true_iff]
theorem anyTop (w : Bool) (l : List Int) : (l.any fun c => !inTop w c) = false ↔ ∀ x ∈ l, 0 ≤ x ∧ x ≤ top w := by
  rw [List.any_eq_false]
  constructor
  · intro h x hx
    have := h x hx
    rw [Bool.not_eq_true', Bool.not_eq_false] at this
    exact (inTop_iff w x).1 this
  · intro h x hx
    rw [Bool.not_eq_true', Bool.not_eq_false]
    exact (inTop_iff w x).2 (h x hx)
open Classical in
theorem codes_f (w : Bool) (l : List S37) (o : Int) (s : ByteArray) (hl : l.length ≤ 1000000) (hs : s.size ≤ 1000000) (k : Nat) (hk : l.length < k) :
    font_Codes.f k w l o s = some (if Right w l o then (if w = true → s.size % 2 = 0 then (codesL w (bytesOf s), 0) else ([], 4)) else ([], 1)) := by
  unfold font_Codes.f
  rw [if_pos hs, check_f w l o hl k hk, Option.bind_some]
  by_cases hR : Right w l o
  · rw [if_pos hR, if_pos hR, if_pos rfl]
    by_cases he : w = true → s.size % 2 = 0
    · have h1 : s.size % (if w = true then 2 else 1) = 0 := by
        cases w with
        | true => exact he rfl
        | false => exact Nat.mod_one _
      rw [if_pos h1, if_pos he, codesOf_eq w _ (bytesOf_byte s) (fun h => by rw [bytesOf_length]; exact he h)]
    · obtain ⟨rfl, h2⟩ : w = true ∧ ¬ s.size % 2 = 0 := by
        constructor
        · exact Classical.byContradiction fun h => he fun h3 => absurd h3 h
        · exact fun h => he fun _ => h
      have h3 : ¬ (s.size % (if true = true then 2 else 1) = 0) := h2
      rw [if_neg h3, if_neg he]
  · rw [if_neg hR, if_neg hR, if_neg (by decide)]
open Classical in
theorem have_f (w : Bool) (l : List S37) (o : Int) (cs : List Int) (hl : l.length ≤ 1000000) (k : Nat) (hk : l.length < k) :
    font_have.f k w l o cs = some (decide (Right w l o ∧ ∀ x ∈ cs, 0 ≤ x ∧ x ≤ top w)) := by
  unfold font_have.f
  rw [check_f w l o hl k hk, Option.bind_some]
  congr 1
  by_cases hR : Right w l o
  · rw [if_pos hR, show ((0 : Int) == 0) = true from rfl, Bool.true_and]
    by_cases ha : ∀ x ∈ cs, 0 ≤ x ∧ x ≤ top w
    · rw [(anyTop w cs).2 ha, decide_eq_true ⟨hR, ha⟩]
      rfl
    · rw [decide_eq_false (fun e => ha e.2)]
      cases h : (cs.any fun c => !inTop w c) with
      | true => rfl
      | false => exact absurd ((anyTop w cs).1 h) ha
  · rw [if_neg hR, decide_eq_false (fun e => hR e.1)]
    rfl
open Classical in
theorem bytes_f (w : Bool) (l : List S37) (o : Int) (cs : List Int) (hl : l.length ≤ 1000000) (hc : cs.length ≤ 1000000) (k : Nat) (hk : l.length < k) :
    font_Bytes.f k w l o cs = some (if Right w l o ∧ ∀ x ∈ cs, 0 ≤ x ∧ x ≤ top w then (⟨(bytesU w cs).toArray⟩, 0) else (⟨#[]⟩, 1)) := by
  unfold font_Bytes.f
  rw [if_pos hc, have_f w l o cs hl k hk, Option.bind_some]
  by_cases h : Right w l o ∧ ∀ x ∈ cs, 0 ≤ x ∧ x ≤ top w
  · rw [if_pos (decide_eq_true h), if_pos h]
  · rw [if_neg (fun e => h (of_decide_eq_true e)), if_neg h]
end Go.Proofs.Ytjhpcfpccnfniaa.Plain
