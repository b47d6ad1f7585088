/- The references Same, Right, Find, insert, Cut in plain words. -/
import Derived.Test.YtjhpcfpccnfniaaPlainCheck
import Derived.Test.YtjhpcfpccnfniaaA5
import Derived.Test.YtjhpcfpccnfniaaA9
import Derived.Test.YtjhpcfpccnfniaaA11
import Derived.Test.YtjhpcfpccnfniaaC3
import Derived.Test.YtjhpcfpccnfniaaH11
namespace Go.Proofs.Ytjhpcfpccnfniaa.Plain
open Go.RowKit Go.Proofs.Ytjhpcfpccnfniaa.A Go.Proofs.Ytjhpcfpccnfniaa.C Go.Proofs.Ytjhpcfpccnfniaa.F Go.Proofs.YtjhpcfpccnfniaaW.PrintWords Go.Proofs.YtjhpcfpccnfniaaW.PrintLast
set_option linter.unusedVariables false
theorem bytes_eq (s t : ByteArray) : (s.toList == t.toList) = true ↔ s = t := by
  rw [ByteArray.toList_eq, ByteArray.toList_eq, beq_iff_eq]
  constructor
  · intro h
    exact ByteArray.ext (Array.ext' h)
  · intro h
    rw [h]
theorem s37_eq (a b : S37) : (!(a.f0 == b.f0) || (!(a.f1 == b.f1) || (!(a.f2.toList == b.f2.toList)))) = true ↔ a ≠ b := by
  obtain ⟨a0, a1, a2⟩ := a
  obtain ⟨b0, b1, b2⟩ := b
  rw [ne_eq, S37.mk.injEq]
  by_cases h0 : a0 = b0
  · by_cases h1 : a1 = b1
    · by_cases h2 : a2 = b2
      · simp [h0, h1, h2]
      · have := mt (bytes_eq a2 b2).1 h2
        simp [h0, h1, h2]
        simpa using this
    · simp [h0, h1]
  · simp [h0]
theorem rdT (l : List S37) (i : Nat) (h : i < l.length) : rd_T37 l (i : Int) = l[i] := by
  unfold rd_T37
  rw [Int.toNat_natCast, List.getD_eq_getElem?_getD, List.getElem?_eq_getElem h]
  rfl
theorem same18_l0 (a b : List S37) (hab : a.length = b.length) (ha : a.length ≤ 1000000) : ∀ (d k i : Nat), i + d = a.length → d < k → erasureref18_Same.l0 k a b (i : Int) = some true ∧ a.drop i = b.drop i ∨ erasureref18_Same.l0 k a b (i : Int) = some false ∧ a.drop i ≠ b.drop i := by
  intro d
  induction d with
  | zero =>
    intro k i hi hk
    obtain ⟨k, rfl⟩ : ∃ m, k = m + 1 := ⟨k - 1, by omega⟩
    have h1 : ¬ ((i : Int) < (a.length : Int)) := by omega
    rw [erasureref18_Same.l0, if_neg h1, List.drop_eq_nil_of_le (by omega), List.drop_eq_nil_of_le (by omega)]
    exact .inl ⟨rfl, rfl⟩
  | succ d ih =>
    intro k i hi hk
    obtain ⟨k, rfl⟩ : ∃ m, k = m + 1 := ⟨k - 1, by omega⟩
    have h1 : (i : Int) < (a.length : Int) := by omega
    have h0 : 0 ≤ (i : Int) := by omega
    have h2 : (i : Int) < (b.length : Int) := by omega
    have hw : wrap64 ((i : Int) + 1) = ((i + 1 : Nat) : Int) := by unfold wrap64; omega
    have hia : i < a.length := by omega
    have hib : i < b.length := by omega
    rw [erasureref18_Same.l0, if_pos h1, if_pos h0, if_pos h2, rdT a i hia, rdT b i hib, hw, List.drop_eq_getElem_cons hia, List.drop_eq_getElem_cons hib]
    by_cases he : a[i] = b[i]
    · rw [if_neg (fun e => (s37_eq _ _).1 e he)]
      rcases ih k (i + 1) (by omega) (by omega) with ⟨e1, e2⟩ | ⟨e1, e2⟩
      · exact .inl ⟨e1, by rw [he, e2]⟩
      · exact .inr ⟨e1, fun e => e2 (List.cons.inj e).2⟩
    · rw [if_pos ((s37_eq _ _).2 he)]
      exact .inr ⟨rfl, fun e => he (List.cons.inj e).1⟩
open Classical in
theorem same18_f (a b : List S37) (ha : a.length ≤ 1000000) (k : Nat) (hk : a.length < k) : erasureref18_Same.f k a b = some (decide (a = b)) := by
  unfold erasureref18_Same.f
  by_cases h : a.length = b.length
  · have h1 : (a.length : Int) = (b.length : Int) := by omega
    rw [if_pos h1]
    rcases same18_l0 a b h ha a.length k 0 (by omega) hk with ⟨e1, e2⟩ | ⟨e1, e2⟩
    · rw [List.drop_zero, List.drop_zero] at e2
      rw [decide_eq_true e2]
      exact e1
    · rw [List.drop_zero, List.drop_zero] at e2
      rw [decide_eq_false e2]
      exact e1
  · have h1 : ¬ ((a.length : Int) = (b.length : Int)) := by omega
    rw [if_neg h1, decide_eq_false (fun e => h (by rw [e]))]
open Classical in
theorem same_refl (w : Bool) (l : List S37) (o : Int) (hl : l.length ≤ 1000000) (k : Nat) (hk : l.length < k) : erasureref19_Same.f k w l o w l o = some true := by
  unfold erasureref19_Same.f
  rw [if_pos (beq_self_eq_true w), if_pos rfl, same18_f l l hl k hk, Option.bind_some, decide_eq_true rfl]
theorem inTop_top (w : Bool) (c : Int) : inTop w c = (decide (0 ≤ c) && decide (c ≤ top w)) := rfl
theorem ixOf_any' (l : List S37) (c : Int) : decide (0 ≤ ixOf (fun x : S37 => x.f0 == c) l 0) = l.any (fun x => x.f0 == c) := ixOf_any _ l 0
theorem rd_int (l : List Int) (i : Nat) (h : i < l.length) : rd l (i : Int) = l[i] := by
  unfold rd
  rw [Int.toNat_natCast, List.getD_eq_getElem?_getD, List.getElem?_eq_getElem h]
  rfl
open Classical in
theorem cut_f (w : Bool) (l : List S37) (o : Int) (hl : l.length ≤ 1000) (keep : List Int) (hk0 : keep.length ≤ 1000) (k : Nat) (hk : 3000000 < k) :
    font_Cut.f k w l o keep = some (if Right w l o then (w, cutL w l o keep, 0, 0) else (false, [], 0, 1)) := by
  unfold font_Cut.f
  rw [if_pos (by omega), check_f w l o (by omega) k (by omega), Option.bind_some]
  by_cases hR : Right w l o
  · rw [if_pos hR, if_pos rfl, if_pos hR]
  · rw [if_neg hR, if_neg (by decide), if_neg hR]
end Go.Proofs.Ytjhpcfpccnfniaa.Plain
