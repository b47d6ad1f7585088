/- erasureref05.Ints in plain words. -/
import Derived.Test.YtjhpcfpccnfniaaA4
namespace Go.Proofs.Ytjhpcfpccnfniaa.Plain
open Go.RowKit Go.Proofs.Ytjhpcfpccnfniaa.A Go.Proofs.YtjhpcfpccnfniaaW.PrintWords Go.Proofs.YtjhpcfpccnfniaaW.PrintLast

theorem ints_l0 (a b : List Int) (hab : a.length = b.length) (ha : a.length ≤ 1000000000) : ∀ (d k i : Nat), i + d = a.length → d < k → erasureref05_Ints.l0 k a b (i : Int) = some (decide (a.drop i = b.drop i)) := by
  intro d
  induction d with
  | zero =>
    intro k i hi hk
    obtain ⟨k, rfl⟩ : ∃ m, k = m + 1 := ⟨k - 1, by omega⟩
    have h1 : ¬ ((i : Int) < (a.length : Int)) := by omega
    rw [erasureref05_Ints.l0, if_neg h1, List.drop_eq_nil_of_le (by omega), List.drop_eq_nil_of_le (by omega)]
    rfl
  | succ d ih =>
    intro k i hi hk
    obtain ⟨k, rfl⟩ : ∃ m, k = m + 1 := ⟨k - 1, by omega⟩
    have h1 : (i : Int) < (a.length : Int) := by omega
    have h0 : 0 ≤ (i : Int) := by omega
    have h2 : (i : Int) < (b.length : Int) := by omega
    have hw : wrap64 ((i : Int) + 1) = ((i + 1 : Nat) : Int) := by unfold wrap64; omega
    have hia : i < a.length := by omega
    have hib : i < b.length := by omega
    have ra : rd a (i : Int) = a[i] := by unfold rd; rw [Int.toNat_natCast, List.getD_eq_getElem?_getD, List.getElem?_eq_getElem hia]; rfl
    have rb : rd b (i : Int) = b[i] := by unfold rd; rw [Int.toNat_natCast, List.getD_eq_getElem?_getD, List.getElem?_eq_getElem hib]; rfl
    rw [erasureref05_Ints.l0, if_pos h1, if_pos h0, if_pos h2, ra, rb, hw, ih k (i + 1) (by omega) (by omega), List.drop_eq_getElem_cons hia, List.drop_eq_getElem_cons hib]
    by_cases he : a[i] = b[i]
    · rw [if_pos he, he]
      congr 1
      rw [Bool.eq_iff_iff, decide_eq_true_iff, decide_eq_true_iff]
      constructor
      · intro h
        rw [h]
      · intro h
        exact (List.cons.inj h).2
    · rw [if_neg he]
      congr 1
      rw [decide_eq_false (fun h => he (List.cons.inj h).1)]
theorem ints_f (a b : List Int) (ha : a.length ≤ 1000000000) (k : Nat) (hk : a.length < k) : erasureref05_Ints.f k a b = some (decide (a = b)) := by
  unfold erasureref05_Ints.f
  by_cases h : a.length = b.length
  · have h1 : (a.length : Int) = (b.length : Int) := by omega
    rw [if_pos h1]
    have := ints_l0 a b h ha a.length k 0 (by omega) hk
    rw [List.drop_zero, List.drop_zero] at this
    exact this
  · have h1 : ¬ ((a.length : Int) = (b.length : Int)) := by omega
    rw [if_neg h1]
    congr 1
    rw [decide_eq_false (fun e => h (by rw [e]))]
end Go.Proofs.Ytjhpcfpccnfniaa.Plain
