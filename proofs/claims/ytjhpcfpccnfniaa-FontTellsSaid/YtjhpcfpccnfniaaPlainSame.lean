/- The references Same, Right, Find, insert, Cut in plain words. -/
import Derived.Test.YtjhpcfpccnfniaaPlainCheck
import Derived.Test.YtjhpcfpccnfniaaA5
import Derived.Test.YtjhpcfpccnfniaaA9
import Derived.Test.YtjhpcfpccnfniaaA11
import Derived.Test.YtjhpcfpccnfniaaC3
import Derived.Test.YtjhpcfpccnfniaaH11
namespace Go.Proofs.Ytjhpcfpccnfniaa.Plain
open Go.RowKit Go.Proofs.Ytjhpcfpccnfniaa.A Go.Proofs.Ytjhpcfpccnfniaa.C Go.Proofs.Ytjhpcfpccnfniaa.F Go.Proofs.YtjhpcfpccnfniaaW.PrintWords Go.Proofs.YtjhpcfpccnfniaaW.PrintLast
set_option linter.unusedVariables false
theorem inTop_top (w : Bool) (c : Int) : inTop w c = (decide (0 ≤ c) && decide (c ≤ top w)) := rfl
theorem code_f (w : Bool) (l : List S37) (o c : Int) : erasureref19_code.f w l o c = some (inTop w c) := by
  unfold erasureref19_code.f erasureref18_Top.f
  rw [inTop_top]
  by_cases h : 0 ≤ c
  · rw [if_pos (show c ≥ 0 from h), decide_eq_true h, Bool.true_and]
    unfold top
    cases w <;> rfl
  · rw [if_neg (show ¬ c ≥ 0 from h), decide_eq_false h, Bool.false_and]
theorem means18_f (s : ByteArray) : erasureref18_Means.f s = some (meansB s) := by
  unfold erasureref18_Means.f meansB
  by_cases h : s.size = 0
  · rw [if_neg (by omega), decide_eq_false (by omega), Bool.false_and]
  · rw [if_pos (by omega), decide_eq_true h, Bool.true_and]
    by_cases h2 : s.size ≤ 16
    · rw [if_pos (by omega), decide_eq_true h2, Bool.true_and]
      congr 1
      rw [Bool.eq_iff_iff]
      simp
      omega
    · rw [if_neg (by omega), decide_eq_false h2, Bool.false_and]
open Classical in
theorem right_l0 (wide : Bool) (l : List S37) (o : Int) (hl : l.length ≤ 1000000) : ∀ (d k i : Nat), i + d = l.length → d < k →
    erasureref19_Right.l0 k (i : Int) wide l o = some (decide (Good wide l i ∧ Fine l o)) := by
  intro d
  induction d with
  | zero =>
    intro k i hi hk
    obtain ⟨k, rfl⟩ : ∃ m, k = m + 1 := ⟨k - 1, by omega⟩
    have hg : Good wide l i := fun j h1 h2 => by omega
    have h1 : ¬ ((i : Int) < (l.length : Int)) := by omega
    rw [erasureref19_Right.l0, if_neg h1]
    by_cases h2 : 0 ≤ o
    · rw [if_pos (show o ≥ 0 from h2)]
      by_cases h3 : o ≤ 10000
      · rw [if_pos h3]
        congr 1
        rw [Bool.eq_iff_iff, decide_eq_true_iff, decide_eq_true_iff]
        exact ⟨fun h => ⟨hg, h2, h3, by omega⟩, fun h => by have := h.2.2.2; omega⟩
      · rw [if_neg h3, decide_eq_false (fun h => h3 h.2.2.1)]
    · rw [if_neg (show ¬ o ≥ 0 from h2), decide_eq_false (fun h => h2 h.2.1)]
  | succ d ih =>
    intro k i hi hk
    obtain ⟨k, rfl⟩ : ∃ m, k = m + 1 := ⟨k - 1, by omega⟩
    have h1 : (i : Int) < (l.length : Int) := by omega
    have h0 : 0 ≤ (i : Int) := by omega
    have hw : wrap64 ((i : Int) + 1) = ((i + 1 : Nat) : Int) := by unfold wrap64; omega
    have hr : rd_T37 l (i : Int) = l.getD i z37 := by unfold rd_T37; rw [Int.toNat_natCast]
    have hih := ih k (i + 1) (by omega) (by omega)
    have hstep : Good wide l i ↔ (OkG wide (l.getD i z37) ∧ (0 < i → (l.getD (i - 1) z37).f0 < (l.getD i z37).f0)) ∧ Good wide l (i + 1) := by
      constructor
      · intro h
        exact ⟨h i (Nat.le_refl _) (by omega), fun j h1 h2 => h j (by omega) h2⟩
      · rintro ⟨h2, h3⟩ j hj hj2
        rcases Nat.eq_or_lt_of_le hj with rfl | hj3
        · exact h2
        · exact h3 j hj3 hj2
    rw [erasureref19_Right.l0, if_pos h1, if_pos h0, hr, hw, hih, code_f, Option.bind_some, inTop_top]
    generalize hg : l.getD i z37 = g at hstep ⊢
    have tail : ∀ r : Option Bool, (if g.f1 < 0 then (some false) else (if g.f1 > 10000 then (some false) else (if (g.f2).toList = ([] : List UInt8) then r else ((erasureref18_Means.f (g.f2)).bind fun t133 => (if t133 = true then r else (some false)))))) =
        if (0 ≤ g.f1 ∧ g.f1 ≤ 10000) ∧ (g.f2.size = 0 ∨ meansB g.f2 = true) then r else some false := by
      intro r
      by_cases h2 : 0 ≤ g.f1 ∧ g.f1 ≤ 10000
      · rw [if_neg (by omega), if_neg (by omega)]
        by_cases h3 : g.f2.size = 0
        · rw [if_pos ((toList_nil _).2 h3), if_pos ⟨h2, .inl h3⟩]
        · rw [if_neg (fun e => h3 ((toList_nil _).1 e)), means18_f, Option.bind_some]
          by_cases h4 : meansB g.f2 = true
          · rw [if_pos h4, if_pos ⟨h2, .inr h4⟩]
          · rw [if_neg h4, if_neg (fun e => e.2.elim h3 h4)]
      · rw [if_neg (c := (0 ≤ g.f1 ∧ g.f1 ≤ 10000) ∧ (g.f2.size = 0 ∨ meansB g.f2 = true)) (fun e => h2 e.1)]
        by_cases h3 : g.f1 < 0
        · rw [if_pos h3]
        · rw [if_neg h3, if_pos (by omega)]
    by_cases hc : 0 ≤ g.f0 ∧ g.f0 ≤ top wide
    · rw [decide_eq_true hc.1, decide_eq_true hc.2, Bool.and_true, if_pos rfl]
      by_cases hi0 : 0 < i
      · have hwm : wrap64 ((i : Int) - 1) = ((i - 1 : Nat) : Int) := by unfold wrap64; omega
        have hp : rd_T37 l ((i - 1 : Nat) : Int) = l.getD (i - 1) z37 := by unfold rd_T37; rw [Int.toNat_natCast]
        have a1 : (i : Int) > 0 := by omega
        have a2 : (0 : Int) ≤ ((i - 1 : Nat) : Int) := by omega
        have a3 : ((i - 1 : Nat) : Int) < (l.length : Int) := by omega
        rw [if_pos a1, hwm, if_pos a2, if_pos a3, hp, tail]
        by_cases hlt : (l.getD (i - 1) z37).f0 < g.f0
        · have a4 : ¬ ((l.getD (i - 1) z37).f0 ≥ g.f0) := by omega
          rw [if_neg a4]
          by_cases ht : (0 ≤ g.f1 ∧ g.f1 ≤ 10000) ∧ (g.f2.size = 0 ∨ meansB g.f2 = true)
          · rw [if_pos ht]
            congr 1
            have hok : OkG wide g := ⟨hc.1, hc.2, ht.1.1, ht.1.2, ht.2⟩
            rw [Bool.eq_iff_iff, decide_eq_true_iff, decide_eq_true_iff]
            exact ⟨fun hG => ⟨hstep.2 ⟨⟨hok, fun _ => hlt⟩, hG.1⟩, hG.2⟩, fun e => ⟨(hstep.1 e.1).2, e.2⟩⟩
          · rw [if_neg ht, decide_eq_false (fun e => ht (by have := (hstep.1 e.1).1.1; exact ⟨⟨this.w0, this.w1⟩, this.t⟩))]
        · have a4 : (l.getD (i - 1) z37).f0 ≥ g.f0 := by omega
          rw [if_pos a4, decide_eq_false (fun e => hlt ((hstep.1 e.1).1.2 hi0))]
      · have a1 : ¬ ((i : Int) > 0) := by omega
        rw [if_neg a1, tail]
        by_cases ht : (0 ≤ g.f1 ∧ g.f1 ≤ 10000) ∧ (g.f2.size = 0 ∨ meansB g.f2 = true)
        · rw [if_pos ht]
          congr 1
          have hok : OkG wide g := ⟨hc.1, hc.2, ht.1.1, ht.1.2, ht.2⟩
          rw [Bool.eq_iff_iff, decide_eq_true_iff, decide_eq_true_iff]
          exact ⟨fun hG => ⟨hstep.2 ⟨⟨hok, fun h => absurd h hi0⟩, hG.1⟩, hG.2⟩, fun e => ⟨(hstep.1 e.1).2, e.2⟩⟩
        · rw [if_neg ht, decide_eq_false (fun e => ht (by have := (hstep.1 e.1).1.1; exact ⟨⟨this.w0, this.w1⟩, this.t⟩))]
    · have h3 : (decide (0 ≤ g.f0) && decide (g.f0 ≤ top wide)) = false := by
        rw [Bool.and_eq_false_iff]
        by_cases h5 : 0 ≤ g.f0
        · exact .inr (decide_eq_false fun h6 => hc ⟨h5, h6⟩)
        · exact .inl (decide_eq_false h5)
      rw [h3, if_neg Bool.false_ne_true, decide_eq_false (fun e => hc ⟨(hstep.1 e.1).1.1.c0, (hstep.1 e.1).1.1.c1⟩)]
open Classical in
theorem right_f (wide : Bool) (l : List S37) (o : Int) (hl : l.length ≤ 1000000) (k : Nat) (hk : l.length < k) : erasureref19_Right.f k wide l o = some (decide (Right wide l o)) := by
  have h := right_l0 wide l o hl l.length k 0 (by omega) hk
  unfold erasureref19_Right.f
  exact h
theorem rfind_l0 (w : Bool) (l : List S37) (o c : Int) (hl : l.length ≤ 1000000) : ∀ (d k i : Nat), i + d = l.length → d < k → ixOf (fun x : S37 => x.f0 == c) (l.drop i) i = ixOf (fun x : S37 => x.f0 == c) l 0 →
    erasureref19_Find.l0 k c (i : Int) w l o = some ((glyphOf l o c).f0, (glyphOf l o c).f1, (glyphOf l o c).f2) := by
  intro d
  induction d with
  | zero =>
    intro k i hi hk hx
    obtain ⟨k, rfl⟩ : ∃ m, k = m + 1 := ⟨k - 1, by omega⟩
    have h1 : ¬ ((i : Int) < (l.length : Int)) := by omega
    rw [ixOf_end _ l i (by omega)] at hx
    rw [erasureref19_Find.l0, if_neg h1]
    unfold glyphOf
    rw [← hx, if_neg (by omega)]
  | succ d ih =>
    intro k i hi hk hx
    obtain ⟨k, rfl⟩ : ∃ m, k = m + 1 := ⟨k - 1, by omega⟩
    have h1 : (i : Int) < (l.length : Int) := by omega
    have h0 : 0 ≤ (i : Int) := by omega
    have hw : wrap64 ((i : Int) + 1) = ((i + 1 : Nat) : Int) := by unfold wrap64; omega
    have hst := ixOf_step (fun x : S37 => x.f0 == c) l z37 i (by omega)
    rw [hx] at hst
    rw [erasureref19_Find.l0, if_pos h1, if_pos h0, hw]
    by_cases he : (rd_T37 l (i : Int)).f0 = c
    · have hb : (fun x : S37 => x.f0 == c) (l.getD i z37) = true := by
        have : rd_T37 l (i : Int) = l.getD i z37 := by unfold rd_T37; rw [Int.toNat_natCast]
        rw [← this]
        exact beq_iff_eq.2 he
      rw [if_pos hb] at hst
      rw [if_pos he]
      unfold glyphOf
      rw [hst, if_pos h0]
    · have hb : ¬ (fun x : S37 => x.f0 == c) (l.getD i z37) = true := by
        have : rd_T37 l (i : Int) = l.getD i z37 := by unfold rd_T37; rw [Int.toNat_natCast]
        rw [← this]
        exact fun e => he (beq_iff_eq.1 e)
      rw [if_neg hb] at hst
      rw [if_neg he]
      exact ih k (i + 1) (by omega) (by omega) hst.symm
theorem rfind_f (w : Bool) (l : List S37) (o c : Int) (hl : l.length ≤ 1000000) (k : Nat) (hk : l.length < k) : erasureref19_Find.f k w l o c = some ((glyphOf l o c).f0, (glyphOf l o c).f1, (glyphOf l o c).f2) := by
  unfold erasureref19_Find.f
  exact rfind_l0 w l o c hl l.length k 0 (by omega) hk (by rw [List.drop_zero])
theorem rd_int (l : List Int) (i : Nat) (h : i < l.length) : rd l (i : Int) = l[i] := by
  unfold rd
  rw [Int.toNat_natCast, List.getD_eq_getElem?_getD, List.getElem?_eq_getElem h]
  rfl
end Go.Proofs.Ytjhpcfpccnfniaa.Plain
