/- font.Check in plain words. -/
import Derived.Test.YtjhpcfpccnfniaaA3
namespace Go.Proofs.Ytjhpcfpccnfniaa.Plain
open Go.RowKit Go.Proofs.Ytjhpcfpccnfniaa.A Go.Proofs.YtjhpcfpccnfniaaW.PrintWords Go.Proofs.YtjhpcfpccnfniaaW.PrintLast
set_option linter.unusedVariables false
def top (wide : Bool) : Int := if wide = true then 65535 else 255
theorem top_f (w : Bool) : font_top.f w = some (top w) := by
  unfold font_top.f top
  split <;> rfl
theorem within_f (a b c : Int) : font_within_int.f a b c = some (decide (a ≤ b) && decide (b ≤ c)) := by
  unfold font_within_int.f
  split
  · next h => rw [decide_eq_true h]; rfl
  · next h => rw [decide_eq_false h]; rfl
def meansB (s : ByteArray) : Bool := decide (s.size ≠ 0) && (decide (s.size ≤ 16) && decide (s.size % 2 = 0))
theorem toList_nil (s : ByteArray) : s.toList = [] ↔ s.size = 0 := by
  rw [ByteArray.toList_eq]
  constructor
  · intro h
    have := congrArg List.length h
    simpa using this
  · intro h
    apply List.eq_nil_of_length_eq_zero
    simpa using h
theorem means_f (s : ByteArray) : font_means.f s = some (meansB s) := by
  unfold font_means.f meansB
  by_cases h : s.size = 0
  · rw [if_pos ((toList_nil s).2 h), decide_eq_false (by omega)]
    rfl
  · rw [if_neg (fun e => h ((toList_nil s).1 e)), decide_eq_true h]
    by_cases h2 : s.size ≤ 16
    · rw [if_pos (by omega), decide_eq_true h2]
      congr 1
      rw [Bool.true_and, Bool.true_and, Bool.eq_iff_iff]
      simp
      omega
    · rw [if_neg (by omega), decide_eq_false h2]
      rfl
structure OkG (wide : Bool) (g : S37) : Prop where
  c0 : 0 ≤ g.f0
  c1 : g.f0 ≤ top wide
  w0 : 0 ≤ g.f1
  w1 : g.f1 ≤ 10000
  t : g.f2.size = 0 ∨ meansB g.f2 = true
def Good (wide : Bool) (l : List S37) (i : Nat) : Prop := ∀ j, i ≤ j → j < l.length → OkG wide (l.getD j z37) ∧ (0 < j → (l.getD (j - 1) z37).f0 < (l.getD j z37).f0)
def Fine (l : List S37) (o : Int) : Prop := 0 ≤ o ∧ o ≤ 10000 ∧ l.length ≤ 4096
abbrev Right (wide : Bool) (l : List S37) (o : Int) : Prop := Good wide l 0 ∧ Fine l o
open Classical in
theorem check_l0 (wide : Bool) (l : List S37) (o : Int) (hl : l.length ≤ 1000000) : ∀ (d k i : Nat), i + d = l.length → d < k →
    font_Check.l0 k l (l.length : Int) (i : Int) wide l o = some (if Good wide l i ∧ Fine l o then 0 else 1) := by
  intro d
  induction d with
  | zero =>
    intro k i hi hk
    obtain ⟨k, rfl⟩ : ∃ m, k = m + 1 := ⟨k - 1, by omega⟩
    have hg : Good wide l i := fun j h1 h2 => by omega
    have h1 : ¬ ((i : Int) < (l.length : Int)) := by omega
    rw [font_Check.l0, if_neg h1, within_f, Option.bind_some]
    by_cases h2 : 0 ≤ o ∧ o ≤ 10000
    · rw [decide_eq_true h2.1, decide_eq_true h2.2, Bool.and_true, if_pos rfl]
      by_cases h3 : l.length ≤ 4096
      · have h4 : ¬ ((l.length : Int) > 4096) := by omega
        rw [if_neg h4, if_pos ⟨hg, h2.1, h2.2, h3⟩]
      · have h4 : (l.length : Int) > 4096 := by omega
        rw [if_pos h4, if_neg (fun e => h3 e.2.2.2)]
    · have h3 : (decide (0 ≤ o) && decide (o ≤ 10000)) = false := by
        rw [Bool.and_eq_false_iff]
        by_cases h5 : 0 ≤ o
        · exact .inr (decide_eq_false fun h6 => h2 ⟨h5, h6⟩)
        · exact .inl (decide_eq_false h5)
      rw [h3, if_neg Bool.false_ne_true, if_neg (fun e => h2 ⟨e.2.1, e.2.2.1⟩)]
  | succ d ih =>
    intro k i hi hk
    obtain ⟨k, rfl⟩ : ∃ m, k = m + 1 := ⟨k - 1, by omega⟩
    have h1 : (i : Int) < (l.length : Int) := by omega
    have h0 : 0 ≤ (i : Int) := by omega
    have hw : wrap64 ((i : Int) + 1) = ((i + 1 : Nat) : Int) := by unfold wrap64; omega
    have hr : rd_T37 l (i : Int) = l.getD i z37 := by unfold rd_T37; rw [Int.toNat_natCast]
    have hih := ih k (i + 1) (by omega) (by omega)
    
    have hstep : Good wide l i ↔ (OkG wide (l.getD i z37) ∧ (0 < i → (l.getD (i - 1) z37).f0 < (l.getD i z37).f0)) ∧ Good wide l (i + 1) := by
      constructor
      · intro h
        exact ⟨h i (Nat.le_refl _) (by omega), fun j h1 h2 => h j (by omega) h2⟩
      · rintro ⟨h2, h3⟩ j hj hj2
        rcases Nat.eq_or_lt_of_le hj with rfl | hj3
        · exact h2
        · exact h3 j hj3 hj2
    rw [font_Check.l0, if_pos h1, if_pos h0, if_pos h1, top_f, Option.bind_some, within_f, Option.bind_some, hr, hw, hih]
    generalize hg : l.getD i z37 = g at hstep ⊢
    
    have tail : ∀ r : Option Int, ((font_within_int.f 0 g.f1 10000).bind fun t108 => (if t108 = true then (if (g.f2).toList = ([] : List UInt8) then r else ((font_means.f (g.f2)).bind fun t109 => (if t109 = true then r else (some 1)))) else (some 1))) =
        if (0 ≤ g.f1 ∧ g.f1 ≤ 10000) ∧ (g.f2.size = 0 ∨ meansB g.f2 = true) then r else some 1 := by
      intro r
      rw [within_f, Option.bind_some]
      by_cases h2 : 0 ≤ g.f1 ∧ g.f1 ≤ 10000
      · rw [decide_eq_true h2.1, decide_eq_true h2.2, Bool.and_true, if_pos rfl]
        by_cases h3 : g.f2.size = 0
        · rw [if_pos ((toList_nil _).2 h3), if_pos ⟨h2, .inl h3⟩]
        · rw [if_neg (fun e => h3 ((toList_nil _).1 e)), means_f, Option.bind_some]
          by_cases h4 : meansB g.f2 = true
          · rw [if_pos h4, if_pos ⟨h2, .inr h4⟩]
          · rw [if_neg h4, if_neg (fun e => e.2.elim h3 h4)]
      · have h3 : (decide (0 ≤ g.f1) && decide (g.f1 ≤ 10000)) = false := by
          rw [Bool.and_eq_false_iff]
          by_cases h5 : 0 ≤ g.f1
          · exact .inr (decide_eq_false fun h6 => h2 ⟨h5, h6⟩)
          · exact .inl (decide_eq_false h5)
        rw [h3, if_neg Bool.false_ne_true, if_neg (fun e => h2 e.1)]
    by_cases hc : 0 ≤ g.f0 ∧ g.f0 ≤ top wide
    · rw [decide_eq_true hc.1, decide_eq_true hc.2, Bool.and_true, if_pos rfl]
      by_cases hi0 : 0 < i
      · have hwm : wrap64 ((i : Int) - 1) = ((i - 1 : Nat) : Int) := by unfold wrap64; omega
        have hp : rd_T37 l ((i - 1 : Nat) : Int) = l.getD (i - 1) z37 := by unfold rd_T37; rw [Int.toNat_natCast]
        have a1 : (i : Int) > 0 := by omega
        have a2 : (0 : Int) ≤ ((i - 1 : Nat) : Int) := by omega
        have a3 : ((i - 1 : Nat) : Int) < (l.length : Int) := by omega
        rw [if_pos a1, hwm, if_pos a2, if_pos a3, hp, tail]
        by_cases hlt : (l.getD (i - 1) z37).f0 < g.f0
        · have a4 : ¬ ((l.getD (i - 1) z37).f0 ≥ g.f0) := by omega
          rw [if_neg a4]
          by_cases ht : (0 ≤ g.f1 ∧ g.f1 ≤ 10000) ∧ (g.f2.size = 0 ∨ meansB g.f2 = true)
          · rw [if_pos ht]
            congr 1
            have hok : OkG wide g := ⟨hc.1, hc.2, ht.1.1, ht.1.2, ht.2⟩
            by_cases hG : Good wide l (i + 1) ∧ Fine l o
            · rw [if_pos hG, if_pos ⟨hstep.2 ⟨⟨hok, fun _ => hlt⟩, hG.1⟩, hG.2⟩]
            · rw [if_neg hG, if_neg (fun e => hG ⟨(hstep.1 e.1).2, e.2⟩)]
          · rw [if_neg ht, if_neg (fun e => ht (by have := (hstep.1 e.1).1.1; exact ⟨⟨this.w0, this.w1⟩, this.t⟩))]
        · have a4 : (l.getD (i - 1) z37).f0 ≥ g.f0 := by omega
          rw [if_pos a4, if_neg (fun e => hlt ((hstep.1 e.1).1.2 hi0))]
      · have a1 : ¬ ((i : Int) > 0) := by omega
        rw [if_neg a1, tail]
        by_cases ht : (0 ≤ g.f1 ∧ g.f1 ≤ 10000) ∧ (g.f2.size = 0 ∨ meansB g.f2 = true)
        · rw [if_pos ht]
          congr 1
          have hok : OkG wide g := ⟨hc.1, hc.2, ht.1.1, ht.1.2, ht.2⟩
          by_cases hG : Good wide l (i + 1) ∧ Fine l o
          · rw [if_pos hG, if_pos ⟨hstep.2 ⟨⟨hok, fun h => absurd h hi0⟩, hG.1⟩, hG.2⟩]
          · rw [if_neg hG, if_neg (fun e => hG ⟨(hstep.1 e.1).2, e.2⟩)]
        · rw [if_neg ht, if_neg (fun e => ht (by have := (hstep.1 e.1).1.1; exact ⟨⟨this.w0, this.w1⟩, this.t⟩))]
    · have h3 : (decide (0 ≤ g.f0) && decide (g.f0 ≤ top wide)) = false := by
        rw [Bool.and_eq_false_iff]
        by_cases h5 : 0 ≤ g.f0
        · exact .inr (decide_eq_false fun h6 => hc ⟨h5, h6⟩)
        · exact .inl (decide_eq_false h5)
      rw [h3, if_neg Bool.false_ne_true, if_neg (fun e => hc ⟨(hstep.1 e.1).1.1.c0, (hstep.1 e.1).1.1.c1⟩)]
open Classical in
theorem check_f (wide : Bool) (l : List S37) (o : Int) (hl : l.length ≤ 1000000) (k : Nat) (hk : l.length < k) : font_Check.f k wide l o = some (if Right wide l o then 0 else 1) :=
  by
  have h := check_l0 wide l o hl l.length k 0 (by omega) hk
  unfold font_Check.f
  refine h.trans ?_
  congr 1
end Go.Proofs.Ytjhpcfpccnfniaa.Plain
