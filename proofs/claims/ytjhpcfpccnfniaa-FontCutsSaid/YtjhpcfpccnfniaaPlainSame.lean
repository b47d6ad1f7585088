/- The references Same, Right, Find, insert, Cut in plain words. -/
import Derived.Test.YtjhpcfpccnfniaaPlainCheck
import Derived.Test.YtjhpcfpccnfniaaA5
import Derived.Test.YtjhpcfpccnfniaaA9
import Derived.Test.YtjhpcfpccnfniaaA11
import Derived.Test.YtjhpcfpccnfniaaC3
import Derived.Test.YtjhpcfpccnfniaaH11
namespace Go.Proofs.Ytjhpcfpccnfniaa.Plain
open Go.RowKit Go.Proofs.Ytjhpcfpccnfniaa.A Go.Proofs.Ytjhpcfpccnfniaa.C Go.Proofs.Ytjhpcfpccnfniaa.F Go.Proofs.YtjhpcfpccnfniaaW.PrintWords Go.Proofs.YtjhpcfpccnfniaaW.PrintLast
set_option linter.unusedVariables false
theorem bytes_eq (s t : ByteArray) : (s.toList == t.toList) = true ↔ s = t := by
  rw [ByteArray.toList_eq, ByteArray.toList_eq, beq_iff_eq]
  constructor
  · intro h
    exact ByteArray.ext (Array.ext' h)
  · intro h
    rw [h]
theorem s37_eq (a b : S37) : (!(a.f0 == b.f0) || (!(a.f1 == b.f1) || (!(a.f2.toList == b.f2.toList)))) = true ↔ a ≠ b := by
  obtain ⟨a0, a1, a2⟩ := a
  obtain ⟨b0, b1, b2⟩ := b
  rw [ne_eq, S37.mk.injEq]
  by_cases h0 : a0 = b0
  · by_cases h1 : a1 = b1
    · by_cases h2 : a2 = b2
      · simp [h0, h1, h2]
      · have := mt (bytes_eq a2 b2).1 h2
        simp [h0, h1, h2]
        simpa using this
    · simp [h0, h1]
  · simp [h0]
theorem rdT (l : List S37) (i : Nat) (h : i < l.length) : rd_T37 l (i : Int) = l[i] := by
  unfold rd_T37
  rw [Int.toNat_natCast, List.getD_eq_getElem?_getD, List.getElem?_eq_getElem h]
  rfl
theorem same18_l0 (a b : List S37) (hab : a.length = b.length) (ha : a.length ≤ 1000000) : ∀ (d k i : Nat), i + d = a.length → d < k → erasureref18_Same.l0 k a b (i : Int) = some true ∧ a.drop i = b.drop i ∨ erasureref18_Same.l0 k a b (i : Int) = some false ∧ a.drop i ≠ b.drop i := by
  intro d
  induction d with
  | zero =>
    intro k i hi hk
    obtain ⟨k, rfl⟩ : ∃ m, k = m + 1 := ⟨k - 1, by omega⟩
    have h1 : ¬ ((i : Int) < (a.length : Int)) := by omega
    rw [erasureref18_Same.l0, if_neg h1, List.drop_eq_nil_of_le (by omega), List.drop_eq_nil_of_le (by omega)]
    exact .inl ⟨rfl, rfl⟩
  | succ d ih =>
    intro k i hi hk
    obtain ⟨k, rfl⟩ : ∃ m, k = m + 1 := ⟨k - 1, by omega⟩
    have h1 : (i : Int) < (a.length : Int) := by omega
    have h0 : 0 ≤ (i : Int) := by omega
    have h2 : (i : Int) < (b.length : Int) := by omega
    have hw : wrap64 ((i : Int) + 1) = ((i + 1 : Nat) : Int) := by unfold wrap64; omega
    have hia : i < a.length := by omega
    have hib : i < b.length := by omega
    rw [erasureref18_Same.l0, if_pos h1, if_pos h0, if_pos h2, rdT a i hia, rdT b i hib, hw, List.drop_eq_getElem_cons hia, List.drop_eq_getElem_cons hib]
    by_cases he : a[i] = b[i]
    · rw [if_neg (fun e => (s37_eq _ _).1 e he)]
      rcases ih k (i + 1) (by omega) (by omega) with ⟨e1, e2⟩ | ⟨e1, e2⟩
      · exact .inl ⟨e1, by rw [he, e2]⟩
      · exact .inr ⟨e1, fun e => e2 (List.cons.inj e).2⟩
    · rw [if_pos ((s37_eq _ _).2 he)]
      exact .inr ⟨rfl, fun e => he (List.cons.inj e).1⟩
open Classical in
theorem same18_f (a b : List S37) (ha : a.length ≤ 1000000) (k : Nat) (hk : a.length < k) : erasureref18_Same.f k a b = some (decide (a = b)) := by
  unfold erasureref18_Same.f
  by_cases h : a.length = b.length
  · have h1 : (a.length : Int) = (b.length : Int) := by omega
    rw [if_pos h1]
    rcases same18_l0 a b h ha a.length k 0 (by omega) hk with ⟨e1, e2⟩ | ⟨e1, e2⟩
    · rw [List.drop_zero, List.drop_zero] at e2
      rw [decide_eq_true e2]
      exact e1
    · rw [List.drop_zero, List.drop_zero] at e2
      rw [decide_eq_false e2]
      exact e1
  · have h1 : ¬ ((a.length : Int) = (b.length : Int)) := by omega
    rw [if_neg h1, decide_eq_false (fun e => h (by rw [e]))]
open Classical in
theorem same_refl (w : Bool) (l : List S37) (o : Int) (hl : l.length ≤ 1000000) (k : Nat) (hk : l.length < k) : erasureref19_Same.f k w l o w l o = some true := by
  unfold erasureref19_Same.f
  rw [if_pos (beq_self_eq_true w), if_pos rfl, same18_f l l hl k hk, Option.bind_some, decide_eq_true rfl]
theorem inTop_top (w : Bool) (c : Int) : inTop w c = (decide (0 ≤ c) && decide (c ≤ top w)) := rfl
theorem code_f (w : Bool) (l : List S37) (o c : Int) : erasureref19_code.f w l o c = some (inTop w c) := by
  unfold erasureref19_code.f erasureref18_Top.f
  rw [inTop_top]
  by_cases h : 0 ≤ c
  · rw [if_pos (show c ≥ 0 from h), decide_eq_true h, Bool.true_and]
    unfold top
    cases w <;> rfl
  · rw [if_neg (show ¬ c ≥ 0 from h), decide_eq_false h, Bool.false_and]
theorem means18_f (s : ByteArray) : erasureref18_Means.f s = some (meansB s) := by
  unfold erasureref18_Means.f meansB
  by_cases h : s.size = 0
  · rw [if_neg (by omega), decide_eq_false (by omega), Bool.false_and]
  · rw [if_pos (by omega), decide_eq_true h, Bool.true_and]
    by_cases h2 : s.size ≤ 16
    · rw [if_pos (by omega), decide_eq_true h2, Bool.true_and]
      congr 1
      rw [Bool.eq_iff_iff]
      simp
      omega
    · rw [if_neg (by omega), decide_eq_false h2, Bool.false_and]
open Classical in
theorem right_l0 (wide : Bool) (l : List S37) (o : Int) (hl : l.length ≤ 1000000) : ∀ (d k i : Nat), i + d = l.length → d < k →
    erasureref19_Right.l0 k (i : Int) wide l o = some (decide (Good wide l i ∧ Fine l o)) := by
  intro d
  induction d with
  | zero =>
    intro k i hi hk
    obtain ⟨k, rfl⟩ : ∃ m, k = m + 1 := ⟨k - 1, by omega⟩
    have hg : Good wide l i := fun j h1 h2 => by omega
    have h1 : ¬ ((i : Int) < (l.length : Int)) := by omega
    rw [erasureref19_Right.l0, if_neg h1]
    by_cases h2 : 0 ≤ o
    · rw [if_pos (show o ≥ 0 from h2)]
      by_cases h3 : o ≤ 10000
      · rw [if_pos h3]
        congr 1
        rw [Bool.eq_iff_iff, decide_eq_true_iff, decide_eq_true_iff]
        exact ⟨fun h => ⟨hg, h2, h3, by omega⟩, fun h => by have := h.2.2.2; omega⟩
      · rw [if_neg h3, decide_eq_false (fun h => h3 h.2.2.1)]
    · rw [if_neg (show ¬ o ≥ 0 from h2), decide_eq_false (fun h => h2 h.2.1)]
  | succ d ih =>
    intro k i hi hk
    obtain ⟨k, rfl⟩ : ∃ m, k = m + 1 := ⟨k - 1, by omega⟩
    have h1 : (i : Int) < (l.length : Int) := by omega
    have h0 : 0 ≤ (i : Int) := by omega
    have hw : wrap64 ((i : Int) + 1) = ((i + 1 : Nat) : Int) := by unfold wrap64; omega
    have hr : rd_T37 l (i : Int) = l.getD i z37 := by unfold rd_T37; rw [Int.toNat_natCast]
    have hih := ih k (i + 1) (by omega) (by omega)
    have hstep : Good wide l i ↔ (OkG wide (l.getD i z37) ∧ (0 < i → (l.getD (i - 1) z37).f0 < (l.getD i z37).f0)) ∧ Good wide l (i + 1) := by
      constructor
      · intro h
        exact ⟨h i (Nat.le_refl _) (by omega), fun j h1 h2 => h j (by omega) h2⟩
      · rintro ⟨h2, h3⟩ j hj hj2
        rcases Nat.eq_or_lt_of_le hj with rfl | hj3
        · exact h2
        · exact h3 j hj3 hj2
    rw [erasureref19_Right.l0, if_pos h1, if_pos h0, hr, hw, hih, code_f, Option.bind_some, inTop_top]
    generalize hg : l.getD i z37 = g at hstep ⊢
    have tail : ∀ r : Option Bool, (if g.f1 < 0 then (some false) else (if g.f1 > 10000 then (some false) else (if (g.f2).toList = ([] : List UInt8) then r else ((erasureref18_Means.f (g.f2)).bind fun t133 => (if t133 = true then r else (some false)))))) =
        if (0 ≤ g.f1 ∧ g.f1 ≤ 10000) ∧ (g.f2.size = 0 ∨ meansB g.f2 = true) then r else some false := by
      intro r
      by_cases h2 : 0 ≤ g.f1 ∧ g.f1 ≤ 10000
      · rw [if_neg (by omega), if_neg (by omega)]
        by_cases h3 : g.f2.size = 0
        · rw [if_pos ((toList_nil _).2 h3), if_pos ⟨h2, .inl h3⟩]
        · rw [if_neg (fun e => h3 ((toList_nil _).1 e)), means18_f, Option.bind_some]
          by_cases h4 : meansB g.f2 = true
          · rw [if_pos h4, if_pos ⟨h2, .inr h4⟩]
          · rw [if_neg h4, if_neg (fun e => e.2.elim h3 h4)]
      · rw [if_neg (c := (0 ≤ g.f1 ∧ g.f1 ≤ 10000) ∧ (g.f2.size = 0 ∨ meansB g.f2 = true)) (fun e => h2 e.1)]
        by_cases h3 : g.f1 < 0
        · rw [if_pos h3]
        · rw [if_neg h3, if_pos (by omega)]
    by_cases hc : 0 ≤ g.f0 ∧ g.f0 ≤ top wide
    · rw [decide_eq_true hc.1, decide_eq_true hc.2, Bool.and_true, if_pos rfl]
      by_cases hi0 : 0 < i
      · have hwm : wrap64 ((i : Int) - 1) = ((i - 1 : Nat) : Int) := by unfold wrap64; omega
        have hp : rd_T37 l ((i - 1 : Nat) : Int) = l.getD (i - 1) z37 := by unfold rd_T37; rw [Int.toNat_natCast]
        have a1 : (i : Int) > 0 := by omega
        have a2 : (0 : Int) ≤ ((i - 1 : Nat) : Int) := by omega
        have a3 : ((i - 1 : Nat) : Int) < (l.length : Int) := by omega
        rw [if_pos a1, hwm, if_pos a2, if_pos a3, hp, tail]
        by_cases hlt : (l.getD (i - 1) z37).f0 < g.f0
        · have a4 : ¬ ((l.getD (i - 1) z37).f0 ≥ g.f0) := by omega
          rw [if_neg a4]
          by_cases ht : (0 ≤ g.f1 ∧ g.f1 ≤ 10000) ∧ (g.f2.size = 0 ∨ meansB g.f2 = true)
          · rw [if_pos ht]
            congr 1
            have hok : OkG wide g := ⟨hc.1, hc.2, ht.1.1, ht.1.2, ht.2⟩
            rw [Bool.eq_iff_iff, decide_eq_true_iff, decide_eq_true_iff]
            exact ⟨fun hG => ⟨hstep.2 ⟨⟨hok, fun _ => hlt⟩, hG.1⟩, hG.2⟩, fun e => ⟨(hstep.1 e.1).2, e.2⟩⟩
          · rw [if_neg ht, decide_eq_false (fun e => ht (by have := (hstep.1 e.1).1.1; exact ⟨⟨this.w0, this.w1⟩, this.t⟩))]
        · have a4 : (l.getD (i - 1) z37).f0 ≥ g.f0 := by omega
          rw [if_pos a4, decide_eq_false (fun e => hlt ((hstep.1 e.1).1.2 hi0))]
      · have a1 : ¬ ((i : Int) > 0) := by omega
        rw [if_neg a1, tail]
        by_cases ht : (0 ≤ g.f1 ∧ g.f1 ≤ 10000) ∧ (g.f2.size = 0 ∨ meansB g.f2 = true)
        · rw [if_pos ht]
          congr 1
          have hok : OkG wide g := ⟨hc.1, hc.2, ht.1.1, ht.1.2, ht.2⟩
          rw [Bool.eq_iff_iff, decide_eq_true_iff, decide_eq_true_iff]
          exact ⟨fun hG => ⟨hstep.2 ⟨⟨hok, fun h => absurd h hi0⟩, hG.1⟩, hG.2⟩, fun e => ⟨(hstep.1 e.1).2, e.2⟩⟩
        · rw [if_neg ht, decide_eq_false (fun e => ht (by have := (hstep.1 e.1).1.1; exact ⟨⟨this.w0, this.w1⟩, this.t⟩))]
    · have h3 : (decide (0 ≤ g.f0) && decide (g.f0 ≤ top wide)) = false := by
        rw [Bool.and_eq_false_iff]
        by_cases h5 : 0 ≤ g.f0
        · exact .inr (decide_eq_false fun h6 => hc ⟨h5, h6⟩)
        · exact .inl (decide_eq_false h5)
      rw [h3, if_neg Bool.false_ne_true, decide_eq_false (fun e => hc ⟨(hstep.1 e.1).1.1.c0, (hstep.1 e.1).1.1.c1⟩)]
open Classical in
theorem right_f (wide : Bool) (l : List S37) (o : Int) (hl : l.length ≤ 1000000) (k : Nat) (hk : l.length < k) : erasureref19_Right.f k wide l o = some (decide (Right wide l o)) := by
  have h := right_l0 wide l o hl l.length k 0 (by omega) hk
  unfold erasureref19_Right.f
  exact h
theorem rfind_l0 (w : Bool) (l : List S37) (o c : Int) (hl : l.length ≤ 1000000) : ∀ (d k i : Nat), i + d = l.length → d < k → ixOf (fun x : S37 => x.f0 == c) (l.drop i) i = ixOf (fun x : S37 => x.f0 == c) l 0 →
    erasureref19_Find.l0 k c (i : Int) w l o = some ((glyphOf l o c).f0, (glyphOf l o c).f1, (glyphOf l o c).f2) := by
  intro d
  induction d with
  | zero =>
    intro k i hi hk hx
    obtain ⟨k, rfl⟩ : ∃ m, k = m + 1 := ⟨k - 1, by omega⟩
    have h1 : ¬ ((i : Int) < (l.length : Int)) := by omega
    rw [ixOf_end _ l i (by omega)] at hx
    rw [erasureref19_Find.l0, if_neg h1]
    unfold glyphOf
    rw [← hx, if_neg (by omega)]
  | succ d ih =>
    intro k i hi hk hx
    obtain ⟨k, rfl⟩ : ∃ m, k = m + 1 := ⟨k - 1, by omega⟩
    have h1 : (i : Int) < (l.length : Int) := by omega
    have h0 : 0 ≤ (i : Int) := by omega
    have hw : wrap64 ((i : Int) + 1) = ((i + 1 : Nat) : Int) := by unfold wrap64; omega
    have hst := ixOf_step (fun x : S37 => x.f0 == c) l z37 i (by omega)
    rw [hx] at hst
    rw [erasureref19_Find.l0, if_pos h1, if_pos h0, hw]
    by_cases he : (rd_T37 l (i : Int)).f0 = c
    · have hb : (fun x : S37 => x.f0 == c) (l.getD i z37) = true := by
        have : rd_T37 l (i : Int) = l.getD i z37 := by unfold rd_T37; rw [Int.toNat_natCast]
        rw [← this]
        exact beq_iff_eq.2 he
      rw [if_pos hb] at hst
      rw [if_pos he]
      unfold glyphOf
      rw [hst, if_pos h0]
    · have hb : ¬ (fun x : S37 => x.f0 == c) (l.getD i z37) = true := by
        have : rd_T37 l (i : Int) = l.getD i z37 := by unfold rd_T37; rw [Int.toNat_natCast]
        rw [← this]
        exact fun e => he (beq_iff_eq.1 e)
      rw [if_neg hb] at hst
      rw [if_neg he]
      exact ih k (i + 1) (by omega) (by omega) hst.symm
theorem rfind_f (w : Bool) (l : List S37) (o c : Int) (hl : l.length ≤ 1000000) (k : Nat) (hk : l.length < k) : erasureref19_Find.f k w l o c = some ((glyphOf l o c).f0, (glyphOf l o c).f1, (glyphOf l o c).f2) := by
  unfold erasureref19_Find.f
  exact rfind_l0 w l o c hl l.length k 0 (by omega) hk (by rw [List.drop_zero])
theorem takeWhile_cons_lt (g : S37) (x : S37) (t : List S37) (h : x.f0 < g.f0) : insG (x :: t) g = x :: insG t g := by
  unfold insG
  rw [List.takeWhile_cons, if_pos (decide_eq_true h), List.dropWhile_cons, if_pos (decide_eq_true h)]
  rfl
theorem insG_cons_ge (g : S37) (x : S37) (t : List S37) (h : ¬ x.f0 < g.f0) : insG (x :: t) g = g :: x :: t := by
  unfold insG
  rw [List.takeWhile_cons, if_neg (by simpa using h), List.dropWhile_cons, if_neg (by simpa using h)]
  rfl
theorem insert_l0 (l : List S37) (g : S37) (hl : l.length ≤ 1000000) : ∀ (d k i : Nat) (out : List S37) (done : Bool), i + d = l.length → d < k → out.length ≤ 2 * i →
    erasureref19_insert.l0 k l out done (i : Int) g.f0 g.f1 g.f2 = some (if (l.drop i).any (fun x => x.f0 == g.f0) = true then ([], false) else (if done = true then out ++ l.drop i else out ++ insG (l.drop i) g, true)) := by
  intro d
  induction d with
  | zero =>
    intro k i out done hi hk ho
    obtain ⟨k, rfl⟩ : ∃ m, k = m + 1 := ⟨k - 1, by omega⟩
    have h1 : ¬ ((i : Int) < (l.length : Int)) := by omega
    rw [erasureref19_insert.l0, if_neg h1, List.drop_eq_nil_of_le (by omega), List.any_nil, if_neg Bool.false_ne_true]
    cases done with
    | true => rw [if_pos rfl, if_pos rfl, List.append_nil]
    | false =>
      rw [if_neg Bool.false_ne_true, if_neg Bool.false_ne_true, if_pos (by omega)]
      rfl
  | succ d ih =>
    intro k i out done hi hk ho
    obtain ⟨k, rfl⟩ : ∃ m, k = m + 1 := ⟨k - 1, by omega⟩
    have h1 : (i : Int) < (l.length : Int) := by omega
    have h0 : 0 ≤ (i : Int) := by omega
    have hw : wrap64 ((i : Int) + 1) = ((i + 1 : Nat) : Int) := by unfold wrap64; omega
    have hil : i < l.length := by omega
    rw [erasureref19_insert.l0, if_pos h1, if_pos h0, hw, rdT l i hil, List.drop_eq_getElem_cons hil]
    have hih := fun out done => ih k (i + 1) out done (by omega) (by omega)
    generalize l[i] = x
    generalize l.drop (i + 1) = t at hih ⊢
    have hx : (⟨x.f0, x.f1, x.f2⟩ : S37) = x := rfl
    have hgx : (⟨g.f0, g.f1, g.f2⟩ : S37) = g := rfl
    rw [hx, hgx, List.any_cons]
    by_cases he : x.f0 = g.f0
    · rw [if_pos he, beq_iff_eq.2 he, Bool.true_or, if_pos rfl]
    · rw [if_neg he, beq_eq_false_iff_ne.2 he, Bool.false_or]
      by_cases hgt : x.f0 > g.f0
      · rw [if_pos hgt]
        cases done with
        | true =>
          rw [if_pos rfl, if_pos (by omega), hih _ true (by simp; omega), if_pos rfl, if_pos rfl, List.append_assoc]
          rfl
        | false =>
          rw [if_neg Bool.false_ne_true, if_pos (by omega), Option.bind_some, if_pos (by simp; omega), hih _ true (by simp; omega), if_pos rfl, if_neg Bool.false_ne_true, insG_cons_ge g x t (by omega)]
          simp
      · rw [if_neg hgt, if_pos (by omega), hih _ done (by simp; omega)]
        cases done with
        | true => rw [if_pos rfl, if_pos rfl, List.append_assoc]; rfl
        | false => rw [if_neg Bool.false_ne_true, if_neg Bool.false_ne_true, takeWhile_cons_lt g x t (by omega), List.append_assoc]; rfl
theorem insert_f (l : List S37) (g : S37) (hl : l.length ≤ 1000000) (k : Nat) (hk : l.length < k) :
    erasureref19_insert.f k l g.f0 g.f1 g.f2 = some (if l.any (fun x => x.f0 == g.f0) = true then ([], false) else (insG l g, true)) := by
  have h := insert_l0 l g hl l.length k 0 [] false (by omega) hk (by simp)
  unfold erasureref19_insert.f
  refine h.trans ?_
  rw [List.drop_zero, if_neg Bool.false_ne_true]
  rfl
theorem ixOf_any' (l : List S37) (c : Int) : decide (0 ≤ ixOf (fun x : S37 => x.f0 == c) l 0) = l.any (fun x => x.f0 == c) := ixOf_any _ l 0
theorem rcut_l1 (w : Bool) (l : List S37) (o : Int) (hl : l.length ≤ 1000000) (keep : List Int) (m : Nat) (r1 : Bool) (out : List S37) (r3 : Int) (g : S37) (hout : out.length ≤ 1000000) (K : Nat) (hK : out.length < K) :
    ∀ (d k i : Nat) (has : Bool), i + d = l.length → d + K < k →
      ∃ k', k = k' + 1 + d ∧ erasureref19_Cut.l1 k keep (m : Int) has (i : Int) w l o r1 out r3 g.f0 g.f1 g.f2 = erasureref19_Cut.l0 k' keep (wrap64 ((m : Int) + 1)) w l o r1 (if (has || (l.drop i).any (fun x => x.f0 == g.f0)) = true ∧ out.any (fun x => x.f0 == g.f0) = false then insG out g else out) r3 := by
  intro d
  induction d with
  | zero =>
    intro k i has hi hk
    obtain ⟨k, rfl⟩ : ∃ m, k = m + 1 := ⟨k - 1, by omega⟩
    have h1 : ¬ ((i : Int) < (l.length : Int)) := by omega
    refine ⟨k, by omega, ?_⟩
    rw [erasureref19_Cut.l1, if_neg h1, insert_f out g hout k (by omega), Option.bind_some, List.drop_eq_nil_of_le (by omega), List.any_nil, Bool.or_false]
    cases hb : out.any (fun x => x.f0 == g.f0) with
    | true =>
      rw [if_pos rfl]
      cases has <;> simp
    | false =>
      rw [if_neg Bool.false_ne_true]
      cases has <;> simp
  | succ d ih =>
    intro k i has hi hk
    obtain ⟨k, rfl⟩ : ∃ m, k = m + 1 := ⟨k - 1, by omega⟩
    have h1 : (i : Int) < (l.length : Int) := by omega
    have h0 : 0 ≤ (i : Int) := by omega
    have hw : wrap64 ((i : Int) + 1) = ((i + 1 : Nat) : Int) := by unfold wrap64; omega
    have hil : i < l.length := by omega
    rw [erasureref19_Cut.l1, if_pos h1, hw, if_pos h0, rdT l i hil, List.drop_eq_getElem_cons hil, List.any_cons]
    cases has with
    | true =>
      rw [if_pos rfl]
      obtain ⟨k', e, h⟩ := ih k (i + 1) true (by omega) (by omega)
      refine ⟨k', by omega, ?_⟩
      rw [h, Bool.true_or, Bool.true_or]
    | false =>
      rw [if_neg Bool.false_ne_true]
      obtain ⟨k', e, h⟩ := ih k (i + 1) (l[i].f0 == g.f0) (by omega) (by omega)
      refine ⟨k', by omega, ?_⟩
      rw [h, Bool.false_or]
theorem rcut_step (w : Bool) (l : List S37) (o : Int) (ho : 0 ≤ o) (out : List S37) (c : Int) (hz : inTop w c = true) :
    (if (decide (o > 0) || l.any (fun x => x.f0 == (glyphOf l o c).f0)) = true ∧ out.any (fun x => x.f0 == (glyphOf l o c).f0) = false then insG out (glyphOf l o c) else out) = cutStep w l o out c := by
  rw [glyphOf_code]
  unfold cutStep tells
  rw [hz, Bool.true_and, ixOf_any' l c]
  have e : (decide (o > 0) || l.any (fun x => x.f0 == c)) = (l.any (fun x => x.f0 == c) || decide (o ≠ 0)) := by
    rw [Bool.or_comm]
    congr 1
    rw [Bool.eq_iff_iff, decide_eq_true_iff, decide_eq_true_iff]
    omega
  rw [e]
  generalize (l.any (fun x => x.f0 == c) || decide (o ≠ 0)) = b
  cases b with
  | false => rw [if_neg (by simp), if_neg Bool.false_ne_true]
  | true =>
    rw [if_pos rfl]
    cases hb : out.any (fun x => x.f0 == c) with
    | true => rw [if_neg (by simp), if_pos rfl]
    | false => rw [if_pos ⟨rfl, rfl⟩, if_neg Bool.false_ne_true]
theorem rd_int (l : List Int) (i : Nat) (h : i < l.length) : rd l (i : Int) = l[i] := by
  unfold rd
  rw [Int.toNat_natCast, List.getD_eq_getElem?_getD, List.getElem?_eq_getElem h]
  rfl
theorem rcut_l0 (w : Bool) (l : List S37) (o : Int) (ho : 0 ≤ o) (hl : l.length ≤ 1000000) (keep : List Int) (hk0 : keep.length ≤ 1000000) : ∀ (d i k : Nat) (out : List S37), i + d = keep.length → out.length ≤ i → d * (l.length + keep.length + 10) + l.length < k →
    erasureref19_Cut.l0 k keep (i : Int) w l o w out 0 = some (w, (keep.drop i).foldl (cutStep w l o) out, 0, 0) := by
  intro d
  induction d with
  | zero =>
    intro i k out hi ho' hk
    obtain ⟨k, rfl⟩ : ∃ m, k = m + 1 := ⟨k - 1, by omega⟩
    have h1 : ¬ ((i : Int) < (keep.length : Int)) := by omega
    rw [erasureref19_Cut.l0, if_neg h1, List.drop_eq_nil_of_le (by omega)]
    rfl
  | succ d ih =>
    intro i k out hi ho' hk
    rw [Nat.add_mul] at hk
    obtain ⟨k, rfl⟩ : ∃ m, k = m + 1 := ⟨k - 1, by omega⟩
    have h1 : (i : Int) < (keep.length : Int) := by omega
    have h0 : 0 ≤ (i : Int) := by omega
    have hw : wrap64 ((i : Int) + 1) = ((i + 1 : Nat) : Int) := by unfold wrap64; omega
    have hil : i < keep.length := by omega
    rw [erasureref19_Cut.l0, if_pos h1, if_pos h0, rd_int keep i hil, code_f, Option.bind_some, List.drop_eq_getElem_cons hil, List.foldl_cons]
    generalize keep[i] = c
    cases hz : inTop w c with
    | false =>
      rw [if_neg Bool.false_ne_true, hw, cutStep_not w l o out c (by unfold tells; rw [hz, Bool.false_and])]
      exact ih (i + 1) k out (by omega) (by omega) (by omega)
    | true =>
      rw [if_pos rfl, rfind_f w l o c hl k (by omega), Option.bind_some]
      obtain ⟨k', e, h⟩ := rcut_l1 w l o hl keep i w out 0 (glyphOf l o c) (by omega) (keep.length + 1) (by omega) l.length k 0 (decide (o > 0)) (by omega) (by omega)
      refine (h.trans ?_)
      rw [hw, List.drop_zero, rcut_step w l o ho out c hz]
      have := len_cutStep w l o out c
      exact ih (i + 1) k' _ (by omega) (by omega) (by omega)
open Classical in
theorem rcut_f (w : Bool) (l : List S37) (o : Int) (hl : l.length ≤ 1000) (keep : List Int) (hk0 : keep.length ≤ 1000) (k : Nat) (hk : 3000000 < k) :
    erasureref19_Cut.f k w l o keep = some (if Right w l o then (w, cutL w l o keep, 0, 0) else (false, [], 0, 1)) := by
  unfold erasureref19_Cut.f
  rw [right_f w l o (by omega) k (by omega), Option.bind_some]
  by_cases hR : Right w l o
  · rw [decide_eq_true hR, if_pos rfl, if_pos hR]
    have hm : keep.length * (l.length + keep.length + 10) ≤ 1000 * 2010 := Nat.mul_le_mul hk0 (by omega)
    exact rcut_l0 w l o hR.2.1 (by omega) keep (by omega) keep.length 0 k [] (by omega) (by simp) (by omega)
  · rw [decide_eq_false hR, if_neg Bool.false_ne_true, if_neg hR]
open Classical in
theorem cut_f (w : Bool) (l : List S37) (o : Int) (hl : l.length ≤ 1000) (keep : List Int) (hk0 : keep.length ≤ 1000) (k : Nat) (hk : 3000000 < k) :
    font_Cut.f k w l o keep = some (if Right w l o then (w, cutL w l o keep, 0, 0) else (false, [], 0, 1)) := by
  unfold font_Cut.f
  rw [if_pos (by omega), check_f w l o (by omega) k (by omega), Option.bind_some]
  by_cases hR : Right w l o
  · rw [if_pos hR, if_pos rfl, if_pos hR]
  · rw [if_neg hR, if_neg (by decide), if_neg hR]
end Go.Proofs.Ytjhpcfpccnfniaa.Plain
