/- The document's sum, Add, in plain words (for DecDoes). -/
import Derived.Test.YtdkckjiccpdkbaaDoorG4
import Derived.Test.YtdkckjiccpdkbaaDoorPlainRef5
namespace Go.Proofs.YtdkckjiccpdkbaaDoor.Plain
open Go.RowKit Go.Proofs.YtdkckjiccpdkbaaDoorW.PrintWords Go.Proofs.YtdkckjiccpdkbaaDoor.A Go.Proofs.YtdkckjiccpdkbaaDoor.B Go.Proofs.YtdkckjiccpdkbaaDoor.H Go.Proofs.YtdkckjiccpdkbaaDoor.E Go.Proofs.YtdkckjiccpdkbaaDoor.G
set_option linter.unusedVariables false
def sg (a b : Bool) : Int := if (a == b) = true then 1 else -1
theorem sum_l0 (A B : List Nat) (hA : okD A) (hB : okD B) (n : Nat) (hn : n = max A.length B.length + 1) (hn1 : n ≤ 200) (a b c0 : Bool) (x y S : Int) : ∀ (d at_ : Nat) (acc : List Nat) (c : Int) (k : Nat),
    at_ + d = n → acc.length = at_ → okD acc → -1 ≤ c → c ≤ 1 → (rv acc : Int) + ((10 ^ at_ : Nat) : Int) * c = (rv (A.take at_) : Int) + sg a b * (rv (B.take at_) : Int) → 2 * d + 2 ≤ k →
    ∃ (O : List Nat) (c' : Int), O.length = n ∧ okD O ∧ -1 ≤ c' ∧ c' ≤ 1 ∧ (rv O : Int) + ((10 ^ n : Nat) : Int) * c' = (rv (A.take n) : Int) + sg a b * (rv (B.take n) : Int) ∧
      erasureref01_sum.l0 k c (at_ : Int) a (dIs A) x b (dIs B) y c0 (dIs acc) S = some (c0, dIs O, S) := by
  intro d
  induction d with
  | zero =>
    intro at_ acc c k h1 h2 h3 h4 h5 h6 hk
    obtain ⟨k, rfl⟩ : ∃ q, k = q + 1 := ⟨k - 1, by omega⟩
    obtain rfl : at_ = n := by omega
    refine ⟨acc, c, h2, h3, h4, h5, h6, ?_⟩
    rw [erasureref01_sum.l0, dIs_len, dIs_len, mx_nat, if_neg (by omega)]
  | succ d ih =>
    intro at_ acc c k h1 h2 h3 h4 h5 h6 hk
    obtain ⟨k, rfl⟩ : ∃ q, k = q + 2 := ⟨k - 2, by omega⟩
    have ha9 := atD_le A hA at_
    have hb9 := atD_le B hB at_
    
    have step : ∀ (v : Int) (e : Nat) (c' : Int), v = (atD A at_ : Int) + sg a b * (atD B at_ : Int) + c → v = (e : Int) + 10 * c' → e ≤ 9 → -1 ≤ c' → c' ≤ 1 →
        erasureref01_sum.j2 (k + 1) (at_ : Int) v a (dIs A) x b (dIs B) y c0 (dIs acc) S = erasureref01_sum.l0 k c' ((at_ + 1 : Nat) : Int) a (dIs A) x b (dIs B) y c0 (dIs (acc ++ [e])) S := by
      intro v e c' hv he h9 hc0 hc1
      have hat : at_ < 1000000 := by omega
      have hlen : (dIs acc).length < 17592186044416 := by rw [dIs_len]; omega
      have happ : dIs (acc ++ [e]) = dIs acc ++ [(e : Int)] := dIs_app acc [e]
      rw [erasureref01_sum.j2, happ]
      by_cases g : v > 9
      · have hc : c' = 1 := by omega
        have q1 : -9223372036854775808 ≤ v - 10 := by omega
        have q2 : v - 10 < 9223372036854775808 := by omega
        have q3 : ¬ v - 10 < 0 := by omega
        have q4 : v - 10 = (e : Int) := by omega
        rw [if_pos g, wsm (v - 10) q1 q2, if_neg q3, if_pos hlen, wone at_ hat, hc, q4]
      · rw [if_neg g]
        by_cases g2 : v < 0
        · have hc : c' = -1 := by omega
          have q1 : -9223372036854775808 ≤ v + 10 := by omega
          have q2 : v + 10 < 9223372036854775808 := by omega
          have q4 : v + 10 = (e : Int) := by omega
          rw [if_pos g2, if_pos hlen, wone at_ hat, hc, wsm (v + 10) q1 q2, q4]
        · have hc : c' = 0 := by omega
          have q4 : v = (e : Int) := by omega
          rw [if_neg g2, if_pos hlen, wone at_ hat, hc, q4]
    have hfin : ∀ (v : Int), v = (atD A at_ : Int) + sg a b * (atD B at_ : Int) + c → -10 ≤ v → v ≤ 19 → ∃ (O : List Nat) (c' : Int), O.length = n ∧ okD O ∧ -1 ≤ c' ∧ c' ≤ 1 ∧ (rv O : Int) + ((10 ^ n : Nat) : Int) * c' = (rv (A.take n) : Int) + sg a b * (rv (B.take n) : Int) ∧
        erasureref01_sum.j2 (k + 1) (at_ : Int) v a (dIs A) x b (dIs B) y c0 (dIs acc) S = some (c0, dIs O, S) := by
      intro v hv hv0 hv1
      obtain ⟨e, c', he, h9, hc0, hc1⟩ : ∃ (e : Nat) (c' : Int), v = (e : Int) + 10 * c' ∧ e ≤ 9 ∧ -1 ≤ c' ∧ c' ≤ 1 := by
        clear step ih h6 hv
        exact ⟨(v % 10).toNat, v / 10, by omega, by omega, by omega, by omega⟩
      obtain ⟨O, c2, o1, o2, o3, o4, o5, o6⟩ := ih (at_ + 1) (acc ++ [e]) c' k (by omega) (by rw [List.length_append, h2]; rfl) (okD_snoc _ _ h3 h9) hc0 hc1 (sum_step acc A B at_ (sg a b) c c' e h2 h6 (by rw [← hv, he])) (by omega)
      exact ⟨O, c2, o1, o2, o3, o4, o5, (step v e c' hv he h9 hc0 hc1).trans o6⟩
    have r0 : (at_ : Int) ≤ ((max A.length B.length : Nat) : Int) := by omega
    have r1 : -9223372036854775808 ≤ (atD A at_ : Int) + c := by omega
    have r2 : (atD A at_ : Int) + c < 9223372036854775808 := by omega
    have r3 : -9223372036854775808 ≤ (atD A at_ : Int) + c + (atD B at_ : Int) := by omega
    have r4 : (atD A at_ : Int) + c + (atD B at_ : Int) < 9223372036854775808 := by omega
    have r5 : -9223372036854775808 ≤ (atD A at_ : Int) + c - (atD B at_ : Int) := by omega
    have r6 : (atD A at_ : Int) + c - (atD B at_ : Int) < 9223372036854775808 := by omega
    rw [erasureref01_sum.l0, dIs_len, dIs_len, mx_nat, if_pos r0, digit_f, Option.bind_some]
    by_cases hs : (a == b) = true
    · have e1 : sg a b = 1 := if_pos hs
      rw [if_pos hs, digit_f, Option.bind_some, wsm ((atD A at_ : Int) + c) r1 r2, wsm _ r3 r4]
      clear step ih
      exact hfin _ (by rw [e1]; omega) (by omega) (by omega)
    · have e1 : sg a b = -1 := if_neg hs
      rw [if_neg hs, digit_f, Option.bind_some, wsm ((atD A at_ : Int) + c) r1 r2, wsm _ r5 r6]
      clear step ih
      exact hfin _ (by rw [e1]; omega) (by omega) (by omega)
theorem sum_core (A B : List Nat) (hA : okD A) (hB : okD B) (la : A.length ≤ 100) (lb : B.length ≤ 100) (a b : Bool) (x y S : Int) (hle : a = b ∨ rv B ≤ rv A) (k : Nat) (hk : 420 ≤ k) :
    ∃ O : List Nat, okD O ∧ O.length ≤ 200 ∧ sn a (rv O) = sn a (rv A) + sn b (rv B) ∧ erasureref01_sum.l0 k 0 0 a (dIs A) x b (dIs B) y a ([] : List Int) S = some (a, dIs O, S) := by
  obtain ⟨n, hn⟩ : ∃ n, n = max A.length B.length + 1 := ⟨_, rfl⟩
  obtain ⟨O, c', o1, o2, o3, o4, o5, o6⟩ := sum_l0 A B hA hB n hn (by omega) a b a x y S n 0 [] 0 k (by omega) rfl okD_nil (by decide) (by decide) (by show (0 : Int) + _ * 0 = (rv [] : Int) + _ * (rv [] : Int); show (0 : Int) + _ * 0 = ((0 : Nat) : Int) + _ * ((0 : Nat) : Int); omega) (by omega)
  rw [List.take_of_length_le (by omega), List.take_of_length_le (by omega)] at o5
  have ra := rv_lt A hA
  have rb := rv_lt B hB
  have pa : 10 ^ A.length ≤ 10 ^ (n - 1) := Nat.pow_le_pow_right (by decide) (by omega)
  have pb : 10 ^ B.length ≤ 10 ^ (n - 1) := Nat.pow_le_pow_right (by decide) (by omega)
  have pn : 10 ^ n = 10 * 10 ^ (n - 1) := by
    obtain ⟨m, rfl⟩ : ∃ m, n = m + 1 := ⟨n - 1, by omega⟩
    rw [Nat.add_sub_cancel, Nat.pow_succ, Nat.mul_comm]
  have hs : sg a b = 1 ∧ a = b ∨ sg a b = -1 ∧ a ≠ b := by
    unfold sg
    by_cases h : a = b
    · exact Or.inl ⟨if_pos (by rw [h]; exact beq_self_eq_true b), h⟩
    · exact Or.inr ⟨if_neg (by rw [beq_iff_eq]; exact h), h⟩
  have hT : (rv O : Int) = (rv A : Int) + sg a b * (rv B : Int) := by
    refine sum_end O c' _ n o1 o2 ⟨o3, o4⟩ o5 ?_ ?_
    · rcases hs with ⟨e, _⟩ | ⟨e, h⟩
      · rw [e]; omega
      · have := hle.resolve_left h
        rw [e]; omega
    · generalize 10 ^ n = p at *
      generalize 10 ^ (n - 1) = q at *
      rcases hs with ⟨e, _⟩ | ⟨e, h⟩ <;> rw [e] <;> omega
  refine ⟨O, o2, by omega, ?_, o6⟩
  unfold sn
  rcases hs with ⟨e, rfl⟩ | ⟨e, h⟩
  · rw [e] at hT
    cases a <;> simp <;> omega
  · rw [e] at hT
    cases a <;> cases b <;> simp at h ⊢ <;> omega
theorem sum_f (A B : List Nat) (hA : okD A) (hB : okD B) (la : A.length ≤ 50) (lb : B.length ≤ 50) (a b : Bool) (s t : Nat) (hs : s ≤ 9) (ht : t ≤ 9) (k : Nat) (hk : 1200 ≤ k) :
    ∃ (c : Bool) (O : List Nat), okD O ∧ O.length ≤ 200 ∧ sn c (rv O) = sn a (rv A * 10 ^ (max s t - s)) + sn b (rv B * 10 ^ (max s t - t)) ∧
      erasureref01_sum.f k a (dIs A) (s : Int) b (dIs B) (t : Int) = some (c, dIs O, ((max s t : Nat) : Int)) := by
  obtain ⟨S, hS⟩ : ∃ S, S = max s t := ⟨_, rfl⟩
  rw [← hS]
  have core : ∀ (A' B' : List Nat), okD A' → okD B' → A'.length ≤ 100 → B'.length ≤ 100 → ∀ (a b : Bool) (k : Nat), 600 ≤ k → (a = b ∨ rv B' ≤ rv A') →
      ∃ (c : Bool) (O : List Nat), okD O ∧ O.length ≤ 200 ∧ sn c (rv O) = sn a (rv A') + sn b (rv B') ∧ erasureref01_sum.j0 k (S : Int) false a (dIs A') (S : Int) b (dIs B') (S : Int) = some (c, dIs O, (S : Int)) := by
    intro A' B' hA' hB' la' lb' a b k hk hle
    obtain ⟨k, rfl⟩ : ∃ q, k = q + 1 := ⟨k - 1, by omega⟩
    obtain ⟨O, o1, o2, o3, o4⟩ := sum_core A' B' hA' hB' la' lb' a b (S : Int) (S : Int) (S : Int) hle k (by omega)
    exact ⟨a, O, o1, o2, o3, by rw [erasureref01_sum.j0, if_neg (by decide)]; exact o4⟩
  
  have once : ∀ (A' B' : List Nat), okD A' → okD B' → A'.length ≤ 60 → B'.length ≤ 60 → ∀ (a b : Bool) (k : Nat), 1001 ≤ k → rv B' ≤ rv A' →
      ∃ (c : Bool) (O : List Nat), okD O ∧ O.length ≤ 200 ∧ sn c (rv O) = sn a (rv A') + sn b (rv B') ∧ erasureref01_sum.f k a (dIs A') (S : Int) b (dIs B') (S : Int) = some (c, dIs O, (S : Int)) := by
    intro A' B' hA' hB' la' lb' a b k hk hle
    obtain ⟨k, rfl⟩ : ∃ q, k = q + 1 := ⟨k - 1, by omega⟩
    obtain ⟨c, O, o1, o2, o3, o4⟩ := core A' B' hA' hB' (by omega) (by omega) a b k (by omega) (Or.inr hle)
    refine ⟨c, O, o1, o2, o3, ?_⟩
    have e0 : ∀ D : List Nat, List.replicate (S - S) 0 ++ D = D := fun D => by rw [Nat.sub_self]; rfl
    rw [erasureref01_sum.f, mx_nat, Nat.max_self, liftD_f a A' S S k (by omega) (by omega) (by omega) (by omega), Option.bind_some, liftD_f b B' S S k (by omega) (by omega) (by omega) (by omega), Option.bind_some, e0, e0]
    dsimp only
    by_cases hab : (a != b) = true
    · rw [if_pos hab, less_f A' B' hA' hB' (by omega) (by omega) k (by omega), Option.bind_some, decide_eq_false (by omega)]
      exact o4
    · rw [if_neg hab]
      exact o4
  obtain ⟨k, rfl⟩ : ∃ q, k = q + 1 := ⟨k - 1, by omega⟩
  have hA' := okD_pad (S - s) A hA
  have hB' := okD_pad (S - t) B hB
  have lA : (List.replicate (S - s) 0 ++ A).length ≤ 60 := by rw [List.length_append, List.length_replicate]; omega
  have lB : (List.replicate (S - t) 0 ++ B).length ≤ 60 := by rw [List.length_append, List.length_replicate]; omega
  rw [erasureref01_sum.f, mx_nat, ← hS, liftD_f a A s S k (by omega) (by omega) (by omega) (by omega), Option.bind_some, liftD_f b B t S k (by omega) (by omega) (by omega) (by omega), Option.bind_some, ← rv_pad, ← rv_pad]
  dsimp only
  generalize List.replicate (S - s) 0 ++ A = A' at hA' lA ⊢
  generalize List.replicate (S - t) 0 ++ B = B' at hB' lB ⊢
  by_cases hab : (a != b) = true
  · rw [if_pos hab, less_f A' B' hA' hB' (by omega) (by omega) k (by omega), Option.bind_some]
    by_cases hlt : rv A' < rv B'
    · obtain ⟨k, rfl⟩ : ∃ q, k = q + 1 := ⟨k - 1, by omega⟩
      obtain ⟨c, O, o1, o2, o3, o4⟩ := once B' A' hB' hA' lB lA b a k (by omega) (by omega)
      refine ⟨c, O, o1, o2, by rw [o3, Int.add_comm], ?_⟩
      rw [decide_eq_true hlt, erasureref01_sum.j0, if_pos rfl, o4]
      rfl
    · rw [decide_eq_false hlt]
      exact core A' B' hA' hB' (by omega) (by omega) a b k (by omega) (Or.inr (by omega))
  · rw [if_neg hab]
    exact core A' B' hA' hB' (by omega) (by omega) a b k (by omega) (Or.inl (by cases a <;> cases b <;> simp at hab ⊢))
theorem add_ref (a b : Int) (s t : Nat) (ha : Good a s) (hb : Good b t) (k : Nat) (hk : 1300 ≤ k) :
    erasureref01_Add.f k a (s : Int) b (t : Int) = some (addD a s b t) := by
  obtain ⟨a1, a2, a3, a4, _⟩ := id ha
  obtain ⟨b1, b2, b3, b4, _⟩ := id hb
  obtain ⟨k, rfl⟩ : ∃ q, k = q + 1 := ⟨k - 1, by omega⟩
  obtain ⟨A, p1, p2, p3, p4⟩ := of_f a (s : Int) a1 a2 k (by omega)
  obtain ⟨B, q1, q2, q3, q4⟩ := of_f b (t : Int) b1 b2 k (by omega)
  obtain ⟨c, O, o1, o2, o3, o4⟩ := sum_f A B p1 q1 (by omega) (by omega) (decide (a < 0)) (decide (b < 0)) s t (by omega) (by omega) k (by omega)
  unfold erasureref01_Add.f
  rw [right_ref, Option.bind_some, decide_eq_true ha, if_pos rfl, right_ref, Option.bind_some, decide_eq_true hb, show (!true) = false from rfl, erasureref01_Add.j0, if_neg (by decide), p4, Option.bind_some, q4, Option.bind_some]
  dsimp only
  rw [o4, Option.bind_some]
  dsimp only
  rw [told_ref c (max s t) O k (by omega) (by omega) o1 (by omega), Option.bind_some]
  rw [p2, q2, sn_up, sn_up] at o3
  unfold addD
  rw [← o3, ← tellZ_pos c (rv O) (max s t) (sn c (rv O)) rfl]
theorem add_ref_bad (a b s t : Int) (h : ¬ (Good a s ∧ Good b t)) (k : Nat) (hk : 12 ≤ k) : erasureref01_Add.f k a s b t = some (0, 0, 1) := by
  obtain ⟨k, rfl⟩ : ∃ q, k = q + 1 := ⟨k - 1, by omega⟩
  unfold erasureref01_Add.f
  rw [right_ref, Option.bind_some]
  by_cases ha : Good a s
  · have hb : ¬ Good b t := fun hb => h ⟨ha, hb⟩
    rw [decide_eq_true ha, if_pos rfl, right_ref, Option.bind_some, decide_eq_false hb, show (!false) = true from rfl, erasureref01_Add.j0, if_pos rfl]
  · rw [decide_eq_false ha, if_neg (by decide), erasureref01_Add.j0, if_pos rfl]
end Go.Proofs.YtdkckjiccpdkbaaDoor.Plain
