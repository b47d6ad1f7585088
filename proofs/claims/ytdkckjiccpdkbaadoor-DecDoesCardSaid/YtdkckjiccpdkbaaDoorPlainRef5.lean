/- The document's Compare, Neg, Right, in plain words (for DecDoes). -/
import Derived.Test.YtdkckjiccpdkbaaDoorG6
import Derived.Test.YtdkckjiccpdkbaaDoorPlainMul
namespace Go.Proofs.YtdkckjiccpdkbaaDoor.Plain
open Go.RowKit Go.Proofs.YtdkckjiccpdkbaaDoorW.PrintWords Go.Proofs.YtdkckjiccpdkbaaDoor.A Go.Proofs.YtdkckjiccpdkbaaDoor.B Go.Proofs.YtdkckjiccpdkbaaDoor.H Go.Proofs.YtdkckjiccpdkbaaDoor.E Go.Proofs.YtdkckjiccpdkbaaDoor.G
set_option linter.unusedVariables false
theorem wadd (a b : Nat) (h : a + b < 1000000) : wrap64 ((a : Int) + (b : Int)) = ((a + b : Nat) : Int) := by
  rw [wsm _ (by omega) (by omega)]
  omega
theorem wone (a : Nat) (h : a < 1000000) : wrap64 ((a : Int) + 1) = ((a + 1 : Nat) : Int) := by
  rw [wsm _ (by omega) (by omega)]
  omega
theorem wnat (a : Nat) (h : a < 1000000) : wrap64 (a : Int) = (a : Int) := wsm _ (by omega) (by omega)
theorem wmul (a b : Nat) (h : a * b < 1000000) : wrap64 ((a : Int) * (b : Int)) = ((a * b : Nat) : Int) := by
  rw [← Int.natCast_mul, wnat _ h]
theorem right_ref (M S : Int) : erasureref01_Right.f M S = some (decide (Good M S)) := by
  unfold erasureref01_Right.f
  by_cases h1 : M ≥ -999999999999999999
  · rw [if_pos h1]
    by_cases h2 : M ≤ 999999999999999999
    · rw [if_pos h2]
      by_cases h3 : S ≥ 0
      · rw [if_pos h3]
        by_cases h4 : S ≤ 9
        · rw [if_pos h4]
          by_cases h5 : S = 0
          · rw [if_pos h5, decide_eq_true (show Good M S by unfold Good; omega)]
          · rw [if_neg h5]
            by_cases h6 : Int.tmod M 10 = 0
            · rw [show ((Int.tmod M 10) != 0) = false from by rw [h6]; rfl, decide_eq_false (show ¬ Good M S by have := (tmod0 M).1 h6; unfold Good; omega)]
            · rw [show ((Int.tmod M 10) != 0) = true from bne_iff_ne.mpr h6, decide_eq_true (show Good M S by have h7 : M % 10 ≠ 0 := fun h => h6 ((tmod0 M).2 h); unfold Good; omega)]
        · rw [if_neg h4, decide_eq_false (show ¬ Good M S by unfold Good; omega)]
      · rw [if_neg h3, decide_eq_false (show ¬ Good M S by unfold Good; omega)]
    · rw [if_neg h2, decide_eq_false (show ¬ Good M S by unfold Good; omega)]
  · rw [if_neg h1, decide_eq_false (show ¬ Good M S by unfold Good; omega)]
theorem neg_ref (M S : Int) : erasureref01_Neg.f M S = some (if Good M S then (-M, S, 0) else (0, 0, 1)) := by
  unfold erasureref01_Neg.f
  rw [right_ref, Option.bind_some]
  by_cases h : Good M S
  · obtain ⟨a1, a2, _⟩ := id h
    rw [decide_eq_true h, if_pos rfl, if_pos h, wsm _ (by omega) (by omega)]
  · rw [decide_eq_false h, if_neg (by decide), if_neg h]
theorem liftD_f (b : Bool) (D : List Nat) (s S k : Nat) (hs : s ≤ S) (hS : S ≤ 100) (hl : D.length ≤ 100) (hk : 110 ≤ k) :
    erasureref01_lift.f k b (dIs D) (s : Int) (S : Int) = some (b, dIs (List.replicate (S - s) 0 ++ D), (S : Int)) := by
  unfold erasureref01_lift.f
  have h := lift_ref b D S (S - s) s k [] (by omega) (by show 0 + _ + _ ≤ _; omega) (by omega) (by omega) b (s : Int)
  rw [List.nil_append] at h
  exact h
theorem rv_pad (d : Nat) (D : List Nat) : rv (List.replicate d 0 ++ D) = rv D * 10 ^ d := by
  rw [rv_app, rv_zeros, List.length_replicate, Nat.zero_add, Nat.mul_comm]
theorem okD_pad (d : Nat) (D : List Nat) (h : okD D) : okD (List.replicate d 0 ++ D) := by
  intro x hx
  rcases List.mem_append.1 hx with hx | hx
  · rw [List.eq_of_mem_replicate hx]; omega
  · exact h x hx
theorem okD_snoc (D : List Nat) (d : Nat) (h : okD D) (hd : d ≤ 9) : okD (D ++ [d]) := by
  intro x hx
  rcases List.mem_append.1 hx with hx | hx
  · exact h x hx
  · rw [List.mem_singleton.1 hx]; exact hd
def sn (b : Bool) (N : Nat) : Int := if b then -(N : Int) else N
theorem sn_up (M : Int) (d : Nat) : sn (decide (M < 0)) (M.natAbs * 10 ^ d) = up M d := by
  rw [up_sign]
  unfold sn
  by_cases h : M < 0
  · rw [if_pos (decide_eq_true h), if_pos h]
  · rw [if_neg (by rw [decide_eq_true_iff]; exact h), if_neg h]
theorem cmp_is (x y v : Int) (h1 : x < y → v = -1) (h2 : y < x → v = 1) (h3 : x = y → v = 0) : some (v, (0 : Int)) = some (cmpZ x y, 0) := by
  unfold cmpZ
  by_cases a : x < y
  · rw [if_pos a, h1 a]
  · rw [if_neg a]
    by_cases b : x > y
    · rw [if_pos b, h2 b]
    · rw [if_neg b, h3 (by omega)]
theorem cmp_ref (a b : Int) (s t : Nat) (ha : Good a s) (hb : Good b t) (k : Nat) (hk : 1300 ≤ k) :
    erasureref01_Compare.f k a (s : Int) b (t : Int) = some (cmpZ (up a (max s t - s)) (up b (max s t - t)), 0) := by
  obtain ⟨a1, a2, a3, a4, _⟩ := id ha
  obtain ⟨b1, b2, b3, b4, _⟩ := id hb
  obtain ⟨k, rfl⟩ : ∃ q, k = q + 2 := ⟨k - 2, by omega⟩
  obtain ⟨A, p1, p2, p3, p4⟩ := of_f a (s : Int) a1 a2 (k + 1) (by omega)
  obtain ⟨B, q1, q2, q3, q4⟩ := of_f b (t : Int) b1 b2 (k + 1) (by omega)
  obtain ⟨S, hS⟩ : ∃ S, S = max s t := ⟨_, rfl⟩
  have hA' := okD_pad (S - s) A p1
  have hB' := okD_pad (S - t) B q1
  have lA : (List.replicate (S - s) 0 ++ A).length ≤ 60 := by rw [List.length_append, List.length_replicate]; omega
  have lB : (List.replicate (S - t) 0 ++ B).length ≤ 60 := by rw [List.length_append, List.length_replicate]; omega
  have vA := rv_pad (S - s) A
  have vB := rv_pad (S - t) B
  have ea := up_sign a (S - s)
  have eb := up_sign b (S - t)
  have na : a < 0 → 0 < a.natAbs * 10 ^ (S - s) := fun h => Nat.mul_pos (by omega) (Nat.pow_pos (by decide))
  have nb : b < 0 → 0 < b.natAbs * 10 ^ (S - t) := fun h => Nat.mul_pos (by omega) (Nat.pow_pos (by decide))
  unfold erasureref01_Compare.f
  rw [right_ref, Option.bind_some, decide_eq_true ha, if_pos rfl, right_ref, Option.bind_some, decide_eq_true hb, show (!true) = false from rfl, erasureref01_Compare.j0, if_neg (by decide), p4, Option.bind_some, q4, Option.bind_some]
  dsimp only
  rw [mx_nat, ← hS, liftD_f _ A s S (k + 1) (by omega) (by omega) (by omega) (by omega), Option.bind_some, liftD_f _ B t S (k + 1) (by omega) (by omega) (by omega) (by omega), Option.bind_some]
  dsimp only
  rw [less_f _ _ hA' hB' (by omega) (by omega) (k + 1) (by omega), Option.bind_some, less_f _ _ hB' hA' (by omega) (by omega) (k + 1) (by omega), Option.bind_some, vA, vB, p2, q2]
  generalize up a (S - s) = U at ea ⊢
  generalize up b (S - t) = V at eb ⊢
  generalize a.natAbs * 10 ^ (S - s) = X at ea na ⊢
  generalize b.natAbs * 10 ^ (S - t) = Y at eb nb ⊢
  clear vA vB hA' hB' lA lB p1 p2 p3 p4 q1 q2 q3 q4
  by_cases h1 : a < 0
  · rw [if_pos h1] at ea
    have := na h1
    by_cases h2 : b < 0
    · have := nb h2
      rw [if_pos h2] at eb
      rw [decide_eq_true h1, decide_eq_true h2, if_neg (by decide), if_pos rfl, erasureref01_Compare.j1]
      by_cases hx : Y < X
      · rw [decide_eq_true hx, if_pos rfl]
        exact cmp_is _ _ _ (by omega) (by omega) (by omega)
      · rw [decide_eq_false hx, if_neg (by decide)]
        by_cases hy : X < Y
        · rw [decide_eq_true hy, if_pos rfl]
          exact cmp_is _ _ _ (by omega) (by omega) (by omega)
        · rw [decide_eq_false hy, if_neg (by decide)]
          exact cmp_is _ _ _ (by omega) (by omega) (by omega)
    · rw [if_neg h2] at eb
      rw [decide_eq_true h1, decide_eq_false h2, if_pos (by decide), erasureref01_Compare.j1, if_pos rfl]
      exact cmp_is _ _ _ (by omega) (by omega) (by omega)
  · rw [if_neg h1] at ea
    by_cases h2 : b < 0
    · have := nb h2
      rw [if_pos h2] at eb
      rw [decide_eq_false h1, decide_eq_true h2, if_pos (by decide), erasureref01_Compare.j1, if_neg (by decide), if_pos rfl]
      exact cmp_is _ _ _ (by omega) (by omega) (by omega)
    · rw [if_neg h2] at eb
      rw [decide_eq_false h1, decide_eq_false h2, if_neg (by decide), if_neg (by decide), erasureref01_Compare.j1]
      by_cases hx : X < Y
      · rw [decide_eq_true hx, if_pos rfl]
        exact cmp_is _ _ _ (by omega) (by omega) (by omega)
      · rw [decide_eq_false hx, if_neg (by decide)]
        by_cases hy : Y < X
        · rw [decide_eq_true hy, if_pos rfl]
          exact cmp_is _ _ _ (by omega) (by omega) (by omega)
        · rw [decide_eq_false hy, if_neg (by decide)]
          exact cmp_is _ _ _ (by omega) (by omega) (by omega)
theorem cmp_ref_bad (a b s t : Int) (h : ¬ (Good a s ∧ Good b t)) (k : Nat) (hk : 12 ≤ k) : erasureref01_Compare.f k a s b t = some (0, 1) := by
  obtain ⟨k, rfl⟩ : ∃ q, k = q + 1 := ⟨k - 1, by omega⟩
  unfold erasureref01_Compare.f
  rw [right_ref, Option.bind_some]
  by_cases ha : Good a s
  · have hb : ¬ Good b t := fun hb => h ⟨ha, hb⟩
    rw [decide_eq_true ha, if_pos rfl, right_ref, Option.bind_some, decide_eq_false hb, show (!false) = true from rfl, erasureref01_Compare.j0, if_pos rfl]
  · rw [decide_eq_false ha, if_neg (by decide), erasureref01_Compare.j0, if_pos rfl]
end Go.Proofs.YtdkckjiccpdkbaaDoor.Plain
