-- PRINTED BY print.sh 35421559b90ae4d0a3588c463048766b98c2df88dd9212a6774a882060cdf62d: not written by this session
import Derived.Test.YtdopkepaandoeaaPsamex0
namespace Go.Proofs.Ytdopkepaandoeaa.Psame
open Go.RowKit Go.Proofs.YtdopkepaandoeaaW.PrintWords Go.Proofs.YtdopkepaandoeaaW.PrintLast Go.Proofs.YtdopkepaandoeaaW.PrintMore
attribute [local go_sem] max2_int min2_int max_two min_two max_three min_three max_four min_four   -- for this text's walks alone
set_option linter.unusedVariables false
set_option linter.unusedSimpArgs false

/-! ### run_same: function 16 -/
def run_same.l0 : Nat → List Int → Int → Int → Option (Int)
  | 0, _, _, _ => none
  | k + 1, x0, x1, x5 => if x5 < 128 then (if (wrap64 (x1 + x5)) < (x0.length : Int) then (if 0 ≤ (wrap64 (x1 + x5)) then (if 0 ≤ x1 then (if x1 < (x0.length : Int) then (if (rd x0 (wrap64 (x1 + x5))) = (rd x0 x1) then (run_same.l0 k x0 x1 (wrap64 (x5 + 1))) else (some x5)) else (none)) else (none)) else (none)) else (some x5)) else (some x5)
def run_same.f (k : Nat) (l0 : List Int) (a1 : Int) : Option (Int) := run_same.l0 k l0 a1 1
theorem run_same.mono_l : ∀ k, (∀ y0 y1 y2, LeO (run_same.l0 k y0 y1 y2) (run_same.l0 (k + 1) y0 y1 y2))
  | 0 => fun _ _ _ r h => by simp [run_same.l0] at h
  | k + 1 => by
    have ih0 := run_same.mono_l k
    · intro y0 y1 y2
      unfold run_same.l0
      repeat' first
      | (with_reducible exact ih0 _ _ _)
      | (with_reducible exact LeO.refl _)
      | (with_reducible exact LeO.none _)
      | (with_reducible refine LeO.ite ?_ ?_)
      | (with_reducible refine LeO.bind ?_ (fun _ => ?_))
      | exact ih0 _ _ _
      | exact LeO.none _
      | refine LeO.ite ?_ ?_
      | refine LeO.bind ?_ (fun _ => ?_)
theorem run_same.mono : ∀ a0 a1 k, LeO (run_same.f k a0 a1) (run_same.f (k + 1) a0 a1) := by
  intro a0 a1 k
  have ih0 := run_same.mono_l k
  unfold run_same.f
  repeat' first
      | (with_reducible exact ih0 _ _ _)
      | (with_reducible exact LeO.refl _)
      | (with_reducible exact LeO.none _)
      | (with_reducible refine LeO.ite ?_ ?_)
      | (with_reducible refine LeO.bind ?_ (fun _ => ?_))
      | exact ih0 _ _ _
      | exact LeO.none _
      | refine LeO.ite ?_ ?_
      | refine LeO.bind ?_ (fun _ => ?_)
set_option maxHeartbeats 8000000 in
set_option maxRecDepth 100000 in
theorem run_same.calls (k : Nat) (A0 : Option Addr) (c0 : Nat) (l0 : List Int) (a1 : Int) (r : Int) (w : World) (hr0 : Kd.C (Kd.int .u8) w A0 l0.length l0) (hc0 : l0.length ≤ c0) (h : run_same.f k l0 a1 = some r) :
    Calls Try.prog 16 #[.slice A0 l0.length c0, .int .i64 a1] w fun e w' => e = .returned (.int .i64 r) ∧ Drawn0 w w' := by
  have HR0 := Aside0.mk hr0
  have HC0 := Aside0.mk hc0
  clear hr0 hc0
  have H : (run_same.l0 k l0 a1 1) = some r := h
  clear h
  have H' := Aside0.mk H
  clear H
  go_enter Try.func16, Try.ntmps16
  go_wp2
  repeat (go_quiet (fail); try go_wp2)
  go_loopg [5] k (fun kq v5 w' => ∃ (x5_1 : Int), v5 = .int .i64 x5_1 ∧ Aside0 (run_same.l0 kq l0 a1 x5_1 = some r) ∧ Aside0 (kq ≤ k) ∧ Drawn0 w w')
  case atStart => exact ⟨(1), (by first | rfl | (simp; done) | (simp [*]; done)), H', ⟨Nat.le_refl _⟩, by repeat (first | exact Drawn0.refl _ | apply Drawn0.step)⟩
  case round =>
    clear H'
    try clear c1
    try clear p2
    obtain ⟨x5_1, rfl, HA, HK1, ⟨m1, rfl⟩⟩ := hrel
    cases gk with
    | zero => exact absurd HA.out (by simp [run_same.l0])
    | succ k1 =>
      have H := HA.out
      clear HA
      simp only [run_same.l0] at H
      by_cases c3 : x5_1 < 128
      · rw [if_pos c3] at H
        have c3b0 : decide (x5_1 < 128) = true := decide_eq_true c3
        clear c3
        by_cases c4 : (wrap64 (a1 + x5_1)) < (l0.length : Int)
        · rw [if_pos c4] at H
          have c4b0 : decide ((wrap64 (a1 + x5_1)) < (l0.length : Int)) = true := decide_eq_true c4
          clear c4
          obtain ⟨ji5, hji5⟩ : ∃ j_ : Int, (wrap64 (a1 + x5_1)) = j_ := ⟨_, rfl⟩
          replace H : (if 0 ≤ (ji5) then (if 0 ≤ a1 then (if a1 < (l0.length : Int) then (if (rd l0 (ji5)) = (rd l0 a1) then (run_same.l0 k1 l0 a1 (wrap64 (x5_1 + 1))) else (some x5_1)) else (none)) else (none)) else (none)) = some r := by first | (rw [hji5] at H; exact H) | (simp only [hji5] at H ⊢; exact H)
          (try rw [hji5] at c4b0)
          have hji5w : (IntKind.i64.wrap (a1 + x5_1)) = ji5 := (i64_w _).trans hji5
          by_cases c6 : 0 ≤ (ji5)
          · rw [if_pos c6] at H
            have c6b0 : decide (0 ≤ (ji5)) = true := decide_eq_true c6
            clear c6
            by_cases c7 : 0 ≤ a1
            · rw [if_pos c7] at H
              have c7b0 : decide (0 ≤ a1) = true := decide_eq_true c7
              clear c7
              by_cases c8 : a1 < (l0.length : Int)
              · rw [if_pos c8] at H
                have c8b0 : decide (a1 < (l0.length : Int)) = true := decide_eq_true c8
                clear c8
                by_cases c9 : (rd l0 (ji5)) = (rd l0 a1)
                · rw [if_pos c9] at H
                  have c9b0 : ((rd l0 (ji5)) == (rd l0 a1)) = true := beq_iff_eq.mpr c9
                  have c9b1 : ((rd l0 (ji5)) != (rd l0 a1)) = false := bne_eq_false_iff_eq.mpr c9
                  clear c9
                  have H' := Aside0.mk H
                  clear H
                  have p101 : 0 ≤ ((ji5) : Int) := of_decide_eq_true (by first | (with_reducible assumption) | assumption)
                  have q101 : (ji5) < (l0.length : Int) := of_decide_eq_true (by first | (with_reducible assumption) | assumption)
                  obtain ⟨ad101, e101, hx101_0⟩ := Kd.at_int HR0.out (ji5) p101 q101
                  cases e101
                  replace p101 := eq_true p101
                  replace q101 := eq_true q101
                  have p102 : 0 ≤ (a1 : Int) := of_decide_eq_true (by first | (with_reducible assumption) | assumption)
                  have q102 : a1 < (l0.length : Int) := of_decide_eq_true (by first | (with_reducible assumption) | assumption)
                  obtain ⟨ad102, e102, hx102_0⟩ := Kd.at_int HR0.out a1 p102 q102
                  obtain rfl : ad101 = ad102 := (by injection e102)
                  replace p102 := eq_true p102
                  replace q102 := eq_true q102
                  go_wp2
                  repeat (go_quiet (fail); try go_wp2)
                  go_roundg k1
                  case measure => have := HK1.out; omega
                  case rel => exact ⟨(wrap64 (x5_1 + 1)), (by first | rfl | (simp; done) | (simp [*]; done)), H', ⟨by have := HK1.out; omega⟩, by repeat (first | exact Drawn0.refl _ | apply Drawn0.step)⟩
                · rw [if_neg c9] at H
                  have c9b0 : ((rd l0 (ji5)) == (rd l0 a1)) = false := beq_eq_false_iff_ne.mpr c9
                  have c9b1 : ((rd l0 (ji5)) != (rd l0 a1)) = true := bne_iff_ne.mpr c9
                  obtain rfl := Option.some.inj H
                  have p101 : 0 ≤ ((ji5) : Int) := of_decide_eq_true (by first | (with_reducible assumption) | assumption)
                  have q101 : (ji5) < (l0.length : Int) := of_decide_eq_true (by first | (with_reducible assumption) | assumption)
                  obtain ⟨ad101, e101, hx101_0⟩ := Kd.at_int HR0.out (ji5) p101 q101
                  cases e101
                  replace p101 := eq_true p101
                  replace q101 := eq_true q101
                  have p102 : 0 ≤ (a1 : Int) := of_decide_eq_true (by first | (with_reducible assumption) | assumption)
                  have q102 : a1 < (l0.length : Int) := of_decide_eq_true (by first | (with_reducible assumption) | assumption)
                  obtain ⟨ad102, e102, hx102_0⟩ := Kd.at_int HR0.out a1 p102 q102
                  obtain rfl : ad101 = ad102 := (by injection e102)
                  replace p102 := eq_true p102
                  replace q102 := eq_true q102
                  go_wp2
                  repeat (go_quiet (fail); try go_wp2)
                  go_ret
                  exact ⟨by first | rfl | (simp; done) | (simp only [← hji5] <;> (first | rfl | simp)) | (simp [*]; done), by repeat (first | exact Drawn0.refl _ | apply Drawn0.step)⟩
              · rw [if_neg c8] at H
                exact absurd H (by simp)
            · rw [if_neg c7] at H
              exact absurd H (by simp)
          · rw [if_neg c6] at H
            exact absurd H (by simp)
        · rw [if_neg c4] at H
          have c4b0 : decide ((wrap64 (a1 + x5_1)) < (l0.length : Int)) = false := decide_eq_false c4
          clear c4
          obtain rfl := Option.some.inj H
          go_wp2
          repeat (go_quiet (fail); try go_wp2)
          go_ret
          exact ⟨by first | rfl | (simp; done) | (simp [*]; done), by repeat (first | exact Drawn0.refl _ | apply Drawn0.step)⟩
      · rw [if_neg c3] at H
        have c3b0 : decide (x5_1 < 128) = false := decide_eq_false c3
        clear c3
        obtain rfl := Option.some.inj H
        go_wp2
        repeat (go_quiet (fail); try go_wp2)
        go_ret
        exact ⟨by first | rfl | (simp; done) | (simp [*]; done), by repeat (first | exact Drawn0.refl _ | apply Drawn0.step)⟩

end Go.Proofs.Ytdopkepaandoeaa.Psame
