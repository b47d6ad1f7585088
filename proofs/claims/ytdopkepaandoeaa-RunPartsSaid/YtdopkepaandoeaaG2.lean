-- written by my own driver of the kit's print (wip/tools/myprint.py); Lean checks it.
import Derived.Test.YtdopkepaandoeaaG0
namespace Go.Proofs.Ytdopkepaandoeaa.G
open Go.RowKit Go.Proofs.YtdopkepaandoeaaW.PrintWords Go.Proofs.YtdopkepaandoeaaW.PrintLast Go.Proofs.YtdopkepaandoeaaW.PrintMore
attribute [local go_sem] max2_int min2_int max_two min_two max_three min_three max_four min_four   -- for this text's walks alone
set_option linter.unusedVariables false
set_option linter.unusedSimpArgs false

/-! ### run_Get: function 10 -/
mutual
def run_Get.j0 : Nat → List Int → Int → Bool → Option (List Int × Int)
  | 0, _, _, _ => none
  | k + 1, x0, x1, x14 => if x14 = true then (some (([] : List Int), 1)) else (run_Get.l0 k x0 x1 ([] : List Int))
def run_Get.l0 : Nat → List Int → Int → List Int → Option (List Int × Int)
  | 0, _, _, _ => none
  | k + 1, x0, x1, x6 => if (x0.length : Int) > 0 then (if 0 < (x0.length : Int) then (if 1 ≤ (x0.length : Int) then ((some (x0.drop 1 : List Int)).bind fun y140 => (if (wrap64 ((wrap64 ((wrap64 (rd x0 0)) + 1)) - 1)) = 128 then (some (x6, 0)) else (if (wrap64 ((wrap64 (rd x0 0)) + 1)) > 128 then (run_Get.j2 k y140 x1 x6 1 (wrap64 ((wrap64 (257 - (wrap64 ((wrap64 (rd x0 0)) + 1)))) + 1))) else (run_Get.j2 k y140 x1 x6 (wrap64 ((wrap64 (rd x0 0)) + 1)) 1)))) else (none)) else (none)) else (some (([] : List Int), 6))
def run_Get.j2 : Nat → List Int → Int → List Int → Int → Int → Option (List Int × Int)
  | 0, _, _, _, _, _ => none
  | k + 1, x0, x1, x6, x7, x8 => if x7 > (x0.length : Int) then (some (([] : List Int), 6)) else (if (wrap64 ((x6.length : Int) + (wrap64 (x7 * x8)))) > x1 then (some (([] : List Int), 2)) else (run_Get.l1 k x0 x1 x6 x7 x8 0))
def run_Get.l1 : Nat → List Int → Int → List Int → Int → Int → Int → Option (List Int × Int)
  | 0, _, _, _, _, _, _ => none
  | k + 1, x0, x1, x6, x7, x50, x51 => if x51 < x50 then (if 0 ≤ x7 then (if x7 ≤ (x0.length : Int) then ((some (x0.take (x7 : Int).toNat : List Int)).bind fun y145 => (if x6.length + y145.length < 140737488355328 then (run_Get.l1 k x0 x1 (x6 ++ y145) x7 x50 (wrap64 (x51 + 1))) else (none))) else (none)) else (none)) else (if 0 ≤ x7 then (if x7 ≤ (x0.length : Int) then (run_Get.l0 k (x0.drop (x7 : Int).toNat) x1 x6) else (none)) else (none))
end
def run_Get.f (k : Nat) (l0 : List Int) (a1 : Int) : Option (List Int × Int) := if a1 < 0 then (run_Get.j0 k l0 a1 true) else (run_Get.j0 k l0 a1 (decide (a1 > 1048576)))
theorem run_Get.mono_l : ∀ k, (∀ y0 y1 y2, LeO (run_Get.j0 k y0 y1 y2) (run_Get.j0 (k + 1) y0 y1 y2)) ∧ (∀ y0 y1 y2, LeO (run_Get.l0 k y0 y1 y2) (run_Get.l0 (k + 1) y0 y1 y2)) ∧ (∀ y0 y1 y2 y3 y4, LeO (run_Get.j2 k y0 y1 y2 y3 y4) (run_Get.j2 (k + 1) y0 y1 y2 y3 y4)) ∧ (∀ y0 y1 y2 y3 y4 y5, LeO (run_Get.l1 k y0 y1 y2 y3 y4 y5) (run_Get.l1 (k + 1) y0 y1 y2 y3 y4 y5))
  | 0 => ⟨fun _ _ _ r h => by simp [run_Get.j0] at h, fun _ _ _ r h => by simp [run_Get.l0] at h, fun _ _ _ _ _ r h => by simp [run_Get.j2] at h, fun _ _ _ _ _ _ r h => by simp [run_Get.l1] at h⟩
  | k + 1 => by
    obtain ⟨ih0, ih1, ih2, ih3⟩ := run_Get.mono_l k
    refine ⟨?_, ?_, ?_, ?_⟩
    · intro y0 y1 y2
      unfold run_Get.j0
      repeat' first
      | (with_reducible exact ih0 _ _ _)
      | (with_reducible exact ih1 _ _ _)
      | (with_reducible exact ih2 _ _ _ _ _)
      | (with_reducible exact ih3 _ _ _ _ _ _)
      | (with_reducible exact LeO.refl _)
      | (with_reducible exact LeO.none _)
      | (with_reducible refine LeO.ite ?_ ?_)
      | (with_reducible refine LeO.bind ?_ (fun _ => ?_))
      | exact ih0 _ _ _
      | exact ih1 _ _ _
      | exact ih2 _ _ _ _ _
      | exact ih3 _ _ _ _ _ _
      | exact LeO.none _
      | refine LeO.ite ?_ ?_
      | refine LeO.bind ?_ (fun _ => ?_)
    · intro y0 y1 y2
      unfold run_Get.l0
      repeat' first
      | (with_reducible exact ih0 _ _ _)
      | (with_reducible exact ih1 _ _ _)
      | (with_reducible exact ih2 _ _ _ _ _)
      | (with_reducible exact ih3 _ _ _ _ _ _)
      | (with_reducible exact LeO.refl _)
      | (with_reducible exact LeO.none _)
      | (with_reducible refine LeO.ite ?_ ?_)
      | (with_reducible refine LeO.bind ?_ (fun _ => ?_))
      | exact ih0 _ _ _
      | exact ih1 _ _ _
      | exact ih2 _ _ _ _ _
      | exact ih3 _ _ _ _ _ _
      | exact LeO.none _
      | refine LeO.ite ?_ ?_
      | refine LeO.bind ?_ (fun _ => ?_)
    · intro y0 y1 y2 y3 y4
      unfold run_Get.j2
      repeat' first
      | (with_reducible exact ih0 _ _ _)
      | (with_reducible exact ih1 _ _ _)
      | (with_reducible exact ih2 _ _ _ _ _)
      | (with_reducible exact ih3 _ _ _ _ _ _)
      | (with_reducible exact LeO.refl _)
      | (with_reducible exact LeO.none _)
      | (with_reducible refine LeO.ite ?_ ?_)
      | (with_reducible refine LeO.bind ?_ (fun _ => ?_))
      | exact ih0 _ _ _
      | exact ih1 _ _ _
      | exact ih2 _ _ _ _ _
      | exact ih3 _ _ _ _ _ _
      | exact LeO.none _
      | refine LeO.ite ?_ ?_
      | refine LeO.bind ?_ (fun _ => ?_)
    · intro y0 y1 y2 y3 y4 y5
      unfold run_Get.l1
      repeat' first
      | (with_reducible exact ih0 _ _ _)
      | (with_reducible exact ih1 _ _ _)
      | (with_reducible exact ih2 _ _ _ _ _)
      | (with_reducible exact ih3 _ _ _ _ _ _)
      | (with_reducible exact LeO.refl _)
      | (with_reducible exact LeO.none _)
      | (with_reducible refine LeO.ite ?_ ?_)
      | (with_reducible refine LeO.bind ?_ (fun _ => ?_))
      | exact ih0 _ _ _
      | exact ih1 _ _ _
      | exact ih2 _ _ _ _ _
      | exact ih3 _ _ _ _ _ _
      | exact LeO.none _
      | refine LeO.ite ?_ ?_
      | refine LeO.bind ?_ (fun _ => ?_)
theorem run_Get.mono : ∀ a0 a1 k, LeO (run_Get.f k a0 a1) (run_Get.f (k + 1) a0 a1) := by
  intro a0 a1 k
  obtain ⟨ih0, ih1, ih2, ih3⟩ := run_Get.mono_l k
  unfold run_Get.f
  repeat' first
      | (with_reducible exact ih0 _ _ _)
      | (with_reducible exact ih1 _ _ _)
      | (with_reducible exact ih2 _ _ _ _ _)
      | (with_reducible exact ih3 _ _ _ _ _ _)
      | (with_reducible exact LeO.refl _)
      | (with_reducible exact LeO.none _)
      | (with_reducible refine LeO.ite ?_ ?_)
      | (with_reducible refine LeO.bind ?_ (fun _ => ?_))
      | exact ih0 _ _ _
      | exact ih1 _ _ _
      | exact ih2 _ _ _ _ _
      | exact ih3 _ _ _ _ _ _
      | exact LeO.none _
      | refine LeO.ite ?_ ?_
      | refine LeO.bind ?_ (fun _ => ?_)
set_option maxHeartbeats 8000000 in
set_option maxRecDepth 100000 in
theorem run_Get.calls (k : Nat) (P0_ : Nat → Prop) (A0 : Option Addr) (c0 : Nat) (l0 : List Int) (a1 : Int) (r1 : List Int) (r2 : Int) (w : World) (hs0 : Kd.V (Kd.int .u8) 5 w w.heap.size (fun k_ => P0_ k_) (.slice A0 l0.length c0) l0) (h : run_Get.f k l0 a1 = some (r1, r2)) :
    Calls Try.prog 10 #[.slice A0 l0.length c0, .int .i64 a1] w fun e w' => ∃ v0_ : Value, e = .returned (.tuple #[v0_, .int .i64 r2]) ∧ Kd.R (Kd.int .u8) 5 w' w.heap.size (fun k_ => (w.heap.size ≤ k_)) v0_ r1 ∧ Below w.heap.size w w' := by
  have HO0 := Aside0.mk (show Kd.V (Kd.int .u8) 5 w w.heap.size (fun k_ => (P0_ k_ ∨ w.heap.size ≤ k_)) (.slice A0 l0.length c0) l0 from Kd.V_mono hs0 (fun k_ hk => .inl hk))
  have HB := Aside0.mk (Below.refl w.heap.size w)
  have H : (if a1 < 0 then (run_Get.j0 k l0 a1 true) else (run_Get.j0 k l0 a1 (decide (a1 > 1048576)))) = some (r1, r2) := h
  clear h
  have HC3 := Aside0.mk H
  clear H
  go_enter Try.func10, Try.ntmps10
  go_upto_region 1 with (fail)
  go_cut [14] (fun v14 wc => ∃ (kq : Nat) (x14_2 : Bool), v14 = .bool x14_2 ∧ Aside0 (run_Get.j0 kq l0 a1 x14_2 = some (r1, r2)) ∧ Aside0 (kq ≤ k) ∧ Aside0 (Kd.V (Kd.int .u8) 5 wc w.heap.size (fun k_ => (P0_ k_ ∨ w.heap.size ≤ k_)) (.slice A0 l0.length c0) l0) ∧ Aside0 (Below w.heap.size w wc))
  case first =>
    have H := HC3.out
    clear HC3
    by_cases c4 : a1 < 0
    · rw [if_pos c4] at H
      have c4b0 : decide (a1 < 0) = true := decide_eq_true c4
      clear c4
      (first | rw [c4b0] | (simp only [i64_w, i32_w]; rw [c4b0]) | skip)
      have H' := Aside0.mk H
      clear H
      go_wp2
      go_meet
      case rel => exact ⟨_, (true), (by first | rfl | (simp; done) | (simp [*]; done)), H', ⟨by first | omega | exact Nat.le_refl _⟩, ⟨by (with_reducible repeat (first | apply Kd.V_alloc | apply Kd.V_drewN | apply Kd.V_drew)); exact HO0.out⟩, ⟨by repeat (first | (with_reducible first | exact HB.out | apply below_alloc | apply pw_below_drewN | apply below_drew1) | exact HB.out)⟩⟩
    · rw [if_neg c4] at H
      have c4b0 : decide (a1 < 0) = false := decide_eq_false c4
      clear c4
      (first | rw [c4b0] | (simp only [i64_w, i32_w]; rw [c4b0]) | skip)
      have H' := Aside0.mk H
      clear H
      go_wp2
      go_meet
      case rel => exact ⟨_, (decide (a1 > 1048576)), (by first | rfl | (simp; done) | (simp [*]; done)), H', ⟨by first | omega | exact Nat.le_refl _⟩, ⟨by (with_reducible repeat (first | apply Kd.V_alloc | apply Kd.V_drewN | apply Kd.V_drew)); exact HO0.out⟩, ⟨by repeat (first | (with_reducible first | exact HB.out | apply below_alloc | apply pw_below_drewN | apply below_drew1) | exact HB.out)⟩⟩
  case rest =>
    clear HC3
    try clear c1
    try clear p2
    try clear c4
    try clear c4b0
    obtain ⟨kq, x14_2, rfl, HA, HJ2, HO_0, HB⟩ := hcut
    cases kq with
    | zero => exact absurd HA.out (by simp [run_Get.j0])
    | succ kj2 =>
      have H := HA.out
      clear HA
      simp only [run_Get.j0] at H
      by_cases c5 : x14_2 = true
      · subst c5
        have H1 : (some (([] : List Int), 1)) = some (r1, r2) := by rw [if_pos rfl] at H; exact H
        clear H
        have H := H1
        clear H1
        simp only [Option.some.injEq, Prod.mk.injEq] at H
        obtain ⟨rfl, rfl⟩ := H
        go_wp2
        go_ret2
        exact ⟨_, by first | rfl | (simp [errW_none, errW_some] <;> rfl) | (simp [*, errW_none, errW_some] <;> rfl), by first | exact Kd.R_nil _ _ _ _ _ | exact Kd.N_nil _ _ _ _ _ | exact Kd.V_nil _ _ _ _ _ | exact Kd.Q_nil _ _ _ _ _ | exact Kd.S_nil _ _ _ _ _, by repeat (first | (with_reducible first | exact HB.out | apply below_alloc | apply pw_below_drewN | apply below_drew1) | exact HB.out)⟩
      · replace c5 := Bool.eq_false_iff.mpr c5
        subst c5
        have H1 : (run_Get.l0 kj2 l0 a1 ([] : List Int)) = some (r1, r2) := by rw [if_neg (show ¬ (false = true) by decide)] at H; exact H
        clear H
        have H := H1
        clear H1
        have H' := Aside0.mk H
        clear H
        go_wp2
        go_loopg [0, 6] kj2 (fun kq v0 v6 w' => ∃ (x0_2 : List Int) (x6_2 : List Int), Aside0 (run_Get.l0 kq x0_2 a1 x6_2 = some (r1, r2)) ∧ Aside0 (kq ≤ kj2) ∧ Aside0 (Kd.V (Kd.int .u8) 5 w' w.heap.size (fun k_ => (P0_ k_ ∨ w.heap.size ≤ k_) ∧ some k_ ≠ (v6 : Value).ownBlock) v0 x0_2) ∧ Aside0 (Kd.R (Kd.int .u8) 5 w' w.heap.size (fun k_ => (w.heap.size ≤ k_)) v6 x6_2) ∧ Aside0 (Below w.heap.size w w'))
        case atStart => exact ⟨(l0), (([] : List Int)), H', ⟨Nat.le_refl _⟩, ⟨by (with_reducible repeat (first | apply Kd.V_alloc | apply Kd.V_drewN | apply Kd.V_drew)); exact Kd.V_mono HO_0.out (fun _ hk => ⟨hk, (by simp [Value.ownBlock])⟩)⟩, ⟨by first | exact Kd.R_nil _ _ _ _ _ | exact Kd.N_nil _ _ _ _ _ | exact Kd.V_nil _ _ _ _ _ | exact Kd.Q_nil _ _ _ _ _ | exact Kd.S_nil _ _ _ _ _⟩, ⟨by repeat (first | (with_reducible first | exact HB.out | apply below_alloc | apply pw_below_drewN | apply below_drew1) | exact HB.out)⟩⟩
        case round =>
          clear H'
          try clear c1
          try clear p2
          try clear c4
          try clear c4b0
          try clear c5
          try clear p2
          obtain ⟨x0_2, x6_2, HA, HK2, HO_0, HO_6, HB⟩ := hrel
          cases gk with
          | zero => exact absurd HA.out (by simp [run_Get.l0])
          | succ k2 =>
            have H := HA.out
            clear HA
            simp only [run_Get.l0] at H
            by_cases c6 : (x0_2.length : Int) > 0
            · rw [if_pos c6] at H
              have c6b0 : decide (0 < (x0_2.length : Int)) = true := decide_eq_true c6
              have c6b1 : decide (0 < x0_2.length) = true := decide_eq_true (by omega)
              clear c6
              by_cases c7 : 0 < (x0_2.length : Int)
              · rw [if_pos c7] at H
                have c7b0 : decide (0 < (x0_2.length : Int)) = true := decide_eq_true c7
                have c7b1 : decide (0 < x0_2.length) = true := decide_eq_true (by omega)
                clear c7
                by_cases c8 : 1 ≤ (x0_2.length : Int)
                · rw [if_pos c8] at H
                  have c8b0 := eq_true c8
                  have c8b1 : decide (1 ≤ (x0_2.length : Int)) = true := decide_eq_true c8
                  clear c8
                  obtain ⟨y140, hy140⟩ : ∃ y_ : List Int, y_ = (x0_2.drop 1) := ⟨_, rfl⟩
                  replace H : (if (wrap64 ((wrap64 ((wrap64 (rd x0_2 0)) + 1)) - 1)) = 128 then (some (x6_2, 0)) else (if (wrap64 ((wrap64 (rd x0_2 0)) + 1)) > 128 then (run_Get.j2 k2 y140 a1 x6_2 1 (wrap64 ((wrap64 (257 - (wrap64 ((wrap64 (rd x0_2 0)) + 1)))) + 1))) else (run_Get.j2 k2 y140 a1 x6_2 (wrap64 ((wrap64 (rd x0_2 0)) + 1)) 1))) = some (r1, r2) := by first | (rw [hy140]; with_reducible exact H) | (have H2_ := (Option.bind_some _ _).symm.trans H; rw [hy140]; with_reducible exact H2_) | (have H2_ := (Option.bind_some _ _).symm.trans H; with_reducible exact H2_) | with_reducible exact H | (rw [hy140]; exact H) | exact H
                  have Ny140 := Aside0.mk hy140
                  clear hy140
                  have HC9 := Aside0.mk H
                  clear H
                  obtain ⟨Ao10, co10, eo10⟩ := Kd.V_slice HO_0.out
                  subst eo10
                  have p139 : 0 ≤ (0 : Int) := (by omega)
                  have q139 : 0 < (x0_2.length : Int) := of_decide_eq_true (by first | (with_reducible assumption) | assumption)
                  obtain ⟨ad139, e139, hx139_0⟩ := Kd.at_int (Kd.V_reads' HO_0.out).2.2 0 p139 q139
                  cases e139
                  have qi139 : (0 < x0_2.length) = True := eq_true (by omega)
                  (try rw [show ((0 : Int)).toNat = 0 from rfl] at hx139_0)
                  (try rw [Addr.add_zero'] at hx139_0)
                  replace p139 := eq_true p139
                  replace q139 := eq_true q139
                  have q11 : (1 : Int) ≤ ((x0_2.length : Int) : Int) := of_decide_eq_true (by first | (with_reducible assumption) | assumption)
                  obtain ⟨i011, hi011, _, hsz11, _⟩ := info_parts info5
                  have hroom11 : x0_2.length ≤ co10 := (Kd.V_reads' HO_0.out).2.1
                  have hC11 : Kd.F (Kd.int .u8) _ _ (some ad139) x0_2.length x0_2 := (Kd.V_at (base := w.heap.size) HO_0.out).2.2
                  have hcut11 := cut_from (P := Try.prog) 22 5 .i64 Try.underlying22 hi011 1 hsz11 (some ad139) x0_2.length co10 1 (by omega) q11
                  have hr11 := Kd.F_cut (m := (1 : Int).toNat) (c := co10) hC11 (by omega) hroom11
                  obtain ⟨A11, hA11⟩ : ∃ A1, A1 = (if co10 = (1 : Int).toNat then (some ad139) else ((some ad139) : Option Addr).map (·.add ((1 : Int).toNat * 1))) := ⟨_, rfl⟩
                  obtain ⟨c11, hc11⟩ : ∃ c1, c1 = co10 - (1 : Int).toNat := ⟨_, rfl⟩
                  have hy11 : y140.length = x0_2.length - (1 : Int).toNat := (by rw [Ny140.out, List.length_drop] <;> omega)
                  rw [show (x0_2).drop (1 : Int).toNat = y140 from Ny140.out.symm] at hr11
                  replace hr11 : Kd.F (Kd.int .u8) _ _ A11 y140.length y140 := (by rw [hA11]; exact hr11)
                  rw [← hy11, ← hA11, ← hc11] at hcut11
                  have HO144 := Aside0.mk (show Kd.V (Kd.int .u8) 5 _ w.heap.size _ (.slice A11 y140.length c11) y140 from Kd.V_mk (by rw [hy11, hc11]; exact Nat.sub_le_sub_right hroom11 _) hr11)
                  have HC144 := Aside0.mk (show y140.length ≤ c11 from by rw [hy11, hc11]; exact Nat.sub_le_sub_right hroom11 _)
                  clear hr11 hC11 hroom11 hi011 hsz11 hc11
                  have KY11 := Aside0.mk hy11
                  have KA11 := Aside0.mk hA11
                  clear hy11 hA11
                  replace q11 := eq_true q11
                  go_upto_block 2 with (fail)
                  go_cut [7, 8] (fun v7 v8 wc => ∃ (kq : Nat) (x7_8 : Int) (x8_8 : Int), v7 = .int .i64 x7_8 ∧ v8 = .int .i64 x8_8 ∧ Aside0 (run_Get.j2 kq y140 a1 x6_2 x7_8 x8_8 = some (r1, r2)) ∧ Aside0 (kq ≤ k2) ∧ Aside0 (Kd.V (Kd.int .u8) 5 wc w.heap.size (fun k_ => (P0_ k_ ∨ w.heap.size ≤ k_) ∧ some k_ ≠ (u6 : Value).ownBlock) (.slice A11 y140.length c11) y140) ∧ Aside0 (Kd.R (Kd.int .u8) 5 wc w.heap.size (fun k_ => (w.heap.size ≤ k_)) u6 x6_2) ∧ Aside0 (Below w.heap.size w wc))
                  case first =>
                    have H := HC9.out
                    clear HC9
                    by_cases c12 : (wrap64 ((wrap64 ((wrap64 (rd x0_2 0)) + 1)) - 1)) = 128
                    · rw [if_pos c12] at H
                      have c12b0 : ((wrap64 ((wrap64 ((wrap64 (rd x0_2 0)) + 1)) - 1)) == 128) = true := beq_iff_eq.mpr c12
                      have c12b1 : ((wrap64 ((wrap64 ((wrap64 (rd x0_2 0)) + 1)) - 1)) != 128) = false := bne_eq_false_iff_eq.mpr c12
                      clear c12
                      (first | rw [c12b0] | (simp only [i64_w, i32_w]; rw [c12b0]) | skip)
                      simp only [Option.some.injEq, Prod.mk.injEq] at H
                      obtain ⟨rfl, rfl⟩ := H
                      go_wp2
                      go_ret2
                      exact ⟨_, by first | rfl | (simp [errW_none, errW_some] <;> rfl) | (simp [*, errW_none, errW_some] <;> rfl), by (with_reducible repeat (first | apply Kd.R_alloc | apply Kd.R_drewN | apply Kd.R_drew)); exact HO_6.out, by repeat (first | (with_reducible first | exact HB.out | apply below_alloc | apply pw_below_drewN | apply below_drew1) | exact HB.out)⟩
                    · rw [if_neg c12] at H
                      have c12b0 : ((wrap64 ((wrap64 ((wrap64 (rd x0_2 0)) + 1)) - 1)) == 128) = false := beq_eq_false_iff_ne.mpr c12
                      have c12b1 : ((wrap64 ((wrap64 ((wrap64 (rd x0_2 0)) + 1)) - 1)) != 128) = true := bne_iff_ne.mpr c12
                      (first | rw [c12b0] | (simp only [i64_w, i32_w]; rw [c12b0]) | skip)
                      by_cases c13 : (wrap64 ((wrap64 (rd x0_2 0)) + 1)) > 128
                      · rw [if_pos c13] at H
                        have c13b0 : decide (128 < (wrap64 ((wrap64 (rd x0_2 0)) + 1))) = true := decide_eq_true c13
                        clear c13
                        have H' := Aside0.mk H
                        clear H
                        go_wp2
                        go_meet
                        case rel => exact ⟨_, (1), (wrap64 ((wrap64 (257 - (wrap64 ((wrap64 (rd x0_2 0)) + 1)))) + 1)), (by first | rfl | (simp; done) | (simp [*]; done)), (by first | rfl | (simp; done) | (simp [*]; done)), H', ⟨by have := HJ2.out; have := HK2.out; first | omega | exact Nat.le_refl _⟩, ⟨by (with_reducible repeat (first | apply Kd.V_alloc | apply Kd.V_drewN | apply Kd.V_drew)); exact HO144.out⟩, ⟨by (with_reducible repeat (first | apply Kd.R_alloc | apply Kd.R_drewN | apply Kd.R_drew)); exact HO_6.out⟩, ⟨by repeat (first | (with_reducible first | exact HB.out | apply below_alloc | apply pw_below_drewN | apply below_drew1) | exact HB.out)⟩⟩
                      · rw [if_neg c13] at H
                        have c13b0 : decide (128 < (wrap64 ((wrap64 (rd x0_2 0)) + 1))) = false := decide_eq_false c13
                        clear c13
                        have H' := Aside0.mk H
                        clear H
                        go_wp2
                        go_meet
                        case rel => exact ⟨_, (wrap64 ((wrap64 (rd x0_2 0)) + 1)), (1), (by first | rfl | (simp; done) | (simp [*]; done)), (by first | rfl | (simp; done) | (simp [*]; done)), H', ⟨by have := HJ2.out; have := HK2.out; first | omega | exact Nat.le_refl _⟩, ⟨by (with_reducible repeat (first | apply Kd.V_alloc | apply Kd.V_drewN | apply Kd.V_drew)); exact HO144.out⟩, ⟨by (with_reducible repeat (first | apply Kd.R_alloc | apply Kd.R_drewN | apply Kd.R_drew)); exact HO_6.out⟩, ⟨by repeat (first | (with_reducible first | exact HB.out | apply below_alloc | apply pw_below_drewN | apply below_drew1) | exact HB.out)⟩⟩
                  case rest =>
                    clear HC9
                    try clear c1
                    try clear p1
                    try clear q1
                    try clear hx1
                    try clear qi1
                    try clear p2
                    try clear c4
                    try clear c4b0
                    try clear c5
                    try clear c6
                    try clear c6b0
                    try clear c6b1
                    try clear p6
                    try clear c7
                    try clear c7b0
                    try clear c7b1
                    try clear c8
                    try clear c8b0
                    try clear c8b1
                    try clear c10
                    try clear c11
                    try clear q11
                    try clear c12
                    try clear c12b0
                    try clear c12b1
                    try clear c13
                    try clear c13b0
                    try clear p13
                    try clear q13
                    try clear hx13
                    try clear qi13
                    try clear hx139_0
                    try clear p139
                    try clear p2
                    try clear q11
                    try clear q139
                    obtain ⟨kq, x7_8, x8_8, rfl, rfl, HA, HJ8, HO_0, HO_6, HB⟩ := hcut
                    cases kq with
                    | zero => exact absurd HA.out (by simp [run_Get.j2])
                    | succ kj8 =>
                      have H := HA.out
                      clear HA
                      simp only [run_Get.j2] at H
                      by_cases c14 : x7_8 > (y140.length : Int)
                      · rw [if_pos c14] at H
                        have c14b0 : decide ((y140.length : Int) < x7_8) = true := decide_eq_true c14
                        clear c14
                        simp only [Option.some.injEq, Prod.mk.injEq] at H
                        obtain ⟨rfl, rfl⟩ := H
                        go_wp2
                        go_ret2
                        exact ⟨_, by first | rfl | (simp [errW_none, errW_some] <;> rfl) | (simp [*, errW_none, errW_some] <;> rfl), by first | exact Kd.R_nil _ _ _ _ _ | exact Kd.N_nil _ _ _ _ _ | exact Kd.V_nil _ _ _ _ _ | exact Kd.Q_nil _ _ _ _ _ | exact Kd.S_nil _ _ _ _ _, by repeat (first | (with_reducible first | exact HB.out | apply below_alloc | apply pw_below_drewN | apply below_drew1) | exact HB.out)⟩
                      · rw [if_neg c14] at H
                        have c14b0 : decide ((y140.length : Int) < x7_8) = false := decide_eq_false c14
                        clear c14
                        by_cases c15 : (wrap64 ((x6_2.length : Int) + (wrap64 (x7_8 * x8_8)))) > a1
                        · rw [if_pos c15] at H
                          have c15b0 : decide (a1 < (wrap64 ((x6_2.length : Int) + (wrap64 (x7_8 * x8_8))))) = true := decide_eq_true c15
                          clear c15
                          simp only [Option.some.injEq, Prod.mk.injEq] at H
                          obtain ⟨rfl, rfl⟩ := H
                          obtain ⟨Ao16, co16, eo16⟩ := Kd.R_slice HO_6.out
                          subst eo16
                          go_wp2
                          go_ret2
                          exact ⟨_, by first | rfl | (simp [errW_none, errW_some] <;> rfl) | (simp [*, errW_none, errW_some] <;> rfl), by first | exact Kd.R_nil _ _ _ _ _ | exact Kd.N_nil _ _ _ _ _ | exact Kd.V_nil _ _ _ _ _ | exact Kd.Q_nil _ _ _ _ _ | exact Kd.S_nil _ _ _ _ _, by repeat (first | (with_reducible first | exact HB.out | apply below_alloc | apply pw_below_drewN | apply below_drew1) | exact HB.out)⟩
                        · rw [if_neg c15] at H
                          have c15b0 : decide (a1 < (wrap64 ((x6_2.length : Int) + (wrap64 (x7_8 * x8_8))))) = false := decide_eq_false c15
                          clear c15
                          have H' := Aside0.mk H
                          clear H
                          obtain ⟨Ao17, co17, eo17⟩ := Kd.R_slice HO_6.out
                          subst eo17
                          go_wp2
                          go_loopg [6, 51] kj8 (fun kq v6 v51 w' => ∃ (x6_4 : List Int) (x51_4 : Int), v51 = .int .i64 x51_4 ∧ Aside0 (run_Get.l1 kq y140 a1 x6_4 x7_8 x8_8 x51_4 = some (r1, r2)) ∧ Aside0 (kq ≤ kj8) ∧ Aside0 (Kd.V (Kd.int .u8) 5 w' w.heap.size (fun k_ => (P0_ k_ ∨ w.heap.size ≤ k_) ∧ some k_ ≠ (v6 : Value).ownBlock) (.slice A11 y140.length c11) y140) ∧ Aside0 (Kd.R (Kd.int .u8) 5 w' w.heap.size (fun k_ => (w.heap.size ≤ k_)) v6 x6_4) ∧ Aside0 (Below w.heap.size w w'))
                          case atStart => exact ⟨(x6_2), (0), (by first | rfl | (simp; done) | (simp [*]; done)), H', ⟨Nat.le_refl _⟩, ⟨by (with_reducible repeat (first | apply Kd.V_alloc | apply Kd.V_drewN | apply Kd.V_drew)); exact HO_0.out⟩, ⟨by (with_reducible repeat (first | apply Kd.R_alloc | apply Kd.R_drewN | apply Kd.R_drew)); exact HO_6.out⟩, ⟨by repeat (first | (with_reducible first | exact HB.out | apply below_alloc | apply pw_below_drewN | apply below_drew1) | exact HB.out)⟩⟩
                          case round =>
                            clear H'
                            try clear c1
                            try clear p1
                            try clear q1
                            try clear hx1
                            try clear qi1
                            try clear p2
                            try clear c4
                            try clear c4b0
                            try clear c5
                            try clear c6
                            try clear c6b0
                            try clear c6b1
                            try clear p6
                            try clear c7
                            try clear c7b0
                            try clear c7b1
                            try clear c8
                            try clear c8b0
                            try clear c8b1
                            try clear c10
                            try clear c11
                            try clear q11
                            try clear c12
                            try clear c12b0
                            try clear c12b1
                            try clear c13
                            try clear c13b0
                            try clear p13
                            try clear q13
                            try clear hx13
                            try clear qi13
                            try clear c14
                            try clear c14b0
                            try clear c15
                            try clear c15b0
                            try clear hx139_0
                            try clear p1
                            try clear p13
                            try clear p139
                            try clear p2
                            try clear p6
                            try clear q1
                            try clear q11
                            try clear q13
                            try clear q139
                            obtain ⟨x6_4, x51_4, rfl, HA, HK4, HO_0, HO_6, HB⟩ := hrel
                            cases gk with
                            | zero => exact absurd HA.out (by simp [run_Get.l1])
                            | succ k4 =>
                              have H := HA.out
                              clear HA
                              simp only [run_Get.l1] at H
                              by_cases c18 : x51_4 < x8_8
                              · rw [if_pos c18] at H
                                have c18b0 : decide (x51_4 < x8_8) = true := decide_eq_true c18
                                clear c18
                                by_cases c19 : 0 ≤ x7_8
                                · rw [if_pos c19] at H
                                  have c19b0 := eq_true c19
                                  have c19b1 : decide (0 ≤ x7_8) = true := decide_eq_true c19
                                  clear c19
                                  by_cases c20 : x7_8 ≤ (y140.length : Int)
                                  · rw [if_pos c20] at H
                                    have c20b0 := eq_true c20
                                    have c20b1 : decide (x7_8 ≤ (y140.length : Int)) = true := decide_eq_true c20
                                    clear c20
                                    obtain ⟨y145, hy145⟩ : ∃ y_ : List Int, y_ = (y140.take (x7_8 : Int).toNat) := ⟨_, rfl⟩
                                    replace H : (if x6_4.length + y145.length < 140737488355328 then (run_Get.l1 k4 y140 a1 (x6_4 ++ y145) x7_8 x8_8 (wrap64 (x51_4 + 1))) else (none)) = some (r1, r2) := by first | (rw [hy145]; with_reducible exact H) | (have H2_ := (Option.bind_some _ _).symm.trans H; rw [hy145]; with_reducible exact H2_) | (have H2_ := (Option.bind_some _ _).symm.trans H; with_reducible exact H2_) | with_reducible exact H | (rw [hy145]; exact H) | exact H
                                    have Ny145 := Aside0.mk hy145
                                    clear hy145
                                    by_cases c21 : x6_4.length + y145.length < 140737488355328
                                    · rw [if_pos c21] at H
                                      have LMc21 := Aside0.mk c21
                                      clear c21
                                      obtain ⟨y150, hy150⟩ : ∃ y_ : List Int, y_ = (x6_4 ++ y145) := ⟨_, rfl⟩
                                      replace H : (run_Get.l1 k4 y140 a1 y150 x7_8 x8_8 (wrap64 (x51_4 + 1))) = some (r1, r2) := by first | (rw [hy150]; with_reducible exact H) | (have H2_ := (Option.bind_some _ _).symm.trans H; rw [hy150]; with_reducible exact H2_) | (have H2_ := (Option.bind_some _ _).symm.trans H; with_reducible exact H2_) | with_reducible exact H | (rw [hy150]; exact H) | exact H
                                      have Ny150 := Aside0.mk hy150
                                      clear hy150
                                      have H' := Aside0.mk H
                                      clear H
                                      have q22 : (x7_8 : Int) ≤ ((y140.length : Int) : Int) := of_decide_eq_true (by first | (with_reducible assumption) | assumption)
                                      obtain ⟨i022, hi022, _, hsz22, _⟩ := info_parts info5
                                      have hroom22 : y140.length ≤ c11 := (Kd.V_reads' HO_0.out).2.1
                                      have hC22 : Kd.F (Kd.int .u8) _ _ A11 y140.length y140 := (Kd.V_at (base := w.heap.size) HO_0.out).2.2
                                      have hcut22 := cut_to (P := Try.prog) 22 5 .i64 Try.underlying22 hi022 A11 y140.length c11 x7_8 (of_decide_eq_true (by first | (with_reducible assumption) | assumption)) q22 hroom22
                                      have hr22 := Kd.F_take (m := (x7_8 : Int).toNat) hC22 (by omega)
                                      have hy22 : y145.length = (x7_8 : Int).toNat := (by rw [Ny145.out, List.length_take]; omega)
                                      rw [← Ny145.out] at hr22
                                      rw [← hy22] at hcut22
                                      have HO149 := Aside0.mk (show Kd.V (Kd.int .u8) 5 _ w.heap.size _ (.slice A11 y145.length c11) y145 from Kd.V_mk (by omega) hr22)
                                      have HC149 := Aside0.mk (show y145.length ≤ c11 from by omega)
                                      clear hr22 hC22 hroom22 hi022 hsz22
                                      have KY22 := Aside0.mk hy22
                                      clear hy22
                                      replace q22 := eq_true q22
                                      go_wp2_with (first | ((with_reducible refine gate_builtin (b := .append) (xs := #[.tmp 53, .tmp 56]) rfl ?_); at_builtin; refine Kd.R_append_rows (Kd.int .u8) (w0 := w) w.heap.size rfl (.tmp 53) (.tmp 56) 22 5 (.int .u8 0) 1 rfl Try.underlying22 info5 rfl (by decide) (by omega) u6 x6_4 y145 _ _ _ (fun k_ => (w.heap.size ≤ k_)) (fun _ => False) rfl rfl ?aO ?aR (fun _ _ h => h) (fun _ h => h.elim) ?aF ?aB ?aS ?aL ?_; (case aR => repeat (first | exact (Kd.V_reads' HO149.out).2.2 | (with_reducible refine Kd.C_alloc ?_ _) | (with_reducible refine Kd.C_drewN ?_ _) | (with_reducible refine Kd.C_drew ?_))); (case aB => exact (by repeat (first | (with_reducible first | exact HB.out | apply below_alloc | apply pw_below_drewN | apply below_drew1) | exact HB.out))); (case aF => exact (fun k_ hk => (Nat.le_trans (below_size (by repeat (first | (with_reducible first | exact HB.out | apply below_alloc | apply pw_below_drewN | apply below_drew1) | exact HB.out))) hk))); (case aO => exact (by (with_reducible repeat (first | apply Kd.R_alloc | apply Kd.R_drewN | apply Kd.R_drew)); exact HO_6.out)); (case aS => exact (below_size (by repeat (first | (with_reducible first | exact HB.out | apply below_alloc | apply pw_below_drewN | apply below_drew1) | exact HB.out)))); (case aL => have := LMc21.out; omega); intro v151 w23 ho hb hg hat; rw [← Ny150.out] at ho; have n0_ := Aside0.mk (Kd.V_afterv (ok := (fun k_ => (P0_ k_ ∨ w.heap.size ≤ k_))) (by (with_reducible repeat (first | apply Kd.V_alloc | apply Kd.V_drewN | apply Kd.V_drew)); exact HO_0.out) hg hat); have n1_ := Aside0.mk (Kd.V_afterv (ok := (fun k_ => (P0_ k_ ∨ w.heap.size ≤ k_))) (by (with_reducible repeat (first | apply Kd.V_alloc | apply Kd.V_drewN | apply Kd.V_drew)); exact HO149.out) hg hat); have n2_ := Aside0.mk (hb); have n3_ := Aside0.mk (ho); clear HO_0; clear HO149; clear HB; clear HO_6; have HO_0 := n0_; have HO149 := n1_; have HB := n2_; have HO152 := n3_; clear n0_ n1_ n2_ n3_; clear ho hb hg hat))
                                      go_roundg k4
                                      case measure => have := HJ2.out; have := HK2.out; have := HJ8.out; have := HK4.out; omega
                                      case rel => exact ⟨(y150), (wrap64 (x51_4 + 1)), (by first | rfl | (simp; done) | (simp [*]; done)), H', ⟨by have := HJ2.out; have := HK2.out; have := HJ8.out; have := HK4.out; omega⟩, ⟨by (with_reducible repeat (first | apply Kd.V_alloc | apply Kd.V_drewN | apply Kd.V_drew)); exact HO_0.out⟩, ⟨by (with_reducible repeat (first | apply Kd.R_alloc | apply Kd.R_drewN | apply Kd.R_drew)); exact HO152.out⟩, ⟨by repeat (first | (with_reducible first | exact HB.out | apply below_alloc | apply pw_below_drewN | apply below_drew1) | exact HB.out)⟩⟩
                                    · rw [if_neg c21] at H
                                      exact absurd H (by simp)
                                  · rw [if_neg c20] at H
                                    exact absurd H (by simp)
                                · rw [if_neg c19] at H
                                  exact absurd H (by simp)
                              · rw [if_neg c18] at H
                                have c18b0 : decide (x51_4 < x8_8) = false := decide_eq_false c18
                                clear c18
                                by_cases c24 : 0 ≤ x7_8
                                · rw [if_pos c24] at H
                                  have c24b0 := eq_true c24
                                  have c24b1 : decide (0 ≤ x7_8) = true := decide_eq_true c24
                                  clear c24
                                  by_cases c25 : x7_8 ≤ (y140.length : Int)
                                  · rw [if_pos c25] at H
                                    have c25b0 := eq_true c25
                                    have c25b1 : decide (x7_8 ≤ (y140.length : Int)) = true := decide_eq_true c25
                                    clear c25
                                    obtain ⟨y153, hy153⟩ : ∃ y_ : List Int, y_ = (y140.drop (x7_8 : Int).toNat) := ⟨_, rfl⟩
                                    replace H : (run_Get.l0 k4 y153 a1 x6_4) = some (r1, r2) := by first | (rw [hy153]; with_reducible exact H) | (have H2_ := (Option.bind_some _ _).symm.trans H; rw [hy153]; with_reducible exact H2_) | (have H2_ := (Option.bind_some _ _).symm.trans H; with_reducible exact H2_) | with_reducible exact H | (rw [hy153]; exact H) | exact H
                                    have Ny153 := Aside0.mk hy153
                                    clear hy153
                                    have H' := Aside0.mk H
                                    clear H
                                    have q26 : (x7_8 : Int) ≤ ((y140.length : Int) : Int) := of_decide_eq_true (by first | (with_reducible assumption) | assumption)
                                    obtain ⟨i026, hi026, _, hsz26, _⟩ := info_parts info5
                                    have hroom26 : y140.length ≤ c11 := (Kd.V_reads' HO_0.out).2.1
                                    have hC26 : Kd.F (Kd.int .u8) _ _ A11 y140.length y140 := (Kd.V_at (base := w.heap.size) HO_0.out).2.2
                                    have q026 : (0 : Int) ≤ (x7_8 : Int) := of_decide_eq_true (by first | (with_reducible assumption) | assumption)
                                    have hcut26 := cut_from (P := Try.prog) 22 5 .i64 Try.underlying22 hi026 1 hsz26 A11 y140.length c11 x7_8 q026 q26
                                    have hr26 := Kd.F_cut (m := (x7_8 : Int).toNat) (c := c11) hC26 (by omega) hroom26
                                    obtain ⟨A26, hA26⟩ : ∃ A1, A1 = (if c11 = (x7_8 : Int).toNat then A11 else (A11 : Option Addr).map (·.add ((x7_8 : Int).toNat * 1))) := ⟨_, rfl⟩
                                    obtain ⟨c26, hc26⟩ : ∃ c1, c1 = c11 - (x7_8 : Int).toNat := ⟨_, rfl⟩
                                    have hy26 : y153.length = y140.length - (x7_8 : Int).toNat := (by rw [Ny153.out, List.length_drop] <;> omega)
                                    rw [show (y140).drop (x7_8 : Int).toNat = y153 from Ny153.out.symm] at hr26
                                    replace hr26 : Kd.F (Kd.int .u8) _ _ A26 y153.length y153 := (by rw [hA26]; exact hr26)
                                    rw [← hy26, ← hA26, ← hc26] at hcut26
                                    have HO157 := Aside0.mk (show Kd.V (Kd.int .u8) 5 _ w.heap.size _ (.slice A26 y153.length c26) y153 from Kd.V_mk (by rw [hy26, hc26]; exact Nat.sub_le_sub_right hroom26 _) hr26)
                                    have HC157 := Aside0.mk (show y153.length ≤ c26 from by rw [hy26, hc26]; exact Nat.sub_le_sub_right hroom26 _)
                                    clear hr26 hC26 hroom26 hi026 hsz26 hc26
                                    have KY26 := Aside0.mk hy26
                                    have KA26 := Aside0.mk hA26
                                    clear hy26 hA26
                                    replace q26 := eq_true q26
                                    go_wp2
                                    go_roundg k4
                                    case measure => have := HJ2.out; have := HK2.out; have := HJ8.out; have := HK4.out; omega
                                    case rel => exact ⟨(y153), (x6_4), H', ⟨by have := HJ2.out; have := HK2.out; have := HJ8.out; have := HK4.out; omega⟩, ⟨by (with_reducible repeat (first | apply Kd.V_alloc | apply Kd.V_drewN | apply Kd.V_drew)); exact HO157.out⟩, ⟨by (with_reducible repeat (first | apply Kd.R_alloc | apply Kd.R_drewN | apply Kd.R_drew)); exact HO_6.out⟩, ⟨by repeat (first | (with_reducible first | exact HB.out | apply below_alloc | apply pw_below_drewN | apply below_drew1) | exact HB.out)⟩⟩
                                  · rw [if_neg c25] at H
                                    exact absurd H (by simp)
                                · rw [if_neg c24] at H
                                  exact absurd H (by simp)
                · rw [if_neg c8] at H
                  exact absurd H (by simp)
              · rw [if_neg c7] at H
                exact absurd H (by simp)
            · rw [if_neg c6] at H
              have c6b0 : decide (0 < (x0_2.length : Int)) = false := decide_eq_false c6
              have c6b1 : decide (0 < x0_2.length) = false := decide_eq_false (by omega)
              clear c6
              simp only [Option.some.injEq, Prod.mk.injEq] at H
              obtain ⟨rfl, rfl⟩ := H
              obtain ⟨Ao27, co27, eo27⟩ := Kd.V_slice HO_0.out
              subst eo27
              go_wp2
              go_ret2
              exact ⟨_, by first | rfl | (simp [errW_none, errW_some] <;> rfl) | (simp [*, errW_none, errW_some] <;> rfl), by first | exact Kd.R_nil _ _ _ _ _ | exact Kd.N_nil _ _ _ _ _ | exact Kd.V_nil _ _ _ _ _ | exact Kd.Q_nil _ _ _ _ _ | exact Kd.S_nil _ _ _ _ _, by repeat (first | (with_reducible first | exact HB.out | apply below_alloc | apply pw_below_drewN | apply below_drew1) | exact HB.out)⟩

end Go.Proofs.Ytdopkepaandoeaa.G
