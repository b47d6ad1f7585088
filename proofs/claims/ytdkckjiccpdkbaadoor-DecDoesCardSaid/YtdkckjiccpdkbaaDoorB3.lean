-- written by my own driver of the kit's print (wip/tools/myprint.py); Lean checks it.
import Derived.Test.YtdkckjiccpdkbaaDoorB0
import Derived.Test.YtdkckjiccpdkbaaDoorB1
import Derived.Test.YtdkckjiccpdkbaaDoorB2
import Derived.Test.YtdkckjiccpdkbaaDoorA2
namespace Go.Proofs.YtdkckjiccpdkbaaDoor.B
open Go.RowKit Go.Proofs.YtdkckjiccpdkbaaDoorW.PrintWords Go.Proofs.YtdkckjiccpdkbaaDoorW.PrintLast Go.Proofs.YtdkckjiccpdkbaaDoorW.PrintMore Go.Proofs.YtdkckjiccpdkbaaDoor.H Go.Proofs.YtdkckjiccpdkbaaDoor.A
attribute [local go_sem] max2_int min2_int max_two min_two max_three min_three max_four min_four   -- for this text's walks alone
set_option linter.unusedVariables false
set_option linter.unusedSimpArgs false
def cmp_Compare_int.f (a0 : Int) (a1 : Int) : Option (Int) := (cmp_isNaN_int.f a0).bind fun t187 => ((cmp_isNaN_int.f a1).bind fun t188 => (if t187 = true then (if t188 = true then (some 0) else (some (-1))) else (if t188 = true then (some 1) else (if a0 < a1 then (some (-1)) else (if a0 > a1 then (some 1) else (some 0))))))
set_option maxHeartbeats 8000000 in
set_option maxRecDepth 100000 in
theorem cmp_Compare_int.calls (a0 : Int) (a1 : Int) (r : Int) (w : World) (h : cmp_Compare_int.f a0 a1 = some r) :
  Calls Tryd.prog 42 #[.int .i64 a0, .int .i64 a1] w fun e w' => e = .returned (.int .i64 r) ∧ Drawn0 w w' := by
 have H : ((cmp_isNaN_int.f a0).bind fun t187 => ((cmp_isNaN_int.f a1).bind fun t188 => (if t187 = true then (if t188 = true then (some 0) else (some (-1))) else (if t188 = true then (some 1) else (if a0 < a1 then (some (-1)) else (if a0 > a1 then (some 1) else (some 0))))))) = some r := h
 clear h
 replace H := Option.bind_eq_some_iff.mp H
 obtain ⟨t187, A30, H⟩ := H
 replace H : ((cmp_isNaN_int.f a1).bind fun t188 => (if t187 = true then (if t188 = true then (some 0) else (some (-1))) else (if t188 = true then (some 1) else (if a0 < a1 then (some (-1)) else (if a0 > a1 then (some 1) else (some 0)))))) = some r := H
 have A3 := Aside0.mk A30
 clear A30
 replace H := Option.bind_eq_some_iff.mp H
 obtain ⟨t188, A40, H⟩ := H
 replace H : (if t187 = true then (if t188 = true then (some 0) else (some (-1))) else (if t188 = true then (some 1) else (if a0 < a1 then (some (-1)) else (if a0 > a1 then (some 1) else (some 0))))) = some r := H
 have A4 := Aside0.mk A40
 clear A40
 by_cases c5 : t187 = true
 ·subst c5
  have H1 : (if t188 = true then (some 0) else (some (-1))) = some r := by rw [if_pos rfl] at H; exact H
  clear H
  have H := H1
  clear H1
  by_cases c6 : t188 = true
  ·subst c6
   have H1 : (some 0) = some r := by rw [if_pos rfl] at H; exact H
   clear H
   have H := H1
   clear H1
   obtain rfl := Option.some.inj H
   go_enter Tryd.func42, Tryd.ntmps42
   go_wp2_with (first | ((with_reducible refine gate_callee (f := 64) rfl ?_); refine goesL_ (some 8) rfl rfl Tryd.func64 (by kernel_rfl) rfl #[.int .i64 a0] rfl gl_ ?_; (with_reducible refine (cmp_isNaN_int.calls a0 true _ A3.out).mono ?_); rintro e w' ⟨rfl, ⟨nd, rfl⟩⟩; refine ⟨_, rfl, ?_⟩) | ((with_reducible refine gate_callee (f := 64) rfl ?_); refine goesL_ (some 10) rfl rfl Tryd.func64 (by kernel_rfl) rfl #[.int .i64 a1] rfl gl_ ?_; (with_reducible refine (cmp_isNaN_int.calls a1 true _ A4.out).mono ?_); rintro e w' ⟨rfl, ⟨nd, rfl⟩⟩; refine ⟨_, rfl, ?_⟩))
   go_ret
   exact ⟨by first | rfl | (simp; done) | (simp [*]; done), by repeat (first | exact Drawn0.refl _ | apply Drawn0.step)⟩
  ·replace c6 := Bool.eq_false_iff.mpr c6
   subst c6
   have H1 : (some (-1)) = some r := by rw [if_neg (show ¬ (false = true) by decide)] at H; exact H
   clear H
   have H := H1
   clear H1
   obtain rfl := Option.some.inj H
   go_enter Tryd.func42, Tryd.ntmps42
   go_wp2_with (first | ((with_reducible refine gate_callee (f := 64) rfl ?_); refine goesL_ (some 8) rfl rfl Tryd.func64 (by kernel_rfl) rfl #[.int .i64 a0] rfl gl_ ?_; (with_reducible refine (cmp_isNaN_int.calls a0 true _ A3.out).mono ?_); rintro e w' ⟨rfl, ⟨nd, rfl⟩⟩; refine ⟨_, rfl, ?_⟩) | ((with_reducible refine gate_callee (f := 64) rfl ?_); refine goesL_ (some 10) rfl rfl Tryd.func64 (by kernel_rfl) rfl #[.int .i64 a1] rfl gl_ ?_; (with_reducible refine (cmp_isNaN_int.calls a1 false _ A4.out).mono ?_); rintro e w' ⟨rfl, ⟨nd, rfl⟩⟩; refine ⟨_, rfl, ?_⟩))
   go_ret
   exact ⟨by first | rfl | (simp; done) | (simp [*]; done), by repeat (first | exact Drawn0.refl _ | apply Drawn0.step)⟩
 ·replace c5 := Bool.eq_false_iff.mpr c5
  subst c5
  have H1 : (if t188 = true then (some 1) else (if a0 < a1 then (some (-1)) else (if a0 > a1 then (some 1) else (some 0)))) = some r := by rw [if_neg (show ¬ (false = true) by decide)] at H; exact H
  clear H
  have H := H1
  clear H1
  by_cases c7 : t188 = true
  ·subst c7
   have H1 : (some 1) = some r := by rw [if_pos rfl] at H; exact H
   clear H
   have H := H1
   clear H1
   obtain rfl := Option.some.inj H
   go_enter Tryd.func42, Tryd.ntmps42
   go_wp2_with (first | ((with_reducible refine gate_callee (f := 64) rfl ?_); refine goesL_ (some 8) rfl rfl Tryd.func64 (by kernel_rfl) rfl #[.int .i64 a0] rfl gl_ ?_; (with_reducible refine (cmp_isNaN_int.calls a0 false _ A3.out).mono ?_); rintro e w' ⟨rfl, ⟨nd, rfl⟩⟩; refine ⟨_, rfl, ?_⟩) | ((with_reducible refine gate_callee (f := 64) rfl ?_); refine goesL_ (some 10) rfl rfl Tryd.func64 (by kernel_rfl) rfl #[.int .i64 a1] rfl gl_ ?_; (with_reducible refine (cmp_isNaN_int.calls a1 true _ A4.out).mono ?_); rintro e w' ⟨rfl, ⟨nd, rfl⟩⟩; refine ⟨_, rfl, ?_⟩))
   go_ret
   exact ⟨by first | rfl | (simp; done) | (simp [*]; done), by repeat (first | exact Drawn0.refl _ | apply Drawn0.step)⟩
  ·replace c7 := Bool.eq_false_iff.mpr c7
   subst c7
   have H1 : (if a0 < a1 then (some (-1)) else (if a0 > a1 then (some 1) else (some 0))) = some r := by rw [if_neg (show ¬ (false = true) by decide)] at H; exact H
   clear H
   have H := H1
   clear H1
   by_cases c8 : a0 < a1
   ·rw [if_pos c8] at H
    have c8b0 : decide (a0 < a1) = true := decide_eq_true c8
    clear c8
    obtain rfl := Option.some.inj H
    go_enter Tryd.func42, Tryd.ntmps42
    go_wp2_with (first | ((with_reducible refine gate_callee (f := 64) rfl ?_); refine goesL_ (some 8) rfl rfl Tryd.func64 (by kernel_rfl) rfl #[.int .i64 a0] rfl gl_ ?_; (with_reducible refine (cmp_isNaN_int.calls a0 false _ A3.out).mono ?_); rintro e w' ⟨rfl, ⟨nd, rfl⟩⟩; refine ⟨_, rfl, ?_⟩) | ((with_reducible refine gate_callee (f := 64) rfl ?_); refine goesL_ (some 10) rfl rfl Tryd.func64 (by kernel_rfl) rfl #[.int .i64 a1] rfl gl_ ?_; (with_reducible refine (cmp_isNaN_int.calls a1 false _ A4.out).mono ?_); rintro e w' ⟨rfl, ⟨nd, rfl⟩⟩; refine ⟨_, rfl, ?_⟩))
    go_ret
    exact ⟨by first | rfl | (simp; done) | (simp [*]; done), by repeat (first | exact Drawn0.refl _ | apply Drawn0.step)⟩
   ·rw [if_neg c8] at H
    have c8b0 : decide (a0 < a1) = false := decide_eq_false c8
    clear c8
    by_cases c9 : a0 > a1
    ·rw [if_pos c9] at H
     have c9b0 : decide (a1 < a0) = true := decide_eq_true c9
     clear c9
     obtain rfl := Option.some.inj H
     go_enter Tryd.func42, Tryd.ntmps42
     go_wp2_with (first | ((with_reducible refine gate_callee (f := 64) rfl ?_); refine goesL_ (some 8) rfl rfl Tryd.func64 (by kernel_rfl) rfl #[.int .i64 a0] rfl gl_ ?_; (with_reducible refine (cmp_isNaN_int.calls a0 false _ A3.out).mono ?_); rintro e w' ⟨rfl, ⟨nd, rfl⟩⟩; refine ⟨_, rfl, ?_⟩) | ((with_reducible refine gate_callee (f := 64) rfl ?_); refine goesL_ (some 10) rfl rfl Tryd.func64 (by kernel_rfl) rfl #[.int .i64 a1] rfl gl_ ?_; (with_reducible refine (cmp_isNaN_int.calls a1 false _ A4.out).mono ?_); rintro e w' ⟨rfl, ⟨nd, rfl⟩⟩; refine ⟨_, rfl, ?_⟩))
     go_ret
     exact ⟨by first | rfl | (simp; done) | (simp [*]; done), by repeat (first | exact Drawn0.refl _ | apply Drawn0.step)⟩
    ·rw [if_neg c9] at H
     have c9b0 : decide (a1 < a0) = false := decide_eq_false c9
     clear c9
     obtain rfl := Option.some.inj H
     go_enter Tryd.func42, Tryd.ntmps42
     go_wp2_with (first | ((with_reducible refine gate_callee (f := 64) rfl ?_); refine goesL_ (some 8) rfl rfl Tryd.func64 (by kernel_rfl) rfl #[.int .i64 a0] rfl gl_ ?_; (with_reducible refine (cmp_isNaN_int.calls a0 false _ A3.out).mono ?_); rintro e w' ⟨rfl, ⟨nd, rfl⟩⟩; refine ⟨_, rfl, ?_⟩) | ((with_reducible refine gate_callee (f := 64) rfl ?_); refine goesL_ (some 10) rfl rfl Tryd.func64 (by kernel_rfl) rfl #[.int .i64 a1] rfl gl_ ?_; (with_reducible refine (cmp_isNaN_int.calls a1 false _ A4.out).mono ?_); rintro e w' ⟨rfl, ⟨nd, rfl⟩⟩; refine ⟨_, rfl, ?_⟩))
     go_ret
     exact ⟨by first | rfl | (simp; done) | (simp [*]; done), by repeat (first | exact Drawn0.refl _ | apply Drawn0.step)⟩
def dec_Compare.j0 : Nat → Bool → Int → Int → Int → Int → Int → Int → Int → Int → Option (Int × Int)
 | 0, _, _, _, _, _, _, _, _, _ => none
 | k + 1, x22, x190000, x190001, x191000, x191001, x198000, x198001, x199000, x199001 => if x22 = true then ((dec_wide_compare.f k x199000 x199001 x198000 x198001).bind fun t199 => (some (t199, 0))) else (if ((decide (x190000 < 0)) != (decide (x191000 < 0))) = true then ((cmp_Compare_int.f x190000 x191000).bind fun t200 => (some (t200, 0))) else ((dec_wide_compare.f k x198000 x198001 x199000 x199001).bind fun t201 => (some (t201, 0))))
def dec_Compare.f (k : Nat) (a0_0 : Int) (a0_1 : Int) (a1_0 : Int) (a1_1 : Int) : Option (Int × Int) := (dec_pair.f k a0_0 a0_1 a1_0 a1_1).bind fun bt191 => (if bt191.2.2.2.2.2 = 0 then (if a0_0 < 0 then (dec_Compare.j0 k (decide (a1_0 < 0)) a0_0 a0_1 a1_0 a1_1 bt191.1 bt191.2.1 bt191.2.2.1 bt191.2.2.2.1) else (dec_Compare.j0 k false a0_0 a0_1 a1_0 a1_1 bt191.1 bt191.2.1 bt191.2.2.1 bt191.2.2.2.1)) else (some (0, bt191.2.2.2.2.2)))
theorem dec_Compare.mono_l : ∀ k, (∀ y0 y1 y2 y3 y4 y5 y6 y7 y8, LeO (dec_Compare.j0 k y0 y1 y2 y3 y4 y5 y6 y7 y8) (dec_Compare.j0 (k + 1) y0 y1 y2 y3 y4 y5 y6 y7 y8))
 | 0 => fun _ _ _ _ _ _ _ _ _ r h => by simp [dec_Compare.j0] at h
 | k + 1 => by
  have ih0 := dec_Compare.mono_l k
  ·intro y0 y1 y2 y3 y4 y5 y6 y7 y8
   unfold dec_Compare.j0
   repeat' first
   | (with_reducible exact ih0 _ _ _ _ _ _ _ _ _)
   | (with_reducible exact dec_pair.mono _ _ _ _ _)
   | (with_reducible exact dec_wide_compare.mono _ _ _ _ _)
   | (with_reducible exact LeO.refl _)
   | (with_reducible exact LeO.none _)
   | (with_reducible refine LeO.ite ?_ ?_)
   | (with_reducible refine LeO.bind ?_ (fun _ => ?_))
   | exact ih0 _ _ _ _ _ _ _ _ _
   | exact dec_pair.mono _ _ _ _ _
   | exact dec_wide_compare.mono _ _ _ _ _
   | exact LeO.none _
   | refine LeO.ite ?_ ?_
   | refine LeO.bind ?_ (fun _ => ?_)
theorem dec_Compare.mono : ∀ a0 a1 a2 a3 k, LeO (dec_Compare.f k a0 a1 a2 a3) (dec_Compare.f (k + 1) a0 a1 a2 a3) := by
 intro a0 a1 a2 a3 k
 have ih0 := dec_Compare.mono_l k
 unfold dec_Compare.f
 repeat' first
   | (with_reducible exact ih0 _ _ _ _ _ _ _ _ _)
   | (with_reducible exact dec_pair.mono _ _ _ _ _)
   | (with_reducible exact dec_wide_compare.mono _ _ _ _ _)
   | (with_reducible exact LeO.refl _)
   | (with_reducible exact LeO.none _)
   | (with_reducible refine LeO.ite ?_ ?_)
   | (with_reducible refine LeO.bind ?_ (fun _ => ?_))
   | exact ih0 _ _ _ _ _ _ _ _ _
   | exact dec_pair.mono _ _ _ _ _
   | exact dec_wide_compare.mono _ _ _ _ _
   | exact LeO.none _
   | refine LeO.ite ?_ ?_
   | refine LeO.bind ?_ (fun _ => ?_)
set_option maxHeartbeats 8000000 in
set_option maxRecDepth 100000 in
theorem dec_Compare.calls (k : Nat) (a0_0 : Int) (a0_1 : Int) (a1_0 : Int) (a1_1 : Int) (r1 : Int) (r2 : Int) (w : World) (h : dec_Compare.f k a0_0 a0_1 a1_0 a1_1 = some (r1, r2)) :
  Calls Tryd.prog 22 #[.agg #[.int .i64 a0_0, .int .i64 a0_1], .agg #[.int .i64 a1_0, .int .i64 a1_1]] w fun e w' => e = .returned (.tuple #[.int .i64 r1, .int .i64 r2]) ∧ Below w.heap.size w w' := by
 have hu23 := Tryd.underlying23
 have hu52 := Tryd.underlying52
 have HB := Aside0.mk (Below.refl w.heap.size w)
 have H : ((dec_pair.f k a0_0 a0_1 a1_0 a1_1).bind fun bt191 => (if bt191.2.2.2.2.2 = 0 then (if a0_0 < 0 then (dec_Compare.j0 k (decide (a1_0 < 0)) a0_0 a0_1 a1_0 a1_1 bt191.1 bt191.2.1 bt191.2.2.1 bt191.2.2.2.1) else (dec_Compare.j0 k false a0_0 a0_1 a1_0 a1_1 bt191.1 bt191.2.1 bt191.2.2.1 bt191.2.2.2.1)) else (some (0, bt191.2.2.2.2.2)))) = some (r1, r2) := h
 clear h
 replace H := Option.bind_eq_some_iff.mp H
 obtain ⟨⟨t191, t192, t193, t194, t195, t196⟩, A30, H⟩ := H
 replace H : (if t196 = 0 then (if a0_0 < 0 then (dec_Compare.j0 k (decide (a1_0 < 0)) a0_0 a0_1 a1_0 a1_1 t191 t192 t193 t194) else (dec_Compare.j0 k false a0_0 a0_1 a1_0 a1_1 t191 t192 t193 t194)) else (some (0, t196))) = some (r1, r2) := H
 have A3 := Aside0.mk A30
 clear A30
 by_cases c4 : t196 = 0
 ·rw [if_pos c4] at H
  have c4b0 : (t196 == 0) = true := beq_iff_eq.mpr c4
  have c4b1 : (t196 != 0) = false := bne_eq_false_iff_eq.mpr c4
  clear c4
  have HC5 := Aside0.mk H
  clear H
  go_enter Tryd.func22, Tryd.ntmps22
  go_upto_region 4 with (first | ((with_reducible refine gate_dst (N := 2) rfl ?_); refine box_event ?hg (N := 2) ?hd (cs := #[.int .i64 a0_0, .int .i64 a0_1]) (t := 23) ?hr ?_; (case hd => rfl); (case hg => rfl); (case hr => first | (go_simp; done) | (go_simp; rfl)); intro gb189 hg w6 hbox hb; have n0_ := Aside0.mk (below_step bel hb); have n1_ := Aside0.mk (hbox); have n2_ := Aside0.mk ((by rw [hg]; exact (below_size bel) : w.heap.size ≤ gb189)); have n3_ := Aside0.mk ((by rw [hg]; exact (below_size bel) : w.heap.size ≤ gb189)); clear HB; have HB := n0_; have BK189 := n1_; have GW189 := n2_; have GE189 := n3_; clear n0_ n1_ n2_ n3_; clear hb hbox hg) | ((with_reducible refine gate_dst (N := 3) rfl ?_); refine box_event ?hg (N := 3) ?hd (cs := #[.int .i64 a1_0, .int .i64 a1_1]) (t := 23) ?hr ?_; (case hd => rfl); (case hg => rfl); (case hr => first | (go_simp; done) | (go_simp; rfl)); intro gb190 hg w7 hbox hb; have n0_ := Aside0.mk (blk_below (bkk BK189.out) hb); have n1_ := Aside0.mk (below_step bel hb); have n2_ := Aside0.mk (hbox); have n3_ := Aside0.mk ((by rw [hg]; exact (below_size bel) : w.heap.size ≤ gb190)); have n4_ := Aside0.mk ((by rw [hg]; exact (below_size bel) : w.heap.size ≤ gb190)); have n5_ := Aside0.mk ((by rw [hg]; exact Nat.ne_of_lt (blk_lt (g := gb189) (o := .cells #[.int .i64 a0_0, .int .i64 a0_1] 23 (0, 0)) (bkk BK189.out)) : gb189 ≠ gb190)); have n6_ := Aside0.mk ((by rw [hg]; exact Nat.ne_of_gt (blk_lt (g := gb189) (o := .cells #[.int .i64 a0_0, .int .i64 a0_1] 23 (0, 0)) (bkk BK189.out)) : gb190 ≠ gb189)); clear BK189; clear HB; have BK189 := n0_; have HB := n1_; have BK190 := n2_; have GW190 := n3_; have GE190 := n4_; have NB189_190 := n5_; have NB190_189 := n6_; clear n0_ n1_ n2_ n3_ n4_ n5_ n6_; clear hb hbox hg; have hnb8 := NB189_190.out; have hnc8 := NB190_189.out; have hcz9_0 : w7.cell? ⟨gb189, 0, none⟩ = some (.int .i64 a0_0) := (blk_cell BK189.out 0).trans rfl; have hcz9_1 : w7.cell? ⟨gb189, 1, none⟩ = some (.int .i64 a0_1) := (blk_cell BK189.out 1).trans rfl; have hfz9_0 := blk_frozen BK189.out 0; have hfz9_1 := blk_frozen BK189.out 1; have hcz10_0 : w7.cell? ⟨gb190, 0, none⟩ = some (.int .i64 a1_0) := (blk_cell BK190.out 0).trans rfl; have hcz10_1 : w7.cell? ⟨gb190, 1, none⟩ = some (.int .i64 a1_1) := (blk_cell BK190.out 1).trans rfl; have hfz10_0 := blk_frozen BK190.out 0; have hfz10_1 := blk_frozen BK190.out 1) | ((with_reducible refine gate_callee (f := 33) rfl ?_); refine goesL_ (some 13) rfl rfl Tryd.func33 (by kernel_rfl) rfl #[.agg #[.int .i64 a0_0, .int .i64 a0_1], .agg #[.int .i64 a1_0, .int .i64 a1_1]] rfl gl_ ?_; (with_reducible refine (dec_pair.calls k a0_0 a0_1 a1_0 a1_1 t191 t192 t193 t194 t195 t196 _ A3.out).mono ?_); rintro e w11 ⟨rfl, hb⟩; refine ⟨_, rfl, ?_⟩; have n0_ := Aside0.mk (blk_below (bkk BK189.out) hb); have n1_ := Aside0.mk (blk_below (bkk BK190.out) hb); have n2_ := Aside0.mk (below_step bel hb); clear BK189; clear BK190; clear HB; have BK189 := n0_; have BK190 := n1_; have HB := n2_; clear n0_ n1_ n2_; (try clear hb); (try clear hb2); (try clear hk); (try clear hi)) | ((with_reducible refine gate_dst (N := 6) rfl ?_); refine box_event ?hg (N := 6) ?hd (cs := #[.int .u64 0, .int .u64 0]) (t := 52) ?hr ?_; (case hd => rfl); (case hg => rfl); (case hr => first | (go_simp; done) | (go_simp; rfl)); intro gb197 hg w12 hbox hb; have n0_ := Aside0.mk (blk_below (bkk BK189.out) hb); have n1_ := Aside0.mk (blk_below (bkk BK190.out) hb); have n2_ := Aside0.mk (below_step bel hb); have n3_ := Aside0.mk (hbox); have n4_ := Aside0.mk ((by rw [hg]; exact (below_size bel) : w.heap.size ≤ gb197)); have n5_ := Aside0.mk ((by rw [hg]; exact (below_size bel) : w.heap.size ≤ gb197)); have n6_ := Aside0.mk ((by rw [hg]; exact Nat.ne_of_lt (blk_lt (g := gb189) (o := .cells #[.int .i64 a0_0, .int .i64 a0_1] 23 (0, 0)) (bkk BK189.out)) : gb189 ≠ gb197)); have n7_ := Aside0.mk ((by rw [hg]; exact Nat.ne_of_gt (blk_lt (g := gb189) (o := .cells #[.int .i64 a0_0, .int .i64 a0_1] 23 (0, 0)) (bkk BK189.out)) : gb197 ≠ gb189)); have n8_ := Aside0.mk ((by rw [hg]; exact Nat.ne_of_lt (blk_lt (g := gb190) (o := .cells #[.int .i64 a1_0, .int .i64 a1_1] 23 (0, 0)) (bkk BK190.out)) : gb190 ≠ gb197)); have n9_ := Aside0.mk ((by rw [hg]; exact Nat.ne_of_gt (blk_lt (g := gb190) (o := .cells #[.int .i64 a1_0, .int .i64 a1_1] 23 (0, 0)) (bkk BK190.out)) : gb197 ≠ gb190)); clear BK189; clear BK190; clear HB; have BK189 := n0_; have BK190 := n1_; have HB := n2_; have BK197 := n3_; have GW197 := n4_; have GE197 := n5_; have NB189_197 := n6_; have NB197_189 := n7_; have NB190_197 := n8_; have NB197_190 := n9_; clear n0_ n1_ n2_ n3_ n4_ n5_ n6_ n7_ n8_ n9_; clear hb hbox hg) | ((with_reducible refine gate_dst (N := 7) rfl ?_); refine box_event ?hg (N := 7) ?hd (cs := #[.int .u64 0, .int .u64 0]) (t := 52) ?hr ?_; (case hd => rfl); (case hg => rfl); (case hr => first | (go_simp; done) | (go_simp; rfl)); intro gb198 hg w13 hbox hb; have n0_ := Aside0.mk (blk_below (bkk BK189.out) hb); have n1_ := Aside0.mk (blk_below (bkk BK190.out) hb); have n2_ := Aside0.mk (blk_below (bkk BK197.out) hb); have n3_ := Aside0.mk (below_step bel hb); have n4_ := Aside0.mk (hbox); have n5_ := Aside0.mk ((by rw [hg]; exact (below_size bel) : w.heap.size ≤ gb198)); have n6_ := Aside0.mk ((by rw [hg]; exact (below_size bel) : w.heap.size ≤ gb198)); have n7_ := Aside0.mk ((by rw [hg]; exact Nat.ne_of_lt (blk_lt (g := gb189) (o := .cells #[.int .i64 a0_0, .int .i64 a0_1] 23 (0, 0)) (bkk BK189.out)) : gb189 ≠ gb198)); have n8_ := Aside0.mk ((by rw [hg]; exact Nat.ne_of_gt (blk_lt (g := gb189) (o := .cells #[.int .i64 a0_0, .int .i64 a0_1] 23 (0, 0)) (bkk BK189.out)) : gb198 ≠ gb189)); have n9_ := Aside0.mk ((by rw [hg]; exact Nat.ne_of_lt (blk_lt (g := gb190) (o := .cells #[.int .i64 a1_0, .int .i64 a1_1] 23 (0, 0)) (bkk BK190.out)) : gb190 ≠ gb198)); have n10_ := Aside0.mk ((by rw [hg]; exact Nat.ne_of_gt (blk_lt (g := gb190) (o := .cells #[.int .i64 a1_0, .int .i64 a1_1] 23 (0, 0)) (bkk BK190.out)) : gb198 ≠ gb190)); have n11_ := Aside0.mk ((by rw [hg]; exact Nat.ne_of_lt (blk_lt (g := gb197) (o := .cells #[.int .u64 0, .int .u64 0] 52 (0, 0)) (bkk BK197.out)) : gb197 ≠ gb198)); have n12_ := Aside0.mk ((by rw [hg]; exact Nat.ne_of_gt (blk_lt (g := gb197) (o := .cells #[.int .u64 0, .int .u64 0] 52 (0, 0)) (bkk BK197.out)) : gb198 ≠ gb197)); clear BK189; clear BK190; clear BK197; clear HB; have BK189 := n0_; have BK190 := n1_; have BK197 := n2_; have HB := n3_; have BK198 := n4_; have GW198 := n5_; have GE198 := n6_; have NB189_198 := n7_; have NB198_189 := n8_; have NB190_198 := n9_; have NB198_190 := n10_; have NB197_198 := n11_; have NB198_197 := n12_; clear n0_ n1_ n2_ n3_ n4_ n5_ n6_ n7_ n8_ n9_ n10_ n11_ n12_; clear hb hbox hg; have hnb14 := NB197_189.out; have hnc14 := NB189_197.out; have hnb15 := NB197_190.out; have hnc15 := NB190_197.out; have hnb16 := NB197_198.out; have hnc16 := NB198_197.out; have hcz17_0 : w13.cell? ⟨gb197, 0, none⟩ = some (.int .u64 0) := (blk_cell BK197.out 0).trans rfl; have hcz17_1 : w13.cell? ⟨gb197, 1, none⟩ = some (.int .u64 0) := (blk_cell BK197.out 1).trans rfl; have hfz17_0 := blk_frozen BK197.out 0; have hfz17_1 := blk_frozen BK197.out 1; have hnb18 := NB198_189.out; have hnc18 := NB189_198.out; have hnb19 := NB198_190.out; have hnc19 := NB190_198.out; have hcz20_0 : w13.cell? ⟨gb198, 0, none⟩ = some (.int .u64 0) := (blk_cell BK198.out 0).trans rfl; have hcz20_1 : w13.cell? ⟨gb198, 1, none⟩ = some (.int .u64 0) := (blk_cell BK198.out 1).trans rfl; have hfz20_0 := blk_frozen BK198.out 0; have hfz20_1 := blk_frozen BK198.out 1))
  (try simp only [Act.put, List.setIfInBounds_toArray, List.set_cons_zero, List.set_cons_succ])
  go_cut [22] (fun v22 wc => ∃ (kq : Nat) (x22_4 : Bool), v22 = .bool x22_4 ∧ Aside0 (dec_Compare.j0 kq x22_4 a0_0 a0_1 a1_0 a1_1 t191 t192 t193 t194 = some (r1, r2)) ∧ Aside0 (kq ≤ k) ∧ Aside0 (wc.heap[gb189]? = some (.cells #[.int .i64 a0_0, .int .i64 a0_1] 23 (0, 0))) ∧ Aside0 (wc.heap[gb190]? = some (.cells #[.int .i64 a1_0, .int .i64 a1_1] 23 (0, 0))) ∧ Aside0 (wc.heap[gb197]? = some (.cells #[.int .u64 t191, .int .u64 t192] 52 (0, 0))) ∧ Aside0 (wc.heap[gb198]? = some (.cells #[.int .u64 t193, .int .u64 t194] 52 (0, 0))) ∧ Aside0 (Below w.heap.size w wc))
  case first =>
   have H := HC5.out
   clear HC5
   by_cases c21 : a0_0 < 0
   ·rw [if_pos c21] at H
    have c21b0 : decide (a0_0 < 0) = true := decide_eq_true c21
    clear c21
    (first | rw [c21b0] | (simp only [i64_w, i32_w]; rw [c21b0]) | skip)
    have H' := Aside0.mk H
    clear H
    have hnb22 := NB189_190.out
    have hnc22 := NB190_189.out
    have hnb23 := NB189_197.out
    have hnc23 := NB197_189.out
    have hnb24 := NB189_198.out
    have hnc24 := NB198_189.out
    have hcz25_0 : w13.cell? ⟨gb189, 0, none⟩ = some (.int .i64 a0_0) := (blk_cell BK189.out 0).trans rfl
    have hcz25_1 : w13.cell? ⟨gb189, 1, none⟩ = some (.int .i64 a0_1) := (blk_cell BK189.out 1).trans rfl
    have hfz25_0 := blk_frozen BK189.out 0
    have hfz25_1 := blk_frozen BK189.out 1
    have hnb26 := NB190_197.out
    have hnc26 := NB197_190.out
    have hnb27 := NB190_198.out
    have hnc27 := NB198_190.out
    have hcz28_0 : w13.cell? ⟨gb190, 0, none⟩ = some (.int .i64 a1_0) := (blk_cell BK190.out 0).trans rfl
    have hcz28_1 : w13.cell? ⟨gb190, 1, none⟩ = some (.int .i64 a1_1) := (blk_cell BK190.out 1).trans rfl
    have hfz28_0 := blk_frozen BK190.out 0
    have hfz28_1 := blk_frozen BK190.out 1
    go_wp2
    go_meet
    case rel => exact ⟨_, (decide (a1_0 < 0)), ea_, H', ⟨by first | omega | exact Nat.le_refl _⟩, ⟨blks⟩, ⟨blks⟩, ⟨by (with_reducible repeat (first | refine blk_drewN ?_ _ | refine blk_drew ?_ | refine blk_alloc ?_ _)); refine blk_far ?_ NB197_198.out _; (with_reducible repeat (first | refine blk_drewN ?_ _ | refine blk_drew ?_ | refine blk_alloc ?_ _)); refine blk_far ?_ NB197_198.out _; (with_reducible repeat (first | refine blk_drewN ?_ _ | refine blk_drew ?_ | refine blk_alloc ?_ _)); refine blk_put (cs := #[.int .u64 t191, .int .u64 0]) ?_ 1 _ rfl; (with_reducible repeat (first | refine blk_drewN ?_ _ | refine blk_drew ?_ | refine blk_alloc ?_ _)); refine blk_put (cs := #[.int .u64 0, .int .u64 0]) ?_ 0 _ rfl; (with_reducible repeat (first | refine blk_drewN ?_ _ | refine blk_drew ?_ | refine blk_alloc ?_ _)); exact BK197.out⟩, ⟨by (with_reducible repeat (first | refine blk_drewN ?_ _ | refine blk_drew ?_ | refine blk_alloc ?_ _)); refine blk_put (cs := #[.int .u64 t193, .int .u64 0]) ?_ 1 _ rfl; (with_reducible repeat (first | refine blk_drewN ?_ _ | refine blk_drew ?_ | refine blk_alloc ?_ _)); refine blk_put (cs := #[.int .u64 0, .int .u64 0]) ?_ 0 _ rfl; (with_reducible repeat (first | refine blk_drewN ?_ _ | refine blk_drew ?_ | refine blk_alloc ?_ _)); refine blk_far ?_ NB198_197.out _; (with_reducible repeat (first | refine blk_drewN ?_ _ | refine blk_drew ?_ | refine blk_alloc ?_ _)); refine blk_far ?_ NB198_197.out _; (with_reducible repeat (first | refine blk_drewN ?_ _ | refine blk_drew ?_ | refine blk_alloc ?_ _)); exact BK198.out⟩, ⟨bel⟩⟩
   ·rw [if_neg c21] at H
    have c21b0 : decide (a0_0 < 0) = false := decide_eq_false c21
    clear c21
    (first | rw [c21b0] | (simp only [i64_w, i32_w]; rw [c21b0]) | skip)
    have H' := Aside0.mk H
    clear H
    have hnb29 := NB189_190.out
    have hnc29 := NB190_189.out
    have hnb30 := NB189_197.out
    have hnc30 := NB197_189.out
    have hnb31 := NB189_198.out
    have hnc31 := NB198_189.out
    have hcz32_0 : w13.cell? ⟨gb189, 0, none⟩ = some (.int .i64 a0_0) := (blk_cell BK189.out 0).trans rfl
    have hcz32_1 : w13.cell? ⟨gb189, 1, none⟩ = some (.int .i64 a0_1) := (blk_cell BK189.out 1).trans rfl
    have hfz32_0 := blk_frozen BK189.out 0
    have hfz32_1 := blk_frozen BK189.out 1
    go_wp2
    go_meet
    case rel => exact ⟨_, (false), ea_, H', ⟨by first | omega | exact Nat.le_refl _⟩, ⟨blks⟩, ⟨blks⟩, ⟨by (with_reducible repeat (first | refine blk_drewN ?_ _ | refine blk_drew ?_ | refine blk_alloc ?_ _)); refine blk_far ?_ NB197_198.out _; (with_reducible repeat (first | refine blk_drewN ?_ _ | refine blk_drew ?_ | refine blk_alloc ?_ _)); refine blk_far ?_ NB197_198.out _; (with_reducible repeat (first | refine blk_drewN ?_ _ | refine blk_drew ?_ | refine blk_alloc ?_ _)); refine blk_put (cs := #[.int .u64 t191, .int .u64 0]) ?_ 1 _ rfl; (with_reducible repeat (first | refine blk_drewN ?_ _ | refine blk_drew ?_ | refine blk_alloc ?_ _)); refine blk_put (cs := #[.int .u64 0, .int .u64 0]) ?_ 0 _ rfl; (with_reducible repeat (first | refine blk_drewN ?_ _ | refine blk_drew ?_ | refine blk_alloc ?_ _)); exact BK197.out⟩, ⟨by (with_reducible repeat (first | refine blk_drewN ?_ _ | refine blk_drew ?_ | refine blk_alloc ?_ _)); refine blk_put (cs := #[.int .u64 t193, .int .u64 0]) ?_ 1 _ rfl; (with_reducible repeat (first | refine blk_drewN ?_ _ | refine blk_drew ?_ | refine blk_alloc ?_ _)); refine blk_put (cs := #[.int .u64 0, .int .u64 0]) ?_ 0 _ rfl; (with_reducible repeat (first | refine blk_drewN ?_ _ | refine blk_drew ?_ | refine blk_alloc ?_ _)); refine blk_far ?_ NB198_197.out _; (with_reducible repeat (first | refine blk_drewN ?_ _ | refine blk_drew ?_ | refine blk_alloc ?_ _)); refine blk_far ?_ NB198_197.out _; (with_reducible repeat (first | refine blk_drewN ?_ _ | refine blk_drew ?_ | refine blk_alloc ?_ _)); exact BK198.out⟩, ⟨bel⟩⟩
  case rest =>
   clear HC5
   try clear c1
   try clear c2
   try clear p2
   try clear c3
   try clear c4
   try clear c4b0
   try clear c4b1
   try clear c8
   try clear c14
   try clear c15
   try clear c16
   try clear c18
   try clear c19
   try clear c21
   try clear c21b0
   try clear c22
   try clear c23
   try clear c24
   try clear c26
   try clear c27
   try clear c29
   try clear c30
   try clear c31
   try clear hcz10_0
   try clear hcz10_1
   try clear hcz17_0
   try clear hcz17_1
   try clear hcz20_0
   try clear hcz20_1
   try clear hcz25_0
   try clear hcz25_1
   try clear hcz28_0
   try clear hcz28_1
   try clear hcz32_0
   try clear hcz32_1
   try clear hcz9_0
   try clear hcz9_1
   try clear hfz10_0
   try clear hfz10_1
   try clear hfz17_0
   try clear hfz17_1
   try clear hfz20_0
   try clear hfz20_1
   try clear hfz25_0
   try clear hfz25_1
   try clear hfz28_0
   try clear hfz28_1
   try clear hfz32_0
   try clear hfz32_1
   try clear hfz9_0
   try clear hfz9_1
   obtain ⟨kq, x22_4, rfl, HA, HJ4, BK189, BK190, BK197, BK198, HB⟩ := hcut
   cases kq with
   | zero => exact absurd HA.out (by simp [dec_Compare.j0])
   | succ kj4 =>
    have H := HA.out
    clear HA
    simp only [dec_Compare.j0] at H
    by_cases c33 : x22_4 = true
    ·subst c33
     have H1 : ((dec_wide_compare.f kj4 t193 t194 t191 t192).bind fun t199 => (some (t199, 0))) = some (r1, r2) := by rw [if_pos rfl] at H; exact H
     clear H
     have H := H1
     clear H1
     replace H := Option.bind_eq_some_iff.mp H
     obtain ⟨t199, A340, H⟩ := H
     replace H : (some (t199, 0)) = some (r1, r2) := H
     have A34 := Aside0.mk A340
     clear A340
     simp only [Option.some.injEq, Prod.mk.injEq] at H
     obtain ⟨rfl, rfl⟩ := H
     have hnb35 := NB198_189.out
     have hnc35 := NB189_198.out
     have hnb36 := NB198_190.out
     have hnc36 := NB190_198.out
     have hnb37 := NB198_197.out
     have hnc37 := NB197_198.out
     have hcz38_0 : wc.cell? ⟨gb198, 0, none⟩ = some (.int .u64 t193) := (blk_cell BK198.out 0).trans rfl
     have hcz38_1 : wc.cell? ⟨gb198, 1, none⟩ = some (.int .u64 t194) := (blk_cell BK198.out 1).trans rfl
     have hfz38_0 := blk_frozen BK198.out 0
     have hfz38_1 := blk_frozen BK198.out 1
     have hnb39 := NB197_189.out
     have hnc39 := NB189_197.out
     have hnb40 := NB197_190.out
     have hnc40 := NB190_197.out
     have hcz41_0 : wc.cell? ⟨gb197, 0, none⟩ = some (.int .u64 t191) := (blk_cell BK197.out 0).trans rfl
     have hcz41_1 : wc.cell? ⟨gb197, 1, none⟩ = some (.int .u64 t192) := (blk_cell BK197.out 1).trans rfl
     have hfz41_0 := blk_frozen BK197.out 0
     have hfz41_1 := blk_frozen BK197.out 1
     go_wp2_with (first | ((with_reducible refine gate_callee (f := 35) rfl ?_); refine goesL_ (some 33) rfl rfl Tryd.func35 (by kernel_rfl) rfl #[.agg #[.int .u64 t193, .int .u64 t194], .agg #[.int .u64 t191, .int .u64 t192]] rfl gl_ ?_; (with_reducible refine (dec_wide_compare.calls kj4 t193 t194 t191 t192 t199 _ A34.out).mono ?_); rintro e w42 ⟨rfl, hb⟩; refine ⟨_, rfl, ?_⟩; have n0_ := Aside0.mk (blk_below (bkk BK189.out) hb); have n1_ := Aside0.mk (blk_below (bkk BK190.out) hb); have n2_ := Aside0.mk (blk_below (bkk BK197.out) hb); have n3_ := Aside0.mk (blk_below (bkk BK198.out) hb); have n4_ := Aside0.mk (below_step bel hb); clear BK189; clear BK190; clear BK197; clear BK198; clear HB; have BK189 := n0_; have BK190 := n1_; have BK197 := n2_; have BK198 := n3_; have HB := n4_; clear n0_ n1_ n2_ n3_ n4_; (try clear hb); (try clear hb2); (try clear hk); (try clear hi)))
     go_ret2
     exact ⟨by first | rfl | (simp [errW_none, errW_some] <;> rfl) | (simp [*, errW_none, errW_some] <;> rfl), bel⟩
    ·replace c33 := Bool.eq_false_iff.mpr c33
     subst c33
     have H1 : (if ((decide (a0_0 < 0)) != (decide (a1_0 < 0))) = true then ((cmp_Compare_int.f a0_0 a1_0).bind fun t200 => (some (t200, 0))) else ((dec_wide_compare.f kj4 t191 t192 t193 t194).bind fun t201 => (some (t201, 0)))) = some (r1, r2) := by rw [if_neg (show ¬ (false = true) by decide)] at H; exact H
     clear H
     have H := H1
     clear H1
     by_cases c43 : ((decide (a0_0 < 0)) != (decide (a1_0 < 0))) = true
     ·rw [if_pos c43] at H
      have c43b0 : ((decide (a0_0 < 0)) != (decide (a1_0 < 0))) = true := c43
      (try (have c43b1 : decide ((decide (a0_0 < 0)) = (decide (a1_0 < 0))) = false := by simpa using c43))
      (try (have c43b2 : ((decide (a0_0 < 0)) == (decide (a1_0 < 0))) = false := by simpa using c43))
      (try (have c43b3 : ¬ ((decide (a0_0 < 0)) = (decide (a1_0 < 0))) := by simpa using c43))
      clear c43
      replace H := Option.bind_eq_some_iff.mp H
      obtain ⟨t200, A440, H⟩ := H
      replace H : (some (t200, 0)) = some (r1, r2) := H
      have A44 := Aside0.mk A440
      clear A440
      simp only [Option.some.injEq, Prod.mk.injEq] at H
      obtain ⟨rfl, rfl⟩ := H
      have hnb45 := NB189_190.out
      have hnc45 := NB190_189.out
      have hnb46 := NB189_197.out
      have hnc46 := NB197_189.out
      have hnb47 := NB189_198.out
      have hnc47 := NB198_189.out
      have hcz48_0 : wc.cell? ⟨gb189, 0, none⟩ = some (.int .i64 a0_0) := (blk_cell BK189.out 0).trans rfl
      have hcz48_1 : wc.cell? ⟨gb189, 1, none⟩ = some (.int .i64 a0_1) := (blk_cell BK189.out 1).trans rfl
      have hfz48_0 := blk_frozen BK189.out 0
      have hfz48_1 := blk_frozen BK189.out 1
      have hnb49 := NB190_197.out
      have hnc49 := NB197_190.out
      have hnb50 := NB190_198.out
      have hnc50 := NB198_190.out
      have hcz51_0 : wc.cell? ⟨gb190, 0, none⟩ = some (.int .i64 a1_0) := (blk_cell BK190.out 0).trans rfl
      have hcz51_1 : wc.cell? ⟨gb190, 1, none⟩ = some (.int .i64 a1_1) := (blk_cell BK190.out 1).trans rfl
      have hfz51_0 := blk_frozen BK190.out 0
      have hfz51_1 := blk_frozen BK190.out 1
      go_wp2_with (first | ((with_reducible refine gate_callee (f := 42) rfl ?_); refine goesL_ (some 46) rfl rfl Tryd.func42 (by kernel_rfl) rfl #[.int .i64 a0_0, .int .i64 a1_0] rfl gl_ ?_; (with_reducible refine (cmp_Compare_int.calls a0_0 a1_0 t200 _ A44.out).mono ?_); rintro e w' ⟨rfl, ⟨nd, rfl⟩⟩; refine ⟨_, rfl, ?_⟩))
      go_ret2
      exact ⟨by first | rfl | (simp [errW_none, errW_some] <;> rfl) | (simp [*, errW_none, errW_some] <;> rfl), bel⟩
     ·rw [if_neg c43] at H
      have c43b0 : ((decide (a0_0 < 0)) != (decide (a1_0 < 0))) = false := by simpa using c43
      (try (have c43b1 : decide ((decide (a0_0 < 0)) = (decide (a1_0 < 0))) = true := by simpa using c43))
      (try (have c43b2 : ((decide (a0_0 < 0)) == (decide (a1_0 < 0))) = true := by simpa using c43))
      clear c43
      replace H := Option.bind_eq_some_iff.mp H
      obtain ⟨t201, A520, H⟩ := H
      replace H : (some (t201, 0)) = some (r1, r2) := H
      have A52 := Aside0.mk A520
      clear A520
      simp only [Option.some.injEq, Prod.mk.injEq] at H
      obtain ⟨rfl, rfl⟩ := H
      have hnb53 := NB189_190.out
      have hnc53 := NB190_189.out
      have hnb54 := NB189_197.out
      have hnc54 := NB197_189.out
      have hnb55 := NB189_198.out
      have hnc55 := NB198_189.out
      have hcz56_0 : wc.cell? ⟨gb189, 0, none⟩ = some (.int .i64 a0_0) := (blk_cell BK189.out 0).trans rfl
      have hcz56_1 : wc.cell? ⟨gb189, 1, none⟩ = some (.int .i64 a0_1) := (blk_cell BK189.out 1).trans rfl
      have hfz56_0 := blk_frozen BK189.out 0
      have hfz56_1 := blk_frozen BK189.out 1
      have hnb57 := NB190_197.out
      have hnc57 := NB197_190.out
      have hnb58 := NB190_198.out
      have hnc58 := NB198_190.out
      have hcz59_0 : wc.cell? ⟨gb190, 0, none⟩ = some (.int .i64 a1_0) := (blk_cell BK190.out 0).trans rfl
      have hcz59_1 : wc.cell? ⟨gb190, 1, none⟩ = some (.int .i64 a1_1) := (blk_cell BK190.out 1).trans rfl
      have hfz59_0 := blk_frozen BK190.out 0
      have hfz59_1 := blk_frozen BK190.out 1
      have hnb60 := NB197_198.out
      have hnc60 := NB198_197.out
      have hcz61_0 : wc.cell? ⟨gb197, 0, none⟩ = some (.int .u64 t191) := (blk_cell BK197.out 0).trans rfl
      have hcz61_1 : wc.cell? ⟨gb197, 1, none⟩ = some (.int .u64 t192) := (blk_cell BK197.out 1).trans rfl
      have hfz61_0 := blk_frozen BK197.out 0
      have hfz61_1 := blk_frozen BK197.out 1
      have hcz62_0 : wc.cell? ⟨gb198, 0, none⟩ = some (.int .u64 t193) := (blk_cell BK198.out 0).trans rfl
      have hcz62_1 : wc.cell? ⟨gb198, 1, none⟩ = some (.int .u64 t194) := (blk_cell BK198.out 1).trans rfl
      have hfz62_0 := blk_frozen BK198.out 0
      have hfz62_1 := blk_frozen BK198.out 1
      go_wp2_with (first | ((with_reducible refine gate_callee (f := 35) rfl ?_); refine goesL_ (some 49) rfl rfl Tryd.func35 (by kernel_rfl) rfl #[.agg #[.int .u64 t191, .int .u64 t192], .agg #[.int .u64 t193, .int .u64 t194]] rfl gl_ ?_; (with_reducible refine (dec_wide_compare.calls kj4 t191 t192 t193 t194 t201 _ A52.out).mono ?_); rintro e w63 ⟨rfl, hb⟩; refine ⟨_, rfl, ?_⟩; have n0_ := Aside0.mk (blk_below (bkk BK189.out) hb); have n1_ := Aside0.mk (blk_below (bkk BK190.out) hb); have n2_ := Aside0.mk (blk_below (bkk BK197.out) hb); have n3_ := Aside0.mk (blk_below (bkk BK198.out) hb); have n4_ := Aside0.mk (below_step bel hb); clear BK189; clear BK190; clear BK197; clear BK198; clear HB; have BK189 := n0_; have BK190 := n1_; have BK197 := n2_; have BK198 := n3_; have HB := n4_; clear n0_ n1_ n2_ n3_ n4_; (try clear hb); (try clear hb2); (try clear hk); (try clear hi)))
      go_ret2
      exact ⟨by first | rfl | (simp [errW_none, errW_some] <;> rfl) | (simp [*, errW_none, errW_some] <;> rfl), bel⟩
 ·rw [if_neg c4] at H
  have c4b0 : (t196 == 0) = false := beq_eq_false_iff_ne.mpr c4
  have c4b1 : (t196 != 0) = true := bne_iff_ne.mpr c4
  simp only [Option.some.injEq, Prod.mk.injEq] at H
  obtain ⟨rfl, rfl⟩ := H
  go_enter Tryd.func22, Tryd.ntmps22
  go_wp2_with (first | ((with_reducible refine gate_dst (N := 2) rfl ?_); refine box_event ?hg (N := 2) ?hd (cs := #[.int .i64 a0_0, .int .i64 a0_1]) (t := 23) ?hr ?_; (case hd => rfl); (case hg => rfl); (case hr => first | (go_simp; done) | (go_simp; rfl)); intro gb189 hg w64 hbox hb; have n0_ := Aside0.mk (below_step bel hb); have n1_ := Aside0.mk (hbox); have n2_ := Aside0.mk ((by rw [hg]; exact (below_size bel) : w.heap.size ≤ gb189)); have n3_ := Aside0.mk ((by rw [hg]; exact (below_size bel) : w.heap.size ≤ gb189)); clear HB; have HB := n0_; have BK189 := n1_; have GW189 := n2_; have GE189 := n3_; clear n0_ n1_ n2_ n3_; clear hb hbox hg) | ((with_reducible refine gate_dst (N := 3) rfl ?_); refine box_event ?hg (N := 3) ?hd (cs := #[.int .i64 a1_0, .int .i64 a1_1]) (t := 23) ?hr ?_; (case hd => rfl); (case hg => rfl); (case hr => first | (go_simp; done) | (go_simp; rfl)); intro gb190 hg w65 hbox hb; have n0_ := Aside0.mk (blk_below (bkk BK189.out) hb); have n1_ := Aside0.mk (below_step bel hb); have n2_ := Aside0.mk (hbox); have n3_ := Aside0.mk ((by rw [hg]; exact (below_size bel) : w.heap.size ≤ gb190)); have n4_ := Aside0.mk ((by rw [hg]; exact (below_size bel) : w.heap.size ≤ gb190)); have n5_ := Aside0.mk ((by rw [hg]; exact Nat.ne_of_lt (blk_lt (g := gb189) (o := .cells #[.int .i64 a0_0, .int .i64 a0_1] 23 (0, 0)) (bkk BK189.out)) : gb189 ≠ gb190)); have n6_ := Aside0.mk ((by rw [hg]; exact Nat.ne_of_gt (blk_lt (g := gb189) (o := .cells #[.int .i64 a0_0, .int .i64 a0_1] 23 (0, 0)) (bkk BK189.out)) : gb190 ≠ gb189)); clear BK189; clear HB; have BK189 := n0_; have HB := n1_; have BK190 := n2_; have GW190 := n3_; have GE190 := n4_; have NB189_190 := n5_; have NB190_189 := n6_; clear n0_ n1_ n2_ n3_ n4_ n5_ n6_; clear hb hbox hg; have hnb66 := NB189_190.out; have hnc66 := NB190_189.out; have hcz67_0 : w65.cell? ⟨gb189, 0, none⟩ = some (.int .i64 a0_0) := (blk_cell BK189.out 0).trans rfl; have hcz67_1 : w65.cell? ⟨gb189, 1, none⟩ = some (.int .i64 a0_1) := (blk_cell BK189.out 1).trans rfl; have hfz67_0 := blk_frozen BK189.out 0; have hfz67_1 := blk_frozen BK189.out 1; have hcz68_0 : w65.cell? ⟨gb190, 0, none⟩ = some (.int .i64 a1_0) := (blk_cell BK190.out 0).trans rfl; have hcz68_1 : w65.cell? ⟨gb190, 1, none⟩ = some (.int .i64 a1_1) := (blk_cell BK190.out 1).trans rfl; have hfz68_0 := blk_frozen BK190.out 0; have hfz68_1 := blk_frozen BK190.out 1) | ((with_reducible refine gate_callee (f := 33) rfl ?_); refine goesL_ (some 13) rfl rfl Tryd.func33 (by kernel_rfl) rfl #[.agg #[.int .i64 a0_0, .int .i64 a0_1], .agg #[.int .i64 a1_0, .int .i64 a1_1]] rfl gl_ ?_; (with_reducible refine (dec_pair.calls k a0_0 a0_1 a1_0 a1_1 t191 t192 t193 t194 t195 t196 _ A3.out).mono ?_); rintro e w69 ⟨rfl, hb⟩; refine ⟨_, rfl, ?_⟩; have n0_ := Aside0.mk (blk_below (bkk BK189.out) hb); have n1_ := Aside0.mk (blk_below (bkk BK190.out) hb); have n2_ := Aside0.mk (below_step bel hb); clear BK189; clear BK190; clear HB; have BK189 := n0_; have BK190 := n1_; have HB := n2_; clear n0_ n1_ n2_; (try clear hb); (try clear hb2); (try clear hk); (try clear hi)) | ((with_reducible refine gate_dst (N := 6) rfl ?_); refine box_event ?hg (N := 6) ?hd (cs := #[.int .u64 0, .int .u64 0]) (t := 52) ?hr ?_; (case hd => rfl); (case hg => rfl); (case hr => first | (go_simp; done) | (go_simp; rfl)); intro gb197 hg w70 hbox hb; have n0_ := Aside0.mk (blk_below (bkk BK189.out) hb); have n1_ := Aside0.mk (blk_below (bkk BK190.out) hb); have n2_ := Aside0.mk (below_step bel hb); have n3_ := Aside0.mk (hbox); have n4_ := Aside0.mk ((by rw [hg]; exact (below_size bel) : w.heap.size ≤ gb197)); have n5_ := Aside0.mk ((by rw [hg]; exact (below_size bel) : w.heap.size ≤ gb197)); have n6_ := Aside0.mk ((by rw [hg]; exact Nat.ne_of_lt (blk_lt (g := gb189) (o := .cells #[.int .i64 a0_0, .int .i64 a0_1] 23 (0, 0)) (bkk BK189.out)) : gb189 ≠ gb197)); have n7_ := Aside0.mk ((by rw [hg]; exact Nat.ne_of_gt (blk_lt (g := gb189) (o := .cells #[.int .i64 a0_0, .int .i64 a0_1] 23 (0, 0)) (bkk BK189.out)) : gb197 ≠ gb189)); have n8_ := Aside0.mk ((by rw [hg]; exact Nat.ne_of_lt (blk_lt (g := gb190) (o := .cells #[.int .i64 a1_0, .int .i64 a1_1] 23 (0, 0)) (bkk BK190.out)) : gb190 ≠ gb197)); have n9_ := Aside0.mk ((by rw [hg]; exact Nat.ne_of_gt (blk_lt (g := gb190) (o := .cells #[.int .i64 a1_0, .int .i64 a1_1] 23 (0, 0)) (bkk BK190.out)) : gb197 ≠ gb190)); clear BK189; clear BK190; clear HB; have BK189 := n0_; have BK190 := n1_; have HB := n2_; have BK197 := n3_; have GW197 := n4_; have GE197 := n5_; have NB189_197 := n6_; have NB197_189 := n7_; have NB190_197 := n8_; have NB197_190 := n9_; clear n0_ n1_ n2_ n3_ n4_ n5_ n6_ n7_ n8_ n9_; clear hb hbox hg) | ((with_reducible refine gate_dst (N := 7) rfl ?_); refine box_event ?hg (N := 7) ?hd (cs := #[.int .u64 0, .int .u64 0]) (t := 52) ?hr ?_; (case hd => rfl); (case hg => rfl); (case hr => first | (go_simp; done) | (go_simp; rfl)); intro gb198 hg w71 hbox hb; have n0_ := Aside0.mk (blk_below (bkk BK189.out) hb); have n1_ := Aside0.mk (blk_below (bkk BK190.out) hb); have n2_ := Aside0.mk (blk_below (bkk BK197.out) hb); have n3_ := Aside0.mk (below_step bel hb); have n4_ := Aside0.mk (hbox); have n5_ := Aside0.mk ((by rw [hg]; exact (below_size bel) : w.heap.size ≤ gb198)); have n6_ := Aside0.mk ((by rw [hg]; exact (below_size bel) : w.heap.size ≤ gb198)); have n7_ := Aside0.mk ((by rw [hg]; exact Nat.ne_of_lt (blk_lt (g := gb189) (o := .cells #[.int .i64 a0_0, .int .i64 a0_1] 23 (0, 0)) (bkk BK189.out)) : gb189 ≠ gb198)); have n8_ := Aside0.mk ((by rw [hg]; exact Nat.ne_of_gt (blk_lt (g := gb189) (o := .cells #[.int .i64 a0_0, .int .i64 a0_1] 23 (0, 0)) (bkk BK189.out)) : gb198 ≠ gb189)); have n9_ := Aside0.mk ((by rw [hg]; exact Nat.ne_of_lt (blk_lt (g := gb190) (o := .cells #[.int .i64 a1_0, .int .i64 a1_1] 23 (0, 0)) (bkk BK190.out)) : gb190 ≠ gb198)); have n10_ := Aside0.mk ((by rw [hg]; exact Nat.ne_of_gt (blk_lt (g := gb190) (o := .cells #[.int .i64 a1_0, .int .i64 a1_1] 23 (0, 0)) (bkk BK190.out)) : gb198 ≠ gb190)); have n11_ := Aside0.mk ((by rw [hg]; exact Nat.ne_of_lt (blk_lt (g := gb197) (o := .cells #[.int .u64 0, .int .u64 0] 52 (0, 0)) (bkk BK197.out)) : gb197 ≠ gb198)); have n12_ := Aside0.mk ((by rw [hg]; exact Nat.ne_of_gt (blk_lt (g := gb197) (o := .cells #[.int .u64 0, .int .u64 0] 52 (0, 0)) (bkk BK197.out)) : gb198 ≠ gb197)); clear BK189; clear BK190; clear BK197; clear HB; have BK189 := n0_; have BK190 := n1_; have BK197 := n2_; have HB := n3_; have BK198 := n4_; have GW198 := n5_; have GE198 := n6_; have NB189_198 := n7_; have NB198_189 := n8_; have NB190_198 := n9_; have NB198_190 := n10_; have NB197_198 := n11_; have NB198_197 := n12_; clear n0_ n1_ n2_ n3_ n4_ n5_ n6_ n7_ n8_ n9_ n10_ n11_ n12_; clear hb hbox hg; have hnb72 := NB197_189.out; have hnc72 := NB189_197.out; have hnb73 := NB197_190.out; have hnc73 := NB190_197.out; have hnb74 := NB197_198.out; have hnc74 := NB198_197.out; have hcz75_0 : w71.cell? ⟨gb197, 0, none⟩ = some (.int .u64 0) := (blk_cell BK197.out 0).trans rfl; have hcz75_1 : w71.cell? ⟨gb197, 1, none⟩ = some (.int .u64 0) := (blk_cell BK197.out 1).trans rfl; have hfz75_0 := blk_frozen BK197.out 0; have hfz75_1 := blk_frozen BK197.out 1; have hnb76 := NB198_189.out; have hnc76 := NB189_198.out; have hnb77 := NB198_190.out; have hnc77 := NB190_198.out; have hcz78_0 : w71.cell? ⟨gb198, 0, none⟩ = some (.int .u64 0) := (blk_cell BK198.out 0).trans rfl; have hcz78_1 : w71.cell? ⟨gb198, 1, none⟩ = some (.int .u64 0) := (blk_cell BK198.out 1).trans rfl; have hfz78_0 := blk_frozen BK198.out 0; have hfz78_1 := blk_frozen BK198.out 1))
  go_ret2
  exact ⟨by first | rfl | (simp [errW_none, errW_some] <;> rfl) | (simp [*, errW_none, errW_some] <;> rfl), bel⟩
def dec_Make.j0 : Nat → Int → Int → Bool → Option (Int × Int × Int)
 | 0, _, _, _ => none
 | k + 1, x0, x1, x19 => if x19 = true then (some (0, 0, 1)) else ((dec_size.f x0).bind fun t203 => ((dec_tell.f k (decide (x0 < 0)) 0 t203 x1).bind fun bt204 => (some (bt204.1, bt204.2.1, bt204.2.2))))
def dec_Make.f (k : Nat) (a0 : Int) (a1 : Int) : Option (Int × Int × Int) := if a1 < 0 then (dec_Make.j0 k a0 a1 true) else (if a1 > 18 then (dec_Make.j0 k a0 a1 true) else (if a0 < (-999999999999999999) then (dec_Make.j0 k a0 a1 true) else (dec_Make.j0 k a0 a1 (decide (a0 > 999999999999999999)))))
theorem dec_Make.mono_l : ∀ k, (∀ y0 y1 y2, LeO (dec_Make.j0 k y0 y1 y2) (dec_Make.j0 (k + 1) y0 y1 y2))
 | 0 => fun _ _ _ r h => by simp [dec_Make.j0] at h
 | k + 1 => by
  have ih0 := dec_Make.mono_l k
  ·intro y0 y1 y2
   unfold dec_Make.j0
   repeat' first
   | (with_reducible exact ih0 _ _ _)
   | (with_reducible exact dec_tell.mono _ _ _ _ _)
   | (with_reducible exact LeO.refl _)
   | (with_reducible exact LeO.none _)
   | (with_reducible refine LeO.ite ?_ ?_)
   | (with_reducible refine LeO.bind ?_ (fun _ => ?_))
   | exact ih0 _ _ _
   | exact dec_tell.mono _ _ _ _ _
   | exact LeO.none _
   | refine LeO.ite ?_ ?_
   | refine LeO.bind ?_ (fun _ => ?_)
theorem dec_Make.mono : ∀ a0 a1 k, LeO (dec_Make.f k a0 a1) (dec_Make.f (k + 1) a0 a1) := by
 intro a0 a1 k
 have ih0 := dec_Make.mono_l k
 unfold dec_Make.f
 repeat' first
   | (with_reducible exact ih0 _ _ _)
   | (with_reducible exact dec_tell.mono _ _ _ _ _)
   | (with_reducible exact LeO.refl _)
   | (with_reducible exact LeO.none _)
   | (with_reducible refine LeO.ite ?_ ?_)
   | (with_reducible refine LeO.bind ?_ (fun _ => ?_))
   | exact ih0 _ _ _
   | exact dec_tell.mono _ _ _ _ _
   | exact LeO.none _
   | refine LeO.ite ?_ ?_
   | refine LeO.bind ?_ (fun _ => ?_)
set_option maxHeartbeats 8000000 in
set_option maxRecDepth 100000 in
theorem dec_Make.calls (k : Nat) (a0 : Int) (a1 : Int) (r1 : Int) (r2 : Int) (r3 : Int) (w : World) (h : dec_Make.f k a0 a1 = some (r1, r2, r3)) :
  Calls Tryd.prog 16 #[.int .i64 a0, .int .i64 a1] w fun e w' => e = .returned (.tuple #[.agg #[.int .i64 r1, .int .i64 r2], .int .i64 r3]) ∧ Below w.heap.size w w' := by
 have hu23 := Tryd.underlying23
 have hu52 := Tryd.underlying52
 have HB := Aside0.mk (Below.refl w.heap.size w)
 have H : (if a1 < 0 then (dec_Make.j0 k a0 a1 true) else (if a1 > 18 then (dec_Make.j0 k a0 a1 true) else (if a0 < (-999999999999999999) then (dec_Make.j0 k a0 a1 true) else (dec_Make.j0 k a0 a1 (decide (a0 > 999999999999999999)))))) = some (r1, r2, r3) := h
 clear h
 have HC3 := Aside0.mk H
 clear H
 go_enter Tryd.func16, Tryd.ntmps16
 go_upto_region 1 with (first | ((with_reducible refine gate_dst (N := 4) rfl ?_); refine box_event ?hg (N := 4) ?hd (cs := #[.int .i64 0, .int .i64 0]) (t := 23) ?hr ?_; (case hd => rfl); (case hg => rfl); (case hr => first | (go_simp; done) | (go_simp; rfl)); intro gb202 hg w4 hbox hb; have n0_ := Aside0.mk (below_step bel hb); have n1_ := Aside0.mk (hbox); have n2_ := Aside0.mk ((by rw [hg]; exact (below_size bel) : w.heap.size ≤ gb202)); have n3_ := Aside0.mk ((by rw [hg]; exact (below_size bel) : w.heap.size ≤ gb202)); clear HB; have HB := n0_; have BK202 := n1_; have GW202 := n2_; have GE202 := n3_; clear n0_ n1_ n2_ n3_; clear hb hbox hg))
 (try simp only [Act.put, List.setIfInBounds_toArray, List.set_cons_zero, List.set_cons_succ])
 go_cut [19] (fun v19 wc => ∃ (kq : Nat) (x19_2 : Bool), v19 = .bool x19_2 ∧ Aside0 (dec_Make.j0 kq a0 a1 x19_2 = some (r1, r2, r3)) ∧ Aside0 (kq ≤ k) ∧ Aside0 (wc.heap[gb202]? = some (.cells #[.int .i64 0, .int .i64 0] 23 (0, 0))) ∧ Aside0 (Below w.heap.size w wc))
 case first =>
  have H := HC3.out
  clear HC3
  by_cases c5 : a1 < 0
  ·rw [if_pos c5] at H
   have c5b0 : decide (a1 < 0) = true := decide_eq_true c5
   clear c5
   (first | rw [c5b0] | (simp only [i64_w, i32_w]; rw [c5b0]) | skip)
   have H' := Aside0.mk H
   clear H
   go_wp2
   go_meet
   case rel => exact ⟨_, (true), ea_, H', ⟨by first | omega | exact Nat.le_refl _⟩, ⟨bkk BK202.out⟩, ⟨bel⟩⟩
  ·rw [if_neg c5] at H
   have c5b0 : decide (a1 < 0) = false := decide_eq_false c5
   clear c5
   (first | rw [c5b0] | (simp only [i64_w, i32_w]; rw [c5b0]) | skip)
   by_cases c6 : a1 > 18
   ·rw [if_pos c6] at H
    have c6b0 : decide (18 < a1) = true := decide_eq_true c6
    clear c6
    have H' := Aside0.mk H
    clear H
    go_wp2
    go_meet
    case rel => exact ⟨_, (true), ea_, H', ⟨by first | omega | exact Nat.le_refl _⟩, ⟨bkk BK202.out⟩, ⟨bel⟩⟩
   ·rw [if_neg c6] at H
    have c6b0 : decide (18 < a1) = false := decide_eq_false c6
    clear c6
    by_cases c7 : a0 < (-999999999999999999)
    ·rw [if_pos c7] at H
     have c7b0 : decide (a0 < (-999999999999999999)) = true := decide_eq_true c7
     clear c7
     have H' := Aside0.mk H
     clear H
     go_wp2
     go_meet
     case rel => exact ⟨_, (true), ea_, H', ⟨by first | omega | exact Nat.le_refl _⟩, ⟨bkk BK202.out⟩, ⟨bel⟩⟩
    ·rw [if_neg c7] at H
     have c7b0 : decide (a0 < (-999999999999999999)) = false := decide_eq_false c7
     clear c7
     have H' := Aside0.mk H
     clear H
     go_wp2
     go_meet
     case rel => exact ⟨_, (decide (a0 > 999999999999999999)), ea_, H', ⟨by first | omega | exact Nat.le_refl _⟩, ⟨bkk BK202.out⟩, ⟨bel⟩⟩
 case rest =>
  clear HC3
  try clear c1
  try clear p2
  try clear c5
  try clear c5b0
  try clear c6
  try clear c6b0
  try clear c7
  try clear c7b0
  obtain ⟨kq, x19_2, rfl, HA, HJ2, BK202, HB⟩ := hcut
  cases kq with
  | zero => exact absurd HA.out (by simp [dec_Make.j0])
  | succ kj2 =>
   have H := HA.out
   clear HA
   simp only [dec_Make.j0] at H
   by_cases c8 : x19_2 = true
   ·subst c8
    have H1 : (some (0, 0, 1)) = some (r1, r2, r3) := by rw [if_pos rfl] at H; exact H
    clear H
    have H := H1
    clear H1
    simp only [Option.some.injEq, Prod.mk.injEq] at H
    obtain ⟨rfl, rfl, rfl⟩ := H
    have hcz9_0 : wc.cell? ⟨gb202, 0, none⟩ = some (.int .i64 0) := (blk_cell BK202.out 0).trans rfl
    have hcz9_1 : wc.cell? ⟨gb202, 1, none⟩ = some (.int .i64 0) := (blk_cell BK202.out 1).trans rfl
    have hfz9_0 := blk_frozen BK202.out 0
    have hfz9_1 := blk_frozen BK202.out 1
    go_wp2
    refine bodyPost_ret (results_ct rfl _ _ gb202 23 #[.int .i64 0, .int .i64 0] (0, 0) _ rfl (by (with_reducible repeat (first | refine blk_drewN ?_ _ | refine blk_drew ?_ | refine blk_alloc ?_ _)); refine blk_put (cs := #[.int .i64 0, .int .i64 0]) ?_ 1 _ rfl; (with_reducible repeat (first | refine blk_drewN ?_ _ | refine blk_drew ?_ | refine blk_alloc ?_ _)); refine blk_put (cs := #[.int .i64 0, .int .i64 0]) ?_ 0 _ rfl; (with_reducible repeat (first | refine blk_drewN ?_ _ | refine blk_drew ?_ | refine blk_alloc ?_ _)); exact BK202.out) Tryd.underlying23 rfl (by kernel_rfl)) rfl ?_
    exact ⟨by first | rfl | (simp [errW_none, errW_some] <;> rfl) | (simp [*, errW_none, errW_some] <;> rfl), bel⟩
   ·replace c8 := Bool.eq_false_iff.mpr c8
    subst c8
    have H1 : ((dec_size.f a0).bind fun t203 => ((dec_tell.f kj2 (decide (a0 < 0)) 0 t203 a1).bind fun bt204 => (some (bt204.1, bt204.2.1, bt204.2.2)))) = some (r1, r2, r3) := by rw [if_neg (show ¬ (false = true) by decide)] at H; exact H
    clear H
    have H := H1
    clear H1
    replace H := Option.bind_eq_some_iff.mp H
    obtain ⟨t203, A100, H⟩ := H
    replace H : ((dec_tell.f kj2 (decide (a0 < 0)) 0 t203 a1).bind fun bt204 => (some (bt204.1, bt204.2.1, bt204.2.2))) = some (r1, r2, r3) := H
    have A10 := Aside0.mk A100
    clear A100
    replace H := Option.bind_eq_some_iff.mp H
    obtain ⟨⟨t204, t205, t206⟩, A110, H⟩ := H
    replace H : (some (t204, t205, t206)) = some (r1, r2, r3) := H
    have A11 := Aside0.mk A110
    clear A110
    simp only [Option.some.injEq, Prod.mk.injEq] at H
    obtain ⟨rfl, rfl, rfl⟩ := H
    go_wp2_with (first | ((with_reducible refine gate_callee (f := 27) rfl ?_); refine goesL_ (some 24) rfl rfl Tryd.func27 (by kernel_rfl) rfl #[.int .i64 a0] rfl gl_ ?_; (with_reducible refine (dec_size.calls a0 t203 _ A10.out).mono ?_); rintro e w12 ⟨rfl, hb⟩; refine ⟨_, rfl, ?_⟩; have n0_ := Aside0.mk (blk_below (bkk BK202.out) hb); have n1_ := Aside0.mk (below_step bel hb); clear BK202; clear HB; have BK202 := n0_; have HB := n1_; clear n0_ n1_; (try clear hb); (try clear hb2); (try clear hk); (try clear hi)) | ((with_reducible refine gate_callee (f := 32) rfl ?_); refine goesL_ (some 27) rfl rfl Tryd.func32 (by kernel_rfl) rfl #[.bool (decide (a0 < 0)), .agg #[.int .u64 0, .int .u64 t203], .int .i64 a1] rfl gl_ ?_; (with_reducible refine (dec_tell.calls kj2 (decide (a0 < 0)) 0 t203 a1 t204 t205 t206 _ A11.out).mono ?_); rintro e w13 ⟨rfl, hb⟩; refine ⟨_, rfl, ?_⟩; have n0_ := Aside0.mk (blk_below (bkk BK202.out) hb); have n1_ := Aside0.mk (below_step bel hb); clear BK202; clear HB; have BK202 := n0_; have HB := n1_; clear n0_ n1_; (try clear hb); (try clear hb2); (try clear hk); (try clear hi); have hcz14_0 : w13.cell? ⟨gb202, 0, none⟩ = some (.int .i64 0) := (blk_cell BK202.out 0).trans rfl; have hcz14_1 : w13.cell? ⟨gb202, 1, none⟩ = some (.int .i64 0) := (blk_cell BK202.out 1).trans rfl; have hfz14_0 := blk_frozen BK202.out 0; have hfz14_1 := blk_frozen BK202.out 1))
    refine bodyPost_ret (results_ct rfl _ _ gb202 23 #[.int .i64 t204, .int .i64 t205] (0, 0) _ rfl (by (with_reducible repeat (first | refine blk_drewN ?_ _ | refine blk_drew ?_ | refine blk_alloc ?_ _)); refine blk_put (cs := #[.int .i64 t204, .int .i64 0]) ?_ 1 _ rfl; (with_reducible repeat (first | refine blk_drewN ?_ _ | refine blk_drew ?_ | refine blk_alloc ?_ _)); refine blk_put (cs := #[.int .i64 0, .int .i64 0]) ?_ 0 _ rfl; (with_reducible repeat (first | refine blk_drewN ?_ _ | refine blk_drew ?_ | refine blk_alloc ?_ _)); exact BK202.out) Tryd.underlying23 rfl (by kernel_rfl)) rfl ?_
    exact ⟨by first | rfl | (simp [errW_none, errW_some] <;> rfl) | (simp [*, errW_none, errW_some] <;> rfl), bel⟩
end Go.Proofs.YtdkckjiccpdkbaaDoor.B
