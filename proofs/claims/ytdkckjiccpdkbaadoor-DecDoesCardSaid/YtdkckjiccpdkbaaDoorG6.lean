-- written by my own driver of the kit's print (wip/tools/myprint.py); Lean checks it.
import Derived.Test.YtdkckjiccpdkbaaDoorG0
import Derived.Test.YtdkckjiccpdkbaaDoorG2
import Derived.Test.YtdkckjiccpdkbaaDoorE4
namespace Go.Proofs.YtdkckjiccpdkbaaDoor.G
open Go.RowKit Go.Proofs.YtdkckjiccpdkbaaDoorW.PrintWords Go.Proofs.YtdkckjiccpdkbaaDoorW.PrintLast Go.Proofs.YtdkckjiccpdkbaaDoorW.PrintMore Go.Proofs.YtdkckjiccpdkbaaDoor.H Go.Proofs.YtdkckjiccpdkbaaDoor.A Go.Proofs.YtdkckjiccpdkbaaDoor.B Go.Proofs.YtdkckjiccpdkbaaDoor.E
attribute [local go_sem] max2_int min2_int max_two min_two max_three min_three max_four min_four   -- for this text's walks alone
set_option linter.unusedVariables false
set_option linter.unusedSimpArgs false
mutual
def erasureref01_Compare.j0 : Nat → Bool → Int → Int → Int → Int → Option (Int × Int)
 | 0, _, _, _, _, _ => none
 | k + 1, x18, x345000, x345001, x346000, x346001 => if x18 = true then (some (0, 1)) else ((erasureref01_of.f k x345000 x345001).bind fun bt348 => ((erasureref01_of.f k x346000 x346001).bind fun bt354 => ((erasureref01_lift.f k bt348.1 bt348.2.1 bt348.2.2 (mx bt348.2.2 bt354.2.2)).bind fun bt360 => ((erasureref01_lift.f k bt354.1 bt354.2.1 bt354.2.2 (mx bt348.2.2 bt354.2.2)).bind fun bt365 => ((erasureref01_less.f k bt360.2.1 bt365.2.1).bind fun t370 => ((erasureref01_less.f k bt365.2.1 bt360.2.1).bind fun t371 => (if (bt360.1 != bt365.1) = true then (erasureref01_Compare.j1 k bt360.1 bt365.1) else (if bt360.1 = true then (erasureref01_Compare.j1 k t371 t370) else (erasureref01_Compare.j1 k t370 t371)))))))))
def erasureref01_Compare.j1 : Nat → Bool → Bool → Option (Int × Int)
 | 0, _, _ => none
 | k + 1, x9, x10 => if x9 = true then (some ((-1), 0)) else (if x10 = true then (some (1, 0)) else (some (0, 0)))
end
def erasureref01_Compare.f (k : Nat) (a0_0 : Int) (a0_1 : Int) (a1_0 : Int) (a1_1 : Int) : Option (Int × Int) := (erasureref01_Right.f a0_0 a0_1).bind fun t346 => (if t346 = true then ((erasureref01_Right.f a1_0 a1_1).bind fun t347 => (erasureref01_Compare.j0 k (!t347) a0_0 a0_1 a1_0 a1_1)) else (erasureref01_Compare.j0 k true a0_0 a0_1 a1_0 a1_1))
theorem erasureref01_Compare.mono_l : ∀ k, (∀ y0 y1 y2 y3 y4, LeO (erasureref01_Compare.j0 k y0 y1 y2 y3 y4) (erasureref01_Compare.j0 (k + 1) y0 y1 y2 y3 y4)) ∧ (∀ y0 y1, LeO (erasureref01_Compare.j1 k y0 y1) (erasureref01_Compare.j1 (k + 1) y0 y1))
 | 0 => ⟨fun _ _ _ _ _ r h => by simp [erasureref01_Compare.j0] at h, fun _ _ r h => by simp [erasureref01_Compare.j1] at h⟩
 | k + 1 => by
  obtain ⟨ih0, ih1⟩ := erasureref01_Compare.mono_l k
  refine ⟨?_, ?_⟩
  ·intro y0 y1 y2 y3 y4
   unfold erasureref01_Compare.j0
   repeat' first
   | (with_reducible exact ih0 _ _ _ _ _)
   | (with_reducible exact ih1 _ _)
   | (with_reducible exact erasureref01_less.mono _ _ _)
   | (with_reducible exact erasureref01_lift.mono _ _ _ _ _)
   | (with_reducible exact erasureref01_of.mono _ _ _)
   | (with_reducible exact LeO.refl _)
   | (with_reducible exact LeO.none _)
   | (with_reducible refine LeO.ite ?_ ?_)
   | (with_reducible refine LeO.bind ?_ (fun _ => ?_))
   | exact ih0 _ _ _ _ _
   | exact ih1 _ _
   | exact erasureref01_less.mono _ _ _
   | exact erasureref01_lift.mono _ _ _ _ _
   | exact erasureref01_of.mono _ _ _
   | exact LeO.none _
   | refine LeO.ite ?_ ?_
   | refine LeO.bind ?_ (fun _ => ?_)
  ·intro y0 y1
   unfold erasureref01_Compare.j1
   repeat' first
   | (with_reducible exact ih0 _ _ _ _ _)
   | (with_reducible exact ih1 _ _)
   | (with_reducible exact erasureref01_less.mono _ _ _)
   | (with_reducible exact erasureref01_lift.mono _ _ _ _ _)
   | (with_reducible exact erasureref01_of.mono _ _ _)
   | (with_reducible exact LeO.refl _)
   | (with_reducible exact LeO.none _)
   | (with_reducible refine LeO.ite ?_ ?_)
   | (with_reducible refine LeO.bind ?_ (fun _ => ?_))
   | exact ih0 _ _ _ _ _
   | exact ih1 _ _
   | exact erasureref01_less.mono _ _ _
   | exact erasureref01_lift.mono _ _ _ _ _
   | exact erasureref01_of.mono _ _ _
   | exact LeO.none _
   | refine LeO.ite ?_ ?_
   | refine LeO.bind ?_ (fun _ => ?_)
theorem erasureref01_Compare.mono : ∀ a0 a1 a2 a3 k, LeO (erasureref01_Compare.f k a0 a1 a2 a3) (erasureref01_Compare.f (k + 1) a0 a1 a2 a3) := by
 intro a0 a1 a2 a3 k
 obtain ⟨ih0, ih1⟩ := erasureref01_Compare.mono_l k
 unfold erasureref01_Compare.f
 repeat' first
   | (with_reducible exact ih0 _ _ _ _ _)
   | (with_reducible exact ih1 _ _)
   | (with_reducible exact erasureref01_less.mono _ _ _)
   | (with_reducible exact erasureref01_lift.mono _ _ _ _ _)
   | (with_reducible exact erasureref01_of.mono _ _ _)
   | (with_reducible exact LeO.refl _)
   | (with_reducible exact LeO.none _)
   | (with_reducible refine LeO.ite ?_ ?_)
   | (with_reducible refine LeO.bind ?_ (fun _ => ?_))
   | exact ih0 _ _ _ _ _
   | exact ih1 _ _
   | exact erasureref01_less.mono _ _ _
   | exact erasureref01_lift.mono _ _ _ _ _
   | exact erasureref01_of.mono _ _ _
   | exact LeO.none _
   | refine LeO.ite ?_ ?_
   | refine LeO.bind ?_ (fun _ => ?_)
set_option maxHeartbeats 8000000 in
set_option maxRecDepth 100000 in
theorem erasureref01_Compare.calls (k : Nat) (a0_0 : Int) (a0_1 : Int) (a1_0 : Int) (a1_1 : Int) (r1 : Int) (r2 : Int) (w : World) (h : erasureref01_Compare.f k a0_0 a0_1 a1_0 a1_1 = some (r1, r2)) :
  Calls Tryd.prog 23 #[.agg #[.int .i64 a0_0, .int .i64 a0_1], .agg #[.int .i64 a1_0, .int .i64 a1_1]] w fun e w' => e = .returned (.tuple #[.int .i64 r1, .int .i64 r2]) ∧ Below w.heap.size w w' := by
 have hu23 := Tryd.underlying23
 have hu61 := Tryd.underlying61
 have HB := Aside0.mk (Below.refl w.heap.size w)
 have H : ((erasureref01_Right.f a0_0 a0_1).bind fun t346 => (if t346 = true then ((erasureref01_Right.f a1_0 a1_1).bind fun t347 => (erasureref01_Compare.j0 k (!t347) a0_0 a0_1 a1_0 a1_1)) else (erasureref01_Compare.j0 k true a0_0 a0_1 a1_0 a1_1))) = some (r1, r2) := h
 clear h
 have HC3 := Aside0.mk H
 clear H
 go_enter Tryd.func23, Tryd.ntmps23
 go_upto_region 1 with (first | ((with_reducible refine gate_dst (N := 2) rfl ?_); refine box_event ?hg (N := 2) ?hd (cs := #[.int .i64 a0_0, .int .i64 a0_1]) (t := 23) ?hr ?_; (case hd => rfl); (case hg => rfl); (case hr => first | (go_simp; done) | (go_simp; rfl)); intro gb344 hg w4 hbox hb; have n0_ := Aside0.mk (below_step bel hb); have n1_ := Aside0.mk (hbox); have n2_ := Aside0.mk ((by rw [hg]; exact (below_size bel) : w.heap.size ≤ gb344)); have n3_ := Aside0.mk ((by rw [hg]; exact (below_size bel) : w.heap.size ≤ gb344)); clear HB; have HB := n0_; have BK344 := n1_; have GW344 := n2_; have GE344 := n3_; clear n0_ n1_ n2_ n3_; clear hb hbox hg) | ((with_reducible refine gate_dst (N := 3) rfl ?_); refine box_event ?hg (N := 3) ?hd (cs := #[.int .i64 a1_0, .int .i64 a1_1]) (t := 23) ?hr ?_; (case hd => rfl); (case hg => rfl); (case hr => first | (go_simp; done) | (go_simp; rfl)); intro gb345 hg w5 hbox hb; have n0_ := Aside0.mk (blk_below (bkk BK344.out) hb); have n1_ := Aside0.mk (below_step bel hb); have n2_ := Aside0.mk (hbox); have n3_ := Aside0.mk ((by rw [hg]; exact (below_size bel) : w.heap.size ≤ gb345)); have n4_ := Aside0.mk ((by rw [hg]; exact (below_size bel) : w.heap.size ≤ gb345)); have n5_ := Aside0.mk ((by rw [hg]; exact Nat.ne_of_lt (blk_lt (g := gb344) (o := .cells #[.int .i64 a0_0, .int .i64 a0_1] 23 (0, 0)) (bkk BK344.out)) : gb344 ≠ gb345)); have n6_ := Aside0.mk ((by rw [hg]; exact Nat.ne_of_gt (blk_lt (g := gb344) (o := .cells #[.int .i64 a0_0, .int .i64 a0_1] 23 (0, 0)) (bkk BK344.out)) : gb345 ≠ gb344)); clear BK344; clear HB; have BK344 := n0_; have HB := n1_; have BK345 := n2_; have GW345 := n3_; have GE345 := n4_; have NB344_345 := n5_; have NB345_344 := n6_; clear n0_ n1_ n2_ n3_ n4_ n5_ n6_; clear hb hbox hg))
 (try simp only [Act.put, List.setIfInBounds_toArray, List.set_cons_zero, List.set_cons_succ])
 go_cut [18] (fun v18 wc => ∃ (kq : Nat) (x18_2 : Bool), v18 = .bool x18_2 ∧ Aside0 (erasureref01_Compare.j0 kq x18_2 a0_0 a0_1 a1_0 a1_1 = some (r1, r2)) ∧ Aside0 (kq ≤ k) ∧ Aside0 (wc.heap[gb344]? = some (.cells #[.int .i64 a0_0, .int .i64 a0_1] 23 (0, 0))) ∧ Aside0 (wc.heap[gb345]? = some (.cells #[.int .i64 a1_0, .int .i64 a1_1] 23 (0, 0))) ∧ Aside0 (Below w.heap.size w wc))
 case first =>
  have H := HC3.out
  clear HC3
  replace H := Option.bind_eq_some_iff.mp H
  obtain ⟨t346, A60, H⟩ := H
  replace H : (if t346 = true then ((erasureref01_Right.f a1_0 a1_1).bind fun t347 => (erasureref01_Compare.j0 k (!t347) a0_0 a0_1 a1_0 a1_1)) else (erasureref01_Compare.j0 k true a0_0 a0_1 a1_0 a1_1)) = some (r1, r2) := H
  have A6 := Aside0.mk A60
  clear A60
  by_cases c7 : t346 = true
  ·subst c7
   have H1 : ((erasureref01_Right.f a1_0 a1_1).bind fun t347 => (erasureref01_Compare.j0 k (!t347) a0_0 a0_1 a1_0 a1_1)) = some (r1, r2) := by rw [if_pos rfl] at H; exact H
   clear H
   have H := H1
   clear H1
   replace H := Option.bind_eq_some_iff.mp H
   obtain ⟨t347, A80, H⟩ := H
   replace H : (erasureref01_Compare.j0 k (!t347) a0_0 a0_1 a1_0 a1_1) = some (r1, r2) := H
   have A8 := Aside0.mk A80
   clear A80
   have H' := Aside0.mk H
   clear H
   have hnb9 := NB344_345.out
   have hnc9 := NB345_344.out
   have hcz10_0 : w5.cell? ⟨gb344, 0, none⟩ = some (.int .i64 a0_0) := (blk_cell BK344.out 0).trans rfl
   have hcz10_1 : w5.cell? ⟨gb344, 1, none⟩ = some (.int .i64 a0_1) := (blk_cell BK344.out 1).trans rfl
   have hfz10_0 := blk_frozen BK344.out 0
   have hfz10_1 := blk_frozen BK344.out 1
   go_wp2_with (first | ((with_reducible refine gate_callee (f := 25) rfl ?_); refine goesL_ (some 12) rfl rfl Tryd.func25 (by kernel_rfl) rfl #[.agg #[.int .i64 a0_0, .int .i64 a0_1]] rfl gl_ ?_; (with_reducible refine (erasureref01_Right.calls a0_0 a0_1 true _ A6.out).mono ?_); rintro e w11 ⟨rfl, hb⟩; refine ⟨_, rfl, ?_⟩; have n0_ := Aside0.mk (blk_below (bkk BK344.out) hb); have n1_ := Aside0.mk (blk_below (bkk BK345.out) hb); have n2_ := Aside0.mk (below_step bel hb); clear BK344; clear BK345; clear HB; have BK344 := n0_; have BK345 := n1_; have HB := n2_; clear n0_ n1_ n2_; (try clear hb); (try clear hb2); (try clear hk); (try clear hi); have hcz12_0 : w11.cell? ⟨gb345, 0, none⟩ = some (.int .i64 a1_0) := (blk_cell BK345.out 0).trans rfl; have hcz12_1 : w11.cell? ⟨gb345, 1, none⟩ = some (.int .i64 a1_1) := (blk_cell BK345.out 1).trans rfl; have hfz12_0 := blk_frozen BK345.out 0; have hfz12_1 := blk_frozen BK345.out 1) | (go_at_call 25; (with_reducible refine (erasureref01_Right.calls a1_0 a1_1 t347 _ A8.out).mono ?_); rintro e w13 ⟨rfl, hb⟩; have n0_ := Aside0.mk (blk_below (bkk BK344.out) hb); have n1_ := Aside0.mk (blk_below (bkk BK345.out) hb); have n2_ := Aside0.mk (below_step bel hb); clear BK344; clear BK345; clear HB; have BK344 := n0_; have BK345 := n1_; have HB := n2_; clear n0_ n1_ n2_; (try clear hb); (try clear hb2); (try clear hk); (try clear hi)))
   go_meet
   case rel => exact ⟨_, (!t347), ea_, H', ⟨by first | omega | exact Nat.le_refl _⟩, ⟨bkk BK344.out⟩, ⟨bkk BK345.out⟩, ⟨bel⟩⟩
  ·replace c7 := Bool.eq_false_iff.mpr c7
   subst c7
   have H1 : (erasureref01_Compare.j0 k true a0_0 a0_1 a1_0 a1_1) = some (r1, r2) := by rw [if_neg (show ¬ (false = true) by decide)] at H; exact H
   clear H
   have H := H1
   clear H1
   have H' := Aside0.mk H
   clear H
   have hnb14 := NB344_345.out
   have hnc14 := NB345_344.out
   have hcz15_0 : w5.cell? ⟨gb344, 0, none⟩ = some (.int .i64 a0_0) := (blk_cell BK344.out 0).trans rfl
   have hcz15_1 : w5.cell? ⟨gb344, 1, none⟩ = some (.int .i64 a0_1) := (blk_cell BK344.out 1).trans rfl
   have hfz15_0 := blk_frozen BK344.out 0
   have hfz15_1 := blk_frozen BK344.out 1
   go_wp2_with (first | ((with_reducible refine gate_callee (f := 25) rfl ?_); refine goesL_ (some 12) rfl rfl Tryd.func25 (by kernel_rfl) rfl #[.agg #[.int .i64 a0_0, .int .i64 a0_1]] rfl gl_ ?_; (with_reducible refine (erasureref01_Right.calls a0_0 a0_1 false _ A6.out).mono ?_); rintro e w16 ⟨rfl, hb⟩; refine ⟨_, rfl, ?_⟩; have n0_ := Aside0.mk (blk_below (bkk BK344.out) hb); have n1_ := Aside0.mk (blk_below (bkk BK345.out) hb); have n2_ := Aside0.mk (below_step bel hb); clear BK344; clear BK345; clear HB; have BK344 := n0_; have BK345 := n1_; have HB := n2_; clear n0_ n1_ n2_; (try clear hb); (try clear hb2); (try clear hk); (try clear hi)))
   go_meet
   case rel => exact ⟨_, (true), ea_, H', ⟨by first | omega | exact Nat.le_refl _⟩, ⟨bkk BK344.out⟩, ⟨bkk BK345.out⟩, ⟨bel⟩⟩
 case rest =>
  clear HC3
  try clear c1
  try clear c2
  try clear p2
  try clear c7
  try clear c9
  try clear c14
  try clear hcz10_0
  try clear hcz10_1
  try clear hcz12_0
  try clear hcz12_1
  try clear hcz15_0
  try clear hcz15_1
  try clear hfz10_0
  try clear hfz10_1
  try clear hfz12_0
  try clear hfz12_1
  try clear hfz15_0
  try clear hfz15_1
  obtain ⟨kq, x18_2, rfl, HA, HJ2, BK344, BK345, HB⟩ := hcut
  cases kq with
  | zero => exact absurd HA.out (by simp [erasureref01_Compare.j0])
  | succ kj2 =>
   have H := HA.out
   clear HA
   simp only [erasureref01_Compare.j0] at H
   by_cases c17 : x18_2 = true
   ·subst c17
    have H1 : (some (0, 1)) = some (r1, r2) := by rw [if_pos rfl] at H; exact H
    clear H
    have H := H1
    clear H1
    simp only [Option.some.injEq, Prod.mk.injEq] at H
    obtain ⟨rfl, rfl⟩ := H
    go_wp2
    go_ret2
    exact ⟨by first | rfl | (simp [errW_none, errW_some] <;> rfl) | (simp [*, errW_none, errW_some] <;> rfl), bel⟩
   ·replace c17 := Bool.eq_false_iff.mpr c17
    subst c17
    have H1 : ((erasureref01_of.f kj2 a0_0 a0_1).bind fun bt348 => ((erasureref01_of.f kj2 a1_0 a1_1).bind fun bt354 => ((erasureref01_lift.f kj2 bt348.1 bt348.2.1 bt348.2.2 (mx bt348.2.2 bt354.2.2)).bind fun bt360 => ((erasureref01_lift.f kj2 bt354.1 bt354.2.1 bt354.2.2 (mx bt348.2.2 bt354.2.2)).bind fun bt365 => ((erasureref01_less.f kj2 bt360.2.1 bt365.2.1).bind fun t370 => ((erasureref01_less.f kj2 bt365.2.1 bt360.2.1).bind fun t371 => (if (bt360.1 != bt365.1) = true then (erasureref01_Compare.j1 kj2 bt360.1 bt365.1) else (if bt360.1 = true then (erasureref01_Compare.j1 kj2 t371 t370) else (erasureref01_Compare.j1 kj2 t370 t371))))))))) = some (r1, r2) := by rw [if_neg (show ¬ (false = true) by decide)] at H; exact H
    clear H
    have H := H1
    clear H1
    replace H := Option.bind_eq_some_iff.mp H
    obtain ⟨⟨t348, t349, t352⟩, A180, H⟩ := H
    replace H : ((erasureref01_of.f kj2 a1_0 a1_1).bind fun bt354 => ((erasureref01_lift.f kj2 t348 t349 t352 (mx t352 bt354.2.2)).bind fun bt360 => ((erasureref01_lift.f kj2 bt354.1 bt354.2.1 bt354.2.2 (mx t352 bt354.2.2)).bind fun bt365 => ((erasureref01_less.f kj2 bt360.2.1 bt365.2.1).bind fun t370 => ((erasureref01_less.f kj2 bt365.2.1 bt360.2.1).bind fun t371 => (if (bt360.1 != bt365.1) = true then (erasureref01_Compare.j1 kj2 bt360.1 bt365.1) else (if bt360.1 = true then (erasureref01_Compare.j1 kj2 t371 t370) else (erasureref01_Compare.j1 kj2 t370 t371)))))))) = some (r1, r2) := H
    have A18 := Aside0.mk A180
    clear A180
    replace H := Option.bind_eq_some_iff.mp H
    obtain ⟨⟨t354, t355, t358⟩, A190, H⟩ := H
    replace H : ((erasureref01_lift.f kj2 t348 t349 t352 (mx t352 t358)).bind fun bt360 => ((erasureref01_lift.f kj2 t354 t355 t358 (mx t352 t358)).bind fun bt365 => ((erasureref01_less.f kj2 bt360.2.1 bt365.2.1).bind fun t370 => ((erasureref01_less.f kj2 bt365.2.1 bt360.2.1).bind fun t371 => (if (bt360.1 != bt365.1) = true then (erasureref01_Compare.j1 kj2 bt360.1 bt365.1) else (if bt360.1 = true then (erasureref01_Compare.j1 kj2 t371 t370) else (erasureref01_Compare.j1 kj2 t370 t371))))))) = some (r1, r2) := H
    have A19 := Aside0.mk A190
    clear A190
    obtain ⟨ji20, hji20⟩ : ∃ j_ : Int, (mx t352 t358) = j_ := ⟨_, rfl⟩
    replace H : ((erasureref01_lift.f kj2 t348 t349 t352 (ji20)).bind fun bt360 => ((erasureref01_lift.f kj2 t354 t355 t358 (ji20)).bind fun bt365 => ((erasureref01_less.f kj2 bt360.2.1 bt365.2.1).bind fun t370 => ((erasureref01_less.f kj2 bt365.2.1 bt360.2.1).bind fun t371 => (if (bt360.1 != bt365.1) = true then (erasureref01_Compare.j1 kj2 bt360.1 bt365.1) else (if bt360.1 = true then (erasureref01_Compare.j1 kj2 t371 t370) else (erasureref01_Compare.j1 kj2 t370 t371))))))) = some (r1, r2) := by first | (rw [hji20] at H; exact H) | (simp only [hji20] at H ⊢; exact H)
    (try rw [hji20] at A18)
    (try rw [hji20] at A19)
    have hji20_ : (if t352 < t358 then t358 else t352) = ji20 := hji20
    replace H := Option.bind_eq_some_iff.mp H
    obtain ⟨⟨t360, t361, t364⟩, A210, H⟩ := H
    replace H : ((erasureref01_lift.f kj2 t354 t355 t358 (ji20)).bind fun bt365 => ((erasureref01_less.f kj2 t361 bt365.2.1).bind fun t370 => ((erasureref01_less.f kj2 bt365.2.1 t361).bind fun t371 => (if (t360 != bt365.1) = true then (erasureref01_Compare.j1 kj2 t360 bt365.1) else (if t360 = true then (erasureref01_Compare.j1 kj2 t371 t370) else (erasureref01_Compare.j1 kj2 t370 t371)))))) = some (r1, r2) := H
    have A21 := Aside0.mk A210
    clear A210
    replace H := Option.bind_eq_some_iff.mp H
    obtain ⟨⟨t365, t366, t369⟩, A220, H⟩ := H
    replace H : ((erasureref01_less.f kj2 t361 t366).bind fun t370 => ((erasureref01_less.f kj2 t366 t361).bind fun t371 => (if (t360 != t365) = true then (erasureref01_Compare.j1 kj2 t360 t365) else (if t360 = true then (erasureref01_Compare.j1 kj2 t371 t370) else (erasureref01_Compare.j1 kj2 t370 t371))))) = some (r1, r2) := H
    have A22 := Aside0.mk A220
    clear A220
    replace H := Option.bind_eq_some_iff.mp H
    obtain ⟨t370, A230, H⟩ := H
    replace H : ((erasureref01_less.f kj2 t366 t361).bind fun t371 => (if (t360 != t365) = true then (erasureref01_Compare.j1 kj2 t360 t365) else (if t360 = true then (erasureref01_Compare.j1 kj2 t371 t370) else (erasureref01_Compare.j1 kj2 t370 t371)))) = some (r1, r2) := H
    have A23 := Aside0.mk A230
    clear A230
    replace H := Option.bind_eq_some_iff.mp H
    obtain ⟨t371, A240, H⟩ := H
    replace H : (if (t360 != t365) = true then (erasureref01_Compare.j1 kj2 t360 t365) else (if t360 = true then (erasureref01_Compare.j1 kj2 t371 t370) else (erasureref01_Compare.j1 kj2 t370 t371))) = some (r1, r2) := H
    have A24 := Aside0.mk A240
    clear A240
    have HC25 := Aside0.mk H
    clear H
    have hnb26 := NB344_345.out
    have hnc26 := NB345_344.out
    have hcz27_0 : wc.cell? ⟨gb344, 0, none⟩ = some (.int .i64 a0_0) := (blk_cell BK344.out 0).trans rfl
    have hcz27_1 : wc.cell? ⟨gb344, 1, none⟩ = some (.int .i64 a0_1) := (blk_cell BK344.out 1).trans rfl
    have hfz27_0 := blk_frozen BK344.out 0
    have hfz27_1 := blk_frozen BK344.out 1
    go_upto_if 48 with (first | ((with_reducible refine gate_callee (f := 39) rfl ?_); refine goesL_ (some 20) rfl rfl Tryd.func39 (by kernel_rfl) rfl #[.agg #[.int .i64 a0_0, .int .i64 a0_1]] rfl gl_ ?_; (with_reducible refine (erasureref01_of.calls kj2 a0_0 a0_1 t348 t349 t352 _ A18.out).mono ?_); rintro e w28 ⟨v350, rfl, ho0, hb⟩; refine ⟨_, rfl, ?_⟩; have n0_ := Aside0.mk (Kd.R_lower ho0 (below_size bel)); have n1_ := Aside0.mk (blk_below (bkk BK344.out) hb); have n2_ := Aside0.mk (blk_below (bkk BK345.out) hb); have n3_ := Aside0.mk (below_step bel hb); clear BK344; clear BK345; clear HB; have HO351 := n0_; have BK344 := n1_; have BK345 := n2_; have HB := n3_; clear n0_ n1_ n2_ n3_; (try clear hb); (try clear hb2); (try clear hk); (try clear hi); (try clear ho0)) | ((with_reducible refine gate_dst (N := 6) rfl ?_); refine box_event ?hg (N := 6) ?hd (cs := #[.bool false, .slice none 0 0, .int .i64 0]) (t := 61) ?hr ?_; (case hd => rfl); (case hg => rfl); (case hr => first | (go_simp; done) | (go_simp; rfl)); intro gb353 hg w29 hbox hb; have n0_ := Aside0.mk (Kd.R_below (rkk HO351.out) hb); have n1_ := Aside0.mk (blk_below (bkk BK344.out) hb); have n2_ := Aside0.mk (blk_below (bkk BK345.out) hb); have n3_ := Aside0.mk (below_step bel hb); have n4_ := Aside0.mk (hbox); have n5_ := Aside0.mk ((by rw [hg]; exact (below_size bel) : w.heap.size ≤ gb353)); have n6_ := Aside0.mk ((by rw [hg]; exact (below_size bel) : w.heap.size ≤ gb353)); have n7_ := Aside0.mk ((by rw [hg]; exact Nat.ne_of_lt (blk_lt (g := gb344) (o := .cells #[.int .i64 a0_0, .int .i64 a0_1] 23 (0, 0)) (bkk BK344.out)) : gb344 ≠ gb353)); have n8_ := Aside0.mk ((by rw [hg]; exact Nat.ne_of_gt (blk_lt (g := gb344) (o := .cells #[.int .i64 a0_0, .int .i64 a0_1] 23 (0, 0)) (bkk BK344.out)) : gb353 ≠ gb344)); have n9_ := Aside0.mk ((by rw [hg]; exact Nat.ne_of_lt (blk_lt (g := gb345) (o := .cells #[.int .i64 a1_0, .int .i64 a1_1] 23 (0, 0)) (bkk BK345.out)) : gb345 ≠ gb353)); have n10_ := Aside0.mk ((by rw [hg]; exact Nat.ne_of_gt (blk_lt (g := gb345) (o := .cells #[.int .i64 a1_0, .int .i64 a1_1] 23 (0, 0)) (bkk BK345.out)) : gb353 ≠ gb345)); clear HO351; clear BK344; clear BK345; clear HB; have HO351 := n0_; have BK344 := n1_; have BK345 := n2_; have HB := n3_; have BK353 := n4_; have GW353 := n5_; have GE353 := n6_; have NB344_353 := n7_; have NB353_344 := n8_; have NB345_353 := n9_; have NB353_345 := n10_; clear n0_ n1_ n2_ n3_ n4_ n5_ n6_ n7_ n8_ n9_ n10_; clear hb hbox hg; have hnb30 := NB353_344.out; have hnc30 := NB344_353.out; have hnb31 := NB353_345.out; have hnc31 := NB345_353.out; have hcz32_0 : w29.cell? ⟨gb353, 0, none⟩ = some (.bool false) := (blk_cell BK353.out 0).trans rfl; have hcz32_1 : w29.cell? ⟨gb353, 1, none⟩ = some (.slice none 0 0) := (blk_cell BK353.out 1).trans rfl; have hcz32_2 : w29.cell? ⟨gb353, 2, none⟩ = some (.int .i64 0) := (blk_cell BK353.out 2).trans rfl; have hfz32_0 := blk_frozen BK353.out 0; have hfz32_1 := blk_frozen BK353.out 1; have hfz32_2 := blk_frozen BK353.out 2; obtain ⟨Ao33, co33, eo33⟩ := Kd.R_slice HO351.out; subst eo33; have hcz34_0 : w29.cell? ⟨gb345, 0, none⟩ = some (.int .i64 a1_0) := (blk_cell BK345.out 0).trans rfl; have hcz34_1 : w29.cell? ⟨gb345, 1, none⟩ = some (.int .i64 a1_1) := (blk_cell BK345.out 1).trans rfl; have hfz34_0 := blk_frozen BK345.out 0; have hfz34_1 := blk_frozen BK345.out 1) | ((with_reducible refine gate_callee (f := 39) rfl ?_); refine goesL_ (some 22) rfl rfl Tryd.func39 (by kernel_rfl) rfl #[.agg #[.int .i64 a1_0, .int .i64 a1_1]] rfl gl_ ?_; (with_reducible refine (erasureref01_of.calls kj2 a1_0 a1_1 t354 t355 t358 _ A19.out).mono ?_); rintro e w35 ⟨v356, rfl, ho0, hb⟩; refine ⟨_, rfl, ?_⟩; have n0_ := Aside0.mk (Kd.R_elder' (by (with_reducible repeat (first | apply Kd.R_alloc | apply Kd.R_drewN | apply Kd.R_drew)); exact (Kd.R_mono (Kd.R_far (p := ⟨gb353, 2, none⟩) (Kd.R_far (p := ⟨gb353, 1, none⟩) (Kd.R_far (p := ⟨gb353, 0, none⟩) (Kd.R_types HO351.out BK353.out (by decide)) (fun _ hk => hk.2) (.bool t348)) (fun _ hk => hk.2) (.slice Ao33 t349.length co33)) (fun _ hk => hk.2) (.int .i64 t352)) (fun _ h_ => h_.1))) (Kd.R_base ho0) hb); have n1_ := Aside0.mk (Kd.R_lower (Kd.R_new' ho0 (Kd.R_lt (by (with_reducible repeat (first | apply Kd.R_alloc | apply Kd.R_drewN | apply Kd.R_drew)); exact (Kd.R_mono (Kd.R_far (p := ⟨gb353, 2, none⟩) (Kd.R_far (p := ⟨gb353, 1, none⟩) (Kd.R_far (p := ⟨gb353, 0, none⟩) (Kd.R_types HO351.out BK353.out (by decide)) (fun _ hk => hk.2) (.bool t348)) (fun _ hk => hk.2) (.slice Ao33 t349.length co33)) (fun _ hk => hk.2) (.int .i64 t352)) (fun _ h_ => h_.1))))) (below_size bel)); have n2_ := Aside0.mk (blk_below (g := gb344) (o := .cells #[.int .i64 a0_0, .int .i64 a0_1] 23 (0, 0)) blks hb); have n3_ := Aside0.mk (blk_below (g := gb345) (o := .cells #[.int .i64 a1_0, .int .i64 a1_1] 23 (0, 0)) blks hb); have n4_ := Aside0.mk (blk_below (g := gb353) (o := .cells #[.bool t348, .slice Ao33 t349.length co33, .int .i64 t352] 61 (0, 0)) (by (with_reducible repeat (first | refine blk_drewN ?_ _ | refine blk_drew ?_ | refine blk_alloc ?_ _)); refine blk_put (cs := #[.bool t348, .slice Ao33 t349.length co33, .int .i64 0]) ?_ 2 _ rfl; (with_reducible repeat (first | refine blk_drewN ?_ _ | refine blk_drew ?_ | refine blk_alloc ?_ _)); refine blk_put (cs := #[.bool t348, .slice none 0 0, .int .i64 0]) ?_ 1 _ rfl; (with_reducible repeat (first | refine blk_drewN ?_ _ | refine blk_drew ?_ | refine blk_alloc ?_ _)); refine blk_put (cs := #[.bool false, .slice none 0 0, .int .i64 0]) ?_ 0 _ rfl; (with_reducible repeat (first | refine blk_drewN ?_ _ | refine blk_drew ?_ | refine blk_alloc ?_ _)); exact BK353.out) hb); have n5_ := Aside0.mk (below_step bel hb); clear HO351; clear BK344; clear BK345; clear BK353; clear HB; have HO351 := n0_; have HO357 := n1_; have BK344 := n2_; have BK345 := n3_; have BK353 := n4_; have HB := n5_; clear n0_ n1_ n2_ n3_ n4_ n5_; (try clear hb); (try clear hb2); (try clear hk); (try clear hi); (try clear ho0)) | ((with_reducible refine gate_dst (N := 7) rfl ?_); refine box_event ?hg (N := 7) ?hd (cs := #[.bool false, .slice none 0 0, .int .i64 0]) (t := 61) ?hr ?_; (case hd => rfl); (case hg => rfl); (case hr => first | (go_simp; done) | (go_simp; rfl)); intro gb359 hg w36 hbox hb; have n0_ := Aside0.mk (Kd.R_below (rkk HO351.out) hb); have n1_ := Aside0.mk (Kd.R_below (rkk HO357.out) hb); have n2_ := Aside0.mk (blk_below (bkk BK344.out) hb); have n3_ := Aside0.mk (blk_below (bkk BK345.out) hb); have n4_ := Aside0.mk (blk_below (bkk BK353.out) hb); have n5_ := Aside0.mk (below_step bel hb); have n6_ := Aside0.mk (hbox); have n7_ := Aside0.mk ((by rw [hg]; exact (below_size bel) : w.heap.size ≤ gb359)); have n8_ := Aside0.mk ((by rw [hg]; exact (below_size bel) : w.heap.size ≤ gb359)); have n9_ := Aside0.mk ((by rw [hg]; exact Nat.ne_of_lt (blk_lt (g := gb344) (o := .cells #[.int .i64 a0_0, .int .i64 a0_1] 23 (0, 0)) (bkk BK344.out)) : gb344 ≠ gb359)); have n10_ := Aside0.mk ((by rw [hg]; exact Nat.ne_of_gt (blk_lt (g := gb344) (o := .cells #[.int .i64 a0_0, .int .i64 a0_1] 23 (0, 0)) (bkk BK344.out)) : gb359 ≠ gb344)); have n11_ := Aside0.mk ((by rw [hg]; exact Nat.ne_of_lt (blk_lt (g := gb345) (o := .cells #[.int .i64 a1_0, .int .i64 a1_1] 23 (0, 0)) (bkk BK345.out)) : gb345 ≠ gb359)); have n12_ := Aside0.mk ((by rw [hg]; exact Nat.ne_of_gt (blk_lt (g := gb345) (o := .cells #[.int .i64 a1_0, .int .i64 a1_1] 23 (0, 0)) (bkk BK345.out)) : gb359 ≠ gb345)); have n13_ := Aside0.mk ((by rw [hg]; exact Nat.ne_of_lt (blk_lt (g := gb353) (o := .cells #[.bool t348, .slice Ao33 t349.length co33, .int .i64 t352] 61 (0, 0)) (bkk BK353.out)) : gb353 ≠ gb359)); have n14_ := Aside0.mk ((by rw [hg]; exact Nat.ne_of_gt (blk_lt (g := gb353) (o := .cells #[.bool t348, .slice Ao33 t349.length co33, .int .i64 t352] 61 (0, 0)) (bkk BK353.out)) : gb359 ≠ gb353)); clear HO351; clear HO357; clear BK344; clear BK345; clear BK353; clear HB; have HO351 := n0_; have HO357 := n1_; have BK344 := n2_; have BK345 := n3_; have BK353 := n4_; have HB := n5_; have BK359 := n6_; have GW359 := n7_; have GE359 := n8_; have NB344_359 := n9_; have NB359_344 := n10_; have NB345_359 := n11_; have NB359_345 := n12_; have NB353_359 := n13_; have NB359_353 := n14_; clear n0_ n1_ n2_ n3_ n4_ n5_ n6_ n7_ n8_ n9_ n10_ n11_ n12_ n13_ n14_; clear hb hbox hg; have hnb37 := NB359_344.out; have hnc37 := NB344_359.out; have hnb38 := NB359_345.out; have hnc38 := NB345_359.out; have hnb39 := NB359_353.out; have hnc39 := NB353_359.out; have hcz40_0 : w36.cell? ⟨gb359, 0, none⟩ = some (.bool false) := (blk_cell BK359.out 0).trans rfl; have hcz40_1 : w36.cell? ⟨gb359, 1, none⟩ = some (.slice none 0 0) := (blk_cell BK359.out 1).trans rfl; have hcz40_2 : w36.cell? ⟨gb359, 2, none⟩ = some (.int .i64 0) := (blk_cell BK359.out 2).trans rfl; have hfz40_0 := blk_frozen BK359.out 0; have hfz40_1 := blk_frozen BK359.out 1; have hfz40_2 := blk_frozen BK359.out 2; obtain ⟨Ao41, co41, eo41⟩ := Kd.R_slice HO357.out; subst eo41; have hcz42_0 : w36.cell? ⟨gb353, 0, none⟩ = some (.bool t348) := (blk_cell BK353.out 0).trans rfl; have hcz42_1 : w36.cell? ⟨gb353, 1, none⟩ = some (.slice Ao33 t349.length co33) := (blk_cell BK353.out 1).trans rfl; have hcz42_2 : w36.cell? ⟨gb353, 2, none⟩ = some (.int .i64 t352) := (blk_cell BK353.out 2).trans rfl; have hfz42_0 := blk_frozen BK353.out 0; have hfz42_1 := blk_frozen BK353.out 1; have hfz42_2 := blk_frozen BK353.out 2) | ((with_reducible refine gate_callee (f := 43) rfl ?_); refine goesL_ (some 30) rfl rfl Tryd.func43 (by kernel_rfl) rfl #[.agg #[.bool t348, .slice Ao33 t349.length co33, .int .i64 t352], .int .i64 ji20] rfl (by (try simp only [List.map_toArray, List.map_cons, List.map_nil]); first | done | (simp only [hji20]; rfl) | rfl | (simp only [List.length_drop, List.length_take]; rfl)) ?_; (with_reducible refine (erasureref01_lift.calls kj2 t348 _ _ t349 t352 ji20 t360 t361 t364 _ ?side1 ?side2 A21.out).mono ?_); (case side1 => refine (Kd.R_reads' (e := 3) (base := w.heap.size) (ok := fun k_ => (True ∧ some k_ ≠ (.slice Ao41 t355.length co41 : Value).ownBlock)) (n := t349.length) (c := co33) ?_).2.2; exact (by (with_reducible repeat (first | apply Kd.R_alloc | apply Kd.R_drewN | apply Kd.R_drew)); exact (Kd.R_mono (Kd.R_far (p := ⟨gb359, 2, none⟩) (Kd.R_far (p := ⟨gb359, 1, none⟩) (Kd.R_far (p := ⟨gb359, 0, none⟩) (Kd.R_types HO351.out BK359.out (by decide)) (fun _ hk => hk.2) (.bool t354)) (fun _ hk => hk.2) (.slice Ao41 t355.length co41)) (fun _ hk => hk.2) (.int .i64 t358)) (fun _ h_ => h_.1)))); (case side2 => exact (Kd.R_reads' HO351.out).2.1); rintro e w43 ⟨v362, rfl, ho0, hb⟩; refine ⟨_, rfl, ?_⟩; have n0_ := Aside0.mk (Kd.R_elder' (by (with_reducible repeat (first | apply Kd.R_alloc | apply Kd.R_drewN | apply Kd.R_drew)); exact (Kd.R_mono (Kd.R_far (p := ⟨gb359, 2, none⟩) (Kd.R_far (p := ⟨gb359, 1, none⟩) (Kd.R_far (p := ⟨gb359, 0, none⟩) (Kd.R_types HO351.out BK359.out (by decide)) (fun _ hk => hk.2) (.bool t354)) (fun _ hk => hk.2) (.slice Ao41 t355.length co41)) (fun _ hk => hk.2) (.int .i64 t358)) (fun _ h_ => h_.1))) (Kd.R_base ho0) hb); have n1_ := Aside0.mk (Kd.R_elder' (by (with_reducible repeat (first | apply Kd.R_alloc | apply Kd.R_drewN | apply Kd.R_drew)); exact (Kd.R_mono (Kd.R_far (p := ⟨gb359, 2, none⟩) (Kd.R_far (p := ⟨gb359, 1, none⟩) (Kd.R_far (p := ⟨gb359, 0, none⟩) (Kd.R_types HO357.out BK359.out (by decide)) (fun _ hk => hk.2) (.bool t354)) (fun _ hk => hk.2) (.slice Ao41 t355.length co41)) (fun _ hk => hk.2) (.int .i64 t358)) (fun _ h_ => h_.1))) (Kd.R_base ho0) hb); have n2_ := Aside0.mk (Kd.R_lower (Kd.R_new' (Kd.R_new' ho0 (Kd.R_lt (by (with_reducible repeat (first | apply Kd.R_alloc | apply Kd.R_drewN | apply Kd.R_drew)); exact (Kd.R_mono (Kd.R_far (p := ⟨gb359, 2, none⟩) (Kd.R_far (p := ⟨gb359, 1, none⟩) (Kd.R_far (p := ⟨gb359, 0, none⟩) (Kd.R_types HO351.out BK359.out (by decide)) (fun _ hk => hk.2) (.bool t354)) (fun _ hk => hk.2) (.slice Ao41 t355.length co41)) (fun _ hk => hk.2) (.int .i64 t358)) (fun _ h_ => h_.1))))) (Kd.R_lt (by (with_reducible repeat (first | apply Kd.R_alloc | apply Kd.R_drewN | apply Kd.R_drew)); exact (Kd.R_mono (Kd.R_far (p := ⟨gb359, 2, none⟩) (Kd.R_far (p := ⟨gb359, 1, none⟩) (Kd.R_far (p := ⟨gb359, 0, none⟩) (Kd.R_types HO357.out BK359.out (by decide)) (fun _ hk => hk.2) (.bool t354)) (fun _ hk => hk.2) (.slice Ao41 t355.length co41)) (fun _ hk => hk.2) (.int .i64 t358)) (fun _ h_ => h_.1))))) (below_size bel)); have n3_ := Aside0.mk (blk_below (g := gb344) (o := .cells #[.int .i64 a0_0, .int .i64 a0_1] 23 (0, 0)) blks hb); have n4_ := Aside0.mk (blk_below (g := gb345) (o := .cells #[.int .i64 a1_0, .int .i64 a1_1] 23 (0, 0)) blks hb); have n5_ := Aside0.mk (blk_below (g := gb353) (o := .cells #[.bool t348, .slice Ao33 t349.length co33, .int .i64 t352] 61 (0, 0)) blks hb); have n6_ := Aside0.mk (blk_below (g := gb359) (o := .cells #[.bool t354, .slice Ao41 t355.length co41, .int .i64 t358] 61 (0, 0)) (by (with_reducible repeat (first | refine blk_drewN ?_ _ | refine blk_drew ?_ | refine blk_alloc ?_ _)); refine blk_put (cs := #[.bool t354, .slice Ao41 t355.length co41, .int .i64 0]) ?_ 2 _ rfl; (with_reducible repeat (first | refine blk_drewN ?_ _ | refine blk_drew ?_ | refine blk_alloc ?_ _)); refine blk_put (cs := #[.bool t354, .slice none 0 0, .int .i64 0]) ?_ 1 _ rfl; (with_reducible repeat (first | refine blk_drewN ?_ _ | refine blk_drew ?_ | refine blk_alloc ?_ _)); refine blk_put (cs := #[.bool false, .slice none 0 0, .int .i64 0]) ?_ 0 _ rfl; (with_reducible repeat (first | refine blk_drewN ?_ _ | refine blk_drew ?_ | refine blk_alloc ?_ _)); exact BK359.out) hb); have n7_ := Aside0.mk (below_step bel hb); clear HO351; clear HO357; clear BK344; clear BK345; clear BK353; clear BK359; clear HB; have HO351 := n0_; have HO357 := n1_; have HO363 := n2_; have BK344 := n3_; have BK345 := n4_; have BK353 := n5_; have BK359 := n6_; have HB := n7_; clear n0_ n1_ n2_ n3_ n4_ n5_ n6_ n7_; (try clear hb); (try clear hb2); (try clear hk); (try clear hi); (try clear ho0); have hcz44_0 : w43.cell? ⟨gb353, 0, none⟩ = some (.bool t348) := (blk_cell BK353.out 0).trans rfl; have hcz44_1 : w43.cell? ⟨gb353, 1, none⟩ = some (.slice Ao33 t349.length co33) := (blk_cell BK353.out 1).trans rfl; have hcz44_2 : w43.cell? ⟨gb353, 2, none⟩ = some (.int .i64 t352) := (blk_cell BK353.out 2).trans rfl; have hfz44_0 := blk_frozen BK353.out 0; have hfz44_1 := blk_frozen BK353.out 1; have hfz44_2 := blk_frozen BK353.out 2; obtain ⟨Ao45, co45, eo45⟩ := Kd.R_slice HO363.out; subst eo45; have hcz46_0 : w43.cell? ⟨gb359, 0, none⟩ = some (.bool t354) := (blk_cell BK359.out 0).trans rfl; have hcz46_1 : w43.cell? ⟨gb359, 1, none⟩ = some (.slice Ao41 t355.length co41) := (blk_cell BK359.out 1).trans rfl; have hcz46_2 : w43.cell? ⟨gb359, 2, none⟩ = some (.int .i64 t358) := (blk_cell BK359.out 2).trans rfl; have hfz46_0 := blk_frozen BK359.out 0; have hfz46_1 := blk_frozen BK359.out 1; have hfz46_2 := blk_frozen BK359.out 2) | ((with_reducible refine gate_callee (f := 43) rfl ?_); refine goesL_ (some 33) rfl rfl Tryd.func43 (by kernel_rfl) rfl #[.agg #[.bool t354, .slice Ao41 t355.length co41, .int .i64 t358], .int .i64 ji20] rfl (by (try simp only [List.map_toArray, List.map_cons, List.map_nil]); first | done | (simp only [hji20]; rfl) | rfl | (simp only [List.length_drop, List.length_take]; rfl)) ?_; (with_reducible refine (erasureref01_lift.calls kj2 t354 _ _ t355 t358 ji20 t365 t366 t369 _ ?side1 ?side2 A22.out).mono ?_); (case side1 => refine (Kd.R_reads' (e := 3) (base := w.heap.size) (ok := fun k_ => ((True ∧ some k_ ≠ (.slice Ao33 t349.length co33 : Value).ownBlock) ∧ some k_ ≠ (.slice Ao45 t361.length co45 : Value).ownBlock)) (n := t355.length) (c := co41) ?_).2.2; exact (by (with_reducible repeat (first | apply Kd.R_alloc | apply Kd.R_drewN | apply Kd.R_drew)); exact (Kd.R_mono (Kd.R_far (p := ⟨gb353, 2, none⟩) (Kd.R_far (p := ⟨gb353, 1, none⟩) (Kd.R_far (p := ⟨gb353, 0, none⟩) (Kd.R_types HO357.out BK353.out (by decide)) (fun _ hk => hk.2) (.bool t360)) (fun _ hk => hk.2) (.slice Ao45 t361.length co45)) (fun _ hk => hk.2) (.int .i64 t364)) (fun _ h_ => h_.1)))); (case side2 => exact (Kd.R_reads' HO357.out).2.1); rintro e w47 ⟨v367, rfl, ho0, hb⟩; refine ⟨_, rfl, ?_⟩; have n0_ := Aside0.mk (Kd.R_elder' (by (with_reducible repeat (first | apply Kd.R_alloc | apply Kd.R_drewN | apply Kd.R_drew)); exact (Kd.R_mono (Kd.R_far (p := ⟨gb353, 2, none⟩) (Kd.R_far (p := ⟨gb353, 1, none⟩) (Kd.R_far (p := ⟨gb353, 0, none⟩) (Kd.R_types HO351.out BK353.out (by decide)) (fun _ hk => hk.2) (.bool t360)) (fun _ hk => hk.2) (.slice Ao45 t361.length co45)) (fun _ hk => hk.2) (.int .i64 t364)) (fun _ h_ => h_.1))) (Kd.R_base ho0) hb); have n1_ := Aside0.mk (Kd.R_elder' (by (with_reducible repeat (first | apply Kd.R_alloc | apply Kd.R_drewN | apply Kd.R_drew)); exact (Kd.R_mono (Kd.R_far (p := ⟨gb353, 2, none⟩) (Kd.R_far (p := ⟨gb353, 1, none⟩) (Kd.R_far (p := ⟨gb353, 0, none⟩) (Kd.R_types HO357.out BK353.out (by decide)) (fun _ hk => hk.2) (.bool t360)) (fun _ hk => hk.2) (.slice Ao45 t361.length co45)) (fun _ hk => hk.2) (.int .i64 t364)) (fun _ h_ => h_.1))) (Kd.R_base ho0) hb); have n2_ := Aside0.mk (Kd.R_elder' (by (with_reducible repeat (first | apply Kd.R_alloc | apply Kd.R_drewN | apply Kd.R_drew)); exact (Kd.R_mono (Kd.R_far (p := ⟨gb353, 2, none⟩) (Kd.R_far (p := ⟨gb353, 1, none⟩) (Kd.R_far (p := ⟨gb353, 0, none⟩) (Kd.R_types HO363.out BK353.out (by decide)) (fun _ hk => hk.2) (.bool t360)) (fun _ hk => hk.2) (.slice Ao45 t361.length co45)) (fun _ hk => hk.2) (.int .i64 t364)) (fun _ h_ => h_.1))) (Kd.R_base ho0) hb); have n3_ := Aside0.mk (Kd.R_lower (Kd.R_new' (Kd.R_new' (Kd.R_new' ho0 (Kd.R_lt (by (with_reducible repeat (first | apply Kd.R_alloc | apply Kd.R_drewN | apply Kd.R_drew)); exact (Kd.R_mono (Kd.R_far (p := ⟨gb353, 2, none⟩) (Kd.R_far (p := ⟨gb353, 1, none⟩) (Kd.R_far (p := ⟨gb353, 0, none⟩) (Kd.R_types HO351.out BK353.out (by decide)) (fun _ hk => hk.2) (.bool t360)) (fun _ hk => hk.2) (.slice Ao45 t361.length co45)) (fun _ hk => hk.2) (.int .i64 t364)) (fun _ h_ => h_.1))))) (Kd.R_lt (by (with_reducible repeat (first | apply Kd.R_alloc | apply Kd.R_drewN | apply Kd.R_drew)); exact (Kd.R_mono (Kd.R_far (p := ⟨gb353, 2, none⟩) (Kd.R_far (p := ⟨gb353, 1, none⟩) (Kd.R_far (p := ⟨gb353, 0, none⟩) (Kd.R_types HO357.out BK353.out (by decide)) (fun _ hk => hk.2) (.bool t360)) (fun _ hk => hk.2) (.slice Ao45 t361.length co45)) (fun _ hk => hk.2) (.int .i64 t364)) (fun _ h_ => h_.1))))) (Kd.R_lt (by (with_reducible repeat (first | apply Kd.R_alloc | apply Kd.R_drewN | apply Kd.R_drew)); exact (Kd.R_mono (Kd.R_far (p := ⟨gb353, 2, none⟩) (Kd.R_far (p := ⟨gb353, 1, none⟩) (Kd.R_far (p := ⟨gb353, 0, none⟩) (Kd.R_types HO363.out BK353.out (by decide)) (fun _ hk => hk.2) (.bool t360)) (fun _ hk => hk.2) (.slice Ao45 t361.length co45)) (fun _ hk => hk.2) (.int .i64 t364)) (fun _ h_ => h_.1))))) (below_size bel)); have n4_ := Aside0.mk (blk_below (g := gb344) (o := .cells #[.int .i64 a0_0, .int .i64 a0_1] 23 (0, 0)) blks hb); have n5_ := Aside0.mk (blk_below (g := gb345) (o := .cells #[.int .i64 a1_0, .int .i64 a1_1] 23 (0, 0)) blks hb); have n6_ := Aside0.mk (blk_below (g := gb353) (o := .cells #[.bool t360, .slice Ao45 t361.length co45, .int .i64 t364] 61 (0, 0)) (by (with_reducible repeat (first | refine blk_drewN ?_ _ | refine blk_drew ?_ | refine blk_alloc ?_ _)); refine blk_put (cs := #[.bool t360, .slice Ao45 t361.length co45, .int .i64 t352]) ?_ 2 _ rfl; (with_reducible repeat (first | refine blk_drewN ?_ _ | refine blk_drew ?_ | refine blk_alloc ?_ _)); refine blk_put (cs := #[.bool t360, .slice Ao33 t349.length co33, .int .i64 t352]) ?_ 1 _ rfl; (with_reducible repeat (first | refine blk_drewN ?_ _ | refine blk_drew ?_ | refine blk_alloc ?_ _)); refine blk_put (cs := #[.bool t348, .slice Ao33 t349.length co33, .int .i64 t352]) ?_ 0 _ rfl; (with_reducible repeat (first | refine blk_drewN ?_ _ | refine blk_drew ?_ | refine blk_alloc ?_ _)); exact BK353.out) hb); have n7_ := Aside0.mk (blk_below (g := gb359) (o := .cells #[.bool t354, .slice Ao41 t355.length co41, .int .i64 t358] 61 (0, 0)) blks hb); have n8_ := Aside0.mk (below_step bel hb); clear HO351; clear HO357; clear HO363; clear BK344; clear BK345; clear BK353; clear BK359; clear HB; have HO351 := n0_; have HO357 := n1_; have HO363 := n2_; have HO368 := n3_; have BK344 := n4_; have BK345 := n5_; have BK353 := n6_; have BK359 := n7_; have HB := n8_; clear n0_ n1_ n2_ n3_ n4_ n5_ n6_ n7_ n8_; (try clear hb); (try clear hb2); (try clear hk); (try clear hi); (try clear ho0); have hcz48_0 : w47.cell? ⟨gb359, 0, none⟩ = some (.bool t354) := (blk_cell BK359.out 0).trans rfl; have hcz48_1 : w47.cell? ⟨gb359, 1, none⟩ = some (.slice Ao41 t355.length co41) := (blk_cell BK359.out 1).trans rfl; have hcz48_2 : w47.cell? ⟨gb359, 2, none⟩ = some (.int .i64 t358) := (blk_cell BK359.out 2).trans rfl; have hfz48_0 := blk_frozen BK359.out 0; have hfz48_1 := blk_frozen BK359.out 1; have hfz48_2 := blk_frozen BK359.out 2; obtain ⟨Ao49, co49, eo49⟩ := Kd.R_slice HO368.out; subst eo49; have hcz50_0 : w47.cell? ⟨gb353, 0, none⟩ = some (.bool t360) := (blk_cell BK353.out 0).trans rfl; have hcz50_1 : w47.cell? ⟨gb353, 1, none⟩ = some (.slice Ao45 t361.length co45) := (blk_cell BK353.out 1).trans rfl; have hcz50_2 : w47.cell? ⟨gb353, 2, none⟩ = some (.int .i64 t364) := (blk_cell BK353.out 2).trans rfl; have hfz50_0 := blk_frozen BK353.out 0; have hfz50_1 := blk_frozen BK353.out 1; have hfz50_2 := blk_frozen BK353.out 2) | ((with_reducible refine gate_callee (f := 44) rfl ?_); refine goesL_ (some 38) rfl rfl Tryd.func44 (by kernel_rfl) rfl #[.slice Ao45 t361.length co45, .slice Ao49 t366.length co49] rfl gl_ ?_; (with_reducible refine (erasureref01_less.calls kj2 _ _ t361 _ _ t366 t370 _ ?side1 ?side2 ?side3 ?side4 A23.out).mono ?_); (case side1 => refine (Kd.R_reads' (e := 3) (base := w.heap.size) (ok := fun k_ => (((True ∧ some k_ ≠ (.slice Ao33 t349.length co33 : Value).ownBlock) ∧ some k_ ≠ (.slice Ao41 t355.length co41 : Value).ownBlock) ∧ some k_ ≠ (.slice Ao49 t366.length co49 : Value).ownBlock)) (n := t361.length) (c := co45) ?_).2.2; exact (by (with_reducible repeat (first | apply Kd.R_alloc | apply Kd.R_drewN | apply Kd.R_drew)); exact (Kd.R_mono (Kd.R_far (p := ⟨gb359, 2, none⟩) (Kd.R_far (p := ⟨gb359, 1, none⟩) (Kd.R_far (p := ⟨gb359, 0, none⟩) (Kd.R_types HO363.out BK359.out (by decide)) (fun _ hk => hk.2) (.bool t365)) (fun _ hk => hk.2) (.slice Ao49 t366.length co49)) (fun _ hk => hk.2) (.int .i64 t369)) (fun _ h_ => h_.1)))); (case side2 => exact (Kd.R_reads' HO363.out).2.1); (case side3 => refine (Kd.R_reads' (e := 3) (base := w.heap.size) (ok := fun k_ => (((True ∧ some k_ ≠ (.slice Ao33 t349.length co33 : Value).ownBlock) ∧ some k_ ≠ (.slice Ao41 t355.length co41 : Value).ownBlock) ∧ some k_ ≠ (.slice Ao45 t361.length co45 : Value).ownBlock)) (n := t366.length) (c := co49) ?_).2.2; exact (by (with_reducible repeat (first | apply Kd.R_alloc | apply Kd.R_drewN | apply Kd.R_drew)); exact (Kd.R_mono (Kd.R_far (p := ⟨gb359, 2, none⟩) (Kd.R_far (p := ⟨gb359, 1, none⟩) (Kd.R_far (p := ⟨gb359, 0, none⟩) (Kd.R_types HO368.out BK359.out (by decide)) (fun _ hk => hk.2) (.bool t365)) (fun _ hk => hk.2) (.slice Ao49 t366.length co49)) (fun _ hk => hk.2) (.int .i64 t369)) (fun _ h_ => h_.1)))); (case side4 => exact (Kd.R_reads' HO368.out).2.1); rintro e w51 ⟨rfl, hb⟩; refine ⟨_, rfl, ?_⟩; have n0_ := Aside0.mk (Kd.R_below (by (with_reducible repeat (first | apply Kd.R_alloc | apply Kd.R_drewN | apply Kd.R_drew)); exact (Kd.R_mono (Kd.R_far (p := ⟨gb359, 2, none⟩) (Kd.R_far (p := ⟨gb359, 1, none⟩) (Kd.R_far (p := ⟨gb359, 0, none⟩) (Kd.R_types HO351.out BK359.out (by decide)) (fun _ hk => hk.2) (.bool t365)) (fun _ hk => hk.2) (.slice Ao49 t366.length co49)) (fun _ hk => hk.2) (.int .i64 t369)) (fun _ h_ => h_.1))) hb); have n1_ := Aside0.mk (Kd.R_below (by (with_reducible repeat (first | apply Kd.R_alloc | apply Kd.R_drewN | apply Kd.R_drew)); exact (Kd.R_mono (Kd.R_far (p := ⟨gb359, 2, none⟩) (Kd.R_far (p := ⟨gb359, 1, none⟩) (Kd.R_far (p := ⟨gb359, 0, none⟩) (Kd.R_types HO357.out BK359.out (by decide)) (fun _ hk => hk.2) (.bool t365)) (fun _ hk => hk.2) (.slice Ao49 t366.length co49)) (fun _ hk => hk.2) (.int .i64 t369)) (fun _ h_ => h_.1))) hb); have n2_ := Aside0.mk (Kd.R_below (by (with_reducible repeat (first | apply Kd.R_alloc | apply Kd.R_drewN | apply Kd.R_drew)); exact (Kd.R_mono (Kd.R_far (p := ⟨gb359, 2, none⟩) (Kd.R_far (p := ⟨gb359, 1, none⟩) (Kd.R_far (p := ⟨gb359, 0, none⟩) (Kd.R_types HO363.out BK359.out (by decide)) (fun _ hk => hk.2) (.bool t365)) (fun _ hk => hk.2) (.slice Ao49 t366.length co49)) (fun _ hk => hk.2) (.int .i64 t369)) (fun _ h_ => h_.1))) hb); have n3_ := Aside0.mk (Kd.R_below (by (with_reducible repeat (first | apply Kd.R_alloc | apply Kd.R_drewN | apply Kd.R_drew)); exact (Kd.R_mono (Kd.R_far (p := ⟨gb359, 2, none⟩) (Kd.R_far (p := ⟨gb359, 1, none⟩) (Kd.R_far (p := ⟨gb359, 0, none⟩) (Kd.R_types HO368.out BK359.out (by decide)) (fun _ hk => hk.2) (.bool t365)) (fun _ hk => hk.2) (.slice Ao49 t366.length co49)) (fun _ hk => hk.2) (.int .i64 t369)) (fun _ h_ => h_.1))) hb); have n4_ := Aside0.mk (blk_below (g := gb344) (o := .cells #[.int .i64 a0_0, .int .i64 a0_1] 23 (0, 0)) blks hb); have n5_ := Aside0.mk (blk_below (g := gb345) (o := .cells #[.int .i64 a1_0, .int .i64 a1_1] 23 (0, 0)) blks hb); have n6_ := Aside0.mk (blk_below (g := gb353) (o := .cells #[.bool t360, .slice Ao45 t361.length co45, .int .i64 t364] 61 (0, 0)) blks hb); have n7_ := Aside0.mk (blk_below (g := gb359) (o := .cells #[.bool t365, .slice Ao49 t366.length co49, .int .i64 t369] 61 (0, 0)) (by (with_reducible repeat (first | refine blk_drewN ?_ _ | refine blk_drew ?_ | refine blk_alloc ?_ _)); refine blk_put (cs := #[.bool t365, .slice Ao49 t366.length co49, .int .i64 t358]) ?_ 2 _ rfl; (with_reducible repeat (first | refine blk_drewN ?_ _ | refine blk_drew ?_ | refine blk_alloc ?_ _)); refine blk_put (cs := #[.bool t365, .slice Ao41 t355.length co41, .int .i64 t358]) ?_ 1 _ rfl; (with_reducible repeat (first | refine blk_drewN ?_ _ | refine blk_drew ?_ | refine blk_alloc ?_ _)); refine blk_put (cs := #[.bool t354, .slice Ao41 t355.length co41, .int .i64 t358]) ?_ 0 _ rfl; (with_reducible repeat (first | refine blk_drewN ?_ _ | refine blk_drew ?_ | refine blk_alloc ?_ _)); exact BK359.out) hb); have n8_ := Aside0.mk (below_step bel hb); clear HO351; clear HO357; clear HO363; clear HO368; clear BK344; clear BK345; clear BK353; clear BK359; clear HB; have HO351 := n0_; have HO357 := n1_; have HO363 := n2_; have HO368 := n3_; have BK344 := n4_; have BK345 := n5_; have BK353 := n6_; have BK359 := n7_; have HB := n8_; clear n0_ n1_ n2_ n3_ n4_ n5_ n6_ n7_ n8_; (try clear hb); (try clear hb2); (try clear hk); (try clear hi); have hcz52_0 : w51.cell? ⟨gb359, 0, none⟩ = some (.bool t365) := (blk_cell BK359.out 0).trans rfl; have hcz52_1 : w51.cell? ⟨gb359, 1, none⟩ = some (.slice Ao49 t366.length co49) := (blk_cell BK359.out 1).trans rfl; have hcz52_2 : w51.cell? ⟨gb359, 2, none⟩ = some (.int .i64 t369) := (blk_cell BK359.out 2).trans rfl; have hfz52_0 := blk_frozen BK359.out 0; have hfz52_1 := blk_frozen BK359.out 1; have hfz52_2 := blk_frozen BK359.out 2; have hcz53_0 : w51.cell? ⟨gb353, 0, none⟩ = some (.bool t360) := (blk_cell BK353.out 0).trans rfl; have hcz53_1 : w51.cell? ⟨gb353, 1, none⟩ = some (.slice Ao45 t361.length co45) := (blk_cell BK353.out 1).trans rfl; have hcz53_2 : w51.cell? ⟨gb353, 2, none⟩ = some (.int .i64 t364) := (blk_cell BK353.out 2).trans rfl; have hfz53_0 := blk_frozen BK353.out 0; have hfz53_1 := blk_frozen BK353.out 1; have hfz53_2 := blk_frozen BK353.out 2) | ((with_reducible refine gate_callee (f := 44) rfl ?_); refine goesL_ (some 43) rfl rfl Tryd.func44 (by kernel_rfl) rfl #[.slice Ao49 t366.length co49, .slice Ao45 t361.length co45] rfl gl_ ?_; (with_reducible refine (erasureref01_less.calls kj2 _ _ t366 _ _ t361 t371 _ ?side1 ?side2 ?side3 ?side4 A24.out).mono ?_); (case side1 => repeat (first | exact (Kd.R_reads' HO368.out).2.2 | (with_reducible refine Kd.C_alloc ?_ _) | (with_reducible refine Kd.C_drewN ?_ _) | (with_reducible refine Kd.C_drew ?_))); (case side2 => exact (Kd.R_reads' HO368.out).2.1); (case side3 => repeat (first | exact (Kd.R_reads' HO363.out).2.2 | (with_reducible refine Kd.C_alloc ?_ _) | (with_reducible refine Kd.C_drewN ?_ _) | (with_reducible refine Kd.C_drew ?_))); (case side4 => exact (Kd.R_reads' HO363.out).2.1); rintro e w54 ⟨rfl, hb⟩; refine ⟨_, rfl, ?_⟩; have n0_ := Aside0.mk (Kd.R_below (rkk HO351.out) hb); have n1_ := Aside0.mk (Kd.R_below (rkk HO357.out) hb); have n2_ := Aside0.mk (Kd.R_below (rkk HO363.out) hb); have n3_ := Aside0.mk (Kd.R_below (rkk HO368.out) hb); have n4_ := Aside0.mk (blk_below (bkk BK344.out) hb); have n5_ := Aside0.mk (blk_below (bkk BK345.out) hb); have n6_ := Aside0.mk (blk_below (bkk BK353.out) hb); have n7_ := Aside0.mk (blk_below (bkk BK359.out) hb); have n8_ := Aside0.mk (below_step bel hb); clear HO351; clear HO357; clear HO363; clear HO368; clear BK344; clear BK345; clear BK353; clear BK359; clear HB; have HO351 := n0_; have HO357 := n1_; have HO363 := n2_; have HO368 := n3_; have BK344 := n4_; have BK345 := n5_; have BK353 := n6_; have BK359 := n7_; have HB := n8_; clear n0_ n1_ n2_ n3_ n4_ n5_ n6_ n7_ n8_; (try clear hb); (try clear hb2); (try clear hk); (try clear hi); have hcz55_0 : w54.cell? ⟨gb353, 0, none⟩ = some (.bool t360) := (blk_cell BK353.out 0).trans rfl; have hcz55_1 : w54.cell? ⟨gb353, 1, none⟩ = some (.slice Ao45 t361.length co45) := (blk_cell BK353.out 1).trans rfl; have hcz55_2 : w54.cell? ⟨gb353, 2, none⟩ = some (.int .i64 t364) := (blk_cell BK353.out 2).trans rfl; have hfz55_0 := blk_frozen BK353.out 0; have hfz55_1 := blk_frozen BK353.out 1; have hfz55_2 := blk_frozen BK353.out 2; have hcz56_0 : w54.cell? ⟨gb359, 0, none⟩ = some (.bool t365) := (blk_cell BK359.out 0).trans rfl; have hcz56_1 : w54.cell? ⟨gb359, 1, none⟩ = some (.slice Ao49 t366.length co49) := (blk_cell BK359.out 1).trans rfl; have hcz56_2 : w54.cell? ⟨gb359, 2, none⟩ = some (.int .i64 t369) := (blk_cell BK359.out 2).trans rfl; have hfz56_0 := blk_frozen BK359.out 0; have hfz56_1 := blk_frozen BK359.out 1; have hfz56_2 := blk_frozen BK359.out 2))
    (try simp only [Act.put, List.setIfInBounds_toArray, List.set_cons_zero, List.set_cons_succ])
    go_cut [9, 10] (fun v9 v10 wc => ∃ (kq : Nat) (x9_24 : Bool) (x10_24 : Bool), v9 = .bool x9_24 ∧ v10 = .bool x10_24 ∧ Aside0 (erasureref01_Compare.j1 kq x9_24 x10_24 = some (r1, r2)) ∧ Aside0 (kq ≤ kj2) ∧ Aside0 (Kd.R (Kd.int .i64) 3 wc w.heap.size (fun k_ => some k_ ≠ ((.slice Ao49 t366.length co49) : Value).ownBlock) (.slice Ao45 t361.length co45) t361) ∧ Aside0 (Kd.R (Kd.int .i64) 3 wc w.heap.size (fun k_ => some k_ ≠ ((.slice Ao45 t361.length co45) : Value).ownBlock) (.slice Ao49 t366.length co49) t366) ∧ Aside0 (wc.heap[gb344]? = some (.cells #[.int .i64 a0_0, .int .i64 a0_1] 23 (0, 0))) ∧ Aside0 (wc.heap[gb345]? = some (.cells #[.int .i64 a1_0, .int .i64 a1_1] 23 (0, 0))) ∧ Aside0 (wc.heap[gb353]? = some (.cells #[.bool t360, (.slice Ao45 t361.length co45), .int .i64 t364] 61 (0, 0))) ∧ Aside0 (wc.heap[gb359]? = some (.cells #[.bool t365, (.slice Ao49 t366.length co49), .int .i64 t369] 61 (0, 0))) ∧ Aside0 (Below w.heap.size w wc))
    case first =>
     have H := HC25.out
     clear HC25
     by_cases c57 : (t360 != t365) = true
     ·rw [if_pos c57] at H
      have c57b0 : (t360 != t365) = true := c57
      (try (have c57b1 : decide (t360 = t365) = false := by simpa using c57))
      (try (have c57b2 : (t360 == t365) = false := by simpa using c57))
      (try (have c57b3 : ¬ (t360 = t365) := by simpa using c57))
      clear c57
      (first | rw [c57b0] | rw [show (!(t360 == t365)) = true from c57b0] | (simp only [i64_w, i32_w]; rw [c57b0]) | skip)
      have H' := Aside0.mk H
      clear H
      have hnb58 := NB353_344.out
      have hnc58 := NB344_353.out
      have hnb59 := NB353_345.out
      have hnc59 := NB345_353.out
      have hnb60 := NB353_359.out
      have hnc60 := NB359_353.out
      have hcz61_0 : w54.cell? ⟨gb353, 0, none⟩ = some (.bool t360) := (blk_cell BK353.out 0).trans rfl
      have hcz61_1 : w54.cell? ⟨gb353, 1, none⟩ = some (.slice Ao45 t361.length co45) := (blk_cell BK353.out 1).trans rfl
      have hcz61_2 : w54.cell? ⟨gb353, 2, none⟩ = some (.int .i64 t364) := (blk_cell BK353.out 2).trans rfl
      have hfz61_0 := blk_frozen BK353.out 0
      have hfz61_1 := blk_frozen BK353.out 1
      have hfz61_2 := blk_frozen BK353.out 2
      have hnb62 := NB359_344.out
      have hnc62 := NB344_359.out
      have hnb63 := NB359_345.out
      have hnc63 := NB345_359.out
      have hcz64_0 : w54.cell? ⟨gb359, 0, none⟩ = some (.bool t365) := (blk_cell BK359.out 0).trans rfl
      have hcz64_1 : w54.cell? ⟨gb359, 1, none⟩ = some (.slice Ao49 t366.length co49) := (blk_cell BK359.out 1).trans rfl
      have hcz64_2 : w54.cell? ⟨gb359, 2, none⟩ = some (.int .i64 t369) := (blk_cell BK359.out 2).trans rfl
      have hfz64_0 := blk_frozen BK359.out 0
      have hfz64_1 := blk_frozen BK359.out 1
      have hfz64_2 := blk_frozen BK359.out 2
      go_wp2
      go_meet
      case rel => exact ⟨_, (t360), (t365), ea_, ea_, H', ⟨by have := HJ2.out; first | omega | exact Nat.le_refl _⟩, ⟨by (with_reducible repeat (first | apply Kd.R_alloc | apply Kd.R_drewN | apply Kd.R_drew)); exact Kd.R_mono HO363.out (fun _ hk => hk.2)⟩, ⟨by (with_reducible repeat (first | apply Kd.R_alloc | apply Kd.R_drewN | apply Kd.R_drew)); exact Kd.R_mono HO368.out (fun _ hk => hk.2)⟩, ⟨bkk BK344.out⟩, ⟨bkk BK345.out⟩, ⟨bkk BK353.out⟩, ⟨bkk BK359.out⟩, ⟨bel⟩⟩
     ·rw [if_neg c57] at H
      have c57b0 : (t360 != t365) = false := by simpa using c57
      (try (have c57b1 : decide (t360 = t365) = true := by simpa using c57))
      (try (have c57b2 : (t360 == t365) = true := by simpa using c57))
      clear c57
      (first | rw [c57b0] | rw [show (!(t360 == t365)) = false from c57b0] | (simp only [i64_w, i32_w]; rw [c57b0]) | skip)
      by_cases c65 : t360 = true
      ·subst c65
       have H1 : (erasureref01_Compare.j1 kj2 t371 t370) = some (r1, r2) := by rw [if_pos rfl] at H; exact H
       clear H
       have H := H1
       clear H1
       have H' := Aside0.mk H
       clear H
       have hnb66 := NB353_344.out
       have hnc66 := NB344_353.out
       have hnb67 := NB353_345.out
       have hnc67 := NB345_353.out
       have hnb68 := NB353_359.out
       have hnc68 := NB359_353.out
       have hcz69_0 : w54.cell? ⟨gb353, 0, none⟩ = some (.bool true) := (blk_cell BK353.out 0).trans rfl
       have hcz69_1 : w54.cell? ⟨gb353, 1, none⟩ = some (.slice Ao45 t361.length co45) := (blk_cell BK353.out 1).trans rfl
       have hcz69_2 : w54.cell? ⟨gb353, 2, none⟩ = some (.int .i64 t364) := (blk_cell BK353.out 2).trans rfl
       have hfz69_0 := blk_frozen BK353.out 0
       have hfz69_1 := blk_frozen BK353.out 1
       have hfz69_2 := blk_frozen BK353.out 2
       go_wp2
       go_meet
       case rel => exact ⟨_, (t371), (t370), ea_, ea_, H', ⟨by have := HJ2.out; first | omega | exact Nat.le_refl _⟩, ⟨by (with_reducible repeat (first | apply Kd.R_alloc | apply Kd.R_drewN | apply Kd.R_drew)); exact Kd.R_mono HO363.out (fun _ hk => hk.2)⟩, ⟨by (with_reducible repeat (first | apply Kd.R_alloc | apply Kd.R_drewN | apply Kd.R_drew)); exact Kd.R_mono HO368.out (fun _ hk => hk.2)⟩, ⟨bkk BK344.out⟩, ⟨bkk BK345.out⟩, ⟨bkk BK353.out⟩, ⟨bkk BK359.out⟩, ⟨bel⟩⟩
      ·replace c65 := Bool.eq_false_iff.mpr c65
       subst c65
       have H1 : (erasureref01_Compare.j1 kj2 t370 t371) = some (r1, r2) := by rw [if_neg (show ¬ (false = true) by decide)] at H; exact H
       clear H
       have H := H1
       clear H1
       have H' := Aside0.mk H
       clear H
       have hnb70 := NB353_344.out
       have hnc70 := NB344_353.out
       have hnb71 := NB353_345.out
       have hnc71 := NB345_353.out
       have hnb72 := NB353_359.out
       have hnc72 := NB359_353.out
       have hcz73_0 : w54.cell? ⟨gb353, 0, none⟩ = some (.bool false) := (blk_cell BK353.out 0).trans rfl
       have hcz73_1 : w54.cell? ⟨gb353, 1, none⟩ = some (.slice Ao45 t361.length co45) := (blk_cell BK353.out 1).trans rfl
       have hcz73_2 : w54.cell? ⟨gb353, 2, none⟩ = some (.int .i64 t364) := (blk_cell BK353.out 2).trans rfl
       have hfz73_0 := blk_frozen BK353.out 0
       have hfz73_1 := blk_frozen BK353.out 1
       have hfz73_2 := blk_frozen BK353.out 2
       go_wp2
       go_meet
       case rel => exact ⟨_, (t370), (t371), ea_, ea_, H', ⟨by have := HJ2.out; first | omega | exact Nat.le_refl _⟩, ⟨by (with_reducible repeat (first | apply Kd.R_alloc | apply Kd.R_drewN | apply Kd.R_drew)); exact Kd.R_mono HO363.out (fun _ hk => hk.2)⟩, ⟨by (with_reducible repeat (first | apply Kd.R_alloc | apply Kd.R_drewN | apply Kd.R_drew)); exact Kd.R_mono HO368.out (fun _ hk => hk.2)⟩, ⟨bkk BK344.out⟩, ⟨bkk BK345.out⟩, ⟨bkk BK353.out⟩, ⟨bkk BK359.out⟩, ⟨bel⟩⟩
    case rest =>
     clear HC25
     try clear c1
     try clear c2
     try clear p2
     try clear c3
     try clear c4
     try clear c5
     try clear c6
     try clear c7
     try clear c9
     try clear c14
     try clear c17
     try clear c23
     try clear c25
     try clear c26
     try clear c30
     try clear c31
     try clear c37
     try clear c38
     try clear c39
     try clear c43
     try clear c44
     try clear c57
     try clear c57b0
     try clear c57b1
     try clear c57b2
     try clear c58
     try clear c59
     try clear c60
     try clear c62
     try clear c63
     try clear c65
     try clear c66
     try clear c67
     try clear c68
     try clear c70
     try clear c71
     try clear c72
     try clear hcz10_0
     try clear hcz10_1
     try clear hcz12_0
     try clear hcz12_1
     try clear hcz15_0
     try clear hcz15_1
     try clear hcz27_0
     try clear hcz27_1
     try clear hcz32_0
     try clear hcz32_1
     try clear hcz32_2
     try clear hcz34_0
     try clear hcz34_1
     try clear hcz40_0
     try clear hcz40_1
     try clear hcz40_2
     try clear hcz42_0
     try clear hcz42_1
     try clear hcz42_2
     try clear hcz44_0
     try clear hcz44_1
     try clear hcz44_2
     try clear hcz46_0
     try clear hcz46_1
     try clear hcz46_2
     try clear hcz48_0
     try clear hcz48_1
     try clear hcz48_2
     try clear hcz50_0
     try clear hcz50_1
     try clear hcz50_2
     try clear hcz52_0
     try clear hcz52_1
     try clear hcz52_2
     try clear hcz53_0
     try clear hcz53_1
     try clear hcz53_2
     try clear hcz55_0
     try clear hcz55_1
     try clear hcz55_2
     try clear hcz56_0
     try clear hcz56_1
     try clear hcz56_2
     try clear hcz61_0
     try clear hcz61_1
     try clear hcz61_2
     try clear hcz64_0
     try clear hcz64_1
     try clear hcz64_2
     try clear hcz69_0
     try clear hcz69_1
     try clear hcz69_2
     try clear hcz73_0
     try clear hcz73_1
     try clear hcz73_2
     try clear hfz10_0
     try clear hfz10_1
     try clear hfz12_0
     try clear hfz12_1
     try clear hfz15_0
     try clear hfz15_1
     try clear hfz27_0
     try clear hfz27_1
     try clear hfz32_0
     try clear hfz32_1
     try clear hfz32_2
     try clear hfz34_0
     try clear hfz34_1
     try clear hfz40_0
     try clear hfz40_1
     try clear hfz40_2
     try clear hfz42_0
     try clear hfz42_1
     try clear hfz42_2
     try clear hfz44_0
     try clear hfz44_1
     try clear hfz44_2
     try clear hfz46_0
     try clear hfz46_1
     try clear hfz46_2
     try clear hfz48_0
     try clear hfz48_1
     try clear hfz48_2
     try clear hfz50_0
     try clear hfz50_1
     try clear hfz50_2
     try clear hfz52_0
     try clear hfz52_1
     try clear hfz52_2
     try clear hfz53_0
     try clear hfz53_1
     try clear hfz53_2
     try clear hfz55_0
     try clear hfz55_1
     try clear hfz55_2
     try clear hfz56_0
     try clear hfz56_1
     try clear hfz56_2
     try clear hfz61_0
     try clear hfz61_1
     try clear hfz61_2
     try clear hfz64_0
     try clear hfz64_1
     try clear hfz64_2
     try clear hfz69_0
     try clear hfz69_1
     try clear hfz69_2
     try clear hfz73_0
     try clear hfz73_1
     try clear hfz73_2
     try clear p2
     obtain ⟨kq, x9_24, x10_24, rfl, rfl, HA, HJ24, HO_354001, HO_360001, BK344, BK345, BK353, BK359, HB⟩ := hcut
     cases kq with
     | zero => exact absurd HA.out (by simp [erasureref01_Compare.j1])
     | succ kj24 =>
      have H := HA.out
      clear HA
      simp only [erasureref01_Compare.j1] at H
      by_cases c74 : x9_24 = true
      ·subst c74
       have H1 : (some ((-1), 0)) = some (r1, r2) := by rw [if_pos rfl] at H; exact H
       clear H
       have H := H1
       clear H1
       simp only [Option.some.injEq, Prod.mk.injEq] at H
       obtain ⟨rfl, rfl⟩ := H
       go_wp2
       go_ret2
       exact ⟨by first | rfl | (simp [errW_none, errW_some] <;> rfl) | (simp only [← hji20]; first | rfl | (simp [errW_none, errW_some] <;> rfl)) | (simp [*, errW_none, errW_some] <;> rfl), bel⟩
      ·replace c74 := Bool.eq_false_iff.mpr c74
       subst c74
       have H1 : (if x10_24 = true then (some (1, 0)) else (some (0, 0))) = some (r1, r2) := by rw [if_neg (show ¬ (false = true) by decide)] at H; exact H
       clear H
       have H := H1
       clear H1
       by_cases c75 : x10_24 = true
       ·subst c75
        have H1 : (some (1, 0)) = some (r1, r2) := by rw [if_pos rfl] at H; exact H
        clear H
        have H := H1
        clear H1
        simp only [Option.some.injEq, Prod.mk.injEq] at H
        obtain ⟨rfl, rfl⟩ := H
        go_wp2
        go_ret2
        exact ⟨by first | rfl | (simp [errW_none, errW_some] <;> rfl) | (simp only [← hji20]; first | rfl | (simp [errW_none, errW_some] <;> rfl)) | (simp [*, errW_none, errW_some] <;> rfl), bel⟩
       ·replace c75 := Bool.eq_false_iff.mpr c75
        subst c75
        have H1 : (some (0, 0)) = some (r1, r2) := by rw [if_neg (show ¬ (false = true) by decide)] at H; exact H
        clear H
        have H := H1
        clear H1
        simp only [Option.some.injEq, Prod.mk.injEq] at H
        obtain ⟨rfl, rfl⟩ := H
        go_wp2
        go_ret2
        exact ⟨by first | rfl | (simp [errW_none, errW_some] <;> rfl) | (simp only [← hji20]; first | rfl | (simp [errW_none, errW_some] <;> rfl)) | (simp [*, errW_none, errW_some] <;> rfl), bel⟩
def erasureref01_Neg.f (a0_0 : Int) (a0_1 : Int) : Option (Int × Int × Int) := (erasureref01_Right.f a0_0 a0_1).bind fun t374 => (if t374 = true then (some (wrap64 (-a0_0), a0_1, 0)) else (some (0, 0, 1)))
set_option maxHeartbeats 8000000 in
set_option maxRecDepth 100000 in
theorem erasureref01_Neg.calls (a0_0 : Int) (a0_1 : Int) (r1 : Int) (r2 : Int) (r3 : Int) (w : World) (h : erasureref01_Neg.f a0_0 a0_1 = some (r1, r2, r3)) :
  Calls Tryd.prog 24 #[.agg #[.int .i64 a0_0, .int .i64 a0_1]] w fun e w' => e = .returned (.tuple #[.agg #[.int .i64 r1, .int .i64 r2], .int .i64 r3]) ∧ Below w.heap.size w w' := by
 have hu23 := Tryd.underlying23
 have HB := Aside0.mk (Below.refl w.heap.size w)
 have H : ((erasureref01_Right.f a0_0 a0_1).bind fun t374 => (if t374 = true then (some (wrap64 (-a0_0), a0_1, 0)) else (some (0, 0, 1)))) = some (r1, r2, r3) := h
 clear h
 replace H := Option.bind_eq_some_iff.mp H
 obtain ⟨t374, A20, H⟩ := H
 replace H : (if t374 = true then (some (wrap64 (-a0_0), a0_1, 0)) else (some (0, 0, 1))) = some (r1, r2, r3) := H
 have A2 := Aside0.mk A20
 clear A20
 by_cases c3 : t374 = true
 ·subst c3
  have H1 : (some (wrap64 (-a0_0), a0_1, 0)) = some (r1, r2, r3) := by rw [if_pos rfl] at H; exact H
  clear H
  have H := H1
  clear H1
  simp only [Option.some.injEq, Prod.mk.injEq] at H
  obtain ⟨rfl, rfl, rfl⟩ := H
  go_enter Tryd.func24, Tryd.ntmps24
  go_wp2_with (first | ((with_reducible refine gate_dst (N := 1) rfl ?_); refine box_event ?hg (N := 1) ?hd (cs := #[.int .i64 a0_0, .int .i64 a0_1]) (t := 23) ?hr ?_; (case hd => rfl); (case hg => rfl); (case hr => first | (go_simp; done) | (go_simp; rfl)); intro gb372 hg w4 hbox hb; have n0_ := Aside0.mk (below_step bel hb); have n1_ := Aside0.mk (hbox); have n2_ := Aside0.mk ((by rw [hg]; exact (below_size bel) : w.heap.size ≤ gb372)); have n3_ := Aside0.mk ((by rw [hg]; exact (below_size bel) : w.heap.size ≤ gb372)); clear HB; have HB := n0_; have BK372 := n1_; have GW372 := n2_; have GE372 := n3_; clear n0_ n1_ n2_ n3_; clear hb hbox hg) | ((with_reducible refine gate_dst (N := 2) rfl ?_); refine box_event ?hg (N := 2) ?hd (cs := #[.int .i64 0, .int .i64 0]) (t := 23) ?hr ?_; (case hd => rfl); (case hg => rfl); (case hr => first | (go_simp; done) | (go_simp; rfl)); intro gb373 hg w5 hbox hb; have n0_ := Aside0.mk (blk_below (bkk BK372.out) hb); have n1_ := Aside0.mk (below_step bel hb); have n2_ := Aside0.mk (hbox); have n3_ := Aside0.mk ((by rw [hg]; exact (below_size bel) : w.heap.size ≤ gb373)); have n4_ := Aside0.mk ((by rw [hg]; exact (below_size bel) : w.heap.size ≤ gb373)); have n5_ := Aside0.mk ((by rw [hg]; exact Nat.ne_of_lt (blk_lt (g := gb372) (o := .cells #[.int .i64 a0_0, .int .i64 a0_1] 23 (0, 0)) (bkk BK372.out)) : gb372 ≠ gb373)); have n6_ := Aside0.mk ((by rw [hg]; exact Nat.ne_of_gt (blk_lt (g := gb372) (o := .cells #[.int .i64 a0_0, .int .i64 a0_1] 23 (0, 0)) (bkk BK372.out)) : gb373 ≠ gb372)); clear BK372; clear HB; have BK372 := n0_; have HB := n1_; have BK373 := n2_; have GW373 := n3_; have GE373 := n4_; have NB372_373 := n5_; have NB373_372 := n6_; clear n0_ n1_ n2_ n3_ n4_ n5_ n6_; clear hb hbox hg; have hnb6 := NB372_373.out; have hnc6 := NB373_372.out; have hcz7_0 : w5.cell? ⟨gb372, 0, none⟩ = some (.int .i64 a0_0) := (blk_cell BK372.out 0).trans rfl; have hcz7_1 : w5.cell? ⟨gb372, 1, none⟩ = some (.int .i64 a0_1) := (blk_cell BK372.out 1).trans rfl; have hfz7_0 := blk_frozen BK372.out 0; have hfz7_1 := blk_frozen BK372.out 1) | ((with_reducible refine gate_callee (f := 25) rfl ?_); refine goesL_ (some 5) rfl rfl Tryd.func25 (by kernel_rfl) rfl #[.agg #[.int .i64 a0_0, .int .i64 a0_1]] rfl gl_ ?_; (with_reducible refine (erasureref01_Right.calls a0_0 a0_1 true _ A2.out).mono ?_); rintro e w8 ⟨rfl, hb⟩; refine ⟨_, rfl, ?_⟩; have n0_ := Aside0.mk (blk_below (bkk BK372.out) hb); have n1_ := Aside0.mk (blk_below (bkk BK373.out) hb); have n2_ := Aside0.mk (below_step bel hb); clear BK372; clear BK373; clear HB; have BK372 := n0_; have BK373 := n1_; have HB := n2_; clear n0_ n1_ n2_; (try clear hb); (try clear hb2); (try clear hk); (try clear hi); have hcz9_0 : w8.cell? ⟨gb372, 0, none⟩ = some (.int .i64 a0_0) := (blk_cell BK372.out 0).trans rfl; have hcz9_1 : w8.cell? ⟨gb372, 1, none⟩ = some (.int .i64 a0_1) := (blk_cell BK372.out 1).trans rfl; have hfz9_0 := blk_frozen BK372.out 0; have hfz9_1 := blk_frozen BK372.out 1; have hcz10_0 : w8.cell? ⟨gb373, 0, none⟩ = some (.int .i64 0) := (blk_cell BK373.out 0).trans rfl; have hcz10_1 : w8.cell? ⟨gb373, 1, none⟩ = some (.int .i64 0) := (blk_cell BK373.out 1).trans rfl; have hfz10_0 := blk_frozen BK373.out 0; have hfz10_1 := blk_frozen BK373.out 1))
  refine bodyPost_ret (results_ct rfl _ _ gb373 23 #[.int .i64 (wrap64 (-a0_0)), .int .i64 a0_1] (0, 0) _ rfl (by (with_reducible repeat (first | refine blk_drewN ?_ _ | refine blk_drew ?_ | refine blk_alloc ?_ _)); refine blk_put (cs := #[.int .i64 (wrap64 (-a0_0)), .int .i64 0]) ?_ 1 _ rfl; (with_reducible repeat (first | refine blk_drewN ?_ _ | refine blk_drew ?_ | refine blk_alloc ?_ _)); refine blk_put (cs := #[.int .i64 0, .int .i64 0]) ?_ 0 _ rfl; (with_reducible repeat (first | refine blk_drewN ?_ _ | refine blk_drew ?_ | refine blk_alloc ?_ _)); exact BK373.out) Tryd.underlying23 rfl (by kernel_rfl)) rfl ?_
  exact ⟨by first | rfl | (simp [errW_none, errW_some] <;> rfl) | (simp [*, errW_none, errW_some] <;> rfl), bel⟩
 ·replace c3 := Bool.eq_false_iff.mpr c3
  subst c3
  have H1 : (some (0, 0, 1)) = some (r1, r2, r3) := by rw [if_neg (show ¬ (false = true) by decide)] at H; exact H
  clear H
  have H := H1
  clear H1
  simp only [Option.some.injEq, Prod.mk.injEq] at H
  obtain ⟨rfl, rfl, rfl⟩ := H
  go_enter Tryd.func24, Tryd.ntmps24
  go_wp2_with (first | ((with_reducible refine gate_dst (N := 1) rfl ?_); refine box_event ?hg (N := 1) ?hd (cs := #[.int .i64 a0_0, .int .i64 a0_1]) (t := 23) ?hr ?_; (case hd => rfl); (case hg => rfl); (case hr => first | (go_simp; done) | (go_simp; rfl)); intro gb372 hg w11 hbox hb; have n0_ := Aside0.mk (below_step bel hb); have n1_ := Aside0.mk (hbox); have n2_ := Aside0.mk ((by rw [hg]; exact (below_size bel) : w.heap.size ≤ gb372)); have n3_ := Aside0.mk ((by rw [hg]; exact (below_size bel) : w.heap.size ≤ gb372)); clear HB; have HB := n0_; have BK372 := n1_; have GW372 := n2_; have GE372 := n3_; clear n0_ n1_ n2_ n3_; clear hb hbox hg) | ((with_reducible refine gate_dst (N := 2) rfl ?_); refine box_event ?hg (N := 2) ?hd (cs := #[.int .i64 0, .int .i64 0]) (t := 23) ?hr ?_; (case hd => rfl); (case hg => rfl); (case hr => first | (go_simp; done) | (go_simp; rfl)); intro gb373 hg w12 hbox hb; have n0_ := Aside0.mk (blk_below (bkk BK372.out) hb); have n1_ := Aside0.mk (below_step bel hb); have n2_ := Aside0.mk (hbox); have n3_ := Aside0.mk ((by rw [hg]; exact (below_size bel) : w.heap.size ≤ gb373)); have n4_ := Aside0.mk ((by rw [hg]; exact (below_size bel) : w.heap.size ≤ gb373)); have n5_ := Aside0.mk ((by rw [hg]; exact Nat.ne_of_lt (blk_lt (g := gb372) (o := .cells #[.int .i64 a0_0, .int .i64 a0_1] 23 (0, 0)) (bkk BK372.out)) : gb372 ≠ gb373)); have n6_ := Aside0.mk ((by rw [hg]; exact Nat.ne_of_gt (blk_lt (g := gb372) (o := .cells #[.int .i64 a0_0, .int .i64 a0_1] 23 (0, 0)) (bkk BK372.out)) : gb373 ≠ gb372)); clear BK372; clear HB; have BK372 := n0_; have HB := n1_; have BK373 := n2_; have GW373 := n3_; have GE373 := n4_; have NB372_373 := n5_; have NB373_372 := n6_; clear n0_ n1_ n2_ n3_ n4_ n5_ n6_; clear hb hbox hg; have hnb13 := NB372_373.out; have hnc13 := NB373_372.out; have hcz14_0 : w12.cell? ⟨gb372, 0, none⟩ = some (.int .i64 a0_0) := (blk_cell BK372.out 0).trans rfl; have hcz14_1 : w12.cell? ⟨gb372, 1, none⟩ = some (.int .i64 a0_1) := (blk_cell BK372.out 1).trans rfl; have hfz14_0 := blk_frozen BK372.out 0; have hfz14_1 := blk_frozen BK372.out 1) | ((with_reducible refine gate_callee (f := 25) rfl ?_); refine goesL_ (some 5) rfl rfl Tryd.func25 (by kernel_rfl) rfl #[.agg #[.int .i64 a0_0, .int .i64 a0_1]] rfl gl_ ?_; (with_reducible refine (erasureref01_Right.calls a0_0 a0_1 false _ A2.out).mono ?_); rintro e w15 ⟨rfl, hb⟩; refine ⟨_, rfl, ?_⟩; have n0_ := Aside0.mk (blk_below (bkk BK372.out) hb); have n1_ := Aside0.mk (blk_below (bkk BK373.out) hb); have n2_ := Aside0.mk (below_step bel hb); clear BK372; clear BK373; clear HB; have BK372 := n0_; have BK373 := n1_; have HB := n2_; clear n0_ n1_ n2_; (try clear hb); (try clear hb2); (try clear hk); (try clear hi); have hcz16_0 : w15.cell? ⟨gb373, 0, none⟩ = some (.int .i64 0) := (blk_cell BK373.out 0).trans rfl; have hcz16_1 : w15.cell? ⟨gb373, 1, none⟩ = some (.int .i64 0) := (blk_cell BK373.out 1).trans rfl; have hfz16_0 := blk_frozen BK373.out 0; have hfz16_1 := blk_frozen BK373.out 1))
  refine bodyPost_ret (results_ct rfl _ _ gb373 23 #[.int .i64 0, .int .i64 0] (0, 0) _ rfl (by (with_reducible repeat (first | refine blk_drewN ?_ _ | refine blk_drew ?_ | refine blk_alloc ?_ _)); refine blk_put (cs := #[.int .i64 0, .int .i64 0]) ?_ 1 _ rfl; (with_reducible repeat (first | refine blk_drewN ?_ _ | refine blk_drew ?_ | refine blk_alloc ?_ _)); refine blk_put (cs := #[.int .i64 0, .int .i64 0]) ?_ 0 _ rfl; (with_reducible repeat (first | refine blk_drewN ?_ _ | refine blk_drew ?_ | refine blk_alloc ?_ _)); exact BK373.out) Tryd.underlying23 rfl (by kernel_rfl)) rfl ?_
  exact ⟨by first | rfl | (simp [errW_none, errW_some] <;> rfl) | (simp [*, errW_none, errW_some] <;> rfl), bel⟩
end Go.Proofs.YtdkckjiccpdkbaaDoor.G
