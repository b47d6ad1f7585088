-- written by my own driver of the kit's print (wip/tools/myprint.py); Lean checks it.
import Derived.Test.YtdkckjiccpdkbaaDoorG0
import Derived.Test.YtdkckjiccpdkbaaDoorG2
import Derived.Test.YtdkckjiccpdkbaaDoorG3
import Derived.Test.YtdkckjiccpdkbaaDoorE2
import Derived.Test.YtdkckjiccpdkbaaDoorE4
namespace Go.Proofs.YtdkckjiccpdkbaaDoor.G
open Go.RowKit Go.Proofs.YtdkckjiccpdkbaaDoorW.PrintWords Go.Proofs.YtdkckjiccpdkbaaDoorW.PrintLast Go.Proofs.YtdkckjiccpdkbaaDoorW.PrintMore Go.Proofs.YtdkckjiccpdkbaaDoor.H Go.Proofs.YtdkckjiccpdkbaaDoor.A Go.Proofs.YtdkckjiccpdkbaaDoor.B Go.Proofs.YtdkckjiccpdkbaaDoor.E
attribute [local go_sem] max2_int min2_int max_two min_two max_three min_three max_four min_four   -- for this text's walks alone
set_option linter.unusedVariables false
set_option linter.unusedSimpArgs false
def erasureref01_Add.j0 : Nat → Bool → Int → Int → Int → Int → Option (Int × Int × Int)
 | 0, _, _, _, _, _ => none
 | k + 1, x13, x274000, x274001, x275000, x275001 => if x13 = true then (some (0, 0, 1)) else ((erasureref01_of.f k x274000 x274001).bind fun bt278 => ((erasureref01_of.f k x275000 x275001).bind fun bt283 => ((erasureref01_sum.f k bt278.1 bt278.2.1 bt278.2.2 bt283.1 bt283.2.1 bt283.2.2).bind fun bt288 => ((erasureref01_told.f k bt288.1 bt288.2.1 bt288.2.2).bind fun bt293 => (some (bt293.1, bt293.2.1, bt293.2.2))))))
def erasureref01_Add.f (k : Nat) (a0_0 : Int) (a0_1 : Int) (a1_0 : Int) (a1_1 : Int) : Option (Int × Int × Int) := (erasureref01_Right.f a0_0 a0_1).bind fun t276 => (if t276 = true then ((erasureref01_Right.f a1_0 a1_1).bind fun t277 => (erasureref01_Add.j0 k (!t277) a0_0 a0_1 a1_0 a1_1)) else (erasureref01_Add.j0 k true a0_0 a0_1 a1_0 a1_1))
theorem erasureref01_Add.mono_l : ∀ k, (∀ y0 y1 y2 y3 y4, LeO (erasureref01_Add.j0 k y0 y1 y2 y3 y4) (erasureref01_Add.j0 (k + 1) y0 y1 y2 y3 y4))
 | 0 => fun _ _ _ _ _ r h => by simp [erasureref01_Add.j0] at h
 | k + 1 => by
  have ih0 := erasureref01_Add.mono_l k
  ·intro y0 y1 y2 y3 y4
   unfold erasureref01_Add.j0
   repeat' first
   | (with_reducible exact ih0 _ _ _ _ _)
   | (with_reducible exact erasureref01_of.mono _ _ _)
   | (with_reducible exact erasureref01_sum.mono _ _ _ _ _ _ _)
   | (with_reducible exact erasureref01_told.mono _ _ _ _)
   | (with_reducible exact LeO.refl _)
   | (with_reducible exact LeO.none _)
   | (with_reducible refine LeO.ite ?_ ?_)
   | (with_reducible refine LeO.bind ?_ (fun _ => ?_))
   | exact ih0 _ _ _ _ _
   | exact erasureref01_of.mono _ _ _
   | exact erasureref01_sum.mono _ _ _ _ _ _ _
   | exact erasureref01_told.mono _ _ _ _
   | exact LeO.none _
   | refine LeO.ite ?_ ?_
   | refine LeO.bind ?_ (fun _ => ?_)
theorem erasureref01_Add.mono : ∀ a0 a1 a2 a3 k, LeO (erasureref01_Add.f k a0 a1 a2 a3) (erasureref01_Add.f (k + 1) a0 a1 a2 a3) := by
 intro a0 a1 a2 a3 k
 have ih0 := erasureref01_Add.mono_l k
 unfold erasureref01_Add.f
 repeat' first
   | (with_reducible exact ih0 _ _ _ _ _)
   | (with_reducible exact erasureref01_of.mono _ _ _)
   | (with_reducible exact erasureref01_sum.mono _ _ _ _ _ _ _)
   | (with_reducible exact erasureref01_told.mono _ _ _ _)
   | (with_reducible exact LeO.refl _)
   | (with_reducible exact LeO.none _)
   | (with_reducible refine LeO.ite ?_ ?_)
   | (with_reducible refine LeO.bind ?_ (fun _ => ?_))
   | exact ih0 _ _ _ _ _
   | exact erasureref01_of.mono _ _ _
   | exact erasureref01_sum.mono _ _ _ _ _ _ _
   | exact erasureref01_told.mono _ _ _ _
   | exact LeO.none _
   | refine LeO.ite ?_ ?_
   | refine LeO.bind ?_ (fun _ => ?_)
def erasureref01_Add.T3 : Bool × List (List Nat × List Nat) := (true, [([], []), ([0], [0]), ([], []), ([2, 1], [2]), ([1, 3, 3], [1, 3]), ([4, 4], [4]), ([5], [5]), ([5], [5]), ([6, 5, 0, 1, 2, 3, 4, 5, 6, 7], [6]), ([7, 8, 0, 1, 2, 3, 4, 5, 6, 7, 8], [7])])
def erasureref01_Add.B3 : List Nat := [0, 1, 0, 7, 15, 31, 63, 63, 255, 511]
theorem erasureref01_Add.tab3 : rtab .any (opsOf Tryd.f20 3) = erasureref01_Add.T3 := by kernel_rfl
theorem erasureref01_Add.bits3 : waitsOk erasureref01_Add.T3.2 erasureref01_Add.B3 = true := by kernel_rfl
set_option maxHeartbeats 8000000 in
set_option maxRecDepth 100000 in
theorem erasureref01_Add.calls (k : Nat) (a0_0 : Int) (a0_1 : Int) (a1_0 : Int) (a1_1 : Int) (r1 : Int) (r2 : Int) (r3 : Int) (w : World) (h : erasureref01_Add.f k a0_0 a0_1 a1_0 a1_1 = some (r1, r2, r3)) :
  Calls Tryd.prog 20 #[.agg #[.int .i64 a0_0, .int .i64 a0_1], .agg #[.int .i64 a1_0, .int .i64 a1_1]] w fun e w' => e = .returned (.tuple #[.agg #[.int .i64 r1, .int .i64 r2], .int .i64 r3]) ∧ Below w.heap.size w w' := by
 have hu23 := Tryd.underlying23
 have HB := Aside0.mk (Below.refl w.heap.size w)
 have H : ((erasureref01_Right.f a0_0 a0_1).bind fun t276 => (if t276 = true then ((erasureref01_Right.f a1_0 a1_1).bind fun t277 => (erasureref01_Add.j0 k (!t277) a0_0 a0_1 a1_0 a1_1)) else (erasureref01_Add.j0 k true a0_0 a0_1 a1_0 a1_1))) = some (r1, r2, r3) := h
 clear h
 have HC3 := Aside0.mk H
 clear H
 go_enter Tryd.func20, Tryd.ntmps20
 go_upto_region 1 with (first | ((with_reducible refine gate_dst (N := 2) rfl ?_); refine box_event ?hg (N := 2) ?hd (cs := #[.int .i64 a0_0, .int .i64 a0_1]) (t := 23) ?hr ?_; (case hd => rfl); (case hg => rfl); (case hr => first | (go_simp; done) | (go_simp; rfl)); intro gb273 hg w4 hbox hb; have n0_ := Aside0.mk (below_step bel hb); have n1_ := Aside0.mk (hbox); have n2_ := Aside0.mk ((by rw [hg]; exact (below_size bel) : w.heap.size ≤ gb273)); have n3_ := Aside0.mk ((by rw [hg]; exact (below_size bel) : w.heap.size ≤ gb273)); clear HB; have HB := n0_; have BK273 := n1_; have GW273 := n2_; have GE273 := n3_; clear n0_ n1_ n2_ n3_; clear hb hbox hg) | ((with_reducible refine gate_dst (N := 3) rfl ?_); refine box_event ?hg (N := 3) ?hd (cs := #[.int .i64 a1_0, .int .i64 a1_1]) (t := 23) ?hr ?_; (case hd => rfl); (case hg => rfl); (case hr => first | (go_simp; done) | (go_simp; rfl)); intro gb274 hg w5 hbox hb; have n0_ := Aside0.mk (blk_below (bkk BK273.out) hb); have n1_ := Aside0.mk (below_step bel hb); have n2_ := Aside0.mk (hbox); have n3_ := Aside0.mk ((by rw [hg]; exact (below_size bel) : w.heap.size ≤ gb274)); have n4_ := Aside0.mk ((by rw [hg]; exact (below_size bel) : w.heap.size ≤ gb274)); have n5_ := Aside0.mk ((by rw [hg]; exact Nat.ne_of_lt (blk_lt (g := gb273) (o := .cells #[.int .i64 a0_0, .int .i64 a0_1] 23 (0, 0)) (bkk BK273.out)) : gb273 ≠ gb274)); have n6_ := Aside0.mk ((by rw [hg]; exact Nat.ne_of_gt (blk_lt (g := gb273) (o := .cells #[.int .i64 a0_0, .int .i64 a0_1] 23 (0, 0)) (bkk BK273.out)) : gb274 ≠ gb273)); clear BK273; clear HB; have BK273 := n0_; have HB := n1_; have BK274 := n2_; have GW274 := n3_; have GE274 := n4_; have NB273_274 := n5_; have NB274_273 := n6_; clear n0_ n1_ n2_ n3_ n4_ n5_ n6_; clear hb hbox hg) | ((with_reducible refine gate_dst (N := 4) rfl ?_); refine box_event ?hg (N := 4) ?hd (cs := #[.int .i64 0, .int .i64 0]) (t := 23) ?hr ?_; (case hd => rfl); (case hg => rfl); (case hr => first | (go_simp; done) | (go_simp; rfl)); intro gb275 hg w6 hbox hb; have n0_ := Aside0.mk (blk_below (bkk BK273.out) hb); have n1_ := Aside0.mk (blk_below (bkk BK274.out) hb); have n2_ := Aside0.mk (below_step bel hb); have n3_ := Aside0.mk (hbox); have n4_ := Aside0.mk ((by rw [hg]; exact (below_size bel) : w.heap.size ≤ gb275)); have n5_ := Aside0.mk ((by rw [hg]; exact (below_size bel) : w.heap.size ≤ gb275)); have n6_ := Aside0.mk ((by rw [hg]; exact Nat.ne_of_lt (blk_lt (g := gb273) (o := .cells #[.int .i64 a0_0, .int .i64 a0_1] 23 (0, 0)) (bkk BK273.out)) : gb273 ≠ gb275)); have n7_ := Aside0.mk ((by rw [hg]; exact Nat.ne_of_gt (blk_lt (g := gb273) (o := .cells #[.int .i64 a0_0, .int .i64 a0_1] 23 (0, 0)) (bkk BK273.out)) : gb275 ≠ gb273)); have n8_ := Aside0.mk ((by rw [hg]; exact Nat.ne_of_lt (blk_lt (g := gb274) (o := .cells #[.int .i64 a1_0, .int .i64 a1_1] 23 (0, 0)) (bkk BK274.out)) : gb274 ≠ gb275)); have n9_ := Aside0.mk ((by rw [hg]; exact Nat.ne_of_gt (blk_lt (g := gb274) (o := .cells #[.int .i64 a1_0, .int .i64 a1_1] 23 (0, 0)) (bkk BK274.out)) : gb275 ≠ gb274)); clear BK273; clear BK274; clear HB; have BK273 := n0_; have BK274 := n1_; have HB := n2_; have BK275 := n3_; have GW275 := n4_; have GE275 := n5_; have NB273_275 := n6_; have NB275_273 := n7_; have NB274_275 := n8_; have NB275_274 := n9_; clear n0_ n1_ n2_ n3_ n4_ n5_ n6_ n7_ n8_ n9_; clear hb hbox hg))
 (try simp only [Act.put, List.setIfInBounds_toArray, List.set_cons_zero, List.set_cons_succ])
 go_cut [13] (fun v13 wc => ∃ (kq : Nat) (x13_2 : Bool), v13 = .bool x13_2 ∧ Aside0 (erasureref01_Add.j0 kq x13_2 a0_0 a0_1 a1_0 a1_1 = some (r1, r2, r3)) ∧ Aside0 (kq ≤ k) ∧ Aside0 (wc.heap[gb273]? = some (.cells #[.int .i64 a0_0, .int .i64 a0_1] 23 (0, 0))) ∧ Aside0 (wc.heap[gb274]? = some (.cells #[.int .i64 a1_0, .int .i64 a1_1] 23 (0, 0))) ∧ Aside0 (wc.heap[gb275]? = some (.cells #[.int .i64 0, .int .i64 0] 23 (0, 0))) ∧ Aside0 (Below w.heap.size w wc))
 case first =>
  have H := HC3.out
  clear HC3
  replace H := Option.bind_eq_some_iff.mp H
  obtain ⟨t276, A70, H⟩ := H
  replace H : (if t276 = true then ((erasureref01_Right.f a1_0 a1_1).bind fun t277 => (erasureref01_Add.j0 k (!t277) a0_0 a0_1 a1_0 a1_1)) else (erasureref01_Add.j0 k true a0_0 a0_1 a1_0 a1_1)) = some (r1, r2, r3) := H
  have A7 := Aside0.mk A70
  clear A70
  by_cases c8 : t276 = true
  ·subst c8
   have H1 : ((erasureref01_Right.f a1_0 a1_1).bind fun t277 => (erasureref01_Add.j0 k (!t277) a0_0 a0_1 a1_0 a1_1)) = some (r1, r2, r3) := by rw [if_pos rfl] at H; exact H
   clear H
   have H := H1
   clear H1
   replace H := Option.bind_eq_some_iff.mp H
   obtain ⟨t277, A90, H⟩ := H
   replace H : (erasureref01_Add.j0 k (!t277) a0_0 a0_1 a1_0 a1_1) = some (r1, r2, r3) := H
   have A9 := Aside0.mk A90
   clear A90
   have H' := Aside0.mk H
   clear H
   have hnb10 := NB273_274.out
   have hnc10 := NB274_273.out
   have hnb11 := NB273_275.out
   have hnc11 := NB275_273.out
   have hcz12_0 : w6.cell? ⟨gb273, 0, none⟩ = some (.int .i64 a0_0) := (blk_cell BK273.out 0).trans rfl
   have hcz12_1 : w6.cell? ⟨gb273, 1, none⟩ = some (.int .i64 a0_1) := (blk_cell BK273.out 1).trans rfl
   have hfz12_0 := blk_frozen BK273.out 0
   have hfz12_1 := blk_frozen BK273.out 1
   go_wp2_with (first | ((with_reducible refine gate_callee (f := 25) rfl ?_); refine goesL_ (some 7) rfl rfl Tryd.func25 (by kernel_rfl) rfl #[.agg #[.int .i64 a0_0, .int .i64 a0_1]] rfl gl_ ?_; (with_reducible refine (erasureref01_Right.calls a0_0 a0_1 true _ A7.out).mono ?_); rintro e w13 ⟨rfl, hb⟩; refine ⟨_, rfl, ?_⟩; have n0_ := Aside0.mk (blk_below (bkk BK273.out) hb); have n1_ := Aside0.mk (blk_below (bkk BK274.out) hb); have n2_ := Aside0.mk (blk_below (bkk BK275.out) hb); have n3_ := Aside0.mk (below_step bel hb); clear BK273; clear BK274; clear BK275; clear HB; have BK273 := n0_; have BK274 := n1_; have BK275 := n2_; have HB := n3_; clear n0_ n1_ n2_ n3_; (try clear hb); (try clear hb2); (try clear hk); (try clear hi); have hnb14 := NB274_275.out; have hnc14 := NB275_274.out; have hcz15_0 : w13.cell? ⟨gb274, 0, none⟩ = some (.int .i64 a1_0) := (blk_cell BK274.out 0).trans rfl; have hcz15_1 : w13.cell? ⟨gb274, 1, none⟩ = some (.int .i64 a1_1) := (blk_cell BK274.out 1).trans rfl; have hfz15_0 := blk_frozen BK274.out 0; have hfz15_1 := blk_frozen BK274.out 1) | (go_at_call 25; (with_reducible refine (erasureref01_Right.calls a1_0 a1_1 t277 _ A9.out).mono ?_); rintro e w16 ⟨rfl, hb⟩; have n0_ := Aside0.mk (blk_below (bkk BK273.out) hb); have n1_ := Aside0.mk (blk_below (bkk BK274.out) hb); have n2_ := Aside0.mk (blk_below (bkk BK275.out) hb); have n3_ := Aside0.mk (below_step bel hb); clear BK273; clear BK274; clear BK275; clear HB; have BK273 := n0_; have BK274 := n1_; have BK275 := n2_; have HB := n3_; clear n0_ n1_ n2_ n3_; (try clear hb); (try clear hb2); (try clear hk); (try clear hi)))
   go_meet
   case rel => exact ⟨_, (!t277), ea_, H', ⟨by first | omega | exact Nat.le_refl _⟩, ⟨bkk BK273.out⟩, ⟨bkk BK274.out⟩, ⟨bkk BK275.out⟩, ⟨bel⟩⟩
  ·replace c8 := Bool.eq_false_iff.mpr c8
   subst c8
   have H1 : (erasureref01_Add.j0 k true a0_0 a0_1 a1_0 a1_1) = some (r1, r2, r3) := by rw [if_neg (show ¬ (false = true) by decide)] at H; exact H
   clear H
   have H := H1
   clear H1
   have H' := Aside0.mk H
   clear H
   have hnb17 := NB273_274.out
   have hnc17 := NB274_273.out
   have hnb18 := NB273_275.out
   have hnc18 := NB275_273.out
   have hcz19_0 : w6.cell? ⟨gb273, 0, none⟩ = some (.int .i64 a0_0) := (blk_cell BK273.out 0).trans rfl
   have hcz19_1 : w6.cell? ⟨gb273, 1, none⟩ = some (.int .i64 a0_1) := (blk_cell BK273.out 1).trans rfl
   have hfz19_0 := blk_frozen BK273.out 0
   have hfz19_1 := blk_frozen BK273.out 1
   go_wp2_with (first | ((with_reducible refine gate_callee (f := 25) rfl ?_); refine goesL_ (some 7) rfl rfl Tryd.func25 (by kernel_rfl) rfl #[.agg #[.int .i64 a0_0, .int .i64 a0_1]] rfl gl_ ?_; (with_reducible refine (erasureref01_Right.calls a0_0 a0_1 false _ A7.out).mono ?_); rintro e w20 ⟨rfl, hb⟩; refine ⟨_, rfl, ?_⟩; have n0_ := Aside0.mk (blk_below (bkk BK273.out) hb); have n1_ := Aside0.mk (blk_below (bkk BK274.out) hb); have n2_ := Aside0.mk (blk_below (bkk BK275.out) hb); have n3_ := Aside0.mk (below_step bel hb); clear BK273; clear BK274; clear BK275; clear HB; have BK273 := n0_; have BK274 := n1_; have BK275 := n2_; have HB := n3_; clear n0_ n1_ n2_ n3_; (try clear hb); (try clear hb2); (try clear hk); (try clear hi)))
   go_meet
   case rel => exact ⟨_, (true), ea_, H', ⟨by first | omega | exact Nat.le_refl _⟩, ⟨bkk BK273.out⟩, ⟨bkk BK274.out⟩, ⟨bkk BK275.out⟩, ⟨bel⟩⟩
 case rest =>
  clear HC3
  try clear c1
  try clear c2
  try clear p2
  try clear c8
  try clear c10
  try clear c11
  try clear c14
  try clear c17
  try clear c18
  try clear c20
  try clear hcz12_0
  try clear hcz12_1
  try clear hcz15_0
  try clear hcz15_1
  try clear hcz19_0
  try clear hcz19_1
  try clear hfz12_0
  try clear hfz12_1
  try clear hfz15_0
  try clear hfz15_1
  try clear hfz19_0
  try clear hfz19_1
  obtain ⟨kq, x13_2, rfl, HA, HJ2, BK273, BK274, BK275, HB⟩ := hcut
  cases kq with
  | zero => exact absurd HA.out (by simp [erasureref01_Add.j0])
  | succ kj2 =>
   have H := HA.out
   clear HA
   simp only [erasureref01_Add.j0] at H
   by_cases c21 : x13_2 = true
   ·subst c21
    have H1 : (some (0, 0, 1)) = some (r1, r2, r3) := by rw [if_pos rfl] at H; exact H
    clear H
    have H := H1
    clear H1
    simp only [Option.some.injEq, Prod.mk.injEq] at H
    obtain ⟨rfl, rfl, rfl⟩ := H
    have hnb22 := NB275_273.out
    have hnc22 := NB273_275.out
    have hnb23 := NB275_274.out
    have hnc23 := NB274_275.out
    have hcz24_0 : wc.cell? ⟨gb275, 0, none⟩ = some (.int .i64 0) := (blk_cell BK275.out 0).trans rfl
    have hcz24_1 : wc.cell? ⟨gb275, 1, none⟩ = some (.int .i64 0) := (blk_cell BK275.out 1).trans rfl
    have hfz24_0 := blk_frozen BK275.out 0
    have hfz24_1 := blk_frozen BK275.out 1
    go_wp2
    refine bodyPost_ret (results_ct rfl _ _ gb275 23 #[.int .i64 0, .int .i64 0] (0, 0) _ rfl (by (with_reducible repeat (first | refine blk_drewN ?_ _ | refine blk_drew ?_ | refine blk_alloc ?_ _)); refine blk_put (cs := #[.int .i64 0, .int .i64 0]) ?_ 1 _ rfl; (with_reducible repeat (first | refine blk_drewN ?_ _ | refine blk_drew ?_ | refine blk_alloc ?_ _)); refine blk_put (cs := #[.int .i64 0, .int .i64 0]) ?_ 0 _ rfl; (with_reducible repeat (first | refine blk_drewN ?_ _ | refine blk_drew ?_ | refine blk_alloc ?_ _)); exact BK275.out) Tryd.underlying23 rfl (by kernel_rfl)) rfl ?_
    exact ⟨by first | rfl | (simp [errW_none, errW_some] <;> rfl) | (simp [*, errW_none, errW_some] <;> rfl), bel⟩
   ·replace c21 := Bool.eq_false_iff.mpr c21
    subst c21
    have H1 : ((erasureref01_of.f kj2 a0_0 a0_1).bind fun bt278 => ((erasureref01_of.f kj2 a1_0 a1_1).bind fun bt283 => ((erasureref01_sum.f kj2 bt278.1 bt278.2.1 bt278.2.2 bt283.1 bt283.2.1 bt283.2.2).bind fun bt288 => ((erasureref01_told.f kj2 bt288.1 bt288.2.1 bt288.2.2).bind fun bt293 => (some (bt293.1, bt293.2.1, bt293.2.2)))))) = some (r1, r2, r3) := by rw [if_neg (show ¬ (false = true) by decide)] at H; exact H
    clear H
    have H := H1
    clear H1
    replace H := Option.bind_eq_some_iff.mp H
    obtain ⟨⟨t278, t279, t282⟩, A250, H⟩ := H
    replace H : ((erasureref01_of.f kj2 a1_0 a1_1).bind fun bt283 => ((erasureref01_sum.f kj2 t278 t279 t282 bt283.1 bt283.2.1 bt283.2.2).bind fun bt288 => ((erasureref01_told.f kj2 bt288.1 bt288.2.1 bt288.2.2).bind fun bt293 => (some (bt293.1, bt293.2.1, bt293.2.2))))) = some (r1, r2, r3) := H
    have A25 := Aside0.mk A250
    clear A250
    replace H := Option.bind_eq_some_iff.mp H
    obtain ⟨⟨t283, t284, t287⟩, A260, H⟩ := H
    replace H : ((erasureref01_sum.f kj2 t278 t279 t282 t283 t284 t287).bind fun bt288 => ((erasureref01_told.f kj2 bt288.1 bt288.2.1 bt288.2.2).bind fun bt293 => (some (bt293.1, bt293.2.1, bt293.2.2)))) = some (r1, r2, r3) := H
    have A26 := Aside0.mk A260
    clear A260
    replace H := Option.bind_eq_some_iff.mp H
    obtain ⟨⟨t288, t289, t292⟩, A270, H⟩ := H
    replace H : ((erasureref01_told.f kj2 t288 t289 t292).bind fun bt293 => (some (bt293.1, bt293.2.1, bt293.2.2))) = some (r1, r2, r3) := H
    have A27 := Aside0.mk A270
    clear A270
    replace H := Option.bind_eq_some_iff.mp H
    obtain ⟨⟨t293, t294, t295⟩, A280, H⟩ := H
    replace H : (some (t293, t294, t295)) = some (r1, r2, r3) := H
    have A28 := Aside0.mk A280
    clear A280
    simp only [Option.some.injEq, Prod.mk.injEq] at H
    obtain ⟨rfl, rfl, rfl⟩ := H
    try go_wp2
    have n0_ := Aside0.mk (blk_drew BK273.out)
    have n1_ := Aside0.mk (blk_drew BK274.out)
    have n2_ := Aside0.mk (blk_drew BK275.out)
    have n3_ := Aside0.mk (below_drew1 HB.out)
    clear BK273
    clear BK274
    clear BK275
    clear HB
    have BK273 := n0_
    have BK274 := n1_
    have BK275 := n2_
    have HB := n3_
    clear n0_ n1_ n2_ n3_
    refine start_ (n := 10) (S := fun w' => w'.cell? ⟨gb273, 0, none⟩ = some (.int .i64 a0_0) ∧ w'.cell? ⟨gb273, 1, none⟩ = some (.int .i64 a0_1) ∧ w'.cell? ⟨gb274, 0, none⟩ = some (.int .i64 a1_0) ∧ w'.cell? ⟨gb274, 1, none⟩ = some (.int .i64 a1_1)) (ds := []) (tk_ 10 0) (by kernel_rfl) rfl (by kernel_rfl) ⟨(blk_cell BK273.out 0).trans rfl, (blk_cell BK273.out 1).trans rfl, (blk_cell BK274.out 0).trans rfl, (blk_cell BK274.out 1).trans rfl⟩ (fun hHeld => ?_); refine with_tabW erasureref01_Add.tab3 erasureref01_Add.bits3 (fun HT_ HW_ => ?_)
    generalize wc.drew = w29 at BK273 BK274 BK275 HB hHeld ⊢
    refine ta_ 0 15 (tk_ 10 1) HT_.out HW_.out rfl rfl (by kernel_rfl) (fun _ _ _ h => h) (by rfl) (by rintro w' ⟨s0, s1, s2, s3⟩; go_simp; with_reducible rfl) hHeld (by simp only [s0_, s1_, s2_, s3_, s4_, s5_]; rfl) ?_
    refine ta_ 2 17 (tk_ 10 5) HT_.out HW_.out rfl rfl (by kernel_rfl) (fun _ _ _ h => h) (by rfl) (by rintro w' ⟨s0, s1, s2, s3⟩; go_simp; with_reducible rfl) hHeld (by simp only [s0_, s1_, s2_, s3_, s4_, s5_]; rfl) ?_
    refine one_ (i := 1) (N := some 16) (tk_ 10 7) rfl rfl (one_of HT_.out (by kernel_rfl)) (by decide) (fun K hK => ?_)
    refine goes_ Tryd.func39 (by kernel_rfl) rfl #[.agg #[.int .i64 a0_0, .int .i64 a0_1]] (by rfl) rfl rfl gl_ ?_
    with_reducible refine (erasureref01_of.calls kj2 a0_0 a0_1 t278 t279 t282 _ A25.out).mono ?_
    rintro e w30 ⟨v280, rfl, ho0, hb⟩
    refine ⟨_, rfl, ?_⟩
    have n0_ := Aside0.mk (Kd.R_lower ho0 (below_size bel))
    have n1_ := Aside0.mk (blk_below (bkk BK273.out) hb)
    have n2_ := Aside0.mk (blk_below (bkk BK274.out) hb)
    have n3_ := Aside0.mk (blk_below (bkk BK275.out) hb)
    have n4_ := Aside0.mk (below_step bel hb)
    clear BK273
    clear BK274
    clear BK275
    clear HB
    have HO281 := n0_
    have BK273 := n1_
    have BK274 := n2_
    have BK275 := n3_
    have HB := n4_
    clear n0_ n1_ n2_ n3_ n4_
    (try clear hb)
    (try clear hb2)
    (try clear hk)
    (try clear hi)
    (try clear ho0)
    refine hK.out _ _ ⟨(blk_cell BK273.out 0).trans rfl, (blk_cell BK273.out 1).trans rfl, (blk_cell BK274.out 0).trans rfl, (blk_cell BK274.out 1).trans rfl⟩ (fun hHeld => ?_)
    clear hK K
    refine norm_ (by show Act.put _ (some 16) _ = _; simp only [s0_, s1_, s2_, s3_, s4_, s5_]; rfl) ?_
    refine one_ (i := 3) (N := some 18) (tk_ 10 15) rfl rfl (one_of HT_.out (by kernel_rfl)) (by decide) (fun K hK => ?_)
    refine goes_ Tryd.func39 (by kernel_rfl) rfl #[.agg #[.int .i64 a1_0, .int .i64 a1_1]] (by rfl) rfl rfl gl_ ?_
    with_reducible refine (erasureref01_of.calls kj2 a1_0 a1_1 t283 t284 t287 _ A26.out).mono ?_
    rintro e w31 ⟨v285, rfl, ho0, hb⟩
    refine ⟨_, rfl, ?_⟩
    have n0_ := Aside0.mk (Kd.R_elder' (rkk HO281.out) (Kd.R_base ho0) hb)
    have n1_ := Aside0.mk (Kd.R_lower (Kd.R_new' ho0 (Kd.R_lt (rkk HO281.out))) (below_size bel))
    have n2_ := Aside0.mk (blk_below (bkk BK273.out) hb)
    have n3_ := Aside0.mk (blk_below (bkk BK274.out) hb)
    have n4_ := Aside0.mk (blk_below (bkk BK275.out) hb)
    have n5_ := Aside0.mk (below_step bel hb)
    clear HO281
    clear BK273
    clear BK274
    clear BK275
    clear HB
    have HO281 := n0_
    have HO286 := n1_
    have BK273 := n2_
    have BK274 := n3_
    have BK275 := n4_
    have HB := n5_
    clear n0_ n1_ n2_ n3_ n4_ n5_
    (try clear hb)
    (try clear hb2)
    (try clear hk)
    (try clear hi)
    (try clear ho0)
    obtain ⟨Ao32, co32, eo32⟩ := Kd.R_slice HO281.out
    (first | subst eo32 | (injection eo32 with f1_ f2_ f3_; have f4_ := f1_.symm; have f5_ := f3_.symm; clear f1_ f2_ f3_; subst f4_; subst f5_))
    obtain ⟨Ao33, co33, eo33⟩ := Kd.R_slice HO286.out
    (first | subst eo33 | (injection eo33 with f1_ f2_ f3_; have f4_ := f1_.symm; have f5_ := f3_.symm; clear f1_ f2_ f3_; subst f4_; subst f5_))
    refine hK.out _ _ ⟨(blk_cell BK273.out 0).trans rfl, (blk_cell BK273.out 1).trans rfl, (blk_cell BK274.out 0).trans rfl, (blk_cell BK274.out 1).trans rfl⟩ (fun hHeld => ?_)
    clear hK K
    refine norm_ (by show Act.put _ (some 18) _ = _; simp only [s0_, s1_, s2_, s3_, s4_, s5_]; rfl) ?_
    refine one_ (i := 4) (N := some 19) (tk_ 10 31) rfl rfl (one_of HT_.out (by kernel_rfl)) (by decide) (fun K hK => ?_)
    refine goes_ Tryd.func41 (by kernel_rfl) rfl #[.agg #[.bool t278, .slice Ao32 t279.length co32, .int .i64 t282], .agg #[.bool t283, .slice Ao33 t284.length co33, .int .i64 t287]] (by rfl) rfl rfl gl_ ?_
    with_reducible refine (erasureref01_sum.calls kj2 t278 _ _ t279 t282 t283 _ _ t284 t287 t288 t289 t292 _ ?side1 ?side2 ?side3 ?side4 A27.out).mono ?_
    (case side1 => repeat (first | exact (Kd.R_reads' HO281.out).2.2 | (with_reducible refine Kd.C_alloc ?_ _) | (with_reducible refine Kd.C_drewN ?_ _) | (with_reducible refine Kd.C_drew ?_)))
    (case side2 => exact (Kd.R_reads' HO281.out).2.1)
    (case side3 => repeat (first | exact (Kd.R_reads' HO286.out).2.2 | (with_reducible refine Kd.C_alloc ?_ _) | (with_reducible refine Kd.C_drewN ?_ _) | (with_reducible refine Kd.C_drew ?_)))
    (case side4 => exact (Kd.R_reads' HO286.out).2.1)
    rintro e w34 ⟨v290, rfl, ho0, hb⟩
    refine ⟨_, rfl, ?_⟩
    have n0_ := Aside0.mk (Kd.R_elder' (rkk HO281.out) (Kd.R_base ho0) hb)
    have n1_ := Aside0.mk (Kd.R_elder' (rkk HO286.out) (Kd.R_base ho0) hb)
    have n2_ := Aside0.mk (Kd.R_lower (Kd.R_new' (Kd.R_new' ho0 (Kd.R_lt (rkk HO281.out))) (Kd.R_lt (rkk HO286.out))) (below_size bel))
    have n3_ := Aside0.mk (blk_below (bkk BK273.out) hb)
    have n4_ := Aside0.mk (blk_below (bkk BK274.out) hb)
    have n5_ := Aside0.mk (blk_below (bkk BK275.out) hb)
    have n6_ := Aside0.mk (below_step bel hb)
    clear HO281
    clear HO286
    clear BK273
    clear BK274
    clear BK275
    clear HB
    have HO281 := n0_
    have HO286 := n1_
    have HO291 := n2_
    have BK273 := n3_
    have BK274 := n4_
    have BK275 := n5_
    have HB := n6_
    clear n0_ n1_ n2_ n3_ n4_ n5_ n6_
    (try clear hb)
    (try clear hb2)
    (try clear hk)
    (try clear hi)
    (try clear ho0)
    obtain ⟨Ao35, co35, eo35⟩ := Kd.R_slice HO291.out
    (first | subst eo35 | (injection eo35 with f1_ f2_ f3_; have f4_ := f1_.symm; have f5_ := f3_.symm; clear f1_ f2_ f3_; subst f4_; subst f5_))
    refine hK.out _ _ ⟨(blk_cell BK273.out 0).trans rfl, (blk_cell BK273.out 1).trans rfl, (blk_cell BK274.out 0).trans rfl, (blk_cell BK274.out 1).trans rfl⟩ (fun hHeld => ?_)
    clear hK K
    refine norm_ (by show Act.put _ (some 19) _ = _; simp only [s0_, s1_, s2_, s3_, s4_, s5_]; rfl) ?_
    refine one_ (i := 5) (N := some 20) (tk_ 10 63) rfl rfl (one_of HT_.out (by kernel_rfl)) (by decide) (fun K hK => ?_)
    refine goes_ Tryd.func38 (by kernel_rfl) rfl #[.agg #[.bool t288, .slice Ao35 t289.length co35, .int .i64 t292]] (by rfl) rfl rfl gl_ ?_
    with_reducible refine (erasureref01_told.calls kj2 t288 _ _ t289 t292 t293 t294 t295 _ ?side1 ?side2 A28.out).mono ?_
    (case side1 => repeat (first | exact (Kd.R_reads' HO291.out).2.2 | (with_reducible refine Kd.C_alloc ?_ _) | (with_reducible refine Kd.C_drewN ?_ _) | (with_reducible refine Kd.C_drew ?_)))
    (case side2 => exact (Kd.R_reads' HO291.out).2.1)
    rintro e w36 ⟨rfl, hb⟩
    refine ⟨_, rfl, ?_⟩
    have n0_ := Aside0.mk (Kd.R_below (rkk HO281.out) hb)
    have n1_ := Aside0.mk (Kd.R_below (rkk HO286.out) hb)
    have n2_ := Aside0.mk (Kd.R_below (rkk HO291.out) hb)
    have n3_ := Aside0.mk (blk_below (bkk BK273.out) hb)
    have n4_ := Aside0.mk (blk_below (bkk BK274.out) hb)
    have n5_ := Aside0.mk (blk_below (bkk BK275.out) hb)
    have n6_ := Aside0.mk (below_step bel hb)
    clear HO281
    clear HO286
    clear HO291
    clear BK273
    clear BK274
    clear BK275
    clear HB
    have HO281 := n0_
    have HO286 := n1_
    have HO291 := n2_
    have BK273 := n3_
    have BK274 := n4_
    have BK275 := n5_
    have HB := n6_
    clear n0_ n1_ n2_ n3_ n4_ n5_ n6_
    (try clear hb)
    (try clear hb2)
    (try clear hk)
    (try clear hi)
    refine hK.out _ _ ⟨(blk_cell BK273.out 0).trans rfl, (blk_cell BK273.out 1).trans rfl, (blk_cell BK274.out 0).trans rfl, (blk_cell BK274.out 1).trans rfl⟩ (fun hHeld => ?_)
    clear hK K
    refine norm_ (by show Act.put _ (some 20) _ = _; simp only [s0_, s1_, s2_, s3_, s4_, s5_]; rfl) ?_
    refine pu_ 6 21 (tk_ 10 127) HT_.out rfl rfl (by kernel_rfl) (fun _ _ _ h => h) (by rfl) (fun w' => by go_simp; with_reducible rfl) (by simp only [s0_, s1_, s2_, s3_, s4_, s5_]; rfl) ?_
    refine pu_ 7 22 (tk_ 10 255) HT_.out rfl rfl (by kernel_rfl) (fun _ _ _ h => h) (by rfl) (fun w' => by go_simp; with_reducible rfl) (by simp only [s0_, s1_, s2_, s3_, s4_, s5_]; rfl) ?_
    refine one_ (i := 8) (N := none) (tk_ 10 511) rfl rfl (one_of HT_.out (by kernel_rfl)) (by decide) (fun K hK => ?_)
    have hs37 : w36.cell? ⟨gb275, 0, none⟩ = some (.int .i64 0) := (blk_cell BK275.out 0).trans rfl
    have hfs37 := blk_frozen BK275.out 0
    have hns37_0 := NB273_275.out
    have hns37_1 := NB274_275.out
    have hms37_0 := NB275_273.out
    have hms37_1 := NB275_274.out
    have hs38 : w36.cell? ⟨gb275, 1, none⟩ = some (.int .i64 0) := (blk_cell BK275.out 1).trans rfl
    have hfs38 := blk_frozen BK275.out 1
    have hns38_0 := NB273_275.out
    have hns38_1 := NB274_275.out
    have hms38_0 := NB275_273.out
    have hms38_1 := NB275_274.out
    refine skip_ (w1 := ?_) (by rfl) rfl ?_ ?_
    rotate_left
    ·go_simp
     rfl
    refine hK.out _ _ ⟨((cell_far (p := ⟨gb275, _, none⟩) NB273_275.out _).trans (((cell_far (p := ⟨gb275, _, none⟩) NB273_275.out _).trans (hHeld.1)))), ((cell_far (p := ⟨gb275, _, none⟩) NB273_275.out _).trans (((cell_far (p := ⟨gb275, _, none⟩) NB273_275.out _).trans (hHeld.2.1)))), ((cell_far (p := ⟨gb275, _, none⟩) NB274_275.out _).trans (((cell_far (p := ⟨gb275, _, none⟩) NB274_275.out _).trans (hHeld.2.2.1)))), ((cell_far (p := ⟨gb275, _, none⟩) NB274_275.out _).trans (((cell_far (p := ⟨gb275, _, none⟩) NB274_275.out _).trans (hHeld.2.2.2))))⟩ (fun hHeld => ?_)
    clear hK K
    refine pu_ 9 5 (tk_ 10 1023) HT_.out rfl rfl (by kernel_rfl) (fun _ _ _ h => h) (by rfl) (fun w' => by go_simp; with_reducible rfl) (by simp only [s0_, s1_, s2_, s3_, s4_, s5_]; rfl) ?_
    refine done_ (done_of HT_.out (by kernel_rfl)) ?_
    try go_wp2
    refine bodyPost_ret (results_ct rfl _ _ gb275 23 #[.int .i64 t293, .int .i64 t294] (0, 0) _ rfl (by (with_reducible repeat (first | refine blk_drewN ?_ _ | refine blk_drew ?_ | refine blk_alloc ?_ _)); refine blk_put (cs := #[.int .i64 t293, .int .i64 0]) ?_ 1 _ rfl; (with_reducible repeat (first | refine blk_drewN ?_ _ | refine blk_drew ?_ | refine blk_alloc ?_ _)); refine blk_put (cs := #[.int .i64 0, .int .i64 0]) ?_ 0 _ rfl; (with_reducible repeat (first | refine blk_drewN ?_ _ | refine blk_drew ?_ | refine blk_alloc ?_ _)); exact BK275.out) Tryd.underlying23 rfl (by kernel_rfl)) rfl ?_
    exact ⟨by first | rfl | (simp [errW_none, errW_some] <;> rfl) | (simp [*, errW_none, errW_some] <;> rfl), bel⟩
end Go.Proofs.YtdkckjiccpdkbaaDoor.G
