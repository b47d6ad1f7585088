-- written by my own driver of the kit's print (wip/tools/myprint.py); Lean checks it.
import Derived.Test.YtdkckjiccpdkbaaDoorG0
import Derived.Test.YtdkckjiccpdkbaaDoorG2
import Derived.Test.YtdkckjiccpdkbaaDoorE2
import Derived.Test.YtdkckjiccpdkbaaDoorE4
namespace Go.Proofs.YtdkckjiccpdkbaaDoor.G
open Go.RowKit Go.Proofs.YtdkckjiccpdkbaaDoorW.PrintWords Go.Proofs.YtdkckjiccpdkbaaDoorW.PrintLast Go.Proofs.YtdkckjiccpdkbaaDoorW.PrintMore Go.Proofs.YtdkckjiccpdkbaaDoor.H Go.Proofs.YtdkckjiccpdkbaaDoor.A Go.Proofs.YtdkckjiccpdkbaaDoor.B Go.Proofs.YtdkckjiccpdkbaaDoor.E
attribute [local go_sem] max2_int min2_int max_two min_two max_three min_three max_four min_four   -- for this text's walks alone
set_option linter.unusedVariables false
set_option linter.unusedSimpArgs false
mutual
def erasureref01_Mul.j0 : Nat → Bool → Int → Int → Int → Int → Option (Int × Int × Int)
 | 0, _, _, _, _, _ => none
 | k + 1, x20, x297000, x297001, x298000, x298001 => if x20 = true then (some (0, 0, 1)) else ((erasureref01_of.f k x297000 x297001).bind fun bt301 => ((erasureref01_of.f k x298000 x298001).bind fun bt307 => (if 0 ≤ (wrap64 ((wrap64 ((bt301.2.1.length : Int) + (bt307.2.1.length : Int))) + 1)) then (if (wrap64 ((wrap64 ((bt301.2.1.length : Int) + (bt307.2.1.length : Int))) + 1) : Int).toNat ≤ 35184372088832 then (erasureref01_Mul.l0 k (List.replicate (wrap64 ((wrap64 ((bt301.2.1.length : Int) + (bt307.2.1.length : Int))) + 1) : Int).toNat 0) 0 bt301.1 bt301.2.1 bt301.2.2 bt307.1 bt307.2.1 bt307.2.2 (bt301.1 != bt307.1) (wrap64 (bt301.2.2 + bt307.2.2))) else (none)) else (none))))
def erasureref01_Mul.l0 : Nat → List Int → Int → Bool → List Int → Int → Bool → List Int → Int → Bool → Int → Option (Int × Int × Int)
 | 0, _, _, _, _, _, _, _, _, _, _ => none
 | k + 1, x9, x10, x307000, x307001, x307002, x313000, x313001, x313002, x314000, x314002 => if x10 < (x307001.length : Int) then (erasureref01_Mul.l1 k x9 x10 0 x307000 x307001 x307002 x313000 x313001 x313002 x314000 x314002) else (erasureref01_Mul.l2 k x9 0 x314000 x314002)
def erasureref01_Mul.l1 : Nat → List Int → Int → Int → Bool → List Int → Int → Bool → List Int → Int → Bool → Int → Option (Int × Int × Int)
 | 0, _, _, _, _, _, _, _, _, _, _, _ => none
 | k + 1, x9, x10, x11, x307000, x307001, x307002, x313000, x313001, x313002, x314000, x314002 => if x11 < (x313001.length : Int) then (if 0 ≤ (wrap64 (x10 + x11)) then (if (wrap64 (x10 + x11)) < (x9.length : Int) then (if 0 ≤ x10 then (if x10 < (x307001.length : Int) then (if 0 ≤ x11 then (erasureref01_Mul.l1 k (x9.set ((wrap64 (x10 + x11)) : Int).toNat (wrap64 ((rd x9 (wrap64 (x10 + x11))) + (wrap64 ((rd x307001 x10) * (rd x313001 x11)))))) x10 (wrap64 (x11 + 1)) x307000 x307001 x307002 x313000 x313001 x313002 x314000 x314002) else (none)) else (none)) else (none)) else (none)) else (none)) else (erasureref01_Mul.l0 k x9 (wrap64 (x10 + 1)) x307000 x307001 x307002 x313000 x313001 x313002 x314000 x314002)
def erasureref01_Mul.l2 : Nat → List Int → Int → Bool → Int → Option (Int × Int × Int)
 | 0, _, _, _, _ => none
 | k + 1, x9, x12, x314000, x314002 => if (wrap64 (x12 + 1)) < (x9.length : Int) then (if 0 ≤ (wrap64 (x12 + 1)) then (if 0 ≤ x12 then (if x12 < (x9.length : Int) then ((some (x9.set ((wrap64 (x12 + 1)) : Int).toNat (wrap64 ((rd x9 (wrap64 (x12 + 1))) + (wrap64 (Int.tdiv (rd x9 x12) 10)))) : List Int)).bind fun y323 => (erasureref01_Mul.l2 k (y323.set (x12 : Int).toNat (Int.tmod (rd y323 x12) 10)) (wrap64 (x12 + 1)) x314000 x314002)) else (none)) else (none)) else (none)) else ((erasureref01_told.f k x314000 x9 x314002).bind fun bt326 => (some (bt326.1, bt326.2.1, bt326.2.2)))
end
def erasureref01_Mul.f (k : Nat) (a0_0 : Int) (a0_1 : Int) (a1_0 : Int) (a1_1 : Int) : Option (Int × Int × Int) := (erasureref01_Right.f a0_0 a0_1).bind fun t299 => (if t299 = true then ((erasureref01_Right.f a1_0 a1_1).bind fun t300 => (erasureref01_Mul.j0 k (!t300) a0_0 a0_1 a1_0 a1_1)) else (erasureref01_Mul.j0 k true a0_0 a0_1 a1_0 a1_1))
theorem erasureref01_Mul.mono_l : ∀ k, (∀ y0 y1 y2 y3 y4, LeO (erasureref01_Mul.j0 k y0 y1 y2 y3 y4) (erasureref01_Mul.j0 (k + 1) y0 y1 y2 y3 y4)) ∧ (∀ y0 y1 y2 y3 y4 y5 y6 y7 y8 y9, LeO (erasureref01_Mul.l0 k y0 y1 y2 y3 y4 y5 y6 y7 y8 y9) (erasureref01_Mul.l0 (k + 1) y0 y1 y2 y3 y4 y5 y6 y7 y8 y9)) ∧ (∀ y0 y1 y2 y3 y4 y5 y6 y7 y8 y9 y10, LeO (erasureref01_Mul.l1 k y0 y1 y2 y3 y4 y5 y6 y7 y8 y9 y10) (erasureref01_Mul.l1 (k + 1) y0 y1 y2 y3 y4 y5 y6 y7 y8 y9 y10)) ∧ (∀ y0 y1 y2 y3, LeO (erasureref01_Mul.l2 k y0 y1 y2 y3) (erasureref01_Mul.l2 (k + 1) y0 y1 y2 y3))
 | 0 => ⟨fun _ _ _ _ _ r h => by simp [erasureref01_Mul.j0] at h, fun _ _ _ _ _ _ _ _ _ _ r h => by simp [erasureref01_Mul.l0] at h, fun _ _ _ _ _ _ _ _ _ _ _ r h => by simp [erasureref01_Mul.l1] at h, fun _ _ _ _ r h => by simp [erasureref01_Mul.l2] at h⟩
 | k + 1 => by
  obtain ⟨ih0, ih1, ih2, ih3⟩ := erasureref01_Mul.mono_l k
  refine ⟨?_, ?_, ?_, ?_⟩
  ·intro y0 y1 y2 y3 y4
   unfold erasureref01_Mul.j0
   repeat' first
   | (with_reducible exact ih0 _ _ _ _ _)
   | (with_reducible exact ih1 _ _ _ _ _ _ _ _ _ _)
   | (with_reducible exact ih2 _ _ _ _ _ _ _ _ _ _ _)
   | (with_reducible exact ih3 _ _ _ _)
   | (with_reducible exact erasureref01_of.mono _ _ _)
   | (with_reducible exact erasureref01_told.mono _ _ _ _)
   | (with_reducible exact LeO.refl _)
   | (with_reducible exact LeO.none _)
   | (with_reducible refine LeO.ite ?_ ?_)
   | (with_reducible refine LeO.bind ?_ (fun _ => ?_))
   | exact ih0 _ _ _ _ _
   | exact ih1 _ _ _ _ _ _ _ _ _ _
   | exact ih2 _ _ _ _ _ _ _ _ _ _ _
   | exact ih3 _ _ _ _
   | exact erasureref01_of.mono _ _ _
   | exact erasureref01_told.mono _ _ _ _
   | exact LeO.none _
   | refine LeO.ite ?_ ?_
   | refine LeO.bind ?_ (fun _ => ?_)
  ·intro y0 y1 y2 y3 y4 y5 y6 y7 y8 y9
   unfold erasureref01_Mul.l0
   repeat' first
   | (with_reducible exact ih0 _ _ _ _ _)
   | (with_reducible exact ih1 _ _ _ _ _ _ _ _ _ _)
   | (with_reducible exact ih2 _ _ _ _ _ _ _ _ _ _ _)
   | (with_reducible exact ih3 _ _ _ _)
   | (with_reducible exact erasureref01_of.mono _ _ _)
   | (with_reducible exact erasureref01_told.mono _ _ _ _)
   | (with_reducible exact LeO.refl _)
   | (with_reducible exact LeO.none _)
   | (with_reducible refine LeO.ite ?_ ?_)
   | (with_reducible refine LeO.bind ?_ (fun _ => ?_))
   | exact ih0 _ _ _ _ _
   | exact ih1 _ _ _ _ _ _ _ _ _ _
   | exact ih2 _ _ _ _ _ _ _ _ _ _ _
   | exact ih3 _ _ _ _
   | exact erasureref01_of.mono _ _ _
   | exact erasureref01_told.mono _ _ _ _
   | exact LeO.none _
   | refine LeO.ite ?_ ?_
   | refine LeO.bind ?_ (fun _ => ?_)
  ·intro y0 y1 y2 y3 y4 y5 y6 y7 y8 y9 y10
   unfold erasureref01_Mul.l1
   repeat' first
   | (with_reducible exact ih0 _ _ _ _ _)
   | (with_reducible exact ih1 _ _ _ _ _ _ _ _ _ _)
   | (with_reducible exact ih2 _ _ _ _ _ _ _ _ _ _ _)
   | (with_reducible exact ih3 _ _ _ _)
   | (with_reducible exact erasureref01_of.mono _ _ _)
   | (with_reducible exact erasureref01_told.mono _ _ _ _)
   | (with_reducible exact LeO.refl _)
   | (with_reducible exact LeO.none _)
   | (with_reducible refine LeO.ite ?_ ?_)
   | (with_reducible refine LeO.bind ?_ (fun _ => ?_))
   | exact ih0 _ _ _ _ _
   | exact ih1 _ _ _ _ _ _ _ _ _ _
   | exact ih2 _ _ _ _ _ _ _ _ _ _ _
   | exact ih3 _ _ _ _
   | exact erasureref01_of.mono _ _ _
   | exact erasureref01_told.mono _ _ _ _
   | exact LeO.none _
   | refine LeO.ite ?_ ?_
   | refine LeO.bind ?_ (fun _ => ?_)
  ·intro y0 y1 y2 y3
   unfold erasureref01_Mul.l2
   repeat' first
   | (with_reducible exact ih0 _ _ _ _ _)
   | (with_reducible exact ih1 _ _ _ _ _ _ _ _ _ _)
   | (with_reducible exact ih2 _ _ _ _ _ _ _ _ _ _ _)
   | (with_reducible exact ih3 _ _ _ _)
   | (with_reducible exact erasureref01_of.mono _ _ _)
   | (with_reducible exact erasureref01_told.mono _ _ _ _)
   | (with_reducible exact LeO.refl _)
   | (with_reducible exact LeO.none _)
   | (with_reducible refine LeO.ite ?_ ?_)
   | (with_reducible refine LeO.bind ?_ (fun _ => ?_))
   | exact ih0 _ _ _ _ _
   | exact ih1 _ _ _ _ _ _ _ _ _ _
   | exact ih2 _ _ _ _ _ _ _ _ _ _ _
   | exact ih3 _ _ _ _
   | exact erasureref01_of.mono _ _ _
   | exact erasureref01_told.mono _ _ _ _
   | exact LeO.none _
   | refine LeO.ite ?_ ?_
   | refine LeO.bind ?_ (fun _ => ?_)
theorem erasureref01_Mul.mono : ∀ a0 a1 a2 a3 k, LeO (erasureref01_Mul.f k a0 a1 a2 a3) (erasureref01_Mul.f (k + 1) a0 a1 a2 a3) := by
 intro a0 a1 a2 a3 k
 obtain ⟨ih0, ih1, ih2, ih3⟩ := erasureref01_Mul.mono_l k
 unfold erasureref01_Mul.f
 repeat' first
   | (with_reducible exact ih0 _ _ _ _ _)
   | (with_reducible exact ih1 _ _ _ _ _ _ _ _ _ _)
   | (with_reducible exact ih2 _ _ _ _ _ _ _ _ _ _ _)
   | (with_reducible exact ih3 _ _ _ _)
   | (with_reducible exact erasureref01_of.mono _ _ _)
   | (with_reducible exact erasureref01_told.mono _ _ _ _)
   | (with_reducible exact LeO.refl _)
   | (with_reducible exact LeO.none _)
   | (with_reducible refine LeO.ite ?_ ?_)
   | (with_reducible refine LeO.bind ?_ (fun _ => ?_))
   | exact ih0 _ _ _ _ _
   | exact ih1 _ _ _ _ _ _ _ _ _ _
   | exact ih2 _ _ _ _ _ _ _ _ _ _ _
   | exact ih3 _ _ _ _
   | exact erasureref01_of.mono _ _ _
   | exact erasureref01_told.mono _ _ _ _
   | exact LeO.none _
   | refine LeO.ite ?_ ?_
   | refine LeO.bind ?_ (fun _ => ?_)
def erasureref01_Mul.T13 : Bool × List (List Nat × List Nat) := (true, [([], []), ([], []), ([], []), ([1, 2], [1, 2]), ([], []), ([], []), ([], []), ([5, 6], [5, 6]), ([4, 7], [4, 7]), ([8], [8]), ([], []), ([10], [10]), ([], []), ([11, 12], [11, 12]), ([13], [13]), ([], []), ([15], [15]), ([], []), ([16, 17], [16, 17]), ([18], [18]), ([14, 19], [14, 19]), ([9, 20], [9, 20]), ([0, 3, 0, 1, 2, 3, 4, 5, 6, 7, 8, 9, 10, 11, 12, 13, 14, 15, 16, 17, 18, 19, 20, 21], [0, 3]), ([22, 21, 0, 1, 2, 3, 4, 5, 6, 7, 8, 9, 10, 11, 12, 13, 14, 15, 16, 17, 18, 19, 20, 21], [21, 22])])
def erasureref01_Mul.B13 : List Nat := [0, 0, 0, 6, 0, 0, 0, 96, 240, 496, 0, 1024, 0, 7168, 15360, 0, 32768, 0, 229376, 491520, 1047552, 2097136, 4194303, 8388607]
theorem erasureref01_Mul.tab13 : rtab .any (opsOf Tryd.f21 13) = erasureref01_Mul.T13 := by kernel_rfl
theorem erasureref01_Mul.bits13 : waitsOk erasureref01_Mul.T13.2 erasureref01_Mul.B13 = true := by kernel_rfl
def erasureref01_Mul.T17 : Bool × List (List Nat × List Nat) := (true, [([], []), ([], []), ([1], [1]), ([], []), ([], []), ([4], [4]), ([3, 5], [3, 5]), ([6], [6]), ([], []), ([], []), ([8, 9], [8, 9]), ([10], [10]), ([11], [11]), ([7, 12], [7, 12]), ([0, 2, 0, 1, 2, 3, 4, 5, 6, 7, 8, 9, 10, 11, 12, 13], [0, 2]), ([14, 13, 0, 1, 2, 3, 4, 5, 6, 7, 8, 9, 10, 11, 12, 13], [13, 14])])
def erasureref01_Mul.B17 : List Nat := [0, 0, 2, 0, 0, 16, 56, 120, 0, 0, 768, 1792, 3840, 8184, 16383, 32767]
theorem erasureref01_Mul.tab17 : rtab .any (opsOf Tryd.f21 17) = erasureref01_Mul.T17 := by kernel_rfl
theorem erasureref01_Mul.bits17 : waitsOk erasureref01_Mul.T17.2 erasureref01_Mul.B17 = true := by kernel_rfl
set_option maxHeartbeats 8000000 in
set_option maxRecDepth 100000 in
theorem erasureref01_Mul.calls (k : Nat) (a0_0 : Int) (a0_1 : Int) (a1_0 : Int) (a1_1 : Int) (r1 : Int) (r2 : Int) (r3 : Int) (w : World) (h : erasureref01_Mul.f k a0_0 a0_1 a1_0 a1_1 = some (r1, r2, r3)) :
  Calls Tryd.prog 21 #[.agg #[.int .i64 a0_0, .int .i64 a0_1], .agg #[.int .i64 a1_0, .int .i64 a1_1]] w fun e w' => e = .returned (.tuple #[.agg #[.int .i64 r1, .int .i64 r2], .int .i64 r3]) ∧ Below w.heap.size w w' := by
 have hu23 := Tryd.underlying23
 have hu61 := Tryd.underlying61
 have HB := Aside0.mk (Below.refl w.heap.size w)
 have H : ((erasureref01_Right.f a0_0 a0_1).bind fun t299 => (if t299 = true then ((erasureref01_Right.f a1_0 a1_1).bind fun t300 => (erasureref01_Mul.j0 k (!t300) a0_0 a0_1 a1_0 a1_1)) else (erasureref01_Mul.j0 k true a0_0 a0_1 a1_0 a1_1))) = some (r1, r2, r3) := h
 clear h
 have HC3 := Aside0.mk H
 clear H
 go_enter Tryd.func21, Tryd.ntmps21
 go_upto_region 1 with (first | ((with_reducible refine gate_dst (N := 2) rfl ?_); refine box_event ?hg (N := 2) ?hd (cs := #[.int .i64 a0_0, .int .i64 a0_1]) (t := 23) ?hr ?_; (case hd => rfl); (case hg => rfl); (case hr => first | (go_simp; done) | (go_simp; rfl)); intro gb296 hg w4 hbox hb; have n0_ := Aside0.mk (below_step bel hb); have n1_ := Aside0.mk (hbox); have n2_ := Aside0.mk ((by rw [hg]; exact (below_size bel) : w.heap.size ≤ gb296)); have n3_ := Aside0.mk ((by rw [hg]; exact (below_size bel) : w.heap.size ≤ gb296)); clear HB; have HB := n0_; have BK296 := n1_; have GW296 := n2_; have GE296 := n3_; clear n0_ n1_ n2_ n3_; clear hb hbox hg) | ((with_reducible refine gate_dst (N := 3) rfl ?_); refine box_event ?hg (N := 3) ?hd (cs := #[.int .i64 a1_0, .int .i64 a1_1]) (t := 23) ?hr ?_; (case hd => rfl); (case hg => rfl); (case hr => first | (go_simp; done) | (go_simp; rfl)); intro gb297 hg w5 hbox hb; have n0_ := Aside0.mk (blk_below (bkk BK296.out) hb); have n1_ := Aside0.mk (below_step bel hb); have n2_ := Aside0.mk (hbox); have n3_ := Aside0.mk ((by rw [hg]; exact (below_size bel) : w.heap.size ≤ gb297)); have n4_ := Aside0.mk ((by rw [hg]; exact (below_size bel) : w.heap.size ≤ gb297)); have n5_ := Aside0.mk ((by rw [hg]; exact Nat.ne_of_lt (blk_lt (g := gb296) (o := .cells #[.int .i64 a0_0, .int .i64 a0_1] 23 (0, 0)) (bkk BK296.out)) : gb296 ≠ gb297)); have n6_ := Aside0.mk ((by rw [hg]; exact Nat.ne_of_gt (blk_lt (g := gb296) (o := .cells #[.int .i64 a0_0, .int .i64 a0_1] 23 (0, 0)) (bkk BK296.out)) : gb297 ≠ gb296)); clear BK296; clear HB; have BK296 := n0_; have HB := n1_; have BK297 := n2_; have GW297 := n3_; have GE297 := n4_; have NB296_297 := n5_; have NB297_296 := n6_; clear n0_ n1_ n2_ n3_ n4_ n5_ n6_; clear hb hbox hg) | ((with_reducible refine gate_dst (N := 4) rfl ?_); refine box_event ?hg (N := 4) ?hd (cs := #[.int .i64 0, .int .i64 0]) (t := 23) ?hr ?_; (case hd => rfl); (case hg => rfl); (case hr => first | (go_simp; done) | (go_simp; rfl)); intro gb298 hg w6 hbox hb; have n0_ := Aside0.mk (blk_below (bkk BK296.out) hb); have n1_ := Aside0.mk (blk_below (bkk BK297.out) hb); have n2_ := Aside0.mk (below_step bel hb); have n3_ := Aside0.mk (hbox); have n4_ := Aside0.mk ((by rw [hg]; exact (below_size bel) : w.heap.size ≤ gb298)); have n5_ := Aside0.mk ((by rw [hg]; exact (below_size bel) : w.heap.size ≤ gb298)); have n6_ := Aside0.mk ((by rw [hg]; exact Nat.ne_of_lt (blk_lt (g := gb296) (o := .cells #[.int .i64 a0_0, .int .i64 a0_1] 23 (0, 0)) (bkk BK296.out)) : gb296 ≠ gb298)); have n7_ := Aside0.mk ((by rw [hg]; exact Nat.ne_of_gt (blk_lt (g := gb296) (o := .cells #[.int .i64 a0_0, .int .i64 a0_1] 23 (0, 0)) (bkk BK296.out)) : gb298 ≠ gb296)); have n8_ := Aside0.mk ((by rw [hg]; exact Nat.ne_of_lt (blk_lt (g := gb297) (o := .cells #[.int .i64 a1_0, .int .i64 a1_1] 23 (0, 0)) (bkk BK297.out)) : gb297 ≠ gb298)); have n9_ := Aside0.mk ((by rw [hg]; exact Nat.ne_of_gt (blk_lt (g := gb297) (o := .cells #[.int .i64 a1_0, .int .i64 a1_1] 23 (0, 0)) (bkk BK297.out)) : gb298 ≠ gb297)); clear BK296; clear BK297; clear HB; have BK296 := n0_; have BK297 := n1_; have HB := n2_; have BK298 := n3_; have GW298 := n4_; have GE298 := n5_; have NB296_298 := n6_; have NB298_296 := n7_; have NB297_298 := n8_; have NB298_297 := n9_; clear n0_ n1_ n2_ n3_ n4_ n5_ n6_ n7_ n8_ n9_; clear hb hbox hg))
 (try simp only [Act.put, List.setIfInBounds_toArray, List.set_cons_zero, List.set_cons_succ])
 go_cut [20] (fun v20 wc => ∃ (kq : Nat) (x20_2 : Bool), v20 = .bool x20_2 ∧ Aside0 (erasureref01_Mul.j0 kq x20_2 a0_0 a0_1 a1_0 a1_1 = some (r1, r2, r3)) ∧ Aside0 (kq ≤ k) ∧ Aside0 (wc.heap[gb296]? = some (.cells #[.int .i64 a0_0, .int .i64 a0_1] 23 (0, 0))) ∧ Aside0 (wc.heap[gb297]? = some (.cells #[.int .i64 a1_0, .int .i64 a1_1] 23 (0, 0))) ∧ Aside0 (wc.heap[gb298]? = some (.cells #[.int .i64 0, .int .i64 0] 23 (0, 0))) ∧ Aside0 (Below w.heap.size w wc))
 case first =>
  have H := HC3.out
  clear HC3
  replace H := Option.bind_eq_some_iff.mp H
  obtain ⟨t299, A70, H⟩ := H
  replace H : (if t299 = true then ((erasureref01_Right.f a1_0 a1_1).bind fun t300 => (erasureref01_Mul.j0 k (!t300) a0_0 a0_1 a1_0 a1_1)) else (erasureref01_Mul.j0 k true a0_0 a0_1 a1_0 a1_1)) = some (r1, r2, r3) := H
  have A7 := Aside0.mk A70
  clear A70
  by_cases c8 : t299 = true
  ·subst c8
   have H1 : ((erasureref01_Right.f a1_0 a1_1).bind fun t300 => (erasureref01_Mul.j0 k (!t300) a0_0 a0_1 a1_0 a1_1)) = some (r1, r2, r3) := by rw [if_pos rfl] at H; exact H
   clear H
   have H := H1
   clear H1
   replace H := Option.bind_eq_some_iff.mp H
   obtain ⟨t300, A90, H⟩ := H
   replace H : (erasureref01_Mul.j0 k (!t300) a0_0 a0_1 a1_0 a1_1) = some (r1, r2, r3) := H
   have A9 := Aside0.mk A90
   clear A90
   have H' := Aside0.mk H
   clear H
   have hnb10 := NB296_297.out
   have hnc10 := NB297_296.out
   have hnb11 := NB296_298.out
   have hnc11 := NB298_296.out
   have hcz12_0 : w6.cell? ⟨gb296, 0, none⟩ = some (.int .i64 a0_0) := (blk_cell BK296.out 0).trans rfl
   have hcz12_1 : w6.cell? ⟨gb296, 1, none⟩ = some (.int .i64 a0_1) := (blk_cell BK296.out 1).trans rfl
   have hfz12_0 := blk_frozen BK296.out 0
   have hfz12_1 := blk_frozen BK296.out 1
   go_wp2_with (first | ((with_reducible refine gate_callee (f := 25) rfl ?_); refine goesL_ (some 14) rfl rfl Tryd.func25 (by kernel_rfl) rfl #[.agg #[.int .i64 a0_0, .int .i64 a0_1]] rfl gl_ ?_; (with_reducible refine (erasureref01_Right.calls a0_0 a0_1 true _ A7.out).mono ?_); rintro e w13 ⟨rfl, hb⟩; refine ⟨_, rfl, ?_⟩; have n0_ := Aside0.mk (blk_below (bkk BK296.out) hb); have n1_ := Aside0.mk (blk_below (bkk BK297.out) hb); have n2_ := Aside0.mk (blk_below (bkk BK298.out) hb); have n3_ := Aside0.mk (below_step bel hb); clear BK296; clear BK297; clear BK298; clear HB; have BK296 := n0_; have BK297 := n1_; have BK298 := n2_; have HB := n3_; clear n0_ n1_ n2_ n3_; (try clear hb); (try clear hb2); (try clear hk); (try clear hi); have hnb14 := NB297_298.out; have hnc14 := NB298_297.out; have hcz15_0 : w13.cell? ⟨gb297, 0, none⟩ = some (.int .i64 a1_0) := (blk_cell BK297.out 0).trans rfl; have hcz15_1 : w13.cell? ⟨gb297, 1, none⟩ = some (.int .i64 a1_1) := (blk_cell BK297.out 1).trans rfl; have hfz15_0 := blk_frozen BK297.out 0; have hfz15_1 := blk_frozen BK297.out 1) | (go_at_call 25; (with_reducible refine (erasureref01_Right.calls a1_0 a1_1 t300 _ A9.out).mono ?_); rintro e w16 ⟨rfl, hb⟩; have n0_ := Aside0.mk (blk_below (bkk BK296.out) hb); have n1_ := Aside0.mk (blk_below (bkk BK297.out) hb); have n2_ := Aside0.mk (blk_below (bkk BK298.out) hb); have n3_ := Aside0.mk (below_step bel hb); clear BK296; clear BK297; clear BK298; clear HB; have BK296 := n0_; have BK297 := n1_; have BK298 := n2_; have HB := n3_; clear n0_ n1_ n2_ n3_; (try clear hb); (try clear hb2); (try clear hk); (try clear hi)))
   go_meet
   case rel => exact ⟨_, (!t300), ea_, H', ⟨by first | omega | exact Nat.le_refl _⟩, ⟨bkk BK296.out⟩, ⟨bkk BK297.out⟩, ⟨bkk BK298.out⟩, ⟨bel⟩⟩
  ·replace c8 := Bool.eq_false_iff.mpr c8
   subst c8
   have H1 : (erasureref01_Mul.j0 k true a0_0 a0_1 a1_0 a1_1) = some (r1, r2, r3) := by rw [if_neg (show ¬ (false = true) by decide)] at H; exact H
   clear H
   have H := H1
   clear H1
   have H' := Aside0.mk H
   clear H
   have hnb17 := NB296_297.out
   have hnc17 := NB297_296.out
   have hnb18 := NB296_298.out
   have hnc18 := NB298_296.out
   have hcz19_0 : w6.cell? ⟨gb296, 0, none⟩ = some (.int .i64 a0_0) := (blk_cell BK296.out 0).trans rfl
   have hcz19_1 : w6.cell? ⟨gb296, 1, none⟩ = some (.int .i64 a0_1) := (blk_cell BK296.out 1).trans rfl
   have hfz19_0 := blk_frozen BK296.out 0
   have hfz19_1 := blk_frozen BK296.out 1
   go_wp2_with (first | ((with_reducible refine gate_callee (f := 25) rfl ?_); refine goesL_ (some 14) rfl rfl Tryd.func25 (by kernel_rfl) rfl #[.agg #[.int .i64 a0_0, .int .i64 a0_1]] rfl gl_ ?_; (with_reducible refine (erasureref01_Right.calls a0_0 a0_1 false _ A7.out).mono ?_); rintro e w20 ⟨rfl, hb⟩; refine ⟨_, rfl, ?_⟩; have n0_ := Aside0.mk (blk_below (bkk BK296.out) hb); have n1_ := Aside0.mk (blk_below (bkk BK297.out) hb); have n2_ := Aside0.mk (blk_below (bkk BK298.out) hb); have n3_ := Aside0.mk (below_step bel hb); clear BK296; clear BK297; clear BK298; clear HB; have BK296 := n0_; have BK297 := n1_; have BK298 := n2_; have HB := n3_; clear n0_ n1_ n2_ n3_; (try clear hb); (try clear hb2); (try clear hk); (try clear hi)))
   go_meet
   case rel => exact ⟨_, (true), ea_, H', ⟨by first | omega | exact Nat.le_refl _⟩, ⟨bkk BK296.out⟩, ⟨bkk BK297.out⟩, ⟨bkk BK298.out⟩, ⟨bel⟩⟩
 case rest =>
  clear HC3
  try clear c1
  try clear c2
  try clear p2
  try clear c8
  try clear c10
  try clear c11
  try clear c14
  try clear c17
  try clear c18
  try clear hcz12_0
  try clear hcz12_1
  try clear hcz15_0
  try clear hcz15_1
  try clear hcz19_0
  try clear hcz19_1
  try clear hfz12_0
  try clear hfz12_1
  try clear hfz15_0
  try clear hfz15_1
  try clear hfz19_0
  try clear hfz19_1
  obtain ⟨kq, x20_2, rfl, HA, HJ2, BK296, BK297, BK298, HB⟩ := hcut
  cases kq with
  | zero => exact absurd HA.out (by simp [erasureref01_Mul.j0])
  | succ kj2 =>
   have H := HA.out
   clear HA
   simp only [erasureref01_Mul.j0] at H
   by_cases c21 : x20_2 = true
   ·subst c21
    have H1 : (some (0, 0, 1)) = some (r1, r2, r3) := by rw [if_pos rfl] at H; exact H
    clear H
    have H := H1
    clear H1
    simp only [Option.some.injEq, Prod.mk.injEq] at H
    obtain ⟨rfl, rfl, rfl⟩ := H
    have hnb22 := NB298_296.out
    have hnc22 := NB296_298.out
    have hnb23 := NB298_297.out
    have hnc23 := NB297_298.out
    have hcz24_0 : wc.cell? ⟨gb298, 0, none⟩ = some (.int .i64 0) := (blk_cell BK298.out 0).trans rfl
    have hcz24_1 : wc.cell? ⟨gb298, 1, none⟩ = some (.int .i64 0) := (blk_cell BK298.out 1).trans rfl
    have hfz24_0 := blk_frozen BK298.out 0
    have hfz24_1 := blk_frozen BK298.out 1
    go_wp2
    refine bodyPost_ret (results_ct rfl _ _ gb298 23 #[.int .i64 0, .int .i64 0] (0, 0) _ rfl (by (with_reducible repeat (first | refine blk_drewN ?_ _ | refine blk_drew ?_ | refine blk_alloc ?_ _)); refine blk_put (cs := #[.int .i64 0, .int .i64 0]) ?_ 1 _ rfl; (with_reducible repeat (first | refine blk_drewN ?_ _ | refine blk_drew ?_ | refine blk_alloc ?_ _)); refine blk_put (cs := #[.int .i64 0, .int .i64 0]) ?_ 0 _ rfl; (with_reducible repeat (first | refine blk_drewN ?_ _ | refine blk_drew ?_ | refine blk_alloc ?_ _)); exact BK298.out) Tryd.underlying23 rfl (by kernel_rfl)) rfl ?_
    exact ⟨by first | rfl | (simp [errW_none, errW_some] <;> rfl) | (simp [*, errW_none, errW_some] <;> rfl), bel⟩
   ·replace c21 := Bool.eq_false_iff.mpr c21
    subst c21
    have H1 : ((erasureref01_of.f kj2 a0_0 a0_1).bind fun bt301 => ((erasureref01_of.f kj2 a1_0 a1_1).bind fun bt307 => (if 0 ≤ (wrap64 ((wrap64 ((bt301.2.1.length : Int) + (bt307.2.1.length : Int))) + 1)) then (if (wrap64 ((wrap64 ((bt301.2.1.length : Int) + (bt307.2.1.length : Int))) + 1) : Int).toNat ≤ 35184372088832 then (erasureref01_Mul.l0 kj2 (List.replicate (wrap64 ((wrap64 ((bt301.2.1.length : Int) + (bt307.2.1.length : Int))) + 1) : Int).toNat 0) 0 bt301.1 bt301.2.1 bt301.2.2 bt307.1 bt307.2.1 bt307.2.2 (bt301.1 != bt307.1) (wrap64 (bt301.2.2 + bt307.2.2))) else (none)) else (none)))) = some (r1, r2, r3) := by rw [if_neg (show ¬ (false = true) by decide)] at H; exact H
    clear H
    have H := H1
    clear H1
    replace H := Option.bind_eq_some_iff.mp H
    obtain ⟨⟨t301, t302, t305⟩, A250, H⟩ := H
    replace H : ((erasureref01_of.f kj2 a1_0 a1_1).bind fun bt307 => (if 0 ≤ (wrap64 ((wrap64 ((t302.length : Int) + (bt307.2.1.length : Int))) + 1)) then (if (wrap64 ((wrap64 ((t302.length : Int) + (bt307.2.1.length : Int))) + 1) : Int).toNat ≤ 35184372088832 then (erasureref01_Mul.l0 kj2 (List.replicate (wrap64 ((wrap64 ((t302.length : Int) + (bt307.2.1.length : Int))) + 1) : Int).toNat 0) 0 t301 t302 t305 bt307.1 bt307.2.1 bt307.2.2 (t301 != bt307.1) (wrap64 (t305 + bt307.2.2))) else (none)) else (none))) = some (r1, r2, r3) := H
    have A25 := Aside0.mk A250
    clear A250
    replace H := Option.bind_eq_some_iff.mp H
    obtain ⟨⟨t307, t308, t311⟩, A260, H⟩ := H
    replace H : (if 0 ≤ (wrap64 ((wrap64 ((t302.length : Int) + (t308.length : Int))) + 1)) then (if (wrap64 ((wrap64 ((t302.length : Int) + (t308.length : Int))) + 1) : Int).toNat ≤ 35184372088832 then (erasureref01_Mul.l0 kj2 (List.replicate (wrap64 ((wrap64 ((t302.length : Int) + (t308.length : Int))) + 1) : Int).toNat 0) 0 t301 t302 t305 t307 t308 t311 (t301 != t307) (wrap64 (t305 + t311))) else (none)) else (none)) = some (r1, r2, r3) := H
    have A26 := Aside0.mk A260
    clear A260
    obtain ⟨ji27, hji27⟩ : ∃ j_ : Int, (wrap64 ((wrap64 ((t302.length : Int) + (t308.length : Int))) + 1)) = j_ := ⟨_, rfl⟩
    replace H : (if 0 ≤ (ji27) then (if (ji27 : Int).toNat ≤ 35184372088832 then (erasureref01_Mul.l0 kj2 (List.replicate (ji27 : Int).toNat 0) 0 t301 t302 t305 t307 t308 t311 (t301 != t307) (wrap64 (t305 + t311))) else (none)) else (none)) = some (r1, r2, r3) := by first | (rw [hji27] at H; exact H) | (simp only [hji27] at H ⊢; exact H)
    (try rw [hji27] at A25)
    (try rw [hji27] at A26)
    have hji27w : (IntKind.i64.wrap ((wrap64 ((t302.length : Int) + (t308.length : Int))) + 1)) = ji27 := (i64_w _).trans hji27
    by_cases c28 : 0 ≤ (ji27)
    ·rw [if_pos c28] at H
     have c28b0 := eq_true c28
     have c28b1 : decide (0 ≤ (ji27)) = true := decide_eq_true c28
     clear c28
     by_cases c29 : (ji27 : Int).toNat ≤ 35184372088832
     ·rw [if_pos c29] at H
      have c29b0 := eq_true c29
      have c29b1 : decide ((ji27 : Int).toNat ≤ 35184372088832) = true := decide_eq_true c29
      clear c29
      obtain ⟨y314, hy314⟩ : ∃ y_ : List Int, y_ = (List.replicate (ji27 : Int).toNat 0) := ⟨_, rfl⟩
      replace H : (erasureref01_Mul.l0 kj2 y314 0 t301 t302 t305 t307 t308 t311 (t301 != t307) (wrap64 (t305 + t311))) = some (r1, r2, r3) := by first | (rw [hy314]; with_reducible exact H) | (have H2_ := (Option.bind_some _ _).symm.trans H; rw [hy314]; with_reducible exact H2_) | (have H2_ := (Option.bind_some _ _).symm.trans H; with_reducible exact H2_) | with_reducible exact H | (rw [hy314]; exact H) | exact H
      have Ny314 := Aside0.mk hy314
      clear hy314
      have H' := Aside0.mk H
      clear H
      have hnb30 := NB296_297.out
      have hnc30 := NB297_296.out
      have hnb31 := NB296_298.out
      have hnc31 := NB298_296.out
      have hcz32_0 : wc.cell? ⟨gb296, 0, none⟩ = some (.int .i64 a0_0) := (blk_cell BK296.out 0).trans rfl
      have hcz32_1 : wc.cell? ⟨gb296, 1, none⟩ = some (.int .i64 a0_1) := (blk_cell BK296.out 1).trans rfl
      have hfz32_0 := blk_frozen BK296.out 0
      have hfz32_1 := blk_frozen BK296.out 1
      go_wp2_with (first | ((with_reducible refine gate_callee (f := 39) rfl ?_); refine goesL_ (some 23) rfl rfl Tryd.func39 (by kernel_rfl) rfl #[.agg #[.int .i64 a0_0, .int .i64 a0_1]] rfl gl_ ?_; (with_reducible refine (erasureref01_of.calls kj2 a0_0 a0_1 t301 t302 t305 _ A25.out).mono ?_); rintro e w33 ⟨v303, rfl, ho0, hb⟩; refine ⟨_, rfl, ?_⟩; have n0_ := Aside0.mk (Kd.R_lower ho0 (below_size bel)); have n1_ := Aside0.mk (blk_below (bkk BK296.out) hb); have n2_ := Aside0.mk (blk_below (bkk BK297.out) hb); have n3_ := Aside0.mk (blk_below (bkk BK298.out) hb); have n4_ := Aside0.mk (below_step bel hb); clear BK296; clear BK297; clear BK298; clear HB; have HO304 := n0_; have BK296 := n1_; have BK297 := n2_; have BK298 := n3_; have HB := n4_; clear n0_ n1_ n2_ n3_ n4_; (try clear hb); (try clear hb2); (try clear hk); (try clear hi); (try clear ho0)) | ((with_reducible refine gate_dst (N := 6) rfl ?_); refine box_event ?hg (N := 6) ?hd (cs := #[.bool false, .slice none 0 0, .int .i64 0]) (t := 61) ?hr ?_; (case hd => rfl); (case hg => rfl); (case hr => first | (go_simp; done) | (go_simp; rfl)); intro gb306 hg w34 hbox hb; have n0_ := Aside0.mk (Kd.R_below (rkk HO304.out) hb); have n1_ := Aside0.mk (blk_below (bkk BK296.out) hb); have n2_ := Aside0.mk (blk_below (bkk BK297.out) hb); have n3_ := Aside0.mk (blk_below (bkk BK298.out) hb); have n4_ := Aside0.mk (below_step bel hb); have n5_ := Aside0.mk (hbox); have n6_ := Aside0.mk ((by rw [hg]; exact (below_size bel) : w.heap.size ≤ gb306)); have n7_ := Aside0.mk ((by rw [hg]; exact (below_size bel) : w.heap.size ≤ gb306)); have n8_ := Aside0.mk ((by rw [hg]; exact Nat.ne_of_lt (blk_lt (g := gb296) (o := .cells #[.int .i64 a0_0, .int .i64 a0_1] 23 (0, 0)) (bkk BK296.out)) : gb296 ≠ gb306)); have n9_ := Aside0.mk ((by rw [hg]; exact Nat.ne_of_gt (blk_lt (g := gb296) (o := .cells #[.int .i64 a0_0, .int .i64 a0_1] 23 (0, 0)) (bkk BK296.out)) : gb306 ≠ gb296)); have n10_ := Aside0.mk ((by rw [hg]; exact Nat.ne_of_lt (blk_lt (g := gb297) (o := .cells #[.int .i64 a1_0, .int .i64 a1_1] 23 (0, 0)) (bkk BK297.out)) : gb297 ≠ gb306)); have n11_ := Aside0.mk ((by rw [hg]; exact Nat.ne_of_gt (blk_lt (g := gb297) (o := .cells #[.int .i64 a1_0, .int .i64 a1_1] 23 (0, 0)) (bkk BK297.out)) : gb306 ≠ gb297)); have n12_ := Aside0.mk ((by rw [hg]; exact Nat.ne_of_lt (blk_lt (g := gb298) (o := .cells #[.int .i64 0, .int .i64 0] 23 (0, 0)) (bkk BK298.out)) : gb298 ≠ gb306)); have n13_ := Aside0.mk ((by rw [hg]; exact Nat.ne_of_gt (blk_lt (g := gb298) (o := .cells #[.int .i64 0, .int .i64 0] 23 (0, 0)) (bkk BK298.out)) : gb306 ≠ gb298)); clear HO304; clear BK296; clear BK297; clear BK298; clear HB; have HO304 := n0_; have BK296 := n1_; have BK297 := n2_; have BK298 := n3_; have HB := n4_; have BK306 := n5_; have GW306 := n6_; have GE306 := n7_; have NB296_306 := n8_; have NB306_296 := n9_; have NB297_306 := n10_; have NB306_297 := n11_; have NB298_306 := n12_; have NB306_298 := n13_; clear n0_ n1_ n2_ n3_ n4_ n5_ n6_ n7_ n8_ n9_ n10_ n11_ n12_ n13_; clear hb hbox hg; have hnb35 := NB306_296.out; have hnc35 := NB296_306.out; have hnb36 := NB306_297.out; have hnc36 := NB297_306.out; have hnb37 := NB306_298.out; have hnc37 := NB298_306.out; have hcz38_0 : w34.cell? ⟨gb306, 0, none⟩ = some (.bool false) := (blk_cell BK306.out 0).trans rfl; have hcz38_1 : w34.cell? ⟨gb306, 1, none⟩ = some (.slice none 0 0) := (blk_cell BK306.out 1).trans rfl; have hcz38_2 : w34.cell? ⟨gb306, 2, none⟩ = some (.int .i64 0) := (blk_cell BK306.out 2).trans rfl; have hfz38_0 := blk_frozen BK306.out 0; have hfz38_1 := blk_frozen BK306.out 1; have hfz38_2 := blk_frozen BK306.out 2; obtain ⟨Ao39, co39, eo39⟩ := Kd.R_slice HO304.out; subst eo39; have hnb40 := NB297_298.out; have hnc40 := NB298_297.out; have hcz41_0 : w34.cell? ⟨gb297, 0, none⟩ = some (.int .i64 a1_0) := (blk_cell BK297.out 0).trans rfl; have hcz41_1 : w34.cell? ⟨gb297, 1, none⟩ = some (.int .i64 a1_1) := (blk_cell BK297.out 1).trans rfl; have hfz41_0 := blk_frozen BK297.out 0; have hfz41_1 := blk_frozen BK297.out 1) | ((with_reducible refine gate_callee (f := 39) rfl ?_); refine goesL_ (some 25) rfl rfl Tryd.func39 (by kernel_rfl) rfl #[.agg #[.int .i64 a1_0, .int .i64 a1_1]] rfl gl_ ?_; (with_reducible refine (erasureref01_of.calls kj2 a1_0 a1_1 t307 t308 t311 _ A26.out).mono ?_); rintro e w42 ⟨v309, rfl, ho0, hb⟩; refine ⟨_, rfl, ?_⟩; have n0_ := Aside0.mk (Kd.R_elder' (by (with_reducible repeat (first | apply Kd.R_alloc | apply Kd.R_drewN | apply Kd.R_drew)); exact (Kd.R_mono (Kd.R_far (p := ⟨gb306, 2, none⟩) (Kd.R_far (p := ⟨gb306, 1, none⟩) (Kd.R_far (p := ⟨gb306, 0, none⟩) (Kd.R_types HO304.out BK306.out (by decide)) (fun _ hk => hk.2) (.bool t301)) (fun _ hk => hk.2) (.slice Ao39 t302.length co39)) (fun _ hk => hk.2) (.int .i64 t305)) (fun _ h_ => h_.1))) (Kd.R_base ho0) hb); have n1_ := Aside0.mk (Kd.R_lower (Kd.R_new' ho0 (Kd.R_lt (by (with_reducible repeat (first | apply Kd.R_alloc | apply Kd.R_drewN | apply Kd.R_drew)); exact (Kd.R_mono (Kd.R_far (p := ⟨gb306, 2, none⟩) (Kd.R_far (p := ⟨gb306, 1, none⟩) (Kd.R_far (p := ⟨gb306, 0, none⟩) (Kd.R_types HO304.out BK306.out (by decide)) (fun _ hk => hk.2) (.bool t301)) (fun _ hk => hk.2) (.slice Ao39 t302.length co39)) (fun _ hk => hk.2) (.int .i64 t305)) (fun _ h_ => h_.1))))) (below_size bel)); have n2_ := Aside0.mk (blk_below (g := gb296) (o := .cells #[.int .i64 a0_0, .int .i64 a0_1] 23 (0, 0)) blks hb); have n3_ := Aside0.mk (blk_below (g := gb297) (o := .cells #[.int .i64 a1_0, .int .i64 a1_1] 23 (0, 0)) blks hb); have n4_ := Aside0.mk (blk_below (g := gb298) (o := .cells #[.int .i64 0, .int .i64 0] 23 (0, 0)) blks hb); have n5_ := Aside0.mk (blk_below (g := gb306) (o := .cells #[.bool t301, .slice Ao39 t302.length co39, .int .i64 t305] 61 (0, 0)) (by (with_reducible repeat (first | refine blk_drewN ?_ _ | refine blk_drew ?_ | refine blk_alloc ?_ _)); refine blk_put (cs := #[.bool t301, .slice Ao39 t302.length co39, .int .i64 0]) ?_ 2 _ rfl; (with_reducible repeat (first | refine blk_drewN ?_ _ | refine blk_drew ?_ | refine blk_alloc ?_ _)); refine blk_put (cs := #[.bool t301, .slice none 0 0, .int .i64 0]) ?_ 1 _ rfl; (with_reducible repeat (first | refine blk_drewN ?_ _ | refine blk_drew ?_ | refine blk_alloc ?_ _)); refine blk_put (cs := #[.bool false, .slice none 0 0, .int .i64 0]) ?_ 0 _ rfl; (with_reducible repeat (first | refine blk_drewN ?_ _ | refine blk_drew ?_ | refine blk_alloc ?_ _)); exact BK306.out) hb); have n6_ := Aside0.mk (below_step bel hb); clear HO304; clear BK296; clear BK297; clear BK298; clear BK306; clear HB; have HO304 := n0_; have HO310 := n1_; have BK296 := n2_; have BK297 := n3_; have BK298 := n4_; have BK306 := n5_; have HB := n6_; clear n0_ n1_ n2_ n3_ n4_ n5_ n6_; (try clear hb); (try clear hb2); (try clear hk); (try clear hi); (try clear ho0)) | ((with_reducible refine gate_dst (N := 7) rfl ?_); refine box_event ?hg (N := 7) ?hd (cs := #[.bool false, .slice none 0 0, .int .i64 0]) (t := 61) ?hr ?_; (case hd => rfl); (case hg => rfl); (case hr => first | (go_simp; done) | (go_simp; rfl)); intro gb312 hg w43 hbox hb; have n0_ := Aside0.mk (Kd.R_below (rkk HO304.out) hb); have n1_ := Aside0.mk (Kd.R_below (rkk HO310.out) hb); have n2_ := Aside0.mk (blk_below (bkk BK296.out) hb); have n3_ := Aside0.mk (blk_below (bkk BK297.out) hb); have n4_ := Aside0.mk (blk_below (bkk BK298.out) hb); have n5_ := Aside0.mk (blk_below (bkk BK306.out) hb); have n6_ := Aside0.mk (below_step bel hb); have n7_ := Aside0.mk (hbox); have n8_ := Aside0.mk ((by rw [hg]; exact (below_size bel) : w.heap.size ≤ gb312)); have n9_ := Aside0.mk ((by rw [hg]; exact (below_size bel) : w.heap.size ≤ gb312)); have n10_ := Aside0.mk ((by rw [hg]; exact Nat.ne_of_lt (blk_lt (g := gb296) (o := .cells #[.int .i64 a0_0, .int .i64 a0_1] 23 (0, 0)) (bkk BK296.out)) : gb296 ≠ gb312)); have n11_ := Aside0.mk ((by rw [hg]; exact Nat.ne_of_gt (blk_lt (g := gb296) (o := .cells #[.int .i64 a0_0, .int .i64 a0_1] 23 (0, 0)) (bkk BK296.out)) : gb312 ≠ gb296)); have n12_ := Aside0.mk ((by rw [hg]; exact Nat.ne_of_lt (blk_lt (g := gb297) (o := .cells #[.int .i64 a1_0, .int .i64 a1_1] 23 (0, 0)) (bkk BK297.out)) : gb297 ≠ gb312)); have n13_ := Aside0.mk ((by rw [hg]; exact Nat.ne_of_gt (blk_lt (g := gb297) (o := .cells #[.int .i64 a1_0, .int .i64 a1_1] 23 (0, 0)) (bkk BK297.out)) : gb312 ≠ gb297)); have n14_ := Aside0.mk ((by rw [hg]; exact Nat.ne_of_lt (blk_lt (g := gb298) (o := .cells #[.int .i64 0, .int .i64 0] 23 (0, 0)) (bkk BK298.out)) : gb298 ≠ gb312)); have n15_ := Aside0.mk ((by rw [hg]; exact Nat.ne_of_gt (blk_lt (g := gb298) (o := .cells #[.int .i64 0, .int .i64 0] 23 (0, 0)) (bkk BK298.out)) : gb312 ≠ gb298)); have n16_ := Aside0.mk ((by rw [hg]; exact Nat.ne_of_lt (blk_lt (g := gb306) (o := .cells #[.bool t301, .slice Ao39 t302.length co39, .int .i64 t305] 61 (0, 0)) (bkk BK306.out)) : gb306 ≠ gb312)); have n17_ := Aside0.mk ((by rw [hg]; exact Nat.ne_of_gt (blk_lt (g := gb306) (o := .cells #[.bool t301, .slice Ao39 t302.length co39, .int .i64 t305] 61 (0, 0)) (bkk BK306.out)) : gb312 ≠ gb306)); clear HO304; clear HO310; clear BK296; clear BK297; clear BK298; clear BK306; clear HB; have HO304 := n0_; have HO310 := n1_; have BK296 := n2_; have BK297 := n3_; have BK298 := n4_; have BK306 := n5_; have HB := n6_; have BK312 := n7_; have GW312 := n8_; have GE312 := n9_; have NB296_312 := n10_; have NB312_296 := n11_; have NB297_312 := n12_; have NB312_297 := n13_; have NB298_312 := n14_; have NB312_298 := n15_; have NB306_312 := n16_; have NB312_306 := n17_; clear n0_ n1_ n2_ n3_ n4_ n5_ n6_ n7_ n8_ n9_ n10_ n11_ n12_ n13_ n14_ n15_ n16_ n17_; clear hb hbox hg; have hnb44 := NB312_296.out; have hnc44 := NB296_312.out; have hnb45 := NB312_297.out; have hnc45 := NB297_312.out; have hnb46 := NB312_298.out; have hnc46 := NB298_312.out; have hnb47 := NB312_306.out; have hnc47 := NB306_312.out; have hcz48_0 : w43.cell? ⟨gb312, 0, none⟩ = some (.bool false) := (blk_cell BK312.out 0).trans rfl; have hcz48_1 : w43.cell? ⟨gb312, 1, none⟩ = some (.slice none 0 0) := (blk_cell BK312.out 1).trans rfl; have hcz48_2 : w43.cell? ⟨gb312, 2, none⟩ = some (.int .i64 0) := (blk_cell BK312.out 2).trans rfl; have hfz48_0 := blk_frozen BK312.out 0; have hfz48_1 := blk_frozen BK312.out 1; have hfz48_2 := blk_frozen BK312.out 2; obtain ⟨Ao49, co49, eo49⟩ := Kd.R_slice HO310.out; subst eo49; have hcz50_0 : w43.cell? ⟨gb306, 0, none⟩ = some (.bool t301) := (blk_cell BK306.out 0).trans rfl; have hcz50_1 : w43.cell? ⟨gb306, 1, none⟩ = some (.slice Ao39 t302.length co39) := (blk_cell BK306.out 1).trans rfl; have hcz50_2 : w43.cell? ⟨gb306, 2, none⟩ = some (.int .i64 t305) := (blk_cell BK306.out 2).trans rfl; have hfz50_0 := blk_frozen BK306.out 0; have hfz50_1 := blk_frozen BK306.out 1; have hfz50_2 := blk_frozen BK306.out 2) | ((with_reducible refine gate_dst (N := 8) rfl ?_); refine box_event ?hg (N := 8) ?hd (cs := #[.bool false, .slice none 0 0, .int .i64 0]) (t := 61) ?hr ?_; (case hd => rfl); (case hg => rfl); (case hr => first | (go_simp; done) | (go_simp; rfl)); intro gb313 hg w51 hbox hb; have n0_ := Aside0.mk (Kd.R_below (by (with_reducible repeat (first | apply Kd.R_alloc | apply Kd.R_drewN | apply Kd.R_drew)); exact (Kd.R_mono (Kd.R_far (p := ⟨gb312, 2, none⟩) (Kd.R_far (p := ⟨gb312, 1, none⟩) (Kd.R_far (p := ⟨gb312, 0, none⟩) (Kd.R_types HO304.out BK312.out (by decide)) (fun _ hk => hk.2) (.bool t307)) (fun _ hk => hk.2) (.slice Ao49 t308.length co49)) (fun _ hk => hk.2) (.int .i64 t311)) (fun _ h_ => h_.1))) hb); have n1_ := Aside0.mk (Kd.R_below (by (with_reducible repeat (first | apply Kd.R_alloc | apply Kd.R_drewN | apply Kd.R_drew)); exact (Kd.R_mono (Kd.R_far (p := ⟨gb312, 2, none⟩) (Kd.R_far (p := ⟨gb312, 1, none⟩) (Kd.R_far (p := ⟨gb312, 0, none⟩) (Kd.R_types HO310.out BK312.out (by decide)) (fun _ hk => hk.2) (.bool t307)) (fun _ hk => hk.2) (.slice Ao49 t308.length co49)) (fun _ hk => hk.2) (.int .i64 t311)) (fun _ h_ => h_.1))) hb); have n2_ := Aside0.mk (blk_below (g := gb296) (o := .cells #[.int .i64 a0_0, .int .i64 a0_1] 23 (0, 0)) blks hb); have n3_ := Aside0.mk (blk_below (g := gb297) (o := .cells #[.int .i64 a1_0, .int .i64 a1_1] 23 (0, 0)) blks hb); have n4_ := Aside0.mk (blk_below (g := gb298) (o := .cells #[.int .i64 0, .int .i64 0] 23 (0, 0)) blks hb); have n5_ := Aside0.mk (blk_below (g := gb306) (o := .cells #[.bool t301, .slice Ao39 t302.length co39, .int .i64 t305] 61 (0, 0)) blks hb); have n6_ := Aside0.mk (blk_below (g := gb312) (o := .cells #[.bool t307, .slice Ao49 t308.length co49, .int .i64 t311] 61 (0, 0)) (by (with_reducible repeat (first | refine blk_drewN ?_ _ | refine blk_drew ?_ | refine blk_alloc ?_ _)); refine blk_put (cs := #[.bool t307, .slice Ao49 t308.length co49, .int .i64 0]) ?_ 2 _ rfl; (with_reducible repeat (first | refine blk_drewN ?_ _ | refine blk_drew ?_ | refine blk_alloc ?_ _)); refine blk_put (cs := #[.bool t307, .slice none 0 0, .int .i64 0]) ?_ 1 _ rfl; (with_reducible repeat (first | refine blk_drewN ?_ _ | refine blk_drew ?_ | refine blk_alloc ?_ _)); refine blk_put (cs := #[.bool false, .slice none 0 0, .int .i64 0]) ?_ 0 _ rfl; (with_reducible repeat (first | refine blk_drewN ?_ _ | refine blk_drew ?_ | refine blk_alloc ?_ _)); exact BK312.out) hb); have n7_ := Aside0.mk (below_step bel hb); have n8_ := Aside0.mk (hbox); have n9_ := Aside0.mk ((by rw [hg]; exact (below_size bel) : w.heap.size ≤ gb313)); have n10_ := Aside0.mk ((by rw [hg]; exact (below_size bel) : w.heap.size ≤ gb313)); have n11_ := Aside0.mk ((by rw [hg]; exact Nat.ne_of_lt (blk_lt (g := gb296) (o := .cells #[.int .i64 a0_0, .int .i64 a0_1] 23 (0, 0)) blks) : gb296 ≠ gb313)); have n12_ := Aside0.mk ((by rw [hg]; exact Nat.ne_of_gt (blk_lt (g := gb296) (o := .cells #[.int .i64 a0_0, .int .i64 a0_1] 23 (0, 0)) blks) : gb313 ≠ gb296)); have n13_ := Aside0.mk ((by rw [hg]; exact Nat.ne_of_lt (blk_lt (g := gb297) (o := .cells #[.int .i64 a1_0, .int .i64 a1_1] 23 (0, 0)) blks) : gb297 ≠ gb313)); have n14_ := Aside0.mk ((by rw [hg]; exact Nat.ne_of_gt (blk_lt (g := gb297) (o := .cells #[.int .i64 a1_0, .int .i64 a1_1] 23 (0, 0)) blks) : gb313 ≠ gb297)); have n15_ := Aside0.mk ((by rw [hg]; exact Nat.ne_of_lt (blk_lt (g := gb298) (o := .cells #[.int .i64 0, .int .i64 0] 23 (0, 0)) blks) : gb298 ≠ gb313)); have n16_ := Aside0.mk ((by rw [hg]; exact Nat.ne_of_gt (blk_lt (g := gb298) (o := .cells #[.int .i64 0, .int .i64 0] 23 (0, 0)) blks) : gb313 ≠ gb298)); have n17_ := Aside0.mk ((by rw [hg]; exact Nat.ne_of_lt (blk_lt (g := gb306) (o := .cells #[.bool t301, .slice Ao39 t302.length co39, .int .i64 t305] 61 (0, 0)) blks) : gb306 ≠ gb313)); have n18_ := Aside0.mk ((by rw [hg]; exact Nat.ne_of_gt (blk_lt (g := gb306) (o := .cells #[.bool t301, .slice Ao39 t302.length co39, .int .i64 t305] 61 (0, 0)) blks) : gb313 ≠ gb306)); have n19_ := Aside0.mk ((by rw [hg]; exact Nat.ne_of_lt (blk_lt (g := gb312) (o := .cells #[.bool t307, .slice Ao49 t308.length co49, .int .i64 t311] 61 (0, 0)) (by (with_reducible repeat (first | refine blk_drewN ?_ _ | refine blk_drew ?_ | refine blk_alloc ?_ _)); refine blk_put (cs := #[.bool t307, .slice Ao49 t308.length co49, .int .i64 0]) ?_ 2 _ rfl; (with_reducible repeat (first | refine blk_drewN ?_ _ | refine blk_drew ?_ | refine blk_alloc ?_ _)); refine blk_put (cs := #[.bool t307, .slice none 0 0, .int .i64 0]) ?_ 1 _ rfl; (with_reducible repeat (first | refine blk_drewN ?_ _ | refine blk_drew ?_ | refine blk_alloc ?_ _)); refine blk_put (cs := #[.bool false, .slice none 0 0, .int .i64 0]) ?_ 0 _ rfl; (with_reducible repeat (first | refine blk_drewN ?_ _ | refine blk_drew ?_ | refine blk_alloc ?_ _)); exact BK312.out)) : gb312 ≠ gb313)); have n20_ := Aside0.mk ((by rw [hg]; exact Nat.ne_of_gt (blk_lt (g := gb312) (o := .cells #[.bool t307, .slice Ao49 t308.length co49, .int .i64 t311] 61 (0, 0)) (by (with_reducible repeat (first | refine blk_drewN ?_ _ | refine blk_drew ?_ | refine blk_alloc ?_ _)); refine blk_put (cs := #[.bool t307, .slice Ao49 t308.length co49, .int .i64 0]) ?_ 2 _ rfl; (with_reducible repeat (first | refine blk_drewN ?_ _ | refine blk_drew ?_ | refine blk_alloc ?_ _)); refine blk_put (cs := #[.bool t307, .slice none 0 0, .int .i64 0]) ?_ 1 _ rfl; (with_reducible repeat (first | refine blk_drewN ?_ _ | refine blk_drew ?_ | refine blk_alloc ?_ _)); refine blk_put (cs := #[.bool false, .slice none 0 0, .int .i64 0]) ?_ 0 _ rfl; (with_reducible repeat (first | refine blk_drewN ?_ _ | refine blk_drew ?_ | refine blk_alloc ?_ _)); exact BK312.out)) : gb313 ≠ gb312)); clear HO304; clear HO310; clear BK296; clear BK297; clear BK298; clear BK306; clear BK312; clear HB; have HO304 := n0_; have HO310 := n1_; have BK296 := n2_; have BK297 := n3_; have BK298 := n4_; have BK306 := n5_; have BK312 := n6_; have HB := n7_; have BK313 := n8_; have GW313 := n9_; have GE313 := n10_; have NB296_313 := n11_; have NB313_296 := n12_; have NB297_313 := n13_; have NB313_297 := n14_; have NB298_313 := n15_; have NB313_298 := n16_; have NB306_313 := n17_; have NB313_306 := n18_; have NB312_313 := n19_; have NB313_312 := n20_; clear n0_ n1_ n2_ n3_ n4_ n5_ n6_ n7_ n8_ n9_ n10_ n11_ n12_ n13_ n14_ n15_ n16_ n17_ n18_ n19_ n20_; clear hb hbox hg; have hnb52 := NB313_296.out; have hnc52 := NB296_313.out; have hnb53 := NB313_297.out; have hnc53 := NB297_313.out; have hnb54 := NB313_298.out; have hnc54 := NB298_313.out; have hnb55 := NB313_306.out; have hnc55 := NB306_313.out; have hnb56 := NB313_312.out; have hnc56 := NB312_313.out; have hcz57_0 : w51.cell? ⟨gb313, 0, none⟩ = some (.bool false) := (blk_cell BK313.out 0).trans rfl; have hcz57_1 : w51.cell? ⟨gb313, 1, none⟩ = some (.slice none 0 0) := (blk_cell BK313.out 1).trans rfl; have hcz57_2 : w51.cell? ⟨gb313, 2, none⟩ = some (.int .i64 0) := (blk_cell BK313.out 2).trans rfl; have hfz57_0 := blk_frozen BK313.out 0; have hfz57_1 := blk_frozen BK313.out 1; have hfz57_2 := blk_frozen BK313.out 2; have hcz58_0 : w51.cell? ⟨gb306, 0, none⟩ = some (.bool t301) := (blk_cell BK306.out 0).trans rfl; have hcz58_1 : w51.cell? ⟨gb306, 1, none⟩ = some (.slice Ao39 t302.length co39) := (blk_cell BK306.out 1).trans rfl; have hcz58_2 : w51.cell? ⟨gb306, 2, none⟩ = some (.int .i64 t305) := (blk_cell BK306.out 2).trans rfl; have hfz58_0 := blk_frozen BK306.out 0; have hfz58_1 := blk_frozen BK306.out 1; have hfz58_2 := blk_frozen BK306.out 2; have hcz59_0 : w51.cell? ⟨gb312, 0, none⟩ = some (.bool t307) := (blk_cell BK312.out 0).trans rfl; have hcz59_1 : w51.cell? ⟨gb312, 1, none⟩ = some (.slice Ao49 t308.length co49) := (blk_cell BK312.out 1).trans rfl; have hcz59_2 : w51.cell? ⟨gb312, 2, none⟩ = some (.int .i64 t311) := (blk_cell BK312.out 2).trans rfl; have hfz59_0 := blk_frozen BK312.out 0; have hfz59_1 := blk_frozen BK312.out 1; have hfz59_2 := blk_frozen BK312.out 2) | ((with_reducible refine gate_dst (N := 45) rfl ?_); refine Kd.R_make (Kd.int .i64) _ 3 rfl (N := 45) rfl 59 _ _ rfl ji27 rfl rfl Tryd.underlying59 (.int .i64 0) 8 info3 rfl (by decide) (by omega) 0 (ok := fun _ => True) (okp := fun _ => True) rfl (fun _ hk => hk) trivial (of_decide_eq_true (by first | (with_reducible assumption) | assumption)) (Nat.le_trans (Nat.mul_le_mul_right _ (of_decide_eq_true (by first | (with_reducible assumption) | assumption) : ji27.toNat ≤ 35184372088832)) (by omega)) (Below.refl _ _) (Nat.le_refl _) ?_; intro v315 w60 ho61 hb hg_ hnew_; clear hg_ hnew_; (first | rw [← Ny314.out] at ho61 | (simp only [Int.reduceToNat] at ho61; rw [← Ny314.out] at ho61)); have n0_ := Aside0.mk (Kd.R_elder' (by (with_reducible repeat (first | apply Kd.R_alloc | apply Kd.R_drewN | apply Kd.R_drew)); exact (Kd.R_mono (Kd.R_far (p := ⟨gb313, 2, none⟩) (Kd.R_far (p := ⟨gb313, 1, none⟩) (Kd.R_far (p := ⟨gb313, 0, none⟩) (Kd.R_types HO304.out BK313.out (by decide)) (fun _ hk => hk.2) (.bool (t301 != t307))) (fun _ hk => hk.2) (.slice none 0 0)) (fun _ hk => hk.2) (.int .i64 (wrap64 (t305 + t311)))) (fun _ h_ => h_.1))) (Kd.R_base ho61) hb); have n1_ := Aside0.mk (Kd.R_elder' (by (with_reducible repeat (first | apply Kd.R_alloc | apply Kd.R_drewN | apply Kd.R_drew)); exact (Kd.R_mono (Kd.R_far (p := ⟨gb313, 2, none⟩) (Kd.R_far (p := ⟨gb313, 1, none⟩) (Kd.R_far (p := ⟨gb313, 0, none⟩) (Kd.R_types HO310.out BK313.out (by decide)) (fun _ hk => hk.2) (.bool (t301 != t307))) (fun _ hk => hk.2) (.slice none 0 0)) (fun _ hk => hk.2) (.int .i64 (wrap64 (t305 + t311)))) (fun _ h_ => h_.1))) (Kd.R_base ho61) hb); have n2_ := Aside0.mk (Kd.R_lower (Kd.R_new' (Kd.R_new' ho61 (Kd.R_lt (by (with_reducible repeat (first | apply Kd.R_alloc | apply Kd.R_drewN | apply Kd.R_drew)); exact (Kd.R_mono (Kd.R_far (p := ⟨gb313, 2, none⟩) (Kd.R_far (p := ⟨gb313, 1, none⟩) (Kd.R_far (p := ⟨gb313, 0, none⟩) (Kd.R_types HO304.out BK313.out (by decide)) (fun _ hk => hk.2) (.bool (t301 != t307))) (fun _ hk => hk.2) (.slice none 0 0)) (fun _ hk => hk.2) (.int .i64 (wrap64 (t305 + t311)))) (fun _ h_ => h_.1))))) (Kd.R_lt (by (with_reducible repeat (first | apply Kd.R_alloc | apply Kd.R_drewN | apply Kd.R_drew)); exact (Kd.R_mono (Kd.R_far (p := ⟨gb313, 2, none⟩) (Kd.R_far (p := ⟨gb313, 1, none⟩) (Kd.R_far (p := ⟨gb313, 0, none⟩) (Kd.R_types HO310.out BK313.out (by decide)) (fun _ hk => hk.2) (.bool (t301 != t307))) (fun _ hk => hk.2) (.slice none 0 0)) (fun _ hk => hk.2) (.int .i64 (wrap64 (t305 + t311)))) (fun _ h_ => h_.1))))) (below_size bel)); have n3_ := Aside0.mk (blk_below (g := gb296) (o := .cells #[.int .i64 a0_0, .int .i64 a0_1] 23 (0, 0)) blks hb); have n4_ := Aside0.mk (blk_below (g := gb297) (o := .cells #[.int .i64 a1_0, .int .i64 a1_1] 23 (0, 0)) blks hb); have n5_ := Aside0.mk (blk_below (g := gb298) (o := .cells #[.int .i64 0, .int .i64 0] 23 (0, 0)) blks hb); have n6_ := Aside0.mk (blk_below (g := gb306) (o := .cells #[.bool t301, .slice Ao39 t302.length co39, .int .i64 t305] 61 (0, 0)) blks hb); have n7_ := Aside0.mk (blk_below (g := gb312) (o := .cells #[.bool t307, .slice Ao49 t308.length co49, .int .i64 t311] 61 (0, 0)) blks hb); have n8_ := Aside0.mk (blk_below (g := gb313) (o := .cells #[.bool (t301 != t307), .slice none 0 0, .int .i64 (wrap64 (t305 + t311))] 61 (0, 0)) (by (with_reducible repeat (first | refine blk_drewN ?_ _ | refine blk_drew ?_ | refine blk_alloc ?_ _)); refine blk_put (cs := #[.bool (t301 != t307), .slice none 0 0, .int .i64 0]) ?_ 2 _ rfl; (with_reducible repeat (first | refine blk_drewN ?_ _ | refine blk_drew ?_ | refine blk_alloc ?_ _)); refine blk_put (cs := #[.bool (t301 != t307), .slice none 0 0, .int .i64 0]) ?_ 1 _ rfl; (with_reducible repeat (first | refine blk_drewN ?_ _ | refine blk_drew ?_ | refine blk_alloc ?_ _)); refine blk_put (cs := #[.bool false, .slice none 0 0, .int .i64 0]) ?_ 0 _ rfl; (with_reducible repeat (first | refine blk_drewN ?_ _ | refine blk_drew ?_ | refine blk_alloc ?_ _)); exact BK313.out) hb); have n9_ := Aside0.mk (below_step bel hb); clear HO304; clear HO310; clear BK296; clear BK297; clear BK298; clear BK306; clear BK312; clear BK313; clear HB; have HO304 := n0_; have HO310 := n1_; have HO316 := n2_; have BK296 := n3_; have BK297 := n4_; have BK298 := n5_; have BK306 := n6_; have BK312 := n7_; have BK313 := n8_; have HB := n9_; clear n0_ n1_ n2_ n3_ n4_ n5_ n6_ n7_ n8_ n9_; clear hb ho61))
      go_loopg [10] kj2 (fun kq v10 w' => ∃ (x9_2 : List Int) (x10_2 : Int), v10 = .int .i64 x10_2 ∧ Aside0 (erasureref01_Mul.l0 kq x9_2 x10_2 t301 t302 t305 t307 t308 t311 (t301 != t307) (wrap64 (t305 + t311)) = some (r1, r2, r3)) ∧ Aside0 (kq ≤ kj2) ∧ Aside0 (Kd.R (Kd.int .i64) 3 w' w.heap.size (fun k_ => some k_ ≠ ((.slice Ao39 t302.length co39) : Value).ownBlock ∧ some k_ ≠ ((.slice Ao49 t308.length co49) : Value).ownBlock) v315 x9_2) ∧ Aside0 (Kd.R (Kd.int .i64) 3 w' w.heap.size (fun k_ => some k_ ≠ (v315 : Value).ownBlock ∧ some k_ ≠ ((.slice Ao49 t308.length co49) : Value).ownBlock) (.slice Ao39 t302.length co39) t302) ∧ Aside0 (Kd.R (Kd.int .i64) 3 w' w.heap.size (fun k_ => some k_ ≠ (v315 : Value).ownBlock ∧ some k_ ≠ ((.slice Ao39 t302.length co39) : Value).ownBlock) (.slice Ao49 t308.length co49) t308) ∧ Aside0 (w'.heap[gb296]? = some (.cells #[.int .i64 a0_0, .int .i64 a0_1] 23 (0, 0))) ∧ Aside0 (w'.heap[gb297]? = some (.cells #[.int .i64 a1_0, .int .i64 a1_1] 23 (0, 0))) ∧ Aside0 (w'.heap[gb298]? = some (.cells #[.int .i64 0, .int .i64 0] 23 (0, 0))) ∧ Aside0 (w'.heap[gb306]? = some (.cells #[.bool t301, (.slice Ao39 t302.length co39), .int .i64 t305] 61 (0, 0))) ∧ Aside0 (w'.heap[gb312]? = some (.cells #[.bool t307, (.slice Ao49 t308.length co49), .int .i64 t311] 61 (0, 0))) ∧ Aside0 (w'.heap[gb313]? = some (.cells #[.bool (t301 != t307), (.slice none 0 0), .int .i64 (wrap64 (t305 + t311))] 61 (0, 0))) ∧ Aside0 (Below w.heap.size w w'))
      case atStart => exact ⟨(y314), (0), ea_, H', ⟨Nat.le_refl _⟩, ⟨by (with_reducible repeat (first | apply Kd.R_alloc | apply Kd.R_drewN | apply Kd.R_drew)); exact Kd.R_mono HO316.out (fun _ hk => ⟨hk.1.2, hk.2⟩)⟩, ⟨by (with_reducible repeat (first | apply Kd.R_alloc | apply Kd.R_drewN | apply Kd.R_drew)); exact Kd.R_mono HO304.out (fun _ hk => ⟨hk.2, hk.1.2⟩)⟩, ⟨by (with_reducible repeat (first | apply Kd.R_alloc | apply Kd.R_drewN | apply Kd.R_drew)); exact Kd.R_mono HO310.out (fun _ hk => ⟨hk.2, hk.1.2⟩)⟩, ⟨bkk BK296.out⟩, ⟨bkk BK297.out⟩, ⟨bkk BK298.out⟩, ⟨bkk BK306.out⟩, ⟨bkk BK312.out⟩, ⟨bkk BK313.out⟩, ⟨bel⟩⟩
      case round =>
       clear H'
       try clear c1
       try clear c2
       try clear p2
       try clear c3
       try clear c4
       try clear c5
       try clear p6
       try clear c8
       try clear c10
       try clear c11
       try clear c14
       try clear c17
       try clear c18
       try clear c21
       try clear c22
       try clear c23
       try clear c25
       try clear c28
       try clear c28b0
       try clear c28b1
       try clear c29
       try clear c29b0
       try clear c29b1
       try clear c30
       try clear c31
       try clear c35
       try clear c36
       try clear c37
       try clear c39
       try clear c40
       try clear c44
       try clear c45
       try clear c46
       try clear c47
       try clear c52
       try clear c53
       try clear c54
       try clear c55
       try clear c56
       try clear hcz12_0
       try clear hcz12_1
       try clear hcz15_0
       try clear hcz15_1
       try clear hcz19_0
       try clear hcz19_1
       try clear hcz24_0
       try clear hcz24_1
       try clear hcz32_0
       try clear hcz32_1
       try clear hcz38_0
       try clear hcz38_1
       try clear hcz38_2
       try clear hcz41_0
       try clear hcz41_1
       try clear hcz48_0
       try clear hcz48_1
       try clear hcz48_2
       try clear hcz50_0
       try clear hcz50_1
       try clear hcz50_2
       try clear hcz57_0
       try clear hcz57_1
       try clear hcz57_2
       try clear hcz58_0
       try clear hcz58_1
       try clear hcz58_2
       try clear hcz59_0
       try clear hcz59_1
       try clear hcz59_2
       try clear hfz12_0
       try clear hfz12_1
       try clear hfz15_0
       try clear hfz15_1
       try clear hfz19_0
       try clear hfz19_1
       try clear hfz24_0
       try clear hfz24_1
       try clear hfz32_0
       try clear hfz32_1
       try clear hfz38_0
       try clear hfz38_1
       try clear hfz38_2
       try clear hfz41_0
       try clear hfz41_1
       try clear hfz48_0
       try clear hfz48_1
       try clear hfz48_2
       try clear hfz50_0
       try clear hfz50_1
       try clear hfz50_2
       try clear hfz57_0
       try clear hfz57_1
       try clear hfz57_2
       try clear hfz58_0
       try clear hfz58_1
       try clear hfz58_2
       try clear hfz59_0
       try clear hfz59_1
       try clear hfz59_2
       try clear p2
       obtain ⟨x9_2, x10_2, rfl, HA, HK2, HO_9, HO_307001, HO_313001, BK296, BK297, BK298, BK306, BK312, BK313, HB⟩ := hrel
       cases gk with
       | zero => exact absurd HA.out (by simp [erasureref01_Mul.l0])
       | succ k2 =>
        have H := HA.out
        clear HA
        simp only [erasureref01_Mul.l0] at H
        by_cases c62 : x10_2 < (t302.length : Int)
        ·rw [if_pos c62] at H
         have c62b0 : decide (x10_2 < (t302.length : Int)) = true := decide_eq_true c62
         clear c62
         have H' := Aside0.mk H
         clear H
         have hnb63 := NB306_296.out
         have hnc63 := NB296_306.out
         have hnb64 := NB306_297.out
         have hnc64 := NB297_306.out
         have hnb65 := NB306_298.out
         have hnc65 := NB298_306.out
         have hnb66 := NB306_312.out
         have hnc66 := NB312_306.out
         have hnb67 := NB306_313.out
         have hnc67 := NB313_306.out
         have hcz68_0 : wr.cell? ⟨gb306, 0, none⟩ = some (.bool t301) := (blk_cell BK306.out 0).trans rfl
         have hcz68_1 : wr.cell? ⟨gb306, 1, none⟩ = some (.slice Ao39 t302.length co39) := (blk_cell BK306.out 1).trans rfl
         have hcz68_2 : wr.cell? ⟨gb306, 2, none⟩ = some (.int .i64 t305) := (blk_cell BK306.out 2).trans rfl
         have hfz68_0 := blk_frozen BK306.out 0
         have hfz68_1 := blk_frozen BK306.out 1
         have hfz68_2 := blk_frozen BK306.out 2
         go_wp2
         go_loopg [11] k2 (fun kq v11 w' => ∃ (x9_3 : List Int) (x11_3 : Int), v11 = .int .i64 x11_3 ∧ Aside0 (erasureref01_Mul.l1 kq x9_3 x10_2 x11_3 t301 t302 t305 t307 t308 t311 (t301 != t307) (wrap64 (t305 + t311)) = some (r1, r2, r3)) ∧ Aside0 (kq ≤ k2) ∧ Aside0 (Kd.R (Kd.int .i64) 3 w' w.heap.size (fun k_ => some k_ ≠ ((.slice Ao39 t302.length co39) : Value).ownBlock ∧ some k_ ≠ ((.slice Ao49 t308.length co49) : Value).ownBlock) v315 x9_3) ∧ Aside0 (Kd.R (Kd.int .i64) 3 w' w.heap.size (fun k_ => some k_ ≠ (v315 : Value).ownBlock ∧ some k_ ≠ ((.slice Ao49 t308.length co49) : Value).ownBlock) (.slice Ao39 t302.length co39) t302) ∧ Aside0 (Kd.R (Kd.int .i64) 3 w' w.heap.size (fun k_ => some k_ ≠ (v315 : Value).ownBlock ∧ some k_ ≠ ((.slice Ao39 t302.length co39) : Value).ownBlock) (.slice Ao49 t308.length co49) t308) ∧ Aside0 (w'.heap[gb296]? = some (.cells #[.int .i64 a0_0, .int .i64 a0_1] 23 (0, 0))) ∧ Aside0 (w'.heap[gb297]? = some (.cells #[.int .i64 a1_0, .int .i64 a1_1] 23 (0, 0))) ∧ Aside0 (w'.heap[gb298]? = some (.cells #[.int .i64 0, .int .i64 0] 23 (0, 0))) ∧ Aside0 (w'.heap[gb306]? = some (.cells #[.bool t301, (.slice Ao39 t302.length co39), .int .i64 t305] 61 (0, 0))) ∧ Aside0 (w'.heap[gb312]? = some (.cells #[.bool t307, (.slice Ao49 t308.length co49), .int .i64 t311] 61 (0, 0))) ∧ Aside0 (w'.heap[gb313]? = some (.cells #[.bool (t301 != t307), (.slice none 0 0), .int .i64 (wrap64 (t305 + t311))] 61 (0, 0))) ∧ Aside0 (Below w.heap.size w w'))
         case atStart => exact ⟨(x9_2), (0), ea_, H', ⟨Nat.le_refl _⟩, ⟨rkk HO_9.out⟩, ⟨rkk HO_307001.out⟩, ⟨rkk HO_313001.out⟩, ⟨bkk BK296.out⟩, ⟨bkk BK297.out⟩, ⟨bkk BK298.out⟩, ⟨bkk BK306.out⟩, ⟨bkk BK312.out⟩, ⟨bkk BK313.out⟩, ⟨bel⟩⟩
         case round =>
          clear H'
          try clear c1
          try clear c2
          try clear p2
          try clear c3
          try clear c4
          try clear c5
          try clear c6
          try clear p6
          try clear c8
          try clear c10
          try clear c11
          try clear c14
          try clear c17
          try clear c18
          try clear c21
          try clear c22
          try clear c23
          try clear c25
          try clear c28
          try clear c28b0
          try clear c28b1
          try clear c29
          try clear c29b0
          try clear c29b1
          try clear c30
          try clear c31
          try clear c35
          try clear c36
          try clear c37
          try clear c39
          try clear c40
          try clear c44
          try clear c45
          try clear c46
          try clear c47
          try clear c52
          try clear c53
          try clear c54
          try clear c55
          try clear c56
          try clear c62
          try clear c62b0
          try clear c63
          try clear c64
          try clear p64
          try clear c65
          try clear c66
          try clear c67
          try clear hcz12_0
          try clear hcz12_1
          try clear hcz15_0
          try clear hcz15_1
          try clear hcz19_0
          try clear hcz19_1
          try clear hcz24_0
          try clear hcz24_1
          try clear hcz32_0
          try clear hcz32_1
          try clear hcz38_0
          try clear hcz38_1
          try clear hcz38_2
          try clear hcz41_0
          try clear hcz41_1
          try clear hcz48_0
          try clear hcz48_1
          try clear hcz48_2
          try clear hcz50_0
          try clear hcz50_1
          try clear hcz50_2
          try clear hcz57_0
          try clear hcz57_1
          try clear hcz57_2
          try clear hcz58_0
          try clear hcz58_1
          try clear hcz58_2
          try clear hcz59_0
          try clear hcz59_1
          try clear hcz59_2
          try clear hcz68_0
          try clear hcz68_1
          try clear hcz68_2
          try clear hfz12_0
          try clear hfz12_1
          try clear hfz15_0
          try clear hfz15_1
          try clear hfz19_0
          try clear hfz19_1
          try clear hfz24_0
          try clear hfz24_1
          try clear hfz32_0
          try clear hfz32_1
          try clear hfz38_0
          try clear hfz38_1
          try clear hfz38_2
          try clear hfz41_0
          try clear hfz41_1
          try clear hfz48_0
          try clear hfz48_1
          try clear hfz48_2
          try clear hfz50_0
          try clear hfz50_1
          try clear hfz50_2
          try clear hfz57_0
          try clear hfz57_1
          try clear hfz57_2
          try clear hfz58_0
          try clear hfz58_1
          try clear hfz58_2
          try clear hfz59_0
          try clear hfz59_1
          try clear hfz59_2
          try clear hfz68_0
          try clear hfz68_1
          try clear hfz68_2
          try clear p2
          try clear p6
          obtain ⟨x9_3, x11_3, rfl, HA, HK3, HO_9, HO_307001, HO_313001, BK296, BK297, BK298, BK306, BK312, BK313, HB⟩ := hrel
          cases gk with
          | zero => exact absurd HA.out (by simp [erasureref01_Mul.l1])
          | succ k3 =>
           have H := HA.out
           clear HA
           simp only [erasureref01_Mul.l1] at H
           by_cases c69 : x11_3 < (t308.length : Int)
           ·rw [if_pos c69] at H
            have c69b0 : decide (x11_3 < (t308.length : Int)) = true := decide_eq_true c69
            clear c69
            obtain ⟨ji70, hji70⟩ : ∃ j_ : Int, (wrap64 (x10_2 + x11_3)) = j_ := ⟨_, rfl⟩
            replace H : (if 0 ≤ (ji70) then (if (ji70) < (x9_3.length : Int) then (if 0 ≤ x10_2 then (if x10_2 < (t302.length : Int) then (if 0 ≤ x11_3 then (erasureref01_Mul.l1 k3 (x9_3.set ((ji70) : Int).toNat (wrap64 ((rd x9_3 (ji70)) + (wrap64 ((rd t302 x10_2) * (rd t308 x11_3)))))) x10_2 (wrap64 (x11_3 + 1)) t301 t302 t305 t307 t308 t311 (t301 != t307) (wrap64 (t305 + t311))) else (none)) else (none)) else (none)) else (none)) else (none)) = some (r1, r2, r3) := by first | (rw [hji70] at H; exact H) | (simp only [hji70] at H ⊢; exact H)
            have hji70w : (IntKind.i64.wrap (x10_2 + x11_3)) = ji70 := (i64_w _).trans hji70
            by_cases c71 : 0 ≤ (ji70)
            ·rw [if_pos c71] at H
             have c71b0 : decide (0 ≤ (ji70)) = true := decide_eq_true c71
             clear c71
             by_cases c72 : (ji70) < (x9_3.length : Int)
             ·rw [if_pos c72] at H
              have c72b0 : decide ((ji70) < (x9_3.length : Int)) = true := decide_eq_true c72
              clear c72
              by_cases c73 : 0 ≤ x10_2
              ·rw [if_pos c73] at H
               have c73b0 : decide (0 ≤ x10_2) = true := decide_eq_true c73
               clear c73
               by_cases c74 : x10_2 < (t302.length : Int)
               ·rw [if_pos c74] at H
                have c74b0 : decide (x10_2 < (t302.length : Int)) = true := decide_eq_true c74
                clear c74
                by_cases c75 : 0 ≤ x11_3
                ·rw [if_pos c75] at H
                 have c75b0 : decide (0 ≤ x11_3) = true := decide_eq_true c75
                 clear c75
                 obtain ⟨y320, hy320⟩ : ∃ y_ : List Int, y_ = (x9_3.set ((ji70) : Int).toNat (wrap64 ((rd x9_3 (ji70)) + (wrap64 ((rd t302 x10_2) * (rd t308 x11_3)))))) := ⟨_, rfl⟩
                 replace H : (erasureref01_Mul.l1 k3 y320 x10_2 (wrap64 (x11_3 + 1)) t301 t302 t305 t307 t308 t311 (t301 != t307) (wrap64 (t305 + t311))) = some (r1, r2, r3) := by first | (rw [hy320]; with_reducible exact H) | (have H2_ := (Option.bind_some _ _).symm.trans H; rw [hy320]; with_reducible exact H2_) | (have H2_ := (Option.bind_some _ _).symm.trans H; with_reducible exact H2_) | with_reducible exact H | (rw [hy320]; exact H) | exact H
                 have Ny320 := Aside0.mk hy320
                 clear hy320
                 have H' := Aside0.mk H
                 clear H
                 have hnb77 := NB312_296.out
                 have hnc77 := NB296_312.out
                 have hnb78 := NB312_297.out
                 have hnc78 := NB297_312.out
                 have hnb79 := NB312_298.out
                 have hnc79 := NB298_312.out
                 have hnb80 := NB312_306.out
                 have hnc80 := NB306_312.out
                 have hnb81 := NB312_313.out
                 have hnc81 := NB313_312.out
                 have hcz82_0 : wr.cell? ⟨gb312, 0, none⟩ = some (.bool t307) := (blk_cell BK312.out 0).trans rfl
                 have hcz82_1 : wr.cell? ⟨gb312, 1, none⟩ = some (.slice Ao49 t308.length co49) := (blk_cell BK312.out 1).trans rfl
                 have hcz82_2 : wr.cell? ⟨gb312, 2, none⟩ = some (.int .i64 t311) := (blk_cell BK312.out 2).trans rfl
                 have hfz82_0 := blk_frozen BK312.out 0
                 have hfz82_1 := blk_frozen BK312.out 1
                 have hfz82_2 := blk_frozen BK312.out 2
                 try go_wp2
                 have n0_ := Aside0.mk (Kd.R_drew HO_9.out)
                 have n1_ := Aside0.mk (Kd.R_drew HO_307001.out)
                 have n2_ := Aside0.mk (Kd.R_drew HO_313001.out)
                 have n3_ := Aside0.mk (blk_drew BK296.out)
                 have n4_ := Aside0.mk (blk_drew BK297.out)
                 have n5_ := Aside0.mk (blk_drew BK298.out)
                 have n6_ := Aside0.mk (blk_drew BK306.out)
                 have n7_ := Aside0.mk (blk_drew BK312.out)
                 have n8_ := Aside0.mk (blk_drew BK313.out)
                 have n9_ := Aside0.mk (below_drew1 HB.out)
                 clear HO_9
                 clear HO_307001
                 clear HO_313001
                 clear BK296
                 clear BK297
                 clear BK298
                 clear BK306
                 clear BK312
                 clear BK313
                 clear HB
                 have HO_9 := n0_
                 have HO_307001 := n1_
                 have HO_313001 := n2_
                 have BK296 := n3_
                 have BK297 := n4_
                 have BK298 := n5_
                 have BK306 := n6_
                 have BK312 := n7_
                 have BK313 := n8_
                 have HB := n9_
                 clear n0_ n1_ n2_ n3_ n4_ n5_ n6_ n7_ n8_ n9_
                 obtain ⟨Ao84, co84, eo84⟩ := Kd.R_slice HO_9.out
                 (first | subst eo84 | (injection eo84 with f1_ f2_ f3_; have f4_ := f1_.symm; have f5_ := f3_.symm; clear f1_ f2_ f3_; subst f4_; subst f5_))
                 have p317 : 0 ≤ ((ji70) : Int) := of_decide_eq_true (by first | (with_reducible assumption) | assumption)
                 have q317 : (ji70) < (x9_3.length : Int) := of_decide_eq_true (by first | (with_reducible assumption) | assumption)
                 obtain ⟨ad317, e317, hx317_0⟩ := Kd.at_int (Kd.R_reads' HO_9.out).2.2 (ji70) p317 q317
                 cases e317
                 replace p317 := eq_true p317
                 replace q317 := eq_true q317
                 have p318 : 0 ≤ (x10_2 : Int) := of_decide_eq_true (by first | (with_reducible assumption) | assumption)
                 have q318 : x10_2 < (t302.length : Int) := of_decide_eq_true (by first | (with_reducible assumption) | assumption)
                 obtain ⟨ad318, e318, hx318_0⟩ := Kd.at_int (Kd.R_reads' HO_307001.out).2.2 x10_2 p318 q318
                 cases e318
                 replace p318 := eq_true p318
                 replace q318 := eq_true q318
                 have p319 : 0 ≤ (x11_3 : Int) := of_decide_eq_true (by first | (with_reducible assumption) | assumption)
                 have q319 : x11_3 < (t308.length : Int) := of_decide_eq_true (by first | (with_reducible assumption) | assumption)
                 obtain ⟨ad319, e319, hx319_0⟩ := Kd.at_int (Kd.R_reads' HO_313001.out).2.2 x11_3 p319 q319
                 cases e319
                 replace p319 := eq_true p319
                 replace q319 := eq_true q319
                 have p76 : 0 ≤ ((ji70) : Int) := of_decide_eq_true (by first | (with_reducible assumption) | assumption)
                 have q76 : ((ji70) : Int) < ((x9_3.length : Int) : Int) := of_decide_eq_true (by first | (with_reducible assumption) | assumption)
                 obtain ⟨go76, co76, eo76, gb76, gl76, cl76, HG76⟩ := Kd.R_form HO_9.out (by omega)
                 (first | cases eo76 | (injection eo76 with ea_ en_ ec_; (first | subst ea_ | (injection ea_ with ea_; subst ea_)); subst ec_; clear en_))
                 have GB76 := Aside0.mk gb76
                 have GG76 := Aside0.mk HG76
                 clear gb76 gl76 HG76
                 (first | simp only [add_plain] at hx317_0 | skip)
                 obtain ⟨hx76_0, hf76_0⟩ := Kd.R_celln 0 HO_9.out ((ji70) : Int) p76 q76
                 replace p76 := eq_true p76
                 replace q76 := eq_true q76
                 have HP85 := Kd.R_putn HO_9.out ((ji70) : Int) (wrap64 ((rd x9_3 (ji70)) + (wrap64 ((rd t302 x10_2) * (rd t308 x11_3)))))
                 rw [← Ny320.out] at HP85
                 have HQ85 := Aside0.mk HP85
                 clear HP85
                 refine start_ (n := 24) (S := fun w' => w'.cell? ⟨gb306, 0, none⟩ = some (.bool t301) ∧ w'.cell? ⟨gb306, 1, none⟩ = some (.slice (some ad318) t302.length co39) ∧ w'.cell? ⟨gb306, 2, none⟩ = some (.int .i64 t305) ∧ w'.cell? ⟨gb312, 0, none⟩ = some (.bool t307) ∧ w'.cell? ⟨gb312, 1, none⟩ = some (.slice (some ad319) t308.length co49) ∧ w'.cell? ⟨gb312, 2, none⟩ = some (.int .i64 t311) ∧ w'.cell? ⟨go76, ((ji70)).toNat, none⟩ = some (.int .i64 (rd x9_3 (ji70))) ∧ w'.cell? (ad318.add (x10_2).toNat) = some (.int .i64 (rd t302 x10_2)) ∧ w'.cell? (ad319.add (x11_3).toNat) = some (.int .i64 (rd t308 x11_3))) (ds := [23]) (tk_ 24 0) (by kernel_rfl) rfl (by kernel_rfl) ⟨(blk_cell BK306.out 0).trans rfl, (blk_cell BK306.out 1).trans rfl, (blk_cell BK306.out 2).trans rfl, (blk_cell BK312.out 0).trans rfl, (blk_cell BK312.out 1).trans rfl, (blk_cell BK312.out 2).trans rfl, hx317_0, hx318_0, hx319_0⟩ (fun hHeld => ?_); refine with_tabW erasureref01_Mul.tab13 erasureref01_Mul.bits13 (fun HT_ HW_ => ?_)
                 generalize wr.drew = w83 at HO_9 HO_307001 HO_313001 BK296 BK297 BK298 BK306 BK312 BK313 HB GG76 HQ85 hf76_0 hx317_0 hx318_0 hx319_0 hx76_0 hHeld ⊢
                 refine pu_ 0 60 (tk_ 24 1) HT_.out rfl rfl (by kernel_rfl) (fun _ _ _ h => h) (by rfl) (fun w' => by go_simp; with_reducible rfl) (by simp only [s0_, s1_, s2_, s3_, s4_, s5_]; rfl) ?_
                 refine pu_ 1 61 (tk_ 24 3) HT_.out rfl rfl (by kernel_rfl) (fun _ _ _ h => h) (by rfl) (fun w' => by go_simp; with_reducible rfl) (by simp only [s0_, s1_, s2_, s3_, s4_, s5_]; rfl) ?_
                 refine pu_ 2 62 (tk_ 24 7) HT_.out rfl rfl (by kernel_rfl) (fun _ _ _ h => h) (by rfl) (fun w' => by go_simp; with_reducible rfl) (by simp only [s0_, s1_, s2_, s3_, s4_, s5_]; rfl) ?_
                 refine pu_ 3 63 (tk_ 24 15) HT_.out rfl rfl (by kernel_rfl) (fun _ _ _ h => h) (by rfl) (fun w' => by go_simp; with_reducible rfl) (by simp only [s0_, s1_, s2_, s3_, s4_, s5_]; rfl) ?_
                 refine pu_ 4 64 (tk_ 24 31) HT_.out rfl rfl (by kernel_rfl) (fun _ _ _ h => h) (by rfl) (fun w' => by go_simp; with_reducible rfl) (by simp only [s0_, s1_, s2_, s3_, s4_, s5_]; rfl) ?_
                 refine pu_ 5 65 (tk_ 24 63) HT_.out rfl rfl (by kernel_rfl) (fun _ _ _ h => h) (by rfl) (fun w' => by go_simp; with_reducible rfl) (by simp only [s0_, s1_, s2_, s3_, s4_, s5_]; rfl) ?_
                 refine pu_ 6 66 (tk_ 24 127) HT_.out rfl rfl (by kernel_rfl) (fun _ _ _ h => h) (by rfl) (fun w' => by go_simp; with_reducible rfl) (by simp only [s0_, s1_, s2_, s3_, s4_, s5_]; rfl) ?_
                 refine pu_ 7 67 (tk_ 24 255) HT_.out rfl rfl (by kernel_rfl) (fun _ _ _ h => h) (by rfl) (fun w' => by go_simp; with_reducible rfl) (by simp only [s0_, s1_, s2_, s3_, s4_, s5_]; rfl) ?_
                 refine pu_ 8 68 (tk_ 24 511) HT_.out rfl rfl (by kernel_rfl) (fun _ _ _ h => h) (by rfl) (fun w' => by go_simp; with_reducible rfl) (by simp only [s0_, s1_, s2_, s3_, s4_, s5_]; rfl) ?_
                 refine pu_ 10 70 (tk_ 24 1535) HT_.out rfl rfl (by kernel_rfl) (fun _ _ _ h => h) (by rfl) (fun w' => by go_simp; with_reducible rfl) (by simp only [s0_, s1_, s2_, s3_, s4_, s5_]; rfl) ?_
                 refine pu_ 12 72 (tk_ 24 5631) HT_.out rfl rfl (by kernel_rfl) (fun _ _ _ h => h) (by rfl) (fun w' => by go_simp; with_reducible rfl) (by simp only [s0_, s1_, s2_, s3_, s4_, s5_]; rfl) ?_
                 refine pu_ 15 75 (tk_ 24 38399) HT_.out rfl rfl (by kernel_rfl) (fun _ _ _ h => h) (by rfl) (fun w' => by go_simp; with_reducible rfl) (by simp only [s0_, s1_, s2_, s3_, s4_, s5_]; rfl) ?_
                 refine pu_ 17 77 (tk_ 24 169471) HT_.out rfl rfl (by kernel_rfl) (fun _ _ _ h => h) (by rfl) (fun w' => by go_simp; with_reducible rfl) (by simp only [s0_, s1_, s2_, s3_, s4_, s5_]; rfl) ?_
                 refine ta_ 9 69 (tk_ 24 169983) HT_.out HW_.out rfl rfl (by kernel_rfl) (fun _ _ _ h => h) (by rfl) (by rintro w' ⟨s0, s1, s2, s3, s4, s5, s6, s7, s8⟩; go_simp; with_reducible rfl) hHeld (by simp only [s0_, s1_, s2_, s3_, s4_, s5_]; rfl) ?_
                 refine ta_ 11 71 (tk_ 24 172031) HT_.out HW_.out rfl rfl (by kernel_rfl) (fun _ _ _ h => h) (by rfl) (by rintro w' ⟨s0, s1, s2, s3, s4, s5, s6, s7, s8⟩; go_simp; with_reducible rfl) hHeld (by simp only [s0_, s1_, s2_, s3_, s4_, s5_]; rfl) ?_
                 refine pu_ 13 73 (tk_ 24 180223) HT_.out rfl rfl (by kernel_rfl) (fun _ _ _ h => h) (by rfl) (fun w' => by go_simp; with_reducible rfl) (by simp only [s0_, s1_, s2_, s3_, s4_, s5_]; rfl) ?_
                 refine ta_ 14 74 (tk_ 24 196607) HT_.out HW_.out rfl rfl (by kernel_rfl) (fun _ _ _ h => h) (by rfl) (by rintro w' ⟨s0, s1, s2, s3, s4, s5, s6, s7, s8⟩; go_simp; with_reducible rfl) hHeld (by simp only [s0_, s1_, s2_, s3_, s4_, s5_]; rfl) ?_
                 refine ta_ 16 76 (tk_ 24 262143) HT_.out HW_.out rfl rfl (by kernel_rfl) (fun _ _ _ h => h) (by rfl) (by rintro w' ⟨s0, s1, s2, s3, s4, s5, s6, s7, s8⟩; go_simp; with_reducible rfl) hHeld (by simp only [s0_, s1_, s2_, s3_, s4_, s5_]; rfl) ?_
                 refine pu_ 18 78 (tk_ 24 524287) HT_.out rfl rfl (by kernel_rfl) (fun _ _ _ h => h) (by rfl) (fun w' => by go_simp; with_reducible rfl) (by simp only [s0_, s1_, s2_, s3_, s4_, s5_]; rfl) ?_
                 refine ta_ 19 79 (tk_ 24 1048575) HT_.out HW_.out rfl rfl (by kernel_rfl) (fun _ _ _ h => h) (by rfl) (by rintro w' ⟨s0, s1, s2, s3, s4, s5, s6, s7, s8⟩; go_simp; with_reducible rfl) hHeld (by simp only [s0_, s1_, s2_, s3_, s4_, s5_]; rfl) ?_
                 refine pu_ 20 80 (tk_ 24 2097151) HT_.out rfl rfl (by kernel_rfl) (fun _ _ _ h => h) (by rfl) (fun w' => by go_simp; with_reducible rfl) (by simp only [s0_, s1_, s2_, s3_, s4_, s5_]; rfl) ?_
                 refine pu_ 21 81 (tk_ 24 4194303) HT_.out rfl rfl (by kernel_rfl) (fun _ _ _ h => h) (by rfl) (fun w' => by go_simp; with_reducible rfl) (by simp only [s0_, s1_, s2_, s3_, s4_, s5_]; rfl) ?_
                 refine pu_ 22 82 (tk_ 24 8388607) HT_.out rfl rfl (by kernel_rfl) (fun _ _ _ h => h) (by rfl) (fun w' => by go_simp; with_reducible rfl) (by simp only [s0_, s1_, s2_, s3_, s4_, s5_]; rfl) ?_
                 refine last_ (i := 23) (N := none) (tk_ 24 16777215) rfl rfl (one_of HT_.out (by kernel_rfl)) (by decide) (fun K hK => ?_)
                 refine skip_ (w1 := ?_) (by rfl) rfl ?_ ?_
                 rotate_left
                 ·go_simp
                  rfl
                 refine hK.out _ _ ?_
                 clear hK K
                 refine done_ (done_of HT_.out (by kernel_rfl)) ?_
                 try go_wp2
                 go_roundg k3
                 case measure => have := HJ2.out; have := HK2.out; have := HK3.out; omega
                 case rel => exact ⟨(y320), (wrap64 (x11_3 + 1)), ea_, H', ⟨by have := HJ2.out; have := HK2.out; have := HK3.out; omega⟩, ⟨rkk HQ85.out⟩, ⟨by (with_reducible repeat (first | apply Kd.R_alloc | apply Kd.R_drewN | apply Kd.R_drew)); exact Kd.R_mono (Kd.R_far (p := ⟨go76, ((ji70) : Int).toNat, none⟩) (Kd.R_mono HO_307001.out (fun k_ hk => (⟨hk, fun e_ => hk.1 (by rw [e_]; rfl)⟩ : _ ∧ k_ ≠ go76))) (fun _ hk => hk.2) (.int .i64 (wrap64 ((rd x9_3 (ji70)) + (wrap64 ((rd t302 x10_2) * (rd t308 x11_3))))))) (fun _ hk => ⟨hk.1.1, hk.1.2⟩)⟩, ⟨by (with_reducible repeat (first | apply Kd.R_alloc | apply Kd.R_drewN | apply Kd.R_drew)); exact Kd.R_mono (Kd.R_far (p := ⟨go76, ((ji70) : Int).toNat, none⟩) (Kd.R_mono HO_313001.out (fun k_ hk => (⟨hk, fun e_ => hk.1 (by rw [e_]; rfl)⟩ : _ ∧ k_ ≠ go76))) (fun _ hk => hk.2) (.int .i64 (wrap64 ((rd x9_3 (ji70)) + (wrap64 ((rd t302 x10_2) * (rd t308 x11_3))))))) (fun _ hk => ⟨hk.1.1, hk.1.2⟩)⟩, ⟨by (with_reducible repeat (first | refine blk_drewN ?_ _ | refine blk_drew ?_ | refine blk_alloc ?_ _)); refine blk_far ?_ (by have h_ := Kd.R_ne HO_9.out BK296.out (by decide); intro e_; exact h_ (by rw [e_]; rfl)) _; (with_reducible repeat (first | refine blk_drewN ?_ _ | refine blk_drew ?_ | refine blk_alloc ?_ _)); exact BK296.out⟩, ⟨by (with_reducible repeat (first | refine blk_drewN ?_ _ | refine blk_drew ?_ | refine blk_alloc ?_ _)); refine blk_far ?_ (by have h_ := Kd.R_ne HO_9.out BK297.out (by decide); intro e_; exact h_ (by rw [e_]; rfl)) _; (with_reducible repeat (first | refine blk_drewN ?_ _ | refine blk_drew ?_ | refine blk_alloc ?_ _)); exact BK297.out⟩, ⟨by (with_reducible repeat (first | refine blk_drewN ?_ _ | refine blk_drew ?_ | refine blk_alloc ?_ _)); refine blk_far ?_ (by have h_ := Kd.R_ne HO_9.out BK298.out (by decide); intro e_; exact h_ (by rw [e_]; rfl)) _; (with_reducible repeat (first | refine blk_drewN ?_ _ | refine blk_drew ?_ | refine blk_alloc ?_ _)); exact BK298.out⟩, ⟨by (with_reducible repeat (first | refine blk_drewN ?_ _ | refine blk_drew ?_ | refine blk_alloc ?_ _)); refine blk_far ?_ (by have h_ := Kd.R_ne HO_9.out BK306.out (by decide); intro e_; exact h_ (by rw [e_]; rfl)) _; (with_reducible repeat (first | refine blk_drewN ?_ _ | refine blk_drew ?_ | refine blk_alloc ?_ _)); exact BK306.out⟩, ⟨by (with_reducible repeat (first | refine blk_drewN ?_ _ | refine blk_drew ?_ | refine blk_alloc ?_ _)); refine blk_far ?_ (by have h_ := Kd.R_ne HO_9.out BK312.out (by decide); intro e_; exact h_ (by rw [e_]; rfl)) _; (with_reducible repeat (first | refine blk_drewN ?_ _ | refine blk_drew ?_ | refine blk_alloc ?_ _)); exact BK312.out⟩, ⟨by (with_reducible repeat (first | refine blk_drewN ?_ _ | refine blk_drew ?_ | refine blk_alloc ?_ _)); refine blk_far ?_ (by have h_ := Kd.R_ne HO_9.out BK313.out (by decide); intro e_; exact h_ (by rw [e_]; rfl)) _; (with_reducible repeat (first | refine blk_drewN ?_ _ | refine blk_drew ?_ | refine blk_alloc ?_ _)); exact BK313.out⟩, ⟨bel⟩⟩
                ·rw [if_neg c75] at H
                 exact absurd H (by simp)
               ·rw [if_neg c74] at H
                exact absurd H (by simp)
              ·rw [if_neg c73] at H
               exact absurd H (by simp)
             ·rw [if_neg c72] at H
              exact absurd H (by simp)
            ·rw [if_neg c71] at H
             exact absurd H (by simp)
           ·rw [if_neg c69] at H
            have c69b0 : decide (x11_3 < (t308.length : Int)) = false := decide_eq_false c69
            clear c69
            have H' := Aside0.mk H
            clear H
            have hnb86 := NB312_296.out
            have hnc86 := NB296_312.out
            have hnb87 := NB312_297.out
            have hnc87 := NB297_312.out
            have hnb88 := NB312_298.out
            have hnc88 := NB298_312.out
            have hnb89 := NB312_306.out
            have hnc89 := NB306_312.out
            have hnb90 := NB312_313.out
            have hnc90 := NB313_312.out
            have hcz91_0 : wr.cell? ⟨gb312, 0, none⟩ = some (.bool t307) := (blk_cell BK312.out 0).trans rfl
            have hcz91_1 : wr.cell? ⟨gb312, 1, none⟩ = some (.slice Ao49 t308.length co49) := (blk_cell BK312.out 1).trans rfl
            have hcz91_2 : wr.cell? ⟨gb312, 2, none⟩ = some (.int .i64 t311) := (blk_cell BK312.out 2).trans rfl
            have hfz91_0 := blk_frozen BK312.out 0
            have hfz91_1 := blk_frozen BK312.out 1
            have hfz91_2 := blk_frozen BK312.out 2
            go_wp2
            go_roundg k3
            case measure => have := HJ2.out; have := HK2.out; have := HK3.out; omega
            case rel => exact ⟨(x9_3), (wrap64 (x10_2 + 1)), ea_, H', ⟨by have := HJ2.out; have := HK2.out; have := HK3.out; omega⟩, ⟨rkk HO_9.out⟩, ⟨rkk HO_307001.out⟩, ⟨rkk HO_313001.out⟩, ⟨bkk BK296.out⟩, ⟨bkk BK297.out⟩, ⟨bkk BK298.out⟩, ⟨bkk BK306.out⟩, ⟨bkk BK312.out⟩, ⟨bkk BK313.out⟩, ⟨bel⟩⟩
        ·rw [if_neg c62] at H
         have c62b0 : decide (x10_2 < (t302.length : Int)) = false := decide_eq_false c62
         clear c62
         have H' := Aside0.mk H
         clear H
         have hnb92 := NB306_296.out
         have hnc92 := NB296_306.out
         have hnb93 := NB306_297.out
         have hnc93 := NB297_306.out
         have hnb94 := NB306_298.out
         have hnc94 := NB298_306.out
         have hnb95 := NB306_312.out
         have hnc95 := NB312_306.out
         have hnb96 := NB306_313.out
         have hnc96 := NB313_306.out
         have hcz97_0 : wr.cell? ⟨gb306, 0, none⟩ = some (.bool t301) := (blk_cell BK306.out 0).trans rfl
         have hcz97_1 : wr.cell? ⟨gb306, 1, none⟩ = some (.slice Ao39 t302.length co39) := (blk_cell BK306.out 1).trans rfl
         have hcz97_2 : wr.cell? ⟨gb306, 2, none⟩ = some (.int .i64 t305) := (blk_cell BK306.out 2).trans rfl
         have hfz97_0 := blk_frozen BK306.out 0
         have hfz97_1 := blk_frozen BK306.out 1
         have hfz97_2 := blk_frozen BK306.out 2
         go_wp2
         go_loopg [12] k2 (fun kq v12 w' => ∃ (x9_3 : List Int) (x12_3 : Int), v12 = .int .i64 x12_3 ∧ Aside0 (erasureref01_Mul.l2 kq x9_3 x12_3 (t301 != t307) (wrap64 (t305 + t311)) = some (r1, r2, r3)) ∧ Aside0 (kq ≤ k2) ∧ Aside0 (Kd.R (Kd.int .i64) 3 w' w.heap.size (fun k_ => some k_ ≠ ((.slice Ao39 t302.length co39) : Value).ownBlock ∧ some k_ ≠ ((.slice Ao49 t308.length co49) : Value).ownBlock) v315 x9_3) ∧ Aside0 (Kd.R (Kd.int .i64) 3 w' w.heap.size (fun k_ => some k_ ≠ (v315 : Value).ownBlock ∧ some k_ ≠ ((.slice Ao49 t308.length co49) : Value).ownBlock) (.slice Ao39 t302.length co39) t302) ∧ Aside0 (Kd.R (Kd.int .i64) 3 w' w.heap.size (fun k_ => some k_ ≠ (v315 : Value).ownBlock ∧ some k_ ≠ ((.slice Ao39 t302.length co39) : Value).ownBlock) (.slice Ao49 t308.length co49) t308) ∧ Aside0 (w'.heap[gb296]? = some (.cells #[.int .i64 a0_0, .int .i64 a0_1] 23 (0, 0))) ∧ Aside0 (w'.heap[gb297]? = some (.cells #[.int .i64 a1_0, .int .i64 a1_1] 23 (0, 0))) ∧ Aside0 (w'.heap[gb298]? = some (.cells #[.int .i64 0, .int .i64 0] 23 (0, 0))) ∧ Aside0 (w'.heap[gb306]? = some (.cells #[.bool t301, (.slice Ao39 t302.length co39), .int .i64 t305] 61 (0, 0))) ∧ Aside0 (w'.heap[gb312]? = some (.cells #[.bool t307, (.slice Ao49 t308.length co49), .int .i64 t311] 61 (0, 0))) ∧ Aside0 (w'.heap[gb313]? = some (.cells #[.bool (t301 != t307), (.slice none 0 0), .int .i64 (wrap64 (t305 + t311))] 61 (0, 0))) ∧ Aside0 (Below w.heap.size w w'))
         case atStart => exact ⟨(x9_2), (0), ea_, H', ⟨Nat.le_refl _⟩, ⟨rkk HO_9.out⟩, ⟨rkk HO_307001.out⟩, ⟨rkk HO_313001.out⟩, ⟨bkk BK296.out⟩, ⟨bkk BK297.out⟩, ⟨bkk BK298.out⟩, ⟨bkk BK306.out⟩, ⟨bkk BK312.out⟩, ⟨bkk BK313.out⟩, ⟨bel⟩⟩
         case round =>
          clear H'
          try clear c1
          try clear c2
          try clear p2
          try clear c3
          try clear p3
          try clear q3
          try clear hx3
          try clear c4
          try clear c5
          try clear c6
          try clear p6
          try clear c7
          try clear p7
          try clear q7
          try clear hx7
          try clear hf7
          try clear c8
          try clear c9
          try clear c10
          try clear c11
          try clear c14
          try clear c17
          try clear c18
          try clear c21
          try clear c22
          try clear c23
          try clear c25
          try clear c28
          try clear c28b0
          try clear c28b1
          try clear c29
          try clear c29b0
          try clear c29b1
          try clear c30
          try clear c31
          try clear p31
          try clear q31
          try clear hx31
          try clear c35
          try clear c36
          try clear c37
          try clear c39
          try clear c40
          try clear c44
          try clear c45
          try clear c46
          try clear c47
          try clear c52
          try clear c53
          try clear c54
          try clear c55
          try clear c56
          try clear c62
          try clear c62b0
          try clear c63
          try clear c64
          try clear p64
          try clear c65
          try clear c66
          try clear c67
          try clear c69
          try clear c69b0
          try clear c71
          try clear c71b0
          try clear c72
          try clear c72b0
          try clear c73
          try clear c73b0
          try clear c74
          try clear c74b0
          try clear c75
          try clear c75b0
          try clear p76
          try clear q76
          try clear hx76
          try clear hf76
          try clear c77
          try clear c78
          try clear c79
          try clear c80
          try clear c81
          try clear c86
          try clear c87
          try clear c88
          try clear c89
          try clear c90
          try clear c92
          try clear c93
          try clear c94
          try clear c95
          try clear c96
          try clear hcz12_0
          try clear hcz12_1
          try clear hcz15_0
          try clear hcz15_1
          try clear hcz19_0
          try clear hcz19_1
          try clear hcz24_0
          try clear hcz24_1
          try clear hcz32_0
          try clear hcz32_1
          try clear hcz38_0
          try clear hcz38_1
          try clear hcz38_2
          try clear hcz41_0
          try clear hcz41_1
          try clear hcz48_0
          try clear hcz48_1
          try clear hcz48_2
          try clear hcz50_0
          try clear hcz50_1
          try clear hcz50_2
          try clear hcz57_0
          try clear hcz57_1
          try clear hcz57_2
          try clear hcz58_0
          try clear hcz58_1
          try clear hcz58_2
          try clear hcz59_0
          try clear hcz59_1
          try clear hcz59_2
          try clear hcz68_0
          try clear hcz68_1
          try clear hcz68_2
          try clear hcz82_0
          try clear hcz82_1
          try clear hcz82_2
          try clear hcz91_0
          try clear hcz91_1
          try clear hcz91_2
          try clear hcz97_0
          try clear hcz97_1
          try clear hcz97_2
          try clear hfz12_0
          try clear hfz12_1
          try clear hfz15_0
          try clear hfz15_1
          try clear hfz19_0
          try clear hfz19_1
          try clear hfz24_0
          try clear hfz24_1
          try clear hfz32_0
          try clear hfz32_1
          try clear hfz38_0
          try clear hfz38_1
          try clear hfz38_2
          try clear hfz41_0
          try clear hfz41_1
          try clear hfz48_0
          try clear hfz48_1
          try clear hfz48_2
          try clear hfz50_0
          try clear hfz50_1
          try clear hfz50_2
          try clear hfz57_0
          try clear hfz57_1
          try clear hfz57_2
          try clear hfz58_0
          try clear hfz58_1
          try clear hfz58_2
          try clear hfz59_0
          try clear hfz59_1
          try clear hfz59_2
          try clear hfz68_0
          try clear hfz68_1
          try clear hfz68_2
          try clear hfz82_0
          try clear hfz82_1
          try clear hfz82_2
          try clear hfz91_0
          try clear hfz91_1
          try clear hfz91_2
          try clear hfz97_0
          try clear hfz97_1
          try clear hfz97_2
          try clear hx317_0
          try clear hx318_0
          try clear hx319_0
          try clear hx76_0
          try clear p2
          try clear p317
          try clear p318
          try clear p319
          try clear p6
          try clear p64
          try clear p76
          try clear q317
          try clear q318
          try clear q319
          try clear q76
          obtain ⟨x9_3, x12_3, rfl, HA, HK3, HO_9, HO_307001, HO_313001, BK296, BK297, BK298, BK306, BK312, BK313, HB⟩ := hrel
          cases gk with
          | zero => exact absurd HA.out (by simp [erasureref01_Mul.l2])
          | succ k3 =>
           have H := HA.out
           clear HA
           simp only [erasureref01_Mul.l2] at H
           by_cases c98 : (wrap64 (x12_3 + 1)) < (x9_3.length : Int)
           ·rw [if_pos c98] at H
            have c98b0 : decide ((wrap64 (x12_3 + 1)) < (x9_3.length : Int)) = true := decide_eq_true c98
            clear c98
            obtain ⟨ji99, hji99⟩ : ∃ j_ : Int, (wrap64 (x12_3 + 1)) = j_ := ⟨_, rfl⟩
            replace H : (if 0 ≤ (ji99) then (if 0 ≤ x12_3 then (if x12_3 < (x9_3.length : Int) then ((some (x9_3.set ((ji99) : Int).toNat (wrap64 ((rd x9_3 (ji99)) + (wrap64 (Int.tdiv (rd x9_3 x12_3) 10)))) : List Int)).bind fun y323 => (erasureref01_Mul.l2 k3 (y323.set (x12_3 : Int).toNat (Int.tmod (rd y323 x12_3) 10)) ji99 (t301 != t307) (wrap64 (t305 + t311)))) else (none)) else (none)) else (none)) = some (r1, r2, r3) := by first | (rw [hji99] at H; exact H) | (simp only [hji99] at H ⊢; exact H)
            (try rw [hji99] at c98b0)
            have hji99w : (IntKind.i64.wrap (x12_3 + 1)) = ji99 := (i64_w _).trans hji99
            by_cases c100 : 0 ≤ (ji99)
            ·rw [if_pos c100] at H
             have c100b0 : decide (0 ≤ (ji99)) = true := decide_eq_true c100
             clear c100
             by_cases c101 : 0 ≤ x12_3
             ·rw [if_pos c101] at H
              have c101b0 : decide (0 ≤ x12_3) = true := decide_eq_true c101
              clear c101
              by_cases c102 : x12_3 < (x9_3.length : Int)
              ·rw [if_pos c102] at H
               have c102b0 : decide (x12_3 < (x9_3.length : Int)) = true := decide_eq_true c102
               clear c102
               obtain ⟨y323, hy323⟩ : ∃ y_ : List Int, y_ = (x9_3.set ((ji99) : Int).toNat (wrap64 ((rd x9_3 (ji99)) + (wrap64 (Int.tdiv (rd x9_3 x12_3) 10))))) := ⟨_, rfl⟩
               replace H : (erasureref01_Mul.l2 k3 (y323.set (x12_3 : Int).toNat (Int.tmod (rd y323 x12_3) 10)) ji99 (t301 != t307) (wrap64 (t305 + t311))) = some (r1, r2, r3) := by first | (rw [hy323]; with_reducible exact H) | (have H2_ := (Option.bind_some _ _).symm.trans H; rw [hy323]; with_reducible exact H2_) | (have H2_ := (Option.bind_some _ _).symm.trans H; with_reducible exact H2_) | with_reducible exact H | (rw [hy323]; exact H) | exact H
               have Ny323 := Aside0.mk hy323
               clear hy323
               obtain ⟨y325, hy325⟩ : ∃ y_ : List Int, y_ = (y323.set (x12_3 : Int).toNat (Int.tmod (rd y323 x12_3) 10)) := ⟨_, rfl⟩
               replace H : (erasureref01_Mul.l2 k3 y325 ji99 (t301 != t307) (wrap64 (t305 + t311))) = some (r1, r2, r3) := by first | (rw [hy325]; with_reducible exact H) | (have H2_ := (Option.bind_some _ _).symm.trans H; rw [hy325]; with_reducible exact H2_) | (have H2_ := (Option.bind_some _ _).symm.trans H; with_reducible exact H2_) | with_reducible exact H | (rw [hy325]; exact H) | exact H
               have Ny325 := Aside0.mk hy325
               clear hy325
               have H' := Aside0.mk H
               clear H
               obtain ⟨Ao105, co105, eo105⟩ := Kd.R_slice HO_9.out
               subst eo105
               try go_wp2
               have n0_ := Aside0.mk (Kd.R_drew HO_9.out)
               have n1_ := Aside0.mk (Kd.R_drew HO_307001.out)
               have n2_ := Aside0.mk (Kd.R_drew HO_313001.out)
               have n3_ := Aside0.mk (blk_drew BK296.out)
               have n4_ := Aside0.mk (blk_drew BK297.out)
               have n5_ := Aside0.mk (blk_drew BK298.out)
               have n6_ := Aside0.mk (blk_drew BK306.out)
               have n7_ := Aside0.mk (blk_drew BK312.out)
               have n8_ := Aside0.mk (blk_drew BK313.out)
               have n9_ := Aside0.mk (below_drew1 HB.out)
               clear HO_9
               clear HO_307001
               clear HO_313001
               clear BK296
               clear BK297
               clear BK298
               clear BK306
               clear BK312
               clear BK313
               clear HB
               have HO_9 := n0_
               have HO_307001 := n1_
               have HO_313001 := n2_
               have BK296 := n3_
               have BK297 := n4_
               have BK298 := n5_
               have BK306 := n6_
               have BK312 := n7_
               have BK313 := n8_
               have HB := n9_
               clear n0_ n1_ n2_ n3_ n4_ n5_ n6_ n7_ n8_ n9_
               have p321 : 0 ≤ ((ji99) : Int) := of_decide_eq_true (by first | (with_reducible assumption) | assumption)
               have q321 : (ji99) < (x9_3.length : Int) := of_decide_eq_true (by first | (with_reducible assumption) | assumption)
               obtain ⟨ad321, e321, hx321_0⟩ := Kd.at_int (Kd.R_reads' HO_9.out).2.2 (ji99) p321 q321
               cases e321
               replace p321 := eq_true p321
               replace q321 := eq_true q321
               have p322 : 0 ≤ (x12_3 : Int) := of_decide_eq_true (by first | (with_reducible assumption) | assumption)
               have q322 : x12_3 < (x9_3.length : Int) := of_decide_eq_true (by first | (with_reducible assumption) | assumption)
               obtain ⟨ad322, e322, hx322_0⟩ := Kd.at_int (Kd.R_reads' HO_9.out).2.2 x12_3 p322 q322
               obtain rfl : ad321 = ad322 := (by injection e322)
               replace p322 := eq_true p322
               replace q322 := eq_true q322
               have p103 : 0 ≤ ((ji99) : Int) := of_decide_eq_true (by first | (with_reducible assumption) | assumption)
               have q103 : ((ji99) : Int) < ((x9_3.length : Int) : Int) := of_decide_eq_true (by first | (with_reducible assumption) | assumption)
               obtain ⟨go103, co103, eo103, gb103, gl103, cl103, HG103⟩ := Kd.R_form HO_9.out (by omega)
               (first | cases eo103 | (injection eo103 with ea_ en_ ec_; (first | subst ea_ | (injection ea_ with ea_; subst ea_)); subst ec_; clear en_))
               have GB103 := Aside0.mk gb103
               have GG103 := Aside0.mk HG103
               clear gb103 gl103 HG103
               (first | simp only [add_plain] at hx321_0 | skip)
               (first | simp only [add_plain] at hx322_0 | skip)
               obtain ⟨hx103_0, hf103_0⟩ := Kd.R_celln 0 HO_9.out ((ji99) : Int) p103 q103
               replace p103 := eq_true p103
               replace q103 := eq_true q103
               have HP107 := Kd.R_putn HO_9.out ((ji99) : Int) (wrap64 ((rd x9_3 (ji99)) + (wrap64 (Int.tdiv (rd x9_3 x12_3) 10))))
               rw [← Ny323.out] at HP107
               have HQ107 := Aside0.mk HP107
               clear HP107
               refine start_ (n := 16) (S := fun w' => w'.cell? ⟨go103, ((ji99)).toNat, none⟩ = some (.int .i64 (rd x9_3 (ji99))) ∧ w'.cell? ⟨go103, (x12_3).toNat, none⟩ = some (.int .i64 (rd x9_3 x12_3))) (ds := [15]) (tk_ 16 0) (by kernel_rfl) rfl (by kernel_rfl) ⟨hx321_0, hx322_0⟩ (fun hHeld => ?_); refine with_tabW erasureref01_Mul.tab17 erasureref01_Mul.bits17 (fun HT_ HW_ => ?_)
               generalize wr.drew = w106 at HO_9 HO_307001 HO_313001 BK296 BK297 BK298 BK306 BK312 BK313 HB GG103 HQ107 hf103_0 hx103_0 hx321_0 hx322_0 hHeld ⊢
               refine pu_ 0 90 (tk_ 16 1) HT_.out rfl rfl (by kernel_rfl) (fun _ _ _ h => h) (by rfl) (fun w' => by go_simp; with_reducible rfl) (by simp only [s0_, s1_, s2_, s3_, s4_, s5_]; rfl) ?_
               refine pu_ 1 91 (tk_ 16 3) HT_.out rfl rfl (by kernel_rfl) (fun _ _ _ h => h) (by rfl) (fun w' => by go_simp; with_reducible rfl) (by simp only [s0_, s1_, s2_, s3_, s4_, s5_]; rfl) ?_
               refine pu_ 2 92 (tk_ 16 7) HT_.out rfl rfl (by kernel_rfl) (fun _ _ _ h => h) (by rfl) (fun w' => by go_simp; with_reducible rfl) (by simp only [s0_, s1_, s2_, s3_, s4_, s5_]; rfl) ?_
               refine pu_ 3 93 (tk_ 16 15) HT_.out rfl rfl (by kernel_rfl) (fun _ _ _ h => h) (by rfl) (fun w' => by go_simp; with_reducible rfl) (by simp only [s0_, s1_, s2_, s3_, s4_, s5_]; rfl) ?_
               refine pu_ 4 94 (tk_ 16 31) HT_.out rfl rfl (by kernel_rfl) (fun _ _ _ h => h) (by rfl) (fun w' => by go_simp; with_reducible rfl) (by simp only [s0_, s1_, s2_, s3_, s4_, s5_]; rfl) ?_
               refine pu_ 5 95 (tk_ 16 63) HT_.out rfl rfl (by kernel_rfl) (fun _ _ _ h => h) (by rfl) (fun w' => by go_simp; with_reducible rfl) (by simp only [s0_, s1_, s2_, s3_, s4_, s5_]; rfl) ?_
               refine pu_ 6 96 (tk_ 16 127) HT_.out rfl rfl (by kernel_rfl) (fun _ _ _ h => h) (by rfl) (fun w' => by go_simp; with_reducible rfl) (by simp only [s0_, s1_, s2_, s3_, s4_, s5_]; rfl) ?_
               refine pu_ 8 98 (tk_ 16 383) HT_.out rfl rfl (by kernel_rfl) (fun _ _ _ h => h) (by rfl) (fun w' => by go_simp; with_reducible rfl) (by simp only [s0_, s1_, s2_, s3_, s4_, s5_]; rfl) ?_
               refine pu_ 9 99 (tk_ 16 895) HT_.out rfl rfl (by kernel_rfl) (fun _ _ _ h => h) (by rfl) (fun w' => by go_simp; with_reducible rfl) (by simp only [s0_, s1_, s2_, s3_, s4_, s5_]; rfl) ?_
               refine pu_ 10 100 (tk_ 16 1919) HT_.out rfl rfl (by kernel_rfl) (fun _ _ _ h => h) (by rfl) (fun w' => by go_simp; with_reducible rfl) (by simp only [s0_, s1_, s2_, s3_, s4_, s5_]; rfl) ?_
               refine ta_ 7 97 (tk_ 16 2047) HT_.out HW_.out rfl rfl (by kernel_rfl) (fun _ _ _ h => h) (by rfl) (by rintro w' ⟨s0, s1⟩; go_simp; with_reducible rfl) hHeld (by simp only [s0_, s1_, s2_, s3_, s4_, s5_]; rfl) ?_
               refine ta_ 11 101 (tk_ 16 4095) HT_.out HW_.out rfl rfl (by kernel_rfl) (fun _ _ _ h => h) (by rfl) (by rintro w' ⟨s0, s1⟩; go_simp; with_reducible rfl) hHeld (by simp only [s0_, s1_, s2_, s3_, s4_, s5_]; rfl) ?_
               refine pu_ 12 102 (tk_ 16 8191) HT_.out rfl rfl (by kernel_rfl) (fun _ _ _ h => h) (by rfl) (fun w' => by go_simp; with_reducible rfl) (by simp only [s0_, s1_, s2_, s3_, s4_, s5_]; rfl) ?_
               refine pu_ 13 103 (tk_ 16 16383) HT_.out rfl rfl (by kernel_rfl) (fun _ _ _ h => h) (by rfl) (fun w' => by go_simp; with_reducible rfl) (by simp only [s0_, s1_, s2_, s3_, s4_, s5_]; rfl) ?_
               refine pu_ 14 104 (tk_ 16 32767) HT_.out rfl rfl (by kernel_rfl) (fun _ _ _ h => h) (by rfl) (fun w' => by go_simp; with_reducible rfl) (by simp only [s0_, s1_, s2_, s3_, s4_, s5_]; rfl) ?_
               refine last_ (i := 15) (N := none) (tk_ 16 65535) rfl rfl (one_of HT_.out (by kernel_rfl)) (by decide) (fun K hK => ?_)
               refine skip_ (w1 := ?_) (by rfl) rfl ?_ ?_
               rotate_left
               ·go_simp
                rfl
               refine hK.out _ _ ?_
               clear hK K
               refine done_ (done_of HT_.out (by kernel_rfl)) ?_
               have n0_ : Aside0 (Kd.R (Kd.int .i64) 3 (w106.setCell ⟨go103, ((ji99) : Int).toNat, none⟩ (.int .i64 (wrap64 ((rd x9_3 (ji99)) + (wrap64 (Int.tdiv (rd x9_3 x12_3) 10)))))) w.heap.size (fun k_ => some k_ ≠ (.slice Ao39 t302.length co39 : Value).ownBlock ∧ some k_ ≠ (.slice Ao49 t308.length co49 : Value).ownBlock) (.slice (some ⟨go103, 0, none⟩) x9_3.length co105) y323) := ⟨rkk HQ107.out⟩
               have n1_ : Aside0 (Kd.R (Kd.int .i64) 3 (w106.setCell ⟨go103, ((ji99) : Int).toNat, none⟩ (.int .i64 (wrap64 ((rd x9_3 (ji99)) + (wrap64 (Int.tdiv (rd x9_3 x12_3) 10)))))) w.heap.size (fun k_ => some k_ ≠ (.slice (some ⟨go103, 0, none⟩) x9_3.length co105 : Value).ownBlock ∧ some k_ ≠ (.slice Ao49 t308.length co49 : Value).ownBlock) (.slice Ao39 t302.length co39) t302) := ⟨by (with_reducible repeat (first | apply Kd.R_alloc | apply Kd.R_drewN | apply Kd.R_drew)); exact Kd.R_mono (Kd.R_far (p := ⟨go103, ((ji99) : Int).toNat, none⟩) (Kd.R_mono HO_307001.out (fun k_ hk => (⟨hk, fun e_ => hk.1 (by rw [e_]; rfl)⟩ : _ ∧ k_ ≠ go103))) (fun _ hk => hk.2) (.int .i64 (wrap64 ((rd x9_3 (ji99)) + (wrap64 (Int.tdiv (rd x9_3 x12_3) 10)))))) (fun _ hk => ⟨hk.1.1, hk.1.2⟩)⟩
               have n2_ : Aside0 (Kd.R (Kd.int .i64) 3 (w106.setCell ⟨go103, ((ji99) : Int).toNat, none⟩ (.int .i64 (wrap64 ((rd x9_3 (ji99)) + (wrap64 (Int.tdiv (rd x9_3 x12_3) 10)))))) w.heap.size (fun k_ => some k_ ≠ (.slice (some ⟨go103, 0, none⟩) x9_3.length co105 : Value).ownBlock ∧ some k_ ≠ (.slice Ao39 t302.length co39 : Value).ownBlock) (.slice Ao49 t308.length co49) t308) := ⟨by (with_reducible repeat (first | apply Kd.R_alloc | apply Kd.R_drewN | apply Kd.R_drew)); exact Kd.R_mono (Kd.R_far (p := ⟨go103, ((ji99) : Int).toNat, none⟩) (Kd.R_mono HO_313001.out (fun k_ hk => (⟨hk, fun e_ => hk.1 (by rw [e_]; rfl)⟩ : _ ∧ k_ ≠ go103))) (fun _ hk => hk.2) (.int .i64 (wrap64 ((rd x9_3 (ji99)) + (wrap64 (Int.tdiv (rd x9_3 x12_3) 10)))))) (fun _ hk => ⟨hk.1.1, hk.1.2⟩)⟩
               have n3_ : Aside0 ((w106.setCell ⟨go103, ((ji99) : Int).toNat, none⟩ (.int .i64 (wrap64 ((rd x9_3 (ji99)) + (wrap64 (Int.tdiv (rd x9_3 x12_3) 10)))))).heap[gb296]? = some (.cells #[.int .i64 a0_0, .int .i64 a0_1] 23 (0, 0))) := ⟨by (with_reducible repeat (first | refine blk_drewN ?_ _ | refine blk_drew ?_ | refine blk_alloc ?_ _)); refine blk_far ?_ (by have h_ := Kd.R_ne HO_9.out BK296.out (by decide); intro e_; exact h_ (by rw [e_]; rfl)) _; (with_reducible repeat (first | refine blk_drewN ?_ _ | refine blk_drew ?_ | refine blk_alloc ?_ _)); exact BK296.out⟩
               have n4_ : Aside0 ((w106.setCell ⟨go103, ((ji99) : Int).toNat, none⟩ (.int .i64 (wrap64 ((rd x9_3 (ji99)) + (wrap64 (Int.tdiv (rd x9_3 x12_3) 10)))))).heap[gb297]? = some (.cells #[.int .i64 a1_0, .int .i64 a1_1] 23 (0, 0))) := ⟨by (with_reducible repeat (first | refine blk_drewN ?_ _ | refine blk_drew ?_ | refine blk_alloc ?_ _)); refine blk_far ?_ (by have h_ := Kd.R_ne HO_9.out BK297.out (by decide); intro e_; exact h_ (by rw [e_]; rfl)) _; (with_reducible repeat (first | refine blk_drewN ?_ _ | refine blk_drew ?_ | refine blk_alloc ?_ _)); exact BK297.out⟩
               have n5_ : Aside0 ((w106.setCell ⟨go103, ((ji99) : Int).toNat, none⟩ (.int .i64 (wrap64 ((rd x9_3 (ji99)) + (wrap64 (Int.tdiv (rd x9_3 x12_3) 10)))))).heap[gb298]? = some (.cells #[.int .i64 0, .int .i64 0] 23 (0, 0))) := ⟨by (with_reducible repeat (first | refine blk_drewN ?_ _ | refine blk_drew ?_ | refine blk_alloc ?_ _)); refine blk_far ?_ (by have h_ := Kd.R_ne HO_9.out BK298.out (by decide); intro e_; exact h_ (by rw [e_]; rfl)) _; (with_reducible repeat (first | refine blk_drewN ?_ _ | refine blk_drew ?_ | refine blk_alloc ?_ _)); exact BK298.out⟩
               have n6_ : Aside0 ((w106.setCell ⟨go103, ((ji99) : Int).toNat, none⟩ (.int .i64 (wrap64 ((rd x9_3 (ji99)) + (wrap64 (Int.tdiv (rd x9_3 x12_3) 10)))))).heap[gb306]? = some (.cells #[.bool t301, .slice Ao39 t302.length co39, .int .i64 t305] 61 (0, 0))) := ⟨by (with_reducible repeat (first | refine blk_drewN ?_ _ | refine blk_drew ?_ | refine blk_alloc ?_ _)); refine blk_far ?_ (by have h_ := Kd.R_ne HO_9.out BK306.out (by decide); intro e_; exact h_ (by rw [e_]; rfl)) _; (with_reducible repeat (first | refine blk_drewN ?_ _ | refine blk_drew ?_ | refine blk_alloc ?_ _)); exact BK306.out⟩
               have n7_ : Aside0 ((w106.setCell ⟨go103, ((ji99) : Int).toNat, none⟩ (.int .i64 (wrap64 ((rd x9_3 (ji99)) + (wrap64 (Int.tdiv (rd x9_3 x12_3) 10)))))).heap[gb312]? = some (.cells #[.bool t307, .slice Ao49 t308.length co49, .int .i64 t311] 61 (0, 0))) := ⟨by (with_reducible repeat (first | refine blk_drewN ?_ _ | refine blk_drew ?_ | refine blk_alloc ?_ _)); refine blk_far ?_ (by have h_ := Kd.R_ne HO_9.out BK312.out (by decide); intro e_; exact h_ (by rw [e_]; rfl)) _; (with_reducible repeat (first | refine blk_drewN ?_ _ | refine blk_drew ?_ | refine blk_alloc ?_ _)); exact BK312.out⟩
               have n8_ : Aside0 ((w106.setCell ⟨go103, ((ji99) : Int).toNat, none⟩ (.int .i64 (wrap64 ((rd x9_3 (ji99)) + (wrap64 (Int.tdiv (rd x9_3 x12_3) 10)))))).heap[gb313]? = some (.cells #[.bool (t301 != t307), .slice none 0 0, .int .i64 (wrap64 (t305 + t311))] 61 (0, 0))) := ⟨by (with_reducible repeat (first | refine blk_drewN ?_ _ | refine blk_drew ?_ | refine blk_alloc ?_ _)); refine blk_far ?_ (by have h_ := Kd.R_ne HO_9.out BK313.out (by decide); intro e_; exact h_ (by rw [e_]; rfl)) _; (with_reducible repeat (first | refine blk_drewN ?_ _ | refine blk_drew ?_ | refine blk_alloc ?_ _)); exact BK313.out⟩
               have n9_ : Aside0 (Below w.heap.size w (w106.setCell ⟨go103, ((ji99) : Int).toNat, none⟩ (.int .i64 (wrap64 ((rd x9_3 (ji99)) + (wrap64 (Int.tdiv (rd x9_3 x12_3) 10))))))) := ⟨bel⟩
               (try clear HO_9)
               (try clear HO_307001)
               (try clear HO_313001)
               (try clear BK296)
               (try clear BK297)
               (try clear BK298)
               (try clear BK306)
               (try clear BK312)
               (try clear BK313)
               (try clear HB)
               generalize (w106.setCell ⟨go103, ((ji99) : Int).toNat, none⟩ (.int .i64 (wrap64 ((rd x9_3 (ji99)) + (wrap64 (Int.tdiv (rd x9_3 x12_3) 10)))))) = w108 at n0_ n1_ n2_ n3_ n4_ n5_ n6_ n7_ n8_ n9_ ⊢
               have HO_9 := n0_
               have HO_307001 := n1_
               have HO_313001 := n2_
               have BK296 := n3_
               have BK297 := n4_
               have BK298 := n5_
               have BK306 := n6_
               have BK312 := n7_
               have BK313 := n8_
               have HB := n9_
               clear n0_ n1_ n2_ n3_ n4_ n5_ n6_ n7_ n8_ n9_
               have p324 : 0 ≤ (x12_3 : Int) := of_decide_eq_true (by first | (with_reducible assumption) | assumption)
               have q324 : x12_3 < (y323.length : Int) := (by have h_ : (x12_3 : Int) < ((x9_3.length : Int) : Int) := of_decide_eq_true (by first | (with_reducible assumption) | assumption); first | (have e_ := (Kd.R_reads' HO_9.out).1; omega) | simpa only [Ny323.out, List.length_set] using h_)
               have ql324 : ((x12_3 : Int) < ((x9_3.length : Int) : Int)) = True := eq_true (of_decide_eq_true (by first | (with_reducible assumption) | assumption))
               obtain ⟨ad324, e324, hx324_0⟩ := Kd.at_int (Kd.R_reads' HO_9.out).2.2 x12_3 p324 q324
               obtain rfl : (⟨go103, 0, none⟩ : Addr) = ad324 := (by injection e324)
               (first | simp only [add_plain] at hx324_0 | simp only [add_at] at hx324_0 | simp only [Addr.add, Nat.zero_add] at hx324_0 | skip)
               replace p324 := eq_true p324
               replace q324 := eq_true q324
               have p104 : 0 ≤ (x12_3 : Int) := of_decide_eq_true (by first | (with_reducible assumption) | assumption)
               have q104 : (x12_3 : Int) < ((x9_3.length : Int) : Int) := of_decide_eq_true (by first | (with_reducible assumption) | assumption)
               obtain ⟨hx104_0, hf104_0⟩ := Kd.R_celln 0 HO_9.out (x12_3 : Int) p104 q104
               replace p104 := eq_true p104
               replace q104 := eq_true q104
               obtain ⟨hy109_, hz109_⟩ := Kd.R_celln 0 HO_9.out (x12_3 : Int) (of_decide_eq_true (by first | (with_reducible assumption) | assumption)) (of_decide_eq_true (by first | (with_reducible assumption) | assumption))
               have HP109 := Kd.R_putg HO_9.out (x12_3 : Int) (Int.tmod (rd y323 x12_3) 10)
               try go_wp2_with (first | ((with_reducible refine gate_store (t := 3) (p := 112) rfl ?_); refine store_event (t := 3) (p := 112) (v := ?vo_w110) (w1 := (w108.setCell ⟨go103, (x12_3 : Int).toNat, none⟩ (.int .i64 (Int.tmod (rd y323 x12_3) 10)))) ?hg ?ho ?hn ?hr ?_; (case ho => rfl); (case hg => rfl); (case hn => rfl); (case hr => first | (go_simp; done) | (go_simp; rfl)); intro w110 hw; have hg : w108.grownBy w110 (some go103) := (by rw [hw]; exact HP109.2); have hp_ : Kd.R (Kd.int .i64) 3 w110 w.heap.size (fun k_ => some k_ ≠ (.slice Ao39 t302.length co39 : Value).ownBlock ∧ some k_ ≠ (.slice Ao49 t308.length co49 : Value).ownBlock) (.slice (some ⟨go103, 0, none⟩) x9_3.length co105) y325 := (by rw [hw, Ny325.out]; exact HP109.1); clear HP109; have n0_ := Aside0.mk (hp_); have n1_ := Aside0.mk (Kd.R_after (v := (.slice (some ⟨go103, 0, none⟩) x9_3.length co105)) (v1 := (.slice (some ⟨go103, 0, none⟩) x9_3.length co105)) (ok := (fun k_ => some k_ ≠ (.slice Ao49 t308.length co49 : Value).ownBlock)) (by (with_reducible repeat (first | apply Kd.R_alloc | apply Kd.R_drewN | apply Kd.R_drew)); exact Kd.R_mono HO_307001.out (fun _ hk => ⟨hk.2, hk.1⟩)) hg (.inl rfl)); have n2_ := Aside0.mk (Kd.R_after (v := (.slice (some ⟨go103, 0, none⟩) x9_3.length co105)) (v1 := (.slice (some ⟨go103, 0, none⟩) x9_3.length co105)) (ok := (fun k_ => some k_ ≠ (.slice Ao39 t302.length co39 : Value).ownBlock)) (by (with_reducible repeat (first | apply Kd.R_alloc | apply Kd.R_drewN | apply Kd.R_drew)); exact Kd.R_mono HO_313001.out (fun _ hk => ⟨hk.2, hk.1⟩)) hg (.inl rfl)); have n3_ := Aside0.mk (blk_grown (bkk BK296.out) hg (Kd.R_ne HO_9.out BK296.out (by decide))); have n4_ := Aside0.mk (blk_grown (bkk BK297.out) hg (Kd.R_ne HO_9.out BK297.out (by decide))); have n5_ := Aside0.mk (blk_grown (bkk BK298.out) hg (Kd.R_ne HO_9.out BK298.out (by decide))); have n6_ := Aside0.mk (blk_grown (bkk BK306.out) hg (Kd.R_ne HO_9.out BK306.out (by decide))); have n7_ := Aside0.mk (blk_grown (bkk BK312.out) hg (Kd.R_ne HO_9.out BK312.out (by decide))); have n8_ := Aside0.mk (blk_grown (bkk BK313.out) hg (Kd.R_ne HO_9.out BK313.out (by decide))); have n9_ := Aside0.mk ((by rw [hw]; exact below_set (HB.out) GB103.out : Below w.heap.size w w110)); clear HO_9; clear HO_307001; clear HO_313001; clear BK296; clear BK297; clear BK298; clear BK306; clear BK312; clear BK313; clear HB; have HO_9 := n0_; have HO_307001 := n1_; have HO_313001 := n2_; have BK296 := n3_; have BK297 := n4_; have BK298 := n5_; have BK306 := n6_; have BK312 := n7_; have BK313 := n8_; have HB := n9_; clear n0_ n1_ n2_ n3_ n4_ n5_ n6_ n7_ n8_ n9_; clear hg hw hp_))
               go_roundg k3
               case measure => have := HJ2.out; have := HK2.out; have := HK3.out; omega
               case rel => exact ⟨(y325), (ji99), (by first | rfl | (simp; done) | (simp only [← hji99] <;> (first | rfl | simp)) | (simp [*]; done)), H', ⟨by have := HJ2.out; have := HK2.out; have := HK3.out; omega⟩, ⟨rkk HO_9.out⟩, ⟨by (with_reducible repeat (first | apply Kd.R_alloc | apply Kd.R_drewN | apply Kd.R_drew)); exact Kd.R_mono HO_307001.out (fun _ hk => ⟨hk.2, hk.1⟩)⟩, ⟨by (with_reducible repeat (first | apply Kd.R_alloc | apply Kd.R_drewN | apply Kd.R_drew)); exact Kd.R_mono HO_313001.out (fun _ hk => ⟨hk.2, hk.1⟩)⟩, ⟨bkk BK296.out⟩, ⟨bkk BK297.out⟩, ⟨bkk BK298.out⟩, ⟨bkk BK306.out⟩, ⟨bkk BK312.out⟩, ⟨bkk BK313.out⟩, ⟨bel⟩⟩
              ·rw [if_neg c102] at H
               exact absurd H (by simp)
             ·rw [if_neg c101] at H
              exact absurd H (by simp)
            ·rw [if_neg c100] at H
             exact absurd H (by simp)
           ·rw [if_neg c98] at H
            have c98b0 : decide ((wrap64 (x12_3 + 1)) < (x9_3.length : Int)) = false := decide_eq_false c98
            clear c98
            replace H := Option.bind_eq_some_iff.mp H
            obtain ⟨⟨t326, t327, t328⟩, A1110, H⟩ := H
            replace H : (some (t326, t327, t328)) = some (r1, r2, r3) := H
            have A111 := Aside0.mk A1110
            clear A1110
            simp only [Option.some.injEq, Prod.mk.injEq] at H
            obtain ⟨rfl, rfl, rfl⟩ := H
            obtain ⟨Ao112, co112, eo112⟩ := Kd.R_slice HO_9.out
            subst eo112
            have hnb113 := NB313_296.out
            have hnc113 := NB296_313.out
            have hnb114 := NB313_297.out
            have hnc114 := NB297_313.out
            have hnb115 := NB313_298.out
            have hnc115 := NB298_313.out
            have hnb116 := NB313_306.out
            have hnc116 := NB306_313.out
            have hnb117 := NB313_312.out
            have hnc117 := NB312_313.out
            have hcz118_0 : wr.cell? ⟨gb313, 0, none⟩ = some (.bool (t301 != t307)) := (blk_cell BK313.out 0).trans rfl
            have hcz118_1 : wr.cell? ⟨gb313, 1, none⟩ = some (.slice none 0 0) := (blk_cell BK313.out 1).trans rfl
            have hcz118_2 : wr.cell? ⟨gb313, 2, none⟩ = some (.int .i64 (wrap64 (t305 + t311))) := (blk_cell BK313.out 2).trans rfl
            have hfz118_0 := blk_frozen BK313.out 0
            have hfz118_1 := blk_frozen BK313.out 1
            have hfz118_2 := blk_frozen BK313.out 2
            go_wp2_with (first | ((with_reducible refine gate_callee (f := 38) rfl ?_); refine goesL_ (some 116) rfl rfl Tryd.func38 (by kernel_rfl) rfl #[.agg #[.bool (t301 != t307), .slice Ao112 x9_3.length co112, .int .i64 (wrap64 (t305 + t311))]] rfl gl_ ?_; (with_reducible refine (erasureref01_told.calls k3 (t301 != t307) _ _ x9_3 (wrap64 (t305 + t311)) t326 t327 t328 _ ?side1 ?side2 A111.out).mono ?_); (case side1 => refine (Kd.R_reads' (e := 3) (base := w.heap.size) (ok := fun k_ => (some k_ ≠ (.slice Ao39 t302.length co39 : Value).ownBlock ∧ some k_ ≠ (.slice Ao49 t308.length co49 : Value).ownBlock)) (n := x9_3.length) (c := co112) ?_).2.2; exact (by (with_reducible repeat (first | apply Kd.R_alloc | apply Kd.R_drewN | apply Kd.R_drew)); exact (Kd.R_mono (Kd.R_far (p := ⟨gb313, 1, none⟩) (Kd.R_types HO_9.out BK313.out (by decide)) (fun _ hk => hk.2) (.slice Ao112 x9_3.length co112)) (fun _ h_ => h_.1)))); (case side2 => exact (Kd.R_reads' HO_9.out).2.1); rintro e w119 ⟨rfl, hb⟩; refine ⟨_, rfl, ?_⟩; have n0_ := Aside0.mk (Kd.R_below (by (with_reducible repeat (first | apply Kd.R_alloc | apply Kd.R_drewN | apply Kd.R_drew)); exact (Kd.R_mono (Kd.R_far (p := ⟨gb313, 1, none⟩) (Kd.R_types HO_9.out BK313.out (by decide)) (fun _ hk => hk.2) (.slice Ao112 x9_3.length co112)) (fun _ h_ => h_.1))) hb); have n1_ := Aside0.mk (Kd.R_below (by (with_reducible repeat (first | apply Kd.R_alloc | apply Kd.R_drewN | apply Kd.R_drew)); exact (Kd.R_mono (Kd.R_far (p := ⟨gb313, 1, none⟩) (Kd.R_types HO_307001.out BK313.out (by decide)) (fun _ hk => hk.2) (.slice Ao112 x9_3.length co112)) (fun _ h_ => h_.1))) hb); have n2_ := Aside0.mk (Kd.R_below (by (with_reducible repeat (first | apply Kd.R_alloc | apply Kd.R_drewN | apply Kd.R_drew)); exact (Kd.R_mono (Kd.R_far (p := ⟨gb313, 1, none⟩) (Kd.R_types HO_313001.out BK313.out (by decide)) (fun _ hk => hk.2) (.slice Ao112 x9_3.length co112)) (fun _ h_ => h_.1))) hb); have n3_ := Aside0.mk (blk_below (g := gb296) (o := .cells #[.int .i64 a0_0, .int .i64 a0_1] 23 (0, 0)) blks hb); have n4_ := Aside0.mk (blk_below (g := gb297) (o := .cells #[.int .i64 a1_0, .int .i64 a1_1] 23 (0, 0)) blks hb); have n5_ := Aside0.mk (blk_below (g := gb298) (o := .cells #[.int .i64 0, .int .i64 0] 23 (0, 0)) blks hb); have n6_ := Aside0.mk (blk_below (g := gb306) (o := .cells #[.bool t301, .slice Ao39 t302.length co39, .int .i64 t305] 61 (0, 0)) blks hb); have n7_ := Aside0.mk (blk_below (g := gb312) (o := .cells #[.bool t307, .slice Ao49 t308.length co49, .int .i64 t311] 61 (0, 0)) blks hb); have n8_ := Aside0.mk (blk_below (g := gb313) (o := .cells #[.bool (t301 != t307), .slice Ao112 x9_3.length co112, .int .i64 (wrap64 (t305 + t311))] 61 (0, 0)) (by (with_reducible repeat (first | refine blk_drewN ?_ _ | refine blk_drew ?_ | refine blk_alloc ?_ _)); refine blk_put (cs := #[.bool (t301 != t307), .slice none 0 0, .int .i64 (wrap64 (t305 + t311))]) ?_ 1 _ rfl; (with_reducible repeat (first | refine blk_drewN ?_ _ | refine blk_drew ?_ | refine blk_alloc ?_ _)); exact BK313.out) hb); have n9_ := Aside0.mk (below_step bel hb); clear HO_9; clear HO_307001; clear HO_313001; clear BK296; clear BK297; clear BK298; clear BK306; clear BK312; clear BK313; clear HB; have HO_9 := n0_; have HO_307001 := n1_; have HO_313001 := n2_; have BK296 := n3_; have BK297 := n4_; have BK298 := n5_; have BK306 := n6_; have BK312 := n7_; have BK313 := n8_; have HB := n9_; clear n0_ n1_ n2_ n3_ n4_ n5_ n6_ n7_ n8_ n9_; (try clear hb); (try clear hb2); (try clear hk); (try clear hi); have hnb120 := NB298_296.out; have hnc120 := NB296_298.out; have hnb121 := NB298_297.out; have hnc121 := NB297_298.out; have hnb122 := NB298_306.out; have hnc122 := NB306_298.out; have hnb123 := NB298_312.out; have hnc123 := NB312_298.out; have hcz124_0 : w119.cell? ⟨gb298, 0, none⟩ = some (.int .i64 0) := (blk_cell BK298.out 0).trans rfl; have hcz124_1 : w119.cell? ⟨gb298, 1, none⟩ = some (.int .i64 0) := (blk_cell BK298.out 1).trans rfl; have hfz124_0 := blk_frozen BK298.out 0; have hfz124_1 := blk_frozen BK298.out 1))
            refine bodyPost_ret (results_ct rfl _ _ gb298 23 #[.int .i64 t326, .int .i64 t327] (0, 0) _ rfl (by (with_reducible repeat (first | refine blk_drewN ?_ _ | refine blk_drew ?_ | refine blk_alloc ?_ _)); refine blk_put (cs := #[.int .i64 t326, .int .i64 0]) ?_ 1 _ rfl; (with_reducible repeat (first | refine blk_drewN ?_ _ | refine blk_drew ?_ | refine blk_alloc ?_ _)); refine blk_put (cs := #[.int .i64 0, .int .i64 0]) ?_ 0 _ rfl; (with_reducible repeat (first | refine blk_drewN ?_ _ | refine blk_drew ?_ | refine blk_alloc ?_ _)); exact BK298.out) Tryd.underlying23 rfl (by kernel_rfl)) rfl ?_
            exact ⟨by first | rfl | (simp [errW_none, errW_some] <;> rfl) | (simp only [← hji27]; first | rfl | (simp [errW_none, errW_some] <;> rfl)) | (simp [*, errW_none, errW_some] <;> rfl), bel⟩
     ·rw [if_neg c29] at H
      exact absurd H (by simp)
    ·rw [if_neg c28] at H
     exact absurd H (by simp)
end Go.Proofs.YtdkckjiccpdkbaaDoor.G
