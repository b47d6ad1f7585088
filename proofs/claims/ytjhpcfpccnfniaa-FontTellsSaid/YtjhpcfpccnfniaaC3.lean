-- written by my own driver of the kit's print (wip/tools/myprint.py); Lean checks it.
import Derived.Test.YtjhpcfpccnfniaaC0
import Derived.Test.YtjhpcfpccnfniaaC2
import Derived.Test.YtjhpcfpccnfniaaA4
import Derived.Test.YtjhpcfpccnfniaaA5
import Derived.Test.YtjhpcfpccnfniaaA9
namespace Go.Proofs.Ytjhpcfpccnfniaa.C
open Go.RowKit Go.Proofs.YtjhpcfpccnfniaaW.PrintWords Go.Proofs.YtjhpcfpccnfniaaW.PrintLast Go.Proofs.YtjhpcfpccnfniaaW.PrintMore Go.Proofs.Ytjhpcfpccnfniaa.A Go.Proofs.Ytjhpcfpccnfniaa.F
attribute [local go_sem] max2_int min2_int max_two min_two max_three min_three max_four min_four   -- for this text's walks alone
set_option linter.unusedVariables false
set_option linter.unusedSimpArgs false
mutual
def erasureref19_Cut.l0 : Nat → List Int → Int → Bool → List (S37) → Int → Bool → List (S37) → Int → Option (Bool × (List (S37)) × Int × Int)
 | 0, _, _, _, _, _, _, _, _ => none
 | k + 1, x1, x7, x136000, x136001, x136002, x139000, x139001, x139002 => if x7 < (x1.length : Int) then (if 0 ≤ x7 then ((erasureref19_code.f x136000 x136001 x136002 (rd x1 x7)).bind fun t140 => (if t140 = true then ((erasureref19_Find.f k x136000 x136001 x136002 (rd x1 x7)).bind fun bt142 => (erasureref19_Cut.l1 k x1 x7 (decide (x136002 > 0)) 0 x136000 x136001 x136002 x139000 x139001 x139002 bt142.1 bt142.2.1 bt142.2.2)) else (erasureref19_Cut.l0 k x1 (wrap64 (x7 + 1)) x136000 x136001 x136002 x139000 x139001 x139002))) else (none)) else (some (x139000, x139001, x139002, 0))
def erasureref19_Cut.l1 : Nat → List Int → Int → Bool → Int → Bool → List (S37) → Int → Bool → List (S37) → Int → Int → Int → ByteArray → Option (Bool × (List (S37)) × Int × Int)
 | 0, _, _, _, _, _, _, _, _, _, _, _, _, _ => none
 | k + 1, x1, x7, x9, x10, x136000, x136001, x136002, x139000, x139001, x139002, x146000, x146001, x146002 => if x10 < (x136001.length : Int) then (if x9 = true then (erasureref19_Cut.l1 k x1 x7 true (wrap64 (x10 + 1)) x136000 x136001 x136002 x139000 x139001 x139002 x146000 x146001 x146002) else (if 0 ≤ x10 then (erasureref19_Cut.l1 k x1 x7 (((rd_T37 x136001 x10).f0) == x146000) (wrap64 (x10 + 1)) x136000 x136001 x136002 x139000 x139001 x139002 x146000 x146001 x146002) else (none))) else ((erasureref19_insert.f k x139001 x146000 x146001 x146002).bind fun bt147 => (if x9 = true then (if bt147.2 = true then (erasureref19_Cut.l0 k x1 (wrap64 (x7 + 1)) x136000 x136001 x136002 x139000 bt147.1 x139002) else (erasureref19_Cut.l0 k x1 (wrap64 (x7 + 1)) x136000 x136001 x136002 x139000 x139001 x139002)) else (erasureref19_Cut.l0 k x1 (wrap64 (x7 + 1)) x136000 x136001 x136002 x139000 x139001 x139002)))
end
def erasureref19_Cut.f (k : Nat) (a0_0 : Bool) (l0_1 : List (S37)) (a0_2 : Int) (l1 : List Int) : Option (Bool × (List (S37)) × Int × Int) := (erasureref19_Right.f k a0_0 l0_1 a0_2).bind fun t137 => (if t137 = true then (erasureref19_Cut.l0 k l1 0 a0_0 l0_1 a0_2 a0_0 ([] : List (S37)) 0) else (some (false, ([] : List (S37)), 0, 1)))
theorem erasureref19_Cut.mono_l : ∀ k, (∀ y0 y1 y2 y3 y4 y5 y6 y7, LeO (erasureref19_Cut.l0 k y0 y1 y2 y3 y4 y5 y6 y7) (erasureref19_Cut.l0 (k + 1) y0 y1 y2 y3 y4 y5 y6 y7)) ∧ (∀ y0 y1 y2 y3 y4 y5 y6 y7 y8 y9 y10 y11 y12, LeO (erasureref19_Cut.l1 k y0 y1 y2 y3 y4 y5 y6 y7 y8 y9 y10 y11 y12) (erasureref19_Cut.l1 (k + 1) y0 y1 y2 y3 y4 y5 y6 y7 y8 y9 y10 y11 y12))
 | 0 => ⟨fun _ _ _ _ _ _ _ _ r h => by simp [erasureref19_Cut.l0] at h, fun _ _ _ _ _ _ _ _ _ _ _ _ _ r h => by simp [erasureref19_Cut.l1] at h⟩
 | k + 1 => by
  obtain ⟨ih0, ih1⟩ := erasureref19_Cut.mono_l k
  refine ⟨?_, ?_⟩
  ·intro y0 y1 y2 y3 y4 y5 y6 y7
   unfold erasureref19_Cut.l0
   repeat' first
   | (with_reducible exact ih0 _ _ _ _ _ _ _ _)
   | (with_reducible exact ih1 _ _ _ _ _ _ _ _ _ _ _ _ _)
   | (with_reducible exact erasureref19_Find.mono _ _ _ _ _)
   | (with_reducible exact erasureref19_Right.mono _ _ _ _)
   | (with_reducible exact erasureref19_insert.mono _ _ _ _ _)
   | (with_reducible exact LeO.refl _)
   | (with_reducible exact LeO.none _)
   | (with_reducible refine LeO.ite ?_ ?_)
   | (with_reducible refine LeO.bind ?_ (fun _ => ?_))
   | exact ih0 _ _ _ _ _ _ _ _
   | exact ih1 _ _ _ _ _ _ _ _ _ _ _ _ _
   | exact erasureref19_Find.mono _ _ _ _ _
   | exact erasureref19_Right.mono _ _ _ _
   | exact erasureref19_insert.mono _ _ _ _ _
   | exact LeO.none _
   | refine LeO.ite ?_ ?_
   | refine LeO.bind ?_ (fun _ => ?_)
  ·intro y0 y1 y2 y3 y4 y5 y6 y7 y8 y9 y10 y11 y12
   unfold erasureref19_Cut.l1
   repeat' first
   | (with_reducible exact ih0 _ _ _ _ _ _ _ _)
   | (with_reducible exact ih1 _ _ _ _ _ _ _ _ _ _ _ _ _)
   | (with_reducible exact erasureref19_Find.mono _ _ _ _ _)
   | (with_reducible exact erasureref19_Right.mono _ _ _ _)
   | (with_reducible exact erasureref19_insert.mono _ _ _ _ _)
   | (with_reducible exact LeO.refl _)
   | (with_reducible exact LeO.none _)
   | (with_reducible refine LeO.ite ?_ ?_)
   | (with_reducible refine LeO.bind ?_ (fun _ => ?_))
   | exact ih0 _ _ _ _ _ _ _ _
   | exact ih1 _ _ _ _ _ _ _ _ _ _ _ _ _
   | exact erasureref19_Find.mono _ _ _ _ _
   | exact erasureref19_Right.mono _ _ _ _
   | exact erasureref19_insert.mono _ _ _ _ _
   | exact LeO.none _
   | refine LeO.ite ?_ ?_
   | refine LeO.bind ?_ (fun _ => ?_)
theorem erasureref19_Cut.mono : ∀ a0 a1 a2 a3 k, LeO (erasureref19_Cut.f k a0 a1 a2 a3) (erasureref19_Cut.f (k + 1) a0 a1 a2 a3) := by
 intro a0 a1 a2 a3 k
 obtain ⟨ih0, ih1⟩ := erasureref19_Cut.mono_l k
 unfold erasureref19_Cut.f
 repeat' first
   | (with_reducible exact ih0 _ _ _ _ _ _ _ _)
   | (with_reducible exact ih1 _ _ _ _ _ _ _ _ _ _ _ _ _)
   | (with_reducible exact erasureref19_Find.mono _ _ _ _ _)
   | (with_reducible exact erasureref19_Right.mono _ _ _ _)
   | (with_reducible exact erasureref19_insert.mono _ _ _ _ _)
   | (with_reducible exact LeO.refl _)
   | (with_reducible exact LeO.none _)
   | (with_reducible refine LeO.ite ?_ ?_)
   | (with_reducible refine LeO.bind ?_ (fun _ => ?_))
   | exact ih0 _ _ _ _ _ _ _ _
   | exact ih1 _ _ _ _ _ _ _ _ _ _ _ _ _
   | exact erasureref19_Find.mono _ _ _ _ _
   | exact erasureref19_Right.mono _ _ _ _
   | exact erasureref19_insert.mono _ _ _ _ _
   | exact LeO.none _
   | refine LeO.ite ?_ ?_
   | refine LeO.bind ?_ (fun _ => ?_)
def erasureref19_Cut.T8 : Bool × List (List Nat × List Nat) := (true, [([], []), ([], []), ([], []), ([1, 2], [1, 2]), ([3], [3]), ([0, 4], [0, 4]), ([], []), ([6, 5, 5, 0, 1, 2, 3, 4, 5, 6], [5, 6])])
def erasureref19_Cut.B8 : List Nat := [0, 0, 0, 6, 14, 31, 0, 127]
theorem erasureref19_Cut.tab8 : rtab .any (opsOf Try.f21 8) = erasureref19_Cut.T8 := by kernel_rfl
theorem erasureref19_Cut.bits8 : waitsOk erasureref19_Cut.T8.2 erasureref19_Cut.B8 = true := by kernel_rfl
def erasureref19_Cut.T13 : Bool × List (List Nat × List Nat) := (true, [([], []), ([0], [0]), ([1], [1]), ([2, 1], [1, 2]), ([1], [1]), ([3, 4, 1], [1, 3, 4]), ([5, 1], [1, 5]), ([6, 1], [1, 6]), ([1], [1]), ([8, 1], [1, 8]), ([7, 9, 1], [1, 7, 9]), ([1, 10], [1, 10]), ([11, 1, 0, 1, 2, 3, 4, 5, 6, 7, 8, 9, 10, 11], [0, 11])])
def erasureref19_Cut.B13 : List Nat := [0, 1, 3, 7, 3, 31, 63, 127, 3, 259, 1023, 2047, 4095]
theorem erasureref19_Cut.tab13 : rtab .any (opsOf Try.f21 13) = erasureref19_Cut.T13 := by kernel_rfl
theorem erasureref19_Cut.bits13 : waitsOk erasureref19_Cut.T13.2 erasureref19_Cut.B13 = true := by kernel_rfl
set_option maxHeartbeats 8000000 in
set_option maxRecDepth 100000 in
theorem erasureref19_Cut.calls (k : Nat) (a0_0 : Bool) (A0_1 : Option Addr) (c0_1 : Nat) (l0_1 : List (S37)) (a0_2 : Int) (A1 : Option Addr) (c1 : Nat) (l1 : List Int) (r1 : Bool) (r2 : List (S37)) (r3 : Int) (r4 : Int) (w : World) (hr0_1 : Kd.C k37 w A0_1 l0_1.length l0_1) (hc0_1 : l0_1.length ≤ c0_1) (hr1 : Kd.C (Kd.int .i64) w A1 l1.length l1) (hc1 : l1.length ≤ c1) (h : erasureref19_Cut.f k a0_0 l0_1 a0_2 l1 = some (r1, r2, r3, r4)) :
  Calls Try.prog 21 #[.agg #[.bool a0_0, .slice A0_1 l0_1.length c0_1, .int .i64 a0_2], .slice A1 l1.length c1] w fun e w' => ∃ v1_ : Value, e = .returned (.tuple #[.agg #[.bool r1, v1_, .int .i64 r3], .int .i64 r4]) ∧ Kd.R k37 37 w' w.heap.size (fun _ => True) v1_ r2 ∧ Below w.heap.size w w' := by
 have hu24 := Try.underlying24
 have hu37 := Try.underlying37
 have HR0_1 := Aside0.mk hr0_1
 have HC0_1 := Aside0.mk hc0_1
 clear hr0_1 hc0_1
 have HR1 := Aside0.mk hr1
 have HC1 := Aside0.mk hc1
 clear hr1 hc1
 have HB := Aside0.mk (Below.refl w.heap.size w)
 have H : ((erasureref19_Right.f k a0_0 l0_1 a0_2).bind fun t137 => (if t137 = true then (erasureref19_Cut.l0 k l1 0 a0_0 l0_1 a0_2 a0_0 ([] : List (S37)) 0) else (some (false, ([] : List (S37)), 0, 1)))) = some (r1, r2, r3, r4) := h
 clear h
 replace H := Option.bind_eq_some_iff.mp H
 obtain ⟨t137, A30, H⟩ := H
 replace H : (if t137 = true then (erasureref19_Cut.l0 k l1 0 a0_0 l0_1 a0_2 a0_0 ([] : List (S37)) 0) else (some (false, ([] : List (S37)), 0, 1))) = some (r1, r2, r3, r4) := H
 have A3 := Aside0.mk A30
 clear A30
 by_cases c4 : t137 = true
 ·subst c4
  have H1 : (erasureref19_Cut.l0 k l1 0 a0_0 l0_1 a0_2 a0_0 ([] : List (S37)) 0) = some (r1, r2, r3, r4) := by rw [if_pos rfl] at H; exact H
  clear H
  have H := H1
  clear H1
  have H' := Aside0.mk H
  clear H
  go_enter Try.func21, Try.ntmps21
  go_wp2_with (first | ((with_reducible refine gate_dst (N := 2) rfl ?_); refine box_event ?hg (N := 2) ?hd (cs := #[.bool a0_0, .slice A0_1 l0_1.length c0_1, .int .i64 a0_2]) (t := 24) ?hr ?_; (case hd => rfl); (case hg => rfl); (case hr => first | (go_simp; done) | (go_simp; rfl)); intro gb135 hg w5 hbox hb; have n0_ := Aside0.mk (below_step (by repeat (first | (with_reducible first | exact HB.out | apply below_alloc | apply pw_below_drewN | apply below_drew1) | exact HB.out)) hb); have n1_ := Aside0.mk (hbox); have n2_ := Aside0.mk ((by rw [hg]; exact (below_size (by repeat (first | (with_reducible first | exact HB.out | apply below_alloc | apply pw_below_drewN | apply below_drew1) | exact HB.out))) : w.heap.size ≤ gb135)); have n3_ := Aside0.mk ((by rw [hg]; exact (below_size (by repeat (first | (with_reducible first | exact HB.out | apply below_alloc | apply pw_below_drewN | apply below_drew1) | exact HB.out))) : w.heap.size ≤ gb135)); clear HB; have HB := n0_; have BK135 := n1_; have GW135 := n2_; have GE135 := n3_; clear n0_ n1_ n2_ n3_; clear hb hbox hg) | ((with_reducible refine gate_dst (N := 4) rfl ?_); refine box_event ?hg (N := 4) ?hd (cs := #[.bool false, .slice none 0 0, .int .i64 0]) (t := 24) ?hr ?_; (case hd => rfl); (case hg => rfl); (case hr => first | (go_simp; done) | (go_simp; rfl)); intro gb136 hg w6 hbox hb; have n0_ := Aside0.mk (blk_below (g := gb135) (o := .cells #[.bool a0_0, .slice A0_1 l0_1.length c0_1, .int .i64 a0_2] 24 (0, 0)) (by (with_reducible repeat (first | refine blk_drewN ?_ _ | refine blk_drew ?_ | refine blk_alloc ?_ _)); exact BK135.out) hb); have n1_ := Aside0.mk (below_step (by repeat (first | (with_reducible first | exact HB.out | apply below_alloc | apply pw_below_drewN | apply below_drew1 | refine below_set ?_ GE135.out) | exact HB.out)) hb); have n2_ := Aside0.mk (hbox); have n3_ := Aside0.mk ((by rw [hg]; exact (below_size (by repeat (first | (with_reducible first | exact HB.out | apply below_alloc | apply pw_below_drewN | apply below_drew1 | refine below_set ?_ GE135.out) | exact HB.out))) : w.heap.size ≤ gb136)); have n4_ := Aside0.mk ((by rw [hg]; exact (below_size (by repeat (first | (with_reducible first | exact HB.out | apply below_alloc | apply pw_below_drewN | apply below_drew1 | refine below_set ?_ GE135.out) | exact HB.out))) : w.heap.size ≤ gb136)); have n5_ := Aside0.mk ((by rw [hg]; exact Nat.ne_of_lt (blk_lt (g := gb135) (o := .cells #[.bool a0_0, .slice A0_1 l0_1.length c0_1, .int .i64 a0_2] 24 (0, 0)) (by (with_reducible repeat (first | refine blk_drewN ?_ _ | refine blk_drew ?_ | refine blk_alloc ?_ _)); exact BK135.out)) : gb135 ≠ gb136)); have n6_ := Aside0.mk ((by rw [hg]; exact Nat.ne_of_gt (blk_lt (g := gb135) (o := .cells #[.bool a0_0, .slice A0_1 l0_1.length c0_1, .int .i64 a0_2] 24 (0, 0)) (by (with_reducible repeat (first | refine blk_drewN ?_ _ | refine blk_drew ?_ | refine blk_alloc ?_ _)); exact BK135.out)) : gb136 ≠ gb135)); clear BK135; clear HB; have BK135 := n0_; have HB := n1_; have BK136 := n2_; have GW136 := n3_; have GE136 := n4_; have NB135_136 := n5_; have NB136_135 := n6_; clear n0_ n1_ n2_ n3_ n4_ n5_ n6_; clear hb hbox hg; have hnb7 := NB135_136.out; have hnc7 := NB136_135.out; have hcz8_0 : w6.cell? ⟨gb135, 0, none⟩ = some (.bool a0_0) := (blk_cell BK135.out 0).trans rfl; have hcz8_1 : w6.cell? ⟨gb135, 1, none⟩ = some (.slice A0_1 l0_1.length c0_1) := (blk_cell BK135.out 1).trans rfl; have hcz8_2 : w6.cell? ⟨gb135, 2, none⟩ = some (.int .i64 a0_2) := (blk_cell BK135.out 2).trans rfl; have hfz8_0 := blk_frozen BK135.out 0; have hfz8_1 := blk_frozen BK135.out 1; have hfz8_2 := blk_frozen BK135.out 2) | ((with_reducible refine gate_callee (f := 17) rfl ?_); refine goesL_ (some 14) rfl rfl Try.func17 (by kernel_rfl) rfl #[.agg #[.bool a0_0, .slice A0_1 l0_1.length c0_1, .int .i64 a0_2]] rfl (by (try simp only [List.map_toArray, List.map_cons, List.map_nil]); first | done | rfl | (simp only [List.length_drop, List.length_take]; rfl)) ?_; (with_reducible refine (erasureref19_Right.calls k a0_0 _ _ l0_1 a0_2 true _ ?side1 ?side2 A3.out).mono ?_); (case side1 => repeat (first | exact (Kd.C_below HR0_1.out HB.out) | (with_reducible refine Kd.C_alloc ?_ _) | (with_reducible refine Kd.C_drewN ?_ _) | (with_reducible refine Kd.C_drew ?_))); (case side2 => exact HC0_1.out); rintro e w9 ⟨rfl, hb⟩; refine ⟨_, rfl, ?_⟩; have n0_ := Aside0.mk (blk_below (g := gb135) (o := .cells #[.bool a0_0, .slice A0_1 l0_1.length c0_1, .int .i64 a0_2] 24 (0, 0)) (by (with_reducible repeat (first | refine blk_drewN ?_ _ | refine blk_drew ?_ | refine blk_alloc ?_ _)); exact BK135.out) hb); have n1_ := Aside0.mk (blk_below (g := gb136) (o := .cells #[.bool false, .slice none 0 0, .int .i64 0] 24 (0, 0)) (by (with_reducible repeat (first | refine blk_drewN ?_ _ | refine blk_drew ?_ | refine blk_alloc ?_ _)); exact BK136.out) hb); have n2_ := Aside0.mk (below_step (by repeat (first | (with_reducible first | exact HB.out | apply below_alloc | apply pw_below_drewN | apply below_drew1 | refine below_set ?_ GE135.out | refine below_set ?_ GE136.out) | exact HB.out)) hb); clear BK135; clear BK136; clear HB; have BK135 := n0_; have BK136 := n1_; have HB := n2_; clear n0_ n1_ n2_; (try clear hb); (try clear hb2); (try clear hk); (try clear hi); have hcz10_0 : w9.cell? ⟨gb135, 0, none⟩ = some (.bool a0_0) := (blk_cell BK135.out 0).trans rfl; have hcz10_1 : w9.cell? ⟨gb135, 1, none⟩ = some (.slice A0_1 l0_1.length c0_1) := (blk_cell BK135.out 1).trans rfl; have hcz10_2 : w9.cell? ⟨gb135, 2, none⟩ = some (.int .i64 a0_2) := (blk_cell BK135.out 2).trans rfl; have hfz10_0 := blk_frozen BK135.out 0; have hfz10_1 := blk_frozen BK135.out 1; have hfz10_2 := blk_frozen BK135.out 2) | ((with_reducible refine gate_dst (N := 6) rfl ?_); refine box_event ?hg (N := 6) ?hd (cs := #[.bool false, .slice none 0 0, .int .i64 0]) (t := 24) ?hr ?_; (case hd => rfl); (case hg => rfl); (case hr => first | (go_simp; done) | (go_simp; rfl)); intro gb138 hg w11 hbox hb; have n0_ := Aside0.mk (blk_below (g := gb135) (o := .cells #[.bool a0_0, .slice A0_1 l0_1.length c0_1, .int .i64 a0_2] 24 (0, 0)) (by (with_reducible repeat (first | refine blk_drewN ?_ _ | refine blk_drew ?_ | refine blk_alloc ?_ _)); exact BK135.out) hb); have n1_ := Aside0.mk (blk_below (g := gb136) (o := .cells #[.bool false, .slice none 0 0, .int .i64 0] 24 (0, 0)) (by (with_reducible repeat (first | refine blk_drewN ?_ _ | refine blk_drew ?_ | refine blk_alloc ?_ _)); exact BK136.out) hb); have n2_ := Aside0.mk (below_step (by repeat (first | (with_reducible first | exact HB.out | apply below_alloc | apply pw_below_drewN | apply below_drew1 | refine below_set ?_ GE135.out | refine below_set ?_ GE136.out) | exact HB.out)) hb); have n3_ := Aside0.mk (hbox); have n4_ := Aside0.mk ((by rw [hg]; exact (below_size (by repeat (first | (with_reducible first | exact HB.out | apply below_alloc | apply pw_below_drewN | apply below_drew1 | refine below_set ?_ GE135.out | refine below_set ?_ GE136.out) | exact HB.out))) : w.heap.size ≤ gb138)); have n5_ := Aside0.mk ((by rw [hg]; exact (below_size (by repeat (first | (with_reducible first | exact HB.out | apply below_alloc | apply pw_below_drewN | apply below_drew1 | refine below_set ?_ GE135.out | refine below_set ?_ GE136.out) | exact HB.out))) : w.heap.size ≤ gb138)); have n6_ := Aside0.mk ((by rw [hg]; exact Nat.ne_of_lt (blk_lt (g := gb135) (o := .cells #[.bool a0_0, .slice A0_1 l0_1.length c0_1, .int .i64 a0_2] 24 (0, 0)) (by (with_reducible repeat (first | refine blk_drewN ?_ _ | refine blk_drew ?_ | refine blk_alloc ?_ _)); exact BK135.out)) : gb135 ≠ gb138)); have n7_ := Aside0.mk ((by rw [hg]; exact Nat.ne_of_gt (blk_lt (g := gb135) (o := .cells #[.bool a0_0, .slice A0_1 l0_1.length c0_1, .int .i64 a0_2] 24 (0, 0)) (by (with_reducible repeat (first | refine blk_drewN ?_ _ | refine blk_drew ?_ | refine blk_alloc ?_ _)); exact BK135.out)) : gb138 ≠ gb135)); have n8_ := Aside0.mk ((by rw [hg]; exact Nat.ne_of_lt (blk_lt (g := gb136) (o := .cells #[.bool false, .slice none 0 0, .int .i64 0] 24 (0, 0)) (by (with_reducible repeat (first | refine blk_drewN ?_ _ | refine blk_drew ?_ | refine blk_alloc ?_ _)); exact BK136.out)) : gb136 ≠ gb138)); have n9_ := Aside0.mk ((by rw [hg]; exact Nat.ne_of_gt (blk_lt (g := gb136) (o := .cells #[.bool false, .slice none 0 0, .int .i64 0] 24 (0, 0)) (by (with_reducible repeat (first | refine blk_drewN ?_ _ | refine blk_drew ?_ | refine blk_alloc ?_ _)); exact BK136.out)) : gb138 ≠ gb136)); clear BK135; clear BK136; clear HB; have BK135 := n0_; have BK136 := n1_; have HB := n2_; have BK138 := n3_; have GW138 := n4_; have GE138 := n5_; have NB135_138 := n6_; have NB138_135 := n7_; have NB136_138 := n8_; have NB138_136 := n9_; clear n0_ n1_ n2_ n3_ n4_ n5_ n6_ n7_ n8_ n9_; clear hb hbox hg; have hnb12 := NB138_135.out; have hnc12 := NB135_138.out; have hnb13 := NB138_136.out; have hnc13 := NB136_138.out; have hcz14_0 : w11.cell? ⟨gb138, 0, none⟩ = some (.bool false) := (blk_cell BK138.out 0).trans rfl; have hcz14_1 : w11.cell? ⟨gb138, 1, none⟩ = some (.slice none 0 0) := (blk_cell BK138.out 1).trans rfl; have hcz14_2 : w11.cell? ⟨gb138, 2, none⟩ = some (.int .i64 0) := (blk_cell BK138.out 2).trans rfl; have hfz14_0 := blk_frozen BK138.out 0; have hfz14_1 := blk_frozen BK138.out 1; have hfz14_2 := blk_frozen BK138.out 2))
  go_loopg [7] k (fun kq v7 w' => ∃ (x7_1 : Int) (x139001_1 : List (S37)) (u139001 : Value), v7 = .int .i64 x7_1 ∧ Aside0 (erasureref19_Cut.l0 kq l1 x7_1 a0_0 l0_1 a0_2 a0_0 x139001_1 0 = some (r1, r2, r3, r4)) ∧ Aside0 (kq ≤ k) ∧ Aside0 (Kd.R k37 37 w' w.heap.size (fun _ => True) u139001 x139001_1) ∧ Aside0 (w'.heap[gb135]? = some (.cells #[.bool a0_0, (.slice A0_1 l0_1.length c0_1), .int .i64 a0_2] 24 (0, 0))) ∧ Aside0 (w'.heap[gb136]? = some (.cells #[.bool false, (.slice none 0 0), .int .i64 0] 24 (0, 0))) ∧ Aside0 (w'.heap[gb138]? = some (.cells #[.bool a0_0, u139001, .int .i64 0] 24 (0, 0))) ∧ Aside0 (Below w.heap.size w w'))
  case atStart => exact ⟨(0), (([] : List (S37))), (.slice none 0 0), (by first | rfl | (simp; done) | (simp [*]; done)), H', ⟨Nat.le_refl _⟩, ⟨by first | exact Kd.R_nil _ _ _ _ _ | exact Kd.N_nil _ _ _ _ _ | exact Kd.V_nil _ _ _ _ _ | exact Kd.Q_nil _ _ _ _ _ | exact Kd.S_nil _ _ _ _ _⟩, ⟨by (with_reducible repeat (first | refine blk_drewN ?_ _ | refine blk_drew ?_ | refine blk_alloc ?_ _)); refine blk_far ?_ NB135_138.out _; (with_reducible repeat (first | refine blk_drewN ?_ _ | refine blk_drew ?_ | refine blk_alloc ?_ _)); refine blk_far ?_ NB135_138.out _; (with_reducible repeat (first | refine blk_drewN ?_ _ | refine blk_drew ?_ | refine blk_alloc ?_ _)); refine blk_far ?_ NB135_138.out _; (with_reducible repeat (first | refine blk_drewN ?_ _ | refine blk_drew ?_ | refine blk_alloc ?_ _)); exact BK135.out⟩, ⟨by (with_reducible repeat (first | refine blk_drewN ?_ _ | refine blk_drew ?_ | refine blk_alloc ?_ _)); refine blk_far ?_ NB136_138.out _; (with_reducible repeat (first | refine blk_drewN ?_ _ | refine blk_drew ?_ | refine blk_alloc ?_ _)); refine blk_far ?_ NB136_138.out _; (with_reducible repeat (first | refine blk_drewN ?_ _ | refine blk_drew ?_ | refine blk_alloc ?_ _)); refine blk_far ?_ NB136_138.out _; (with_reducible repeat (first | refine blk_drewN ?_ _ | refine blk_drew ?_ | refine blk_alloc ?_ _)); exact BK136.out⟩, ⟨by (with_reducible repeat (first | refine blk_drewN ?_ _ | refine blk_drew ?_ | refine blk_alloc ?_ _)); refine blk_put (cs := #[.bool a0_0, .slice none 0 0, .int .i64 0]) ?_ 2 _ rfl; (with_reducible repeat (first | refine blk_drewN ?_ _ | refine blk_drew ?_ | refine blk_alloc ?_ _)); refine blk_put (cs := #[.bool a0_0, .slice none 0 0, .int .i64 0]) ?_ 1 _ rfl; (with_reducible repeat (first | refine blk_drewN ?_ _ | refine blk_drew ?_ | refine blk_alloc ?_ _)); refine blk_put (cs := #[.bool false, .slice none 0 0, .int .i64 0]) ?_ 0 _ rfl; (with_reducible repeat (first | refine blk_drewN ?_ _ | refine blk_drew ?_ | refine blk_alloc ?_ _)); exact BK138.out⟩, ⟨by repeat (first | (with_reducible first | exact HB.out | apply below_alloc | apply pw_below_drewN | apply below_drew1 | refine below_set ?_ GE135.out | refine below_set ?_ GE136.out | refine below_set ?_ GE138.out) | exact HB.out)⟩⟩
  case round =>
   clear H'
   try clear c1
   try clear c2
   try clear p2
   try clear c4
   try clear c7
   try clear c12
   try clear c13
   try clear hcz10_0
   try clear hcz10_1
   try clear hcz10_2
   try clear hcz14_0
   try clear hcz14_1
   try clear hcz14_2
   try clear hcz8_0
   try clear hcz8_1
   try clear hcz8_2
   try clear hfz10_0
   try clear hfz10_1
   try clear hfz10_2
   try clear hfz14_0
   try clear hfz14_1
   try clear hfz14_2
   try clear hfz8_0
   try clear hfz8_1
   try clear hfz8_2
   obtain ⟨x7_1, x139001_1, u139001, rfl, HA, HK1, HO_139001, BK135, BK136, BK138, HB⟩ := hrel
   cases gk with
   | zero => exact absurd HA.out (by simp [erasureref19_Cut.l0])
   | succ k1 =>
    have H := HA.out
    clear HA
    simp only [erasureref19_Cut.l0] at H
    by_cases c15 : x7_1 < (l1.length : Int)
    ·rw [if_pos c15] at H
     have c15b0 : decide (x7_1 < (l1.length : Int)) = true := decide_eq_true c15
     clear c15
     by_cases c16 : 0 ≤ x7_1
     ·rw [if_pos c16] at H
      have c16b0 : decide (0 ≤ x7_1) = true := decide_eq_true c16
      clear c16
      replace H := Option.bind_eq_some_iff.mp H
      obtain ⟨t140, A170, H⟩ := H
      replace H : (if t140 = true then ((erasureref19_Find.f k1 a0_0 l0_1 a0_2 (rd l1 x7_1)).bind fun bt142 => (erasureref19_Cut.l1 k1 l1 x7_1 (decide (a0_2 > 0)) 0 a0_0 l0_1 a0_2 a0_0 x139001_1 0 bt142.1 bt142.2.1 bt142.2.2)) else (erasureref19_Cut.l0 k1 l1 (wrap64 (x7_1 + 1)) a0_0 l0_1 a0_2 a0_0 x139001_1 0)) = some (r1, r2, r3, r4) := H
      have A17 := Aside0.mk A170
      clear A170
      by_cases c18 : t140 = true
      ·subst c18
       have H1 : ((erasureref19_Find.f k1 a0_0 l0_1 a0_2 (rd l1 x7_1)).bind fun bt142 => (erasureref19_Cut.l1 k1 l1 x7_1 (decide (a0_2 > 0)) 0 a0_0 l0_1 a0_2 a0_0 x139001_1 0 bt142.1 bt142.2.1 bt142.2.2)) = some (r1, r2, r3, r4) := by rw [if_pos rfl] at H; exact H
       clear H
       have H := H1
       clear H1
       replace H := Option.bind_eq_some_iff.mp H
       obtain ⟨⟨t142, t143, t144⟩, A190, H⟩ := H
       replace H : (erasureref19_Cut.l1 k1 l1 x7_1 (decide (a0_2 > 0)) 0 a0_0 l0_1 a0_2 a0_0 x139001_1 0 t142 t143 t144) = some (r1, r2, r3, r4) := H
       have A19 := Aside0.mk A190
       clear A190
       have H' := Aside0.mk H
       clear H
       try go_wp2
       have n0_ := Aside0.mk (Kd.R_drew HO_139001.out)
       have n1_ := Aside0.mk (blk_drew BK135.out)
       have n2_ := Aside0.mk (blk_drew BK136.out)
       have n3_ := Aside0.mk (blk_drew BK138.out)
       have n4_ := Aside0.mk (below_drew1 HB.out)
       clear HO_139001
       clear BK135
       clear BK136
       clear BK138
       clear HB
       have HO_139001 := n0_
       have BK135 := n1_
       have BK136 := n2_
       have BK138 := n3_
       have HB := n4_
       clear n0_ n1_ n2_ n3_ n4_
       have p139 : 0 ≤ (x7_1 : Int) := of_decide_eq_true (by first | (with_reducible assumption) | assumption)
       have q139 : x7_1 < (l1.length : Int) := of_decide_eq_true (by first | (with_reducible assumption) | assumption)
       obtain ⟨ad139, e139, hx139_0⟩ := Kd.at_int HR1.out x7_1 p139 q139
       have hw139_0 := hx139_0
       cases e139
       replace hx139_0 := (HB.out.cell (World.block_lt_of_cell? w _ hx139_0)).trans hx139_0
       replace p139 := eq_true p139
       replace q139 := eq_true q139
       refine start_ (n := 7) (S := fun w' => w'.cell? ⟨gb135, 0, none⟩ = some (.bool a0_0) ∧ w'.cell? ⟨gb135, 1, none⟩ = some (.slice A0_1 l0_1.length c0_1) ∧ w'.cell? ⟨gb135, 2, none⟩ = some (.int .i64 a0_2) ∧ w'.cell? (ad139.add (x7_1).toNat) = some (.int .i64 (rd l1 x7_1))) (ds := []) (tk_ 7 0) (by kernel_rfl) rfl (by kernel_rfl) ⟨(blk_cell BK135.out 0).trans rfl, (blk_cell BK135.out 1).trans rfl, (blk_cell BK135.out 2).trans rfl, ((HB.out.cell (World.block_lt_of_cell? w _ hw139_0)).trans hw139_0)⟩ (fun hHeld => ?_)
       generalize wr.drew = w20 at HO_139001 BK135 BK136 BK138 HB hx139_0 hHeld ⊢
       refine pure_ (i := 1) (N := some 27) (v := ?_) (a' := ?_) (tk_ 7 2) rfl rfl (by kernel_rfl) (fun _ _ _ h => h) (Or.inl ⟨by rfl, ?_⟩) ?_ ?_
       rotate_left
       ·intro w'
        go_simp
        with_reducible rfl
       rotate_left
       ·simp only [Act.put, List.setIfInBounds_toArray, List.set_cons_zero, List.set_cons_succ, i64_w, i32_w]
        rfl
       refine pure_ (i := 2) (N := some 28) (v := ?_) (a' := ?_) (tk_ 7 6) rfl rfl (by kernel_rfl) (fun _ _ _ h => h) (Or.inl ⟨by rfl, ?_⟩) ?_ ?_
       rotate_left
       ·intro w'
        go_simp
        with_reducible rfl
       rotate_left
       ·simp only [Act.put, List.setIfInBounds_toArray, List.set_cons_zero, List.set_cons_succ, i64_w, i32_w]
        rfl
       refine pure_ (i := 3) (N := some 29) (v := ?_) (a' := ?_) (tk_ 7 14) rfl rfl (by kernel_rfl) (fun _ _ _ h => h) (Or.inl ⟨by rfl, ?_⟩) ?_ ?_
       rotate_left
       ·intro w'
        go_simp
        with_reducible rfl
       rotate_left
       ·simp only [Act.put, List.setIfInBounds_toArray, List.set_cons_zero, List.set_cons_succ, i64_w, i32_w]
        rfl
       refine take_ (i := 0) (N := some 26) (v := ?_) (a' := ?_) (tk_ 7 15) rfl rfl (by kernel_rfl) (fun _ _ _ h => h) (Or.inl ⟨by rfl, ?_⟩) hHeld ?_ ?_
       rotate_left
       ·rintro w' ⟨s0, s1, s2, s3⟩
        go_simp
        with_reducible rfl
       rotate_left
       ·simp only [Act.put, List.setIfInBounds_toArray, List.set_cons_zero, List.set_cons_succ, i64_w, i32_w]
        rfl
       refine take_ (i := 4) (N := some 30) (v := ?_) (a' := ?_) (tk_ 7 31) rfl rfl (by kernel_rfl) (fun _ _ _ h => h) (Or.inl ⟨by rfl, ?_⟩) hHeld ?_ ?_
       rotate_left
       ·rintro w' ⟨s0, s1, s2, s3⟩
        go_simp
        with_reducible rfl
       rotate_left
       ·simp only [Act.put, List.setIfInBounds_toArray, List.set_cons_zero, List.set_cons_succ, i64_w, i32_w]
        rfl
       refine one_ (i := 5) (N := some 31) (tk_ 7 63) rfl rfl (by kernel_rfl) (by decide) (fun K hK => ?_)
       refine goes_ Try.func34 (by kernel_rfl) rfl #[.agg #[.bool a0_0, .slice A0_1 l0_1.length c0_1, .int .i64 a0_2], .int .i64 (rd l1 x7_1)] (by rfl) rfl rfl (by (try simp only [List.map_toArray, List.map_cons, List.map_nil]); first | done | rfl | (simp only [List.length_drop, List.length_take]; rfl)) ?_
       with_reducible refine (erasureref19_code.calls a0_0 _ _ l0_1 a0_2 (rd l1 x7_1) true _ ?side1 ?side2 A17.out).mono ?_
       (case side1 => repeat (first | exact (Kd.C_below HR0_1.out HB.out) | (with_reducible refine Kd.C_alloc ?_ _) | (with_reducible refine Kd.C_drewN ?_ _) | (with_reducible refine Kd.C_drew ?_)))
       (case side2 => exact HC0_1.out)
       rintro e w21 ⟨rfl, hb⟩
       refine ⟨_, rfl, ?_⟩
       have n0_ := Aside0.mk (Kd.R_below (by (with_reducible repeat (first | apply Kd.R_alloc | apply Kd.R_drewN | apply Kd.R_drew)); exact HO_139001.out) hb)
       have n1_ := Aside0.mk (blk_below (g := gb135) (o := .cells #[.bool a0_0, .slice A0_1 l0_1.length c0_1, .int .i64 a0_2] 24 (0, 0)) (by (with_reducible repeat (first | refine blk_drewN ?_ _ | refine blk_drew ?_ | refine blk_alloc ?_ _)); exact BK135.out) hb)
       have n2_ := Aside0.mk (blk_below (g := gb136) (o := .cells #[.bool false, .slice none 0 0, .int .i64 0] 24 (0, 0)) (by (with_reducible repeat (first | refine blk_drewN ?_ _ | refine blk_drew ?_ | refine blk_alloc ?_ _)); exact BK136.out) hb)
       have n3_ := Aside0.mk (blk_below (g := gb138) (o := .cells #[.bool a0_0, u139001, .int .i64 0] 24 (0, 0)) (by (with_reducible repeat (first | refine blk_drewN ?_ _ | refine blk_drew ?_ | refine blk_alloc ?_ _)); exact BK138.out) hb)
       have n4_ := Aside0.mk (below_step (by repeat (first | (with_reducible first | exact HB.out | apply below_alloc | apply pw_below_drewN | apply below_drew1 | refine below_set ?_ GE135.out | refine below_set ?_ GE136.out | refine below_set ?_ GE138.out) | exact HB.out)) hb)
       clear HO_139001
       clear BK135
       clear BK136
       clear BK138
       clear HB
       have HO_139001 := n0_
       have BK135 := n1_
       have BK136 := n2_
       have BK138 := n3_
       have HB := n4_
       clear n0_ n1_ n2_ n3_ n4_
       (try clear hb)
       (try clear hb2)
       (try clear hk)
       (try clear hi)
       refine hK.out _ _ ⟨(blk_cell BK135.out 0).trans rfl, (blk_cell BK135.out 1).trans rfl, (blk_cell BK135.out 2).trans rfl, ((HB.out.cell (World.block_lt_of_cell? w _ hw139_0)).trans hw139_0)⟩ (fun hHeld => ?_)
       clear hK K
       refine norm_ (by show Act.put _ (some 31) _ = _; simp only [s0_, s1_, s2_, s3_, s4_, s5_]; rfl) ?_
       refine pure_ (i := 6) (N := some 32) (v := ?_) (a' := ?_) (tk_ 7 127) rfl rfl (by kernel_rfl) (fun _ _ _ h => h) (Or.inl ⟨by rfl, ?_⟩) ?_ ?_
       rotate_left
       ·intro w'
        go_simp
        with_reducible rfl
       rotate_left
       ·simp only [Act.put, List.setIfInBounds_toArray, List.set_cons_zero, List.set_cons_succ, i64_w, i32_w]
        rfl
       refine done_ (by kernel_rfl) ?_
       try go_wp2
       have n0_ := Aside0.mk (Kd.R_drew HO_139001.out)
       have n1_ := Aside0.mk (blk_drew BK135.out)
       have n2_ := Aside0.mk (blk_drew BK136.out)
       have n3_ := Aside0.mk (blk_drew BK138.out)
       have n4_ := Aside0.mk (below_drew1 HB.out)
       clear HO_139001
       clear BK135
       clear BK136
       clear BK138
       clear HB
       have HO_139001 := n0_
       have BK135 := n1_
       have BK136 := n2_
       have BK138 := n3_
       have HB := n4_
       clear n0_ n1_ n2_ n3_ n4_
       have p141 : 0 ≤ (x7_1 : Int) := of_decide_eq_true (by first | (with_reducible assumption) | assumption)
       have q141 : x7_1 < (l1.length : Int) := of_decide_eq_true (by first | (with_reducible assumption) | assumption)
       obtain ⟨ad141, e141, hx141_0⟩ := Kd.at_int HR1.out x7_1 p141 q141
       have hw141_0 := hx141_0
       obtain rfl : ad139 = ad141 := (by injection e141)
       replace hx141_0 := (HB.out.cell (World.block_lt_of_cell? w _ hx141_0)).trans hx141_0
       replace p141 := eq_true p141
       replace q141 := eq_true q141
       refine start_ (n := 8) (S := fun w' => w'.cell? ⟨gb135, 0, none⟩ = some (.bool a0_0) ∧ w'.cell? ⟨gb135, 1, none⟩ = some (.slice A0_1 l0_1.length c0_1) ∧ w'.cell? ⟨gb135, 2, none⟩ = some (.int .i64 a0_2) ∧ w'.cell? (ad139.add (x7_1).toNat) = some (.int .i64 (rd l1 x7_1))) (ds := []) (tk_ 8 0) (by kernel_rfl) rfl (by kernel_rfl) ⟨(blk_cell BK135.out 0).trans rfl, (blk_cell BK135.out 1).trans rfl, (blk_cell BK135.out 2).trans rfl, ((HB.out.cell (World.block_lt_of_cell? w _ hw141_0)).trans hw141_0)⟩ (fun hHeld => ?_); refine with_tabW erasureref19_Cut.tab8 erasureref19_Cut.bits8 (fun HT_ HW_ => ?_)
       generalize w21.drew = w22 at HO_139001 BK135 BK136 BK138 HB hx141_0 hHeld ⊢
       refine pu_ 1 34 (tk_ 8 2) HT_.out rfl rfl (by kernel_rfl) (fun _ _ _ h => h) (by rfl) (fun w' => by go_simp; with_reducible rfl) (by simp only [s0_, s1_, s2_, s3_, s4_, s5_]; rfl) ?_
       refine pu_ 2 35 (tk_ 8 6) HT_.out rfl rfl (by kernel_rfl) (fun _ _ _ h => h) (by rfl) (fun w' => by go_simp; with_reducible rfl) (by simp only [s0_, s1_, s2_, s3_, s4_, s5_]; rfl) ?_
       refine pu_ 3 36 (tk_ 8 14) HT_.out rfl rfl (by kernel_rfl) (fun _ _ _ h => h) (by rfl) (fun w' => by go_simp; with_reducible rfl) (by simp only [s0_, s1_, s2_, s3_, s4_, s5_]; rfl) ?_
       refine ta_ 0 33 (tk_ 8 15) HT_.out HW_.out rfl rfl (by kernel_rfl) (fun _ _ _ h => h) (by rfl) (by rintro w' ⟨s0, s1, s2, s3⟩; go_simp; with_reducible rfl) hHeld (by simp only [s0_, s1_, s2_, s3_, s4_, s5_]; rfl) ?_
       refine ta_ 4 37 (tk_ 8 31) HT_.out HW_.out rfl rfl (by kernel_rfl) (fun _ _ _ h => h) (by rfl) (by rintro w' ⟨s0, s1, s2, s3⟩; go_simp; with_reducible rfl) hHeld (by simp only [s0_, s1_, s2_, s3_, s4_, s5_]; rfl) ?_
       refine join_ (σ := Nat) 1 (tk_ 8 127) (fun s_ => [(38, .agg #[.int .i64 t142, .int .i64 t143, .string t144]), (8, .pointer (some ⟨s_, 0, none⟩))]) (fun s_ w' => (w'.cell? ⟨gb135, 0, none⟩ = some (.bool a0_0) ∧ w'.cell? ⟨gb135, 1, none⟩ = some (.slice A0_1 l0_1.length c0_1) ∧ w'.cell? ⟨gb135, 2, none⟩ = some (.int .i64 a0_2) ∧ w'.cell? (ad139.add (x7_1).toNat) = some (.int .i64 (rd l1 x7_1))) ∧ (Kd.R k37 37 w' w.heap.size (fun k_ => k_ ≠ s_) u139001 x139001_1) ∧ (w'.heap[gb135]? = some (.cells #[.bool a0_0, .slice A0_1 l0_1.length c0_1, .int .i64 a0_2] 24 (0, 0))) ∧ (w'.heap[gb136]? = some (.cells #[.bool false, .slice none 0 0, .int .i64 0] 24 (0, 0))) ∧ (w'.heap[gb138]? = some (.cells #[.bool a0_0, u139001, .int .i64 0] 24 (0, 0))) ∧ (w'.heap[s_]? = some (.cells #[.int .i64 0, .int .i64 0, .string (⟨#[]⟩ : ByteArray)] 37 (0, 0))) ∧ (w.heap.size ≤ s_) ∧ (w.heap.size ≤ s_) ∧ (gb135 ≠ s_) ∧ (s_ ≠ gb135) ∧ (gb136 ≠ s_) ∧ (s_ ≠ gb136) ∧ (gb138 ≠ s_) ∧ (s_ ≠ gb138) ∧ (Below w.heap.size w w')) ?_ ?_
       rotate_left
       ·intro hCont
        refine two_ (i := 5) (j := 6) (Ni := some 38) (Nj := some 8) (tk_ 8 63) (tk_ 8 95) rfl rfl rfl rfl (two_of HT_.out (by kernel_rfl)) (by decide) (by decide) (fun K hK => ?_) (fun K hK => ?_)
        ·skip
         refine goes_ Try.func19 (by kernel_rfl) rfl #[.agg #[.bool a0_0, .slice A0_1 l0_1.length c0_1, .int .i64 a0_2], .int .i64 (rd l1 x7_1)] (by rfl) rfl rfl (by (try simp only [List.map_toArray, List.map_cons, List.map_nil]); first | done | rfl | (simp only [List.length_drop, List.length_take]; rfl)) ?_
         with_reducible refine (erasureref19_Find.calls k1 a0_0 _ _ l0_1 a0_2 (rd l1 x7_1) t142 t143 t144 _ ?side1 ?side2 A19.out).mono ?_
         (case side1 => repeat (first | exact (Kd.C_below HR0_1.out HB.out) | (with_reducible refine Kd.C_alloc ?_ _) | (with_reducible refine Kd.C_drewN ?_ _) | (with_reducible refine Kd.C_drew ?_)))
         (case side2 => exact HC0_1.out)
         rintro e w23 ⟨rfl, hb⟩
         refine ⟨_, rfl, ?_⟩
         have n0_ := Aside0.mk (Kd.R_below (by (with_reducible repeat (first | apply Kd.R_alloc | apply Kd.R_drewN | apply Kd.R_drew)); exact HO_139001.out) hb)
         have n1_ := Aside0.mk (blk_below (g := gb135) (o := .cells #[.bool a0_0, .slice A0_1 l0_1.length c0_1, .int .i64 a0_2] 24 (0, 0)) (by (with_reducible repeat (first | refine blk_drewN ?_ _ | refine blk_drew ?_ | refine blk_alloc ?_ _)); exact BK135.out) hb)
         have n2_ := Aside0.mk (blk_below (g := gb136) (o := .cells #[.bool false, .slice none 0 0, .int .i64 0] 24 (0, 0)) (by (with_reducible repeat (first | refine blk_drewN ?_ _ | refine blk_drew ?_ | refine blk_alloc ?_ _)); exact BK136.out) hb)
         have n3_ := Aside0.mk (blk_below (g := gb138) (o := .cells #[.bool a0_0, u139001, .int .i64 0] 24 (0, 0)) (by (with_reducible repeat (first | refine blk_drewN ?_ _ | refine blk_drew ?_ | refine blk_alloc ?_ _)); exact BK138.out) hb)
         have n4_ := Aside0.mk (below_step (by repeat (first | (with_reducible first | exact HB.out | apply below_alloc | apply pw_below_drewN | apply below_drew1 | refine below_set ?_ GE135.out | refine below_set ?_ GE136.out | refine below_set ?_ GE138.out) | exact HB.out)) hb)
         clear HO_139001
         clear BK135
         clear BK136
         clear BK138
         clear HB
         have HO_139001 := n0_
         have BK135 := n1_
         have BK136 := n2_
         have BK138 := n3_
         have HB := n4_
         clear n0_ n1_ n2_ n3_ n4_
         (try clear hb)
         (try clear hb2)
         (try clear hk)
         (try clear hi)
         refine hK.out _ _ ⟨(blk_cell BK135.out 0).trans rfl, (blk_cell BK135.out 1).trans rfl, (blk_cell BK135.out 2).trans rfl, ((HB.out.cell (World.block_lt_of_cell? w _ hw141_0)).trans hw141_0)⟩ (fun hHeld => ?_)
         clear hK K
         refine norm_ (by show Act.put _ (some 38) _ = _; simp only [s0_, s1_, s2_, s3_, s4_, s5_]; rfl) ?_
         refine one_ (i := 6) (N := some 8) (tk_ 8 127) rfl rfl (one_of HT_.out (by kernel_rfl)) (by decide) (fun K hK => ?_)
         refine box_step ?hg (N := 8) ?hd (cs := #[.int .i64 0, .int .i64 0, .string (⟨#[]⟩ : ByteArray)]) (t := 37) ?hr ?_; (case hd => rfl); (case hg => rfl); (case hr => first | (go_simp; done) | (go_simp; rfl))
         intro gb145 hg w24 hbox hb
         have n0_ := Aside0.mk (Kd.R_below (Kd.R_elderB (by (with_reducible repeat (first | apply Kd.R_alloc | apply Kd.R_drewN | apply Kd.R_drew)); exact HO_139001.out) gb145 (Nat.le_of_eq hg.symm)) hb)
         have n1_ := Aside0.mk (blk_below (g := gb135) (o := .cells #[.bool a0_0, .slice A0_1 l0_1.length c0_1, .int .i64 a0_2] 24 (0, 0)) (by (with_reducible repeat (first | refine blk_drewN ?_ _ | refine blk_drew ?_ | refine blk_alloc ?_ _)); exact BK135.out) hb)
         have n2_ := Aside0.mk (blk_below (g := gb136) (o := .cells #[.bool false, .slice none 0 0, .int .i64 0] 24 (0, 0)) (by (with_reducible repeat (first | refine blk_drewN ?_ _ | refine blk_drew ?_ | refine blk_alloc ?_ _)); exact BK136.out) hb)
         have n3_ := Aside0.mk (blk_below (g := gb138) (o := .cells #[.bool a0_0, u139001, .int .i64 0] 24 (0, 0)) (by (with_reducible repeat (first | refine blk_drewN ?_ _ | refine blk_drew ?_ | refine blk_alloc ?_ _)); exact BK138.out) hb)
         have n4_ := Aside0.mk (below_step (by repeat (first | (with_reducible first | exact HB.out | apply below_alloc | apply pw_below_drewN | apply below_drew1 | refine below_set ?_ GE135.out | refine below_set ?_ GE136.out | refine below_set ?_ GE138.out) | exact HB.out)) hb)
         have n5_ := Aside0.mk (hbox)
         have n6_ := Aside0.mk ((by rw [hg]; exact (below_size (by repeat (first | (with_reducible first | exact HB.out | apply below_alloc | apply pw_below_drewN | apply below_drew1 | refine below_set ?_ GE135.out | refine below_set ?_ GE136.out | refine below_set ?_ GE138.out) | exact HB.out))) : w.heap.size ≤ gb145))
         have n7_ := Aside0.mk ((by rw [hg]; exact (below_size (by repeat (first | (with_reducible first | exact HB.out | apply below_alloc | apply pw_below_drewN | apply below_drew1 | refine below_set ?_ GE135.out | refine below_set ?_ GE136.out | refine below_set ?_ GE138.out) | exact HB.out))) : w.heap.size ≤ gb145))
         have n8_ := Aside0.mk ((by rw [hg]; exact Nat.ne_of_lt (blk_lt (g := gb135) (o := .cells #[.bool a0_0, .slice A0_1 l0_1.length c0_1, .int .i64 a0_2] 24 (0, 0)) (by (with_reducible repeat (first | refine blk_drewN ?_ _ | refine blk_drew ?_ | refine blk_alloc ?_ _)); exact BK135.out)) : gb135 ≠ gb145))
         have n9_ := Aside0.mk ((by rw [hg]; exact Nat.ne_of_gt (blk_lt (g := gb135) (o := .cells #[.bool a0_0, .slice A0_1 l0_1.length c0_1, .int .i64 a0_2] 24 (0, 0)) (by (with_reducible repeat (first | refine blk_drewN ?_ _ | refine blk_drew ?_ | refine blk_alloc ?_ _)); exact BK135.out)) : gb145 ≠ gb135))
         have n10_ := Aside0.mk ((by rw [hg]; exact Nat.ne_of_lt (blk_lt (g := gb136) (o := .cells #[.bool false, .slice none 0 0, .int .i64 0] 24 (0, 0)) (by (with_reducible repeat (first | refine blk_drewN ?_ _ | refine blk_drew ?_ | refine blk_alloc ?_ _)); exact BK136.out)) : gb136 ≠ gb145))
         have n11_ := Aside0.mk ((by rw [hg]; exact Nat.ne_of_gt (blk_lt (g := gb136) (o := .cells #[.bool false, .slice none 0 0, .int .i64 0] 24 (0, 0)) (by (with_reducible repeat (first | refine blk_drewN ?_ _ | refine blk_drew ?_ | refine blk_alloc ?_ _)); exact BK136.out)) : gb145 ≠ gb136))
         have n12_ := Aside0.mk ((by rw [hg]; exact Nat.ne_of_lt (blk_lt (g := gb138) (o := .cells #[.bool a0_0, u139001, .int .i64 0] 24 (0, 0)) (by (with_reducible repeat (first | refine blk_drewN ?_ _ | refine blk_drew ?_ | refine blk_alloc ?_ _)); exact BK138.out)) : gb138 ≠ gb145))
         have n13_ := Aside0.mk ((by rw [hg]; exact Nat.ne_of_gt (blk_lt (g := gb138) (o := .cells #[.bool a0_0, u139001, .int .i64 0] 24 (0, 0)) (by (with_reducible repeat (first | refine blk_drewN ?_ _ | refine blk_drew ?_ | refine blk_alloc ?_ _)); exact BK138.out)) : gb145 ≠ gb138))
         clear HO_139001
         clear BK135
         clear BK136
         clear BK138
         clear HB
         have HO_139001 := n0_
         have BK135 := n1_
         have BK136 := n2_
         have BK138 := n3_
         have HB := n4_
         have BK145 := n5_
         have GW145 := n6_
         have GE145 := n7_
         have NB135_145 := n8_
         have NB145_135 := n9_
         have NB136_145 := n10_
         have NB145_136 := n11_
         have NB138_145 := n12_
         have NB145_138 := n13_
         clear n0_ n1_ n2_ n3_ n4_ n5_ n6_ n7_ n8_ n9_ n10_ n11_ n12_ n13_
         clear hb hbox hg
         refine hK.out _ _ ⟨(blk_cell BK135.out 0).trans rfl, (blk_cell BK135.out 1).trans rfl, (blk_cell BK135.out 2).trans rfl, ((HB.out.cell (World.block_lt_of_cell? w _ hw141_0)).trans hw141_0)⟩ (fun hHeld => ?_)
         clear hK K
         refine norm_ (by show Act.put _ (some 8) _ = _; simp only [s0_, s1_, s2_, s3_, s4_, s5_]; rfl) ?_
         exact norm_ (by simp only [putAll, Act.put, List.setIfInBounds_toArray, List.set_cons_zero, List.set_cons_succ]) (hCont (gb145) _ ⟨hHeld, (by (with_reducible repeat (first | apply Kd.R_alloc | apply Kd.R_drewN | apply Kd.R_drew)); exact Kd.R_mono HO_139001.out (fun _ hk => hk.2)), (by (with_reducible repeat (first | refine blk_drewN ?_ _ | refine blk_drew ?_ | refine blk_alloc ?_ _)); exact BK135.out), (by (with_reducible repeat (first | refine blk_drewN ?_ _ | refine blk_drew ?_ | refine blk_alloc ?_ _)); exact BK136.out), (by (with_reducible repeat (first | refine blk_drewN ?_ _ | refine blk_drew ?_ | refine blk_alloc ?_ _)); exact BK138.out), (by (with_reducible repeat (first | refine blk_drewN ?_ _ | refine blk_drew ?_ | refine blk_alloc ?_ _)); exact BK145.out), GW145.out, GE145.out, NB135_145.out, NB145_135.out, NB136_145.out, NB145_136.out, NB138_145.out, NB145_138.out, (by repeat (first | (with_reducible first | exact HB.out | apply below_alloc | apply pw_below_drewN | apply below_drew1 | refine below_set ?_ GE135.out | refine below_set ?_ GE136.out | refine below_set ?_ GE138.out | refine below_set ?_ GE145.out) | exact HB.out))⟩)
        ·skip
         refine box_step ?hg (N := 8) ?hd (cs := #[.int .i64 0, .int .i64 0, .string (⟨#[]⟩ : ByteArray)]) (t := 37) ?hr ?_; (case hd => rfl); (case hg => rfl); (case hr => first | (go_simp; done) | (go_simp; rfl))
         intro gb145 hg w23 hbox hb
         have n0_ := Aside0.mk (Kd.R_below (Kd.R_elderB (by (with_reducible repeat (first | apply Kd.R_alloc | apply Kd.R_drewN | apply Kd.R_drew)); exact HO_139001.out) gb145 (Nat.le_of_eq hg.symm)) hb)
         have n1_ := Aside0.mk (blk_below (g := gb135) (o := .cells #[.bool a0_0, .slice A0_1 l0_1.length c0_1, .int .i64 a0_2] 24 (0, 0)) (by (with_reducible repeat (first | refine blk_drewN ?_ _ | refine blk_drew ?_ | refine blk_alloc ?_ _)); exact BK135.out) hb)
         have n2_ := Aside0.mk (blk_below (g := gb136) (o := .cells #[.bool false, .slice none 0 0, .int .i64 0] 24 (0, 0)) (by (with_reducible repeat (first | refine blk_drewN ?_ _ | refine blk_drew ?_ | refine blk_alloc ?_ _)); exact BK136.out) hb)
         have n3_ := Aside0.mk (blk_below (g := gb138) (o := .cells #[.bool a0_0, u139001, .int .i64 0] 24 (0, 0)) (by (with_reducible repeat (first | refine blk_drewN ?_ _ | refine blk_drew ?_ | refine blk_alloc ?_ _)); exact BK138.out) hb)
         have n4_ := Aside0.mk (below_step (by repeat (first | (with_reducible first | exact HB.out | apply below_alloc | apply pw_below_drewN | apply below_drew1 | refine below_set ?_ GE135.out | refine below_set ?_ GE136.out | refine below_set ?_ GE138.out) | exact HB.out)) hb)
         have n5_ := Aside0.mk (hbox)
         have n6_ := Aside0.mk ((by rw [hg]; exact (below_size (by repeat (first | (with_reducible first | exact HB.out | apply below_alloc | apply pw_below_drewN | apply below_drew1 | refine below_set ?_ GE135.out | refine below_set ?_ GE136.out | refine below_set ?_ GE138.out) | exact HB.out))) : w.heap.size ≤ gb145))
         have n7_ := Aside0.mk ((by rw [hg]; exact (below_size (by repeat (first | (with_reducible first | exact HB.out | apply below_alloc | apply pw_below_drewN | apply below_drew1 | refine below_set ?_ GE135.out | refine below_set ?_ GE136.out | refine below_set ?_ GE138.out) | exact HB.out))) : w.heap.size ≤ gb145))
         have n8_ := Aside0.mk ((by rw [hg]; exact Nat.ne_of_lt (blk_lt (g := gb135) (o := .cells #[.bool a0_0, .slice A0_1 l0_1.length c0_1, .int .i64 a0_2] 24 (0, 0)) (by (with_reducible repeat (first | refine blk_drewN ?_ _ | refine blk_drew ?_ | refine blk_alloc ?_ _)); exact BK135.out)) : gb135 ≠ gb145))
         have n9_ := Aside0.mk ((by rw [hg]; exact Nat.ne_of_gt (blk_lt (g := gb135) (o := .cells #[.bool a0_0, .slice A0_1 l0_1.length c0_1, .int .i64 a0_2] 24 (0, 0)) (by (with_reducible repeat (first | refine blk_drewN ?_ _ | refine blk_drew ?_ | refine blk_alloc ?_ _)); exact BK135.out)) : gb145 ≠ gb135))
         have n10_ := Aside0.mk ((by rw [hg]; exact Nat.ne_of_lt (blk_lt (g := gb136) (o := .cells #[.bool false, .slice none 0 0, .int .i64 0] 24 (0, 0)) (by (with_reducible repeat (first | refine blk_drewN ?_ _ | refine blk_drew ?_ | refine blk_alloc ?_ _)); exact BK136.out)) : gb136 ≠ gb145))
         have n11_ := Aside0.mk ((by rw [hg]; exact Nat.ne_of_gt (blk_lt (g := gb136) (o := .cells #[.bool false, .slice none 0 0, .int .i64 0] 24 (0, 0)) (by (with_reducible repeat (first | refine blk_drewN ?_ _ | refine blk_drew ?_ | refine blk_alloc ?_ _)); exact BK136.out)) : gb145 ≠ gb136))
         have n12_ := Aside0.mk ((by rw [hg]; exact Nat.ne_of_lt (blk_lt (g := gb138) (o := .cells #[.bool a0_0, u139001, .int .i64 0] 24 (0, 0)) (by (with_reducible repeat (first | refine blk_drewN ?_ _ | refine blk_drew ?_ | refine blk_alloc ?_ _)); exact BK138.out)) : gb138 ≠ gb145))
         have n13_ := Aside0.mk ((by rw [hg]; exact Nat.ne_of_gt (blk_lt (g := gb138) (o := .cells #[.bool a0_0, u139001, .int .i64 0] 24 (0, 0)) (by (with_reducible repeat (first | refine blk_drewN ?_ _ | refine blk_drew ?_ | refine blk_alloc ?_ _)); exact BK138.out)) : gb145 ≠ gb138))
         clear HO_139001
         clear BK135
         clear BK136
         clear BK138
         clear HB
         have HO_139001 := n0_
         have BK135 := n1_
         have BK136 := n2_
         have BK138 := n3_
         have HB := n4_
         have BK145 := n5_
         have GW145 := n6_
         have GE145 := n7_
         have NB135_145 := n8_
         have NB145_135 := n9_
         have NB136_145 := n10_
         have NB145_136 := n11_
         have NB138_145 := n12_
         have NB145_138 := n13_
         clear n0_ n1_ n2_ n3_ n4_ n5_ n6_ n7_ n8_ n9_ n10_ n11_ n12_ n13_
         clear hb hbox hg
         refine hK.out _ _ ⟨(blk_cell BK135.out 0).trans rfl, (blk_cell BK135.out 1).trans rfl, (blk_cell BK135.out 2).trans rfl, ((HB.out.cell (World.block_lt_of_cell? w _ hw141_0)).trans hw141_0)⟩ (fun hHeld => ?_)
         clear hK K
         refine norm_ (by show Act.put _ (some 8) _ = _; simp only [s0_, s1_, s2_, s3_, s4_, s5_]; rfl) ?_
         refine one_ (i := 5) (N := some 38) (tk_ 8 127) rfl rfl (one_of HT_.out (by kernel_rfl)) (by decide) (fun K hK => ?_)
         refine goes_ Try.func19 (by kernel_rfl) rfl #[.agg #[.bool a0_0, .slice A0_1 l0_1.length c0_1, .int .i64 a0_2], .int .i64 (rd l1 x7_1)] (by rfl) rfl rfl (by (try simp only [List.map_toArray, List.map_cons, List.map_nil]); first | done | rfl | (simp only [List.length_drop, List.length_take]; rfl)) ?_
         with_reducible refine (erasureref19_Find.calls k1 a0_0 _ _ l0_1 a0_2 (rd l1 x7_1) t142 t143 t144 _ ?side1 ?side2 A19.out).mono ?_
         (case side1 => repeat (first | exact (Kd.C_below HR0_1.out HB.out) | (with_reducible refine Kd.C_alloc ?_ _) | (with_reducible refine Kd.C_drewN ?_ _) | (with_reducible refine Kd.C_drew ?_)))
         (case side2 => exact HC0_1.out)
         rintro e w24 ⟨rfl, hb⟩
         refine ⟨_, rfl, ?_⟩
         have n0_ := Aside0.mk (Kd.R_below (by (with_reducible repeat (first | apply Kd.R_alloc | apply Kd.R_drewN | apply Kd.R_drew)); exact HO_139001.out) hb)
         have n1_ := Aside0.mk (blk_below (g := gb135) (o := .cells #[.bool a0_0, .slice A0_1 l0_1.length c0_1, .int .i64 a0_2] 24 (0, 0)) (by (with_reducible repeat (first | refine blk_drewN ?_ _ | refine blk_drew ?_ | refine blk_alloc ?_ _)); exact BK135.out) hb)
         have n2_ := Aside0.mk (blk_below (g := gb136) (o := .cells #[.bool false, .slice none 0 0, .int .i64 0] 24 (0, 0)) (by (with_reducible repeat (first | refine blk_drewN ?_ _ | refine blk_drew ?_ | refine blk_alloc ?_ _)); exact BK136.out) hb)
         have n3_ := Aside0.mk (blk_below (g := gb138) (o := .cells #[.bool a0_0, u139001, .int .i64 0] 24 (0, 0)) (by (with_reducible repeat (first | refine blk_drewN ?_ _ | refine blk_drew ?_ | refine blk_alloc ?_ _)); exact BK138.out) hb)
         have n4_ := Aside0.mk (blk_below (g := gb145) (o := .cells #[.int .i64 0, .int .i64 0, .string (⟨#[]⟩ : ByteArray)] 37 (0, 0)) (by (with_reducible repeat (first | refine blk_drewN ?_ _ | refine blk_drew ?_ | refine blk_alloc ?_ _)); exact BK145.out) hb)
         have n5_ := Aside0.mk (below_step (by repeat (first | (with_reducible first | exact HB.out | apply below_alloc | apply pw_below_drewN | apply below_drew1 | refine below_set ?_ GE135.out | refine below_set ?_ GE136.out | refine below_set ?_ GE138.out | refine below_set ?_ GE145.out) | exact HB.out)) hb)
         clear HO_139001
         clear BK135
         clear BK136
         clear BK138
         clear BK145
         clear HB
         have HO_139001 := n0_
         have BK135 := n1_
         have BK136 := n2_
         have BK138 := n3_
         have BK145 := n4_
         have HB := n5_
         clear n0_ n1_ n2_ n3_ n4_ n5_
         (try clear hb)
         (try clear hb2)
         (try clear hk)
         (try clear hi)
         refine hK.out _ _ ⟨(blk_cell BK135.out 0).trans rfl, (blk_cell BK135.out 1).trans rfl, (blk_cell BK135.out 2).trans rfl, ((HB.out.cell (World.block_lt_of_cell? w _ hw141_0)).trans hw141_0)⟩ (fun hHeld => ?_)
         clear hK K
         refine norm_ (by show Act.put _ (some 38) _ = _; simp only [s0_, s1_, s2_, s3_, s4_, s5_]; rfl) ?_
         exact norm_ (by simp only [putAll, Act.put, List.setIfInBounds_toArray, List.set_cons_zero, List.set_cons_succ]) (hCont (gb145) _ ⟨hHeld, (by (with_reducible repeat (first | apply Kd.R_alloc | apply Kd.R_drewN | apply Kd.R_drew)); exact Kd.R_mono HO_139001.out (fun _ hk => hk.2)), (by (with_reducible repeat (first | refine blk_drewN ?_ _ | refine blk_drew ?_ | refine blk_alloc ?_ _)); exact BK135.out), (by (with_reducible repeat (first | refine blk_drewN ?_ _ | refine blk_drew ?_ | refine blk_alloc ?_ _)); exact BK136.out), (by (with_reducible repeat (first | refine blk_drewN ?_ _ | refine blk_drew ?_ | refine blk_alloc ?_ _)); exact BK138.out), (by (with_reducible repeat (first | refine blk_drewN ?_ _ | refine blk_drew ?_ | refine blk_alloc ?_ _)); exact BK145.out), GW145.out, GE145.out, NB135_145.out, NB145_135.out, NB136_145.out, NB145_136.out, NB138_145.out, NB145_138.out, (by repeat (first | (with_reducible first | exact HB.out | apply below_alloc | apply pw_below_drewN | apply below_drew1 | refine below_set ?_ GE135.out | refine below_set ?_ GE136.out | refine below_set ?_ GE138.out | refine below_set ?_ GE145.out) | exact HB.out))⟩)
       rintro gb145 w25 ⟨hS_, h0_, h1_, h2_, h3_, h4_, h5_, h6_, h7_, h8_, h9_, h10_, h11_, h12_, h13_⟩
       have n0_ : Aside0 (Kd.R k37 37 w25 w.heap.size (fun k_ => k_ ≠ gb145) u139001 x139001_1) := ⟨h0_⟩
       have n1_ : Aside0 (w25.heap[gb135]? = some (.cells #[.bool a0_0, .slice A0_1 l0_1.length c0_1, .int .i64 a0_2] 24 (0, 0))) := ⟨h1_⟩
       have n2_ : Aside0 (w25.heap[gb136]? = some (.cells #[.bool false, .slice none 0 0, .int .i64 0] 24 (0, 0))) := ⟨h2_⟩
       have n3_ : Aside0 (w25.heap[gb138]? = some (.cells #[.bool a0_0, u139001, .int .i64 0] 24 (0, 0))) := ⟨h3_⟩
       have n4_ : Aside0 (w25.heap[gb145]? = some (.cells #[.int .i64 0, .int .i64 0, .string (⟨#[]⟩ : ByteArray)] 37 (0, 0))) := ⟨h4_⟩
       have n5_ : Aside0 (w.heap.size ≤ gb145) := ⟨h5_⟩
       have n6_ : Aside0 (w.heap.size ≤ gb145) := ⟨h6_⟩
       have n7_ : Aside0 (gb135 ≠ gb145) := ⟨h7_⟩
       have n8_ : Aside0 (gb145 ≠ gb135) := ⟨h8_⟩
       have n9_ : Aside0 (gb136 ≠ gb145) := ⟨h9_⟩
       have n10_ : Aside0 (gb145 ≠ gb136) := ⟨h10_⟩
       have n11_ : Aside0 (gb138 ≠ gb145) := ⟨h11_⟩
       have n12_ : Aside0 (gb145 ≠ gb138) := ⟨h12_⟩
       have n13_ : Aside0 (Below w.heap.size w w25) := ⟨h13_⟩
       clear HO_139001
       clear BK135
       clear BK136
       clear BK138
       clear HB
       clear h0_ h1_ h2_ h3_ h4_ h5_ h6_ h7_ h8_ h9_ h10_ h11_ h12_ h13_
       have HO_139001 := n0_
       have BK135 := n1_
       have BK136 := n2_
       have BK138 := n3_
       have BK145 := n4_
       have GW145 := n5_
       have GE145 := n6_
       have NB135_145 := n7_
       have NB145_135 := n8_
       have NB136_145 := n9_
       have NB145_136 := n10_
       have NB138_145 := n11_
       have NB145_138 := n12_
       have HB := n13_
       clear n0_ n1_ n2_ n3_ n4_ n5_ n6_ n7_ n8_ n9_ n10_ n11_ n12_ n13_
       have hHeld : w25.cell? ⟨gb135, 0, none⟩ = some (.bool a0_0) ∧ w25.cell? ⟨gb135, 1, none⟩ = some (.slice A0_1 l0_1.length c0_1) ∧ w25.cell? ⟨gb135, 2, none⟩ = some (.int .i64 a0_2) ∧ w25.cell? (ad139.add (x7_1).toNat) = some (.int .i64 (rd l1 x7_1)) := hS_
       refine norm_ (a' := ?_) ?_ ?_
       rotate_left
       ·simp only [putAll, Act.put, List.setIfInBounds_toArray, List.set_cons_zero, List.set_cons_succ]
        rfl
       refine one_ (i := 7) (N := none) (tk_ 8 255) rfl rfl (one_of HT_.out (by kernel_rfl)) (by decide) (fun K hK => ?_)
       have hs26 : w25.cell? ⟨gb145, 0, none⟩ = some (.int .i64 0) := (blk_cell BK145.out 0).trans rfl
       have hfs26 := blk_frozen BK145.out 0
       have hns26_0 := NB135_145.out
       have hns26_1 := NB136_145.out
       have hns26_2 := NB138_145.out
       have hms26_0 := NB145_135.out
       have hms26_1 := NB145_136.out
       have hms26_2 := NB145_138.out
       have hs27 : w25.cell? ⟨gb145, 1, none⟩ = some (.int .i64 0) := (blk_cell BK145.out 1).trans rfl
       have hfs27 := blk_frozen BK145.out 1
       have hns27_0 := NB135_145.out
       have hns27_1 := NB136_145.out
       have hns27_2 := NB138_145.out
       have hms27_0 := NB145_135.out
       have hms27_1 := NB145_136.out
       have hms27_2 := NB145_138.out
       have hs28 : w25.cell? ⟨gb145, 2, none⟩ = some (.string (⟨#[]⟩ : ByteArray)) := (blk_cell BK145.out 2).trans rfl
       have hfs28 := blk_frozen BK145.out 2
       have hns28_0 := NB135_145.out
       have hns28_1 := NB136_145.out
       have hns28_2 := NB138_145.out
       have hms28_0 := NB145_135.out
       have hms28_1 := NB145_136.out
       have hms28_2 := NB145_138.out
       refine skip_ (w1 := ?_) (by rfl) rfl ?_ ?_
       rotate_left
       ·go_simp
        rfl
       refine hK.out _ _ ⟨((cell_far (p := ⟨gb145, _, none⟩) NB135_145.out _).trans (((cell_far (p := ⟨gb145, _, none⟩) NB135_145.out _).trans (((cell_far (p := ⟨gb145, _, none⟩) NB135_145.out _).trans (hHeld.1)))))), ((cell_far (p := ⟨gb145, _, none⟩) NB135_145.out _).trans (((cell_far (p := ⟨gb145, _, none⟩) NB135_145.out _).trans (((cell_far (p := ⟨gb145, _, none⟩) NB135_145.out _).trans (hHeld.2.1)))))), ((cell_far (p := ⟨gb145, _, none⟩) NB135_145.out _).trans (((cell_far (p := ⟨gb145, _, none⟩) NB135_145.out _).trans (((cell_far (p := ⟨gb145, _, none⟩) NB135_145.out _).trans (hHeld.2.2.1)))))), ((cell_far (p := ⟨gb145, _, none⟩) (by first | exact Nat.ne_of_lt (Nat.lt_of_lt_of_le (by have := World.block_lt_of_cell? _ _ hw141_0; first | rwa [add_block] at this | exact this) GW145.out) | (rw [add_block]; exact Nat.ne_of_lt (Nat.lt_of_lt_of_le (by have := World.block_lt_of_cell? _ _ hw141_0; first | rwa [add_block] at this | exact this) GW145.out)) | (show (Addr.add _ _).block ≠ _; rw [add_block]; exact Nat.ne_of_lt (Nat.lt_of_lt_of_le (by have := World.block_lt_of_cell? _ _ hw141_0; first | rwa [add_block] at this | exact this) GW145.out)) | (dsimp only; exact Nat.ne_of_lt (Nat.lt_of_lt_of_le (by have := World.block_lt_of_cell? _ _ hw141_0; first | rwa [add_block] at this | exact this) GW145.out))) _).trans (((cell_far (p := ⟨gb145, _, none⟩) (by first | exact Nat.ne_of_lt (Nat.lt_of_lt_of_le (by have := World.block_lt_of_cell? _ _ hw141_0; first | rwa [add_block] at this | exact this) GW145.out) | (rw [add_block]; exact Nat.ne_of_lt (Nat.lt_of_lt_of_le (by have := World.block_lt_of_cell? _ _ hw141_0; first | rwa [add_block] at this | exact this) GW145.out)) | (show (Addr.add _ _).block ≠ _; rw [add_block]; exact Nat.ne_of_lt (Nat.lt_of_lt_of_le (by have := World.block_lt_of_cell? _ _ hw141_0; first | rwa [add_block] at this | exact this) GW145.out)) | (dsimp only; exact Nat.ne_of_lt (Nat.lt_of_lt_of_le (by have := World.block_lt_of_cell? _ _ hw141_0; first | rwa [add_block] at this | exact this) GW145.out))) _).trans (((cell_far (p := ⟨gb145, _, none⟩) (by first | exact Nat.ne_of_lt (Nat.lt_of_lt_of_le (by have := World.block_lt_of_cell? _ _ hw141_0; first | rwa [add_block] at this | exact this) GW145.out) | (rw [add_block]; exact Nat.ne_of_lt (Nat.lt_of_lt_of_le (by have := World.block_lt_of_cell? _ _ hw141_0; first | rwa [add_block] at this | exact this) GW145.out)) | (show (Addr.add _ _).block ≠ _; rw [add_block]; exact Nat.ne_of_lt (Nat.lt_of_lt_of_le (by have := World.block_lt_of_cell? _ _ hw141_0; first | rwa [add_block] at this | exact this) GW145.out)) | (dsimp only; exact Nat.ne_of_lt (Nat.lt_of_lt_of_le (by have := World.block_lt_of_cell? _ _ hw141_0; first | rwa [add_block] at this | exact this) GW145.out))) _).trans (hHeld.2.2.2))))))⟩ (fun hHeld => ?_)
       clear hK K
       refine done_ (done_of HT_.out (by kernel_rfl)) ?_
       have hnb29 := NB135_136.out
       have hnc29 := NB136_135.out
       have hnb30 := NB135_138.out
       have hnc30 := NB138_135.out
       have hnb31 := NB135_145.out
       have hnc31 := NB145_135.out
       have hcz32_0 : w25.cell? ⟨gb135, 0, none⟩ = some (.bool a0_0) := (blk_cell BK135.out 0).trans rfl
       have hcz32_1 : w25.cell? ⟨gb135, 1, none⟩ = some (.slice A0_1 l0_1.length c0_1) := (blk_cell BK135.out 1).trans rfl
       have hcz32_2 : w25.cell? ⟨gb135, 2, none⟩ = some (.int .i64 a0_2) := (blk_cell BK135.out 2).trans rfl
       have hfz32_0 := blk_frozen BK135.out 0
       have hfz32_1 := blk_frozen BK135.out 1
       have hfz32_2 := blk_frozen BK135.out 2
       try go_wp2
       go_loopg [9, 10] k1 (fun kq v9 v10 w' => ∃ (x9_2 : Bool) (x10_2 : Int), v9 = .bool x9_2 ∧ v10 = .int .i64 x10_2 ∧ Aside0 (erasureref19_Cut.l1 kq l1 x7_1 x9_2 x10_2 a0_0 l0_1 a0_2 a0_0 x139001_1 0 t142 t143 t144 = some (r1, r2, r3, r4)) ∧ Aside0 (kq ≤ k1) ∧ Aside0 (Kd.R k37 37 w' w.heap.size (fun k_ => k_ ≠ gb145) u139001 x139001_1) ∧ Aside0 (w'.heap[gb135]? = some (.cells #[.bool a0_0, (.slice A0_1 l0_1.length c0_1), .int .i64 a0_2] 24 (0, 0))) ∧ Aside0 (w'.heap[gb136]? = some (.cells #[.bool false, (.slice none 0 0), .int .i64 0] 24 (0, 0))) ∧ Aside0 (w'.heap[gb138]? = some (.cells #[.bool a0_0, u139001, .int .i64 0] 24 (0, 0))) ∧ Aside0 (w'.heap[gb145]? = some (.cells #[.int .i64 t142, .int .i64 t143, .string t144] 37 (0, 0))) ∧ Aside0 (Below w.heap.size w w'))
       case atStart => exact ⟨(decide (a0_2 > 0)), (0), (by first | rfl | (simp; done) | (simp [*]; done)), (by first | rfl | (simp; done) | (simp [*]; done)), H', ⟨Nat.le_refl _⟩, ⟨by (with_reducible repeat (first | apply Kd.R_alloc | apply Kd.R_drewN | apply Kd.R_drew)); exact Kd.R_mono (Kd.R_far (p := ⟨gb145, 2, none⟩) (Kd.R_far (p := ⟨gb145, 1, none⟩) (Kd.R_far (p := ⟨gb145, 0, none⟩) (Kd.R_mono HO_139001.out (fun k_ hk => (⟨hk, hk⟩ : _ ∧ k_ ≠ gb145))) (fun _ hk => hk.2) (.int .i64 t142)) (fun _ hk => hk.2) (.int .i64 t143)) (fun _ hk => hk.2) (.string t144)) (fun _ hk => hk.1)⟩, ⟨by (with_reducible repeat (first | refine blk_drewN ?_ _ | refine blk_drew ?_ | refine blk_alloc ?_ _)); refine blk_far ?_ NB135_145.out _; (with_reducible repeat (first | refine blk_drewN ?_ _ | refine blk_drew ?_ | refine blk_alloc ?_ _)); refine blk_far ?_ NB135_145.out _; (with_reducible repeat (first | refine blk_drewN ?_ _ | refine blk_drew ?_ | refine blk_alloc ?_ _)); refine blk_far ?_ NB135_145.out _; (with_reducible repeat (first | refine blk_drewN ?_ _ | refine blk_drew ?_ | refine blk_alloc ?_ _)); exact BK135.out⟩, ⟨by (with_reducible repeat (first | refine blk_drewN ?_ _ | refine blk_drew ?_ | refine blk_alloc ?_ _)); refine blk_far ?_ NB136_145.out _; (with_reducible repeat (first | refine blk_drewN ?_ _ | refine blk_drew ?_ | refine blk_alloc ?_ _)); refine blk_far ?_ NB136_145.out _; (with_reducible repeat (first | refine blk_drewN ?_ _ | refine blk_drew ?_ | refine blk_alloc ?_ _)); refine blk_far ?_ NB136_145.out _; (with_reducible repeat (first | refine blk_drewN ?_ _ | refine blk_drew ?_ | refine blk_alloc ?_ _)); exact BK136.out⟩, ⟨by (with_reducible repeat (first | refine blk_drewN ?_ _ | refine blk_drew ?_ | refine blk_alloc ?_ _)); refine blk_far ?_ NB138_145.out _; (with_reducible repeat (first | refine blk_drewN ?_ _ | refine blk_drew ?_ | refine blk_alloc ?_ _)); refine blk_far ?_ NB138_145.out _; (with_reducible repeat (first | refine blk_drewN ?_ _ | refine blk_drew ?_ | refine blk_alloc ?_ _)); refine blk_far ?_ NB138_145.out _; (with_reducible repeat (first | refine blk_drewN ?_ _ | refine blk_drew ?_ | refine blk_alloc ?_ _)); exact BK138.out⟩, ⟨by (with_reducible repeat (first | refine blk_drewN ?_ _ | refine blk_drew ?_ | refine blk_alloc ?_ _)); refine blk_put (cs := #[.int .i64 t142, .int .i64 t143, .string (⟨#[]⟩ : ByteArray)]) ?_ 2 _ rfl; (with_reducible repeat (first | refine blk_drewN ?_ _ | refine blk_drew ?_ | refine blk_alloc ?_ _)); refine blk_put (cs := #[.int .i64 t142, .int .i64 0, .string (⟨#[]⟩ : ByteArray)]) ?_ 1 _ rfl; (with_reducible repeat (first | refine blk_drewN ?_ _ | refine blk_drew ?_ | refine blk_alloc ?_ _)); refine blk_put (cs := #[.int .i64 0, .int .i64 0, .string (⟨#[]⟩ : ByteArray)]) ?_ 0 _ rfl; (with_reducible repeat (first | refine blk_drewN ?_ _ | refine blk_drew ?_ | refine blk_alloc ?_ _)); exact BK145.out⟩, ⟨by repeat (first | (with_reducible first | exact HB.out | apply below_alloc | apply pw_below_drewN | apply below_drew1 | refine below_set ?_ GE135.out | refine below_set ?_ GE136.out | refine below_set ?_ GE138.out | refine below_set ?_ GE145.out) | exact HB.out)⟩⟩
       case round =>
        clear H'
        try clear c1
        try clear p1
        try clear q1
        try clear hx1
        try clear c2
        try clear p2
        try clear c3
        try clear c4
        try clear p6
        try clear c7
        try clear c12
        try clear c13
        try clear p13
        try clear q13
        try clear hx13
        try clear p14
        try clear q14
        try clear hx14
        try clear c15
        try clear c15b0
        try clear c16
        try clear c16b0
        try clear c17
        try clear c18
        try clear c19
        try clear c21
        try clear c29
        try clear c30
        try clear c31
        try clear hcz10_0
        try clear hcz10_1
        try clear hcz10_2
        try clear hcz14_0
        try clear hcz14_1
        try clear hcz14_2
        try clear hcz32_0
        try clear hcz32_1
        try clear hcz32_2
        try clear hcz8_0
        try clear hcz8_1
        try clear hcz8_2
        try clear hfz10_0
        try clear hfz10_1
        try clear hfz10_2
        try clear hfz14_0
        try clear hfz14_1
        try clear hfz14_2
        try clear hfz32_0
        try clear hfz32_1
        try clear hfz32_2
        try clear hfz8_0
        try clear hfz8_1
        try clear hfz8_2
        try clear hx139_0
        try clear hx141_0
        try clear p139
        try clear p141
        try clear p2
        try clear q139
        try clear q141
        obtain ⟨x9_2, x10_2, rfl, rfl, HA, HK2, HO_139001, BK135, BK136, BK138, BK145, HB⟩ := hrel
        cases gk with
        | zero => exact absurd HA.out (by simp [erasureref19_Cut.l1])
        | succ k2 =>
         have H := HA.out
         clear HA
         simp only [erasureref19_Cut.l1] at H
         by_cases c33 : x10_2 < (l0_1.length : Int)
         ·rw [if_pos c33] at H
          have c33b0 : decide (x10_2 < (l0_1.length : Int)) = true := decide_eq_true c33
          clear c33
          by_cases c34 : x9_2 = true
          ·subst c34
           have H1 : (erasureref19_Cut.l1 k2 l1 x7_1 true (wrap64 (x10_2 + 1)) a0_0 l0_1 a0_2 a0_0 x139001_1 0 t142 t143 t144) = some (r1, r2, r3, r4) := by rw [if_pos rfl] at H; exact H
           clear H
           have H := H1
           clear H1
           have H' := Aside0.mk H
           clear H
           have hnb35 := NB135_136.out
           have hnc35 := NB136_135.out
           have hnb36 := NB135_138.out
           have hnc36 := NB138_135.out
           have hnb37 := NB135_145.out
           have hnc37 := NB145_135.out
           have hcz38_0 : wr.cell? ⟨gb135, 0, none⟩ = some (.bool a0_0) := (blk_cell BK135.out 0).trans rfl
           have hcz38_1 : wr.cell? ⟨gb135, 1, none⟩ = some (.slice A0_1 l0_1.length c0_1) := (blk_cell BK135.out 1).trans rfl
           have hcz38_2 : wr.cell? ⟨gb135, 2, none⟩ = some (.int .i64 a0_2) := (blk_cell BK135.out 2).trans rfl
           have hfz38_0 := blk_frozen BK135.out 0
           have hfz38_1 := blk_frozen BK135.out 1
           have hfz38_2 := blk_frozen BK135.out 2
           try go_wp2
           have n0_ := Aside0.mk (Kd.R_drew HO_139001.out)
           have n1_ := Aside0.mk (blk_drew BK135.out)
           have n2_ := Aside0.mk (blk_drew BK136.out)
           have n3_ := Aside0.mk (blk_drew BK138.out)
           have n4_ := Aside0.mk (blk_drew BK145.out)
           have n5_ := Aside0.mk (below_drew1 HB.out)
           clear HO_139001
           clear BK135
           clear BK136
           clear BK138
           clear BK145
           clear HB
           have HO_139001 := n0_
           have BK135 := n1_
           have BK136 := n2_
           have BK138 := n3_
           have BK145 := n4_
           have HB := n5_
           clear n0_ n1_ n2_ n3_ n4_ n5_
           refine start_ (n := 13) (S := fun w' => True) (ds := []) (tk_ 13 0) (by kernel_rfl) rfl rfl trivial (fun hHeld => ?_); refine with_tabW erasureref19_Cut.tab13 erasureref19_Cut.bits13 (fun HT_ HW_ => ?_)
           generalize wr.drew = w39 at HO_139001 BK135 BK136 BK138 BK145 HB hHeld ⊢
           refine pu_ 0 49 (tk_ 13 1) HT_.out rfl rfl (by kernel_rfl) (fun _ _ _ h => h) (by rfl) (fun w' => by go_simp; with_reducible rfl) (by simp only [s0_, s1_, s2_, s3_, s4_, s5_]; rfl) ?_
           refine pu_ 1 50 (tk_ 13 3) HT_.out rfl rfl (by kernel_rfl) (fun _ _ _ h => h) (by rfl) (fun w' => by go_simp; with_reducible rfl) (by simp only [s0_, s1_, s2_, s3_, s4_, s5_]; rfl) ?_
           refine sk_ 2 51 (tk_ 13 7) HT_.out rfl rfl (by kernel_rfl) (fun _ _ _ h => h) (by rfl) (by simp only [s0_, s1_, s2_, s3_, s4_, s5_]; rfl) ?_
           refine sk_ 3 52 (tk_ 13 15) HT_.out rfl rfl (by kernel_rfl) (fun _ _ _ h => h) (by rfl) (by simp only [s0_, s1_, s2_, s3_, s4_, s5_]; rfl) ?_
           refine sk_ 4 53 (tk_ 13 31) HT_.out rfl rfl (by kernel_rfl) (fun _ _ _ h => h) (by rfl) (by simp only [s0_, s1_, s2_, s3_, s4_, s5_]; rfl) ?_
           refine sk_ 5 54 (tk_ 13 63) HT_.out rfl rfl (by kernel_rfl) (fun _ _ _ h => h) (by rfl) (by simp only [s0_, s1_, s2_, s3_, s4_, s5_]; rfl) ?_
           refine sk_ 6 55 (tk_ 13 127) HT_.out rfl rfl (by kernel_rfl) (fun _ _ _ h => h) (by rfl) (by simp only [s0_, s1_, s2_, s3_, s4_, s5_]; rfl) ?_
           refine sk_ 7 56 (tk_ 13 255) HT_.out rfl rfl (by kernel_rfl) (fun _ _ _ h => h) (by rfl) (by simp only [s0_, s1_, s2_, s3_, s4_, s5_]; rfl) ?_
           refine sk_ 8 57 (tk_ 13 511) HT_.out rfl rfl (by kernel_rfl) (fun _ _ _ h => h) (by rfl) (by simp only [s0_, s1_, s2_, s3_, s4_, s5_]; rfl) ?_
           refine sk_ 9 58 (tk_ 13 1023) HT_.out rfl rfl (by kernel_rfl) (fun _ _ _ h => h) (by rfl) (by simp only [s0_, s1_, s2_, s3_, s4_, s5_]; rfl) ?_
           refine sk_ 10 59 (tk_ 13 2047) HT_.out rfl rfl (by kernel_rfl) (fun _ _ _ h => h) (by rfl) (by simp only [s0_, s1_, s2_, s3_, s4_, s5_]; rfl) ?_
           refine pu_ 11 60 (tk_ 13 4095) HT_.out rfl rfl (by kernel_rfl) (fun _ _ _ h => h) (by rfl) (fun w' => by go_simp; with_reducible rfl) (by simp only [s0_, s1_, s2_, s3_, s4_, s5_]; rfl) ?_
           refine pu_ 12 9 (tk_ 13 8191) HT_.out rfl rfl (by kernel_rfl) (fun _ _ _ h => h) (by rfl) (fun w' => by go_simp; with_reducible rfl) (by simp only [s0_, s1_, s2_, s3_, s4_, s5_]; rfl) ?_
           refine done_ (done_of HT_.out (by kernel_rfl)) ?_
           try go_wp2
           go_roundg k2
           case measure => have := HK1.out; have := HK2.out; omega
           case rel => exact ⟨(true), (wrap64 (x10_2 + 1)), (by first | rfl | (simp; done) | (simp [*]; done)), (by first | rfl | (simp; done) | (simp [*]; done)), H', ⟨by have := HK1.out; have := HK2.out; omega⟩, ⟨by (with_reducible repeat (first | apply Kd.R_alloc | apply Kd.R_drewN | apply Kd.R_drew)); exact HO_139001.out⟩, ⟨by (with_reducible repeat (first | refine blk_drewN ?_ _ | refine blk_drew ?_ | refine blk_alloc ?_ _)); exact BK135.out⟩, ⟨by (with_reducible repeat (first | refine blk_drewN ?_ _ | refine blk_drew ?_ | refine blk_alloc ?_ _)); exact BK136.out⟩, ⟨by (with_reducible repeat (first | refine blk_drewN ?_ _ | refine blk_drew ?_ | refine blk_alloc ?_ _)); exact BK138.out⟩, ⟨by (with_reducible repeat (first | refine blk_drewN ?_ _ | refine blk_drew ?_ | refine blk_alloc ?_ _)); exact BK145.out⟩, ⟨by repeat (first | (with_reducible first | exact HB.out | apply below_alloc | apply pw_below_drewN | apply below_drew1 | refine below_set ?_ GE135.out | refine below_set ?_ GE136.out | refine below_set ?_ GE138.out | refine below_set ?_ GE145.out) | exact HB.out)⟩⟩
          ·replace c34 := Bool.eq_false_iff.mpr c34
           subst c34
           have H1 : (if 0 ≤ x10_2 then (erasureref19_Cut.l1 k2 l1 x7_1 (((rd_T37 l0_1 x10_2).f0) == t142) (wrap64 (x10_2 + 1)) a0_0 l0_1 a0_2 a0_0 x139001_1 0 t142 t143 t144) else (none)) = some (r1, r2, r3, r4) := by rw [if_neg (show ¬ (false = true) by decide)] at H; exact H
           clear H
           have H := H1
           clear H1
           by_cases c40 : 0 ≤ x10_2
           ·rw [if_pos c40] at H
            have c40b0 : decide (0 ≤ x10_2) = true := decide_eq_true c40
            clear c40
            have H' := Aside0.mk H
            clear H
            have hnb41 := NB135_136.out
            have hnc41 := NB136_135.out
            have hnb42 := NB135_138.out
            have hnc42 := NB138_135.out
            have hnb43 := NB135_145.out
            have hnc43 := NB145_135.out
            have hcz44_0 : wr.cell? ⟨gb135, 0, none⟩ = some (.bool a0_0) := (blk_cell BK135.out 0).trans rfl
            have hcz44_1 : wr.cell? ⟨gb135, 1, none⟩ = some (.slice A0_1 l0_1.length c0_1) := (blk_cell BK135.out 1).trans rfl
            have hcz44_2 : wr.cell? ⟨gb135, 2, none⟩ = some (.int .i64 a0_2) := (blk_cell BK135.out 2).trans rfl
            have hfz44_0 := blk_frozen BK135.out 0
            have hfz44_1 := blk_frozen BK135.out 1
            have hfz44_2 := blk_frozen BK135.out 2
            try go_wp2
            have n0_ := Aside0.mk (Kd.R_drew HO_139001.out)
            have n1_ := Aside0.mk (blk_drew BK135.out)
            have n2_ := Aside0.mk (blk_drew BK136.out)
            have n3_ := Aside0.mk (blk_drew BK138.out)
            have n4_ := Aside0.mk (blk_drew BK145.out)
            have n5_ := Aside0.mk (below_drew1 HB.out)
            clear HO_139001
            clear BK135
            clear BK136
            clear BK138
            clear BK145
            clear HB
            have HO_139001 := n0_
            have BK135 := n1_
            have BK136 := n2_
            have BK138 := n3_
            have BK145 := n4_
            have HB := n5_
            clear n0_ n1_ n2_ n3_ n4_ n5_
            have p146 : 0 ≤ (x10_2 : Int) := of_decide_eq_true (by first | (with_reducible assumption) | assumption)
            have q146 : x10_2 < (l0_1.length : Int) := of_decide_eq_true (by first | (with_reducible assumption) | assumption)
            obtain ⟨ad146, e146, hx146_0, hx146_1, hx146_2⟩ := at_T37 HR0_1.out x10_2 p146 q146
            have hw146_2 := hx146_2
            have hw146_1 := hx146_1
            have hw146_0 := hx146_0
            cases e146
            replace hx146_0 := (HB.out.cell (World.block_lt_of_cell? w _ hx146_0)).trans hx146_0
            replace hx146_1 := (HB.out.cell (World.block_lt_of_cell? w _ hx146_1)).trans hx146_1
            replace hx146_2 := (HB.out.cell (World.block_lt_of_cell? w _ hx146_2)).trans hx146_2
            replace p146 := eq_true p146
            replace q146 := eq_true q146
            refine start_ (n := 13) (S := fun w' => w'.cell? ⟨gb135, 0, none⟩ = some (.bool a0_0) ∧ w'.cell? ⟨gb135, 1, none⟩ = some (.slice (some ad146) l0_1.length c0_1) ∧ w'.cell? ⟨gb135, 2, none⟩ = some (.int .i64 a0_2) ∧ w'.cell? ⟨gb145, 0, none⟩ = some (.int .i64 t142) ∧ w'.cell? ⟨gb145, 1, none⟩ = some (.int .i64 t143) ∧ w'.cell? ⟨gb145, 2, none⟩ = some (.string t144) ∧ w'.cell? (ad146.add ((x10_2).toNat * 3)) = some (.int .i64 ((rd_T37 l0_1 x10_2).f0)) ∧ w'.cell? ⟨(ad146.add ((x10_2).toNat * 3)).block, (ad146.add ((x10_2).toNat * 3)).off + 1, none⟩ = some (.int .i64 ((rd_T37 l0_1 x10_2).f1)) ∧ w'.cell? ⟨(ad146.add ((x10_2).toNat * 3)).block, (ad146.add ((x10_2).toNat * 3)).off + 2, none⟩ = some (.string ((rd_T37 l0_1 x10_2).f2))) (ds := []) (tk_ 13 0) (by kernel_rfl) rfl (by kernel_rfl) ⟨(blk_cell BK135.out 0).trans rfl, (blk_cell BK135.out 1).trans rfl, (blk_cell BK135.out 2).trans rfl, (blk_cell BK145.out 0).trans rfl, (blk_cell BK145.out 1).trans rfl, (blk_cell BK145.out 2).trans rfl, ((HB.out.cell (World.block_lt_of_cell? w _ hw146_0)).trans hw146_0), ((HB.out.cell (World.block_lt_of_cell? w _ hw146_1)).trans hw146_1), ((HB.out.cell (World.block_lt_of_cell? w _ hw146_2)).trans hw146_2)⟩ (fun hHeld => ?_); refine with_tabW erasureref19_Cut.tab13 erasureref19_Cut.bits13 (fun HT_ HW_ => ?_)
            generalize wr.drew = w45 at HO_139001 BK135 BK136 BK138 BK145 HB hx146_0 hx146_1 hx146_2 hHeld ⊢
            refine pu_ 0 49 (tk_ 13 1) HT_.out rfl rfl (by kernel_rfl) (fun _ _ _ h => h) (by rfl) (fun w' => by go_simp; with_reducible rfl) (by simp only [s0_, s1_, s2_, s3_, s4_, s5_]; rfl) ?_
            refine pu_ 1 50 (tk_ 13 3) HT_.out rfl rfl (by kernel_rfl) (fun _ _ _ h => h) (by rfl) (fun w' => by go_simp; with_reducible rfl) (by simp only [s0_, s1_, s2_, s3_, s4_, s5_]; rfl) ?_
            refine pu_ 2 51 (tk_ 13 7) HT_.out rfl rfl (by kernel_rfl) (fun _ _ _ h => h) (by rfl) (fun w' => by go_simp; with_reducible rfl) (by simp only [s0_, s1_, s2_, s3_, s4_, s5_]; rfl) ?_
            refine pu_ 4 53 (tk_ 13 23) HT_.out rfl rfl (by kernel_rfl) (fun _ _ _ h => h) (by rfl) (fun w' => by go_simp; with_reducible rfl) (by simp only [s0_, s1_, s2_, s3_, s4_, s5_]; rfl) ?_
            refine pu_ 8 57 (tk_ 13 279) HT_.out rfl rfl (by kernel_rfl) (fun _ _ _ h => h) (by rfl) (fun w' => by go_simp; with_reducible rfl) (by simp only [s0_, s1_, s2_, s3_, s4_, s5_]; rfl) ?_
            refine ta_ 3 52 (tk_ 13 287) HT_.out HW_.out rfl rfl (by kernel_rfl) (fun _ _ _ h => h) (by rfl) (by rintro w' ⟨s0, s1, s2, s3, s4, s5, s6, s7, s8⟩; go_simp; with_reducible rfl) hHeld (by simp only [s0_, s1_, s2_, s3_, s4_, s5_]; rfl) ?_
            refine pu_ 5 54 (tk_ 13 319) HT_.out rfl rfl (by kernel_rfl) (fun _ _ _ h => h) (by rfl) (fun w' => by go_simp; with_reducible rfl) (by simp only [s0_, s1_, s2_, s3_, s4_, s5_]; rfl) ?_
            refine pu_ 6 55 (tk_ 13 383) HT_.out rfl rfl (by kernel_rfl) (fun _ _ _ h => h) (by rfl) (fun w' => by go_simp; with_reducible rfl) (by simp only [s0_, s1_, s2_, s3_, s4_, s5_]; rfl) ?_
            refine ta_ 7 56 (tk_ 13 511) HT_.out HW_.out rfl rfl (by kernel_rfl) (fun _ _ _ h => h) (by rfl) (by rintro w' ⟨s0, s1, s2, s3, s4, s5, s6, s7, s8⟩; go_simp; with_reducible rfl) hHeld (by simp only [s0_, s1_, s2_, s3_, s4_, s5_]; rfl) ?_
            refine ta_ 9 58 (tk_ 13 1023) HT_.out HW_.out rfl rfl (by kernel_rfl) (fun _ _ _ h => h) (by rfl) (by rintro w' ⟨s0, s1, s2, s3, s4, s5, s6, s7, s8⟩; go_simp; with_reducible rfl) hHeld (by simp only [s0_, s1_, s2_, s3_, s4_, s5_]; rfl) ?_
            refine pu_ 10 59 (tk_ 13 2047) HT_.out rfl rfl (by kernel_rfl) (fun _ _ _ h => h) (by rfl) (fun w' => by go_simp; with_reducible rfl) (by simp only [s0_, s1_, s2_, s3_, s4_, s5_]; rfl) ?_
            refine pu_ 11 60 (tk_ 13 4095) HT_.out rfl rfl (by kernel_rfl) (fun _ _ _ h => h) (by rfl) (fun w' => by go_simp; with_reducible rfl) (by simp only [s0_, s1_, s2_, s3_, s4_, s5_]; rfl) ?_
            refine pu_ 12 9 (tk_ 13 8191) HT_.out rfl rfl (by kernel_rfl) (fun _ _ _ h => h) (by rfl) (fun w' => by go_simp; with_reducible rfl) (by simp only [s0_, s1_, s2_, s3_, s4_, s5_]; rfl) ?_
            refine done_ (done_of HT_.out (by kernel_rfl)) ?_
            try go_wp2
            go_roundg k2
            case measure => have := HK1.out; have := HK2.out; omega
            case rel => exact ⟨((((rd_T37 l0_1 x10_2).f0) == t142)), (wrap64 (x10_2 + 1)), (by first | rfl | (simp; done) | (simp [*]; done)), (by first | rfl | (simp; done) | (simp [*]; done)), H', ⟨by have := HK1.out; have := HK2.out; omega⟩, ⟨by (with_reducible repeat (first | apply Kd.R_alloc | apply Kd.R_drewN | apply Kd.R_drew)); exact HO_139001.out⟩, ⟨by (with_reducible repeat (first | refine blk_drewN ?_ _ | refine blk_drew ?_ | refine blk_alloc ?_ _)); exact BK135.out⟩, ⟨by (with_reducible repeat (first | refine blk_drewN ?_ _ | refine blk_drew ?_ | refine blk_alloc ?_ _)); exact BK136.out⟩, ⟨by (with_reducible repeat (first | refine blk_drewN ?_ _ | refine blk_drew ?_ | refine blk_alloc ?_ _)); exact BK138.out⟩, ⟨by (with_reducible repeat (first | refine blk_drewN ?_ _ | refine blk_drew ?_ | refine blk_alloc ?_ _)); exact BK145.out⟩, ⟨by repeat (first | (with_reducible first | exact HB.out | apply below_alloc | apply pw_below_drewN | apply below_drew1 | refine below_set ?_ GE135.out | refine below_set ?_ GE136.out | refine below_set ?_ GE138.out | refine below_set ?_ GE145.out) | exact HB.out)⟩⟩
           ·rw [if_neg c40] at H
            exact absurd H (by simp)
         ·rw [if_neg c33] at H
          have c33b0 : decide (x10_2 < (l0_1.length : Int)) = false := decide_eq_false c33
          clear c33
          replace H := Option.bind_eq_some_iff.mp H
          obtain ⟨⟨t147, t150⟩, A460, H⟩ := H
          replace H : (if x9_2 = true then (if t150 = true then (erasureref19_Cut.l0 k2 l1 (wrap64 (x7_1 + 1)) a0_0 l0_1 a0_2 a0_0 t147 0) else (erasureref19_Cut.l0 k2 l1 (wrap64 (x7_1 + 1)) a0_0 l0_1 a0_2 a0_0 x139001_1 0)) else (erasureref19_Cut.l0 k2 l1 (wrap64 (x7_1 + 1)) a0_0 l0_1 a0_2 a0_0 x139001_1 0)) = some (r1, r2, r3, r4) := H
          have A46 := Aside0.mk A460
          clear A460
          by_cases c47 : x9_2 = true
          ·subst c47
           have H1 : (if t150 = true then (erasureref19_Cut.l0 k2 l1 (wrap64 (x7_1 + 1)) a0_0 l0_1 a0_2 a0_0 t147 0) else (erasureref19_Cut.l0 k2 l1 (wrap64 (x7_1 + 1)) a0_0 l0_1 a0_2 a0_0 x139001_1 0)) = some (r1, r2, r3, r4) := by rw [if_pos rfl] at H; exact H
           clear H
           have H := H1
           clear H1
           by_cases c48 : t150 = true
           ·subst c48
            have H1 : (erasureref19_Cut.l0 k2 l1 (wrap64 (x7_1 + 1)) a0_0 l0_1 a0_2 a0_0 t147 0) = some (r1, r2, r3, r4) := by rw [if_pos rfl] at H; exact H
            clear H
            have H := H1
            clear H1
            have H' := Aside0.mk H
            clear H
            have hnb49 := NB135_136.out
            have hnc49 := NB136_135.out
            have hnb50 := NB135_138.out
            have hnc50 := NB138_135.out
            have hnb51 := NB135_145.out
            have hnc51 := NB145_135.out
            have hcz52_0 : wr.cell? ⟨gb135, 0, none⟩ = some (.bool a0_0) := (blk_cell BK135.out 0).trans rfl
            have hcz52_1 : wr.cell? ⟨gb135, 1, none⟩ = some (.slice A0_1 l0_1.length c0_1) := (blk_cell BK135.out 1).trans rfl
            have hcz52_2 : wr.cell? ⟨gb135, 2, none⟩ = some (.int .i64 a0_2) := (blk_cell BK135.out 2).trans rfl
            have hfz52_0 := blk_frozen BK135.out 0
            have hfz52_1 := blk_frozen BK135.out 1
            have hfz52_2 := blk_frozen BK135.out 2
            have hnb53 := NB138_136.out
            have hnc53 := NB136_138.out
            have hnb54 := NB138_145.out
            have hnc54 := NB145_138.out
            have hcz55_0 : wr.cell? ⟨gb138, 0, none⟩ = some (.bool a0_0) := (blk_cell BK138.out 0).trans rfl
            have hcz55_1 : wr.cell? ⟨gb138, 1, none⟩ = some (u139001) := (blk_cell BK138.out 1).trans rfl
            have hcz55_2 : wr.cell? ⟨gb138, 2, none⟩ = some (.int .i64 0) := (blk_cell BK138.out 2).trans rfl
            have hfz55_0 := blk_frozen BK138.out 0
            have hfz55_1 := blk_frozen BK138.out 1
            have hfz55_2 := blk_frozen BK138.out 2
            have hnb56 := NB145_136.out
            have hnc56 := NB136_145.out
            have hcz57_0 : wr.cell? ⟨gb145, 0, none⟩ = some (.int .i64 t142) := (blk_cell BK145.out 0).trans rfl
            have hcz57_1 : wr.cell? ⟨gb145, 1, none⟩ = some (.int .i64 t143) := (blk_cell BK145.out 1).trans rfl
            have hcz57_2 : wr.cell? ⟨gb145, 2, none⟩ = some (.string t144) := (blk_cell BK145.out 2).trans rfl
            have hfz57_0 := blk_frozen BK145.out 0
            have hfz57_1 := blk_frozen BK145.out 1
            have hfz57_2 := blk_frozen BK145.out 2
            obtain ⟨Ao58, co58, eo58⟩ := Kd.R_slice HO_139001.out
            subst eo58
            go_wp2_with (first | ((with_reducible refine gate_callee (f := 39) rfl ?_); refine goesL_ (some 65) rfl rfl Try.func39 (by kernel_rfl) rfl #[.slice Ao58 x139001_1.length co58, .agg #[.int .i64 t142, .int .i64 t143, .string t144]] rfl (by (try simp only [List.map_toArray, List.map_cons, List.map_nil]); first | done | rfl | (simp only [List.length_drop, List.length_take]; rfl)) ?_; (with_reducible refine (erasureref19_insert.calls k2 _ _ x139001_1 t142 t143 t144 t147 true _ ?side1 ?side2 A46.out).mono ?_); (case side1 => repeat (first | exact (Kd.R_reads' HO_139001.out).2.2 | (with_reducible refine Kd.C_alloc ?_ _) | (with_reducible refine Kd.C_drewN ?_ _) | (with_reducible refine Kd.C_drew ?_))); (case side2 => exact (Kd.R_reads' HO_139001.out).2.1); rintro e w59 ⟨v148, rfl, ho0, hb⟩; refine ⟨_, rfl, ?_⟩; have n0_ := Aside0.mk (Kd.R_elder' (by (with_reducible repeat (first | apply Kd.R_alloc | apply Kd.R_drewN | apply Kd.R_drew)); exact HO_139001.out) (Kd.R_base ho0) hb); have n1_ := Aside0.mk (Kd.R_lower (Kd.R_newB (Kd.R_new' ho0 (Kd.R_lt (by (with_reducible repeat (first | apply Kd.R_alloc | apply Kd.R_drewN | apply Kd.R_drew)); exact HO_139001.out))) (g := gb145) (o := .cells #[.int .i64 t142, .int .i64 t143, .string t144] 37 (0, 0)) (by (with_reducible repeat (first | refine blk_drewN ?_ _ | refine blk_drew ?_ | refine blk_alloc ?_ _)); exact BK145.out)) (below_size (by repeat (first | (with_reducible first | exact HB.out | apply below_alloc | apply pw_below_drewN | apply below_drew1 | refine below_set ?_ GE135.out | refine below_set ?_ GE136.out | refine below_set ?_ GE138.out | refine below_set ?_ GE145.out) | exact HB.out)))); have n2_ := Aside0.mk (blk_below (g := gb135) (o := .cells #[.bool a0_0, .slice A0_1 l0_1.length c0_1, .int .i64 a0_2] 24 (0, 0)) (by (with_reducible repeat (first | refine blk_drewN ?_ _ | refine blk_drew ?_ | refine blk_alloc ?_ _)); exact BK135.out) hb); have n3_ := Aside0.mk (blk_below (g := gb136) (o := .cells #[.bool false, .slice none 0 0, .int .i64 0] 24 (0, 0)) (by (with_reducible repeat (first | refine blk_drewN ?_ _ | refine blk_drew ?_ | refine blk_alloc ?_ _)); exact BK136.out) hb); have n4_ := Aside0.mk (blk_below (g := gb138) (o := .cells #[.bool a0_0, .slice Ao58 x139001_1.length co58, .int .i64 0] 24 (0, 0)) (by (with_reducible repeat (first | refine blk_drewN ?_ _ | refine blk_drew ?_ | refine blk_alloc ?_ _)); exact BK138.out) hb); have n5_ := Aside0.mk (blk_below (g := gb145) (o := .cells #[.int .i64 t142, .int .i64 t143, .string t144] 37 (0, 0)) (by (with_reducible repeat (first | refine blk_drewN ?_ _ | refine blk_drew ?_ | refine blk_alloc ?_ _)); exact BK145.out) hb); have n6_ := Aside0.mk (below_step (by repeat (first | (with_reducible first | exact HB.out | apply below_alloc | apply pw_below_drewN | apply below_drew1 | refine below_set ?_ GE135.out | refine below_set ?_ GE136.out | refine below_set ?_ GE138.out | refine below_set ?_ GE145.out) | exact HB.out)) hb); clear HO_139001; clear BK135; clear BK136; clear BK138; clear BK145; clear HB; have HO_139001 := n0_; have HO149 := n1_; have BK135 := n2_; have BK136 := n3_; have BK138 := n4_; have BK145 := n5_; have HB := n6_; clear n0_ n1_ n2_ n3_ n4_ n5_ n6_; (try clear hb); (try clear hb2); (try clear hk); (try clear hi); (try clear ho0); obtain ⟨Ao60, co60, eo60⟩ := Kd.R_slice HO149.out; subst eo60; have hcz61_0 : w59.cell? ⟨gb138, 0, none⟩ = some (.bool a0_0) := (blk_cell BK138.out 0).trans rfl; have hcz61_1 : w59.cell? ⟨gb138, 1, none⟩ = some (.slice Ao58 x139001_1.length co58) := (blk_cell BK138.out 1).trans rfl; have hcz61_2 : w59.cell? ⟨gb138, 2, none⟩ = some (.int .i64 0) := (blk_cell BK138.out 2).trans rfl; have hfz61_0 := blk_frozen BK138.out 0; have hfz61_1 := blk_frozen BK138.out 1; have hfz61_2 := blk_frozen BK138.out 2))
            go_roundg k2
            case measure => have := HK1.out; have := HK2.out; omega
            case rel => exact ⟨(wrap64 (x7_1 + 1)), (t147), (.slice Ao60 t147.length co60), (by first | rfl | (simp; done) | (simp [*]; done)), H', ⟨by have := HK1.out; have := HK2.out; omega⟩, ⟨by (with_reducible repeat (first | apply Kd.R_alloc | apply Kd.R_drewN | apply Kd.R_drew)); exact Kd.R_mono (Kd.R_far (p := ⟨gb138, 1, none⟩) (Kd.R_types HO149.out BK138.out (by decide)) (fun _ hk => hk.2) (.slice Ao60 t147.length co60)) (fun _ hk => trivial)⟩, ⟨by (with_reducible repeat (first | refine blk_drewN ?_ _ | refine blk_drew ?_ | refine blk_alloc ?_ _)); refine blk_far ?_ NB135_138.out _; (with_reducible repeat (first | refine blk_drewN ?_ _ | refine blk_drew ?_ | refine blk_alloc ?_ _)); exact BK135.out⟩, ⟨by (with_reducible repeat (first | refine blk_drewN ?_ _ | refine blk_drew ?_ | refine blk_alloc ?_ _)); refine blk_far ?_ NB136_138.out _; (with_reducible repeat (first | refine blk_drewN ?_ _ | refine blk_drew ?_ | refine blk_alloc ?_ _)); exact BK136.out⟩, ⟨by (with_reducible repeat (first | refine blk_drewN ?_ _ | refine blk_drew ?_ | refine blk_alloc ?_ _)); refine blk_put (cs := #[.bool a0_0, .slice Ao58 x139001_1.length co58, .int .i64 0]) ?_ 1 _ rfl; (with_reducible repeat (first | refine blk_drewN ?_ _ | refine blk_drew ?_ | refine blk_alloc ?_ _)); exact BK138.out⟩, ⟨by repeat (first | (with_reducible first | exact HB.out | apply below_alloc | apply pw_below_drewN | apply below_drew1 | refine below_set ?_ GE135.out | refine below_set ?_ GE136.out | refine below_set ?_ GE138.out | refine below_set ?_ GE145.out) | exact HB.out)⟩⟩
           ·replace c48 := Bool.eq_false_iff.mpr c48
            subst c48
            have H1 : (erasureref19_Cut.l0 k2 l1 (wrap64 (x7_1 + 1)) a0_0 l0_1 a0_2 a0_0 x139001_1 0) = some (r1, r2, r3, r4) := by rw [if_neg (show ¬ (false = true) by decide)] at H; exact H
            clear H
            have H := H1
            clear H1
            have H' := Aside0.mk H
            clear H
            have hnb62 := NB135_136.out
            have hnc62 := NB136_135.out
            have hnb63 := NB135_138.out
            have hnc63 := NB138_135.out
            have hnb64 := NB135_145.out
            have hnc64 := NB145_135.out
            have hcz65_0 : wr.cell? ⟨gb135, 0, none⟩ = some (.bool a0_0) := (blk_cell BK135.out 0).trans rfl
            have hcz65_1 : wr.cell? ⟨gb135, 1, none⟩ = some (.slice A0_1 l0_1.length c0_1) := (blk_cell BK135.out 1).trans rfl
            have hcz65_2 : wr.cell? ⟨gb135, 2, none⟩ = some (.int .i64 a0_2) := (blk_cell BK135.out 2).trans rfl
            have hfz65_0 := blk_frozen BK135.out 0
            have hfz65_1 := blk_frozen BK135.out 1
            have hfz65_2 := blk_frozen BK135.out 2
            have hnb66 := NB138_136.out
            have hnc66 := NB136_138.out
            have hnb67 := NB138_145.out
            have hnc67 := NB145_138.out
            have hcz68_0 : wr.cell? ⟨gb138, 0, none⟩ = some (.bool a0_0) := (blk_cell BK138.out 0).trans rfl
            have hcz68_1 : wr.cell? ⟨gb138, 1, none⟩ = some (u139001) := (blk_cell BK138.out 1).trans rfl
            have hcz68_2 : wr.cell? ⟨gb138, 2, none⟩ = some (.int .i64 0) := (blk_cell BK138.out 2).trans rfl
            have hfz68_0 := blk_frozen BK138.out 0
            have hfz68_1 := blk_frozen BK138.out 1
            have hfz68_2 := blk_frozen BK138.out 2
            have hnb69 := NB145_136.out
            have hnc69 := NB136_145.out
            have hcz70_0 : wr.cell? ⟨gb145, 0, none⟩ = some (.int .i64 t142) := (blk_cell BK145.out 0).trans rfl
            have hcz70_1 : wr.cell? ⟨gb145, 1, none⟩ = some (.int .i64 t143) := (blk_cell BK145.out 1).trans rfl
            have hcz70_2 : wr.cell? ⟨gb145, 2, none⟩ = some (.string t144) := (blk_cell BK145.out 2).trans rfl
            have hfz70_0 := blk_frozen BK145.out 0
            have hfz70_1 := blk_frozen BK145.out 1
            have hfz70_2 := blk_frozen BK145.out 2
            obtain ⟨Ao71, co71, eo71⟩ := Kd.R_slice HO_139001.out
            subst eo71
            go_wp2_with (first | ((with_reducible refine gate_callee (f := 39) rfl ?_); refine goesL_ (some 65) rfl rfl Try.func39 (by kernel_rfl) rfl #[.slice Ao71 x139001_1.length co71, .agg #[.int .i64 t142, .int .i64 t143, .string t144]] rfl (by (try simp only [List.map_toArray, List.map_cons, List.map_nil]); first | done | rfl | (simp only [List.length_drop, List.length_take]; rfl)) ?_; (with_reducible refine (erasureref19_insert.calls k2 _ _ x139001_1 t142 t143 t144 t147 false _ ?side1 ?side2 A46.out).mono ?_); (case side1 => repeat (first | exact (Kd.R_reads' HO_139001.out).2.2 | (with_reducible refine Kd.C_alloc ?_ _) | (with_reducible refine Kd.C_drewN ?_ _) | (with_reducible refine Kd.C_drew ?_))); (case side2 => exact (Kd.R_reads' HO_139001.out).2.1); rintro e w72 ⟨v148, rfl, ho0, hb⟩; refine ⟨_, rfl, ?_⟩; have n0_ := Aside0.mk (Kd.R_elder' (by (with_reducible repeat (first | apply Kd.R_alloc | apply Kd.R_drewN | apply Kd.R_drew)); exact HO_139001.out) (Kd.R_base ho0) hb); have n1_ := Aside0.mk (Kd.R_lower (Kd.R_newB (Kd.R_new' ho0 (Kd.R_lt (by (with_reducible repeat (first | apply Kd.R_alloc | apply Kd.R_drewN | apply Kd.R_drew)); exact HO_139001.out))) (g := gb145) (o := .cells #[.int .i64 t142, .int .i64 t143, .string t144] 37 (0, 0)) (by (with_reducible repeat (first | refine blk_drewN ?_ _ | refine blk_drew ?_ | refine blk_alloc ?_ _)); exact BK145.out)) (below_size (by repeat (first | (with_reducible first | exact HB.out | apply below_alloc | apply pw_below_drewN | apply below_drew1 | refine below_set ?_ GE135.out | refine below_set ?_ GE136.out | refine below_set ?_ GE138.out | refine below_set ?_ GE145.out) | exact HB.out)))); have n2_ := Aside0.mk (blk_below (g := gb135) (o := .cells #[.bool a0_0, .slice A0_1 l0_1.length c0_1, .int .i64 a0_2] 24 (0, 0)) (by (with_reducible repeat (first | refine blk_drewN ?_ _ | refine blk_drew ?_ | refine blk_alloc ?_ _)); exact BK135.out) hb); have n3_ := Aside0.mk (blk_below (g := gb136) (o := .cells #[.bool false, .slice none 0 0, .int .i64 0] 24 (0, 0)) (by (with_reducible repeat (first | refine blk_drewN ?_ _ | refine blk_drew ?_ | refine blk_alloc ?_ _)); exact BK136.out) hb); have n4_ := Aside0.mk (blk_below (g := gb138) (o := .cells #[.bool a0_0, .slice Ao71 x139001_1.length co71, .int .i64 0] 24 (0, 0)) (by (with_reducible repeat (first | refine blk_drewN ?_ _ | refine blk_drew ?_ | refine blk_alloc ?_ _)); exact BK138.out) hb); have n5_ := Aside0.mk (blk_below (g := gb145) (o := .cells #[.int .i64 t142, .int .i64 t143, .string t144] 37 (0, 0)) (by (with_reducible repeat (first | refine blk_drewN ?_ _ | refine blk_drew ?_ | refine blk_alloc ?_ _)); exact BK145.out) hb); have n6_ := Aside0.mk (below_step (by repeat (first | (with_reducible first | exact HB.out | apply below_alloc | apply pw_below_drewN | apply below_drew1 | refine below_set ?_ GE135.out | refine below_set ?_ GE136.out | refine below_set ?_ GE138.out | refine below_set ?_ GE145.out) | exact HB.out)) hb); clear HO_139001; clear BK135; clear BK136; clear BK138; clear BK145; clear HB; have HO_139001 := n0_; have HO149 := n1_; have BK135 := n2_; have BK136 := n3_; have BK138 := n4_; have BK145 := n5_; have HB := n6_; clear n0_ n1_ n2_ n3_ n4_ n5_ n6_; (try clear hb); (try clear hb2); (try clear hk); (try clear hi); (try clear ho0)))
            go_roundg k2
            case measure => have := HK1.out; have := HK2.out; omega
            case rel => exact ⟨(wrap64 (x7_1 + 1)), (x139001_1), (.slice Ao71 x139001_1.length co71), (by first | rfl | (simp; done) | (simp [*]; done)), H', ⟨by have := HK1.out; have := HK2.out; omega⟩, ⟨by (with_reducible repeat (first | apply Kd.R_alloc | apply Kd.R_drewN | apply Kd.R_drew)); exact Kd.R_mono HO_139001.out (fun _ hk => trivial)⟩, ⟨by (with_reducible repeat (first | refine blk_drewN ?_ _ | refine blk_drew ?_ | refine blk_alloc ?_ _)); exact BK135.out⟩, ⟨by (with_reducible repeat (first | refine blk_drewN ?_ _ | refine blk_drew ?_ | refine blk_alloc ?_ _)); exact BK136.out⟩, ⟨by (with_reducible repeat (first | refine blk_drewN ?_ _ | refine blk_drew ?_ | refine blk_alloc ?_ _)); exact BK138.out⟩, ⟨by repeat (first | (with_reducible first | exact HB.out | apply below_alloc | apply pw_below_drewN | apply below_drew1 | refine below_set ?_ GE135.out | refine below_set ?_ GE136.out | refine below_set ?_ GE138.out | refine below_set ?_ GE145.out) | exact HB.out)⟩⟩
          ·replace c47 := Bool.eq_false_iff.mpr c47
           subst c47
           have H1 : (erasureref19_Cut.l0 k2 l1 (wrap64 (x7_1 + 1)) a0_0 l0_1 a0_2 a0_0 x139001_1 0) = some (r1, r2, r3, r4) := by rw [if_neg (show ¬ (false = true) by decide)] at H; exact H
           clear H
           have H := H1
           clear H1
           have H' := Aside0.mk H
           clear H
           have hnb73 := NB135_136.out
           have hnc73 := NB136_135.out
           have hnb74 := NB135_138.out
           have hnc74 := NB138_135.out
           have hnb75 := NB135_145.out
           have hnc75 := NB145_135.out
           have hcz76_0 : wr.cell? ⟨gb135, 0, none⟩ = some (.bool a0_0) := (blk_cell BK135.out 0).trans rfl
           have hcz76_1 : wr.cell? ⟨gb135, 1, none⟩ = some (.slice A0_1 l0_1.length c0_1) := (blk_cell BK135.out 1).trans rfl
           have hcz76_2 : wr.cell? ⟨gb135, 2, none⟩ = some (.int .i64 a0_2) := (blk_cell BK135.out 2).trans rfl
           have hfz76_0 := blk_frozen BK135.out 0
           have hfz76_1 := blk_frozen BK135.out 1
           have hfz76_2 := blk_frozen BK135.out 2
           have hnb77 := NB138_136.out
           have hnc77 := NB136_138.out
           have hnb78 := NB138_145.out
           have hnc78 := NB145_138.out
           have hcz79_0 : wr.cell? ⟨gb138, 0, none⟩ = some (.bool a0_0) := (blk_cell BK138.out 0).trans rfl
           have hcz79_1 : wr.cell? ⟨gb138, 1, none⟩ = some (u139001) := (blk_cell BK138.out 1).trans rfl
           have hcz79_2 : wr.cell? ⟨gb138, 2, none⟩ = some (.int .i64 0) := (blk_cell BK138.out 2).trans rfl
           have hfz79_0 := blk_frozen BK138.out 0
           have hfz79_1 := blk_frozen BK138.out 1
           have hfz79_2 := blk_frozen BK138.out 2
           have hnb80 := NB145_136.out
           have hnc80 := NB136_145.out
           have hcz81_0 : wr.cell? ⟨gb145, 0, none⟩ = some (.int .i64 t142) := (blk_cell BK145.out 0).trans rfl
           have hcz81_1 : wr.cell? ⟨gb145, 1, none⟩ = some (.int .i64 t143) := (blk_cell BK145.out 1).trans rfl
           have hcz81_2 : wr.cell? ⟨gb145, 2, none⟩ = some (.string t144) := (blk_cell BK145.out 2).trans rfl
           have hfz81_0 := blk_frozen BK145.out 0
           have hfz81_1 := blk_frozen BK145.out 1
           have hfz81_2 := blk_frozen BK145.out 2
           obtain ⟨Ao82, co82, eo82⟩ := Kd.R_slice HO_139001.out
           subst eo82
           go_wp2_with (first | ((with_reducible refine gate_callee (f := 39) rfl ?_); refine goesL_ (some 65) rfl rfl Try.func39 (by kernel_rfl) rfl #[.slice Ao82 x139001_1.length co82, .agg #[.int .i64 t142, .int .i64 t143, .string t144]] rfl (by (try simp only [List.map_toArray, List.map_cons, List.map_nil]); first | done | rfl | (simp only [List.length_drop, List.length_take]; rfl)) ?_; (with_reducible refine (erasureref19_insert.calls k2 _ _ x139001_1 t142 t143 t144 t147 t150 _ ?side1 ?side2 A46.out).mono ?_); (case side1 => repeat (first | exact (Kd.R_reads' HO_139001.out).2.2 | (with_reducible refine Kd.C_alloc ?_ _) | (with_reducible refine Kd.C_drewN ?_ _) | (with_reducible refine Kd.C_drew ?_))); (case side2 => exact (Kd.R_reads' HO_139001.out).2.1); rintro e w83 ⟨v148, rfl, ho0, hb⟩; refine ⟨_, rfl, ?_⟩; have n0_ := Aside0.mk (Kd.R_elder' (by (with_reducible repeat (first | apply Kd.R_alloc | apply Kd.R_drewN | apply Kd.R_drew)); exact HO_139001.out) (Kd.R_base ho0) hb); have n1_ := Aside0.mk (Kd.R_lower (Kd.R_newB (Kd.R_new' ho0 (Kd.R_lt (by (with_reducible repeat (first | apply Kd.R_alloc | apply Kd.R_drewN | apply Kd.R_drew)); exact HO_139001.out))) (g := gb145) (o := .cells #[.int .i64 t142, .int .i64 t143, .string t144] 37 (0, 0)) (by (with_reducible repeat (first | refine blk_drewN ?_ _ | refine blk_drew ?_ | refine blk_alloc ?_ _)); exact BK145.out)) (below_size (by repeat (first | (with_reducible first | exact HB.out | apply below_alloc | apply pw_below_drewN | apply below_drew1 | refine below_set ?_ GE135.out | refine below_set ?_ GE136.out | refine below_set ?_ GE138.out | refine below_set ?_ GE145.out) | exact HB.out)))); have n2_ := Aside0.mk (blk_below (g := gb135) (o := .cells #[.bool a0_0, .slice A0_1 l0_1.length c0_1, .int .i64 a0_2] 24 (0, 0)) (by (with_reducible repeat (first | refine blk_drewN ?_ _ | refine blk_drew ?_ | refine blk_alloc ?_ _)); exact BK135.out) hb); have n3_ := Aside0.mk (blk_below (g := gb136) (o := .cells #[.bool false, .slice none 0 0, .int .i64 0] 24 (0, 0)) (by (with_reducible repeat (first | refine blk_drewN ?_ _ | refine blk_drew ?_ | refine blk_alloc ?_ _)); exact BK136.out) hb); have n4_ := Aside0.mk (blk_below (g := gb138) (o := .cells #[.bool a0_0, .slice Ao82 x139001_1.length co82, .int .i64 0] 24 (0, 0)) (by (with_reducible repeat (first | refine blk_drewN ?_ _ | refine blk_drew ?_ | refine blk_alloc ?_ _)); exact BK138.out) hb); have n5_ := Aside0.mk (blk_below (g := gb145) (o := .cells #[.int .i64 t142, .int .i64 t143, .string t144] 37 (0, 0)) (by (with_reducible repeat (first | refine blk_drewN ?_ _ | refine blk_drew ?_ | refine blk_alloc ?_ _)); exact BK145.out) hb); have n6_ := Aside0.mk (below_step (by repeat (first | (with_reducible first | exact HB.out | apply below_alloc | apply pw_below_drewN | apply below_drew1 | refine below_set ?_ GE135.out | refine below_set ?_ GE136.out | refine below_set ?_ GE138.out | refine below_set ?_ GE145.out) | exact HB.out)) hb); clear HO_139001; clear BK135; clear BK136; clear BK138; clear BK145; clear HB; have HO_139001 := n0_; have HO149 := n1_; have BK135 := n2_; have BK136 := n3_; have BK138 := n4_; have BK145 := n5_; have HB := n6_; clear n0_ n1_ n2_ n3_ n4_ n5_ n6_; (try clear hb); (try clear hb2); (try clear hk); (try clear hi); (try clear ho0)))
           go_roundg k2
           case measure => have := HK1.out; have := HK2.out; omega
           case rel => exact ⟨(wrap64 (x7_1 + 1)), (x139001_1), (.slice Ao82 x139001_1.length co82), (by first | rfl | (simp; done) | (simp [*]; done)), H', ⟨by have := HK1.out; have := HK2.out; omega⟩, ⟨by (with_reducible repeat (first | apply Kd.R_alloc | apply Kd.R_drewN | apply Kd.R_drew)); exact Kd.R_mono HO_139001.out (fun _ hk => trivial)⟩, ⟨by (with_reducible repeat (first | refine blk_drewN ?_ _ | refine blk_drew ?_ | refine blk_alloc ?_ _)); exact BK135.out⟩, ⟨by (with_reducible repeat (first | refine blk_drewN ?_ _ | refine blk_drew ?_ | refine blk_alloc ?_ _)); exact BK136.out⟩, ⟨by (with_reducible repeat (first | refine blk_drewN ?_ _ | refine blk_drew ?_ | refine blk_alloc ?_ _)); exact BK138.out⟩, ⟨by repeat (first | (with_reducible first | exact HB.out | apply below_alloc | apply pw_below_drewN | apply below_drew1 | refine below_set ?_ GE135.out | refine below_set ?_ GE136.out | refine below_set ?_ GE138.out | refine below_set ?_ GE145.out) | exact HB.out)⟩⟩
      ·replace c18 := Bool.eq_false_iff.mpr c18
       subst c18
       have H1 : (erasureref19_Cut.l0 k1 l1 (wrap64 (x7_1 + 1)) a0_0 l0_1 a0_2 a0_0 x139001_1 0) = some (r1, r2, r3, r4) := by rw [if_neg (show ¬ (false = true) by decide)] at H; exact H
       clear H
       have H := H1
       clear H1
       have H' := Aside0.mk H
       clear H
       try go_wp2
       have n0_ := Aside0.mk (Kd.R_drew HO_139001.out)
       have n1_ := Aside0.mk (blk_drew BK135.out)
       have n2_ := Aside0.mk (blk_drew BK136.out)
       have n3_ := Aside0.mk (blk_drew BK138.out)
       have n4_ := Aside0.mk (below_drew1 HB.out)
       clear HO_139001
       clear BK135
       clear BK136
       clear BK138
       clear HB
       have HO_139001 := n0_
       have BK135 := n1_
       have BK136 := n2_
       have BK138 := n3_
       have HB := n4_
       clear n0_ n1_ n2_ n3_ n4_
       have p139 : 0 ≤ (x7_1 : Int) := of_decide_eq_true (by first | (with_reducible assumption) | assumption)
       have q139 : x7_1 < (l1.length : Int) := of_decide_eq_true (by first | (with_reducible assumption) | assumption)
       obtain ⟨ad139, e139, hx139_0⟩ := Kd.at_int HR1.out x7_1 p139 q139
       have hw139_0 := hx139_0
       cases e139
       replace hx139_0 := (HB.out.cell (World.block_lt_of_cell? w _ hx139_0)).trans hx139_0
       replace p139 := eq_true p139
       replace q139 := eq_true q139
       refine start_ (n := 7) (S := fun w' => w'.cell? ⟨gb135, 0, none⟩ = some (.bool a0_0) ∧ w'.cell? ⟨gb135, 1, none⟩ = some (.slice A0_1 l0_1.length c0_1) ∧ w'.cell? ⟨gb135, 2, none⟩ = some (.int .i64 a0_2) ∧ w'.cell? (ad139.add (x7_1).toNat) = some (.int .i64 (rd l1 x7_1))) (ds := []) (tk_ 7 0) (by kernel_rfl) rfl (by kernel_rfl) ⟨(blk_cell BK135.out 0).trans rfl, (blk_cell BK135.out 1).trans rfl, (blk_cell BK135.out 2).trans rfl, ((HB.out.cell (World.block_lt_of_cell? w _ hw139_0)).trans hw139_0)⟩ (fun hHeld => ?_)
       generalize wr.drew = w84 at HO_139001 BK135 BK136 BK138 HB hx139_0 hHeld ⊢
       refine pure_ (i := 1) (N := some 27) (v := ?_) (a' := ?_) (tk_ 7 2) rfl rfl (by kernel_rfl) (fun _ _ _ h => h) (Or.inl ⟨by rfl, ?_⟩) ?_ ?_
       rotate_left
       ·intro w'
        go_simp
        with_reducible rfl
       rotate_left
       ·simp only [Act.put, List.setIfInBounds_toArray, List.set_cons_zero, List.set_cons_succ, i64_w, i32_w]
        rfl
       refine pure_ (i := 2) (N := some 28) (v := ?_) (a' := ?_) (tk_ 7 6) rfl rfl (by kernel_rfl) (fun _ _ _ h => h) (Or.inl ⟨by rfl, ?_⟩) ?_ ?_
       rotate_left
       ·intro w'
        go_simp
        with_reducible rfl
       rotate_left
       ·simp only [Act.put, List.setIfInBounds_toArray, List.set_cons_zero, List.set_cons_succ, i64_w, i32_w]
        rfl
       refine pure_ (i := 3) (N := some 29) (v := ?_) (a' := ?_) (tk_ 7 14) rfl rfl (by kernel_rfl) (fun _ _ _ h => h) (Or.inl ⟨by rfl, ?_⟩) ?_ ?_
       rotate_left
       ·intro w'
        go_simp
        with_reducible rfl
       rotate_left
       ·simp only [Act.put, List.setIfInBounds_toArray, List.set_cons_zero, List.set_cons_succ, i64_w, i32_w]
        rfl
       refine take_ (i := 0) (N := some 26) (v := ?_) (a' := ?_) (tk_ 7 15) rfl rfl (by kernel_rfl) (fun _ _ _ h => h) (Or.inl ⟨by rfl, ?_⟩) hHeld ?_ ?_
       rotate_left
       ·rintro w' ⟨s0, s1, s2, s3⟩
        go_simp
        with_reducible rfl
       rotate_left
       ·simp only [Act.put, List.setIfInBounds_toArray, List.set_cons_zero, List.set_cons_succ, i64_w, i32_w]
        rfl
       refine take_ (i := 4) (N := some 30) (v := ?_) (a' := ?_) (tk_ 7 31) rfl rfl (by kernel_rfl) (fun _ _ _ h => h) (Or.inl ⟨by rfl, ?_⟩) hHeld ?_ ?_
       rotate_left
       ·rintro w' ⟨s0, s1, s2, s3⟩
        go_simp
        with_reducible rfl
       rotate_left
       ·simp only [Act.put, List.setIfInBounds_toArray, List.set_cons_zero, List.set_cons_succ, i64_w, i32_w]
        rfl
       refine one_ (i := 5) (N := some 31) (tk_ 7 63) rfl rfl (by kernel_rfl) (by decide) (fun K hK => ?_)
       refine goes_ Try.func34 (by kernel_rfl) rfl #[.agg #[.bool a0_0, .slice A0_1 l0_1.length c0_1, .int .i64 a0_2], .int .i64 (rd l1 x7_1)] (by rfl) rfl rfl (by (try simp only [List.map_toArray, List.map_cons, List.map_nil]); first | done | rfl | (simp only [List.length_drop, List.length_take]; rfl)) ?_
       with_reducible refine (erasureref19_code.calls a0_0 _ _ l0_1 a0_2 (rd l1 x7_1) false _ ?side1 ?side2 A17.out).mono ?_
       (case side1 => repeat (first | exact (Kd.C_below HR0_1.out HB.out) | (with_reducible refine Kd.C_alloc ?_ _) | (with_reducible refine Kd.C_drewN ?_ _) | (with_reducible refine Kd.C_drew ?_)))
       (case side2 => exact HC0_1.out)
       rintro e w85 ⟨rfl, hb⟩
       refine ⟨_, rfl, ?_⟩
       have n0_ := Aside0.mk (Kd.R_below (by (with_reducible repeat (first | apply Kd.R_alloc | apply Kd.R_drewN | apply Kd.R_drew)); exact HO_139001.out) hb)
       have n1_ := Aside0.mk (blk_below (g := gb135) (o := .cells #[.bool a0_0, .slice A0_1 l0_1.length c0_1, .int .i64 a0_2] 24 (0, 0)) (by (with_reducible repeat (first | refine blk_drewN ?_ _ | refine blk_drew ?_ | refine blk_alloc ?_ _)); exact BK135.out) hb)
       have n2_ := Aside0.mk (blk_below (g := gb136) (o := .cells #[.bool false, .slice none 0 0, .int .i64 0] 24 (0, 0)) (by (with_reducible repeat (first | refine blk_drewN ?_ _ | refine blk_drew ?_ | refine blk_alloc ?_ _)); exact BK136.out) hb)
       have n3_ := Aside0.mk (blk_below (g := gb138) (o := .cells #[.bool a0_0, u139001, .int .i64 0] 24 (0, 0)) (by (with_reducible repeat (first | refine blk_drewN ?_ _ | refine blk_drew ?_ | refine blk_alloc ?_ _)); exact BK138.out) hb)
       have n4_ := Aside0.mk (below_step (by repeat (first | (with_reducible first | exact HB.out | apply below_alloc | apply pw_below_drewN | apply below_drew1 | refine below_set ?_ GE135.out | refine below_set ?_ GE136.out | refine below_set ?_ GE138.out) | exact HB.out)) hb)
       clear HO_139001
       clear BK135
       clear BK136
       clear BK138
       clear HB
       have HO_139001 := n0_
       have BK135 := n1_
       have BK136 := n2_
       have BK138 := n3_
       have HB := n4_
       clear n0_ n1_ n2_ n3_ n4_
       (try clear hb)
       (try clear hb2)
       (try clear hk)
       (try clear hi)
       refine hK.out _ _ ⟨(blk_cell BK135.out 0).trans rfl, (blk_cell BK135.out 1).trans rfl, (blk_cell BK135.out 2).trans rfl, ((HB.out.cell (World.block_lt_of_cell? w _ hw139_0)).trans hw139_0)⟩ (fun hHeld => ?_)
       clear hK K
       refine norm_ (by show Act.put _ (some 31) _ = _; simp only [s0_, s1_, s2_, s3_, s4_, s5_]; rfl) ?_
       refine pure_ (i := 6) (N := some 32) (v := ?_) (a' := ?_) (tk_ 7 127) rfl rfl (by kernel_rfl) (fun _ _ _ h => h) (Or.inl ⟨by rfl, ?_⟩) ?_ ?_
       rotate_left
       ·intro w'
        go_simp
        with_reducible rfl
       rotate_left
       ·simp only [Act.put, List.setIfInBounds_toArray, List.set_cons_zero, List.set_cons_succ, i64_w, i32_w]
        rfl
       refine done_ (by kernel_rfl) ?_
       try go_wp2
       go_roundg k1
       case measure => have := HK1.out; omega
       case rel => exact ⟨(wrap64 (x7_1 + 1)), (x139001_1), (u139001), (by first | rfl | (simp; done) | (simp [*]; done)), H', ⟨by have := HK1.out; omega⟩, ⟨by (with_reducible repeat (first | apply Kd.R_alloc | apply Kd.R_drewN | apply Kd.R_drew)); exact HO_139001.out⟩, ⟨by (with_reducible repeat (first | refine blk_drewN ?_ _ | refine blk_drew ?_ | refine blk_alloc ?_ _)); exact BK135.out⟩, ⟨by (with_reducible repeat (first | refine blk_drewN ?_ _ | refine blk_drew ?_ | refine blk_alloc ?_ _)); exact BK136.out⟩, ⟨by (with_reducible repeat (first | refine blk_drewN ?_ _ | refine blk_drew ?_ | refine blk_alloc ?_ _)); exact BK138.out⟩, ⟨by repeat (first | (with_reducible first | exact HB.out | apply below_alloc | apply pw_below_drewN | apply below_drew1 | refine below_set ?_ GE135.out | refine below_set ?_ GE136.out | refine below_set ?_ GE138.out) | exact HB.out)⟩⟩
     ·rw [if_neg c16] at H
      exact absurd H (by simp)
    ·rw [if_neg c15] at H
     have c15b0 : decide (x7_1 < (l1.length : Int)) = false := decide_eq_false c15
     clear c15
     simp only [Option.some.injEq, Prod.mk.injEq] at H
     obtain ⟨rfl, rfl, rfl, rfl⟩ := H
     have hnb86 := NB138_135.out
     have hnc86 := NB135_138.out
     have hnb87 := NB138_136.out
     have hnc87 := NB136_138.out
     have hcz88_0 : wr.cell? ⟨gb138, 0, none⟩ = some (.bool a0_0) := (blk_cell BK138.out 0).trans rfl
     have hcz88_1 : wr.cell? ⟨gb138, 1, none⟩ = some (u139001) := (blk_cell BK138.out 1).trans rfl
     have hcz88_2 : wr.cell? ⟨gb138, 2, none⟩ = some (.int .i64 0) := (blk_cell BK138.out 2).trans rfl
     have hfz88_0 := blk_frozen BK138.out 0
     have hfz88_1 := blk_frozen BK138.out 1
     have hfz88_2 := blk_frozen BK138.out 2
     have hnb89 := NB136_135.out
     have hnc89 := NB135_136.out
     have hcz90_0 : wr.cell? ⟨gb136, 0, none⟩ = some (.bool false) := (blk_cell BK136.out 0).trans rfl
     have hcz90_1 : wr.cell? ⟨gb136, 1, none⟩ = some (.slice none 0 0) := (blk_cell BK136.out 1).trans rfl
     have hcz90_2 : wr.cell? ⟨gb136, 2, none⟩ = some (.int .i64 0) := (blk_cell BK136.out 2).trans rfl
     have hfz90_0 := blk_frozen BK136.out 0
     have hfz90_1 := blk_frozen BK136.out 1
     have hfz90_2 := blk_frozen BK136.out 2
     obtain ⟨Ao91, co91, eo91⟩ := Kd.R_slice HO_139001.out
     subst eo91
     go_wp2
     refine bodyPost_ret (results_ct rfl _ _ gb136 24 #[.bool a0_0, .slice Ao91 x139001_1.length co91, .int .i64 0] (0, 0) _ rfl (by (with_reducible repeat (first | refine blk_drewN ?_ _ | refine blk_drew ?_ | refine blk_alloc ?_ _)); refine blk_put (cs := #[.bool a0_0, .slice Ao91 x139001_1.length co91, .int .i64 0]) ?_ 2 _ rfl; (with_reducible repeat (first | refine blk_drewN ?_ _ | refine blk_drew ?_ | refine blk_alloc ?_ _)); refine blk_put (cs := #[.bool a0_0, .slice none 0 0, .int .i64 0]) ?_ 1 _ rfl; (with_reducible repeat (first | refine blk_drewN ?_ _ | refine blk_drew ?_ | refine blk_alloc ?_ _)); refine blk_put (cs := #[.bool false, .slice none 0 0, .int .i64 0]) ?_ 0 _ rfl; (with_reducible repeat (first | refine blk_drewN ?_ _ | refine blk_drew ?_ | refine blk_alloc ?_ _)); exact BK136.out) Try.underlying24 rfl (by kernel_rfl)) rfl ?_
     exact ⟨_, by first | rfl | (simp [errW_none, errW_some] <;> rfl) | (simp [*, errW_none, errW_some] <;> rfl), by (with_reducible repeat (first | apply Kd.R_alloc | apply Kd.R_drewN | apply Kd.R_drew)); exact Kd.R_mono (Kd.R_far (p := ⟨gb136, 2, none⟩) (Kd.R_far (p := ⟨gb136, 1, none⟩) (Kd.R_far (p := ⟨gb136, 0, none⟩) (Kd.R_types HO_139001.out BK136.out (by decide)) (fun _ hk => hk.2) (.bool a0_0)) (fun _ hk => hk.2) (.slice Ao91 x139001_1.length co91)) (fun _ hk => hk.2) (.int .i64 0)) (fun _ hk => trivial), by repeat (first | (with_reducible first | exact HB.out | apply below_alloc | apply pw_below_drewN | apply below_drew1 | refine below_set ?_ GE135.out | refine below_set ?_ GE136.out | refine below_set ?_ GE138.out) | exact HB.out)⟩
 ·replace c4 := Bool.eq_false_iff.mpr c4
  subst c4
  have H1 : (some (false, ([] : List (S37)), 0, 1)) = some (r1, r2, r3, r4) := by rw [if_neg (show ¬ (false = true) by decide)] at H; exact H
  clear H
  have H := H1
  clear H1
  simp only [Option.some.injEq, Prod.mk.injEq] at H
  obtain ⟨rfl, rfl, rfl, rfl⟩ := H
  go_enter Try.func21, Try.ntmps21
  go_wp2_with (first | ((with_reducible refine gate_dst (N := 2) rfl ?_); refine box_event ?hg (N := 2) ?hd (cs := #[.bool a0_0, .slice A0_1 l0_1.length c0_1, .int .i64 a0_2]) (t := 24) ?hr ?_; (case hd => rfl); (case hg => rfl); (case hr => first | (go_simp; done) | (go_simp; rfl)); intro gb135 hg w92 hbox hb; have n0_ := Aside0.mk (below_step (by repeat (first | (with_reducible first | exact HB.out | apply below_alloc | apply pw_below_drewN | apply below_drew1) | exact HB.out)) hb); have n1_ := Aside0.mk (hbox); have n2_ := Aside0.mk ((by rw [hg]; exact (below_size (by repeat (first | (with_reducible first | exact HB.out | apply below_alloc | apply pw_below_drewN | apply below_drew1) | exact HB.out))) : w.heap.size ≤ gb135)); have n3_ := Aside0.mk ((by rw [hg]; exact (below_size (by repeat (first | (with_reducible first | exact HB.out | apply below_alloc | apply pw_below_drewN | apply below_drew1) | exact HB.out))) : w.heap.size ≤ gb135)); clear HB; have HB := n0_; have BK135 := n1_; have GW135 := n2_; have GE135 := n3_; clear n0_ n1_ n2_ n3_; clear hb hbox hg) | ((with_reducible refine gate_dst (N := 4) rfl ?_); refine box_event ?hg (N := 4) ?hd (cs := #[.bool false, .slice none 0 0, .int .i64 0]) (t := 24) ?hr ?_; (case hd => rfl); (case hg => rfl); (case hr => first | (go_simp; done) | (go_simp; rfl)); intro gb136 hg w93 hbox hb; have n0_ := Aside0.mk (blk_below (g := gb135) (o := .cells #[.bool a0_0, .slice A0_1 l0_1.length c0_1, .int .i64 a0_2] 24 (0, 0)) (by (with_reducible repeat (first | refine blk_drewN ?_ _ | refine blk_drew ?_ | refine blk_alloc ?_ _)); exact BK135.out) hb); have n1_ := Aside0.mk (below_step (by repeat (first | (with_reducible first | exact HB.out | apply below_alloc | apply pw_below_drewN | apply below_drew1 | refine below_set ?_ GE135.out) | exact HB.out)) hb); have n2_ := Aside0.mk (hbox); have n3_ := Aside0.mk ((by rw [hg]; exact (below_size (by repeat (first | (with_reducible first | exact HB.out | apply below_alloc | apply pw_below_drewN | apply below_drew1 | refine below_set ?_ GE135.out) | exact HB.out))) : w.heap.size ≤ gb136)); have n4_ := Aside0.mk ((by rw [hg]; exact (below_size (by repeat (first | (with_reducible first | exact HB.out | apply below_alloc | apply pw_below_drewN | apply below_drew1 | refine below_set ?_ GE135.out) | exact HB.out))) : w.heap.size ≤ gb136)); have n5_ := Aside0.mk ((by rw [hg]; exact Nat.ne_of_lt (blk_lt (g := gb135) (o := .cells #[.bool a0_0, .slice A0_1 l0_1.length c0_1, .int .i64 a0_2] 24 (0, 0)) (by (with_reducible repeat (first | refine blk_drewN ?_ _ | refine blk_drew ?_ | refine blk_alloc ?_ _)); exact BK135.out)) : gb135 ≠ gb136)); have n6_ := Aside0.mk ((by rw [hg]; exact Nat.ne_of_gt (blk_lt (g := gb135) (o := .cells #[.bool a0_0, .slice A0_1 l0_1.length c0_1, .int .i64 a0_2] 24 (0, 0)) (by (with_reducible repeat (first | refine blk_drewN ?_ _ | refine blk_drew ?_ | refine blk_alloc ?_ _)); exact BK135.out)) : gb136 ≠ gb135)); clear BK135; clear HB; have BK135 := n0_; have HB := n1_; have BK136 := n2_; have GW136 := n3_; have GE136 := n4_; have NB135_136 := n5_; have NB136_135 := n6_; clear n0_ n1_ n2_ n3_ n4_ n5_ n6_; clear hb hbox hg; have hnb94 := NB135_136.out; have hnc94 := NB136_135.out; have hcz95_0 : w93.cell? ⟨gb135, 0, none⟩ = some (.bool a0_0) := (blk_cell BK135.out 0).trans rfl; have hcz95_1 : w93.cell? ⟨gb135, 1, none⟩ = some (.slice A0_1 l0_1.length c0_1) := (blk_cell BK135.out 1).trans rfl; have hcz95_2 : w93.cell? ⟨gb135, 2, none⟩ = some (.int .i64 a0_2) := (blk_cell BK135.out 2).trans rfl; have hfz95_0 := blk_frozen BK135.out 0; have hfz95_1 := blk_frozen BK135.out 1; have hfz95_2 := blk_frozen BK135.out 2) | ((with_reducible refine gate_callee (f := 17) rfl ?_); refine goesL_ (some 14) rfl rfl Try.func17 (by kernel_rfl) rfl #[.agg #[.bool a0_0, .slice A0_1 l0_1.length c0_1, .int .i64 a0_2]] rfl (by (try simp only [List.map_toArray, List.map_cons, List.map_nil]); first | done | rfl | (simp only [List.length_drop, List.length_take]; rfl)) ?_; (with_reducible refine (erasureref19_Right.calls k a0_0 _ _ l0_1 a0_2 false _ ?side1 ?side2 A3.out).mono ?_); (case side1 => repeat (first | exact (Kd.C_below HR0_1.out HB.out) | (with_reducible refine Kd.C_alloc ?_ _) | (with_reducible refine Kd.C_drewN ?_ _) | (with_reducible refine Kd.C_drew ?_))); (case side2 => exact HC0_1.out); rintro e w96 ⟨rfl, hb⟩; refine ⟨_, rfl, ?_⟩; have n0_ := Aside0.mk (blk_below (g := gb135) (o := .cells #[.bool a0_0, .slice A0_1 l0_1.length c0_1, .int .i64 a0_2] 24 (0, 0)) (by (with_reducible repeat (first | refine blk_drewN ?_ _ | refine blk_drew ?_ | refine blk_alloc ?_ _)); exact BK135.out) hb); have n1_ := Aside0.mk (blk_below (g := gb136) (o := .cells #[.bool false, .slice none 0 0, .int .i64 0] 24 (0, 0)) (by (with_reducible repeat (first | refine blk_drewN ?_ _ | refine blk_drew ?_ | refine blk_alloc ?_ _)); exact BK136.out) hb); have n2_ := Aside0.mk (below_step (by repeat (first | (with_reducible first | exact HB.out | apply below_alloc | apply pw_below_drewN | apply below_drew1 | refine below_set ?_ GE135.out | refine below_set ?_ GE136.out) | exact HB.out)) hb); clear BK135; clear BK136; clear HB; have BK135 := n0_; have BK136 := n1_; have HB := n2_; clear n0_ n1_ n2_; (try clear hb); (try clear hb2); (try clear hk); (try clear hi); have hcz97_0 : w96.cell? ⟨gb136, 0, none⟩ = some (.bool false) := (blk_cell BK136.out 0).trans rfl; have hcz97_1 : w96.cell? ⟨gb136, 1, none⟩ = some (.slice none 0 0) := (blk_cell BK136.out 1).trans rfl; have hcz97_2 : w96.cell? ⟨gb136, 2, none⟩ = some (.int .i64 0) := (blk_cell BK136.out 2).trans rfl; have hfz97_0 := blk_frozen BK136.out 0; have hfz97_1 := blk_frozen BK136.out 1; have hfz97_2 := blk_frozen BK136.out 2))
  refine bodyPost_ret (results_ct rfl _ _ gb136 24 #[.bool false, .slice none 0 0, .int .i64 0] (0, 0) _ rfl (by (with_reducible repeat (first | refine blk_drewN ?_ _ | refine blk_drew ?_ | refine blk_alloc ?_ _)); refine blk_put (cs := #[.bool false, .slice none 0 0, .int .i64 0]) ?_ 2 _ rfl; (with_reducible repeat (first | refine blk_drewN ?_ _ | refine blk_drew ?_ | refine blk_alloc ?_ _)); refine blk_put (cs := #[.bool false, .slice none 0 0, .int .i64 0]) ?_ 1 _ rfl; (with_reducible repeat (first | refine blk_drewN ?_ _ | refine blk_drew ?_ | refine blk_alloc ?_ _)); refine blk_put (cs := #[.bool false, .slice none 0 0, .int .i64 0]) ?_ 0 _ rfl; (with_reducible repeat (first | refine blk_drewN ?_ _ | refine blk_drew ?_ | refine blk_alloc ?_ _)); exact BK136.out) Try.underlying24 rfl (by kernel_rfl)) rfl ?_
  exact ⟨_, by first | rfl | (simp [errW_none, errW_some] <;> rfl) | (simp [*, errW_none, errW_some] <;> rfl), by first | exact Kd.R_nil _ _ _ _ _ | exact Kd.N_nil _ _ _ _ _ | exact Kd.V_nil _ _ _ _ _ | exact Kd.Q_nil _ _ _ _ _ | exact Kd.S_nil _ _ _ _ _, by repeat (first | (with_reducible first | exact HB.out | apply below_alloc | apply pw_below_drewN | apply below_drew1 | refine below_set ?_ GE135.out | refine below_set ?_ GE136.out) | exact HB.out)⟩
end Go.Proofs.Ytjhpcfpccnfniaa.C
