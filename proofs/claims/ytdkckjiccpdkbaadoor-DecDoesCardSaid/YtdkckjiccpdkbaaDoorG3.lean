-- written by my own driver of the kit's print (wip/tools/myprint.py); Lean checks it.
import Derived.Test.YtdkckjiccpdkbaaDoorG0
import Derived.Test.YtdkckjiccpdkbaaDoorG2
import Derived.Test.YtdkckjiccpdkbaaDoorE1
namespace Go.Proofs.YtdkckjiccpdkbaaDoor.G
open Go.RowKit Go.Proofs.YtdkckjiccpdkbaaDoorW.PrintWords Go.Proofs.YtdkckjiccpdkbaaDoorW.PrintLast Go.Proofs.YtdkckjiccpdkbaaDoorW.PrintMore Go.Proofs.YtdkckjiccpdkbaaDoor.H Go.Proofs.YtdkckjiccpdkbaaDoor.A Go.Proofs.YtdkckjiccpdkbaaDoor.B Go.Proofs.YtdkckjiccpdkbaaDoor.E
attribute [local go_sem] max2_int min2_int max_two min_two max_three min_three max_four min_four   -- for this text's walks alone
set_option linter.unusedVariables false
set_option linter.unusedSimpArgs false
mutual
def erasureref01_sum.j0 : Nat → Int → Bool → Bool → List Int → Int → Bool → List Int → Int → Option (Bool × List Int × Int)
 | 0, _, _, _, _, _, _, _, _ => none
 | k + 1, x5, x32, x239000, x239001, x239002, x240000, x240001, x240002 => if x32 = true then ((erasureref01_sum.f k x240000 x240001 x240002 x239000 x239001 x239002).bind fun bt252 => (some (bt252.1, bt252.2.1, bt252.2.2))) else (erasureref01_sum.l0 k 0 0 x239000 x239001 x239002 x240000 x240001 x240002 x239000 ([] : List Int) x5)
def erasureref01_sum.l0 : Nat → Int → Int → Bool → List Int → Int → Bool → List Int → Int → Bool → List Int → Int → Option (Bool × List Int × Int)
 | 0, _, _, _, _, _, _, _, _, _, _, _ => none
 | k + 1, x7, x8, x239000, x239001, x239002, x240000, x240001, x240002, x258000, x258001, x258002 => if x8 ≤ (mx (x239001.length : Int) (x240001.length : Int)) then ((erasureref01_digit.f x239001 x8).bind fun t258 => (if (x239000 == x240000) = true then ((erasureref01_digit.f x240001 x8).bind fun t259 => (erasureref01_sum.j2 k x8 (wrap64 ((wrap64 (t258 + x7)) + t259)) x239000 x239001 x239002 x240000 x240001 x240002 x258000 x258001 x258002)) else ((erasureref01_digit.f x240001 x8).bind fun t260 => (erasureref01_sum.j2 k x8 (wrap64 ((wrap64 (t258 + x7)) - t260)) x239000 x239001 x239002 x240000 x240001 x240002 x258000 x258001 x258002)))) else (some (x258000, x258001, x258002))
def erasureref01_sum.j2 : Nat → Int → Int → Bool → List Int → Int → Bool → List Int → Int → Bool → List Int → Int → Option (Bool × List Int × Int)
 | 0, _, _, _, _, _, _, _, _, _, _, _ => none
 | k + 1, x8, x9, x239000, x239001, x239002, x240000, x240001, x240002, x258000, x258001, x258002 => if x9 > 9 then (if (wrap64 (x9 - 10)) < 0 then (if x258001.length < 17592186044416 then (erasureref01_sum.l0 k (-1) (wrap64 (x8 + 1)) x239000 x239001 x239002 x240000 x240001 x240002 x258000 (x258001 ++ [wrap64 ((wrap64 (x9 - 10)) + 10)]) x258002) else (none)) else (if x258001.length < 17592186044416 then (erasureref01_sum.l0 k 1 (wrap64 (x8 + 1)) x239000 x239001 x239002 x240000 x240001 x240002 x258000 (x258001 ++ [wrap64 (x9 - 10)]) x258002) else (none))) else (if x9 < 0 then (if x258001.length < 17592186044416 then (erasureref01_sum.l0 k (-1) (wrap64 (x8 + 1)) x239000 x239001 x239002 x240000 x240001 x240002 x258000 (x258001 ++ [wrap64 (x9 + 10)]) x258002) else (none)) else (if x258001.length < 17592186044416 then (erasureref01_sum.l0 k 0 (wrap64 (x8 + 1)) x239000 x239001 x239002 x240000 x240001 x240002 x258000 (x258001 ++ [x9]) x258002) else (none)))
def erasureref01_sum.f : Nat → Bool → List Int → Int → Bool → List Int → Int → Option (Bool × List Int × Int)
 | 0, _, _, _, _, _, _ => none
 | k + 1, a0_0, l0_1, a0_2, a1_0, l1_1, a1_2 => (erasureref01_lift.f k a0_0 l0_1 a0_2 (mx a0_2 a1_2)).bind fun bt241 => ((erasureref01_lift.f k a1_0 l1_1 a1_2 (mx a0_2 a1_2)).bind fun bt246 => (if (bt241.1 != bt246.1) = true then ((erasureref01_less.f k bt241.2.1 bt246.2.1).bind fun t251 => (erasureref01_sum.j0 k (mx a0_2 a1_2) t251 bt241.1 bt241.2.1 bt241.2.2 bt246.1 bt246.2.1 bt246.2.2)) else (erasureref01_sum.j0 k (mx a0_2 a1_2) false bt241.1 bt241.2.1 bt241.2.2 bt246.1 bt246.2.1 bt246.2.2)))
end
theorem erasureref01_sum.mono_l : ∀ k, (∀ y0 y1 y2 y3 y4 y5, LeO (erasureref01_sum.f k y0 y1 y2 y3 y4 y5) (erasureref01_sum.f (k + 1) y0 y1 y2 y3 y4 y5)) ∧ (∀ y0 y1 y2 y3 y4 y5 y6 y7, LeO (erasureref01_sum.j0 k y0 y1 y2 y3 y4 y5 y6 y7) (erasureref01_sum.j0 (k + 1) y0 y1 y2 y3 y4 y5 y6 y7)) ∧ (∀ y0 y1 y2 y3 y4 y5 y6 y7 y8 y9 y10, LeO (erasureref01_sum.l0 k y0 y1 y2 y3 y4 y5 y6 y7 y8 y9 y10) (erasureref01_sum.l0 (k + 1) y0 y1 y2 y3 y4 y5 y6 y7 y8 y9 y10)) ∧ (∀ y0 y1 y2 y3 y4 y5 y6 y7 y8 y9 y10, LeO (erasureref01_sum.j2 k y0 y1 y2 y3 y4 y5 y6 y7 y8 y9 y10) (erasureref01_sum.j2 (k + 1) y0 y1 y2 y3 y4 y5 y6 y7 y8 y9 y10))
 | 0 => ⟨fun _ _ _ _ _ _ r h => by simp [erasureref01_sum.f] at h, fun _ _ _ _ _ _ _ _ r h => by simp [erasureref01_sum.j0] at h, fun _ _ _ _ _ _ _ _ _ _ _ r h => by simp [erasureref01_sum.l0] at h, fun _ _ _ _ _ _ _ _ _ _ _ r h => by simp [erasureref01_sum.j2] at h⟩
 | k + 1 => by
  obtain ⟨ih0, ih1, ih2, ih3⟩ := erasureref01_sum.mono_l k
  refine ⟨?_, ?_, ?_, ?_⟩
  ·intro y0 y1 y2 y3 y4 y5
   unfold erasureref01_sum.f
   repeat' first
   | (with_reducible exact ih0 _ _ _ _ _ _)
   | (with_reducible exact ih1 _ _ _ _ _ _ _ _)
   | (with_reducible exact ih2 _ _ _ _ _ _ _ _ _ _ _)
   | (with_reducible exact ih3 _ _ _ _ _ _ _ _ _ _ _)
   | (with_reducible exact erasureref01_less.mono _ _ _)
   | (with_reducible exact erasureref01_lift.mono _ _ _ _ _)
   | (with_reducible exact LeO.refl _)
   | (with_reducible exact LeO.none _)
   | (with_reducible refine LeO.ite ?_ ?_)
   | (with_reducible refine LeO.bind ?_ (fun _ => ?_))
   | exact ih0 _ _ _ _ _ _
   | exact ih1 _ _ _ _ _ _ _ _
   | exact ih2 _ _ _ _ _ _ _ _ _ _ _
   | exact ih3 _ _ _ _ _ _ _ _ _ _ _
   | exact erasureref01_less.mono _ _ _
   | exact erasureref01_lift.mono _ _ _ _ _
   | exact LeO.none _
   | refine LeO.ite ?_ ?_
   | refine LeO.bind ?_ (fun _ => ?_)
  ·intro y0 y1 y2 y3 y4 y5 y6 y7
   unfold erasureref01_sum.j0
   repeat' first
   | (with_reducible exact ih0 _ _ _ _ _ _)
   | (with_reducible exact ih1 _ _ _ _ _ _ _ _)
   | (with_reducible exact ih2 _ _ _ _ _ _ _ _ _ _ _)
   | (with_reducible exact ih3 _ _ _ _ _ _ _ _ _ _ _)
   | (with_reducible exact erasureref01_less.mono _ _ _)
   | (with_reducible exact erasureref01_lift.mono _ _ _ _ _)
   | (with_reducible exact LeO.refl _)
   | (with_reducible exact LeO.none _)
   | (with_reducible refine LeO.ite ?_ ?_)
   | (with_reducible refine LeO.bind ?_ (fun _ => ?_))
   | exact ih0 _ _ _ _ _ _
   | exact ih1 _ _ _ _ _ _ _ _
   | exact ih2 _ _ _ _ _ _ _ _ _ _ _
   | exact ih3 _ _ _ _ _ _ _ _ _ _ _
   | exact erasureref01_less.mono _ _ _
   | exact erasureref01_lift.mono _ _ _ _ _
   | exact LeO.none _
   | refine LeO.ite ?_ ?_
   | refine LeO.bind ?_ (fun _ => ?_)
  ·intro y0 y1 y2 y3 y4 y5 y6 y7 y8 y9 y10
   unfold erasureref01_sum.l0
   repeat' first
   | (with_reducible exact ih0 _ _ _ _ _ _)
   | (with_reducible exact ih1 _ _ _ _ _ _ _ _)
   | (with_reducible exact ih2 _ _ _ _ _ _ _ _ _ _ _)
   | (with_reducible exact ih3 _ _ _ _ _ _ _ _ _ _ _)
   | (with_reducible exact erasureref01_less.mono _ _ _)
   | (with_reducible exact erasureref01_lift.mono _ _ _ _ _)
   | (with_reducible exact LeO.refl _)
   | (with_reducible exact LeO.none _)
   | (with_reducible refine LeO.ite ?_ ?_)
   | (with_reducible refine LeO.bind ?_ (fun _ => ?_))
   | exact ih0 _ _ _ _ _ _
   | exact ih1 _ _ _ _ _ _ _ _
   | exact ih2 _ _ _ _ _ _ _ _ _ _ _
   | exact ih3 _ _ _ _ _ _ _ _ _ _ _
   | exact erasureref01_less.mono _ _ _
   | exact erasureref01_lift.mono _ _ _ _ _
   | exact LeO.none _
   | refine LeO.ite ?_ ?_
   | refine LeO.bind ?_ (fun _ => ?_)
  ·intro y0 y1 y2 y3 y4 y5 y6 y7 y8 y9 y10
   unfold erasureref01_sum.j2
   repeat' first
   | (with_reducible exact ih0 _ _ _ _ _ _)
   | (with_reducible exact ih1 _ _ _ _ _ _ _ _)
   | (with_reducible exact ih2 _ _ _ _ _ _ _ _ _ _ _)
   | (with_reducible exact ih3 _ _ _ _ _ _ _ _ _ _ _)
   | (with_reducible exact erasureref01_less.mono _ _ _)
   | (with_reducible exact erasureref01_lift.mono _ _ _ _ _)
   | (with_reducible exact LeO.refl _)
   | (with_reducible exact LeO.none _)
   | (with_reducible refine LeO.ite ?_ ?_)
   | (with_reducible refine LeO.bind ?_ (fun _ => ?_))
   | exact ih0 _ _ _ _ _ _
   | exact ih1 _ _ _ _ _ _ _ _
   | exact ih2 _ _ _ _ _ _ _ _ _ _ _
   | exact ih3 _ _ _ _ _ _ _ _ _ _ _
   | exact erasureref01_less.mono _ _ _
   | exact erasureref01_lift.mono _ _ _ _ _
   | exact LeO.none _
   | refine LeO.ite ?_ ?_
   | refine LeO.bind ?_ (fun _ => ?_)
theorem erasureref01_sum.mono : ∀ a0 a1 a2 a3 a4 a5 k, LeO (erasureref01_sum.f k a0 a1 a2 a3 a4 a5) (erasureref01_sum.f (k + 1) a0 a1 a2 a3 a4 a5) := by
 intro a0 a1 a2 a3 a4 a5 k
 obtain ⟨ih0, ih1, ih2, ih3⟩ := erasureref01_sum.mono_l k
 exact ih0 a0 a1 a2 a3 a4 a5
set_option maxHeartbeats 8000000 in
set_option maxRecDepth 100000 in
theorem erasureref01_sum.calls (k : Nat) : ∀ (a0_0 : Bool) (A0_1 : Option Addr) (c0_1 : Nat) (l0_1 : List Int) (a0_2 : Int) (a1_0 : Bool) (A1_1 : Option Addr) (c1_1 : Nat) (l1_1 : List Int) (a1_2 : Int) (r1 : Bool) (r2 : List Int) (r3 : Int) (w : World) (hr0_1 : Kd.C (Kd.int .i64) w A0_1 l0_1.length l0_1) (hc0_1 : l0_1.length ≤ c0_1) (hr1_1 : Kd.C (Kd.int .i64) w A1_1 l1_1.length l1_1) (hc1_1 : l1_1.length ≤ c1_1) (h : erasureref01_sum.f k a0_0 l0_1 a0_2 a1_0 l1_1 a1_2 = some (r1, r2, r3)),
  Calls Tryd.prog 41 #[.agg #[.bool a0_0, .slice A0_1 l0_1.length c0_1, .int .i64 a0_2], .agg #[.bool a1_0, .slice A1_1 l1_1.length c1_1, .int .i64 a1_2]] w fun e w' => ∃ v1_ : Value, e = .returned (.agg #[.bool r1, v1_, .int .i64 r3]) ∧ Kd.R (Kd.int .i64) 3 w' w.heap.size (fun _ => True) v1_ r2 ∧ Below w.heap.size w w' := by
 induction k using Nat.strongRecOn with
 | _ k ih =>
 intro a0_0 A0_1 c0_1 l0_1 a0_2 a1_0 A1_1 c1_1 l1_1 a1_2 r1 r2 r3 w hr0_1 hc0_1 hr1_1 hc1_1 h
 cases k with
 | zero => exact absurd h (by simp [erasureref01_sum.f])
 | succ k =>
 simp only [erasureref01_sum.f] at h
 have hu61 := Tryd.underlying61
 have HR0_1 := Aside0.mk hr0_1
 have HC0_1 := Aside0.mk hc0_1
 clear hr0_1 hc0_1
 have HR1_1 := Aside0.mk hr1_1
 have HC1_1 := Aside0.mk hc1_1
 clear hr1_1 hc1_1
 have HB := Aside0.mk (Below.refl w.heap.size w)
 have H : ((erasureref01_lift.f k a0_0 l0_1 a0_2 (mx a0_2 a1_2)).bind fun bt241 => ((erasureref01_lift.f k a1_0 l1_1 a1_2 (mx a0_2 a1_2)).bind fun bt246 => (if (bt241.1 != bt246.1) = true then ((erasureref01_less.f k bt241.2.1 bt246.2.1).bind fun t251 => (erasureref01_sum.j0 k (mx a0_2 a1_2) t251 bt241.1 bt241.2.1 bt241.2.2 bt246.1 bt246.2.1 bt246.2.2)) else (erasureref01_sum.j0 k (mx a0_2 a1_2) false bt241.1 bt241.2.1 bt241.2.2 bt246.1 bt246.2.1 bt246.2.2)))) = some (r1, r2, r3) := h
 clear h
 obtain ⟨ji3, hji3⟩ : ∃ j_ : Int, (mx a0_2 a1_2) = j_ := ⟨_, rfl⟩
 replace H : ((erasureref01_lift.f k a0_0 l0_1 a0_2 (ji3)).bind fun bt241 => ((erasureref01_lift.f k a1_0 l1_1 a1_2 (ji3)).bind fun bt246 => (if (bt241.1 != bt246.1) = true then ((erasureref01_less.f k bt241.2.1 bt246.2.1).bind fun t251 => (erasureref01_sum.j0 k ji3 t251 bt241.1 bt241.2.1 bt241.2.2 bt246.1 bt246.2.1 bt246.2.2)) else (erasureref01_sum.j0 k ji3 false bt241.1 bt241.2.1 bt241.2.2 bt246.1 bt246.2.1 bt246.2.2)))) = some (r1, r2, r3) := by first | (rw [hji3] at H; exact H) | (simp only [hji3] at H ⊢; exact H)
 have hji3_ : (if a0_2 < a1_2 then a1_2 else a0_2) = ji3 := hji3
 replace H := Option.bind_eq_some_iff.mp H
 obtain ⟨⟨t241, t242, t245⟩, A40, H⟩ := H
 replace H : ((erasureref01_lift.f k a1_0 l1_1 a1_2 (ji3)).bind fun bt246 => (if (t241 != bt246.1) = true then ((erasureref01_less.f k t242 bt246.2.1).bind fun t251 => (erasureref01_sum.j0 k ji3 t251 t241 t242 t245 bt246.1 bt246.2.1 bt246.2.2)) else (erasureref01_sum.j0 k ji3 false t241 t242 t245 bt246.1 bt246.2.1 bt246.2.2))) = some (r1, r2, r3) := H
 have A4 := Aside0.mk A40
 clear A40
 replace H := Option.bind_eq_some_iff.mp H
 obtain ⟨⟨t246, t247, t250⟩, A50, H⟩ := H
 replace H : (if (t241 != t246) = true then ((erasureref01_less.f k t242 t247).bind fun t251 => (erasureref01_sum.j0 k ji3 t251 t241 t242 t245 t246 t247 t250)) else (erasureref01_sum.j0 k ji3 false t241 t242 t245 t246 t247 t250)) = some (r1, r2, r3) := H
 have A5 := Aside0.mk A50
 clear A50
 have HC6 := Aside0.mk H
 clear H
 go_enter Tryd.func41, Tryd.ntmps41
 go_upto_region 4 with (first | ((with_reducible refine gate_dst (N := 2) rfl ?_); refine box_event ?hg (N := 2) ?hd (cs := #[.bool a0_0, .slice A0_1 l0_1.length c0_1, .int .i64 a0_2]) (t := 61) ?hr ?_; (case hd => rfl); (case hg => rfl); (case hr => first | (go_simp; done) | (go_simp; rfl)); intro gb238 hg w7 hbox hb; have n0_ := Aside0.mk (below_step bel hb); have n1_ := Aside0.mk (hbox); have n2_ := Aside0.mk ((by rw [hg]; exact (below_size bel) : w.heap.size ≤ gb238)); have n3_ := Aside0.mk ((by rw [hg]; exact (below_size bel) : w.heap.size ≤ gb238)); clear HB; have HB := n0_; have BK238 := n1_; have GW238 := n2_; have GE238 := n3_; clear n0_ n1_ n2_ n3_; clear hb hbox hg) | ((with_reducible refine gate_dst (N := 3) rfl ?_); refine box_event ?hg (N := 3) ?hd (cs := #[.bool a1_0, .slice A1_1 l1_1.length c1_1, .int .i64 a1_2]) (t := 61) ?hr ?_; (case hd => rfl); (case hg => rfl); (case hr => first | (go_simp; done) | (go_simp; rfl)); intro gb239 hg w8 hbox hb; have n0_ := Aside0.mk (blk_below (bkk BK238.out) hb); have n1_ := Aside0.mk (below_step bel hb); have n2_ := Aside0.mk (hbox); have n3_ := Aside0.mk ((by rw [hg]; exact (below_size bel) : w.heap.size ≤ gb239)); have n4_ := Aside0.mk ((by rw [hg]; exact (below_size bel) : w.heap.size ≤ gb239)); have n5_ := Aside0.mk ((by rw [hg]; exact Nat.ne_of_lt (blk_lt (g := gb238) (o := .cells #[.bool a0_0, .slice A0_1 l0_1.length c0_1, .int .i64 a0_2] 61 (0, 0)) (bkk BK238.out)) : gb238 ≠ gb239)); have n6_ := Aside0.mk ((by rw [hg]; exact Nat.ne_of_gt (blk_lt (g := gb238) (o := .cells #[.bool a0_0, .slice A0_1 l0_1.length c0_1, .int .i64 a0_2] 61 (0, 0)) (bkk BK238.out)) : gb239 ≠ gb238)); clear BK238; clear HB; have BK238 := n0_; have HB := n1_; have BK239 := n2_; have GW239 := n3_; have GE239 := n4_; have NB238_239 := n5_; have NB239_238 := n6_; clear n0_ n1_ n2_ n3_ n4_ n5_ n6_; clear hb hbox hg) | ((with_reducible refine gate_dst (N := 4) rfl ?_); refine box_event ?hg (N := 4) ?hd (cs := #[.bool false, .slice none 0 0, .int .i64 0]) (t := 61) ?hr ?_; (case hd => rfl); (case hg => rfl); (case hr => first | (go_simp; done) | (go_simp; rfl)); intro gb240 hg w9 hbox hb; have n0_ := Aside0.mk (blk_below (bkk BK238.out) hb); have n1_ := Aside0.mk (blk_below (bkk BK239.out) hb); have n2_ := Aside0.mk (below_step bel hb); have n3_ := Aside0.mk (hbox); have n4_ := Aside0.mk ((by rw [hg]; exact (below_size bel) : w.heap.size ≤ gb240)); have n5_ := Aside0.mk ((by rw [hg]; exact (below_size bel) : w.heap.size ≤ gb240)); have n6_ := Aside0.mk ((by rw [hg]; exact Nat.ne_of_lt (blk_lt (g := gb238) (o := .cells #[.bool a0_0, .slice A0_1 l0_1.length c0_1, .int .i64 a0_2] 61 (0, 0)) (bkk BK238.out)) : gb238 ≠ gb240)); have n7_ := Aside0.mk ((by rw [hg]; exact Nat.ne_of_gt (blk_lt (g := gb238) (o := .cells #[.bool a0_0, .slice A0_1 l0_1.length c0_1, .int .i64 a0_2] 61 (0, 0)) (bkk BK238.out)) : gb240 ≠ gb238)); have n8_ := Aside0.mk ((by rw [hg]; exact Nat.ne_of_lt (blk_lt (g := gb239) (o := .cells #[.bool a1_0, .slice A1_1 l1_1.length c1_1, .int .i64 a1_2] 61 (0, 0)) (bkk BK239.out)) : gb239 ≠ gb240)); have n9_ := Aside0.mk ((by rw [hg]; exact Nat.ne_of_gt (blk_lt (g := gb239) (o := .cells #[.bool a1_0, .slice A1_1 l1_1.length c1_1, .int .i64 a1_2] 61 (0, 0)) (bkk BK239.out)) : gb240 ≠ gb239)); clear BK238; clear BK239; clear HB; have BK238 := n0_; have BK239 := n1_; have HB := n2_; have BK240 := n3_; have GW240 := n4_; have GE240 := n5_; have NB238_240 := n6_; have NB240_238 := n7_; have NB239_240 := n8_; have NB240_239 := n9_; clear n0_ n1_ n2_ n3_ n4_ n5_ n6_ n7_ n8_ n9_; clear hb hbox hg; have hnb10 := NB238_239.out; have hnc10 := NB239_238.out; have hnb11 := NB238_240.out; have hnc11 := NB240_238.out; have hcz12_0 : w9.cell? ⟨gb238, 0, none⟩ = some (.bool a0_0) := (blk_cell BK238.out 0).trans rfl; have hcz12_1 : w9.cell? ⟨gb238, 1, none⟩ = some (.slice A0_1 l0_1.length c0_1) := (blk_cell BK238.out 1).trans rfl; have hcz12_2 : w9.cell? ⟨gb238, 2, none⟩ = some (.int .i64 a0_2) := (blk_cell BK238.out 2).trans rfl; have hfz12_0 := blk_frozen BK238.out 0; have hfz12_1 := blk_frozen BK238.out 1; have hfz12_2 := blk_frozen BK238.out 2; have hnb13 := NB239_240.out; have hnc13 := NB240_239.out; have hcz14_0 : w9.cell? ⟨gb239, 0, none⟩ = some (.bool a1_0) := (blk_cell BK239.out 0).trans rfl; have hcz14_1 : w9.cell? ⟨gb239, 1, none⟩ = some (.slice A1_1 l1_1.length c1_1) := (blk_cell BK239.out 1).trans rfl; have hcz14_2 : w9.cell? ⟨gb239, 2, none⟩ = some (.int .i64 a1_2) := (blk_cell BK239.out 2).trans rfl; have hfz14_0 := blk_frozen BK239.out 0; have hfz14_1 := blk_frozen BK239.out 1; have hfz14_2 := blk_frozen BK239.out 2) | ((with_reducible refine gate_callee (f := 43) rfl ?_); refine goesL_ (some 17) rfl rfl Tryd.func43 (by kernel_rfl) rfl #[.agg #[.bool a0_0, .slice A0_1 l0_1.length c0_1, .int .i64 a0_2], .int .i64 ji3] rfl (by (try simp only [List.map_toArray, List.map_cons, List.map_nil]); first | done | (simp only [hji3]; rfl) | rfl | (simp only [List.length_drop, List.length_take]; rfl)) ?_; (with_reducible refine (erasureref01_lift.calls k a0_0 _ _ l0_1 a0_2 ji3 t241 t242 t245 _ ?side1 ?side2 A4.out).mono ?_); (case side1 => repeat (first | exact (Kd.C_below HR0_1.out HB.out) | (with_reducible refine Kd.C_alloc ?_ _) | (with_reducible refine Kd.C_drewN ?_ _) | (with_reducible refine Kd.C_drew ?_))); (case side2 => exact HC0_1.out); rintro e w15 ⟨v243, rfl, ho0, hb⟩; refine ⟨_, rfl, ?_⟩; have n0_ := Aside0.mk (Kd.R_lower ho0 (below_size bel)); have n1_ := Aside0.mk (blk_below (bkk BK238.out) hb); have n2_ := Aside0.mk (blk_below (bkk BK239.out) hb); have n3_ := Aside0.mk (blk_below (bkk BK240.out) hb); have n4_ := Aside0.mk (below_step bel hb); clear BK238; clear BK239; clear BK240; clear HB; have HO244 := n0_; have BK238 := n1_; have BK239 := n2_; have BK240 := n3_; have HB := n4_; clear n0_ n1_ n2_ n3_ n4_; (try clear hb); (try clear hb2); (try clear hk); (try clear hi); (try clear ho0); have hcz16_0 : w15.cell? ⟨gb238, 0, none⟩ = some (.bool a0_0) := (blk_cell BK238.out 0).trans rfl; have hcz16_1 : w15.cell? ⟨gb238, 1, none⟩ = some (.slice A0_1 l0_1.length c0_1) := (blk_cell BK238.out 1).trans rfl; have hcz16_2 : w15.cell? ⟨gb238, 2, none⟩ = some (.int .i64 a0_2) := (blk_cell BK238.out 2).trans rfl; have hfz16_0 := blk_frozen BK238.out 0; have hfz16_1 := blk_frozen BK238.out 1; have hfz16_2 := blk_frozen BK238.out 2; obtain ⟨Ao17, co17, eo17⟩ := Kd.R_slice HO244.out; subst eo17; have hcz18_0 : w15.cell? ⟨gb239, 0, none⟩ = some (.bool a1_0) := (blk_cell BK239.out 0).trans rfl; have hcz18_1 : w15.cell? ⟨gb239, 1, none⟩ = some (.slice A1_1 l1_1.length c1_1) := (blk_cell BK239.out 1).trans rfl; have hcz18_2 : w15.cell? ⟨gb239, 2, none⟩ = some (.int .i64 a1_2) := (blk_cell BK239.out 2).trans rfl; have hfz18_0 := blk_frozen BK239.out 0; have hfz18_1 := blk_frozen BK239.out 1; have hfz18_2 := blk_frozen BK239.out 2) | ((with_reducible refine gate_callee (f := 43) rfl ?_); refine goesL_ (some 20) rfl rfl Tryd.func43 (by kernel_rfl) rfl #[.agg #[.bool a1_0, .slice A1_1 l1_1.length c1_1, .int .i64 a1_2], .int .i64 ji3] rfl (by (try simp only [List.map_toArray, List.map_cons, List.map_nil]); first | done | (simp only [hji3]; rfl) | rfl | (simp only [List.length_drop, List.length_take]; rfl)) ?_; (with_reducible refine (erasureref01_lift.calls k a1_0 _ _ l1_1 a1_2 ji3 t246 t247 t250 _ ?side1 ?side2 A5.out).mono ?_); (case side1 => exact Kd.C_below HR1_1.out bel); (case side2 => exact HC1_1.out); rintro e w19 ⟨v248, rfl, ho0, hb⟩; refine ⟨_, rfl, ?_⟩; have n0_ := Aside0.mk (Kd.R_elder' (by (with_reducible repeat (first | apply Kd.R_alloc | apply Kd.R_drewN | apply Kd.R_drew)); exact (Kd.R_mono (Kd.R_far (p := ⟨gb238, 2, none⟩) (Kd.R_far (p := ⟨gb238, 1, none⟩) (Kd.R_far (p := ⟨gb238, 0, none⟩) (Kd.R_types HO244.out BK238.out (by decide)) (fun _ hk => hk.2) (.bool t241)) (fun _ hk => hk.2) (.slice Ao17 t242.length co17)) (fun _ hk => hk.2) (.int .i64 t245)) (fun _ h_ => h_.1))) (Kd.R_base ho0) hb); have n1_ := Aside0.mk (Kd.R_lower (Kd.R_new' ho0 (Kd.R_lt (by (with_reducible repeat (first | apply Kd.R_alloc | apply Kd.R_drewN | apply Kd.R_drew)); exact (Kd.R_mono (Kd.R_far (p := ⟨gb238, 2, none⟩) (Kd.R_far (p := ⟨gb238, 1, none⟩) (Kd.R_far (p := ⟨gb238, 0, none⟩) (Kd.R_types HO244.out BK238.out (by decide)) (fun _ hk => hk.2) (.bool t241)) (fun _ hk => hk.2) (.slice Ao17 t242.length co17)) (fun _ hk => hk.2) (.int .i64 t245)) (fun _ h_ => h_.1))))) (below_size bel)); have n2_ := Aside0.mk (blk_below (g := gb238) (o := .cells #[.bool t241, .slice Ao17 t242.length co17, .int .i64 t245] 61 (0, 0)) (by (with_reducible repeat (first | refine blk_drewN ?_ _ | refine blk_drew ?_ | refine blk_alloc ?_ _)); refine blk_put (cs := #[.bool t241, .slice Ao17 t242.length co17, .int .i64 a0_2]) ?_ 2 _ rfl; (with_reducible repeat (first | refine blk_drewN ?_ _ | refine blk_drew ?_ | refine blk_alloc ?_ _)); refine blk_put (cs := #[.bool t241, .slice A0_1 l0_1.length c0_1, .int .i64 a0_2]) ?_ 1 _ rfl; (with_reducible repeat (first | refine blk_drewN ?_ _ | refine blk_drew ?_ | refine blk_alloc ?_ _)); refine blk_put (cs := #[.bool a0_0, .slice A0_1 l0_1.length c0_1, .int .i64 a0_2]) ?_ 0 _ rfl; (with_reducible repeat (first | refine blk_drewN ?_ _ | refine blk_drew ?_ | refine blk_alloc ?_ _)); exact BK238.out) hb); have n3_ := Aside0.mk (blk_below (g := gb239) (o := .cells #[.bool a1_0, .slice A1_1 l1_1.length c1_1, .int .i64 a1_2] 61 (0, 0)) blks hb); have n4_ := Aside0.mk (blk_below (g := gb240) (o := .cells #[.bool false, .slice none 0 0, .int .i64 0] 61 (0, 0)) blks hb); have n5_ := Aside0.mk (below_step bel hb); clear HO244; clear BK238; clear BK239; clear BK240; clear HB; have HO244 := n0_; have HO249 := n1_; have BK238 := n2_; have BK239 := n3_; have BK240 := n4_; have HB := n5_; clear n0_ n1_ n2_ n3_ n4_ n5_; (try clear hb); (try clear hb2); (try clear hk); (try clear hi); (try clear ho0); have hcz20_0 : w19.cell? ⟨gb239, 0, none⟩ = some (.bool a1_0) := (blk_cell BK239.out 0).trans rfl; have hcz20_1 : w19.cell? ⟨gb239, 1, none⟩ = some (.slice A1_1 l1_1.length c1_1) := (blk_cell BK239.out 1).trans rfl; have hcz20_2 : w19.cell? ⟨gb239, 2, none⟩ = some (.int .i64 a1_2) := (blk_cell BK239.out 2).trans rfl; have hfz20_0 := blk_frozen BK239.out 0; have hfz20_1 := blk_frozen BK239.out 1; have hfz20_2 := blk_frozen BK239.out 2; obtain ⟨Ao21, co21, eo21⟩ := Kd.R_slice HO249.out; subst eo21))
 (try simp only [Act.put, List.setIfInBounds_toArray, List.set_cons_zero, List.set_cons_succ])
 go_cut [32] (fun v32 wc => ∃ (kq : Nat) (x32_5 : Bool), v32 = .bool x32_5 ∧ Aside0 (erasureref01_sum.j0 kq ji3 x32_5 t241 t242 t245 t246 t247 t250 = some (r1, r2, r3)) ∧ Aside0 (kq ≤ k) ∧ Aside0 (Kd.R (Kd.int .i64) 3 wc w.heap.size (fun k_ => some k_ ≠ ((.slice Ao21 t247.length co21) : Value).ownBlock) (.slice Ao17 t242.length co17) t242) ∧ Aside0 (Kd.R (Kd.int .i64) 3 wc w.heap.size (fun k_ => some k_ ≠ ((.slice Ao17 t242.length co17) : Value).ownBlock) (.slice Ao21 t247.length co21) t247) ∧ Aside0 (wc.heap[gb238]? = some (.cells #[.bool t241, (.slice Ao17 t242.length co17), .int .i64 t245] 61 (0, 0))) ∧ Aside0 (wc.heap[gb239]? = some (.cells #[.bool t246, (.slice Ao21 t247.length co21), .int .i64 t250] 61 (0, 0))) ∧ Aside0 (wc.heap[gb240]? = some (.cells #[.bool false, (.slice none 0 0), .int .i64 0] 61 (0, 0))) ∧ Aside0 (Below w.heap.size w wc))
 case first =>
  have H := HC6.out
  clear HC6
  by_cases c22 : (t241 != t246) = true
  ·rw [if_pos c22] at H
   have c22b0 : (t241 != t246) = true := c22
   (try (have c22b1 : decide (t241 = t246) = false := by simpa using c22))
   (try (have c22b2 : (t241 == t246) = false := by simpa using c22))
   (try (have c22b3 : ¬ (t241 = t246) := by simpa using c22))
   clear c22
   (first | rw [c22b0] | rw [show (!(t241 == t246)) = true from c22b0] | (simp only [i64_w, i32_w]; rw [c22b0]) | skip)
   replace H := Option.bind_eq_some_iff.mp H
   obtain ⟨t251, A230, H⟩ := H
   replace H : (erasureref01_sum.j0 k ji3 t251 t241 t242 t245 t246 t247 t250) = some (r1, r2, r3) := H
   have A23 := Aside0.mk A230
   clear A230
   have H' := Aside0.mk H
   clear H
   have hnb24 := NB238_239.out
   have hnc24 := NB239_238.out
   have hnb25 := NB238_240.out
   have hnc25 := NB240_238.out
   have hcz26_0 : w19.cell? ⟨gb238, 0, none⟩ = some (.bool t241) := (blk_cell BK238.out 0).trans rfl
   have hcz26_1 : w19.cell? ⟨gb238, 1, none⟩ = some (.slice Ao17 t242.length co17) := (blk_cell BK238.out 1).trans rfl
   have hcz26_2 : w19.cell? ⟨gb238, 2, none⟩ = some (.int .i64 t245) := (blk_cell BK238.out 2).trans rfl
   have hfz26_0 := blk_frozen BK238.out 0
   have hfz26_1 := blk_frozen BK238.out 1
   have hfz26_2 := blk_frozen BK238.out 2
   have hnb27 := NB239_240.out
   have hnc27 := NB240_239.out
   have hcz28_0 : w19.cell? ⟨gb239, 0, none⟩ = some (.bool a1_0) := (blk_cell BK239.out 0).trans rfl
   have hcz28_1 : w19.cell? ⟨gb239, 1, none⟩ = some (.slice A1_1 l1_1.length c1_1) := (blk_cell BK239.out 1).trans rfl
   have hcz28_2 : w19.cell? ⟨gb239, 2, none⟩ = some (.int .i64 a1_2) := (blk_cell BK239.out 2).trans rfl
   have hfz28_0 := blk_frozen BK239.out 0
   have hfz28_1 := blk_frozen BK239.out 1
   have hfz28_2 := blk_frozen BK239.out 2
   go_wp2_with (first | (go_at_call 44; (with_reducible refine (erasureref01_less.calls k _ _ t242 _ _ t247 t251 _ ?side1 ?side2 ?side3 ?side4 A23.out).mono ?_); (case side1 => refine (Kd.R_reads' (e := 3) (base := w.heap.size) (ok := fun k_ => (True ∧ some k_ ≠ (.slice Ao21 t247.length co21 : Value).ownBlock)) (n := t242.length) (c := co17) ?_).2.2; exact (by (with_reducible repeat (first | apply Kd.R_alloc | apply Kd.R_drewN | apply Kd.R_drew)); exact (Kd.R_mono (Kd.R_far (p := ⟨gb239, 2, none⟩) (Kd.R_far (p := ⟨gb239, 1, none⟩) (Kd.R_far (p := ⟨gb239, 0, none⟩) (Kd.R_types HO244.out BK239.out (by decide)) (fun _ hk => hk.2) (.bool t246)) (fun _ hk => hk.2) (.slice Ao21 t247.length co21)) (fun _ hk => hk.2) (.int .i64 t250)) (fun _ h_ => h_.1)))); (case side2 => exact (Kd.R_reads' HO244.out).2.1); (case side3 => refine (Kd.R_reads' (e := 3) (base := w.heap.size) (ok := fun k_ => (True ∧ some k_ ≠ (.slice Ao17 t242.length co17 : Value).ownBlock)) (n := t247.length) (c := co21) ?_).2.2; exact (by (with_reducible repeat (first | apply Kd.R_alloc | apply Kd.R_drewN | apply Kd.R_drew)); exact (Kd.R_mono (Kd.R_far (p := ⟨gb239, 2, none⟩) (Kd.R_far (p := ⟨gb239, 1, none⟩) (Kd.R_far (p := ⟨gb239, 0, none⟩) (Kd.R_types HO249.out BK239.out (by decide)) (fun _ hk => hk.2) (.bool t246)) (fun _ hk => hk.2) (.slice Ao21 t247.length co21)) (fun _ hk => hk.2) (.int .i64 t250)) (fun _ h_ => h_.1)))); (case side4 => exact (Kd.R_reads' HO249.out).2.1); rintro e w29 ⟨rfl, hb⟩; have n0_ := Aside0.mk (Kd.R_below (by (with_reducible repeat (first | apply Kd.R_alloc | apply Kd.R_drewN | apply Kd.R_drew)); exact (Kd.R_mono (Kd.R_far (p := ⟨gb239, 2, none⟩) (Kd.R_far (p := ⟨gb239, 1, none⟩) (Kd.R_far (p := ⟨gb239, 0, none⟩) (Kd.R_types HO244.out BK239.out (by decide)) (fun _ hk => hk.2) (.bool t246)) (fun _ hk => hk.2) (.slice Ao21 t247.length co21)) (fun _ hk => hk.2) (.int .i64 t250)) (fun _ h_ => h_.1))) hb); have n1_ := Aside0.mk (Kd.R_below (by (with_reducible repeat (first | apply Kd.R_alloc | apply Kd.R_drewN | apply Kd.R_drew)); exact (Kd.R_mono (Kd.R_far (p := ⟨gb239, 2, none⟩) (Kd.R_far (p := ⟨gb239, 1, none⟩) (Kd.R_far (p := ⟨gb239, 0, none⟩) (Kd.R_types HO249.out BK239.out (by decide)) (fun _ hk => hk.2) (.bool t246)) (fun _ hk => hk.2) (.slice Ao21 t247.length co21)) (fun _ hk => hk.2) (.int .i64 t250)) (fun _ h_ => h_.1))) hb); have n2_ := Aside0.mk (blk_below (g := gb238) (o := .cells #[.bool t241, .slice Ao17 t242.length co17, .int .i64 t245] 61 (0, 0)) blks hb); have n3_ := Aside0.mk (blk_below (g := gb239) (o := .cells #[.bool t246, .slice Ao21 t247.length co21, .int .i64 t250] 61 (0, 0)) (by (with_reducible repeat (first | refine blk_drewN ?_ _ | refine blk_drew ?_ | refine blk_alloc ?_ _)); refine blk_put (cs := #[.bool t246, .slice Ao21 t247.length co21, .int .i64 a1_2]) ?_ 2 _ rfl; (with_reducible repeat (first | refine blk_drewN ?_ _ | refine blk_drew ?_ | refine blk_alloc ?_ _)); refine blk_put (cs := #[.bool t246, .slice A1_1 l1_1.length c1_1, .int .i64 a1_2]) ?_ 1 _ rfl; (with_reducible repeat (first | refine blk_drewN ?_ _ | refine blk_drew ?_ | refine blk_alloc ?_ _)); refine blk_put (cs := #[.bool a1_0, .slice A1_1 l1_1.length c1_1, .int .i64 a1_2]) ?_ 0 _ rfl; (with_reducible repeat (first | refine blk_drewN ?_ _ | refine blk_drew ?_ | refine blk_alloc ?_ _)); exact BK239.out) hb); have n4_ := Aside0.mk (blk_below (g := gb240) (o := .cells #[.bool false, .slice none 0 0, .int .i64 0] 61 (0, 0)) blks hb); have n5_ := Aside0.mk (below_step bel hb); clear HO244; clear HO249; clear BK238; clear BK239; clear BK240; clear HB; have HO244 := n0_; have HO249 := n1_; have BK238 := n2_; have BK239 := n3_; have BK240 := n4_; have HB := n5_; clear n0_ n1_ n2_ n3_ n4_ n5_; (try clear hb); (try clear hb2); (try clear hk); (try clear hi)))
   go_meet
   case rel => exact ⟨_, (t251), ea_, H', ⟨by first | omega | exact Nat.le_refl _⟩, ⟨by (with_reducible repeat (first | apply Kd.R_alloc | apply Kd.R_drewN | apply Kd.R_drew)); exact Kd.R_mono HO244.out (fun _ hk => hk.2)⟩, ⟨by (with_reducible repeat (first | apply Kd.R_alloc | apply Kd.R_drewN | apply Kd.R_drew)); exact Kd.R_mono HO249.out (fun _ hk => hk.2)⟩, ⟨bkk BK238.out⟩, ⟨bkk BK239.out⟩, ⟨bkk BK240.out⟩, ⟨bel⟩⟩
  ·rw [if_neg c22] at H
   have c22b0 : (t241 != t246) = false := by simpa using c22
   (try (have c22b1 : decide (t241 = t246) = true := by simpa using c22))
   (try (have c22b2 : (t241 == t246) = true := by simpa using c22))
   clear c22
   (first | rw [c22b0] | rw [show (!(t241 == t246)) = false from c22b0] | (simp only [i64_w, i32_w]; rw [c22b0]) | skip)
   have H' := Aside0.mk H
   clear H
   have hnb30 := NB238_239.out
   have hnc30 := NB239_238.out
   have hnb31 := NB238_240.out
   have hnc31 := NB240_238.out
   have hcz32_0 : w19.cell? ⟨gb238, 0, none⟩ = some (.bool t241) := (blk_cell BK238.out 0).trans rfl
   have hcz32_1 : w19.cell? ⟨gb238, 1, none⟩ = some (.slice Ao17 t242.length co17) := (blk_cell BK238.out 1).trans rfl
   have hcz32_2 : w19.cell? ⟨gb238, 2, none⟩ = some (.int .i64 t245) := (blk_cell BK238.out 2).trans rfl
   have hfz32_0 := blk_frozen BK238.out 0
   have hfz32_1 := blk_frozen BK238.out 1
   have hfz32_2 := blk_frozen BK238.out 2
   have hnb33 := NB239_240.out
   have hnc33 := NB240_239.out
   have hcz34_0 : w19.cell? ⟨gb239, 0, none⟩ = some (.bool a1_0) := (blk_cell BK239.out 0).trans rfl
   have hcz34_1 : w19.cell? ⟨gb239, 1, none⟩ = some (.slice A1_1 l1_1.length c1_1) := (blk_cell BK239.out 1).trans rfl
   have hcz34_2 : w19.cell? ⟨gb239, 2, none⟩ = some (.int .i64 a1_2) := (blk_cell BK239.out 2).trans rfl
   have hfz34_0 := blk_frozen BK239.out 0
   have hfz34_1 := blk_frozen BK239.out 1
   have hfz34_2 := blk_frozen BK239.out 2
   go_wp2
   go_meet
   case rel => exact ⟨_, (false), ea_, H', ⟨by first | omega | exact Nat.le_refl _⟩, ⟨by (with_reducible repeat (first | apply Kd.R_alloc | apply Kd.R_drewN | apply Kd.R_drew)); exact Kd.R_mono (Kd.R_far (p := ⟨gb239, 2, none⟩) (Kd.R_far (p := ⟨gb239, 1, none⟩) (Kd.R_far (p := ⟨gb239, 0, none⟩) (Kd.R_types HO244.out BK239.out (by decide)) (fun _ hk => hk.2) (.bool t246)) (fun _ hk => hk.2) (.slice Ao21 t247.length co21)) (fun _ hk => hk.2) (.int .i64 t250)) (fun _ hk => hk.1.2)⟩, ⟨by (with_reducible repeat (first | apply Kd.R_alloc | apply Kd.R_drewN | apply Kd.R_drew)); exact Kd.R_mono (Kd.R_far (p := ⟨gb239, 2, none⟩) (Kd.R_far (p := ⟨gb239, 1, none⟩) (Kd.R_far (p := ⟨gb239, 0, none⟩) (Kd.R_types HO249.out BK239.out (by decide)) (fun _ hk => hk.2) (.bool t246)) (fun _ hk => hk.2) (.slice Ao21 t247.length co21)) (fun _ hk => hk.2) (.int .i64 t250)) (fun _ hk => hk.1.2)⟩, ⟨blks⟩, ⟨by (with_reducible repeat (first | refine blk_drewN ?_ _ | refine blk_drew ?_ | refine blk_alloc ?_ _)); refine blk_put (cs := #[.bool t246, .slice Ao21 t247.length co21, .int .i64 a1_2]) ?_ 2 _ rfl; (with_reducible repeat (first | refine blk_drewN ?_ _ | refine blk_drew ?_ | refine blk_alloc ?_ _)); refine blk_put (cs := #[.bool t246, .slice A1_1 l1_1.length c1_1, .int .i64 a1_2]) ?_ 1 _ rfl; (with_reducible repeat (first | refine blk_drewN ?_ _ | refine blk_drew ?_ | refine blk_alloc ?_ _)); refine blk_put (cs := #[.bool a1_0, .slice A1_1 l1_1.length c1_1, .int .i64 a1_2]) ?_ 0 _ rfl; (with_reducible repeat (first | refine blk_drewN ?_ _ | refine blk_drew ?_ | refine blk_alloc ?_ _)); exact BK239.out⟩, ⟨blks⟩, ⟨bel⟩⟩
 case rest =>
  clear HC6
  try clear c1
  try clear c2
  try clear p2
  try clear c3
  try clear c4
  try clear c10
  try clear c11
  try clear c13
  try clear c22
  try clear c22b0
  try clear c22b1
  try clear c22b2
  try clear c24
  try clear c25
  try clear c27
  try clear c30
  try clear c31
  try clear c33
  try clear hcz12_0
  try clear hcz12_1
  try clear hcz12_2
  try clear hcz14_0
  try clear hcz14_1
  try clear hcz14_2
  try clear hcz16_0
  try clear hcz16_1
  try clear hcz16_2
  try clear hcz18_0
  try clear hcz18_1
  try clear hcz18_2
  try clear hcz20_0
  try clear hcz20_1
  try clear hcz20_2
  try clear hcz26_0
  try clear hcz26_1
  try clear hcz26_2
  try clear hcz28_0
  try clear hcz28_1
  try clear hcz28_2
  try clear hcz32_0
  try clear hcz32_1
  try clear hcz32_2
  try clear hcz34_0
  try clear hcz34_1
  try clear hcz34_2
  try clear hfz12_0
  try clear hfz12_1
  try clear hfz12_2
  try clear hfz14_0
  try clear hfz14_1
  try clear hfz14_2
  try clear hfz16_0
  try clear hfz16_1
  try clear hfz16_2
  try clear hfz18_0
  try clear hfz18_1
  try clear hfz18_2
  try clear hfz20_0
  try clear hfz20_1
  try clear hfz20_2
  try clear hfz26_0
  try clear hfz26_1
  try clear hfz26_2
  try clear hfz28_0
  try clear hfz28_1
  try clear hfz28_2
  try clear hfz32_0
  try clear hfz32_1
  try clear hfz32_2
  try clear hfz34_0
  try clear hfz34_1
  try clear hfz34_2
  obtain ⟨kq, x32_5, rfl, HA, HJ5, HO_239001, HO_240001, BK238, BK239, BK240, HB⟩ := hcut
  cases kq with
  | zero => exact absurd HA.out (by simp [erasureref01_sum.j0])
  | succ kj5 =>
   have H := HA.out
   clear HA
   simp only [erasureref01_sum.j0] at H
   by_cases c35 : x32_5 = true
   ·subst c35
    have H1 : ((erasureref01_sum.f kj5 t246 t247 t250 t241 t242 t245).bind fun bt252 => (some (bt252.1, bt252.2.1, bt252.2.2))) = some (r1, r2, r3) := by rw [if_pos rfl] at H; exact H
    clear H
    have H := H1
    clear H1
    replace H := Option.bind_eq_some_iff.mp H
    obtain ⟨⟨t252, t253, t256⟩, A360, H⟩ := H
    replace H : (some (t252, t253, t256)) = some (r1, r2, r3) := H
    have A36 := Aside0.mk A360
    clear A360
    simp only [Option.some.injEq, Prod.mk.injEq] at H
    obtain ⟨rfl, rfl, rfl⟩ := H
    have hnb37 := NB239_238.out
    have hnc37 := NB238_239.out
    have hnb38 := NB239_240.out
    have hnc38 := NB240_239.out
    have hcz39_0 : wc.cell? ⟨gb239, 0, none⟩ = some (.bool t246) := (blk_cell BK239.out 0).trans rfl
    have hcz39_1 : wc.cell? ⟨gb239, 1, none⟩ = some (.slice Ao21 t247.length co21) := (blk_cell BK239.out 1).trans rfl
    have hcz39_2 : wc.cell? ⟨gb239, 2, none⟩ = some (.int .i64 t250) := (blk_cell BK239.out 2).trans rfl
    have hfz39_0 := blk_frozen BK239.out 0
    have hfz39_1 := blk_frozen BK239.out 1
    have hfz39_2 := blk_frozen BK239.out 2
    have hnb40 := NB238_240.out
    have hnc40 := NB240_238.out
    have hcz41_0 : wc.cell? ⟨gb238, 0, none⟩ = some (.bool t241) := (blk_cell BK238.out 0).trans rfl
    have hcz41_1 : wc.cell? ⟨gb238, 1, none⟩ = some (.slice Ao17 t242.length co17) := (blk_cell BK238.out 1).trans rfl
    have hcz41_2 : wc.cell? ⟨gb238, 2, none⟩ = some (.int .i64 t245) := (blk_cell BK238.out 2).trans rfl
    have hfz41_0 := blk_frozen BK238.out 0
    have hfz41_1 := blk_frozen BK238.out 1
    have hfz41_2 := blk_frozen BK238.out 2
    go_wp2_with (first | ((with_reducible refine gate_callee (f := 41) rfl ?_); refine goesL_ (some 35) rfl rfl Tryd.func41 (by kernel_rfl) rfl #[.agg #[.bool t246, .slice Ao21 t247.length co21, .int .i64 t250], .agg #[.bool t241, .slice Ao17 t242.length co17, .int .i64 t245]] rfl gl_ ?_; (with_reducible refine (ih kj5 (by have := HJ5.out; omega) t246 _ _ t247 t250 t241 _ _ t242 t245 t252 t253 t256 _ ?side1 ?side2 ?side3 ?side4 A36.out).mono ?_); (case side1 => repeat (first | exact (Kd.R_reads' HO_240001.out).2.2 | (with_reducible refine Kd.C_alloc ?_ _) | (with_reducible refine Kd.C_drewN ?_ _) | (with_reducible refine Kd.C_drew ?_))); (case side2 => exact (Kd.R_reads' HO_240001.out).2.1); (case side3 => repeat (first | exact (Kd.R_reads' HO_239001.out).2.2 | (with_reducible refine Kd.C_alloc ?_ _) | (with_reducible refine Kd.C_drewN ?_ _) | (with_reducible refine Kd.C_drew ?_))); (case side4 => exact (Kd.R_reads' HO_239001.out).2.1); rintro e w42 ⟨v254, rfl, ho0, hb⟩; refine ⟨_, rfl, ?_⟩; have n0_ := Aside0.mk (Kd.R_elder' (rkk HO_239001.out) (Kd.R_base ho0) hb); have n1_ := Aside0.mk (Kd.R_elder' (rkk HO_240001.out) (Kd.R_base ho0) hb); have n2_ := Aside0.mk (Kd.R_lower (Kd.R_new' (Kd.R_new' ho0 (Kd.R_lt (rkk HO_239001.out))) (Kd.R_lt (rkk HO_240001.out))) (below_size bel)); have n3_ := Aside0.mk (blk_below (bkk BK238.out) hb); have n4_ := Aside0.mk (blk_below (bkk BK239.out) hb); have n5_ := Aside0.mk (blk_below (bkk BK240.out) hb); have n6_ := Aside0.mk (below_step bel hb); clear HO_239001; clear HO_240001; clear BK238; clear BK239; clear BK240; clear HB; have HO_239001 := n0_; have HO_240001 := n1_; have HO255 := n2_; have BK238 := n3_; have BK239 := n4_; have BK240 := n5_; have HB := n6_; clear n0_ n1_ n2_ n3_ n4_ n5_ n6_; (try clear hb); (try clear hb2); (try clear hk); (try clear hi); (try clear ho0); have hcz43_0 : w42.cell? ⟨gb240, 0, none⟩ = some (.bool false) := (blk_cell BK240.out 0).trans rfl; have hcz43_1 : w42.cell? ⟨gb240, 1, none⟩ = some (.slice none 0 0) := (blk_cell BK240.out 1).trans rfl; have hcz43_2 : w42.cell? ⟨gb240, 2, none⟩ = some (.int .i64 0) := (blk_cell BK240.out 2).trans rfl; have hfz43_0 := blk_frozen BK240.out 0; have hfz43_1 := blk_frozen BK240.out 1; have hfz43_2 := blk_frozen BK240.out 2; obtain ⟨Ao44, co44, eo44⟩ := Kd.R_slice HO255.out; subst eo44))
    refine bodyPost_ret (results_cell_row rfl _ _ gb240 61 #[.bool t252, .slice Ao44 t253.length co44, .int .i64 t256] (0, 0) _ rfl (by (with_reducible repeat (first | refine blk_drewN ?_ _ | refine blk_drew ?_ | refine blk_alloc ?_ _)); refine blk_put (cs := #[.bool t252, .slice Ao44 t253.length co44, .int .i64 0]) ?_ 2 _ rfl; (with_reducible repeat (first | refine blk_drewN ?_ _ | refine blk_drew ?_ | refine blk_alloc ?_ _)); refine blk_put (cs := #[.bool t252, .slice none 0 0, .int .i64 0]) ?_ 1 _ rfl; (with_reducible repeat (first | refine blk_drewN ?_ _ | refine blk_drew ?_ | refine blk_alloc ?_ _)); refine blk_put (cs := #[.bool false, .slice none 0 0, .int .i64 0]) ?_ 0 _ rfl; (with_reducible repeat (first | refine blk_drewN ?_ _ | refine blk_drew ?_ | refine blk_alloc ?_ _)); exact BK240.out) Tryd.underlying61 rfl (by kernel_rfl)) rfl ?_
    exact ⟨_, by first | rfl | (simp [errW_none, errW_some] <;> rfl) | (simp only [← hji3]; first | rfl | (simp [errW_none, errW_some] <;> rfl)) | (simp [*, errW_none, errW_some] <;> rfl), by (with_reducible repeat (first | apply Kd.R_alloc | apply Kd.R_drewN | apply Kd.R_drew)); exact Kd.R_mono (Kd.R_far (p := ⟨gb240, 2, none⟩) (Kd.R_far (p := ⟨gb240, 1, none⟩) (Kd.R_far (p := ⟨gb240, 0, none⟩) (Kd.R_types HO255.out BK240.out (by decide)) (fun _ hk => hk.2) (.bool t252)) (fun _ hk => hk.2) (.slice Ao44 t253.length co44)) (fun _ hk => hk.2) (.int .i64 t256)) (fun _ hk => trivial), bel⟩
   ·replace c35 := Bool.eq_false_iff.mpr c35
    subst c35
    have H1 : (erasureref01_sum.l0 kj5 0 0 t241 t242 t245 t246 t247 t250 t241 ([] : List Int) ji3) = some (r1, r2, r3) := by rw [if_neg (show ¬ (false = true) by decide)] at H; exact H
    clear H
    have H := H1
    clear H1
    have H' := Aside0.mk H
    clear H
    have hnb45 := NB238_239.out
    have hnc45 := NB239_238.out
    have hnb46 := NB238_240.out
    have hnc46 := NB240_238.out
    have hcz47_0 : wc.cell? ⟨gb238, 0, none⟩ = some (.bool t241) := (blk_cell BK238.out 0).trans rfl
    have hcz47_1 : wc.cell? ⟨gb238, 1, none⟩ = some (.slice Ao17 t242.length co17) := (blk_cell BK238.out 1).trans rfl
    have hcz47_2 : wc.cell? ⟨gb238, 2, none⟩ = some (.int .i64 t245) := (blk_cell BK238.out 2).trans rfl
    have hfz47_0 := blk_frozen BK238.out 0
    have hfz47_1 := blk_frozen BK238.out 1
    have hfz47_2 := blk_frozen BK238.out 2
    go_wp2_with (first | ((with_reducible refine gate_dst (N := 6) rfl ?_); refine box_event ?hg (N := 6) ?hd (cs := #[.bool false, .slice none 0 0, .int .i64 0]) (t := 61) ?hr ?_; (case hd => rfl); (case hg => rfl); (case hr => first | (go_simp; done) | (go_simp; rfl)); intro gb257 hg w48 hbox hb; have n0_ := Aside0.mk (Kd.R_below (rkk HO_239001.out) hb); have n1_ := Aside0.mk (Kd.R_below (rkk HO_240001.out) hb); have n2_ := Aside0.mk (blk_below (bkk BK238.out) hb); have n3_ := Aside0.mk (blk_below (bkk BK239.out) hb); have n4_ := Aside0.mk (blk_below (bkk BK240.out) hb); have n5_ := Aside0.mk (below_step bel hb); have n6_ := Aside0.mk (hbox); have n7_ := Aside0.mk ((by rw [hg]; exact (below_size bel) : w.heap.size ≤ gb257)); have n8_ := Aside0.mk ((by rw [hg]; exact (below_size bel) : w.heap.size ≤ gb257)); have n9_ := Aside0.mk ((by rw [hg]; exact Nat.ne_of_lt (blk_lt (g := gb238) (o := .cells #[.bool t241, .slice Ao17 t242.length co17, .int .i64 t245] 61 (0, 0)) (bkk BK238.out)) : gb238 ≠ gb257)); have n10_ := Aside0.mk ((by rw [hg]; exact Nat.ne_of_gt (blk_lt (g := gb238) (o := .cells #[.bool t241, .slice Ao17 t242.length co17, .int .i64 t245] 61 (0, 0)) (bkk BK238.out)) : gb257 ≠ gb238)); have n11_ := Aside0.mk ((by rw [hg]; exact Nat.ne_of_lt (blk_lt (g := gb239) (o := .cells #[.bool t246, .slice Ao21 t247.length co21, .int .i64 t250] 61 (0, 0)) (bkk BK239.out)) : gb239 ≠ gb257)); have n12_ := Aside0.mk ((by rw [hg]; exact Nat.ne_of_gt (blk_lt (g := gb239) (o := .cells #[.bool t246, .slice Ao21 t247.length co21, .int .i64 t250] 61 (0, 0)) (bkk BK239.out)) : gb257 ≠ gb239)); have n13_ := Aside0.mk ((by rw [hg]; exact Nat.ne_of_lt (blk_lt (g := gb240) (o := .cells #[.bool false, .slice none 0 0, .int .i64 0] 61 (0, 0)) (bkk BK240.out)) : gb240 ≠ gb257)); have n14_ := Aside0.mk ((by rw [hg]; exact Nat.ne_of_gt (blk_lt (g := gb240) (o := .cells #[.bool false, .slice none 0 0, .int .i64 0] 61 (0, 0)) (bkk BK240.out)) : gb257 ≠ gb240)); clear HO_239001; clear HO_240001; clear BK238; clear BK239; clear BK240; clear HB; have HO_239001 := n0_; have HO_240001 := n1_; have BK238 := n2_; have BK239 := n3_; have BK240 := n4_; have HB := n5_; have BK257 := n6_; have GW257 := n7_; have GE257 := n8_; have NB238_257 := n9_; have NB257_238 := n10_; have NB239_257 := n11_; have NB257_239 := n12_; have NB240_257 := n13_; have NB257_240 := n14_; clear n0_ n1_ n2_ n3_ n4_ n5_ n6_ n7_ n8_ n9_ n10_ n11_ n12_ n13_ n14_; clear hb hbox hg; have hnb49 := NB257_238.out; have hnc49 := NB238_257.out; have hnb50 := NB257_239.out; have hnc50 := NB239_257.out; have hnb51 := NB257_240.out; have hnc51 := NB240_257.out; have hcz52_0 : w48.cell? ⟨gb257, 0, none⟩ = some (.bool false) := (blk_cell BK257.out 0).trans rfl; have hcz52_1 : w48.cell? ⟨gb257, 1, none⟩ = some (.slice none 0 0) := (blk_cell BK257.out 1).trans rfl; have hcz52_2 : w48.cell? ⟨gb257, 2, none⟩ = some (.int .i64 0) := (blk_cell BK257.out 2).trans rfl; have hfz52_0 := blk_frozen BK257.out 0; have hfz52_1 := blk_frozen BK257.out 1; have hfz52_2 := blk_frozen BK257.out 2))
    go_loopg [7, 8] kj5 (fun kq v7 v8 w' => ∃ (x7_2 : Int) (x8_2 : Int) (x258001_2 : List Int) (u258001 : Value), v7 = .int .i64 x7_2 ∧ v8 = .int .i64 x8_2 ∧ Aside0 (erasureref01_sum.l0 kq x7_2 x8_2 t241 t242 t245 t246 t247 t250 t241 x258001_2 ji3 = some (r1, r2, r3)) ∧ Aside0 (kq ≤ kj5) ∧ Aside0 (Kd.R (Kd.int .i64) 3 w' w.heap.size (fun k_ => some k_ ≠ ((.slice Ao21 t247.length co21) : Value).ownBlock ∧ some k_ ≠ (u258001 : Value).ownBlock) (.slice Ao17 t242.length co17) t242) ∧ Aside0 (Kd.R (Kd.int .i64) 3 w' w.heap.size (fun k_ => some k_ ≠ ((.slice Ao17 t242.length co17) : Value).ownBlock ∧ some k_ ≠ (u258001 : Value).ownBlock) (.slice Ao21 t247.length co21) t247) ∧ Aside0 (Kd.R (Kd.int .i64) 3 w' w.heap.size (fun k_ => some k_ ≠ ((.slice Ao17 t242.length co17) : Value).ownBlock ∧ some k_ ≠ ((.slice Ao21 t247.length co21) : Value).ownBlock) u258001 x258001_2) ∧ Aside0 (w'.heap[gb238]? = some (.cells #[.bool t241, (.slice Ao17 t242.length co17), .int .i64 t245] 61 (0, 0))) ∧ Aside0 (w'.heap[gb239]? = some (.cells #[.bool t246, (.slice Ao21 t247.length co21), .int .i64 t250] 61 (0, 0))) ∧ Aside0 (w'.heap[gb240]? = some (.cells #[.bool false, (.slice none 0 0), .int .i64 0] 61 (0, 0))) ∧ Aside0 (w'.heap[gb257]? = some (.cells #[.bool t241, u258001, .int .i64 ji3] 61 (0, 0))) ∧ Aside0 (Below w.heap.size w w'))
    case atStart => exact ⟨(0), (0), (([] : List Int)), (.slice none 0 0), ea_, ea_, H', ⟨Nat.le_refl _⟩, ⟨by (with_reducible repeat (first | apply Kd.R_alloc | apply Kd.R_drewN | apply Kd.R_drew)); exact Kd.R_mono (Kd.R_far (p := ⟨gb257, 2, none⟩) (Kd.R_far (p := ⟨gb257, 1, none⟩) (Kd.R_far (p := ⟨gb257, 0, none⟩) (Kd.R_types HO_239001.out BK257.out (by decide)) (fun _ hk => hk.2) (.bool t241)) (fun _ hk => hk.2) (.slice none 0 0)) (fun _ hk => hk.2) (.int .i64 ji3)) (fun _ hk => ⟨hk.1, (by simp [Value.ownBlock])⟩)⟩, ⟨by (with_reducible repeat (first | apply Kd.R_alloc | apply Kd.R_drewN | apply Kd.R_drew)); exact Kd.R_mono (Kd.R_far (p := ⟨gb257, 2, none⟩) (Kd.R_far (p := ⟨gb257, 1, none⟩) (Kd.R_far (p := ⟨gb257, 0, none⟩) (Kd.R_types HO_240001.out BK257.out (by decide)) (fun _ hk => hk.2) (.bool t241)) (fun _ hk => hk.2) (.slice none 0 0)) (fun _ hk => hk.2) (.int .i64 ji3)) (fun _ hk => ⟨hk.1, (by simp [Value.ownBlock])⟩)⟩, ⟨by first | exact Kd.R_nil _ _ _ _ _ | exact Kd.N_nil _ _ _ _ _ | exact Kd.V_nil _ _ _ _ _ | exact Kd.Q_nil _ _ _ _ _ | exact Kd.S_nil _ _ _ _ _⟩, ⟨blks⟩, ⟨blks⟩, ⟨blks⟩, ⟨by (with_reducible repeat (first | refine blk_drewN ?_ _ | refine blk_drew ?_ | refine blk_alloc ?_ _)); refine blk_put (cs := #[.bool t241, .slice none 0 0, .int .i64 0]) ?_ 2 _ rfl; (with_reducible repeat (first | refine blk_drewN ?_ _ | refine blk_drew ?_ | refine blk_alloc ?_ _)); refine blk_put (cs := #[.bool t241, .slice none 0 0, .int .i64 0]) ?_ 1 _ rfl; (with_reducible repeat (first | refine blk_drewN ?_ _ | refine blk_drew ?_ | refine blk_alloc ?_ _)); refine blk_put (cs := #[.bool false, .slice none 0 0, .int .i64 0]) ?_ 0 _ rfl; (with_reducible repeat (first | refine blk_drewN ?_ _ | refine blk_drew ?_ | refine blk_alloc ?_ _)); exact BK257.out⟩, ⟨bel⟩⟩
    case round =>
     clear H'
     try clear c1
     try clear c2
     try clear p2
     try clear c3
     try clear c4
     try clear c5
     try clear c10
     try clear c11
     try clear c13
     try clear c22
     try clear c22b0
     try clear c22b1
     try clear c22b2
     try clear c24
     try clear c25
     try clear c27
     try clear c30
     try clear c31
     try clear c33
     try clear c35
     try clear c37
     try clear c38
     try clear c40
     try clear c41
     try clear c43
     try clear c45
     try clear c46
     try clear c49
     try clear c50
     try clear c51
     try clear hcz12_0
     try clear hcz12_1
     try clear hcz12_2
     try clear hcz14_0
     try clear hcz14_1
     try clear hcz14_2
     try clear hcz16_0
     try clear hcz16_1
     try clear hcz16_2
     try clear hcz18_0
     try clear hcz18_1
     try clear hcz18_2
     try clear hcz20_0
     try clear hcz20_1
     try clear hcz20_2
     try clear hcz26_0
     try clear hcz26_1
     try clear hcz26_2
     try clear hcz28_0
     try clear hcz28_1
     try clear hcz28_2
     try clear hcz32_0
     try clear hcz32_1
     try clear hcz32_2
     try clear hcz34_0
     try clear hcz34_1
     try clear hcz34_2
     try clear hcz39_0
     try clear hcz39_1
     try clear hcz39_2
     try clear hcz41_0
     try clear hcz41_1
     try clear hcz41_2
     try clear hcz43_0
     try clear hcz43_1
     try clear hcz43_2
     try clear hcz47_0
     try clear hcz47_1
     try clear hcz47_2
     try clear hcz52_0
     try clear hcz52_1
     try clear hcz52_2
     try clear hfz12_0
     try clear hfz12_1
     try clear hfz12_2
     try clear hfz14_0
     try clear hfz14_1
     try clear hfz14_2
     try clear hfz16_0
     try clear hfz16_1
     try clear hfz16_2
     try clear hfz18_0
     try clear hfz18_1
     try clear hfz18_2
     try clear hfz20_0
     try clear hfz20_1
     try clear hfz20_2
     try clear hfz26_0
     try clear hfz26_1
     try clear hfz26_2
     try clear hfz28_0
     try clear hfz28_1
     try clear hfz28_2
     try clear hfz32_0
     try clear hfz32_1
     try clear hfz32_2
     try clear hfz34_0
     try clear hfz34_1
     try clear hfz34_2
     try clear hfz39_0
     try clear hfz39_1
     try clear hfz39_2
     try clear hfz41_0
     try clear hfz41_1
     try clear hfz41_2
     try clear hfz43_0
     try clear hfz43_1
     try clear hfz43_2
     try clear hfz47_0
     try clear hfz47_1
     try clear hfz47_2
     try clear hfz52_0
     try clear hfz52_1
     try clear hfz52_2
     try clear p2
     obtain ⟨x7_2, x8_2, x258001_2, u258001, rfl, rfl, HA, HK2, HO_239001, HO_240001, HO_258001, BK238, BK239, BK240, BK257, HB⟩ := hrel
     cases gk with
     | zero => exact absurd HA.out (by simp [erasureref01_sum.l0])
     | succ k2 =>
      have H := HA.out
      clear HA
      simp only [erasureref01_sum.l0] at H
      obtain ⟨ji53, hji53⟩ : ∃ j_ : Int, (mx (t242.length : Int) (t247.length : Int)) = j_ := ⟨_, rfl⟩
      replace H : (if x8_2 ≤ (ji53) then ((erasureref01_digit.f t242 x8_2).bind fun t258 => (if (t241 == t246) = true then ((erasureref01_digit.f t247 x8_2).bind fun t259 => (erasureref01_sum.j2 k2 x8_2 (wrap64 ((wrap64 (t258 + x7_2)) + t259)) t241 t242 t245 t246 t247 t250 t241 x258001_2 ji3)) else ((erasureref01_digit.f t247 x8_2).bind fun t260 => (erasureref01_sum.j2 k2 x8_2 (wrap64 ((wrap64 (t258 + x7_2)) - t260)) t241 t242 t245 t246 t247 t250 t241 x258001_2 ji3)))) else (some (t241, x258001_2, ji3))) = some (r1, r2, r3) := by first | (rw [hji53] at H; exact H) | (simp only [hji53] at H ⊢; exact H)
      have hji53_ : (if (t242.length : Int) < (t247.length : Int) then (t247.length : Int) else (t242.length : Int)) = ji53 := hji53
      by_cases c54 : x8_2 ≤ (ji53)
      ·rw [if_pos c54] at H
       have c54b0 : decide (x8_2 ≤ (ji53)) = true := decide_eq_true c54
       clear c54
       replace H := Option.bind_eq_some_iff.mp H
       obtain ⟨t258, A550, H⟩ := H
       replace H : (if (t241 == t246) = true then ((erasureref01_digit.f t247 x8_2).bind fun t259 => (erasureref01_sum.j2 k2 x8_2 (wrap64 ((wrap64 (t258 + x7_2)) + t259)) t241 t242 t245 t246 t247 t250 t241 x258001_2 ji3)) else ((erasureref01_digit.f t247 x8_2).bind fun t260 => (erasureref01_sum.j2 k2 x8_2 (wrap64 ((wrap64 (t258 + x7_2)) - t260)) t241 t242 t245 t246 t247 t250 t241 x258001_2 ji3))) = some (r1, r2, r3) := H
       have A55 := Aside0.mk A550
       clear A550
       have HC56 := Aside0.mk H
       clear H
       have hnb57 := NB238_239.out
       have hnc57 := NB239_238.out
       have hnb58 := NB238_240.out
       have hnc58 := NB240_238.out
       have hnb59 := NB238_257.out
       have hnc59 := NB257_238.out
       have hcz60_0 : wr.cell? ⟨gb238, 0, none⟩ = some (.bool t241) := (blk_cell BK238.out 0).trans rfl
       have hcz60_1 : wr.cell? ⟨gb238, 1, none⟩ = some (.slice Ao17 t242.length co17) := (blk_cell BK238.out 1).trans rfl
       have hcz60_2 : wr.cell? ⟨gb238, 2, none⟩ = some (.int .i64 t245) := (blk_cell BK238.out 2).trans rfl
       have hfz60_0 := blk_frozen BK238.out 0
       have hfz60_1 := blk_frozen BK238.out 1
       have hfz60_2 := blk_frozen BK238.out 2
       have hnb61 := NB239_240.out
       have hnc61 := NB240_239.out
       have hnb62 := NB239_257.out
       have hnc62 := NB257_239.out
       have hcz63_0 : wr.cell? ⟨gb239, 0, none⟩ = some (.bool t246) := (blk_cell BK239.out 0).trans rfl
       have hcz63_1 : wr.cell? ⟨gb239, 1, none⟩ = some (.slice Ao21 t247.length co21) := (blk_cell BK239.out 1).trans rfl
       have hcz63_2 : wr.cell? ⟨gb239, 2, none⟩ = some (.int .i64 t250) := (blk_cell BK239.out 2).trans rfl
       have hfz63_0 := blk_frozen BK239.out 0
       have hfz63_1 := blk_frozen BK239.out 1
       have hfz63_2 := blk_frozen BK239.out 2
       rcases Decidable.em ((t242.length : Int) < (t247.length : Int)) with hmm | hmm
       all_goals first | (rw [if_pos hmm] at hji53_; have hmb : decide ((t242.length : Int) < (t247.length : Int)) = true := decide_eq_true hmm) | (rw [if_neg hmm] at hji53_; have hmb : decide ((t242.length : Int) < (t247.length : Int)) = false := decide_eq_false hmm)
       all_goals
        go_upto_if 61 with (first | ((with_reducible refine gate_callee (f := 40) rfl ?_); refine goesL_ (some 54) rfl rfl Tryd.func40 (by kernel_rfl) rfl #[.slice Ao17 t242.length co17, .int .i64 x8_2] rfl gl_ ?_; (with_reducible refine (erasureref01_digit.calls _ _ t242 x8_2 t258 _ ?side1 ?side2 A55.out).mono ?_); (case side1 => repeat (first | exact (Kd.R_reads' HO_239001.out).2.2 | (with_reducible refine Kd.C_alloc ?_ _) | (with_reducible refine Kd.C_drewN ?_ _) | (with_reducible refine Kd.C_drew ?_))); (case side2 => exact (Kd.R_reads' HO_239001.out).2.1); rintro e w' ⟨rfl, ⟨nd, rfl⟩⟩; refine ⟨_, rfl, ?_⟩))
        (try simp only [Act.put, List.setIfInBounds_toArray, List.set_cons_zero, List.set_cons_succ])
        go_cut [9] (fun v9 wc => ∃ (kq : Nat) (x9_55 : Int), v9 = .int .i64 x9_55 ∧ Aside0 (erasureref01_sum.j2 kq x8_2 x9_55 t241 t242 t245 t246 t247 t250 t241 x258001_2 ji3 = some (r1, r2, r3)) ∧ Aside0 (kq ≤ k2) ∧ Aside0 (Kd.R (Kd.int .i64) 3 wc w.heap.size (fun k_ => some k_ ≠ ((.slice Ao21 t247.length co21) : Value).ownBlock ∧ some k_ ≠ (u258001 : Value).ownBlock) (.slice Ao17 t242.length co17) t242) ∧ Aside0 (Kd.R (Kd.int .i64) 3 wc w.heap.size (fun k_ => some k_ ≠ ((.slice Ao17 t242.length co17) : Value).ownBlock ∧ some k_ ≠ (u258001 : Value).ownBlock) (.slice Ao21 t247.length co21) t247) ∧ Aside0 (Kd.R (Kd.int .i64) 3 wc w.heap.size (fun k_ => some k_ ≠ ((.slice Ao17 t242.length co17) : Value).ownBlock ∧ some k_ ≠ ((.slice Ao21 t247.length co21) : Value).ownBlock) u258001 x258001_2) ∧ Aside0 (wc.heap[gb238]? = some (.cells #[.bool t241, (.slice Ao17 t242.length co17), .int .i64 t245] 61 (0, 0))) ∧ Aside0 (wc.heap[gb239]? = some (.cells #[.bool t246, (.slice Ao21 t247.length co21), .int .i64 t250] 61 (0, 0))) ∧ Aside0 (wc.heap[gb240]? = some (.cells #[.bool false, (.slice none 0 0), .int .i64 0] 61 (0, 0))) ∧ Aside0 (wc.heap[gb257]? = some (.cells #[.bool t241, u258001, .int .i64 ji3] 61 (0, 0))) ∧ Aside0 (Below w.heap.size w wc))
        case first =>
         have H := HC56.out
         clear HC56
         by_cases c64 : (t241 == t246) = true
         ·rw [if_pos c64] at H
          have c64b0 : (t241 == t246) = true := c64
          (try (have c64b1 : decide (t241 = t246) = true := by simpa using c64))
          (try (have c64b2 : (t241 == t246) = true := by simpa using c64))
          clear c64
          (first | rw [c64b0] | (simp only [i64_w, i32_w]; rw [c64b0]) | skip)
          replace H := Option.bind_eq_some_iff.mp H
          obtain ⟨t259, A650, H⟩ := H
          replace H : (erasureref01_sum.j2 k2 x8_2 (wrap64 ((wrap64 (t258 + x7_2)) + t259)) t241 t242 t245 t246 t247 t250 t241 x258001_2 ji3) = some (r1, r2, r3) := H
          have A65 := Aside0.mk A650
          clear A650
          have H' := Aside0.mk H
          clear H
          have hnb66 := NB239_238.out
          have hnc66 := NB238_239.out
          have hnb67 := NB239_240.out
          have hnc67 := NB240_239.out
          have hnb68 := NB239_257.out
          have hnc68 := NB257_239.out
          have hcz69_0 : wr.cell? ⟨gb239, 0, none⟩ = some (.bool t246) := (blk_cell BK239.out 0).trans rfl
          have hcz69_1 : wr.cell? ⟨gb239, 1, none⟩ = some (.slice Ao21 t247.length co21) := (blk_cell BK239.out 1).trans rfl
          have hcz69_2 : wr.cell? ⟨gb239, 2, none⟩ = some (.int .i64 t250) := (blk_cell BK239.out 2).trans rfl
          have hfz69_0 := blk_frozen BK239.out 0
          have hfz69_1 := blk_frozen BK239.out 1
          have hfz69_2 := blk_frozen BK239.out 2
          go_wp2_with (first | ((with_reducible refine gate_callee (f := 40) rfl ?_); refine goesL_ (some 66) rfl rfl Tryd.func40 (by kernel_rfl) rfl #[.slice Ao21 t247.length co21, .int .i64 x8_2] rfl gl_ ?_; (with_reducible refine (erasureref01_digit.calls _ _ t247 x8_2 t259 _ ?side1 ?side2 A65.out).mono ?_); (case side1 => repeat (first | exact (Kd.R_reads' HO_240001.out).2.2 | (with_reducible refine Kd.C_alloc ?_ _) | (with_reducible refine Kd.C_drewN ?_ _) | (with_reducible refine Kd.C_drew ?_))); (case side2 => exact (Kd.R_reads' HO_240001.out).2.1); rintro e w' ⟨rfl, ⟨nd, rfl⟩⟩; refine ⟨_, rfl, ?_⟩))
          go_meet
          case rel => exact ⟨_, (wrap64 ((wrap64 (t258 + x7_2)) + t259)), ea_, H', ⟨by have := HJ5.out; have := HK2.out; first | omega | exact Nat.le_refl _⟩, ⟨rkk HO_239001.out⟩, ⟨rkk HO_240001.out⟩, ⟨rkk HO_258001.out⟩, ⟨bkk BK238.out⟩, ⟨bkk BK239.out⟩, ⟨bkk BK240.out⟩, ⟨bkk BK257.out⟩, ⟨bel⟩⟩
         ·rw [if_neg c64] at H
          have c64b0 : (t241 == t246) = false := by simpa using c64
          (try (have c64b1 : decide (t241 = t246) = false := by simpa using c64))
          (try (have c64b2 : (t241 == t246) = false := by simpa using c64))
          (try (have c64b3 : ¬ (t241 = t246) := by simpa using c64))
          clear c64
          (first | rw [c64b0] | (simp only [i64_w, i32_w]; rw [c64b0]) | skip)
          replace H := Option.bind_eq_some_iff.mp H
          obtain ⟨t260, A700, H⟩ := H
          replace H : (erasureref01_sum.j2 k2 x8_2 (wrap64 ((wrap64 (t258 + x7_2)) - t260)) t241 t242 t245 t246 t247 t250 t241 x258001_2 ji3) = some (r1, r2, r3) := H
          have A70 := Aside0.mk A700
          clear A700
          have H' := Aside0.mk H
          clear H
          have hnb71 := NB239_238.out
          have hnc71 := NB238_239.out
          have hnb72 := NB239_240.out
          have hnc72 := NB240_239.out
          have hnb73 := NB239_257.out
          have hnc73 := NB257_239.out
          have hcz74_0 : wr.cell? ⟨gb239, 0, none⟩ = some (.bool t246) := (blk_cell BK239.out 0).trans rfl
          have hcz74_1 : wr.cell? ⟨gb239, 1, none⟩ = some (.slice Ao21 t247.length co21) := (blk_cell BK239.out 1).trans rfl
          have hcz74_2 : wr.cell? ⟨gb239, 2, none⟩ = some (.int .i64 t250) := (blk_cell BK239.out 2).trans rfl
          have hfz74_0 := blk_frozen BK239.out 0
          have hfz74_1 := blk_frozen BK239.out 1
          have hfz74_2 := blk_frozen BK239.out 2
          go_wp2_with (first | ((with_reducible refine gate_callee (f := 40) rfl ?_); refine goesL_ (some 72) rfl rfl Tryd.func40 (by kernel_rfl) rfl #[.slice Ao21 t247.length co21, .int .i64 x8_2] rfl gl_ ?_; (with_reducible refine (erasureref01_digit.calls _ _ t247 x8_2 t260 _ ?side1 ?side2 A70.out).mono ?_); (case side1 => repeat (first | exact (Kd.R_reads' HO_240001.out).2.2 | (with_reducible refine Kd.C_alloc ?_ _) | (with_reducible refine Kd.C_drewN ?_ _) | (with_reducible refine Kd.C_drew ?_))); (case side2 => exact (Kd.R_reads' HO_240001.out).2.1); rintro e w' ⟨rfl, ⟨nd, rfl⟩⟩; refine ⟨_, rfl, ?_⟩))
          go_meet
          case rel => exact ⟨_, (wrap64 ((wrap64 (t258 + x7_2)) - t260)), ea_, H', ⟨by have := HJ5.out; have := HK2.out; first | omega | exact Nat.le_refl _⟩, ⟨rkk HO_239001.out⟩, ⟨rkk HO_240001.out⟩, ⟨rkk HO_258001.out⟩, ⟨bkk BK238.out⟩, ⟨bkk BK239.out⟩, ⟨bkk BK240.out⟩, ⟨bkk BK257.out⟩, ⟨bel⟩⟩
        case rest =>
         clear HC56
         try clear c1
         try clear c2
         try clear p2
         try clear c3
         try clear c4
         try clear c5
         try clear c6
         try clear p6
         try clear c7
         try clear c10
         try clear c11
         try clear c13
         try clear c22
         try clear c22b0
         try clear c22b1
         try clear c22b2
         try clear c24
         try clear c25
         try clear c27
         try clear c30
         try clear c31
         try clear c33
         try clear c35
         try clear c37
         try clear c38
         try clear c40
         try clear c41
         try clear c43
         try clear c45
         try clear c46
         try clear c49
         try clear c50
         try clear c51
         try clear c54
         try clear c54b0
         try clear c57
         try clear c58
         try clear c59
         try clear c61
         try clear c62
         try clear c64
         try clear c64b0
         try clear c64b1
         try clear c64b2
         try clear p64
         try clear c66
         try clear c67
         try clear c68
         try clear c71
         try clear c72
         try clear c73
         try clear hcz12_0
         try clear hcz12_1
         try clear hcz12_2
         try clear hcz14_0
         try clear hcz14_1
         try clear hcz14_2
         try clear hcz16_0
         try clear hcz16_1
         try clear hcz16_2
         try clear hcz18_0
         try clear hcz18_1
         try clear hcz18_2
         try clear hcz20_0
         try clear hcz20_1
         try clear hcz20_2
         try clear hcz26_0
         try clear hcz26_1
         try clear hcz26_2
         try clear hcz28_0
         try clear hcz28_1
         try clear hcz28_2
         try clear hcz32_0
         try clear hcz32_1
         try clear hcz32_2
         try clear hcz34_0
         try clear hcz34_1
         try clear hcz34_2
         try clear hcz39_0
         try clear hcz39_1
         try clear hcz39_2
         try clear hcz41_0
         try clear hcz41_1
         try clear hcz41_2
         try clear hcz43_0
         try clear hcz43_1
         try clear hcz43_2
         try clear hcz47_0
         try clear hcz47_1
         try clear hcz47_2
         try clear hcz52_0
         try clear hcz52_1
         try clear hcz52_2
         try clear hcz60_0
         try clear hcz60_1
         try clear hcz60_2
         try clear hcz63_0
         try clear hcz63_1
         try clear hcz63_2
         try clear hcz69_0
         try clear hcz69_1
         try clear hcz69_2
         try clear hcz74_0
         try clear hcz74_1
         try clear hcz74_2
         try clear hfz12_0
         try clear hfz12_1
         try clear hfz12_2
         try clear hfz14_0
         try clear hfz14_1
         try clear hfz14_2
         try clear hfz16_0
         try clear hfz16_1
         try clear hfz16_2
         try clear hfz18_0
         try clear hfz18_1
         try clear hfz18_2
         try clear hfz20_0
         try clear hfz20_1
         try clear hfz20_2
         try clear hfz26_0
         try clear hfz26_1
         try clear hfz26_2
         try clear hfz28_0
         try clear hfz28_1
         try clear hfz28_2
         try clear hfz32_0
         try clear hfz32_1
         try clear hfz32_2
         try clear hfz34_0
         try clear hfz34_1
         try clear hfz34_2
         try clear hfz39_0
         try clear hfz39_1
         try clear hfz39_2
         try clear hfz41_0
         try clear hfz41_1
         try clear hfz41_2
         try clear hfz43_0
         try clear hfz43_1
         try clear hfz43_2
         try clear hfz47_0
         try clear hfz47_1
         try clear hfz47_2
         try clear hfz52_0
         try clear hfz52_1
         try clear hfz52_2
         try clear hfz60_0
         try clear hfz60_1
         try clear hfz60_2
         try clear hfz63_0
         try clear hfz63_1
         try clear hfz63_2
         try clear hfz69_0
         try clear hfz69_1
         try clear hfz69_2
         try clear hfz74_0
         try clear hfz74_1
         try clear hfz74_2
         try clear p2
         obtain ⟨kq, x9_55, rfl, HA, HJ55, HO_239001, HO_240001, HO_258001, BK238, BK239, BK240, BK257, HB⟩ := hcut
         cases kq with
         | zero => exact absurd HA.out (by simp [erasureref01_sum.j2])
         | succ kj55 =>
          have H := HA.out
          clear HA
          simp only [erasureref01_sum.j2] at H
          by_cases c75 : x9_55 > 9
          ·rw [if_pos c75] at H
           have c75b0 : decide (9 < x9_55) = true := decide_eq_true c75
           clear c75
           by_cases c76 : (wrap64 (x9_55 - 10)) < 0
           ·rw [if_pos c76] at H
            have c76b0 : decide ((wrap64 (x9_55 - 10)) < 0) = true := decide_eq_true c76
            clear c76
            by_cases c77 : x258001_2.length < 17592186044416
            ·rw [if_pos c77] at H
             have LMc77 := Aside0.mk c77
             clear c77
             obtain ⟨y261, hy261⟩ : ∃ y_ : List Int, y_ = (x258001_2 ++ [wrap64 ((wrap64 (x9_55 - 10)) + 10)]) := ⟨_, rfl⟩
             replace H : (erasureref01_sum.l0 kj55 (-1) (wrap64 (x8_2 + 1)) t241 t242 t245 t246 t247 t250 t241 y261 ji3) = some (r1, r2, r3) := by first | (rw [hy261]; with_reducible exact H) | (have H2_ := (Option.bind_some _ _).symm.trans H; rw [hy261]; with_reducible exact H2_) | (have H2_ := (Option.bind_some _ _).symm.trans H; with_reducible exact H2_) | with_reducible exact H | (rw [hy261]; exact H) | exact H
             have Ny261 := Aside0.mk hy261
             clear hy261
             have H' := Aside0.mk H
             clear H
             have hnb78 := NB257_238.out
             have hnc78 := NB238_257.out
             have hnb79 := NB257_239.out
             have hnc79 := NB239_257.out
             have hnb80 := NB257_240.out
             have hnc80 := NB240_257.out
             have hcz81_0 : wc.cell? ⟨gb257, 0, none⟩ = some (.bool t241) := (blk_cell BK257.out 0).trans rfl
             have hcz81_1 : wc.cell? ⟨gb257, 1, none⟩ = some (u258001) := (blk_cell BK257.out 1).trans rfl
             have hcz81_2 : wc.cell? ⟨gb257, 2, none⟩ = some (.int .i64 ji3) := (blk_cell BK257.out 2).trans rfl
             have hfz81_0 := blk_frozen BK257.out 0
             have hfz81_1 := blk_frozen BK257.out 1
             have hfz81_2 := blk_frozen BK257.out 2
             go_wp2_with (first | ((with_reducible refine gate_builtin (b := .append) (xs := #[.tmp 83, .tmp 85]) rfl ?_); at_builtin; refine Kd.R_append (Kd.int .i64) (w0 := w) w.heap.size rfl (.tmp 83) (.tmp 85) 59 3 (.int .i64 0) 8 rfl Tryd.underlying59 info3 rfl (by decide) (by omega) u258001 x258001_2 (wrap64 ((wrap64 (x9_55 - 10)) + 10)) [.int .i64 (wrap64 ((wrap64 (x9_55 - 10)) + 10))] (fun k_ => some k_ ≠ (.slice Ao17 t242.length co17 : Value).ownBlock ∧ some k_ ≠ (.slice Ao21 t247.length co21 : Value).ownBlock) (fun _ => False) rfl rfl ?aP (fun _ hk => hk.elim) ?aF ?aO ?aB ?aS ?aL ?_; (case aP => exact rfl); (case aB => exact bel); (case aF => exact (fun k_ hk => ⟨Kd.fresh' (Kd.R_lt (rkk HO_239001.out)) k_ hk, Kd.fresh' (Kd.R_lt (rkk HO_240001.out)) k_ hk⟩)); (case aO => exact (rkk HO_258001.out)); (case aS => exact (below_size bel)); (case aL => have := LMc77.out; omega); intro v262 w82 ho hb hg hat; rw [← Ny261.out] at ho; have n0_ := Aside0.mk (Kd.R_after (ok := (fun k_ => some k_ ≠ (.slice Ao21 t247.length co21 : Value).ownBlock)) (rkk HO_239001.out) hg hat); have n1_ := Aside0.mk (Kd.R_after (ok := (fun k_ => some k_ ≠ (.slice Ao17 t242.length co17 : Value).ownBlock)) (rkk HO_240001.out) hg hat); have n2_ := Aside0.mk (blk_grown (bkk BK238.out) hg (Kd.R_ne HO_258001.out BK238.out (by decide))); have n3_ := Aside0.mk (blk_grown (bkk BK239.out) hg (Kd.R_ne HO_258001.out BK239.out (by decide))); have n4_ := Aside0.mk (blk_grown (bkk BK240.out) hg (Kd.R_ne HO_258001.out BK240.out (by decide))); have n5_ := Aside0.mk (blk_grown (bkk BK257.out) hg (Kd.R_ne HO_258001.out BK257.out (by decide))); have n6_ := Aside0.mk (hb); have n7_ := Aside0.mk (ho); clear HO_239001; clear HO_240001; clear BK238; clear BK239; clear BK240; clear BK257; clear HB; clear HO_258001; have HO_239001 := n0_; have HO_240001 := n1_; have BK238 := n2_; have BK239 := n3_; have BK240 := n4_; have BK257 := n5_; have HB := n6_; have HO263 := n7_; clear n0_ n1_ n2_ n3_ n4_ n5_ n6_ n7_; clear ho hb hg hat; obtain ⟨Ao83, co83, eo83⟩ := Kd.R_slice HO263.out; subst eo83; have hcz84_0 : w82.cell? ⟨gb257, 0, none⟩ = some (.bool t241) := (blk_cell BK257.out 0).trans rfl; have hcz84_1 : w82.cell? ⟨gb257, 1, none⟩ = some (u258001) := (blk_cell BK257.out 1).trans rfl; have hcz84_2 : w82.cell? ⟨gb257, 2, none⟩ = some (.int .i64 ji3) := (blk_cell BK257.out 2).trans rfl; have hfz84_0 := blk_frozen BK257.out 0; have hfz84_1 := blk_frozen BK257.out 1; have hfz84_2 := blk_frozen BK257.out 2))
             go_roundg kj55
             case measure => have := HJ5.out; have := HK2.out; have := HJ55.out; omega
             case rel => exact ⟨((-1)), (wrap64 (x8_2 + 1)), (y261), (.slice Ao83 y261.length co83), ea_, ea_, H', ⟨by have := HJ5.out; have := HK2.out; have := HJ55.out; omega⟩, ⟨by (with_reducible repeat (first | apply Kd.R_alloc | apply Kd.R_drewN | apply Kd.R_drew)); exact Kd.R_mono (Kd.R_far (p := ⟨gb257, 1, none⟩) (Kd.R_types HO_239001.out BK257.out (by decide)) (fun _ hk => hk.2) (.slice Ao83 y261.length co83)) (fun _ hk => ⟨hk.1.1, hk.1.2⟩)⟩, ⟨by (with_reducible repeat (first | apply Kd.R_alloc | apply Kd.R_drewN | apply Kd.R_drew)); exact Kd.R_mono (Kd.R_far (p := ⟨gb257, 1, none⟩) (Kd.R_types HO_240001.out BK257.out (by decide)) (fun _ hk => hk.2) (.slice Ao83 y261.length co83)) (fun _ hk => ⟨hk.1.1, hk.1.2⟩)⟩, ⟨by (with_reducible repeat (first | apply Kd.R_alloc | apply Kd.R_drewN | apply Kd.R_drew)); exact Kd.R_mono (Kd.R_far (p := ⟨gb257, 1, none⟩) (Kd.R_types HO263.out BK257.out (by decide)) (fun _ hk => hk.2) (.slice Ao83 y261.length co83)) (fun _ hk => ⟨hk.1.1, hk.1.2⟩)⟩, ⟨blks⟩, ⟨blks⟩, ⟨blks⟩, ⟨by (with_reducible repeat (first | refine blk_drewN ?_ _ | refine blk_drew ?_ | refine blk_alloc ?_ _)); refine blk_put (cs := #[.bool t241, u258001, .int .i64 ji3]) ?_ 1 _ rfl; (with_reducible repeat (first | refine blk_drewN ?_ _ | refine blk_drew ?_ | refine blk_alloc ?_ _)); exact BK257.out⟩, ⟨bel⟩⟩
            ·rw [if_neg c77] at H
             exact absurd H (by simp)
           ·rw [if_neg c76] at H
            have c76b0 : decide ((wrap64 (x9_55 - 10)) < 0) = false := decide_eq_false c76
            clear c76
            by_cases c85 : x258001_2.length < 17592186044416
            ·rw [if_pos c85] at H
             have LMc85 := Aside0.mk c85
             clear c85
             obtain ⟨y264, hy264⟩ : ∃ y_ : List Int, y_ = (x258001_2 ++ [wrap64 (x9_55 - 10)]) := ⟨_, rfl⟩
             replace H : (erasureref01_sum.l0 kj55 1 (wrap64 (x8_2 + 1)) t241 t242 t245 t246 t247 t250 t241 y264 ji3) = some (r1, r2, r3) := by first | (rw [hy264]; with_reducible exact H) | (have H2_ := (Option.bind_some _ _).symm.trans H; rw [hy264]; with_reducible exact H2_) | (have H2_ := (Option.bind_some _ _).symm.trans H; with_reducible exact H2_) | with_reducible exact H | (rw [hy264]; exact H) | exact H
             have Ny264 := Aside0.mk hy264
             clear hy264
             have H' := Aside0.mk H
             clear H
             have hnb86 := NB257_238.out
             have hnc86 := NB238_257.out
             have hnb87 := NB257_239.out
             have hnc87 := NB239_257.out
             have hnb88 := NB257_240.out
             have hnc88 := NB240_257.out
             have hcz89_0 : wc.cell? ⟨gb257, 0, none⟩ = some (.bool t241) := (blk_cell BK257.out 0).trans rfl
             have hcz89_1 : wc.cell? ⟨gb257, 1, none⟩ = some (u258001) := (blk_cell BK257.out 1).trans rfl
             have hcz89_2 : wc.cell? ⟨gb257, 2, none⟩ = some (.int .i64 ji3) := (blk_cell BK257.out 2).trans rfl
             have hfz89_0 := blk_frozen BK257.out 0
             have hfz89_1 := blk_frozen BK257.out 1
             have hfz89_2 := blk_frozen BK257.out 2
             go_wp2_with (first | ((with_reducible refine gate_builtin (b := .append) (xs := #[.tmp 83, .tmp 85]) rfl ?_); at_builtin; refine Kd.R_append (Kd.int .i64) (w0 := w) w.heap.size rfl (.tmp 83) (.tmp 85) 59 3 (.int .i64 0) 8 rfl Tryd.underlying59 info3 rfl (by decide) (by omega) u258001 x258001_2 (wrap64 (x9_55 - 10)) [.int .i64 (wrap64 (x9_55 - 10))] (fun k_ => some k_ ≠ (.slice Ao17 t242.length co17 : Value).ownBlock ∧ some k_ ≠ (.slice Ao21 t247.length co21 : Value).ownBlock) (fun _ => False) rfl rfl ?aP (fun _ hk => hk.elim) ?aF ?aO ?aB ?aS ?aL ?_; (case aP => exact rfl); (case aB => exact bel); (case aF => exact (fun k_ hk => ⟨Kd.fresh' (Kd.R_lt (rkk HO_239001.out)) k_ hk, Kd.fresh' (Kd.R_lt (rkk HO_240001.out)) k_ hk⟩)); (case aO => exact (rkk HO_258001.out)); (case aS => exact (below_size bel)); (case aL => have := LMc85.out; omega); intro v265 w90 ho hb hg hat; rw [← Ny264.out] at ho; have n0_ := Aside0.mk (Kd.R_after (ok := (fun k_ => some k_ ≠ (.slice Ao21 t247.length co21 : Value).ownBlock)) (rkk HO_239001.out) hg hat); have n1_ := Aside0.mk (Kd.R_after (ok := (fun k_ => some k_ ≠ (.slice Ao17 t242.length co17 : Value).ownBlock)) (rkk HO_240001.out) hg hat); have n2_ := Aside0.mk (blk_grown (bkk BK238.out) hg (Kd.R_ne HO_258001.out BK238.out (by decide))); have n3_ := Aside0.mk (blk_grown (bkk BK239.out) hg (Kd.R_ne HO_258001.out BK239.out (by decide))); have n4_ := Aside0.mk (blk_grown (bkk BK240.out) hg (Kd.R_ne HO_258001.out BK240.out (by decide))); have n5_ := Aside0.mk (blk_grown (bkk BK257.out) hg (Kd.R_ne HO_258001.out BK257.out (by decide))); have n6_ := Aside0.mk (hb); have n7_ := Aside0.mk (ho); clear HO_239001; clear HO_240001; clear BK238; clear BK239; clear BK240; clear BK257; clear HB; clear HO_258001; have HO_239001 := n0_; have HO_240001 := n1_; have BK238 := n2_; have BK239 := n3_; have BK240 := n4_; have BK257 := n5_; have HB := n6_; have HO266 := n7_; clear n0_ n1_ n2_ n3_ n4_ n5_ n6_ n7_; clear ho hb hg hat; obtain ⟨Ao91, co91, eo91⟩ := Kd.R_slice HO266.out; subst eo91; have hcz92_0 : w90.cell? ⟨gb257, 0, none⟩ = some (.bool t241) := (blk_cell BK257.out 0).trans rfl; have hcz92_1 : w90.cell? ⟨gb257, 1, none⟩ = some (u258001) := (blk_cell BK257.out 1).trans rfl; have hcz92_2 : w90.cell? ⟨gb257, 2, none⟩ = some (.int .i64 ji3) := (blk_cell BK257.out 2).trans rfl; have hfz92_0 := blk_frozen BK257.out 0; have hfz92_1 := blk_frozen BK257.out 1; have hfz92_2 := blk_frozen BK257.out 2))
             go_roundg kj55
             case measure => have := HJ5.out; have := HK2.out; have := HJ55.out; omega
             case rel => exact ⟨(1), (wrap64 (x8_2 + 1)), (y264), (.slice Ao91 y264.length co91), ea_, ea_, H', ⟨by have := HJ5.out; have := HK2.out; have := HJ55.out; omega⟩, ⟨by (with_reducible repeat (first | apply Kd.R_alloc | apply Kd.R_drewN | apply Kd.R_drew)); exact Kd.R_mono (Kd.R_far (p := ⟨gb257, 1, none⟩) (Kd.R_types HO_239001.out BK257.out (by decide)) (fun _ hk => hk.2) (.slice Ao91 y264.length co91)) (fun _ hk => ⟨hk.1.1, hk.1.2⟩)⟩, ⟨by (with_reducible repeat (first | apply Kd.R_alloc | apply Kd.R_drewN | apply Kd.R_drew)); exact Kd.R_mono (Kd.R_far (p := ⟨gb257, 1, none⟩) (Kd.R_types HO_240001.out BK257.out (by decide)) (fun _ hk => hk.2) (.slice Ao91 y264.length co91)) (fun _ hk => ⟨hk.1.1, hk.1.2⟩)⟩, ⟨by (with_reducible repeat (first | apply Kd.R_alloc | apply Kd.R_drewN | apply Kd.R_drew)); exact Kd.R_mono (Kd.R_far (p := ⟨gb257, 1, none⟩) (Kd.R_types HO266.out BK257.out (by decide)) (fun _ hk => hk.2) (.slice Ao91 y264.length co91)) (fun _ hk => ⟨hk.1.1, hk.1.2⟩)⟩, ⟨blks⟩, ⟨blks⟩, ⟨blks⟩, ⟨by (with_reducible repeat (first | refine blk_drewN ?_ _ | refine blk_drew ?_ | refine blk_alloc ?_ _)); refine blk_put (cs := #[.bool t241, u258001, .int .i64 ji3]) ?_ 1 _ rfl; (with_reducible repeat (first | refine blk_drewN ?_ _ | refine blk_drew ?_ | refine blk_alloc ?_ _)); exact BK257.out⟩, ⟨bel⟩⟩
            ·rw [if_neg c85] at H
             exact absurd H (by simp)
          ·rw [if_neg c75] at H
           have c75b0 : decide (9 < x9_55) = false := decide_eq_false c75
           clear c75
           by_cases c93 : x9_55 < 0
           ·rw [if_pos c93] at H
            have c93b0 : decide (x9_55 < 0) = true := decide_eq_true c93
            clear c93
            by_cases c94 : x258001_2.length < 17592186044416
            ·rw [if_pos c94] at H
             have LMc94 := Aside0.mk c94
             clear c94
             obtain ⟨y267, hy267⟩ : ∃ y_ : List Int, y_ = (x258001_2 ++ [wrap64 (x9_55 + 10)]) := ⟨_, rfl⟩
             replace H : (erasureref01_sum.l0 kj55 (-1) (wrap64 (x8_2 + 1)) t241 t242 t245 t246 t247 t250 t241 y267 ji3) = some (r1, r2, r3) := by first | (rw [hy267]; with_reducible exact H) | (have H2_ := (Option.bind_some _ _).symm.trans H; rw [hy267]; with_reducible exact H2_) | (have H2_ := (Option.bind_some _ _).symm.trans H; with_reducible exact H2_) | with_reducible exact H | (rw [hy267]; exact H) | exact H
             have Ny267 := Aside0.mk hy267
             clear hy267
             have H' := Aside0.mk H
             clear H
             have hnb95 := NB257_238.out
             have hnc95 := NB238_257.out
             have hnb96 := NB257_239.out
             have hnc96 := NB239_257.out
             have hnb97 := NB257_240.out
             have hnc97 := NB240_257.out
             have hcz98_0 : wc.cell? ⟨gb257, 0, none⟩ = some (.bool t241) := (blk_cell BK257.out 0).trans rfl
             have hcz98_1 : wc.cell? ⟨gb257, 1, none⟩ = some (u258001) := (blk_cell BK257.out 1).trans rfl
             have hcz98_2 : wc.cell? ⟨gb257, 2, none⟩ = some (.int .i64 ji3) := (blk_cell BK257.out 2).trans rfl
             have hfz98_0 := blk_frozen BK257.out 0
             have hfz98_1 := blk_frozen BK257.out 1
             have hfz98_2 := blk_frozen BK257.out 2
             go_wp2_with (first | ((with_reducible refine gate_builtin (b := .append) (xs := #[.tmp 83, .tmp 85]) rfl ?_); at_builtin; refine Kd.R_append (Kd.int .i64) (w0 := w) w.heap.size rfl (.tmp 83) (.tmp 85) 59 3 (.int .i64 0) 8 rfl Tryd.underlying59 info3 rfl (by decide) (by omega) u258001 x258001_2 (wrap64 (x9_55 + 10)) [.int .i64 (wrap64 (x9_55 + 10))] (fun k_ => some k_ ≠ (.slice Ao17 t242.length co17 : Value).ownBlock ∧ some k_ ≠ (.slice Ao21 t247.length co21 : Value).ownBlock) (fun _ => False) rfl rfl ?aP (fun _ hk => hk.elim) ?aF ?aO ?aB ?aS ?aL ?_; (case aP => exact rfl); (case aB => exact bel); (case aF => exact (fun k_ hk => ⟨Kd.fresh' (Kd.R_lt (rkk HO_239001.out)) k_ hk, Kd.fresh' (Kd.R_lt (rkk HO_240001.out)) k_ hk⟩)); (case aO => exact (rkk HO_258001.out)); (case aS => exact (below_size bel)); (case aL => have := LMc94.out; omega); intro v268 w99 ho hb hg hat; rw [← Ny267.out] at ho; have n0_ := Aside0.mk (Kd.R_after (ok := (fun k_ => some k_ ≠ (.slice Ao21 t247.length co21 : Value).ownBlock)) (rkk HO_239001.out) hg hat); have n1_ := Aside0.mk (Kd.R_after (ok := (fun k_ => some k_ ≠ (.slice Ao17 t242.length co17 : Value).ownBlock)) (rkk HO_240001.out) hg hat); have n2_ := Aside0.mk (blk_grown (bkk BK238.out) hg (Kd.R_ne HO_258001.out BK238.out (by decide))); have n3_ := Aside0.mk (blk_grown (bkk BK239.out) hg (Kd.R_ne HO_258001.out BK239.out (by decide))); have n4_ := Aside0.mk (blk_grown (bkk BK240.out) hg (Kd.R_ne HO_258001.out BK240.out (by decide))); have n5_ := Aside0.mk (blk_grown (bkk BK257.out) hg (Kd.R_ne HO_258001.out BK257.out (by decide))); have n6_ := Aside0.mk (hb); have n7_ := Aside0.mk (ho); clear HO_239001; clear HO_240001; clear BK238; clear BK239; clear BK240; clear BK257; clear HB; clear HO_258001; have HO_239001 := n0_; have HO_240001 := n1_; have BK238 := n2_; have BK239 := n3_; have BK240 := n4_; have BK257 := n5_; have HB := n6_; have HO269 := n7_; clear n0_ n1_ n2_ n3_ n4_ n5_ n6_ n7_; clear ho hb hg hat; obtain ⟨Ao100, co100, eo100⟩ := Kd.R_slice HO269.out; subst eo100; have hcz101_0 : w99.cell? ⟨gb257, 0, none⟩ = some (.bool t241) := (blk_cell BK257.out 0).trans rfl; have hcz101_1 : w99.cell? ⟨gb257, 1, none⟩ = some (u258001) := (blk_cell BK257.out 1).trans rfl; have hcz101_2 : w99.cell? ⟨gb257, 2, none⟩ = some (.int .i64 ji3) := (blk_cell BK257.out 2).trans rfl; have hfz101_0 := blk_frozen BK257.out 0; have hfz101_1 := blk_frozen BK257.out 1; have hfz101_2 := blk_frozen BK257.out 2))
             go_roundg kj55
             case measure => have := HJ5.out; have := HK2.out; have := HJ55.out; omega
             case rel => exact ⟨((-1)), (wrap64 (x8_2 + 1)), (y267), (.slice Ao100 y267.length co100), ea_, ea_, H', ⟨by have := HJ5.out; have := HK2.out; have := HJ55.out; omega⟩, ⟨by (with_reducible repeat (first | apply Kd.R_alloc | apply Kd.R_drewN | apply Kd.R_drew)); exact Kd.R_mono (Kd.R_far (p := ⟨gb257, 1, none⟩) (Kd.R_types HO_239001.out BK257.out (by decide)) (fun _ hk => hk.2) (.slice Ao100 y267.length co100)) (fun _ hk => ⟨hk.1.1, hk.1.2⟩)⟩, ⟨by (with_reducible repeat (first | apply Kd.R_alloc | apply Kd.R_drewN | apply Kd.R_drew)); exact Kd.R_mono (Kd.R_far (p := ⟨gb257, 1, none⟩) (Kd.R_types HO_240001.out BK257.out (by decide)) (fun _ hk => hk.2) (.slice Ao100 y267.length co100)) (fun _ hk => ⟨hk.1.1, hk.1.2⟩)⟩, ⟨by (with_reducible repeat (first | apply Kd.R_alloc | apply Kd.R_drewN | apply Kd.R_drew)); exact Kd.R_mono (Kd.R_far (p := ⟨gb257, 1, none⟩) (Kd.R_types HO269.out BK257.out (by decide)) (fun _ hk => hk.2) (.slice Ao100 y267.length co100)) (fun _ hk => ⟨hk.1.1, hk.1.2⟩)⟩, ⟨blks⟩, ⟨blks⟩, ⟨blks⟩, ⟨by (with_reducible repeat (first | refine blk_drewN ?_ _ | refine blk_drew ?_ | refine blk_alloc ?_ _)); refine blk_put (cs := #[.bool t241, u258001, .int .i64 ji3]) ?_ 1 _ rfl; (with_reducible repeat (first | refine blk_drewN ?_ _ | refine blk_drew ?_ | refine blk_alloc ?_ _)); exact BK257.out⟩, ⟨bel⟩⟩
            ·rw [if_neg c94] at H
             exact absurd H (by simp)
           ·rw [if_neg c93] at H
            have c93b0 : decide (x9_55 < 0) = false := decide_eq_false c93
            clear c93
            by_cases c102 : x258001_2.length < 17592186044416
            ·rw [if_pos c102] at H
             have LMc102 := Aside0.mk c102
             clear c102
             obtain ⟨y270, hy270⟩ : ∃ y_ : List Int, y_ = (x258001_2 ++ [x9_55]) := ⟨_, rfl⟩
             replace H : (erasureref01_sum.l0 kj55 0 (wrap64 (x8_2 + 1)) t241 t242 t245 t246 t247 t250 t241 y270 ji3) = some (r1, r2, r3) := by first | (rw [hy270]; with_reducible exact H) | (have H2_ := (Option.bind_some _ _).symm.trans H; rw [hy270]; with_reducible exact H2_) | (have H2_ := (Option.bind_some _ _).symm.trans H; with_reducible exact H2_) | with_reducible exact H | (rw [hy270]; exact H) | exact H
             have Ny270 := Aside0.mk hy270
             clear hy270
             have H' := Aside0.mk H
             clear H
             have hnb103 := NB257_238.out
             have hnc103 := NB238_257.out
             have hnb104 := NB257_239.out
             have hnc104 := NB239_257.out
             have hnb105 := NB257_240.out
             have hnc105 := NB240_257.out
             have hcz106_0 : wc.cell? ⟨gb257, 0, none⟩ = some (.bool t241) := (blk_cell BK257.out 0).trans rfl
             have hcz106_1 : wc.cell? ⟨gb257, 1, none⟩ = some (u258001) := (blk_cell BK257.out 1).trans rfl
             have hcz106_2 : wc.cell? ⟨gb257, 2, none⟩ = some (.int .i64 ji3) := (blk_cell BK257.out 2).trans rfl
             have hfz106_0 := blk_frozen BK257.out 0
             have hfz106_1 := blk_frozen BK257.out 1
             have hfz106_2 := blk_frozen BK257.out 2
             go_wp2_with (first | ((with_reducible refine gate_builtin (b := .append) (xs := #[.tmp 83, .tmp 85]) rfl ?_); at_builtin; refine Kd.R_append (Kd.int .i64) (w0 := w) w.heap.size rfl (.tmp 83) (.tmp 85) 59 3 (.int .i64 0) 8 rfl Tryd.underlying59 info3 rfl (by decide) (by omega) u258001 x258001_2 x9_55 [.int .i64 x9_55] (fun k_ => some k_ ≠ (.slice Ao17 t242.length co17 : Value).ownBlock ∧ some k_ ≠ (.slice Ao21 t247.length co21 : Value).ownBlock) (fun _ => False) rfl rfl ?aP (fun _ hk => hk.elim) ?aF ?aO ?aB ?aS ?aL ?_; (case aP => exact rfl); (case aB => exact bel); (case aF => exact (fun k_ hk => ⟨Kd.fresh' (Kd.R_lt (rkk HO_239001.out)) k_ hk, Kd.fresh' (Kd.R_lt (rkk HO_240001.out)) k_ hk⟩)); (case aO => exact (rkk HO_258001.out)); (case aS => exact (below_size bel)); (case aL => have := LMc102.out; omega); intro v271 w107 ho hb hg hat; rw [← Ny270.out] at ho; have n0_ := Aside0.mk (Kd.R_after (ok := (fun k_ => some k_ ≠ (.slice Ao21 t247.length co21 : Value).ownBlock)) (rkk HO_239001.out) hg hat); have n1_ := Aside0.mk (Kd.R_after (ok := (fun k_ => some k_ ≠ (.slice Ao17 t242.length co17 : Value).ownBlock)) (rkk HO_240001.out) hg hat); have n2_ := Aside0.mk (blk_grown (bkk BK238.out) hg (Kd.R_ne HO_258001.out BK238.out (by decide))); have n3_ := Aside0.mk (blk_grown (bkk BK239.out) hg (Kd.R_ne HO_258001.out BK239.out (by decide))); have n4_ := Aside0.mk (blk_grown (bkk BK240.out) hg (Kd.R_ne HO_258001.out BK240.out (by decide))); have n5_ := Aside0.mk (blk_grown (bkk BK257.out) hg (Kd.R_ne HO_258001.out BK257.out (by decide))); have n6_ := Aside0.mk (hb); have n7_ := Aside0.mk (ho); clear HO_239001; clear HO_240001; clear BK238; clear BK239; clear BK240; clear BK257; clear HB; clear HO_258001; have HO_239001 := n0_; have HO_240001 := n1_; have BK238 := n2_; have BK239 := n3_; have BK240 := n4_; have BK257 := n5_; have HB := n6_; have HO272 := n7_; clear n0_ n1_ n2_ n3_ n4_ n5_ n6_ n7_; clear ho hb hg hat; obtain ⟨Ao108, co108, eo108⟩ := Kd.R_slice HO272.out; subst eo108; have hcz109_0 : w107.cell? ⟨gb257, 0, none⟩ = some (.bool t241) := (blk_cell BK257.out 0).trans rfl; have hcz109_1 : w107.cell? ⟨gb257, 1, none⟩ = some (u258001) := (blk_cell BK257.out 1).trans rfl; have hcz109_2 : w107.cell? ⟨gb257, 2, none⟩ = some (.int .i64 ji3) := (blk_cell BK257.out 2).trans rfl; have hfz109_0 := blk_frozen BK257.out 0; have hfz109_1 := blk_frozen BK257.out 1; have hfz109_2 := blk_frozen BK257.out 2))
             go_roundg kj55
             case measure => have := HJ5.out; have := HK2.out; have := HJ55.out; omega
             case rel => exact ⟨(0), (wrap64 (x8_2 + 1)), (y270), (.slice Ao108 y270.length co108), ea_, ea_, H', ⟨by have := HJ5.out; have := HK2.out; have := HJ55.out; omega⟩, ⟨by (with_reducible repeat (first | apply Kd.R_alloc | apply Kd.R_drewN | apply Kd.R_drew)); exact Kd.R_mono (Kd.R_far (p := ⟨gb257, 1, none⟩) (Kd.R_types HO_239001.out BK257.out (by decide)) (fun _ hk => hk.2) (.slice Ao108 y270.length co108)) (fun _ hk => ⟨hk.1.1, hk.1.2⟩)⟩, ⟨by (with_reducible repeat (first | apply Kd.R_alloc | apply Kd.R_drewN | apply Kd.R_drew)); exact Kd.R_mono (Kd.R_far (p := ⟨gb257, 1, none⟩) (Kd.R_types HO_240001.out BK257.out (by decide)) (fun _ hk => hk.2) (.slice Ao108 y270.length co108)) (fun _ hk => ⟨hk.1.1, hk.1.2⟩)⟩, ⟨by (with_reducible repeat (first | apply Kd.R_alloc | apply Kd.R_drewN | apply Kd.R_drew)); exact Kd.R_mono (Kd.R_far (p := ⟨gb257, 1, none⟩) (Kd.R_types HO272.out BK257.out (by decide)) (fun _ hk => hk.2) (.slice Ao108 y270.length co108)) (fun _ hk => ⟨hk.1.1, hk.1.2⟩)⟩, ⟨blks⟩, ⟨blks⟩, ⟨blks⟩, ⟨by (with_reducible repeat (first | refine blk_drewN ?_ _ | refine blk_drew ?_ | refine blk_alloc ?_ _)); refine blk_put (cs := #[.bool t241, u258001, .int .i64 ji3]) ?_ 1 _ rfl; (with_reducible repeat (first | refine blk_drewN ?_ _ | refine blk_drew ?_ | refine blk_alloc ?_ _)); exact BK257.out⟩, ⟨bel⟩⟩
            ·rw [if_neg c102] at H
             exact absurd H (by simp)
      ·rw [if_neg c54] at H
       have c54b0 : decide (x8_2 ≤ (ji53)) = false := decide_eq_false c54
       clear c54
       simp only [Option.some.injEq, Prod.mk.injEq] at H
       obtain ⟨rfl, rfl, rfl⟩ := H
       have hnb110 := NB238_239.out
       have hnc110 := NB239_238.out
       have hnb111 := NB238_240.out
       have hnc111 := NB240_238.out
       have hnb112 := NB238_257.out
       have hnc112 := NB257_238.out
       have hcz113_0 : wr.cell? ⟨gb238, 0, none⟩ = some (.bool t241) := (blk_cell BK238.out 0).trans rfl
       have hcz113_1 : wr.cell? ⟨gb238, 1, none⟩ = some (.slice Ao17 t242.length co17) := (blk_cell BK238.out 1).trans rfl
       have hcz113_2 : wr.cell? ⟨gb238, 2, none⟩ = some (.int .i64 t245) := (blk_cell BK238.out 2).trans rfl
       have hfz113_0 := blk_frozen BK238.out 0
       have hfz113_1 := blk_frozen BK238.out 1
       have hfz113_2 := blk_frozen BK238.out 2
       have hnb114 := NB239_240.out
       have hnc114 := NB240_239.out
       have hnb115 := NB239_257.out
       have hnc115 := NB257_239.out
       have hcz116_0 : wr.cell? ⟨gb239, 0, none⟩ = some (.bool t246) := (blk_cell BK239.out 0).trans rfl
       have hcz116_1 : wr.cell? ⟨gb239, 1, none⟩ = some (.slice Ao21 t247.length co21) := (blk_cell BK239.out 1).trans rfl
       have hcz116_2 : wr.cell? ⟨gb239, 2, none⟩ = some (.int .i64 t250) := (blk_cell BK239.out 2).trans rfl
       have hfz116_0 := blk_frozen BK239.out 0
       have hfz116_1 := blk_frozen BK239.out 1
       have hfz116_2 := blk_frozen BK239.out 2
       have hnb117 := NB257_240.out
       have hnc117 := NB240_257.out
       have hcz118_0 : wr.cell? ⟨gb257, 0, none⟩ = some (.bool t241) := (blk_cell BK257.out 0).trans rfl
       have hcz118_1 : wr.cell? ⟨gb257, 1, none⟩ = some (u258001) := (blk_cell BK257.out 1).trans rfl
       have hcz118_2 : wr.cell? ⟨gb257, 2, none⟩ = some (.int .i64 ji3) := (blk_cell BK257.out 2).trans rfl
       have hfz118_0 := blk_frozen BK257.out 0
       have hfz118_1 := blk_frozen BK257.out 1
       have hfz118_2 := blk_frozen BK257.out 2
       have hcz119_0 : wr.cell? ⟨gb240, 0, none⟩ = some (.bool false) := (blk_cell BK240.out 0).trans rfl
       have hcz119_1 : wr.cell? ⟨gb240, 1, none⟩ = some (.slice none 0 0) := (blk_cell BK240.out 1).trans rfl
       have hcz119_2 : wr.cell? ⟨gb240, 2, none⟩ = some (.int .i64 0) := (blk_cell BK240.out 2).trans rfl
       have hfz119_0 := blk_frozen BK240.out 0
       have hfz119_1 := blk_frozen BK240.out 1
       have hfz119_2 := blk_frozen BK240.out 2
       obtain ⟨Ao120, co120, eo120⟩ := Kd.R_slice HO_258001.out
       subst eo120
       clear hcz113_0 hcz113_2 hfz113_0 hfz113_1 hfz113_2 hcz116_0 hcz116_2 hfz116_0 hfz116_1 hfz116_2 hnb110 hnc110 hnb111 hnc111 hnb112 hnc112 hnb114 hnc114 hnb115 hnc115
       by_cases hmm : (t242.length : Int) < (t247.length : Int)
       ·rw [if_pos hmm] at hji53_
        have hmb : decide ((t242.length : Int) < (t247.length : Int)) = true := decide_eq_true hmm
        go_wp2
        refine bodyPost_ret (results_cell_row rfl _ _ gb240 61 #[.bool t241, .slice Ao120 x258001_2.length co120, .int .i64 ji3] (0, 0) _ rfl (by (with_reducible repeat (first | refine blk_drewN ?_ _ | refine blk_drew ?_ | refine blk_alloc ?_ _)); refine blk_put (cs := #[.bool t241, .slice Ao120 x258001_2.length co120, .int .i64 0]) ?_ 2 _ rfl; (with_reducible repeat (first | refine blk_drewN ?_ _ | refine blk_drew ?_ | refine blk_alloc ?_ _)); refine blk_put (cs := #[.bool t241, .slice none 0 0, .int .i64 0]) ?_ 1 _ rfl; (with_reducible repeat (first | refine blk_drewN ?_ _ | refine blk_drew ?_ | refine blk_alloc ?_ _)); refine blk_put (cs := #[.bool false, .slice none 0 0, .int .i64 0]) ?_ 0 _ rfl; (with_reducible repeat (first | refine blk_drewN ?_ _ | refine blk_drew ?_ | refine blk_alloc ?_ _)); exact BK240.out) Tryd.underlying61 rfl (by kernel_rfl)) rfl ?_
        exact ⟨_, by first | rfl | (simp [errW_none, errW_some] <;> rfl) | (simp only [← hji3, ← hji53]; first | rfl | (simp [errW_none, errW_some] <;> rfl)) | (simp [*, errW_none, errW_some] <;> rfl), by (with_reducible repeat (first | apply Kd.R_alloc | apply Kd.R_drewN | apply Kd.R_drew)); exact Kd.R_mono (Kd.R_far (p := ⟨gb240, 2, none⟩) (Kd.R_far (p := ⟨gb240, 1, none⟩) (Kd.R_far (p := ⟨gb240, 0, none⟩) (Kd.R_types HO_258001.out BK240.out (by decide)) (fun _ hk => hk.2) (.bool t241)) (fun _ hk => hk.2) (.slice Ao120 x258001_2.length co120)) (fun _ hk => hk.2) (.int .i64 ji3)) (fun _ hk => trivial), bel⟩
       ·rw [if_neg hmm] at hji53_
        have hmb : decide ((t242.length : Int) < (t247.length : Int)) = false := decide_eq_false hmm
        go_wp2
        refine bodyPost_ret (results_cell_row rfl _ _ gb240 61 #[.bool t241, .slice Ao120 x258001_2.length co120, .int .i64 ji3] (0, 0) _ rfl (by (with_reducible repeat (first | refine blk_drewN ?_ _ | refine blk_drew ?_ | refine blk_alloc ?_ _)); refine blk_put (cs := #[.bool t241, .slice Ao120 x258001_2.length co120, .int .i64 0]) ?_ 2 _ rfl; (with_reducible repeat (first | refine blk_drewN ?_ _ | refine blk_drew ?_ | refine blk_alloc ?_ _)); refine blk_put (cs := #[.bool t241, .slice none 0 0, .int .i64 0]) ?_ 1 _ rfl; (with_reducible repeat (first | refine blk_drewN ?_ _ | refine blk_drew ?_ | refine blk_alloc ?_ _)); refine blk_put (cs := #[.bool false, .slice none 0 0, .int .i64 0]) ?_ 0 _ rfl; (with_reducible repeat (first | refine blk_drewN ?_ _ | refine blk_drew ?_ | refine blk_alloc ?_ _)); exact BK240.out) Tryd.underlying61 rfl (by kernel_rfl)) rfl ?_
        exact ⟨_, by first | rfl | (simp [errW_none, errW_some] <;> rfl) | (simp only [← hji3, ← hji53]; first | rfl | (simp [errW_none, errW_some] <;> rfl)) | (simp [*, errW_none, errW_some] <;> rfl), by (with_reducible repeat (first | apply Kd.R_alloc | apply Kd.R_drewN | apply Kd.R_drew)); exact Kd.R_mono (Kd.R_far (p := ⟨gb240, 2, none⟩) (Kd.R_far (p := ⟨gb240, 1, none⟩) (Kd.R_far (p := ⟨gb240, 0, none⟩) (Kd.R_types HO_258001.out BK240.out (by decide)) (fun _ hk => hk.2) (.bool t241)) (fun _ hk => hk.2) (.slice Ao120 x258001_2.length co120)) (fun _ hk => hk.2) (.int .i64 ji3)) (fun _ hk => trivial), bel⟩
end Go.Proofs.YtdkckjiccpdkbaaDoor.G
