-- written by my own driver of the kit's print (wip/tools/myprint.py); Lean checks it.
import Derived.Test.YtdkckjiccpdkbaaDoorE0
import Derived.Test.YtdkckjiccpdkbaaDoorE1
namespace Go.Proofs.YtdkckjiccpdkbaaDoor.E
open Go.RowKit Go.Proofs.YtdkckjiccpdkbaaDoorW.PrintWords Go.Proofs.YtdkckjiccpdkbaaDoorW.PrintLast Go.Proofs.YtdkckjiccpdkbaaDoorW.PrintMore Go.Proofs.YtdkckjiccpdkbaaDoor.H Go.Proofs.YtdkckjiccpdkbaaDoor.A Go.Proofs.YtdkckjiccpdkbaaDoor.B
attribute [local go_sem] max2_int min2_int max_two min_two max_three min_three max_four min_four   -- for this text's walks alone
set_option linter.unusedVariables false
set_option linter.unusedSimpArgs false
mutual
def erasureref01_told.l0 : Nat → List Int → Int → Bool → List Int → Int → Option (Int × Int × Int)
 | 0, _, _, _, _, _ => none
 | k + 1, x4, x5, x103000, x103001, x103002 => if x5 > 0 then ((erasureref01_digit.f x4 0).bind fun t107 => (erasureref01_told.j1 k x4 x5 (t107 == 0) x103000 x103001 x103002)) else (erasureref01_told.j1 k x4 x5 false x103000 x103001 x103002)
def erasureref01_told.j1 : Nat → List Int → Int → Bool → Bool → List Int → Int → Option (Int × Int × Int)
 | 0, _, _, _, _, _, _ => none
 | k + 1, x4, x5, x20, x103000, x103001, x103002 => if x20 = true then (if (x4.length : Int) > 0 then (if 1 ≤ (x4.length : Int) then (erasureref01_told.l0 k (x4.drop (1 : Int).toNat) (wrap64 (x5 - 1)) x103000 x103001 x103002) else (none)) else (erasureref01_told.l0 k x4 (wrap64 (x5 - 1)) x103000 x103001 x103002)) else (erasureref01_told.l1 k x4 x5 x103000 x103001 x103002)
def erasureref01_told.j3 : Nat → List Int → Int → Bool → List Int → Int → Option (Int × Int × Int)
 | 0, _, _, _, _, _ => none
 | k + 1, x4, x5, x103000, x103001, x103002 => if (x4.length : Int) > 18 then (erasureref01_told.j4 k x4 x5 true x103000 x103001 x103002) else (erasureref01_told.j4 k x4 x5 (decide (x5 > 9)) x103000 x103001 x103002)
def erasureref01_told.j4 : Nat → List Int → Int → Bool → Bool → List Int → Int → Option (Int × Int × Int)
 | 0, _, _, _, _, _, _ => none
 | k + 1, x4, x5, x51, x103000, x103001, x103002 => if x51 = true then (some (0, 0, 5)) else (erasureref01_told.l2 k x4 x5 0 (wrap64 ((x4.length : Int) - 1)) x103000 x103001 x103002)
def erasureref01_told.l2 : Nat → List Int → Int → Int → Int → Bool → List Int → Int → Option (Int × Int × Int)
 | 0, _, _, _, _, _, _, _ => none
 | k + 1, x4, x5, x6, x7, x103000, x103001, x103002 => if x7 ≥ 0 then (if 0 ≤ x7 then (if x7 < (x4.length : Int) then (erasureref01_told.l2 k x4 x5 (wrap64 ((wrap64 (10 * x6)) + (rd x4 x7))) (wrap64 (x7 - 1)) x103000 x103001 x103002) else (none)) else (none)) else (if x103000 = true then (some (wrap64 (-x6), x5, 0)) else (some (x6, x5, 0)))
def erasureref01_told.l1 : Nat → List Int → Int → Bool → List Int → Int → Option (Int × Int × Int)
 | 0, _, _, _, _, _ => none
 | k + 1, x4, x5, x103000, x103001, x103002 => if (x4.length : Int) > 0 then (if 0 ≤ (wrap64 ((x4.length : Int) - 1)) then (if (wrap64 ((x4.length : Int) - 1)) < (x4.length : Int) then (if (rd x4 (wrap64 ((x4.length : Int) - 1))) = 0 then (if (wrap64 ((x4.length : Int) - 1)) ≤ (x4.length : Int) then (erasureref01_told.l1 k (x4.take ((wrap64 ((x4.length : Int) - 1)) : Int).toNat) x5 x103000 x103001 x103002) else (none)) else (erasureref01_told.j3 k x4 x5 x103000 x103001 x103002)) else (none)) else (none)) else (erasureref01_told.j3 k x4 x5 x103000 x103001 x103002)
end
def erasureref01_told.f (k : Nat) (a0_0 : Bool) (l0_1 : List Int) (a0_2 : Int) : Option (Int × Int × Int) := if ([] : List Int).length + l0_1.length < 17592186044416 then (erasureref01_told.l0 k (([] : List Int) ++ l0_1) a0_2 a0_0 l0_1 a0_2) else (none)
theorem erasureref01_told.mono_l : ∀ k, (∀ y0 y1 y2 y3 y4, LeO (erasureref01_told.l0 k y0 y1 y2 y3 y4) (erasureref01_told.l0 (k + 1) y0 y1 y2 y3 y4)) ∧ (∀ y0 y1 y2 y3 y4 y5, LeO (erasureref01_told.j1 k y0 y1 y2 y3 y4 y5) (erasureref01_told.j1 (k + 1) y0 y1 y2 y3 y4 y5)) ∧ (∀ y0 y1 y2 y3 y4, LeO (erasureref01_told.j3 k y0 y1 y2 y3 y4) (erasureref01_told.j3 (k + 1) y0 y1 y2 y3 y4)) ∧ (∀ y0 y1 y2 y3 y4 y5, LeO (erasureref01_told.j4 k y0 y1 y2 y3 y4 y5) (erasureref01_told.j4 (k + 1) y0 y1 y2 y3 y4 y5)) ∧ (∀ y0 y1 y2 y3 y4 y5 y6, LeO (erasureref01_told.l2 k y0 y1 y2 y3 y4 y5 y6) (erasureref01_told.l2 (k + 1) y0 y1 y2 y3 y4 y5 y6)) ∧ (∀ y0 y1 y2 y3 y4, LeO (erasureref01_told.l1 k y0 y1 y2 y3 y4) (erasureref01_told.l1 (k + 1) y0 y1 y2 y3 y4))
 | 0 => ⟨fun _ _ _ _ _ r h => by simp [erasureref01_told.l0] at h, fun _ _ _ _ _ _ r h => by simp [erasureref01_told.j1] at h, fun _ _ _ _ _ r h => by simp [erasureref01_told.j3] at h, fun _ _ _ _ _ _ r h => by simp [erasureref01_told.j4] at h, fun _ _ _ _ _ _ _ r h => by simp [erasureref01_told.l2] at h, fun _ _ _ _ _ r h => by simp [erasureref01_told.l1] at h⟩
 | k + 1 => by
  obtain ⟨ih0, ih1, ih2, ih3, ih4, ih5⟩ := erasureref01_told.mono_l k
  refine ⟨?_, ?_, ?_, ?_, ?_, ?_⟩
  ·intro y0 y1 y2 y3 y4
   unfold erasureref01_told.l0
   repeat' first
   | (with_reducible exact ih0 _ _ _ _ _)
   | (with_reducible exact ih1 _ _ _ _ _ _)
   | (with_reducible exact ih2 _ _ _ _ _)
   | (with_reducible exact ih3 _ _ _ _ _ _)
   | (with_reducible exact ih4 _ _ _ _ _ _ _)
   | (with_reducible exact ih5 _ _ _ _ _)
   | (with_reducible exact LeO.refl _)
   | (with_reducible exact LeO.none _)
   | (with_reducible refine LeO.ite ?_ ?_)
   | (with_reducible refine LeO.bind ?_ (fun _ => ?_))
   | exact ih0 _ _ _ _ _
   | exact ih1 _ _ _ _ _ _
   | exact ih2 _ _ _ _ _
   | exact ih3 _ _ _ _ _ _
   | exact ih4 _ _ _ _ _ _ _
   | exact ih5 _ _ _ _ _
   | exact LeO.none _
   | refine LeO.ite ?_ ?_
   | refine LeO.bind ?_ (fun _ => ?_)
  ·intro y0 y1 y2 y3 y4 y5
   unfold erasureref01_told.j1
   repeat' first
   | (with_reducible exact ih0 _ _ _ _ _)
   | (with_reducible exact ih1 _ _ _ _ _ _)
   | (with_reducible exact ih2 _ _ _ _ _)
   | (with_reducible exact ih3 _ _ _ _ _ _)
   | (with_reducible exact ih4 _ _ _ _ _ _ _)
   | (with_reducible exact ih5 _ _ _ _ _)
   | (with_reducible exact LeO.refl _)
   | (with_reducible exact LeO.none _)
   | (with_reducible refine LeO.ite ?_ ?_)
   | (with_reducible refine LeO.bind ?_ (fun _ => ?_))
   | exact ih0 _ _ _ _ _
   | exact ih1 _ _ _ _ _ _
   | exact ih2 _ _ _ _ _
   | exact ih3 _ _ _ _ _ _
   | exact ih4 _ _ _ _ _ _ _
   | exact ih5 _ _ _ _ _
   | exact LeO.none _
   | refine LeO.ite ?_ ?_
   | refine LeO.bind ?_ (fun _ => ?_)
  ·intro y0 y1 y2 y3 y4
   unfold erasureref01_told.j3
   repeat' first
   | (with_reducible exact ih0 _ _ _ _ _)
   | (with_reducible exact ih1 _ _ _ _ _ _)
   | (with_reducible exact ih2 _ _ _ _ _)
   | (with_reducible exact ih3 _ _ _ _ _ _)
   | (with_reducible exact ih4 _ _ _ _ _ _ _)
   | (with_reducible exact ih5 _ _ _ _ _)
   | (with_reducible exact LeO.refl _)
   | (with_reducible exact LeO.none _)
   | (with_reducible refine LeO.ite ?_ ?_)
   | (with_reducible refine LeO.bind ?_ (fun _ => ?_))
   | exact ih0 _ _ _ _ _
   | exact ih1 _ _ _ _ _ _
   | exact ih2 _ _ _ _ _
   | exact ih3 _ _ _ _ _ _
   | exact ih4 _ _ _ _ _ _ _
   | exact ih5 _ _ _ _ _
   | exact LeO.none _
   | refine LeO.ite ?_ ?_
   | refine LeO.bind ?_ (fun _ => ?_)
  ·intro y0 y1 y2 y3 y4 y5
   unfold erasureref01_told.j4
   repeat' first
   | (with_reducible exact ih0 _ _ _ _ _)
   | (with_reducible exact ih1 _ _ _ _ _ _)
   | (with_reducible exact ih2 _ _ _ _ _)
   | (with_reducible exact ih3 _ _ _ _ _ _)
   | (with_reducible exact ih4 _ _ _ _ _ _ _)
   | (with_reducible exact ih5 _ _ _ _ _)
   | (with_reducible exact LeO.refl _)
   | (with_reducible exact LeO.none _)
   | (with_reducible refine LeO.ite ?_ ?_)
   | (with_reducible refine LeO.bind ?_ (fun _ => ?_))
   | exact ih0 _ _ _ _ _
   | exact ih1 _ _ _ _ _ _
   | exact ih2 _ _ _ _ _
   | exact ih3 _ _ _ _ _ _
   | exact ih4 _ _ _ _ _ _ _
   | exact ih5 _ _ _ _ _
   | exact LeO.none _
   | refine LeO.ite ?_ ?_
   | refine LeO.bind ?_ (fun _ => ?_)
  ·intro y0 y1 y2 y3 y4 y5 y6
   unfold erasureref01_told.l2
   repeat' first
   | (with_reducible exact ih0 _ _ _ _ _)
   | (with_reducible exact ih1 _ _ _ _ _ _)
   | (with_reducible exact ih2 _ _ _ _ _)
   | (with_reducible exact ih3 _ _ _ _ _ _)
   | (with_reducible exact ih4 _ _ _ _ _ _ _)
   | (with_reducible exact ih5 _ _ _ _ _)
   | (with_reducible exact LeO.refl _)
   | (with_reducible exact LeO.none _)
   | (with_reducible refine LeO.ite ?_ ?_)
   | (with_reducible refine LeO.bind ?_ (fun _ => ?_))
   | exact ih0 _ _ _ _ _
   | exact ih1 _ _ _ _ _ _
   | exact ih2 _ _ _ _ _
   | exact ih3 _ _ _ _ _ _
   | exact ih4 _ _ _ _ _ _ _
   | exact ih5 _ _ _ _ _
   | exact LeO.none _
   | refine LeO.ite ?_ ?_
   | refine LeO.bind ?_ (fun _ => ?_)
  ·intro y0 y1 y2 y3 y4
   unfold erasureref01_told.l1
   repeat' first
   | (with_reducible exact ih0 _ _ _ _ _)
   | (with_reducible exact ih1 _ _ _ _ _ _)
   | (with_reducible exact ih2 _ _ _ _ _)
   | (with_reducible exact ih3 _ _ _ _ _ _)
   | (with_reducible exact ih4 _ _ _ _ _ _ _)
   | (with_reducible exact ih5 _ _ _ _ _)
   | (with_reducible exact LeO.refl _)
   | (with_reducible exact LeO.none _)
   | (with_reducible refine LeO.ite ?_ ?_)
   | (with_reducible refine LeO.bind ?_ (fun _ => ?_))
   | exact ih0 _ _ _ _ _
   | exact ih1 _ _ _ _ _ _
   | exact ih2 _ _ _ _ _
   | exact ih3 _ _ _ _ _ _
   | exact ih4 _ _ _ _ _ _ _
   | exact ih5 _ _ _ _ _
   | exact LeO.none _
   | refine LeO.ite ?_ ?_
   | refine LeO.bind ?_ (fun _ => ?_)
theorem erasureref01_told.mono : ∀ a0 a1 a2 k, LeO (erasureref01_told.f k a0 a1 a2) (erasureref01_told.f (k + 1) a0 a1 a2) := by
 intro a0 a1 a2 k
 obtain ⟨ih0, ih1, ih2, ih3, ih4, ih5⟩ := erasureref01_told.mono_l k
 unfold erasureref01_told.f
 repeat' first
   | (with_reducible exact ih0 _ _ _ _ _)
   | (with_reducible exact ih1 _ _ _ _ _ _)
   | (with_reducible exact ih2 _ _ _ _ _)
   | (with_reducible exact ih3 _ _ _ _ _ _)
   | (with_reducible exact ih4 _ _ _ _ _ _ _)
   | (with_reducible exact ih5 _ _ _ _ _)
   | (with_reducible exact LeO.refl _)
   | (with_reducible exact LeO.none _)
   | (with_reducible refine LeO.ite ?_ ?_)
   | (with_reducible refine LeO.bind ?_ (fun _ => ?_))
   | exact ih0 _ _ _ _ _
   | exact ih1 _ _ _ _ _ _
   | exact ih2 _ _ _ _ _
   | exact ih3 _ _ _ _ _ _
   | exact ih4 _ _ _ _ _ _ _
   | exact ih5 _ _ _ _ _
   | exact LeO.none _
   | refine LeO.ite ?_ ?_
   | refine LeO.bind ?_ (fun _ => ?_)
set_option maxHeartbeats 8000000 in
set_option maxRecDepth 100000 in
theorem erasureref01_told.calls (k : Nat) (a0_0 : Bool) (A0_1 : Option Addr) (c0_1 : Nat) (l0_1 : List Int) (a0_2 : Int) (r1 : Int) (r2 : Int) (r3 : Int) (w : World) (hr0_1 : Kd.C (Kd.int .i64) w A0_1 l0_1.length l0_1) (hc0_1 : l0_1.length ≤ c0_1) (h : erasureref01_told.f k a0_0 l0_1 a0_2 = some (r1, r2, r3)) :
  Calls Tryd.prog 38 #[.agg #[.bool a0_0, .slice A0_1 l0_1.length c0_1, .int .i64 a0_2]] w fun e w' => e = .returned (.tuple #[.agg #[.int .i64 r1, .int .i64 r2], .int .i64 r3]) ∧ Below w.heap.size w w' := by
 have hu61 := Tryd.underlying61
 have hu23 := Tryd.underlying23
 have HR0_1 := Aside0.mk hr0_1
 have HC0_1 := Aside0.mk hc0_1
 clear hr0_1 hc0_1
 have HB := Aside0.mk (Below.refl w.heap.size w)
 have H : (if ([] : List Int).length + l0_1.length < 17592186044416 then (erasureref01_told.l0 k (([] : List Int) ++ l0_1) a0_2 a0_0 l0_1 a0_2) else (none)) = some (r1, r2, r3) := h
 clear h
 by_cases c2 : ([] : List Int).length + l0_1.length < 17592186044416
 ·rw [if_pos c2] at H
  have LMc2 := Aside0.mk c2
  clear c2
  obtain ⟨y104, hy104⟩ : ∃ y_ : List Int, y_ = (([] : List Int) ++ l0_1) := ⟨_, rfl⟩
  replace H : (erasureref01_told.l0 k y104 a0_2 a0_0 l0_1 a0_2) = some (r1, r2, r3) := by first | (rw [hy104]; with_reducible exact H) | (have H2_ := (Option.bind_some _ _).symm.trans H; rw [hy104]; with_reducible exact H2_) | (have H2_ := (Option.bind_some _ _).symm.trans H; with_reducible exact H2_) | with_reducible exact H | (rw [hy104]; exact H) | exact H
  have Ny104 := Aside0.mk hy104
  clear hy104
  have H' := Aside0.mk H
  clear H
  go_enter Tryd.func38, Tryd.ntmps38
  go_wp2_with (first | ((with_reducible refine gate_dst (N := 1) rfl ?_); (try (refine gate_guard (by rfl) ?_; dsimp only)); refine box_event ?hg (N := 1) ?hd (cs := #[.bool a0_0, .slice A0_1 l0_1.length c0_1, .int .i64 a0_2]) (t := 61) ?hr ?_; (case hd => rfl); (case hg => rfl); (case hr => first | (go_simp; done) | (go_simp; rfl)); intro gb102 hg w3 hbox hb; have n0_ := Aside0.mk (below_step bel hb); have n1_ := Aside0.mk (hbox); have n2_ := Aside0.mk ((by rw [hg]; exact (below_size bel) : w.heap.size ≤ gb102)); have n3_ := Aside0.mk ((by rw [hg]; exact (below_size bel) : w.heap.size ≤ gb102)); clear HB; have HB := n0_; have BK102 := n1_; have GW102 := n2_; have GE102 := n3_; clear n0_ n1_ n2_ n3_; clear hb hbox hg) | ((with_reducible refine gate_dst (N := 2) rfl ?_); (try (refine gate_guard (by rfl) ?_; dsimp only)); refine box_event ?hg (N := 2) ?hd (cs := #[.int .i64 0, .int .i64 0]) (t := 23) ?hr ?_; (case hd => rfl); (case hg => rfl); (case hr => first | (go_simp; done) | (go_simp; rfl)); intro gb103 hg w4 hbox hb; have n0_ := Aside0.mk (blk_below (bkk BK102.out) hb); have n1_ := Aside0.mk (below_step bel hb); have n2_ := Aside0.mk (hbox); have n3_ := Aside0.mk ((by rw [hg]; exact (below_size bel) : w.heap.size ≤ gb103)); have n4_ := Aside0.mk ((by rw [hg]; exact (below_size bel) : w.heap.size ≤ gb103)); have n5_ := Aside0.mk ((by rw [hg]; exact Nat.ne_of_lt (blk_lt (g := gb102) (o := .cells #[.bool a0_0, .slice A0_1 l0_1.length c0_1, .int .i64 a0_2] 61 (0, 0)) (bkk BK102.out)) : gb102 ≠ gb103)); have n6_ := Aside0.mk ((by rw [hg]; exact Nat.ne_of_gt (blk_lt (g := gb102) (o := .cells #[.bool a0_0, .slice A0_1 l0_1.length c0_1, .int .i64 a0_2] 61 (0, 0)) (bkk BK102.out)) : gb103 ≠ gb102)); clear BK102; clear HB; have BK102 := n0_; have HB := n1_; have BK103 := n2_; have GW103 := n3_; have GE103 := n4_; have NB102_103 := n5_; have NB103_102 := n6_; clear n0_ n1_ n2_ n3_ n4_ n5_ n6_; clear hb hbox hg; have hnb5 := NB102_103.out; have hnc5 := NB103_102.out; have hcz6_0 : w4.cell? ⟨gb102, 0, none⟩ = some (.bool a0_0) := (blk_cell BK102.out 0).trans rfl; have hcz6_1 : w4.cell? ⟨gb102, 1, none⟩ = some (.slice A0_1 l0_1.length c0_1) := (blk_cell BK102.out 1).trans rfl; have hcz6_2 : w4.cell? ⟨gb102, 2, none⟩ = some (.int .i64 a0_2) := (blk_cell BK102.out 2).trans rfl; have hfz6_0 := blk_frozen BK102.out 0; have hfz6_1 := blk_frozen BK102.out 1; have hfz6_2 := blk_frozen BK102.out 2) | ((with_reducible refine gate_builtin (b := .append) (xs := #[.tmp 8, .tmp 10]) rfl ?_); (try (refine gate_guard (by rfl) ?_; dsimp only)); at_builtin; refine Kd.R_append_rows (Kd.int .i64) (w0 := w) w.heap.size rfl (.tmp 8) (.tmp 10) 59 3 (.int .i64 0) 8 rfl Tryd.underlying59 info3 rfl (by decide) (by omega) (.slice none 0 0) ([] : List Int) l0_1 _ _ _ (fun _ => True) (fun _ => False) rfl rfl ?aO ?aR (fun _ _ h => h) (fun _ h => h.elim) ?aF ?aB ?aS ?aL ?_; (case aR => repeat (first | exact (Kd.C_below HR0_1.out HB.out) | (with_reducible refine Kd.C_alloc ?_ _) | (with_reducible refine Kd.C_drewN ?_ _) | (with_reducible refine Kd.C_drew ?_))); (case aB => exact bel); (case aF => exact (fun _ _ => trivial)); (case aO => exact ((Kd.R_nil _ _ _ _ (fun _ => True)))); (case aS => exact (below_size bel)); (case aL => have := LMc2.out; omega); intro v105 w7 ho hb hg hat; rw [← Ny104.out] at ho; have n0_ := Aside0.mk (blk_grown (bkk BK102.out) hg (by simp [Value.ownBlock])); have n1_ := Aside0.mk (blk_grown (bkk BK103.out) hg (by simp [Value.ownBlock])); have n2_ := Aside0.mk (hb); have n3_ := Aside0.mk (ho); clear BK102; clear BK103; clear HB; have BK102 := n0_; have BK103 := n1_; have HB := n2_; have HO106 := n3_; clear n0_ n1_ n2_ n3_; clear ho hb hg hat; have hcz8_0 : w7.cell? ⟨gb102, 0, none⟩ = some (.bool a0_0) := (blk_cell BK102.out 0).trans rfl; have hcz8_1 : w7.cell? ⟨gb102, 1, none⟩ = some (.slice A0_1 l0_1.length c0_1) := (blk_cell BK102.out 1).trans rfl; have hcz8_2 : w7.cell? ⟨gb102, 2, none⟩ = some (.int .i64 a0_2) := (blk_cell BK102.out 2).trans rfl; have hfz8_0 := blk_frozen BK102.out 0; have hfz8_1 := blk_frozen BK102.out 1; have hfz8_2 := blk_frozen BK102.out 2))
  go_loopg [4, 5] k (fun kq v4 v5 w' => ∃ (x4_1 : List Int) (x5_1 : Int), v5 = .int .i64 x5_1 ∧ Aside0 (erasureref01_told.l0 kq x4_1 x5_1 a0_0 l0_1 a0_2 = some (r1, r2, r3)) ∧ Aside0 (kq ≤ k) ∧ Aside0 (Kd.Q (Kd.int .i64) 3 w' w.heap.size (fun _ => True) v4 x4_1) ∧ Aside0 (w'.heap[gb102]? = some (.cells #[.bool a0_0, (.slice A0_1 l0_1.length c0_1), .int .i64 a0_2] 61 (0, 0))) ∧ Aside0 (w'.heap[gb103]? = some (.cells #[.int .i64 0, .int .i64 0] 23 (0, 0))) ∧ Aside0 (Below w.heap.size w w'))
  case atStart => exact ⟨(y104), (a0_2), ea_, H', ⟨Nat.le_refl _⟩, ⟨Kd.Q_of_R (rkk HO106.out)⟩, ⟨bkk BK102.out⟩, ⟨bkk BK103.out⟩, ⟨bel⟩⟩
  case round =>
   clear H'
   try clear c2
   try clear p2
   try clear c3
   try clear c5
   try clear hcz6_0
   try clear hcz6_1
   try clear hcz6_2
   try clear hcz8_0
   try clear hcz8_1
   try clear hcz8_2
   try clear hfz6_0
   try clear hfz6_1
   try clear hfz6_2
   try clear hfz8_0
   try clear hfz8_1
   try clear hfz8_2
   obtain ⟨x4_1, x5_1, rfl, HA, HK1, HO_4, BK102, BK103, HB⟩ := hrel
   cases gk with
   | zero => exact absurd HA.out (by simp [erasureref01_told.l0])
   | succ k1 =>
    have H := HA.out
    clear HA
    simp only [erasureref01_told.l0] at H
    have HC9 := Aside0.mk H
    clear H
    go_upto_region 4 with (fail)
    go_cut [20] (fun v20 wc => ∃ (kq : Nat) (x20_8 : Bool), v20 = .bool x20_8 ∧ Aside0 (erasureref01_told.j1 kq x4_1 x5_1 x20_8 a0_0 l0_1 a0_2 = some (r1, r2, r3)) ∧ Aside0 (kq ≤ k1) ∧ Aside0 (Kd.Q (Kd.int .i64) 3 wc w.heap.size (fun _ => True) u4 x4_1) ∧ Aside0 (wc.heap[gb102]? = some (.cells #[.bool a0_0, (.slice A0_1 l0_1.length c0_1), .int .i64 a0_2] 61 (0, 0))) ∧ Aside0 (wc.heap[gb103]? = some (.cells #[.int .i64 0, .int .i64 0] 23 (0, 0))) ∧ Aside0 (Below w.heap.size w wc))
    case first =>
     have H := HC9.out
     clear HC9
     by_cases c10 : x5_1 > 0
     ·rw [if_pos c10] at H
      have c10b0 : decide (0 < x5_1) = true := decide_eq_true c10
      clear c10
      (first | rw [c10b0] | (simp only [i64_w, i32_w]; rw [c10b0]) | skip)
      replace H := Option.bind_eq_some_iff.mp H
      obtain ⟨t107, A110, H⟩ := H
      replace H : (erasureref01_told.j1 k1 x4_1 x5_1 (t107 == 0) a0_0 l0_1 a0_2) = some (r1, r2, r3) := H
      have A11 := Aside0.mk A110
      clear A110
      have H' := Aside0.mk H
      clear H
      obtain ⟨Ao12, co12, eo12, _⟩ := Kd.Q_slice HO_4.out
      subst eo12
      go_wp2_with (first | (go_at_call 40; (with_reducible refine (erasureref01_digit.calls _ _ x4_1 0 t107 _ ?side1 ?side2 A11.out).mono ?_); (case side1 => repeat (first | exact (Kd.Q_reads' HO_4.out).2.2 | (with_reducible refine Kd.C_alloc ?_ _) | (with_reducible refine Kd.C_drewN ?_ _) | (with_reducible refine Kd.C_drew ?_))); (case side2 => exact (Kd.Q_reads' HO_4.out).2.1); rintro e w' ⟨rfl, ⟨nd, rfl⟩⟩))
      go_meet
      case rel => exact ⟨_, ((t107 == 0)), ea_, H', ⟨by have := HK1.out; first | omega | exact Nat.le_refl _⟩, ⟨by (with_reducible repeat (first | apply Kd.Q_alloc | apply Kd.Q_drewN | apply Kd.Q_drew)); exact HO_4.out⟩, ⟨bkk BK102.out⟩, ⟨bkk BK103.out⟩, ⟨bel⟩⟩
     ·rw [if_neg c10] at H
      have c10b0 : decide (0 < x5_1) = false := decide_eq_false c10
      clear c10
      (first | rw [c10b0] | (simp only [i64_w, i32_w]; rw [c10b0]) | skip)
      have H' := Aside0.mk H
      clear H
      go_wp2
      go_meet
      case rel => exact ⟨_, (false), ea_, H', ⟨by have := HK1.out; first | omega | exact Nat.le_refl _⟩, ⟨by (with_reducible repeat (first | apply Kd.Q_alloc | apply Kd.Q_drewN | apply Kd.Q_drew)); exact HO_4.out⟩, ⟨bkk BK102.out⟩, ⟨bkk BK103.out⟩, ⟨bel⟩⟩
    case rest =>
     clear HC9
     try clear c1
     try clear c2
     try clear p2
     try clear c3
     try clear c5
     try clear c10
     try clear c10b0
     try clear hcz6_0
     try clear hcz6_1
     try clear hcz6_2
     try clear hcz8_0
     try clear hcz8_1
     try clear hcz8_2
     try clear hfz6_0
     try clear hfz6_1
     try clear hfz6_2
     try clear hfz8_0
     try clear hfz8_1
     try clear hfz8_2
     try clear p2
     obtain ⟨kq, x20_8, rfl, HA, HJ8, HO_4, BK102, BK103, HB⟩ := hcut
     cases kq with
     | zero => exact absurd HA.out (by simp [erasureref01_told.j1])
     | succ kj8 =>
      have H := HA.out
      clear HA
      simp only [erasureref01_told.j1] at H
      by_cases c13 : x20_8 = true
      ·subst c13
       have H1 : (if (x4_1.length : Int) > 0 then (if 1 ≤ (x4_1.length : Int) then (erasureref01_told.l0 kj8 (x4_1.drop (1 : Int).toNat) (wrap64 (x5_1 - 1)) a0_0 l0_1 a0_2) else (none)) else (erasureref01_told.l0 kj8 x4_1 (wrap64 (x5_1 - 1)) a0_0 l0_1 a0_2)) = some (r1, r2, r3) := by rw [if_pos rfl] at H; exact H
       clear H
       have H := H1
       clear H1
       by_cases c14 : (x4_1.length : Int) > 0
       ·rw [if_pos c14] at H
        have c14b0 : decide (0 < (x4_1.length : Int)) = true := decide_eq_true c14
        have c14b1 : decide (0 < x4_1.length) = true := decide_eq_true (by omega)
        clear c14
        by_cases c15 : 1 ≤ (x4_1.length : Int)
        ·rw [if_pos c15] at H
         have c15b0 := eq_true c15
         have c15b1 : decide (1 ≤ (x4_1.length : Int)) = true := decide_eq_true c15
         clear c15
         obtain ⟨y108, hy108⟩ : ∃ y_ : List Int, y_ = (x4_1.drop (1 : Int).toNat) := ⟨_, rfl⟩
         replace H : (erasureref01_told.l0 kj8 y108 (wrap64 (x5_1 - 1)) a0_0 l0_1 a0_2) = some (r1, r2, r3) := by first | (rw [hy108]; with_reducible exact H) | (have H2_ := (Option.bind_some _ _).symm.trans H; rw [hy108]; with_reducible exact H2_) | (have H2_ := (Option.bind_some _ _).symm.trans H; with_reducible exact H2_) | with_reducible exact H | (rw [hy108]; exact H) | exact H
         have Ny108 := Aside0.mk hy108
         clear hy108
         have H' := Aside0.mk H
         clear H
         obtain ⟨Ao16, co16, eo16, _⟩ := Kd.Q_slice HO_4.out
         subst eo16
         have q17 : (1 : Int) ≤ ((x4_1.length : Int) : Int) := of_decide_eq_true (by first | (with_reducible assumption) | assumption)
         obtain ⟨i017, hi017, _, hsz17, _⟩ := info_parts info3
         have hcut17 := cut_from (P := Tryd.prog) 59 3 .i64 Tryd.underlying59 hi017 1 hsz17 Ao16 x4_1.length co16 1 (by omega) q17
         have hr17 := Kd.Q_drop (k := (1 : Int).toNat) HO_4.out (by omega)
         obtain ⟨A17, hA17⟩ : ∃ A1, A1 = (if co16 = (1 : Int).toNat then Ao16 else (Ao16 : Option Addr).map (·.add ((1 : Int).toNat * 1))) := ⟨_, rfl⟩
         obtain ⟨c17, hc17⟩ : ∃ c1, c1 = co16 - (1 : Int).toNat := ⟨_, rfl⟩
         have hy17 : y108.length = x4_1.length - (1 : Int).toNat := (by rw [Ny108.out, List.length_drop])
         rw [← Ny108.out] at hr17
         rw [← hy17, ← hA17, ← hc17] at hcut17
         replace hr17 : Kd.Q (Kd.int .i64) 3 wc w.heap.size (fun _ => True) (.slice A17 y108.length c17) y108 := (by rw [hA17, hc17, hy17]; exact hr17)
         have HE17 : Aside0 ((Value.slice A17 y108.length c17).ownBlock = (.slice Ao16 x4_1.length co16 : Value).ownBlock) := ⟨by rw [hA17]; split <;> (cases (Ao16 : Option Addr) <;> rfl)⟩
         clear hy17 hi017 hsz17 HO_4 hA17 hc17
         have HO110 := Aside0.mk hr17
         clear hr17
         replace q17 := eq_true q17
         go_wp2
         go_roundg kj8
         case measure => have := HK1.out; have := HJ8.out; omega
         case rel => exact ⟨(y108), (wrap64 (x5_1 - 1)), ea_, H', ⟨by have := HK1.out; have := HJ8.out; omega⟩, ⟨by (with_reducible repeat (first | apply Kd.Q_alloc | apply Kd.Q_drewN | apply Kd.Q_drew)); exact HO110.out⟩, ⟨bkk BK102.out⟩, ⟨bkk BK103.out⟩, ⟨bel⟩⟩
        ·rw [if_neg c15] at H
         exact absurd H (by simp)
       ·rw [if_neg c14] at H
        have c14b0 : decide (0 < (x4_1.length : Int)) = false := decide_eq_false c14
        have c14b1 : decide (0 < x4_1.length) = false := decide_eq_false (by omega)
        clear c14
        have H' := Aside0.mk H
        clear H
        obtain ⟨Ao18, co18, eo18, _⟩ := Kd.Q_slice HO_4.out
        subst eo18
        go_wp2
        go_roundg kj8
        case measure => have := HK1.out; have := HJ8.out; omega
        case rel => exact ⟨(x4_1), (wrap64 (x5_1 - 1)), ea_, H', ⟨by have := HK1.out; have := HJ8.out; omega⟩, ⟨by (with_reducible repeat (first | apply Kd.Q_alloc | apply Kd.Q_drewN | apply Kd.Q_drew)); exact HO_4.out⟩, ⟨bkk BK102.out⟩, ⟨bkk BK103.out⟩, ⟨bel⟩⟩
      ·replace c13 := Bool.eq_false_iff.mpr c13
       subst c13
       have H1 : (erasureref01_told.l1 kj8 x4_1 x5_1 a0_0 l0_1 a0_2) = some (r1, r2, r3) := by rw [if_neg (show ¬ (false = true) by decide)] at H; exact H
       clear H
       have H := H1
       clear H1
       have HC19 := Aside0.mk H
       clear H
       go_upto_block 2 with (fail)
       go_cut [4] (fun v4 wc => ∃ (kq : Nat) (x4_18 : List Int), Aside0 (erasureref01_told.j3 kq x4_18 x5_1 a0_0 l0_1 a0_2 = some (r1, r2, r3)) ∧ Aside0 (kq ≤ kj8) ∧ Aside0 (Kd.Q (Kd.int .i64) 3 wc w.heap.size (fun _ => True) v4 x4_18) ∧ Aside0 (wc.heap[gb102]? = some (.cells #[.bool a0_0, (.slice A0_1 l0_1.length c0_1), .int .i64 a0_2] 61 (0, 0))) ∧ Aside0 (wc.heap[gb103]? = some (.cells #[.int .i64 0, .int .i64 0] 23 (0, 0))) ∧ Aside0 (Below w.heap.size w wc))
       case first =>
        have H := HC19.out
        clear HC19
        have H' := Aside0.mk H
        clear H
        go_wp2
        go_loopg [4] kj8 (fun kq v4 w' => ∃ (x4_3 : List Int), Aside0 (erasureref01_told.l1 kq x4_3 x5_1 a0_0 l0_1 a0_2 = some (r1, r2, r3)) ∧ Aside0 (kq ≤ kj8) ∧ Aside0 (Kd.Q (Kd.int .i64) 3 w' w.heap.size (fun _ => True) v4 x4_3) ∧ Aside0 (w'.heap[gb102]? = some (.cells #[.bool a0_0, (.slice A0_1 l0_1.length c0_1), .int .i64 a0_2] 61 (0, 0))) ∧ Aside0 (w'.heap[gb103]? = some (.cells #[.int .i64 0, .int .i64 0] 23 (0, 0))) ∧ Aside0 (Below w.heap.size w w'))
        case atStart => exact ⟨(x4_1), H', ⟨Nat.le_refl _⟩, ⟨by (with_reducible repeat (first | apply Kd.Q_alloc | apply Kd.Q_drewN | apply Kd.Q_drew)); exact HO_4.out⟩, ⟨bkk BK102.out⟩, ⟨bkk BK103.out⟩, ⟨bel⟩⟩
        case round =>
         clear H'
         try clear c1
         try clear q1
         try clear c2
         try clear p2
         try clear c3
         try clear c5
         try clear p6
         try clear c10
         try clear c10b0
         try clear c13
         try clear c14
         try clear c14b0
         try clear c14b1
         try clear c15
         try clear c15b0
         try clear c15b1
         try clear c17
         try clear q17
         try clear hcz6_0
         try clear hcz6_1
         try clear hcz6_2
         try clear hcz8_0
         try clear hcz8_1
         try clear hcz8_2
         try clear hfz6_0
         try clear hfz6_1
         try clear hfz6_2
         try clear hfz8_0
         try clear hfz8_1
         try clear hfz8_2
         try clear p2
         try clear q17
         obtain ⟨x4_3, HA, HK3, HO_4, BK102, BK103, HB⟩ := hrel
         cases gk with
         | zero => exact absurd HA.out (by simp [erasureref01_told.l1])
         | succ k3 =>
          have H := HA.out
          clear HA
          simp only [erasureref01_told.l1] at H
          by_cases c20 : (x4_3.length : Int) > 0
          ·rw [if_pos c20] at H
           have c20b0 : decide (0 < (x4_3.length : Int)) = true := decide_eq_true c20
           have c20b1 : decide (0 < x4_3.length) = true := decide_eq_true (by omega)
           clear c20
           (first | rw [c20b0] | (simp only [i64_w, i32_w]; rw [c20b0]) | skip)
           obtain ⟨ji21, hji21⟩ : ∃ j_ : Int, (wrap64 ((x4_3.length : Int) - 1)) = j_ := ⟨_, rfl⟩
           replace H : (if 0 ≤ (ji21) then (if (ji21) < (x4_3.length : Int) then (if (rd x4_3 (ji21)) = 0 then (if (ji21) ≤ (x4_3.length : Int) then (erasureref01_told.l1 k3 (x4_3.take ((ji21) : Int).toNat) x5_1 a0_0 l0_1 a0_2) else (none)) else (erasureref01_told.j3 k3 x4_3 x5_1 a0_0 l0_1 a0_2)) else (none)) else (none)) = some (r1, r2, r3) := by first | (rw [hji21] at H; exact H) | (simp only [hji21] at H ⊢; exact H)
           have hji21w : (IntKind.i64.wrap ((x4_3.length : Int) - 1)) = ji21 := (i64_w _).trans hji21
           by_cases c22 : 0 ≤ (ji21)
           ·rw [if_pos c22] at H
            have c22b0 : decide (0 ≤ (ji21)) = true := decide_eq_true c22
            clear c22
            by_cases c23 : (ji21) < (x4_3.length : Int)
            ·rw [if_pos c23] at H
             have c23b0 : decide ((ji21) < (x4_3.length : Int)) = true := decide_eq_true c23
             clear c23
             by_cases c24 : (rd x4_3 (ji21)) = 0
             ·rw [if_pos c24] at H
              have c24b0 : ((rd x4_3 (ji21)) == 0) = true := beq_iff_eq.mpr c24
              have c24b1 : ((rd x4_3 (ji21)) != 0) = false := bne_eq_false_iff_eq.mpr c24
              clear c24
              by_cases c25 : (ji21) ≤ (x4_3.length : Int)
              ·rw [if_pos c25] at H
               have c25b0 := eq_true c25
               have c25b1 : decide ((ji21) ≤ (x4_3.length : Int)) = true := decide_eq_true c25
               clear c25
               obtain ⟨y112, hy112⟩ : ∃ y_ : List Int, y_ = (x4_3.take ((ji21) : Int).toNat) := ⟨_, rfl⟩
               replace H : (erasureref01_told.l1 k3 y112 x5_1 a0_0 l0_1 a0_2) = some (r1, r2, r3) := by first | (rw [hy112]; with_reducible exact H) | (have H2_ := (Option.bind_some _ _).symm.trans H; rw [hy112]; with_reducible exact H2_) | (have H2_ := (Option.bind_some _ _).symm.trans H; with_reducible exact H2_) | with_reducible exact H | (rw [hy112]; exact H) | exact H
               have Ny112 := Aside0.mk hy112
               clear hy112
               have H' := Aside0.mk H
               clear H
               obtain ⟨Ao26, co26, eo26, _⟩ := Kd.Q_slice HO_4.out
               subst eo26
               have p111 : 0 ≤ ((ji21) : Int) := of_decide_eq_true (by first | (with_reducible assumption) | assumption)
               have q111 : (ji21) < (x4_3.length : Int) := of_decide_eq_true (by first | (with_reducible assumption) | assumption)
               obtain ⟨ad111, e111, hx111_0⟩ := Kd.at_int (Kd.Q_reads' HO_4.out).2.2 (ji21) p111 q111
               cases e111
               replace p111 := eq_true p111
               replace q111 := eq_true q111
               have q27 : ((ji21) : Int) ≤ ((x4_3.length : Int) : Int) := of_decide_eq_true (by first | (with_reducible assumption) | assumption)
               obtain ⟨i027, hi027, _, hsz27, _⟩ := info_parts info3
               have hcut27 := cut_to (P := Tryd.prog) 59 3 .i64 Tryd.underlying59 hi027 (some ad111) x4_3.length co26 (ji21) (of_decide_eq_true (by first | (with_reducible assumption) | assumption)) q27 (Kd.Q_reads' HO_4.out).2.1
               have hr27 := Kd.Q_take (m := ((ji21) : Int).toNat) HO_4.out (by omega)
               have hy27 : y112.length = ((ji21) : Int).toNat := (by rw [Ny112.out, List.length_take]; omega)
               rw [← Ny112.out] at hr27
               rw [← hy27] at hr27 hcut27
               clear hy27 hi027 hsz27 HO_4
               have HO114 := Aside0.mk hr27
               clear hr27
               replace q27 := eq_true q27
               go_wp2
               go_roundg k3
               case measure => have := HK1.out; have := HJ8.out; have := HK3.out; omega
               case rel => exact ⟨(y112), H', ⟨by have := HK1.out; have := HJ8.out; have := HK3.out; omega⟩, ⟨by (with_reducible repeat (first | apply Kd.Q_alloc | apply Kd.Q_drewN | apply Kd.Q_drew)); exact HO114.out⟩, ⟨bkk BK102.out⟩, ⟨bkk BK103.out⟩, ⟨bel⟩⟩
              ·rw [if_neg c25] at H
               exact absurd H (by simp)
             ·rw [if_neg c24] at H
              have c24b0 : ((rd x4_3 (ji21)) == 0) = false := beq_eq_false_iff_ne.mpr c24
              have c24b1 : ((rd x4_3 (ji21)) != 0) = true := bne_iff_ne.mpr c24
              have H' := Aside0.mk H
              clear H
              obtain ⟨Ao28, co28, eo28, _⟩ := Kd.Q_slice HO_4.out
              subst eo28
              have p111 : 0 ≤ ((ji21) : Int) := of_decide_eq_true (by first | (with_reducible assumption) | assumption)
              have q111 : (ji21) < (x4_3.length : Int) := of_decide_eq_true (by first | (with_reducible assumption) | assumption)
              obtain ⟨ad111, e111, hx111_0⟩ := Kd.at_int (Kd.Q_reads' HO_4.out).2.2 (ji21) p111 q111
              cases e111
              replace p111 := eq_true p111
              replace q111 := eq_true q111
              go_wp2
              go_meet
              case rel => exact ⟨_, (x4_3), H', ⟨by have := HK1.out; have := HJ8.out; have := HK3.out; first | omega | exact Nat.le_refl _⟩, ⟨by (with_reducible repeat (first | apply Kd.Q_alloc | apply Kd.Q_drewN | apply Kd.Q_drew)); exact HO_4.out⟩, ⟨bkk BK102.out⟩, ⟨bkk BK103.out⟩, ⟨bel⟩⟩
            ·rw [if_neg c23] at H
             exact absurd H (by simp)
           ·rw [if_neg c22] at H
            exact absurd H (by simp)
          ·rw [if_neg c20] at H
           have c20b0 : decide (0 < (x4_3.length : Int)) = false := decide_eq_false c20
           have c20b1 : decide (0 < x4_3.length) = false := decide_eq_false (by omega)
           clear c20
           (first | rw [c20b0] | (simp only [i64_w, i32_w]; rw [c20b0]) | skip)
           have H' := Aside0.mk H
           clear H
           obtain ⟨Ao29, co29, eo29, _⟩ := Kd.Q_slice HO_4.out
           subst eo29
           go_wp2
           go_meet
           case rel => exact ⟨_, (x4_3), H', ⟨by have := HK1.out; have := HJ8.out; have := HK3.out; first | omega | exact Nat.le_refl _⟩, ⟨by (with_reducible repeat (first | apply Kd.Q_alloc | apply Kd.Q_drewN | apply Kd.Q_drew)); exact HO_4.out⟩, ⟨bkk BK102.out⟩, ⟨bkk BK103.out⟩, ⟨bel⟩⟩
       case rest =>
        clear HC19
        try clear c1
        try clear p1
        try clear q1
        try clear hx1
        try clear c2
        try clear p2
        try clear q2
        try clear c3
        try clear c5
        try clear p6
        try clear c10
        try clear c10b0
        try clear p11
        try clear q11
        try clear hx11
        try clear c13
        try clear c14
        try clear c14b0
        try clear c14b1
        try clear c15
        try clear c15b0
        try clear c15b1
        try clear c17
        try clear q17
        try clear c20
        try clear c20b0
        try clear c20b1
        try clear c22
        try clear c22b0
        try clear c23
        try clear c23b0
        try clear c24
        try clear c24b0
        try clear c24b1
        try clear c25
        try clear c25b0
        try clear c25b1
        try clear q27
        try clear hcz6_0
        try clear hcz6_1
        try clear hcz6_2
        try clear hcz8_0
        try clear hcz8_1
        try clear hcz8_2
        try clear hfz6_0
        try clear hfz6_1
        try clear hfz6_2
        try clear hfz8_0
        try clear hfz8_1
        try clear hfz8_2
        try clear hx111_0
        try clear p111
        try clear p2
        try clear p6
        try clear q1
        try clear q111
        try clear q17
        try clear q27
        obtain ⟨kq, x4_18, HA, HJ18, HO_4, BK102, BK103, HB⟩ := hcut
        cases kq with
        | zero => exact absurd HA.out (by simp [erasureref01_told.j3])
        | succ kj18 =>
         have H := HA.out
         clear HA
         simp only [erasureref01_told.j3] at H
         have HC30 := Aside0.mk H
         clear H
         go_upto_region 10 with (fail)
         go_cut [51] (fun v51 wc => ∃ (kq : Nat) (x51_29 : Bool), v51 = .bool x51_29 ∧ Aside0 (erasureref01_told.j4 kq x4_18 x5_1 x51_29 a0_0 l0_1 a0_2 = some (r1, r2, r3)) ∧ Aside0 (kq ≤ kj18) ∧ Aside0 (Kd.Q (Kd.int .i64) 3 wc w.heap.size (fun _ => True) u4 x4_18) ∧ Aside0 (wc.heap[gb102]? = some (.cells #[.bool a0_0, (.slice A0_1 l0_1.length c0_1), .int .i64 a0_2] 61 (0, 0))) ∧ Aside0 (wc.heap[gb103]? = some (.cells #[.int .i64 0, .int .i64 0] 23 (0, 0))) ∧ Aside0 (Below w.heap.size w wc))
         case first =>
          have H := HC30.out
          clear HC30
          by_cases c31 : (x4_18.length : Int) > 18
          ·rw [if_pos c31] at H
           have c31b0 : decide (18 < (x4_18.length : Int)) = true := decide_eq_true c31
           have c31b1 : decide (18 < x4_18.length) = true := decide_eq_true (by omega)
           clear c31
           (first | rw [c31b0] | (simp only [i64_w, i32_w]; rw [c31b0]) | skip)
           have H' := Aside0.mk H
           clear H
           obtain ⟨Ao32, co32, eo32, _⟩ := Kd.Q_slice HO_4.out
           subst eo32
           go_wp2
           go_meet
           case rel => exact ⟨_, (true), ea_, H', ⟨by have := HK1.out; have := HJ8.out; have := HJ18.out; first | omega | exact Nat.le_refl _⟩, ⟨by (with_reducible repeat (first | apply Kd.Q_alloc | apply Kd.Q_drewN | apply Kd.Q_drew)); exact HO_4.out⟩, ⟨bkk BK102.out⟩, ⟨bkk BK103.out⟩, ⟨bel⟩⟩
          ·rw [if_neg c31] at H
           have c31b0 : decide (18 < (x4_18.length : Int)) = false := decide_eq_false c31
           have c31b1 : decide (18 < x4_18.length) = false := decide_eq_false (by omega)
           clear c31
           (first | rw [c31b0] | (simp only [i64_w, i32_w]; rw [c31b0]) | skip)
           have H' := Aside0.mk H
           clear H
           obtain ⟨Ao33, co33, eo33, _⟩ := Kd.Q_slice HO_4.out
           subst eo33
           go_wp2
           go_meet
           case rel => exact ⟨_, (decide (x5_1 > 9)), ea_, H', ⟨by have := HK1.out; have := HJ8.out; have := HJ18.out; first | omega | exact Nat.le_refl _⟩, ⟨by (with_reducible repeat (first | apply Kd.Q_alloc | apply Kd.Q_drewN | apply Kd.Q_drew)); exact HO_4.out⟩, ⟨bkk BK102.out⟩, ⟨bkk BK103.out⟩, ⟨bel⟩⟩
         case rest =>
          clear HC30
          try clear c1
          try clear p1
          try clear q1
          try clear hx1
          try clear c2
          try clear p2
          try clear q2
          try clear c3
          try clear c5
          try clear p6
          try clear c10
          try clear c10b0
          try clear p11
          try clear q11
          try clear hx11
          try clear c13
          try clear c14
          try clear c14b0
          try clear c14b1
          try clear c15
          try clear c15b0
          try clear c15b1
          try clear c17
          try clear q17
          try clear c20
          try clear c20b0
          try clear c20b1
          try clear c22
          try clear c22b0
          try clear c23
          try clear c23b0
          try clear c24
          try clear c24b0
          try clear c24b1
          try clear c25
          try clear c25b0
          try clear c25b1
          try clear q27
          try clear c31
          try clear c31b0
          try clear c31b1
          try clear hcz6_0
          try clear hcz6_1
          try clear hcz6_2
          try clear hcz8_0
          try clear hcz8_1
          try clear hcz8_2
          try clear hfz6_0
          try clear hfz6_1
          try clear hfz6_2
          try clear hfz8_0
          try clear hfz8_1
          try clear hfz8_2
          try clear hx111_0
          try clear p1
          try clear p11
          try clear p111
          try clear p2
          try clear p6
          try clear q1
          try clear q11
          try clear q111
          try clear q17
          try clear q2
          try clear q27
          obtain ⟨kq, x51_29, rfl, HA, HJ29, HO_4, BK102, BK103, HB⟩ := hcut
          cases kq with
          | zero => exact absurd HA.out (by simp [erasureref01_told.j4])
          | succ kj29 =>
           have H := HA.out
           clear HA
           simp only [erasureref01_told.j4] at H
           by_cases c34 : x51_29 = true
           ·subst c34
            have H1 : (some (0, 0, 5)) = some (r1, r2, r3) := by rw [if_pos rfl] at H; exact H
            clear H
            have H := H1
            clear H1
            simp only [Option.some.injEq, Prod.mk.injEq] at H
            obtain ⟨rfl, rfl, rfl⟩ := H
            have hnb35 := NB103_102.out
            have hnc35 := NB102_103.out
            have hcz36_0 : wc.cell? ⟨gb103, 0, none⟩ = some (.int .i64 0) := (blk_cell BK103.out 0).trans rfl
            have hcz36_1 : wc.cell? ⟨gb103, 1, none⟩ = some (.int .i64 0) := (blk_cell BK103.out 1).trans rfl
            have hfz36_0 := blk_frozen BK103.out 0
            have hfz36_1 := blk_frozen BK103.out 1
            go_wp2
            refine bodyPost_ret (results_ct rfl _ _ gb103 23 #[.int .i64 0, .int .i64 0] (0, 0) _ rfl (by (with_reducible repeat (first | refine blk_drewN ?_ _ | refine blk_drew ?_ | refine blk_alloc ?_ _)); refine blk_put (cs := #[.int .i64 0, .int .i64 0]) ?_ 1 _ rfl; (with_reducible repeat (first | refine blk_drewN ?_ _ | refine blk_drew ?_ | refine blk_alloc ?_ _)); refine blk_put (cs := #[.int .i64 0, .int .i64 0]) ?_ 0 _ rfl; (with_reducible repeat (first | refine blk_drewN ?_ _ | refine blk_drew ?_ | refine blk_alloc ?_ _)); exact BK103.out) Tryd.underlying23 rfl (by kernel_rfl)) rfl ?_
            exact ⟨by first | rfl | (simp [errW_none, errW_some] <;> rfl) | (simp [*, errW_none, errW_some] <;> rfl), bel⟩
           ·replace c34 := Bool.eq_false_iff.mpr c34
            subst c34
            have H1 : (erasureref01_told.l2 kj29 x4_18 x5_1 0 (wrap64 ((x4_18.length : Int) - 1)) a0_0 l0_1 a0_2) = some (r1, r2, r3) := by rw [if_neg (show ¬ (false = true) by decide)] at H; exact H
            clear H
            have H := H1
            clear H1
            have H' := Aside0.mk H
            clear H
            obtain ⟨Ao37, co37, eo37, _⟩ := Kd.Q_slice HO_4.out
            subst eo37
            go_wp2
            go_loopg [6, 7] kj29 (fun kq v6 v7 w' => ∃ (x6_5 : Int) (x7_5 : Int), v6 = .int .i64 x6_5 ∧ v7 = .int .i64 x7_5 ∧ Aside0 (erasureref01_told.l2 kq x4_18 x5_1 x6_5 x7_5 a0_0 l0_1 a0_2 = some (r1, r2, r3)) ∧ Aside0 (kq ≤ kj29) ∧ Aside0 (Kd.Q (Kd.int .i64) 3 w' w.heap.size (fun _ => True) (.slice Ao37 x4_18.length co37) x4_18) ∧ Aside0 (w'.heap[gb102]? = some (.cells #[.bool a0_0, (.slice A0_1 l0_1.length c0_1), .int .i64 a0_2] 61 (0, 0))) ∧ Aside0 (w'.heap[gb103]? = some (.cells #[.int .i64 0, .int .i64 0] 23 (0, 0))) ∧ Aside0 (Below w.heap.size w w'))
            case atStart => exact ⟨(0), (wrap64 ((x4_18.length : Int) - 1)), ea_, ea_, H', ⟨Nat.le_refl _⟩, ⟨by (with_reducible repeat (first | apply Kd.Q_alloc | apply Kd.Q_drewN | apply Kd.Q_drew)); exact HO_4.out⟩, ⟨bkk BK102.out⟩, ⟨bkk BK103.out⟩, ⟨bel⟩⟩
            case round =>
             clear H'
             try clear c1
             try clear p1
             try clear q1
             try clear hx1
             try clear c2
             try clear p2
             try clear q2
             try clear c3
             try clear c5
             try clear p6
             try clear c10
             try clear c10b0
             try clear p11
             try clear q11
             try clear hx11
             try clear c13
             try clear c14
             try clear c14b0
             try clear c14b1
             try clear c15
             try clear c15b0
             try clear c15b1
             try clear c17
             try clear q17
             try clear c20
             try clear c20b0
             try clear c20b1
             try clear c22
             try clear c22b0
             try clear c23
             try clear c23b0
             try clear c24
             try clear c24b0
             try clear c24b1
             try clear c25
             try clear c25b0
             try clear c25b1
             try clear q27
             try clear c31
             try clear c31b0
             try clear c31b1
             try clear c34
             try clear c35
             try clear hcz36_0
             try clear hcz36_1
             try clear hcz6_0
             try clear hcz6_1
             try clear hcz6_2
             try clear hcz8_0
             try clear hcz8_1
             try clear hcz8_2
             try clear hfz36_0
             try clear hfz36_1
             try clear hfz6_0
             try clear hfz6_1
             try clear hfz6_2
             try clear hfz8_0
             try clear hfz8_1
             try clear hfz8_2
             try clear hx111_0
             try clear p1
             try clear p11
             try clear p111
             try clear p2
             try clear p6
             try clear q1
             try clear q11
             try clear q111
             try clear q17
             try clear q2
             try clear q27
             obtain ⟨x6_5, x7_5, rfl, rfl, HA, HK5, HO_4, BK102, BK103, HB⟩ := hrel
             cases gk with
             | zero => exact absurd HA.out (by simp [erasureref01_told.l2])
             | succ k5 =>
              have H := HA.out
              clear HA
              simp only [erasureref01_told.l2] at H
              by_cases c38 : x7_5 ≥ 0
              ·rw [if_pos c38] at H
               have c38b0 : decide (0 ≤ x7_5) = true := decide_eq_true c38
               clear c38
               by_cases c39 : 0 ≤ x7_5
               ·rw [if_pos c39] at H
                have c39b0 : decide (0 ≤ x7_5) = true := decide_eq_true c39
                clear c39
                by_cases c40 : x7_5 < (x4_18.length : Int)
                ·rw [if_pos c40] at H
                 have c40b0 : decide (x7_5 < (x4_18.length : Int)) = true := decide_eq_true c40
                 clear c40
                 have H' := Aside0.mk H
                 clear H
                 have p115 : 0 ≤ (x7_5 : Int) := of_decide_eq_true (by first | (with_reducible assumption) | assumption)
                 have q115 : x7_5 < (x4_18.length : Int) := of_decide_eq_true (by first | (with_reducible assumption) | assumption)
                 obtain ⟨ad115, e115, hx115_0⟩ := Kd.at_int (Kd.Q_reads' HO_4.out).2.2 x7_5 p115 q115
                 cases e115
                 replace p115 := eq_true p115
                 replace q115 := eq_true q115
                 go_wp2
                 go_roundg k5
                 case measure => have := HK1.out; have := HJ8.out; have := HJ18.out; have := HJ29.out; have := HK5.out; omega
                 case rel => exact ⟨(wrap64 ((wrap64 (10 * x6_5)) + (rd x4_18 x7_5))), (wrap64 (x7_5 - 1)), ea_, ea_, H', ⟨by have := HK1.out; have := HJ8.out; have := HJ18.out; have := HJ29.out; have := HK5.out; omega⟩, ⟨by (with_reducible repeat (first | apply Kd.Q_alloc | apply Kd.Q_drewN | apply Kd.Q_drew)); exact HO_4.out⟩, ⟨bkk BK102.out⟩, ⟨bkk BK103.out⟩, ⟨bel⟩⟩
                ·rw [if_neg c40] at H
                 exact absurd H (by simp)
               ·rw [if_neg c39] at H
                exact absurd H (by simp)
              ·rw [if_neg c38] at H
               have c38b0 : decide (0 ≤ x7_5) = false := decide_eq_false c38
               clear c38
               by_cases c41 : a0_0 = true
               ·subst c41
                have H1 : (some (wrap64 (-x6_5), x5_1, 0)) = some (r1, r2, r3) := by rw [if_pos rfl] at H; exact H
                clear H
                have H := H1
                clear H1
                simp only [Option.some.injEq, Prod.mk.injEq] at H
                obtain ⟨rfl, rfl, rfl⟩ := H
                have hnb42 := NB102_103.out
                have hnc42 := NB103_102.out
                have hcz43_0 : wr.cell? ⟨gb102, 0, none⟩ = some (.bool true) := (blk_cell BK102.out 0).trans rfl
                have hcz43_1 : wr.cell? ⟨gb102, 1, none⟩ = some (.slice A0_1 l0_1.length c0_1) := (blk_cell BK102.out 1).trans rfl
                have hcz43_2 : wr.cell? ⟨gb102, 2, none⟩ = some (.int .i64 a0_2) := (blk_cell BK102.out 2).trans rfl
                have hfz43_0 := blk_frozen BK102.out 0
                have hfz43_1 := blk_frozen BK102.out 1
                have hfz43_2 := blk_frozen BK102.out 2
                have hcz44_0 : wr.cell? ⟨gb103, 0, none⟩ = some (.int .i64 0) := (blk_cell BK103.out 0).trans rfl
                have hcz44_1 : wr.cell? ⟨gb103, 1, none⟩ = some (.int .i64 0) := (blk_cell BK103.out 1).trans rfl
                have hfz44_0 := blk_frozen BK103.out 0
                have hfz44_1 := blk_frozen BK103.out 1
                go_wp2
                refine bodyPost_ret (results_ct rfl _ _ gb103 23 #[.int .i64 (wrap64 (-x6_5)), .int .i64 x5_1] (0, 0) _ rfl (by (with_reducible repeat (first | refine blk_drewN ?_ _ | refine blk_drew ?_ | refine blk_alloc ?_ _)); refine blk_put (cs := #[.int .i64 (wrap64 (-x6_5)), .int .i64 0]) ?_ 1 _ rfl; (with_reducible repeat (first | refine blk_drewN ?_ _ | refine blk_drew ?_ | refine blk_alloc ?_ _)); refine blk_put (cs := #[.int .i64 0, .int .i64 0]) ?_ 0 _ rfl; (with_reducible repeat (first | refine blk_drewN ?_ _ | refine blk_drew ?_ | refine blk_alloc ?_ _)); exact BK103.out) Tryd.underlying23 rfl (by kernel_rfl)) rfl ?_
                exact ⟨by first | rfl | (simp [errW_none, errW_some] <;> rfl) | (simp [*, errW_none, errW_some] <;> rfl), bel⟩
               ·replace c41 := Bool.eq_false_iff.mpr c41
                subst c41
                have H1 : (some (x6_5, x5_1, 0)) = some (r1, r2, r3) := by rw [if_neg (show ¬ (false = true) by decide)] at H; exact H
                clear H
                have H := H1
                clear H1
                simp only [Option.some.injEq, Prod.mk.injEq] at H
                obtain ⟨rfl, rfl, rfl⟩ := H
                have hnb45 := NB102_103.out
                have hnc45 := NB103_102.out
                have hcz46_0 : wr.cell? ⟨gb102, 0, none⟩ = some (.bool false) := (blk_cell BK102.out 0).trans rfl
                have hcz46_1 : wr.cell? ⟨gb102, 1, none⟩ = some (.slice A0_1 l0_1.length c0_1) := (blk_cell BK102.out 1).trans rfl
                have hcz46_2 : wr.cell? ⟨gb102, 2, none⟩ = some (.int .i64 a0_2) := (blk_cell BK102.out 2).trans rfl
                have hfz46_0 := blk_frozen BK102.out 0
                have hfz46_1 := blk_frozen BK102.out 1
                have hfz46_2 := blk_frozen BK102.out 2
                have hcz47_0 : wr.cell? ⟨gb103, 0, none⟩ = some (.int .i64 0) := (blk_cell BK103.out 0).trans rfl
                have hcz47_1 : wr.cell? ⟨gb103, 1, none⟩ = some (.int .i64 0) := (blk_cell BK103.out 1).trans rfl
                have hfz47_0 := blk_frozen BK103.out 0
                have hfz47_1 := blk_frozen BK103.out 1
                go_wp2
                refine bodyPost_ret (results_ct rfl _ _ gb103 23 #[.int .i64 x6_5, .int .i64 x5_1] (0, 0) _ rfl (by (with_reducible repeat (first | refine blk_drewN ?_ _ | refine blk_drew ?_ | refine blk_alloc ?_ _)); refine blk_put (cs := #[.int .i64 x6_5, .int .i64 0]) ?_ 1 _ rfl; (with_reducible repeat (first | refine blk_drewN ?_ _ | refine blk_drew ?_ | refine blk_alloc ?_ _)); refine blk_put (cs := #[.int .i64 0, .int .i64 0]) ?_ 0 _ rfl; (with_reducible repeat (first | refine blk_drewN ?_ _ | refine blk_drew ?_ | refine blk_alloc ?_ _)); exact BK103.out) Tryd.underlying23 rfl (by kernel_rfl)) rfl ?_
                exact ⟨by first | rfl | (simp [errW_none, errW_some] <;> rfl) | (simp [*, errW_none, errW_some] <;> rfl), bel⟩
 ·rw [if_neg c2] at H
  exact absurd H (by simp)
end Go.Proofs.YtdkckjiccpdkbaaDoor.E
