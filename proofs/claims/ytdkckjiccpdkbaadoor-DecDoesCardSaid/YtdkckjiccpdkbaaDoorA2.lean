-- written by my own driver of the kit's print (wip/tools/myprint.py); Lean checks it.
import Derived.Test.YtdkckjiccpdkbaaDoorA0
import Derived.Test.YtdkckjiccpdkbaaDoorA1
namespace Go.Proofs.YtdkckjiccpdkbaaDoor.A
open Go.RowKit Go.Proofs.YtdkckjiccpdkbaaDoorW.PrintWords Go.Proofs.YtdkckjiccpdkbaaDoorW.PrintLast Go.Proofs.YtdkckjiccpdkbaaDoorW.PrintMore Go.Proofs.YtdkckjiccpdkbaaDoor.H
attribute [local go_sem] max2_int min2_int max_two min_two max_three min_three max_four min_four   -- for this text's walks alone
set_option linter.unusedVariables false
set_option linter.unusedSimpArgs false
mutual
def dec_tell.j1 : Nat → Bool → Int → Int → Int → Option (Int × Int × Int)
 | 0, _, _, _, _ => none
 | k + 1, x0, x2, x107000, x107001 => if x107000 = 0 then (if x107001 > 999999999999999999 then (dec_tell.j2 k x0 x2 true x107000 x107001) else (dec_tell.j2 k x0 x2 (decide (x2 > 9)) x107000 x107001)) else (dec_tell.j2 k x0 x2 true x107000 x107001)
def dec_tell.j2 : Nat → Bool → Int → Bool → Int → Int → Option (Int × Int × Int)
 | 0, _, _, _, _, _ => none
 | k + 1, x0, x2, x34, x107000, x107001 => if x34 = true then (some (0, 0, 5)) else (if x0 = true then (some (wrap64 (-(wrap64 (x107001))), x2, 0)) else (some (wrap64 (x107001), x2, 0)))
def dec_tell.l0 : Nat → Bool → Int → Int → Int → Option (Int × Int × Int)
 | 0, _, _, _, _ => none
 | k + 1, x0, x2, x107000, x107001 => if x2 > 0 then ((dec_wide_by.f k x107000 x107001).bind fun bt108 => (if bt108.2.2 = 0 then (dec_tell.l0 k x0 (wrap64 (x2 - 1)) bt108.1 bt108.2.1) else (dec_tell.j1 k x0 x2 x107000 x107001))) else (dec_tell.j1 k x0 x2 x107000 x107001)
end
def dec_tell.f (k : Nat) (a0 : Bool) (a1_0 : Int) (a1_1 : Int) (a2 : Int) : Option (Int × Int × Int) := dec_tell.l0 k a0 a2 a1_0 a1_1
theorem dec_tell.mono_l : ∀ k, (∀ y0 y1 y2 y3, LeO (dec_tell.j1 k y0 y1 y2 y3) (dec_tell.j1 (k + 1) y0 y1 y2 y3)) ∧ (∀ y0 y1 y2 y3 y4, LeO (dec_tell.j2 k y0 y1 y2 y3 y4) (dec_tell.j2 (k + 1) y0 y1 y2 y3 y4)) ∧ (∀ y0 y1 y2 y3, LeO (dec_tell.l0 k y0 y1 y2 y3) (dec_tell.l0 (k + 1) y0 y1 y2 y3))
 | 0 => ⟨fun _ _ _ _ r h => by simp [dec_tell.j1] at h, fun _ _ _ _ _ r h => by simp [dec_tell.j2] at h, fun _ _ _ _ r h => by simp [dec_tell.l0] at h⟩
 | k + 1 => by
  obtain ⟨ih0, ih1, ih2⟩ := dec_tell.mono_l k
  refine ⟨?_, ?_, ?_⟩
  ·intro y0 y1 y2 y3
   unfold dec_tell.j1
   repeat' first
   | (with_reducible exact ih0 _ _ _ _)
   | (with_reducible exact ih1 _ _ _ _ _)
   | (with_reducible exact ih2 _ _ _ _)
   | (with_reducible exact dec_wide_by.mono _ _ _)
   | (with_reducible exact LeO.refl _)
   | (with_reducible exact LeO.none _)
   | (with_reducible refine LeO.ite ?_ ?_)
   | (with_reducible refine LeO.bind ?_ (fun _ => ?_))
   | exact ih0 _ _ _ _
   | exact ih1 _ _ _ _ _
   | exact ih2 _ _ _ _
   | exact dec_wide_by.mono _ _ _
   | exact LeO.none _
   | refine LeO.ite ?_ ?_
   | refine LeO.bind ?_ (fun _ => ?_)
  ·intro y0 y1 y2 y3 y4
   unfold dec_tell.j2
   repeat' first
   | (with_reducible exact ih0 _ _ _ _)
   | (with_reducible exact ih1 _ _ _ _ _)
   | (with_reducible exact ih2 _ _ _ _)
   | (with_reducible exact dec_wide_by.mono _ _ _)
   | (with_reducible exact LeO.refl _)
   | (with_reducible exact LeO.none _)
   | (with_reducible refine LeO.ite ?_ ?_)
   | (with_reducible refine LeO.bind ?_ (fun _ => ?_))
   | exact ih0 _ _ _ _
   | exact ih1 _ _ _ _ _
   | exact ih2 _ _ _ _
   | exact dec_wide_by.mono _ _ _
   | exact LeO.none _
   | refine LeO.ite ?_ ?_
   | refine LeO.bind ?_ (fun _ => ?_)
  ·intro y0 y1 y2 y3
   unfold dec_tell.l0
   repeat' first
   | (with_reducible exact ih0 _ _ _ _)
   | (with_reducible exact ih1 _ _ _ _ _)
   | (with_reducible exact ih2 _ _ _ _)
   | (with_reducible exact dec_wide_by.mono _ _ _)
   | (with_reducible exact LeO.refl _)
   | (with_reducible exact LeO.none _)
   | (with_reducible refine LeO.ite ?_ ?_)
   | (with_reducible refine LeO.bind ?_ (fun _ => ?_))
   | exact ih0 _ _ _ _
   | exact ih1 _ _ _ _ _
   | exact ih2 _ _ _ _
   | exact dec_wide_by.mono _ _ _
   | exact LeO.none _
   | refine LeO.ite ?_ ?_
   | refine LeO.bind ?_ (fun _ => ?_)
theorem dec_tell.mono : ∀ a0 a1 a2 a3 k, LeO (dec_tell.f k a0 a1 a2 a3) (dec_tell.f (k + 1) a0 a1 a2 a3) := by
 intro a0 a1 a2 a3 k
 obtain ⟨ih0, ih1, ih2⟩ := dec_tell.mono_l k
 unfold dec_tell.f
 repeat' first
   | (with_reducible exact ih0 _ _ _ _)
   | (with_reducible exact ih1 _ _ _ _ _)
   | (with_reducible exact ih2 _ _ _ _)
   | (with_reducible exact dec_wide_by.mono _ _ _)
   | (with_reducible exact LeO.refl _)
   | (with_reducible exact LeO.none _)
   | (with_reducible refine LeO.ite ?_ ?_)
   | (with_reducible refine LeO.bind ?_ (fun _ => ?_))
   | exact ih0 _ _ _ _
   | exact ih1 _ _ _ _ _
   | exact ih2 _ _ _ _
   | exact dec_wide_by.mono _ _ _
   | exact LeO.none _
   | refine LeO.ite ?_ ?_
   | refine LeO.bind ?_ (fun _ => ?_)
set_option maxHeartbeats 8000000 in
set_option maxRecDepth 100000 in
theorem dec_tell.calls (k : Nat) (a0 : Bool) (a1_0 : Int) (a1_1 : Int) (a2 : Int) (r1 : Int) (r2 : Int) (r3 : Int) (w : World) (h : dec_tell.f k a0 a1_0 a1_1 a2 = some (r1, r2, r3)) :
  Calls Tryd.prog 32 #[.bool a0, .agg #[.int .u64 a1_0, .int .u64 a1_1], .int .i64 a2] w fun e w' => e = .returned (.tuple #[.agg #[.int .i64 r1, .int .i64 r2], .int .i64 r3]) ∧ Below w.heap.size w w' := by
 have hu52 := Tryd.underlying52
 have hu23 := Tryd.underlying23
 have HB := Aside0.mk (Below.refl w.heap.size w)
 have H : (dec_tell.l0 k a0 a2 a1_0 a1_1) = some (r1, r2, r3) := h
 clear h
 have HC4 := Aside0.mk H
 clear H
 go_enter Tryd.func32, Tryd.ntmps32
 go_upto_block 0 with (first | ((with_reducible refine gate_dst (N := 4) rfl ?_); refine box_event ?hg (N := 4) ?hd (cs := #[.int .u64 a1_0, .int .u64 a1_1]) (t := 52) ?hr ?_; (case hd => rfl); (case hg => rfl); (case hr => first | (go_simp; done) | (go_simp; rfl)); intro gb106 hg w5 hbox hb; have n0_ := Aside0.mk (below_step bel hb); have n1_ := Aside0.mk (hbox); have n2_ := Aside0.mk ((by rw [hg]; exact (below_size bel) : w.heap.size ≤ gb106)); have n3_ := Aside0.mk ((by rw [hg]; exact (below_size bel) : w.heap.size ≤ gb106)); clear HB; have HB := n0_; have BK106 := n1_; have GW106 := n2_; have GE106 := n3_; clear n0_ n1_ n2_ n3_; clear hb hbox hg) | ((with_reducible refine gate_dst (N := 6) rfl ?_); refine box_event ?hg (N := 6) ?hd (cs := #[.int .i64 0, .int .i64 0]) (t := 23) ?hr ?_; (case hd => rfl); (case hg => rfl); (case hr => first | (go_simp; done) | (go_simp; rfl)); intro gb107 hg w6 hbox hb; have n0_ := Aside0.mk (blk_below (bkk BK106.out) hb); have n1_ := Aside0.mk (below_step bel hb); have n2_ := Aside0.mk (hbox); have n3_ := Aside0.mk ((by rw [hg]; exact (below_size bel) : w.heap.size ≤ gb107)); have n4_ := Aside0.mk ((by rw [hg]; exact (below_size bel) : w.heap.size ≤ gb107)); have n5_ := Aside0.mk ((by rw [hg]; exact Nat.ne_of_lt (blk_lt (g := gb106) (o := .cells #[.int .u64 a1_0, .int .u64 a1_1] 52 (0, 0)) (bkk BK106.out)) : gb106 ≠ gb107)); have n6_ := Aside0.mk ((by rw [hg]; exact Nat.ne_of_gt (blk_lt (g := gb106) (o := .cells #[.int .u64 a1_0, .int .u64 a1_1] 52 (0, 0)) (bkk BK106.out)) : gb107 ≠ gb106)); clear BK106; clear HB; have BK106 := n0_; have HB := n1_; have BK107 := n2_; have GW107 := n3_; have GE107 := n4_; have NB106_107 := n5_; have NB107_106 := n6_; clear n0_ n1_ n2_ n3_ n4_ n5_ n6_; clear hb hbox hg))
 (try simp only [Act.put, List.setIfInBounds_toArray, List.set_cons_zero, List.set_cons_succ])
 go_cut [2] (fun v2 wc => ∃ (kq : Nat) (x2_3 : Int) (x107000_3 : Int) (x107001_3 : Int), v2 = .int .i64 x2_3 ∧ Aside0 (dec_tell.j1 kq a0 x2_3 x107000_3 x107001_3 = some (r1, r2, r3)) ∧ Aside0 (kq ≤ k) ∧ Aside0 (wc.heap[gb106]? = some (.cells #[.int .u64 x107000_3, .int .u64 x107001_3] 52 (0, 0))) ∧ Aside0 (wc.heap[gb107]? = some (.cells #[.int .i64 0, .int .i64 0] 23 (0, 0))) ∧ Aside0 (Below w.heap.size w wc))
 case first =>
  have H := HC4.out
  clear HC4
  have H' := Aside0.mk H
  clear H
  go_wp2
  go_loopg [2] k (fun kq v2 w' => ∃ (x2_1 : Int) (x107000_1 : Int) (x107001_1 : Int), v2 = .int .i64 x2_1 ∧ Aside0 (dec_tell.l0 kq a0 x2_1 x107000_1 x107001_1 = some (r1, r2, r3)) ∧ Aside0 (kq ≤ k) ∧ Aside0 (w'.heap[gb106]? = some (.cells #[.int .u64 x107000_1, .int .u64 x107001_1] 52 (0, 0))) ∧ Aside0 (w'.heap[gb107]? = some (.cells #[.int .i64 0, .int .i64 0] 23 (0, 0))) ∧ Aside0 (Below w.heap.size w w'))
  case atStart => exact ⟨(a2), (a1_0), (a1_1), ea_, H', ⟨Nat.le_refl _⟩, ⟨bkk BK106.out⟩, ⟨bkk BK107.out⟩, ⟨bel⟩⟩
  case round =>
   clear H'
   try clear p2
   try clear c3
   obtain ⟨x2_1, x107000_1, x107001_1, rfl, HA, HK1, BK106, BK107, HB⟩ := hrel
   cases gk with
   | zero => exact absurd HA.out (by simp [dec_tell.l0])
   | succ k1 =>
    have H := HA.out
    clear HA
    simp only [dec_tell.l0] at H
    by_cases c7 : x2_1 > 0
    ·rw [if_pos c7] at H
     have c7b0 : decide (0 < x2_1) = true := decide_eq_true c7
     clear c7
     (first | rw [c7b0] | (simp only [i64_w, i32_w]; rw [c7b0]) | skip)
     replace H := Option.bind_eq_some_iff.mp H
     obtain ⟨⟨t108, t109, t110⟩, A80, H⟩ := H
     replace H : (if t110 = 0 then (dec_tell.l0 k1 a0 (wrap64 (x2_1 - 1)) t108 t109) else (dec_tell.j1 k1 a0 x2_1 x107000_1 x107001_1)) = some (r1, r2, r3) := H
     have A8 := Aside0.mk A80
     clear A80
     by_cases c9 : t110 = 0
     ·rw [if_pos c9] at H
      have c9b0 : (t110 == 0) = true := beq_iff_eq.mpr c9
      have c9b1 : (t110 != 0) = false := bne_eq_false_iff_eq.mpr c9
      clear c9
      have H' := Aside0.mk H
      clear H
      have hnb10 := NB106_107.out
      have hnc10 := NB107_106.out
      have hcz11_0 : wr.cell? ⟨gb106, 0, none⟩ = some (.int .u64 x107000_1) := (blk_cell BK106.out 0).trans rfl
      have hcz11_1 : wr.cell? ⟨gb106, 1, none⟩ = some (.int .u64 x107001_1) := (blk_cell BK106.out 1).trans rfl
      have hfz11_0 := blk_frozen BK106.out 0
      have hfz11_1 := blk_frozen BK106.out 1
      go_wp2_with (first | ((with_reducible refine gate_callee (f := 60) rfl ?_); refine goesL_ (some 15) rfl rfl Tryd.func60 (by kernel_rfl) rfl #[.agg #[.int .u64 x107000_1, .int .u64 x107001_1]] rfl gl_ ?_; (with_reducible refine (dec_wide_by.calls k1 x107000_1 x107001_1 t108 t109 t110 _ A8.out).mono ?_); rintro e w12 ⟨rfl, hb⟩; refine ⟨_, rfl, ?_⟩; have n0_ := Aside0.mk (blk_below (bkk BK106.out) hb); have n1_ := Aside0.mk (blk_below (bkk BK107.out) hb); have n2_ := Aside0.mk (below_step bel hb); clear BK106; clear BK107; clear HB; have BK106 := n0_; have BK107 := n1_; have HB := n2_; clear n0_ n1_ n2_; (try clear hb); (try clear hb2); (try clear hk); (try clear hi)) | ((with_reducible refine gate_dst (N := 8) rfl ?_); refine box_event ?hg (N := 8) ?hd (cs := #[.int .u64 0, .int .u64 0]) (t := 52) ?hr ?_; (case hd => rfl); (case hg => rfl); (case hr => first | (go_simp; done) | (go_simp; rfl)); intro gb111 hg w13 hbox hb; have n0_ := Aside0.mk (blk_below (bkk BK106.out) hb); have n1_ := Aside0.mk (blk_below (bkk BK107.out) hb); have n2_ := Aside0.mk (below_step bel hb); have n3_ := Aside0.mk (hbox); have n4_ := Aside0.mk ((by rw [hg]; exact (below_size bel) : w.heap.size ≤ gb111)); have n5_ := Aside0.mk ((by rw [hg]; exact (below_size bel) : w.heap.size ≤ gb111)); have n6_ := Aside0.mk ((by rw [hg]; exact Nat.ne_of_lt (blk_lt (g := gb106) (o := .cells #[.int .u64 x107000_1, .int .u64 x107001_1] 52 (0, 0)) (bkk BK106.out)) : gb106 ≠ gb111)); have n7_ := Aside0.mk ((by rw [hg]; exact Nat.ne_of_gt (blk_lt (g := gb106) (o := .cells #[.int .u64 x107000_1, .int .u64 x107001_1] 52 (0, 0)) (bkk BK106.out)) : gb111 ≠ gb106)); have n8_ := Aside0.mk ((by rw [hg]; exact Nat.ne_of_lt (blk_lt (g := gb107) (o := .cells #[.int .i64 0, .int .i64 0] 23 (0, 0)) (bkk BK107.out)) : gb107 ≠ gb111)); have n9_ := Aside0.mk ((by rw [hg]; exact Nat.ne_of_gt (blk_lt (g := gb107) (o := .cells #[.int .i64 0, .int .i64 0] 23 (0, 0)) (bkk BK107.out)) : gb111 ≠ gb107)); clear BK106; clear BK107; clear HB; have BK106 := n0_; have BK107 := n1_; have HB := n2_; have BK111 := n3_; have GW111 := n4_; have GE111 := n5_; have NB106_111 := n6_; have NB111_106 := n7_; have NB107_111 := n8_; have NB111_107 := n9_; clear n0_ n1_ n2_ n3_ n4_ n5_ n6_ n7_ n8_ n9_; clear hb hbox hg; have hnb14 := NB111_106.out; have hnc14 := NB106_111.out; have hnb15 := NB111_107.out; have hnc15 := NB107_111.out; have hcz16_0 : w13.cell? ⟨gb111, 0, none⟩ = some (.int .u64 0) := (blk_cell BK111.out 0).trans rfl; have hcz16_1 : w13.cell? ⟨gb111, 1, none⟩ = some (.int .u64 0) := (blk_cell BK111.out 1).trans rfl; have hfz16_0 := blk_frozen BK111.out 0; have hfz16_1 := blk_frozen BK111.out 1; have hcz17_0 : w13.cell? ⟨gb106, 0, none⟩ = some (.int .u64 x107000_1) := (blk_cell BK106.out 0).trans rfl; have hcz17_1 : w13.cell? ⟨gb106, 1, none⟩ = some (.int .u64 x107001_1) := (blk_cell BK106.out 1).trans rfl; have hfz17_0 := blk_frozen BK106.out 0; have hfz17_1 := blk_frozen BK106.out 1))
      go_roundg k1
      case measure => have := HK1.out; omega
      case rel => exact ⟨(wrap64 (x2_1 - 1)), (t108), (t109), ea_, H', ⟨by have := HK1.out; omega⟩, ⟨by (with_reducible repeat (first | refine blk_drewN ?_ _ | refine blk_drew ?_ | refine blk_alloc ?_ _)); refine blk_put (cs := #[.int .u64 t108, .int .u64 x107001_1]) ?_ 1 _ rfl; (with_reducible repeat (first | refine blk_drewN ?_ _ | refine blk_drew ?_ | refine blk_alloc ?_ _)); refine blk_put (cs := #[.int .u64 x107000_1, .int .u64 x107001_1]) ?_ 0 _ rfl; (with_reducible repeat (first | refine blk_drewN ?_ _ | refine blk_drew ?_ | refine blk_alloc ?_ _)); refine blk_far ?_ NB106_111.out _; (with_reducible repeat (first | refine blk_drewN ?_ _ | refine blk_drew ?_ | refine blk_alloc ?_ _)); refine blk_far ?_ NB106_111.out _; (with_reducible repeat (first | refine blk_drewN ?_ _ | refine blk_drew ?_ | refine blk_alloc ?_ _)); exact BK106.out⟩, ⟨blks⟩, ⟨bel⟩⟩
     ·rw [if_neg c9] at H
      have c9b0 : (t110 == 0) = false := beq_eq_false_iff_ne.mpr c9
      have c9b1 : (t110 != 0) = true := bne_iff_ne.mpr c9
      have H' := Aside0.mk H
      clear H
      have hnb18 := NB106_107.out
      have hnc18 := NB107_106.out
      have hcz19_0 : wr.cell? ⟨gb106, 0, none⟩ = some (.int .u64 x107000_1) := (blk_cell BK106.out 0).trans rfl
      have hcz19_1 : wr.cell? ⟨gb106, 1, none⟩ = some (.int .u64 x107001_1) := (blk_cell BK106.out 1).trans rfl
      have hfz19_0 := blk_frozen BK106.out 0
      have hfz19_1 := blk_frozen BK106.out 1
      go_wp2_with (first | ((with_reducible refine gate_callee (f := 60) rfl ?_); refine goesL_ (some 15) rfl rfl Tryd.func60 (by kernel_rfl) rfl #[.agg #[.int .u64 x107000_1, .int .u64 x107001_1]] rfl gl_ ?_; (with_reducible refine (dec_wide_by.calls k1 x107000_1 x107001_1 t108 t109 t110 _ A8.out).mono ?_); rintro e w20 ⟨rfl, hb⟩; refine ⟨_, rfl, ?_⟩; have n0_ := Aside0.mk (blk_below (bkk BK106.out) hb); have n1_ := Aside0.mk (blk_below (bkk BK107.out) hb); have n2_ := Aside0.mk (below_step bel hb); clear BK106; clear BK107; clear HB; have BK106 := n0_; have BK107 := n1_; have HB := n2_; clear n0_ n1_ n2_; (try clear hb); (try clear hb2); (try clear hk); (try clear hi)) | ((with_reducible refine gate_dst (N := 8) rfl ?_); refine box_event ?hg (N := 8) ?hd (cs := #[.int .u64 0, .int .u64 0]) (t := 52) ?hr ?_; (case hd => rfl); (case hg => rfl); (case hr => first | (go_simp; done) | (go_simp; rfl)); intro gb111 hg w21 hbox hb; have n0_ := Aside0.mk (blk_below (bkk BK106.out) hb); have n1_ := Aside0.mk (blk_below (bkk BK107.out) hb); have n2_ := Aside0.mk (below_step bel hb); have n3_ := Aside0.mk (hbox); have n4_ := Aside0.mk ((by rw [hg]; exact (below_size bel) : w.heap.size ≤ gb111)); have n5_ := Aside0.mk ((by rw [hg]; exact (below_size bel) : w.heap.size ≤ gb111)); have n6_ := Aside0.mk ((by rw [hg]; exact Nat.ne_of_lt (blk_lt (g := gb106) (o := .cells #[.int .u64 x107000_1, .int .u64 x107001_1] 52 (0, 0)) (bkk BK106.out)) : gb106 ≠ gb111)); have n7_ := Aside0.mk ((by rw [hg]; exact Nat.ne_of_gt (blk_lt (g := gb106) (o := .cells #[.int .u64 x107000_1, .int .u64 x107001_1] 52 (0, 0)) (bkk BK106.out)) : gb111 ≠ gb106)); have n8_ := Aside0.mk ((by rw [hg]; exact Nat.ne_of_lt (blk_lt (g := gb107) (o := .cells #[.int .i64 0, .int .i64 0] 23 (0, 0)) (bkk BK107.out)) : gb107 ≠ gb111)); have n9_ := Aside0.mk ((by rw [hg]; exact Nat.ne_of_gt (blk_lt (g := gb107) (o := .cells #[.int .i64 0, .int .i64 0] 23 (0, 0)) (bkk BK107.out)) : gb111 ≠ gb107)); clear BK106; clear BK107; clear HB; have BK106 := n0_; have BK107 := n1_; have HB := n2_; have BK111 := n3_; have GW111 := n4_; have GE111 := n5_; have NB106_111 := n6_; have NB111_106 := n7_; have NB107_111 := n8_; have NB111_107 := n9_; clear n0_ n1_ n2_ n3_ n4_ n5_ n6_ n7_ n8_ n9_; clear hb hbox hg; have hnb22 := NB111_106.out; have hnc22 := NB106_111.out; have hnb23 := NB111_107.out; have hnc23 := NB107_111.out; have hcz24_0 : w21.cell? ⟨gb111, 0, none⟩ = some (.int .u64 0) := (blk_cell BK111.out 0).trans rfl; have hcz24_1 : w21.cell? ⟨gb111, 1, none⟩ = some (.int .u64 0) := (blk_cell BK111.out 1).trans rfl; have hfz24_0 := blk_frozen BK111.out 0; have hfz24_1 := blk_frozen BK111.out 1))
      go_meet
      case rel => exact ⟨_, (x2_1), (x107000_1), (x107001_1), ea_, H', ⟨by have := HK1.out; first | omega | exact Nat.le_refl _⟩, ⟨blks⟩, ⟨blks⟩, ⟨bel⟩⟩
    ·rw [if_neg c7] at H
     have c7b0 : decide (0 < x2_1) = false := decide_eq_false c7
     clear c7
     (first | rw [c7b0] | (simp only [i64_w, i32_w]; rw [c7b0]) | skip)
     have H' := Aside0.mk H
     clear H
     go_wp2
     go_meet
     case rel => exact ⟨_, (x2_1), (x107000_1), (x107001_1), ea_, H', ⟨by have := HK1.out; first | omega | exact Nat.le_refl _⟩, ⟨bkk BK106.out⟩, ⟨bkk BK107.out⟩, ⟨bel⟩⟩
 case rest =>
  clear HC4
  try clear c1
  try clear c2
  try clear p2
  try clear c3
  try clear c6
  try clear p6
  try clear c7
  try clear c7b0
  try clear c9
  try clear c9b0
  try clear c9b1
  try clear c10
  try clear c14
  try clear c15
  try clear c18
  try clear c22
  try clear c23
  try clear hcz11_0
  try clear hcz11_1
  try clear hcz16_0
  try clear hcz16_1
  try clear hcz17_0
  try clear hcz17_1
  try clear hcz19_0
  try clear hcz19_1
  try clear hcz24_0
  try clear hcz24_1
  try clear hfz11_0
  try clear hfz11_1
  try clear hfz16_0
  try clear hfz16_1
  try clear hfz17_0
  try clear hfz17_1
  try clear hfz19_0
  try clear hfz19_1
  try clear hfz24_0
  try clear hfz24_1
  try clear p2
  obtain ⟨kq, x2_3, x107000_3, x107001_3, rfl, HA, HJ3, BK106, BK107, HB⟩ := hcut
  cases kq with
  | zero => exact absurd HA.out (by simp [dec_tell.j1])
  | succ kj3 =>
   have H := HA.out
   clear HA
   simp only [dec_tell.j1] at H
   have HC25 := Aside0.mk H
   clear H
   go_upto_region 5 with (fail)
   go_cut [34] (fun v34 wc => ∃ (kq : Nat) (x34_24 : Bool), v34 = .bool x34_24 ∧ Aside0 (dec_tell.j2 kq a0 x2_3 x34_24 x107000_3 x107001_3 = some (r1, r2, r3)) ∧ Aside0 (kq ≤ kj3) ∧ Aside0 (wc.heap[gb106]? = some (.cells #[.int .u64 x107000_3, .int .u64 x107001_3] 52 (0, 0))) ∧ Aside0 (wc.heap[gb107]? = some (.cells #[.int .i64 0, .int .i64 0] 23 (0, 0))) ∧ Aside0 (Below w.heap.size w wc))
   case first =>
    have H := HC25.out
    clear HC25
    by_cases c26 : x107000_3 = 0
    ·rw [if_pos c26] at H
     have c26b0 : (x107000_3 == 0) = true := beq_iff_eq.mpr c26
     have c26b1 : (x107000_3 != 0) = false := bne_eq_false_iff_eq.mpr c26
     clear c26
     (first | rw [c26b0] | (simp only [i64_w, i32_w]; rw [c26b0]) | skip)
     by_cases c27 : x107001_3 > 999999999999999999
     ·rw [if_pos c27] at H
      have c27b0 : decide (999999999999999999 < x107001_3) = true := decide_eq_true c27
      clear c27
      have H' := Aside0.mk H
      clear H
      have hnb28 := NB106_107.out
      have hnc28 := NB107_106.out
      have hcz29_0 : wc.cell? ⟨gb106, 0, none⟩ = some (.int .u64 x107000_3) := (blk_cell BK106.out 0).trans rfl
      have hcz29_1 : wc.cell? ⟨gb106, 1, none⟩ = some (.int .u64 x107001_3) := (blk_cell BK106.out 1).trans rfl
      have hfz29_0 := blk_frozen BK106.out 0
      have hfz29_1 := blk_frozen BK106.out 1
      go_wp2
      go_meet
      case rel => exact ⟨_, (true), ea_, H', ⟨by have := HJ3.out; first | omega | exact Nat.le_refl _⟩, ⟨bkk BK106.out⟩, ⟨bkk BK107.out⟩, ⟨bel⟩⟩
     ·rw [if_neg c27] at H
      have c27b0 : decide (999999999999999999 < x107001_3) = false := decide_eq_false c27
      clear c27
      have H' := Aside0.mk H
      clear H
      have hnb30 := NB106_107.out
      have hnc30 := NB107_106.out
      have hcz31_0 : wc.cell? ⟨gb106, 0, none⟩ = some (.int .u64 x107000_3) := (blk_cell BK106.out 0).trans rfl
      have hcz31_1 : wc.cell? ⟨gb106, 1, none⟩ = some (.int .u64 x107001_3) := (blk_cell BK106.out 1).trans rfl
      have hfz31_0 := blk_frozen BK106.out 0
      have hfz31_1 := blk_frozen BK106.out 1
      go_wp2
      go_meet
      case rel => exact ⟨_, (decide (x2_3 > 9)), ea_, H', ⟨by have := HJ3.out; first | omega | exact Nat.le_refl _⟩, ⟨bkk BK106.out⟩, ⟨bkk BK107.out⟩, ⟨bel⟩⟩
    ·rw [if_neg c26] at H
     have c26b0 : (x107000_3 == 0) = false := beq_eq_false_iff_ne.mpr c26
     have c26b1 : (x107000_3 != 0) = true := bne_iff_ne.mpr c26
     (first | rw [c26b0] | (simp only [i64_w, i32_w]; rw [c26b0]) | skip)
     have H' := Aside0.mk H
     clear H
     have hnb32 := NB106_107.out
     have hnc32 := NB107_106.out
     have hcz33_0 : wc.cell? ⟨gb106, 0, none⟩ = some (.int .u64 x107000_3) := (blk_cell BK106.out 0).trans rfl
     have hcz33_1 : wc.cell? ⟨gb106, 1, none⟩ = some (.int .u64 x107001_3) := (blk_cell BK106.out 1).trans rfl
     have hfz33_0 := blk_frozen BK106.out 0
     have hfz33_1 := blk_frozen BK106.out 1
     go_wp2
     go_meet
     case rel => exact ⟨_, (true), ea_, H', ⟨by have := HJ3.out; first | omega | exact Nat.le_refl _⟩, ⟨bkk BK106.out⟩, ⟨bkk BK107.out⟩, ⟨bel⟩⟩
   case rest =>
    clear HC25
    try clear c1
    try clear c2
    try clear p2
    try clear c3
    try clear c6
    try clear p6
    try clear c7
    try clear c7b0
    try clear c9
    try clear c9b0
    try clear c9b1
    try clear c10
    try clear c14
    try clear c15
    try clear c18
    try clear c22
    try clear c23
    try clear c26
    try clear c26b0
    try clear c26b1
    try clear c27
    try clear c27b0
    try clear c28
    try clear c30
    try clear c32
    try clear hcz11_0
    try clear hcz11_1
    try clear hcz16_0
    try clear hcz16_1
    try clear hcz17_0
    try clear hcz17_1
    try clear hcz19_0
    try clear hcz19_1
    try clear hcz24_0
    try clear hcz24_1
    try clear hcz29_0
    try clear hcz29_1
    try clear hcz31_0
    try clear hcz31_1
    try clear hcz33_0
    try clear hcz33_1
    try clear hfz11_0
    try clear hfz11_1
    try clear hfz16_0
    try clear hfz16_1
    try clear hfz17_0
    try clear hfz17_1
    try clear hfz19_0
    try clear hfz19_1
    try clear hfz24_0
    try clear hfz24_1
    try clear hfz29_0
    try clear hfz29_1
    try clear hfz31_0
    try clear hfz31_1
    try clear hfz33_0
    try clear hfz33_1
    try clear p2
    try clear p6
    obtain ⟨kq, x34_24, rfl, HA, HJ24, BK106, BK107, HB⟩ := hcut
    cases kq with
    | zero => exact absurd HA.out (by simp [dec_tell.j2])
    | succ kj24 =>
     have H := HA.out
     clear HA
     simp only [dec_tell.j2] at H
     by_cases c34 : x34_24 = true
     ·subst c34
      have H1 : (some (0, 0, 5)) = some (r1, r2, r3) := by rw [if_pos rfl] at H; exact H
      clear H
      have H := H1
      clear H1
      simp only [Option.some.injEq, Prod.mk.injEq] at H
      obtain ⟨rfl, rfl, rfl⟩ := H
      have hnb35 := NB107_106.out
      have hnc35 := NB106_107.out
      have hcz36_0 : wc.cell? ⟨gb107, 0, none⟩ = some (.int .i64 0) := (blk_cell BK107.out 0).trans rfl
      have hcz36_1 : wc.cell? ⟨gb107, 1, none⟩ = some (.int .i64 0) := (blk_cell BK107.out 1).trans rfl
      have hfz36_0 := blk_frozen BK107.out 0
      have hfz36_1 := blk_frozen BK107.out 1
      go_wp2
      refine bodyPost_ret (results_ct rfl _ _ gb107 23 #[.int .i64 0, .int .i64 0] (0, 0) _ rfl (by (with_reducible repeat (first | refine blk_drewN ?_ _ | refine blk_drew ?_ | refine blk_alloc ?_ _)); refine blk_put (cs := #[.int .i64 0, .int .i64 0]) ?_ 1 _ rfl; (with_reducible repeat (first | refine blk_drewN ?_ _ | refine blk_drew ?_ | refine blk_alloc ?_ _)); refine blk_put (cs := #[.int .i64 0, .int .i64 0]) ?_ 0 _ rfl; (with_reducible repeat (first | refine blk_drewN ?_ _ | refine blk_drew ?_ | refine blk_alloc ?_ _)); exact BK107.out) Tryd.underlying23 rfl (by kernel_rfl)) rfl ?_
      exact ⟨by first | rfl | (simp [errW_none, errW_some] <;> rfl) | (simp [*, errW_none, errW_some] <;> rfl), bel⟩
     ·replace c34 := Bool.eq_false_iff.mpr c34
      subst c34
      have H1 : (if a0 = true then (some (wrap64 (-(wrap64 (x107001_3))), x2_3, 0)) else (some (wrap64 (x107001_3), x2_3, 0))) = some (r1, r2, r3) := by rw [if_neg (show ¬ (false = true) by decide)] at H; exact H
      clear H
      have H := H1
      clear H1
      by_cases c37 : a0 = true
      ·subst c37
       have H1 : (some (wrap64 (-(wrap64 (x107001_3))), x2_3, 0)) = some (r1, r2, r3) := by rw [if_pos rfl] at H; exact H
       clear H
       have H := H1
       clear H1
       simp only [Option.some.injEq, Prod.mk.injEq] at H
       obtain ⟨rfl, rfl, rfl⟩ := H
       have hnb38 := NB106_107.out
       have hnc38 := NB107_106.out
       have hcz39_0 : wc.cell? ⟨gb106, 0, none⟩ = some (.int .u64 x107000_3) := (blk_cell BK106.out 0).trans rfl
       have hcz39_1 : wc.cell? ⟨gb106, 1, none⟩ = some (.int .u64 x107001_3) := (blk_cell BK106.out 1).trans rfl
       have hfz39_0 := blk_frozen BK106.out 0
       have hfz39_1 := blk_frozen BK106.out 1
       have hcz40_0 : wc.cell? ⟨gb107, 0, none⟩ = some (.int .i64 0) := (blk_cell BK107.out 0).trans rfl
       have hcz40_1 : wc.cell? ⟨gb107, 1, none⟩ = some (.int .i64 0) := (blk_cell BK107.out 1).trans rfl
       have hfz40_0 := blk_frozen BK107.out 0
       have hfz40_1 := blk_frozen BK107.out 1
       go_wp2
       refine bodyPost_ret (results_ct rfl _ _ gb107 23 #[.int .i64 (wrap64 (-(wrap64 (x107001_3)))), .int .i64 x2_3] (0, 0) _ rfl (by (with_reducible repeat (first | refine blk_drewN ?_ _ | refine blk_drew ?_ | refine blk_alloc ?_ _)); refine blk_put (cs := #[.int .i64 (wrap64 (-(wrap64 (x107001_3)))), .int .i64 0]) ?_ 1 _ rfl; (with_reducible repeat (first | refine blk_drewN ?_ _ | refine blk_drew ?_ | refine blk_alloc ?_ _)); refine blk_put (cs := #[.int .i64 0, .int .i64 0]) ?_ 0 _ rfl; (with_reducible repeat (first | refine blk_drewN ?_ _ | refine blk_drew ?_ | refine blk_alloc ?_ _)); exact BK107.out) Tryd.underlying23 rfl (by kernel_rfl)) rfl ?_
       exact ⟨by first | rfl | (simp [errW_none, errW_some] <;> rfl) | (simp [*, errW_none, errW_some] <;> rfl), bel⟩
      ·replace c37 := Bool.eq_false_iff.mpr c37
       subst c37
       have H1 : (some (wrap64 (x107001_3), x2_3, 0)) = some (r1, r2, r3) := by rw [if_neg (show ¬ (false = true) by decide)] at H; exact H
       clear H
       have H := H1
       clear H1
       simp only [Option.some.injEq, Prod.mk.injEq] at H
       obtain ⟨rfl, rfl, rfl⟩ := H
       have hnb41 := NB106_107.out
       have hnc41 := NB107_106.out
       have hcz42_0 : wc.cell? ⟨gb106, 0, none⟩ = some (.int .u64 x107000_3) := (blk_cell BK106.out 0).trans rfl
       have hcz42_1 : wc.cell? ⟨gb106, 1, none⟩ = some (.int .u64 x107001_3) := (blk_cell BK106.out 1).trans rfl
       have hfz42_0 := blk_frozen BK106.out 0
       have hfz42_1 := blk_frozen BK106.out 1
       have hcz43_0 : wc.cell? ⟨gb107, 0, none⟩ = some (.int .i64 0) := (blk_cell BK107.out 0).trans rfl
       have hcz43_1 : wc.cell? ⟨gb107, 1, none⟩ = some (.int .i64 0) := (blk_cell BK107.out 1).trans rfl
       have hfz43_0 := blk_frozen BK107.out 0
       have hfz43_1 := blk_frozen BK107.out 1
       go_wp2
       refine bodyPost_ret (results_ct rfl _ _ gb107 23 #[.int .i64 (wrap64 (x107001_3)), .int .i64 x2_3] (0, 0) _ rfl (by (with_reducible repeat (first | refine blk_drewN ?_ _ | refine blk_drew ?_ | refine blk_alloc ?_ _)); refine blk_put (cs := #[.int .i64 (wrap64 (x107001_3)), .int .i64 0]) ?_ 1 _ rfl; (with_reducible repeat (first | refine blk_drewN ?_ _ | refine blk_drew ?_ | refine blk_alloc ?_ _)); refine blk_put (cs := #[.int .i64 0, .int .i64 0]) ?_ 0 _ rfl; (with_reducible repeat (first | refine blk_drewN ?_ _ | refine blk_drew ?_ | refine blk_alloc ?_ _)); exact BK107.out) Tryd.underlying23 rfl (by kernel_rfl)) rfl ?_
       exact ⟨by first | rfl | (simp [errW_none, errW_some] <;> rfl) | (simp [*, errW_none, errW_some] <;> rfl), bel⟩
end Go.Proofs.YtdkckjiccpdkbaaDoor.A
