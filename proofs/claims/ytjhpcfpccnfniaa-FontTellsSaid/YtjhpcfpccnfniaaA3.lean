-- written by my own driver of the kit's print (wip/tools/myprint.py); Lean checks it.
import Derived.Test.YtjhpcfpccnfniaaA0
import Derived.Test.YtjhpcfpccnfniaaA2
namespace Go.Proofs.Ytjhpcfpccnfniaa.A
open Go.RowKit Go.Proofs.YtjhpcfpccnfniaaW.PrintWords Go.Proofs.YtjhpcfpccnfniaaW.PrintLast Go.Proofs.YtjhpcfpccnfniaaW.PrintMore
attribute [local go_sem] max2_int min2_int max_two min_two max_three min_three max_four min_four   -- for this text's walks alone
set_option linter.unusedVariables false
set_option linter.unusedSimpArgs false
def font_Check.l0 : Nat → List (S37) → Int → Int → Bool → List (S37) → Int → Option (Int)
 | 0, _, _, _, _, _, _ => none
 | k + 1, x6, x7, x8, x102000, x102001, x102002 => if x8 < x7 then (if 0 ≤ x8 then (if x8 < (x6.length : Int) then ((font_top.f x102000).bind fun t105 => ((font_within_int.f 0 ((rd_T37 x6 x8).f0) t105).bind fun t106 => (if t106 = true then (if x8 > 0 then (if 0 ≤ (wrap64 (x8 - 1)) then (if (wrap64 (x8 - 1)) < (x102001.length : Int) then (if ((rd_T37 x102001 (wrap64 (x8 - 1))).f0) ≥ ((rd_T37 x6 x8).f0) then (some 1) else ((font_within_int.f 0 ((rd_T37 x6 x8).f1) 10000).bind fun t108 => (if t108 = true then (if ((rd_T37 x6 x8).f2).toList = ([] : List UInt8) then (font_Check.l0 k x6 x7 (wrap64 (x8 + 1)) x102000 x102001 x102002) else ((font_means.f ((rd_T37 x6 x8).f2)).bind fun t109 => (if t109 = true then (font_Check.l0 k x6 x7 (wrap64 (x8 + 1)) x102000 x102001 x102002) else (some 1)))) else (some 1)))) else (none)) else (none)) else ((font_within_int.f 0 ((rd_T37 x6 x8).f1) 10000).bind fun t110 => (if t110 = true then (if ((rd_T37 x6 x8).f2).toList = ([] : List UInt8) then (font_Check.l0 k x6 x7 (wrap64 (x8 + 1)) x102000 x102001 x102002) else ((font_means.f ((rd_T37 x6 x8).f2)).bind fun t111 => (if t111 = true then (font_Check.l0 k x6 x7 (wrap64 (x8 + 1)) x102000 x102001 x102002) else (some 1)))) else (some 1)))) else (some 1)))) else (none)) else (none)) else ((font_within_int.f 0 x102002 10000).bind fun t102 => (if t102 = true then (if (x102001.length : Int) > 4096 then (some 1) else (some 0)) else (some 1)))
def font_Check.f (k : Nat) (a0_0 : Bool) (l0_1 : List (S37)) (a0_2 : Int) : Option (Int) := font_Check.l0 k l0_1 (l0_1.length : Int) 0 a0_0 l0_1 a0_2
theorem font_Check.mono_l : ∀ k, (∀ y0 y1 y2 y3 y4 y5, LeO (font_Check.l0 k y0 y1 y2 y3 y4 y5) (font_Check.l0 (k + 1) y0 y1 y2 y3 y4 y5))
 | 0 => fun _ _ _ _ _ _ r h => by simp [font_Check.l0] at h
 | k + 1 => by
  have ih0 := font_Check.mono_l k
  ·intro y0 y1 y2 y3 y4 y5
   unfold font_Check.l0
   repeat' first
   | (with_reducible exact ih0 _ _ _ _ _ _)
   | (with_reducible exact LeO.refl _)
   | (with_reducible exact LeO.none _)
   | (with_reducible refine LeO.ite ?_ ?_)
   | (with_reducible refine LeO.bind ?_ (fun _ => ?_))
   | exact ih0 _ _ _ _ _ _
   | exact LeO.none _
   | refine LeO.ite ?_ ?_
   | refine LeO.bind ?_ (fun _ => ?_)
theorem font_Check.mono : ∀ a0 a1 a2 k, LeO (font_Check.f k a0 a1 a2) (font_Check.f (k + 1) a0 a1 a2) := by
 intro a0 a1 a2 k
 have ih0 := font_Check.mono_l k
 unfold font_Check.f
 repeat' first
   | (with_reducible exact ih0 _ _ _ _ _ _)
   | (with_reducible exact LeO.refl _)
   | (with_reducible exact LeO.none _)
   | (with_reducible refine LeO.ite ?_ ?_)
   | (with_reducible refine LeO.bind ?_ (fun _ => ?_))
   | exact ih0 _ _ _ _ _ _
   | exact LeO.none _
   | refine LeO.ite ?_ ?_
   | refine LeO.bind ?_ (fun _ => ?_)
def font_Check.T4 : Bool × List (List Nat × List Nat) := (true, [([], []), ([0], [0]), ([], []), ([2], [2]), ([3], [3]), ([1, 4, 4], [1, 4]), ([5], [5]), ([6, 5], [6]), ([7], [7]), ([8, 7], [7, 8]), ([9, 7, 7], [7, 9]), ([10], [10]), ([11, 10], [10, 11]), ([10], [10]), ([13, 10], [10, 13]), ([12, 14, 10], [10, 12, 14]), ([15, 10], [10, 15]), ([16, 10], [10, 16]), ([10], [10]), ([18, 10], [10, 18]), ([17, 19, 10], [10, 17, 19]), ([10, 20, 7], [7, 10, 20]), ([7, 21], [7, 21]), ([22, 10], [22]), ([23], [23]), ([24, 23], [23, 24]), ([25, 23, 23], [23, 25]), ([26, 23], [23, 26]), ([23, 27], [23, 27]), ([28, 26], [28]), ([29], [29]), ([30, 29], [29, 30]), ([31, 29], [29, 31]), ([32, 29, 29], [29, 32]), ([33], [33]), ([34, 33], [33, 34]), ([35, 33, 33], [33, 35]), ([36, 33], [33, 36]), ([33, 37, 29], [29, 33, 37]), ([29, 38], [29, 38])])
def font_Check.B4 : List Nat := [0, 1, 0, 4, 12, 31, 63, 127, 255, 511, 1023, 2047, 4095, 2047, 10239, 32767, 65535, 131071, 2047, 264191, 1048575, 2097151, 4194303, 8388607, 16777215, 33554431, 67108863, 134217727, 268435455, 536870911, 1073741823, 2147483647, 4294967295, 8589934591, 17179869183, 34359738367, 68719476735, 137438953471, 274877906943, 549755813887]
theorem font_Check.tab4 : rtab .any (opsOf Try.f16 4) = font_Check.T4 := by kernel_rfl
theorem font_Check.bits4 : waitsOk font_Check.T4.2 font_Check.B4 = true := by kernel_rfl
set_option maxHeartbeats 8000000 in
set_option maxRecDepth 100000 in
theorem font_Check.calls (k : Nat) (a0_0 : Bool) (A0_1 : Option Addr) (c0_1 : Nat) (l0_1 : List (S37)) (a0_2 : Int) (r : Int) (w : World) (hr0_1 : Kd.C k37 w A0_1 l0_1.length l0_1) (hc0_1 : l0_1.length ≤ c0_1) (h : font_Check.f k a0_0 l0_1 a0_2 = some r) :
  Calls Try.prog 16 #[.agg #[.bool a0_0, .slice A0_1 l0_1.length c0_1, .int .i64 a0_2]] w fun e w' => e = .returned (.int .i64 r) ∧ Below w.heap.size w w' := by
 have hu24 := Try.underlying24
 have hu37 := Try.underlying37
 have HR0_1 := Aside0.mk hr0_1
 have HC0_1 := Aside0.mk hc0_1
 clear hr0_1 hc0_1
 have HB := Aside0.mk (Below.refl w.heap.size w)
 have H : (font_Check.l0 k l0_1 (l0_1.length : Int) 0 a0_0 l0_1 a0_2) = some r := h
 clear h
 have H' := Aside0.mk H
 clear H
 go_enter Try.func16, Try.ntmps16
 go_wp2_with (first | ((with_reducible refine gate_dst (N := 1) rfl ?_); (try (refine gate_guard (by rfl) ?_; dsimp only)); refine box_event ?hg (N := 1) ?hd (cs := #[.bool a0_0, .slice A0_1 l0_1.length c0_1, .int .i64 a0_2]) (t := 24) ?hr ?_; (case hd => rfl); (case hg => rfl); (case hr => first | (go_simp; done) | (go_simp; rfl)); intro gb101 hg w2 hbox hb; have n0_ := Aside0.mk (below_step (by repeat (first | (with_reducible first | exact HB.out | apply below_alloc | apply pw_below_drewN | apply below_drew1) | exact HB.out)) hb); have n1_ := Aside0.mk (hbox); have n2_ := Aside0.mk ((by rw [hg]; exact (below_size (by repeat (first | (with_reducible first | exact HB.out | apply below_alloc | apply pw_below_drewN | apply below_drew1) | exact HB.out))) : w.heap.size ≤ gb101)); have n3_ := Aside0.mk ((by rw [hg]; exact (below_size (by repeat (first | (with_reducible first | exact HB.out | apply below_alloc | apply pw_below_drewN | apply below_drew1) | exact HB.out))) : w.heap.size ≤ gb101)); clear HB; have HB := n0_; have BK101 := n1_; have GW101 := n2_; have GE101 := n3_; clear n0_ n1_ n2_ n3_; clear hb hbox hg; have hcz3_0 : w2.cell? ⟨gb101, 0, none⟩ = some (.bool a0_0) := (blk_cell BK101.out 0).trans rfl; have hcz3_1 : w2.cell? ⟨gb101, 1, none⟩ = some (.slice A0_1 l0_1.length c0_1) := (blk_cell BK101.out 1).trans rfl; have hcz3_2 : w2.cell? ⟨gb101, 2, none⟩ = some (.int .i64 a0_2) := (blk_cell BK101.out 2).trans rfl; have hfz3_0 := blk_frozen BK101.out 0; have hfz3_1 := blk_frozen BK101.out 1; have hfz3_2 := blk_frozen BK101.out 2))
 go_loopg [8] k (fun kq v8 w' => ∃ (x8_1 : Int), v8 = .int .i64 x8_1 ∧ Aside0 (font_Check.l0 kq l0_1 (l0_1.length : Int) x8_1 a0_0 l0_1 a0_2 = some r) ∧ Aside0 (kq ≤ k) ∧ Aside0 (w'.heap[gb101]? = some (.cells #[.bool a0_0, (.slice A0_1 l0_1.length c0_1), .int .i64 a0_2] 24 (0, 0))) ∧ Aside0 (Below w.heap.size w w'))
 case atStart => exact ⟨(0), (by first | rfl | (simp; done) | (simp [*]; done)), H', ⟨Nat.le_refl _⟩, ⟨by (with_reducible repeat (first | refine blk_drewN ?_ _ | refine blk_drew ?_ | refine blk_alloc ?_ _)); exact BK101.out⟩, ⟨by repeat (first | (with_reducible first | exact HB.out | apply below_alloc | apply pw_below_drewN | apply below_drew1 | refine below_set ?_ GE101.out) | exact HB.out)⟩⟩
 case round =>
  clear H'
  try clear c1
  try clear p2
  try clear hcz3_0
  try clear hcz3_1
  try clear hcz3_2
  try clear hfz3_0
  try clear hfz3_1
  try clear hfz3_2
  obtain ⟨x8_1, rfl, HA, HK1, BK101, HB⟩ := hrel
  cases gk with
  | zero => exact absurd HA.out (by simp [font_Check.l0])
  | succ k1 =>
   have H := HA.out
   clear HA
   simp only [font_Check.l0] at H
   by_cases c4 : x8_1 < (l0_1.length : Int)
   ·rw [if_pos c4] at H
    have c4b0 : decide (x8_1 < (l0_1.length : Int)) = true := decide_eq_true c4
    clear c4
    by_cases c5 : 0 ≤ x8_1
    ·rw [if_pos c5] at H
     have c5b0 : decide (0 ≤ x8_1) = true := decide_eq_true c5
     clear c5
     by_cases c6 : x8_1 < (l0_1.length : Int)
     ·rw [if_pos c6] at H
      have c6b0 : decide (x8_1 < (l0_1.length : Int)) = true := decide_eq_true c6
      clear c6
      replace H := Option.bind_eq_some_iff.mp H
      obtain ⟨t105, A70, H⟩ := H
      replace H : ((font_within_int.f 0 ((rd_T37 l0_1 x8_1).f0) t105).bind fun t106 => (if t106 = true then (if x8_1 > 0 then (if 0 ≤ (wrap64 (x8_1 - 1)) then (if (wrap64 (x8_1 - 1)) < (l0_1.length : Int) then (if ((rd_T37 l0_1 (wrap64 (x8_1 - 1))).f0) ≥ ((rd_T37 l0_1 x8_1).f0) then (some 1) else ((font_within_int.f 0 ((rd_T37 l0_1 x8_1).f1) 10000).bind fun t108 => (if t108 = true then (if ((rd_T37 l0_1 x8_1).f2).toList = ([] : List UInt8) then (font_Check.l0 k1 l0_1 (l0_1.length : Int) (wrap64 (x8_1 + 1)) a0_0 l0_1 a0_2) else ((font_means.f ((rd_T37 l0_1 x8_1).f2)).bind fun t109 => (if t109 = true then (font_Check.l0 k1 l0_1 (l0_1.length : Int) (wrap64 (x8_1 + 1)) a0_0 l0_1 a0_2) else (some 1)))) else (some 1)))) else (none)) else (none)) else ((font_within_int.f 0 ((rd_T37 l0_1 x8_1).f1) 10000).bind fun t110 => (if t110 = true then (if ((rd_T37 l0_1 x8_1).f2).toList = ([] : List UInt8) then (font_Check.l0 k1 l0_1 (l0_1.length : Int) (wrap64 (x8_1 + 1)) a0_0 l0_1 a0_2) else ((font_means.f ((rd_T37 l0_1 x8_1).f2)).bind fun t111 => (if t111 = true then (font_Check.l0 k1 l0_1 (l0_1.length : Int) (wrap64 (x8_1 + 1)) a0_0 l0_1 a0_2) else (some 1)))) else (some 1)))) else (some 1))) = some r := H
      have A7 := Aside0.mk A70
      clear A70
      replace H := Option.bind_eq_some_iff.mp H
      obtain ⟨t106, A80, H⟩ := H
      replace H : (if t106 = true then (if x8_1 > 0 then (if 0 ≤ (wrap64 (x8_1 - 1)) then (if (wrap64 (x8_1 - 1)) < (l0_1.length : Int) then (if ((rd_T37 l0_1 (wrap64 (x8_1 - 1))).f0) ≥ ((rd_T37 l0_1 x8_1).f0) then (some 1) else ((font_within_int.f 0 ((rd_T37 l0_1 x8_1).f1) 10000).bind fun t108 => (if t108 = true then (if ((rd_T37 l0_1 x8_1).f2).toList = ([] : List UInt8) then (font_Check.l0 k1 l0_1 (l0_1.length : Int) (wrap64 (x8_1 + 1)) a0_0 l0_1 a0_2) else ((font_means.f ((rd_T37 l0_1 x8_1).f2)).bind fun t109 => (if t109 = true then (font_Check.l0 k1 l0_1 (l0_1.length : Int) (wrap64 (x8_1 + 1)) a0_0 l0_1 a0_2) else (some 1)))) else (some 1)))) else (none)) else (none)) else ((font_within_int.f 0 ((rd_T37 l0_1 x8_1).f1) 10000).bind fun t110 => (if t110 = true then (if ((rd_T37 l0_1 x8_1).f2).toList = ([] : List UInt8) then (font_Check.l0 k1 l0_1 (l0_1.length : Int) (wrap64 (x8_1 + 1)) a0_0 l0_1 a0_2) else ((font_means.f ((rd_T37 l0_1 x8_1).f2)).bind fun t111 => (if t111 = true then (font_Check.l0 k1 l0_1 (l0_1.length : Int) (wrap64 (x8_1 + 1)) a0_0 l0_1 a0_2) else (some 1)))) else (some 1)))) else (some 1)) = some r := H
      have A8 := Aside0.mk A80
      clear A80
      by_cases c9 : t106 = true
      ·subst c9
       have H1 : (if x8_1 > 0 then (if 0 ≤ (wrap64 (x8_1 - 1)) then (if (wrap64 (x8_1 - 1)) < (l0_1.length : Int) then (if ((rd_T37 l0_1 (wrap64 (x8_1 - 1))).f0) ≥ ((rd_T37 l0_1 x8_1).f0) then (some 1) else ((font_within_int.f 0 ((rd_T37 l0_1 x8_1).f1) 10000).bind fun t108 => (if t108 = true then (if ((rd_T37 l0_1 x8_1).f2).toList = ([] : List UInt8) then (font_Check.l0 k1 l0_1 (l0_1.length : Int) (wrap64 (x8_1 + 1)) a0_0 l0_1 a0_2) else ((font_means.f ((rd_T37 l0_1 x8_1).f2)).bind fun t109 => (if t109 = true then (font_Check.l0 k1 l0_1 (l0_1.length : Int) (wrap64 (x8_1 + 1)) a0_0 l0_1 a0_2) else (some 1)))) else (some 1)))) else (none)) else (none)) else ((font_within_int.f 0 ((rd_T37 l0_1 x8_1).f1) 10000).bind fun t110 => (if t110 = true then (if ((rd_T37 l0_1 x8_1).f2).toList = ([] : List UInt8) then (font_Check.l0 k1 l0_1 (l0_1.length : Int) (wrap64 (x8_1 + 1)) a0_0 l0_1 a0_2) else ((font_means.f ((rd_T37 l0_1 x8_1).f2)).bind fun t111 => (if t111 = true then (font_Check.l0 k1 l0_1 (l0_1.length : Int) (wrap64 (x8_1 + 1)) a0_0 l0_1 a0_2) else (some 1)))) else (some 1)))) = some r := by rw [if_pos rfl] at H; exact H
       clear H
       have H := H1
       clear H1
       by_cases c10 : x8_1 > 0
       ·rw [if_pos c10] at H
        have c10b0 : decide (0 < x8_1) = true := decide_eq_true c10
        clear c10
        obtain ⟨ji11, hji11⟩ : ∃ j_ : Int, (wrap64 (x8_1 - 1)) = j_ := ⟨_, rfl⟩
        replace H : (if 0 ≤ (ji11) then (if (ji11) < (l0_1.length : Int) then (if ((rd_T37 l0_1 (ji11)).f0) ≥ ((rd_T37 l0_1 x8_1).f0) then (some 1) else ((font_within_int.f 0 ((rd_T37 l0_1 x8_1).f1) 10000).bind fun t108 => (if t108 = true then (if ((rd_T37 l0_1 x8_1).f2).toList = ([] : List UInt8) then (font_Check.l0 k1 l0_1 (l0_1.length : Int) (wrap64 (x8_1 + 1)) a0_0 l0_1 a0_2) else ((font_means.f ((rd_T37 l0_1 x8_1).f2)).bind fun t109 => (if t109 = true then (font_Check.l0 k1 l0_1 (l0_1.length : Int) (wrap64 (x8_1 + 1)) a0_0 l0_1 a0_2) else (some 1)))) else (some 1)))) else (none)) else (none)) = some r := by first | (rw [hji11] at H; exact H) | (simp only [hji11] at H ⊢; exact H)
        (try rw [hji11] at A7)
        (try rw [hji11] at A8)
        have hji11w : (IntKind.i64.wrap (x8_1 - 1)) = ji11 := (i64_w _).trans hji11
        by_cases c12 : 0 ≤ (ji11)
        ·rw [if_pos c12] at H
         have c12b0 : decide (0 ≤ (ji11)) = true := decide_eq_true c12
         clear c12
         by_cases c13 : (ji11) < (l0_1.length : Int)
         ·rw [if_pos c13] at H
          have c13b0 : decide ((ji11) < (l0_1.length : Int)) = true := decide_eq_true c13
          clear c13
          by_cases c14 : ((rd_T37 l0_1 (ji11)).f0) ≥ ((rd_T37 l0_1 x8_1).f0)
          ·rw [if_pos c14] at H
           have c14b0 : decide (((rd_T37 l0_1 x8_1).f0) ≤ ((rd_T37 l0_1 (ji11)).f0)) = true := decide_eq_true c14
           clear c14
           obtain rfl := Option.some.inj H
           have p103 : 0 ≤ (x8_1 : Int) := of_decide_eq_true (by first | (with_reducible assumption) | assumption)
           have q103 : x8_1 < (l0_1.length : Int) := of_decide_eq_true (by first | (with_reducible assumption) | assumption)
           obtain ⟨ad103, e103, hx103_0, hx103_1, hx103_2⟩ := at_T37 HR0_1.out x8_1 p103 q103
           cases e103
           replace hx103_0 := (HB.out.cell (World.block_lt_of_cell? w _ hx103_0)).trans hx103_0
           replace hx103_1 := (HB.out.cell (World.block_lt_of_cell? w _ hx103_1)).trans hx103_1
           replace hx103_2 := (HB.out.cell (World.block_lt_of_cell? w _ hx103_2)).trans hx103_2
           replace p103 := eq_true p103
           replace q103 := eq_true q103
           try go_wp2_with (first | ((with_reducible refine gate_dst (N := 4) rfl ?_); (try (refine gate_guard (by rfl) ?_; dsimp only)); refine box_event ?hg (N := 4) ?hd (cs := #[.int .i64 0, .int .i64 0, .string (⟨#[]⟩ : ByteArray)]) (t := 37) ?hr ?_; (case hd => rfl); (case hg => rfl); (case hr => first | (go_simp; done) | (go_simp; rfl)); intro gb104 hg w15 hbox hb; have n0_ := Aside0.mk (blk_below (g := gb101) (o := .cells #[.bool a0_0, .slice (some ad103) l0_1.length c0_1, .int .i64 a0_2] 24 (0, 0)) (by (with_reducible repeat (first | refine blk_drewN ?_ _ | refine blk_drew ?_ | refine blk_alloc ?_ _)); exact BK101.out) hb); have n1_ := Aside0.mk (below_step (by repeat (first | (with_reducible first | exact HB.out | apply below_alloc | apply pw_below_drewN | apply below_drew1 | refine below_set ?_ GE101.out) | exact HB.out)) hb); have n2_ := Aside0.mk (hbox); have n3_ := Aside0.mk ((by rw [hg]; exact (below_size (by repeat (first | (with_reducible first | exact HB.out | apply below_alloc | apply pw_below_drewN | apply below_drew1 | refine below_set ?_ GE101.out) | exact HB.out))) : w.heap.size ≤ gb104)); have n4_ := Aside0.mk ((by rw [hg]; exact (below_size (by repeat (first | (with_reducible first | exact HB.out | apply below_alloc | apply pw_below_drewN | apply below_drew1 | refine below_set ?_ GE101.out) | exact HB.out))) : w.heap.size ≤ gb104)); have n5_ := Aside0.mk ((by rw [hg]; exact Nat.ne_of_lt (blk_lt (g := gb101) (o := .cells #[.bool a0_0, .slice (some ad103) l0_1.length c0_1, .int .i64 a0_2] 24 (0, 0)) (by (with_reducible repeat (first | refine blk_drewN ?_ _ | refine blk_drew ?_ | refine blk_alloc ?_ _)); exact BK101.out)) : gb101 ≠ gb104)); have n6_ := Aside0.mk ((by rw [hg]; exact Nat.ne_of_gt (blk_lt (g := gb101) (o := .cells #[.bool a0_0, .slice (some ad103) l0_1.length c0_1, .int .i64 a0_2] 24 (0, 0)) (by (with_reducible repeat (first | refine blk_drewN ?_ _ | refine blk_drew ?_ | refine blk_alloc ?_ _)); exact BK101.out)) : gb104 ≠ gb101)); clear BK101; clear HB; have BK101 := n0_; have HB := n1_; have BK104 := n2_; have GW104 := n3_; have GE104 := n4_; have NB101_104 := n5_; have NB104_101 := n6_; clear n0_ n1_ n2_ n3_ n4_ n5_ n6_; clear hb hbox hg; have hnb16 := NB104_101.out; have hnc16 := NB101_104.out; have hcz17_0 : w15.cell? ⟨gb104, 0, none⟩ = some (.int .i64 0) := (blk_cell BK104.out 0).trans rfl; have hcz17_1 : w15.cell? ⟨gb104, 1, none⟩ = some (.int .i64 0) := (blk_cell BK104.out 1).trans rfl; have hcz17_2 : w15.cell? ⟨gb104, 2, none⟩ = some (.string (⟨#[]⟩ : ByteArray)) := (blk_cell BK104.out 2).trans rfl; have hfz17_0 := blk_frozen BK104.out 0; have hfz17_1 := blk_frozen BK104.out 1; have hfz17_2 := blk_frozen BK104.out 2))
           have n0_ : Aside0 ((((w15.setCell ⟨gb104, 0, none⟩ (.int .i64 ((rd_T37 l0_1 x8_1).f0))).setCell ⟨gb104, 1, none⟩ (.int .i64 ((rd_T37 l0_1 x8_1).f1))).setCell ⟨gb104, 2, none⟩ (.string ((rd_T37 l0_1 x8_1).f2))).heap[gb101]? = some (.cells #[.bool a0_0, .slice (some ad103) l0_1.length c0_1, .int .i64 a0_2] 24 (0, 0))) := ⟨by (with_reducible repeat (first | refine blk_drewN ?_ _ | refine blk_drew ?_ | refine blk_alloc ?_ _)); refine blk_far ?_ NB101_104.out _; (with_reducible repeat (first | refine blk_drewN ?_ _ | refine blk_drew ?_ | refine blk_alloc ?_ _)); refine blk_far ?_ NB101_104.out _; (with_reducible repeat (first | refine blk_drewN ?_ _ | refine blk_drew ?_ | refine blk_alloc ?_ _)); refine blk_far ?_ NB101_104.out _; (with_reducible repeat (first | refine blk_drewN ?_ _ | refine blk_drew ?_ | refine blk_alloc ?_ _)); exact BK101.out⟩
           have n1_ : Aside0 ((((w15.setCell ⟨gb104, 0, none⟩ (.int .i64 ((rd_T37 l0_1 x8_1).f0))).setCell ⟨gb104, 1, none⟩ (.int .i64 ((rd_T37 l0_1 x8_1).f1))).setCell ⟨gb104, 2, none⟩ (.string ((rd_T37 l0_1 x8_1).f2))).heap[gb104]? = some (.cells #[.int .i64 ((rd_T37 l0_1 x8_1).f0), .int .i64 ((rd_T37 l0_1 x8_1).f1), .string ((rd_T37 l0_1 x8_1).f2)] 37 (0, 0))) := ⟨by (with_reducible repeat (first | refine blk_drewN ?_ _ | refine blk_drew ?_ | refine blk_alloc ?_ _)); refine blk_put (cs := #[.int .i64 ((rd_T37 l0_1 x8_1).f0), .int .i64 ((rd_T37 l0_1 x8_1).f1), .string (⟨#[]⟩ : ByteArray)]) ?_ 2 _ rfl; (with_reducible repeat (first | refine blk_drewN ?_ _ | refine blk_drew ?_ | refine blk_alloc ?_ _)); refine blk_put (cs := #[.int .i64 ((rd_T37 l0_1 x8_1).f0), .int .i64 0, .string (⟨#[]⟩ : ByteArray)]) ?_ 1 _ rfl; (with_reducible repeat (first | refine blk_drewN ?_ _ | refine blk_drew ?_ | refine blk_alloc ?_ _)); refine blk_put (cs := #[.int .i64 0, .int .i64 0, .string (⟨#[]⟩ : ByteArray)]) ?_ 0 _ rfl; (with_reducible repeat (first | refine blk_drewN ?_ _ | refine blk_drew ?_ | refine blk_alloc ?_ _)); exact BK104.out⟩
           have n2_ : Aside0 (Below w.heap.size w (((w15.setCell ⟨gb104, 0, none⟩ (.int .i64 ((rd_T37 l0_1 x8_1).f0))).setCell ⟨gb104, 1, none⟩ (.int .i64 ((rd_T37 l0_1 x8_1).f1))).setCell ⟨gb104, 2, none⟩ (.string ((rd_T37 l0_1 x8_1).f2)))) := ⟨by repeat (first | (with_reducible first | exact HB.out | apply below_alloc | apply pw_below_drewN | apply below_drew1 | refine below_set ?_ GE101.out | refine below_set ?_ GE104.out) | exact HB.out)⟩
           (try clear BK101)
           (try clear BK104)
           (try clear HB)
           generalize (((w15.setCell ⟨gb104, 0, none⟩ (.int .i64 ((rd_T37 l0_1 x8_1).f0))).setCell ⟨gb104, 1, none⟩ (.int .i64 ((rd_T37 l0_1 x8_1).f1))).setCell ⟨gb104, 2, none⟩ (.string ((rd_T37 l0_1 x8_1).f2))) = w18 at n0_ n1_ n2_ ⊢
           have BK101 := n0_
           have BK104 := n1_
           have HB := n2_
           clear n0_ n1_ n2_
           have n0_ := Aside0.mk (blk_drew BK101.out)
           have n1_ := Aside0.mk (blk_drew BK104.out)
           have n2_ := Aside0.mk (below_drew1 HB.out)
           clear BK101
           clear BK104
           clear HB
           have BK101 := n0_
           have BK104 := n1_
           have HB := n2_
           clear n0_ n1_ n2_
           have p107 : 0 ≤ ((ji11) : Int) := of_decide_eq_true (by first | (with_reducible assumption) | assumption)
           have q107 : (ji11) < (l0_1.length : Int) := of_decide_eq_true (by first | (with_reducible assumption) | assumption)
           obtain ⟨ad107, e107, hx107_0, hx107_1, hx107_2⟩ := at_T37 HR0_1.out (ji11) p107 q107
           have hw107_2 := hx107_2
           have hw107_1 := hx107_1
           have hw107_0 := hx107_0
           obtain rfl : ad103 = ad107 := (by injection e107)
           replace hx107_0 := (HB.out.cell (World.block_lt_of_cell? w _ hx107_0)).trans hx107_0
           replace hx107_1 := (HB.out.cell (World.block_lt_of_cell? w _ hx107_1)).trans hx107_1
           replace hx107_2 := (HB.out.cell (World.block_lt_of_cell? w _ hx107_2)).trans hx107_2
           replace p107 := eq_true p107
           replace q107 := eq_true q107
           refine start_ (n := 40) (S := fun w' => w'.cell? ⟨gb104, 0, none⟩ = some (.int .i64 ((rd_T37 l0_1 x8_1).f0)) ∧ w'.cell? ⟨gb104, 1, none⟩ = some (.int .i64 ((rd_T37 l0_1 x8_1).f1)) ∧ w'.cell? ⟨gb104, 2, none⟩ = some (.string ((rd_T37 l0_1 x8_1).f2)) ∧ w'.cell? ⟨gb101, 0, none⟩ = some (.bool a0_0) ∧ w'.cell? ⟨gb101, 1, none⟩ = some (.slice (some ad103) l0_1.length c0_1) ∧ w'.cell? ⟨gb101, 2, none⟩ = some (.int .i64 a0_2) ∧ w'.cell? (ad103.add (((ji11)).toNat * 3)) = some (.int .i64 ((rd_T37 l0_1 (ji11)).f0)) ∧ w'.cell? ⟨(ad103.add (((ji11)).toNat * 3)).block, (ad103.add (((ji11)).toNat * 3)).off + 1, none⟩ = some (.int .i64 ((rd_T37 l0_1 (ji11)).f1)) ∧ w'.cell? ⟨(ad103.add (((ji11)).toNat * 3)).block, (ad103.add (((ji11)).toNat * 3)).off + 2, none⟩ = some (.string ((rd_T37 l0_1 (ji11)).f2))) (ds := []) (tk_ 40 0) (by kernel_rfl) rfl (by kernel_rfl) ⟨(blk_cell BK104.out 0).trans rfl, (blk_cell BK104.out 1).trans rfl, (blk_cell BK104.out 2).trans rfl, (blk_cell BK101.out 0).trans rfl, (blk_cell BK101.out 1).trans rfl, (blk_cell BK101.out 2).trans rfl, ((HB.out.cell (World.block_lt_of_cell? w _ hw107_0)).trans hw107_0), ((HB.out.cell (World.block_lt_of_cell? w _ hw107_1)).trans hw107_1), ((HB.out.cell (World.block_lt_of_cell? w _ hw107_2)).trans hw107_2)⟩ (fun hHeld => ?_); refine with_tabW font_Check.tab4 font_Check.bits4 (fun HT_ HW_ => ?_)
           generalize w18.drew = w19 at BK101 BK104 HB hx107_0 hx107_1 hx107_2 hHeld ⊢
           refine pu_ 0 13 (tk_ 40 1) HT_.out rfl rfl (by kernel_rfl) (fun _ _ _ h => h) (by rfl) (fun w' => by go_simp; with_reducible rfl) (by simp only [s0_, s1_, s2_, s3_, s4_, s5_]; rfl) ?_
           refine pu_ 2 15 (tk_ 40 5) HT_.out rfl rfl (by kernel_rfl) (fun _ _ _ h => h) (by rfl) (fun w' => by go_simp; with_reducible rfl) (by simp only [s0_, s1_, s2_, s3_, s4_, s5_]; rfl) ?_
           refine ta_ 1 14 (tk_ 40 7) HT_.out HW_.out rfl rfl (by kernel_rfl) (fun _ _ _ h => h) (by rfl) (by rintro w' ⟨s0, s1, s2, s3, s4, s5, s6, s7, s8⟩; go_simp; with_reducible rfl) hHeld (by simp only [s0_, s1_, s2_, s3_, s4_, s5_]; rfl) ?_
           refine ta_ 3 16 (tk_ 40 15) HT_.out HW_.out rfl rfl (by kernel_rfl) (fun _ _ _ h => h) (by rfl) (by rintro w' ⟨s0, s1, s2, s3, s4, s5, s6, s7, s8⟩; go_simp; with_reducible rfl) hHeld (by simp only [s0_, s1_, s2_, s3_, s4_, s5_]; rfl) ?_
           refine one_ (i := 4) (N := some 17) (tk_ 40 31) rfl rfl (one_of HT_.out (by kernel_rfl)) (by decide) (fun K hK => ?_)
           refine goes_ Try.func32 (by kernel_rfl) rfl #[.bool a0_0] (by rfl) rfl rfl (by (try simp only [List.map_toArray, List.map_cons, List.map_nil]); first | done | rfl | (simp only [List.length_drop, List.length_take]; rfl)) ?_
           with_reducible refine (font_top.calls a0_0 t105 _ A7.out).mono ?_
           rintro e w' ⟨rfl, ⟨nd, rfl⟩⟩
           refine ⟨_, rfl, ?_⟩
           refine hK.out _ _ ⟨(blk_cell BK104.out 0).trans rfl, (blk_cell BK104.out 1).trans rfl, (blk_cell BK104.out 2).trans rfl, (blk_cell BK101.out 0).trans rfl, (blk_cell BK101.out 1).trans rfl, (blk_cell BK101.out 2).trans rfl, ((HB.out.cell (World.block_lt_of_cell? w _ hw107_0)).trans hw107_0), ((HB.out.cell (World.block_lt_of_cell? w _ hw107_1)).trans hw107_1), ((HB.out.cell (World.block_lt_of_cell? w _ hw107_2)).trans hw107_2)⟩ (fun hHeld => ?_)
           clear hK K
           refine norm_ (by show Act.put _ (some 17) _ = _; simp only [s0_, s1_, s2_, s3_, s4_, s5_]; rfl) ?_
           refine one_ (i := 5) (N := some 18) (tk_ 40 63) rfl rfl (one_of HT_.out (by kernel_rfl)) (by decide) (fun K hK => ?_)
           refine goes_ Try.func31 (by kernel_rfl) rfl #[.int .i64 0, .int .i64 ((rd_T37 l0_1 x8_1).f0), .int .i64 t105] (by rfl) rfl rfl (by (try simp only [List.map_toArray, List.map_cons, List.map_nil]); first | done | rfl | (simp only [List.length_drop, List.length_take]; rfl)) ?_
           with_reducible refine (font_within_int.calls 0 ((rd_T37 l0_1 x8_1).f0) t105 true _ A8.out).mono ?_
           rintro e w' ⟨rfl, ⟨nd, rfl⟩⟩
           refine ⟨_, rfl, ?_⟩
           refine hK.out _ _ ⟨(blk_cell BK104.out 0).trans rfl, (blk_cell BK104.out 1).trans rfl, (blk_cell BK104.out 2).trans rfl, (blk_cell BK101.out 0).trans rfl, (blk_cell BK101.out 1).trans rfl, (blk_cell BK101.out 2).trans rfl, ((HB.out.cell (World.block_lt_of_cell? w _ hw107_0)).trans hw107_0), ((HB.out.cell (World.block_lt_of_cell? w _ hw107_1)).trans hw107_1), ((HB.out.cell (World.block_lt_of_cell? w _ hw107_2)).trans hw107_2)⟩ (fun hHeld => ?_)
           clear hK K
           refine norm_ (by show Act.put _ (some 18) _ = _; simp only [s0_, s1_, s2_, s3_, s4_, s5_]; rfl) ?_
           refine pu_ 6 19 (tk_ 40 127) HT_.out rfl rfl (by kernel_rfl) (fun _ _ _ h => h) (by rfl) (fun w' => by go_simp; with_reducible rfl) (by simp only [s0_, s1_, s2_, s3_, s4_, s5_]; rfl) ?_
           refine pu_ 7 20 (tk_ 40 255) HT_.out rfl rfl (by kernel_rfl) (fun _ _ _ h => h) (by rfl) (fun w' => by go_simp; with_reducible rfl) (by simp only [s0_, s1_, s2_, s3_, s4_, s5_]; rfl) ?_
           refine pu_ 8 21 (tk_ 40 511) HT_.out rfl rfl (by kernel_rfl) (fun _ _ _ h => h) (by rfl) (fun w' => by go_simp; with_reducible rfl) (by simp only [s0_, s1_, s2_, s3_, s4_, s5_]; rfl) ?_
           refine pu_ 9 22 (tk_ 40 1023) HT_.out rfl rfl (by kernel_rfl) (fun _ _ _ h => h) (by rfl) (fun w' => by go_simp; with_reducible rfl) (by simp only [s0_, s1_, s2_, s3_, s4_, s5_]; rfl) ?_
           refine pu_ 10 23 (tk_ 40 2047) HT_.out rfl rfl (by kernel_rfl) (fun _ _ _ h => h) (by rfl) (fun w' => by go_simp; with_reducible rfl) (by simp only [s0_, s1_, s2_, s3_, s4_, s5_]; rfl) ?_
           refine pu_ 11 24 (tk_ 40 4095) HT_.out rfl rfl (by kernel_rfl) (fun _ _ _ h => h) (by rfl) (fun w' => by go_simp; with_reducible rfl) (by simp only [s0_, s1_, s2_, s3_, s4_, s5_]; rfl) ?_
           refine pu_ 13 26 (tk_ 40 12287) HT_.out rfl rfl (by kernel_rfl) (fun _ _ _ h => h) (by rfl) (fun w' => by go_simp; with_reducible rfl) (by simp only [s0_, s1_, s2_, s3_, s4_, s5_]; rfl) ?_
           refine pu_ 14 27 (tk_ 40 28671) HT_.out rfl rfl (by kernel_rfl) (fun _ _ _ h => h) (by rfl) (fun w' => by go_simp; with_reducible rfl) (by simp only [s0_, s1_, s2_, s3_, s4_, s5_]; rfl) ?_
           refine pu_ 18 31 (tk_ 40 290815) HT_.out rfl rfl (by kernel_rfl) (fun _ _ _ h => h) (by rfl) (fun w' => by go_simp; with_reducible rfl) (by simp only [s0_, s1_, s2_, s3_, s4_, s5_]; rfl) ?_
           refine ta_ 12 25 (tk_ 40 294911) HT_.out HW_.out rfl rfl (by kernel_rfl) (fun _ _ _ h => h) (by rfl) (by rintro w' ⟨s0, s1, s2, s3, s4, s5, s6, s7, s8⟩; go_simp; with_reducible rfl) hHeld (by simp only [s0_, s1_, s2_, s3_, s4_, s5_]; rfl) ?_
           refine pu_ 15 28 (tk_ 40 327679) HT_.out rfl rfl (by kernel_rfl) (fun _ _ _ h => h) (by rfl) (fun w' => by go_simp; with_reducible rfl) (by simp only [s0_, s1_, s2_, s3_, s4_, s5_]; rfl) ?_
           refine pu_ 16 29 (tk_ 40 393215) HT_.out rfl rfl (by kernel_rfl) (fun _ _ _ h => h) (by rfl) (fun w' => by go_simp; with_reducible rfl) (by simp only [s0_, s1_, s2_, s3_, s4_, s5_]; rfl) ?_
           refine ta_ 17 30 (tk_ 40 524287) HT_.out HW_.out rfl rfl (by kernel_rfl) (fun _ _ _ h => h) (by rfl) (by rintro w' ⟨s0, s1, s2, s3, s4, s5, s6, s7, s8⟩; go_simp; with_reducible rfl) hHeld (by simp only [s0_, s1_, s2_, s3_, s4_, s5_]; rfl) ?_
           refine ta_ 19 32 (tk_ 40 1048575) HT_.out HW_.out rfl rfl (by kernel_rfl) (fun _ _ _ h => h) (by rfl) (by rintro w' ⟨s0, s1, s2, s3, s4, s5, s6, s7, s8⟩; go_simp; with_reducible rfl) hHeld (by simp only [s0_, s1_, s2_, s3_, s4_, s5_]; rfl) ?_
           refine pu_ 20 33 (tk_ 40 2097151) HT_.out rfl rfl (by kernel_rfl) (fun _ _ _ h => h) (by rfl) (fun w' => by go_simp; with_reducible rfl) (by simp only [s0_, s1_, s2_, s3_, s4_, s5_]; rfl) ?_
           refine pu_ 21 34 (tk_ 40 4194303) HT_.out rfl rfl (by kernel_rfl) (fun _ _ _ h => h) (by rfl) (fun w' => by go_simp; with_reducible rfl) (by simp only [s0_, s1_, s2_, s3_, s4_, s5_]; rfl) ?_
           refine pu_ 22 35 (tk_ 40 8388607) HT_.out rfl rfl (by kernel_rfl) (fun _ _ _ h => h) (by rfl) (fun w' => by go_simp; with_reducible rfl) (by simp only [s0_, s1_, s2_, s3_, s4_, s5_]; rfl) ?_
           refine pu_ 23 36 (tk_ 40 16777215) HT_.out rfl rfl (by kernel_rfl) (fun _ _ _ h => h) (by rfl) (fun w' => by go_simp; with_reducible rfl) (by simp only [s0_, s1_, s2_, s3_, s4_, s5_]; rfl) ?_
           refine sk_ 24 37 (tk_ 40 33554431) HT_.out rfl rfl (by kernel_rfl) (fun _ _ _ h => h) (by rfl) (by simp only [s0_, s1_, s2_, s3_, s4_, s5_]; rfl) ?_
           refine sk_ 25 38 (tk_ 40 67108863) HT_.out rfl rfl (by kernel_rfl) (fun _ _ _ h => h) (by rfl) (by simp only [s0_, s1_, s2_, s3_, s4_, s5_]; rfl) ?_
           refine sk_ 26 39 (tk_ 40 134217727) HT_.out rfl rfl (by kernel_rfl) (fun _ _ _ h => h) (by rfl) (by simp only [s0_, s1_, s2_, s3_, s4_, s5_]; rfl) ?_
           refine sk_ 27 40 (tk_ 40 268435455) HT_.out rfl rfl (by kernel_rfl) (fun _ _ _ h => h) (by rfl) (by simp only [s0_, s1_, s2_, s3_, s4_, s5_]; rfl) ?_
           refine pu_ 28 41 (tk_ 40 536870911) HT_.out rfl rfl (by kernel_rfl) (fun _ _ _ h => h) (by rfl) (fun w' => by go_simp; with_reducible rfl) (by simp only [s0_, s1_, s2_, s3_, s4_, s5_]; rfl) ?_
           refine pu_ 29 42 (tk_ 40 1073741823) HT_.out rfl rfl (by kernel_rfl) (fun _ _ _ h => h) (by rfl) (fun w' => by go_simp; with_reducible rfl) (by simp only [s0_, s1_, s2_, s3_, s4_, s5_]; rfl) ?_
           refine sk_ 30 43 (tk_ 40 2147483647) HT_.out rfl rfl (by kernel_rfl) (fun _ _ _ h => h) (by rfl) (by simp only [s0_, s1_, s2_, s3_, s4_, s5_]; rfl) ?_
           refine sk_ 31 44 (tk_ 40 4294967295) HT_.out rfl rfl (by kernel_rfl) (fun _ _ _ h => h) (by rfl) (by simp only [s0_, s1_, s2_, s3_, s4_, s5_]; rfl) ?_
           refine sk_ 32 45 (tk_ 40 8589934591) HT_.out rfl rfl (by kernel_rfl) (fun _ _ _ h => h) (by rfl) (by simp only [s0_, s1_, s2_, s3_, s4_, s5_]; rfl) ?_
           refine sk_ 33 46 (tk_ 40 17179869183) HT_.out rfl rfl (by kernel_rfl) (fun _ _ _ h => h) (by rfl) (by simp only [s0_, s1_, s2_, s3_, s4_, s5_]; rfl) ?_
           refine sk_ 34 47 (tk_ 40 34359738367) HT_.out rfl rfl (by kernel_rfl) (fun _ _ _ h => h) (by rfl) (by simp only [s0_, s1_, s2_, s3_, s4_, s5_]; rfl) ?_
           refine sk_ 35 48 (tk_ 40 68719476735) HT_.out rfl rfl (by kernel_rfl) (fun _ _ _ h => h) (by rfl) (by simp only [s0_, s1_, s2_, s3_, s4_, s5_]; rfl) ?_
           refine sk_ 36 49 (tk_ 40 137438953471) HT_.out rfl rfl (by kernel_rfl) (fun _ _ _ h => h) (by rfl) (by simp only [s0_, s1_, s2_, s3_, s4_, s5_]; rfl) ?_
           refine sk_ 37 50 (tk_ 40 274877906943) HT_.out rfl rfl (by kernel_rfl) (fun _ _ _ h => h) (by rfl) (by simp only [s0_, s1_, s2_, s3_, s4_, s5_]; rfl) ?_
           refine sk_ 38 51 (tk_ 40 549755813887) HT_.out rfl rfl (by kernel_rfl) (fun _ _ _ h => h) (by rfl) (by simp only [s0_, s1_, s2_, s3_, s4_, s5_]; rfl) ?_
           refine pu_ 39 52 (tk_ 40 1099511627775) HT_.out rfl rfl (by kernel_rfl) (fun _ _ _ h => h) (by rfl) (fun w' => by go_simp; with_reducible rfl) (by simp only [s0_, s1_, s2_, s3_, s4_, s5_]; rfl) ?_
           refine done_ (done_of HT_.out (by kernel_rfl)) ?_
           try go_wp2
           go_ret
           exact ⟨by first | rfl | (simp [errW_none, errW_some] <;> rfl) | (simp only [← hji11]; first | rfl | (simp [errW_none, errW_some] <;> rfl)) | (simp [*, errW_none, errW_some] <;> rfl), by repeat (first | (with_reducible first | exact HB.out | apply below_alloc | apply pw_below_drewN | apply below_drew1 | refine below_set ?_ GE101.out | refine below_set ?_ GE104.out) | exact HB.out)⟩
          ·rw [if_neg c14] at H
           have c14b0 : decide (((rd_T37 l0_1 x8_1).f0) ≤ ((rd_T37 l0_1 (ji11)).f0)) = false := decide_eq_false c14
           clear c14
           replace H := Option.bind_eq_some_iff.mp H
           obtain ⟨t108, A200, H⟩ := H
           replace H : (if t108 = true then (if ((rd_T37 l0_1 x8_1).f2).toList = ([] : List UInt8) then (font_Check.l0 k1 l0_1 (l0_1.length : Int) (wrap64 (x8_1 + 1)) a0_0 l0_1 a0_2) else ((font_means.f ((rd_T37 l0_1 x8_1).f2)).bind fun t109 => (if t109 = true then (font_Check.l0 k1 l0_1 (l0_1.length : Int) (wrap64 (x8_1 + 1)) a0_0 l0_1 a0_2) else (some 1)))) else (some 1)) = some r := H
           have A20 := Aside0.mk A200
           clear A200
           by_cases c21 : t108 = true
           ·subst c21
            have H1 : (if ((rd_T37 l0_1 x8_1).f2).toList = ([] : List UInt8) then (font_Check.l0 k1 l0_1 (l0_1.length : Int) (wrap64 (x8_1 + 1)) a0_0 l0_1 a0_2) else ((font_means.f ((rd_T37 l0_1 x8_1).f2)).bind fun t109 => (if t109 = true then (font_Check.l0 k1 l0_1 (l0_1.length : Int) (wrap64 (x8_1 + 1)) a0_0 l0_1 a0_2) else (some 1)))) = some r := by rw [if_pos rfl] at H; exact H
            clear H
            have H := H1
            clear H1
            by_cases c22 : ((rd_T37 l0_1 x8_1).f2).toList = ([] : List UInt8)
            ·rw [if_pos c22] at H
             have c22b0 : (((rd_T37 l0_1 x8_1).f2).toList == ([] : List UInt8)) = true := beq_iff_eq.mpr c22
             have c22b1 : (((rd_T37 l0_1 x8_1).f2).toList != ([] : List UInt8)) = false := bne_eq_false_iff_eq.mpr c22
             clear c22
             have H' := Aside0.mk H
             clear H
             have p103 : 0 ≤ (x8_1 : Int) := of_decide_eq_true (by first | (with_reducible assumption) | assumption)
             have q103 : x8_1 < (l0_1.length : Int) := of_decide_eq_true (by first | (with_reducible assumption) | assumption)
             obtain ⟨ad103, e103, hx103_0, hx103_1, hx103_2⟩ := at_T37 HR0_1.out x8_1 p103 q103
             cases e103
             replace hx103_0 := (HB.out.cell (World.block_lt_of_cell? w _ hx103_0)).trans hx103_0
             replace hx103_1 := (HB.out.cell (World.block_lt_of_cell? w _ hx103_1)).trans hx103_1
             replace hx103_2 := (HB.out.cell (World.block_lt_of_cell? w _ hx103_2)).trans hx103_2
             replace p103 := eq_true p103
             replace q103 := eq_true q103
             try go_wp2_with (first | ((with_reducible refine gate_dst (N := 4) rfl ?_); (try (refine gate_guard (by rfl) ?_; dsimp only)); refine box_event ?hg (N := 4) ?hd (cs := #[.int .i64 0, .int .i64 0, .string (⟨#[]⟩ : ByteArray)]) (t := 37) ?hr ?_; (case hd => rfl); (case hg => rfl); (case hr => first | (go_simp; done) | (go_simp; rfl)); intro gb104 hg w23 hbox hb; have n0_ := Aside0.mk (blk_below (g := gb101) (o := .cells #[.bool a0_0, .slice (some ad103) l0_1.length c0_1, .int .i64 a0_2] 24 (0, 0)) (by (with_reducible repeat (first | refine blk_drewN ?_ _ | refine blk_drew ?_ | refine blk_alloc ?_ _)); exact BK101.out) hb); have n1_ := Aside0.mk (below_step (by repeat (first | (with_reducible first | exact HB.out | apply below_alloc | apply pw_below_drewN | apply below_drew1 | refine below_set ?_ GE101.out) | exact HB.out)) hb); have n2_ := Aside0.mk (hbox); have n3_ := Aside0.mk ((by rw [hg]; exact (below_size (by repeat (first | (with_reducible first | exact HB.out | apply below_alloc | apply pw_below_drewN | apply below_drew1 | refine below_set ?_ GE101.out) | exact HB.out))) : w.heap.size ≤ gb104)); have n4_ := Aside0.mk ((by rw [hg]; exact (below_size (by repeat (first | (with_reducible first | exact HB.out | apply below_alloc | apply pw_below_drewN | apply below_drew1 | refine below_set ?_ GE101.out) | exact HB.out))) : w.heap.size ≤ gb104)); have n5_ := Aside0.mk ((by rw [hg]; exact Nat.ne_of_lt (blk_lt (g := gb101) (o := .cells #[.bool a0_0, .slice (some ad103) l0_1.length c0_1, .int .i64 a0_2] 24 (0, 0)) (by (with_reducible repeat (first | refine blk_drewN ?_ _ | refine blk_drew ?_ | refine blk_alloc ?_ _)); exact BK101.out)) : gb101 ≠ gb104)); have n6_ := Aside0.mk ((by rw [hg]; exact Nat.ne_of_gt (blk_lt (g := gb101) (o := .cells #[.bool a0_0, .slice (some ad103) l0_1.length c0_1, .int .i64 a0_2] 24 (0, 0)) (by (with_reducible repeat (first | refine blk_drewN ?_ _ | refine blk_drew ?_ | refine blk_alloc ?_ _)); exact BK101.out)) : gb104 ≠ gb101)); clear BK101; clear HB; have BK101 := n0_; have HB := n1_; have BK104 := n2_; have GW104 := n3_; have GE104 := n4_; have NB101_104 := n5_; have NB104_101 := n6_; clear n0_ n1_ n2_ n3_ n4_ n5_ n6_; clear hb hbox hg; have hnb24 := NB104_101.out; have hnc24 := NB101_104.out; have hcz25_0 : w23.cell? ⟨gb104, 0, none⟩ = some (.int .i64 0) := (blk_cell BK104.out 0).trans rfl; have hcz25_1 : w23.cell? ⟨gb104, 1, none⟩ = some (.int .i64 0) := (blk_cell BK104.out 1).trans rfl; have hcz25_2 : w23.cell? ⟨gb104, 2, none⟩ = some (.string (⟨#[]⟩ : ByteArray)) := (blk_cell BK104.out 2).trans rfl; have hfz25_0 := blk_frozen BK104.out 0; have hfz25_1 := blk_frozen BK104.out 1; have hfz25_2 := blk_frozen BK104.out 2))
             have n0_ : Aside0 ((((w23.setCell ⟨gb104, 0, none⟩ (.int .i64 ((rd_T37 l0_1 x8_1).f0))).setCell ⟨gb104, 1, none⟩ (.int .i64 ((rd_T37 l0_1 x8_1).f1))).setCell ⟨gb104, 2, none⟩ (.string ((rd_T37 l0_1 x8_1).f2))).heap[gb101]? = some (.cells #[.bool a0_0, .slice (some ad103) l0_1.length c0_1, .int .i64 a0_2] 24 (0, 0))) := ⟨by (with_reducible repeat (first | refine blk_drewN ?_ _ | refine blk_drew ?_ | refine blk_alloc ?_ _)); refine blk_far ?_ NB101_104.out _; (with_reducible repeat (first | refine blk_drewN ?_ _ | refine blk_drew ?_ | refine blk_alloc ?_ _)); refine blk_far ?_ NB101_104.out _; (with_reducible repeat (first | refine blk_drewN ?_ _ | refine blk_drew ?_ | refine blk_alloc ?_ _)); refine blk_far ?_ NB101_104.out _; (with_reducible repeat (first | refine blk_drewN ?_ _ | refine blk_drew ?_ | refine blk_alloc ?_ _)); exact BK101.out⟩
             have n1_ : Aside0 ((((w23.setCell ⟨gb104, 0, none⟩ (.int .i64 ((rd_T37 l0_1 x8_1).f0))).setCell ⟨gb104, 1, none⟩ (.int .i64 ((rd_T37 l0_1 x8_1).f1))).setCell ⟨gb104, 2, none⟩ (.string ((rd_T37 l0_1 x8_1).f2))).heap[gb104]? = some (.cells #[.int .i64 ((rd_T37 l0_1 x8_1).f0), .int .i64 ((rd_T37 l0_1 x8_1).f1), .string ((rd_T37 l0_1 x8_1).f2)] 37 (0, 0))) := ⟨by (with_reducible repeat (first | refine blk_drewN ?_ _ | refine blk_drew ?_ | refine blk_alloc ?_ _)); refine blk_put (cs := #[.int .i64 ((rd_T37 l0_1 x8_1).f0), .int .i64 ((rd_T37 l0_1 x8_1).f1), .string (⟨#[]⟩ : ByteArray)]) ?_ 2 _ rfl; (with_reducible repeat (first | refine blk_drewN ?_ _ | refine blk_drew ?_ | refine blk_alloc ?_ _)); refine blk_put (cs := #[.int .i64 ((rd_T37 l0_1 x8_1).f0), .int .i64 0, .string (⟨#[]⟩ : ByteArray)]) ?_ 1 _ rfl; (with_reducible repeat (first | refine blk_drewN ?_ _ | refine blk_drew ?_ | refine blk_alloc ?_ _)); refine blk_put (cs := #[.int .i64 0, .int .i64 0, .string (⟨#[]⟩ : ByteArray)]) ?_ 0 _ rfl; (with_reducible repeat (first | refine blk_drewN ?_ _ | refine blk_drew ?_ | refine blk_alloc ?_ _)); exact BK104.out⟩
             have n2_ : Aside0 (Below w.heap.size w (((w23.setCell ⟨gb104, 0, none⟩ (.int .i64 ((rd_T37 l0_1 x8_1).f0))).setCell ⟨gb104, 1, none⟩ (.int .i64 ((rd_T37 l0_1 x8_1).f1))).setCell ⟨gb104, 2, none⟩ (.string ((rd_T37 l0_1 x8_1).f2)))) := ⟨by repeat (first | (with_reducible first | exact HB.out | apply below_alloc | apply pw_below_drewN | apply below_drew1 | refine below_set ?_ GE101.out | refine below_set ?_ GE104.out) | exact HB.out)⟩
             (try clear BK101)
             (try clear BK104)
             (try clear HB)
             generalize (((w23.setCell ⟨gb104, 0, none⟩ (.int .i64 ((rd_T37 l0_1 x8_1).f0))).setCell ⟨gb104, 1, none⟩ (.int .i64 ((rd_T37 l0_1 x8_1).f1))).setCell ⟨gb104, 2, none⟩ (.string ((rd_T37 l0_1 x8_1).f2))) = w26 at n0_ n1_ n2_ ⊢
             have BK101 := n0_
             have BK104 := n1_
             have HB := n2_
             clear n0_ n1_ n2_
             have n0_ := Aside0.mk (blk_drew BK101.out)
             have n1_ := Aside0.mk (blk_drew BK104.out)
             have n2_ := Aside0.mk (below_drew1 HB.out)
             clear BK101
             clear BK104
             clear HB
             have BK101 := n0_
             have BK104 := n1_
             have HB := n2_
             clear n0_ n1_ n2_
             have p107 : 0 ≤ ((ji11) : Int) := of_decide_eq_true (by first | (with_reducible assumption) | assumption)
             have q107 : (ji11) < (l0_1.length : Int) := of_decide_eq_true (by first | (with_reducible assumption) | assumption)
             obtain ⟨ad107, e107, hx107_0, hx107_1, hx107_2⟩ := at_T37 HR0_1.out (ji11) p107 q107
             have hw107_2 := hx107_2
             have hw107_1 := hx107_1
             have hw107_0 := hx107_0
             obtain rfl : ad103 = ad107 := (by injection e107)
             replace hx107_0 := (HB.out.cell (World.block_lt_of_cell? w _ hx107_0)).trans hx107_0
             replace hx107_1 := (HB.out.cell (World.block_lt_of_cell? w _ hx107_1)).trans hx107_1
             replace hx107_2 := (HB.out.cell (World.block_lt_of_cell? w _ hx107_2)).trans hx107_2
             replace p107 := eq_true p107
             replace q107 := eq_true q107
             refine start_ (n := 40) (S := fun w' => w'.cell? ⟨gb104, 0, none⟩ = some (.int .i64 ((rd_T37 l0_1 x8_1).f0)) ∧ w'.cell? ⟨gb104, 1, none⟩ = some (.int .i64 ((rd_T37 l0_1 x8_1).f1)) ∧ w'.cell? ⟨gb104, 2, none⟩ = some (.string ((rd_T37 l0_1 x8_1).f2)) ∧ w'.cell? ⟨gb101, 0, none⟩ = some (.bool a0_0) ∧ w'.cell? ⟨gb101, 1, none⟩ = some (.slice (some ad103) l0_1.length c0_1) ∧ w'.cell? ⟨gb101, 2, none⟩ = some (.int .i64 a0_2) ∧ w'.cell? (ad103.add (((ji11)).toNat * 3)) = some (.int .i64 ((rd_T37 l0_1 (ji11)).f0)) ∧ w'.cell? ⟨(ad103.add (((ji11)).toNat * 3)).block, (ad103.add (((ji11)).toNat * 3)).off + 1, none⟩ = some (.int .i64 ((rd_T37 l0_1 (ji11)).f1)) ∧ w'.cell? ⟨(ad103.add (((ji11)).toNat * 3)).block, (ad103.add (((ji11)).toNat * 3)).off + 2, none⟩ = some (.string ((rd_T37 l0_1 (ji11)).f2))) (ds := []) (tk_ 40 0) (by kernel_rfl) rfl (by kernel_rfl) ⟨(blk_cell BK104.out 0).trans rfl, (blk_cell BK104.out 1).trans rfl, (blk_cell BK104.out 2).trans rfl, (blk_cell BK101.out 0).trans rfl, (blk_cell BK101.out 1).trans rfl, (blk_cell BK101.out 2).trans rfl, ((HB.out.cell (World.block_lt_of_cell? w _ hw107_0)).trans hw107_0), ((HB.out.cell (World.block_lt_of_cell? w _ hw107_1)).trans hw107_1), ((HB.out.cell (World.block_lt_of_cell? w _ hw107_2)).trans hw107_2)⟩ (fun hHeld => ?_); refine with_tabW font_Check.tab4 font_Check.bits4 (fun HT_ HW_ => ?_)
             generalize w26.drew = w27 at BK101 BK104 HB hx107_0 hx107_1 hx107_2 hHeld ⊢
             refine pu_ 0 13 (tk_ 40 1) HT_.out rfl rfl (by kernel_rfl) (fun _ _ _ h => h) (by rfl) (fun w' => by go_simp; with_reducible rfl) (by simp only [s0_, s1_, s2_, s3_, s4_, s5_]; rfl) ?_
             refine pu_ 2 15 (tk_ 40 5) HT_.out rfl rfl (by kernel_rfl) (fun _ _ _ h => h) (by rfl) (fun w' => by go_simp; with_reducible rfl) (by simp only [s0_, s1_, s2_, s3_, s4_, s5_]; rfl) ?_
             refine ta_ 1 14 (tk_ 40 7) HT_.out HW_.out rfl rfl (by kernel_rfl) (fun _ _ _ h => h) (by rfl) (by rintro w' ⟨s0, s1, s2, s3, s4, s5, s6, s7, s8⟩; go_simp; with_reducible rfl) hHeld (by simp only [s0_, s1_, s2_, s3_, s4_, s5_]; rfl) ?_
             refine ta_ 3 16 (tk_ 40 15) HT_.out HW_.out rfl rfl (by kernel_rfl) (fun _ _ _ h => h) (by rfl) (by rintro w' ⟨s0, s1, s2, s3, s4, s5, s6, s7, s8⟩; go_simp; with_reducible rfl) hHeld (by simp only [s0_, s1_, s2_, s3_, s4_, s5_]; rfl) ?_
             refine one_ (i := 4) (N := some 17) (tk_ 40 31) rfl rfl (one_of HT_.out (by kernel_rfl)) (by decide) (fun K hK => ?_)
             refine goes_ Try.func32 (by kernel_rfl) rfl #[.bool a0_0] (by rfl) rfl rfl (by (try simp only [List.map_toArray, List.map_cons, List.map_nil]); first | done | rfl | (simp only [List.length_drop, List.length_take]; rfl)) ?_
             with_reducible refine (font_top.calls a0_0 t105 _ A7.out).mono ?_
             rintro e w' ⟨rfl, ⟨nd, rfl⟩⟩
             refine ⟨_, rfl, ?_⟩
             refine hK.out _ _ ⟨(blk_cell BK104.out 0).trans rfl, (blk_cell BK104.out 1).trans rfl, (blk_cell BK104.out 2).trans rfl, (blk_cell BK101.out 0).trans rfl, (blk_cell BK101.out 1).trans rfl, (blk_cell BK101.out 2).trans rfl, ((HB.out.cell (World.block_lt_of_cell? w _ hw107_0)).trans hw107_0), ((HB.out.cell (World.block_lt_of_cell? w _ hw107_1)).trans hw107_1), ((HB.out.cell (World.block_lt_of_cell? w _ hw107_2)).trans hw107_2)⟩ (fun hHeld => ?_)
             clear hK K
             refine norm_ (by show Act.put _ (some 17) _ = _; simp only [s0_, s1_, s2_, s3_, s4_, s5_]; rfl) ?_
             refine one_ (i := 5) (N := some 18) (tk_ 40 63) rfl rfl (one_of HT_.out (by kernel_rfl)) (by decide) (fun K hK => ?_)
             refine goes_ Try.func31 (by kernel_rfl) rfl #[.int .i64 0, .int .i64 ((rd_T37 l0_1 x8_1).f0), .int .i64 t105] (by rfl) rfl rfl (by (try simp only [List.map_toArray, List.map_cons, List.map_nil]); first | done | rfl | (simp only [List.length_drop, List.length_take]; rfl)) ?_
             with_reducible refine (font_within_int.calls 0 ((rd_T37 l0_1 x8_1).f0) t105 true _ A8.out).mono ?_
             rintro e w' ⟨rfl, ⟨nd, rfl⟩⟩
             refine ⟨_, rfl, ?_⟩
             refine hK.out _ _ ⟨(blk_cell BK104.out 0).trans rfl, (blk_cell BK104.out 1).trans rfl, (blk_cell BK104.out 2).trans rfl, (blk_cell BK101.out 0).trans rfl, (blk_cell BK101.out 1).trans rfl, (blk_cell BK101.out 2).trans rfl, ((HB.out.cell (World.block_lt_of_cell? w _ hw107_0)).trans hw107_0), ((HB.out.cell (World.block_lt_of_cell? w _ hw107_1)).trans hw107_1), ((HB.out.cell (World.block_lt_of_cell? w _ hw107_2)).trans hw107_2)⟩ (fun hHeld => ?_)
             clear hK K
             refine norm_ (by show Act.put _ (some 18) _ = _; simp only [s0_, s1_, s2_, s3_, s4_, s5_]; rfl) ?_
             refine pu_ 6 19 (tk_ 40 127) HT_.out rfl rfl (by kernel_rfl) (fun _ _ _ h => h) (by rfl) (fun w' => by go_simp; with_reducible rfl) (by simp only [s0_, s1_, s2_, s3_, s4_, s5_]; rfl) ?_
             refine pu_ 7 20 (tk_ 40 255) HT_.out rfl rfl (by kernel_rfl) (fun _ _ _ h => h) (by rfl) (fun w' => by go_simp; with_reducible rfl) (by simp only [s0_, s1_, s2_, s3_, s4_, s5_]; rfl) ?_
             refine pu_ 8 21 (tk_ 40 511) HT_.out rfl rfl (by kernel_rfl) (fun _ _ _ h => h) (by rfl) (fun w' => by go_simp; with_reducible rfl) (by simp only [s0_, s1_, s2_, s3_, s4_, s5_]; rfl) ?_
             refine pu_ 9 22 (tk_ 40 1023) HT_.out rfl rfl (by kernel_rfl) (fun _ _ _ h => h) (by rfl) (fun w' => by go_simp; with_reducible rfl) (by simp only [s0_, s1_, s2_, s3_, s4_, s5_]; rfl) ?_
             refine pu_ 10 23 (tk_ 40 2047) HT_.out rfl rfl (by kernel_rfl) (fun _ _ _ h => h) (by rfl) (fun w' => by go_simp; with_reducible rfl) (by simp only [s0_, s1_, s2_, s3_, s4_, s5_]; rfl) ?_
             refine pu_ 11 24 (tk_ 40 4095) HT_.out rfl rfl (by kernel_rfl) (fun _ _ _ h => h) (by rfl) (fun w' => by go_simp; with_reducible rfl) (by simp only [s0_, s1_, s2_, s3_, s4_, s5_]; rfl) ?_
             refine pu_ 13 26 (tk_ 40 12287) HT_.out rfl rfl (by kernel_rfl) (fun _ _ _ h => h) (by rfl) (fun w' => by go_simp; with_reducible rfl) (by simp only [s0_, s1_, s2_, s3_, s4_, s5_]; rfl) ?_
             refine pu_ 14 27 (tk_ 40 28671) HT_.out rfl rfl (by kernel_rfl) (fun _ _ _ h => h) (by rfl) (fun w' => by go_simp; with_reducible rfl) (by simp only [s0_, s1_, s2_, s3_, s4_, s5_]; rfl) ?_
             refine pu_ 18 31 (tk_ 40 290815) HT_.out rfl rfl (by kernel_rfl) (fun _ _ _ h => h) (by rfl) (fun w' => by go_simp; with_reducible rfl) (by simp only [s0_, s1_, s2_, s3_, s4_, s5_]; rfl) ?_
             refine ta_ 12 25 (tk_ 40 294911) HT_.out HW_.out rfl rfl (by kernel_rfl) (fun _ _ _ h => h) (by rfl) (by rintro w' ⟨s0, s1, s2, s3, s4, s5, s6, s7, s8⟩; go_simp; with_reducible rfl) hHeld (by simp only [s0_, s1_, s2_, s3_, s4_, s5_]; rfl) ?_
             refine pu_ 15 28 (tk_ 40 327679) HT_.out rfl rfl (by kernel_rfl) (fun _ _ _ h => h) (by rfl) (fun w' => by go_simp; with_reducible rfl) (by simp only [s0_, s1_, s2_, s3_, s4_, s5_]; rfl) ?_
             refine pu_ 16 29 (tk_ 40 393215) HT_.out rfl rfl (by kernel_rfl) (fun _ _ _ h => h) (by rfl) (fun w' => by go_simp; with_reducible rfl) (by simp only [s0_, s1_, s2_, s3_, s4_, s5_]; rfl) ?_
             refine ta_ 17 30 (tk_ 40 524287) HT_.out HW_.out rfl rfl (by kernel_rfl) (fun _ _ _ h => h) (by rfl) (by rintro w' ⟨s0, s1, s2, s3, s4, s5, s6, s7, s8⟩; go_simp; with_reducible rfl) hHeld (by simp only [s0_, s1_, s2_, s3_, s4_, s5_]; rfl) ?_
             refine ta_ 19 32 (tk_ 40 1048575) HT_.out HW_.out rfl rfl (by kernel_rfl) (fun _ _ _ h => h) (by rfl) (by rintro w' ⟨s0, s1, s2, s3, s4, s5, s6, s7, s8⟩; go_simp; with_reducible rfl) hHeld (by simp only [s0_, s1_, s2_, s3_, s4_, s5_]; rfl) ?_
             refine pu_ 20 33 (tk_ 40 2097151) HT_.out rfl rfl (by kernel_rfl) (fun _ _ _ h => h) (by rfl) (fun w' => by go_simp; with_reducible rfl) (by simp only [s0_, s1_, s2_, s3_, s4_, s5_]; rfl) ?_
             refine pu_ 21 34 (tk_ 40 4194303) HT_.out rfl rfl (by kernel_rfl) (fun _ _ _ h => h) (by rfl) (fun w' => by go_simp; with_reducible rfl) (by simp only [s0_, s1_, s2_, s3_, s4_, s5_]; rfl) ?_
             refine pu_ 22 35 (tk_ 40 8388607) HT_.out rfl rfl (by kernel_rfl) (fun _ _ _ h => h) (by rfl) (fun w' => by go_simp; with_reducible rfl) (by simp only [s0_, s1_, s2_, s3_, s4_, s5_]; rfl) ?_
             refine pu_ 23 36 (tk_ 40 16777215) HT_.out rfl rfl (by kernel_rfl) (fun _ _ _ h => h) (by rfl) (fun w' => by go_simp; with_reducible rfl) (by simp only [s0_, s1_, s2_, s3_, s4_, s5_]; rfl) ?_
             refine pu_ 24 37 (tk_ 40 33554431) HT_.out rfl rfl (by kernel_rfl) (fun _ _ _ h => h) (by rfl) (fun w' => by go_simp; with_reducible rfl) (by simp only [s0_, s1_, s2_, s3_, s4_, s5_]; rfl) ?_
             refine ta_ 25 38 (tk_ 40 67108863) HT_.out HW_.out rfl rfl (by kernel_rfl) (fun _ _ _ h => h) (by rfl) (by rintro w' ⟨s0, s1, s2, s3, s4, s5, s6, s7, s8⟩; go_simp; with_reducible rfl) hHeld (by simp only [s0_, s1_, s2_, s3_, s4_, s5_]; rfl) ?_
             refine one_ (i := 26) (N := some 39) (tk_ 40 134217727) rfl rfl (one_of HT_.out (by kernel_rfl)) (by decide) (fun K hK => ?_)
             refine goes_ Try.func31 (by kernel_rfl) rfl #[.int .i64 0, .int .i64 ((rd_T37 l0_1 x8_1).f1), .int .i64 10000] (by rfl) rfl rfl (by (try simp only [List.map_toArray, List.map_cons, List.map_nil]); first | done | rfl | (simp only [List.length_drop, List.length_take]; rfl)) ?_
             with_reducible refine (font_within_int.calls 0 ((rd_T37 l0_1 x8_1).f1) 10000 true _ A20.out).mono ?_
             rintro e w' ⟨rfl, ⟨nd, rfl⟩⟩
             refine ⟨_, rfl, ?_⟩
             refine hK.out _ _ ⟨(blk_cell BK104.out 0).trans rfl, (blk_cell BK104.out 1).trans rfl, (blk_cell BK104.out 2).trans rfl, (blk_cell BK101.out 0).trans rfl, (blk_cell BK101.out 1).trans rfl, (blk_cell BK101.out 2).trans rfl, ((HB.out.cell (World.block_lt_of_cell? w _ hw107_0)).trans hw107_0), ((HB.out.cell (World.block_lt_of_cell? w _ hw107_1)).trans hw107_1), ((HB.out.cell (World.block_lt_of_cell? w _ hw107_2)).trans hw107_2)⟩ (fun hHeld => ?_)
             clear hK K
             refine norm_ (by show Act.put _ (some 39) _ = _; simp only [s0_, s1_, s2_, s3_, s4_, s5_]; rfl) ?_
             refine pu_ 27 40 (tk_ 40 268435455) HT_.out rfl rfl (by kernel_rfl) (fun _ _ _ h => h) (by rfl) (fun w' => by go_simp; with_reducible rfl) (by simp only [s0_, s1_, s2_, s3_, s4_, s5_]; rfl) ?_
             refine pu_ 28 41 (tk_ 40 536870911) HT_.out rfl rfl (by kernel_rfl) (fun _ _ _ h => h) (by rfl) (fun w' => by go_simp; with_reducible rfl) (by simp only [s0_, s1_, s2_, s3_, s4_, s5_]; rfl) ?_
             refine pu_ 29 42 (tk_ 40 1073741823) HT_.out rfl rfl (by kernel_rfl) (fun _ _ _ h => h) (by rfl) (fun w' => by go_simp; with_reducible rfl) (by simp only [s0_, s1_, s2_, s3_, s4_, s5_]; rfl) ?_
             refine pu_ 30 43 (tk_ 40 2147483647) HT_.out rfl rfl (by kernel_rfl) (fun _ _ _ h => h) (by rfl) (fun w' => by go_simp; with_reducible rfl) (by simp only [s0_, s1_, s2_, s3_, s4_, s5_]; rfl) ?_
             refine ta_ 31 44 (tk_ 40 4294967295) HT_.out HW_.out rfl rfl (by kernel_rfl) (fun _ _ _ h => h) (by rfl) (by rintro w' ⟨s0, s1, s2, s3, s4, s5, s6, s7, s8⟩; go_simp; with_reducible rfl) hHeld (by simp only [s0_, s1_, s2_, s3_, s4_, s5_]; rfl) ?_
             refine pu_ 32 45 (tk_ 40 8589934591) HT_.out rfl rfl (by kernel_rfl) (fun _ _ _ h => h) (by rfl) (fun w' => by go_simp; with_reducible rfl) (by simp only [s0_, s1_, s2_, s3_, s4_, s5_]; rfl) ?_
             refine pu_ 33 46 (tk_ 40 17179869183) HT_.out rfl rfl (by kernel_rfl) (fun _ _ _ h => h) (by rfl) (fun w' => by go_simp; with_reducible rfl) (by simp only [s0_, s1_, s2_, s3_, s4_, s5_]; rfl) ?_
             refine sk_ 34 47 (tk_ 40 34359738367) HT_.out rfl rfl (by kernel_rfl) (fun _ _ _ h => h) (by rfl) (by simp only [s0_, s1_, s2_, s3_, s4_, s5_]; rfl) ?_
             refine sk_ 35 48 (tk_ 40 68719476735) HT_.out rfl rfl (by kernel_rfl) (fun _ _ _ h => h) (by rfl) (by simp only [s0_, s1_, s2_, s3_, s4_, s5_]; rfl) ?_
             refine sk_ 36 49 (tk_ 40 137438953471) HT_.out rfl rfl (by kernel_rfl) (fun _ _ _ h => h) (by rfl) (by simp only [s0_, s1_, s2_, s3_, s4_, s5_]; rfl) ?_
             refine sk_ 37 50 (tk_ 40 274877906943) HT_.out rfl rfl (by kernel_rfl) (fun _ _ _ h => h) (by rfl) (by simp only [s0_, s1_, s2_, s3_, s4_, s5_]; rfl) ?_
             refine pu_ 38 51 (tk_ 40 549755813887) HT_.out rfl rfl (by kernel_rfl) (fun _ _ _ h => h) (by rfl) (fun w' => by go_simp; with_reducible rfl) (by simp only [s0_, s1_, s2_, s3_, s4_, s5_]; rfl) ?_
             refine pu_ 39 52 (tk_ 40 1099511627775) HT_.out rfl rfl (by kernel_rfl) (fun _ _ _ h => h) (by rfl) (fun w' => by go_simp; with_reducible rfl) (by simp only [s0_, s1_, s2_, s3_, s4_, s5_]; rfl) ?_
             refine done_ (done_of HT_.out (by kernel_rfl)) ?_
             try go_wp2
             go_roundg k1
             case measure => have := HK1.out; omega
             case rel => exact ⟨(wrap64 (x8_1 + 1)), (by first | rfl | (simp; done) | (simp [*]; done)), H', ⟨by have := HK1.out; omega⟩, ⟨by (with_reducible repeat (first | refine blk_drewN ?_ _ | refine blk_drew ?_ | refine blk_alloc ?_ _)); exact BK101.out⟩, ⟨by repeat (first | (with_reducible first | exact HB.out | apply below_alloc | apply pw_below_drewN | apply below_drew1 | refine below_set ?_ GE101.out | refine below_set ?_ GE104.out) | exact HB.out)⟩⟩
            ·rw [if_neg c22] at H
             have c22b0 : (((rd_T37 l0_1 x8_1).f2).toList == ([] : List UInt8)) = false := beq_eq_false_iff_ne.mpr c22
             have c22b1 : (((rd_T37 l0_1 x8_1).f2).toList != ([] : List UInt8)) = true := bne_iff_ne.mpr c22
             replace H := Option.bind_eq_some_iff.mp H
             obtain ⟨t109, A280, H⟩ := H
             replace H : (if t109 = true then (font_Check.l0 k1 l0_1 (l0_1.length : Int) (wrap64 (x8_1 + 1)) a0_0 l0_1 a0_2) else (some 1)) = some r := H
             have A28 := Aside0.mk A280
             clear A280
             by_cases c29 : t109 = true
             ·subst c29
              have H1 : (font_Check.l0 k1 l0_1 (l0_1.length : Int) (wrap64 (x8_1 + 1)) a0_0 l0_1 a0_2) = some r := by rw [if_pos rfl] at H; exact H
              clear H
              have H := H1
              clear H1
              have H' := Aside0.mk H
              clear H
              have p103 : 0 ≤ (x8_1 : Int) := of_decide_eq_true (by first | (with_reducible assumption) | assumption)
              have q103 : x8_1 < (l0_1.length : Int) := of_decide_eq_true (by first | (with_reducible assumption) | assumption)
              obtain ⟨ad103, e103, hx103_0, hx103_1, hx103_2⟩ := at_T37 HR0_1.out x8_1 p103 q103
              cases e103
              replace hx103_0 := (HB.out.cell (World.block_lt_of_cell? w _ hx103_0)).trans hx103_0
              replace hx103_1 := (HB.out.cell (World.block_lt_of_cell? w _ hx103_1)).trans hx103_1
              replace hx103_2 := (HB.out.cell (World.block_lt_of_cell? w _ hx103_2)).trans hx103_2
              replace p103 := eq_true p103
              replace q103 := eq_true q103
              try go_wp2_with (first | ((with_reducible refine gate_dst (N := 4) rfl ?_); (try (refine gate_guard (by rfl) ?_; dsimp only)); refine box_event ?hg (N := 4) ?hd (cs := #[.int .i64 0, .int .i64 0, .string (⟨#[]⟩ : ByteArray)]) (t := 37) ?hr ?_; (case hd => rfl); (case hg => rfl); (case hr => first | (go_simp; done) | (go_simp; rfl)); intro gb104 hg w30 hbox hb; have n0_ := Aside0.mk (blk_below (g := gb101) (o := .cells #[.bool a0_0, .slice (some ad103) l0_1.length c0_1, .int .i64 a0_2] 24 (0, 0)) (by (with_reducible repeat (first | refine blk_drewN ?_ _ | refine blk_drew ?_ | refine blk_alloc ?_ _)); exact BK101.out) hb); have n1_ := Aside0.mk (below_step (by repeat (first | (with_reducible first | exact HB.out | apply below_alloc | apply pw_below_drewN | apply below_drew1 | refine below_set ?_ GE101.out) | exact HB.out)) hb); have n2_ := Aside0.mk (hbox); have n3_ := Aside0.mk ((by rw [hg]; exact (below_size (by repeat (first | (with_reducible first | exact HB.out | apply below_alloc | apply pw_below_drewN | apply below_drew1 | refine below_set ?_ GE101.out) | exact HB.out))) : w.heap.size ≤ gb104)); have n4_ := Aside0.mk ((by rw [hg]; exact (below_size (by repeat (first | (with_reducible first | exact HB.out | apply below_alloc | apply pw_below_drewN | apply below_drew1 | refine below_set ?_ GE101.out) | exact HB.out))) : w.heap.size ≤ gb104)); have n5_ := Aside0.mk ((by rw [hg]; exact Nat.ne_of_lt (blk_lt (g := gb101) (o := .cells #[.bool a0_0, .slice (some ad103) l0_1.length c0_1, .int .i64 a0_2] 24 (0, 0)) (by (with_reducible repeat (first | refine blk_drewN ?_ _ | refine blk_drew ?_ | refine blk_alloc ?_ _)); exact BK101.out)) : gb101 ≠ gb104)); have n6_ := Aside0.mk ((by rw [hg]; exact Nat.ne_of_gt (blk_lt (g := gb101) (o := .cells #[.bool a0_0, .slice (some ad103) l0_1.length c0_1, .int .i64 a0_2] 24 (0, 0)) (by (with_reducible repeat (first | refine blk_drewN ?_ _ | refine blk_drew ?_ | refine blk_alloc ?_ _)); exact BK101.out)) : gb104 ≠ gb101)); clear BK101; clear HB; have BK101 := n0_; have HB := n1_; have BK104 := n2_; have GW104 := n3_; have GE104 := n4_; have NB101_104 := n5_; have NB104_101 := n6_; clear n0_ n1_ n2_ n3_ n4_ n5_ n6_; clear hb hbox hg; have hnb31 := NB104_101.out; have hnc31 := NB101_104.out; have hcz32_0 : w30.cell? ⟨gb104, 0, none⟩ = some (.int .i64 0) := (blk_cell BK104.out 0).trans rfl; have hcz32_1 : w30.cell? ⟨gb104, 1, none⟩ = some (.int .i64 0) := (blk_cell BK104.out 1).trans rfl; have hcz32_2 : w30.cell? ⟨gb104, 2, none⟩ = some (.string (⟨#[]⟩ : ByteArray)) := (blk_cell BK104.out 2).trans rfl; have hfz32_0 := blk_frozen BK104.out 0; have hfz32_1 := blk_frozen BK104.out 1; have hfz32_2 := blk_frozen BK104.out 2))
              have n0_ : Aside0 ((((w30.setCell ⟨gb104, 0, none⟩ (.int .i64 ((rd_T37 l0_1 x8_1).f0))).setCell ⟨gb104, 1, none⟩ (.int .i64 ((rd_T37 l0_1 x8_1).f1))).setCell ⟨gb104, 2, none⟩ (.string ((rd_T37 l0_1 x8_1).f2))).heap[gb101]? = some (.cells #[.bool a0_0, .slice (some ad103) l0_1.length c0_1, .int .i64 a0_2] 24 (0, 0))) := ⟨by (with_reducible repeat (first | refine blk_drewN ?_ _ | refine blk_drew ?_ | refine blk_alloc ?_ _)); refine blk_far ?_ NB101_104.out _; (with_reducible repeat (first | refine blk_drewN ?_ _ | refine blk_drew ?_ | refine blk_alloc ?_ _)); refine blk_far ?_ NB101_104.out _; (with_reducible repeat (first | refine blk_drewN ?_ _ | refine blk_drew ?_ | refine blk_alloc ?_ _)); refine blk_far ?_ NB101_104.out _; (with_reducible repeat (first | refine blk_drewN ?_ _ | refine blk_drew ?_ | refine blk_alloc ?_ _)); exact BK101.out⟩
              have n1_ : Aside0 ((((w30.setCell ⟨gb104, 0, none⟩ (.int .i64 ((rd_T37 l0_1 x8_1).f0))).setCell ⟨gb104, 1, none⟩ (.int .i64 ((rd_T37 l0_1 x8_1).f1))).setCell ⟨gb104, 2, none⟩ (.string ((rd_T37 l0_1 x8_1).f2))).heap[gb104]? = some (.cells #[.int .i64 ((rd_T37 l0_1 x8_1).f0), .int .i64 ((rd_T37 l0_1 x8_1).f1), .string ((rd_T37 l0_1 x8_1).f2)] 37 (0, 0))) := ⟨by (with_reducible repeat (first | refine blk_drewN ?_ _ | refine blk_drew ?_ | refine blk_alloc ?_ _)); refine blk_put (cs := #[.int .i64 ((rd_T37 l0_1 x8_1).f0), .int .i64 ((rd_T37 l0_1 x8_1).f1), .string (⟨#[]⟩ : ByteArray)]) ?_ 2 _ rfl; (with_reducible repeat (first | refine blk_drewN ?_ _ | refine blk_drew ?_ | refine blk_alloc ?_ _)); refine blk_put (cs := #[.int .i64 ((rd_T37 l0_1 x8_1).f0), .int .i64 0, .string (⟨#[]⟩ : ByteArray)]) ?_ 1 _ rfl; (with_reducible repeat (first | refine blk_drewN ?_ _ | refine blk_drew ?_ | refine blk_alloc ?_ _)); refine blk_put (cs := #[.int .i64 0, .int .i64 0, .string (⟨#[]⟩ : ByteArray)]) ?_ 0 _ rfl; (with_reducible repeat (first | refine blk_drewN ?_ _ | refine blk_drew ?_ | refine blk_alloc ?_ _)); exact BK104.out⟩
              have n2_ : Aside0 (Below w.heap.size w (((w30.setCell ⟨gb104, 0, none⟩ (.int .i64 ((rd_T37 l0_1 x8_1).f0))).setCell ⟨gb104, 1, none⟩ (.int .i64 ((rd_T37 l0_1 x8_1).f1))).setCell ⟨gb104, 2, none⟩ (.string ((rd_T37 l0_1 x8_1).f2)))) := ⟨by repeat (first | (with_reducible first | exact HB.out | apply below_alloc | apply pw_below_drewN | apply below_drew1 | refine below_set ?_ GE101.out | refine below_set ?_ GE104.out) | exact HB.out)⟩
              (try clear BK101)
              (try clear BK104)
              (try clear HB)
              generalize (((w30.setCell ⟨gb104, 0, none⟩ (.int .i64 ((rd_T37 l0_1 x8_1).f0))).setCell ⟨gb104, 1, none⟩ (.int .i64 ((rd_T37 l0_1 x8_1).f1))).setCell ⟨gb104, 2, none⟩ (.string ((rd_T37 l0_1 x8_1).f2))) = w33 at n0_ n1_ n2_ ⊢
              have BK101 := n0_
              have BK104 := n1_
              have HB := n2_
              clear n0_ n1_ n2_
              have n0_ := Aside0.mk (blk_drew BK101.out)
              have n1_ := Aside0.mk (blk_drew BK104.out)
              have n2_ := Aside0.mk (below_drew1 HB.out)
              clear BK101
              clear BK104
              clear HB
              have BK101 := n0_
              have BK104 := n1_
              have HB := n2_
              clear n0_ n1_ n2_
              have p107 : 0 ≤ ((ji11) : Int) := of_decide_eq_true (by first | (with_reducible assumption) | assumption)
              have q107 : (ji11) < (l0_1.length : Int) := of_decide_eq_true (by first | (with_reducible assumption) | assumption)
              obtain ⟨ad107, e107, hx107_0, hx107_1, hx107_2⟩ := at_T37 HR0_1.out (ji11) p107 q107
              have hw107_2 := hx107_2
              have hw107_1 := hx107_1
              have hw107_0 := hx107_0
              obtain rfl : ad103 = ad107 := (by injection e107)
              replace hx107_0 := (HB.out.cell (World.block_lt_of_cell? w _ hx107_0)).trans hx107_0
              replace hx107_1 := (HB.out.cell (World.block_lt_of_cell? w _ hx107_1)).trans hx107_1
              replace hx107_2 := (HB.out.cell (World.block_lt_of_cell? w _ hx107_2)).trans hx107_2
              replace p107 := eq_true p107
              replace q107 := eq_true q107
              refine start_ (n := 40) (S := fun w' => w'.cell? ⟨gb104, 0, none⟩ = some (.int .i64 ((rd_T37 l0_1 x8_1).f0)) ∧ w'.cell? ⟨gb104, 1, none⟩ = some (.int .i64 ((rd_T37 l0_1 x8_1).f1)) ∧ w'.cell? ⟨gb104, 2, none⟩ = some (.string ((rd_T37 l0_1 x8_1).f2)) ∧ w'.cell? ⟨gb101, 0, none⟩ = some (.bool a0_0) ∧ w'.cell? ⟨gb101, 1, none⟩ = some (.slice (some ad103) l0_1.length c0_1) ∧ w'.cell? ⟨gb101, 2, none⟩ = some (.int .i64 a0_2) ∧ w'.cell? (ad103.add (((ji11)).toNat * 3)) = some (.int .i64 ((rd_T37 l0_1 (ji11)).f0)) ∧ w'.cell? ⟨(ad103.add (((ji11)).toNat * 3)).block, (ad103.add (((ji11)).toNat * 3)).off + 1, none⟩ = some (.int .i64 ((rd_T37 l0_1 (ji11)).f1)) ∧ w'.cell? ⟨(ad103.add (((ji11)).toNat * 3)).block, (ad103.add (((ji11)).toNat * 3)).off + 2, none⟩ = some (.string ((rd_T37 l0_1 (ji11)).f2))) (ds := []) (tk_ 40 0) (by kernel_rfl) rfl (by kernel_rfl) ⟨(blk_cell BK104.out 0).trans rfl, (blk_cell BK104.out 1).trans rfl, (blk_cell BK104.out 2).trans rfl, (blk_cell BK101.out 0).trans rfl, (blk_cell BK101.out 1).trans rfl, (blk_cell BK101.out 2).trans rfl, ((HB.out.cell (World.block_lt_of_cell? w _ hw107_0)).trans hw107_0), ((HB.out.cell (World.block_lt_of_cell? w _ hw107_1)).trans hw107_1), ((HB.out.cell (World.block_lt_of_cell? w _ hw107_2)).trans hw107_2)⟩ (fun hHeld => ?_); refine with_tabW font_Check.tab4 font_Check.bits4 (fun HT_ HW_ => ?_)
              generalize w33.drew = w34 at BK101 BK104 HB hx107_0 hx107_1 hx107_2 hHeld ⊢
              refine pu_ 0 13 (tk_ 40 1) HT_.out rfl rfl (by kernel_rfl) (fun _ _ _ h => h) (by rfl) (fun w' => by go_simp; with_reducible rfl) (by simp only [s0_, s1_, s2_, s3_, s4_, s5_]; rfl) ?_
              refine pu_ 2 15 (tk_ 40 5) HT_.out rfl rfl (by kernel_rfl) (fun _ _ _ h => h) (by rfl) (fun w' => by go_simp; with_reducible rfl) (by simp only [s0_, s1_, s2_, s3_, s4_, s5_]; rfl) ?_
              refine ta_ 1 14 (tk_ 40 7) HT_.out HW_.out rfl rfl (by kernel_rfl) (fun _ _ _ h => h) (by rfl) (by rintro w' ⟨s0, s1, s2, s3, s4, s5, s6, s7, s8⟩; go_simp; with_reducible rfl) hHeld (by simp only [s0_, s1_, s2_, s3_, s4_, s5_]; rfl) ?_
              refine ta_ 3 16 (tk_ 40 15) HT_.out HW_.out rfl rfl (by kernel_rfl) (fun _ _ _ h => h) (by rfl) (by rintro w' ⟨s0, s1, s2, s3, s4, s5, s6, s7, s8⟩; go_simp; with_reducible rfl) hHeld (by simp only [s0_, s1_, s2_, s3_, s4_, s5_]; rfl) ?_
              refine one_ (i := 4) (N := some 17) (tk_ 40 31) rfl rfl (one_of HT_.out (by kernel_rfl)) (by decide) (fun K hK => ?_)
              refine goes_ Try.func32 (by kernel_rfl) rfl #[.bool a0_0] (by rfl) rfl rfl (by (try simp only [List.map_toArray, List.map_cons, List.map_nil]); first | done | rfl | (simp only [List.length_drop, List.length_take]; rfl)) ?_
              with_reducible refine (font_top.calls a0_0 t105 _ A7.out).mono ?_
              rintro e w' ⟨rfl, ⟨nd, rfl⟩⟩
              refine ⟨_, rfl, ?_⟩
              refine hK.out _ _ ⟨(blk_cell BK104.out 0).trans rfl, (blk_cell BK104.out 1).trans rfl, (blk_cell BK104.out 2).trans rfl, (blk_cell BK101.out 0).trans rfl, (blk_cell BK101.out 1).trans rfl, (blk_cell BK101.out 2).trans rfl, ((HB.out.cell (World.block_lt_of_cell? w _ hw107_0)).trans hw107_0), ((HB.out.cell (World.block_lt_of_cell? w _ hw107_1)).trans hw107_1), ((HB.out.cell (World.block_lt_of_cell? w _ hw107_2)).trans hw107_2)⟩ (fun hHeld => ?_)
              clear hK K
              refine norm_ (by show Act.put _ (some 17) _ = _; simp only [s0_, s1_, s2_, s3_, s4_, s5_]; rfl) ?_
              refine one_ (i := 5) (N := some 18) (tk_ 40 63) rfl rfl (one_of HT_.out (by kernel_rfl)) (by decide) (fun K hK => ?_)
              refine goes_ Try.func31 (by kernel_rfl) rfl #[.int .i64 0, .int .i64 ((rd_T37 l0_1 x8_1).f0), .int .i64 t105] (by rfl) rfl rfl (by (try simp only [List.map_toArray, List.map_cons, List.map_nil]); first | done | rfl | (simp only [List.length_drop, List.length_take]; rfl)) ?_
              with_reducible refine (font_within_int.calls 0 ((rd_T37 l0_1 x8_1).f0) t105 true _ A8.out).mono ?_
              rintro e w' ⟨rfl, ⟨nd, rfl⟩⟩
              refine ⟨_, rfl, ?_⟩
              refine hK.out _ _ ⟨(blk_cell BK104.out 0).trans rfl, (blk_cell BK104.out 1).trans rfl, (blk_cell BK104.out 2).trans rfl, (blk_cell BK101.out 0).trans rfl, (blk_cell BK101.out 1).trans rfl, (blk_cell BK101.out 2).trans rfl, ((HB.out.cell (World.block_lt_of_cell? w _ hw107_0)).trans hw107_0), ((HB.out.cell (World.block_lt_of_cell? w _ hw107_1)).trans hw107_1), ((HB.out.cell (World.block_lt_of_cell? w _ hw107_2)).trans hw107_2)⟩ (fun hHeld => ?_)
              clear hK K
              refine norm_ (by show Act.put _ (some 18) _ = _; simp only [s0_, s1_, s2_, s3_, s4_, s5_]; rfl) ?_
              refine pu_ 6 19 (tk_ 40 127) HT_.out rfl rfl (by kernel_rfl) (fun _ _ _ h => h) (by rfl) (fun w' => by go_simp; with_reducible rfl) (by simp only [s0_, s1_, s2_, s3_, s4_, s5_]; rfl) ?_
              refine pu_ 7 20 (tk_ 40 255) HT_.out rfl rfl (by kernel_rfl) (fun _ _ _ h => h) (by rfl) (fun w' => by go_simp; with_reducible rfl) (by simp only [s0_, s1_, s2_, s3_, s4_, s5_]; rfl) ?_
              refine pu_ 8 21 (tk_ 40 511) HT_.out rfl rfl (by kernel_rfl) (fun _ _ _ h => h) (by rfl) (fun w' => by go_simp; with_reducible rfl) (by simp only [s0_, s1_, s2_, s3_, s4_, s5_]; rfl) ?_
              refine pu_ 9 22 (tk_ 40 1023) HT_.out rfl rfl (by kernel_rfl) (fun _ _ _ h => h) (by rfl) (fun w' => by go_simp; with_reducible rfl) (by simp only [s0_, s1_, s2_, s3_, s4_, s5_]; rfl) ?_
              refine pu_ 10 23 (tk_ 40 2047) HT_.out rfl rfl (by kernel_rfl) (fun _ _ _ h => h) (by rfl) (fun w' => by go_simp; with_reducible rfl) (by simp only [s0_, s1_, s2_, s3_, s4_, s5_]; rfl) ?_
              refine pu_ 11 24 (tk_ 40 4095) HT_.out rfl rfl (by kernel_rfl) (fun _ _ _ h => h) (by rfl) (fun w' => by go_simp; with_reducible rfl) (by simp only [s0_, s1_, s2_, s3_, s4_, s5_]; rfl) ?_
              refine pu_ 13 26 (tk_ 40 12287) HT_.out rfl rfl (by kernel_rfl) (fun _ _ _ h => h) (by rfl) (fun w' => by go_simp; with_reducible rfl) (by simp only [s0_, s1_, s2_, s3_, s4_, s5_]; rfl) ?_
              refine pu_ 14 27 (tk_ 40 28671) HT_.out rfl rfl (by kernel_rfl) (fun _ _ _ h => h) (by rfl) (fun w' => by go_simp; with_reducible rfl) (by simp only [s0_, s1_, s2_, s3_, s4_, s5_]; rfl) ?_
              refine pu_ 18 31 (tk_ 40 290815) HT_.out rfl rfl (by kernel_rfl) (fun _ _ _ h => h) (by rfl) (fun w' => by go_simp; with_reducible rfl) (by simp only [s0_, s1_, s2_, s3_, s4_, s5_]; rfl) ?_
              refine ta_ 12 25 (tk_ 40 294911) HT_.out HW_.out rfl rfl (by kernel_rfl) (fun _ _ _ h => h) (by rfl) (by rintro w' ⟨s0, s1, s2, s3, s4, s5, s6, s7, s8⟩; go_simp; with_reducible rfl) hHeld (by simp only [s0_, s1_, s2_, s3_, s4_, s5_]; rfl) ?_
              refine pu_ 15 28 (tk_ 40 327679) HT_.out rfl rfl (by kernel_rfl) (fun _ _ _ h => h) (by rfl) (fun w' => by go_simp; with_reducible rfl) (by simp only [s0_, s1_, s2_, s3_, s4_, s5_]; rfl) ?_
              refine pu_ 16 29 (tk_ 40 393215) HT_.out rfl rfl (by kernel_rfl) (fun _ _ _ h => h) (by rfl) (fun w' => by go_simp; with_reducible rfl) (by simp only [s0_, s1_, s2_, s3_, s4_, s5_]; rfl) ?_
              refine ta_ 17 30 (tk_ 40 524287) HT_.out HW_.out rfl rfl (by kernel_rfl) (fun _ _ _ h => h) (by rfl) (by rintro w' ⟨s0, s1, s2, s3, s4, s5, s6, s7, s8⟩; go_simp; with_reducible rfl) hHeld (by simp only [s0_, s1_, s2_, s3_, s4_, s5_]; rfl) ?_
              refine ta_ 19 32 (tk_ 40 1048575) HT_.out HW_.out rfl rfl (by kernel_rfl) (fun _ _ _ h => h) (by rfl) (by rintro w' ⟨s0, s1, s2, s3, s4, s5, s6, s7, s8⟩; go_simp; with_reducible rfl) hHeld (by simp only [s0_, s1_, s2_, s3_, s4_, s5_]; rfl) ?_
              refine pu_ 20 33 (tk_ 40 2097151) HT_.out rfl rfl (by kernel_rfl) (fun _ _ _ h => h) (by rfl) (fun w' => by go_simp; with_reducible rfl) (by simp only [s0_, s1_, s2_, s3_, s4_, s5_]; rfl) ?_
              refine pu_ 21 34 (tk_ 40 4194303) HT_.out rfl rfl (by kernel_rfl) (fun _ _ _ h => h) (by rfl) (fun w' => by go_simp; with_reducible rfl) (by simp only [s0_, s1_, s2_, s3_, s4_, s5_]; rfl) ?_
              refine pu_ 22 35 (tk_ 40 8388607) HT_.out rfl rfl (by kernel_rfl) (fun _ _ _ h => h) (by rfl) (fun w' => by go_simp; with_reducible rfl) (by simp only [s0_, s1_, s2_, s3_, s4_, s5_]; rfl) ?_
              refine pu_ 23 36 (tk_ 40 16777215) HT_.out rfl rfl (by kernel_rfl) (fun _ _ _ h => h) (by rfl) (fun w' => by go_simp; with_reducible rfl) (by simp only [s0_, s1_, s2_, s3_, s4_, s5_]; rfl) ?_
              refine pu_ 24 37 (tk_ 40 33554431) HT_.out rfl rfl (by kernel_rfl) (fun _ _ _ h => h) (by rfl) (fun w' => by go_simp; with_reducible rfl) (by simp only [s0_, s1_, s2_, s3_, s4_, s5_]; rfl) ?_
              refine ta_ 25 38 (tk_ 40 67108863) HT_.out HW_.out rfl rfl (by kernel_rfl) (fun _ _ _ h => h) (by rfl) (by rintro w' ⟨s0, s1, s2, s3, s4, s5, s6, s7, s8⟩; go_simp; with_reducible rfl) hHeld (by simp only [s0_, s1_, s2_, s3_, s4_, s5_]; rfl) ?_
              refine one_ (i := 26) (N := some 39) (tk_ 40 134217727) rfl rfl (one_of HT_.out (by kernel_rfl)) (by decide) (fun K hK => ?_)
              refine goes_ Try.func31 (by kernel_rfl) rfl #[.int .i64 0, .int .i64 ((rd_T37 l0_1 x8_1).f1), .int .i64 10000] (by rfl) rfl rfl (by (try simp only [List.map_toArray, List.map_cons, List.map_nil]); first | done | rfl | (simp only [List.length_drop, List.length_take]; rfl)) ?_
              with_reducible refine (font_within_int.calls 0 ((rd_T37 l0_1 x8_1).f1) 10000 true _ A20.out).mono ?_
              rintro e w' ⟨rfl, ⟨nd, rfl⟩⟩
              refine ⟨_, rfl, ?_⟩
              refine hK.out _ _ ⟨(blk_cell BK104.out 0).trans rfl, (blk_cell BK104.out 1).trans rfl, (blk_cell BK104.out 2).trans rfl, (blk_cell BK101.out 0).trans rfl, (blk_cell BK101.out 1).trans rfl, (blk_cell BK101.out 2).trans rfl, ((HB.out.cell (World.block_lt_of_cell? w _ hw107_0)).trans hw107_0), ((HB.out.cell (World.block_lt_of_cell? w _ hw107_1)).trans hw107_1), ((HB.out.cell (World.block_lt_of_cell? w _ hw107_2)).trans hw107_2)⟩ (fun hHeld => ?_)
              clear hK K
              refine norm_ (by show Act.put _ (some 39) _ = _; simp only [s0_, s1_, s2_, s3_, s4_, s5_]; rfl) ?_
              refine pu_ 27 40 (tk_ 40 268435455) HT_.out rfl rfl (by kernel_rfl) (fun _ _ _ h => h) (by rfl) (fun w' => by go_simp; with_reducible rfl) (by simp only [s0_, s1_, s2_, s3_, s4_, s5_]; rfl) ?_
              refine pu_ 28 41 (tk_ 40 536870911) HT_.out rfl rfl (by kernel_rfl) (fun _ _ _ h => h) (by rfl) (fun w' => by go_simp; with_reducible rfl) (by simp only [s0_, s1_, s2_, s3_, s4_, s5_]; rfl) ?_
              refine pu_ 29 42 (tk_ 40 1073741823) HT_.out rfl rfl (by kernel_rfl) (fun _ _ _ h => h) (by rfl) (fun w' => by go_simp; with_reducible rfl) (by simp only [s0_, s1_, s2_, s3_, s4_, s5_]; rfl) ?_
              refine pu_ 30 43 (tk_ 40 2147483647) HT_.out rfl rfl (by kernel_rfl) (fun _ _ _ h => h) (by rfl) (fun w' => by go_simp; with_reducible rfl) (by simp only [s0_, s1_, s2_, s3_, s4_, s5_]; rfl) ?_
              refine ta_ 31 44 (tk_ 40 4294967295) HT_.out HW_.out rfl rfl (by kernel_rfl) (fun _ _ _ h => h) (by rfl) (by rintro w' ⟨s0, s1, s2, s3, s4, s5, s6, s7, s8⟩; go_simp; with_reducible rfl) hHeld (by simp only [s0_, s1_, s2_, s3_, s4_, s5_]; rfl) ?_
              refine pu_ 32 45 (tk_ 40 8589934591) HT_.out rfl rfl (by kernel_rfl) (fun _ _ _ h => h) (by rfl) (fun w' => by go_simp; with_reducible rfl) (by simp only [s0_, s1_, s2_, s3_, s4_, s5_]; rfl) ?_
              refine pu_ 33 46 (tk_ 40 17179869183) HT_.out rfl rfl (by kernel_rfl) (fun _ _ _ h => h) (by rfl) (fun w' => by go_simp; with_reducible rfl) (by simp only [s0_, s1_, s2_, s3_, s4_, s5_]; rfl) ?_
              refine pu_ 34 47 (tk_ 40 34359738367) HT_.out rfl rfl (by kernel_rfl) (fun _ _ _ h => h) (by rfl) (fun w' => by go_simp; with_reducible rfl) (by simp only [s0_, s1_, s2_, s3_, s4_, s5_]; rfl) ?_
              refine ta_ 35 48 (tk_ 40 68719476735) HT_.out HW_.out rfl rfl (by kernel_rfl) (fun _ _ _ h => h) (by rfl) (by rintro w' ⟨s0, s1, s2, s3, s4, s5, s6, s7, s8⟩; go_simp; with_reducible rfl) hHeld (by simp only [s0_, s1_, s2_, s3_, s4_, s5_]; rfl) ?_
              refine one_ (i := 36) (N := some 49) (tk_ 40 137438953471) rfl rfl (one_of HT_.out (by kernel_rfl)) (by decide) (fun K hK => ?_)
              refine goes_ Try.func33 (by kernel_rfl) rfl #[.string ((rd_T37 l0_1 x8_1).f2)] (by rfl) rfl rfl (by (try simp only [List.map_toArray, List.map_cons, List.map_nil]); first | done | rfl | (simp only [List.length_drop, List.length_take]; rfl)) ?_
              with_reducible refine (font_means.calls ((rd_T37 l0_1 x8_1).f2) true _ A28.out).mono ?_
              rintro e w' ⟨rfl, ⟨nd, rfl⟩⟩
              refine ⟨_, rfl, ?_⟩
              refine hK.out _ _ ⟨(blk_cell BK104.out 0).trans rfl, (blk_cell BK104.out 1).trans rfl, (blk_cell BK104.out 2).trans rfl, (blk_cell BK101.out 0).trans rfl, (blk_cell BK101.out 1).trans rfl, (blk_cell BK101.out 2).trans rfl, ((HB.out.cell (World.block_lt_of_cell? w _ hw107_0)).trans hw107_0), ((HB.out.cell (World.block_lt_of_cell? w _ hw107_1)).trans hw107_1), ((HB.out.cell (World.block_lt_of_cell? w _ hw107_2)).trans hw107_2)⟩ (fun hHeld => ?_)
              clear hK K
              refine norm_ (by show Act.put _ (some 49) _ = _; simp only [s0_, s1_, s2_, s3_, s4_, s5_]; rfl) ?_
              refine pu_ 37 50 (tk_ 40 274877906943) HT_.out rfl rfl (by kernel_rfl) (fun _ _ _ h => h) (by rfl) (fun w' => by go_simp; with_reducible rfl) (by simp only [s0_, s1_, s2_, s3_, s4_, s5_]; rfl) ?_
              refine pu_ 38 51 (tk_ 40 549755813887) HT_.out rfl rfl (by kernel_rfl) (fun _ _ _ h => h) (by rfl) (fun w' => by go_simp; with_reducible rfl) (by simp only [s0_, s1_, s2_, s3_, s4_, s5_]; rfl) ?_
              refine pu_ 39 52 (tk_ 40 1099511627775) HT_.out rfl rfl (by kernel_rfl) (fun _ _ _ h => h) (by rfl) (fun w' => by go_simp; with_reducible rfl) (by simp only [s0_, s1_, s2_, s3_, s4_, s5_]; rfl) ?_
              refine done_ (done_of HT_.out (by kernel_rfl)) ?_
              try go_wp2
              go_roundg k1
              case measure => have := HK1.out; omega
              case rel => exact ⟨(wrap64 (x8_1 + 1)), (by first | rfl | (simp; done) | (simp [*]; done)), H', ⟨by have := HK1.out; omega⟩, ⟨by (with_reducible repeat (first | refine blk_drewN ?_ _ | refine blk_drew ?_ | refine blk_alloc ?_ _)); exact BK101.out⟩, ⟨by repeat (first | (with_reducible first | exact HB.out | apply below_alloc | apply pw_below_drewN | apply below_drew1 | refine below_set ?_ GE101.out | refine below_set ?_ GE104.out) | exact HB.out)⟩⟩
             ·replace c29 := Bool.eq_false_iff.mpr c29
              subst c29
              have H1 : (some 1) = some r := by rw [if_neg (show ¬ (false = true) by decide)] at H; exact H
              clear H
              have H := H1
              clear H1
              obtain rfl := Option.some.inj H
              have p103 : 0 ≤ (x8_1 : Int) := of_decide_eq_true (by first | (with_reducible assumption) | assumption)
              have q103 : x8_1 < (l0_1.length : Int) := of_decide_eq_true (by first | (with_reducible assumption) | assumption)
              obtain ⟨ad103, e103, hx103_0, hx103_1, hx103_2⟩ := at_T37 HR0_1.out x8_1 p103 q103
              cases e103
              replace hx103_0 := (HB.out.cell (World.block_lt_of_cell? w _ hx103_0)).trans hx103_0
              replace hx103_1 := (HB.out.cell (World.block_lt_of_cell? w _ hx103_1)).trans hx103_1
              replace hx103_2 := (HB.out.cell (World.block_lt_of_cell? w _ hx103_2)).trans hx103_2
              replace p103 := eq_true p103
              replace q103 := eq_true q103
              try go_wp2_with (first | ((with_reducible refine gate_dst (N := 4) rfl ?_); (try (refine gate_guard (by rfl) ?_; dsimp only)); refine box_event ?hg (N := 4) ?hd (cs := #[.int .i64 0, .int .i64 0, .string (⟨#[]⟩ : ByteArray)]) (t := 37) ?hr ?_; (case hd => rfl); (case hg => rfl); (case hr => first | (go_simp; done) | (go_simp; rfl)); intro gb104 hg w35 hbox hb; have n0_ := Aside0.mk (blk_below (g := gb101) (o := .cells #[.bool a0_0, .slice (some ad103) l0_1.length c0_1, .int .i64 a0_2] 24 (0, 0)) (by (with_reducible repeat (first | refine blk_drewN ?_ _ | refine blk_drew ?_ | refine blk_alloc ?_ _)); exact BK101.out) hb); have n1_ := Aside0.mk (below_step (by repeat (first | (with_reducible first | exact HB.out | apply below_alloc | apply pw_below_drewN | apply below_drew1 | refine below_set ?_ GE101.out) | exact HB.out)) hb); have n2_ := Aside0.mk (hbox); have n3_ := Aside0.mk ((by rw [hg]; exact (below_size (by repeat (first | (with_reducible first | exact HB.out | apply below_alloc | apply pw_below_drewN | apply below_drew1 | refine below_set ?_ GE101.out) | exact HB.out))) : w.heap.size ≤ gb104)); have n4_ := Aside0.mk ((by rw [hg]; exact (below_size (by repeat (first | (with_reducible first | exact HB.out | apply below_alloc | apply pw_below_drewN | apply below_drew1 | refine below_set ?_ GE101.out) | exact HB.out))) : w.heap.size ≤ gb104)); have n5_ := Aside0.mk ((by rw [hg]; exact Nat.ne_of_lt (blk_lt (g := gb101) (o := .cells #[.bool a0_0, .slice (some ad103) l0_1.length c0_1, .int .i64 a0_2] 24 (0, 0)) (by (with_reducible repeat (first | refine blk_drewN ?_ _ | refine blk_drew ?_ | refine blk_alloc ?_ _)); exact BK101.out)) : gb101 ≠ gb104)); have n6_ := Aside0.mk ((by rw [hg]; exact Nat.ne_of_gt (blk_lt (g := gb101) (o := .cells #[.bool a0_0, .slice (some ad103) l0_1.length c0_1, .int .i64 a0_2] 24 (0, 0)) (by (with_reducible repeat (first | refine blk_drewN ?_ _ | refine blk_drew ?_ | refine blk_alloc ?_ _)); exact BK101.out)) : gb104 ≠ gb101)); clear BK101; clear HB; have BK101 := n0_; have HB := n1_; have BK104 := n2_; have GW104 := n3_; have GE104 := n4_; have NB101_104 := n5_; have NB104_101 := n6_; clear n0_ n1_ n2_ n3_ n4_ n5_ n6_; clear hb hbox hg; have hnb36 := NB104_101.out; have hnc36 := NB101_104.out; have hcz37_0 : w35.cell? ⟨gb104, 0, none⟩ = some (.int .i64 0) := (blk_cell BK104.out 0).trans rfl; have hcz37_1 : w35.cell? ⟨gb104, 1, none⟩ = some (.int .i64 0) := (blk_cell BK104.out 1).trans rfl; have hcz37_2 : w35.cell? ⟨gb104, 2, none⟩ = some (.string (⟨#[]⟩ : ByteArray)) := (blk_cell BK104.out 2).trans rfl; have hfz37_0 := blk_frozen BK104.out 0; have hfz37_1 := blk_frozen BK104.out 1; have hfz37_2 := blk_frozen BK104.out 2))
              have n0_ : Aside0 ((((w35.setCell ⟨gb104, 0, none⟩ (.int .i64 ((rd_T37 l0_1 x8_1).f0))).setCell ⟨gb104, 1, none⟩ (.int .i64 ((rd_T37 l0_1 x8_1).f1))).setCell ⟨gb104, 2, none⟩ (.string ((rd_T37 l0_1 x8_1).f2))).heap[gb101]? = some (.cells #[.bool a0_0, .slice (some ad103) l0_1.length c0_1, .int .i64 a0_2] 24 (0, 0))) := ⟨by (with_reducible repeat (first | refine blk_drewN ?_ _ | refine blk_drew ?_ | refine blk_alloc ?_ _)); refine blk_far ?_ NB101_104.out _; (with_reducible repeat (first | refine blk_drewN ?_ _ | refine blk_drew ?_ | refine blk_alloc ?_ _)); refine blk_far ?_ NB101_104.out _; (with_reducible repeat (first | refine blk_drewN ?_ _ | refine blk_drew ?_ | refine blk_alloc ?_ _)); refine blk_far ?_ NB101_104.out _; (with_reducible repeat (first | refine blk_drewN ?_ _ | refine blk_drew ?_ | refine blk_alloc ?_ _)); exact BK101.out⟩
              have n1_ : Aside0 ((((w35.setCell ⟨gb104, 0, none⟩ (.int .i64 ((rd_T37 l0_1 x8_1).f0))).setCell ⟨gb104, 1, none⟩ (.int .i64 ((rd_T37 l0_1 x8_1).f1))).setCell ⟨gb104, 2, none⟩ (.string ((rd_T37 l0_1 x8_1).f2))).heap[gb104]? = some (.cells #[.int .i64 ((rd_T37 l0_1 x8_1).f0), .int .i64 ((rd_T37 l0_1 x8_1).f1), .string ((rd_T37 l0_1 x8_1).f2)] 37 (0, 0))) := ⟨by (with_reducible repeat (first | refine blk_drewN ?_ _ | refine blk_drew ?_ | refine blk_alloc ?_ _)); refine blk_put (cs := #[.int .i64 ((rd_T37 l0_1 x8_1).f0), .int .i64 ((rd_T37 l0_1 x8_1).f1), .string (⟨#[]⟩ : ByteArray)]) ?_ 2 _ rfl; (with_reducible repeat (first | refine blk_drewN ?_ _ | refine blk_drew ?_ | refine blk_alloc ?_ _)); refine blk_put (cs := #[.int .i64 ((rd_T37 l0_1 x8_1).f0), .int .i64 0, .string (⟨#[]⟩ : ByteArray)]) ?_ 1 _ rfl; (with_reducible repeat (first | refine blk_drewN ?_ _ | refine blk_drew ?_ | refine blk_alloc ?_ _)); refine blk_put (cs := #[.int .i64 0, .int .i64 0, .string (⟨#[]⟩ : ByteArray)]) ?_ 0 _ rfl; (with_reducible repeat (first | refine blk_drewN ?_ _ | refine blk_drew ?_ | refine blk_alloc ?_ _)); exact BK104.out⟩
              have n2_ : Aside0 (Below w.heap.size w (((w35.setCell ⟨gb104, 0, none⟩ (.int .i64 ((rd_T37 l0_1 x8_1).f0))).setCell ⟨gb104, 1, none⟩ (.int .i64 ((rd_T37 l0_1 x8_1).f1))).setCell ⟨gb104, 2, none⟩ (.string ((rd_T37 l0_1 x8_1).f2)))) := ⟨by repeat (first | (with_reducible first | exact HB.out | apply below_alloc | apply pw_below_drewN | apply below_drew1 | refine below_set ?_ GE101.out | refine below_set ?_ GE104.out) | exact HB.out)⟩
              (try clear BK101)
              (try clear BK104)
              (try clear HB)
              generalize (((w35.setCell ⟨gb104, 0, none⟩ (.int .i64 ((rd_T37 l0_1 x8_1).f0))).setCell ⟨gb104, 1, none⟩ (.int .i64 ((rd_T37 l0_1 x8_1).f1))).setCell ⟨gb104, 2, none⟩ (.string ((rd_T37 l0_1 x8_1).f2))) = w38 at n0_ n1_ n2_ ⊢
              have BK101 := n0_
              have BK104 := n1_
              have HB := n2_
              clear n0_ n1_ n2_
              have n0_ := Aside0.mk (blk_drew BK101.out)
              have n1_ := Aside0.mk (blk_drew BK104.out)
              have n2_ := Aside0.mk (below_drew1 HB.out)
              clear BK101
              clear BK104
              clear HB
              have BK101 := n0_
              have BK104 := n1_
              have HB := n2_
              clear n0_ n1_ n2_
              have p107 : 0 ≤ ((ji11) : Int) := of_decide_eq_true (by first | (with_reducible assumption) | assumption)
              have q107 : (ji11) < (l0_1.length : Int) := of_decide_eq_true (by first | (with_reducible assumption) | assumption)
              obtain ⟨ad107, e107, hx107_0, hx107_1, hx107_2⟩ := at_T37 HR0_1.out (ji11) p107 q107
              have hw107_2 := hx107_2
              have hw107_1 := hx107_1
              have hw107_0 := hx107_0
              obtain rfl : ad103 = ad107 := (by injection e107)
              replace hx107_0 := (HB.out.cell (World.block_lt_of_cell? w _ hx107_0)).trans hx107_0
              replace hx107_1 := (HB.out.cell (World.block_lt_of_cell? w _ hx107_1)).trans hx107_1
              replace hx107_2 := (HB.out.cell (World.block_lt_of_cell? w _ hx107_2)).trans hx107_2
              replace p107 := eq_true p107
              replace q107 := eq_true q107
              refine start_ (n := 40) (S := fun w' => w'.cell? ⟨gb104, 0, none⟩ = some (.int .i64 ((rd_T37 l0_1 x8_1).f0)) ∧ w'.cell? ⟨gb104, 1, none⟩ = some (.int .i64 ((rd_T37 l0_1 x8_1).f1)) ∧ w'.cell? ⟨gb104, 2, none⟩ = some (.string ((rd_T37 l0_1 x8_1).f2)) ∧ w'.cell? ⟨gb101, 0, none⟩ = some (.bool a0_0) ∧ w'.cell? ⟨gb101, 1, none⟩ = some (.slice (some ad103) l0_1.length c0_1) ∧ w'.cell? ⟨gb101, 2, none⟩ = some (.int .i64 a0_2) ∧ w'.cell? (ad103.add (((ji11)).toNat * 3)) = some (.int .i64 ((rd_T37 l0_1 (ji11)).f0)) ∧ w'.cell? ⟨(ad103.add (((ji11)).toNat * 3)).block, (ad103.add (((ji11)).toNat * 3)).off + 1, none⟩ = some (.int .i64 ((rd_T37 l0_1 (ji11)).f1)) ∧ w'.cell? ⟨(ad103.add (((ji11)).toNat * 3)).block, (ad103.add (((ji11)).toNat * 3)).off + 2, none⟩ = some (.string ((rd_T37 l0_1 (ji11)).f2))) (ds := []) (tk_ 40 0) (by kernel_rfl) rfl (by kernel_rfl) ⟨(blk_cell BK104.out 0).trans rfl, (blk_cell BK104.out 1).trans rfl, (blk_cell BK104.out 2).trans rfl, (blk_cell BK101.out 0).trans rfl, (blk_cell BK101.out 1).trans rfl, (blk_cell BK101.out 2).trans rfl, ((HB.out.cell (World.block_lt_of_cell? w _ hw107_0)).trans hw107_0), ((HB.out.cell (World.block_lt_of_cell? w _ hw107_1)).trans hw107_1), ((HB.out.cell (World.block_lt_of_cell? w _ hw107_2)).trans hw107_2)⟩ (fun hHeld => ?_); refine with_tabW font_Check.tab4 font_Check.bits4 (fun HT_ HW_ => ?_)
              generalize w38.drew = w39 at BK101 BK104 HB hx107_0 hx107_1 hx107_2 hHeld ⊢
              refine pu_ 0 13 (tk_ 40 1) HT_.out rfl rfl (by kernel_rfl) (fun _ _ _ h => h) (by rfl) (fun w' => by go_simp; with_reducible rfl) (by simp only [s0_, s1_, s2_, s3_, s4_, s5_]; rfl) ?_
              refine pu_ 2 15 (tk_ 40 5) HT_.out rfl rfl (by kernel_rfl) (fun _ _ _ h => h) (by rfl) (fun w' => by go_simp; with_reducible rfl) (by simp only [s0_, s1_, s2_, s3_, s4_, s5_]; rfl) ?_
              refine ta_ 1 14 (tk_ 40 7) HT_.out HW_.out rfl rfl (by kernel_rfl) (fun _ _ _ h => h) (by rfl) (by rintro w' ⟨s0, s1, s2, s3, s4, s5, s6, s7, s8⟩; go_simp; with_reducible rfl) hHeld (by simp only [s0_, s1_, s2_, s3_, s4_, s5_]; rfl) ?_
              refine ta_ 3 16 (tk_ 40 15) HT_.out HW_.out rfl rfl (by kernel_rfl) (fun _ _ _ h => h) (by rfl) (by rintro w' ⟨s0, s1, s2, s3, s4, s5, s6, s7, s8⟩; go_simp; with_reducible rfl) hHeld (by simp only [s0_, s1_, s2_, s3_, s4_, s5_]; rfl) ?_
              refine one_ (i := 4) (N := some 17) (tk_ 40 31) rfl rfl (one_of HT_.out (by kernel_rfl)) (by decide) (fun K hK => ?_)
              refine goes_ Try.func32 (by kernel_rfl) rfl #[.bool a0_0] (by rfl) rfl rfl (by (try simp only [List.map_toArray, List.map_cons, List.map_nil]); first | done | rfl | (simp only [List.length_drop, List.length_take]; rfl)) ?_
              with_reducible refine (font_top.calls a0_0 t105 _ A7.out).mono ?_
              rintro e w' ⟨rfl, ⟨nd, rfl⟩⟩
              refine ⟨_, rfl, ?_⟩
              refine hK.out _ _ ⟨(blk_cell BK104.out 0).trans rfl, (blk_cell BK104.out 1).trans rfl, (blk_cell BK104.out 2).trans rfl, (blk_cell BK101.out 0).trans rfl, (blk_cell BK101.out 1).trans rfl, (blk_cell BK101.out 2).trans rfl, ((HB.out.cell (World.block_lt_of_cell? w _ hw107_0)).trans hw107_0), ((HB.out.cell (World.block_lt_of_cell? w _ hw107_1)).trans hw107_1), ((HB.out.cell (World.block_lt_of_cell? w _ hw107_2)).trans hw107_2)⟩ (fun hHeld => ?_)
              clear hK K
              refine norm_ (by show Act.put _ (some 17) _ = _; simp only [s0_, s1_, s2_, s3_, s4_, s5_]; rfl) ?_
              refine one_ (i := 5) (N := some 18) (tk_ 40 63) rfl rfl (one_of HT_.out (by kernel_rfl)) (by decide) (fun K hK => ?_)
              refine goes_ Try.func31 (by kernel_rfl) rfl #[.int .i64 0, .int .i64 ((rd_T37 l0_1 x8_1).f0), .int .i64 t105] (by rfl) rfl rfl (by (try simp only [List.map_toArray, List.map_cons, List.map_nil]); first | done | rfl | (simp only [List.length_drop, List.length_take]; rfl)) ?_
              with_reducible refine (font_within_int.calls 0 ((rd_T37 l0_1 x8_1).f0) t105 true _ A8.out).mono ?_
              rintro e w' ⟨rfl, ⟨nd, rfl⟩⟩
              refine ⟨_, rfl, ?_⟩
              refine hK.out _ _ ⟨(blk_cell BK104.out 0).trans rfl, (blk_cell BK104.out 1).trans rfl, (blk_cell BK104.out 2).trans rfl, (blk_cell BK101.out 0).trans rfl, (blk_cell BK101.out 1).trans rfl, (blk_cell BK101.out 2).trans rfl, ((HB.out.cell (World.block_lt_of_cell? w _ hw107_0)).trans hw107_0), ((HB.out.cell (World.block_lt_of_cell? w _ hw107_1)).trans hw107_1), ((HB.out.cell (World.block_lt_of_cell? w _ hw107_2)).trans hw107_2)⟩ (fun hHeld => ?_)
              clear hK K
              refine norm_ (by show Act.put _ (some 18) _ = _; simp only [s0_, s1_, s2_, s3_, s4_, s5_]; rfl) ?_
              refine pu_ 6 19 (tk_ 40 127) HT_.out rfl rfl (by kernel_rfl) (fun _ _ _ h => h) (by rfl) (fun w' => by go_simp; with_reducible rfl) (by simp only [s0_, s1_, s2_, s3_, s4_, s5_]; rfl) ?_
              refine pu_ 7 20 (tk_ 40 255) HT_.out rfl rfl (by kernel_rfl) (fun _ _ _ h => h) (by rfl) (fun w' => by go_simp; with_reducible rfl) (by simp only [s0_, s1_, s2_, s3_, s4_, s5_]; rfl) ?_
              refine pu_ 8 21 (tk_ 40 511) HT_.out rfl rfl (by kernel_rfl) (fun _ _ _ h => h) (by rfl) (fun w' => by go_simp; with_reducible rfl) (by simp only [s0_, s1_, s2_, s3_, s4_, s5_]; rfl) ?_
              refine pu_ 9 22 (tk_ 40 1023) HT_.out rfl rfl (by kernel_rfl) (fun _ _ _ h => h) (by rfl) (fun w' => by go_simp; with_reducible rfl) (by simp only [s0_, s1_, s2_, s3_, s4_, s5_]; rfl) ?_
              refine pu_ 10 23 (tk_ 40 2047) HT_.out rfl rfl (by kernel_rfl) (fun _ _ _ h => h) (by rfl) (fun w' => by go_simp; with_reducible rfl) (by simp only [s0_, s1_, s2_, s3_, s4_, s5_]; rfl) ?_
              refine pu_ 11 24 (tk_ 40 4095) HT_.out rfl rfl (by kernel_rfl) (fun _ _ _ h => h) (by rfl) (fun w' => by go_simp; with_reducible rfl) (by simp only [s0_, s1_, s2_, s3_, s4_, s5_]; rfl) ?_
              refine pu_ 13 26 (tk_ 40 12287) HT_.out rfl rfl (by kernel_rfl) (fun _ _ _ h => h) (by rfl) (fun w' => by go_simp; with_reducible rfl) (by simp only [s0_, s1_, s2_, s3_, s4_, s5_]; rfl) ?_
              refine pu_ 14 27 (tk_ 40 28671) HT_.out rfl rfl (by kernel_rfl) (fun _ _ _ h => h) (by rfl) (fun w' => by go_simp; with_reducible rfl) (by simp only [s0_, s1_, s2_, s3_, s4_, s5_]; rfl) ?_
              refine pu_ 18 31 (tk_ 40 290815) HT_.out rfl rfl (by kernel_rfl) (fun _ _ _ h => h) (by rfl) (fun w' => by go_simp; with_reducible rfl) (by simp only [s0_, s1_, s2_, s3_, s4_, s5_]; rfl) ?_
              refine ta_ 12 25 (tk_ 40 294911) HT_.out HW_.out rfl rfl (by kernel_rfl) (fun _ _ _ h => h) (by rfl) (by rintro w' ⟨s0, s1, s2, s3, s4, s5, s6, s7, s8⟩; go_simp; with_reducible rfl) hHeld (by simp only [s0_, s1_, s2_, s3_, s4_, s5_]; rfl) ?_
              refine pu_ 15 28 (tk_ 40 327679) HT_.out rfl rfl (by kernel_rfl) (fun _ _ _ h => h) (by rfl) (fun w' => by go_simp; with_reducible rfl) (by simp only [s0_, s1_, s2_, s3_, s4_, s5_]; rfl) ?_
              refine pu_ 16 29 (tk_ 40 393215) HT_.out rfl rfl (by kernel_rfl) (fun _ _ _ h => h) (by rfl) (fun w' => by go_simp; with_reducible rfl) (by simp only [s0_, s1_, s2_, s3_, s4_, s5_]; rfl) ?_
              refine ta_ 17 30 (tk_ 40 524287) HT_.out HW_.out rfl rfl (by kernel_rfl) (fun _ _ _ h => h) (by rfl) (by rintro w' ⟨s0, s1, s2, s3, s4, s5, s6, s7, s8⟩; go_simp; with_reducible rfl) hHeld (by simp only [s0_, s1_, s2_, s3_, s4_, s5_]; rfl) ?_
              refine ta_ 19 32 (tk_ 40 1048575) HT_.out HW_.out rfl rfl (by kernel_rfl) (fun _ _ _ h => h) (by rfl) (by rintro w' ⟨s0, s1, s2, s3, s4, s5, s6, s7, s8⟩; go_simp; with_reducible rfl) hHeld (by simp only [s0_, s1_, s2_, s3_, s4_, s5_]; rfl) ?_
              refine pu_ 20 33 (tk_ 40 2097151) HT_.out rfl rfl (by kernel_rfl) (fun _ _ _ h => h) (by rfl) (fun w' => by go_simp; with_reducible rfl) (by simp only [s0_, s1_, s2_, s3_, s4_, s5_]; rfl) ?_
              refine pu_ 21 34 (tk_ 40 4194303) HT_.out rfl rfl (by kernel_rfl) (fun _ _ _ h => h) (by rfl) (fun w' => by go_simp; with_reducible rfl) (by simp only [s0_, s1_, s2_, s3_, s4_, s5_]; rfl) ?_
              refine pu_ 22 35 (tk_ 40 8388607) HT_.out rfl rfl (by kernel_rfl) (fun _ _ _ h => h) (by rfl) (fun w' => by go_simp; with_reducible rfl) (by simp only [s0_, s1_, s2_, s3_, s4_, s5_]; rfl) ?_
              refine pu_ 23 36 (tk_ 40 16777215) HT_.out rfl rfl (by kernel_rfl) (fun _ _ _ h => h) (by rfl) (fun w' => by go_simp; with_reducible rfl) (by simp only [s0_, s1_, s2_, s3_, s4_, s5_]; rfl) ?_
              refine pu_ 24 37 (tk_ 40 33554431) HT_.out rfl rfl (by kernel_rfl) (fun _ _ _ h => h) (by rfl) (fun w' => by go_simp; with_reducible rfl) (by simp only [s0_, s1_, s2_, s3_, s4_, s5_]; rfl) ?_
              refine ta_ 25 38 (tk_ 40 67108863) HT_.out HW_.out rfl rfl (by kernel_rfl) (fun _ _ _ h => h) (by rfl) (by rintro w' ⟨s0, s1, s2, s3, s4, s5, s6, s7, s8⟩; go_simp; with_reducible rfl) hHeld (by simp only [s0_, s1_, s2_, s3_, s4_, s5_]; rfl) ?_
              refine one_ (i := 26) (N := some 39) (tk_ 40 134217727) rfl rfl (one_of HT_.out (by kernel_rfl)) (by decide) (fun K hK => ?_)
              refine goes_ Try.func31 (by kernel_rfl) rfl #[.int .i64 0, .int .i64 ((rd_T37 l0_1 x8_1).f1), .int .i64 10000] (by rfl) rfl rfl (by (try simp only [List.map_toArray, List.map_cons, List.map_nil]); first | done | rfl | (simp only [List.length_drop, List.length_take]; rfl)) ?_
              with_reducible refine (font_within_int.calls 0 ((rd_T37 l0_1 x8_1).f1) 10000 true _ A20.out).mono ?_
              rintro e w' ⟨rfl, ⟨nd, rfl⟩⟩
              refine ⟨_, rfl, ?_⟩
              refine hK.out _ _ ⟨(blk_cell BK104.out 0).trans rfl, (blk_cell BK104.out 1).trans rfl, (blk_cell BK104.out 2).trans rfl, (blk_cell BK101.out 0).trans rfl, (blk_cell BK101.out 1).trans rfl, (blk_cell BK101.out 2).trans rfl, ((HB.out.cell (World.block_lt_of_cell? w _ hw107_0)).trans hw107_0), ((HB.out.cell (World.block_lt_of_cell? w _ hw107_1)).trans hw107_1), ((HB.out.cell (World.block_lt_of_cell? w _ hw107_2)).trans hw107_2)⟩ (fun hHeld => ?_)
              clear hK K
              refine norm_ (by show Act.put _ (some 39) _ = _; simp only [s0_, s1_, s2_, s3_, s4_, s5_]; rfl) ?_
              refine pu_ 27 40 (tk_ 40 268435455) HT_.out rfl rfl (by kernel_rfl) (fun _ _ _ h => h) (by rfl) (fun w' => by go_simp; with_reducible rfl) (by simp only [s0_, s1_, s2_, s3_, s4_, s5_]; rfl) ?_
              refine pu_ 28 41 (tk_ 40 536870911) HT_.out rfl rfl (by kernel_rfl) (fun _ _ _ h => h) (by rfl) (fun w' => by go_simp; with_reducible rfl) (by simp only [s0_, s1_, s2_, s3_, s4_, s5_]; rfl) ?_
              refine pu_ 29 42 (tk_ 40 1073741823) HT_.out rfl rfl (by kernel_rfl) (fun _ _ _ h => h) (by rfl) (fun w' => by go_simp; with_reducible rfl) (by simp only [s0_, s1_, s2_, s3_, s4_, s5_]; rfl) ?_
              refine pu_ 30 43 (tk_ 40 2147483647) HT_.out rfl rfl (by kernel_rfl) (fun _ _ _ h => h) (by rfl) (fun w' => by go_simp; with_reducible rfl) (by simp only [s0_, s1_, s2_, s3_, s4_, s5_]; rfl) ?_
              refine ta_ 31 44 (tk_ 40 4294967295) HT_.out HW_.out rfl rfl (by kernel_rfl) (fun _ _ _ h => h) (by rfl) (by rintro w' ⟨s0, s1, s2, s3, s4, s5, s6, s7, s8⟩; go_simp; with_reducible rfl) hHeld (by simp only [s0_, s1_, s2_, s3_, s4_, s5_]; rfl) ?_
              refine pu_ 32 45 (tk_ 40 8589934591) HT_.out rfl rfl (by kernel_rfl) (fun _ _ _ h => h) (by rfl) (fun w' => by go_simp; with_reducible rfl) (by simp only [s0_, s1_, s2_, s3_, s4_, s5_]; rfl) ?_
              refine pu_ 33 46 (tk_ 40 17179869183) HT_.out rfl rfl (by kernel_rfl) (fun _ _ _ h => h) (by rfl) (fun w' => by go_simp; with_reducible rfl) (by simp only [s0_, s1_, s2_, s3_, s4_, s5_]; rfl) ?_
              refine pu_ 34 47 (tk_ 40 34359738367) HT_.out rfl rfl (by kernel_rfl) (fun _ _ _ h => h) (by rfl) (fun w' => by go_simp; with_reducible rfl) (by simp only [s0_, s1_, s2_, s3_, s4_, s5_]; rfl) ?_
              refine ta_ 35 48 (tk_ 40 68719476735) HT_.out HW_.out rfl rfl (by kernel_rfl) (fun _ _ _ h => h) (by rfl) (by rintro w' ⟨s0, s1, s2, s3, s4, s5, s6, s7, s8⟩; go_simp; with_reducible rfl) hHeld (by simp only [s0_, s1_, s2_, s3_, s4_, s5_]; rfl) ?_
              refine one_ (i := 36) (N := some 49) (tk_ 40 137438953471) rfl rfl (one_of HT_.out (by kernel_rfl)) (by decide) (fun K hK => ?_)
              refine goes_ Try.func33 (by kernel_rfl) rfl #[.string ((rd_T37 l0_1 x8_1).f2)] (by rfl) rfl rfl (by (try simp only [List.map_toArray, List.map_cons, List.map_nil]); first | done | rfl | (simp only [List.length_drop, List.length_take]; rfl)) ?_
              with_reducible refine (font_means.calls ((rd_T37 l0_1 x8_1).f2) false _ A28.out).mono ?_
              rintro e w' ⟨rfl, ⟨nd, rfl⟩⟩
              refine ⟨_, rfl, ?_⟩
              refine hK.out _ _ ⟨(blk_cell BK104.out 0).trans rfl, (blk_cell BK104.out 1).trans rfl, (blk_cell BK104.out 2).trans rfl, (blk_cell BK101.out 0).trans rfl, (blk_cell BK101.out 1).trans rfl, (blk_cell BK101.out 2).trans rfl, ((HB.out.cell (World.block_lt_of_cell? w _ hw107_0)).trans hw107_0), ((HB.out.cell (World.block_lt_of_cell? w _ hw107_1)).trans hw107_1), ((HB.out.cell (World.block_lt_of_cell? w _ hw107_2)).trans hw107_2)⟩ (fun hHeld => ?_)
              clear hK K
              refine norm_ (by show Act.put _ (some 49) _ = _; simp only [s0_, s1_, s2_, s3_, s4_, s5_]; rfl) ?_
              refine pu_ 37 50 (tk_ 40 274877906943) HT_.out rfl rfl (by kernel_rfl) (fun _ _ _ h => h) (by rfl) (fun w' => by go_simp; with_reducible rfl) (by simp only [s0_, s1_, s2_, s3_, s4_, s5_]; rfl) ?_
              refine pu_ 38 51 (tk_ 40 549755813887) HT_.out rfl rfl (by kernel_rfl) (fun _ _ _ h => h) (by rfl) (fun w' => by go_simp; with_reducible rfl) (by simp only [s0_, s1_, s2_, s3_, s4_, s5_]; rfl) ?_
              refine pu_ 39 52 (tk_ 40 1099511627775) HT_.out rfl rfl (by kernel_rfl) (fun _ _ _ h => h) (by rfl) (fun w' => by go_simp; with_reducible rfl) (by simp only [s0_, s1_, s2_, s3_, s4_, s5_]; rfl) ?_
              refine done_ (done_of HT_.out (by kernel_rfl)) ?_
              try go_wp2
              go_ret
              exact ⟨by first | rfl | (simp [errW_none, errW_some] <;> rfl) | (simp only [← hji11]; first | rfl | (simp [errW_none, errW_some] <;> rfl)) | (simp [*, errW_none, errW_some] <;> rfl), by repeat (first | (with_reducible first | exact HB.out | apply below_alloc | apply pw_below_drewN | apply below_drew1 | refine below_set ?_ GE101.out | refine below_set ?_ GE104.out) | exact HB.out)⟩
           ·replace c21 := Bool.eq_false_iff.mpr c21
            subst c21
            have H1 : (some 1) = some r := by rw [if_neg (show ¬ (false = true) by decide)] at H; exact H
            clear H
            have H := H1
            clear H1
            obtain rfl := Option.some.inj H
            have p103 : 0 ≤ (x8_1 : Int) := of_decide_eq_true (by first | (with_reducible assumption) | assumption)
            have q103 : x8_1 < (l0_1.length : Int) := of_decide_eq_true (by first | (with_reducible assumption) | assumption)
            obtain ⟨ad103, e103, hx103_0, hx103_1, hx103_2⟩ := at_T37 HR0_1.out x8_1 p103 q103
            cases e103
            replace hx103_0 := (HB.out.cell (World.block_lt_of_cell? w _ hx103_0)).trans hx103_0
            replace hx103_1 := (HB.out.cell (World.block_lt_of_cell? w _ hx103_1)).trans hx103_1
            replace hx103_2 := (HB.out.cell (World.block_lt_of_cell? w _ hx103_2)).trans hx103_2
            replace p103 := eq_true p103
            replace q103 := eq_true q103
            try go_wp2_with (first | ((with_reducible refine gate_dst (N := 4) rfl ?_); (try (refine gate_guard (by rfl) ?_; dsimp only)); refine box_event ?hg (N := 4) ?hd (cs := #[.int .i64 0, .int .i64 0, .string (⟨#[]⟩ : ByteArray)]) (t := 37) ?hr ?_; (case hd => rfl); (case hg => rfl); (case hr => first | (go_simp; done) | (go_simp; rfl)); intro gb104 hg w40 hbox hb; have n0_ := Aside0.mk (blk_below (g := gb101) (o := .cells #[.bool a0_0, .slice (some ad103) l0_1.length c0_1, .int .i64 a0_2] 24 (0, 0)) (by (with_reducible repeat (first | refine blk_drewN ?_ _ | refine blk_drew ?_ | refine blk_alloc ?_ _)); exact BK101.out) hb); have n1_ := Aside0.mk (below_step (by repeat (first | (with_reducible first | exact HB.out | apply below_alloc | apply pw_below_drewN | apply below_drew1 | refine below_set ?_ GE101.out) | exact HB.out)) hb); have n2_ := Aside0.mk (hbox); have n3_ := Aside0.mk ((by rw [hg]; exact (below_size (by repeat (first | (with_reducible first | exact HB.out | apply below_alloc | apply pw_below_drewN | apply below_drew1 | refine below_set ?_ GE101.out) | exact HB.out))) : w.heap.size ≤ gb104)); have n4_ := Aside0.mk ((by rw [hg]; exact (below_size (by repeat (first | (with_reducible first | exact HB.out | apply below_alloc | apply pw_below_drewN | apply below_drew1 | refine below_set ?_ GE101.out) | exact HB.out))) : w.heap.size ≤ gb104)); have n5_ := Aside0.mk ((by rw [hg]; exact Nat.ne_of_lt (blk_lt (g := gb101) (o := .cells #[.bool a0_0, .slice (some ad103) l0_1.length c0_1, .int .i64 a0_2] 24 (0, 0)) (by (with_reducible repeat (first | refine blk_drewN ?_ _ | refine blk_drew ?_ | refine blk_alloc ?_ _)); exact BK101.out)) : gb101 ≠ gb104)); have n6_ := Aside0.mk ((by rw [hg]; exact Nat.ne_of_gt (blk_lt (g := gb101) (o := .cells #[.bool a0_0, .slice (some ad103) l0_1.length c0_1, .int .i64 a0_2] 24 (0, 0)) (by (with_reducible repeat (first | refine blk_drewN ?_ _ | refine blk_drew ?_ | refine blk_alloc ?_ _)); exact BK101.out)) : gb104 ≠ gb101)); clear BK101; clear HB; have BK101 := n0_; have HB := n1_; have BK104 := n2_; have GW104 := n3_; have GE104 := n4_; have NB101_104 := n5_; have NB104_101 := n6_; clear n0_ n1_ n2_ n3_ n4_ n5_ n6_; clear hb hbox hg; have hnb41 := NB104_101.out; have hnc41 := NB101_104.out; have hcz42_0 : w40.cell? ⟨gb104, 0, none⟩ = some (.int .i64 0) := (blk_cell BK104.out 0).trans rfl; have hcz42_1 : w40.cell? ⟨gb104, 1, none⟩ = some (.int .i64 0) := (blk_cell BK104.out 1).trans rfl; have hcz42_2 : w40.cell? ⟨gb104, 2, none⟩ = some (.string (⟨#[]⟩ : ByteArray)) := (blk_cell BK104.out 2).trans rfl; have hfz42_0 := blk_frozen BK104.out 0; have hfz42_1 := blk_frozen BK104.out 1; have hfz42_2 := blk_frozen BK104.out 2))
            have n0_ : Aside0 ((((w40.setCell ⟨gb104, 0, none⟩ (.int .i64 ((rd_T37 l0_1 x8_1).f0))).setCell ⟨gb104, 1, none⟩ (.int .i64 ((rd_T37 l0_1 x8_1).f1))).setCell ⟨gb104, 2, none⟩ (.string ((rd_T37 l0_1 x8_1).f2))).heap[gb101]? = some (.cells #[.bool a0_0, .slice (some ad103) l0_1.length c0_1, .int .i64 a0_2] 24 (0, 0))) := ⟨by (with_reducible repeat (first | refine blk_drewN ?_ _ | refine blk_drew ?_ | refine blk_alloc ?_ _)); refine blk_far ?_ NB101_104.out _; (with_reducible repeat (first | refine blk_drewN ?_ _ | refine blk_drew ?_ | refine blk_alloc ?_ _)); refine blk_far ?_ NB101_104.out _; (with_reducible repeat (first | refine blk_drewN ?_ _ | refine blk_drew ?_ | refine blk_alloc ?_ _)); refine blk_far ?_ NB101_104.out _; (with_reducible repeat (first | refine blk_drewN ?_ _ | refine blk_drew ?_ | refine blk_alloc ?_ _)); exact BK101.out⟩
            have n1_ : Aside0 ((((w40.setCell ⟨gb104, 0, none⟩ (.int .i64 ((rd_T37 l0_1 x8_1).f0))).setCell ⟨gb104, 1, none⟩ (.int .i64 ((rd_T37 l0_1 x8_1).f1))).setCell ⟨gb104, 2, none⟩ (.string ((rd_T37 l0_1 x8_1).f2))).heap[gb104]? = some (.cells #[.int .i64 ((rd_T37 l0_1 x8_1).f0), .int .i64 ((rd_T37 l0_1 x8_1).f1), .string ((rd_T37 l0_1 x8_1).f2)] 37 (0, 0))) := ⟨by (with_reducible repeat (first | refine blk_drewN ?_ _ | refine blk_drew ?_ | refine blk_alloc ?_ _)); refine blk_put (cs := #[.int .i64 ((rd_T37 l0_1 x8_1).f0), .int .i64 ((rd_T37 l0_1 x8_1).f1), .string (⟨#[]⟩ : ByteArray)]) ?_ 2 _ rfl; (with_reducible repeat (first | refine blk_drewN ?_ _ | refine blk_drew ?_ | refine blk_alloc ?_ _)); refine blk_put (cs := #[.int .i64 ((rd_T37 l0_1 x8_1).f0), .int .i64 0, .string (⟨#[]⟩ : ByteArray)]) ?_ 1 _ rfl; (with_reducible repeat (first | refine blk_drewN ?_ _ | refine blk_drew ?_ | refine blk_alloc ?_ _)); refine blk_put (cs := #[.int .i64 0, .int .i64 0, .string (⟨#[]⟩ : ByteArray)]) ?_ 0 _ rfl; (with_reducible repeat (first | refine blk_drewN ?_ _ | refine blk_drew ?_ | refine blk_alloc ?_ _)); exact BK104.out⟩
            have n2_ : Aside0 (Below w.heap.size w (((w40.setCell ⟨gb104, 0, none⟩ (.int .i64 ((rd_T37 l0_1 x8_1).f0))).setCell ⟨gb104, 1, none⟩ (.int .i64 ((rd_T37 l0_1 x8_1).f1))).setCell ⟨gb104, 2, none⟩ (.string ((rd_T37 l0_1 x8_1).f2)))) := ⟨by repeat (first | (with_reducible first | exact HB.out | apply below_alloc | apply pw_below_drewN | apply below_drew1 | refine below_set ?_ GE101.out | refine below_set ?_ GE104.out) | exact HB.out)⟩
            (try clear BK101)
            (try clear BK104)
            (try clear HB)
            generalize (((w40.setCell ⟨gb104, 0, none⟩ (.int .i64 ((rd_T37 l0_1 x8_1).f0))).setCell ⟨gb104, 1, none⟩ (.int .i64 ((rd_T37 l0_1 x8_1).f1))).setCell ⟨gb104, 2, none⟩ (.string ((rd_T37 l0_1 x8_1).f2))) = w43 at n0_ n1_ n2_ ⊢
            have BK101 := n0_
            have BK104 := n1_
            have HB := n2_
            clear n0_ n1_ n2_
            have n0_ := Aside0.mk (blk_drew BK101.out)
            have n1_ := Aside0.mk (blk_drew BK104.out)
            have n2_ := Aside0.mk (below_drew1 HB.out)
            clear BK101
            clear BK104
            clear HB
            have BK101 := n0_
            have BK104 := n1_
            have HB := n2_
            clear n0_ n1_ n2_
            have p107 : 0 ≤ ((ji11) : Int) := of_decide_eq_true (by first | (with_reducible assumption) | assumption)
            have q107 : (ji11) < (l0_1.length : Int) := of_decide_eq_true (by first | (with_reducible assumption) | assumption)
            obtain ⟨ad107, e107, hx107_0, hx107_1, hx107_2⟩ := at_T37 HR0_1.out (ji11) p107 q107
            have hw107_2 := hx107_2
            have hw107_1 := hx107_1
            have hw107_0 := hx107_0
            obtain rfl : ad103 = ad107 := (by injection e107)
            replace hx107_0 := (HB.out.cell (World.block_lt_of_cell? w _ hx107_0)).trans hx107_0
            replace hx107_1 := (HB.out.cell (World.block_lt_of_cell? w _ hx107_1)).trans hx107_1
            replace hx107_2 := (HB.out.cell (World.block_lt_of_cell? w _ hx107_2)).trans hx107_2
            replace p107 := eq_true p107
            replace q107 := eq_true q107
            refine start_ (n := 40) (S := fun w' => w'.cell? ⟨gb104, 0, none⟩ = some (.int .i64 ((rd_T37 l0_1 x8_1).f0)) ∧ w'.cell? ⟨gb104, 1, none⟩ = some (.int .i64 ((rd_T37 l0_1 x8_1).f1)) ∧ w'.cell? ⟨gb104, 2, none⟩ = some (.string ((rd_T37 l0_1 x8_1).f2)) ∧ w'.cell? ⟨gb101, 0, none⟩ = some (.bool a0_0) ∧ w'.cell? ⟨gb101, 1, none⟩ = some (.slice (some ad103) l0_1.length c0_1) ∧ w'.cell? ⟨gb101, 2, none⟩ = some (.int .i64 a0_2) ∧ w'.cell? (ad103.add (((ji11)).toNat * 3)) = some (.int .i64 ((rd_T37 l0_1 (ji11)).f0)) ∧ w'.cell? ⟨(ad103.add (((ji11)).toNat * 3)).block, (ad103.add (((ji11)).toNat * 3)).off + 1, none⟩ = some (.int .i64 ((rd_T37 l0_1 (ji11)).f1)) ∧ w'.cell? ⟨(ad103.add (((ji11)).toNat * 3)).block, (ad103.add (((ji11)).toNat * 3)).off + 2, none⟩ = some (.string ((rd_T37 l0_1 (ji11)).f2))) (ds := []) (tk_ 40 0) (by kernel_rfl) rfl (by kernel_rfl) ⟨(blk_cell BK104.out 0).trans rfl, (blk_cell BK104.out 1).trans rfl, (blk_cell BK104.out 2).trans rfl, (blk_cell BK101.out 0).trans rfl, (blk_cell BK101.out 1).trans rfl, (blk_cell BK101.out 2).trans rfl, ((HB.out.cell (World.block_lt_of_cell? w _ hw107_0)).trans hw107_0), ((HB.out.cell (World.block_lt_of_cell? w _ hw107_1)).trans hw107_1), ((HB.out.cell (World.block_lt_of_cell? w _ hw107_2)).trans hw107_2)⟩ (fun hHeld => ?_); refine with_tabW font_Check.tab4 font_Check.bits4 (fun HT_ HW_ => ?_)
            generalize w43.drew = w44 at BK101 BK104 HB hx107_0 hx107_1 hx107_2 hHeld ⊢
            refine pu_ 0 13 (tk_ 40 1) HT_.out rfl rfl (by kernel_rfl) (fun _ _ _ h => h) (by rfl) (fun w' => by go_simp; with_reducible rfl) (by simp only [s0_, s1_, s2_, s3_, s4_, s5_]; rfl) ?_
            refine pu_ 2 15 (tk_ 40 5) HT_.out rfl rfl (by kernel_rfl) (fun _ _ _ h => h) (by rfl) (fun w' => by go_simp; with_reducible rfl) (by simp only [s0_, s1_, s2_, s3_, s4_, s5_]; rfl) ?_
            refine ta_ 1 14 (tk_ 40 7) HT_.out HW_.out rfl rfl (by kernel_rfl) (fun _ _ _ h => h) (by rfl) (by rintro w' ⟨s0, s1, s2, s3, s4, s5, s6, s7, s8⟩; go_simp; with_reducible rfl) hHeld (by simp only [s0_, s1_, s2_, s3_, s4_, s5_]; rfl) ?_
            refine ta_ 3 16 (tk_ 40 15) HT_.out HW_.out rfl rfl (by kernel_rfl) (fun _ _ _ h => h) (by rfl) (by rintro w' ⟨s0, s1, s2, s3, s4, s5, s6, s7, s8⟩; go_simp; with_reducible rfl) hHeld (by simp only [s0_, s1_, s2_, s3_, s4_, s5_]; rfl) ?_
            refine one_ (i := 4) (N := some 17) (tk_ 40 31) rfl rfl (one_of HT_.out (by kernel_rfl)) (by decide) (fun K hK => ?_)
            refine goes_ Try.func32 (by kernel_rfl) rfl #[.bool a0_0] (by rfl) rfl rfl (by (try simp only [List.map_toArray, List.map_cons, List.map_nil]); first | done | rfl | (simp only [List.length_drop, List.length_take]; rfl)) ?_
            with_reducible refine (font_top.calls a0_0 t105 _ A7.out).mono ?_
            rintro e w' ⟨rfl, ⟨nd, rfl⟩⟩
            refine ⟨_, rfl, ?_⟩
            refine hK.out _ _ ⟨(blk_cell BK104.out 0).trans rfl, (blk_cell BK104.out 1).trans rfl, (blk_cell BK104.out 2).trans rfl, (blk_cell BK101.out 0).trans rfl, (blk_cell BK101.out 1).trans rfl, (blk_cell BK101.out 2).trans rfl, ((HB.out.cell (World.block_lt_of_cell? w _ hw107_0)).trans hw107_0), ((HB.out.cell (World.block_lt_of_cell? w _ hw107_1)).trans hw107_1), ((HB.out.cell (World.block_lt_of_cell? w _ hw107_2)).trans hw107_2)⟩ (fun hHeld => ?_)
            clear hK K
            refine norm_ (by show Act.put _ (some 17) _ = _; simp only [s0_, s1_, s2_, s3_, s4_, s5_]; rfl) ?_
            refine one_ (i := 5) (N := some 18) (tk_ 40 63) rfl rfl (one_of HT_.out (by kernel_rfl)) (by decide) (fun K hK => ?_)
            refine goes_ Try.func31 (by kernel_rfl) rfl #[.int .i64 0, .int .i64 ((rd_T37 l0_1 x8_1).f0), .int .i64 t105] (by rfl) rfl rfl (by (try simp only [List.map_toArray, List.map_cons, List.map_nil]); first | done | rfl | (simp only [List.length_drop, List.length_take]; rfl)) ?_
            with_reducible refine (font_within_int.calls 0 ((rd_T37 l0_1 x8_1).f0) t105 true _ A8.out).mono ?_
            rintro e w' ⟨rfl, ⟨nd, rfl⟩⟩
            refine ⟨_, rfl, ?_⟩
            refine hK.out _ _ ⟨(blk_cell BK104.out 0).trans rfl, (blk_cell BK104.out 1).trans rfl, (blk_cell BK104.out 2).trans rfl, (blk_cell BK101.out 0).trans rfl, (blk_cell BK101.out 1).trans rfl, (blk_cell BK101.out 2).trans rfl, ((HB.out.cell (World.block_lt_of_cell? w _ hw107_0)).trans hw107_0), ((HB.out.cell (World.block_lt_of_cell? w _ hw107_1)).trans hw107_1), ((HB.out.cell (World.block_lt_of_cell? w _ hw107_2)).trans hw107_2)⟩ (fun hHeld => ?_)
            clear hK K
            refine norm_ (by show Act.put _ (some 18) _ = _; simp only [s0_, s1_, s2_, s3_, s4_, s5_]; rfl) ?_
            refine pu_ 6 19 (tk_ 40 127) HT_.out rfl rfl (by kernel_rfl) (fun _ _ _ h => h) (by rfl) (fun w' => by go_simp; with_reducible rfl) (by simp only [s0_, s1_, s2_, s3_, s4_, s5_]; rfl) ?_
            refine pu_ 7 20 (tk_ 40 255) HT_.out rfl rfl (by kernel_rfl) (fun _ _ _ h => h) (by rfl) (fun w' => by go_simp; with_reducible rfl) (by simp only [s0_, s1_, s2_, s3_, s4_, s5_]; rfl) ?_
            refine pu_ 8 21 (tk_ 40 511) HT_.out rfl rfl (by kernel_rfl) (fun _ _ _ h => h) (by rfl) (fun w' => by go_simp; with_reducible rfl) (by simp only [s0_, s1_, s2_, s3_, s4_, s5_]; rfl) ?_
            refine pu_ 9 22 (tk_ 40 1023) HT_.out rfl rfl (by kernel_rfl) (fun _ _ _ h => h) (by rfl) (fun w' => by go_simp; with_reducible rfl) (by simp only [s0_, s1_, s2_, s3_, s4_, s5_]; rfl) ?_
            refine pu_ 10 23 (tk_ 40 2047) HT_.out rfl rfl (by kernel_rfl) (fun _ _ _ h => h) (by rfl) (fun w' => by go_simp; with_reducible rfl) (by simp only [s0_, s1_, s2_, s3_, s4_, s5_]; rfl) ?_
            refine pu_ 11 24 (tk_ 40 4095) HT_.out rfl rfl (by kernel_rfl) (fun _ _ _ h => h) (by rfl) (fun w' => by go_simp; with_reducible rfl) (by simp only [s0_, s1_, s2_, s3_, s4_, s5_]; rfl) ?_
            refine pu_ 13 26 (tk_ 40 12287) HT_.out rfl rfl (by kernel_rfl) (fun _ _ _ h => h) (by rfl) (fun w' => by go_simp; with_reducible rfl) (by simp only [s0_, s1_, s2_, s3_, s4_, s5_]; rfl) ?_
            refine pu_ 14 27 (tk_ 40 28671) HT_.out rfl rfl (by kernel_rfl) (fun _ _ _ h => h) (by rfl) (fun w' => by go_simp; with_reducible rfl) (by simp only [s0_, s1_, s2_, s3_, s4_, s5_]; rfl) ?_
            refine pu_ 18 31 (tk_ 40 290815) HT_.out rfl rfl (by kernel_rfl) (fun _ _ _ h => h) (by rfl) (fun w' => by go_simp; with_reducible rfl) (by simp only [s0_, s1_, s2_, s3_, s4_, s5_]; rfl) ?_
            refine ta_ 12 25 (tk_ 40 294911) HT_.out HW_.out rfl rfl (by kernel_rfl) (fun _ _ _ h => h) (by rfl) (by rintro w' ⟨s0, s1, s2, s3, s4, s5, s6, s7, s8⟩; go_simp; with_reducible rfl) hHeld (by simp only [s0_, s1_, s2_, s3_, s4_, s5_]; rfl) ?_
            refine pu_ 15 28 (tk_ 40 327679) HT_.out rfl rfl (by kernel_rfl) (fun _ _ _ h => h) (by rfl) (fun w' => by go_simp; with_reducible rfl) (by simp only [s0_, s1_, s2_, s3_, s4_, s5_]; rfl) ?_
            refine pu_ 16 29 (tk_ 40 393215) HT_.out rfl rfl (by kernel_rfl) (fun _ _ _ h => h) (by rfl) (fun w' => by go_simp; with_reducible rfl) (by simp only [s0_, s1_, s2_, s3_, s4_, s5_]; rfl) ?_
            refine ta_ 17 30 (tk_ 40 524287) HT_.out HW_.out rfl rfl (by kernel_rfl) (fun _ _ _ h => h) (by rfl) (by rintro w' ⟨s0, s1, s2, s3, s4, s5, s6, s7, s8⟩; go_simp; with_reducible rfl) hHeld (by simp only [s0_, s1_, s2_, s3_, s4_, s5_]; rfl) ?_
            refine ta_ 19 32 (tk_ 40 1048575) HT_.out HW_.out rfl rfl (by kernel_rfl) (fun _ _ _ h => h) (by rfl) (by rintro w' ⟨s0, s1, s2, s3, s4, s5, s6, s7, s8⟩; go_simp; with_reducible rfl) hHeld (by simp only [s0_, s1_, s2_, s3_, s4_, s5_]; rfl) ?_
            refine pu_ 20 33 (tk_ 40 2097151) HT_.out rfl rfl (by kernel_rfl) (fun _ _ _ h => h) (by rfl) (fun w' => by go_simp; with_reducible rfl) (by simp only [s0_, s1_, s2_, s3_, s4_, s5_]; rfl) ?_
            refine pu_ 21 34 (tk_ 40 4194303) HT_.out rfl rfl (by kernel_rfl) (fun _ _ _ h => h) (by rfl) (fun w' => by go_simp; with_reducible rfl) (by simp only [s0_, s1_, s2_, s3_, s4_, s5_]; rfl) ?_
            refine pu_ 22 35 (tk_ 40 8388607) HT_.out rfl rfl (by kernel_rfl) (fun _ _ _ h => h) (by rfl) (fun w' => by go_simp; with_reducible rfl) (by simp only [s0_, s1_, s2_, s3_, s4_, s5_]; rfl) ?_
            refine pu_ 23 36 (tk_ 40 16777215) HT_.out rfl rfl (by kernel_rfl) (fun _ _ _ h => h) (by rfl) (fun w' => by go_simp; with_reducible rfl) (by simp only [s0_, s1_, s2_, s3_, s4_, s5_]; rfl) ?_
            refine pu_ 24 37 (tk_ 40 33554431) HT_.out rfl rfl (by kernel_rfl) (fun _ _ _ h => h) (by rfl) (fun w' => by go_simp; with_reducible rfl) (by simp only [s0_, s1_, s2_, s3_, s4_, s5_]; rfl) ?_
            refine ta_ 25 38 (tk_ 40 67108863) HT_.out HW_.out rfl rfl (by kernel_rfl) (fun _ _ _ h => h) (by rfl) (by rintro w' ⟨s0, s1, s2, s3, s4, s5, s6, s7, s8⟩; go_simp; with_reducible rfl) hHeld (by simp only [s0_, s1_, s2_, s3_, s4_, s5_]; rfl) ?_
            refine one_ (i := 26) (N := some 39) (tk_ 40 134217727) rfl rfl (one_of HT_.out (by kernel_rfl)) (by decide) (fun K hK => ?_)
            refine goes_ Try.func31 (by kernel_rfl) rfl #[.int .i64 0, .int .i64 ((rd_T37 l0_1 x8_1).f1), .int .i64 10000] (by rfl) rfl rfl (by (try simp only [List.map_toArray, List.map_cons, List.map_nil]); first | done | rfl | (simp only [List.length_drop, List.length_take]; rfl)) ?_
            with_reducible refine (font_within_int.calls 0 ((rd_T37 l0_1 x8_1).f1) 10000 false _ A20.out).mono ?_
            rintro e w' ⟨rfl, ⟨nd, rfl⟩⟩
            refine ⟨_, rfl, ?_⟩
            refine hK.out _ _ ⟨(blk_cell BK104.out 0).trans rfl, (blk_cell BK104.out 1).trans rfl, (blk_cell BK104.out 2).trans rfl, (blk_cell BK101.out 0).trans rfl, (blk_cell BK101.out 1).trans rfl, (blk_cell BK101.out 2).trans rfl, ((HB.out.cell (World.block_lt_of_cell? w _ hw107_0)).trans hw107_0), ((HB.out.cell (World.block_lt_of_cell? w _ hw107_1)).trans hw107_1), ((HB.out.cell (World.block_lt_of_cell? w _ hw107_2)).trans hw107_2)⟩ (fun hHeld => ?_)
            clear hK K
            refine norm_ (by show Act.put _ (some 39) _ = _; simp only [s0_, s1_, s2_, s3_, s4_, s5_]; rfl) ?_
            refine pu_ 27 40 (tk_ 40 268435455) HT_.out rfl rfl (by kernel_rfl) (fun _ _ _ h => h) (by rfl) (fun w' => by go_simp; with_reducible rfl) (by simp only [s0_, s1_, s2_, s3_, s4_, s5_]; rfl) ?_
            refine pu_ 28 41 (tk_ 40 536870911) HT_.out rfl rfl (by kernel_rfl) (fun _ _ _ h => h) (by rfl) (fun w' => by go_simp; with_reducible rfl) (by simp only [s0_, s1_, s2_, s3_, s4_, s5_]; rfl) ?_
            refine pu_ 29 42 (tk_ 40 1073741823) HT_.out rfl rfl (by kernel_rfl) (fun _ _ _ h => h) (by rfl) (fun w' => by go_simp; with_reducible rfl) (by simp only [s0_, s1_, s2_, s3_, s4_, s5_]; rfl) ?_
            refine sk_ 30 43 (tk_ 40 2147483647) HT_.out rfl rfl (by kernel_rfl) (fun _ _ _ h => h) (by rfl) (by simp only [s0_, s1_, s2_, s3_, s4_, s5_]; rfl) ?_
            refine sk_ 31 44 (tk_ 40 4294967295) HT_.out rfl rfl (by kernel_rfl) (fun _ _ _ h => h) (by rfl) (by simp only [s0_, s1_, s2_, s3_, s4_, s5_]; rfl) ?_
            refine sk_ 32 45 (tk_ 40 8589934591) HT_.out rfl rfl (by kernel_rfl) (fun _ _ _ h => h) (by rfl) (by simp only [s0_, s1_, s2_, s3_, s4_, s5_]; rfl) ?_
            refine sk_ 33 46 (tk_ 40 17179869183) HT_.out rfl rfl (by kernel_rfl) (fun _ _ _ h => h) (by rfl) (by simp only [s0_, s1_, s2_, s3_, s4_, s5_]; rfl) ?_
            refine sk_ 34 47 (tk_ 40 34359738367) HT_.out rfl rfl (by kernel_rfl) (fun _ _ _ h => h) (by rfl) (by simp only [s0_, s1_, s2_, s3_, s4_, s5_]; rfl) ?_
            refine sk_ 35 48 (tk_ 40 68719476735) HT_.out rfl rfl (by kernel_rfl) (fun _ _ _ h => h) (by rfl) (by simp only [s0_, s1_, s2_, s3_, s4_, s5_]; rfl) ?_
            refine sk_ 36 49 (tk_ 40 137438953471) HT_.out rfl rfl (by kernel_rfl) (fun _ _ _ h => h) (by rfl) (by simp only [s0_, s1_, s2_, s3_, s4_, s5_]; rfl) ?_
            refine sk_ 37 50 (tk_ 40 274877906943) HT_.out rfl rfl (by kernel_rfl) (fun _ _ _ h => h) (by rfl) (by simp only [s0_, s1_, s2_, s3_, s4_, s5_]; rfl) ?_
            refine sk_ 38 51 (tk_ 40 549755813887) HT_.out rfl rfl (by kernel_rfl) (fun _ _ _ h => h) (by rfl) (by simp only [s0_, s1_, s2_, s3_, s4_, s5_]; rfl) ?_
            refine pu_ 39 52 (tk_ 40 1099511627775) HT_.out rfl rfl (by kernel_rfl) (fun _ _ _ h => h) (by rfl) (fun w' => by go_simp; with_reducible rfl) (by simp only [s0_, s1_, s2_, s3_, s4_, s5_]; rfl) ?_
            refine done_ (done_of HT_.out (by kernel_rfl)) ?_
            try go_wp2
            go_ret
            exact ⟨by first | rfl | (simp [errW_none, errW_some] <;> rfl) | (simp only [← hji11]; first | rfl | (simp [errW_none, errW_some] <;> rfl)) | (simp [*, errW_none, errW_some] <;> rfl), by repeat (first | (with_reducible first | exact HB.out | apply below_alloc | apply pw_below_drewN | apply below_drew1 | refine below_set ?_ GE101.out | refine below_set ?_ GE104.out) | exact HB.out)⟩
         ·rw [if_neg c13] at H
          exact absurd H (by simp)
        ·rw [if_neg c12] at H
         exact absurd H (by simp)
       ·rw [if_neg c10] at H
        have c10b0 : decide (0 < x8_1) = false := decide_eq_false c10
        clear c10
        replace H := Option.bind_eq_some_iff.mp H
        obtain ⟨t110, A450, H⟩ := H
        replace H : (if t110 = true then (if ((rd_T37 l0_1 x8_1).f2).toList = ([] : List UInt8) then (font_Check.l0 k1 l0_1 (l0_1.length : Int) (wrap64 (x8_1 + 1)) a0_0 l0_1 a0_2) else ((font_means.f ((rd_T37 l0_1 x8_1).f2)).bind fun t111 => (if t111 = true then (font_Check.l0 k1 l0_1 (l0_1.length : Int) (wrap64 (x8_1 + 1)) a0_0 l0_1 a0_2) else (some 1)))) else (some 1)) = some r := H
        have A45 := Aside0.mk A450
        clear A450
        by_cases c46 : t110 = true
        ·subst c46
         have H1 : (if ((rd_T37 l0_1 x8_1).f2).toList = ([] : List UInt8) then (font_Check.l0 k1 l0_1 (l0_1.length : Int) (wrap64 (x8_1 + 1)) a0_0 l0_1 a0_2) else ((font_means.f ((rd_T37 l0_1 x8_1).f2)).bind fun t111 => (if t111 = true then (font_Check.l0 k1 l0_1 (l0_1.length : Int) (wrap64 (x8_1 + 1)) a0_0 l0_1 a0_2) else (some 1)))) = some r := by rw [if_pos rfl] at H; exact H
         clear H
         have H := H1
         clear H1
         by_cases c47 : ((rd_T37 l0_1 x8_1).f2).toList = ([] : List UInt8)
         ·rw [if_pos c47] at H
          have c47b0 : (((rd_T37 l0_1 x8_1).f2).toList == ([] : List UInt8)) = true := beq_iff_eq.mpr c47
          have c47b1 : (((rd_T37 l0_1 x8_1).f2).toList != ([] : List UInt8)) = false := bne_eq_false_iff_eq.mpr c47
          clear c47
          have H' := Aside0.mk H
          clear H
          have p103 : 0 ≤ (x8_1 : Int) := of_decide_eq_true (by first | (with_reducible assumption) | assumption)
          have q103 : x8_1 < (l0_1.length : Int) := of_decide_eq_true (by first | (with_reducible assumption) | assumption)
          obtain ⟨ad103, e103, hx103_0, hx103_1, hx103_2⟩ := at_T37 HR0_1.out x8_1 p103 q103
          cases e103
          replace hx103_0 := (HB.out.cell (World.block_lt_of_cell? w _ hx103_0)).trans hx103_0
          replace hx103_1 := (HB.out.cell (World.block_lt_of_cell? w _ hx103_1)).trans hx103_1
          replace hx103_2 := (HB.out.cell (World.block_lt_of_cell? w _ hx103_2)).trans hx103_2
          replace p103 := eq_true p103
          replace q103 := eq_true q103
          try go_wp2_with (first | ((with_reducible refine gate_dst (N := 4) rfl ?_); (try (refine gate_guard (by rfl) ?_; dsimp only)); refine box_event ?hg (N := 4) ?hd (cs := #[.int .i64 0, .int .i64 0, .string (⟨#[]⟩ : ByteArray)]) (t := 37) ?hr ?_; (case hd => rfl); (case hg => rfl); (case hr => first | (go_simp; done) | (go_simp; rfl)); intro gb104 hg w48 hbox hb; have n0_ := Aside0.mk (blk_below (g := gb101) (o := .cells #[.bool a0_0, .slice (some ad103) l0_1.length c0_1, .int .i64 a0_2] 24 (0, 0)) (by (with_reducible repeat (first | refine blk_drewN ?_ _ | refine blk_drew ?_ | refine blk_alloc ?_ _)); exact BK101.out) hb); have n1_ := Aside0.mk (below_step (by repeat (first | (with_reducible first | exact HB.out | apply below_alloc | apply pw_below_drewN | apply below_drew1 | refine below_set ?_ GE101.out) | exact HB.out)) hb); have n2_ := Aside0.mk (hbox); have n3_ := Aside0.mk ((by rw [hg]; exact (below_size (by repeat (first | (with_reducible first | exact HB.out | apply below_alloc | apply pw_below_drewN | apply below_drew1 | refine below_set ?_ GE101.out) | exact HB.out))) : w.heap.size ≤ gb104)); have n4_ := Aside0.mk ((by rw [hg]; exact (below_size (by repeat (first | (with_reducible first | exact HB.out | apply below_alloc | apply pw_below_drewN | apply below_drew1 | refine below_set ?_ GE101.out) | exact HB.out))) : w.heap.size ≤ gb104)); have n5_ := Aside0.mk ((by rw [hg]; exact Nat.ne_of_lt (blk_lt (g := gb101) (o := .cells #[.bool a0_0, .slice (some ad103) l0_1.length c0_1, .int .i64 a0_2] 24 (0, 0)) (by (with_reducible repeat (first | refine blk_drewN ?_ _ | refine blk_drew ?_ | refine blk_alloc ?_ _)); exact BK101.out)) : gb101 ≠ gb104)); have n6_ := Aside0.mk ((by rw [hg]; exact Nat.ne_of_gt (blk_lt (g := gb101) (o := .cells #[.bool a0_0, .slice (some ad103) l0_1.length c0_1, .int .i64 a0_2] 24 (0, 0)) (by (with_reducible repeat (first | refine blk_drewN ?_ _ | refine blk_drew ?_ | refine blk_alloc ?_ _)); exact BK101.out)) : gb104 ≠ gb101)); clear BK101; clear HB; have BK101 := n0_; have HB := n1_; have BK104 := n2_; have GW104 := n3_; have GE104 := n4_; have NB101_104 := n5_; have NB104_101 := n6_; clear n0_ n1_ n2_ n3_ n4_ n5_ n6_; clear hb hbox hg; have hnb49 := NB104_101.out; have hnc49 := NB101_104.out; have hcz50_0 : w48.cell? ⟨gb104, 0, none⟩ = some (.int .i64 0) := (blk_cell BK104.out 0).trans rfl; have hcz50_1 : w48.cell? ⟨gb104, 1, none⟩ = some (.int .i64 0) := (blk_cell BK104.out 1).trans rfl; have hcz50_2 : w48.cell? ⟨gb104, 2, none⟩ = some (.string (⟨#[]⟩ : ByteArray)) := (blk_cell BK104.out 2).trans rfl; have hfz50_0 := blk_frozen BK104.out 0; have hfz50_1 := blk_frozen BK104.out 1; have hfz50_2 := blk_frozen BK104.out 2))
          have n0_ : Aside0 ((((w48.setCell ⟨gb104, 0, none⟩ (.int .i64 ((rd_T37 l0_1 x8_1).f0))).setCell ⟨gb104, 1, none⟩ (.int .i64 ((rd_T37 l0_1 x8_1).f1))).setCell ⟨gb104, 2, none⟩ (.string ((rd_T37 l0_1 x8_1).f2))).heap[gb101]? = some (.cells #[.bool a0_0, .slice (some ad103) l0_1.length c0_1, .int .i64 a0_2] 24 (0, 0))) := ⟨by (with_reducible repeat (first | refine blk_drewN ?_ _ | refine blk_drew ?_ | refine blk_alloc ?_ _)); refine blk_far ?_ NB101_104.out _; (with_reducible repeat (first | refine blk_drewN ?_ _ | refine blk_drew ?_ | refine blk_alloc ?_ _)); refine blk_far ?_ NB101_104.out _; (with_reducible repeat (first | refine blk_drewN ?_ _ | refine blk_drew ?_ | refine blk_alloc ?_ _)); refine blk_far ?_ NB101_104.out _; (with_reducible repeat (first | refine blk_drewN ?_ _ | refine blk_drew ?_ | refine blk_alloc ?_ _)); exact BK101.out⟩
          have n1_ : Aside0 ((((w48.setCell ⟨gb104, 0, none⟩ (.int .i64 ((rd_T37 l0_1 x8_1).f0))).setCell ⟨gb104, 1, none⟩ (.int .i64 ((rd_T37 l0_1 x8_1).f1))).setCell ⟨gb104, 2, none⟩ (.string ((rd_T37 l0_1 x8_1).f2))).heap[gb104]? = some (.cells #[.int .i64 ((rd_T37 l0_1 x8_1).f0), .int .i64 ((rd_T37 l0_1 x8_1).f1), .string ((rd_T37 l0_1 x8_1).f2)] 37 (0, 0))) := ⟨by (with_reducible repeat (first | refine blk_drewN ?_ _ | refine blk_drew ?_ | refine blk_alloc ?_ _)); refine blk_put (cs := #[.int .i64 ((rd_T37 l0_1 x8_1).f0), .int .i64 ((rd_T37 l0_1 x8_1).f1), .string (⟨#[]⟩ : ByteArray)]) ?_ 2 _ rfl; (with_reducible repeat (first | refine blk_drewN ?_ _ | refine blk_drew ?_ | refine blk_alloc ?_ _)); refine blk_put (cs := #[.int .i64 ((rd_T37 l0_1 x8_1).f0), .int .i64 0, .string (⟨#[]⟩ : ByteArray)]) ?_ 1 _ rfl; (with_reducible repeat (first | refine blk_drewN ?_ _ | refine blk_drew ?_ | refine blk_alloc ?_ _)); refine blk_put (cs := #[.int .i64 0, .int .i64 0, .string (⟨#[]⟩ : ByteArray)]) ?_ 0 _ rfl; (with_reducible repeat (first | refine blk_drewN ?_ _ | refine blk_drew ?_ | refine blk_alloc ?_ _)); exact BK104.out⟩
          have n2_ : Aside0 (Below w.heap.size w (((w48.setCell ⟨gb104, 0, none⟩ (.int .i64 ((rd_T37 l0_1 x8_1).f0))).setCell ⟨gb104, 1, none⟩ (.int .i64 ((rd_T37 l0_1 x8_1).f1))).setCell ⟨gb104, 2, none⟩ (.string ((rd_T37 l0_1 x8_1).f2)))) := ⟨by repeat (first | (with_reducible first | exact HB.out | apply below_alloc | apply pw_below_drewN | apply below_drew1 | refine below_set ?_ GE101.out | refine below_set ?_ GE104.out) | exact HB.out)⟩
          (try clear BK101)
          (try clear BK104)
          (try clear HB)
          generalize (((w48.setCell ⟨gb104, 0, none⟩ (.int .i64 ((rd_T37 l0_1 x8_1).f0))).setCell ⟨gb104, 1, none⟩ (.int .i64 ((rd_T37 l0_1 x8_1).f1))).setCell ⟨gb104, 2, none⟩ (.string ((rd_T37 l0_1 x8_1).f2))) = w51 at n0_ n1_ n2_ ⊢
          have BK101 := n0_
          have BK104 := n1_
          have HB := n2_
          clear n0_ n1_ n2_
          have n0_ := Aside0.mk (blk_drew BK101.out)
          have n1_ := Aside0.mk (blk_drew BK104.out)
          have n2_ := Aside0.mk (below_drew1 HB.out)
          clear BK101
          clear BK104
          clear HB
          have BK101 := n0_
          have BK104 := n1_
          have HB := n2_
          clear n0_ n1_ n2_
          refine start_ (n := 40) (S := fun w' => w'.cell? ⟨gb104, 0, none⟩ = some (.int .i64 ((rd_T37 l0_1 x8_1).f0)) ∧ w'.cell? ⟨gb104, 1, none⟩ = some (.int .i64 ((rd_T37 l0_1 x8_1).f1)) ∧ w'.cell? ⟨gb104, 2, none⟩ = some (.string ((rd_T37 l0_1 x8_1).f2)) ∧ w'.cell? ⟨gb101, 0, none⟩ = some (.bool a0_0) ∧ w'.cell? ⟨gb101, 1, none⟩ = some (.slice (some ad103) l0_1.length c0_1) ∧ w'.cell? ⟨gb101, 2, none⟩ = some (.int .i64 a0_2)) (ds := []) (tk_ 40 0) (by kernel_rfl) rfl (by kernel_rfl) ⟨(blk_cell BK104.out 0).trans rfl, (blk_cell BK104.out 1).trans rfl, (blk_cell BK104.out 2).trans rfl, (blk_cell BK101.out 0).trans rfl, (blk_cell BK101.out 1).trans rfl, (blk_cell BK101.out 2).trans rfl⟩ (fun hHeld => ?_); refine with_tabW font_Check.tab4 font_Check.bits4 (fun HT_ HW_ => ?_)
          generalize w51.drew = w52 at BK101 BK104 HB hHeld ⊢
          refine pu_ 0 13 (tk_ 40 1) HT_.out rfl rfl (by kernel_rfl) (fun _ _ _ h => h) (by rfl) (fun w' => by go_simp; with_reducible rfl) (by simp only [s0_, s1_, s2_, s3_, s4_, s5_]; rfl) ?_
          refine pu_ 2 15 (tk_ 40 5) HT_.out rfl rfl (by kernel_rfl) (fun _ _ _ h => h) (by rfl) (fun w' => by go_simp; with_reducible rfl) (by simp only [s0_, s1_, s2_, s3_, s4_, s5_]; rfl) ?_
          refine ta_ 1 14 (tk_ 40 7) HT_.out HW_.out rfl rfl (by kernel_rfl) (fun _ _ _ h => h) (by rfl) (by rintro w' ⟨s0, s1, s2, s3, s4, s5⟩; go_simp; with_reducible rfl) hHeld (by simp only [s0_, s1_, s2_, s3_, s4_, s5_]; rfl) ?_
          refine ta_ 3 16 (tk_ 40 15) HT_.out HW_.out rfl rfl (by kernel_rfl) (fun _ _ _ h => h) (by rfl) (by rintro w' ⟨s0, s1, s2, s3, s4, s5⟩; go_simp; with_reducible rfl) hHeld (by simp only [s0_, s1_, s2_, s3_, s4_, s5_]; rfl) ?_
          refine one_ (i := 4) (N := some 17) (tk_ 40 31) rfl rfl (one_of HT_.out (by kernel_rfl)) (by decide) (fun K hK => ?_)
          refine goes_ Try.func32 (by kernel_rfl) rfl #[.bool a0_0] (by rfl) rfl rfl (by (try simp only [List.map_toArray, List.map_cons, List.map_nil]); first | done | rfl | (simp only [List.length_drop, List.length_take]; rfl)) ?_
          with_reducible refine (font_top.calls a0_0 t105 _ A7.out).mono ?_
          rintro e w' ⟨rfl, ⟨nd, rfl⟩⟩
          refine ⟨_, rfl, ?_⟩
          refine hK.out _ _ ⟨(blk_cell BK104.out 0).trans rfl, (blk_cell BK104.out 1).trans rfl, (blk_cell BK104.out 2).trans rfl, (blk_cell BK101.out 0).trans rfl, (blk_cell BK101.out 1).trans rfl, (blk_cell BK101.out 2).trans rfl⟩ (fun hHeld => ?_)
          clear hK K
          refine norm_ (by show Act.put _ (some 17) _ = _; simp only [s0_, s1_, s2_, s3_, s4_, s5_]; rfl) ?_
          refine one_ (i := 5) (N := some 18) (tk_ 40 63) rfl rfl (one_of HT_.out (by kernel_rfl)) (by decide) (fun K hK => ?_)
          refine goes_ Try.func31 (by kernel_rfl) rfl #[.int .i64 0, .int .i64 ((rd_T37 l0_1 x8_1).f0), .int .i64 t105] (by rfl) rfl rfl (by (try simp only [List.map_toArray, List.map_cons, List.map_nil]); first | done | rfl | (simp only [List.length_drop, List.length_take]; rfl)) ?_
          with_reducible refine (font_within_int.calls 0 ((rd_T37 l0_1 x8_1).f0) t105 true _ A8.out).mono ?_
          rintro e w' ⟨rfl, ⟨nd, rfl⟩⟩
          refine ⟨_, rfl, ?_⟩
          refine hK.out _ _ ⟨(blk_cell BK104.out 0).trans rfl, (blk_cell BK104.out 1).trans rfl, (blk_cell BK104.out 2).trans rfl, (blk_cell BK101.out 0).trans rfl, (blk_cell BK101.out 1).trans rfl, (blk_cell BK101.out 2).trans rfl⟩ (fun hHeld => ?_)
          clear hK K
          refine norm_ (by show Act.put _ (some 18) _ = _; simp only [s0_, s1_, s2_, s3_, s4_, s5_]; rfl) ?_
          refine pu_ 6 19 (tk_ 40 127) HT_.out rfl rfl (by kernel_rfl) (fun _ _ _ h => h) (by rfl) (fun w' => by go_simp; with_reducible rfl) (by simp only [s0_, s1_, s2_, s3_, s4_, s5_]; rfl) ?_
          refine pu_ 7 20 (tk_ 40 255) HT_.out rfl rfl (by kernel_rfl) (fun _ _ _ h => h) (by rfl) (fun w' => by go_simp; with_reducible rfl) (by simp only [s0_, s1_, s2_, s3_, s4_, s5_]; rfl) ?_
          refine pu_ 8 21 (tk_ 40 511) HT_.out rfl rfl (by kernel_rfl) (fun _ _ _ h => h) (by rfl) (fun w' => by go_simp; with_reducible rfl) (by simp only [s0_, s1_, s2_, s3_, s4_, s5_]; rfl) ?_
          refine pu_ 9 22 (tk_ 40 1023) HT_.out rfl rfl (by kernel_rfl) (fun _ _ _ h => h) (by rfl) (fun w' => by go_simp; with_reducible rfl) (by simp only [s0_, s1_, s2_, s3_, s4_, s5_]; rfl) ?_
          refine pu_ 10 23 (tk_ 40 2047) HT_.out rfl rfl (by kernel_rfl) (fun _ _ _ h => h) (by rfl) (fun w' => by go_simp; with_reducible rfl) (by simp only [s0_, s1_, s2_, s3_, s4_, s5_]; rfl) ?_
          refine sk_ 11 24 (tk_ 40 4095) HT_.out rfl rfl (by kernel_rfl) (fun _ _ _ h => h) (by rfl) (by simp only [s0_, s1_, s2_, s3_, s4_, s5_]; rfl) ?_
          refine sk_ 12 25 (tk_ 40 8191) HT_.out rfl rfl (by kernel_rfl) (fun _ _ _ h => h) (by rfl) (by simp only [s0_, s1_, s2_, s3_, s4_, s5_]; rfl) ?_
          refine sk_ 13 26 (tk_ 40 16383) HT_.out rfl rfl (by kernel_rfl) (fun _ _ _ h => h) (by rfl) (by simp only [s0_, s1_, s2_, s3_, s4_, s5_]; rfl) ?_
          refine sk_ 14 27 (tk_ 40 32767) HT_.out rfl rfl (by kernel_rfl) (fun _ _ _ h => h) (by rfl) (by simp only [s0_, s1_, s2_, s3_, s4_, s5_]; rfl) ?_
          refine sk_ 15 28 (tk_ 40 65535) HT_.out rfl rfl (by kernel_rfl) (fun _ _ _ h => h) (by rfl) (by simp only [s0_, s1_, s2_, s3_, s4_, s5_]; rfl) ?_
          refine sk_ 16 29 (tk_ 40 131071) HT_.out rfl rfl (by kernel_rfl) (fun _ _ _ h => h) (by rfl) (by simp only [s0_, s1_, s2_, s3_, s4_, s5_]; rfl) ?_
          refine sk_ 17 30 (tk_ 40 262143) HT_.out rfl rfl (by kernel_rfl) (fun _ _ _ h => h) (by rfl) (by simp only [s0_, s1_, s2_, s3_, s4_, s5_]; rfl) ?_
          refine sk_ 18 31 (tk_ 40 524287) HT_.out rfl rfl (by kernel_rfl) (fun _ _ _ h => h) (by rfl) (by simp only [s0_, s1_, s2_, s3_, s4_, s5_]; rfl) ?_
          refine sk_ 19 32 (tk_ 40 1048575) HT_.out rfl rfl (by kernel_rfl) (fun _ _ _ h => h) (by rfl) (by simp only [s0_, s1_, s2_, s3_, s4_, s5_]; rfl) ?_
          refine sk_ 20 33 (tk_ 40 2097151) HT_.out rfl rfl (by kernel_rfl) (fun _ _ _ h => h) (by rfl) (by simp only [s0_, s1_, s2_, s3_, s4_, s5_]; rfl) ?_
          refine pu_ 21 34 (tk_ 40 4194303) HT_.out rfl rfl (by kernel_rfl) (fun _ _ _ h => h) (by rfl) (fun w' => by go_simp; with_reducible rfl) (by simp only [s0_, s1_, s2_, s3_, s4_, s5_]; rfl) ?_
          refine pu_ 22 35 (tk_ 40 8388607) HT_.out rfl rfl (by kernel_rfl) (fun _ _ _ h => h) (by rfl) (fun w' => by go_simp; with_reducible rfl) (by simp only [s0_, s1_, s2_, s3_, s4_, s5_]; rfl) ?_
          refine pu_ 23 36 (tk_ 40 16777215) HT_.out rfl rfl (by kernel_rfl) (fun _ _ _ h => h) (by rfl) (fun w' => by go_simp; with_reducible rfl) (by simp only [s0_, s1_, s2_, s3_, s4_, s5_]; rfl) ?_
          refine pu_ 24 37 (tk_ 40 33554431) HT_.out rfl rfl (by kernel_rfl) (fun _ _ _ h => h) (by rfl) (fun w' => by go_simp; with_reducible rfl) (by simp only [s0_, s1_, s2_, s3_, s4_, s5_]; rfl) ?_
          refine ta_ 25 38 (tk_ 40 67108863) HT_.out HW_.out rfl rfl (by kernel_rfl) (fun _ _ _ h => h) (by rfl) (by rintro w' ⟨s0, s1, s2, s3, s4, s5⟩; go_simp; with_reducible rfl) hHeld (by simp only [s0_, s1_, s2_, s3_, s4_, s5_]; rfl) ?_
          refine one_ (i := 26) (N := some 39) (tk_ 40 134217727) rfl rfl (one_of HT_.out (by kernel_rfl)) (by decide) (fun K hK => ?_)
          refine goes_ Try.func31 (by kernel_rfl) rfl #[.int .i64 0, .int .i64 ((rd_T37 l0_1 x8_1).f1), .int .i64 10000] (by rfl) rfl rfl (by (try simp only [List.map_toArray, List.map_cons, List.map_nil]); first | done | rfl | (simp only [List.length_drop, List.length_take]; rfl)) ?_
          with_reducible refine (font_within_int.calls 0 ((rd_T37 l0_1 x8_1).f1) 10000 true _ A45.out).mono ?_
          rintro e w' ⟨rfl, ⟨nd, rfl⟩⟩
          refine ⟨_, rfl, ?_⟩
          refine hK.out _ _ ⟨(blk_cell BK104.out 0).trans rfl, (blk_cell BK104.out 1).trans rfl, (blk_cell BK104.out 2).trans rfl, (blk_cell BK101.out 0).trans rfl, (blk_cell BK101.out 1).trans rfl, (blk_cell BK101.out 2).trans rfl⟩ (fun hHeld => ?_)
          clear hK K
          refine norm_ (by show Act.put _ (some 39) _ = _; simp only [s0_, s1_, s2_, s3_, s4_, s5_]; rfl) ?_
          refine pu_ 27 40 (tk_ 40 268435455) HT_.out rfl rfl (by kernel_rfl) (fun _ _ _ h => h) (by rfl) (fun w' => by go_simp; with_reducible rfl) (by simp only [s0_, s1_, s2_, s3_, s4_, s5_]; rfl) ?_
          refine pu_ 28 41 (tk_ 40 536870911) HT_.out rfl rfl (by kernel_rfl) (fun _ _ _ h => h) (by rfl) (fun w' => by go_simp; with_reducible rfl) (by simp only [s0_, s1_, s2_, s3_, s4_, s5_]; rfl) ?_
          refine pu_ 29 42 (tk_ 40 1073741823) HT_.out rfl rfl (by kernel_rfl) (fun _ _ _ h => h) (by rfl) (fun w' => by go_simp; with_reducible rfl) (by simp only [s0_, s1_, s2_, s3_, s4_, s5_]; rfl) ?_
          refine pu_ 30 43 (tk_ 40 2147483647) HT_.out rfl rfl (by kernel_rfl) (fun _ _ _ h => h) (by rfl) (fun w' => by go_simp; with_reducible rfl) (by simp only [s0_, s1_, s2_, s3_, s4_, s5_]; rfl) ?_
          refine ta_ 31 44 (tk_ 40 4294967295) HT_.out HW_.out rfl rfl (by kernel_rfl) (fun _ _ _ h => h) (by rfl) (by rintro w' ⟨s0, s1, s2, s3, s4, s5⟩; go_simp; with_reducible rfl) hHeld (by simp only [s0_, s1_, s2_, s3_, s4_, s5_]; rfl) ?_
          refine pu_ 32 45 (tk_ 40 8589934591) HT_.out rfl rfl (by kernel_rfl) (fun _ _ _ h => h) (by rfl) (fun w' => by go_simp; with_reducible rfl) (by simp only [s0_, s1_, s2_, s3_, s4_, s5_]; rfl) ?_
          refine pu_ 33 46 (tk_ 40 17179869183) HT_.out rfl rfl (by kernel_rfl) (fun _ _ _ h => h) (by rfl) (fun w' => by go_simp; with_reducible rfl) (by simp only [s0_, s1_, s2_, s3_, s4_, s5_]; rfl) ?_
          refine sk_ 34 47 (tk_ 40 34359738367) HT_.out rfl rfl (by kernel_rfl) (fun _ _ _ h => h) (by rfl) (by simp only [s0_, s1_, s2_, s3_, s4_, s5_]; rfl) ?_
          refine sk_ 35 48 (tk_ 40 68719476735) HT_.out rfl rfl (by kernel_rfl) (fun _ _ _ h => h) (by rfl) (by simp only [s0_, s1_, s2_, s3_, s4_, s5_]; rfl) ?_
          refine sk_ 36 49 (tk_ 40 137438953471) HT_.out rfl rfl (by kernel_rfl) (fun _ _ _ h => h) (by rfl) (by simp only [s0_, s1_, s2_, s3_, s4_, s5_]; rfl) ?_
          refine sk_ 37 50 (tk_ 40 274877906943) HT_.out rfl rfl (by kernel_rfl) (fun _ _ _ h => h) (by rfl) (by simp only [s0_, s1_, s2_, s3_, s4_, s5_]; rfl) ?_
          refine pu_ 38 51 (tk_ 40 549755813887) HT_.out rfl rfl (by kernel_rfl) (fun _ _ _ h => h) (by rfl) (fun w' => by go_simp; with_reducible rfl) (by simp only [s0_, s1_, s2_, s3_, s4_, s5_]; rfl) ?_
          refine pu_ 39 52 (tk_ 40 1099511627775) HT_.out rfl rfl (by kernel_rfl) (fun _ _ _ h => h) (by rfl) (fun w' => by go_simp; with_reducible rfl) (by simp only [s0_, s1_, s2_, s3_, s4_, s5_]; rfl) ?_
          refine done_ (done_of HT_.out (by kernel_rfl)) ?_
          try go_wp2
          go_roundg k1
          case measure => have := HK1.out; omega
          case rel => exact ⟨(wrap64 (x8_1 + 1)), (by first | rfl | (simp; done) | (simp [*]; done)), H', ⟨by have := HK1.out; omega⟩, ⟨by (with_reducible repeat (first | refine blk_drewN ?_ _ | refine blk_drew ?_ | refine blk_alloc ?_ _)); exact BK101.out⟩, ⟨by repeat (first | (with_reducible first | exact HB.out | apply below_alloc | apply pw_below_drewN | apply below_drew1 | refine below_set ?_ GE101.out | refine below_set ?_ GE104.out) | exact HB.out)⟩⟩
         ·rw [if_neg c47] at H
          have c47b0 : (((rd_T37 l0_1 x8_1).f2).toList == ([] : List UInt8)) = false := beq_eq_false_iff_ne.mpr c47
          have c47b1 : (((rd_T37 l0_1 x8_1).f2).toList != ([] : List UInt8)) = true := bne_iff_ne.mpr c47
          replace H := Option.bind_eq_some_iff.mp H
          obtain ⟨t111, A530, H⟩ := H
          replace H : (if t111 = true then (font_Check.l0 k1 l0_1 (l0_1.length : Int) (wrap64 (x8_1 + 1)) a0_0 l0_1 a0_2) else (some 1)) = some r := H
          have A53 := Aside0.mk A530
          clear A530
          by_cases c54 : t111 = true
          ·subst c54
           have H1 : (font_Check.l0 k1 l0_1 (l0_1.length : Int) (wrap64 (x8_1 + 1)) a0_0 l0_1 a0_2) = some r := by rw [if_pos rfl] at H; exact H
           clear H
           have H := H1
           clear H1
           have H' := Aside0.mk H
           clear H
           have p103 : 0 ≤ (x8_1 : Int) := of_decide_eq_true (by first | (with_reducible assumption) | assumption)
           have q103 : x8_1 < (l0_1.length : Int) := of_decide_eq_true (by first | (with_reducible assumption) | assumption)
           obtain ⟨ad103, e103, hx103_0, hx103_1, hx103_2⟩ := at_T37 HR0_1.out x8_1 p103 q103
           cases e103
           replace hx103_0 := (HB.out.cell (World.block_lt_of_cell? w _ hx103_0)).trans hx103_0
           replace hx103_1 := (HB.out.cell (World.block_lt_of_cell? w _ hx103_1)).trans hx103_1
           replace hx103_2 := (HB.out.cell (World.block_lt_of_cell? w _ hx103_2)).trans hx103_2
           replace p103 := eq_true p103
           replace q103 := eq_true q103
           try go_wp2_with (first | ((with_reducible refine gate_dst (N := 4) rfl ?_); (try (refine gate_guard (by rfl) ?_; dsimp only)); refine box_event ?hg (N := 4) ?hd (cs := #[.int .i64 0, .int .i64 0, .string (⟨#[]⟩ : ByteArray)]) (t := 37) ?hr ?_; (case hd => rfl); (case hg => rfl); (case hr => first | (go_simp; done) | (go_simp; rfl)); intro gb104 hg w55 hbox hb; have n0_ := Aside0.mk (blk_below (g := gb101) (o := .cells #[.bool a0_0, .slice (some ad103) l0_1.length c0_1, .int .i64 a0_2] 24 (0, 0)) (by (with_reducible repeat (first | refine blk_drewN ?_ _ | refine blk_drew ?_ | refine blk_alloc ?_ _)); exact BK101.out) hb); have n1_ := Aside0.mk (below_step (by repeat (first | (with_reducible first | exact HB.out | apply below_alloc | apply pw_below_drewN | apply below_drew1 | refine below_set ?_ GE101.out) | exact HB.out)) hb); have n2_ := Aside0.mk (hbox); have n3_ := Aside0.mk ((by rw [hg]; exact (below_size (by repeat (first | (with_reducible first | exact HB.out | apply below_alloc | apply pw_below_drewN | apply below_drew1 | refine below_set ?_ GE101.out) | exact HB.out))) : w.heap.size ≤ gb104)); have n4_ := Aside0.mk ((by rw [hg]; exact (below_size (by repeat (first | (with_reducible first | exact HB.out | apply below_alloc | apply pw_below_drewN | apply below_drew1 | refine below_set ?_ GE101.out) | exact HB.out))) : w.heap.size ≤ gb104)); have n5_ := Aside0.mk ((by rw [hg]; exact Nat.ne_of_lt (blk_lt (g := gb101) (o := .cells #[.bool a0_0, .slice (some ad103) l0_1.length c0_1, .int .i64 a0_2] 24 (0, 0)) (by (with_reducible repeat (first | refine blk_drewN ?_ _ | refine blk_drew ?_ | refine blk_alloc ?_ _)); exact BK101.out)) : gb101 ≠ gb104)); have n6_ := Aside0.mk ((by rw [hg]; exact Nat.ne_of_gt (blk_lt (g := gb101) (o := .cells #[.bool a0_0, .slice (some ad103) l0_1.length c0_1, .int .i64 a0_2] 24 (0, 0)) (by (with_reducible repeat (first | refine blk_drewN ?_ _ | refine blk_drew ?_ | refine blk_alloc ?_ _)); exact BK101.out)) : gb104 ≠ gb101)); clear BK101; clear HB; have BK101 := n0_; have HB := n1_; have BK104 := n2_; have GW104 := n3_; have GE104 := n4_; have NB101_104 := n5_; have NB104_101 := n6_; clear n0_ n1_ n2_ n3_ n4_ n5_ n6_; clear hb hbox hg; have hnb56 := NB104_101.out; have hnc56 := NB101_104.out; have hcz57_0 : w55.cell? ⟨gb104, 0, none⟩ = some (.int .i64 0) := (blk_cell BK104.out 0).trans rfl; have hcz57_1 : w55.cell? ⟨gb104, 1, none⟩ = some (.int .i64 0) := (blk_cell BK104.out 1).trans rfl; have hcz57_2 : w55.cell? ⟨gb104, 2, none⟩ = some (.string (⟨#[]⟩ : ByteArray)) := (blk_cell BK104.out 2).trans rfl; have hfz57_0 := blk_frozen BK104.out 0; have hfz57_1 := blk_frozen BK104.out 1; have hfz57_2 := blk_frozen BK104.out 2))
           have n0_ : Aside0 ((((w55.setCell ⟨gb104, 0, none⟩ (.int .i64 ((rd_T37 l0_1 x8_1).f0))).setCell ⟨gb104, 1, none⟩ (.int .i64 ((rd_T37 l0_1 x8_1).f1))).setCell ⟨gb104, 2, none⟩ (.string ((rd_T37 l0_1 x8_1).f2))).heap[gb101]? = some (.cells #[.bool a0_0, .slice (some ad103) l0_1.length c0_1, .int .i64 a0_2] 24 (0, 0))) := ⟨by (with_reducible repeat (first | refine blk_drewN ?_ _ | refine blk_drew ?_ | refine blk_alloc ?_ _)); refine blk_far ?_ NB101_104.out _; (with_reducible repeat (first | refine blk_drewN ?_ _ | refine blk_drew ?_ | refine blk_alloc ?_ _)); refine blk_far ?_ NB101_104.out _; (with_reducible repeat (first | refine blk_drewN ?_ _ | refine blk_drew ?_ | refine blk_alloc ?_ _)); refine blk_far ?_ NB101_104.out _; (with_reducible repeat (first | refine blk_drewN ?_ _ | refine blk_drew ?_ | refine blk_alloc ?_ _)); exact BK101.out⟩
           have n1_ : Aside0 ((((w55.setCell ⟨gb104, 0, none⟩ (.int .i64 ((rd_T37 l0_1 x8_1).f0))).setCell ⟨gb104, 1, none⟩ (.int .i64 ((rd_T37 l0_1 x8_1).f1))).setCell ⟨gb104, 2, none⟩ (.string ((rd_T37 l0_1 x8_1).f2))).heap[gb104]? = some (.cells #[.int .i64 ((rd_T37 l0_1 x8_1).f0), .int .i64 ((rd_T37 l0_1 x8_1).f1), .string ((rd_T37 l0_1 x8_1).f2)] 37 (0, 0))) := ⟨by (with_reducible repeat (first | refine blk_drewN ?_ _ | refine blk_drew ?_ | refine blk_alloc ?_ _)); refine blk_put (cs := #[.int .i64 ((rd_T37 l0_1 x8_1).f0), .int .i64 ((rd_T37 l0_1 x8_1).f1), .string (⟨#[]⟩ : ByteArray)]) ?_ 2 _ rfl; (with_reducible repeat (first | refine blk_drewN ?_ _ | refine blk_drew ?_ | refine blk_alloc ?_ _)); refine blk_put (cs := #[.int .i64 ((rd_T37 l0_1 x8_1).f0), .int .i64 0, .string (⟨#[]⟩ : ByteArray)]) ?_ 1 _ rfl; (with_reducible repeat (first | refine blk_drewN ?_ _ | refine blk_drew ?_ | refine blk_alloc ?_ _)); refine blk_put (cs := #[.int .i64 0, .int .i64 0, .string (⟨#[]⟩ : ByteArray)]) ?_ 0 _ rfl; (with_reducible repeat (first | refine blk_drewN ?_ _ | refine blk_drew ?_ | refine blk_alloc ?_ _)); exact BK104.out⟩
           have n2_ : Aside0 (Below w.heap.size w (((w55.setCell ⟨gb104, 0, none⟩ (.int .i64 ((rd_T37 l0_1 x8_1).f0))).setCell ⟨gb104, 1, none⟩ (.int .i64 ((rd_T37 l0_1 x8_1).f1))).setCell ⟨gb104, 2, none⟩ (.string ((rd_T37 l0_1 x8_1).f2)))) := ⟨by repeat (first | (with_reducible first | exact HB.out | apply below_alloc | apply pw_below_drewN | apply below_drew1 | refine below_set ?_ GE101.out | refine below_set ?_ GE104.out) | exact HB.out)⟩
           (try clear BK101)
           (try clear BK104)
           (try clear HB)
           generalize (((w55.setCell ⟨gb104, 0, none⟩ (.int .i64 ((rd_T37 l0_1 x8_1).f0))).setCell ⟨gb104, 1, none⟩ (.int .i64 ((rd_T37 l0_1 x8_1).f1))).setCell ⟨gb104, 2, none⟩ (.string ((rd_T37 l0_1 x8_1).f2))) = w58 at n0_ n1_ n2_ ⊢
           have BK101 := n0_
           have BK104 := n1_
           have HB := n2_
           clear n0_ n1_ n2_
           have n0_ := Aside0.mk (blk_drew BK101.out)
           have n1_ := Aside0.mk (blk_drew BK104.out)
           have n2_ := Aside0.mk (below_drew1 HB.out)
           clear BK101
           clear BK104
           clear HB
           have BK101 := n0_
           have BK104 := n1_
           have HB := n2_
           clear n0_ n1_ n2_
           refine start_ (n := 40) (S := fun w' => w'.cell? ⟨gb104, 0, none⟩ = some (.int .i64 ((rd_T37 l0_1 x8_1).f0)) ∧ w'.cell? ⟨gb104, 1, none⟩ = some (.int .i64 ((rd_T37 l0_1 x8_1).f1)) ∧ w'.cell? ⟨gb104, 2, none⟩ = some (.string ((rd_T37 l0_1 x8_1).f2)) ∧ w'.cell? ⟨gb101, 0, none⟩ = some (.bool a0_0) ∧ w'.cell? ⟨gb101, 1, none⟩ = some (.slice (some ad103) l0_1.length c0_1) ∧ w'.cell? ⟨gb101, 2, none⟩ = some (.int .i64 a0_2)) (ds := []) (tk_ 40 0) (by kernel_rfl) rfl (by kernel_rfl) ⟨(blk_cell BK104.out 0).trans rfl, (blk_cell BK104.out 1).trans rfl, (blk_cell BK104.out 2).trans rfl, (blk_cell BK101.out 0).trans rfl, (blk_cell BK101.out 1).trans rfl, (blk_cell BK101.out 2).trans rfl⟩ (fun hHeld => ?_); refine with_tabW font_Check.tab4 font_Check.bits4 (fun HT_ HW_ => ?_)
           generalize w58.drew = w59 at BK101 BK104 HB hHeld ⊢
           refine pu_ 0 13 (tk_ 40 1) HT_.out rfl rfl (by kernel_rfl) (fun _ _ _ h => h) (by rfl) (fun w' => by go_simp; with_reducible rfl) (by simp only [s0_, s1_, s2_, s3_, s4_, s5_]; rfl) ?_
           refine pu_ 2 15 (tk_ 40 5) HT_.out rfl rfl (by kernel_rfl) (fun _ _ _ h => h) (by rfl) (fun w' => by go_simp; with_reducible rfl) (by simp only [s0_, s1_, s2_, s3_, s4_, s5_]; rfl) ?_
           refine ta_ 1 14 (tk_ 40 7) HT_.out HW_.out rfl rfl (by kernel_rfl) (fun _ _ _ h => h) (by rfl) (by rintro w' ⟨s0, s1, s2, s3, s4, s5⟩; go_simp; with_reducible rfl) hHeld (by simp only [s0_, s1_, s2_, s3_, s4_, s5_]; rfl) ?_
           refine ta_ 3 16 (tk_ 40 15) HT_.out HW_.out rfl rfl (by kernel_rfl) (fun _ _ _ h => h) (by rfl) (by rintro w' ⟨s0, s1, s2, s3, s4, s5⟩; go_simp; with_reducible rfl) hHeld (by simp only [s0_, s1_, s2_, s3_, s4_, s5_]; rfl) ?_
           refine one_ (i := 4) (N := some 17) (tk_ 40 31) rfl rfl (one_of HT_.out (by kernel_rfl)) (by decide) (fun K hK => ?_)
           refine goes_ Try.func32 (by kernel_rfl) rfl #[.bool a0_0] (by rfl) rfl rfl (by (try simp only [List.map_toArray, List.map_cons, List.map_nil]); first | done | rfl | (simp only [List.length_drop, List.length_take]; rfl)) ?_
           with_reducible refine (font_top.calls a0_0 t105 _ A7.out).mono ?_
           rintro e w' ⟨rfl, ⟨nd, rfl⟩⟩
           refine ⟨_, rfl, ?_⟩
           refine hK.out _ _ ⟨(blk_cell BK104.out 0).trans rfl, (blk_cell BK104.out 1).trans rfl, (blk_cell BK104.out 2).trans rfl, (blk_cell BK101.out 0).trans rfl, (blk_cell BK101.out 1).trans rfl, (blk_cell BK101.out 2).trans rfl⟩ (fun hHeld => ?_)
           clear hK K
           refine norm_ (by show Act.put _ (some 17) _ = _; simp only [s0_, s1_, s2_, s3_, s4_, s5_]; rfl) ?_
           refine one_ (i := 5) (N := some 18) (tk_ 40 63) rfl rfl (one_of HT_.out (by kernel_rfl)) (by decide) (fun K hK => ?_)
           refine goes_ Try.func31 (by kernel_rfl) rfl #[.int .i64 0, .int .i64 ((rd_T37 l0_1 x8_1).f0), .int .i64 t105] (by rfl) rfl rfl (by (try simp only [List.map_toArray, List.map_cons, List.map_nil]); first | done | rfl | (simp only [List.length_drop, List.length_take]; rfl)) ?_
           with_reducible refine (font_within_int.calls 0 ((rd_T37 l0_1 x8_1).f0) t105 true _ A8.out).mono ?_
           rintro e w' ⟨rfl, ⟨nd, rfl⟩⟩
           refine ⟨_, rfl, ?_⟩
           refine hK.out _ _ ⟨(blk_cell BK104.out 0).trans rfl, (blk_cell BK104.out 1).trans rfl, (blk_cell BK104.out 2).trans rfl, (blk_cell BK101.out 0).trans rfl, (blk_cell BK101.out 1).trans rfl, (blk_cell BK101.out 2).trans rfl⟩ (fun hHeld => ?_)
           clear hK K
           refine norm_ (by show Act.put _ (some 18) _ = _; simp only [s0_, s1_, s2_, s3_, s4_, s5_]; rfl) ?_
           refine pu_ 6 19 (tk_ 40 127) HT_.out rfl rfl (by kernel_rfl) (fun _ _ _ h => h) (by rfl) (fun w' => by go_simp; with_reducible rfl) (by simp only [s0_, s1_, s2_, s3_, s4_, s5_]; rfl) ?_
           refine pu_ 7 20 (tk_ 40 255) HT_.out rfl rfl (by kernel_rfl) (fun _ _ _ h => h) (by rfl) (fun w' => by go_simp; with_reducible rfl) (by simp only [s0_, s1_, s2_, s3_, s4_, s5_]; rfl) ?_
           refine pu_ 8 21 (tk_ 40 511) HT_.out rfl rfl (by kernel_rfl) (fun _ _ _ h => h) (by rfl) (fun w' => by go_simp; with_reducible rfl) (by simp only [s0_, s1_, s2_, s3_, s4_, s5_]; rfl) ?_
           refine pu_ 9 22 (tk_ 40 1023) HT_.out rfl rfl (by kernel_rfl) (fun _ _ _ h => h) (by rfl) (fun w' => by go_simp; with_reducible rfl) (by simp only [s0_, s1_, s2_, s3_, s4_, s5_]; rfl) ?_
           refine pu_ 10 23 (tk_ 40 2047) HT_.out rfl rfl (by kernel_rfl) (fun _ _ _ h => h) (by rfl) (fun w' => by go_simp; with_reducible rfl) (by simp only [s0_, s1_, s2_, s3_, s4_, s5_]; rfl) ?_
           refine sk_ 11 24 (tk_ 40 4095) HT_.out rfl rfl (by kernel_rfl) (fun _ _ _ h => h) (by rfl) (by simp only [s0_, s1_, s2_, s3_, s4_, s5_]; rfl) ?_
           refine sk_ 12 25 (tk_ 40 8191) HT_.out rfl rfl (by kernel_rfl) (fun _ _ _ h => h) (by rfl) (by simp only [s0_, s1_, s2_, s3_, s4_, s5_]; rfl) ?_
           refine sk_ 13 26 (tk_ 40 16383) HT_.out rfl rfl (by kernel_rfl) (fun _ _ _ h => h) (by rfl) (by simp only [s0_, s1_, s2_, s3_, s4_, s5_]; rfl) ?_
           refine sk_ 14 27 (tk_ 40 32767) HT_.out rfl rfl (by kernel_rfl) (fun _ _ _ h => h) (by rfl) (by simp only [s0_, s1_, s2_, s3_, s4_, s5_]; rfl) ?_
           refine sk_ 15 28 (tk_ 40 65535) HT_.out rfl rfl (by kernel_rfl) (fun _ _ _ h => h) (by rfl) (by simp only [s0_, s1_, s2_, s3_, s4_, s5_]; rfl) ?_
           refine sk_ 16 29 (tk_ 40 131071) HT_.out rfl rfl (by kernel_rfl) (fun _ _ _ h => h) (by rfl) (by simp only [s0_, s1_, s2_, s3_, s4_, s5_]; rfl) ?_
           refine sk_ 17 30 (tk_ 40 262143) HT_.out rfl rfl (by kernel_rfl) (fun _ _ _ h => h) (by rfl) (by simp only [s0_, s1_, s2_, s3_, s4_, s5_]; rfl) ?_
           refine sk_ 18 31 (tk_ 40 524287) HT_.out rfl rfl (by kernel_rfl) (fun _ _ _ h => h) (by rfl) (by simp only [s0_, s1_, s2_, s3_, s4_, s5_]; rfl) ?_
           refine sk_ 19 32 (tk_ 40 1048575) HT_.out rfl rfl (by kernel_rfl) (fun _ _ _ h => h) (by rfl) (by simp only [s0_, s1_, s2_, s3_, s4_, s5_]; rfl) ?_
           refine sk_ 20 33 (tk_ 40 2097151) HT_.out rfl rfl (by kernel_rfl) (fun _ _ _ h => h) (by rfl) (by simp only [s0_, s1_, s2_, s3_, s4_, s5_]; rfl) ?_
           refine pu_ 21 34 (tk_ 40 4194303) HT_.out rfl rfl (by kernel_rfl) (fun _ _ _ h => h) (by rfl) (fun w' => by go_simp; with_reducible rfl) (by simp only [s0_, s1_, s2_, s3_, s4_, s5_]; rfl) ?_
           refine pu_ 22 35 (tk_ 40 8388607) HT_.out rfl rfl (by kernel_rfl) (fun _ _ _ h => h) (by rfl) (fun w' => by go_simp; with_reducible rfl) (by simp only [s0_, s1_, s2_, s3_, s4_, s5_]; rfl) ?_
           refine pu_ 23 36 (tk_ 40 16777215) HT_.out rfl rfl (by kernel_rfl) (fun _ _ _ h => h) (by rfl) (fun w' => by go_simp; with_reducible rfl) (by simp only [s0_, s1_, s2_, s3_, s4_, s5_]; rfl) ?_
           refine pu_ 24 37 (tk_ 40 33554431) HT_.out rfl rfl (by kernel_rfl) (fun _ _ _ h => h) (by rfl) (fun w' => by go_simp; with_reducible rfl) (by simp only [s0_, s1_, s2_, s3_, s4_, s5_]; rfl) ?_
           refine ta_ 25 38 (tk_ 40 67108863) HT_.out HW_.out rfl rfl (by kernel_rfl) (fun _ _ _ h => h) (by rfl) (by rintro w' ⟨s0, s1, s2, s3, s4, s5⟩; go_simp; with_reducible rfl) hHeld (by simp only [s0_, s1_, s2_, s3_, s4_, s5_]; rfl) ?_
           refine one_ (i := 26) (N := some 39) (tk_ 40 134217727) rfl rfl (one_of HT_.out (by kernel_rfl)) (by decide) (fun K hK => ?_)
           refine goes_ Try.func31 (by kernel_rfl) rfl #[.int .i64 0, .int .i64 ((rd_T37 l0_1 x8_1).f1), .int .i64 10000] (by rfl) rfl rfl (by (try simp only [List.map_toArray, List.map_cons, List.map_nil]); first | done | rfl | (simp only [List.length_drop, List.length_take]; rfl)) ?_
           with_reducible refine (font_within_int.calls 0 ((rd_T37 l0_1 x8_1).f1) 10000 true _ A45.out).mono ?_
           rintro e w' ⟨rfl, ⟨nd, rfl⟩⟩
           refine ⟨_, rfl, ?_⟩
           refine hK.out _ _ ⟨(blk_cell BK104.out 0).trans rfl, (blk_cell BK104.out 1).trans rfl, (blk_cell BK104.out 2).trans rfl, (blk_cell BK101.out 0).trans rfl, (blk_cell BK101.out 1).trans rfl, (blk_cell BK101.out 2).trans rfl⟩ (fun hHeld => ?_)
           clear hK K
           refine norm_ (by show Act.put _ (some 39) _ = _; simp only [s0_, s1_, s2_, s3_, s4_, s5_]; rfl) ?_
           refine pu_ 27 40 (tk_ 40 268435455) HT_.out rfl rfl (by kernel_rfl) (fun _ _ _ h => h) (by rfl) (fun w' => by go_simp; with_reducible rfl) (by simp only [s0_, s1_, s2_, s3_, s4_, s5_]; rfl) ?_
           refine pu_ 28 41 (tk_ 40 536870911) HT_.out rfl rfl (by kernel_rfl) (fun _ _ _ h => h) (by rfl) (fun w' => by go_simp; with_reducible rfl) (by simp only [s0_, s1_, s2_, s3_, s4_, s5_]; rfl) ?_
           refine pu_ 29 42 (tk_ 40 1073741823) HT_.out rfl rfl (by kernel_rfl) (fun _ _ _ h => h) (by rfl) (fun w' => by go_simp; with_reducible rfl) (by simp only [s0_, s1_, s2_, s3_, s4_, s5_]; rfl) ?_
           refine pu_ 30 43 (tk_ 40 2147483647) HT_.out rfl rfl (by kernel_rfl) (fun _ _ _ h => h) (by rfl) (fun w' => by go_simp; with_reducible rfl) (by simp only [s0_, s1_, s2_, s3_, s4_, s5_]; rfl) ?_
           refine ta_ 31 44 (tk_ 40 4294967295) HT_.out HW_.out rfl rfl (by kernel_rfl) (fun _ _ _ h => h) (by rfl) (by rintro w' ⟨s0, s1, s2, s3, s4, s5⟩; go_simp; with_reducible rfl) hHeld (by simp only [s0_, s1_, s2_, s3_, s4_, s5_]; rfl) ?_
           refine pu_ 32 45 (tk_ 40 8589934591) HT_.out rfl rfl (by kernel_rfl) (fun _ _ _ h => h) (by rfl) (fun w' => by go_simp; with_reducible rfl) (by simp only [s0_, s1_, s2_, s3_, s4_, s5_]; rfl) ?_
           refine pu_ 33 46 (tk_ 40 17179869183) HT_.out rfl rfl (by kernel_rfl) (fun _ _ _ h => h) (by rfl) (fun w' => by go_simp; with_reducible rfl) (by simp only [s0_, s1_, s2_, s3_, s4_, s5_]; rfl) ?_
           refine pu_ 34 47 (tk_ 40 34359738367) HT_.out rfl rfl (by kernel_rfl) (fun _ _ _ h => h) (by rfl) (fun w' => by go_simp; with_reducible rfl) (by simp only [s0_, s1_, s2_, s3_, s4_, s5_]; rfl) ?_
           refine ta_ 35 48 (tk_ 40 68719476735) HT_.out HW_.out rfl rfl (by kernel_rfl) (fun _ _ _ h => h) (by rfl) (by rintro w' ⟨s0, s1, s2, s3, s4, s5⟩; go_simp; with_reducible rfl) hHeld (by simp only [s0_, s1_, s2_, s3_, s4_, s5_]; rfl) ?_
           refine one_ (i := 36) (N := some 49) (tk_ 40 137438953471) rfl rfl (one_of HT_.out (by kernel_rfl)) (by decide) (fun K hK => ?_)
           refine goes_ Try.func33 (by kernel_rfl) rfl #[.string ((rd_T37 l0_1 x8_1).f2)] (by rfl) rfl rfl (by (try simp only [List.map_toArray, List.map_cons, List.map_nil]); first | done | rfl | (simp only [List.length_drop, List.length_take]; rfl)) ?_
           with_reducible refine (font_means.calls ((rd_T37 l0_1 x8_1).f2) true _ A53.out).mono ?_
           rintro e w' ⟨rfl, ⟨nd, rfl⟩⟩
           refine ⟨_, rfl, ?_⟩
           refine hK.out _ _ ⟨(blk_cell BK104.out 0).trans rfl, (blk_cell BK104.out 1).trans rfl, (blk_cell BK104.out 2).trans rfl, (blk_cell BK101.out 0).trans rfl, (blk_cell BK101.out 1).trans rfl, (blk_cell BK101.out 2).trans rfl⟩ (fun hHeld => ?_)
           clear hK K
           refine norm_ (by show Act.put _ (some 49) _ = _; simp only [s0_, s1_, s2_, s3_, s4_, s5_]; rfl) ?_
           refine pu_ 37 50 (tk_ 40 274877906943) HT_.out rfl rfl (by kernel_rfl) (fun _ _ _ h => h) (by rfl) (fun w' => by go_simp; with_reducible rfl) (by simp only [s0_, s1_, s2_, s3_, s4_, s5_]; rfl) ?_
           refine pu_ 38 51 (tk_ 40 549755813887) HT_.out rfl rfl (by kernel_rfl) (fun _ _ _ h => h) (by rfl) (fun w' => by go_simp; with_reducible rfl) (by simp only [s0_, s1_, s2_, s3_, s4_, s5_]; rfl) ?_
           refine pu_ 39 52 (tk_ 40 1099511627775) HT_.out rfl rfl (by kernel_rfl) (fun _ _ _ h => h) (by rfl) (fun w' => by go_simp; with_reducible rfl) (by simp only [s0_, s1_, s2_, s3_, s4_, s5_]; rfl) ?_
           refine done_ (done_of HT_.out (by kernel_rfl)) ?_
           try go_wp2
           go_roundg k1
           case measure => have := HK1.out; omega
           case rel => exact ⟨(wrap64 (x8_1 + 1)), (by first | rfl | (simp; done) | (simp [*]; done)), H', ⟨by have := HK1.out; omega⟩, ⟨by (with_reducible repeat (first | refine blk_drewN ?_ _ | refine blk_drew ?_ | refine blk_alloc ?_ _)); exact BK101.out⟩, ⟨by repeat (first | (with_reducible first | exact HB.out | apply below_alloc | apply pw_below_drewN | apply below_drew1 | refine below_set ?_ GE101.out | refine below_set ?_ GE104.out) | exact HB.out)⟩⟩
          ·replace c54 := Bool.eq_false_iff.mpr c54
           subst c54
           have H1 : (some 1) = some r := by rw [if_neg (show ¬ (false = true) by decide)] at H; exact H
           clear H
           have H := H1
           clear H1
           obtain rfl := Option.some.inj H
           have p103 : 0 ≤ (x8_1 : Int) := of_decide_eq_true (by first | (with_reducible assumption) | assumption)
           have q103 : x8_1 < (l0_1.length : Int) := of_decide_eq_true (by first | (with_reducible assumption) | assumption)
           obtain ⟨ad103, e103, hx103_0, hx103_1, hx103_2⟩ := at_T37 HR0_1.out x8_1 p103 q103
           cases e103
           replace hx103_0 := (HB.out.cell (World.block_lt_of_cell? w _ hx103_0)).trans hx103_0
           replace hx103_1 := (HB.out.cell (World.block_lt_of_cell? w _ hx103_1)).trans hx103_1
           replace hx103_2 := (HB.out.cell (World.block_lt_of_cell? w _ hx103_2)).trans hx103_2
           replace p103 := eq_true p103
           replace q103 := eq_true q103
           try go_wp2_with (first | ((with_reducible refine gate_dst (N := 4) rfl ?_); (try (refine gate_guard (by rfl) ?_; dsimp only)); refine box_event ?hg (N := 4) ?hd (cs := #[.int .i64 0, .int .i64 0, .string (⟨#[]⟩ : ByteArray)]) (t := 37) ?hr ?_; (case hd => rfl); (case hg => rfl); (case hr => first | (go_simp; done) | (go_simp; rfl)); intro gb104 hg w60 hbox hb; have n0_ := Aside0.mk (blk_below (g := gb101) (o := .cells #[.bool a0_0, .slice (some ad103) l0_1.length c0_1, .int .i64 a0_2] 24 (0, 0)) (by (with_reducible repeat (first | refine blk_drewN ?_ _ | refine blk_drew ?_ | refine blk_alloc ?_ _)); exact BK101.out) hb); have n1_ := Aside0.mk (below_step (by repeat (first | (with_reducible first | exact HB.out | apply below_alloc | apply pw_below_drewN | apply below_drew1 | refine below_set ?_ GE101.out) | exact HB.out)) hb); have n2_ := Aside0.mk (hbox); have n3_ := Aside0.mk ((by rw [hg]; exact (below_size (by repeat (first | (with_reducible first | exact HB.out | apply below_alloc | apply pw_below_drewN | apply below_drew1 | refine below_set ?_ GE101.out) | exact HB.out))) : w.heap.size ≤ gb104)); have n4_ := Aside0.mk ((by rw [hg]; exact (below_size (by repeat (first | (with_reducible first | exact HB.out | apply below_alloc | apply pw_below_drewN | apply below_drew1 | refine below_set ?_ GE101.out) | exact HB.out))) : w.heap.size ≤ gb104)); have n5_ := Aside0.mk ((by rw [hg]; exact Nat.ne_of_lt (blk_lt (g := gb101) (o := .cells #[.bool a0_0, .slice (some ad103) l0_1.length c0_1, .int .i64 a0_2] 24 (0, 0)) (by (with_reducible repeat (first | refine blk_drewN ?_ _ | refine blk_drew ?_ | refine blk_alloc ?_ _)); exact BK101.out)) : gb101 ≠ gb104)); have n6_ := Aside0.mk ((by rw [hg]; exact Nat.ne_of_gt (blk_lt (g := gb101) (o := .cells #[.bool a0_0, .slice (some ad103) l0_1.length c0_1, .int .i64 a0_2] 24 (0, 0)) (by (with_reducible repeat (first | refine blk_drewN ?_ _ | refine blk_drew ?_ | refine blk_alloc ?_ _)); exact BK101.out)) : gb104 ≠ gb101)); clear BK101; clear HB; have BK101 := n0_; have HB := n1_; have BK104 := n2_; have GW104 := n3_; have GE104 := n4_; have NB101_104 := n5_; have NB104_101 := n6_; clear n0_ n1_ n2_ n3_ n4_ n5_ n6_; clear hb hbox hg; have hnb61 := NB104_101.out; have hnc61 := NB101_104.out; have hcz62_0 : w60.cell? ⟨gb104, 0, none⟩ = some (.int .i64 0) := (blk_cell BK104.out 0).trans rfl; have hcz62_1 : w60.cell? ⟨gb104, 1, none⟩ = some (.int .i64 0) := (blk_cell BK104.out 1).trans rfl; have hcz62_2 : w60.cell? ⟨gb104, 2, none⟩ = some (.string (⟨#[]⟩ : ByteArray)) := (blk_cell BK104.out 2).trans rfl; have hfz62_0 := blk_frozen BK104.out 0; have hfz62_1 := blk_frozen BK104.out 1; have hfz62_2 := blk_frozen BK104.out 2))
           have n0_ : Aside0 ((((w60.setCell ⟨gb104, 0, none⟩ (.int .i64 ((rd_T37 l0_1 x8_1).f0))).setCell ⟨gb104, 1, none⟩ (.int .i64 ((rd_T37 l0_1 x8_1).f1))).setCell ⟨gb104, 2, none⟩ (.string ((rd_T37 l0_1 x8_1).f2))).heap[gb101]? = some (.cells #[.bool a0_0, .slice (some ad103) l0_1.length c0_1, .int .i64 a0_2] 24 (0, 0))) := ⟨by (with_reducible repeat (first | refine blk_drewN ?_ _ | refine blk_drew ?_ | refine blk_alloc ?_ _)); refine blk_far ?_ NB101_104.out _; (with_reducible repeat (first | refine blk_drewN ?_ _ | refine blk_drew ?_ | refine blk_alloc ?_ _)); refine blk_far ?_ NB101_104.out _; (with_reducible repeat (first | refine blk_drewN ?_ _ | refine blk_drew ?_ | refine blk_alloc ?_ _)); refine blk_far ?_ NB101_104.out _; (with_reducible repeat (first | refine blk_drewN ?_ _ | refine blk_drew ?_ | refine blk_alloc ?_ _)); exact BK101.out⟩
           have n1_ : Aside0 ((((w60.setCell ⟨gb104, 0, none⟩ (.int .i64 ((rd_T37 l0_1 x8_1).f0))).setCell ⟨gb104, 1, none⟩ (.int .i64 ((rd_T37 l0_1 x8_1).f1))).setCell ⟨gb104, 2, none⟩ (.string ((rd_T37 l0_1 x8_1).f2))).heap[gb104]? = some (.cells #[.int .i64 ((rd_T37 l0_1 x8_1).f0), .int .i64 ((rd_T37 l0_1 x8_1).f1), .string ((rd_T37 l0_1 x8_1).f2)] 37 (0, 0))) := ⟨by (with_reducible repeat (first | refine blk_drewN ?_ _ | refine blk_drew ?_ | refine blk_alloc ?_ _)); refine blk_put (cs := #[.int .i64 ((rd_T37 l0_1 x8_1).f0), .int .i64 ((rd_T37 l0_1 x8_1).f1), .string (⟨#[]⟩ : ByteArray)]) ?_ 2 _ rfl; (with_reducible repeat (first | refine blk_drewN ?_ _ | refine blk_drew ?_ | refine blk_alloc ?_ _)); refine blk_put (cs := #[.int .i64 ((rd_T37 l0_1 x8_1).f0), .int .i64 0, .string (⟨#[]⟩ : ByteArray)]) ?_ 1 _ rfl; (with_reducible repeat (first | refine blk_drewN ?_ _ | refine blk_drew ?_ | refine blk_alloc ?_ _)); refine blk_put (cs := #[.int .i64 0, .int .i64 0, .string (⟨#[]⟩ : ByteArray)]) ?_ 0 _ rfl; (with_reducible repeat (first | refine blk_drewN ?_ _ | refine blk_drew ?_ | refine blk_alloc ?_ _)); exact BK104.out⟩
           have n2_ : Aside0 (Below w.heap.size w (((w60.setCell ⟨gb104, 0, none⟩ (.int .i64 ((rd_T37 l0_1 x8_1).f0))).setCell ⟨gb104, 1, none⟩ (.int .i64 ((rd_T37 l0_1 x8_1).f1))).setCell ⟨gb104, 2, none⟩ (.string ((rd_T37 l0_1 x8_1).f2)))) := ⟨by repeat (first | (with_reducible first | exact HB.out | apply below_alloc | apply pw_below_drewN | apply below_drew1 | refine below_set ?_ GE101.out | refine below_set ?_ GE104.out) | exact HB.out)⟩
           (try clear BK101)
           (try clear BK104)
           (try clear HB)
           generalize (((w60.setCell ⟨gb104, 0, none⟩ (.int .i64 ((rd_T37 l0_1 x8_1).f0))).setCell ⟨gb104, 1, none⟩ (.int .i64 ((rd_T37 l0_1 x8_1).f1))).setCell ⟨gb104, 2, none⟩ (.string ((rd_T37 l0_1 x8_1).f2))) = w63 at n0_ n1_ n2_ ⊢
           have BK101 := n0_
           have BK104 := n1_
           have HB := n2_
           clear n0_ n1_ n2_
           have n0_ := Aside0.mk (blk_drew BK101.out)
           have n1_ := Aside0.mk (blk_drew BK104.out)
           have n2_ := Aside0.mk (below_drew1 HB.out)
           clear BK101
           clear BK104
           clear HB
           have BK101 := n0_
           have BK104 := n1_
           have HB := n2_
           clear n0_ n1_ n2_
           refine start_ (n := 40) (S := fun w' => w'.cell? ⟨gb104, 0, none⟩ = some (.int .i64 ((rd_T37 l0_1 x8_1).f0)) ∧ w'.cell? ⟨gb104, 1, none⟩ = some (.int .i64 ((rd_T37 l0_1 x8_1).f1)) ∧ w'.cell? ⟨gb104, 2, none⟩ = some (.string ((rd_T37 l0_1 x8_1).f2)) ∧ w'.cell? ⟨gb101, 0, none⟩ = some (.bool a0_0) ∧ w'.cell? ⟨gb101, 1, none⟩ = some (.slice (some ad103) l0_1.length c0_1) ∧ w'.cell? ⟨gb101, 2, none⟩ = some (.int .i64 a0_2)) (ds := []) (tk_ 40 0) (by kernel_rfl) rfl (by kernel_rfl) ⟨(blk_cell BK104.out 0).trans rfl, (blk_cell BK104.out 1).trans rfl, (blk_cell BK104.out 2).trans rfl, (blk_cell BK101.out 0).trans rfl, (blk_cell BK101.out 1).trans rfl, (blk_cell BK101.out 2).trans rfl⟩ (fun hHeld => ?_); refine with_tabW font_Check.tab4 font_Check.bits4 (fun HT_ HW_ => ?_)
           generalize w63.drew = w64 at BK101 BK104 HB hHeld ⊢
           refine pu_ 0 13 (tk_ 40 1) HT_.out rfl rfl (by kernel_rfl) (fun _ _ _ h => h) (by rfl) (fun w' => by go_simp; with_reducible rfl) (by simp only [s0_, s1_, s2_, s3_, s4_, s5_]; rfl) ?_
           refine pu_ 2 15 (tk_ 40 5) HT_.out rfl rfl (by kernel_rfl) (fun _ _ _ h => h) (by rfl) (fun w' => by go_simp; with_reducible rfl) (by simp only [s0_, s1_, s2_, s3_, s4_, s5_]; rfl) ?_
           refine ta_ 1 14 (tk_ 40 7) HT_.out HW_.out rfl rfl (by kernel_rfl) (fun _ _ _ h => h) (by rfl) (by rintro w' ⟨s0, s1, s2, s3, s4, s5⟩; go_simp; with_reducible rfl) hHeld (by simp only [s0_, s1_, s2_, s3_, s4_, s5_]; rfl) ?_
           refine ta_ 3 16 (tk_ 40 15) HT_.out HW_.out rfl rfl (by kernel_rfl) (fun _ _ _ h => h) (by rfl) (by rintro w' ⟨s0, s1, s2, s3, s4, s5⟩; go_simp; with_reducible rfl) hHeld (by simp only [s0_, s1_, s2_, s3_, s4_, s5_]; rfl) ?_
           refine one_ (i := 4) (N := some 17) (tk_ 40 31) rfl rfl (one_of HT_.out (by kernel_rfl)) (by decide) (fun K hK => ?_)
           refine goes_ Try.func32 (by kernel_rfl) rfl #[.bool a0_0] (by rfl) rfl rfl (by (try simp only [List.map_toArray, List.map_cons, List.map_nil]); first | done | rfl | (simp only [List.length_drop, List.length_take]; rfl)) ?_
           with_reducible refine (font_top.calls a0_0 t105 _ A7.out).mono ?_
           rintro e w' ⟨rfl, ⟨nd, rfl⟩⟩
           refine ⟨_, rfl, ?_⟩
           refine hK.out _ _ ⟨(blk_cell BK104.out 0).trans rfl, (blk_cell BK104.out 1).trans rfl, (blk_cell BK104.out 2).trans rfl, (blk_cell BK101.out 0).trans rfl, (blk_cell BK101.out 1).trans rfl, (blk_cell BK101.out 2).trans rfl⟩ (fun hHeld => ?_)
           clear hK K
           refine norm_ (by show Act.put _ (some 17) _ = _; simp only [s0_, s1_, s2_, s3_, s4_, s5_]; rfl) ?_
           refine one_ (i := 5) (N := some 18) (tk_ 40 63) rfl rfl (one_of HT_.out (by kernel_rfl)) (by decide) (fun K hK => ?_)
           refine goes_ Try.func31 (by kernel_rfl) rfl #[.int .i64 0, .int .i64 ((rd_T37 l0_1 x8_1).f0), .int .i64 t105] (by rfl) rfl rfl (by (try simp only [List.map_toArray, List.map_cons, List.map_nil]); first | done | rfl | (simp only [List.length_drop, List.length_take]; rfl)) ?_
           with_reducible refine (font_within_int.calls 0 ((rd_T37 l0_1 x8_1).f0) t105 true _ A8.out).mono ?_
           rintro e w' ⟨rfl, ⟨nd, rfl⟩⟩
           refine ⟨_, rfl, ?_⟩
           refine hK.out _ _ ⟨(blk_cell BK104.out 0).trans rfl, (blk_cell BK104.out 1).trans rfl, (blk_cell BK104.out 2).trans rfl, (blk_cell BK101.out 0).trans rfl, (blk_cell BK101.out 1).trans rfl, (blk_cell BK101.out 2).trans rfl⟩ (fun hHeld => ?_)
           clear hK K
           refine norm_ (by show Act.put _ (some 18) _ = _; simp only [s0_, s1_, s2_, s3_, s4_, s5_]; rfl) ?_
           refine pu_ 6 19 (tk_ 40 127) HT_.out rfl rfl (by kernel_rfl) (fun _ _ _ h => h) (by rfl) (fun w' => by go_simp; with_reducible rfl) (by simp only [s0_, s1_, s2_, s3_, s4_, s5_]; rfl) ?_
           refine pu_ 7 20 (tk_ 40 255) HT_.out rfl rfl (by kernel_rfl) (fun _ _ _ h => h) (by rfl) (fun w' => by go_simp; with_reducible rfl) (by simp only [s0_, s1_, s2_, s3_, s4_, s5_]; rfl) ?_
           refine pu_ 8 21 (tk_ 40 511) HT_.out rfl rfl (by kernel_rfl) (fun _ _ _ h => h) (by rfl) (fun w' => by go_simp; with_reducible rfl) (by simp only [s0_, s1_, s2_, s3_, s4_, s5_]; rfl) ?_
           refine pu_ 9 22 (tk_ 40 1023) HT_.out rfl rfl (by kernel_rfl) (fun _ _ _ h => h) (by rfl) (fun w' => by go_simp; with_reducible rfl) (by simp only [s0_, s1_, s2_, s3_, s4_, s5_]; rfl) ?_
           refine pu_ 10 23 (tk_ 40 2047) HT_.out rfl rfl (by kernel_rfl) (fun _ _ _ h => h) (by rfl) (fun w' => by go_simp; with_reducible rfl) (by simp only [s0_, s1_, s2_, s3_, s4_, s5_]; rfl) ?_
           refine sk_ 11 24 (tk_ 40 4095) HT_.out rfl rfl (by kernel_rfl) (fun _ _ _ h => h) (by rfl) (by simp only [s0_, s1_, s2_, s3_, s4_, s5_]; rfl) ?_
           refine sk_ 12 25 (tk_ 40 8191) HT_.out rfl rfl (by kernel_rfl) (fun _ _ _ h => h) (by rfl) (by simp only [s0_, s1_, s2_, s3_, s4_, s5_]; rfl) ?_
           refine sk_ 13 26 (tk_ 40 16383) HT_.out rfl rfl (by kernel_rfl) (fun _ _ _ h => h) (by rfl) (by simp only [s0_, s1_, s2_, s3_, s4_, s5_]; rfl) ?_
           refine sk_ 14 27 (tk_ 40 32767) HT_.out rfl rfl (by kernel_rfl) (fun _ _ _ h => h) (by rfl) (by simp only [s0_, s1_, s2_, s3_, s4_, s5_]; rfl) ?_
           refine sk_ 15 28 (tk_ 40 65535) HT_.out rfl rfl (by kernel_rfl) (fun _ _ _ h => h) (by rfl) (by simp only [s0_, s1_, s2_, s3_, s4_, s5_]; rfl) ?_
           refine sk_ 16 29 (tk_ 40 131071) HT_.out rfl rfl (by kernel_rfl) (fun _ _ _ h => h) (by rfl) (by simp only [s0_, s1_, s2_, s3_, s4_, s5_]; rfl) ?_
           refine sk_ 17 30 (tk_ 40 262143) HT_.out rfl rfl (by kernel_rfl) (fun _ _ _ h => h) (by rfl) (by simp only [s0_, s1_, s2_, s3_, s4_, s5_]; rfl) ?_
           refine sk_ 18 31 (tk_ 40 524287) HT_.out rfl rfl (by kernel_rfl) (fun _ _ _ h => h) (by rfl) (by simp only [s0_, s1_, s2_, s3_, s4_, s5_]; rfl) ?_
           refine sk_ 19 32 (tk_ 40 1048575) HT_.out rfl rfl (by kernel_rfl) (fun _ _ _ h => h) (by rfl) (by simp only [s0_, s1_, s2_, s3_, s4_, s5_]; rfl) ?_
           refine sk_ 20 33 (tk_ 40 2097151) HT_.out rfl rfl (by kernel_rfl) (fun _ _ _ h => h) (by rfl) (by simp only [s0_, s1_, s2_, s3_, s4_, s5_]; rfl) ?_
           refine pu_ 21 34 (tk_ 40 4194303) HT_.out rfl rfl (by kernel_rfl) (fun _ _ _ h => h) (by rfl) (fun w' => by go_simp; with_reducible rfl) (by simp only [s0_, s1_, s2_, s3_, s4_, s5_]; rfl) ?_
           refine pu_ 22 35 (tk_ 40 8388607) HT_.out rfl rfl (by kernel_rfl) (fun _ _ _ h => h) (by rfl) (fun w' => by go_simp; with_reducible rfl) (by simp only [s0_, s1_, s2_, s3_, s4_, s5_]; rfl) ?_
           refine pu_ 23 36 (tk_ 40 16777215) HT_.out rfl rfl (by kernel_rfl) (fun _ _ _ h => h) (by rfl) (fun w' => by go_simp; with_reducible rfl) (by simp only [s0_, s1_, s2_, s3_, s4_, s5_]; rfl) ?_
           refine pu_ 24 37 (tk_ 40 33554431) HT_.out rfl rfl (by kernel_rfl) (fun _ _ _ h => h) (by rfl) (fun w' => by go_simp; with_reducible rfl) (by simp only [s0_, s1_, s2_, s3_, s4_, s5_]; rfl) ?_
           refine ta_ 25 38 (tk_ 40 67108863) HT_.out HW_.out rfl rfl (by kernel_rfl) (fun _ _ _ h => h) (by rfl) (by rintro w' ⟨s0, s1, s2, s3, s4, s5⟩; go_simp; with_reducible rfl) hHeld (by simp only [s0_, s1_, s2_, s3_, s4_, s5_]; rfl) ?_
           refine one_ (i := 26) (N := some 39) (tk_ 40 134217727) rfl rfl (one_of HT_.out (by kernel_rfl)) (by decide) (fun K hK => ?_)
           refine goes_ Try.func31 (by kernel_rfl) rfl #[.int .i64 0, .int .i64 ((rd_T37 l0_1 x8_1).f1), .int .i64 10000] (by rfl) rfl rfl (by (try simp only [List.map_toArray, List.map_cons, List.map_nil]); first | done | rfl | (simp only [List.length_drop, List.length_take]; rfl)) ?_
           with_reducible refine (font_within_int.calls 0 ((rd_T37 l0_1 x8_1).f1) 10000 true _ A45.out).mono ?_
           rintro e w' ⟨rfl, ⟨nd, rfl⟩⟩
           refine ⟨_, rfl, ?_⟩
           refine hK.out _ _ ⟨(blk_cell BK104.out 0).trans rfl, (blk_cell BK104.out 1).trans rfl, (blk_cell BK104.out 2).trans rfl, (blk_cell BK101.out 0).trans rfl, (blk_cell BK101.out 1).trans rfl, (blk_cell BK101.out 2).trans rfl⟩ (fun hHeld => ?_)
           clear hK K
           refine norm_ (by show Act.put _ (some 39) _ = _; simp only [s0_, s1_, s2_, s3_, s4_, s5_]; rfl) ?_
           refine pu_ 27 40 (tk_ 40 268435455) HT_.out rfl rfl (by kernel_rfl) (fun _ _ _ h => h) (by rfl) (fun w' => by go_simp; with_reducible rfl) (by simp only [s0_, s1_, s2_, s3_, s4_, s5_]; rfl) ?_
           refine pu_ 28 41 (tk_ 40 536870911) HT_.out rfl rfl (by kernel_rfl) (fun _ _ _ h => h) (by rfl) (fun w' => by go_simp; with_reducible rfl) (by simp only [s0_, s1_, s2_, s3_, s4_, s5_]; rfl) ?_
           refine pu_ 29 42 (tk_ 40 1073741823) HT_.out rfl rfl (by kernel_rfl) (fun _ _ _ h => h) (by rfl) (fun w' => by go_simp; with_reducible rfl) (by simp only [s0_, s1_, s2_, s3_, s4_, s5_]; rfl) ?_
           refine pu_ 30 43 (tk_ 40 2147483647) HT_.out rfl rfl (by kernel_rfl) (fun _ _ _ h => h) (by rfl) (fun w' => by go_simp; with_reducible rfl) (by simp only [s0_, s1_, s2_, s3_, s4_, s5_]; rfl) ?_
           refine ta_ 31 44 (tk_ 40 4294967295) HT_.out HW_.out rfl rfl (by kernel_rfl) (fun _ _ _ h => h) (by rfl) (by rintro w' ⟨s0, s1, s2, s3, s4, s5⟩; go_simp; with_reducible rfl) hHeld (by simp only [s0_, s1_, s2_, s3_, s4_, s5_]; rfl) ?_
           refine pu_ 32 45 (tk_ 40 8589934591) HT_.out rfl rfl (by kernel_rfl) (fun _ _ _ h => h) (by rfl) (fun w' => by go_simp; with_reducible rfl) (by simp only [s0_, s1_, s2_, s3_, s4_, s5_]; rfl) ?_
           refine pu_ 33 46 (tk_ 40 17179869183) HT_.out rfl rfl (by kernel_rfl) (fun _ _ _ h => h) (by rfl) (fun w' => by go_simp; with_reducible rfl) (by simp only [s0_, s1_, s2_, s3_, s4_, s5_]; rfl) ?_
           refine pu_ 34 47 (tk_ 40 34359738367) HT_.out rfl rfl (by kernel_rfl) (fun _ _ _ h => h) (by rfl) (fun w' => by go_simp; with_reducible rfl) (by simp only [s0_, s1_, s2_, s3_, s4_, s5_]; rfl) ?_
           refine ta_ 35 48 (tk_ 40 68719476735) HT_.out HW_.out rfl rfl (by kernel_rfl) (fun _ _ _ h => h) (by rfl) (by rintro w' ⟨s0, s1, s2, s3, s4, s5⟩; go_simp; with_reducible rfl) hHeld (by simp only [s0_, s1_, s2_, s3_, s4_, s5_]; rfl) ?_
           refine one_ (i := 36) (N := some 49) (tk_ 40 137438953471) rfl rfl (one_of HT_.out (by kernel_rfl)) (by decide) (fun K hK => ?_)
           refine goes_ Try.func33 (by kernel_rfl) rfl #[.string ((rd_T37 l0_1 x8_1).f2)] (by rfl) rfl rfl (by (try simp only [List.map_toArray, List.map_cons, List.map_nil]); first | done | rfl | (simp only [List.length_drop, List.length_take]; rfl)) ?_
           with_reducible refine (font_means.calls ((rd_T37 l0_1 x8_1).f2) false _ A53.out).mono ?_
           rintro e w' ⟨rfl, ⟨nd, rfl⟩⟩
           refine ⟨_, rfl, ?_⟩
           refine hK.out _ _ ⟨(blk_cell BK104.out 0).trans rfl, (blk_cell BK104.out 1).trans rfl, (blk_cell BK104.out 2).trans rfl, (blk_cell BK101.out 0).trans rfl, (blk_cell BK101.out 1).trans rfl, (blk_cell BK101.out 2).trans rfl⟩ (fun hHeld => ?_)
           clear hK K
           refine norm_ (by show Act.put _ (some 49) _ = _; simp only [s0_, s1_, s2_, s3_, s4_, s5_]; rfl) ?_
           refine pu_ 37 50 (tk_ 40 274877906943) HT_.out rfl rfl (by kernel_rfl) (fun _ _ _ h => h) (by rfl) (fun w' => by go_simp; with_reducible rfl) (by simp only [s0_, s1_, s2_, s3_, s4_, s5_]; rfl) ?_
           refine pu_ 38 51 (tk_ 40 549755813887) HT_.out rfl rfl (by kernel_rfl) (fun _ _ _ h => h) (by rfl) (fun w' => by go_simp; with_reducible rfl) (by simp only [s0_, s1_, s2_, s3_, s4_, s5_]; rfl) ?_
           refine pu_ 39 52 (tk_ 40 1099511627775) HT_.out rfl rfl (by kernel_rfl) (fun _ _ _ h => h) (by rfl) (fun w' => by go_simp; with_reducible rfl) (by simp only [s0_, s1_, s2_, s3_, s4_, s5_]; rfl) ?_
           refine done_ (done_of HT_.out (by kernel_rfl)) ?_
           try go_wp2
           go_ret
           exact ⟨by first | rfl | (simp [errW_none, errW_some] <;> rfl) | (simp [*, errW_none, errW_some] <;> rfl), by repeat (first | (with_reducible first | exact HB.out | apply below_alloc | apply pw_below_drewN | apply below_drew1 | refine below_set ?_ GE101.out | refine below_set ?_ GE104.out) | exact HB.out)⟩
        ·replace c46 := Bool.eq_false_iff.mpr c46
         subst c46
         have H1 : (some 1) = some r := by rw [if_neg (show ¬ (false = true) by decide)] at H; exact H
         clear H
         have H := H1
         clear H1
         obtain rfl := Option.some.inj H
         have p103 : 0 ≤ (x8_1 : Int) := of_decide_eq_true (by first | (with_reducible assumption) | assumption)
         have q103 : x8_1 < (l0_1.length : Int) := of_decide_eq_true (by first | (with_reducible assumption) | assumption)
         obtain ⟨ad103, e103, hx103_0, hx103_1, hx103_2⟩ := at_T37 HR0_1.out x8_1 p103 q103
         cases e103
         replace hx103_0 := (HB.out.cell (World.block_lt_of_cell? w _ hx103_0)).trans hx103_0
         replace hx103_1 := (HB.out.cell (World.block_lt_of_cell? w _ hx103_1)).trans hx103_1
         replace hx103_2 := (HB.out.cell (World.block_lt_of_cell? w _ hx103_2)).trans hx103_2
         replace p103 := eq_true p103
         replace q103 := eq_true q103
         try go_wp2_with (first | ((with_reducible refine gate_dst (N := 4) rfl ?_); (try (refine gate_guard (by rfl) ?_; dsimp only)); refine box_event ?hg (N := 4) ?hd (cs := #[.int .i64 0, .int .i64 0, .string (⟨#[]⟩ : ByteArray)]) (t := 37) ?hr ?_; (case hd => rfl); (case hg => rfl); (case hr => first | (go_simp; done) | (go_simp; rfl)); intro gb104 hg w65 hbox hb; have n0_ := Aside0.mk (blk_below (g := gb101) (o := .cells #[.bool a0_0, .slice (some ad103) l0_1.length c0_1, .int .i64 a0_2] 24 (0, 0)) (by (with_reducible repeat (first | refine blk_drewN ?_ _ | refine blk_drew ?_ | refine blk_alloc ?_ _)); exact BK101.out) hb); have n1_ := Aside0.mk (below_step (by repeat (first | (with_reducible first | exact HB.out | apply below_alloc | apply pw_below_drewN | apply below_drew1 | refine below_set ?_ GE101.out) | exact HB.out)) hb); have n2_ := Aside0.mk (hbox); have n3_ := Aside0.mk ((by rw [hg]; exact (below_size (by repeat (first | (with_reducible first | exact HB.out | apply below_alloc | apply pw_below_drewN | apply below_drew1 | refine below_set ?_ GE101.out) | exact HB.out))) : w.heap.size ≤ gb104)); have n4_ := Aside0.mk ((by rw [hg]; exact (below_size (by repeat (first | (with_reducible first | exact HB.out | apply below_alloc | apply pw_below_drewN | apply below_drew1 | refine below_set ?_ GE101.out) | exact HB.out))) : w.heap.size ≤ gb104)); have n5_ := Aside0.mk ((by rw [hg]; exact Nat.ne_of_lt (blk_lt (g := gb101) (o := .cells #[.bool a0_0, .slice (some ad103) l0_1.length c0_1, .int .i64 a0_2] 24 (0, 0)) (by (with_reducible repeat (first | refine blk_drewN ?_ _ | refine blk_drew ?_ | refine blk_alloc ?_ _)); exact BK101.out)) : gb101 ≠ gb104)); have n6_ := Aside0.mk ((by rw [hg]; exact Nat.ne_of_gt (blk_lt (g := gb101) (o := .cells #[.bool a0_0, .slice (some ad103) l0_1.length c0_1, .int .i64 a0_2] 24 (0, 0)) (by (with_reducible repeat (first | refine blk_drewN ?_ _ | refine blk_drew ?_ | refine blk_alloc ?_ _)); exact BK101.out)) : gb104 ≠ gb101)); clear BK101; clear HB; have BK101 := n0_; have HB := n1_; have BK104 := n2_; have GW104 := n3_; have GE104 := n4_; have NB101_104 := n5_; have NB104_101 := n6_; clear n0_ n1_ n2_ n3_ n4_ n5_ n6_; clear hb hbox hg; have hnb66 := NB104_101.out; have hnc66 := NB101_104.out; have hcz67_0 : w65.cell? ⟨gb104, 0, none⟩ = some (.int .i64 0) := (blk_cell BK104.out 0).trans rfl; have hcz67_1 : w65.cell? ⟨gb104, 1, none⟩ = some (.int .i64 0) := (blk_cell BK104.out 1).trans rfl; have hcz67_2 : w65.cell? ⟨gb104, 2, none⟩ = some (.string (⟨#[]⟩ : ByteArray)) := (blk_cell BK104.out 2).trans rfl; have hfz67_0 := blk_frozen BK104.out 0; have hfz67_1 := blk_frozen BK104.out 1; have hfz67_2 := blk_frozen BK104.out 2))
         have n0_ : Aside0 ((((w65.setCell ⟨gb104, 0, none⟩ (.int .i64 ((rd_T37 l0_1 x8_1).f0))).setCell ⟨gb104, 1, none⟩ (.int .i64 ((rd_T37 l0_1 x8_1).f1))).setCell ⟨gb104, 2, none⟩ (.string ((rd_T37 l0_1 x8_1).f2))).heap[gb101]? = some (.cells #[.bool a0_0, .slice (some ad103) l0_1.length c0_1, .int .i64 a0_2] 24 (0, 0))) := ⟨by (with_reducible repeat (first | refine blk_drewN ?_ _ | refine blk_drew ?_ | refine blk_alloc ?_ _)); refine blk_far ?_ NB101_104.out _; (with_reducible repeat (first | refine blk_drewN ?_ _ | refine blk_drew ?_ | refine blk_alloc ?_ _)); refine blk_far ?_ NB101_104.out _; (with_reducible repeat (first | refine blk_drewN ?_ _ | refine blk_drew ?_ | refine blk_alloc ?_ _)); refine blk_far ?_ NB101_104.out _; (with_reducible repeat (first | refine blk_drewN ?_ _ | refine blk_drew ?_ | refine blk_alloc ?_ _)); exact BK101.out⟩
         have n1_ : Aside0 ((((w65.setCell ⟨gb104, 0, none⟩ (.int .i64 ((rd_T37 l0_1 x8_1).f0))).setCell ⟨gb104, 1, none⟩ (.int .i64 ((rd_T37 l0_1 x8_1).f1))).setCell ⟨gb104, 2, none⟩ (.string ((rd_T37 l0_1 x8_1).f2))).heap[gb104]? = some (.cells #[.int .i64 ((rd_T37 l0_1 x8_1).f0), .int .i64 ((rd_T37 l0_1 x8_1).f1), .string ((rd_T37 l0_1 x8_1).f2)] 37 (0, 0))) := ⟨by (with_reducible repeat (first | refine blk_drewN ?_ _ | refine blk_drew ?_ | refine blk_alloc ?_ _)); refine blk_put (cs := #[.int .i64 ((rd_T37 l0_1 x8_1).f0), .int .i64 ((rd_T37 l0_1 x8_1).f1), .string (⟨#[]⟩ : ByteArray)]) ?_ 2 _ rfl; (with_reducible repeat (first | refine blk_drewN ?_ _ | refine blk_drew ?_ | refine blk_alloc ?_ _)); refine blk_put (cs := #[.int .i64 ((rd_T37 l0_1 x8_1).f0), .int .i64 0, .string (⟨#[]⟩ : ByteArray)]) ?_ 1 _ rfl; (with_reducible repeat (first | refine blk_drewN ?_ _ | refine blk_drew ?_ | refine blk_alloc ?_ _)); refine blk_put (cs := #[.int .i64 0, .int .i64 0, .string (⟨#[]⟩ : ByteArray)]) ?_ 0 _ rfl; (with_reducible repeat (first | refine blk_drewN ?_ _ | refine blk_drew ?_ | refine blk_alloc ?_ _)); exact BK104.out⟩
         have n2_ : Aside0 (Below w.heap.size w (((w65.setCell ⟨gb104, 0, none⟩ (.int .i64 ((rd_T37 l0_1 x8_1).f0))).setCell ⟨gb104, 1, none⟩ (.int .i64 ((rd_T37 l0_1 x8_1).f1))).setCell ⟨gb104, 2, none⟩ (.string ((rd_T37 l0_1 x8_1).f2)))) := ⟨by repeat (first | (with_reducible first | exact HB.out | apply below_alloc | apply pw_below_drewN | apply below_drew1 | refine below_set ?_ GE101.out | refine below_set ?_ GE104.out) | exact HB.out)⟩
         (try clear BK101)
         (try clear BK104)
         (try clear HB)
         generalize (((w65.setCell ⟨gb104, 0, none⟩ (.int .i64 ((rd_T37 l0_1 x8_1).f0))).setCell ⟨gb104, 1, none⟩ (.int .i64 ((rd_T37 l0_1 x8_1).f1))).setCell ⟨gb104, 2, none⟩ (.string ((rd_T37 l0_1 x8_1).f2))) = w68 at n0_ n1_ n2_ ⊢
         have BK101 := n0_
         have BK104 := n1_
         have HB := n2_
         clear n0_ n1_ n2_
         have n0_ := Aside0.mk (blk_drew BK101.out)
         have n1_ := Aside0.mk (blk_drew BK104.out)
         have n2_ := Aside0.mk (below_drew1 HB.out)
         clear BK101
         clear BK104
         clear HB
         have BK101 := n0_
         have BK104 := n1_
         have HB := n2_
         clear n0_ n1_ n2_
         refine start_ (n := 40) (S := fun w' => w'.cell? ⟨gb104, 0, none⟩ = some (.int .i64 ((rd_T37 l0_1 x8_1).f0)) ∧ w'.cell? ⟨gb104, 1, none⟩ = some (.int .i64 ((rd_T37 l0_1 x8_1).f1)) ∧ w'.cell? ⟨gb104, 2, none⟩ = some (.string ((rd_T37 l0_1 x8_1).f2)) ∧ w'.cell? ⟨gb101, 0, none⟩ = some (.bool a0_0) ∧ w'.cell? ⟨gb101, 1, none⟩ = some (.slice (some ad103) l0_1.length c0_1) ∧ w'.cell? ⟨gb101, 2, none⟩ = some (.int .i64 a0_2)) (ds := []) (tk_ 40 0) (by kernel_rfl) rfl (by kernel_rfl) ⟨(blk_cell BK104.out 0).trans rfl, (blk_cell BK104.out 1).trans rfl, (blk_cell BK104.out 2).trans rfl, (blk_cell BK101.out 0).trans rfl, (blk_cell BK101.out 1).trans rfl, (blk_cell BK101.out 2).trans rfl⟩ (fun hHeld => ?_); refine with_tabW font_Check.tab4 font_Check.bits4 (fun HT_ HW_ => ?_)
         generalize w68.drew = w69 at BK101 BK104 HB hHeld ⊢
         refine pu_ 0 13 (tk_ 40 1) HT_.out rfl rfl (by kernel_rfl) (fun _ _ _ h => h) (by rfl) (fun w' => by go_simp; with_reducible rfl) (by simp only [s0_, s1_, s2_, s3_, s4_, s5_]; rfl) ?_
         refine pu_ 2 15 (tk_ 40 5) HT_.out rfl rfl (by kernel_rfl) (fun _ _ _ h => h) (by rfl) (fun w' => by go_simp; with_reducible rfl) (by simp only [s0_, s1_, s2_, s3_, s4_, s5_]; rfl) ?_
         refine ta_ 1 14 (tk_ 40 7) HT_.out HW_.out rfl rfl (by kernel_rfl) (fun _ _ _ h => h) (by rfl) (by rintro w' ⟨s0, s1, s2, s3, s4, s5⟩; go_simp; with_reducible rfl) hHeld (by simp only [s0_, s1_, s2_, s3_, s4_, s5_]; rfl) ?_
         refine ta_ 3 16 (tk_ 40 15) HT_.out HW_.out rfl rfl (by kernel_rfl) (fun _ _ _ h => h) (by rfl) (by rintro w' ⟨s0, s1, s2, s3, s4, s5⟩; go_simp; with_reducible rfl) hHeld (by simp only [s0_, s1_, s2_, s3_, s4_, s5_]; rfl) ?_
         refine one_ (i := 4) (N := some 17) (tk_ 40 31) rfl rfl (one_of HT_.out (by kernel_rfl)) (by decide) (fun K hK => ?_)
         refine goes_ Try.func32 (by kernel_rfl) rfl #[.bool a0_0] (by rfl) rfl rfl (by (try simp only [List.map_toArray, List.map_cons, List.map_nil]); first | done | rfl | (simp only [List.length_drop, List.length_take]; rfl)) ?_
         with_reducible refine (font_top.calls a0_0 t105 _ A7.out).mono ?_
         rintro e w' ⟨rfl, ⟨nd, rfl⟩⟩
         refine ⟨_, rfl, ?_⟩
         refine hK.out _ _ ⟨(blk_cell BK104.out 0).trans rfl, (blk_cell BK104.out 1).trans rfl, (blk_cell BK104.out 2).trans rfl, (blk_cell BK101.out 0).trans rfl, (blk_cell BK101.out 1).trans rfl, (blk_cell BK101.out 2).trans rfl⟩ (fun hHeld => ?_)
         clear hK K
         refine norm_ (by show Act.put _ (some 17) _ = _; simp only [s0_, s1_, s2_, s3_, s4_, s5_]; rfl) ?_
         refine one_ (i := 5) (N := some 18) (tk_ 40 63) rfl rfl (one_of HT_.out (by kernel_rfl)) (by decide) (fun K hK => ?_)
         refine goes_ Try.func31 (by kernel_rfl) rfl #[.int .i64 0, .int .i64 ((rd_T37 l0_1 x8_1).f0), .int .i64 t105] (by rfl) rfl rfl (by (try simp only [List.map_toArray, List.map_cons, List.map_nil]); first | done | rfl | (simp only [List.length_drop, List.length_take]; rfl)) ?_
         with_reducible refine (font_within_int.calls 0 ((rd_T37 l0_1 x8_1).f0) t105 true _ A8.out).mono ?_
         rintro e w' ⟨rfl, ⟨nd, rfl⟩⟩
         refine ⟨_, rfl, ?_⟩
         refine hK.out _ _ ⟨(blk_cell BK104.out 0).trans rfl, (blk_cell BK104.out 1).trans rfl, (blk_cell BK104.out 2).trans rfl, (blk_cell BK101.out 0).trans rfl, (blk_cell BK101.out 1).trans rfl, (blk_cell BK101.out 2).trans rfl⟩ (fun hHeld => ?_)
         clear hK K
         refine norm_ (by show Act.put _ (some 18) _ = _; simp only [s0_, s1_, s2_, s3_, s4_, s5_]; rfl) ?_
         refine pu_ 6 19 (tk_ 40 127) HT_.out rfl rfl (by kernel_rfl) (fun _ _ _ h => h) (by rfl) (fun w' => by go_simp; with_reducible rfl) (by simp only [s0_, s1_, s2_, s3_, s4_, s5_]; rfl) ?_
         refine pu_ 7 20 (tk_ 40 255) HT_.out rfl rfl (by kernel_rfl) (fun _ _ _ h => h) (by rfl) (fun w' => by go_simp; with_reducible rfl) (by simp only [s0_, s1_, s2_, s3_, s4_, s5_]; rfl) ?_
         refine pu_ 8 21 (tk_ 40 511) HT_.out rfl rfl (by kernel_rfl) (fun _ _ _ h => h) (by rfl) (fun w' => by go_simp; with_reducible rfl) (by simp only [s0_, s1_, s2_, s3_, s4_, s5_]; rfl) ?_
         refine pu_ 9 22 (tk_ 40 1023) HT_.out rfl rfl (by kernel_rfl) (fun _ _ _ h => h) (by rfl) (fun w' => by go_simp; with_reducible rfl) (by simp only [s0_, s1_, s2_, s3_, s4_, s5_]; rfl) ?_
         refine pu_ 10 23 (tk_ 40 2047) HT_.out rfl rfl (by kernel_rfl) (fun _ _ _ h => h) (by rfl) (fun w' => by go_simp; with_reducible rfl) (by simp only [s0_, s1_, s2_, s3_, s4_, s5_]; rfl) ?_
         refine sk_ 11 24 (tk_ 40 4095) HT_.out rfl rfl (by kernel_rfl) (fun _ _ _ h => h) (by rfl) (by simp only [s0_, s1_, s2_, s3_, s4_, s5_]; rfl) ?_
         refine sk_ 12 25 (tk_ 40 8191) HT_.out rfl rfl (by kernel_rfl) (fun _ _ _ h => h) (by rfl) (by simp only [s0_, s1_, s2_, s3_, s4_, s5_]; rfl) ?_
         refine sk_ 13 26 (tk_ 40 16383) HT_.out rfl rfl (by kernel_rfl) (fun _ _ _ h => h) (by rfl) (by simp only [s0_, s1_, s2_, s3_, s4_, s5_]; rfl) ?_
         refine sk_ 14 27 (tk_ 40 32767) HT_.out rfl rfl (by kernel_rfl) (fun _ _ _ h => h) (by rfl) (by simp only [s0_, s1_, s2_, s3_, s4_, s5_]; rfl) ?_
         refine sk_ 15 28 (tk_ 40 65535) HT_.out rfl rfl (by kernel_rfl) (fun _ _ _ h => h) (by rfl) (by simp only [s0_, s1_, s2_, s3_, s4_, s5_]; rfl) ?_
         refine sk_ 16 29 (tk_ 40 131071) HT_.out rfl rfl (by kernel_rfl) (fun _ _ _ h => h) (by rfl) (by simp only [s0_, s1_, s2_, s3_, s4_, s5_]; rfl) ?_
         refine sk_ 17 30 (tk_ 40 262143) HT_.out rfl rfl (by kernel_rfl) (fun _ _ _ h => h) (by rfl) (by simp only [s0_, s1_, s2_, s3_, s4_, s5_]; rfl) ?_
         refine sk_ 18 31 (tk_ 40 524287) HT_.out rfl rfl (by kernel_rfl) (fun _ _ _ h => h) (by rfl) (by simp only [s0_, s1_, s2_, s3_, s4_, s5_]; rfl) ?_
         refine sk_ 19 32 (tk_ 40 1048575) HT_.out rfl rfl (by kernel_rfl) (fun _ _ _ h => h) (by rfl) (by simp only [s0_, s1_, s2_, s3_, s4_, s5_]; rfl) ?_
         refine sk_ 20 33 (tk_ 40 2097151) HT_.out rfl rfl (by kernel_rfl) (fun _ _ _ h => h) (by rfl) (by simp only [s0_, s1_, s2_, s3_, s4_, s5_]; rfl) ?_
         refine pu_ 21 34 (tk_ 40 4194303) HT_.out rfl rfl (by kernel_rfl) (fun _ _ _ h => h) (by rfl) (fun w' => by go_simp; with_reducible rfl) (by simp only [s0_, s1_, s2_, s3_, s4_, s5_]; rfl) ?_
         refine pu_ 22 35 (tk_ 40 8388607) HT_.out rfl rfl (by kernel_rfl) (fun _ _ _ h => h) (by rfl) (fun w' => by go_simp; with_reducible rfl) (by simp only [s0_, s1_, s2_, s3_, s4_, s5_]; rfl) ?_
         refine pu_ 23 36 (tk_ 40 16777215) HT_.out rfl rfl (by kernel_rfl) (fun _ _ _ h => h) (by rfl) (fun w' => by go_simp; with_reducible rfl) (by simp only [s0_, s1_, s2_, s3_, s4_, s5_]; rfl) ?_
         refine pu_ 24 37 (tk_ 40 33554431) HT_.out rfl rfl (by kernel_rfl) (fun _ _ _ h => h) (by rfl) (fun w' => by go_simp; with_reducible rfl) (by simp only [s0_, s1_, s2_, s3_, s4_, s5_]; rfl) ?_
         refine ta_ 25 38 (tk_ 40 67108863) HT_.out HW_.out rfl rfl (by kernel_rfl) (fun _ _ _ h => h) (by rfl) (by rintro w' ⟨s0, s1, s2, s3, s4, s5⟩; go_simp; with_reducible rfl) hHeld (by simp only [s0_, s1_, s2_, s3_, s4_, s5_]; rfl) ?_
         refine one_ (i := 26) (N := some 39) (tk_ 40 134217727) rfl rfl (one_of HT_.out (by kernel_rfl)) (by decide) (fun K hK => ?_)
         refine goes_ Try.func31 (by kernel_rfl) rfl #[.int .i64 0, .int .i64 ((rd_T37 l0_1 x8_1).f1), .int .i64 10000] (by rfl) rfl rfl (by (try simp only [List.map_toArray, List.map_cons, List.map_nil]); first | done | rfl | (simp only [List.length_drop, List.length_take]; rfl)) ?_
         with_reducible refine (font_within_int.calls 0 ((rd_T37 l0_1 x8_1).f1) 10000 false _ A45.out).mono ?_
         rintro e w' ⟨rfl, ⟨nd, rfl⟩⟩
         refine ⟨_, rfl, ?_⟩
         refine hK.out _ _ ⟨(blk_cell BK104.out 0).trans rfl, (blk_cell BK104.out 1).trans rfl, (blk_cell BK104.out 2).trans rfl, (blk_cell BK101.out 0).trans rfl, (blk_cell BK101.out 1).trans rfl, (blk_cell BK101.out 2).trans rfl⟩ (fun hHeld => ?_)
         clear hK K
         refine norm_ (by show Act.put _ (some 39) _ = _; simp only [s0_, s1_, s2_, s3_, s4_, s5_]; rfl) ?_
         refine pu_ 27 40 (tk_ 40 268435455) HT_.out rfl rfl (by kernel_rfl) (fun _ _ _ h => h) (by rfl) (fun w' => by go_simp; with_reducible rfl) (by simp only [s0_, s1_, s2_, s3_, s4_, s5_]; rfl) ?_
         refine pu_ 28 41 (tk_ 40 536870911) HT_.out rfl rfl (by kernel_rfl) (fun _ _ _ h => h) (by rfl) (fun w' => by go_simp; with_reducible rfl) (by simp only [s0_, s1_, s2_, s3_, s4_, s5_]; rfl) ?_
         refine pu_ 29 42 (tk_ 40 1073741823) HT_.out rfl rfl (by kernel_rfl) (fun _ _ _ h => h) (by rfl) (fun w' => by go_simp; with_reducible rfl) (by simp only [s0_, s1_, s2_, s3_, s4_, s5_]; rfl) ?_
         refine sk_ 30 43 (tk_ 40 2147483647) HT_.out rfl rfl (by kernel_rfl) (fun _ _ _ h => h) (by rfl) (by simp only [s0_, s1_, s2_, s3_, s4_, s5_]; rfl) ?_
         refine sk_ 31 44 (tk_ 40 4294967295) HT_.out rfl rfl (by kernel_rfl) (fun _ _ _ h => h) (by rfl) (by simp only [s0_, s1_, s2_, s3_, s4_, s5_]; rfl) ?_
         refine sk_ 32 45 (tk_ 40 8589934591) HT_.out rfl rfl (by kernel_rfl) (fun _ _ _ h => h) (by rfl) (by simp only [s0_, s1_, s2_, s3_, s4_, s5_]; rfl) ?_
         refine sk_ 33 46 (tk_ 40 17179869183) HT_.out rfl rfl (by kernel_rfl) (fun _ _ _ h => h) (by rfl) (by simp only [s0_, s1_, s2_, s3_, s4_, s5_]; rfl) ?_
         refine sk_ 34 47 (tk_ 40 34359738367) HT_.out rfl rfl (by kernel_rfl) (fun _ _ _ h => h) (by rfl) (by simp only [s0_, s1_, s2_, s3_, s4_, s5_]; rfl) ?_
         refine sk_ 35 48 (tk_ 40 68719476735) HT_.out rfl rfl (by kernel_rfl) (fun _ _ _ h => h) (by rfl) (by simp only [s0_, s1_, s2_, s3_, s4_, s5_]; rfl) ?_
         refine sk_ 36 49 (tk_ 40 137438953471) HT_.out rfl rfl (by kernel_rfl) (fun _ _ _ h => h) (by rfl) (by simp only [s0_, s1_, s2_, s3_, s4_, s5_]; rfl) ?_
         refine sk_ 37 50 (tk_ 40 274877906943) HT_.out rfl rfl (by kernel_rfl) (fun _ _ _ h => h) (by rfl) (by simp only [s0_, s1_, s2_, s3_, s4_, s5_]; rfl) ?_
         refine sk_ 38 51 (tk_ 40 549755813887) HT_.out rfl rfl (by kernel_rfl) (fun _ _ _ h => h) (by rfl) (by simp only [s0_, s1_, s2_, s3_, s4_, s5_]; rfl) ?_
         refine pu_ 39 52 (tk_ 40 1099511627775) HT_.out rfl rfl (by kernel_rfl) (fun _ _ _ h => h) (by rfl) (fun w' => by go_simp; with_reducible rfl) (by simp only [s0_, s1_, s2_, s3_, s4_, s5_]; rfl) ?_
         refine done_ (done_of HT_.out (by kernel_rfl)) ?_
         try go_wp2
         go_ret
         exact ⟨by first | rfl | (simp [errW_none, errW_some] <;> rfl) | (simp [*, errW_none, errW_some] <;> rfl), by repeat (first | (with_reducible first | exact HB.out | apply below_alloc | apply pw_below_drewN | apply below_drew1 | refine below_set ?_ GE101.out | refine below_set ?_ GE104.out) | exact HB.out)⟩
      ·replace c9 := Bool.eq_false_iff.mpr c9
       subst c9
       have H1 : (some 1) = some r := by rw [if_neg (show ¬ (false = true) by decide)] at H; exact H
       clear H
       have H := H1
       clear H1
       obtain rfl := Option.some.inj H
       have p103 : 0 ≤ (x8_1 : Int) := of_decide_eq_true (by first | (with_reducible assumption) | assumption)
       have q103 : x8_1 < (l0_1.length : Int) := of_decide_eq_true (by first | (with_reducible assumption) | assumption)
       obtain ⟨ad103, e103, hx103_0, hx103_1, hx103_2⟩ := at_T37 HR0_1.out x8_1 p103 q103
       cases e103
       replace hx103_0 := (HB.out.cell (World.block_lt_of_cell? w _ hx103_0)).trans hx103_0
       replace hx103_1 := (HB.out.cell (World.block_lt_of_cell? w _ hx103_1)).trans hx103_1
       replace hx103_2 := (HB.out.cell (World.block_lt_of_cell? w _ hx103_2)).trans hx103_2
       replace p103 := eq_true p103
       replace q103 := eq_true q103
       try go_wp2_with (first | ((with_reducible refine gate_dst (N := 4) rfl ?_); (try (refine gate_guard (by rfl) ?_; dsimp only)); refine box_event ?hg (N := 4) ?hd (cs := #[.int .i64 0, .int .i64 0, .string (⟨#[]⟩ : ByteArray)]) (t := 37) ?hr ?_; (case hd => rfl); (case hg => rfl); (case hr => first | (go_simp; done) | (go_simp; rfl)); intro gb104 hg w70 hbox hb; have n0_ := Aside0.mk (blk_below (g := gb101) (o := .cells #[.bool a0_0, .slice (some ad103) l0_1.length c0_1, .int .i64 a0_2] 24 (0, 0)) (by (with_reducible repeat (first | refine blk_drewN ?_ _ | refine blk_drew ?_ | refine blk_alloc ?_ _)); exact BK101.out) hb); have n1_ := Aside0.mk (below_step (by repeat (first | (with_reducible first | exact HB.out | apply below_alloc | apply pw_below_drewN | apply below_drew1 | refine below_set ?_ GE101.out) | exact HB.out)) hb); have n2_ := Aside0.mk (hbox); have n3_ := Aside0.mk ((by rw [hg]; exact (below_size (by repeat (first | (with_reducible first | exact HB.out | apply below_alloc | apply pw_below_drewN | apply below_drew1 | refine below_set ?_ GE101.out) | exact HB.out))) : w.heap.size ≤ gb104)); have n4_ := Aside0.mk ((by rw [hg]; exact (below_size (by repeat (first | (with_reducible first | exact HB.out | apply below_alloc | apply pw_below_drewN | apply below_drew1 | refine below_set ?_ GE101.out) | exact HB.out))) : w.heap.size ≤ gb104)); have n5_ := Aside0.mk ((by rw [hg]; exact Nat.ne_of_lt (blk_lt (g := gb101) (o := .cells #[.bool a0_0, .slice (some ad103) l0_1.length c0_1, .int .i64 a0_2] 24 (0, 0)) (by (with_reducible repeat (first | refine blk_drewN ?_ _ | refine blk_drew ?_ | refine blk_alloc ?_ _)); exact BK101.out)) : gb101 ≠ gb104)); have n6_ := Aside0.mk ((by rw [hg]; exact Nat.ne_of_gt (blk_lt (g := gb101) (o := .cells #[.bool a0_0, .slice (some ad103) l0_1.length c0_1, .int .i64 a0_2] 24 (0, 0)) (by (with_reducible repeat (first | refine blk_drewN ?_ _ | refine blk_drew ?_ | refine blk_alloc ?_ _)); exact BK101.out)) : gb104 ≠ gb101)); clear BK101; clear HB; have BK101 := n0_; have HB := n1_; have BK104 := n2_; have GW104 := n3_; have GE104 := n4_; have NB101_104 := n5_; have NB104_101 := n6_; clear n0_ n1_ n2_ n3_ n4_ n5_ n6_; clear hb hbox hg; have hnb71 := NB104_101.out; have hnc71 := NB101_104.out; have hcz72_0 : w70.cell? ⟨gb104, 0, none⟩ = some (.int .i64 0) := (blk_cell BK104.out 0).trans rfl; have hcz72_1 : w70.cell? ⟨gb104, 1, none⟩ = some (.int .i64 0) := (blk_cell BK104.out 1).trans rfl; have hcz72_2 : w70.cell? ⟨gb104, 2, none⟩ = some (.string (⟨#[]⟩ : ByteArray)) := (blk_cell BK104.out 2).trans rfl; have hfz72_0 := blk_frozen BK104.out 0; have hfz72_1 := blk_frozen BK104.out 1; have hfz72_2 := blk_frozen BK104.out 2))
       have n0_ : Aside0 ((((w70.setCell ⟨gb104, 0, none⟩ (.int .i64 ((rd_T37 l0_1 x8_1).f0))).setCell ⟨gb104, 1, none⟩ (.int .i64 ((rd_T37 l0_1 x8_1).f1))).setCell ⟨gb104, 2, none⟩ (.string ((rd_T37 l0_1 x8_1).f2))).heap[gb101]? = some (.cells #[.bool a0_0, .slice (some ad103) l0_1.length c0_1, .int .i64 a0_2] 24 (0, 0))) := ⟨by (with_reducible repeat (first | refine blk_drewN ?_ _ | refine blk_drew ?_ | refine blk_alloc ?_ _)); refine blk_far ?_ NB101_104.out _; (with_reducible repeat (first | refine blk_drewN ?_ _ | refine blk_drew ?_ | refine blk_alloc ?_ _)); refine blk_far ?_ NB101_104.out _; (with_reducible repeat (first | refine blk_drewN ?_ _ | refine blk_drew ?_ | refine blk_alloc ?_ _)); refine blk_far ?_ NB101_104.out _; (with_reducible repeat (first | refine blk_drewN ?_ _ | refine blk_drew ?_ | refine blk_alloc ?_ _)); exact BK101.out⟩
       have n1_ : Aside0 ((((w70.setCell ⟨gb104, 0, none⟩ (.int .i64 ((rd_T37 l0_1 x8_1).f0))).setCell ⟨gb104, 1, none⟩ (.int .i64 ((rd_T37 l0_1 x8_1).f1))).setCell ⟨gb104, 2, none⟩ (.string ((rd_T37 l0_1 x8_1).f2))).heap[gb104]? = some (.cells #[.int .i64 ((rd_T37 l0_1 x8_1).f0), .int .i64 ((rd_T37 l0_1 x8_1).f1), .string ((rd_T37 l0_1 x8_1).f2)] 37 (0, 0))) := ⟨by (with_reducible repeat (first | refine blk_drewN ?_ _ | refine blk_drew ?_ | refine blk_alloc ?_ _)); refine blk_put (cs := #[.int .i64 ((rd_T37 l0_1 x8_1).f0), .int .i64 ((rd_T37 l0_1 x8_1).f1), .string (⟨#[]⟩ : ByteArray)]) ?_ 2 _ rfl; (with_reducible repeat (first | refine blk_drewN ?_ _ | refine blk_drew ?_ | refine blk_alloc ?_ _)); refine blk_put (cs := #[.int .i64 ((rd_T37 l0_1 x8_1).f0), .int .i64 0, .string (⟨#[]⟩ : ByteArray)]) ?_ 1 _ rfl; (with_reducible repeat (first | refine blk_drewN ?_ _ | refine blk_drew ?_ | refine blk_alloc ?_ _)); refine blk_put (cs := #[.int .i64 0, .int .i64 0, .string (⟨#[]⟩ : ByteArray)]) ?_ 0 _ rfl; (with_reducible repeat (first | refine blk_drewN ?_ _ | refine blk_drew ?_ | refine blk_alloc ?_ _)); exact BK104.out⟩
       have n2_ : Aside0 (Below w.heap.size w (((w70.setCell ⟨gb104, 0, none⟩ (.int .i64 ((rd_T37 l0_1 x8_1).f0))).setCell ⟨gb104, 1, none⟩ (.int .i64 ((rd_T37 l0_1 x8_1).f1))).setCell ⟨gb104, 2, none⟩ (.string ((rd_T37 l0_1 x8_1).f2)))) := ⟨by repeat (first | (with_reducible first | exact HB.out | apply below_alloc | apply pw_below_drewN | apply below_drew1 | refine below_set ?_ GE101.out | refine below_set ?_ GE104.out) | exact HB.out)⟩
       (try clear BK101)
       (try clear BK104)
       (try clear HB)
       generalize (((w70.setCell ⟨gb104, 0, none⟩ (.int .i64 ((rd_T37 l0_1 x8_1).f0))).setCell ⟨gb104, 1, none⟩ (.int .i64 ((rd_T37 l0_1 x8_1).f1))).setCell ⟨gb104, 2, none⟩ (.string ((rd_T37 l0_1 x8_1).f2))) = w73 at n0_ n1_ n2_ ⊢
       have BK101 := n0_
       have BK104 := n1_
       have HB := n2_
       clear n0_ n1_ n2_
       have n0_ := Aside0.mk (blk_drew BK101.out)
       have n1_ := Aside0.mk (blk_drew BK104.out)
       have n2_ := Aside0.mk (below_drew1 HB.out)
       clear BK101
       clear BK104
       clear HB
       have BK101 := n0_
       have BK104 := n1_
       have HB := n2_
       clear n0_ n1_ n2_
       refine start_ (n := 40) (S := fun w' => w'.cell? ⟨gb104, 0, none⟩ = some (.int .i64 ((rd_T37 l0_1 x8_1).f0)) ∧ w'.cell? ⟨gb104, 1, none⟩ = some (.int .i64 ((rd_T37 l0_1 x8_1).f1)) ∧ w'.cell? ⟨gb104, 2, none⟩ = some (.string ((rd_T37 l0_1 x8_1).f2)) ∧ w'.cell? ⟨gb101, 0, none⟩ = some (.bool a0_0) ∧ w'.cell? ⟨gb101, 1, none⟩ = some (.slice (some ad103) l0_1.length c0_1) ∧ w'.cell? ⟨gb101, 2, none⟩ = some (.int .i64 a0_2)) (ds := []) (tk_ 40 0) (by kernel_rfl) rfl (by kernel_rfl) ⟨(blk_cell BK104.out 0).trans rfl, (blk_cell BK104.out 1).trans rfl, (blk_cell BK104.out 2).trans rfl, (blk_cell BK101.out 0).trans rfl, (blk_cell BK101.out 1).trans rfl, (blk_cell BK101.out 2).trans rfl⟩ (fun hHeld => ?_); refine with_tabW font_Check.tab4 font_Check.bits4 (fun HT_ HW_ => ?_)
       generalize w73.drew = w74 at BK101 BK104 HB hHeld ⊢
       refine pu_ 0 13 (tk_ 40 1) HT_.out rfl rfl (by kernel_rfl) (fun _ _ _ h => h) (by rfl) (fun w' => by go_simp; with_reducible rfl) (by simp only [s0_, s1_, s2_, s3_, s4_, s5_]; rfl) ?_
       refine pu_ 2 15 (tk_ 40 5) HT_.out rfl rfl (by kernel_rfl) (fun _ _ _ h => h) (by rfl) (fun w' => by go_simp; with_reducible rfl) (by simp only [s0_, s1_, s2_, s3_, s4_, s5_]; rfl) ?_
       refine ta_ 1 14 (tk_ 40 7) HT_.out HW_.out rfl rfl (by kernel_rfl) (fun _ _ _ h => h) (by rfl) (by rintro w' ⟨s0, s1, s2, s3, s4, s5⟩; go_simp; with_reducible rfl) hHeld (by simp only [s0_, s1_, s2_, s3_, s4_, s5_]; rfl) ?_
       refine ta_ 3 16 (tk_ 40 15) HT_.out HW_.out rfl rfl (by kernel_rfl) (fun _ _ _ h => h) (by rfl) (by rintro w' ⟨s0, s1, s2, s3, s4, s5⟩; go_simp; with_reducible rfl) hHeld (by simp only [s0_, s1_, s2_, s3_, s4_, s5_]; rfl) ?_
       refine one_ (i := 4) (N := some 17) (tk_ 40 31) rfl rfl (one_of HT_.out (by kernel_rfl)) (by decide) (fun K hK => ?_)
       refine goes_ Try.func32 (by kernel_rfl) rfl #[.bool a0_0] (by rfl) rfl rfl (by (try simp only [List.map_toArray, List.map_cons, List.map_nil]); first | done | rfl | (simp only [List.length_drop, List.length_take]; rfl)) ?_
       with_reducible refine (font_top.calls a0_0 t105 _ A7.out).mono ?_
       rintro e w' ⟨rfl, ⟨nd, rfl⟩⟩
       refine ⟨_, rfl, ?_⟩
       refine hK.out _ _ ⟨(blk_cell BK104.out 0).trans rfl, (blk_cell BK104.out 1).trans rfl, (blk_cell BK104.out 2).trans rfl, (blk_cell BK101.out 0).trans rfl, (blk_cell BK101.out 1).trans rfl, (blk_cell BK101.out 2).trans rfl⟩ (fun hHeld => ?_)
       clear hK K
       refine norm_ (by show Act.put _ (some 17) _ = _; simp only [s0_, s1_, s2_, s3_, s4_, s5_]; rfl) ?_
       refine one_ (i := 5) (N := some 18) (tk_ 40 63) rfl rfl (one_of HT_.out (by kernel_rfl)) (by decide) (fun K hK => ?_)
       refine goes_ Try.func31 (by kernel_rfl) rfl #[.int .i64 0, .int .i64 ((rd_T37 l0_1 x8_1).f0), .int .i64 t105] (by rfl) rfl rfl (by (try simp only [List.map_toArray, List.map_cons, List.map_nil]); first | done | rfl | (simp only [List.length_drop, List.length_take]; rfl)) ?_
       with_reducible refine (font_within_int.calls 0 ((rd_T37 l0_1 x8_1).f0) t105 false _ A8.out).mono ?_
       rintro e w' ⟨rfl, ⟨nd, rfl⟩⟩
       refine ⟨_, rfl, ?_⟩
       refine hK.out _ _ ⟨(blk_cell BK104.out 0).trans rfl, (blk_cell BK104.out 1).trans rfl, (blk_cell BK104.out 2).trans rfl, (blk_cell BK101.out 0).trans rfl, (blk_cell BK101.out 1).trans rfl, (blk_cell BK101.out 2).trans rfl⟩ (fun hHeld => ?_)
       clear hK K
       refine norm_ (by show Act.put _ (some 18) _ = _; simp only [s0_, s1_, s2_, s3_, s4_, s5_]; rfl) ?_
       refine pu_ 6 19 (tk_ 40 127) HT_.out rfl rfl (by kernel_rfl) (fun _ _ _ h => h) (by rfl) (fun w' => by go_simp; with_reducible rfl) (by simp only [s0_, s1_, s2_, s3_, s4_, s5_]; rfl) ?_
       refine pu_ 7 20 (tk_ 40 255) HT_.out rfl rfl (by kernel_rfl) (fun _ _ _ h => h) (by rfl) (fun w' => by go_simp; with_reducible rfl) (by simp only [s0_, s1_, s2_, s3_, s4_, s5_]; rfl) ?_
       refine sk_ 8 21 (tk_ 40 511) HT_.out rfl rfl (by kernel_rfl) (fun _ _ _ h => h) (by rfl) (by simp only [s0_, s1_, s2_, s3_, s4_, s5_]; rfl) ?_
       refine sk_ 9 22 (tk_ 40 1023) HT_.out rfl rfl (by kernel_rfl) (fun _ _ _ h => h) (by rfl) (by simp only [s0_, s1_, s2_, s3_, s4_, s5_]; rfl) ?_
       refine sk_ 10 23 (tk_ 40 2047) HT_.out rfl rfl (by kernel_rfl) (fun _ _ _ h => h) (by rfl) (by simp only [s0_, s1_, s2_, s3_, s4_, s5_]; rfl) ?_
       refine sk_ 11 24 (tk_ 40 4095) HT_.out rfl rfl (by kernel_rfl) (fun _ _ _ h => h) (by rfl) (by simp only [s0_, s1_, s2_, s3_, s4_, s5_]; rfl) ?_
       refine sk_ 12 25 (tk_ 40 8191) HT_.out rfl rfl (by kernel_rfl) (fun _ _ _ h => h) (by rfl) (by simp only [s0_, s1_, s2_, s3_, s4_, s5_]; rfl) ?_
       refine sk_ 13 26 (tk_ 40 16383) HT_.out rfl rfl (by kernel_rfl) (fun _ _ _ h => h) (by rfl) (by simp only [s0_, s1_, s2_, s3_, s4_, s5_]; rfl) ?_
       refine sk_ 14 27 (tk_ 40 32767) HT_.out rfl rfl (by kernel_rfl) (fun _ _ _ h => h) (by rfl) (by simp only [s0_, s1_, s2_, s3_, s4_, s5_]; rfl) ?_
       refine sk_ 15 28 (tk_ 40 65535) HT_.out rfl rfl (by kernel_rfl) (fun _ _ _ h => h) (by rfl) (by simp only [s0_, s1_, s2_, s3_, s4_, s5_]; rfl) ?_
       refine sk_ 16 29 (tk_ 40 131071) HT_.out rfl rfl (by kernel_rfl) (fun _ _ _ h => h) (by rfl) (by simp only [s0_, s1_, s2_, s3_, s4_, s5_]; rfl) ?_
       refine sk_ 17 30 (tk_ 40 262143) HT_.out rfl rfl (by kernel_rfl) (fun _ _ _ h => h) (by rfl) (by simp only [s0_, s1_, s2_, s3_, s4_, s5_]; rfl) ?_
       refine sk_ 18 31 (tk_ 40 524287) HT_.out rfl rfl (by kernel_rfl) (fun _ _ _ h => h) (by rfl) (by simp only [s0_, s1_, s2_, s3_, s4_, s5_]; rfl) ?_
       refine sk_ 19 32 (tk_ 40 1048575) HT_.out rfl rfl (by kernel_rfl) (fun _ _ _ h => h) (by rfl) (by simp only [s0_, s1_, s2_, s3_, s4_, s5_]; rfl) ?_
       refine sk_ 20 33 (tk_ 40 2097151) HT_.out rfl rfl (by kernel_rfl) (fun _ _ _ h => h) (by rfl) (by simp only [s0_, s1_, s2_, s3_, s4_, s5_]; rfl) ?_
       refine sk_ 21 34 (tk_ 40 4194303) HT_.out rfl rfl (by kernel_rfl) (fun _ _ _ h => h) (by rfl) (by simp only [s0_, s1_, s2_, s3_, s4_, s5_]; rfl) ?_
       refine pu_ 22 35 (tk_ 40 8388607) HT_.out rfl rfl (by kernel_rfl) (fun _ _ _ h => h) (by rfl) (fun w' => by go_simp; with_reducible rfl) (by simp only [s0_, s1_, s2_, s3_, s4_, s5_]; rfl) ?_
       refine pu_ 23 36 (tk_ 40 16777215) HT_.out rfl rfl (by kernel_rfl) (fun _ _ _ h => h) (by rfl) (fun w' => by go_simp; with_reducible rfl) (by simp only [s0_, s1_, s2_, s3_, s4_, s5_]; rfl) ?_
       refine sk_ 24 37 (tk_ 40 33554431) HT_.out rfl rfl (by kernel_rfl) (fun _ _ _ h => h) (by rfl) (by simp only [s0_, s1_, s2_, s3_, s4_, s5_]; rfl) ?_
       refine sk_ 25 38 (tk_ 40 67108863) HT_.out rfl rfl (by kernel_rfl) (fun _ _ _ h => h) (by rfl) (by simp only [s0_, s1_, s2_, s3_, s4_, s5_]; rfl) ?_
       refine sk_ 26 39 (tk_ 40 134217727) HT_.out rfl rfl (by kernel_rfl) (fun _ _ _ h => h) (by rfl) (by simp only [s0_, s1_, s2_, s3_, s4_, s5_]; rfl) ?_
       refine sk_ 27 40 (tk_ 40 268435455) HT_.out rfl rfl (by kernel_rfl) (fun _ _ _ h => h) (by rfl) (by simp only [s0_, s1_, s2_, s3_, s4_, s5_]; rfl) ?_
       refine pu_ 28 41 (tk_ 40 536870911) HT_.out rfl rfl (by kernel_rfl) (fun _ _ _ h => h) (by rfl) (fun w' => by go_simp; with_reducible rfl) (by simp only [s0_, s1_, s2_, s3_, s4_, s5_]; rfl) ?_
       refine pu_ 29 42 (tk_ 40 1073741823) HT_.out rfl rfl (by kernel_rfl) (fun _ _ _ h => h) (by rfl) (fun w' => by go_simp; with_reducible rfl) (by simp only [s0_, s1_, s2_, s3_, s4_, s5_]; rfl) ?_
       refine sk_ 30 43 (tk_ 40 2147483647) HT_.out rfl rfl (by kernel_rfl) (fun _ _ _ h => h) (by rfl) (by simp only [s0_, s1_, s2_, s3_, s4_, s5_]; rfl) ?_
       refine sk_ 31 44 (tk_ 40 4294967295) HT_.out rfl rfl (by kernel_rfl) (fun _ _ _ h => h) (by rfl) (by simp only [s0_, s1_, s2_, s3_, s4_, s5_]; rfl) ?_
       refine sk_ 32 45 (tk_ 40 8589934591) HT_.out rfl rfl (by kernel_rfl) (fun _ _ _ h => h) (by rfl) (by simp only [s0_, s1_, s2_, s3_, s4_, s5_]; rfl) ?_
       refine sk_ 33 46 (tk_ 40 17179869183) HT_.out rfl rfl (by kernel_rfl) (fun _ _ _ h => h) (by rfl) (by simp only [s0_, s1_, s2_, s3_, s4_, s5_]; rfl) ?_
       refine sk_ 34 47 (tk_ 40 34359738367) HT_.out rfl rfl (by kernel_rfl) (fun _ _ _ h => h) (by rfl) (by simp only [s0_, s1_, s2_, s3_, s4_, s5_]; rfl) ?_
       refine sk_ 35 48 (tk_ 40 68719476735) HT_.out rfl rfl (by kernel_rfl) (fun _ _ _ h => h) (by rfl) (by simp only [s0_, s1_, s2_, s3_, s4_, s5_]; rfl) ?_
       refine sk_ 36 49 (tk_ 40 137438953471) HT_.out rfl rfl (by kernel_rfl) (fun _ _ _ h => h) (by rfl) (by simp only [s0_, s1_, s2_, s3_, s4_, s5_]; rfl) ?_
       refine sk_ 37 50 (tk_ 40 274877906943) HT_.out rfl rfl (by kernel_rfl) (fun _ _ _ h => h) (by rfl) (by simp only [s0_, s1_, s2_, s3_, s4_, s5_]; rfl) ?_
       refine sk_ 38 51 (tk_ 40 549755813887) HT_.out rfl rfl (by kernel_rfl) (fun _ _ _ h => h) (by rfl) (by simp only [s0_, s1_, s2_, s3_, s4_, s5_]; rfl) ?_
       refine pu_ 39 52 (tk_ 40 1099511627775) HT_.out rfl rfl (by kernel_rfl) (fun _ _ _ h => h) (by rfl) (fun w' => by go_simp; with_reducible rfl) (by simp only [s0_, s1_, s2_, s3_, s4_, s5_]; rfl) ?_
       refine done_ (done_of HT_.out (by kernel_rfl)) ?_
       try go_wp2
       go_ret
       exact ⟨by first | rfl | (simp [errW_none, errW_some] <;> rfl) | (simp [*, errW_none, errW_some] <;> rfl), by repeat (first | (with_reducible first | exact HB.out | apply below_alloc | apply pw_below_drewN | apply below_drew1 | refine below_set ?_ GE101.out | refine below_set ?_ GE104.out) | exact HB.out)⟩
     ·rw [if_neg c6] at H
      exact absurd H (by simp)
    ·rw [if_neg c5] at H
     exact absurd H (by simp)
   ·rw [if_neg c4] at H
    have c4b0 : decide (x8_1 < (l0_1.length : Int)) = false := decide_eq_false c4
    clear c4
    replace H := Option.bind_eq_some_iff.mp H
    obtain ⟨t102, A750, H⟩ := H
    replace H : (if t102 = true then (if (l0_1.length : Int) > 4096 then (some 1) else (some 0)) else (some 1)) = some r := H
    have A75 := Aside0.mk A750
    clear A750
    by_cases c76 : t102 = true
    ·subst c76
     have H1 : (if (l0_1.length : Int) > 4096 then (some 1) else (some 0)) = some r := by rw [if_pos rfl] at H; exact H
     clear H
     have H := H1
     clear H1
     by_cases c77 : (l0_1.length : Int) > 4096
     ·rw [if_pos c77] at H
      have c77b0 : decide (4096 < (l0_1.length : Int)) = true := decide_eq_true c77
      have c77b1 : decide (4096 < l0_1.length) = true := decide_eq_true (by omega)
      clear c77
      obtain rfl := Option.some.inj H
      have hcz78_0 : wr.cell? ⟨gb101, 0, none⟩ = some (.bool a0_0) := (blk_cell BK101.out 0).trans rfl
      have hcz78_1 : wr.cell? ⟨gb101, 1, none⟩ = some (.slice A0_1 l0_1.length c0_1) := (blk_cell BK101.out 1).trans rfl
      have hcz78_2 : wr.cell? ⟨gb101, 2, none⟩ = some (.int .i64 a0_2) := (blk_cell BK101.out 2).trans rfl
      have hfz78_0 := blk_frozen BK101.out 0
      have hfz78_1 := blk_frozen BK101.out 1
      have hfz78_2 := blk_frozen BK101.out 2
      go_wp2_with (first | ((with_reducible refine gate_callee (f := 31) rfl ?_); refine goesL_ (some 56) rfl rfl Try.func31 (by kernel_rfl) rfl #[.int .i64 0, .int .i64 a0_2, .int .i64 10000] rfl (by (try simp only [List.map_toArray, List.map_cons, List.map_nil]); first | done | rfl | (simp only [List.length_drop, List.length_take]; rfl)) ?_; (with_reducible refine (font_within_int.calls 0 a0_2 10000 true _ A75.out).mono ?_); rintro e w' ⟨rfl, ⟨nd, rfl⟩⟩; refine ⟨_, rfl, ?_⟩))
      go_ret
      exact ⟨by first | rfl | (simp [errW_none, errW_some] <;> rfl) | (simp [*, errW_none, errW_some] <;> rfl), by repeat (first | (with_reducible first | exact HB.out | apply below_alloc | apply pw_below_drewN | apply below_drew1 | refine below_set ?_ GE101.out) | exact HB.out)⟩
     ·rw [if_neg c77] at H
      have c77b0 : decide (4096 < (l0_1.length : Int)) = false := decide_eq_false c77
      have c77b1 : decide (4096 < l0_1.length) = false := decide_eq_false (by omega)
      clear c77
      obtain rfl := Option.some.inj H
      have hcz79_0 : wr.cell? ⟨gb101, 0, none⟩ = some (.bool a0_0) := (blk_cell BK101.out 0).trans rfl
      have hcz79_1 : wr.cell? ⟨gb101, 1, none⟩ = some (.slice A0_1 l0_1.length c0_1) := (blk_cell BK101.out 1).trans rfl
      have hcz79_2 : wr.cell? ⟨gb101, 2, none⟩ = some (.int .i64 a0_2) := (blk_cell BK101.out 2).trans rfl
      have hfz79_0 := blk_frozen BK101.out 0
      have hfz79_1 := blk_frozen BK101.out 1
      have hfz79_2 := blk_frozen BK101.out 2
      go_wp2_with (first | ((with_reducible refine gate_callee (f := 31) rfl ?_); refine goesL_ (some 56) rfl rfl Try.func31 (by kernel_rfl) rfl #[.int .i64 0, .int .i64 a0_2, .int .i64 10000] rfl (by (try simp only [List.map_toArray, List.map_cons, List.map_nil]); first | done | rfl | (simp only [List.length_drop, List.length_take]; rfl)) ?_; (with_reducible refine (font_within_int.calls 0 a0_2 10000 true _ A75.out).mono ?_); rintro e w' ⟨rfl, ⟨nd, rfl⟩⟩; refine ⟨_, rfl, ?_⟩))
      go_ret
      exact ⟨by first | rfl | (simp [errW_none, errW_some] <;> rfl) | (simp [*, errW_none, errW_some] <;> rfl), by repeat (first | (with_reducible first | exact HB.out | apply below_alloc | apply pw_below_drewN | apply below_drew1 | refine below_set ?_ GE101.out) | exact HB.out)⟩
    ·replace c76 := Bool.eq_false_iff.mpr c76
     subst c76
     have H1 : (some 1) = some r := by rw [if_neg (show ¬ (false = true) by decide)] at H; exact H
     clear H
     have H := H1
     clear H1
     obtain rfl := Option.some.inj H
     have hcz80_0 : wr.cell? ⟨gb101, 0, none⟩ = some (.bool a0_0) := (blk_cell BK101.out 0).trans rfl
     have hcz80_1 : wr.cell? ⟨gb101, 1, none⟩ = some (.slice A0_1 l0_1.length c0_1) := (blk_cell BK101.out 1).trans rfl
     have hcz80_2 : wr.cell? ⟨gb101, 2, none⟩ = some (.int .i64 a0_2) := (blk_cell BK101.out 2).trans rfl
     have hfz80_0 := blk_frozen BK101.out 0
     have hfz80_1 := blk_frozen BK101.out 1
     have hfz80_2 := blk_frozen BK101.out 2
     go_wp2_with (first | ((with_reducible refine gate_callee (f := 31) rfl ?_); refine goesL_ (some 56) rfl rfl Try.func31 (by kernel_rfl) rfl #[.int .i64 0, .int .i64 a0_2, .int .i64 10000] rfl (by (try simp only [List.map_toArray, List.map_cons, List.map_nil]); first | done | rfl | (simp only [List.length_drop, List.length_take]; rfl)) ?_; (with_reducible refine (font_within_int.calls 0 a0_2 10000 false _ A75.out).mono ?_); rintro e w' ⟨rfl, ⟨nd, rfl⟩⟩; refine ⟨_, rfl, ?_⟩))
     go_ret
     exact ⟨by first | rfl | (simp [errW_none, errW_some] <;> rfl) | (simp [*, errW_none, errW_some] <;> rfl), by repeat (first | (with_reducible first | exact HB.out | apply below_alloc | apply pw_below_drewN | apply below_drew1 | refine below_set ?_ GE101.out) | exact HB.out)⟩
end Go.Proofs.Ytjhpcfpccnfniaa.A
