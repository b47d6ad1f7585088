-- written by my own driver of the kit's print (wip/tools/myprint.py); Lean checks it.
import Derived.Test.YtjhpcfpccnfniaaA0
import Derived.Test.YtjhpcfpccnfniaaA4
namespace Go.Proofs.Ytjhpcfpccnfniaa.A
open Go.RowKit Go.Proofs.YtjhpcfpccnfniaaW.PrintWords Go.Proofs.YtjhpcfpccnfniaaW.PrintLast Go.Proofs.YtjhpcfpccnfniaaW.PrintMore
attribute [local go_sem] max2_int min2_int max_two min_two max_three min_three max_four min_four   -- for this text's walks alone
set_option linter.unusedVariables false
set_option linter.unusedSimpArgs false
def erasureref19_Right.l0 : Nat → Int → Bool → List (S37) → Int → Option (Bool)
 | 0, _, _, _, _ => none
 | k + 1, x3, x129000, x129001, x129002 => if x3 < (x129001.length : Int) then (if 0 ≤ x3 then ((erasureref19_code.f x129000 x129001 x129002 ((rd_T37 x129001 x3).f0)).bind fun t131 => (if t131 = true then (if x3 > 0 then (if 0 ≤ (wrap64 (x3 - 1)) then (if (wrap64 (x3 - 1)) < (x129001.length : Int) then (if ((rd_T37 x129001 (wrap64 (x3 - 1))).f0) ≥ ((rd_T37 x129001 x3).f0) then (some false) else (if ((rd_T37 x129001 x3).f1) < 0 then (some false) else (if ((rd_T37 x129001 x3).f1) > 10000 then (some false) else (if ((rd_T37 x129001 x3).f2).toList = ([] : List UInt8) then (erasureref19_Right.l0 k (wrap64 (x3 + 1)) x129000 x129001 x129002) else ((erasureref18_Means.f ((rd_T37 x129001 x3).f2)).bind fun t133 => (if t133 = true then (erasureref19_Right.l0 k (wrap64 (x3 + 1)) x129000 x129001 x129002) else (some false))))))) else (none)) else (none)) else (if ((rd_T37 x129001 x3).f1) < 0 then (some false) else (if ((rd_T37 x129001 x3).f1) > 10000 then (some false) else (if ((rd_T37 x129001 x3).f2).toList = ([] : List UInt8) then (erasureref19_Right.l0 k (wrap64 (x3 + 1)) x129000 x129001 x129002) else ((erasureref18_Means.f ((rd_T37 x129001 x3).f2)).bind fun t134 => (if t134 = true then (erasureref19_Right.l0 k (wrap64 (x3 + 1)) x129000 x129001 x129002) else (some false))))))) else (some false))) else (none)) else (if x129002 ≥ 0 then (if x129002 ≤ 10000 then (some (decide ((x129001.length : Int) ≤ 4096))) else (some false)) else (some false))
def erasureref19_Right.f (k : Nat) (a0_0 : Bool) (l0_1 : List (S37)) (a0_2 : Int) : Option (Bool) := erasureref19_Right.l0 k 0 a0_0 l0_1 a0_2
theorem erasureref19_Right.mono_l : ∀ k, (∀ y0 y1 y2 y3, LeO (erasureref19_Right.l0 k y0 y1 y2 y3) (erasureref19_Right.l0 (k + 1) y0 y1 y2 y3))
 | 0 => fun _ _ _ _ r h => by simp [erasureref19_Right.l0] at h
 | k + 1 => by
  have ih0 := erasureref19_Right.mono_l k
  ·intro y0 y1 y2 y3
   unfold erasureref19_Right.l0
   repeat' first
   | (with_reducible exact ih0 _ _ _ _)
   | (with_reducible exact LeO.refl _)
   | (with_reducible exact LeO.none _)
   | (with_reducible refine LeO.ite ?_ ?_)
   | (with_reducible refine LeO.bind ?_ (fun _ => ?_))
   | exact ih0 _ _ _ _
   | exact LeO.none _
   | refine LeO.ite ?_ ?_
   | refine LeO.bind ?_ (fun _ => ?_)
theorem erasureref19_Right.mono : ∀ a0 a1 a2 k, LeO (erasureref19_Right.f k a0 a1 a2) (erasureref19_Right.f (k + 1) a0 a1 a2) := by
 intro a0 a1 a2 k
 have ih0 := erasureref19_Right.mono_l k
 unfold erasureref19_Right.f
 repeat' first
   | (with_reducible exact ih0 _ _ _ _)
   | (with_reducible exact LeO.refl _)
   | (with_reducible exact LeO.none _)
   | (with_reducible refine LeO.ite ?_ ?_)
   | (with_reducible refine LeO.bind ?_ (fun _ => ?_))
   | exact ih0 _ _ _ _
   | exact LeO.none _
   | refine LeO.ite ?_ ?_
   | refine LeO.bind ?_ (fun _ => ?_)
def erasureref19_Right.T5 : Bool × List (List Nat × List Nat) := (true, [([], []), ([], []), ([1], [1]), ([0, 2], [0, 2]), ([3], [3]), ([4, 3], [4]), ([5], [5]), ([6, 5], [5, 6]), ([7, 5, 5], [5, 7]), ([8], [8]), ([9, 8], [8, 9]), ([8], [8]), ([11, 8], [8, 11]), ([10, 12, 8], [8, 10, 12]), ([13, 8], [8, 13]), ([14, 8], [8, 14]), ([8], [8]), ([16, 8], [8, 16]), ([15, 17, 8], [8, 15, 17]), ([8, 18, 5], [5, 8, 18]), ([5, 19], [5, 19]), ([20, 8], [20]), ([21], [21]), ([22, 21], [21, 22]), ([23, 21], [21, 23]), ([21, 24], [21, 24]), ([25, 21], [25]), ([26], [26]), ([27, 26], [26, 27]), ([28, 26], [26, 28]), ([26, 29], [26, 29]), ([30, 26], [30]), ([31], [31]), ([32, 31], [31, 32]), ([33, 31], [31, 33]), ([34, 31, 31], [31, 34]), ([35], [35]), ([36, 35], [35, 36]), ([37, 35, 35], [35, 37]), ([38, 35], [35, 38]), ([35, 39, 31], [31, 35, 39]), ([31, 40], [31, 40])])
def erasureref19_Right.B5 : List Nat := [0, 0, 2, 7, 15, 31, 63, 127, 255, 511, 1023, 511, 2559, 8191, 16383, 32767, 511, 66047, 262143, 524287, 1048575, 2097151, 4194303, 8388607, 16777215, 33554431, 67108863, 134217727, 268435455, 536870911, 1073741823, 2147483647, 4294967295, 8589934591, 17179869183, 34359738367, 68719476735, 137438953471, 274877906943, 549755813887, 1099511627775, 2199023255551]
theorem erasureref19_Right.tab5 : rtab .any (opsOf Try.f17 5) = erasureref19_Right.T5 := by kernel_rfl
theorem erasureref19_Right.bits5 : waitsOk erasureref19_Right.T5.2 erasureref19_Right.B5 = true := by kernel_rfl
set_option maxHeartbeats 8000000 in
set_option maxRecDepth 100000 in
theorem erasureref19_Right.calls (k : Nat) (a0_0 : Bool) (A0_1 : Option Addr) (c0_1 : Nat) (l0_1 : List (S37)) (a0_2 : Int) (r : Bool) (w : World) (hr0_1 : Kd.C k37 w A0_1 l0_1.length l0_1) (hc0_1 : l0_1.length ≤ c0_1) (h : erasureref19_Right.f k a0_0 l0_1 a0_2 = some r) :
  Calls Try.prog 17 #[.agg #[.bool a0_0, .slice A0_1 l0_1.length c0_1, .int .i64 a0_2]] w fun e w' => e = .returned (.bool r) ∧ Below w.heap.size w w' := by
 have hu24 := Try.underlying24
 have hu37 := Try.underlying37
 have HR0_1 := Aside0.mk hr0_1
 have HC0_1 := Aside0.mk hc0_1
 clear hr0_1 hc0_1
 have HB := Aside0.mk (Below.refl w.heap.size w)
 have H : (erasureref19_Right.l0 k 0 a0_0 l0_1 a0_2) = some r := h
 clear h
 have H' := Aside0.mk H
 clear H
 go_enter Try.func17, Try.ntmps17
 go_wp2_with (first | ((with_reducible refine gate_dst (N := 1) rfl ?_); (try (refine gate_guard (by rfl) ?_; dsimp only)); refine box_event ?hg (N := 1) ?hd (cs := #[.bool a0_0, .slice A0_1 l0_1.length c0_1, .int .i64 a0_2]) (t := 24) ?hr ?_; (case hd => rfl); (case hg => rfl); (case hr => first | (go_simp; done) | (go_simp; rfl)); intro gb128 hg w2 hbox hb; have n0_ := Aside0.mk (below_step (by repeat (first | (with_reducible first | exact HB.out | apply below_alloc | apply pw_below_drewN | apply below_drew1) | exact HB.out)) hb); have n1_ := Aside0.mk (hbox); have n2_ := Aside0.mk ((by rw [hg]; exact (below_size (by repeat (first | (with_reducible first | exact HB.out | apply below_alloc | apply pw_below_drewN | apply below_drew1) | exact HB.out))) : w.heap.size ≤ gb128)); have n3_ := Aside0.mk ((by rw [hg]; exact (below_size (by repeat (first | (with_reducible first | exact HB.out | apply below_alloc | apply pw_below_drewN | apply below_drew1) | exact HB.out))) : w.heap.size ≤ gb128)); clear HB; have HB := n0_; have BK128 := n1_; have GW128 := n2_; have GE128 := n3_; clear n0_ n1_ n2_ n3_; clear hb hbox hg))
 go_loopg [3] k (fun kq v3 w' => ∃ (x3_1 : Int), v3 = .int .i64 x3_1 ∧ Aside0 (erasureref19_Right.l0 kq x3_1 a0_0 l0_1 a0_2 = some r) ∧ Aside0 (kq ≤ k) ∧ Aside0 (w'.heap[gb128]? = some (.cells #[.bool a0_0, (.slice A0_1 l0_1.length c0_1), .int .i64 a0_2] 24 (0, 0))) ∧ Aside0 (Below w.heap.size w w'))
 case atStart => exact ⟨(0), (by first | rfl | (simp; done) | (simp [*]; done)), H', ⟨Nat.le_refl _⟩, ⟨by (with_reducible repeat (first | refine blk_drewN ?_ _ | refine blk_drew ?_ | refine blk_alloc ?_ _)); exact BK128.out⟩, ⟨by repeat (first | (with_reducible first | exact HB.out | apply below_alloc | apply pw_below_drewN | apply below_drew1 | refine below_set ?_ GE128.out) | exact HB.out)⟩⟩
 case round =>
  clear H'
  try clear c1
  try clear p2
  obtain ⟨x3_1, rfl, HA, HK1, BK128, HB⟩ := hrel
  cases gk with
  | zero => exact absurd HA.out (by simp [erasureref19_Right.l0])
  | succ k1 =>
   have H := HA.out
   clear HA
   simp only [erasureref19_Right.l0] at H
   by_cases c3 : x3_1 < (l0_1.length : Int)
   ·rw [if_pos c3] at H
    have c3b0 : decide (x3_1 < (l0_1.length : Int)) = true := decide_eq_true c3
    clear c3
    by_cases c4 : 0 ≤ x3_1
    ·rw [if_pos c4] at H
     have c4b0 : decide (0 ≤ x3_1) = true := decide_eq_true c4
     clear c4
     replace H := Option.bind_eq_some_iff.mp H
     obtain ⟨t131, A50, H⟩ := H
     replace H : (if t131 = true then (if x3_1 > 0 then (if 0 ≤ (wrap64 (x3_1 - 1)) then (if (wrap64 (x3_1 - 1)) < (l0_1.length : Int) then (if ((rd_T37 l0_1 (wrap64 (x3_1 - 1))).f0) ≥ ((rd_T37 l0_1 x3_1).f0) then (some false) else (if ((rd_T37 l0_1 x3_1).f1) < 0 then (some false) else (if ((rd_T37 l0_1 x3_1).f1) > 10000 then (some false) else (if ((rd_T37 l0_1 x3_1).f2).toList = ([] : List UInt8) then (erasureref19_Right.l0 k1 (wrap64 (x3_1 + 1)) a0_0 l0_1 a0_2) else ((erasureref18_Means.f ((rd_T37 l0_1 x3_1).f2)).bind fun t133 => (if t133 = true then (erasureref19_Right.l0 k1 (wrap64 (x3_1 + 1)) a0_0 l0_1 a0_2) else (some false))))))) else (none)) else (none)) else (if ((rd_T37 l0_1 x3_1).f1) < 0 then (some false) else (if ((rd_T37 l0_1 x3_1).f1) > 10000 then (some false) else (if ((rd_T37 l0_1 x3_1).f2).toList = ([] : List UInt8) then (erasureref19_Right.l0 k1 (wrap64 (x3_1 + 1)) a0_0 l0_1 a0_2) else ((erasureref18_Means.f ((rd_T37 l0_1 x3_1).f2)).bind fun t134 => (if t134 = true then (erasureref19_Right.l0 k1 (wrap64 (x3_1 + 1)) a0_0 l0_1 a0_2) else (some false))))))) else (some false)) = some r := H
     have A5 := Aside0.mk A50
     clear A50
     by_cases c6 : t131 = true
     ·subst c6
      have H1 : (if x3_1 > 0 then (if 0 ≤ (wrap64 (x3_1 - 1)) then (if (wrap64 (x3_1 - 1)) < (l0_1.length : Int) then (if ((rd_T37 l0_1 (wrap64 (x3_1 - 1))).f0) ≥ ((rd_T37 l0_1 x3_1).f0) then (some false) else (if ((rd_T37 l0_1 x3_1).f1) < 0 then (some false) else (if ((rd_T37 l0_1 x3_1).f1) > 10000 then (some false) else (if ((rd_T37 l0_1 x3_1).f2).toList = ([] : List UInt8) then (erasureref19_Right.l0 k1 (wrap64 (x3_1 + 1)) a0_0 l0_1 a0_2) else ((erasureref18_Means.f ((rd_T37 l0_1 x3_1).f2)).bind fun t133 => (if t133 = true then (erasureref19_Right.l0 k1 (wrap64 (x3_1 + 1)) a0_0 l0_1 a0_2) else (some false))))))) else (none)) else (none)) else (if ((rd_T37 l0_1 x3_1).f1) < 0 then (some false) else (if ((rd_T37 l0_1 x3_1).f1) > 10000 then (some false) else (if ((rd_T37 l0_1 x3_1).f2).toList = ([] : List UInt8) then (erasureref19_Right.l0 k1 (wrap64 (x3_1 + 1)) a0_0 l0_1 a0_2) else ((erasureref18_Means.f ((rd_T37 l0_1 x3_1).f2)).bind fun t134 => (if t134 = true then (erasureref19_Right.l0 k1 (wrap64 (x3_1 + 1)) a0_0 l0_1 a0_2) else (some false))))))) = some r := by rw [if_pos rfl] at H; exact H
      clear H
      have H := H1
      clear H1
      by_cases c7 : x3_1 > 0
      ·rw [if_pos c7] at H
       have c7b0 : decide (0 < x3_1) = true := decide_eq_true c7
       clear c7
       obtain ⟨ji8, hji8⟩ : ∃ j_ : Int, (wrap64 (x3_1 - 1)) = j_ := ⟨_, rfl⟩
       replace H : (if 0 ≤ (ji8) then (if (ji8) < (l0_1.length : Int) then (if ((rd_T37 l0_1 (ji8)).f0) ≥ ((rd_T37 l0_1 x3_1).f0) then (some false) else (if ((rd_T37 l0_1 x3_1).f1) < 0 then (some false) else (if ((rd_T37 l0_1 x3_1).f1) > 10000 then (some false) else (if ((rd_T37 l0_1 x3_1).f2).toList = ([] : List UInt8) then (erasureref19_Right.l0 k1 (wrap64 (x3_1 + 1)) a0_0 l0_1 a0_2) else ((erasureref18_Means.f ((rd_T37 l0_1 x3_1).f2)).bind fun t133 => (if t133 = true then (erasureref19_Right.l0 k1 (wrap64 (x3_1 + 1)) a0_0 l0_1 a0_2) else (some false))))))) else (none)) else (none)) = some r := by first | (rw [hji8] at H; exact H) | (simp only [hji8] at H ⊢; exact H)
       (try rw [hji8] at A5)
       have hji8w : (IntKind.i64.wrap (x3_1 - 1)) = ji8 := (i64_w _).trans hji8
       by_cases c9 : 0 ≤ (ji8)
       ·rw [if_pos c9] at H
        have c9b0 : decide (0 ≤ (ji8)) = true := decide_eq_true c9
        clear c9
        by_cases c10 : (ji8) < (l0_1.length : Int)
        ·rw [if_pos c10] at H
         have c10b0 : decide ((ji8) < (l0_1.length : Int)) = true := decide_eq_true c10
         clear c10
         by_cases c11 : ((rd_T37 l0_1 (ji8)).f0) ≥ ((rd_T37 l0_1 x3_1).f0)
         ·rw [if_pos c11] at H
          have c11b0 : decide (((rd_T37 l0_1 x3_1).f0) ≤ ((rd_T37 l0_1 (ji8)).f0)) = true := decide_eq_true c11
          clear c11
          obtain rfl := Option.some.inj H
          have hcz12_0 : wr.cell? ⟨gb128, 0, none⟩ = some (.bool a0_0) := (blk_cell BK128.out 0).trans rfl
          have hcz12_1 : wr.cell? ⟨gb128, 1, none⟩ = some (.slice A0_1 l0_1.length c0_1) := (blk_cell BK128.out 1).trans rfl
          have hcz12_2 : wr.cell? ⟨gb128, 2, none⟩ = some (.int .i64 a0_2) := (blk_cell BK128.out 2).trans rfl
          have hfz12_0 := blk_frozen BK128.out 0
          have hfz12_1 := blk_frozen BK128.out 1
          have hfz12_2 := blk_frozen BK128.out 2
          have p129 : 0 ≤ (x3_1 : Int) := of_decide_eq_true (by first | (with_reducible assumption) | assumption)
          have q129 : x3_1 < (l0_1.length : Int) := of_decide_eq_true (by first | (with_reducible assumption) | assumption)
          obtain ⟨ad129, e129, hx129_0, hx129_1, hx129_2⟩ := at_T37 HR0_1.out x3_1 p129 q129
          cases e129
          replace hx129_0 := (HB.out.cell (World.block_lt_of_cell? w _ hx129_0)).trans hx129_0
          replace hx129_1 := (HB.out.cell (World.block_lt_of_cell? w _ hx129_1)).trans hx129_1
          replace hx129_2 := (HB.out.cell (World.block_lt_of_cell? w _ hx129_2)).trans hx129_2
          replace p129 := eq_true p129
          replace q129 := eq_true q129
          try go_wp2_with (first | ((with_reducible refine gate_dst (N := 4) rfl ?_); (try (refine gate_guard (by rfl) ?_; dsimp only)); refine box_event ?hg (N := 4) ?hd (cs := #[.int .i64 0, .int .i64 0, .string (⟨#[]⟩ : ByteArray)]) (t := 37) ?hr ?_; (case hd => rfl); (case hg => rfl); (case hr => first | (go_simp; done) | (go_simp; rfl)); intro gb130 hg w13 hbox hb; have n0_ := Aside0.mk (blk_below (g := gb128) (o := .cells #[.bool a0_0, .slice (some ad129) l0_1.length c0_1, .int .i64 a0_2] 24 (0, 0)) (by (with_reducible repeat (first | refine blk_drewN ?_ _ | refine blk_drew ?_ | refine blk_alloc ?_ _)); exact BK128.out) hb); have n1_ := Aside0.mk (below_step (by repeat (first | (with_reducible first | exact HB.out | apply below_alloc | apply pw_below_drewN | apply below_drew1 | refine below_set ?_ GE128.out) | exact HB.out)) hb); have n2_ := Aside0.mk (hbox); have n3_ := Aside0.mk ((by rw [hg]; exact (below_size (by repeat (first | (with_reducible first | exact HB.out | apply below_alloc | apply pw_below_drewN | apply below_drew1 | refine below_set ?_ GE128.out) | exact HB.out))) : w.heap.size ≤ gb130)); have n4_ := Aside0.mk ((by rw [hg]; exact (below_size (by repeat (first | (with_reducible first | exact HB.out | apply below_alloc | apply pw_below_drewN | apply below_drew1 | refine below_set ?_ GE128.out) | exact HB.out))) : w.heap.size ≤ gb130)); have n5_ := Aside0.mk ((by rw [hg]; exact Nat.ne_of_lt (blk_lt (g := gb128) (o := .cells #[.bool a0_0, .slice (some ad129) l0_1.length c0_1, .int .i64 a0_2] 24 (0, 0)) (by (with_reducible repeat (first | refine blk_drewN ?_ _ | refine blk_drew ?_ | refine blk_alloc ?_ _)); exact BK128.out)) : gb128 ≠ gb130)); have n6_ := Aside0.mk ((by rw [hg]; exact Nat.ne_of_gt (blk_lt (g := gb128) (o := .cells #[.bool a0_0, .slice (some ad129) l0_1.length c0_1, .int .i64 a0_2] 24 (0, 0)) (by (with_reducible repeat (first | refine blk_drewN ?_ _ | refine blk_drew ?_ | refine blk_alloc ?_ _)); exact BK128.out)) : gb130 ≠ gb128)); clear BK128; clear HB; have BK128 := n0_; have HB := n1_; have BK130 := n2_; have GW130 := n3_; have GE130 := n4_; have NB128_130 := n5_; have NB130_128 := n6_; clear n0_ n1_ n2_ n3_ n4_ n5_ n6_; clear hb hbox hg; have hnb14 := NB130_128.out; have hnc14 := NB128_130.out; have hcz15_0 : w13.cell? ⟨gb130, 0, none⟩ = some (.int .i64 0) := (blk_cell BK130.out 0).trans rfl; have hcz15_1 : w13.cell? ⟨gb130, 1, none⟩ = some (.int .i64 0) := (blk_cell BK130.out 1).trans rfl; have hcz15_2 : w13.cell? ⟨gb130, 2, none⟩ = some (.string (⟨#[]⟩ : ByteArray)) := (blk_cell BK130.out 2).trans rfl; have hfz15_0 := blk_frozen BK130.out 0; have hfz15_1 := blk_frozen BK130.out 1; have hfz15_2 := blk_frozen BK130.out 2))
          have n0_ : Aside0 ((((w13.setCell ⟨gb130, 0, none⟩ (.int .i64 ((rd_T37 l0_1 x3_1).f0))).setCell ⟨gb130, 1, none⟩ (.int .i64 ((rd_T37 l0_1 x3_1).f1))).setCell ⟨gb130, 2, none⟩ (.string ((rd_T37 l0_1 x3_1).f2))).heap[gb128]? = some (.cells #[.bool a0_0, .slice (some ad129) l0_1.length c0_1, .int .i64 a0_2] 24 (0, 0))) := ⟨by (with_reducible repeat (first | refine blk_drewN ?_ _ | refine blk_drew ?_ | refine blk_alloc ?_ _)); refine blk_far ?_ NB128_130.out _; (with_reducible repeat (first | refine blk_drewN ?_ _ | refine blk_drew ?_ | refine blk_alloc ?_ _)); refine blk_far ?_ NB128_130.out _; (with_reducible repeat (first | refine blk_drewN ?_ _ | refine blk_drew ?_ | refine blk_alloc ?_ _)); refine blk_far ?_ NB128_130.out _; (with_reducible repeat (first | refine blk_drewN ?_ _ | refine blk_drew ?_ | refine blk_alloc ?_ _)); exact BK128.out⟩
          have n1_ : Aside0 ((((w13.setCell ⟨gb130, 0, none⟩ (.int .i64 ((rd_T37 l0_1 x3_1).f0))).setCell ⟨gb130, 1, none⟩ (.int .i64 ((rd_T37 l0_1 x3_1).f1))).setCell ⟨gb130, 2, none⟩ (.string ((rd_T37 l0_1 x3_1).f2))).heap[gb130]? = some (.cells #[.int .i64 ((rd_T37 l0_1 x3_1).f0), .int .i64 ((rd_T37 l0_1 x3_1).f1), .string ((rd_T37 l0_1 x3_1).f2)] 37 (0, 0))) := ⟨by (with_reducible repeat (first | refine blk_drewN ?_ _ | refine blk_drew ?_ | refine blk_alloc ?_ _)); refine blk_put (cs := #[.int .i64 ((rd_T37 l0_1 x3_1).f0), .int .i64 ((rd_T37 l0_1 x3_1).f1), .string (⟨#[]⟩ : ByteArray)]) ?_ 2 _ rfl; (with_reducible repeat (first | refine blk_drewN ?_ _ | refine blk_drew ?_ | refine blk_alloc ?_ _)); refine blk_put (cs := #[.int .i64 ((rd_T37 l0_1 x3_1).f0), .int .i64 0, .string (⟨#[]⟩ : ByteArray)]) ?_ 1 _ rfl; (with_reducible repeat (first | refine blk_drewN ?_ _ | refine blk_drew ?_ | refine blk_alloc ?_ _)); refine blk_put (cs := #[.int .i64 0, .int .i64 0, .string (⟨#[]⟩ : ByteArray)]) ?_ 0 _ rfl; (with_reducible repeat (first | refine blk_drewN ?_ _ | refine blk_drew ?_ | refine blk_alloc ?_ _)); exact BK130.out⟩
          have n2_ : Aside0 (Below w.heap.size w (((w13.setCell ⟨gb130, 0, none⟩ (.int .i64 ((rd_T37 l0_1 x3_1).f0))).setCell ⟨gb130, 1, none⟩ (.int .i64 ((rd_T37 l0_1 x3_1).f1))).setCell ⟨gb130, 2, none⟩ (.string ((rd_T37 l0_1 x3_1).f2)))) := ⟨by repeat (first | (with_reducible first | exact HB.out | apply below_alloc | apply pw_below_drewN | apply below_drew1 | refine below_set ?_ GE128.out | refine below_set ?_ GE130.out) | exact HB.out)⟩
          (try clear BK128)
          (try clear BK130)
          (try clear HB)
          generalize (((w13.setCell ⟨gb130, 0, none⟩ (.int .i64 ((rd_T37 l0_1 x3_1).f0))).setCell ⟨gb130, 1, none⟩ (.int .i64 ((rd_T37 l0_1 x3_1).f1))).setCell ⟨gb130, 2, none⟩ (.string ((rd_T37 l0_1 x3_1).f2))) = w16 at n0_ n1_ n2_ ⊢
          have BK128 := n0_
          have BK130 := n1_
          have HB := n2_
          clear n0_ n1_ n2_
          have n0_ := Aside0.mk (blk_drew BK128.out)
          have n1_ := Aside0.mk (blk_drew BK130.out)
          have n2_ := Aside0.mk (below_drew1 HB.out)
          clear BK128
          clear BK130
          clear HB
          have BK128 := n0_
          have BK130 := n1_
          have HB := n2_
          clear n0_ n1_ n2_
          have p132 : 0 ≤ ((ji8) : Int) := of_decide_eq_true (by first | (with_reducible assumption) | assumption)
          have q132 : (ji8) < (l0_1.length : Int) := of_decide_eq_true (by first | (with_reducible assumption) | assumption)
          obtain ⟨ad132, e132, hx132_0, hx132_1, hx132_2⟩ := at_T37 HR0_1.out (ji8) p132 q132
          have hw132_2 := hx132_2
          have hw132_1 := hx132_1
          have hw132_0 := hx132_0
          obtain rfl : ad129 = ad132 := (by injection e132)
          replace hx132_0 := (HB.out.cell (World.block_lt_of_cell? w _ hx132_0)).trans hx132_0
          replace hx132_1 := (HB.out.cell (World.block_lt_of_cell? w _ hx132_1)).trans hx132_1
          replace hx132_2 := (HB.out.cell (World.block_lt_of_cell? w _ hx132_2)).trans hx132_2
          replace p132 := eq_true p132
          replace q132 := eq_true q132
          refine start_ (n := 42) (S := fun w' => w'.cell? ⟨gb128, 0, none⟩ = some (.bool a0_0) ∧ w'.cell? ⟨gb128, 1, none⟩ = some (.slice (some ad129) l0_1.length c0_1) ∧ w'.cell? ⟨gb128, 2, none⟩ = some (.int .i64 a0_2) ∧ w'.cell? ⟨gb130, 0, none⟩ = some (.int .i64 ((rd_T37 l0_1 x3_1).f0)) ∧ w'.cell? ⟨gb130, 1, none⟩ = some (.int .i64 ((rd_T37 l0_1 x3_1).f1)) ∧ w'.cell? ⟨gb130, 2, none⟩ = some (.string ((rd_T37 l0_1 x3_1).f2)) ∧ w'.cell? (ad129.add (((ji8)).toNat * 3)) = some (.int .i64 ((rd_T37 l0_1 (ji8)).f0)) ∧ w'.cell? ⟨(ad129.add (((ji8)).toNat * 3)).block, (ad129.add (((ji8)).toNat * 3)).off + 1, none⟩ = some (.int .i64 ((rd_T37 l0_1 (ji8)).f1)) ∧ w'.cell? ⟨(ad129.add (((ji8)).toNat * 3)).block, (ad129.add (((ji8)).toNat * 3)).off + 2, none⟩ = some (.string ((rd_T37 l0_1 (ji8)).f2))) (ds := []) (tk_ 42 0) (by kernel_rfl) rfl (by kernel_rfl) ⟨(blk_cell BK128.out 0).trans rfl, (blk_cell BK128.out 1).trans rfl, (blk_cell BK128.out 2).trans rfl, (blk_cell BK130.out 0).trans rfl, (blk_cell BK130.out 1).trans rfl, (blk_cell BK130.out 2).trans rfl, ((HB.out.cell (World.block_lt_of_cell? w _ hw132_0)).trans hw132_0), ((HB.out.cell (World.block_lt_of_cell? w _ hw132_1)).trans hw132_1), ((HB.out.cell (World.block_lt_of_cell? w _ hw132_2)).trans hw132_2)⟩ (fun hHeld => ?_); refine with_tabW erasureref19_Right.tab5 erasureref19_Right.bits5 (fun HT_ HW_ => ?_)
          generalize w16.drew = w17 at BK128 BK130 HB hx132_0 hx132_1 hx132_2 hHeld ⊢
          refine pu_ 1 18 (tk_ 42 2) HT_.out rfl rfl (by kernel_rfl) (fun _ _ _ h => h) (by rfl) (fun w' => by go_simp; with_reducible rfl) (by simp only [s0_, s1_, s2_, s3_, s4_, s5_]; rfl) ?_
          refine ta_ 0 17 (tk_ 42 3) HT_.out HW_.out rfl rfl (by kernel_rfl) (fun _ _ _ h => h) (by rfl) (by rintro w' ⟨s0, s1, s2, s3, s4, s5, s6, s7, s8⟩; go_simp; with_reducible rfl) hHeld (by simp only [s0_, s1_, s2_, s3_, s4_, s5_]; rfl) ?_
          refine ta_ 2 19 (tk_ 42 7) HT_.out HW_.out rfl rfl (by kernel_rfl) (fun _ _ _ h => h) (by rfl) (by rintro w' ⟨s0, s1, s2, s3, s4, s5, s6, s7, s8⟩; go_simp; with_reducible rfl) hHeld (by simp only [s0_, s1_, s2_, s3_, s4_, s5_]; rfl) ?_
          refine one_ (i := 3) (N := some 20) (tk_ 42 15) rfl rfl (one_of HT_.out (by kernel_rfl)) (by decide) (fun K hK => ?_)
          refine goes_ Try.func34 (by kernel_rfl) rfl #[.agg #[.bool a0_0, .slice (some ad129) l0_1.length c0_1, .int .i64 a0_2], .int .i64 ((rd_T37 l0_1 x3_1).f0)] (by rfl) rfl rfl (by (try simp only [List.map_toArray, List.map_cons, List.map_nil]); first | done | rfl | (simp only [List.length_drop, List.length_take]; rfl)) ?_
          with_reducible refine (erasureref19_code.calls a0_0 _ _ l0_1 a0_2 ((rd_T37 l0_1 x3_1).f0) true _ ?side1 ?side2 A5.out).mono ?_
          (case side1 => repeat (first | exact (Kd.C_below HR0_1.out HB.out) | (with_reducible refine Kd.C_alloc ?_ _) | (with_reducible refine Kd.C_drewN ?_ _) | (with_reducible refine Kd.C_drew ?_)))
          (case side2 => exact HC0_1.out)
          rintro e w18 ⟨rfl, hb⟩
          refine ⟨_, rfl, ?_⟩
          have n0_ := Aside0.mk (blk_below (g := gb128) (o := .cells #[.bool a0_0, .slice (some ad129) l0_1.length c0_1, .int .i64 a0_2] 24 (0, 0)) (by (with_reducible repeat (first | refine blk_drewN ?_ _ | refine blk_drew ?_ | refine blk_alloc ?_ _)); exact BK128.out) hb)
          have n1_ := Aside0.mk (blk_below (g := gb130) (o := .cells #[.int .i64 ((rd_T37 l0_1 x3_1).f0), .int .i64 ((rd_T37 l0_1 x3_1).f1), .string ((rd_T37 l0_1 x3_1).f2)] 37 (0, 0)) (by (with_reducible repeat (first | refine blk_drewN ?_ _ | refine blk_drew ?_ | refine blk_alloc ?_ _)); exact BK130.out) hb)
          have n2_ := Aside0.mk (below_step (by repeat (first | (with_reducible first | exact HB.out | apply below_alloc | apply pw_below_drewN | apply below_drew1 | refine below_set ?_ GE128.out | refine below_set ?_ GE130.out) | exact HB.out)) hb)
          clear BK128
          clear BK130
          clear HB
          have BK128 := n0_
          have BK130 := n1_
          have HB := n2_
          clear n0_ n1_ n2_
          (try clear hb)
          (try clear hb2)
          (try clear hk)
          (try clear hi)
          refine hK.out _ _ ⟨(blk_cell BK128.out 0).trans rfl, (blk_cell BK128.out 1).trans rfl, (blk_cell BK128.out 2).trans rfl, (blk_cell BK130.out 0).trans rfl, (blk_cell BK130.out 1).trans rfl, (blk_cell BK130.out 2).trans rfl, ((HB.out.cell (World.block_lt_of_cell? w _ hw132_0)).trans hw132_0), ((HB.out.cell (World.block_lt_of_cell? w _ hw132_1)).trans hw132_1), ((HB.out.cell (World.block_lt_of_cell? w _ hw132_2)).trans hw132_2)⟩ (fun hHeld => ?_)
          clear hK K
          refine norm_ (by show Act.put _ (some 20) _ = _; simp only [s0_, s1_, s2_, s3_, s4_, s5_]; rfl) ?_
          refine pu_ 4 21 (tk_ 42 31) HT_.out rfl rfl (by kernel_rfl) (fun _ _ _ h => h) (by rfl) (fun w' => by go_simp; with_reducible rfl) (by simp only [s0_, s1_, s2_, s3_, s4_, s5_]; rfl) ?_
          refine pu_ 5 22 (tk_ 42 63) HT_.out rfl rfl (by kernel_rfl) (fun _ _ _ h => h) (by rfl) (fun w' => by go_simp; with_reducible rfl) (by simp only [s0_, s1_, s2_, s3_, s4_, s5_]; rfl) ?_
          refine pu_ 6 23 (tk_ 42 127) HT_.out rfl rfl (by kernel_rfl) (fun _ _ _ h => h) (by rfl) (fun w' => by go_simp; with_reducible rfl) (by simp only [s0_, s1_, s2_, s3_, s4_, s5_]; rfl) ?_
          refine pu_ 7 24 (tk_ 42 255) HT_.out rfl rfl (by kernel_rfl) (fun _ _ _ h => h) (by rfl) (fun w' => by go_simp; with_reducible rfl) (by simp only [s0_, s1_, s2_, s3_, s4_, s5_]; rfl) ?_
          refine pu_ 8 25 (tk_ 42 511) HT_.out rfl rfl (by kernel_rfl) (fun _ _ _ h => h) (by rfl) (fun w' => by go_simp; with_reducible rfl) (by simp only [s0_, s1_, s2_, s3_, s4_, s5_]; rfl) ?_
          refine pu_ 9 26 (tk_ 42 1023) HT_.out rfl rfl (by kernel_rfl) (fun _ _ _ h => h) (by rfl) (fun w' => by go_simp; with_reducible rfl) (by simp only [s0_, s1_, s2_, s3_, s4_, s5_]; rfl) ?_
          refine pu_ 11 28 (tk_ 42 3071) HT_.out rfl rfl (by kernel_rfl) (fun _ _ _ h => h) (by rfl) (fun w' => by go_simp; with_reducible rfl) (by simp only [s0_, s1_, s2_, s3_, s4_, s5_]; rfl) ?_
          refine pu_ 12 29 (tk_ 42 7167) HT_.out rfl rfl (by kernel_rfl) (fun _ _ _ h => h) (by rfl) (fun w' => by go_simp; with_reducible rfl) (by simp only [s0_, s1_, s2_, s3_, s4_, s5_]; rfl) ?_
          refine pu_ 16 33 (tk_ 42 72703) HT_.out rfl rfl (by kernel_rfl) (fun _ _ _ h => h) (by rfl) (fun w' => by go_simp; with_reducible rfl) (by simp only [s0_, s1_, s2_, s3_, s4_, s5_]; rfl) ?_
          refine ta_ 10 27 (tk_ 42 73727) HT_.out HW_.out rfl rfl (by kernel_rfl) (fun _ _ _ h => h) (by rfl) (by rintro w' ⟨s0, s1, s2, s3, s4, s5, s6, s7, s8⟩; go_simp; with_reducible rfl) hHeld (by simp only [s0_, s1_, s2_, s3_, s4_, s5_]; rfl) ?_
          refine pu_ 13 30 (tk_ 42 81919) HT_.out rfl rfl (by kernel_rfl) (fun _ _ _ h => h) (by rfl) (fun w' => by go_simp; with_reducible rfl) (by simp only [s0_, s1_, s2_, s3_, s4_, s5_]; rfl) ?_
          refine pu_ 14 31 (tk_ 42 98303) HT_.out rfl rfl (by kernel_rfl) (fun _ _ _ h => h) (by rfl) (fun w' => by go_simp; with_reducible rfl) (by simp only [s0_, s1_, s2_, s3_, s4_, s5_]; rfl) ?_
          refine ta_ 15 32 (tk_ 42 131071) HT_.out HW_.out rfl rfl (by kernel_rfl) (fun _ _ _ h => h) (by rfl) (by rintro w' ⟨s0, s1, s2, s3, s4, s5, s6, s7, s8⟩; go_simp; with_reducible rfl) hHeld (by simp only [s0_, s1_, s2_, s3_, s4_, s5_]; rfl) ?_
          refine ta_ 17 34 (tk_ 42 262143) HT_.out HW_.out rfl rfl (by kernel_rfl) (fun _ _ _ h => h) (by rfl) (by rintro w' ⟨s0, s1, s2, s3, s4, s5, s6, s7, s8⟩; go_simp; with_reducible rfl) hHeld (by simp only [s0_, s1_, s2_, s3_, s4_, s5_]; rfl) ?_
          refine pu_ 18 35 (tk_ 42 524287) HT_.out rfl rfl (by kernel_rfl) (fun _ _ _ h => h) (by rfl) (fun w' => by go_simp; with_reducible rfl) (by simp only [s0_, s1_, s2_, s3_, s4_, s5_]; rfl) ?_
          refine pu_ 19 36 (tk_ 42 1048575) HT_.out rfl rfl (by kernel_rfl) (fun _ _ _ h => h) (by rfl) (fun w' => by go_simp; with_reducible rfl) (by simp only [s0_, s1_, s2_, s3_, s4_, s5_]; rfl) ?_
          refine pu_ 20 37 (tk_ 42 2097151) HT_.out rfl rfl (by kernel_rfl) (fun _ _ _ h => h) (by rfl) (fun w' => by go_simp; with_reducible rfl) (by simp only [s0_, s1_, s2_, s3_, s4_, s5_]; rfl) ?_
          refine pu_ 21 38 (tk_ 42 4194303) HT_.out rfl rfl (by kernel_rfl) (fun _ _ _ h => h) (by rfl) (fun w' => by go_simp; with_reducible rfl) (by simp only [s0_, s1_, s2_, s3_, s4_, s5_]; rfl) ?_
          refine sk_ 22 39 (tk_ 42 8388607) HT_.out rfl rfl (by kernel_rfl) (fun _ _ _ h => h) (by rfl) (by simp only [s0_, s1_, s2_, s3_, s4_, s5_]; rfl) ?_
          refine sk_ 23 40 (tk_ 42 16777215) HT_.out rfl rfl (by kernel_rfl) (fun _ _ _ h => h) (by rfl) (by simp only [s0_, s1_, s2_, s3_, s4_, s5_]; rfl) ?_
          refine sk_ 24 41 (tk_ 42 33554431) HT_.out rfl rfl (by kernel_rfl) (fun _ _ _ h => h) (by rfl) (by simp only [s0_, s1_, s2_, s3_, s4_, s5_]; rfl) ?_
          refine pu_ 25 42 (tk_ 42 67108863) HT_.out rfl rfl (by kernel_rfl) (fun _ _ _ h => h) (by rfl) (fun w' => by go_simp; with_reducible rfl) (by simp only [s0_, s1_, s2_, s3_, s4_, s5_]; rfl) ?_
          refine pu_ 26 43 (tk_ 42 134217727) HT_.out rfl rfl (by kernel_rfl) (fun _ _ _ h => h) (by rfl) (fun w' => by go_simp; with_reducible rfl) (by simp only [s0_, s1_, s2_, s3_, s4_, s5_]; rfl) ?_
          refine sk_ 27 44 (tk_ 42 268435455) HT_.out rfl rfl (by kernel_rfl) (fun _ _ _ h => h) (by rfl) (by simp only [s0_, s1_, s2_, s3_, s4_, s5_]; rfl) ?_
          refine sk_ 28 45 (tk_ 42 536870911) HT_.out rfl rfl (by kernel_rfl) (fun _ _ _ h => h) (by rfl) (by simp only [s0_, s1_, s2_, s3_, s4_, s5_]; rfl) ?_
          refine sk_ 29 46 (tk_ 42 1073741823) HT_.out rfl rfl (by kernel_rfl) (fun _ _ _ h => h) (by rfl) (by simp only [s0_, s1_, s2_, s3_, s4_, s5_]; rfl) ?_
          refine pu_ 30 47 (tk_ 42 2147483647) HT_.out rfl rfl (by kernel_rfl) (fun _ _ _ h => h) (by rfl) (fun w' => by go_simp; with_reducible rfl) (by simp only [s0_, s1_, s2_, s3_, s4_, s5_]; rfl) ?_
          refine pu_ 31 48 (tk_ 42 4294967295) HT_.out rfl rfl (by kernel_rfl) (fun _ _ _ h => h) (by rfl) (fun w' => by go_simp; with_reducible rfl) (by simp only [s0_, s1_, s2_, s3_, s4_, s5_]; rfl) ?_
          refine sk_ 32 49 (tk_ 42 8589934591) HT_.out rfl rfl (by kernel_rfl) (fun _ _ _ h => h) (by rfl) (by simp only [s0_, s1_, s2_, s3_, s4_, s5_]; rfl) ?_
          refine sk_ 33 50 (tk_ 42 17179869183) HT_.out rfl rfl (by kernel_rfl) (fun _ _ _ h => h) (by rfl) (by simp only [s0_, s1_, s2_, s3_, s4_, s5_]; rfl) ?_
          refine sk_ 34 51 (tk_ 42 34359738367) HT_.out rfl rfl (by kernel_rfl) (fun _ _ _ h => h) (by rfl) (by simp only [s0_, s1_, s2_, s3_, s4_, s5_]; rfl) ?_
          refine sk_ 35 52 (tk_ 42 68719476735) HT_.out rfl rfl (by kernel_rfl) (fun _ _ _ h => h) (by rfl) (by simp only [s0_, s1_, s2_, s3_, s4_, s5_]; rfl) ?_
          refine sk_ 36 53 (tk_ 42 137438953471) HT_.out rfl rfl (by kernel_rfl) (fun _ _ _ h => h) (by rfl) (by simp only [s0_, s1_, s2_, s3_, s4_, s5_]; rfl) ?_
          refine sk_ 37 54 (tk_ 42 274877906943) HT_.out rfl rfl (by kernel_rfl) (fun _ _ _ h => h) (by rfl) (by simp only [s0_, s1_, s2_, s3_, s4_, s5_]; rfl) ?_
          refine sk_ 38 55 (tk_ 42 549755813887) HT_.out rfl rfl (by kernel_rfl) (fun _ _ _ h => h) (by rfl) (by simp only [s0_, s1_, s2_, s3_, s4_, s5_]; rfl) ?_
          refine sk_ 39 56 (tk_ 42 1099511627775) HT_.out rfl rfl (by kernel_rfl) (fun _ _ _ h => h) (by rfl) (by simp only [s0_, s1_, s2_, s3_, s4_, s5_]; rfl) ?_
          refine sk_ 40 57 (tk_ 42 2199023255551) HT_.out rfl rfl (by kernel_rfl) (fun _ _ _ h => h) (by rfl) (by simp only [s0_, s1_, s2_, s3_, s4_, s5_]; rfl) ?_
          refine pu_ 41 58 (tk_ 42 4398046511103) HT_.out rfl rfl (by kernel_rfl) (fun _ _ _ h => h) (by rfl) (fun w' => by go_simp; with_reducible rfl) (by simp only [s0_, s1_, s2_, s3_, s4_, s5_]; rfl) ?_
          refine done_ (done_of HT_.out (by kernel_rfl)) ?_
          try go_wp2
          go_ret
          exact ⟨by first | rfl | (simp [errW_none, errW_some] <;> rfl) | (simp only [← hji8]; first | rfl | (simp [errW_none, errW_some] <;> rfl)) | (simp [*, errW_none, errW_some] <;> rfl), by repeat (first | (with_reducible first | exact HB.out | apply below_alloc | apply pw_below_drewN | apply below_drew1 | refine below_set ?_ GE128.out | refine below_set ?_ GE130.out) | exact HB.out)⟩
         ·rw [if_neg c11] at H
          have c11b0 : decide (((rd_T37 l0_1 x3_1).f0) ≤ ((rd_T37 l0_1 (ji8)).f0)) = false := decide_eq_false c11
          clear c11
          by_cases c19 : ((rd_T37 l0_1 x3_1).f1) < 0
          ·rw [if_pos c19] at H
           have c19b0 : decide (((rd_T37 l0_1 x3_1).f1) < 0) = true := decide_eq_true c19
           clear c19
           obtain rfl := Option.some.inj H
           have hcz20_0 : wr.cell? ⟨gb128, 0, none⟩ = some (.bool a0_0) := (blk_cell BK128.out 0).trans rfl
           have hcz20_1 : wr.cell? ⟨gb128, 1, none⟩ = some (.slice A0_1 l0_1.length c0_1) := (blk_cell BK128.out 1).trans rfl
           have hcz20_2 : wr.cell? ⟨gb128, 2, none⟩ = some (.int .i64 a0_2) := (blk_cell BK128.out 2).trans rfl
           have hfz20_0 := blk_frozen BK128.out 0
           have hfz20_1 := blk_frozen BK128.out 1
           have hfz20_2 := blk_frozen BK128.out 2
           have p129 : 0 ≤ (x3_1 : Int) := of_decide_eq_true (by first | (with_reducible assumption) | assumption)
           have q129 : x3_1 < (l0_1.length : Int) := of_decide_eq_true (by first | (with_reducible assumption) | assumption)
           obtain ⟨ad129, e129, hx129_0, hx129_1, hx129_2⟩ := at_T37 HR0_1.out x3_1 p129 q129
           cases e129
           replace hx129_0 := (HB.out.cell (World.block_lt_of_cell? w _ hx129_0)).trans hx129_0
           replace hx129_1 := (HB.out.cell (World.block_lt_of_cell? w _ hx129_1)).trans hx129_1
           replace hx129_2 := (HB.out.cell (World.block_lt_of_cell? w _ hx129_2)).trans hx129_2
           replace p129 := eq_true p129
           replace q129 := eq_true q129
           try go_wp2_with (first | ((with_reducible refine gate_dst (N := 4) rfl ?_); (try (refine gate_guard (by rfl) ?_; dsimp only)); refine box_event ?hg (N := 4) ?hd (cs := #[.int .i64 0, .int .i64 0, .string (⟨#[]⟩ : ByteArray)]) (t := 37) ?hr ?_; (case hd => rfl); (case hg => rfl); (case hr => first | (go_simp; done) | (go_simp; rfl)); intro gb130 hg w21 hbox hb; have n0_ := Aside0.mk (blk_below (g := gb128) (o := .cells #[.bool a0_0, .slice (some ad129) l0_1.length c0_1, .int .i64 a0_2] 24 (0, 0)) (by (with_reducible repeat (first | refine blk_drewN ?_ _ | refine blk_drew ?_ | refine blk_alloc ?_ _)); exact BK128.out) hb); have n1_ := Aside0.mk (below_step (by repeat (first | (with_reducible first | exact HB.out | apply below_alloc | apply pw_below_drewN | apply below_drew1 | refine below_set ?_ GE128.out) | exact HB.out)) hb); have n2_ := Aside0.mk (hbox); have n3_ := Aside0.mk ((by rw [hg]; exact (below_size (by repeat (first | (with_reducible first | exact HB.out | apply below_alloc | apply pw_below_drewN | apply below_drew1 | refine below_set ?_ GE128.out) | exact HB.out))) : w.heap.size ≤ gb130)); have n4_ := Aside0.mk ((by rw [hg]; exact (below_size (by repeat (first | (with_reducible first | exact HB.out | apply below_alloc | apply pw_below_drewN | apply below_drew1 | refine below_set ?_ GE128.out) | exact HB.out))) : w.heap.size ≤ gb130)); have n5_ := Aside0.mk ((by rw [hg]; exact Nat.ne_of_lt (blk_lt (g := gb128) (o := .cells #[.bool a0_0, .slice (some ad129) l0_1.length c0_1, .int .i64 a0_2] 24 (0, 0)) (by (with_reducible repeat (first | refine blk_drewN ?_ _ | refine blk_drew ?_ | refine blk_alloc ?_ _)); exact BK128.out)) : gb128 ≠ gb130)); have n6_ := Aside0.mk ((by rw [hg]; exact Nat.ne_of_gt (blk_lt (g := gb128) (o := .cells #[.bool a0_0, .slice (some ad129) l0_1.length c0_1, .int .i64 a0_2] 24 (0, 0)) (by (with_reducible repeat (first | refine blk_drewN ?_ _ | refine blk_drew ?_ | refine blk_alloc ?_ _)); exact BK128.out)) : gb130 ≠ gb128)); clear BK128; clear HB; have BK128 := n0_; have HB := n1_; have BK130 := n2_; have GW130 := n3_; have GE130 := n4_; have NB128_130 := n5_; have NB130_128 := n6_; clear n0_ n1_ n2_ n3_ n4_ n5_ n6_; clear hb hbox hg; have hnb22 := NB130_128.out; have hnc22 := NB128_130.out; have hcz23_0 : w21.cell? ⟨gb130, 0, none⟩ = some (.int .i64 0) := (blk_cell BK130.out 0).trans rfl; have hcz23_1 : w21.cell? ⟨gb130, 1, none⟩ = some (.int .i64 0) := (blk_cell BK130.out 1).trans rfl; have hcz23_2 : w21.cell? ⟨gb130, 2, none⟩ = some (.string (⟨#[]⟩ : ByteArray)) := (blk_cell BK130.out 2).trans rfl; have hfz23_0 := blk_frozen BK130.out 0; have hfz23_1 := blk_frozen BK130.out 1; have hfz23_2 := blk_frozen BK130.out 2))
           have n0_ : Aside0 ((((w21.setCell ⟨gb130, 0, none⟩ (.int .i64 ((rd_T37 l0_1 x3_1).f0))).setCell ⟨gb130, 1, none⟩ (.int .i64 ((rd_T37 l0_1 x3_1).f1))).setCell ⟨gb130, 2, none⟩ (.string ((rd_T37 l0_1 x3_1).f2))).heap[gb128]? = some (.cells #[.bool a0_0, .slice (some ad129) l0_1.length c0_1, .int .i64 a0_2] 24 (0, 0))) := ⟨by (with_reducible repeat (first | refine blk_drewN ?_ _ | refine blk_drew ?_ | refine blk_alloc ?_ _)); refine blk_far ?_ NB128_130.out _; (with_reducible repeat (first | refine blk_drewN ?_ _ | refine blk_drew ?_ | refine blk_alloc ?_ _)); refine blk_far ?_ NB128_130.out _; (with_reducible repeat (first | refine blk_drewN ?_ _ | refine blk_drew ?_ | refine blk_alloc ?_ _)); refine blk_far ?_ NB128_130.out _; (with_reducible repeat (first | refine blk_drewN ?_ _ | refine blk_drew ?_ | refine blk_alloc ?_ _)); exact BK128.out⟩
           have n1_ : Aside0 ((((w21.setCell ⟨gb130, 0, none⟩ (.int .i64 ((rd_T37 l0_1 x3_1).f0))).setCell ⟨gb130, 1, none⟩ (.int .i64 ((rd_T37 l0_1 x3_1).f1))).setCell ⟨gb130, 2, none⟩ (.string ((rd_T37 l0_1 x3_1).f2))).heap[gb130]? = some (.cells #[.int .i64 ((rd_T37 l0_1 x3_1).f0), .int .i64 ((rd_T37 l0_1 x3_1).f1), .string ((rd_T37 l0_1 x3_1).f2)] 37 (0, 0))) := ⟨by (with_reducible repeat (first | refine blk_drewN ?_ _ | refine blk_drew ?_ | refine blk_alloc ?_ _)); refine blk_put (cs := #[.int .i64 ((rd_T37 l0_1 x3_1).f0), .int .i64 ((rd_T37 l0_1 x3_1).f1), .string (⟨#[]⟩ : ByteArray)]) ?_ 2 _ rfl; (with_reducible repeat (first | refine blk_drewN ?_ _ | refine blk_drew ?_ | refine blk_alloc ?_ _)); refine blk_put (cs := #[.int .i64 ((rd_T37 l0_1 x3_1).f0), .int .i64 0, .string (⟨#[]⟩ : ByteArray)]) ?_ 1 _ rfl; (with_reducible repeat (first | refine blk_drewN ?_ _ | refine blk_drew ?_ | refine blk_alloc ?_ _)); refine blk_put (cs := #[.int .i64 0, .int .i64 0, .string (⟨#[]⟩ : ByteArray)]) ?_ 0 _ rfl; (with_reducible repeat (first | refine blk_drewN ?_ _ | refine blk_drew ?_ | refine blk_alloc ?_ _)); exact BK130.out⟩
           have n2_ : Aside0 (Below w.heap.size w (((w21.setCell ⟨gb130, 0, none⟩ (.int .i64 ((rd_T37 l0_1 x3_1).f0))).setCell ⟨gb130, 1, none⟩ (.int .i64 ((rd_T37 l0_1 x3_1).f1))).setCell ⟨gb130, 2, none⟩ (.string ((rd_T37 l0_1 x3_1).f2)))) := ⟨by repeat (first | (with_reducible first | exact HB.out | apply below_alloc | apply pw_below_drewN | apply below_drew1 | refine below_set ?_ GE128.out | refine below_set ?_ GE130.out) | exact HB.out)⟩
           (try clear BK128)
           (try clear BK130)
           (try clear HB)
           generalize (((w21.setCell ⟨gb130, 0, none⟩ (.int .i64 ((rd_T37 l0_1 x3_1).f0))).setCell ⟨gb130, 1, none⟩ (.int .i64 ((rd_T37 l0_1 x3_1).f1))).setCell ⟨gb130, 2, none⟩ (.string ((rd_T37 l0_1 x3_1).f2))) = w24 at n0_ n1_ n2_ ⊢
           have BK128 := n0_
           have BK130 := n1_
           have HB := n2_
           clear n0_ n1_ n2_
           have n0_ := Aside0.mk (blk_drew BK128.out)
           have n1_ := Aside0.mk (blk_drew BK130.out)
           have n2_ := Aside0.mk (below_drew1 HB.out)
           clear BK128
           clear BK130
           clear HB
           have BK128 := n0_
           have BK130 := n1_
           have HB := n2_
           clear n0_ n1_ n2_
           have p132 : 0 ≤ ((ji8) : Int) := of_decide_eq_true (by first | (with_reducible assumption) | assumption)
           have q132 : (ji8) < (l0_1.length : Int) := of_decide_eq_true (by first | (with_reducible assumption) | assumption)
           obtain ⟨ad132, e132, hx132_0, hx132_1, hx132_2⟩ := at_T37 HR0_1.out (ji8) p132 q132
           have hw132_2 := hx132_2
           have hw132_1 := hx132_1
           have hw132_0 := hx132_0
           obtain rfl : ad129 = ad132 := (by injection e132)
           replace hx132_0 := (HB.out.cell (World.block_lt_of_cell? w _ hx132_0)).trans hx132_0
           replace hx132_1 := (HB.out.cell (World.block_lt_of_cell? w _ hx132_1)).trans hx132_1
           replace hx132_2 := (HB.out.cell (World.block_lt_of_cell? w _ hx132_2)).trans hx132_2
           replace p132 := eq_true p132
           replace q132 := eq_true q132
           refine start_ (n := 42) (S := fun w' => w'.cell? ⟨gb128, 0, none⟩ = some (.bool a0_0) ∧ w'.cell? ⟨gb128, 1, none⟩ = some (.slice (some ad129) l0_1.length c0_1) ∧ w'.cell? ⟨gb128, 2, none⟩ = some (.int .i64 a0_2) ∧ w'.cell? ⟨gb130, 0, none⟩ = some (.int .i64 ((rd_T37 l0_1 x3_1).f0)) ∧ w'.cell? ⟨gb130, 1, none⟩ = some (.int .i64 ((rd_T37 l0_1 x3_1).f1)) ∧ w'.cell? ⟨gb130, 2, none⟩ = some (.string ((rd_T37 l0_1 x3_1).f2)) ∧ w'.cell? (ad129.add (((ji8)).toNat * 3)) = some (.int .i64 ((rd_T37 l0_1 (ji8)).f0)) ∧ w'.cell? ⟨(ad129.add (((ji8)).toNat * 3)).block, (ad129.add (((ji8)).toNat * 3)).off + 1, none⟩ = some (.int .i64 ((rd_T37 l0_1 (ji8)).f1)) ∧ w'.cell? ⟨(ad129.add (((ji8)).toNat * 3)).block, (ad129.add (((ji8)).toNat * 3)).off + 2, none⟩ = some (.string ((rd_T37 l0_1 (ji8)).f2))) (ds := []) (tk_ 42 0) (by kernel_rfl) rfl (by kernel_rfl) ⟨(blk_cell BK128.out 0).trans rfl, (blk_cell BK128.out 1).trans rfl, (blk_cell BK128.out 2).trans rfl, (blk_cell BK130.out 0).trans rfl, (blk_cell BK130.out 1).trans rfl, (blk_cell BK130.out 2).trans rfl, ((HB.out.cell (World.block_lt_of_cell? w _ hw132_0)).trans hw132_0), ((HB.out.cell (World.block_lt_of_cell? w _ hw132_1)).trans hw132_1), ((HB.out.cell (World.block_lt_of_cell? w _ hw132_2)).trans hw132_2)⟩ (fun hHeld => ?_); refine with_tabW erasureref19_Right.tab5 erasureref19_Right.bits5 (fun HT_ HW_ => ?_)
           generalize w24.drew = w25 at BK128 BK130 HB hx132_0 hx132_1 hx132_2 hHeld ⊢
           refine pu_ 1 18 (tk_ 42 2) HT_.out rfl rfl (by kernel_rfl) (fun _ _ _ h => h) (by rfl) (fun w' => by go_simp; with_reducible rfl) (by simp only [s0_, s1_, s2_, s3_, s4_, s5_]; rfl) ?_
           refine ta_ 0 17 (tk_ 42 3) HT_.out HW_.out rfl rfl (by kernel_rfl) (fun _ _ _ h => h) (by rfl) (by rintro w' ⟨s0, s1, s2, s3, s4, s5, s6, s7, s8⟩; go_simp; with_reducible rfl) hHeld (by simp only [s0_, s1_, s2_, s3_, s4_, s5_]; rfl) ?_
           refine ta_ 2 19 (tk_ 42 7) HT_.out HW_.out rfl rfl (by kernel_rfl) (fun _ _ _ h => h) (by rfl) (by rintro w' ⟨s0, s1, s2, s3, s4, s5, s6, s7, s8⟩; go_simp; with_reducible rfl) hHeld (by simp only [s0_, s1_, s2_, s3_, s4_, s5_]; rfl) ?_
           refine one_ (i := 3) (N := some 20) (tk_ 42 15) rfl rfl (one_of HT_.out (by kernel_rfl)) (by decide) (fun K hK => ?_)
           refine goes_ Try.func34 (by kernel_rfl) rfl #[.agg #[.bool a0_0, .slice (some ad129) l0_1.length c0_1, .int .i64 a0_2], .int .i64 ((rd_T37 l0_1 x3_1).f0)] (by rfl) rfl rfl (by (try simp only [List.map_toArray, List.map_cons, List.map_nil]); first | done | rfl | (simp only [List.length_drop, List.length_take]; rfl)) ?_
           with_reducible refine (erasureref19_code.calls a0_0 _ _ l0_1 a0_2 ((rd_T37 l0_1 x3_1).f0) true _ ?side1 ?side2 A5.out).mono ?_
           (case side1 => repeat (first | exact (Kd.C_below HR0_1.out HB.out) | (with_reducible refine Kd.C_alloc ?_ _) | (with_reducible refine Kd.C_drewN ?_ _) | (with_reducible refine Kd.C_drew ?_)))
           (case side2 => exact HC0_1.out)
           rintro e w26 ⟨rfl, hb⟩
           refine ⟨_, rfl, ?_⟩
           have n0_ := Aside0.mk (blk_below (g := gb128) (o := .cells #[.bool a0_0, .slice (some ad129) l0_1.length c0_1, .int .i64 a0_2] 24 (0, 0)) (by (with_reducible repeat (first | refine blk_drewN ?_ _ | refine blk_drew ?_ | refine blk_alloc ?_ _)); exact BK128.out) hb)
           have n1_ := Aside0.mk (blk_below (g := gb130) (o := .cells #[.int .i64 ((rd_T37 l0_1 x3_1).f0), .int .i64 ((rd_T37 l0_1 x3_1).f1), .string ((rd_T37 l0_1 x3_1).f2)] 37 (0, 0)) (by (with_reducible repeat (first | refine blk_drewN ?_ _ | refine blk_drew ?_ | refine blk_alloc ?_ _)); exact BK130.out) hb)
           have n2_ := Aside0.mk (below_step (by repeat (first | (with_reducible first | exact HB.out | apply below_alloc | apply pw_below_drewN | apply below_drew1 | refine below_set ?_ GE128.out | refine below_set ?_ GE130.out) | exact HB.out)) hb)
           clear BK128
           clear BK130
           clear HB
           have BK128 := n0_
           have BK130 := n1_
           have HB := n2_
           clear n0_ n1_ n2_
           (try clear hb)
           (try clear hb2)
           (try clear hk)
           (try clear hi)
           refine hK.out _ _ ⟨(blk_cell BK128.out 0).trans rfl, (blk_cell BK128.out 1).trans rfl, (blk_cell BK128.out 2).trans rfl, (blk_cell BK130.out 0).trans rfl, (blk_cell BK130.out 1).trans rfl, (blk_cell BK130.out 2).trans rfl, ((HB.out.cell (World.block_lt_of_cell? w _ hw132_0)).trans hw132_0), ((HB.out.cell (World.block_lt_of_cell? w _ hw132_1)).trans hw132_1), ((HB.out.cell (World.block_lt_of_cell? w _ hw132_2)).trans hw132_2)⟩ (fun hHeld => ?_)
           clear hK K
           refine norm_ (by show Act.put _ (some 20) _ = _; simp only [s0_, s1_, s2_, s3_, s4_, s5_]; rfl) ?_
           refine pu_ 4 21 (tk_ 42 31) HT_.out rfl rfl (by kernel_rfl) (fun _ _ _ h => h) (by rfl) (fun w' => by go_simp; with_reducible rfl) (by simp only [s0_, s1_, s2_, s3_, s4_, s5_]; rfl) ?_
           refine pu_ 5 22 (tk_ 42 63) HT_.out rfl rfl (by kernel_rfl) (fun _ _ _ h => h) (by rfl) (fun w' => by go_simp; with_reducible rfl) (by simp only [s0_, s1_, s2_, s3_, s4_, s5_]; rfl) ?_
           refine pu_ 6 23 (tk_ 42 127) HT_.out rfl rfl (by kernel_rfl) (fun _ _ _ h => h) (by rfl) (fun w' => by go_simp; with_reducible rfl) (by simp only [s0_, s1_, s2_, s3_, s4_, s5_]; rfl) ?_
           refine pu_ 7 24 (tk_ 42 255) HT_.out rfl rfl (by kernel_rfl) (fun _ _ _ h => h) (by rfl) (fun w' => by go_simp; with_reducible rfl) (by simp only [s0_, s1_, s2_, s3_, s4_, s5_]; rfl) ?_
           refine pu_ 8 25 (tk_ 42 511) HT_.out rfl rfl (by kernel_rfl) (fun _ _ _ h => h) (by rfl) (fun w' => by go_simp; with_reducible rfl) (by simp only [s0_, s1_, s2_, s3_, s4_, s5_]; rfl) ?_
           refine pu_ 9 26 (tk_ 42 1023) HT_.out rfl rfl (by kernel_rfl) (fun _ _ _ h => h) (by rfl) (fun w' => by go_simp; with_reducible rfl) (by simp only [s0_, s1_, s2_, s3_, s4_, s5_]; rfl) ?_
           refine pu_ 11 28 (tk_ 42 3071) HT_.out rfl rfl (by kernel_rfl) (fun _ _ _ h => h) (by rfl) (fun w' => by go_simp; with_reducible rfl) (by simp only [s0_, s1_, s2_, s3_, s4_, s5_]; rfl) ?_
           refine pu_ 12 29 (tk_ 42 7167) HT_.out rfl rfl (by kernel_rfl) (fun _ _ _ h => h) (by rfl) (fun w' => by go_simp; with_reducible rfl) (by simp only [s0_, s1_, s2_, s3_, s4_, s5_]; rfl) ?_
           refine pu_ 16 33 (tk_ 42 72703) HT_.out rfl rfl (by kernel_rfl) (fun _ _ _ h => h) (by rfl) (fun w' => by go_simp; with_reducible rfl) (by simp only [s0_, s1_, s2_, s3_, s4_, s5_]; rfl) ?_
           refine ta_ 10 27 (tk_ 42 73727) HT_.out HW_.out rfl rfl (by kernel_rfl) (fun _ _ _ h => h) (by rfl) (by rintro w' ⟨s0, s1, s2, s3, s4, s5, s6, s7, s8⟩; go_simp; with_reducible rfl) hHeld (by simp only [s0_, s1_, s2_, s3_, s4_, s5_]; rfl) ?_
           refine pu_ 13 30 (tk_ 42 81919) HT_.out rfl rfl (by kernel_rfl) (fun _ _ _ h => h) (by rfl) (fun w' => by go_simp; with_reducible rfl) (by simp only [s0_, s1_, s2_, s3_, s4_, s5_]; rfl) ?_
           refine pu_ 14 31 (tk_ 42 98303) HT_.out rfl rfl (by kernel_rfl) (fun _ _ _ h => h) (by rfl) (fun w' => by go_simp; with_reducible rfl) (by simp only [s0_, s1_, s2_, s3_, s4_, s5_]; rfl) ?_
           refine ta_ 15 32 (tk_ 42 131071) HT_.out HW_.out rfl rfl (by kernel_rfl) (fun _ _ _ h => h) (by rfl) (by rintro w' ⟨s0, s1, s2, s3, s4, s5, s6, s7, s8⟩; go_simp; with_reducible rfl) hHeld (by simp only [s0_, s1_, s2_, s3_, s4_, s5_]; rfl) ?_
           refine ta_ 17 34 (tk_ 42 262143) HT_.out HW_.out rfl rfl (by kernel_rfl) (fun _ _ _ h => h) (by rfl) (by rintro w' ⟨s0, s1, s2, s3, s4, s5, s6, s7, s8⟩; go_simp; with_reducible rfl) hHeld (by simp only [s0_, s1_, s2_, s3_, s4_, s5_]; rfl) ?_
           refine pu_ 18 35 (tk_ 42 524287) HT_.out rfl rfl (by kernel_rfl) (fun _ _ _ h => h) (by rfl) (fun w' => by go_simp; with_reducible rfl) (by simp only [s0_, s1_, s2_, s3_, s4_, s5_]; rfl) ?_
           refine pu_ 19 36 (tk_ 42 1048575) HT_.out rfl rfl (by kernel_rfl) (fun _ _ _ h => h) (by rfl) (fun w' => by go_simp; with_reducible rfl) (by simp only [s0_, s1_, s2_, s3_, s4_, s5_]; rfl) ?_
           refine pu_ 20 37 (tk_ 42 2097151) HT_.out rfl rfl (by kernel_rfl) (fun _ _ _ h => h) (by rfl) (fun w' => by go_simp; with_reducible rfl) (by simp only [s0_, s1_, s2_, s3_, s4_, s5_]; rfl) ?_
           refine pu_ 21 38 (tk_ 42 4194303) HT_.out rfl rfl (by kernel_rfl) (fun _ _ _ h => h) (by rfl) (fun w' => by go_simp; with_reducible rfl) (by simp only [s0_, s1_, s2_, s3_, s4_, s5_]; rfl) ?_
           refine pu_ 22 39 (tk_ 42 8388607) HT_.out rfl rfl (by kernel_rfl) (fun _ _ _ h => h) (by rfl) (fun w' => by go_simp; with_reducible rfl) (by simp only [s0_, s1_, s2_, s3_, s4_, s5_]; rfl) ?_
           refine ta_ 23 40 (tk_ 42 16777215) HT_.out HW_.out rfl rfl (by kernel_rfl) (fun _ _ _ h => h) (by rfl) (by rintro w' ⟨s0, s1, s2, s3, s4, s5, s6, s7, s8⟩; go_simp; with_reducible rfl) hHeld (by simp only [s0_, s1_, s2_, s3_, s4_, s5_]; rfl) ?_
           refine pu_ 24 41 (tk_ 42 33554431) HT_.out rfl rfl (by kernel_rfl) (fun _ _ _ h => h) (by rfl) (fun w' => by go_simp; with_reducible rfl) (by simp only [s0_, s1_, s2_, s3_, s4_, s5_]; rfl) ?_
           refine pu_ 25 42 (tk_ 42 67108863) HT_.out rfl rfl (by kernel_rfl) (fun _ _ _ h => h) (by rfl) (fun w' => by go_simp; with_reducible rfl) (by simp only [s0_, s1_, s2_, s3_, s4_, s5_]; rfl) ?_
           refine pu_ 26 43 (tk_ 42 134217727) HT_.out rfl rfl (by kernel_rfl) (fun _ _ _ h => h) (by rfl) (fun w' => by go_simp; with_reducible rfl) (by simp only [s0_, s1_, s2_, s3_, s4_, s5_]; rfl) ?_
           refine sk_ 27 44 (tk_ 42 268435455) HT_.out rfl rfl (by kernel_rfl) (fun _ _ _ h => h) (by rfl) (by simp only [s0_, s1_, s2_, s3_, s4_, s5_]; rfl) ?_
           refine sk_ 28 45 (tk_ 42 536870911) HT_.out rfl rfl (by kernel_rfl) (fun _ _ _ h => h) (by rfl) (by simp only [s0_, s1_, s2_, s3_, s4_, s5_]; rfl) ?_
           refine sk_ 29 46 (tk_ 42 1073741823) HT_.out rfl rfl (by kernel_rfl) (fun _ _ _ h => h) (by rfl) (by simp only [s0_, s1_, s2_, s3_, s4_, s5_]; rfl) ?_
           refine pu_ 30 47 (tk_ 42 2147483647) HT_.out rfl rfl (by kernel_rfl) (fun _ _ _ h => h) (by rfl) (fun w' => by go_simp; with_reducible rfl) (by simp only [s0_, s1_, s2_, s3_, s4_, s5_]; rfl) ?_
           refine pu_ 31 48 (tk_ 42 4294967295) HT_.out rfl rfl (by kernel_rfl) (fun _ _ _ h => h) (by rfl) (fun w' => by go_simp; with_reducible rfl) (by simp only [s0_, s1_, s2_, s3_, s4_, s5_]; rfl) ?_
           refine sk_ 32 49 (tk_ 42 8589934591) HT_.out rfl rfl (by kernel_rfl) (fun _ _ _ h => h) (by rfl) (by simp only [s0_, s1_, s2_, s3_, s4_, s5_]; rfl) ?_
           refine sk_ 33 50 (tk_ 42 17179869183) HT_.out rfl rfl (by kernel_rfl) (fun _ _ _ h => h) (by rfl) (by simp only [s0_, s1_, s2_, s3_, s4_, s5_]; rfl) ?_
           refine sk_ 34 51 (tk_ 42 34359738367) HT_.out rfl rfl (by kernel_rfl) (fun _ _ _ h => h) (by rfl) (by simp only [s0_, s1_, s2_, s3_, s4_, s5_]; rfl) ?_
           refine sk_ 35 52 (tk_ 42 68719476735) HT_.out rfl rfl (by kernel_rfl) (fun _ _ _ h => h) (by rfl) (by simp only [s0_, s1_, s2_, s3_, s4_, s5_]; rfl) ?_
           refine sk_ 36 53 (tk_ 42 137438953471) HT_.out rfl rfl (by kernel_rfl) (fun _ _ _ h => h) (by rfl) (by simp only [s0_, s1_, s2_, s3_, s4_, s5_]; rfl) ?_
           refine sk_ 37 54 (tk_ 42 274877906943) HT_.out rfl rfl (by kernel_rfl) (fun _ _ _ h => h) (by rfl) (by simp only [s0_, s1_, s2_, s3_, s4_, s5_]; rfl) ?_
           refine sk_ 38 55 (tk_ 42 549755813887) HT_.out rfl rfl (by kernel_rfl) (fun _ _ _ h => h) (by rfl) (by simp only [s0_, s1_, s2_, s3_, s4_, s5_]; rfl) ?_
           refine sk_ 39 56 (tk_ 42 1099511627775) HT_.out rfl rfl (by kernel_rfl) (fun _ _ _ h => h) (by rfl) (by simp only [s0_, s1_, s2_, s3_, s4_, s5_]; rfl) ?_
           refine sk_ 40 57 (tk_ 42 2199023255551) HT_.out rfl rfl (by kernel_rfl) (fun _ _ _ h => h) (by rfl) (by simp only [s0_, s1_, s2_, s3_, s4_, s5_]; rfl) ?_
           refine pu_ 41 58 (tk_ 42 4398046511103) HT_.out rfl rfl (by kernel_rfl) (fun _ _ _ h => h) (by rfl) (fun w' => by go_simp; with_reducible rfl) (by simp only [s0_, s1_, s2_, s3_, s4_, s5_]; rfl) ?_
           refine done_ (done_of HT_.out (by kernel_rfl)) ?_
           try go_wp2
           go_ret
           exact ⟨by first | rfl | (simp [errW_none, errW_some] <;> rfl) | (simp only [← hji8]; first | rfl | (simp [errW_none, errW_some] <;> rfl)) | (simp [*, errW_none, errW_some] <;> rfl), by repeat (first | (with_reducible first | exact HB.out | apply below_alloc | apply pw_below_drewN | apply below_drew1 | refine below_set ?_ GE128.out | refine below_set ?_ GE130.out) | exact HB.out)⟩
          ·rw [if_neg c19] at H
           have c19b0 : decide (((rd_T37 l0_1 x3_1).f1) < 0) = false := decide_eq_false c19
           clear c19
           by_cases c27 : ((rd_T37 l0_1 x3_1).f1) > 10000
           ·rw [if_pos c27] at H
            have c27b0 : decide (10000 < ((rd_T37 l0_1 x3_1).f1)) = true := decide_eq_true c27
            clear c27
            obtain rfl := Option.some.inj H
            have hcz28_0 : wr.cell? ⟨gb128, 0, none⟩ = some (.bool a0_0) := (blk_cell BK128.out 0).trans rfl
            have hcz28_1 : wr.cell? ⟨gb128, 1, none⟩ = some (.slice A0_1 l0_1.length c0_1) := (blk_cell BK128.out 1).trans rfl
            have hcz28_2 : wr.cell? ⟨gb128, 2, none⟩ = some (.int .i64 a0_2) := (blk_cell BK128.out 2).trans rfl
            have hfz28_0 := blk_frozen BK128.out 0
            have hfz28_1 := blk_frozen BK128.out 1
            have hfz28_2 := blk_frozen BK128.out 2
            have p129 : 0 ≤ (x3_1 : Int) := of_decide_eq_true (by first | (with_reducible assumption) | assumption)
            have q129 : x3_1 < (l0_1.length : Int) := of_decide_eq_true (by first | (with_reducible assumption) | assumption)
            obtain ⟨ad129, e129, hx129_0, hx129_1, hx129_2⟩ := at_T37 HR0_1.out x3_1 p129 q129
            cases e129
            replace hx129_0 := (HB.out.cell (World.block_lt_of_cell? w _ hx129_0)).trans hx129_0
            replace hx129_1 := (HB.out.cell (World.block_lt_of_cell? w _ hx129_1)).trans hx129_1
            replace hx129_2 := (HB.out.cell (World.block_lt_of_cell? w _ hx129_2)).trans hx129_2
            replace p129 := eq_true p129
            replace q129 := eq_true q129
            try go_wp2_with (first | ((with_reducible refine gate_dst (N := 4) rfl ?_); (try (refine gate_guard (by rfl) ?_; dsimp only)); refine box_event ?hg (N := 4) ?hd (cs := #[.int .i64 0, .int .i64 0, .string (⟨#[]⟩ : ByteArray)]) (t := 37) ?hr ?_; (case hd => rfl); (case hg => rfl); (case hr => first | (go_simp; done) | (go_simp; rfl)); intro gb130 hg w29 hbox hb; have n0_ := Aside0.mk (blk_below (g := gb128) (o := .cells #[.bool a0_0, .slice (some ad129) l0_1.length c0_1, .int .i64 a0_2] 24 (0, 0)) (by (with_reducible repeat (first | refine blk_drewN ?_ _ | refine blk_drew ?_ | refine blk_alloc ?_ _)); exact BK128.out) hb); have n1_ := Aside0.mk (below_step (by repeat (first | (with_reducible first | exact HB.out | apply below_alloc | apply pw_below_drewN | apply below_drew1 | refine below_set ?_ GE128.out) | exact HB.out)) hb); have n2_ := Aside0.mk (hbox); have n3_ := Aside0.mk ((by rw [hg]; exact (below_size (by repeat (first | (with_reducible first | exact HB.out | apply below_alloc | apply pw_below_drewN | apply below_drew1 | refine below_set ?_ GE128.out) | exact HB.out))) : w.heap.size ≤ gb130)); have n4_ := Aside0.mk ((by rw [hg]; exact (below_size (by repeat (first | (with_reducible first | exact HB.out | apply below_alloc | apply pw_below_drewN | apply below_drew1 | refine below_set ?_ GE128.out) | exact HB.out))) : w.heap.size ≤ gb130)); have n5_ := Aside0.mk ((by rw [hg]; exact Nat.ne_of_lt (blk_lt (g := gb128) (o := .cells #[.bool a0_0, .slice (some ad129) l0_1.length c0_1, .int .i64 a0_2] 24 (0, 0)) (by (with_reducible repeat (first | refine blk_drewN ?_ _ | refine blk_drew ?_ | refine blk_alloc ?_ _)); exact BK128.out)) : gb128 ≠ gb130)); have n6_ := Aside0.mk ((by rw [hg]; exact Nat.ne_of_gt (blk_lt (g := gb128) (o := .cells #[.bool a0_0, .slice (some ad129) l0_1.length c0_1, .int .i64 a0_2] 24 (0, 0)) (by (with_reducible repeat (first | refine blk_drewN ?_ _ | refine blk_drew ?_ | refine blk_alloc ?_ _)); exact BK128.out)) : gb130 ≠ gb128)); clear BK128; clear HB; have BK128 := n0_; have HB := n1_; have BK130 := n2_; have GW130 := n3_; have GE130 := n4_; have NB128_130 := n5_; have NB130_128 := n6_; clear n0_ n1_ n2_ n3_ n4_ n5_ n6_; clear hb hbox hg; have hnb30 := NB130_128.out; have hnc30 := NB128_130.out; have hcz31_0 : w29.cell? ⟨gb130, 0, none⟩ = some (.int .i64 0) := (blk_cell BK130.out 0).trans rfl; have hcz31_1 : w29.cell? ⟨gb130, 1, none⟩ = some (.int .i64 0) := (blk_cell BK130.out 1).trans rfl; have hcz31_2 : w29.cell? ⟨gb130, 2, none⟩ = some (.string (⟨#[]⟩ : ByteArray)) := (blk_cell BK130.out 2).trans rfl; have hfz31_0 := blk_frozen BK130.out 0; have hfz31_1 := blk_frozen BK130.out 1; have hfz31_2 := blk_frozen BK130.out 2))
            have n0_ : Aside0 ((((w29.setCell ⟨gb130, 0, none⟩ (.int .i64 ((rd_T37 l0_1 x3_1).f0))).setCell ⟨gb130, 1, none⟩ (.int .i64 ((rd_T37 l0_1 x3_1).f1))).setCell ⟨gb130, 2, none⟩ (.string ((rd_T37 l0_1 x3_1).f2))).heap[gb128]? = some (.cells #[.bool a0_0, .slice (some ad129) l0_1.length c0_1, .int .i64 a0_2] 24 (0, 0))) := ⟨by (with_reducible repeat (first | refine blk_drewN ?_ _ | refine blk_drew ?_ | refine blk_alloc ?_ _)); refine blk_far ?_ NB128_130.out _; (with_reducible repeat (first | refine blk_drewN ?_ _ | refine blk_drew ?_ | refine blk_alloc ?_ _)); refine blk_far ?_ NB128_130.out _; (with_reducible repeat (first | refine blk_drewN ?_ _ | refine blk_drew ?_ | refine blk_alloc ?_ _)); refine blk_far ?_ NB128_130.out _; (with_reducible repeat (first | refine blk_drewN ?_ _ | refine blk_drew ?_ | refine blk_alloc ?_ _)); exact BK128.out⟩
            have n1_ : Aside0 ((((w29.setCell ⟨gb130, 0, none⟩ (.int .i64 ((rd_T37 l0_1 x3_1).f0))).setCell ⟨gb130, 1, none⟩ (.int .i64 ((rd_T37 l0_1 x3_1).f1))).setCell ⟨gb130, 2, none⟩ (.string ((rd_T37 l0_1 x3_1).f2))).heap[gb130]? = some (.cells #[.int .i64 ((rd_T37 l0_1 x3_1).f0), .int .i64 ((rd_T37 l0_1 x3_1).f1), .string ((rd_T37 l0_1 x3_1).f2)] 37 (0, 0))) := ⟨by (with_reducible repeat (first | refine blk_drewN ?_ _ | refine blk_drew ?_ | refine blk_alloc ?_ _)); refine blk_put (cs := #[.int .i64 ((rd_T37 l0_1 x3_1).f0), .int .i64 ((rd_T37 l0_1 x3_1).f1), .string (⟨#[]⟩ : ByteArray)]) ?_ 2 _ rfl; (with_reducible repeat (first | refine blk_drewN ?_ _ | refine blk_drew ?_ | refine blk_alloc ?_ _)); refine blk_put (cs := #[.int .i64 ((rd_T37 l0_1 x3_1).f0), .int .i64 0, .string (⟨#[]⟩ : ByteArray)]) ?_ 1 _ rfl; (with_reducible repeat (first | refine blk_drewN ?_ _ | refine blk_drew ?_ | refine blk_alloc ?_ _)); refine blk_put (cs := #[.int .i64 0, .int .i64 0, .string (⟨#[]⟩ : ByteArray)]) ?_ 0 _ rfl; (with_reducible repeat (first | refine blk_drewN ?_ _ | refine blk_drew ?_ | refine blk_alloc ?_ _)); exact BK130.out⟩
            have n2_ : Aside0 (Below w.heap.size w (((w29.setCell ⟨gb130, 0, none⟩ (.int .i64 ((rd_T37 l0_1 x3_1).f0))).setCell ⟨gb130, 1, none⟩ (.int .i64 ((rd_T37 l0_1 x3_1).f1))).setCell ⟨gb130, 2, none⟩ (.string ((rd_T37 l0_1 x3_1).f2)))) := ⟨by repeat (first | (with_reducible first | exact HB.out | apply below_alloc | apply pw_below_drewN | apply below_drew1 | refine below_set ?_ GE128.out | refine below_set ?_ GE130.out) | exact HB.out)⟩
            (try clear BK128)
            (try clear BK130)
            (try clear HB)
            generalize (((w29.setCell ⟨gb130, 0, none⟩ (.int .i64 ((rd_T37 l0_1 x3_1).f0))).setCell ⟨gb130, 1, none⟩ (.int .i64 ((rd_T37 l0_1 x3_1).f1))).setCell ⟨gb130, 2, none⟩ (.string ((rd_T37 l0_1 x3_1).f2))) = w32 at n0_ n1_ n2_ ⊢
            have BK128 := n0_
            have BK130 := n1_
            have HB := n2_
            clear n0_ n1_ n2_
            have n0_ := Aside0.mk (blk_drew BK128.out)
            have n1_ := Aside0.mk (blk_drew BK130.out)
            have n2_ := Aside0.mk (below_drew1 HB.out)
            clear BK128
            clear BK130
            clear HB
            have BK128 := n0_
            have BK130 := n1_
            have HB := n2_
            clear n0_ n1_ n2_
            have p132 : 0 ≤ ((ji8) : Int) := of_decide_eq_true (by first | (with_reducible assumption) | assumption)
            have q132 : (ji8) < (l0_1.length : Int) := of_decide_eq_true (by first | (with_reducible assumption) | assumption)
            obtain ⟨ad132, e132, hx132_0, hx132_1, hx132_2⟩ := at_T37 HR0_1.out (ji8) p132 q132
            have hw132_2 := hx132_2
            have hw132_1 := hx132_1
            have hw132_0 := hx132_0
            obtain rfl : ad129 = ad132 := (by injection e132)
            replace hx132_0 := (HB.out.cell (World.block_lt_of_cell? w _ hx132_0)).trans hx132_0
            replace hx132_1 := (HB.out.cell (World.block_lt_of_cell? w _ hx132_1)).trans hx132_1
            replace hx132_2 := (HB.out.cell (World.block_lt_of_cell? w _ hx132_2)).trans hx132_2
            replace p132 := eq_true p132
            replace q132 := eq_true q132
            refine start_ (n := 42) (S := fun w' => w'.cell? ⟨gb128, 0, none⟩ = some (.bool a0_0) ∧ w'.cell? ⟨gb128, 1, none⟩ = some (.slice (some ad129) l0_1.length c0_1) ∧ w'.cell? ⟨gb128, 2, none⟩ = some (.int .i64 a0_2) ∧ w'.cell? ⟨gb130, 0, none⟩ = some (.int .i64 ((rd_T37 l0_1 x3_1).f0)) ∧ w'.cell? ⟨gb130, 1, none⟩ = some (.int .i64 ((rd_T37 l0_1 x3_1).f1)) ∧ w'.cell? ⟨gb130, 2, none⟩ = some (.string ((rd_T37 l0_1 x3_1).f2)) ∧ w'.cell? (ad129.add (((ji8)).toNat * 3)) = some (.int .i64 ((rd_T37 l0_1 (ji8)).f0)) ∧ w'.cell? ⟨(ad129.add (((ji8)).toNat * 3)).block, (ad129.add (((ji8)).toNat * 3)).off + 1, none⟩ = some (.int .i64 ((rd_T37 l0_1 (ji8)).f1)) ∧ w'.cell? ⟨(ad129.add (((ji8)).toNat * 3)).block, (ad129.add (((ji8)).toNat * 3)).off + 2, none⟩ = some (.string ((rd_T37 l0_1 (ji8)).f2))) (ds := []) (tk_ 42 0) (by kernel_rfl) rfl (by kernel_rfl) ⟨(blk_cell BK128.out 0).trans rfl, (blk_cell BK128.out 1).trans rfl, (blk_cell BK128.out 2).trans rfl, (blk_cell BK130.out 0).trans rfl, (blk_cell BK130.out 1).trans rfl, (blk_cell BK130.out 2).trans rfl, ((HB.out.cell (World.block_lt_of_cell? w _ hw132_0)).trans hw132_0), ((HB.out.cell (World.block_lt_of_cell? w _ hw132_1)).trans hw132_1), ((HB.out.cell (World.block_lt_of_cell? w _ hw132_2)).trans hw132_2)⟩ (fun hHeld => ?_); refine with_tabW erasureref19_Right.tab5 erasureref19_Right.bits5 (fun HT_ HW_ => ?_)
            generalize w32.drew = w33 at BK128 BK130 HB hx132_0 hx132_1 hx132_2 hHeld ⊢
            refine pu_ 1 18 (tk_ 42 2) HT_.out rfl rfl (by kernel_rfl) (fun _ _ _ h => h) (by rfl) (fun w' => by go_simp; with_reducible rfl) (by simp only [s0_, s1_, s2_, s3_, s4_, s5_]; rfl) ?_
            refine ta_ 0 17 (tk_ 42 3) HT_.out HW_.out rfl rfl (by kernel_rfl) (fun _ _ _ h => h) (by rfl) (by rintro w' ⟨s0, s1, s2, s3, s4, s5, s6, s7, s8⟩; go_simp; with_reducible rfl) hHeld (by simp only [s0_, s1_, s2_, s3_, s4_, s5_]; rfl) ?_
            refine ta_ 2 19 (tk_ 42 7) HT_.out HW_.out rfl rfl (by kernel_rfl) (fun _ _ _ h => h) (by rfl) (by rintro w' ⟨s0, s1, s2, s3, s4, s5, s6, s7, s8⟩; go_simp; with_reducible rfl) hHeld (by simp only [s0_, s1_, s2_, s3_, s4_, s5_]; rfl) ?_
            refine one_ (i := 3) (N := some 20) (tk_ 42 15) rfl rfl (one_of HT_.out (by kernel_rfl)) (by decide) (fun K hK => ?_)
            refine goes_ Try.func34 (by kernel_rfl) rfl #[.agg #[.bool a0_0, .slice (some ad129) l0_1.length c0_1, .int .i64 a0_2], .int .i64 ((rd_T37 l0_1 x3_1).f0)] (by rfl) rfl rfl (by (try simp only [List.map_toArray, List.map_cons, List.map_nil]); first | done | rfl | (simp only [List.length_drop, List.length_take]; rfl)) ?_
            with_reducible refine (erasureref19_code.calls a0_0 _ _ l0_1 a0_2 ((rd_T37 l0_1 x3_1).f0) true _ ?side1 ?side2 A5.out).mono ?_
            (case side1 => repeat (first | exact (Kd.C_below HR0_1.out HB.out) | (with_reducible refine Kd.C_alloc ?_ _) | (with_reducible refine Kd.C_drewN ?_ _) | (with_reducible refine Kd.C_drew ?_)))
            (case side2 => exact HC0_1.out)
            rintro e w34 ⟨rfl, hb⟩
            refine ⟨_, rfl, ?_⟩
            have n0_ := Aside0.mk (blk_below (g := gb128) (o := .cells #[.bool a0_0, .slice (some ad129) l0_1.length c0_1, .int .i64 a0_2] 24 (0, 0)) (by (with_reducible repeat (first | refine blk_drewN ?_ _ | refine blk_drew ?_ | refine blk_alloc ?_ _)); exact BK128.out) hb)
            have n1_ := Aside0.mk (blk_below (g := gb130) (o := .cells #[.int .i64 ((rd_T37 l0_1 x3_1).f0), .int .i64 ((rd_T37 l0_1 x3_1).f1), .string ((rd_T37 l0_1 x3_1).f2)] 37 (0, 0)) (by (with_reducible repeat (first | refine blk_drewN ?_ _ | refine blk_drew ?_ | refine blk_alloc ?_ _)); exact BK130.out) hb)
            have n2_ := Aside0.mk (below_step (by repeat (first | (with_reducible first | exact HB.out | apply below_alloc | apply pw_below_drewN | apply below_drew1 | refine below_set ?_ GE128.out | refine below_set ?_ GE130.out) | exact HB.out)) hb)
            clear BK128
            clear BK130
            clear HB
            have BK128 := n0_
            have BK130 := n1_
            have HB := n2_
            clear n0_ n1_ n2_
            (try clear hb)
            (try clear hb2)
            (try clear hk)
            (try clear hi)
            refine hK.out _ _ ⟨(blk_cell BK128.out 0).trans rfl, (blk_cell BK128.out 1).trans rfl, (blk_cell BK128.out 2).trans rfl, (blk_cell BK130.out 0).trans rfl, (blk_cell BK130.out 1).trans rfl, (blk_cell BK130.out 2).trans rfl, ((HB.out.cell (World.block_lt_of_cell? w _ hw132_0)).trans hw132_0), ((HB.out.cell (World.block_lt_of_cell? w _ hw132_1)).trans hw132_1), ((HB.out.cell (World.block_lt_of_cell? w _ hw132_2)).trans hw132_2)⟩ (fun hHeld => ?_)
            clear hK K
            refine norm_ (by show Act.put _ (some 20) _ = _; simp only [s0_, s1_, s2_, s3_, s4_, s5_]; rfl) ?_
            refine pu_ 4 21 (tk_ 42 31) HT_.out rfl rfl (by kernel_rfl) (fun _ _ _ h => h) (by rfl) (fun w' => by go_simp; with_reducible rfl) (by simp only [s0_, s1_, s2_, s3_, s4_, s5_]; rfl) ?_
            refine pu_ 5 22 (tk_ 42 63) HT_.out rfl rfl (by kernel_rfl) (fun _ _ _ h => h) (by rfl) (fun w' => by go_simp; with_reducible rfl) (by simp only [s0_, s1_, s2_, s3_, s4_, s5_]; rfl) ?_
            refine pu_ 6 23 (tk_ 42 127) HT_.out rfl rfl (by kernel_rfl) (fun _ _ _ h => h) (by rfl) (fun w' => by go_simp; with_reducible rfl) (by simp only [s0_, s1_, s2_, s3_, s4_, s5_]; rfl) ?_
            refine pu_ 7 24 (tk_ 42 255) HT_.out rfl rfl (by kernel_rfl) (fun _ _ _ h => h) (by rfl) (fun w' => by go_simp; with_reducible rfl) (by simp only [s0_, s1_, s2_, s3_, s4_, s5_]; rfl) ?_
            refine pu_ 8 25 (tk_ 42 511) HT_.out rfl rfl (by kernel_rfl) (fun _ _ _ h => h) (by rfl) (fun w' => by go_simp; with_reducible rfl) (by simp only [s0_, s1_, s2_, s3_, s4_, s5_]; rfl) ?_
            refine pu_ 9 26 (tk_ 42 1023) HT_.out rfl rfl (by kernel_rfl) (fun _ _ _ h => h) (by rfl) (fun w' => by go_simp; with_reducible rfl) (by simp only [s0_, s1_, s2_, s3_, s4_, s5_]; rfl) ?_
            refine pu_ 11 28 (tk_ 42 3071) HT_.out rfl rfl (by kernel_rfl) (fun _ _ _ h => h) (by rfl) (fun w' => by go_simp; with_reducible rfl) (by simp only [s0_, s1_, s2_, s3_, s4_, s5_]; rfl) ?_
            refine pu_ 12 29 (tk_ 42 7167) HT_.out rfl rfl (by kernel_rfl) (fun _ _ _ h => h) (by rfl) (fun w' => by go_simp; with_reducible rfl) (by simp only [s0_, s1_, s2_, s3_, s4_, s5_]; rfl) ?_
            refine pu_ 16 33 (tk_ 42 72703) HT_.out rfl rfl (by kernel_rfl) (fun _ _ _ h => h) (by rfl) (fun w' => by go_simp; with_reducible rfl) (by simp only [s0_, s1_, s2_, s3_, s4_, s5_]; rfl) ?_
            refine ta_ 10 27 (tk_ 42 73727) HT_.out HW_.out rfl rfl (by kernel_rfl) (fun _ _ _ h => h) (by rfl) (by rintro w' ⟨s0, s1, s2, s3, s4, s5, s6, s7, s8⟩; go_simp; with_reducible rfl) hHeld (by simp only [s0_, s1_, s2_, s3_, s4_, s5_]; rfl) ?_
            refine pu_ 13 30 (tk_ 42 81919) HT_.out rfl rfl (by kernel_rfl) (fun _ _ _ h => h) (by rfl) (fun w' => by go_simp; with_reducible rfl) (by simp only [s0_, s1_, s2_, s3_, s4_, s5_]; rfl) ?_
            refine pu_ 14 31 (tk_ 42 98303) HT_.out rfl rfl (by kernel_rfl) (fun _ _ _ h => h) (by rfl) (fun w' => by go_simp; with_reducible rfl) (by simp only [s0_, s1_, s2_, s3_, s4_, s5_]; rfl) ?_
            refine ta_ 15 32 (tk_ 42 131071) HT_.out HW_.out rfl rfl (by kernel_rfl) (fun _ _ _ h => h) (by rfl) (by rintro w' ⟨s0, s1, s2, s3, s4, s5, s6, s7, s8⟩; go_simp; with_reducible rfl) hHeld (by simp only [s0_, s1_, s2_, s3_, s4_, s5_]; rfl) ?_
            refine ta_ 17 34 (tk_ 42 262143) HT_.out HW_.out rfl rfl (by kernel_rfl) (fun _ _ _ h => h) (by rfl) (by rintro w' ⟨s0, s1, s2, s3, s4, s5, s6, s7, s8⟩; go_simp; with_reducible rfl) hHeld (by simp only [s0_, s1_, s2_, s3_, s4_, s5_]; rfl) ?_
            refine pu_ 18 35 (tk_ 42 524287) HT_.out rfl rfl (by kernel_rfl) (fun _ _ _ h => h) (by rfl) (fun w' => by go_simp; with_reducible rfl) (by simp only [s0_, s1_, s2_, s3_, s4_, s5_]; rfl) ?_
            refine pu_ 19 36 (tk_ 42 1048575) HT_.out rfl rfl (by kernel_rfl) (fun _ _ _ h => h) (by rfl) (fun w' => by go_simp; with_reducible rfl) (by simp only [s0_, s1_, s2_, s3_, s4_, s5_]; rfl) ?_
            refine pu_ 20 37 (tk_ 42 2097151) HT_.out rfl rfl (by kernel_rfl) (fun _ _ _ h => h) (by rfl) (fun w' => by go_simp; with_reducible rfl) (by simp only [s0_, s1_, s2_, s3_, s4_, s5_]; rfl) ?_
            refine pu_ 21 38 (tk_ 42 4194303) HT_.out rfl rfl (by kernel_rfl) (fun _ _ _ h => h) (by rfl) (fun w' => by go_simp; with_reducible rfl) (by simp only [s0_, s1_, s2_, s3_, s4_, s5_]; rfl) ?_
            refine pu_ 22 39 (tk_ 42 8388607) HT_.out rfl rfl (by kernel_rfl) (fun _ _ _ h => h) (by rfl) (fun w' => by go_simp; with_reducible rfl) (by simp only [s0_, s1_, s2_, s3_, s4_, s5_]; rfl) ?_
            refine ta_ 23 40 (tk_ 42 16777215) HT_.out HW_.out rfl rfl (by kernel_rfl) (fun _ _ _ h => h) (by rfl) (by rintro w' ⟨s0, s1, s2, s3, s4, s5, s6, s7, s8⟩; go_simp; with_reducible rfl) hHeld (by simp only [s0_, s1_, s2_, s3_, s4_, s5_]; rfl) ?_
            refine pu_ 24 41 (tk_ 42 33554431) HT_.out rfl rfl (by kernel_rfl) (fun _ _ _ h => h) (by rfl) (fun w' => by go_simp; with_reducible rfl) (by simp only [s0_, s1_, s2_, s3_, s4_, s5_]; rfl) ?_
            refine pu_ 25 42 (tk_ 42 67108863) HT_.out rfl rfl (by kernel_rfl) (fun _ _ _ h => h) (by rfl) (fun w' => by go_simp; with_reducible rfl) (by simp only [s0_, s1_, s2_, s3_, s4_, s5_]; rfl) ?_
            refine pu_ 26 43 (tk_ 42 134217727) HT_.out rfl rfl (by kernel_rfl) (fun _ _ _ h => h) (by rfl) (fun w' => by go_simp; with_reducible rfl) (by simp only [s0_, s1_, s2_, s3_, s4_, s5_]; rfl) ?_
            refine pu_ 27 44 (tk_ 42 268435455) HT_.out rfl rfl (by kernel_rfl) (fun _ _ _ h => h) (by rfl) (fun w' => by go_simp; with_reducible rfl) (by simp only [s0_, s1_, s2_, s3_, s4_, s5_]; rfl) ?_
            refine ta_ 28 45 (tk_ 42 536870911) HT_.out HW_.out rfl rfl (by kernel_rfl) (fun _ _ _ h => h) (by rfl) (by rintro w' ⟨s0, s1, s2, s3, s4, s5, s6, s7, s8⟩; go_simp; with_reducible rfl) hHeld (by simp only [s0_, s1_, s2_, s3_, s4_, s5_]; rfl) ?_
            refine pu_ 29 46 (tk_ 42 1073741823) HT_.out rfl rfl (by kernel_rfl) (fun _ _ _ h => h) (by rfl) (fun w' => by go_simp; with_reducible rfl) (by simp only [s0_, s1_, s2_, s3_, s4_, s5_]; rfl) ?_
            refine pu_ 30 47 (tk_ 42 2147483647) HT_.out rfl rfl (by kernel_rfl) (fun _ _ _ h => h) (by rfl) (fun w' => by go_simp; with_reducible rfl) (by simp only [s0_, s1_, s2_, s3_, s4_, s5_]; rfl) ?_
            refine pu_ 31 48 (tk_ 42 4294967295) HT_.out rfl rfl (by kernel_rfl) (fun _ _ _ h => h) (by rfl) (fun w' => by go_simp; with_reducible rfl) (by simp only [s0_, s1_, s2_, s3_, s4_, s5_]; rfl) ?_
            refine sk_ 32 49 (tk_ 42 8589934591) HT_.out rfl rfl (by kernel_rfl) (fun _ _ _ h => h) (by rfl) (by simp only [s0_, s1_, s2_, s3_, s4_, s5_]; rfl) ?_
            refine sk_ 33 50 (tk_ 42 17179869183) HT_.out rfl rfl (by kernel_rfl) (fun _ _ _ h => h) (by rfl) (by simp only [s0_, s1_, s2_, s3_, s4_, s5_]; rfl) ?_
            refine sk_ 34 51 (tk_ 42 34359738367) HT_.out rfl rfl (by kernel_rfl) (fun _ _ _ h => h) (by rfl) (by simp only [s0_, s1_, s2_, s3_, s4_, s5_]; rfl) ?_
            refine sk_ 35 52 (tk_ 42 68719476735) HT_.out rfl rfl (by kernel_rfl) (fun _ _ _ h => h) (by rfl) (by simp only [s0_, s1_, s2_, s3_, s4_, s5_]; rfl) ?_
            refine sk_ 36 53 (tk_ 42 137438953471) HT_.out rfl rfl (by kernel_rfl) (fun _ _ _ h => h) (by rfl) (by simp only [s0_, s1_, s2_, s3_, s4_, s5_]; rfl) ?_
            refine sk_ 37 54 (tk_ 42 274877906943) HT_.out rfl rfl (by kernel_rfl) (fun _ _ _ h => h) (by rfl) (by simp only [s0_, s1_, s2_, s3_, s4_, s5_]; rfl) ?_
            refine sk_ 38 55 (tk_ 42 549755813887) HT_.out rfl rfl (by kernel_rfl) (fun _ _ _ h => h) (by rfl) (by simp only [s0_, s1_, s2_, s3_, s4_, s5_]; rfl) ?_
            refine sk_ 39 56 (tk_ 42 1099511627775) HT_.out rfl rfl (by kernel_rfl) (fun _ _ _ h => h) (by rfl) (by simp only [s0_, s1_, s2_, s3_, s4_, s5_]; rfl) ?_
            refine sk_ 40 57 (tk_ 42 2199023255551) HT_.out rfl rfl (by kernel_rfl) (fun _ _ _ h => h) (by rfl) (by simp only [s0_, s1_, s2_, s3_, s4_, s5_]; rfl) ?_
            refine pu_ 41 58 (tk_ 42 4398046511103) HT_.out rfl rfl (by kernel_rfl) (fun _ _ _ h => h) (by rfl) (fun w' => by go_simp; with_reducible rfl) (by simp only [s0_, s1_, s2_, s3_, s4_, s5_]; rfl) ?_
            refine done_ (done_of HT_.out (by kernel_rfl)) ?_
            try go_wp2
            go_ret
            exact ⟨by first | rfl | (simp [errW_none, errW_some] <;> rfl) | (simp only [← hji8]; first | rfl | (simp [errW_none, errW_some] <;> rfl)) | (simp [*, errW_none, errW_some] <;> rfl), by repeat (first | (with_reducible first | exact HB.out | apply below_alloc | apply pw_below_drewN | apply below_drew1 | refine below_set ?_ GE128.out | refine below_set ?_ GE130.out) | exact HB.out)⟩
           ·rw [if_neg c27] at H
            have c27b0 : decide (10000 < ((rd_T37 l0_1 x3_1).f1)) = false := decide_eq_false c27
            clear c27
            by_cases c35 : ((rd_T37 l0_1 x3_1).f2).toList = ([] : List UInt8)
            ·rw [if_pos c35] at H
             have c35b0 : (((rd_T37 l0_1 x3_1).f2).toList == ([] : List UInt8)) = true := beq_iff_eq.mpr c35
             have c35b1 : (((rd_T37 l0_1 x3_1).f2).toList != ([] : List UInt8)) = false := bne_eq_false_iff_eq.mpr c35
             clear c35
             have H' := Aside0.mk H
             clear H
             have hcz36_0 : wr.cell? ⟨gb128, 0, none⟩ = some (.bool a0_0) := (blk_cell BK128.out 0).trans rfl
             have hcz36_1 : wr.cell? ⟨gb128, 1, none⟩ = some (.slice A0_1 l0_1.length c0_1) := (blk_cell BK128.out 1).trans rfl
             have hcz36_2 : wr.cell? ⟨gb128, 2, none⟩ = some (.int .i64 a0_2) := (blk_cell BK128.out 2).trans rfl
             have hfz36_0 := blk_frozen BK128.out 0
             have hfz36_1 := blk_frozen BK128.out 1
             have hfz36_2 := blk_frozen BK128.out 2
             have p129 : 0 ≤ (x3_1 : Int) := of_decide_eq_true (by first | (with_reducible assumption) | assumption)
             have q129 : x3_1 < (l0_1.length : Int) := of_decide_eq_true (by first | (with_reducible assumption) | assumption)
             obtain ⟨ad129, e129, hx129_0, hx129_1, hx129_2⟩ := at_T37 HR0_1.out x3_1 p129 q129
             cases e129
             replace hx129_0 := (HB.out.cell (World.block_lt_of_cell? w _ hx129_0)).trans hx129_0
             replace hx129_1 := (HB.out.cell (World.block_lt_of_cell? w _ hx129_1)).trans hx129_1
             replace hx129_2 := (HB.out.cell (World.block_lt_of_cell? w _ hx129_2)).trans hx129_2
             replace p129 := eq_true p129
             replace q129 := eq_true q129
             try go_wp2_with (first | ((with_reducible refine gate_dst (N := 4) rfl ?_); (try (refine gate_guard (by rfl) ?_; dsimp only)); refine box_event ?hg (N := 4) ?hd (cs := #[.int .i64 0, .int .i64 0, .string (⟨#[]⟩ : ByteArray)]) (t := 37) ?hr ?_; (case hd => rfl); (case hg => rfl); (case hr => first | (go_simp; done) | (go_simp; rfl)); intro gb130 hg w37 hbox hb; have n0_ := Aside0.mk (blk_below (g := gb128) (o := .cells #[.bool a0_0, .slice (some ad129) l0_1.length c0_1, .int .i64 a0_2] 24 (0, 0)) (by (with_reducible repeat (first | refine blk_drewN ?_ _ | refine blk_drew ?_ | refine blk_alloc ?_ _)); exact BK128.out) hb); have n1_ := Aside0.mk (below_step (by repeat (first | (with_reducible first | exact HB.out | apply below_alloc | apply pw_below_drewN | apply below_drew1 | refine below_set ?_ GE128.out) | exact HB.out)) hb); have n2_ := Aside0.mk (hbox); have n3_ := Aside0.mk ((by rw [hg]; exact (below_size (by repeat (first | (with_reducible first | exact HB.out | apply below_alloc | apply pw_below_drewN | apply below_drew1 | refine below_set ?_ GE128.out) | exact HB.out))) : w.heap.size ≤ gb130)); have n4_ := Aside0.mk ((by rw [hg]; exact (below_size (by repeat (first | (with_reducible first | exact HB.out | apply below_alloc | apply pw_below_drewN | apply below_drew1 | refine below_set ?_ GE128.out) | exact HB.out))) : w.heap.size ≤ gb130)); have n5_ := Aside0.mk ((by rw [hg]; exact Nat.ne_of_lt (blk_lt (g := gb128) (o := .cells #[.bool a0_0, .slice (some ad129) l0_1.length c0_1, .int .i64 a0_2] 24 (0, 0)) (by (with_reducible repeat (first | refine blk_drewN ?_ _ | refine blk_drew ?_ | refine blk_alloc ?_ _)); exact BK128.out)) : gb128 ≠ gb130)); have n6_ := Aside0.mk ((by rw [hg]; exact Nat.ne_of_gt (blk_lt (g := gb128) (o := .cells #[.bool a0_0, .slice (some ad129) l0_1.length c0_1, .int .i64 a0_2] 24 (0, 0)) (by (with_reducible repeat (first | refine blk_drewN ?_ _ | refine blk_drew ?_ | refine blk_alloc ?_ _)); exact BK128.out)) : gb130 ≠ gb128)); clear BK128; clear HB; have BK128 := n0_; have HB := n1_; have BK130 := n2_; have GW130 := n3_; have GE130 := n4_; have NB128_130 := n5_; have NB130_128 := n6_; clear n0_ n1_ n2_ n3_ n4_ n5_ n6_; clear hb hbox hg; have hnb38 := NB130_128.out; have hnc38 := NB128_130.out; have hcz39_0 : w37.cell? ⟨gb130, 0, none⟩ = some (.int .i64 0) := (blk_cell BK130.out 0).trans rfl; have hcz39_1 : w37.cell? ⟨gb130, 1, none⟩ = some (.int .i64 0) := (blk_cell BK130.out 1).trans rfl; have hcz39_2 : w37.cell? ⟨gb130, 2, none⟩ = some (.string (⟨#[]⟩ : ByteArray)) := (blk_cell BK130.out 2).trans rfl; have hfz39_0 := blk_frozen BK130.out 0; have hfz39_1 := blk_frozen BK130.out 1; have hfz39_2 := blk_frozen BK130.out 2))
             have n0_ : Aside0 ((((w37.setCell ⟨gb130, 0, none⟩ (.int .i64 ((rd_T37 l0_1 x3_1).f0))).setCell ⟨gb130, 1, none⟩ (.int .i64 ((rd_T37 l0_1 x3_1).f1))).setCell ⟨gb130, 2, none⟩ (.string ((rd_T37 l0_1 x3_1).f2))).heap[gb128]? = some (.cells #[.bool a0_0, .slice (some ad129) l0_1.length c0_1, .int .i64 a0_2] 24 (0, 0))) := ⟨by (with_reducible repeat (first | refine blk_drewN ?_ _ | refine blk_drew ?_ | refine blk_alloc ?_ _)); refine blk_far ?_ NB128_130.out _; (with_reducible repeat (first | refine blk_drewN ?_ _ | refine blk_drew ?_ | refine blk_alloc ?_ _)); refine blk_far ?_ NB128_130.out _; (with_reducible repeat (first | refine blk_drewN ?_ _ | refine blk_drew ?_ | refine blk_alloc ?_ _)); refine blk_far ?_ NB128_130.out _; (with_reducible repeat (first | refine blk_drewN ?_ _ | refine blk_drew ?_ | refine blk_alloc ?_ _)); exact BK128.out⟩
             have n1_ : Aside0 ((((w37.setCell ⟨gb130, 0, none⟩ (.int .i64 ((rd_T37 l0_1 x3_1).f0))).setCell ⟨gb130, 1, none⟩ (.int .i64 ((rd_T37 l0_1 x3_1).f1))).setCell ⟨gb130, 2, none⟩ (.string ((rd_T37 l0_1 x3_1).f2))).heap[gb130]? = some (.cells #[.int .i64 ((rd_T37 l0_1 x3_1).f0), .int .i64 ((rd_T37 l0_1 x3_1).f1), .string ((rd_T37 l0_1 x3_1).f2)] 37 (0, 0))) := ⟨by (with_reducible repeat (first | refine blk_drewN ?_ _ | refine blk_drew ?_ | refine blk_alloc ?_ _)); refine blk_put (cs := #[.int .i64 ((rd_T37 l0_1 x3_1).f0), .int .i64 ((rd_T37 l0_1 x3_1).f1), .string (⟨#[]⟩ : ByteArray)]) ?_ 2 _ rfl; (with_reducible repeat (first | refine blk_drewN ?_ _ | refine blk_drew ?_ | refine blk_alloc ?_ _)); refine blk_put (cs := #[.int .i64 ((rd_T37 l0_1 x3_1).f0), .int .i64 0, .string (⟨#[]⟩ : ByteArray)]) ?_ 1 _ rfl; (with_reducible repeat (first | refine blk_drewN ?_ _ | refine blk_drew ?_ | refine blk_alloc ?_ _)); refine blk_put (cs := #[.int .i64 0, .int .i64 0, .string (⟨#[]⟩ : ByteArray)]) ?_ 0 _ rfl; (with_reducible repeat (first | refine blk_drewN ?_ _ | refine blk_drew ?_ | refine blk_alloc ?_ _)); exact BK130.out⟩
             have n2_ : Aside0 (Below w.heap.size w (((w37.setCell ⟨gb130, 0, none⟩ (.int .i64 ((rd_T37 l0_1 x3_1).f0))).setCell ⟨gb130, 1, none⟩ (.int .i64 ((rd_T37 l0_1 x3_1).f1))).setCell ⟨gb130, 2, none⟩ (.string ((rd_T37 l0_1 x3_1).f2)))) := ⟨by repeat (first | (with_reducible first | exact HB.out | apply below_alloc | apply pw_below_drewN | apply below_drew1 | refine below_set ?_ GE128.out | refine below_set ?_ GE130.out) | exact HB.out)⟩
             (try clear BK128)
             (try clear BK130)
             (try clear HB)
             generalize (((w37.setCell ⟨gb130, 0, none⟩ (.int .i64 ((rd_T37 l0_1 x3_1).f0))).setCell ⟨gb130, 1, none⟩ (.int .i64 ((rd_T37 l0_1 x3_1).f1))).setCell ⟨gb130, 2, none⟩ (.string ((rd_T37 l0_1 x3_1).f2))) = w40 at n0_ n1_ n2_ ⊢
             have BK128 := n0_
             have BK130 := n1_
             have HB := n2_
             clear n0_ n1_ n2_
             have n0_ := Aside0.mk (blk_drew BK128.out)
             have n1_ := Aside0.mk (blk_drew BK130.out)
             have n2_ := Aside0.mk (below_drew1 HB.out)
             clear BK128
             clear BK130
             clear HB
             have BK128 := n0_
             have BK130 := n1_
             have HB := n2_
             clear n0_ n1_ n2_
             have p132 : 0 ≤ ((ji8) : Int) := of_decide_eq_true (by first | (with_reducible assumption) | assumption)
             have q132 : (ji8) < (l0_1.length : Int) := of_decide_eq_true (by first | (with_reducible assumption) | assumption)
             obtain ⟨ad132, e132, hx132_0, hx132_1, hx132_2⟩ := at_T37 HR0_1.out (ji8) p132 q132
             have hw132_2 := hx132_2
             have hw132_1 := hx132_1
             have hw132_0 := hx132_0
             obtain rfl : ad129 = ad132 := (by injection e132)
             replace hx132_0 := (HB.out.cell (World.block_lt_of_cell? w _ hx132_0)).trans hx132_0
             replace hx132_1 := (HB.out.cell (World.block_lt_of_cell? w _ hx132_1)).trans hx132_1
             replace hx132_2 := (HB.out.cell (World.block_lt_of_cell? w _ hx132_2)).trans hx132_2
             replace p132 := eq_true p132
             replace q132 := eq_true q132
             refine start_ (n := 42) (S := fun w' => w'.cell? ⟨gb128, 0, none⟩ = some (.bool a0_0) ∧ w'.cell? ⟨gb128, 1, none⟩ = some (.slice (some ad129) l0_1.length c0_1) ∧ w'.cell? ⟨gb128, 2, none⟩ = some (.int .i64 a0_2) ∧ w'.cell? ⟨gb130, 0, none⟩ = some (.int .i64 ((rd_T37 l0_1 x3_1).f0)) ∧ w'.cell? ⟨gb130, 1, none⟩ = some (.int .i64 ((rd_T37 l0_1 x3_1).f1)) ∧ w'.cell? ⟨gb130, 2, none⟩ = some (.string ((rd_T37 l0_1 x3_1).f2)) ∧ w'.cell? (ad129.add (((ji8)).toNat * 3)) = some (.int .i64 ((rd_T37 l0_1 (ji8)).f0)) ∧ w'.cell? ⟨(ad129.add (((ji8)).toNat * 3)).block, (ad129.add (((ji8)).toNat * 3)).off + 1, none⟩ = some (.int .i64 ((rd_T37 l0_1 (ji8)).f1)) ∧ w'.cell? ⟨(ad129.add (((ji8)).toNat * 3)).block, (ad129.add (((ji8)).toNat * 3)).off + 2, none⟩ = some (.string ((rd_T37 l0_1 (ji8)).f2))) (ds := []) (tk_ 42 0) (by kernel_rfl) rfl (by kernel_rfl) ⟨(blk_cell BK128.out 0).trans rfl, (blk_cell BK128.out 1).trans rfl, (blk_cell BK128.out 2).trans rfl, (blk_cell BK130.out 0).trans rfl, (blk_cell BK130.out 1).trans rfl, (blk_cell BK130.out 2).trans rfl, ((HB.out.cell (World.block_lt_of_cell? w _ hw132_0)).trans hw132_0), ((HB.out.cell (World.block_lt_of_cell? w _ hw132_1)).trans hw132_1), ((HB.out.cell (World.block_lt_of_cell? w _ hw132_2)).trans hw132_2)⟩ (fun hHeld => ?_); refine with_tabW erasureref19_Right.tab5 erasureref19_Right.bits5 (fun HT_ HW_ => ?_)
             generalize w40.drew = w41 at BK128 BK130 HB hx132_0 hx132_1 hx132_2 hHeld ⊢
             refine pu_ 1 18 (tk_ 42 2) HT_.out rfl rfl (by kernel_rfl) (fun _ _ _ h => h) (by rfl) (fun w' => by go_simp; with_reducible rfl) (by simp only [s0_, s1_, s2_, s3_, s4_, s5_]; rfl) ?_
             refine ta_ 0 17 (tk_ 42 3) HT_.out HW_.out rfl rfl (by kernel_rfl) (fun _ _ _ h => h) (by rfl) (by rintro w' ⟨s0, s1, s2, s3, s4, s5, s6, s7, s8⟩; go_simp; with_reducible rfl) hHeld (by simp only [s0_, s1_, s2_, s3_, s4_, s5_]; rfl) ?_
             refine ta_ 2 19 (tk_ 42 7) HT_.out HW_.out rfl rfl (by kernel_rfl) (fun _ _ _ h => h) (by rfl) (by rintro w' ⟨s0, s1, s2, s3, s4, s5, s6, s7, s8⟩; go_simp; with_reducible rfl) hHeld (by simp only [s0_, s1_, s2_, s3_, s4_, s5_]; rfl) ?_
             refine one_ (i := 3) (N := some 20) (tk_ 42 15) rfl rfl (one_of HT_.out (by kernel_rfl)) (by decide) (fun K hK => ?_)
             refine goes_ Try.func34 (by kernel_rfl) rfl #[.agg #[.bool a0_0, .slice (some ad129) l0_1.length c0_1, .int .i64 a0_2], .int .i64 ((rd_T37 l0_1 x3_1).f0)] (by rfl) rfl rfl (by (try simp only [List.map_toArray, List.map_cons, List.map_nil]); first | done | rfl | (simp only [List.length_drop, List.length_take]; rfl)) ?_
             with_reducible refine (erasureref19_code.calls a0_0 _ _ l0_1 a0_2 ((rd_T37 l0_1 x3_1).f0) true _ ?side1 ?side2 A5.out).mono ?_
             (case side1 => repeat (first | exact (Kd.C_below HR0_1.out HB.out) | (with_reducible refine Kd.C_alloc ?_ _) | (with_reducible refine Kd.C_drewN ?_ _) | (with_reducible refine Kd.C_drew ?_)))
             (case side2 => exact HC0_1.out)
             rintro e w42 ⟨rfl, hb⟩
             refine ⟨_, rfl, ?_⟩
             have n0_ := Aside0.mk (blk_below (g := gb128) (o := .cells #[.bool a0_0, .slice (some ad129) l0_1.length c0_1, .int .i64 a0_2] 24 (0, 0)) (by (with_reducible repeat (first | refine blk_drewN ?_ _ | refine blk_drew ?_ | refine blk_alloc ?_ _)); exact BK128.out) hb)
             have n1_ := Aside0.mk (blk_below (g := gb130) (o := .cells #[.int .i64 ((rd_T37 l0_1 x3_1).f0), .int .i64 ((rd_T37 l0_1 x3_1).f1), .string ((rd_T37 l0_1 x3_1).f2)] 37 (0, 0)) (by (with_reducible repeat (first | refine blk_drewN ?_ _ | refine blk_drew ?_ | refine blk_alloc ?_ _)); exact BK130.out) hb)
             have n2_ := Aside0.mk (below_step (by repeat (first | (with_reducible first | exact HB.out | apply below_alloc | apply pw_below_drewN | apply below_drew1 | refine below_set ?_ GE128.out | refine below_set ?_ GE130.out) | exact HB.out)) hb)
             clear BK128
             clear BK130
             clear HB
             have BK128 := n0_
             have BK130 := n1_
             have HB := n2_
             clear n0_ n1_ n2_
             (try clear hb)
             (try clear hb2)
             (try clear hk)
             (try clear hi)
             refine hK.out _ _ ⟨(blk_cell BK128.out 0).trans rfl, (blk_cell BK128.out 1).trans rfl, (blk_cell BK128.out 2).trans rfl, (blk_cell BK130.out 0).trans rfl, (blk_cell BK130.out 1).trans rfl, (blk_cell BK130.out 2).trans rfl, ((HB.out.cell (World.block_lt_of_cell? w _ hw132_0)).trans hw132_0), ((HB.out.cell (World.block_lt_of_cell? w _ hw132_1)).trans hw132_1), ((HB.out.cell (World.block_lt_of_cell? w _ hw132_2)).trans hw132_2)⟩ (fun hHeld => ?_)
             clear hK K
             refine norm_ (by show Act.put _ (some 20) _ = _; simp only [s0_, s1_, s2_, s3_, s4_, s5_]; rfl) ?_
             refine pu_ 4 21 (tk_ 42 31) HT_.out rfl rfl (by kernel_rfl) (fun _ _ _ h => h) (by rfl) (fun w' => by go_simp; with_reducible rfl) (by simp only [s0_, s1_, s2_, s3_, s4_, s5_]; rfl) ?_
             refine pu_ 5 22 (tk_ 42 63) HT_.out rfl rfl (by kernel_rfl) (fun _ _ _ h => h) (by rfl) (fun w' => by go_simp; with_reducible rfl) (by simp only [s0_, s1_, s2_, s3_, s4_, s5_]; rfl) ?_
             refine pu_ 6 23 (tk_ 42 127) HT_.out rfl rfl (by kernel_rfl) (fun _ _ _ h => h) (by rfl) (fun w' => by go_simp; with_reducible rfl) (by simp only [s0_, s1_, s2_, s3_, s4_, s5_]; rfl) ?_
             refine pu_ 7 24 (tk_ 42 255) HT_.out rfl rfl (by kernel_rfl) (fun _ _ _ h => h) (by rfl) (fun w' => by go_simp; with_reducible rfl) (by simp only [s0_, s1_, s2_, s3_, s4_, s5_]; rfl) ?_
             refine pu_ 8 25 (tk_ 42 511) HT_.out rfl rfl (by kernel_rfl) (fun _ _ _ h => h) (by rfl) (fun w' => by go_simp; with_reducible rfl) (by simp only [s0_, s1_, s2_, s3_, s4_, s5_]; rfl) ?_
             refine pu_ 9 26 (tk_ 42 1023) HT_.out rfl rfl (by kernel_rfl) (fun _ _ _ h => h) (by rfl) (fun w' => by go_simp; with_reducible rfl) (by simp only [s0_, s1_, s2_, s3_, s4_, s5_]; rfl) ?_
             refine pu_ 11 28 (tk_ 42 3071) HT_.out rfl rfl (by kernel_rfl) (fun _ _ _ h => h) (by rfl) (fun w' => by go_simp; with_reducible rfl) (by simp only [s0_, s1_, s2_, s3_, s4_, s5_]; rfl) ?_
             refine pu_ 12 29 (tk_ 42 7167) HT_.out rfl rfl (by kernel_rfl) (fun _ _ _ h => h) (by rfl) (fun w' => by go_simp; with_reducible rfl) (by simp only [s0_, s1_, s2_, s3_, s4_, s5_]; rfl) ?_
             refine pu_ 16 33 (tk_ 42 72703) HT_.out rfl rfl (by kernel_rfl) (fun _ _ _ h => h) (by rfl) (fun w' => by go_simp; with_reducible rfl) (by simp only [s0_, s1_, s2_, s3_, s4_, s5_]; rfl) ?_
             refine ta_ 10 27 (tk_ 42 73727) HT_.out HW_.out rfl rfl (by kernel_rfl) (fun _ _ _ h => h) (by rfl) (by rintro w' ⟨s0, s1, s2, s3, s4, s5, s6, s7, s8⟩; go_simp; with_reducible rfl) hHeld (by simp only [s0_, s1_, s2_, s3_, s4_, s5_]; rfl) ?_
             refine pu_ 13 30 (tk_ 42 81919) HT_.out rfl rfl (by kernel_rfl) (fun _ _ _ h => h) (by rfl) (fun w' => by go_simp; with_reducible rfl) (by simp only [s0_, s1_, s2_, s3_, s4_, s5_]; rfl) ?_
             refine pu_ 14 31 (tk_ 42 98303) HT_.out rfl rfl (by kernel_rfl) (fun _ _ _ h => h) (by rfl) (fun w' => by go_simp; with_reducible rfl) (by simp only [s0_, s1_, s2_, s3_, s4_, s5_]; rfl) ?_
             refine ta_ 15 32 (tk_ 42 131071) HT_.out HW_.out rfl rfl (by kernel_rfl) (fun _ _ _ h => h) (by rfl) (by rintro w' ⟨s0, s1, s2, s3, s4, s5, s6, s7, s8⟩; go_simp; with_reducible rfl) hHeld (by simp only [s0_, s1_, s2_, s3_, s4_, s5_]; rfl) ?_
             refine ta_ 17 34 (tk_ 42 262143) HT_.out HW_.out rfl rfl (by kernel_rfl) (fun _ _ _ h => h) (by rfl) (by rintro w' ⟨s0, s1, s2, s3, s4, s5, s6, s7, s8⟩; go_simp; with_reducible rfl) hHeld (by simp only [s0_, s1_, s2_, s3_, s4_, s5_]; rfl) ?_
             refine pu_ 18 35 (tk_ 42 524287) HT_.out rfl rfl (by kernel_rfl) (fun _ _ _ h => h) (by rfl) (fun w' => by go_simp; with_reducible rfl) (by simp only [s0_, s1_, s2_, s3_, s4_, s5_]; rfl) ?_
             refine pu_ 19 36 (tk_ 42 1048575) HT_.out rfl rfl (by kernel_rfl) (fun _ _ _ h => h) (by rfl) (fun w' => by go_simp; with_reducible rfl) (by simp only [s0_, s1_, s2_, s3_, s4_, s5_]; rfl) ?_
             refine pu_ 20 37 (tk_ 42 2097151) HT_.out rfl rfl (by kernel_rfl) (fun _ _ _ h => h) (by rfl) (fun w' => by go_simp; with_reducible rfl) (by simp only [s0_, s1_, s2_, s3_, s4_, s5_]; rfl) ?_
             refine pu_ 21 38 (tk_ 42 4194303) HT_.out rfl rfl (by kernel_rfl) (fun _ _ _ h => h) (by rfl) (fun w' => by go_simp; with_reducible rfl) (by simp only [s0_, s1_, s2_, s3_, s4_, s5_]; rfl) ?_
             refine pu_ 22 39 (tk_ 42 8388607) HT_.out rfl rfl (by kernel_rfl) (fun _ _ _ h => h) (by rfl) (fun w' => by go_simp; with_reducible rfl) (by simp only [s0_, s1_, s2_, s3_, s4_, s5_]; rfl) ?_
             refine ta_ 23 40 (tk_ 42 16777215) HT_.out HW_.out rfl rfl (by kernel_rfl) (fun _ _ _ h => h) (by rfl) (by rintro w' ⟨s0, s1, s2, s3, s4, s5, s6, s7, s8⟩; go_simp; with_reducible rfl) hHeld (by simp only [s0_, s1_, s2_, s3_, s4_, s5_]; rfl) ?_
             refine pu_ 24 41 (tk_ 42 33554431) HT_.out rfl rfl (by kernel_rfl) (fun _ _ _ h => h) (by rfl) (fun w' => by go_simp; with_reducible rfl) (by simp only [s0_, s1_, s2_, s3_, s4_, s5_]; rfl) ?_
             refine pu_ 25 42 (tk_ 42 67108863) HT_.out rfl rfl (by kernel_rfl) (fun _ _ _ h => h) (by rfl) (fun w' => by go_simp; with_reducible rfl) (by simp only [s0_, s1_, s2_, s3_, s4_, s5_]; rfl) ?_
             refine pu_ 26 43 (tk_ 42 134217727) HT_.out rfl rfl (by kernel_rfl) (fun _ _ _ h => h) (by rfl) (fun w' => by go_simp; with_reducible rfl) (by simp only [s0_, s1_, s2_, s3_, s4_, s5_]; rfl) ?_
             refine pu_ 27 44 (tk_ 42 268435455) HT_.out rfl rfl (by kernel_rfl) (fun _ _ _ h => h) (by rfl) (fun w' => by go_simp; with_reducible rfl) (by simp only [s0_, s1_, s2_, s3_, s4_, s5_]; rfl) ?_
             refine ta_ 28 45 (tk_ 42 536870911) HT_.out HW_.out rfl rfl (by kernel_rfl) (fun _ _ _ h => h) (by rfl) (by rintro w' ⟨s0, s1, s2, s3, s4, s5, s6, s7, s8⟩; go_simp; with_reducible rfl) hHeld (by simp only [s0_, s1_, s2_, s3_, s4_, s5_]; rfl) ?_
             refine pu_ 29 46 (tk_ 42 1073741823) HT_.out rfl rfl (by kernel_rfl) (fun _ _ _ h => h) (by rfl) (fun w' => by go_simp; with_reducible rfl) (by simp only [s0_, s1_, s2_, s3_, s4_, s5_]; rfl) ?_
             refine pu_ 30 47 (tk_ 42 2147483647) HT_.out rfl rfl (by kernel_rfl) (fun _ _ _ h => h) (by rfl) (fun w' => by go_simp; with_reducible rfl) (by simp only [s0_, s1_, s2_, s3_, s4_, s5_]; rfl) ?_
             refine pu_ 31 48 (tk_ 42 4294967295) HT_.out rfl rfl (by kernel_rfl) (fun _ _ _ h => h) (by rfl) (fun w' => by go_simp; with_reducible rfl) (by simp only [s0_, s1_, s2_, s3_, s4_, s5_]; rfl) ?_
             refine pu_ 32 49 (tk_ 42 8589934591) HT_.out rfl rfl (by kernel_rfl) (fun _ _ _ h => h) (by rfl) (fun w' => by go_simp; with_reducible rfl) (by simp only [s0_, s1_, s2_, s3_, s4_, s5_]; rfl) ?_
             refine ta_ 33 50 (tk_ 42 17179869183) HT_.out HW_.out rfl rfl (by kernel_rfl) (fun _ _ _ h => h) (by rfl) (by rintro w' ⟨s0, s1, s2, s3, s4, s5, s6, s7, s8⟩; go_simp; with_reducible rfl) hHeld (by simp only [s0_, s1_, s2_, s3_, s4_, s5_]; rfl) ?_
             refine pu_ 34 51 (tk_ 42 34359738367) HT_.out rfl rfl (by kernel_rfl) (fun _ _ _ h => h) (by rfl) (fun w' => by go_simp; with_reducible rfl) (by simp only [s0_, s1_, s2_, s3_, s4_, s5_]; rfl) ?_
             refine pu_ 35 52 (tk_ 42 68719476735) HT_.out rfl rfl (by kernel_rfl) (fun _ _ _ h => h) (by rfl) (fun w' => by go_simp; with_reducible rfl) (by simp only [s0_, s1_, s2_, s3_, s4_, s5_]; rfl) ?_
             refine sk_ 36 53 (tk_ 42 137438953471) HT_.out rfl rfl (by kernel_rfl) (fun _ _ _ h => h) (by rfl) (by simp only [s0_, s1_, s2_, s3_, s4_, s5_]; rfl) ?_
             refine sk_ 37 54 (tk_ 42 274877906943) HT_.out rfl rfl (by kernel_rfl) (fun _ _ _ h => h) (by rfl) (by simp only [s0_, s1_, s2_, s3_, s4_, s5_]; rfl) ?_
             refine sk_ 38 55 (tk_ 42 549755813887) HT_.out rfl rfl (by kernel_rfl) (fun _ _ _ h => h) (by rfl) (by simp only [s0_, s1_, s2_, s3_, s4_, s5_]; rfl) ?_
             refine sk_ 39 56 (tk_ 42 1099511627775) HT_.out rfl rfl (by kernel_rfl) (fun _ _ _ h => h) (by rfl) (by simp only [s0_, s1_, s2_, s3_, s4_, s5_]; rfl) ?_
             refine pu_ 40 57 (tk_ 42 2199023255551) HT_.out rfl rfl (by kernel_rfl) (fun _ _ _ h => h) (by rfl) (fun w' => by go_simp; with_reducible rfl) (by simp only [s0_, s1_, s2_, s3_, s4_, s5_]; rfl) ?_
             refine pu_ 41 58 (tk_ 42 4398046511103) HT_.out rfl rfl (by kernel_rfl) (fun _ _ _ h => h) (by rfl) (fun w' => by go_simp; with_reducible rfl) (by simp only [s0_, s1_, s2_, s3_, s4_, s5_]; rfl) ?_
             refine done_ (done_of HT_.out (by kernel_rfl)) ?_
             try go_wp2
             go_roundg k1
             case measure => have := HK1.out; omega
             case rel => exact ⟨(wrap64 (x3_1 + 1)), (by first | rfl | (simp; done) | (simp [*]; done)), H', ⟨by have := HK1.out; omega⟩, ⟨by (with_reducible repeat (first | refine blk_drewN ?_ _ | refine blk_drew ?_ | refine blk_alloc ?_ _)); exact BK128.out⟩, ⟨by repeat (first | (with_reducible first | exact HB.out | apply below_alloc | apply pw_below_drewN | apply below_drew1 | refine below_set ?_ GE128.out | refine below_set ?_ GE130.out) | exact HB.out)⟩⟩
            ·rw [if_neg c35] at H
             have c35b0 : (((rd_T37 l0_1 x3_1).f2).toList == ([] : List UInt8)) = false := beq_eq_false_iff_ne.mpr c35
             have c35b1 : (((rd_T37 l0_1 x3_1).f2).toList != ([] : List UInt8)) = true := bne_iff_ne.mpr c35
             replace H := Option.bind_eq_some_iff.mp H
             obtain ⟨t133, A430, H⟩ := H
             replace H : (if t133 = true then (erasureref19_Right.l0 k1 (wrap64 (x3_1 + 1)) a0_0 l0_1 a0_2) else (some false)) = some r := H
             have A43 := Aside0.mk A430
             clear A430
             by_cases c44 : t133 = true
             ·subst c44
              have H1 : (erasureref19_Right.l0 k1 (wrap64 (x3_1 + 1)) a0_0 l0_1 a0_2) = some r := by rw [if_pos rfl] at H; exact H
              clear H
              have H := H1
              clear H1
              have H' := Aside0.mk H
              clear H
              have hcz45_0 : wr.cell? ⟨gb128, 0, none⟩ = some (.bool a0_0) := (blk_cell BK128.out 0).trans rfl
              have hcz45_1 : wr.cell? ⟨gb128, 1, none⟩ = some (.slice A0_1 l0_1.length c0_1) := (blk_cell BK128.out 1).trans rfl
              have hcz45_2 : wr.cell? ⟨gb128, 2, none⟩ = some (.int .i64 a0_2) := (blk_cell BK128.out 2).trans rfl
              have hfz45_0 := blk_frozen BK128.out 0
              have hfz45_1 := blk_frozen BK128.out 1
              have hfz45_2 := blk_frozen BK128.out 2
              have p129 : 0 ≤ (x3_1 : Int) := of_decide_eq_true (by first | (with_reducible assumption) | assumption)
              have q129 : x3_1 < (l0_1.length : Int) := of_decide_eq_true (by first | (with_reducible assumption) | assumption)
              obtain ⟨ad129, e129, hx129_0, hx129_1, hx129_2⟩ := at_T37 HR0_1.out x3_1 p129 q129
              cases e129
              replace hx129_0 := (HB.out.cell (World.block_lt_of_cell? w _ hx129_0)).trans hx129_0
              replace hx129_1 := (HB.out.cell (World.block_lt_of_cell? w _ hx129_1)).trans hx129_1
              replace hx129_2 := (HB.out.cell (World.block_lt_of_cell? w _ hx129_2)).trans hx129_2
              replace p129 := eq_true p129
              replace q129 := eq_true q129
              try go_wp2_with (first | ((with_reducible refine gate_dst (N := 4) rfl ?_); (try (refine gate_guard (by rfl) ?_; dsimp only)); refine box_event ?hg (N := 4) ?hd (cs := #[.int .i64 0, .int .i64 0, .string (⟨#[]⟩ : ByteArray)]) (t := 37) ?hr ?_; (case hd => rfl); (case hg => rfl); (case hr => first | (go_simp; done) | (go_simp; rfl)); intro gb130 hg w46 hbox hb; have n0_ := Aside0.mk (blk_below (g := gb128) (o := .cells #[.bool a0_0, .slice (some ad129) l0_1.length c0_1, .int .i64 a0_2] 24 (0, 0)) (by (with_reducible repeat (first | refine blk_drewN ?_ _ | refine blk_drew ?_ | refine blk_alloc ?_ _)); exact BK128.out) hb); have n1_ := Aside0.mk (below_step (by repeat (first | (with_reducible first | exact HB.out | apply below_alloc | apply pw_below_drewN | apply below_drew1 | refine below_set ?_ GE128.out) | exact HB.out)) hb); have n2_ := Aside0.mk (hbox); have n3_ := Aside0.mk ((by rw [hg]; exact (below_size (by repeat (first | (with_reducible first | exact HB.out | apply below_alloc | apply pw_below_drewN | apply below_drew1 | refine below_set ?_ GE128.out) | exact HB.out))) : w.heap.size ≤ gb130)); have n4_ := Aside0.mk ((by rw [hg]; exact (below_size (by repeat (first | (with_reducible first | exact HB.out | apply below_alloc | apply pw_below_drewN | apply below_drew1 | refine below_set ?_ GE128.out) | exact HB.out))) : w.heap.size ≤ gb130)); have n5_ := Aside0.mk ((by rw [hg]; exact Nat.ne_of_lt (blk_lt (g := gb128) (o := .cells #[.bool a0_0, .slice (some ad129) l0_1.length c0_1, .int .i64 a0_2] 24 (0, 0)) (by (with_reducible repeat (first | refine blk_drewN ?_ _ | refine blk_drew ?_ | refine blk_alloc ?_ _)); exact BK128.out)) : gb128 ≠ gb130)); have n6_ := Aside0.mk ((by rw [hg]; exact Nat.ne_of_gt (blk_lt (g := gb128) (o := .cells #[.bool a0_0, .slice (some ad129) l0_1.length c0_1, .int .i64 a0_2] 24 (0, 0)) (by (with_reducible repeat (first | refine blk_drewN ?_ _ | refine blk_drew ?_ | refine blk_alloc ?_ _)); exact BK128.out)) : gb130 ≠ gb128)); clear BK128; clear HB; have BK128 := n0_; have HB := n1_; have BK130 := n2_; have GW130 := n3_; have GE130 := n4_; have NB128_130 := n5_; have NB130_128 := n6_; clear n0_ n1_ n2_ n3_ n4_ n5_ n6_; clear hb hbox hg; have hnb47 := NB130_128.out; have hnc47 := NB128_130.out; have hcz48_0 : w46.cell? ⟨gb130, 0, none⟩ = some (.int .i64 0) := (blk_cell BK130.out 0).trans rfl; have hcz48_1 : w46.cell? ⟨gb130, 1, none⟩ = some (.int .i64 0) := (blk_cell BK130.out 1).trans rfl; have hcz48_2 : w46.cell? ⟨gb130, 2, none⟩ = some (.string (⟨#[]⟩ : ByteArray)) := (blk_cell BK130.out 2).trans rfl; have hfz48_0 := blk_frozen BK130.out 0; have hfz48_1 := blk_frozen BK130.out 1; have hfz48_2 := blk_frozen BK130.out 2))
              have n0_ : Aside0 ((((w46.setCell ⟨gb130, 0, none⟩ (.int .i64 ((rd_T37 l0_1 x3_1).f0))).setCell ⟨gb130, 1, none⟩ (.int .i64 ((rd_T37 l0_1 x3_1).f1))).setCell ⟨gb130, 2, none⟩ (.string ((rd_T37 l0_1 x3_1).f2))).heap[gb128]? = some (.cells #[.bool a0_0, .slice (some ad129) l0_1.length c0_1, .int .i64 a0_2] 24 (0, 0))) := ⟨by (with_reducible repeat (first | refine blk_drewN ?_ _ | refine blk_drew ?_ | refine blk_alloc ?_ _)); refine blk_far ?_ NB128_130.out _; (with_reducible repeat (first | refine blk_drewN ?_ _ | refine blk_drew ?_ | refine blk_alloc ?_ _)); refine blk_far ?_ NB128_130.out _; (with_reducible repeat (first | refine blk_drewN ?_ _ | refine blk_drew ?_ | refine blk_alloc ?_ _)); refine blk_far ?_ NB128_130.out _; (with_reducible repeat (first | refine blk_drewN ?_ _ | refine blk_drew ?_ | refine blk_alloc ?_ _)); exact BK128.out⟩
              have n1_ : Aside0 ((((w46.setCell ⟨gb130, 0, none⟩ (.int .i64 ((rd_T37 l0_1 x3_1).f0))).setCell ⟨gb130, 1, none⟩ (.int .i64 ((rd_T37 l0_1 x3_1).f1))).setCell ⟨gb130, 2, none⟩ (.string ((rd_T37 l0_1 x3_1).f2))).heap[gb130]? = some (.cells #[.int .i64 ((rd_T37 l0_1 x3_1).f0), .int .i64 ((rd_T37 l0_1 x3_1).f1), .string ((rd_T37 l0_1 x3_1).f2)] 37 (0, 0))) := ⟨by (with_reducible repeat (first | refine blk_drewN ?_ _ | refine blk_drew ?_ | refine blk_alloc ?_ _)); refine blk_put (cs := #[.int .i64 ((rd_T37 l0_1 x3_1).f0), .int .i64 ((rd_T37 l0_1 x3_1).f1), .string (⟨#[]⟩ : ByteArray)]) ?_ 2 _ rfl; (with_reducible repeat (first | refine blk_drewN ?_ _ | refine blk_drew ?_ | refine blk_alloc ?_ _)); refine blk_put (cs := #[.int .i64 ((rd_T37 l0_1 x3_1).f0), .int .i64 0, .string (⟨#[]⟩ : ByteArray)]) ?_ 1 _ rfl; (with_reducible repeat (first | refine blk_drewN ?_ _ | refine blk_drew ?_ | refine blk_alloc ?_ _)); refine blk_put (cs := #[.int .i64 0, .int .i64 0, .string (⟨#[]⟩ : ByteArray)]) ?_ 0 _ rfl; (with_reducible repeat (first | refine blk_drewN ?_ _ | refine blk_drew ?_ | refine blk_alloc ?_ _)); exact BK130.out⟩
              have n2_ : Aside0 (Below w.heap.size w (((w46.setCell ⟨gb130, 0, none⟩ (.int .i64 ((rd_T37 l0_1 x3_1).f0))).setCell ⟨gb130, 1, none⟩ (.int .i64 ((rd_T37 l0_1 x3_1).f1))).setCell ⟨gb130, 2, none⟩ (.string ((rd_T37 l0_1 x3_1).f2)))) := ⟨by repeat (first | (with_reducible first | exact HB.out | apply below_alloc | apply pw_below_drewN | apply below_drew1 | refine below_set ?_ GE128.out | refine below_set ?_ GE130.out) | exact HB.out)⟩
              (try clear BK128)
              (try clear BK130)
              (try clear HB)
              generalize (((w46.setCell ⟨gb130, 0, none⟩ (.int .i64 ((rd_T37 l0_1 x3_1).f0))).setCell ⟨gb130, 1, none⟩ (.int .i64 ((rd_T37 l0_1 x3_1).f1))).setCell ⟨gb130, 2, none⟩ (.string ((rd_T37 l0_1 x3_1).f2))) = w49 at n0_ n1_ n2_ ⊢
              have BK128 := n0_
              have BK130 := n1_
              have HB := n2_
              clear n0_ n1_ n2_
              have n0_ := Aside0.mk (blk_drew BK128.out)
              have n1_ := Aside0.mk (blk_drew BK130.out)
              have n2_ := Aside0.mk (below_drew1 HB.out)
              clear BK128
              clear BK130
              clear HB
              have BK128 := n0_
              have BK130 := n1_
              have HB := n2_
              clear n0_ n1_ n2_
              have p132 : 0 ≤ ((ji8) : Int) := of_decide_eq_true (by first | (with_reducible assumption) | assumption)
              have q132 : (ji8) < (l0_1.length : Int) := of_decide_eq_true (by first | (with_reducible assumption) | assumption)
              obtain ⟨ad132, e132, hx132_0, hx132_1, hx132_2⟩ := at_T37 HR0_1.out (ji8) p132 q132
              have hw132_2 := hx132_2
              have hw132_1 := hx132_1
              have hw132_0 := hx132_0
              obtain rfl : ad129 = ad132 := (by injection e132)
              replace hx132_0 := (HB.out.cell (World.block_lt_of_cell? w _ hx132_0)).trans hx132_0
              replace hx132_1 := (HB.out.cell (World.block_lt_of_cell? w _ hx132_1)).trans hx132_1
              replace hx132_2 := (HB.out.cell (World.block_lt_of_cell? w _ hx132_2)).trans hx132_2
              replace p132 := eq_true p132
              replace q132 := eq_true q132
              refine start_ (n := 42) (S := fun w' => w'.cell? ⟨gb128, 0, none⟩ = some (.bool a0_0) ∧ w'.cell? ⟨gb128, 1, none⟩ = some (.slice (some ad129) l0_1.length c0_1) ∧ w'.cell? ⟨gb128, 2, none⟩ = some (.int .i64 a0_2) ∧ w'.cell? ⟨gb130, 0, none⟩ = some (.int .i64 ((rd_T37 l0_1 x3_1).f0)) ∧ w'.cell? ⟨gb130, 1, none⟩ = some (.int .i64 ((rd_T37 l0_1 x3_1).f1)) ∧ w'.cell? ⟨gb130, 2, none⟩ = some (.string ((rd_T37 l0_1 x3_1).f2)) ∧ w'.cell? (ad129.add (((ji8)).toNat * 3)) = some (.int .i64 ((rd_T37 l0_1 (ji8)).f0)) ∧ w'.cell? ⟨(ad129.add (((ji8)).toNat * 3)).block, (ad129.add (((ji8)).toNat * 3)).off + 1, none⟩ = some (.int .i64 ((rd_T37 l0_1 (ji8)).f1)) ∧ w'.cell? ⟨(ad129.add (((ji8)).toNat * 3)).block, (ad129.add (((ji8)).toNat * 3)).off + 2, none⟩ = some (.string ((rd_T37 l0_1 (ji8)).f2))) (ds := []) (tk_ 42 0) (by kernel_rfl) rfl (by kernel_rfl) ⟨(blk_cell BK128.out 0).trans rfl, (blk_cell BK128.out 1).trans rfl, (blk_cell BK128.out 2).trans rfl, (blk_cell BK130.out 0).trans rfl, (blk_cell BK130.out 1).trans rfl, (blk_cell BK130.out 2).trans rfl, ((HB.out.cell (World.block_lt_of_cell? w _ hw132_0)).trans hw132_0), ((HB.out.cell (World.block_lt_of_cell? w _ hw132_1)).trans hw132_1), ((HB.out.cell (World.block_lt_of_cell? w _ hw132_2)).trans hw132_2)⟩ (fun hHeld => ?_); refine with_tabW erasureref19_Right.tab5 erasureref19_Right.bits5 (fun HT_ HW_ => ?_)
              generalize w49.drew = w50 at BK128 BK130 HB hx132_0 hx132_1 hx132_2 hHeld ⊢
              refine pu_ 1 18 (tk_ 42 2) HT_.out rfl rfl (by kernel_rfl) (fun _ _ _ h => h) (by rfl) (fun w' => by go_simp; with_reducible rfl) (by simp only [s0_, s1_, s2_, s3_, s4_, s5_]; rfl) ?_
              refine ta_ 0 17 (tk_ 42 3) HT_.out HW_.out rfl rfl (by kernel_rfl) (fun _ _ _ h => h) (by rfl) (by rintro w' ⟨s0, s1, s2, s3, s4, s5, s6, s7, s8⟩; go_simp; with_reducible rfl) hHeld (by simp only [s0_, s1_, s2_, s3_, s4_, s5_]; rfl) ?_
              refine ta_ 2 19 (tk_ 42 7) HT_.out HW_.out rfl rfl (by kernel_rfl) (fun _ _ _ h => h) (by rfl) (by rintro w' ⟨s0, s1, s2, s3, s4, s5, s6, s7, s8⟩; go_simp; with_reducible rfl) hHeld (by simp only [s0_, s1_, s2_, s3_, s4_, s5_]; rfl) ?_
              refine one_ (i := 3) (N := some 20) (tk_ 42 15) rfl rfl (one_of HT_.out (by kernel_rfl)) (by decide) (fun K hK => ?_)
              refine goes_ Try.func34 (by kernel_rfl) rfl #[.agg #[.bool a0_0, .slice (some ad129) l0_1.length c0_1, .int .i64 a0_2], .int .i64 ((rd_T37 l0_1 x3_1).f0)] (by rfl) rfl rfl (by (try simp only [List.map_toArray, List.map_cons, List.map_nil]); first | done | rfl | (simp only [List.length_drop, List.length_take]; rfl)) ?_
              with_reducible refine (erasureref19_code.calls a0_0 _ _ l0_1 a0_2 ((rd_T37 l0_1 x3_1).f0) true _ ?side1 ?side2 A5.out).mono ?_
              (case side1 => repeat (first | exact (Kd.C_below HR0_1.out HB.out) | (with_reducible refine Kd.C_alloc ?_ _) | (with_reducible refine Kd.C_drewN ?_ _) | (with_reducible refine Kd.C_drew ?_)))
              (case side2 => exact HC0_1.out)
              rintro e w51 ⟨rfl, hb⟩
              refine ⟨_, rfl, ?_⟩
              have n0_ := Aside0.mk (blk_below (g := gb128) (o := .cells #[.bool a0_0, .slice (some ad129) l0_1.length c0_1, .int .i64 a0_2] 24 (0, 0)) (by (with_reducible repeat (first | refine blk_drewN ?_ _ | refine blk_drew ?_ | refine blk_alloc ?_ _)); exact BK128.out) hb)
              have n1_ := Aside0.mk (blk_below (g := gb130) (o := .cells #[.int .i64 ((rd_T37 l0_1 x3_1).f0), .int .i64 ((rd_T37 l0_1 x3_1).f1), .string ((rd_T37 l0_1 x3_1).f2)] 37 (0, 0)) (by (with_reducible repeat (first | refine blk_drewN ?_ _ | refine blk_drew ?_ | refine blk_alloc ?_ _)); exact BK130.out) hb)
              have n2_ := Aside0.mk (below_step (by repeat (first | (with_reducible first | exact HB.out | apply below_alloc | apply pw_below_drewN | apply below_drew1 | refine below_set ?_ GE128.out | refine below_set ?_ GE130.out) | exact HB.out)) hb)
              clear BK128
              clear BK130
              clear HB
              have BK128 := n0_
              have BK130 := n1_
              have HB := n2_
              clear n0_ n1_ n2_
              (try clear hb)
              (try clear hb2)
              (try clear hk)
              (try clear hi)
              refine hK.out _ _ ⟨(blk_cell BK128.out 0).trans rfl, (blk_cell BK128.out 1).trans rfl, (blk_cell BK128.out 2).trans rfl, (blk_cell BK130.out 0).trans rfl, (blk_cell BK130.out 1).trans rfl, (blk_cell BK130.out 2).trans rfl, ((HB.out.cell (World.block_lt_of_cell? w _ hw132_0)).trans hw132_0), ((HB.out.cell (World.block_lt_of_cell? w _ hw132_1)).trans hw132_1), ((HB.out.cell (World.block_lt_of_cell? w _ hw132_2)).trans hw132_2)⟩ (fun hHeld => ?_)
              clear hK K
              refine norm_ (by show Act.put _ (some 20) _ = _; simp only [s0_, s1_, s2_, s3_, s4_, s5_]; rfl) ?_
              refine pu_ 4 21 (tk_ 42 31) HT_.out rfl rfl (by kernel_rfl) (fun _ _ _ h => h) (by rfl) (fun w' => by go_simp; with_reducible rfl) (by simp only [s0_, s1_, s2_, s3_, s4_, s5_]; rfl) ?_
              refine pu_ 5 22 (tk_ 42 63) HT_.out rfl rfl (by kernel_rfl) (fun _ _ _ h => h) (by rfl) (fun w' => by go_simp; with_reducible rfl) (by simp only [s0_, s1_, s2_, s3_, s4_, s5_]; rfl) ?_
              refine pu_ 6 23 (tk_ 42 127) HT_.out rfl rfl (by kernel_rfl) (fun _ _ _ h => h) (by rfl) (fun w' => by go_simp; with_reducible rfl) (by simp only [s0_, s1_, s2_, s3_, s4_, s5_]; rfl) ?_
              refine pu_ 7 24 (tk_ 42 255) HT_.out rfl rfl (by kernel_rfl) (fun _ _ _ h => h) (by rfl) (fun w' => by go_simp; with_reducible rfl) (by simp only [s0_, s1_, s2_, s3_, s4_, s5_]; rfl) ?_
              refine pu_ 8 25 (tk_ 42 511) HT_.out rfl rfl (by kernel_rfl) (fun _ _ _ h => h) (by rfl) (fun w' => by go_simp; with_reducible rfl) (by simp only [s0_, s1_, s2_, s3_, s4_, s5_]; rfl) ?_
              refine pu_ 9 26 (tk_ 42 1023) HT_.out rfl rfl (by kernel_rfl) (fun _ _ _ h => h) (by rfl) (fun w' => by go_simp; with_reducible rfl) (by simp only [s0_, s1_, s2_, s3_, s4_, s5_]; rfl) ?_
              refine pu_ 11 28 (tk_ 42 3071) HT_.out rfl rfl (by kernel_rfl) (fun _ _ _ h => h) (by rfl) (fun w' => by go_simp; with_reducible rfl) (by simp only [s0_, s1_, s2_, s3_, s4_, s5_]; rfl) ?_
              refine pu_ 12 29 (tk_ 42 7167) HT_.out rfl rfl (by kernel_rfl) (fun _ _ _ h => h) (by rfl) (fun w' => by go_simp; with_reducible rfl) (by simp only [s0_, s1_, s2_, s3_, s4_, s5_]; rfl) ?_
              refine pu_ 16 33 (tk_ 42 72703) HT_.out rfl rfl (by kernel_rfl) (fun _ _ _ h => h) (by rfl) (fun w' => by go_simp; with_reducible rfl) (by simp only [s0_, s1_, s2_, s3_, s4_, s5_]; rfl) ?_
              refine ta_ 10 27 (tk_ 42 73727) HT_.out HW_.out rfl rfl (by kernel_rfl) (fun _ _ _ h => h) (by rfl) (by rintro w' ⟨s0, s1, s2, s3, s4, s5, s6, s7, s8⟩; go_simp; with_reducible rfl) hHeld (by simp only [s0_, s1_, s2_, s3_, s4_, s5_]; rfl) ?_
              refine pu_ 13 30 (tk_ 42 81919) HT_.out rfl rfl (by kernel_rfl) (fun _ _ _ h => h) (by rfl) (fun w' => by go_simp; with_reducible rfl) (by simp only [s0_, s1_, s2_, s3_, s4_, s5_]; rfl) ?_
              refine pu_ 14 31 (tk_ 42 98303) HT_.out rfl rfl (by kernel_rfl) (fun _ _ _ h => h) (by rfl) (fun w' => by go_simp; with_reducible rfl) (by simp only [s0_, s1_, s2_, s3_, s4_, s5_]; rfl) ?_
              refine ta_ 15 32 (tk_ 42 131071) HT_.out HW_.out rfl rfl (by kernel_rfl) (fun _ _ _ h => h) (by rfl) (by rintro w' ⟨s0, s1, s2, s3, s4, s5, s6, s7, s8⟩; go_simp; with_reducible rfl) hHeld (by simp only [s0_, s1_, s2_, s3_, s4_, s5_]; rfl) ?_
              refine ta_ 17 34 (tk_ 42 262143) HT_.out HW_.out rfl rfl (by kernel_rfl) (fun _ _ _ h => h) (by rfl) (by rintro w' ⟨s0, s1, s2, s3, s4, s5, s6, s7, s8⟩; go_simp; with_reducible rfl) hHeld (by simp only [s0_, s1_, s2_, s3_, s4_, s5_]; rfl) ?_
              refine pu_ 18 35 (tk_ 42 524287) HT_.out rfl rfl (by kernel_rfl) (fun _ _ _ h => h) (by rfl) (fun w' => by go_simp; with_reducible rfl) (by simp only [s0_, s1_, s2_, s3_, s4_, s5_]; rfl) ?_
              refine pu_ 19 36 (tk_ 42 1048575) HT_.out rfl rfl (by kernel_rfl) (fun _ _ _ h => h) (by rfl) (fun w' => by go_simp; with_reducible rfl) (by simp only [s0_, s1_, s2_, s3_, s4_, s5_]; rfl) ?_
              refine pu_ 20 37 (tk_ 42 2097151) HT_.out rfl rfl (by kernel_rfl) (fun _ _ _ h => h) (by rfl) (fun w' => by go_simp; with_reducible rfl) (by simp only [s0_, s1_, s2_, s3_, s4_, s5_]; rfl) ?_
              refine pu_ 21 38 (tk_ 42 4194303) HT_.out rfl rfl (by kernel_rfl) (fun _ _ _ h => h) (by rfl) (fun w' => by go_simp; with_reducible rfl) (by simp only [s0_, s1_, s2_, s3_, s4_, s5_]; rfl) ?_
              refine pu_ 22 39 (tk_ 42 8388607) HT_.out rfl rfl (by kernel_rfl) (fun _ _ _ h => h) (by rfl) (fun w' => by go_simp; with_reducible rfl) (by simp only [s0_, s1_, s2_, s3_, s4_, s5_]; rfl) ?_
              refine ta_ 23 40 (tk_ 42 16777215) HT_.out HW_.out rfl rfl (by kernel_rfl) (fun _ _ _ h => h) (by rfl) (by rintro w' ⟨s0, s1, s2, s3, s4, s5, s6, s7, s8⟩; go_simp; with_reducible rfl) hHeld (by simp only [s0_, s1_, s2_, s3_, s4_, s5_]; rfl) ?_
              refine pu_ 24 41 (tk_ 42 33554431) HT_.out rfl rfl (by kernel_rfl) (fun _ _ _ h => h) (by rfl) (fun w' => by go_simp; with_reducible rfl) (by simp only [s0_, s1_, s2_, s3_, s4_, s5_]; rfl) ?_
              refine pu_ 25 42 (tk_ 42 67108863) HT_.out rfl rfl (by kernel_rfl) (fun _ _ _ h => h) (by rfl) (fun w' => by go_simp; with_reducible rfl) (by simp only [s0_, s1_, s2_, s3_, s4_, s5_]; rfl) ?_
              refine pu_ 26 43 (tk_ 42 134217727) HT_.out rfl rfl (by kernel_rfl) (fun _ _ _ h => h) (by rfl) (fun w' => by go_simp; with_reducible rfl) (by simp only [s0_, s1_, s2_, s3_, s4_, s5_]; rfl) ?_
              refine pu_ 27 44 (tk_ 42 268435455) HT_.out rfl rfl (by kernel_rfl) (fun _ _ _ h => h) (by rfl) (fun w' => by go_simp; with_reducible rfl) (by simp only [s0_, s1_, s2_, s3_, s4_, s5_]; rfl) ?_
              refine ta_ 28 45 (tk_ 42 536870911) HT_.out HW_.out rfl rfl (by kernel_rfl) (fun _ _ _ h => h) (by rfl) (by rintro w' ⟨s0, s1, s2, s3, s4, s5, s6, s7, s8⟩; go_simp; with_reducible rfl) hHeld (by simp only [s0_, s1_, s2_, s3_, s4_, s5_]; rfl) ?_
              refine pu_ 29 46 (tk_ 42 1073741823) HT_.out rfl rfl (by kernel_rfl) (fun _ _ _ h => h) (by rfl) (fun w' => by go_simp; with_reducible rfl) (by simp only [s0_, s1_, s2_, s3_, s4_, s5_]; rfl) ?_
              refine pu_ 30 47 (tk_ 42 2147483647) HT_.out rfl rfl (by kernel_rfl) (fun _ _ _ h => h) (by rfl) (fun w' => by go_simp; with_reducible rfl) (by simp only [s0_, s1_, s2_, s3_, s4_, s5_]; rfl) ?_
              refine pu_ 31 48 (tk_ 42 4294967295) HT_.out rfl rfl (by kernel_rfl) (fun _ _ _ h => h) (by rfl) (fun w' => by go_simp; with_reducible rfl) (by simp only [s0_, s1_, s2_, s3_, s4_, s5_]; rfl) ?_
              refine pu_ 32 49 (tk_ 42 8589934591) HT_.out rfl rfl (by kernel_rfl) (fun _ _ _ h => h) (by rfl) (fun w' => by go_simp; with_reducible rfl) (by simp only [s0_, s1_, s2_, s3_, s4_, s5_]; rfl) ?_
              refine ta_ 33 50 (tk_ 42 17179869183) HT_.out HW_.out rfl rfl (by kernel_rfl) (fun _ _ _ h => h) (by rfl) (by rintro w' ⟨s0, s1, s2, s3, s4, s5, s6, s7, s8⟩; go_simp; with_reducible rfl) hHeld (by simp only [s0_, s1_, s2_, s3_, s4_, s5_]; rfl) ?_
              refine pu_ 34 51 (tk_ 42 34359738367) HT_.out rfl rfl (by kernel_rfl) (fun _ _ _ h => h) (by rfl) (fun w' => by go_simp; with_reducible rfl) (by simp only [s0_, s1_, s2_, s3_, s4_, s5_]; rfl) ?_
              refine pu_ 35 52 (tk_ 42 68719476735) HT_.out rfl rfl (by kernel_rfl) (fun _ _ _ h => h) (by rfl) (fun w' => by go_simp; with_reducible rfl) (by simp only [s0_, s1_, s2_, s3_, s4_, s5_]; rfl) ?_
              refine pu_ 36 53 (tk_ 42 137438953471) HT_.out rfl rfl (by kernel_rfl) (fun _ _ _ h => h) (by rfl) (fun w' => by go_simp; with_reducible rfl) (by simp only [s0_, s1_, s2_, s3_, s4_, s5_]; rfl) ?_
              refine ta_ 37 54 (tk_ 42 274877906943) HT_.out HW_.out rfl rfl (by kernel_rfl) (fun _ _ _ h => h) (by rfl) (by rintro w' ⟨s0, s1, s2, s3, s4, s5, s6, s7, s8⟩; go_simp; with_reducible rfl) hHeld (by simp only [s0_, s1_, s2_, s3_, s4_, s5_]; rfl) ?_
              refine one_ (i := 38) (N := some 55) (tk_ 42 549755813887) rfl rfl (one_of HT_.out (by kernel_rfl)) (by decide) (fun K hK => ?_)
              refine goes_ Try.func35 (by kernel_rfl) rfl #[.string ((rd_T37 l0_1 x3_1).f2)] (by rfl) rfl rfl (by (try simp only [List.map_toArray, List.map_cons, List.map_nil]); first | done | rfl | (simp only [List.length_drop, List.length_take]; rfl)) ?_
              with_reducible refine (erasureref18_Means.calls ((rd_T37 l0_1 x3_1).f2) true _ A43.out).mono ?_
              rintro e w' ⟨rfl, ⟨nd, rfl⟩⟩
              refine ⟨_, rfl, ?_⟩
              refine hK.out _ _ ⟨(blk_cell BK128.out 0).trans rfl, (blk_cell BK128.out 1).trans rfl, (blk_cell BK128.out 2).trans rfl, (blk_cell BK130.out 0).trans rfl, (blk_cell BK130.out 1).trans rfl, (blk_cell BK130.out 2).trans rfl, ((HB.out.cell (World.block_lt_of_cell? w _ hw132_0)).trans hw132_0), ((HB.out.cell (World.block_lt_of_cell? w _ hw132_1)).trans hw132_1), ((HB.out.cell (World.block_lt_of_cell? w _ hw132_2)).trans hw132_2)⟩ (fun hHeld => ?_)
              clear hK K
              refine norm_ (by show Act.put _ (some 55) _ = _; simp only [s0_, s1_, s2_, s3_, s4_, s5_]; rfl) ?_
              refine pu_ 39 56 (tk_ 42 1099511627775) HT_.out rfl rfl (by kernel_rfl) (fun _ _ _ h => h) (by rfl) (fun w' => by go_simp; with_reducible rfl) (by simp only [s0_, s1_, s2_, s3_, s4_, s5_]; rfl) ?_
              refine pu_ 40 57 (tk_ 42 2199023255551) HT_.out rfl rfl (by kernel_rfl) (fun _ _ _ h => h) (by rfl) (fun w' => by go_simp; with_reducible rfl) (by simp only [s0_, s1_, s2_, s3_, s4_, s5_]; rfl) ?_
              refine pu_ 41 58 (tk_ 42 4398046511103) HT_.out rfl rfl (by kernel_rfl) (fun _ _ _ h => h) (by rfl) (fun w' => by go_simp; with_reducible rfl) (by simp only [s0_, s1_, s2_, s3_, s4_, s5_]; rfl) ?_
              refine done_ (done_of HT_.out (by kernel_rfl)) ?_
              try go_wp2
              go_roundg k1
              case measure => have := HK1.out; omega
              case rel => exact ⟨(wrap64 (x3_1 + 1)), (by first | rfl | (simp; done) | (simp [*]; done)), H', ⟨by have := HK1.out; omega⟩, ⟨by (with_reducible repeat (first | refine blk_drewN ?_ _ | refine blk_drew ?_ | refine blk_alloc ?_ _)); exact BK128.out⟩, ⟨by repeat (first | (with_reducible first | exact HB.out | apply below_alloc | apply pw_below_drewN | apply below_drew1 | refine below_set ?_ GE128.out | refine below_set ?_ GE130.out) | exact HB.out)⟩⟩
             ·replace c44 := Bool.eq_false_iff.mpr c44
              subst c44
              have H1 : (some false) = some r := by rw [if_neg (show ¬ (false = true) by decide)] at H; exact H
              clear H
              have H := H1
              clear H1
              obtain rfl := Option.some.inj H
              have hcz52_0 : wr.cell? ⟨gb128, 0, none⟩ = some (.bool a0_0) := (blk_cell BK128.out 0).trans rfl
              have hcz52_1 : wr.cell? ⟨gb128, 1, none⟩ = some (.slice A0_1 l0_1.length c0_1) := (blk_cell BK128.out 1).trans rfl
              have hcz52_2 : wr.cell? ⟨gb128, 2, none⟩ = some (.int .i64 a0_2) := (blk_cell BK128.out 2).trans rfl
              have hfz52_0 := blk_frozen BK128.out 0
              have hfz52_1 := blk_frozen BK128.out 1
              have hfz52_2 := blk_frozen BK128.out 2
              have p129 : 0 ≤ (x3_1 : Int) := of_decide_eq_true (by first | (with_reducible assumption) | assumption)
              have q129 : x3_1 < (l0_1.length : Int) := of_decide_eq_true (by first | (with_reducible assumption) | assumption)
              obtain ⟨ad129, e129, hx129_0, hx129_1, hx129_2⟩ := at_T37 HR0_1.out x3_1 p129 q129
              cases e129
              replace hx129_0 := (HB.out.cell (World.block_lt_of_cell? w _ hx129_0)).trans hx129_0
              replace hx129_1 := (HB.out.cell (World.block_lt_of_cell? w _ hx129_1)).trans hx129_1
              replace hx129_2 := (HB.out.cell (World.block_lt_of_cell? w _ hx129_2)).trans hx129_2
              replace p129 := eq_true p129
              replace q129 := eq_true q129
              try go_wp2_with (first | ((with_reducible refine gate_dst (N := 4) rfl ?_); (try (refine gate_guard (by rfl) ?_; dsimp only)); refine box_event ?hg (N := 4) ?hd (cs := #[.int .i64 0, .int .i64 0, .string (⟨#[]⟩ : ByteArray)]) (t := 37) ?hr ?_; (case hd => rfl); (case hg => rfl); (case hr => first | (go_simp; done) | (go_simp; rfl)); intro gb130 hg w53 hbox hb; have n0_ := Aside0.mk (blk_below (g := gb128) (o := .cells #[.bool a0_0, .slice (some ad129) l0_1.length c0_1, .int .i64 a0_2] 24 (0, 0)) (by (with_reducible repeat (first | refine blk_drewN ?_ _ | refine blk_drew ?_ | refine blk_alloc ?_ _)); exact BK128.out) hb); have n1_ := Aside0.mk (below_step (by repeat (first | (with_reducible first | exact HB.out | apply below_alloc | apply pw_below_drewN | apply below_drew1 | refine below_set ?_ GE128.out) | exact HB.out)) hb); have n2_ := Aside0.mk (hbox); have n3_ := Aside0.mk ((by rw [hg]; exact (below_size (by repeat (first | (with_reducible first | exact HB.out | apply below_alloc | apply pw_below_drewN | apply below_drew1 | refine below_set ?_ GE128.out) | exact HB.out))) : w.heap.size ≤ gb130)); have n4_ := Aside0.mk ((by rw [hg]; exact (below_size (by repeat (first | (with_reducible first | exact HB.out | apply below_alloc | apply pw_below_drewN | apply below_drew1 | refine below_set ?_ GE128.out) | exact HB.out))) : w.heap.size ≤ gb130)); have n5_ := Aside0.mk ((by rw [hg]; exact Nat.ne_of_lt (blk_lt (g := gb128) (o := .cells #[.bool a0_0, .slice (some ad129) l0_1.length c0_1, .int .i64 a0_2] 24 (0, 0)) (by (with_reducible repeat (first | refine blk_drewN ?_ _ | refine blk_drew ?_ | refine blk_alloc ?_ _)); exact BK128.out)) : gb128 ≠ gb130)); have n6_ := Aside0.mk ((by rw [hg]; exact Nat.ne_of_gt (blk_lt (g := gb128) (o := .cells #[.bool a0_0, .slice (some ad129) l0_1.length c0_1, .int .i64 a0_2] 24 (0, 0)) (by (with_reducible repeat (first | refine blk_drewN ?_ _ | refine blk_drew ?_ | refine blk_alloc ?_ _)); exact BK128.out)) : gb130 ≠ gb128)); clear BK128; clear HB; have BK128 := n0_; have HB := n1_; have BK130 := n2_; have GW130 := n3_; have GE130 := n4_; have NB128_130 := n5_; have NB130_128 := n6_; clear n0_ n1_ n2_ n3_ n4_ n5_ n6_; clear hb hbox hg; have hnb54 := NB130_128.out; have hnc54 := NB128_130.out; have hcz55_0 : w53.cell? ⟨gb130, 0, none⟩ = some (.int .i64 0) := (blk_cell BK130.out 0).trans rfl; have hcz55_1 : w53.cell? ⟨gb130, 1, none⟩ = some (.int .i64 0) := (blk_cell BK130.out 1).trans rfl; have hcz55_2 : w53.cell? ⟨gb130, 2, none⟩ = some (.string (⟨#[]⟩ : ByteArray)) := (blk_cell BK130.out 2).trans rfl; have hfz55_0 := blk_frozen BK130.out 0; have hfz55_1 := blk_frozen BK130.out 1; have hfz55_2 := blk_frozen BK130.out 2))
              have n0_ : Aside0 ((((w53.setCell ⟨gb130, 0, none⟩ (.int .i64 ((rd_T37 l0_1 x3_1).f0))).setCell ⟨gb130, 1, none⟩ (.int .i64 ((rd_T37 l0_1 x3_1).f1))).setCell ⟨gb130, 2, none⟩ (.string ((rd_T37 l0_1 x3_1).f2))).heap[gb128]? = some (.cells #[.bool a0_0, .slice (some ad129) l0_1.length c0_1, .int .i64 a0_2] 24 (0, 0))) := ⟨by (with_reducible repeat (first | refine blk_drewN ?_ _ | refine blk_drew ?_ | refine blk_alloc ?_ _)); refine blk_far ?_ NB128_130.out _; (with_reducible repeat (first | refine blk_drewN ?_ _ | refine blk_drew ?_ | refine blk_alloc ?_ _)); refine blk_far ?_ NB128_130.out _; (with_reducible repeat (first | refine blk_drewN ?_ _ | refine blk_drew ?_ | refine blk_alloc ?_ _)); refine blk_far ?_ NB128_130.out _; (with_reducible repeat (first | refine blk_drewN ?_ _ | refine blk_drew ?_ | refine blk_alloc ?_ _)); exact BK128.out⟩
              have n1_ : Aside0 ((((w53.setCell ⟨gb130, 0, none⟩ (.int .i64 ((rd_T37 l0_1 x3_1).f0))).setCell ⟨gb130, 1, none⟩ (.int .i64 ((rd_T37 l0_1 x3_1).f1))).setCell ⟨gb130, 2, none⟩ (.string ((rd_T37 l0_1 x3_1).f2))).heap[gb130]? = some (.cells #[.int .i64 ((rd_T37 l0_1 x3_1).f0), .int .i64 ((rd_T37 l0_1 x3_1).f1), .string ((rd_T37 l0_1 x3_1).f2)] 37 (0, 0))) := ⟨by (with_reducible repeat (first | refine blk_drewN ?_ _ | refine blk_drew ?_ | refine blk_alloc ?_ _)); refine blk_put (cs := #[.int .i64 ((rd_T37 l0_1 x3_1).f0), .int .i64 ((rd_T37 l0_1 x3_1).f1), .string (⟨#[]⟩ : ByteArray)]) ?_ 2 _ rfl; (with_reducible repeat (first | refine blk_drewN ?_ _ | refine blk_drew ?_ | refine blk_alloc ?_ _)); refine blk_put (cs := #[.int .i64 ((rd_T37 l0_1 x3_1).f0), .int .i64 0, .string (⟨#[]⟩ : ByteArray)]) ?_ 1 _ rfl; (with_reducible repeat (first | refine blk_drewN ?_ _ | refine blk_drew ?_ | refine blk_alloc ?_ _)); refine blk_put (cs := #[.int .i64 0, .int .i64 0, .string (⟨#[]⟩ : ByteArray)]) ?_ 0 _ rfl; (with_reducible repeat (first | refine blk_drewN ?_ _ | refine blk_drew ?_ | refine blk_alloc ?_ _)); exact BK130.out⟩
              have n2_ : Aside0 (Below w.heap.size w (((w53.setCell ⟨gb130, 0, none⟩ (.int .i64 ((rd_T37 l0_1 x3_1).f0))).setCell ⟨gb130, 1, none⟩ (.int .i64 ((rd_T37 l0_1 x3_1).f1))).setCell ⟨gb130, 2, none⟩ (.string ((rd_T37 l0_1 x3_1).f2)))) := ⟨by repeat (first | (with_reducible first | exact HB.out | apply below_alloc | apply pw_below_drewN | apply below_drew1 | refine below_set ?_ GE128.out | refine below_set ?_ GE130.out) | exact HB.out)⟩
              (try clear BK128)
              (try clear BK130)
              (try clear HB)
              generalize (((w53.setCell ⟨gb130, 0, none⟩ (.int .i64 ((rd_T37 l0_1 x3_1).f0))).setCell ⟨gb130, 1, none⟩ (.int .i64 ((rd_T37 l0_1 x3_1).f1))).setCell ⟨gb130, 2, none⟩ (.string ((rd_T37 l0_1 x3_1).f2))) = w56 at n0_ n1_ n2_ ⊢
              have BK128 := n0_
              have BK130 := n1_
              have HB := n2_
              clear n0_ n1_ n2_
              have n0_ := Aside0.mk (blk_drew BK128.out)
              have n1_ := Aside0.mk (blk_drew BK130.out)
              have n2_ := Aside0.mk (below_drew1 HB.out)
              clear BK128
              clear BK130
              clear HB
              have BK128 := n0_
              have BK130 := n1_
              have HB := n2_
              clear n0_ n1_ n2_
              have p132 : 0 ≤ ((ji8) : Int) := of_decide_eq_true (by first | (with_reducible assumption) | assumption)
              have q132 : (ji8) < (l0_1.length : Int) := of_decide_eq_true (by first | (with_reducible assumption) | assumption)
              obtain ⟨ad132, e132, hx132_0, hx132_1, hx132_2⟩ := at_T37 HR0_1.out (ji8) p132 q132
              have hw132_2 := hx132_2
              have hw132_1 := hx132_1
              have hw132_0 := hx132_0
              obtain rfl : ad129 = ad132 := (by injection e132)
              replace hx132_0 := (HB.out.cell (World.block_lt_of_cell? w _ hx132_0)).trans hx132_0
              replace hx132_1 := (HB.out.cell (World.block_lt_of_cell? w _ hx132_1)).trans hx132_1
              replace hx132_2 := (HB.out.cell (World.block_lt_of_cell? w _ hx132_2)).trans hx132_2
              replace p132 := eq_true p132
              replace q132 := eq_true q132
              refine start_ (n := 42) (S := fun w' => w'.cell? ⟨gb128, 0, none⟩ = some (.bool a0_0) ∧ w'.cell? ⟨gb128, 1, none⟩ = some (.slice (some ad129) l0_1.length c0_1) ∧ w'.cell? ⟨gb128, 2, none⟩ = some (.int .i64 a0_2) ∧ w'.cell? ⟨gb130, 0, none⟩ = some (.int .i64 ((rd_T37 l0_1 x3_1).f0)) ∧ w'.cell? ⟨gb130, 1, none⟩ = some (.int .i64 ((rd_T37 l0_1 x3_1).f1)) ∧ w'.cell? ⟨gb130, 2, none⟩ = some (.string ((rd_T37 l0_1 x3_1).f2)) ∧ w'.cell? (ad129.add (((ji8)).toNat * 3)) = some (.int .i64 ((rd_T37 l0_1 (ji8)).f0)) ∧ w'.cell? ⟨(ad129.add (((ji8)).toNat * 3)).block, (ad129.add (((ji8)).toNat * 3)).off + 1, none⟩ = some (.int .i64 ((rd_T37 l0_1 (ji8)).f1)) ∧ w'.cell? ⟨(ad129.add (((ji8)).toNat * 3)).block, (ad129.add (((ji8)).toNat * 3)).off + 2, none⟩ = some (.string ((rd_T37 l0_1 (ji8)).f2))) (ds := []) (tk_ 42 0) (by kernel_rfl) rfl (by kernel_rfl) ⟨(blk_cell BK128.out 0).trans rfl, (blk_cell BK128.out 1).trans rfl, (blk_cell BK128.out 2).trans rfl, (blk_cell BK130.out 0).trans rfl, (blk_cell BK130.out 1).trans rfl, (blk_cell BK130.out 2).trans rfl, ((HB.out.cell (World.block_lt_of_cell? w _ hw132_0)).trans hw132_0), ((HB.out.cell (World.block_lt_of_cell? w _ hw132_1)).trans hw132_1), ((HB.out.cell (World.block_lt_of_cell? w _ hw132_2)).trans hw132_2)⟩ (fun hHeld => ?_); refine with_tabW erasureref19_Right.tab5 erasureref19_Right.bits5 (fun HT_ HW_ => ?_)
              generalize w56.drew = w57 at BK128 BK130 HB hx132_0 hx132_1 hx132_2 hHeld ⊢
              refine pu_ 1 18 (tk_ 42 2) HT_.out rfl rfl (by kernel_rfl) (fun _ _ _ h => h) (by rfl) (fun w' => by go_simp; with_reducible rfl) (by simp only [s0_, s1_, s2_, s3_, s4_, s5_]; rfl) ?_
              refine ta_ 0 17 (tk_ 42 3) HT_.out HW_.out rfl rfl (by kernel_rfl) (fun _ _ _ h => h) (by rfl) (by rintro w' ⟨s0, s1, s2, s3, s4, s5, s6, s7, s8⟩; go_simp; with_reducible rfl) hHeld (by simp only [s0_, s1_, s2_, s3_, s4_, s5_]; rfl) ?_
              refine ta_ 2 19 (tk_ 42 7) HT_.out HW_.out rfl rfl (by kernel_rfl) (fun _ _ _ h => h) (by rfl) (by rintro w' ⟨s0, s1, s2, s3, s4, s5, s6, s7, s8⟩; go_simp; with_reducible rfl) hHeld (by simp only [s0_, s1_, s2_, s3_, s4_, s5_]; rfl) ?_
              refine one_ (i := 3) (N := some 20) (tk_ 42 15) rfl rfl (one_of HT_.out (by kernel_rfl)) (by decide) (fun K hK => ?_)
              refine goes_ Try.func34 (by kernel_rfl) rfl #[.agg #[.bool a0_0, .slice (some ad129) l0_1.length c0_1, .int .i64 a0_2], .int .i64 ((rd_T37 l0_1 x3_1).f0)] (by rfl) rfl rfl (by (try simp only [List.map_toArray, List.map_cons, List.map_nil]); first | done | rfl | (simp only [List.length_drop, List.length_take]; rfl)) ?_
              with_reducible refine (erasureref19_code.calls a0_0 _ _ l0_1 a0_2 ((rd_T37 l0_1 x3_1).f0) true _ ?side1 ?side2 A5.out).mono ?_
              (case side1 => repeat (first | exact (Kd.C_below HR0_1.out HB.out) | (with_reducible refine Kd.C_alloc ?_ _) | (with_reducible refine Kd.C_drewN ?_ _) | (with_reducible refine Kd.C_drew ?_)))
              (case side2 => exact HC0_1.out)
              rintro e w58 ⟨rfl, hb⟩
              refine ⟨_, rfl, ?_⟩
              have n0_ := Aside0.mk (blk_below (g := gb128) (o := .cells #[.bool a0_0, .slice (some ad129) l0_1.length c0_1, .int .i64 a0_2] 24 (0, 0)) (by (with_reducible repeat (first | refine blk_drewN ?_ _ | refine blk_drew ?_ | refine blk_alloc ?_ _)); exact BK128.out) hb)
              have n1_ := Aside0.mk (blk_below (g := gb130) (o := .cells #[.int .i64 ((rd_T37 l0_1 x3_1).f0), .int .i64 ((rd_T37 l0_1 x3_1).f1), .string ((rd_T37 l0_1 x3_1).f2)] 37 (0, 0)) (by (with_reducible repeat (first | refine blk_drewN ?_ _ | refine blk_drew ?_ | refine blk_alloc ?_ _)); exact BK130.out) hb)
              have n2_ := Aside0.mk (below_step (by repeat (first | (with_reducible first | exact HB.out | apply below_alloc | apply pw_below_drewN | apply below_drew1 | refine below_set ?_ GE128.out | refine below_set ?_ GE130.out) | exact HB.out)) hb)
              clear BK128
              clear BK130
              clear HB
              have BK128 := n0_
              have BK130 := n1_
              have HB := n2_
              clear n0_ n1_ n2_
              (try clear hb)
              (try clear hb2)
              (try clear hk)
              (try clear hi)
              refine hK.out _ _ ⟨(blk_cell BK128.out 0).trans rfl, (blk_cell BK128.out 1).trans rfl, (blk_cell BK128.out 2).trans rfl, (blk_cell BK130.out 0).trans rfl, (blk_cell BK130.out 1).trans rfl, (blk_cell BK130.out 2).trans rfl, ((HB.out.cell (World.block_lt_of_cell? w _ hw132_0)).trans hw132_0), ((HB.out.cell (World.block_lt_of_cell? w _ hw132_1)).trans hw132_1), ((HB.out.cell (World.block_lt_of_cell? w _ hw132_2)).trans hw132_2)⟩ (fun hHeld => ?_)
              clear hK K
              refine norm_ (by show Act.put _ (some 20) _ = _; simp only [s0_, s1_, s2_, s3_, s4_, s5_]; rfl) ?_
              refine pu_ 4 21 (tk_ 42 31) HT_.out rfl rfl (by kernel_rfl) (fun _ _ _ h => h) (by rfl) (fun w' => by go_simp; with_reducible rfl) (by simp only [s0_, s1_, s2_, s3_, s4_, s5_]; rfl) ?_
              refine pu_ 5 22 (tk_ 42 63) HT_.out rfl rfl (by kernel_rfl) (fun _ _ _ h => h) (by rfl) (fun w' => by go_simp; with_reducible rfl) (by simp only [s0_, s1_, s2_, s3_, s4_, s5_]; rfl) ?_
              refine pu_ 6 23 (tk_ 42 127) HT_.out rfl rfl (by kernel_rfl) (fun _ _ _ h => h) (by rfl) (fun w' => by go_simp; with_reducible rfl) (by simp only [s0_, s1_, s2_, s3_, s4_, s5_]; rfl) ?_
              refine pu_ 7 24 (tk_ 42 255) HT_.out rfl rfl (by kernel_rfl) (fun _ _ _ h => h) (by rfl) (fun w' => by go_simp; with_reducible rfl) (by simp only [s0_, s1_, s2_, s3_, s4_, s5_]; rfl) ?_
              refine pu_ 8 25 (tk_ 42 511) HT_.out rfl rfl (by kernel_rfl) (fun _ _ _ h => h) (by rfl) (fun w' => by go_simp; with_reducible rfl) (by simp only [s0_, s1_, s2_, s3_, s4_, s5_]; rfl) ?_
              refine pu_ 9 26 (tk_ 42 1023) HT_.out rfl rfl (by kernel_rfl) (fun _ _ _ h => h) (by rfl) (fun w' => by go_simp; with_reducible rfl) (by simp only [s0_, s1_, s2_, s3_, s4_, s5_]; rfl) ?_
              refine pu_ 11 28 (tk_ 42 3071) HT_.out rfl rfl (by kernel_rfl) (fun _ _ _ h => h) (by rfl) (fun w' => by go_simp; with_reducible rfl) (by simp only [s0_, s1_, s2_, s3_, s4_, s5_]; rfl) ?_
              refine pu_ 12 29 (tk_ 42 7167) HT_.out rfl rfl (by kernel_rfl) (fun _ _ _ h => h) (by rfl) (fun w' => by go_simp; with_reducible rfl) (by simp only [s0_, s1_, s2_, s3_, s4_, s5_]; rfl) ?_
              refine pu_ 16 33 (tk_ 42 72703) HT_.out rfl rfl (by kernel_rfl) (fun _ _ _ h => h) (by rfl) (fun w' => by go_simp; with_reducible rfl) (by simp only [s0_, s1_, s2_, s3_, s4_, s5_]; rfl) ?_
              refine ta_ 10 27 (tk_ 42 73727) HT_.out HW_.out rfl rfl (by kernel_rfl) (fun _ _ _ h => h) (by rfl) (by rintro w' ⟨s0, s1, s2, s3, s4, s5, s6, s7, s8⟩; go_simp; with_reducible rfl) hHeld (by simp only [s0_, s1_, s2_, s3_, s4_, s5_]; rfl) ?_
              refine pu_ 13 30 (tk_ 42 81919) HT_.out rfl rfl (by kernel_rfl) (fun _ _ _ h => h) (by rfl) (fun w' => by go_simp; with_reducible rfl) (by simp only [s0_, s1_, s2_, s3_, s4_, s5_]; rfl) ?_
              refine pu_ 14 31 (tk_ 42 98303) HT_.out rfl rfl (by kernel_rfl) (fun _ _ _ h => h) (by rfl) (fun w' => by go_simp; with_reducible rfl) (by simp only [s0_, s1_, s2_, s3_, s4_, s5_]; rfl) ?_
              refine ta_ 15 32 (tk_ 42 131071) HT_.out HW_.out rfl rfl (by kernel_rfl) (fun _ _ _ h => h) (by rfl) (by rintro w' ⟨s0, s1, s2, s3, s4, s5, s6, s7, s8⟩; go_simp; with_reducible rfl) hHeld (by simp only [s0_, s1_, s2_, s3_, s4_, s5_]; rfl) ?_
              refine ta_ 17 34 (tk_ 42 262143) HT_.out HW_.out rfl rfl (by kernel_rfl) (fun _ _ _ h => h) (by rfl) (by rintro w' ⟨s0, s1, s2, s3, s4, s5, s6, s7, s8⟩; go_simp; with_reducible rfl) hHeld (by simp only [s0_, s1_, s2_, s3_, s4_, s5_]; rfl) ?_
              refine pu_ 18 35 (tk_ 42 524287) HT_.out rfl rfl (by kernel_rfl) (fun _ _ _ h => h) (by rfl) (fun w' => by go_simp; with_reducible rfl) (by simp only [s0_, s1_, s2_, s3_, s4_, s5_]; rfl) ?_
              refine pu_ 19 36 (tk_ 42 1048575) HT_.out rfl rfl (by kernel_rfl) (fun _ _ _ h => h) (by rfl) (fun w' => by go_simp; with_reducible rfl) (by simp only [s0_, s1_, s2_, s3_, s4_, s5_]; rfl) ?_
              refine pu_ 20 37 (tk_ 42 2097151) HT_.out rfl rfl (by kernel_rfl) (fun _ _ _ h => h) (by rfl) (fun w' => by go_simp; with_reducible rfl) (by simp only [s0_, s1_, s2_, s3_, s4_, s5_]; rfl) ?_
              refine pu_ 21 38 (tk_ 42 4194303) HT_.out rfl rfl (by kernel_rfl) (fun _ _ _ h => h) (by rfl) (fun w' => by go_simp; with_reducible rfl) (by simp only [s0_, s1_, s2_, s3_, s4_, s5_]; rfl) ?_
              refine pu_ 22 39 (tk_ 42 8388607) HT_.out rfl rfl (by kernel_rfl) (fun _ _ _ h => h) (by rfl) (fun w' => by go_simp; with_reducible rfl) (by simp only [s0_, s1_, s2_, s3_, s4_, s5_]; rfl) ?_
              refine ta_ 23 40 (tk_ 42 16777215) HT_.out HW_.out rfl rfl (by kernel_rfl) (fun _ _ _ h => h) (by rfl) (by rintro w' ⟨s0, s1, s2, s3, s4, s5, s6, s7, s8⟩; go_simp; with_reducible rfl) hHeld (by simp only [s0_, s1_, s2_, s3_, s4_, s5_]; rfl) ?_
              refine pu_ 24 41 (tk_ 42 33554431) HT_.out rfl rfl (by kernel_rfl) (fun _ _ _ h => h) (by rfl) (fun w' => by go_simp; with_reducible rfl) (by simp only [s0_, s1_, s2_, s3_, s4_, s5_]; rfl) ?_
              refine pu_ 25 42 (tk_ 42 67108863) HT_.out rfl rfl (by kernel_rfl) (fun _ _ _ h => h) (by rfl) (fun w' => by go_simp; with_reducible rfl) (by simp only [s0_, s1_, s2_, s3_, s4_, s5_]; rfl) ?_
              refine pu_ 26 43 (tk_ 42 134217727) HT_.out rfl rfl (by kernel_rfl) (fun _ _ _ h => h) (by rfl) (fun w' => by go_simp; with_reducible rfl) (by simp only [s0_, s1_, s2_, s3_, s4_, s5_]; rfl) ?_
              refine pu_ 27 44 (tk_ 42 268435455) HT_.out rfl rfl (by kernel_rfl) (fun _ _ _ h => h) (by rfl) (fun w' => by go_simp; with_reducible rfl) (by simp only [s0_, s1_, s2_, s3_, s4_, s5_]; rfl) ?_
              refine ta_ 28 45 (tk_ 42 536870911) HT_.out HW_.out rfl rfl (by kernel_rfl) (fun _ _ _ h => h) (by rfl) (by rintro w' ⟨s0, s1, s2, s3, s4, s5, s6, s7, s8⟩; go_simp; with_reducible rfl) hHeld (by simp only [s0_, s1_, s2_, s3_, s4_, s5_]; rfl) ?_
              refine pu_ 29 46 (tk_ 42 1073741823) HT_.out rfl rfl (by kernel_rfl) (fun _ _ _ h => h) (by rfl) (fun w' => by go_simp; with_reducible rfl) (by simp only [s0_, s1_, s2_, s3_, s4_, s5_]; rfl) ?_
              refine pu_ 30 47 (tk_ 42 2147483647) HT_.out rfl rfl (by kernel_rfl) (fun _ _ _ h => h) (by rfl) (fun w' => by go_simp; with_reducible rfl) (by simp only [s0_, s1_, s2_, s3_, s4_, s5_]; rfl) ?_
              refine pu_ 31 48 (tk_ 42 4294967295) HT_.out rfl rfl (by kernel_rfl) (fun _ _ _ h => h) (by rfl) (fun w' => by go_simp; with_reducible rfl) (by simp only [s0_, s1_, s2_, s3_, s4_, s5_]; rfl) ?_
              refine pu_ 32 49 (tk_ 42 8589934591) HT_.out rfl rfl (by kernel_rfl) (fun _ _ _ h => h) (by rfl) (fun w' => by go_simp; with_reducible rfl) (by simp only [s0_, s1_, s2_, s3_, s4_, s5_]; rfl) ?_
              refine ta_ 33 50 (tk_ 42 17179869183) HT_.out HW_.out rfl rfl (by kernel_rfl) (fun _ _ _ h => h) (by rfl) (by rintro w' ⟨s0, s1, s2, s3, s4, s5, s6, s7, s8⟩; go_simp; with_reducible rfl) hHeld (by simp only [s0_, s1_, s2_, s3_, s4_, s5_]; rfl) ?_
              refine pu_ 34 51 (tk_ 42 34359738367) HT_.out rfl rfl (by kernel_rfl) (fun _ _ _ h => h) (by rfl) (fun w' => by go_simp; with_reducible rfl) (by simp only [s0_, s1_, s2_, s3_, s4_, s5_]; rfl) ?_
              refine pu_ 35 52 (tk_ 42 68719476735) HT_.out rfl rfl (by kernel_rfl) (fun _ _ _ h => h) (by rfl) (fun w' => by go_simp; with_reducible rfl) (by simp only [s0_, s1_, s2_, s3_, s4_, s5_]; rfl) ?_
              refine pu_ 36 53 (tk_ 42 137438953471) HT_.out rfl rfl (by kernel_rfl) (fun _ _ _ h => h) (by rfl) (fun w' => by go_simp; with_reducible rfl) (by simp only [s0_, s1_, s2_, s3_, s4_, s5_]; rfl) ?_
              refine ta_ 37 54 (tk_ 42 274877906943) HT_.out HW_.out rfl rfl (by kernel_rfl) (fun _ _ _ h => h) (by rfl) (by rintro w' ⟨s0, s1, s2, s3, s4, s5, s6, s7, s8⟩; go_simp; with_reducible rfl) hHeld (by simp only [s0_, s1_, s2_, s3_, s4_, s5_]; rfl) ?_
              refine one_ (i := 38) (N := some 55) (tk_ 42 549755813887) rfl rfl (one_of HT_.out (by kernel_rfl)) (by decide) (fun K hK => ?_)
              refine goes_ Try.func35 (by kernel_rfl) rfl #[.string ((rd_T37 l0_1 x3_1).f2)] (by rfl) rfl rfl (by (try simp only [List.map_toArray, List.map_cons, List.map_nil]); first | done | rfl | (simp only [List.length_drop, List.length_take]; rfl)) ?_
              with_reducible refine (erasureref18_Means.calls ((rd_T37 l0_1 x3_1).f2) false _ A43.out).mono ?_
              rintro e w' ⟨rfl, ⟨nd, rfl⟩⟩
              refine ⟨_, rfl, ?_⟩
              refine hK.out _ _ ⟨(blk_cell BK128.out 0).trans rfl, (blk_cell BK128.out 1).trans rfl, (blk_cell BK128.out 2).trans rfl, (blk_cell BK130.out 0).trans rfl, (blk_cell BK130.out 1).trans rfl, (blk_cell BK130.out 2).trans rfl, ((HB.out.cell (World.block_lt_of_cell? w _ hw132_0)).trans hw132_0), ((HB.out.cell (World.block_lt_of_cell? w _ hw132_1)).trans hw132_1), ((HB.out.cell (World.block_lt_of_cell? w _ hw132_2)).trans hw132_2)⟩ (fun hHeld => ?_)
              clear hK K
              refine norm_ (by show Act.put _ (some 55) _ = _; simp only [s0_, s1_, s2_, s3_, s4_, s5_]; rfl) ?_
              refine pu_ 39 56 (tk_ 42 1099511627775) HT_.out rfl rfl (by kernel_rfl) (fun _ _ _ h => h) (by rfl) (fun w' => by go_simp; with_reducible rfl) (by simp only [s0_, s1_, s2_, s3_, s4_, s5_]; rfl) ?_
              refine pu_ 40 57 (tk_ 42 2199023255551) HT_.out rfl rfl (by kernel_rfl) (fun _ _ _ h => h) (by rfl) (fun w' => by go_simp; with_reducible rfl) (by simp only [s0_, s1_, s2_, s3_, s4_, s5_]; rfl) ?_
              refine pu_ 41 58 (tk_ 42 4398046511103) HT_.out rfl rfl (by kernel_rfl) (fun _ _ _ h => h) (by rfl) (fun w' => by go_simp; with_reducible rfl) (by simp only [s0_, s1_, s2_, s3_, s4_, s5_]; rfl) ?_
              refine done_ (done_of HT_.out (by kernel_rfl)) ?_
              try go_wp2
              go_ret
              exact ⟨by first | rfl | (simp [errW_none, errW_some] <;> rfl) | (simp only [← hji8]; first | rfl | (simp [errW_none, errW_some] <;> rfl)) | (simp [*, errW_none, errW_some] <;> rfl), by repeat (first | (with_reducible first | exact HB.out | apply below_alloc | apply pw_below_drewN | apply below_drew1 | refine below_set ?_ GE128.out | refine below_set ?_ GE130.out) | exact HB.out)⟩
        ·rw [if_neg c10] at H
         exact absurd H (by simp)
       ·rw [if_neg c9] at H
        exact absurd H (by simp)
      ·rw [if_neg c7] at H
       have c7b0 : decide (0 < x3_1) = false := decide_eq_false c7
       clear c7
       by_cases c59 : ((rd_T37 l0_1 x3_1).f1) < 0
       ·rw [if_pos c59] at H
        have c59b0 : decide (((rd_T37 l0_1 x3_1).f1) < 0) = true := decide_eq_true c59
        clear c59
        obtain rfl := Option.some.inj H
        have hcz60_0 : wr.cell? ⟨gb128, 0, none⟩ = some (.bool a0_0) := (blk_cell BK128.out 0).trans rfl
        have hcz60_1 : wr.cell? ⟨gb128, 1, none⟩ = some (.slice A0_1 l0_1.length c0_1) := (blk_cell BK128.out 1).trans rfl
        have hcz60_2 : wr.cell? ⟨gb128, 2, none⟩ = some (.int .i64 a0_2) := (blk_cell BK128.out 2).trans rfl
        have hfz60_0 := blk_frozen BK128.out 0
        have hfz60_1 := blk_frozen BK128.out 1
        have hfz60_2 := blk_frozen BK128.out 2
        have p129 : 0 ≤ (x3_1 : Int) := of_decide_eq_true (by first | (with_reducible assumption) | assumption)
        have q129 : x3_1 < (l0_1.length : Int) := of_decide_eq_true (by first | (with_reducible assumption) | assumption)
        obtain ⟨ad129, e129, hx129_0, hx129_1, hx129_2⟩ := at_T37 HR0_1.out x3_1 p129 q129
        cases e129
        replace hx129_0 := (HB.out.cell (World.block_lt_of_cell? w _ hx129_0)).trans hx129_0
        replace hx129_1 := (HB.out.cell (World.block_lt_of_cell? w _ hx129_1)).trans hx129_1
        replace hx129_2 := (HB.out.cell (World.block_lt_of_cell? w _ hx129_2)).trans hx129_2
        replace p129 := eq_true p129
        replace q129 := eq_true q129
        try go_wp2_with (first | ((with_reducible refine gate_dst (N := 4) rfl ?_); (try (refine gate_guard (by rfl) ?_; dsimp only)); refine box_event ?hg (N := 4) ?hd (cs := #[.int .i64 0, .int .i64 0, .string (⟨#[]⟩ : ByteArray)]) (t := 37) ?hr ?_; (case hd => rfl); (case hg => rfl); (case hr => first | (go_simp; done) | (go_simp; rfl)); intro gb130 hg w61 hbox hb; have n0_ := Aside0.mk (blk_below (g := gb128) (o := .cells #[.bool a0_0, .slice (some ad129) l0_1.length c0_1, .int .i64 a0_2] 24 (0, 0)) (by (with_reducible repeat (first | refine blk_drewN ?_ _ | refine blk_drew ?_ | refine blk_alloc ?_ _)); exact BK128.out) hb); have n1_ := Aside0.mk (below_step (by repeat (first | (with_reducible first | exact HB.out | apply below_alloc | apply pw_below_drewN | apply below_drew1 | refine below_set ?_ GE128.out) | exact HB.out)) hb); have n2_ := Aside0.mk (hbox); have n3_ := Aside0.mk ((by rw [hg]; exact (below_size (by repeat (first | (with_reducible first | exact HB.out | apply below_alloc | apply pw_below_drewN | apply below_drew1 | refine below_set ?_ GE128.out) | exact HB.out))) : w.heap.size ≤ gb130)); have n4_ := Aside0.mk ((by rw [hg]; exact (below_size (by repeat (first | (with_reducible first | exact HB.out | apply below_alloc | apply pw_below_drewN | apply below_drew1 | refine below_set ?_ GE128.out) | exact HB.out))) : w.heap.size ≤ gb130)); have n5_ := Aside0.mk ((by rw [hg]; exact Nat.ne_of_lt (blk_lt (g := gb128) (o := .cells #[.bool a0_0, .slice (some ad129) l0_1.length c0_1, .int .i64 a0_2] 24 (0, 0)) (by (with_reducible repeat (first | refine blk_drewN ?_ _ | refine blk_drew ?_ | refine blk_alloc ?_ _)); exact BK128.out)) : gb128 ≠ gb130)); have n6_ := Aside0.mk ((by rw [hg]; exact Nat.ne_of_gt (blk_lt (g := gb128) (o := .cells #[.bool a0_0, .slice (some ad129) l0_1.length c0_1, .int .i64 a0_2] 24 (0, 0)) (by (with_reducible repeat (first | refine blk_drewN ?_ _ | refine blk_drew ?_ | refine blk_alloc ?_ _)); exact BK128.out)) : gb130 ≠ gb128)); clear BK128; clear HB; have BK128 := n0_; have HB := n1_; have BK130 := n2_; have GW130 := n3_; have GE130 := n4_; have NB128_130 := n5_; have NB130_128 := n6_; clear n0_ n1_ n2_ n3_ n4_ n5_ n6_; clear hb hbox hg; have hnb62 := NB130_128.out; have hnc62 := NB128_130.out; have hcz63_0 : w61.cell? ⟨gb130, 0, none⟩ = some (.int .i64 0) := (blk_cell BK130.out 0).trans rfl; have hcz63_1 : w61.cell? ⟨gb130, 1, none⟩ = some (.int .i64 0) := (blk_cell BK130.out 1).trans rfl; have hcz63_2 : w61.cell? ⟨gb130, 2, none⟩ = some (.string (⟨#[]⟩ : ByteArray)) := (blk_cell BK130.out 2).trans rfl; have hfz63_0 := blk_frozen BK130.out 0; have hfz63_1 := blk_frozen BK130.out 1; have hfz63_2 := blk_frozen BK130.out 2))
        have n0_ : Aside0 ((((w61.setCell ⟨gb130, 0, none⟩ (.int .i64 ((rd_T37 l0_1 x3_1).f0))).setCell ⟨gb130, 1, none⟩ (.int .i64 ((rd_T37 l0_1 x3_1).f1))).setCell ⟨gb130, 2, none⟩ (.string ((rd_T37 l0_1 x3_1).f2))).heap[gb128]? = some (.cells #[.bool a0_0, .slice (some ad129) l0_1.length c0_1, .int .i64 a0_2] 24 (0, 0))) := ⟨by (with_reducible repeat (first | refine blk_drewN ?_ _ | refine blk_drew ?_ | refine blk_alloc ?_ _)); refine blk_far ?_ NB128_130.out _; (with_reducible repeat (first | refine blk_drewN ?_ _ | refine blk_drew ?_ | refine blk_alloc ?_ _)); refine blk_far ?_ NB128_130.out _; (with_reducible repeat (first | refine blk_drewN ?_ _ | refine blk_drew ?_ | refine blk_alloc ?_ _)); refine blk_far ?_ NB128_130.out _; (with_reducible repeat (first | refine blk_drewN ?_ _ | refine blk_drew ?_ | refine blk_alloc ?_ _)); exact BK128.out⟩
        have n1_ : Aside0 ((((w61.setCell ⟨gb130, 0, none⟩ (.int .i64 ((rd_T37 l0_1 x3_1).f0))).setCell ⟨gb130, 1, none⟩ (.int .i64 ((rd_T37 l0_1 x3_1).f1))).setCell ⟨gb130, 2, none⟩ (.string ((rd_T37 l0_1 x3_1).f2))).heap[gb130]? = some (.cells #[.int .i64 ((rd_T37 l0_1 x3_1).f0), .int .i64 ((rd_T37 l0_1 x3_1).f1), .string ((rd_T37 l0_1 x3_1).f2)] 37 (0, 0))) := ⟨by (with_reducible repeat (first | refine blk_drewN ?_ _ | refine blk_drew ?_ | refine blk_alloc ?_ _)); refine blk_put (cs := #[.int .i64 ((rd_T37 l0_1 x3_1).f0), .int .i64 ((rd_T37 l0_1 x3_1).f1), .string (⟨#[]⟩ : ByteArray)]) ?_ 2 _ rfl; (with_reducible repeat (first | refine blk_drewN ?_ _ | refine blk_drew ?_ | refine blk_alloc ?_ _)); refine blk_put (cs := #[.int .i64 ((rd_T37 l0_1 x3_1).f0), .int .i64 0, .string (⟨#[]⟩ : ByteArray)]) ?_ 1 _ rfl; (with_reducible repeat (first | refine blk_drewN ?_ _ | refine blk_drew ?_ | refine blk_alloc ?_ _)); refine blk_put (cs := #[.int .i64 0, .int .i64 0, .string (⟨#[]⟩ : ByteArray)]) ?_ 0 _ rfl; (with_reducible repeat (first | refine blk_drewN ?_ _ | refine blk_drew ?_ | refine blk_alloc ?_ _)); exact BK130.out⟩
        have n2_ : Aside0 (Below w.heap.size w (((w61.setCell ⟨gb130, 0, none⟩ (.int .i64 ((rd_T37 l0_1 x3_1).f0))).setCell ⟨gb130, 1, none⟩ (.int .i64 ((rd_T37 l0_1 x3_1).f1))).setCell ⟨gb130, 2, none⟩ (.string ((rd_T37 l0_1 x3_1).f2)))) := ⟨by repeat (first | (with_reducible first | exact HB.out | apply below_alloc | apply pw_below_drewN | apply below_drew1 | refine below_set ?_ GE128.out | refine below_set ?_ GE130.out) | exact HB.out)⟩
        (try clear BK128)
        (try clear BK130)
        (try clear HB)
        generalize (((w61.setCell ⟨gb130, 0, none⟩ (.int .i64 ((rd_T37 l0_1 x3_1).f0))).setCell ⟨gb130, 1, none⟩ (.int .i64 ((rd_T37 l0_1 x3_1).f1))).setCell ⟨gb130, 2, none⟩ (.string ((rd_T37 l0_1 x3_1).f2))) = w64 at n0_ n1_ n2_ ⊢
        have BK128 := n0_
        have BK130 := n1_
        have HB := n2_
        clear n0_ n1_ n2_
        have n0_ := Aside0.mk (blk_drew BK128.out)
        have n1_ := Aside0.mk (blk_drew BK130.out)
        have n2_ := Aside0.mk (below_drew1 HB.out)
        clear BK128
        clear BK130
        clear HB
        have BK128 := n0_
        have BK130 := n1_
        have HB := n2_
        clear n0_ n1_ n2_
        refine start_ (n := 42) (S := fun w' => w'.cell? ⟨gb128, 0, none⟩ = some (.bool a0_0) ∧ w'.cell? ⟨gb128, 1, none⟩ = some (.slice (some ad129) l0_1.length c0_1) ∧ w'.cell? ⟨gb128, 2, none⟩ = some (.int .i64 a0_2) ∧ w'.cell? ⟨gb130, 0, none⟩ = some (.int .i64 ((rd_T37 l0_1 x3_1).f0)) ∧ w'.cell? ⟨gb130, 1, none⟩ = some (.int .i64 ((rd_T37 l0_1 x3_1).f1)) ∧ w'.cell? ⟨gb130, 2, none⟩ = some (.string ((rd_T37 l0_1 x3_1).f2))) (ds := []) (tk_ 42 0) (by kernel_rfl) rfl (by kernel_rfl) ⟨(blk_cell BK128.out 0).trans rfl, (blk_cell BK128.out 1).trans rfl, (blk_cell BK128.out 2).trans rfl, (blk_cell BK130.out 0).trans rfl, (blk_cell BK130.out 1).trans rfl, (blk_cell BK130.out 2).trans rfl⟩ (fun hHeld => ?_); refine with_tabW erasureref19_Right.tab5 erasureref19_Right.bits5 (fun HT_ HW_ => ?_)
        generalize w64.drew = w65 at BK128 BK130 HB hHeld ⊢
        refine pu_ 1 18 (tk_ 42 2) HT_.out rfl rfl (by kernel_rfl) (fun _ _ _ h => h) (by rfl) (fun w' => by go_simp; with_reducible rfl) (by simp only [s0_, s1_, s2_, s3_, s4_, s5_]; rfl) ?_
        refine ta_ 0 17 (tk_ 42 3) HT_.out HW_.out rfl rfl (by kernel_rfl) (fun _ _ _ h => h) (by rfl) (by rintro w' ⟨s0, s1, s2, s3, s4, s5⟩; go_simp; with_reducible rfl) hHeld (by simp only [s0_, s1_, s2_, s3_, s4_, s5_]; rfl) ?_
        refine ta_ 2 19 (tk_ 42 7) HT_.out HW_.out rfl rfl (by kernel_rfl) (fun _ _ _ h => h) (by rfl) (by rintro w' ⟨s0, s1, s2, s3, s4, s5⟩; go_simp; with_reducible rfl) hHeld (by simp only [s0_, s1_, s2_, s3_, s4_, s5_]; rfl) ?_
        refine one_ (i := 3) (N := some 20) (tk_ 42 15) rfl rfl (one_of HT_.out (by kernel_rfl)) (by decide) (fun K hK => ?_)
        refine goes_ Try.func34 (by kernel_rfl) rfl #[.agg #[.bool a0_0, .slice (some ad129) l0_1.length c0_1, .int .i64 a0_2], .int .i64 ((rd_T37 l0_1 x3_1).f0)] (by rfl) rfl rfl (by (try simp only [List.map_toArray, List.map_cons, List.map_nil]); first | done | rfl | (simp only [List.length_drop, List.length_take]; rfl)) ?_
        with_reducible refine (erasureref19_code.calls a0_0 _ _ l0_1 a0_2 ((rd_T37 l0_1 x3_1).f0) true _ ?side1 ?side2 A5.out).mono ?_
        (case side1 => repeat (first | exact (Kd.C_below HR0_1.out HB.out) | (with_reducible refine Kd.C_alloc ?_ _) | (with_reducible refine Kd.C_drewN ?_ _) | (with_reducible refine Kd.C_drew ?_)))
        (case side2 => exact HC0_1.out)
        rintro e w66 ⟨rfl, hb⟩
        refine ⟨_, rfl, ?_⟩
        have n0_ := Aside0.mk (blk_below (g := gb128) (o := .cells #[.bool a0_0, .slice (some ad129) l0_1.length c0_1, .int .i64 a0_2] 24 (0, 0)) (by (with_reducible repeat (first | refine blk_drewN ?_ _ | refine blk_drew ?_ | refine blk_alloc ?_ _)); exact BK128.out) hb)
        have n1_ := Aside0.mk (blk_below (g := gb130) (o := .cells #[.int .i64 ((rd_T37 l0_1 x3_1).f0), .int .i64 ((rd_T37 l0_1 x3_1).f1), .string ((rd_T37 l0_1 x3_1).f2)] 37 (0, 0)) (by (with_reducible repeat (first | refine blk_drewN ?_ _ | refine blk_drew ?_ | refine blk_alloc ?_ _)); exact BK130.out) hb)
        have n2_ := Aside0.mk (below_step (by repeat (first | (with_reducible first | exact HB.out | apply below_alloc | apply pw_below_drewN | apply below_drew1 | refine below_set ?_ GE128.out | refine below_set ?_ GE130.out) | exact HB.out)) hb)
        clear BK128
        clear BK130
        clear HB
        have BK128 := n0_
        have BK130 := n1_
        have HB := n2_
        clear n0_ n1_ n2_
        (try clear hb)
        (try clear hb2)
        (try clear hk)
        (try clear hi)
        refine hK.out _ _ ⟨(blk_cell BK128.out 0).trans rfl, (blk_cell BK128.out 1).trans rfl, (blk_cell BK128.out 2).trans rfl, (blk_cell BK130.out 0).trans rfl, (blk_cell BK130.out 1).trans rfl, (blk_cell BK130.out 2).trans rfl⟩ (fun hHeld => ?_)
        clear hK K
        refine norm_ (by show Act.put _ (some 20) _ = _; simp only [s0_, s1_, s2_, s3_, s4_, s5_]; rfl) ?_
        refine pu_ 4 21 (tk_ 42 31) HT_.out rfl rfl (by kernel_rfl) (fun _ _ _ h => h) (by rfl) (fun w' => by go_simp; with_reducible rfl) (by simp only [s0_, s1_, s2_, s3_, s4_, s5_]; rfl) ?_
        refine pu_ 5 22 (tk_ 42 63) HT_.out rfl rfl (by kernel_rfl) (fun _ _ _ h => h) (by rfl) (fun w' => by go_simp; with_reducible rfl) (by simp only [s0_, s1_, s2_, s3_, s4_, s5_]; rfl) ?_
        refine pu_ 6 23 (tk_ 42 127) HT_.out rfl rfl (by kernel_rfl) (fun _ _ _ h => h) (by rfl) (fun w' => by go_simp; with_reducible rfl) (by simp only [s0_, s1_, s2_, s3_, s4_, s5_]; rfl) ?_
        refine pu_ 7 24 (tk_ 42 255) HT_.out rfl rfl (by kernel_rfl) (fun _ _ _ h => h) (by rfl) (fun w' => by go_simp; with_reducible rfl) (by simp only [s0_, s1_, s2_, s3_, s4_, s5_]; rfl) ?_
        refine pu_ 8 25 (tk_ 42 511) HT_.out rfl rfl (by kernel_rfl) (fun _ _ _ h => h) (by rfl) (fun w' => by go_simp; with_reducible rfl) (by simp only [s0_, s1_, s2_, s3_, s4_, s5_]; rfl) ?_
        refine sk_ 9 26 (tk_ 42 1023) HT_.out rfl rfl (by kernel_rfl) (fun _ _ _ h => h) (by rfl) (by simp only [s0_, s1_, s2_, s3_, s4_, s5_]; rfl) ?_
        refine sk_ 10 27 (tk_ 42 2047) HT_.out rfl rfl (by kernel_rfl) (fun _ _ _ h => h) (by rfl) (by simp only [s0_, s1_, s2_, s3_, s4_, s5_]; rfl) ?_
        refine sk_ 11 28 (tk_ 42 4095) HT_.out rfl rfl (by kernel_rfl) (fun _ _ _ h => h) (by rfl) (by simp only [s0_, s1_, s2_, s3_, s4_, s5_]; rfl) ?_
        refine sk_ 12 29 (tk_ 42 8191) HT_.out rfl rfl (by kernel_rfl) (fun _ _ _ h => h) (by rfl) (by simp only [s0_, s1_, s2_, s3_, s4_, s5_]; rfl) ?_
        refine sk_ 13 30 (tk_ 42 16383) HT_.out rfl rfl (by kernel_rfl) (fun _ _ _ h => h) (by rfl) (by simp only [s0_, s1_, s2_, s3_, s4_, s5_]; rfl) ?_
        refine sk_ 14 31 (tk_ 42 32767) HT_.out rfl rfl (by kernel_rfl) (fun _ _ _ h => h) (by rfl) (by simp only [s0_, s1_, s2_, s3_, s4_, s5_]; rfl) ?_
        refine sk_ 15 32 (tk_ 42 65535) HT_.out rfl rfl (by kernel_rfl) (fun _ _ _ h => h) (by rfl) (by simp only [s0_, s1_, s2_, s3_, s4_, s5_]; rfl) ?_
        refine sk_ 16 33 (tk_ 42 131071) HT_.out rfl rfl (by kernel_rfl) (fun _ _ _ h => h) (by rfl) (by simp only [s0_, s1_, s2_, s3_, s4_, s5_]; rfl) ?_
        refine sk_ 17 34 (tk_ 42 262143) HT_.out rfl rfl (by kernel_rfl) (fun _ _ _ h => h) (by rfl) (by simp only [s0_, s1_, s2_, s3_, s4_, s5_]; rfl) ?_
        refine sk_ 18 35 (tk_ 42 524287) HT_.out rfl rfl (by kernel_rfl) (fun _ _ _ h => h) (by rfl) (by simp only [s0_, s1_, s2_, s3_, s4_, s5_]; rfl) ?_
        refine pu_ 19 36 (tk_ 42 1048575) HT_.out rfl rfl (by kernel_rfl) (fun _ _ _ h => h) (by rfl) (fun w' => by go_simp; with_reducible rfl) (by simp only [s0_, s1_, s2_, s3_, s4_, s5_]; rfl) ?_
        refine pu_ 20 37 (tk_ 42 2097151) HT_.out rfl rfl (by kernel_rfl) (fun _ _ _ h => h) (by rfl) (fun w' => by go_simp; with_reducible rfl) (by simp only [s0_, s1_, s2_, s3_, s4_, s5_]; rfl) ?_
        refine pu_ 21 38 (tk_ 42 4194303) HT_.out rfl rfl (by kernel_rfl) (fun _ _ _ h => h) (by rfl) (fun w' => by go_simp; with_reducible rfl) (by simp only [s0_, s1_, s2_, s3_, s4_, s5_]; rfl) ?_
        refine pu_ 22 39 (tk_ 42 8388607) HT_.out rfl rfl (by kernel_rfl) (fun _ _ _ h => h) (by rfl) (fun w' => by go_simp; with_reducible rfl) (by simp only [s0_, s1_, s2_, s3_, s4_, s5_]; rfl) ?_
        refine ta_ 23 40 (tk_ 42 16777215) HT_.out HW_.out rfl rfl (by kernel_rfl) (fun _ _ _ h => h) (by rfl) (by rintro w' ⟨s0, s1, s2, s3, s4, s5⟩; go_simp; with_reducible rfl) hHeld (by simp only [s0_, s1_, s2_, s3_, s4_, s5_]; rfl) ?_
        refine pu_ 24 41 (tk_ 42 33554431) HT_.out rfl rfl (by kernel_rfl) (fun _ _ _ h => h) (by rfl) (fun w' => by go_simp; with_reducible rfl) (by simp only [s0_, s1_, s2_, s3_, s4_, s5_]; rfl) ?_
        refine pu_ 25 42 (tk_ 42 67108863) HT_.out rfl rfl (by kernel_rfl) (fun _ _ _ h => h) (by rfl) (fun w' => by go_simp; with_reducible rfl) (by simp only [s0_, s1_, s2_, s3_, s4_, s5_]; rfl) ?_
        refine pu_ 26 43 (tk_ 42 134217727) HT_.out rfl rfl (by kernel_rfl) (fun _ _ _ h => h) (by rfl) (fun w' => by go_simp; with_reducible rfl) (by simp only [s0_, s1_, s2_, s3_, s4_, s5_]; rfl) ?_
        refine sk_ 27 44 (tk_ 42 268435455) HT_.out rfl rfl (by kernel_rfl) (fun _ _ _ h => h) (by rfl) (by simp only [s0_, s1_, s2_, s3_, s4_, s5_]; rfl) ?_
        refine sk_ 28 45 (tk_ 42 536870911) HT_.out rfl rfl (by kernel_rfl) (fun _ _ _ h => h) (by rfl) (by simp only [s0_, s1_, s2_, s3_, s4_, s5_]; rfl) ?_
        refine sk_ 29 46 (tk_ 42 1073741823) HT_.out rfl rfl (by kernel_rfl) (fun _ _ _ h => h) (by rfl) (by simp only [s0_, s1_, s2_, s3_, s4_, s5_]; rfl) ?_
        refine pu_ 30 47 (tk_ 42 2147483647) HT_.out rfl rfl (by kernel_rfl) (fun _ _ _ h => h) (by rfl) (fun w' => by go_simp; with_reducible rfl) (by simp only [s0_, s1_, s2_, s3_, s4_, s5_]; rfl) ?_
        refine pu_ 31 48 (tk_ 42 4294967295) HT_.out rfl rfl (by kernel_rfl) (fun _ _ _ h => h) (by rfl) (fun w' => by go_simp; with_reducible rfl) (by simp only [s0_, s1_, s2_, s3_, s4_, s5_]; rfl) ?_
        refine sk_ 32 49 (tk_ 42 8589934591) HT_.out rfl rfl (by kernel_rfl) (fun _ _ _ h => h) (by rfl) (by simp only [s0_, s1_, s2_, s3_, s4_, s5_]; rfl) ?_
        refine sk_ 33 50 (tk_ 42 17179869183) HT_.out rfl rfl (by kernel_rfl) (fun _ _ _ h => h) (by rfl) (by simp only [s0_, s1_, s2_, s3_, s4_, s5_]; rfl) ?_
        refine sk_ 34 51 (tk_ 42 34359738367) HT_.out rfl rfl (by kernel_rfl) (fun _ _ _ h => h) (by rfl) (by simp only [s0_, s1_, s2_, s3_, s4_, s5_]; rfl) ?_
        refine sk_ 35 52 (tk_ 42 68719476735) HT_.out rfl rfl (by kernel_rfl) (fun _ _ _ h => h) (by rfl) (by simp only [s0_, s1_, s2_, s3_, s4_, s5_]; rfl) ?_
        refine sk_ 36 53 (tk_ 42 137438953471) HT_.out rfl rfl (by kernel_rfl) (fun _ _ _ h => h) (by rfl) (by simp only [s0_, s1_, s2_, s3_, s4_, s5_]; rfl) ?_
        refine sk_ 37 54 (tk_ 42 274877906943) HT_.out rfl rfl (by kernel_rfl) (fun _ _ _ h => h) (by rfl) (by simp only [s0_, s1_, s2_, s3_, s4_, s5_]; rfl) ?_
        refine sk_ 38 55 (tk_ 42 549755813887) HT_.out rfl rfl (by kernel_rfl) (fun _ _ _ h => h) (by rfl) (by simp only [s0_, s1_, s2_, s3_, s4_, s5_]; rfl) ?_
        refine sk_ 39 56 (tk_ 42 1099511627775) HT_.out rfl rfl (by kernel_rfl) (fun _ _ _ h => h) (by rfl) (by simp only [s0_, s1_, s2_, s3_, s4_, s5_]; rfl) ?_
        refine sk_ 40 57 (tk_ 42 2199023255551) HT_.out rfl rfl (by kernel_rfl) (fun _ _ _ h => h) (by rfl) (by simp only [s0_, s1_, s2_, s3_, s4_, s5_]; rfl) ?_
        refine pu_ 41 58 (tk_ 42 4398046511103) HT_.out rfl rfl (by kernel_rfl) (fun _ _ _ h => h) (by rfl) (fun w' => by go_simp; with_reducible rfl) (by simp only [s0_, s1_, s2_, s3_, s4_, s5_]; rfl) ?_
        refine done_ (done_of HT_.out (by kernel_rfl)) ?_
        try go_wp2
        go_ret
        exact ⟨by first | rfl | (simp [errW_none, errW_some] <;> rfl) | (simp [*, errW_none, errW_some] <;> rfl), by repeat (first | (with_reducible first | exact HB.out | apply below_alloc | apply pw_below_drewN | apply below_drew1 | refine below_set ?_ GE128.out | refine below_set ?_ GE130.out) | exact HB.out)⟩
       ·rw [if_neg c59] at H
        have c59b0 : decide (((rd_T37 l0_1 x3_1).f1) < 0) = false := decide_eq_false c59
        clear c59
        by_cases c67 : ((rd_T37 l0_1 x3_1).f1) > 10000
        ·rw [if_pos c67] at H
         have c67b0 : decide (10000 < ((rd_T37 l0_1 x3_1).f1)) = true := decide_eq_true c67
         clear c67
         obtain rfl := Option.some.inj H
         have hcz68_0 : wr.cell? ⟨gb128, 0, none⟩ = some (.bool a0_0) := (blk_cell BK128.out 0).trans rfl
         have hcz68_1 : wr.cell? ⟨gb128, 1, none⟩ = some (.slice A0_1 l0_1.length c0_1) := (blk_cell BK128.out 1).trans rfl
         have hcz68_2 : wr.cell? ⟨gb128, 2, none⟩ = some (.int .i64 a0_2) := (blk_cell BK128.out 2).trans rfl
         have hfz68_0 := blk_frozen BK128.out 0
         have hfz68_1 := blk_frozen BK128.out 1
         have hfz68_2 := blk_frozen BK128.out 2
         have p129 : 0 ≤ (x3_1 : Int) := of_decide_eq_true (by first | (with_reducible assumption) | assumption)
         have q129 : x3_1 < (l0_1.length : Int) := of_decide_eq_true (by first | (with_reducible assumption) | assumption)
         obtain ⟨ad129, e129, hx129_0, hx129_1, hx129_2⟩ := at_T37 HR0_1.out x3_1 p129 q129
         cases e129
         replace hx129_0 := (HB.out.cell (World.block_lt_of_cell? w _ hx129_0)).trans hx129_0
         replace hx129_1 := (HB.out.cell (World.block_lt_of_cell? w _ hx129_1)).trans hx129_1
         replace hx129_2 := (HB.out.cell (World.block_lt_of_cell? w _ hx129_2)).trans hx129_2
         replace p129 := eq_true p129
         replace q129 := eq_true q129
         try go_wp2_with (first | ((with_reducible refine gate_dst (N := 4) rfl ?_); (try (refine gate_guard (by rfl) ?_; dsimp only)); refine box_event ?hg (N := 4) ?hd (cs := #[.int .i64 0, .int .i64 0, .string (⟨#[]⟩ : ByteArray)]) (t := 37) ?hr ?_; (case hd => rfl); (case hg => rfl); (case hr => first | (go_simp; done) | (go_simp; rfl)); intro gb130 hg w69 hbox hb; have n0_ := Aside0.mk (blk_below (g := gb128) (o := .cells #[.bool a0_0, .slice (some ad129) l0_1.length c0_1, .int .i64 a0_2] 24 (0, 0)) (by (with_reducible repeat (first | refine blk_drewN ?_ _ | refine blk_drew ?_ | refine blk_alloc ?_ _)); exact BK128.out) hb); have n1_ := Aside0.mk (below_step (by repeat (first | (with_reducible first | exact HB.out | apply below_alloc | apply pw_below_drewN | apply below_drew1 | refine below_set ?_ GE128.out) | exact HB.out)) hb); have n2_ := Aside0.mk (hbox); have n3_ := Aside0.mk ((by rw [hg]; exact (below_size (by repeat (first | (with_reducible first | exact HB.out | apply below_alloc | apply pw_below_drewN | apply below_drew1 | refine below_set ?_ GE128.out) | exact HB.out))) : w.heap.size ≤ gb130)); have n4_ := Aside0.mk ((by rw [hg]; exact (below_size (by repeat (first | (with_reducible first | exact HB.out | apply below_alloc | apply pw_below_drewN | apply below_drew1 | refine below_set ?_ GE128.out) | exact HB.out))) : w.heap.size ≤ gb130)); have n5_ := Aside0.mk ((by rw [hg]; exact Nat.ne_of_lt (blk_lt (g := gb128) (o := .cells #[.bool a0_0, .slice (some ad129) l0_1.length c0_1, .int .i64 a0_2] 24 (0, 0)) (by (with_reducible repeat (first | refine blk_drewN ?_ _ | refine blk_drew ?_ | refine blk_alloc ?_ _)); exact BK128.out)) : gb128 ≠ gb130)); have n6_ := Aside0.mk ((by rw [hg]; exact Nat.ne_of_gt (blk_lt (g := gb128) (o := .cells #[.bool a0_0, .slice (some ad129) l0_1.length c0_1, .int .i64 a0_2] 24 (0, 0)) (by (with_reducible repeat (first | refine blk_drewN ?_ _ | refine blk_drew ?_ | refine blk_alloc ?_ _)); exact BK128.out)) : gb130 ≠ gb128)); clear BK128; clear HB; have BK128 := n0_; have HB := n1_; have BK130 := n2_; have GW130 := n3_; have GE130 := n4_; have NB128_130 := n5_; have NB130_128 := n6_; clear n0_ n1_ n2_ n3_ n4_ n5_ n6_; clear hb hbox hg; have hnb70 := NB130_128.out; have hnc70 := NB128_130.out; have hcz71_0 : w69.cell? ⟨gb130, 0, none⟩ = some (.int .i64 0) := (blk_cell BK130.out 0).trans rfl; have hcz71_1 : w69.cell? ⟨gb130, 1, none⟩ = some (.int .i64 0) := (blk_cell BK130.out 1).trans rfl; have hcz71_2 : w69.cell? ⟨gb130, 2, none⟩ = some (.string (⟨#[]⟩ : ByteArray)) := (blk_cell BK130.out 2).trans rfl; have hfz71_0 := blk_frozen BK130.out 0; have hfz71_1 := blk_frozen BK130.out 1; have hfz71_2 := blk_frozen BK130.out 2))
         have n0_ : Aside0 ((((w69.setCell ⟨gb130, 0, none⟩ (.int .i64 ((rd_T37 l0_1 x3_1).f0))).setCell ⟨gb130, 1, none⟩ (.int .i64 ((rd_T37 l0_1 x3_1).f1))).setCell ⟨gb130, 2, none⟩ (.string ((rd_T37 l0_1 x3_1).f2))).heap[gb128]? = some (.cells #[.bool a0_0, .slice (some ad129) l0_1.length c0_1, .int .i64 a0_2] 24 (0, 0))) := ⟨by (with_reducible repeat (first | refine blk_drewN ?_ _ | refine blk_drew ?_ | refine blk_alloc ?_ _)); refine blk_far ?_ NB128_130.out _; (with_reducible repeat (first | refine blk_drewN ?_ _ | refine blk_drew ?_ | refine blk_alloc ?_ _)); refine blk_far ?_ NB128_130.out _; (with_reducible repeat (first | refine blk_drewN ?_ _ | refine blk_drew ?_ | refine blk_alloc ?_ _)); refine blk_far ?_ NB128_130.out _; (with_reducible repeat (first | refine blk_drewN ?_ _ | refine blk_drew ?_ | refine blk_alloc ?_ _)); exact BK128.out⟩
         have n1_ : Aside0 ((((w69.setCell ⟨gb130, 0, none⟩ (.int .i64 ((rd_T37 l0_1 x3_1).f0))).setCell ⟨gb130, 1, none⟩ (.int .i64 ((rd_T37 l0_1 x3_1).f1))).setCell ⟨gb130, 2, none⟩ (.string ((rd_T37 l0_1 x3_1).f2))).heap[gb130]? = some (.cells #[.int .i64 ((rd_T37 l0_1 x3_1).f0), .int .i64 ((rd_T37 l0_1 x3_1).f1), .string ((rd_T37 l0_1 x3_1).f2)] 37 (0, 0))) := ⟨by (with_reducible repeat (first | refine blk_drewN ?_ _ | refine blk_drew ?_ | refine blk_alloc ?_ _)); refine blk_put (cs := #[.int .i64 ((rd_T37 l0_1 x3_1).f0), .int .i64 ((rd_T37 l0_1 x3_1).f1), .string (⟨#[]⟩ : ByteArray)]) ?_ 2 _ rfl; (with_reducible repeat (first | refine blk_drewN ?_ _ | refine blk_drew ?_ | refine blk_alloc ?_ _)); refine blk_put (cs := #[.int .i64 ((rd_T37 l0_1 x3_1).f0), .int .i64 0, .string (⟨#[]⟩ : ByteArray)]) ?_ 1 _ rfl; (with_reducible repeat (first | refine blk_drewN ?_ _ | refine blk_drew ?_ | refine blk_alloc ?_ _)); refine blk_put (cs := #[.int .i64 0, .int .i64 0, .string (⟨#[]⟩ : ByteArray)]) ?_ 0 _ rfl; (with_reducible repeat (first | refine blk_drewN ?_ _ | refine blk_drew ?_ | refine blk_alloc ?_ _)); exact BK130.out⟩
         have n2_ : Aside0 (Below w.heap.size w (((w69.setCell ⟨gb130, 0, none⟩ (.int .i64 ((rd_T37 l0_1 x3_1).f0))).setCell ⟨gb130, 1, none⟩ (.int .i64 ((rd_T37 l0_1 x3_1).f1))).setCell ⟨gb130, 2, none⟩ (.string ((rd_T37 l0_1 x3_1).f2)))) := ⟨by repeat (first | (with_reducible first | exact HB.out | apply below_alloc | apply pw_below_drewN | apply below_drew1 | refine below_set ?_ GE128.out | refine below_set ?_ GE130.out) | exact HB.out)⟩
         (try clear BK128)
         (try clear BK130)
         (try clear HB)
         generalize (((w69.setCell ⟨gb130, 0, none⟩ (.int .i64 ((rd_T37 l0_1 x3_1).f0))).setCell ⟨gb130, 1, none⟩ (.int .i64 ((rd_T37 l0_1 x3_1).f1))).setCell ⟨gb130, 2, none⟩ (.string ((rd_T37 l0_1 x3_1).f2))) = w72 at n0_ n1_ n2_ ⊢
         have BK128 := n0_
         have BK130 := n1_
         have HB := n2_
         clear n0_ n1_ n2_
         have n0_ := Aside0.mk (blk_drew BK128.out)
         have n1_ := Aside0.mk (blk_drew BK130.out)
         have n2_ := Aside0.mk (below_drew1 HB.out)
         clear BK128
         clear BK130
         clear HB
         have BK128 := n0_
         have BK130 := n1_
         have HB := n2_
         clear n0_ n1_ n2_
         refine start_ (n := 42) (S := fun w' => w'.cell? ⟨gb128, 0, none⟩ = some (.bool a0_0) ∧ w'.cell? ⟨gb128, 1, none⟩ = some (.slice (some ad129) l0_1.length c0_1) ∧ w'.cell? ⟨gb128, 2, none⟩ = some (.int .i64 a0_2) ∧ w'.cell? ⟨gb130, 0, none⟩ = some (.int .i64 ((rd_T37 l0_1 x3_1).f0)) ∧ w'.cell? ⟨gb130, 1, none⟩ = some (.int .i64 ((rd_T37 l0_1 x3_1).f1)) ∧ w'.cell? ⟨gb130, 2, none⟩ = some (.string ((rd_T37 l0_1 x3_1).f2))) (ds := []) (tk_ 42 0) (by kernel_rfl) rfl (by kernel_rfl) ⟨(blk_cell BK128.out 0).trans rfl, (blk_cell BK128.out 1).trans rfl, (blk_cell BK128.out 2).trans rfl, (blk_cell BK130.out 0).trans rfl, (blk_cell BK130.out 1).trans rfl, (blk_cell BK130.out 2).trans rfl⟩ (fun hHeld => ?_); refine with_tabW erasureref19_Right.tab5 erasureref19_Right.bits5 (fun HT_ HW_ => ?_)
         generalize w72.drew = w73 at BK128 BK130 HB hHeld ⊢
         refine pu_ 1 18 (tk_ 42 2) HT_.out rfl rfl (by kernel_rfl) (fun _ _ _ h => h) (by rfl) (fun w' => by go_simp; with_reducible rfl) (by simp only [s0_, s1_, s2_, s3_, s4_, s5_]; rfl) ?_
         refine ta_ 0 17 (tk_ 42 3) HT_.out HW_.out rfl rfl (by kernel_rfl) (fun _ _ _ h => h) (by rfl) (by rintro w' ⟨s0, s1, s2, s3, s4, s5⟩; go_simp; with_reducible rfl) hHeld (by simp only [s0_, s1_, s2_, s3_, s4_, s5_]; rfl) ?_
         refine ta_ 2 19 (tk_ 42 7) HT_.out HW_.out rfl rfl (by kernel_rfl) (fun _ _ _ h => h) (by rfl) (by rintro w' ⟨s0, s1, s2, s3, s4, s5⟩; go_simp; with_reducible rfl) hHeld (by simp only [s0_, s1_, s2_, s3_, s4_, s5_]; rfl) ?_
         refine one_ (i := 3) (N := some 20) (tk_ 42 15) rfl rfl (one_of HT_.out (by kernel_rfl)) (by decide) (fun K hK => ?_)
         refine goes_ Try.func34 (by kernel_rfl) rfl #[.agg #[.bool a0_0, .slice (some ad129) l0_1.length c0_1, .int .i64 a0_2], .int .i64 ((rd_T37 l0_1 x3_1).f0)] (by rfl) rfl rfl (by (try simp only [List.map_toArray, List.map_cons, List.map_nil]); first | done | rfl | (simp only [List.length_drop, List.length_take]; rfl)) ?_
         with_reducible refine (erasureref19_code.calls a0_0 _ _ l0_1 a0_2 ((rd_T37 l0_1 x3_1).f0) true _ ?side1 ?side2 A5.out).mono ?_
         (case side1 => repeat (first | exact (Kd.C_below HR0_1.out HB.out) | (with_reducible refine Kd.C_alloc ?_ _) | (with_reducible refine Kd.C_drewN ?_ _) | (with_reducible refine Kd.C_drew ?_)))
         (case side2 => exact HC0_1.out)
         rintro e w74 ⟨rfl, hb⟩
         refine ⟨_, rfl, ?_⟩
         have n0_ := Aside0.mk (blk_below (g := gb128) (o := .cells #[.bool a0_0, .slice (some ad129) l0_1.length c0_1, .int .i64 a0_2] 24 (0, 0)) (by (with_reducible repeat (first | refine blk_drewN ?_ _ | refine blk_drew ?_ | refine blk_alloc ?_ _)); exact BK128.out) hb)
         have n1_ := Aside0.mk (blk_below (g := gb130) (o := .cells #[.int .i64 ((rd_T37 l0_1 x3_1).f0), .int .i64 ((rd_T37 l0_1 x3_1).f1), .string ((rd_T37 l0_1 x3_1).f2)] 37 (0, 0)) (by (with_reducible repeat (first | refine blk_drewN ?_ _ | refine blk_drew ?_ | refine blk_alloc ?_ _)); exact BK130.out) hb)
         have n2_ := Aside0.mk (below_step (by repeat (first | (with_reducible first | exact HB.out | apply below_alloc | apply pw_below_drewN | apply below_drew1 | refine below_set ?_ GE128.out | refine below_set ?_ GE130.out) | exact HB.out)) hb)
         clear BK128
         clear BK130
         clear HB
         have BK128 := n0_
         have BK130 := n1_
         have HB := n2_
         clear n0_ n1_ n2_
         (try clear hb)
         (try clear hb2)
         (try clear hk)
         (try clear hi)
         refine hK.out _ _ ⟨(blk_cell BK128.out 0).trans rfl, (blk_cell BK128.out 1).trans rfl, (blk_cell BK128.out 2).trans rfl, (blk_cell BK130.out 0).trans rfl, (blk_cell BK130.out 1).trans rfl, (blk_cell BK130.out 2).trans rfl⟩ (fun hHeld => ?_)
         clear hK K
         refine norm_ (by show Act.put _ (some 20) _ = _; simp only [s0_, s1_, s2_, s3_, s4_, s5_]; rfl) ?_
         refine pu_ 4 21 (tk_ 42 31) HT_.out rfl rfl (by kernel_rfl) (fun _ _ _ h => h) (by rfl) (fun w' => by go_simp; with_reducible rfl) (by simp only [s0_, s1_, s2_, s3_, s4_, s5_]; rfl) ?_
         refine pu_ 5 22 (tk_ 42 63) HT_.out rfl rfl (by kernel_rfl) (fun _ _ _ h => h) (by rfl) (fun w' => by go_simp; with_reducible rfl) (by simp only [s0_, s1_, s2_, s3_, s4_, s5_]; rfl) ?_
         refine pu_ 6 23 (tk_ 42 127) HT_.out rfl rfl (by kernel_rfl) (fun _ _ _ h => h) (by rfl) (fun w' => by go_simp; with_reducible rfl) (by simp only [s0_, s1_, s2_, s3_, s4_, s5_]; rfl) ?_
         refine pu_ 7 24 (tk_ 42 255) HT_.out rfl rfl (by kernel_rfl) (fun _ _ _ h => h) (by rfl) (fun w' => by go_simp; with_reducible rfl) (by simp only [s0_, s1_, s2_, s3_, s4_, s5_]; rfl) ?_
         refine pu_ 8 25 (tk_ 42 511) HT_.out rfl rfl (by kernel_rfl) (fun _ _ _ h => h) (by rfl) (fun w' => by go_simp; with_reducible rfl) (by simp only [s0_, s1_, s2_, s3_, s4_, s5_]; rfl) ?_
         refine sk_ 9 26 (tk_ 42 1023) HT_.out rfl rfl (by kernel_rfl) (fun _ _ _ h => h) (by rfl) (by simp only [s0_, s1_, s2_, s3_, s4_, s5_]; rfl) ?_
         refine sk_ 10 27 (tk_ 42 2047) HT_.out rfl rfl (by kernel_rfl) (fun _ _ _ h => h) (by rfl) (by simp only [s0_, s1_, s2_, s3_, s4_, s5_]; rfl) ?_
         refine sk_ 11 28 (tk_ 42 4095) HT_.out rfl rfl (by kernel_rfl) (fun _ _ _ h => h) (by rfl) (by simp only [s0_, s1_, s2_, s3_, s4_, s5_]; rfl) ?_
         refine sk_ 12 29 (tk_ 42 8191) HT_.out rfl rfl (by kernel_rfl) (fun _ _ _ h => h) (by rfl) (by simp only [s0_, s1_, s2_, s3_, s4_, s5_]; rfl) ?_
         refine sk_ 13 30 (tk_ 42 16383) HT_.out rfl rfl (by kernel_rfl) (fun _ _ _ h => h) (by rfl) (by simp only [s0_, s1_, s2_, s3_, s4_, s5_]; rfl) ?_
         refine sk_ 14 31 (tk_ 42 32767) HT_.out rfl rfl (by kernel_rfl) (fun _ _ _ h => h) (by rfl) (by simp only [s0_, s1_, s2_, s3_, s4_, s5_]; rfl) ?_
         refine sk_ 15 32 (tk_ 42 65535) HT_.out rfl rfl (by kernel_rfl) (fun _ _ _ h => h) (by rfl) (by simp only [s0_, s1_, s2_, s3_, s4_, s5_]; rfl) ?_
         refine sk_ 16 33 (tk_ 42 131071) HT_.out rfl rfl (by kernel_rfl) (fun _ _ _ h => h) (by rfl) (by simp only [s0_, s1_, s2_, s3_, s4_, s5_]; rfl) ?_
         refine sk_ 17 34 (tk_ 42 262143) HT_.out rfl rfl (by kernel_rfl) (fun _ _ _ h => h) (by rfl) (by simp only [s0_, s1_, s2_, s3_, s4_, s5_]; rfl) ?_
         refine sk_ 18 35 (tk_ 42 524287) HT_.out rfl rfl (by kernel_rfl) (fun _ _ _ h => h) (by rfl) (by simp only [s0_, s1_, s2_, s3_, s4_, s5_]; rfl) ?_
         refine pu_ 19 36 (tk_ 42 1048575) HT_.out rfl rfl (by kernel_rfl) (fun _ _ _ h => h) (by rfl) (fun w' => by go_simp; with_reducible rfl) (by simp only [s0_, s1_, s2_, s3_, s4_, s5_]; rfl) ?_
         refine pu_ 20 37 (tk_ 42 2097151) HT_.out rfl rfl (by kernel_rfl) (fun _ _ _ h => h) (by rfl) (fun w' => by go_simp; with_reducible rfl) (by simp only [s0_, s1_, s2_, s3_, s4_, s5_]; rfl) ?_
         refine pu_ 21 38 (tk_ 42 4194303) HT_.out rfl rfl (by kernel_rfl) (fun _ _ _ h => h) (by rfl) (fun w' => by go_simp; with_reducible rfl) (by simp only [s0_, s1_, s2_, s3_, s4_, s5_]; rfl) ?_
         refine pu_ 22 39 (tk_ 42 8388607) HT_.out rfl rfl (by kernel_rfl) (fun _ _ _ h => h) (by rfl) (fun w' => by go_simp; with_reducible rfl) (by simp only [s0_, s1_, s2_, s3_, s4_, s5_]; rfl) ?_
         refine ta_ 23 40 (tk_ 42 16777215) HT_.out HW_.out rfl rfl (by kernel_rfl) (fun _ _ _ h => h) (by rfl) (by rintro w' ⟨s0, s1, s2, s3, s4, s5⟩; go_simp; with_reducible rfl) hHeld (by simp only [s0_, s1_, s2_, s3_, s4_, s5_]; rfl) ?_
         refine pu_ 24 41 (tk_ 42 33554431) HT_.out rfl rfl (by kernel_rfl) (fun _ _ _ h => h) (by rfl) (fun w' => by go_simp; with_reducible rfl) (by simp only [s0_, s1_, s2_, s3_, s4_, s5_]; rfl) ?_
         refine pu_ 25 42 (tk_ 42 67108863) HT_.out rfl rfl (by kernel_rfl) (fun _ _ _ h => h) (by rfl) (fun w' => by go_simp; with_reducible rfl) (by simp only [s0_, s1_, s2_, s3_, s4_, s5_]; rfl) ?_
         refine pu_ 26 43 (tk_ 42 134217727) HT_.out rfl rfl (by kernel_rfl) (fun _ _ _ h => h) (by rfl) (fun w' => by go_simp; with_reducible rfl) (by simp only [s0_, s1_, s2_, s3_, s4_, s5_]; rfl) ?_
         refine pu_ 27 44 (tk_ 42 268435455) HT_.out rfl rfl (by kernel_rfl) (fun _ _ _ h => h) (by rfl) (fun w' => by go_simp; with_reducible rfl) (by simp only [s0_, s1_, s2_, s3_, s4_, s5_]; rfl) ?_
         refine ta_ 28 45 (tk_ 42 536870911) HT_.out HW_.out rfl rfl (by kernel_rfl) (fun _ _ _ h => h) (by rfl) (by rintro w' ⟨s0, s1, s2, s3, s4, s5⟩; go_simp; with_reducible rfl) hHeld (by simp only [s0_, s1_, s2_, s3_, s4_, s5_]; rfl) ?_
         refine pu_ 29 46 (tk_ 42 1073741823) HT_.out rfl rfl (by kernel_rfl) (fun _ _ _ h => h) (by rfl) (fun w' => by go_simp; with_reducible rfl) (by simp only [s0_, s1_, s2_, s3_, s4_, s5_]; rfl) ?_
         refine pu_ 30 47 (tk_ 42 2147483647) HT_.out rfl rfl (by kernel_rfl) (fun _ _ _ h => h) (by rfl) (fun w' => by go_simp; with_reducible rfl) (by simp only [s0_, s1_, s2_, s3_, s4_, s5_]; rfl) ?_
         refine pu_ 31 48 (tk_ 42 4294967295) HT_.out rfl rfl (by kernel_rfl) (fun _ _ _ h => h) (by rfl) (fun w' => by go_simp; with_reducible rfl) (by simp only [s0_, s1_, s2_, s3_, s4_, s5_]; rfl) ?_
         refine sk_ 32 49 (tk_ 42 8589934591) HT_.out rfl rfl (by kernel_rfl) (fun _ _ _ h => h) (by rfl) (by simp only [s0_, s1_, s2_, s3_, s4_, s5_]; rfl) ?_
         refine sk_ 33 50 (tk_ 42 17179869183) HT_.out rfl rfl (by kernel_rfl) (fun _ _ _ h => h) (by rfl) (by simp only [s0_, s1_, s2_, s3_, s4_, s5_]; rfl) ?_
         refine sk_ 34 51 (tk_ 42 34359738367) HT_.out rfl rfl (by kernel_rfl) (fun _ _ _ h => h) (by rfl) (by simp only [s0_, s1_, s2_, s3_, s4_, s5_]; rfl) ?_
         refine sk_ 35 52 (tk_ 42 68719476735) HT_.out rfl rfl (by kernel_rfl) (fun _ _ _ h => h) (by rfl) (by simp only [s0_, s1_, s2_, s3_, s4_, s5_]; rfl) ?_
         refine sk_ 36 53 (tk_ 42 137438953471) HT_.out rfl rfl (by kernel_rfl) (fun _ _ _ h => h) (by rfl) (by simp only [s0_, s1_, s2_, s3_, s4_, s5_]; rfl) ?_
         refine sk_ 37 54 (tk_ 42 274877906943) HT_.out rfl rfl (by kernel_rfl) (fun _ _ _ h => h) (by rfl) (by simp only [s0_, s1_, s2_, s3_, s4_, s5_]; rfl) ?_
         refine sk_ 38 55 (tk_ 42 549755813887) HT_.out rfl rfl (by kernel_rfl) (fun _ _ _ h => h) (by rfl) (by simp only [s0_, s1_, s2_, s3_, s4_, s5_]; rfl) ?_
         refine sk_ 39 56 (tk_ 42 1099511627775) HT_.out rfl rfl (by kernel_rfl) (fun _ _ _ h => h) (by rfl) (by simp only [s0_, s1_, s2_, s3_, s4_, s5_]; rfl) ?_
         refine sk_ 40 57 (tk_ 42 2199023255551) HT_.out rfl rfl (by kernel_rfl) (fun _ _ _ h => h) (by rfl) (by simp only [s0_, s1_, s2_, s3_, s4_, s5_]; rfl) ?_
         refine pu_ 41 58 (tk_ 42 4398046511103) HT_.out rfl rfl (by kernel_rfl) (fun _ _ _ h => h) (by rfl) (fun w' => by go_simp; with_reducible rfl) (by simp only [s0_, s1_, s2_, s3_, s4_, s5_]; rfl) ?_
         refine done_ (done_of HT_.out (by kernel_rfl)) ?_
         try go_wp2
         go_ret
         exact ⟨by first | rfl | (simp [errW_none, errW_some] <;> rfl) | (simp [*, errW_none, errW_some] <;> rfl), by repeat (first | (with_reducible first | exact HB.out | apply below_alloc | apply pw_below_drewN | apply below_drew1 | refine below_set ?_ GE128.out | refine below_set ?_ GE130.out) | exact HB.out)⟩
        ·rw [if_neg c67] at H
         have c67b0 : decide (10000 < ((rd_T37 l0_1 x3_1).f1)) = false := decide_eq_false c67
         clear c67
         by_cases c75 : ((rd_T37 l0_1 x3_1).f2).toList = ([] : List UInt8)
         ·rw [if_pos c75] at H
          have c75b0 : (((rd_T37 l0_1 x3_1).f2).toList == ([] : List UInt8)) = true := beq_iff_eq.mpr c75
          have c75b1 : (((rd_T37 l0_1 x3_1).f2).toList != ([] : List UInt8)) = false := bne_eq_false_iff_eq.mpr c75
          clear c75
          have H' := Aside0.mk H
          clear H
          have hcz76_0 : wr.cell? ⟨gb128, 0, none⟩ = some (.bool a0_0) := (blk_cell BK128.out 0).trans rfl
          have hcz76_1 : wr.cell? ⟨gb128, 1, none⟩ = some (.slice A0_1 l0_1.length c0_1) := (blk_cell BK128.out 1).trans rfl
          have hcz76_2 : wr.cell? ⟨gb128, 2, none⟩ = some (.int .i64 a0_2) := (blk_cell BK128.out 2).trans rfl
          have hfz76_0 := blk_frozen BK128.out 0
          have hfz76_1 := blk_frozen BK128.out 1
          have hfz76_2 := blk_frozen BK128.out 2
          have p129 : 0 ≤ (x3_1 : Int) := of_decide_eq_true (by first | (with_reducible assumption) | assumption)
          have q129 : x3_1 < (l0_1.length : Int) := of_decide_eq_true (by first | (with_reducible assumption) | assumption)
          obtain ⟨ad129, e129, hx129_0, hx129_1, hx129_2⟩ := at_T37 HR0_1.out x3_1 p129 q129
          cases e129
          replace hx129_0 := (HB.out.cell (World.block_lt_of_cell? w _ hx129_0)).trans hx129_0
          replace hx129_1 := (HB.out.cell (World.block_lt_of_cell? w _ hx129_1)).trans hx129_1
          replace hx129_2 := (HB.out.cell (World.block_lt_of_cell? w _ hx129_2)).trans hx129_2
          replace p129 := eq_true p129
          replace q129 := eq_true q129
          try go_wp2_with (first | ((with_reducible refine gate_dst (N := 4) rfl ?_); (try (refine gate_guard (by rfl) ?_; dsimp only)); refine box_event ?hg (N := 4) ?hd (cs := #[.int .i64 0, .int .i64 0, .string (⟨#[]⟩ : ByteArray)]) (t := 37) ?hr ?_; (case hd => rfl); (case hg => rfl); (case hr => first | (go_simp; done) | (go_simp; rfl)); intro gb130 hg w77 hbox hb; have n0_ := Aside0.mk (blk_below (g := gb128) (o := .cells #[.bool a0_0, .slice (some ad129) l0_1.length c0_1, .int .i64 a0_2] 24 (0, 0)) (by (with_reducible repeat (first | refine blk_drewN ?_ _ | refine blk_drew ?_ | refine blk_alloc ?_ _)); exact BK128.out) hb); have n1_ := Aside0.mk (below_step (by repeat (first | (with_reducible first | exact HB.out | apply below_alloc | apply pw_below_drewN | apply below_drew1 | refine below_set ?_ GE128.out) | exact HB.out)) hb); have n2_ := Aside0.mk (hbox); have n3_ := Aside0.mk ((by rw [hg]; exact (below_size (by repeat (first | (with_reducible first | exact HB.out | apply below_alloc | apply pw_below_drewN | apply below_drew1 | refine below_set ?_ GE128.out) | exact HB.out))) : w.heap.size ≤ gb130)); have n4_ := Aside0.mk ((by rw [hg]; exact (below_size (by repeat (first | (with_reducible first | exact HB.out | apply below_alloc | apply pw_below_drewN | apply below_drew1 | refine below_set ?_ GE128.out) | exact HB.out))) : w.heap.size ≤ gb130)); have n5_ := Aside0.mk ((by rw [hg]; exact Nat.ne_of_lt (blk_lt (g := gb128) (o := .cells #[.bool a0_0, .slice (some ad129) l0_1.length c0_1, .int .i64 a0_2] 24 (0, 0)) (by (with_reducible repeat (first | refine blk_drewN ?_ _ | refine blk_drew ?_ | refine blk_alloc ?_ _)); exact BK128.out)) : gb128 ≠ gb130)); have n6_ := Aside0.mk ((by rw [hg]; exact Nat.ne_of_gt (blk_lt (g := gb128) (o := .cells #[.bool a0_0, .slice (some ad129) l0_1.length c0_1, .int .i64 a0_2] 24 (0, 0)) (by (with_reducible repeat (first | refine blk_drewN ?_ _ | refine blk_drew ?_ | refine blk_alloc ?_ _)); exact BK128.out)) : gb130 ≠ gb128)); clear BK128; clear HB; have BK128 := n0_; have HB := n1_; have BK130 := n2_; have GW130 := n3_; have GE130 := n4_; have NB128_130 := n5_; have NB130_128 := n6_; clear n0_ n1_ n2_ n3_ n4_ n5_ n6_; clear hb hbox hg; have hnb78 := NB130_128.out; have hnc78 := NB128_130.out; have hcz79_0 : w77.cell? ⟨gb130, 0, none⟩ = some (.int .i64 0) := (blk_cell BK130.out 0).trans rfl; have hcz79_1 : w77.cell? ⟨gb130, 1, none⟩ = some (.int .i64 0) := (blk_cell BK130.out 1).trans rfl; have hcz79_2 : w77.cell? ⟨gb130, 2, none⟩ = some (.string (⟨#[]⟩ : ByteArray)) := (blk_cell BK130.out 2).trans rfl; have hfz79_0 := blk_frozen BK130.out 0; have hfz79_1 := blk_frozen BK130.out 1; have hfz79_2 := blk_frozen BK130.out 2))
          have n0_ : Aside0 ((((w77.setCell ⟨gb130, 0, none⟩ (.int .i64 ((rd_T37 l0_1 x3_1).f0))).setCell ⟨gb130, 1, none⟩ (.int .i64 ((rd_T37 l0_1 x3_1).f1))).setCell ⟨gb130, 2, none⟩ (.string ((rd_T37 l0_1 x3_1).f2))).heap[gb128]? = some (.cells #[.bool a0_0, .slice (some ad129) l0_1.length c0_1, .int .i64 a0_2] 24 (0, 0))) := ⟨by (with_reducible repeat (first | refine blk_drewN ?_ _ | refine blk_drew ?_ | refine blk_alloc ?_ _)); refine blk_far ?_ NB128_130.out _; (with_reducible repeat (first | refine blk_drewN ?_ _ | refine blk_drew ?_ | refine blk_alloc ?_ _)); refine blk_far ?_ NB128_130.out _; (with_reducible repeat (first | refine blk_drewN ?_ _ | refine blk_drew ?_ | refine blk_alloc ?_ _)); refine blk_far ?_ NB128_130.out _; (with_reducible repeat (first | refine blk_drewN ?_ _ | refine blk_drew ?_ | refine blk_alloc ?_ _)); exact BK128.out⟩
          have n1_ : Aside0 ((((w77.setCell ⟨gb130, 0, none⟩ (.int .i64 ((rd_T37 l0_1 x3_1).f0))).setCell ⟨gb130, 1, none⟩ (.int .i64 ((rd_T37 l0_1 x3_1).f1))).setCell ⟨gb130, 2, none⟩ (.string ((rd_T37 l0_1 x3_1).f2))).heap[gb130]? = some (.cells #[.int .i64 ((rd_T37 l0_1 x3_1).f0), .int .i64 ((rd_T37 l0_1 x3_1).f1), .string ((rd_T37 l0_1 x3_1).f2)] 37 (0, 0))) := ⟨by (with_reducible repeat (first | refine blk_drewN ?_ _ | refine blk_drew ?_ | refine blk_alloc ?_ _)); refine blk_put (cs := #[.int .i64 ((rd_T37 l0_1 x3_1).f0), .int .i64 ((rd_T37 l0_1 x3_1).f1), .string (⟨#[]⟩ : ByteArray)]) ?_ 2 _ rfl; (with_reducible repeat (first | refine blk_drewN ?_ _ | refine blk_drew ?_ | refine blk_alloc ?_ _)); refine blk_put (cs := #[.int .i64 ((rd_T37 l0_1 x3_1).f0), .int .i64 0, .string (⟨#[]⟩ : ByteArray)]) ?_ 1 _ rfl; (with_reducible repeat (first | refine blk_drewN ?_ _ | refine blk_drew ?_ | refine blk_alloc ?_ _)); refine blk_put (cs := #[.int .i64 0, .int .i64 0, .string (⟨#[]⟩ : ByteArray)]) ?_ 0 _ rfl; (with_reducible repeat (first | refine blk_drewN ?_ _ | refine blk_drew ?_ | refine blk_alloc ?_ _)); exact BK130.out⟩
          have n2_ : Aside0 (Below w.heap.size w (((w77.setCell ⟨gb130, 0, none⟩ (.int .i64 ((rd_T37 l0_1 x3_1).f0))).setCell ⟨gb130, 1, none⟩ (.int .i64 ((rd_T37 l0_1 x3_1).f1))).setCell ⟨gb130, 2, none⟩ (.string ((rd_T37 l0_1 x3_1).f2)))) := ⟨by repeat (first | (with_reducible first | exact HB.out | apply below_alloc | apply pw_below_drewN | apply below_drew1 | refine below_set ?_ GE128.out | refine below_set ?_ GE130.out) | exact HB.out)⟩
          (try clear BK128)
          (try clear BK130)
          (try clear HB)
          generalize (((w77.setCell ⟨gb130, 0, none⟩ (.int .i64 ((rd_T37 l0_1 x3_1).f0))).setCell ⟨gb130, 1, none⟩ (.int .i64 ((rd_T37 l0_1 x3_1).f1))).setCell ⟨gb130, 2, none⟩ (.string ((rd_T37 l0_1 x3_1).f2))) = w80 at n0_ n1_ n2_ ⊢
          have BK128 := n0_
          have BK130 := n1_
          have HB := n2_
          clear n0_ n1_ n2_
          have n0_ := Aside0.mk (blk_drew BK128.out)
          have n1_ := Aside0.mk (blk_drew BK130.out)
          have n2_ := Aside0.mk (below_drew1 HB.out)
          clear BK128
          clear BK130
          clear HB
          have BK128 := n0_
          have BK130 := n1_
          have HB := n2_
          clear n0_ n1_ n2_
          refine start_ (n := 42) (S := fun w' => w'.cell? ⟨gb128, 0, none⟩ = some (.bool a0_0) ∧ w'.cell? ⟨gb128, 1, none⟩ = some (.slice (some ad129) l0_1.length c0_1) ∧ w'.cell? ⟨gb128, 2, none⟩ = some (.int .i64 a0_2) ∧ w'.cell? ⟨gb130, 0, none⟩ = some (.int .i64 ((rd_T37 l0_1 x3_1).f0)) ∧ w'.cell? ⟨gb130, 1, none⟩ = some (.int .i64 ((rd_T37 l0_1 x3_1).f1)) ∧ w'.cell? ⟨gb130, 2, none⟩ = some (.string ((rd_T37 l0_1 x3_1).f2))) (ds := []) (tk_ 42 0) (by kernel_rfl) rfl (by kernel_rfl) ⟨(blk_cell BK128.out 0).trans rfl, (blk_cell BK128.out 1).trans rfl, (blk_cell BK128.out 2).trans rfl, (blk_cell BK130.out 0).trans rfl, (blk_cell BK130.out 1).trans rfl, (blk_cell BK130.out 2).trans rfl⟩ (fun hHeld => ?_); refine with_tabW erasureref19_Right.tab5 erasureref19_Right.bits5 (fun HT_ HW_ => ?_)
          generalize w80.drew = w81 at BK128 BK130 HB hHeld ⊢
          refine pu_ 1 18 (tk_ 42 2) HT_.out rfl rfl (by kernel_rfl) (fun _ _ _ h => h) (by rfl) (fun w' => by go_simp; with_reducible rfl) (by simp only [s0_, s1_, s2_, s3_, s4_, s5_]; rfl) ?_
          refine ta_ 0 17 (tk_ 42 3) HT_.out HW_.out rfl rfl (by kernel_rfl) (fun _ _ _ h => h) (by rfl) (by rintro w' ⟨s0, s1, s2, s3, s4, s5⟩; go_simp; with_reducible rfl) hHeld (by simp only [s0_, s1_, s2_, s3_, s4_, s5_]; rfl) ?_
          refine ta_ 2 19 (tk_ 42 7) HT_.out HW_.out rfl rfl (by kernel_rfl) (fun _ _ _ h => h) (by rfl) (by rintro w' ⟨s0, s1, s2, s3, s4, s5⟩; go_simp; with_reducible rfl) hHeld (by simp only [s0_, s1_, s2_, s3_, s4_, s5_]; rfl) ?_
          refine one_ (i := 3) (N := some 20) (tk_ 42 15) rfl rfl (one_of HT_.out (by kernel_rfl)) (by decide) (fun K hK => ?_)
          refine goes_ Try.func34 (by kernel_rfl) rfl #[.agg #[.bool a0_0, .slice (some ad129) l0_1.length c0_1, .int .i64 a0_2], .int .i64 ((rd_T37 l0_1 x3_1).f0)] (by rfl) rfl rfl (by (try simp only [List.map_toArray, List.map_cons, List.map_nil]); first | done | rfl | (simp only [List.length_drop, List.length_take]; rfl)) ?_
          with_reducible refine (erasureref19_code.calls a0_0 _ _ l0_1 a0_2 ((rd_T37 l0_1 x3_1).f0) true _ ?side1 ?side2 A5.out).mono ?_
          (case side1 => repeat (first | exact (Kd.C_below HR0_1.out HB.out) | (with_reducible refine Kd.C_alloc ?_ _) | (with_reducible refine Kd.C_drewN ?_ _) | (with_reducible refine Kd.C_drew ?_)))
          (case side2 => exact HC0_1.out)
          rintro e w82 ⟨rfl, hb⟩
          refine ⟨_, rfl, ?_⟩
          have n0_ := Aside0.mk (blk_below (g := gb128) (o := .cells #[.bool a0_0, .slice (some ad129) l0_1.length c0_1, .int .i64 a0_2] 24 (0, 0)) (by (with_reducible repeat (first | refine blk_drewN ?_ _ | refine blk_drew ?_ | refine blk_alloc ?_ _)); exact BK128.out) hb)
          have n1_ := Aside0.mk (blk_below (g := gb130) (o := .cells #[.int .i64 ((rd_T37 l0_1 x3_1).f0), .int .i64 ((rd_T37 l0_1 x3_1).f1), .string ((rd_T37 l0_1 x3_1).f2)] 37 (0, 0)) (by (with_reducible repeat (first | refine blk_drewN ?_ _ | refine blk_drew ?_ | refine blk_alloc ?_ _)); exact BK130.out) hb)
          have n2_ := Aside0.mk (below_step (by repeat (first | (with_reducible first | exact HB.out | apply below_alloc | apply pw_below_drewN | apply below_drew1 | refine below_set ?_ GE128.out | refine below_set ?_ GE130.out) | exact HB.out)) hb)
          clear BK128
          clear BK130
          clear HB
          have BK128 := n0_
          have BK130 := n1_
          have HB := n2_
          clear n0_ n1_ n2_
          (try clear hb)
          (try clear hb2)
          (try clear hk)
          (try clear hi)
          refine hK.out _ _ ⟨(blk_cell BK128.out 0).trans rfl, (blk_cell BK128.out 1).trans rfl, (blk_cell BK128.out 2).trans rfl, (blk_cell BK130.out 0).trans rfl, (blk_cell BK130.out 1).trans rfl, (blk_cell BK130.out 2).trans rfl⟩ (fun hHeld => ?_)
          clear hK K
          refine norm_ (by show Act.put _ (some 20) _ = _; simp only [s0_, s1_, s2_, s3_, s4_, s5_]; rfl) ?_
          refine pu_ 4 21 (tk_ 42 31) HT_.out rfl rfl (by kernel_rfl) (fun _ _ _ h => h) (by rfl) (fun w' => by go_simp; with_reducible rfl) (by simp only [s0_, s1_, s2_, s3_, s4_, s5_]; rfl) ?_
          refine pu_ 5 22 (tk_ 42 63) HT_.out rfl rfl (by kernel_rfl) (fun _ _ _ h => h) (by rfl) (fun w' => by go_simp; with_reducible rfl) (by simp only [s0_, s1_, s2_, s3_, s4_, s5_]; rfl) ?_
          refine pu_ 6 23 (tk_ 42 127) HT_.out rfl rfl (by kernel_rfl) (fun _ _ _ h => h) (by rfl) (fun w' => by go_simp; with_reducible rfl) (by simp only [s0_, s1_, s2_, s3_, s4_, s5_]; rfl) ?_
          refine pu_ 7 24 (tk_ 42 255) HT_.out rfl rfl (by kernel_rfl) (fun _ _ _ h => h) (by rfl) (fun w' => by go_simp; with_reducible rfl) (by simp only [s0_, s1_, s2_, s3_, s4_, s5_]; rfl) ?_
          refine pu_ 8 25 (tk_ 42 511) HT_.out rfl rfl (by kernel_rfl) (fun _ _ _ h => h) (by rfl) (fun w' => by go_simp; with_reducible rfl) (by simp only [s0_, s1_, s2_, s3_, s4_, s5_]; rfl) ?_
          refine sk_ 9 26 (tk_ 42 1023) HT_.out rfl rfl (by kernel_rfl) (fun _ _ _ h => h) (by rfl) (by simp only [s0_, s1_, s2_, s3_, s4_, s5_]; rfl) ?_
          refine sk_ 10 27 (tk_ 42 2047) HT_.out rfl rfl (by kernel_rfl) (fun _ _ _ h => h) (by rfl) (by simp only [s0_, s1_, s2_, s3_, s4_, s5_]; rfl) ?_
          refine sk_ 11 28 (tk_ 42 4095) HT_.out rfl rfl (by kernel_rfl) (fun _ _ _ h => h) (by rfl) (by simp only [s0_, s1_, s2_, s3_, s4_, s5_]; rfl) ?_
          refine sk_ 12 29 (tk_ 42 8191) HT_.out rfl rfl (by kernel_rfl) (fun _ _ _ h => h) (by rfl) (by simp only [s0_, s1_, s2_, s3_, s4_, s5_]; rfl) ?_
          refine sk_ 13 30 (tk_ 42 16383) HT_.out rfl rfl (by kernel_rfl) (fun _ _ _ h => h) (by rfl) (by simp only [s0_, s1_, s2_, s3_, s4_, s5_]; rfl) ?_
          refine sk_ 14 31 (tk_ 42 32767) HT_.out rfl rfl (by kernel_rfl) (fun _ _ _ h => h) (by rfl) (by simp only [s0_, s1_, s2_, s3_, s4_, s5_]; rfl) ?_
          refine sk_ 15 32 (tk_ 42 65535) HT_.out rfl rfl (by kernel_rfl) (fun _ _ _ h => h) (by rfl) (by simp only [s0_, s1_, s2_, s3_, s4_, s5_]; rfl) ?_
          refine sk_ 16 33 (tk_ 42 131071) HT_.out rfl rfl (by kernel_rfl) (fun _ _ _ h => h) (by rfl) (by simp only [s0_, s1_, s2_, s3_, s4_, s5_]; rfl) ?_
          refine sk_ 17 34 (tk_ 42 262143) HT_.out rfl rfl (by kernel_rfl) (fun _ _ _ h => h) (by rfl) (by simp only [s0_, s1_, s2_, s3_, s4_, s5_]; rfl) ?_
          refine sk_ 18 35 (tk_ 42 524287) HT_.out rfl rfl (by kernel_rfl) (fun _ _ _ h => h) (by rfl) (by simp only [s0_, s1_, s2_, s3_, s4_, s5_]; rfl) ?_
          refine pu_ 19 36 (tk_ 42 1048575) HT_.out rfl rfl (by kernel_rfl) (fun _ _ _ h => h) (by rfl) (fun w' => by go_simp; with_reducible rfl) (by simp only [s0_, s1_, s2_, s3_, s4_, s5_]; rfl) ?_
          refine pu_ 20 37 (tk_ 42 2097151) HT_.out rfl rfl (by kernel_rfl) (fun _ _ _ h => h) (by rfl) (fun w' => by go_simp; with_reducible rfl) (by simp only [s0_, s1_, s2_, s3_, s4_, s5_]; rfl) ?_
          refine pu_ 21 38 (tk_ 42 4194303) HT_.out rfl rfl (by kernel_rfl) (fun _ _ _ h => h) (by rfl) (fun w' => by go_simp; with_reducible rfl) (by simp only [s0_, s1_, s2_, s3_, s4_, s5_]; rfl) ?_
          refine pu_ 22 39 (tk_ 42 8388607) HT_.out rfl rfl (by kernel_rfl) (fun _ _ _ h => h) (by rfl) (fun w' => by go_simp; with_reducible rfl) (by simp only [s0_, s1_, s2_, s3_, s4_, s5_]; rfl) ?_
          refine ta_ 23 40 (tk_ 42 16777215) HT_.out HW_.out rfl rfl (by kernel_rfl) (fun _ _ _ h => h) (by rfl) (by rintro w' ⟨s0, s1, s2, s3, s4, s5⟩; go_simp; with_reducible rfl) hHeld (by simp only [s0_, s1_, s2_, s3_, s4_, s5_]; rfl) ?_
          refine pu_ 24 41 (tk_ 42 33554431) HT_.out rfl rfl (by kernel_rfl) (fun _ _ _ h => h) (by rfl) (fun w' => by go_simp; with_reducible rfl) (by simp only [s0_, s1_, s2_, s3_, s4_, s5_]; rfl) ?_
          refine pu_ 25 42 (tk_ 42 67108863) HT_.out rfl rfl (by kernel_rfl) (fun _ _ _ h => h) (by rfl) (fun w' => by go_simp; with_reducible rfl) (by simp only [s0_, s1_, s2_, s3_, s4_, s5_]; rfl) ?_
          refine pu_ 26 43 (tk_ 42 134217727) HT_.out rfl rfl (by kernel_rfl) (fun _ _ _ h => h) (by rfl) (fun w' => by go_simp; with_reducible rfl) (by simp only [s0_, s1_, s2_, s3_, s4_, s5_]; rfl) ?_
          refine pu_ 27 44 (tk_ 42 268435455) HT_.out rfl rfl (by kernel_rfl) (fun _ _ _ h => h) (by rfl) (fun w' => by go_simp; with_reducible rfl) (by simp only [s0_, s1_, s2_, s3_, s4_, s5_]; rfl) ?_
          refine ta_ 28 45 (tk_ 42 536870911) HT_.out HW_.out rfl rfl (by kernel_rfl) (fun _ _ _ h => h) (by rfl) (by rintro w' ⟨s0, s1, s2, s3, s4, s5⟩; go_simp; with_reducible rfl) hHeld (by simp only [s0_, s1_, s2_, s3_, s4_, s5_]; rfl) ?_
          refine pu_ 29 46 (tk_ 42 1073741823) HT_.out rfl rfl (by kernel_rfl) (fun _ _ _ h => h) (by rfl) (fun w' => by go_simp; with_reducible rfl) (by simp only [s0_, s1_, s2_, s3_, s4_, s5_]; rfl) ?_
          refine pu_ 30 47 (tk_ 42 2147483647) HT_.out rfl rfl (by kernel_rfl) (fun _ _ _ h => h) (by rfl) (fun w' => by go_simp; with_reducible rfl) (by simp only [s0_, s1_, s2_, s3_, s4_, s5_]; rfl) ?_
          refine pu_ 31 48 (tk_ 42 4294967295) HT_.out rfl rfl (by kernel_rfl) (fun _ _ _ h => h) (by rfl) (fun w' => by go_simp; with_reducible rfl) (by simp only [s0_, s1_, s2_, s3_, s4_, s5_]; rfl) ?_
          refine pu_ 32 49 (tk_ 42 8589934591) HT_.out rfl rfl (by kernel_rfl) (fun _ _ _ h => h) (by rfl) (fun w' => by go_simp; with_reducible rfl) (by simp only [s0_, s1_, s2_, s3_, s4_, s5_]; rfl) ?_
          refine ta_ 33 50 (tk_ 42 17179869183) HT_.out HW_.out rfl rfl (by kernel_rfl) (fun _ _ _ h => h) (by rfl) (by rintro w' ⟨s0, s1, s2, s3, s4, s5⟩; go_simp; with_reducible rfl) hHeld (by simp only [s0_, s1_, s2_, s3_, s4_, s5_]; rfl) ?_
          refine pu_ 34 51 (tk_ 42 34359738367) HT_.out rfl rfl (by kernel_rfl) (fun _ _ _ h => h) (by rfl) (fun w' => by go_simp; with_reducible rfl) (by simp only [s0_, s1_, s2_, s3_, s4_, s5_]; rfl) ?_
          refine pu_ 35 52 (tk_ 42 68719476735) HT_.out rfl rfl (by kernel_rfl) (fun _ _ _ h => h) (by rfl) (fun w' => by go_simp; with_reducible rfl) (by simp only [s0_, s1_, s2_, s3_, s4_, s5_]; rfl) ?_
          refine sk_ 36 53 (tk_ 42 137438953471) HT_.out rfl rfl (by kernel_rfl) (fun _ _ _ h => h) (by rfl) (by simp only [s0_, s1_, s2_, s3_, s4_, s5_]; rfl) ?_
          refine sk_ 37 54 (tk_ 42 274877906943) HT_.out rfl rfl (by kernel_rfl) (fun _ _ _ h => h) (by rfl) (by simp only [s0_, s1_, s2_, s3_, s4_, s5_]; rfl) ?_
          refine sk_ 38 55 (tk_ 42 549755813887) HT_.out rfl rfl (by kernel_rfl) (fun _ _ _ h => h) (by rfl) (by simp only [s0_, s1_, s2_, s3_, s4_, s5_]; rfl) ?_
          refine sk_ 39 56 (tk_ 42 1099511627775) HT_.out rfl rfl (by kernel_rfl) (fun _ _ _ h => h) (by rfl) (by simp only [s0_, s1_, s2_, s3_, s4_, s5_]; rfl) ?_
          refine pu_ 40 57 (tk_ 42 2199023255551) HT_.out rfl rfl (by kernel_rfl) (fun _ _ _ h => h) (by rfl) (fun w' => by go_simp; with_reducible rfl) (by simp only [s0_, s1_, s2_, s3_, s4_, s5_]; rfl) ?_
          refine pu_ 41 58 (tk_ 42 4398046511103) HT_.out rfl rfl (by kernel_rfl) (fun _ _ _ h => h) (by rfl) (fun w' => by go_simp; with_reducible rfl) (by simp only [s0_, s1_, s2_, s3_, s4_, s5_]; rfl) ?_
          refine done_ (done_of HT_.out (by kernel_rfl)) ?_
          try go_wp2
          go_roundg k1
          case measure => have := HK1.out; omega
          case rel => exact ⟨(wrap64 (x3_1 + 1)), (by first | rfl | (simp; done) | (simp [*]; done)), H', ⟨by have := HK1.out; omega⟩, ⟨by (with_reducible repeat (first | refine blk_drewN ?_ _ | refine blk_drew ?_ | refine blk_alloc ?_ _)); exact BK128.out⟩, ⟨by repeat (first | (with_reducible first | exact HB.out | apply below_alloc | apply pw_below_drewN | apply below_drew1 | refine below_set ?_ GE128.out | refine below_set ?_ GE130.out) | exact HB.out)⟩⟩
         ·rw [if_neg c75] at H
          have c75b0 : (((rd_T37 l0_1 x3_1).f2).toList == ([] : List UInt8)) = false := beq_eq_false_iff_ne.mpr c75
          have c75b1 : (((rd_T37 l0_1 x3_1).f2).toList != ([] : List UInt8)) = true := bne_iff_ne.mpr c75
          replace H := Option.bind_eq_some_iff.mp H
          obtain ⟨t134, A830, H⟩ := H
          replace H : (if t134 = true then (erasureref19_Right.l0 k1 (wrap64 (x3_1 + 1)) a0_0 l0_1 a0_2) else (some false)) = some r := H
          have A83 := Aside0.mk A830
          clear A830
          by_cases c84 : t134 = true
          ·subst c84
           have H1 : (erasureref19_Right.l0 k1 (wrap64 (x3_1 + 1)) a0_0 l0_1 a0_2) = some r := by rw [if_pos rfl] at H; exact H
           clear H
           have H := H1
           clear H1
           have H' := Aside0.mk H
           clear H
           have hcz85_0 : wr.cell? ⟨gb128, 0, none⟩ = some (.bool a0_0) := (blk_cell BK128.out 0).trans rfl
           have hcz85_1 : wr.cell? ⟨gb128, 1, none⟩ = some (.slice A0_1 l0_1.length c0_1) := (blk_cell BK128.out 1).trans rfl
           have hcz85_2 : wr.cell? ⟨gb128, 2, none⟩ = some (.int .i64 a0_2) := (blk_cell BK128.out 2).trans rfl
           have hfz85_0 := blk_frozen BK128.out 0
           have hfz85_1 := blk_frozen BK128.out 1
           have hfz85_2 := blk_frozen BK128.out 2
           have p129 : 0 ≤ (x3_1 : Int) := of_decide_eq_true (by first | (with_reducible assumption) | assumption)
           have q129 : x3_1 < (l0_1.length : Int) := of_decide_eq_true (by first | (with_reducible assumption) | assumption)
           obtain ⟨ad129, e129, hx129_0, hx129_1, hx129_2⟩ := at_T37 HR0_1.out x3_1 p129 q129
           cases e129
           replace hx129_0 := (HB.out.cell (World.block_lt_of_cell? w _ hx129_0)).trans hx129_0
           replace hx129_1 := (HB.out.cell (World.block_lt_of_cell? w _ hx129_1)).trans hx129_1
           replace hx129_2 := (HB.out.cell (World.block_lt_of_cell? w _ hx129_2)).trans hx129_2
           replace p129 := eq_true p129
           replace q129 := eq_true q129
           try go_wp2_with (first | ((with_reducible refine gate_dst (N := 4) rfl ?_); (try (refine gate_guard (by rfl) ?_; dsimp only)); refine box_event ?hg (N := 4) ?hd (cs := #[.int .i64 0, .int .i64 0, .string (⟨#[]⟩ : ByteArray)]) (t := 37) ?hr ?_; (case hd => rfl); (case hg => rfl); (case hr => first | (go_simp; done) | (go_simp; rfl)); intro gb130 hg w86 hbox hb; have n0_ := Aside0.mk (blk_below (g := gb128) (o := .cells #[.bool a0_0, .slice (some ad129) l0_1.length c0_1, .int .i64 a0_2] 24 (0, 0)) (by (with_reducible repeat (first | refine blk_drewN ?_ _ | refine blk_drew ?_ | refine blk_alloc ?_ _)); exact BK128.out) hb); have n1_ := Aside0.mk (below_step (by repeat (first | (with_reducible first | exact HB.out | apply below_alloc | apply pw_below_drewN | apply below_drew1 | refine below_set ?_ GE128.out) | exact HB.out)) hb); have n2_ := Aside0.mk (hbox); have n3_ := Aside0.mk ((by rw [hg]; exact (below_size (by repeat (first | (with_reducible first | exact HB.out | apply below_alloc | apply pw_below_drewN | apply below_drew1 | refine below_set ?_ GE128.out) | exact HB.out))) : w.heap.size ≤ gb130)); have n4_ := Aside0.mk ((by rw [hg]; exact (below_size (by repeat (first | (with_reducible first | exact HB.out | apply below_alloc | apply pw_below_drewN | apply below_drew1 | refine below_set ?_ GE128.out) | exact HB.out))) : w.heap.size ≤ gb130)); have n5_ := Aside0.mk ((by rw [hg]; exact Nat.ne_of_lt (blk_lt (g := gb128) (o := .cells #[.bool a0_0, .slice (some ad129) l0_1.length c0_1, .int .i64 a0_2] 24 (0, 0)) (by (with_reducible repeat (first | refine blk_drewN ?_ _ | refine blk_drew ?_ | refine blk_alloc ?_ _)); exact BK128.out)) : gb128 ≠ gb130)); have n6_ := Aside0.mk ((by rw [hg]; exact Nat.ne_of_gt (blk_lt (g := gb128) (o := .cells #[.bool a0_0, .slice (some ad129) l0_1.length c0_1, .int .i64 a0_2] 24 (0, 0)) (by (with_reducible repeat (first | refine blk_drewN ?_ _ | refine blk_drew ?_ | refine blk_alloc ?_ _)); exact BK128.out)) : gb130 ≠ gb128)); clear BK128; clear HB; have BK128 := n0_; have HB := n1_; have BK130 := n2_; have GW130 := n3_; have GE130 := n4_; have NB128_130 := n5_; have NB130_128 := n6_; clear n0_ n1_ n2_ n3_ n4_ n5_ n6_; clear hb hbox hg; have hnb87 := NB130_128.out; have hnc87 := NB128_130.out; have hcz88_0 : w86.cell? ⟨gb130, 0, none⟩ = some (.int .i64 0) := (blk_cell BK130.out 0).trans rfl; have hcz88_1 : w86.cell? ⟨gb130, 1, none⟩ = some (.int .i64 0) := (blk_cell BK130.out 1).trans rfl; have hcz88_2 : w86.cell? ⟨gb130, 2, none⟩ = some (.string (⟨#[]⟩ : ByteArray)) := (blk_cell BK130.out 2).trans rfl; have hfz88_0 := blk_frozen BK130.out 0; have hfz88_1 := blk_frozen BK130.out 1; have hfz88_2 := blk_frozen BK130.out 2))
           have n0_ : Aside0 ((((w86.setCell ⟨gb130, 0, none⟩ (.int .i64 ((rd_T37 l0_1 x3_1).f0))).setCell ⟨gb130, 1, none⟩ (.int .i64 ((rd_T37 l0_1 x3_1).f1))).setCell ⟨gb130, 2, none⟩ (.string ((rd_T37 l0_1 x3_1).f2))).heap[gb128]? = some (.cells #[.bool a0_0, .slice (some ad129) l0_1.length c0_1, .int .i64 a0_2] 24 (0, 0))) := ⟨by (with_reducible repeat (first | refine blk_drewN ?_ _ | refine blk_drew ?_ | refine blk_alloc ?_ _)); refine blk_far ?_ NB128_130.out _; (with_reducible repeat (first | refine blk_drewN ?_ _ | refine blk_drew ?_ | refine blk_alloc ?_ _)); refine blk_far ?_ NB128_130.out _; (with_reducible repeat (first | refine blk_drewN ?_ _ | refine blk_drew ?_ | refine blk_alloc ?_ _)); refine blk_far ?_ NB128_130.out _; (with_reducible repeat (first | refine blk_drewN ?_ _ | refine blk_drew ?_ | refine blk_alloc ?_ _)); exact BK128.out⟩
           have n1_ : Aside0 ((((w86.setCell ⟨gb130, 0, none⟩ (.int .i64 ((rd_T37 l0_1 x3_1).f0))).setCell ⟨gb130, 1, none⟩ (.int .i64 ((rd_T37 l0_1 x3_1).f1))).setCell ⟨gb130, 2, none⟩ (.string ((rd_T37 l0_1 x3_1).f2))).heap[gb130]? = some (.cells #[.int .i64 ((rd_T37 l0_1 x3_1).f0), .int .i64 ((rd_T37 l0_1 x3_1).f1), .string ((rd_T37 l0_1 x3_1).f2)] 37 (0, 0))) := ⟨by (with_reducible repeat (first | refine blk_drewN ?_ _ | refine blk_drew ?_ | refine blk_alloc ?_ _)); refine blk_put (cs := #[.int .i64 ((rd_T37 l0_1 x3_1).f0), .int .i64 ((rd_T37 l0_1 x3_1).f1), .string (⟨#[]⟩ : ByteArray)]) ?_ 2 _ rfl; (with_reducible repeat (first | refine blk_drewN ?_ _ | refine blk_drew ?_ | refine blk_alloc ?_ _)); refine blk_put (cs := #[.int .i64 ((rd_T37 l0_1 x3_1).f0), .int .i64 0, .string (⟨#[]⟩ : ByteArray)]) ?_ 1 _ rfl; (with_reducible repeat (first | refine blk_drewN ?_ _ | refine blk_drew ?_ | refine blk_alloc ?_ _)); refine blk_put (cs := #[.int .i64 0, .int .i64 0, .string (⟨#[]⟩ : ByteArray)]) ?_ 0 _ rfl; (with_reducible repeat (first | refine blk_drewN ?_ _ | refine blk_drew ?_ | refine blk_alloc ?_ _)); exact BK130.out⟩
           have n2_ : Aside0 (Below w.heap.size w (((w86.setCell ⟨gb130, 0, none⟩ (.int .i64 ((rd_T37 l0_1 x3_1).f0))).setCell ⟨gb130, 1, none⟩ (.int .i64 ((rd_T37 l0_1 x3_1).f1))).setCell ⟨gb130, 2, none⟩ (.string ((rd_T37 l0_1 x3_1).f2)))) := ⟨by repeat (first | (with_reducible first | exact HB.out | apply below_alloc | apply pw_below_drewN | apply below_drew1 | refine below_set ?_ GE128.out | refine below_set ?_ GE130.out) | exact HB.out)⟩
           (try clear BK128)
           (try clear BK130)
           (try clear HB)
           generalize (((w86.setCell ⟨gb130, 0, none⟩ (.int .i64 ((rd_T37 l0_1 x3_1).f0))).setCell ⟨gb130, 1, none⟩ (.int .i64 ((rd_T37 l0_1 x3_1).f1))).setCell ⟨gb130, 2, none⟩ (.string ((rd_T37 l0_1 x3_1).f2))) = w89 at n0_ n1_ n2_ ⊢
           have BK128 := n0_
           have BK130 := n1_
           have HB := n2_
           clear n0_ n1_ n2_
           have n0_ := Aside0.mk (blk_drew BK128.out)
           have n1_ := Aside0.mk (blk_drew BK130.out)
           have n2_ := Aside0.mk (below_drew1 HB.out)
           clear BK128
           clear BK130
           clear HB
           have BK128 := n0_
           have BK130 := n1_
           have HB := n2_
           clear n0_ n1_ n2_
           refine start_ (n := 42) (S := fun w' => w'.cell? ⟨gb128, 0, none⟩ = some (.bool a0_0) ∧ w'.cell? ⟨gb128, 1, none⟩ = some (.slice (some ad129) l0_1.length c0_1) ∧ w'.cell? ⟨gb128, 2, none⟩ = some (.int .i64 a0_2) ∧ w'.cell? ⟨gb130, 0, none⟩ = some (.int .i64 ((rd_T37 l0_1 x3_1).f0)) ∧ w'.cell? ⟨gb130, 1, none⟩ = some (.int .i64 ((rd_T37 l0_1 x3_1).f1)) ∧ w'.cell? ⟨gb130, 2, none⟩ = some (.string ((rd_T37 l0_1 x3_1).f2))) (ds := []) (tk_ 42 0) (by kernel_rfl) rfl (by kernel_rfl) ⟨(blk_cell BK128.out 0).trans rfl, (blk_cell BK128.out 1).trans rfl, (blk_cell BK128.out 2).trans rfl, (blk_cell BK130.out 0).trans rfl, (blk_cell BK130.out 1).trans rfl, (blk_cell BK130.out 2).trans rfl⟩ (fun hHeld => ?_); refine with_tabW erasureref19_Right.tab5 erasureref19_Right.bits5 (fun HT_ HW_ => ?_)
           generalize w89.drew = w90 at BK128 BK130 HB hHeld ⊢
           refine pu_ 1 18 (tk_ 42 2) HT_.out rfl rfl (by kernel_rfl) (fun _ _ _ h => h) (by rfl) (fun w' => by go_simp; with_reducible rfl) (by simp only [s0_, s1_, s2_, s3_, s4_, s5_]; rfl) ?_
           refine ta_ 0 17 (tk_ 42 3) HT_.out HW_.out rfl rfl (by kernel_rfl) (fun _ _ _ h => h) (by rfl) (by rintro w' ⟨s0, s1, s2, s3, s4, s5⟩; go_simp; with_reducible rfl) hHeld (by simp only [s0_, s1_, s2_, s3_, s4_, s5_]; rfl) ?_
           refine ta_ 2 19 (tk_ 42 7) HT_.out HW_.out rfl rfl (by kernel_rfl) (fun _ _ _ h => h) (by rfl) (by rintro w' ⟨s0, s1, s2, s3, s4, s5⟩; go_simp; with_reducible rfl) hHeld (by simp only [s0_, s1_, s2_, s3_, s4_, s5_]; rfl) ?_
           refine one_ (i := 3) (N := some 20) (tk_ 42 15) rfl rfl (one_of HT_.out (by kernel_rfl)) (by decide) (fun K hK => ?_)
           refine goes_ Try.func34 (by kernel_rfl) rfl #[.agg #[.bool a0_0, .slice (some ad129) l0_1.length c0_1, .int .i64 a0_2], .int .i64 ((rd_T37 l0_1 x3_1).f0)] (by rfl) rfl rfl (by (try simp only [List.map_toArray, List.map_cons, List.map_nil]); first | done | rfl | (simp only [List.length_drop, List.length_take]; rfl)) ?_
           with_reducible refine (erasureref19_code.calls a0_0 _ _ l0_1 a0_2 ((rd_T37 l0_1 x3_1).f0) true _ ?side1 ?side2 A5.out).mono ?_
           (case side1 => repeat (first | exact (Kd.C_below HR0_1.out HB.out) | (with_reducible refine Kd.C_alloc ?_ _) | (with_reducible refine Kd.C_drewN ?_ _) | (with_reducible refine Kd.C_drew ?_)))
           (case side2 => exact HC0_1.out)
           rintro e w91 ⟨rfl, hb⟩
           refine ⟨_, rfl, ?_⟩
           have n0_ := Aside0.mk (blk_below (g := gb128) (o := .cells #[.bool a0_0, .slice (some ad129) l0_1.length c0_1, .int .i64 a0_2] 24 (0, 0)) (by (with_reducible repeat (first | refine blk_drewN ?_ _ | refine blk_drew ?_ | refine blk_alloc ?_ _)); exact BK128.out) hb)
           have n1_ := Aside0.mk (blk_below (g := gb130) (o := .cells #[.int .i64 ((rd_T37 l0_1 x3_1).f0), .int .i64 ((rd_T37 l0_1 x3_1).f1), .string ((rd_T37 l0_1 x3_1).f2)] 37 (0, 0)) (by (with_reducible repeat (first | refine blk_drewN ?_ _ | refine blk_drew ?_ | refine blk_alloc ?_ _)); exact BK130.out) hb)
           have n2_ := Aside0.mk (below_step (by repeat (first | (with_reducible first | exact HB.out | apply below_alloc | apply pw_below_drewN | apply below_drew1 | refine below_set ?_ GE128.out | refine below_set ?_ GE130.out) | exact HB.out)) hb)
           clear BK128
           clear BK130
           clear HB
           have BK128 := n0_
           have BK130 := n1_
           have HB := n2_
           clear n0_ n1_ n2_
           (try clear hb)
           (try clear hb2)
           (try clear hk)
           (try clear hi)
           refine hK.out _ _ ⟨(blk_cell BK128.out 0).trans rfl, (blk_cell BK128.out 1).trans rfl, (blk_cell BK128.out 2).trans rfl, (blk_cell BK130.out 0).trans rfl, (blk_cell BK130.out 1).trans rfl, (blk_cell BK130.out 2).trans rfl⟩ (fun hHeld => ?_)
           clear hK K
           refine norm_ (by show Act.put _ (some 20) _ = _; simp only [s0_, s1_, s2_, s3_, s4_, s5_]; rfl) ?_
           refine pu_ 4 21 (tk_ 42 31) HT_.out rfl rfl (by kernel_rfl) (fun _ _ _ h => h) (by rfl) (fun w' => by go_simp; with_reducible rfl) (by simp only [s0_, s1_, s2_, s3_, s4_, s5_]; rfl) ?_
           refine pu_ 5 22 (tk_ 42 63) HT_.out rfl rfl (by kernel_rfl) (fun _ _ _ h => h) (by rfl) (fun w' => by go_simp; with_reducible rfl) (by simp only [s0_, s1_, s2_, s3_, s4_, s5_]; rfl) ?_
           refine pu_ 6 23 (tk_ 42 127) HT_.out rfl rfl (by kernel_rfl) (fun _ _ _ h => h) (by rfl) (fun w' => by go_simp; with_reducible rfl) (by simp only [s0_, s1_, s2_, s3_, s4_, s5_]; rfl) ?_
           refine pu_ 7 24 (tk_ 42 255) HT_.out rfl rfl (by kernel_rfl) (fun _ _ _ h => h) (by rfl) (fun w' => by go_simp; with_reducible rfl) (by simp only [s0_, s1_, s2_, s3_, s4_, s5_]; rfl) ?_
           refine pu_ 8 25 (tk_ 42 511) HT_.out rfl rfl (by kernel_rfl) (fun _ _ _ h => h) (by rfl) (fun w' => by go_simp; with_reducible rfl) (by simp only [s0_, s1_, s2_, s3_, s4_, s5_]; rfl) ?_
           refine sk_ 9 26 (tk_ 42 1023) HT_.out rfl rfl (by kernel_rfl) (fun _ _ _ h => h) (by rfl) (by simp only [s0_, s1_, s2_, s3_, s4_, s5_]; rfl) ?_
           refine sk_ 10 27 (tk_ 42 2047) HT_.out rfl rfl (by kernel_rfl) (fun _ _ _ h => h) (by rfl) (by simp only [s0_, s1_, s2_, s3_, s4_, s5_]; rfl) ?_
           refine sk_ 11 28 (tk_ 42 4095) HT_.out rfl rfl (by kernel_rfl) (fun _ _ _ h => h) (by rfl) (by simp only [s0_, s1_, s2_, s3_, s4_, s5_]; rfl) ?_
           refine sk_ 12 29 (tk_ 42 8191) HT_.out rfl rfl (by kernel_rfl) (fun _ _ _ h => h) (by rfl) (by simp only [s0_, s1_, s2_, s3_, s4_, s5_]; rfl) ?_
           refine sk_ 13 30 (tk_ 42 16383) HT_.out rfl rfl (by kernel_rfl) (fun _ _ _ h => h) (by rfl) (by simp only [s0_, s1_, s2_, s3_, s4_, s5_]; rfl) ?_
           refine sk_ 14 31 (tk_ 42 32767) HT_.out rfl rfl (by kernel_rfl) (fun _ _ _ h => h) (by rfl) (by simp only [s0_, s1_, s2_, s3_, s4_, s5_]; rfl) ?_
           refine sk_ 15 32 (tk_ 42 65535) HT_.out rfl rfl (by kernel_rfl) (fun _ _ _ h => h) (by rfl) (by simp only [s0_, s1_, s2_, s3_, s4_, s5_]; rfl) ?_
           refine sk_ 16 33 (tk_ 42 131071) HT_.out rfl rfl (by kernel_rfl) (fun _ _ _ h => h) (by rfl) (by simp only [s0_, s1_, s2_, s3_, s4_, s5_]; rfl) ?_
           refine sk_ 17 34 (tk_ 42 262143) HT_.out rfl rfl (by kernel_rfl) (fun _ _ _ h => h) (by rfl) (by simp only [s0_, s1_, s2_, s3_, s4_, s5_]; rfl) ?_
           refine sk_ 18 35 (tk_ 42 524287) HT_.out rfl rfl (by kernel_rfl) (fun _ _ _ h => h) (by rfl) (by simp only [s0_, s1_, s2_, s3_, s4_, s5_]; rfl) ?_
           refine pu_ 19 36 (tk_ 42 1048575) HT_.out rfl rfl (by kernel_rfl) (fun _ _ _ h => h) (by rfl) (fun w' => by go_simp; with_reducible rfl) (by simp only [s0_, s1_, s2_, s3_, s4_, s5_]; rfl) ?_
           refine pu_ 20 37 (tk_ 42 2097151) HT_.out rfl rfl (by kernel_rfl) (fun _ _ _ h => h) (by rfl) (fun w' => by go_simp; with_reducible rfl) (by simp only [s0_, s1_, s2_, s3_, s4_, s5_]; rfl) ?_
           refine pu_ 21 38 (tk_ 42 4194303) HT_.out rfl rfl (by kernel_rfl) (fun _ _ _ h => h) (by rfl) (fun w' => by go_simp; with_reducible rfl) (by simp only [s0_, s1_, s2_, s3_, s4_, s5_]; rfl) ?_
           refine pu_ 22 39 (tk_ 42 8388607) HT_.out rfl rfl (by kernel_rfl) (fun _ _ _ h => h) (by rfl) (fun w' => by go_simp; with_reducible rfl) (by simp only [s0_, s1_, s2_, s3_, s4_, s5_]; rfl) ?_
           refine ta_ 23 40 (tk_ 42 16777215) HT_.out HW_.out rfl rfl (by kernel_rfl) (fun _ _ _ h => h) (by rfl) (by rintro w' ⟨s0, s1, s2, s3, s4, s5⟩; go_simp; with_reducible rfl) hHeld (by simp only [s0_, s1_, s2_, s3_, s4_, s5_]; rfl) ?_
           refine pu_ 24 41 (tk_ 42 33554431) HT_.out rfl rfl (by kernel_rfl) (fun _ _ _ h => h) (by rfl) (fun w' => by go_simp; with_reducible rfl) (by simp only [s0_, s1_, s2_, s3_, s4_, s5_]; rfl) ?_
           refine pu_ 25 42 (tk_ 42 67108863) HT_.out rfl rfl (by kernel_rfl) (fun _ _ _ h => h) (by rfl) (fun w' => by go_simp; with_reducible rfl) (by simp only [s0_, s1_, s2_, s3_, s4_, s5_]; rfl) ?_
           refine pu_ 26 43 (tk_ 42 134217727) HT_.out rfl rfl (by kernel_rfl) (fun _ _ _ h => h) (by rfl) (fun w' => by go_simp; with_reducible rfl) (by simp only [s0_, s1_, s2_, s3_, s4_, s5_]; rfl) ?_
           refine pu_ 27 44 (tk_ 42 268435455) HT_.out rfl rfl (by kernel_rfl) (fun _ _ _ h => h) (by rfl) (fun w' => by go_simp; with_reducible rfl) (by simp only [s0_, s1_, s2_, s3_, s4_, s5_]; rfl) ?_
           refine ta_ 28 45 (tk_ 42 536870911) HT_.out HW_.out rfl rfl (by kernel_rfl) (fun _ _ _ h => h) (by rfl) (by rintro w' ⟨s0, s1, s2, s3, s4, s5⟩; go_simp; with_reducible rfl) hHeld (by simp only [s0_, s1_, s2_, s3_, s4_, s5_]; rfl) ?_
           refine pu_ 29 46 (tk_ 42 1073741823) HT_.out rfl rfl (by kernel_rfl) (fun _ _ _ h => h) (by rfl) (fun w' => by go_simp; with_reducible rfl) (by simp only [s0_, s1_, s2_, s3_, s4_, s5_]; rfl) ?_
           refine pu_ 30 47 (tk_ 42 2147483647) HT_.out rfl rfl (by kernel_rfl) (fun _ _ _ h => h) (by rfl) (fun w' => by go_simp; with_reducible rfl) (by simp only [s0_, s1_, s2_, s3_, s4_, s5_]; rfl) ?_
           refine pu_ 31 48 (tk_ 42 4294967295) HT_.out rfl rfl (by kernel_rfl) (fun _ _ _ h => h) (by rfl) (fun w' => by go_simp; with_reducible rfl) (by simp only [s0_, s1_, s2_, s3_, s4_, s5_]; rfl) ?_
           refine pu_ 32 49 (tk_ 42 8589934591) HT_.out rfl rfl (by kernel_rfl) (fun _ _ _ h => h) (by rfl) (fun w' => by go_simp; with_reducible rfl) (by simp only [s0_, s1_, s2_, s3_, s4_, s5_]; rfl) ?_
           refine ta_ 33 50 (tk_ 42 17179869183) HT_.out HW_.out rfl rfl (by kernel_rfl) (fun _ _ _ h => h) (by rfl) (by rintro w' ⟨s0, s1, s2, s3, s4, s5⟩; go_simp; with_reducible rfl) hHeld (by simp only [s0_, s1_, s2_, s3_, s4_, s5_]; rfl) ?_
           refine pu_ 34 51 (tk_ 42 34359738367) HT_.out rfl rfl (by kernel_rfl) (fun _ _ _ h => h) (by rfl) (fun w' => by go_simp; with_reducible rfl) (by simp only [s0_, s1_, s2_, s3_, s4_, s5_]; rfl) ?_
           refine pu_ 35 52 (tk_ 42 68719476735) HT_.out rfl rfl (by kernel_rfl) (fun _ _ _ h => h) (by rfl) (fun w' => by go_simp; with_reducible rfl) (by simp only [s0_, s1_, s2_, s3_, s4_, s5_]; rfl) ?_
           refine pu_ 36 53 (tk_ 42 137438953471) HT_.out rfl rfl (by kernel_rfl) (fun _ _ _ h => h) (by rfl) (fun w' => by go_simp; with_reducible rfl) (by simp only [s0_, s1_, s2_, s3_, s4_, s5_]; rfl) ?_
           refine ta_ 37 54 (tk_ 42 274877906943) HT_.out HW_.out rfl rfl (by kernel_rfl) (fun _ _ _ h => h) (by rfl) (by rintro w' ⟨s0, s1, s2, s3, s4, s5⟩; go_simp; with_reducible rfl) hHeld (by simp only [s0_, s1_, s2_, s3_, s4_, s5_]; rfl) ?_
           refine one_ (i := 38) (N := some 55) (tk_ 42 549755813887) rfl rfl (one_of HT_.out (by kernel_rfl)) (by decide) (fun K hK => ?_)
           refine goes_ Try.func35 (by kernel_rfl) rfl #[.string ((rd_T37 l0_1 x3_1).f2)] (by rfl) rfl rfl (by (try simp only [List.map_toArray, List.map_cons, List.map_nil]); first | done | rfl | (simp only [List.length_drop, List.length_take]; rfl)) ?_
           with_reducible refine (erasureref18_Means.calls ((rd_T37 l0_1 x3_1).f2) true _ A83.out).mono ?_
           rintro e w' ⟨rfl, ⟨nd, rfl⟩⟩
           refine ⟨_, rfl, ?_⟩
           refine hK.out _ _ ⟨(blk_cell BK128.out 0).trans rfl, (blk_cell BK128.out 1).trans rfl, (blk_cell BK128.out 2).trans rfl, (blk_cell BK130.out 0).trans rfl, (blk_cell BK130.out 1).trans rfl, (blk_cell BK130.out 2).trans rfl⟩ (fun hHeld => ?_)
           clear hK K
           refine norm_ (by show Act.put _ (some 55) _ = _; simp only [s0_, s1_, s2_, s3_, s4_, s5_]; rfl) ?_
           refine pu_ 39 56 (tk_ 42 1099511627775) HT_.out rfl rfl (by kernel_rfl) (fun _ _ _ h => h) (by rfl) (fun w' => by go_simp; with_reducible rfl) (by simp only [s0_, s1_, s2_, s3_, s4_, s5_]; rfl) ?_
           refine pu_ 40 57 (tk_ 42 2199023255551) HT_.out rfl rfl (by kernel_rfl) (fun _ _ _ h => h) (by rfl) (fun w' => by go_simp; with_reducible rfl) (by simp only [s0_, s1_, s2_, s3_, s4_, s5_]; rfl) ?_
           refine pu_ 41 58 (tk_ 42 4398046511103) HT_.out rfl rfl (by kernel_rfl) (fun _ _ _ h => h) (by rfl) (fun w' => by go_simp; with_reducible rfl) (by simp only [s0_, s1_, s2_, s3_, s4_, s5_]; rfl) ?_
           refine done_ (done_of HT_.out (by kernel_rfl)) ?_
           try go_wp2
           go_roundg k1
           case measure => have := HK1.out; omega
           case rel => exact ⟨(wrap64 (x3_1 + 1)), (by first | rfl | (simp; done) | (simp [*]; done)), H', ⟨by have := HK1.out; omega⟩, ⟨by (with_reducible repeat (first | refine blk_drewN ?_ _ | refine blk_drew ?_ | refine blk_alloc ?_ _)); exact BK128.out⟩, ⟨by repeat (first | (with_reducible first | exact HB.out | apply below_alloc | apply pw_below_drewN | apply below_drew1 | refine below_set ?_ GE128.out | refine below_set ?_ GE130.out) | exact HB.out)⟩⟩
          ·replace c84 := Bool.eq_false_iff.mpr c84
           subst c84
           have H1 : (some false) = some r := by rw [if_neg (show ¬ (false = true) by decide)] at H; exact H
           clear H
           have H := H1
           clear H1
           obtain rfl := Option.some.inj H
           have hcz92_0 : wr.cell? ⟨gb128, 0, none⟩ = some (.bool a0_0) := (blk_cell BK128.out 0).trans rfl
           have hcz92_1 : wr.cell? ⟨gb128, 1, none⟩ = some (.slice A0_1 l0_1.length c0_1) := (blk_cell BK128.out 1).trans rfl
           have hcz92_2 : wr.cell? ⟨gb128, 2, none⟩ = some (.int .i64 a0_2) := (blk_cell BK128.out 2).trans rfl
           have hfz92_0 := blk_frozen BK128.out 0
           have hfz92_1 := blk_frozen BK128.out 1
           have hfz92_2 := blk_frozen BK128.out 2
           have p129 : 0 ≤ (x3_1 : Int) := of_decide_eq_true (by first | (with_reducible assumption) | assumption)
           have q129 : x3_1 < (l0_1.length : Int) := of_decide_eq_true (by first | (with_reducible assumption) | assumption)
           obtain ⟨ad129, e129, hx129_0, hx129_1, hx129_2⟩ := at_T37 HR0_1.out x3_1 p129 q129
           cases e129
           replace hx129_0 := (HB.out.cell (World.block_lt_of_cell? w _ hx129_0)).trans hx129_0
           replace hx129_1 := (HB.out.cell (World.block_lt_of_cell? w _ hx129_1)).trans hx129_1
           replace hx129_2 := (HB.out.cell (World.block_lt_of_cell? w _ hx129_2)).trans hx129_2
           replace p129 := eq_true p129
           replace q129 := eq_true q129
           try go_wp2_with (first | ((with_reducible refine gate_dst (N := 4) rfl ?_); (try (refine gate_guard (by rfl) ?_; dsimp only)); refine box_event ?hg (N := 4) ?hd (cs := #[.int .i64 0, .int .i64 0, .string (⟨#[]⟩ : ByteArray)]) (t := 37) ?hr ?_; (case hd => rfl); (case hg => rfl); (case hr => first | (go_simp; done) | (go_simp; rfl)); intro gb130 hg w93 hbox hb; have n0_ := Aside0.mk (blk_below (g := gb128) (o := .cells #[.bool a0_0, .slice (some ad129) l0_1.length c0_1, .int .i64 a0_2] 24 (0, 0)) (by (with_reducible repeat (first | refine blk_drewN ?_ _ | refine blk_drew ?_ | refine blk_alloc ?_ _)); exact BK128.out) hb); have n1_ := Aside0.mk (below_step (by repeat (first | (with_reducible first | exact HB.out | apply below_alloc | apply pw_below_drewN | apply below_drew1 | refine below_set ?_ GE128.out) | exact HB.out)) hb); have n2_ := Aside0.mk (hbox); have n3_ := Aside0.mk ((by rw [hg]; exact (below_size (by repeat (first | (with_reducible first | exact HB.out | apply below_alloc | apply pw_below_drewN | apply below_drew1 | refine below_set ?_ GE128.out) | exact HB.out))) : w.heap.size ≤ gb130)); have n4_ := Aside0.mk ((by rw [hg]; exact (below_size (by repeat (first | (with_reducible first | exact HB.out | apply below_alloc | apply pw_below_drewN | apply below_drew1 | refine below_set ?_ GE128.out) | exact HB.out))) : w.heap.size ≤ gb130)); have n5_ := Aside0.mk ((by rw [hg]; exact Nat.ne_of_lt (blk_lt (g := gb128) (o := .cells #[.bool a0_0, .slice (some ad129) l0_1.length c0_1, .int .i64 a0_2] 24 (0, 0)) (by (with_reducible repeat (first | refine blk_drewN ?_ _ | refine blk_drew ?_ | refine blk_alloc ?_ _)); exact BK128.out)) : gb128 ≠ gb130)); have n6_ := Aside0.mk ((by rw [hg]; exact Nat.ne_of_gt (blk_lt (g := gb128) (o := .cells #[.bool a0_0, .slice (some ad129) l0_1.length c0_1, .int .i64 a0_2] 24 (0, 0)) (by (with_reducible repeat (first | refine blk_drewN ?_ _ | refine blk_drew ?_ | refine blk_alloc ?_ _)); exact BK128.out)) : gb130 ≠ gb128)); clear BK128; clear HB; have BK128 := n0_; have HB := n1_; have BK130 := n2_; have GW130 := n3_; have GE130 := n4_; have NB128_130 := n5_; have NB130_128 := n6_; clear n0_ n1_ n2_ n3_ n4_ n5_ n6_; clear hb hbox hg; have hnb94 := NB130_128.out; have hnc94 := NB128_130.out; have hcz95_0 : w93.cell? ⟨gb130, 0, none⟩ = some (.int .i64 0) := (blk_cell BK130.out 0).trans rfl; have hcz95_1 : w93.cell? ⟨gb130, 1, none⟩ = some (.int .i64 0) := (blk_cell BK130.out 1).trans rfl; have hcz95_2 : w93.cell? ⟨gb130, 2, none⟩ = some (.string (⟨#[]⟩ : ByteArray)) := (blk_cell BK130.out 2).trans rfl; have hfz95_0 := blk_frozen BK130.out 0; have hfz95_1 := blk_frozen BK130.out 1; have hfz95_2 := blk_frozen BK130.out 2))
           have n0_ : Aside0 ((((w93.setCell ⟨gb130, 0, none⟩ (.int .i64 ((rd_T37 l0_1 x3_1).f0))).setCell ⟨gb130, 1, none⟩ (.int .i64 ((rd_T37 l0_1 x3_1).f1))).setCell ⟨gb130, 2, none⟩ (.string ((rd_T37 l0_1 x3_1).f2))).heap[gb128]? = some (.cells #[.bool a0_0, .slice (some ad129) l0_1.length c0_1, .int .i64 a0_2] 24 (0, 0))) := ⟨by (with_reducible repeat (first | refine blk_drewN ?_ _ | refine blk_drew ?_ | refine blk_alloc ?_ _)); refine blk_far ?_ NB128_130.out _; (with_reducible repeat (first | refine blk_drewN ?_ _ | refine blk_drew ?_ | refine blk_alloc ?_ _)); refine blk_far ?_ NB128_130.out _; (with_reducible repeat (first | refine blk_drewN ?_ _ | refine blk_drew ?_ | refine blk_alloc ?_ _)); refine blk_far ?_ NB128_130.out _; (with_reducible repeat (first | refine blk_drewN ?_ _ | refine blk_drew ?_ | refine blk_alloc ?_ _)); exact BK128.out⟩
           have n1_ : Aside0 ((((w93.setCell ⟨gb130, 0, none⟩ (.int .i64 ((rd_T37 l0_1 x3_1).f0))).setCell ⟨gb130, 1, none⟩ (.int .i64 ((rd_T37 l0_1 x3_1).f1))).setCell ⟨gb130, 2, none⟩ (.string ((rd_T37 l0_1 x3_1).f2))).heap[gb130]? = some (.cells #[.int .i64 ((rd_T37 l0_1 x3_1).f0), .int .i64 ((rd_T37 l0_1 x3_1).f1), .string ((rd_T37 l0_1 x3_1).f2)] 37 (0, 0))) := ⟨by (with_reducible repeat (first | refine blk_drewN ?_ _ | refine blk_drew ?_ | refine blk_alloc ?_ _)); refine blk_put (cs := #[.int .i64 ((rd_T37 l0_1 x3_1).f0), .int .i64 ((rd_T37 l0_1 x3_1).f1), .string (⟨#[]⟩ : ByteArray)]) ?_ 2 _ rfl; (with_reducible repeat (first | refine blk_drewN ?_ _ | refine blk_drew ?_ | refine blk_alloc ?_ _)); refine blk_put (cs := #[.int .i64 ((rd_T37 l0_1 x3_1).f0), .int .i64 0, .string (⟨#[]⟩ : ByteArray)]) ?_ 1 _ rfl; (with_reducible repeat (first | refine blk_drewN ?_ _ | refine blk_drew ?_ | refine blk_alloc ?_ _)); refine blk_put (cs := #[.int .i64 0, .int .i64 0, .string (⟨#[]⟩ : ByteArray)]) ?_ 0 _ rfl; (with_reducible repeat (first | refine blk_drewN ?_ _ | refine blk_drew ?_ | refine blk_alloc ?_ _)); exact BK130.out⟩
           have n2_ : Aside0 (Below w.heap.size w (((w93.setCell ⟨gb130, 0, none⟩ (.int .i64 ((rd_T37 l0_1 x3_1).f0))).setCell ⟨gb130, 1, none⟩ (.int .i64 ((rd_T37 l0_1 x3_1).f1))).setCell ⟨gb130, 2, none⟩ (.string ((rd_T37 l0_1 x3_1).f2)))) := ⟨by repeat (first | (with_reducible first | exact HB.out | apply below_alloc | apply pw_below_drewN | apply below_drew1 | refine below_set ?_ GE128.out | refine below_set ?_ GE130.out) | exact HB.out)⟩
           (try clear BK128)
           (try clear BK130)
           (try clear HB)
           generalize (((w93.setCell ⟨gb130, 0, none⟩ (.int .i64 ((rd_T37 l0_1 x3_1).f0))).setCell ⟨gb130, 1, none⟩ (.int .i64 ((rd_T37 l0_1 x3_1).f1))).setCell ⟨gb130, 2, none⟩ (.string ((rd_T37 l0_1 x3_1).f2))) = w96 at n0_ n1_ n2_ ⊢
           have BK128 := n0_
           have BK130 := n1_
           have HB := n2_
           clear n0_ n1_ n2_
           have n0_ := Aside0.mk (blk_drew BK128.out)
           have n1_ := Aside0.mk (blk_drew BK130.out)
           have n2_ := Aside0.mk (below_drew1 HB.out)
           clear BK128
           clear BK130
           clear HB
           have BK128 := n0_
           have BK130 := n1_
           have HB := n2_
           clear n0_ n1_ n2_
           refine start_ (n := 42) (S := fun w' => w'.cell? ⟨gb128, 0, none⟩ = some (.bool a0_0) ∧ w'.cell? ⟨gb128, 1, none⟩ = some (.slice (some ad129) l0_1.length c0_1) ∧ w'.cell? ⟨gb128, 2, none⟩ = some (.int .i64 a0_2) ∧ w'.cell? ⟨gb130, 0, none⟩ = some (.int .i64 ((rd_T37 l0_1 x3_1).f0)) ∧ w'.cell? ⟨gb130, 1, none⟩ = some (.int .i64 ((rd_T37 l0_1 x3_1).f1)) ∧ w'.cell? ⟨gb130, 2, none⟩ = some (.string ((rd_T37 l0_1 x3_1).f2))) (ds := []) (tk_ 42 0) (by kernel_rfl) rfl (by kernel_rfl) ⟨(blk_cell BK128.out 0).trans rfl, (blk_cell BK128.out 1).trans rfl, (blk_cell BK128.out 2).trans rfl, (blk_cell BK130.out 0).trans rfl, (blk_cell BK130.out 1).trans rfl, (blk_cell BK130.out 2).trans rfl⟩ (fun hHeld => ?_); refine with_tabW erasureref19_Right.tab5 erasureref19_Right.bits5 (fun HT_ HW_ => ?_)
           generalize w96.drew = w97 at BK128 BK130 HB hHeld ⊢
           refine pu_ 1 18 (tk_ 42 2) HT_.out rfl rfl (by kernel_rfl) (fun _ _ _ h => h) (by rfl) (fun w' => by go_simp; with_reducible rfl) (by simp only [s0_, s1_, s2_, s3_, s4_, s5_]; rfl) ?_
           refine ta_ 0 17 (tk_ 42 3) HT_.out HW_.out rfl rfl (by kernel_rfl) (fun _ _ _ h => h) (by rfl) (by rintro w' ⟨s0, s1, s2, s3, s4, s5⟩; go_simp; with_reducible rfl) hHeld (by simp only [s0_, s1_, s2_, s3_, s4_, s5_]; rfl) ?_
           refine ta_ 2 19 (tk_ 42 7) HT_.out HW_.out rfl rfl (by kernel_rfl) (fun _ _ _ h => h) (by rfl) (by rintro w' ⟨s0, s1, s2, s3, s4, s5⟩; go_simp; with_reducible rfl) hHeld (by simp only [s0_, s1_, s2_, s3_, s4_, s5_]; rfl) ?_
           refine one_ (i := 3) (N := some 20) (tk_ 42 15) rfl rfl (one_of HT_.out (by kernel_rfl)) (by decide) (fun K hK => ?_)
           refine goes_ Try.func34 (by kernel_rfl) rfl #[.agg #[.bool a0_0, .slice (some ad129) l0_1.length c0_1, .int .i64 a0_2], .int .i64 ((rd_T37 l0_1 x3_1).f0)] (by rfl) rfl rfl (by (try simp only [List.map_toArray, List.map_cons, List.map_nil]); first | done | rfl | (simp only [List.length_drop, List.length_take]; rfl)) ?_
           with_reducible refine (erasureref19_code.calls a0_0 _ _ l0_1 a0_2 ((rd_T37 l0_1 x3_1).f0) true _ ?side1 ?side2 A5.out).mono ?_
           (case side1 => repeat (first | exact (Kd.C_below HR0_1.out HB.out) | (with_reducible refine Kd.C_alloc ?_ _) | (with_reducible refine Kd.C_drewN ?_ _) | (with_reducible refine Kd.C_drew ?_)))
           (case side2 => exact HC0_1.out)
           rintro e w98 ⟨rfl, hb⟩
           refine ⟨_, rfl, ?_⟩
           have n0_ := Aside0.mk (blk_below (g := gb128) (o := .cells #[.bool a0_0, .slice (some ad129) l0_1.length c0_1, .int .i64 a0_2] 24 (0, 0)) (by (with_reducible repeat (first | refine blk_drewN ?_ _ | refine blk_drew ?_ | refine blk_alloc ?_ _)); exact BK128.out) hb)
           have n1_ := Aside0.mk (blk_below (g := gb130) (o := .cells #[.int .i64 ((rd_T37 l0_1 x3_1).f0), .int .i64 ((rd_T37 l0_1 x3_1).f1), .string ((rd_T37 l0_1 x3_1).f2)] 37 (0, 0)) (by (with_reducible repeat (first | refine blk_drewN ?_ _ | refine blk_drew ?_ | refine blk_alloc ?_ _)); exact BK130.out) hb)
           have n2_ := Aside0.mk (below_step (by repeat (first | (with_reducible first | exact HB.out | apply below_alloc | apply pw_below_drewN | apply below_drew1 | refine below_set ?_ GE128.out | refine below_set ?_ GE130.out) | exact HB.out)) hb)
           clear BK128
           clear BK130
           clear HB
           have BK128 := n0_
           have BK130 := n1_
           have HB := n2_
           clear n0_ n1_ n2_
           (try clear hb)
           (try clear hb2)
           (try clear hk)
           (try clear hi)
           refine hK.out _ _ ⟨(blk_cell BK128.out 0).trans rfl, (blk_cell BK128.out 1).trans rfl, (blk_cell BK128.out 2).trans rfl, (blk_cell BK130.out 0).trans rfl, (blk_cell BK130.out 1).trans rfl, (blk_cell BK130.out 2).trans rfl⟩ (fun hHeld => ?_)
           clear hK K
           refine norm_ (by show Act.put _ (some 20) _ = _; simp only [s0_, s1_, s2_, s3_, s4_, s5_]; rfl) ?_
           refine pu_ 4 21 (tk_ 42 31) HT_.out rfl rfl (by kernel_rfl) (fun _ _ _ h => h) (by rfl) (fun w' => by go_simp; with_reducible rfl) (by simp only [s0_, s1_, s2_, s3_, s4_, s5_]; rfl) ?_
           refine pu_ 5 22 (tk_ 42 63) HT_.out rfl rfl (by kernel_rfl) (fun _ _ _ h => h) (by rfl) (fun w' => by go_simp; with_reducible rfl) (by simp only [s0_, s1_, s2_, s3_, s4_, s5_]; rfl) ?_
           refine pu_ 6 23 (tk_ 42 127) HT_.out rfl rfl (by kernel_rfl) (fun _ _ _ h => h) (by rfl) (fun w' => by go_simp; with_reducible rfl) (by simp only [s0_, s1_, s2_, s3_, s4_, s5_]; rfl) ?_
           refine pu_ 7 24 (tk_ 42 255) HT_.out rfl rfl (by kernel_rfl) (fun _ _ _ h => h) (by rfl) (fun w' => by go_simp; with_reducible rfl) (by simp only [s0_, s1_, s2_, s3_, s4_, s5_]; rfl) ?_
           refine pu_ 8 25 (tk_ 42 511) HT_.out rfl rfl (by kernel_rfl) (fun _ _ _ h => h) (by rfl) (fun w' => by go_simp; with_reducible rfl) (by simp only [s0_, s1_, s2_, s3_, s4_, s5_]; rfl) ?_
           refine sk_ 9 26 (tk_ 42 1023) HT_.out rfl rfl (by kernel_rfl) (fun _ _ _ h => h) (by rfl) (by simp only [s0_, s1_, s2_, s3_, s4_, s5_]; rfl) ?_
           refine sk_ 10 27 (tk_ 42 2047) HT_.out rfl rfl (by kernel_rfl) (fun _ _ _ h => h) (by rfl) (by simp only [s0_, s1_, s2_, s3_, s4_, s5_]; rfl) ?_
           refine sk_ 11 28 (tk_ 42 4095) HT_.out rfl rfl (by kernel_rfl) (fun _ _ _ h => h) (by rfl) (by simp only [s0_, s1_, s2_, s3_, s4_, s5_]; rfl) ?_
           refine sk_ 12 29 (tk_ 42 8191) HT_.out rfl rfl (by kernel_rfl) (fun _ _ _ h => h) (by rfl) (by simp only [s0_, s1_, s2_, s3_, s4_, s5_]; rfl) ?_
           refine sk_ 13 30 (tk_ 42 16383) HT_.out rfl rfl (by kernel_rfl) (fun _ _ _ h => h) (by rfl) (by simp only [s0_, s1_, s2_, s3_, s4_, s5_]; rfl) ?_
           refine sk_ 14 31 (tk_ 42 32767) HT_.out rfl rfl (by kernel_rfl) (fun _ _ _ h => h) (by rfl) (by simp only [s0_, s1_, s2_, s3_, s4_, s5_]; rfl) ?_
           refine sk_ 15 32 (tk_ 42 65535) HT_.out rfl rfl (by kernel_rfl) (fun _ _ _ h => h) (by rfl) (by simp only [s0_, s1_, s2_, s3_, s4_, s5_]; rfl) ?_
           refine sk_ 16 33 (tk_ 42 131071) HT_.out rfl rfl (by kernel_rfl) (fun _ _ _ h => h) (by rfl) (by simp only [s0_, s1_, s2_, s3_, s4_, s5_]; rfl) ?_
           refine sk_ 17 34 (tk_ 42 262143) HT_.out rfl rfl (by kernel_rfl) (fun _ _ _ h => h) (by rfl) (by simp only [s0_, s1_, s2_, s3_, s4_, s5_]; rfl) ?_
           refine sk_ 18 35 (tk_ 42 524287) HT_.out rfl rfl (by kernel_rfl) (fun _ _ _ h => h) (by rfl) (by simp only [s0_, s1_, s2_, s3_, s4_, s5_]; rfl) ?_
           refine pu_ 19 36 (tk_ 42 1048575) HT_.out rfl rfl (by kernel_rfl) (fun _ _ _ h => h) (by rfl) (fun w' => by go_simp; with_reducible rfl) (by simp only [s0_, s1_, s2_, s3_, s4_, s5_]; rfl) ?_
           refine pu_ 20 37 (tk_ 42 2097151) HT_.out rfl rfl (by kernel_rfl) (fun _ _ _ h => h) (by rfl) (fun w' => by go_simp; with_reducible rfl) (by simp only [s0_, s1_, s2_, s3_, s4_, s5_]; rfl) ?_
           refine pu_ 21 38 (tk_ 42 4194303) HT_.out rfl rfl (by kernel_rfl) (fun _ _ _ h => h) (by rfl) (fun w' => by go_simp; with_reducible rfl) (by simp only [s0_, s1_, s2_, s3_, s4_, s5_]; rfl) ?_
           refine pu_ 22 39 (tk_ 42 8388607) HT_.out rfl rfl (by kernel_rfl) (fun _ _ _ h => h) (by rfl) (fun w' => by go_simp; with_reducible rfl) (by simp only [s0_, s1_, s2_, s3_, s4_, s5_]; rfl) ?_
           refine ta_ 23 40 (tk_ 42 16777215) HT_.out HW_.out rfl rfl (by kernel_rfl) (fun _ _ _ h => h) (by rfl) (by rintro w' ⟨s0, s1, s2, s3, s4, s5⟩; go_simp; with_reducible rfl) hHeld (by simp only [s0_, s1_, s2_, s3_, s4_, s5_]; rfl) ?_
           refine pu_ 24 41 (tk_ 42 33554431) HT_.out rfl rfl (by kernel_rfl) (fun _ _ _ h => h) (by rfl) (fun w' => by go_simp; with_reducible rfl) (by simp only [s0_, s1_, s2_, s3_, s4_, s5_]; rfl) ?_
           refine pu_ 25 42 (tk_ 42 67108863) HT_.out rfl rfl (by kernel_rfl) (fun _ _ _ h => h) (by rfl) (fun w' => by go_simp; with_reducible rfl) (by simp only [s0_, s1_, s2_, s3_, s4_, s5_]; rfl) ?_
           refine pu_ 26 43 (tk_ 42 134217727) HT_.out rfl rfl (by kernel_rfl) (fun _ _ _ h => h) (by rfl) (fun w' => by go_simp; with_reducible rfl) (by simp only [s0_, s1_, s2_, s3_, s4_, s5_]; rfl) ?_
           refine pu_ 27 44 (tk_ 42 268435455) HT_.out rfl rfl (by kernel_rfl) (fun _ _ _ h => h) (by rfl) (fun w' => by go_simp; with_reducible rfl) (by simp only [s0_, s1_, s2_, s3_, s4_, s5_]; rfl) ?_
           refine ta_ 28 45 (tk_ 42 536870911) HT_.out HW_.out rfl rfl (by kernel_rfl) (fun _ _ _ h => h) (by rfl) (by rintro w' ⟨s0, s1, s2, s3, s4, s5⟩; go_simp; with_reducible rfl) hHeld (by simp only [s0_, s1_, s2_, s3_, s4_, s5_]; rfl) ?_
           refine pu_ 29 46 (tk_ 42 1073741823) HT_.out rfl rfl (by kernel_rfl) (fun _ _ _ h => h) (by rfl) (fun w' => by go_simp; with_reducible rfl) (by simp only [s0_, s1_, s2_, s3_, s4_, s5_]; rfl) ?_
           refine pu_ 30 47 (tk_ 42 2147483647) HT_.out rfl rfl (by kernel_rfl) (fun _ _ _ h => h) (by rfl) (fun w' => by go_simp; with_reducible rfl) (by simp only [s0_, s1_, s2_, s3_, s4_, s5_]; rfl) ?_
           refine pu_ 31 48 (tk_ 42 4294967295) HT_.out rfl rfl (by kernel_rfl) (fun _ _ _ h => h) (by rfl) (fun w' => by go_simp; with_reducible rfl) (by simp only [s0_, s1_, s2_, s3_, s4_, s5_]; rfl) ?_
           refine pu_ 32 49 (tk_ 42 8589934591) HT_.out rfl rfl (by kernel_rfl) (fun _ _ _ h => h) (by rfl) (fun w' => by go_simp; with_reducible rfl) (by simp only [s0_, s1_, s2_, s3_, s4_, s5_]; rfl) ?_
           refine ta_ 33 50 (tk_ 42 17179869183) HT_.out HW_.out rfl rfl (by kernel_rfl) (fun _ _ _ h => h) (by rfl) (by rintro w' ⟨s0, s1, s2, s3, s4, s5⟩; go_simp; with_reducible rfl) hHeld (by simp only [s0_, s1_, s2_, s3_, s4_, s5_]; rfl) ?_
           refine pu_ 34 51 (tk_ 42 34359738367) HT_.out rfl rfl (by kernel_rfl) (fun _ _ _ h => h) (by rfl) (fun w' => by go_simp; with_reducible rfl) (by simp only [s0_, s1_, s2_, s3_, s4_, s5_]; rfl) ?_
           refine pu_ 35 52 (tk_ 42 68719476735) HT_.out rfl rfl (by kernel_rfl) (fun _ _ _ h => h) (by rfl) (fun w' => by go_simp; with_reducible rfl) (by simp only [s0_, s1_, s2_, s3_, s4_, s5_]; rfl) ?_
           refine pu_ 36 53 (tk_ 42 137438953471) HT_.out rfl rfl (by kernel_rfl) (fun _ _ _ h => h) (by rfl) (fun w' => by go_simp; with_reducible rfl) (by simp only [s0_, s1_, s2_, s3_, s4_, s5_]; rfl) ?_
           refine ta_ 37 54 (tk_ 42 274877906943) HT_.out HW_.out rfl rfl (by kernel_rfl) (fun _ _ _ h => h) (by rfl) (by rintro w' ⟨s0, s1, s2, s3, s4, s5⟩; go_simp; with_reducible rfl) hHeld (by simp only [s0_, s1_, s2_, s3_, s4_, s5_]; rfl) ?_
           refine one_ (i := 38) (N := some 55) (tk_ 42 549755813887) rfl rfl (one_of HT_.out (by kernel_rfl)) (by decide) (fun K hK => ?_)
           refine goes_ Try.func35 (by kernel_rfl) rfl #[.string ((rd_T37 l0_1 x3_1).f2)] (by rfl) rfl rfl (by (try simp only [List.map_toArray, List.map_cons, List.map_nil]); first | done | rfl | (simp only [List.length_drop, List.length_take]; rfl)) ?_
           with_reducible refine (erasureref18_Means.calls ((rd_T37 l0_1 x3_1).f2) false _ A83.out).mono ?_
           rintro e w' ⟨rfl, ⟨nd, rfl⟩⟩
           refine ⟨_, rfl, ?_⟩
           refine hK.out _ _ ⟨(blk_cell BK128.out 0).trans rfl, (blk_cell BK128.out 1).trans rfl, (blk_cell BK128.out 2).trans rfl, (blk_cell BK130.out 0).trans rfl, (blk_cell BK130.out 1).trans rfl, (blk_cell BK130.out 2).trans rfl⟩ (fun hHeld => ?_)
           clear hK K
           refine norm_ (by show Act.put _ (some 55) _ = _; simp only [s0_, s1_, s2_, s3_, s4_, s5_]; rfl) ?_
           refine pu_ 39 56 (tk_ 42 1099511627775) HT_.out rfl rfl (by kernel_rfl) (fun _ _ _ h => h) (by rfl) (fun w' => by go_simp; with_reducible rfl) (by simp only [s0_, s1_, s2_, s3_, s4_, s5_]; rfl) ?_
           refine pu_ 40 57 (tk_ 42 2199023255551) HT_.out rfl rfl (by kernel_rfl) (fun _ _ _ h => h) (by rfl) (fun w' => by go_simp; with_reducible rfl) (by simp only [s0_, s1_, s2_, s3_, s4_, s5_]; rfl) ?_
           refine pu_ 41 58 (tk_ 42 4398046511103) HT_.out rfl rfl (by kernel_rfl) (fun _ _ _ h => h) (by rfl) (fun w' => by go_simp; with_reducible rfl) (by simp only [s0_, s1_, s2_, s3_, s4_, s5_]; rfl) ?_
           refine done_ (done_of HT_.out (by kernel_rfl)) ?_
           try go_wp2
           go_ret
           exact ⟨by first | rfl | (simp [errW_none, errW_some] <;> rfl) | (simp [*, errW_none, errW_some] <;> rfl), by repeat (first | (with_reducible first | exact HB.out | apply below_alloc | apply pw_below_drewN | apply below_drew1 | refine below_set ?_ GE128.out | refine below_set ?_ GE130.out) | exact HB.out)⟩
     ·replace c6 := Bool.eq_false_iff.mpr c6
      subst c6
      have H1 : (some false) = some r := by rw [if_neg (show ¬ (false = true) by decide)] at H; exact H
      clear H
      have H := H1
      clear H1
      obtain rfl := Option.some.inj H
      have hcz99_0 : wr.cell? ⟨gb128, 0, none⟩ = some (.bool a0_0) := (blk_cell BK128.out 0).trans rfl
      have hcz99_1 : wr.cell? ⟨gb128, 1, none⟩ = some (.slice A0_1 l0_1.length c0_1) := (blk_cell BK128.out 1).trans rfl
      have hcz99_2 : wr.cell? ⟨gb128, 2, none⟩ = some (.int .i64 a0_2) := (blk_cell BK128.out 2).trans rfl
      have hfz99_0 := blk_frozen BK128.out 0
      have hfz99_1 := blk_frozen BK128.out 1
      have hfz99_2 := blk_frozen BK128.out 2
      have p129 : 0 ≤ (x3_1 : Int) := of_decide_eq_true (by first | (with_reducible assumption) | assumption)
      have q129 : x3_1 < (l0_1.length : Int) := of_decide_eq_true (by first | (with_reducible assumption) | assumption)
      obtain ⟨ad129, e129, hx129_0, hx129_1, hx129_2⟩ := at_T37 HR0_1.out x3_1 p129 q129
      cases e129
      replace hx129_0 := (HB.out.cell (World.block_lt_of_cell? w _ hx129_0)).trans hx129_0
      replace hx129_1 := (HB.out.cell (World.block_lt_of_cell? w _ hx129_1)).trans hx129_1
      replace hx129_2 := (HB.out.cell (World.block_lt_of_cell? w _ hx129_2)).trans hx129_2
      replace p129 := eq_true p129
      replace q129 := eq_true q129
      try go_wp2_with (first | ((with_reducible refine gate_dst (N := 4) rfl ?_); (try (refine gate_guard (by rfl) ?_; dsimp only)); refine box_event ?hg (N := 4) ?hd (cs := #[.int .i64 0, .int .i64 0, .string (⟨#[]⟩ : ByteArray)]) (t := 37) ?hr ?_; (case hd => rfl); (case hg => rfl); (case hr => first | (go_simp; done) | (go_simp; rfl)); intro gb130 hg w100 hbox hb; have n0_ := Aside0.mk (blk_below (g := gb128) (o := .cells #[.bool a0_0, .slice (some ad129) l0_1.length c0_1, .int .i64 a0_2] 24 (0, 0)) (by (with_reducible repeat (first | refine blk_drewN ?_ _ | refine blk_drew ?_ | refine blk_alloc ?_ _)); exact BK128.out) hb); have n1_ := Aside0.mk (below_step (by repeat (first | (with_reducible first | exact HB.out | apply below_alloc | apply pw_below_drewN | apply below_drew1 | refine below_set ?_ GE128.out) | exact HB.out)) hb); have n2_ := Aside0.mk (hbox); have n3_ := Aside0.mk ((by rw [hg]; exact (below_size (by repeat (first | (with_reducible first | exact HB.out | apply below_alloc | apply pw_below_drewN | apply below_drew1 | refine below_set ?_ GE128.out) | exact HB.out))) : w.heap.size ≤ gb130)); have n4_ := Aside0.mk ((by rw [hg]; exact (below_size (by repeat (first | (with_reducible first | exact HB.out | apply below_alloc | apply pw_below_drewN | apply below_drew1 | refine below_set ?_ GE128.out) | exact HB.out))) : w.heap.size ≤ gb130)); have n5_ := Aside0.mk ((by rw [hg]; exact Nat.ne_of_lt (blk_lt (g := gb128) (o := .cells #[.bool a0_0, .slice (some ad129) l0_1.length c0_1, .int .i64 a0_2] 24 (0, 0)) (by (with_reducible repeat (first | refine blk_drewN ?_ _ | refine blk_drew ?_ | refine blk_alloc ?_ _)); exact BK128.out)) : gb128 ≠ gb130)); have n6_ := Aside0.mk ((by rw [hg]; exact Nat.ne_of_gt (blk_lt (g := gb128) (o := .cells #[.bool a0_0, .slice (some ad129) l0_1.length c0_1, .int .i64 a0_2] 24 (0, 0)) (by (with_reducible repeat (first | refine blk_drewN ?_ _ | refine blk_drew ?_ | refine blk_alloc ?_ _)); exact BK128.out)) : gb130 ≠ gb128)); clear BK128; clear HB; have BK128 := n0_; have HB := n1_; have BK130 := n2_; have GW130 := n3_; have GE130 := n4_; have NB128_130 := n5_; have NB130_128 := n6_; clear n0_ n1_ n2_ n3_ n4_ n5_ n6_; clear hb hbox hg; have hnb101 := NB130_128.out; have hnc101 := NB128_130.out; have hcz102_0 : w100.cell? ⟨gb130, 0, none⟩ = some (.int .i64 0) := (blk_cell BK130.out 0).trans rfl; have hcz102_1 : w100.cell? ⟨gb130, 1, none⟩ = some (.int .i64 0) := (blk_cell BK130.out 1).trans rfl; have hcz102_2 : w100.cell? ⟨gb130, 2, none⟩ = some (.string (⟨#[]⟩ : ByteArray)) := (blk_cell BK130.out 2).trans rfl; have hfz102_0 := blk_frozen BK130.out 0; have hfz102_1 := blk_frozen BK130.out 1; have hfz102_2 := blk_frozen BK130.out 2))
      have n0_ : Aside0 ((((w100.setCell ⟨gb130, 0, none⟩ (.int .i64 ((rd_T37 l0_1 x3_1).f0))).setCell ⟨gb130, 1, none⟩ (.int .i64 ((rd_T37 l0_1 x3_1).f1))).setCell ⟨gb130, 2, none⟩ (.string ((rd_T37 l0_1 x3_1).f2))).heap[gb128]? = some (.cells #[.bool a0_0, .slice (some ad129) l0_1.length c0_1, .int .i64 a0_2] 24 (0, 0))) := ⟨by (with_reducible repeat (first | refine blk_drewN ?_ _ | refine blk_drew ?_ | refine blk_alloc ?_ _)); refine blk_far ?_ NB128_130.out _; (with_reducible repeat (first | refine blk_drewN ?_ _ | refine blk_drew ?_ | refine blk_alloc ?_ _)); refine blk_far ?_ NB128_130.out _; (with_reducible repeat (first | refine blk_drewN ?_ _ | refine blk_drew ?_ | refine blk_alloc ?_ _)); refine blk_far ?_ NB128_130.out _; (with_reducible repeat (first | refine blk_drewN ?_ _ | refine blk_drew ?_ | refine blk_alloc ?_ _)); exact BK128.out⟩
      have n1_ : Aside0 ((((w100.setCell ⟨gb130, 0, none⟩ (.int .i64 ((rd_T37 l0_1 x3_1).f0))).setCell ⟨gb130, 1, none⟩ (.int .i64 ((rd_T37 l0_1 x3_1).f1))).setCell ⟨gb130, 2, none⟩ (.string ((rd_T37 l0_1 x3_1).f2))).heap[gb130]? = some (.cells #[.int .i64 ((rd_T37 l0_1 x3_1).f0), .int .i64 ((rd_T37 l0_1 x3_1).f1), .string ((rd_T37 l0_1 x3_1).f2)] 37 (0, 0))) := ⟨by (with_reducible repeat (first | refine blk_drewN ?_ _ | refine blk_drew ?_ | refine blk_alloc ?_ _)); refine blk_put (cs := #[.int .i64 ((rd_T37 l0_1 x3_1).f0), .int .i64 ((rd_T37 l0_1 x3_1).f1), .string (⟨#[]⟩ : ByteArray)]) ?_ 2 _ rfl; (with_reducible repeat (first | refine blk_drewN ?_ _ | refine blk_drew ?_ | refine blk_alloc ?_ _)); refine blk_put (cs := #[.int .i64 ((rd_T37 l0_1 x3_1).f0), .int .i64 0, .string (⟨#[]⟩ : ByteArray)]) ?_ 1 _ rfl; (with_reducible repeat (first | refine blk_drewN ?_ _ | refine blk_drew ?_ | refine blk_alloc ?_ _)); refine blk_put (cs := #[.int .i64 0, .int .i64 0, .string (⟨#[]⟩ : ByteArray)]) ?_ 0 _ rfl; (with_reducible repeat (first | refine blk_drewN ?_ _ | refine blk_drew ?_ | refine blk_alloc ?_ _)); exact BK130.out⟩
      have n2_ : Aside0 (Below w.heap.size w (((w100.setCell ⟨gb130, 0, none⟩ (.int .i64 ((rd_T37 l0_1 x3_1).f0))).setCell ⟨gb130, 1, none⟩ (.int .i64 ((rd_T37 l0_1 x3_1).f1))).setCell ⟨gb130, 2, none⟩ (.string ((rd_T37 l0_1 x3_1).f2)))) := ⟨by repeat (first | (with_reducible first | exact HB.out | apply below_alloc | apply pw_below_drewN | apply below_drew1 | refine below_set ?_ GE128.out | refine below_set ?_ GE130.out) | exact HB.out)⟩
      (try clear BK128)
      (try clear BK130)
      (try clear HB)
      generalize (((w100.setCell ⟨gb130, 0, none⟩ (.int .i64 ((rd_T37 l0_1 x3_1).f0))).setCell ⟨gb130, 1, none⟩ (.int .i64 ((rd_T37 l0_1 x3_1).f1))).setCell ⟨gb130, 2, none⟩ (.string ((rd_T37 l0_1 x3_1).f2))) = w103 at n0_ n1_ n2_ ⊢
      have BK128 := n0_
      have BK130 := n1_
      have HB := n2_
      clear n0_ n1_ n2_
      have n0_ := Aside0.mk (blk_drew BK128.out)
      have n1_ := Aside0.mk (blk_drew BK130.out)
      have n2_ := Aside0.mk (below_drew1 HB.out)
      clear BK128
      clear BK130
      clear HB
      have BK128 := n0_
      have BK130 := n1_
      have HB := n2_
      clear n0_ n1_ n2_
      refine start_ (n := 42) (S := fun w' => w'.cell? ⟨gb128, 0, none⟩ = some (.bool a0_0) ∧ w'.cell? ⟨gb128, 1, none⟩ = some (.slice (some ad129) l0_1.length c0_1) ∧ w'.cell? ⟨gb128, 2, none⟩ = some (.int .i64 a0_2) ∧ w'.cell? ⟨gb130, 0, none⟩ = some (.int .i64 ((rd_T37 l0_1 x3_1).f0)) ∧ w'.cell? ⟨gb130, 1, none⟩ = some (.int .i64 ((rd_T37 l0_1 x3_1).f1)) ∧ w'.cell? ⟨gb130, 2, none⟩ = some (.string ((rd_T37 l0_1 x3_1).f2))) (ds := []) (tk_ 42 0) (by kernel_rfl) rfl (by kernel_rfl) ⟨(blk_cell BK128.out 0).trans rfl, (blk_cell BK128.out 1).trans rfl, (blk_cell BK128.out 2).trans rfl, (blk_cell BK130.out 0).trans rfl, (blk_cell BK130.out 1).trans rfl, (blk_cell BK130.out 2).trans rfl⟩ (fun hHeld => ?_); refine with_tabW erasureref19_Right.tab5 erasureref19_Right.bits5 (fun HT_ HW_ => ?_)
      generalize w103.drew = w104 at BK128 BK130 HB hHeld ⊢
      refine pu_ 1 18 (tk_ 42 2) HT_.out rfl rfl (by kernel_rfl) (fun _ _ _ h => h) (by rfl) (fun w' => by go_simp; with_reducible rfl) (by simp only [s0_, s1_, s2_, s3_, s4_, s5_]; rfl) ?_
      refine ta_ 0 17 (tk_ 42 3) HT_.out HW_.out rfl rfl (by kernel_rfl) (fun _ _ _ h => h) (by rfl) (by rintro w' ⟨s0, s1, s2, s3, s4, s5⟩; go_simp; with_reducible rfl) hHeld (by simp only [s0_, s1_, s2_, s3_, s4_, s5_]; rfl) ?_
      refine ta_ 2 19 (tk_ 42 7) HT_.out HW_.out rfl rfl (by kernel_rfl) (fun _ _ _ h => h) (by rfl) (by rintro w' ⟨s0, s1, s2, s3, s4, s5⟩; go_simp; with_reducible rfl) hHeld (by simp only [s0_, s1_, s2_, s3_, s4_, s5_]; rfl) ?_
      refine one_ (i := 3) (N := some 20) (tk_ 42 15) rfl rfl (one_of HT_.out (by kernel_rfl)) (by decide) (fun K hK => ?_)
      refine goes_ Try.func34 (by kernel_rfl) rfl #[.agg #[.bool a0_0, .slice (some ad129) l0_1.length c0_1, .int .i64 a0_2], .int .i64 ((rd_T37 l0_1 x3_1).f0)] (by rfl) rfl rfl (by (try simp only [List.map_toArray, List.map_cons, List.map_nil]); first | done | rfl | (simp only [List.length_drop, List.length_take]; rfl)) ?_
      with_reducible refine (erasureref19_code.calls a0_0 _ _ l0_1 a0_2 ((rd_T37 l0_1 x3_1).f0) false _ ?side1 ?side2 A5.out).mono ?_
      (case side1 => repeat (first | exact (Kd.C_below HR0_1.out HB.out) | (with_reducible refine Kd.C_alloc ?_ _) | (with_reducible refine Kd.C_drewN ?_ _) | (with_reducible refine Kd.C_drew ?_)))
      (case side2 => exact HC0_1.out)
      rintro e w105 ⟨rfl, hb⟩
      refine ⟨_, rfl, ?_⟩
      have n0_ := Aside0.mk (blk_below (g := gb128) (o := .cells #[.bool a0_0, .slice (some ad129) l0_1.length c0_1, .int .i64 a0_2] 24 (0, 0)) (by (with_reducible repeat (first | refine blk_drewN ?_ _ | refine blk_drew ?_ | refine blk_alloc ?_ _)); exact BK128.out) hb)
      have n1_ := Aside0.mk (blk_below (g := gb130) (o := .cells #[.int .i64 ((rd_T37 l0_1 x3_1).f0), .int .i64 ((rd_T37 l0_1 x3_1).f1), .string ((rd_T37 l0_1 x3_1).f2)] 37 (0, 0)) (by (with_reducible repeat (first | refine blk_drewN ?_ _ | refine blk_drew ?_ | refine blk_alloc ?_ _)); exact BK130.out) hb)
      have n2_ := Aside0.mk (below_step (by repeat (first | (with_reducible first | exact HB.out | apply below_alloc | apply pw_below_drewN | apply below_drew1 | refine below_set ?_ GE128.out | refine below_set ?_ GE130.out) | exact HB.out)) hb)
      clear BK128
      clear BK130
      clear HB
      have BK128 := n0_
      have BK130 := n1_
      have HB := n2_
      clear n0_ n1_ n2_
      (try clear hb)
      (try clear hb2)
      (try clear hk)
      (try clear hi)
      refine hK.out _ _ ⟨(blk_cell BK128.out 0).trans rfl, (blk_cell BK128.out 1).trans rfl, (blk_cell BK128.out 2).trans rfl, (blk_cell BK130.out 0).trans rfl, (blk_cell BK130.out 1).trans rfl, (blk_cell BK130.out 2).trans rfl⟩ (fun hHeld => ?_)
      clear hK K
      refine norm_ (by show Act.put _ (some 20) _ = _; simp only [s0_, s1_, s2_, s3_, s4_, s5_]; rfl) ?_
      refine pu_ 4 21 (tk_ 42 31) HT_.out rfl rfl (by kernel_rfl) (fun _ _ _ h => h) (by rfl) (fun w' => by go_simp; with_reducible rfl) (by simp only [s0_, s1_, s2_, s3_, s4_, s5_]; rfl) ?_
      refine pu_ 5 22 (tk_ 42 63) HT_.out rfl rfl (by kernel_rfl) (fun _ _ _ h => h) (by rfl) (fun w' => by go_simp; with_reducible rfl) (by simp only [s0_, s1_, s2_, s3_, s4_, s5_]; rfl) ?_
      refine sk_ 6 23 (tk_ 42 127) HT_.out rfl rfl (by kernel_rfl) (fun _ _ _ h => h) (by rfl) (by simp only [s0_, s1_, s2_, s3_, s4_, s5_]; rfl) ?_
      refine sk_ 7 24 (tk_ 42 255) HT_.out rfl rfl (by kernel_rfl) (fun _ _ _ h => h) (by rfl) (by simp only [s0_, s1_, s2_, s3_, s4_, s5_]; rfl) ?_
      refine sk_ 8 25 (tk_ 42 511) HT_.out rfl rfl (by kernel_rfl) (fun _ _ _ h => h) (by rfl) (by simp only [s0_, s1_, s2_, s3_, s4_, s5_]; rfl) ?_
      refine sk_ 9 26 (tk_ 42 1023) HT_.out rfl rfl (by kernel_rfl) (fun _ _ _ h => h) (by rfl) (by simp only [s0_, s1_, s2_, s3_, s4_, s5_]; rfl) ?_
      refine sk_ 10 27 (tk_ 42 2047) HT_.out rfl rfl (by kernel_rfl) (fun _ _ _ h => h) (by rfl) (by simp only [s0_, s1_, s2_, s3_, s4_, s5_]; rfl) ?_
      refine sk_ 11 28 (tk_ 42 4095) HT_.out rfl rfl (by kernel_rfl) (fun _ _ _ h => h) (by rfl) (by simp only [s0_, s1_, s2_, s3_, s4_, s5_]; rfl) ?_
      refine sk_ 12 29 (tk_ 42 8191) HT_.out rfl rfl (by kernel_rfl) (fun _ _ _ h => h) (by rfl) (by simp only [s0_, s1_, s2_, s3_, s4_, s5_]; rfl) ?_
      refine sk_ 13 30 (tk_ 42 16383) HT_.out rfl rfl (by kernel_rfl) (fun _ _ _ h => h) (by rfl) (by simp only [s0_, s1_, s2_, s3_, s4_, s5_]; rfl) ?_
      refine sk_ 14 31 (tk_ 42 32767) HT_.out rfl rfl (by kernel_rfl) (fun _ _ _ h => h) (by rfl) (by simp only [s0_, s1_, s2_, s3_, s4_, s5_]; rfl) ?_
      refine sk_ 15 32 (tk_ 42 65535) HT_.out rfl rfl (by kernel_rfl) (fun _ _ _ h => h) (by rfl) (by simp only [s0_, s1_, s2_, s3_, s4_, s5_]; rfl) ?_
      refine sk_ 16 33 (tk_ 42 131071) HT_.out rfl rfl (by kernel_rfl) (fun _ _ _ h => h) (by rfl) (by simp only [s0_, s1_, s2_, s3_, s4_, s5_]; rfl) ?_
      refine sk_ 17 34 (tk_ 42 262143) HT_.out rfl rfl (by kernel_rfl) (fun _ _ _ h => h) (by rfl) (by simp only [s0_, s1_, s2_, s3_, s4_, s5_]; rfl) ?_
      refine sk_ 18 35 (tk_ 42 524287) HT_.out rfl rfl (by kernel_rfl) (fun _ _ _ h => h) (by rfl) (by simp only [s0_, s1_, s2_, s3_, s4_, s5_]; rfl) ?_
      refine sk_ 19 36 (tk_ 42 1048575) HT_.out rfl rfl (by kernel_rfl) (fun _ _ _ h => h) (by rfl) (by simp only [s0_, s1_, s2_, s3_, s4_, s5_]; rfl) ?_
      refine pu_ 20 37 (tk_ 42 2097151) HT_.out rfl rfl (by kernel_rfl) (fun _ _ _ h => h) (by rfl) (fun w' => by go_simp; with_reducible rfl) (by simp only [s0_, s1_, s2_, s3_, s4_, s5_]; rfl) ?_
      refine pu_ 21 38 (tk_ 42 4194303) HT_.out rfl rfl (by kernel_rfl) (fun _ _ _ h => h) (by rfl) (fun w' => by go_simp; with_reducible rfl) (by simp only [s0_, s1_, s2_, s3_, s4_, s5_]; rfl) ?_
      refine sk_ 22 39 (tk_ 42 8388607) HT_.out rfl rfl (by kernel_rfl) (fun _ _ _ h => h) (by rfl) (by simp only [s0_, s1_, s2_, s3_, s4_, s5_]; rfl) ?_
      refine sk_ 23 40 (tk_ 42 16777215) HT_.out rfl rfl (by kernel_rfl) (fun _ _ _ h => h) (by rfl) (by simp only [s0_, s1_, s2_, s3_, s4_, s5_]; rfl) ?_
      refine sk_ 24 41 (tk_ 42 33554431) HT_.out rfl rfl (by kernel_rfl) (fun _ _ _ h => h) (by rfl) (by simp only [s0_, s1_, s2_, s3_, s4_, s5_]; rfl) ?_
      refine pu_ 25 42 (tk_ 42 67108863) HT_.out rfl rfl (by kernel_rfl) (fun _ _ _ h => h) (by rfl) (fun w' => by go_simp; with_reducible rfl) (by simp only [s0_, s1_, s2_, s3_, s4_, s5_]; rfl) ?_
      refine pu_ 26 43 (tk_ 42 134217727) HT_.out rfl rfl (by kernel_rfl) (fun _ _ _ h => h) (by rfl) (fun w' => by go_simp; with_reducible rfl) (by simp only [s0_, s1_, s2_, s3_, s4_, s5_]; rfl) ?_
      refine sk_ 27 44 (tk_ 42 268435455) HT_.out rfl rfl (by kernel_rfl) (fun _ _ _ h => h) (by rfl) (by simp only [s0_, s1_, s2_, s3_, s4_, s5_]; rfl) ?_
      refine sk_ 28 45 (tk_ 42 536870911) HT_.out rfl rfl (by kernel_rfl) (fun _ _ _ h => h) (by rfl) (by simp only [s0_, s1_, s2_, s3_, s4_, s5_]; rfl) ?_
      refine sk_ 29 46 (tk_ 42 1073741823) HT_.out rfl rfl (by kernel_rfl) (fun _ _ _ h => h) (by rfl) (by simp only [s0_, s1_, s2_, s3_, s4_, s5_]; rfl) ?_
      refine pu_ 30 47 (tk_ 42 2147483647) HT_.out rfl rfl (by kernel_rfl) (fun _ _ _ h => h) (by rfl) (fun w' => by go_simp; with_reducible rfl) (by simp only [s0_, s1_, s2_, s3_, s4_, s5_]; rfl) ?_
      refine pu_ 31 48 (tk_ 42 4294967295) HT_.out rfl rfl (by kernel_rfl) (fun _ _ _ h => h) (by rfl) (fun w' => by go_simp; with_reducible rfl) (by simp only [s0_, s1_, s2_, s3_, s4_, s5_]; rfl) ?_
      refine sk_ 32 49 (tk_ 42 8589934591) HT_.out rfl rfl (by kernel_rfl) (fun _ _ _ h => h) (by rfl) (by simp only [s0_, s1_, s2_, s3_, s4_, s5_]; rfl) ?_
      refine sk_ 33 50 (tk_ 42 17179869183) HT_.out rfl rfl (by kernel_rfl) (fun _ _ _ h => h) (by rfl) (by simp only [s0_, s1_, s2_, s3_, s4_, s5_]; rfl) ?_
      refine sk_ 34 51 (tk_ 42 34359738367) HT_.out rfl rfl (by kernel_rfl) (fun _ _ _ h => h) (by rfl) (by simp only [s0_, s1_, s2_, s3_, s4_, s5_]; rfl) ?_
      refine sk_ 35 52 (tk_ 42 68719476735) HT_.out rfl rfl (by kernel_rfl) (fun _ _ _ h => h) (by rfl) (by simp only [s0_, s1_, s2_, s3_, s4_, s5_]; rfl) ?_
      refine sk_ 36 53 (tk_ 42 137438953471) HT_.out rfl rfl (by kernel_rfl) (fun _ _ _ h => h) (by rfl) (by simp only [s0_, s1_, s2_, s3_, s4_, s5_]; rfl) ?_
      refine sk_ 37 54 (tk_ 42 274877906943) HT_.out rfl rfl (by kernel_rfl) (fun _ _ _ h => h) (by rfl) (by simp only [s0_, s1_, s2_, s3_, s4_, s5_]; rfl) ?_
      refine sk_ 38 55 (tk_ 42 549755813887) HT_.out rfl rfl (by kernel_rfl) (fun _ _ _ h => h) (by rfl) (by simp only [s0_, s1_, s2_, s3_, s4_, s5_]; rfl) ?_
      refine sk_ 39 56 (tk_ 42 1099511627775) HT_.out rfl rfl (by kernel_rfl) (fun _ _ _ h => h) (by rfl) (by simp only [s0_, s1_, s2_, s3_, s4_, s5_]; rfl) ?_
      refine sk_ 40 57 (tk_ 42 2199023255551) HT_.out rfl rfl (by kernel_rfl) (fun _ _ _ h => h) (by rfl) (by simp only [s0_, s1_, s2_, s3_, s4_, s5_]; rfl) ?_
      refine pu_ 41 58 (tk_ 42 4398046511103) HT_.out rfl rfl (by kernel_rfl) (fun _ _ _ h => h) (by rfl) (fun w' => by go_simp; with_reducible rfl) (by simp only [s0_, s1_, s2_, s3_, s4_, s5_]; rfl) ?_
      refine done_ (done_of HT_.out (by kernel_rfl)) ?_
      try go_wp2
      go_ret
      exact ⟨by first | rfl | (simp [errW_none, errW_some] <;> rfl) | (simp [*, errW_none, errW_some] <;> rfl), by repeat (first | (with_reducible first | exact HB.out | apply below_alloc | apply pw_below_drewN | apply below_drew1 | refine below_set ?_ GE128.out | refine below_set ?_ GE130.out) | exact HB.out)⟩
    ·rw [if_neg c4] at H
     exact absurd H (by simp)
   ·rw [if_neg c3] at H
    have c3b0 : decide (x3_1 < (l0_1.length : Int)) = false := decide_eq_false c3
    clear c3
    by_cases c106 : a0_2 ≥ 0
    ·rw [if_pos c106] at H
     have c106b0 : decide (0 ≤ a0_2) = true := decide_eq_true c106
     clear c106
     by_cases c107 : a0_2 ≤ 10000
     ·rw [if_pos c107] at H
      have c107b0 : decide (a0_2 ≤ 10000) = true := decide_eq_true c107
      clear c107
      obtain rfl := Option.some.inj H
      have hcz108_0 : wr.cell? ⟨gb128, 0, none⟩ = some (.bool a0_0) := (blk_cell BK128.out 0).trans rfl
      have hcz108_1 : wr.cell? ⟨gb128, 1, none⟩ = some (.slice A0_1 l0_1.length c0_1) := (blk_cell BK128.out 1).trans rfl
      have hcz108_2 : wr.cell? ⟨gb128, 2, none⟩ = some (.int .i64 a0_2) := (blk_cell BK128.out 2).trans rfl
      have hfz108_0 := blk_frozen BK128.out 0
      have hfz108_1 := blk_frozen BK128.out 1
      have hfz108_2 := blk_frozen BK128.out 2
      go_wp2
      go_ret
      exact ⟨by first | rfl | (simp [errW_none, errW_some] <;> rfl) | (simp [*, errW_none, errW_some] <;> rfl), by repeat (first | (with_reducible first | exact HB.out | apply below_alloc | apply pw_below_drewN | apply below_drew1 | refine below_set ?_ GE128.out) | exact HB.out)⟩
     ·rw [if_neg c107] at H
      have c107b0 : decide (a0_2 ≤ 10000) = false := decide_eq_false c107
      clear c107
      obtain rfl := Option.some.inj H
      have hcz109_0 : wr.cell? ⟨gb128, 0, none⟩ = some (.bool a0_0) := (blk_cell BK128.out 0).trans rfl
      have hcz109_1 : wr.cell? ⟨gb128, 1, none⟩ = some (.slice A0_1 l0_1.length c0_1) := (blk_cell BK128.out 1).trans rfl
      have hcz109_2 : wr.cell? ⟨gb128, 2, none⟩ = some (.int .i64 a0_2) := (blk_cell BK128.out 2).trans rfl
      have hfz109_0 := blk_frozen BK128.out 0
      have hfz109_1 := blk_frozen BK128.out 1
      have hfz109_2 := blk_frozen BK128.out 2
      go_wp2
      go_ret
      exact ⟨by first | rfl | (simp [errW_none, errW_some] <;> rfl) | (simp [*, errW_none, errW_some] <;> rfl), by repeat (first | (with_reducible first | exact HB.out | apply below_alloc | apply pw_below_drewN | apply below_drew1 | refine below_set ?_ GE128.out) | exact HB.out)⟩
    ·rw [if_neg c106] at H
     have c106b0 : decide (0 ≤ a0_2) = false := decide_eq_false c106
     clear c106
     obtain rfl := Option.some.inj H
     have hcz110_0 : wr.cell? ⟨gb128, 0, none⟩ = some (.bool a0_0) := (blk_cell BK128.out 0).trans rfl
     have hcz110_1 : wr.cell? ⟨gb128, 1, none⟩ = some (.slice A0_1 l0_1.length c0_1) := (blk_cell BK128.out 1).trans rfl
     have hcz110_2 : wr.cell? ⟨gb128, 2, none⟩ = some (.int .i64 a0_2) := (blk_cell BK128.out 2).trans rfl
     have hfz110_0 := blk_frozen BK128.out 0
     have hfz110_1 := blk_frozen BK128.out 1
     have hfz110_2 := blk_frozen BK128.out 2
     go_wp2
     go_ret
     exact ⟨by first | rfl | (simp [errW_none, errW_some] <;> rfl) | (simp [*, errW_none, errW_some] <;> rfl), by repeat (first | (with_reducible first | exact HB.out | apply below_alloc | apply pw_below_drewN | apply below_drew1 | refine below_set ?_ GE128.out) | exact HB.out)⟩
end Go.Proofs.Ytjhpcfpccnfniaa.A
