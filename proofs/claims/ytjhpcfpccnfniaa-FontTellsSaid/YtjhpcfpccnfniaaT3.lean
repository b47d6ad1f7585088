-- written by my own driver of the kit's print (wip/tools/myprint.py); Lean checks it.
import Derived.Test.YtjhpcfpccnfniaaT0
import Derived.Test.YtjhpcfpccnfniaaT2
import Derived.Test.YtjhpcfpccnfniaaA1
import Derived.Test.YtjhpcfpccnfniaaA3
import Derived.Test.YtjhpcfpccnfniaaA4
import Derived.Test.YtjhpcfpccnfniaaA5
import Derived.Test.YtjhpcfpccnfniaaA6
import Derived.Test.YtjhpcfpccnfniaaC2
import Derived.Test.YtjhpcfpccnfniaaF1
import Derived.Test.YtjhpcfpccnfniaaH13
import Derived.Test.YtjhpcfpccnfniaaH4
import Derived.Test.YtjhpcfpccnfniaaH7
import Derived.Test.YtjhpcfpccnfniaaH8
namespace Go.Proofs.Ytjhpcfpccnfniaa.T
open Go.RowKit Go.Proofs.YtjhpcfpccnfniaaW.PrintWords Go.Proofs.YtjhpcfpccnfniaaW.PrintLast Go.Proofs.YtjhpcfpccnfniaaW.PrintMore Go.Proofs.Ytjhpcfpccnfniaa.A Go.Proofs.Ytjhpcfpccnfniaa.F Go.Proofs.Ytjhpcfpccnfniaa.C
attribute [local go_sem] max2_int min2_int max_two min_two max_three min_three max_four min_four   -- for this text's walks alone
set_option linter.unusedVariables false
set_option linter.unusedSimpArgs false
attribute [local go_sem high] eqA37
def erasurelaw19_FontTells.j0 : Nat → Int → ByteArray → List Int → Bool → Bool → List (S37) → Int → Option (Bool)
 | 0, _, _, _, _, _, _, _ => none
 | k + 1, x1, x2, x3, x34, x180000, x180001, x180002 => if x34 = true then (some true) else ((font_Codes.f k x180000 x180001 x180002 x2).bind fun bt180 => ((erasureref19_Codes.f k x180000 x180001 x180002 x2).bind fun bt184 => ((font_Bytes.f k x180000 x180001 x180002 x3).bind fun bt188 => ((erasureref19_Bytes.f k x180000 x180001 x180002 x3).bind fun bt190 => ((font_Means.f k x180000 x180001 x180002 x3).bind fun bt192 => ((erasureref19_Means.f k x180000 x180001 x180002 x3).bind fun bt194 => ((erasurelaw19_awake.f).bind fun t196 => (if t196 = true then ((font_Check.f k x180000 x180001 x180002).bind fun t197 => ((erasureref19_Right.f k x180000 x180001 x180002).bind fun t198 => (if ((t197 == 0) == t198) = true then ((font_Find.f x180000 x180001 x180002 x1).bind fun bt199 => ((erasureref19_Find.f k x180000 x180001 x180002 x1).bind fun bt202 => (if (bt199.1 == bt202.1 && (bt199.2.1 == bt202.2.1 && (bt199.2.2.toList == bt202.2.2.toList))) = true then ((erasureref05_Ints.f k bt180.1 bt184.1).bind fun t205 => (if t205 = true then (if bt180.2 = bt184.2 then (if bt188.1.toList = bt190.1.toList then (if bt188.2 = bt190.2 then (if bt192.1.toList = bt194.1.toList then (some (bt192.2 == bt194.2)) else (none)) else (none)) else (none)) else (none)) else (none))) else (none)))) else (none)))) else (none)))))))))
def erasurelaw19_FontTells.f (k : Nat) (a0_0 : Bool) (l0_1 : List (S37)) (a0_2 : Int) (a1 : Int) (a2 : ByteArray) (l3 : List Int) : Option (Bool) := if (l0_1.length : Int) > 150 then (erasurelaw19_FontTells.j0 k a1 a2 l3 true a0_0 l0_1 a0_2) else (if (a2.size : Int) > 200 then (erasurelaw19_FontTells.j0 k a1 a2 l3 true a0_0 l0_1 a0_2) else (erasurelaw19_FontTells.j0 k a1 a2 l3 (decide ((l3.length : Int) > 100)) a0_0 l0_1 a0_2))
theorem erasurelaw19_FontTells.mono_l : ∀ k, (∀ y0 y1 y2 y3 y4 y5 y6, LeO (erasurelaw19_FontTells.j0 k y0 y1 y2 y3 y4 y5 y6) (erasurelaw19_FontTells.j0 (k + 1) y0 y1 y2 y3 y4 y5 y6))
 | 0 => fun _ _ _ _ _ _ _ r h => by simp [erasurelaw19_FontTells.j0] at h
 | k + 1 => by
  have ih0 := erasurelaw19_FontTells.mono_l k
  ·intro y0 y1 y2 y3 y4 y5 y6
   unfold erasurelaw19_FontTells.j0
   repeat' first
   | (with_reducible exact ih0 _ _ _ _ _ _ _)
   | (with_reducible exact erasureref05_Ints.mono _ _ _)
   | (with_reducible exact erasureref19_Bytes.mono _ _ _ _ _)
   | (with_reducible exact erasureref19_Codes.mono _ _ _ _ _)
   | (with_reducible exact erasureref19_Find.mono _ _ _ _ _)
   | (with_reducible exact erasureref19_Means.mono _ _ _ _ _)
   | (with_reducible exact erasureref19_Right.mono _ _ _ _)
   | (with_reducible exact font_Bytes.mono _ _ _ _ _)
   | (with_reducible exact font_Check.mono _ _ _ _)
   | (with_reducible exact font_Codes.mono _ _ _ _ _)
   | (with_reducible exact font_Means.mono _ _ _ _ _)
   | (with_reducible exact LeO.refl _)
   | (with_reducible exact LeO.none _)
   | (with_reducible refine LeO.ite ?_ ?_)
   | (with_reducible refine LeO.bind ?_ (fun _ => ?_))
   | exact ih0 _ _ _ _ _ _ _
   | exact erasureref05_Ints.mono _ _ _
   | exact erasureref19_Bytes.mono _ _ _ _ _
   | exact erasureref19_Codes.mono _ _ _ _ _
   | exact erasureref19_Find.mono _ _ _ _ _
   | exact erasureref19_Means.mono _ _ _ _ _
   | exact erasureref19_Right.mono _ _ _ _
   | exact font_Bytes.mono _ _ _ _ _
   | exact font_Check.mono _ _ _ _
   | exact font_Codes.mono _ _ _ _ _
   | exact font_Means.mono _ _ _ _ _
   | exact LeO.none _
   | refine LeO.ite ?_ ?_
   | refine LeO.bind ?_ (fun _ => ?_)
theorem erasurelaw19_FontTells.mono : ∀ a0 a1 a2 a3 a4 a5 k, LeO (erasurelaw19_FontTells.f k a0 a1 a2 a3 a4 a5) (erasurelaw19_FontTells.f (k + 1) a0 a1 a2 a3 a4 a5) := by
 intro a0 a1 a2 a3 a4 a5 k
 have ih0 := erasurelaw19_FontTells.mono_l k
 unfold erasurelaw19_FontTells.f
 repeat' first
   | (with_reducible exact ih0 _ _ _ _ _ _ _)
   | (with_reducible exact erasureref05_Ints.mono _ _ _)
   | (with_reducible exact erasureref19_Bytes.mono _ _ _ _ _)
   | (with_reducible exact erasureref19_Codes.mono _ _ _ _ _)
   | (with_reducible exact erasureref19_Find.mono _ _ _ _ _)
   | (with_reducible exact erasureref19_Means.mono _ _ _ _ _)
   | (with_reducible exact erasureref19_Right.mono _ _ _ _)
   | (with_reducible exact font_Bytes.mono _ _ _ _ _)
   | (with_reducible exact font_Check.mono _ _ _ _)
   | (with_reducible exact font_Codes.mono _ _ _ _ _)
   | (with_reducible exact font_Means.mono _ _ _ _ _)
   | (with_reducible exact LeO.refl _)
   | (with_reducible exact LeO.none _)
   | (with_reducible refine LeO.ite ?_ ?_)
   | (with_reducible refine LeO.bind ?_ (fun _ => ?_))
   | exact ih0 _ _ _ _ _ _ _
   | exact erasureref05_Ints.mono _ _ _
   | exact erasureref19_Bytes.mono _ _ _ _ _
   | exact erasureref19_Codes.mono _ _ _ _ _
   | exact erasureref19_Find.mono _ _ _ _ _
   | exact erasureref19_Means.mono _ _ _ _ _
   | exact erasureref19_Right.mono _ _ _ _
   | exact font_Bytes.mono _ _ _ _ _
   | exact font_Check.mono _ _ _ _
   | exact font_Codes.mono _ _ _ _ _
   | exact font_Means.mono _ _ _ _ _
   | exact LeO.none _
   | refine LeO.ite ?_ ?_
   | refine LeO.bind ?_ (fun _ => ?_)
def erasurelaw19_FontTells.T9 : Bool × List (List Nat × List Nat) := (true, [([], []), ([0, 0], [0]), ([1], [1]), ([2, 1, 1], [1, 2]), ([3, 1], [1, 3]), ([1], [1]), ([5, 3, 1], [1, 5]), ([4, 6, 1], [1, 4, 6]), ([1, 7], [1, 7]), ([8, 6], [8]), ([9], [9]), ([9], [9]), ([10, 11, 9, 9], [9, 10, 11]), ([9], [9]), ([9], [9]), ([13, 14, 12, 9], [9, 13, 14]), ([12, 15, 9], [9, 12, 15]), ([9, 16], [9, 16]), ([17, 15], [17]), ([18], [18]), ([18], [18]), ([19, 20, 18, 18], [18, 19, 20]), ([18, 21], [18, 21]), ([22, 21], [22]), ([23], [23]), ([23], [23]), ([24, 25, 23], [23, 24, 25]), ([23, 26], [23, 26]), ([27, 23], [27]), ([28], [28]), ([28], [28]), ([29, 30, 28], [28, 29, 30]), ([28, 31], [28, 31]), ([32, 28], [32]), ([33], [33]), ([33], [33]), ([34, 35, 33], [33, 34, 35]), ([33, 36], [33, 36]), ([37, 33], [37]), ([38], [38]), ([38], [38]), ([39, 40, 38], [38, 39, 40]), ([38, 41], [38, 41]), ([42, 38], [42]), ([43], [43]), ([43], [43]), ([44, 45, 43], [43, 44, 45]), ([43, 46], [43, 46]), ([47, 43, 0, 1, 2, 3, 4, 5, 6, 7, 8, 9, 10, 11, 12, 13, 14, 15, 16, 17, 18, 19, 20, 21, 22, 23, 24, 25, 26, 27, 28, 29, 30, 31, 32, 33, 34, 35, 36, 37, 38, 39, 40, 41, 42, 43, 44, 45, 46, 47], [47])])
def erasurelaw19_FontTells.B9 : List Nat := [0, 1, 3, 7, 15, 3, 47, 127, 255, 511, 1023, 1023, 4095, 1023, 1023, 32767, 65535, 131071, 262143, 524287, 524287, 2097151, 4194303, 8388607, 16777215, 16777215, 67108863, 134217727, 268435455, 536870911, 536870911, 2147483647, 4294967295, 8589934591, 17179869183, 17179869183, 68719476735, 137438953471, 274877906943, 549755813887, 549755813887, 2199023255551, 4398046511103, 8796093022207, 17592186044415, 17592186044415, 70368744177663, 140737488355327, 281474976710655]
theorem erasurelaw19_FontTells.tab9 : rtab .any (opsOf Try.f4 9) = erasurelaw19_FontTells.T9 := by kernel_rfl
theorem erasurelaw19_FontTells.bits9 : waitsOk erasurelaw19_FontTells.T9.2 erasurelaw19_FontTells.B9 = true := by kernel_rfl
set_option maxHeartbeats 8000000 in
set_option maxRecDepth 100000 in
theorem erasurelaw19_FontTells.calls (k : Nat) (a0_0 : Bool) (A0_1 : Option Addr) (c0_1 : Nat) (l0_1 : List (S37)) (a0_2 : Int) (a1 : Int) (a2 : ByteArray) (A3 : Option Addr) (c3 : Nat) (l3 : List Int) (r : Bool) (w : World) (hr0_1 : Kd.C k37 w A0_1 l0_1.length l0_1) (hc0_1 : l0_1.length ≤ c0_1) (hr3 : Kd.C (Kd.int .i64) w A3 l3.length l3) (hc3 : l3.length ≤ c3) (h : erasurelaw19_FontTells.f k a0_0 l0_1 a0_2 a1 a2 l3 = some r) :
  Calls Try.prog 4 #[.agg #[.bool a0_0, .slice A0_1 l0_1.length c0_1, .int .i64 a0_2], .int .i64 a1, .string a2, .slice A3 l3.length c3] w fun e w' => e = .returned (.bool r) ∧ Below w.heap.size w w' := by
 have hu24 := Try.underlying24
 have HR0_1 := Aside0.mk hr0_1
 have HC0_1 := Aside0.mk hc0_1
 clear hr0_1 hc0_1
 have HR3 := Aside0.mk hr3
 have HC3 := Aside0.mk hc3
 clear hr3 hc3
 have HB := Aside0.mk (Below.refl w.heap.size w)
 have H : (if (l0_1.length : Int) > 150 then (erasurelaw19_FontTells.j0 k a1 a2 l3 true a0_0 l0_1 a0_2) else (if (a2.size : Int) > 200 then (erasurelaw19_FontTells.j0 k a1 a2 l3 true a0_0 l0_1 a0_2) else (erasurelaw19_FontTells.j0 k a1 a2 l3 (decide ((l3.length : Int) > 100)) a0_0 l0_1 a0_2))) = some r := h
 clear h
 have HC5 := Aside0.mk H
 clear H
 go_enter Try.func4, Try.ntmps4
 go_upto_region 1 with (first | ((with_reducible refine gate_dst (N := 4) rfl ?_); (try (refine gate_guard (by rfl) ?_; dsimp only)); refine box_event ?hg (N := 4) ?hd (cs := #[.bool a0_0, .slice A0_1 l0_1.length c0_1, .int .i64 a0_2]) (t := 24) ?hr ?_; (case hd => rfl); (case hg => rfl); (case hr => first | (go_simp; done) | (go_simp; rfl)); intro gb179 hg w6 hbox hb; have n0_ := Aside0.mk (below_step (by repeat (first | (with_reducible first | exact HB.out | apply below_alloc | apply pw_below_drewN | apply below_drew1) | exact HB.out)) hb); have n1_ := Aside0.mk (hbox); have n2_ := Aside0.mk ((by rw [hg]; exact (below_size (by repeat (first | (with_reducible first | exact HB.out | apply below_alloc | apply pw_below_drewN | apply below_drew1) | exact HB.out))) : w.heap.size ≤ gb179)); have n3_ := Aside0.mk ((by rw [hg]; exact (below_size (by repeat (first | (with_reducible first | exact HB.out | apply below_alloc | apply pw_below_drewN | apply below_drew1) | exact HB.out))) : w.heap.size ≤ gb179)); clear HB; have HB := n0_; have BK179 := n1_; have GW179 := n2_; have GE179 := n3_; clear n0_ n1_ n2_ n3_; clear hb hbox hg))
 (try simp only [Act.put, List.setIfInBounds_toArray, List.set_cons_zero, List.set_cons_succ])
 go_cut [34] (fun v34 wc => ∃ (kq : Nat) (x34_4 : Bool), v34 = .bool x34_4 ∧ Aside0 (erasurelaw19_FontTells.j0 kq a1 a2 l3 x34_4 a0_0 l0_1 a0_2 = some r) ∧ Aside0 (kq ≤ k) ∧ Aside0 (wc.heap[gb179]? = some (.cells #[.bool a0_0, (.slice A0_1 l0_1.length c0_1), .int .i64 a0_2] 24 (0, 0))) ∧ Aside0 (Below w.heap.size w wc))
 case first =>
  have H := HC5.out
  clear HC5
  by_cases c7 : (l0_1.length : Int) > 150
  ·rw [if_pos c7] at H
   have c7b0 : decide (150 < (l0_1.length : Int)) = true := decide_eq_true c7
   have c7b1 : decide (150 < l0_1.length) = true := decide_eq_true (by omega)
   clear c7
   (first | rw [c7b0] | (simp only [i64_w, i32_w]; rw [c7b0]) | skip)
   have H' := Aside0.mk H
   clear H
   have hcz8_0 : w6.cell? ⟨gb179, 0, none⟩ = some (.bool a0_0) := (blk_cell BK179.out 0).trans rfl
   have hcz8_1 : w6.cell? ⟨gb179, 1, none⟩ = some (.slice A0_1 l0_1.length c0_1) := (blk_cell BK179.out 1).trans rfl
   have hcz8_2 : w6.cell? ⟨gb179, 2, none⟩ = some (.int .i64 a0_2) := (blk_cell BK179.out 2).trans rfl
   have hfz8_0 := blk_frozen BK179.out 0
   have hfz8_1 := blk_frozen BK179.out 1
   have hfz8_2 := blk_frozen BK179.out 2
   go_wp2
   go_meet
   case rel => exact ⟨_, (true), (by first | rfl | (simp; done) | (simp [*]; done)), H', ⟨by first | omega | exact Nat.le_refl _⟩, ⟨by (with_reducible repeat (first | refine blk_drewN ?_ _ | refine blk_drew ?_ | refine blk_alloc ?_ _)); exact BK179.out⟩, ⟨by repeat (first | (with_reducible first | exact HB.out | apply below_alloc | apply pw_below_drewN | apply below_drew1 | refine below_set ?_ GE179.out) | exact HB.out)⟩⟩
  ·rw [if_neg c7] at H
   have c7b0 : decide (150 < (l0_1.length : Int)) = false := decide_eq_false c7
   have c7b1 : decide (150 < l0_1.length) = false := decide_eq_false (by omega)
   clear c7
   (first | rw [c7b0] | (simp only [i64_w, i32_w]; rw [c7b0]) | skip)
   by_cases c9 : (a2.size : Int) > 200
   ·rw [if_pos c9] at H
    have c9b0 : decide (200 < (a2.size : Int)) = true := decide_eq_true c9
    have c9b1 : decide (200 < a2.size) = true := decide_eq_true (by omega)
    clear c9
    have H' := Aside0.mk H
    clear H
    have hcz10_0 : w6.cell? ⟨gb179, 0, none⟩ = some (.bool a0_0) := (blk_cell BK179.out 0).trans rfl
    have hcz10_1 : w6.cell? ⟨gb179, 1, none⟩ = some (.slice A0_1 l0_1.length c0_1) := (blk_cell BK179.out 1).trans rfl
    have hcz10_2 : w6.cell? ⟨gb179, 2, none⟩ = some (.int .i64 a0_2) := (blk_cell BK179.out 2).trans rfl
    have hfz10_0 := blk_frozen BK179.out 0
    have hfz10_1 := blk_frozen BK179.out 1
    have hfz10_2 := blk_frozen BK179.out 2
    go_wp2
    go_meet
    case rel => exact ⟨_, (true), (by first | rfl | (simp; done) | (simp [*]; done)), H', ⟨by first | omega | exact Nat.le_refl _⟩, ⟨by (with_reducible repeat (first | refine blk_drewN ?_ _ | refine blk_drew ?_ | refine blk_alloc ?_ _)); exact BK179.out⟩, ⟨by repeat (first | (with_reducible first | exact HB.out | apply below_alloc | apply pw_below_drewN | apply below_drew1 | refine below_set ?_ GE179.out) | exact HB.out)⟩⟩
   ·rw [if_neg c9] at H
    have c9b0 : decide (200 < (a2.size : Int)) = false := decide_eq_false c9
    have c9b1 : decide (200 < a2.size) = false := decide_eq_false (by omega)
    clear c9
    have H' := Aside0.mk H
    clear H
    have hcz11_0 : w6.cell? ⟨gb179, 0, none⟩ = some (.bool a0_0) := (blk_cell BK179.out 0).trans rfl
    have hcz11_1 : w6.cell? ⟨gb179, 1, none⟩ = some (.slice A0_1 l0_1.length c0_1) := (blk_cell BK179.out 1).trans rfl
    have hcz11_2 : w6.cell? ⟨gb179, 2, none⟩ = some (.int .i64 a0_2) := (blk_cell BK179.out 2).trans rfl
    have hfz11_0 := blk_frozen BK179.out 0
    have hfz11_1 := blk_frozen BK179.out 1
    have hfz11_2 := blk_frozen BK179.out 2
    go_wp2
    go_meet
    case rel => exact ⟨_, (decide ((l3.length : Int) > 100)), (by first | rfl | (simp; done) | (simp [*]; done)), H', ⟨by first | omega | exact Nat.le_refl _⟩, ⟨by (with_reducible repeat (first | refine blk_drewN ?_ _ | refine blk_drew ?_ | refine blk_alloc ?_ _)); exact BK179.out⟩, ⟨by repeat (first | (with_reducible first | exact HB.out | apply below_alloc | apply pw_below_drewN | apply below_drew1 | refine below_set ?_ GE179.out) | exact HB.out)⟩⟩
 case rest =>
  clear HC5
  try clear p2
  try clear c3
  try clear c4
  try clear c7
  try clear c7b0
  try clear c7b1
  try clear c9
  try clear c9b0
  try clear c9b1
  try clear hcz10_0
  try clear hcz10_1
  try clear hcz10_2
  try clear hcz11_0
  try clear hcz11_1
  try clear hcz11_2
  try clear hcz8_0
  try clear hcz8_1
  try clear hcz8_2
  try clear hfz10_0
  try clear hfz10_1
  try clear hfz10_2
  try clear hfz11_0
  try clear hfz11_1
  try clear hfz11_2
  try clear hfz8_0
  try clear hfz8_1
  try clear hfz8_2
  obtain ⟨kq, x34_4, rfl, HA, HJ4, BK179, HB⟩ := hcut
  cases kq with
  | zero => exact absurd HA.out (by simp [erasurelaw19_FontTells.j0])
  | succ kj4 =>
   have H := HA.out
   clear HA
   simp only [erasurelaw19_FontTells.j0] at H
   by_cases c12 : x34_4 = true
   ·subst c12
    have H1 : (some true) = some r := by rw [if_pos rfl] at H; exact H
    clear H
    have H := H1
    clear H1
    obtain rfl := Option.some.inj H
    go_wp2
    go_ret
    exact ⟨by first | rfl | (simp [errW_none, errW_some] <;> rfl) | (simp [*, errW_none, errW_some] <;> rfl), by repeat (first | (with_reducible first | exact HB.out | apply below_alloc | apply pw_below_drewN | apply below_drew1 | refine below_set ?_ GE179.out) | exact HB.out)⟩
   ·replace c12 := Bool.eq_false_iff.mpr c12
    subst c12
    have H1 : ((font_Codes.f kj4 a0_0 l0_1 a0_2 a2).bind fun bt180 => ((erasureref19_Codes.f kj4 a0_0 l0_1 a0_2 a2).bind fun bt184 => ((font_Bytes.f kj4 a0_0 l0_1 a0_2 l3).bind fun bt188 => ((erasureref19_Bytes.f kj4 a0_0 l0_1 a0_2 l3).bind fun bt190 => ((font_Means.f kj4 a0_0 l0_1 a0_2 l3).bind fun bt192 => ((erasureref19_Means.f kj4 a0_0 l0_1 a0_2 l3).bind fun bt194 => ((erasurelaw19_awake.f).bind fun t196 => (if t196 = true then ((font_Check.f kj4 a0_0 l0_1 a0_2).bind fun t197 => ((erasureref19_Right.f kj4 a0_0 l0_1 a0_2).bind fun t198 => (if ((t197 == 0) == t198) = true then ((font_Find.f a0_0 l0_1 a0_2 a1).bind fun bt199 => ((erasureref19_Find.f kj4 a0_0 l0_1 a0_2 a1).bind fun bt202 => (if (bt199.1 == bt202.1 && (bt199.2.1 == bt202.2.1 && (bt199.2.2.toList == bt202.2.2.toList))) = true then ((erasureref05_Ints.f kj4 bt180.1 bt184.1).bind fun t205 => (if t205 = true then (if bt180.2 = bt184.2 then (if bt188.1.toList = bt190.1.toList then (if bt188.2 = bt190.2 then (if bt192.1.toList = bt194.1.toList then (some (bt192.2 == bt194.2)) else (none)) else (none)) else (none)) else (none)) else (none))) else (none)))) else (none)))) else (none))))))))) = some r := by rw [if_neg (show ¬ (false = true) by decide)] at H; exact H
    clear H
    have H := H1
    clear H1
    replace H := Option.bind_eq_some_iff.mp H
    obtain ⟨⟨t180, t183⟩, A130, H⟩ := H
    replace H : ((erasureref19_Codes.f kj4 a0_0 l0_1 a0_2 a2).bind fun bt184 => ((font_Bytes.f kj4 a0_0 l0_1 a0_2 l3).bind fun bt188 => ((erasureref19_Bytes.f kj4 a0_0 l0_1 a0_2 l3).bind fun bt190 => ((font_Means.f kj4 a0_0 l0_1 a0_2 l3).bind fun bt192 => ((erasureref19_Means.f kj4 a0_0 l0_1 a0_2 l3).bind fun bt194 => ((erasurelaw19_awake.f).bind fun t196 => (if t196 = true then ((font_Check.f kj4 a0_0 l0_1 a0_2).bind fun t197 => ((erasureref19_Right.f kj4 a0_0 l0_1 a0_2).bind fun t198 => (if ((t197 == 0) == t198) = true then ((font_Find.f a0_0 l0_1 a0_2 a1).bind fun bt199 => ((erasureref19_Find.f kj4 a0_0 l0_1 a0_2 a1).bind fun bt202 => (if (bt199.1 == bt202.1 && (bt199.2.1 == bt202.2.1 && (bt199.2.2.toList == bt202.2.2.toList))) = true then ((erasureref05_Ints.f kj4 t180 bt184.1).bind fun t205 => (if t205 = true then (if t183 = bt184.2 then (if bt188.1.toList = bt190.1.toList then (if bt188.2 = bt190.2 then (if bt192.1.toList = bt194.1.toList then (some (bt192.2 == bt194.2)) else (none)) else (none)) else (none)) else (none)) else (none))) else (none)))) else (none)))) else (none)))))))) = some r := H
    have A13 := Aside0.mk A130
    clear A130
    replace H := Option.bind_eq_some_iff.mp H
    obtain ⟨⟨t184, t187⟩, A140, H⟩ := H
    replace H : ((font_Bytes.f kj4 a0_0 l0_1 a0_2 l3).bind fun bt188 => ((erasureref19_Bytes.f kj4 a0_0 l0_1 a0_2 l3).bind fun bt190 => ((font_Means.f kj4 a0_0 l0_1 a0_2 l3).bind fun bt192 => ((erasureref19_Means.f kj4 a0_0 l0_1 a0_2 l3).bind fun bt194 => ((erasurelaw19_awake.f).bind fun t196 => (if t196 = true then ((font_Check.f kj4 a0_0 l0_1 a0_2).bind fun t197 => ((erasureref19_Right.f kj4 a0_0 l0_1 a0_2).bind fun t198 => (if ((t197 == 0) == t198) = true then ((font_Find.f a0_0 l0_1 a0_2 a1).bind fun bt199 => ((erasureref19_Find.f kj4 a0_0 l0_1 a0_2 a1).bind fun bt202 => (if (bt199.1 == bt202.1 && (bt199.2.1 == bt202.2.1 && (bt199.2.2.toList == bt202.2.2.toList))) = true then ((erasureref05_Ints.f kj4 t180 t184).bind fun t205 => (if t205 = true then (if t183 = t187 then (if bt188.1.toList = bt190.1.toList then (if bt188.2 = bt190.2 then (if bt192.1.toList = bt194.1.toList then (some (bt192.2 == bt194.2)) else (none)) else (none)) else (none)) else (none)) else (none))) else (none)))) else (none)))) else (none))))))) = some r := H
    have A14 := Aside0.mk A140
    clear A140
    replace H := Option.bind_eq_some_iff.mp H
    obtain ⟨⟨t188, t189⟩, A150, H⟩ := H
    replace H : ((erasureref19_Bytes.f kj4 a0_0 l0_1 a0_2 l3).bind fun bt190 => ((font_Means.f kj4 a0_0 l0_1 a0_2 l3).bind fun bt192 => ((erasureref19_Means.f kj4 a0_0 l0_1 a0_2 l3).bind fun bt194 => ((erasurelaw19_awake.f).bind fun t196 => (if t196 = true then ((font_Check.f kj4 a0_0 l0_1 a0_2).bind fun t197 => ((erasureref19_Right.f kj4 a0_0 l0_1 a0_2).bind fun t198 => (if ((t197 == 0) == t198) = true then ((font_Find.f a0_0 l0_1 a0_2 a1).bind fun bt199 => ((erasureref19_Find.f kj4 a0_0 l0_1 a0_2 a1).bind fun bt202 => (if (bt199.1 == bt202.1 && (bt199.2.1 == bt202.2.1 && (bt199.2.2.toList == bt202.2.2.toList))) = true then ((erasureref05_Ints.f kj4 t180 t184).bind fun t205 => (if t205 = true then (if t183 = t187 then (if t188.toList = bt190.1.toList then (if t189 = bt190.2 then (if bt192.1.toList = bt194.1.toList then (some (bt192.2 == bt194.2)) else (none)) else (none)) else (none)) else (none)) else (none))) else (none)))) else (none)))) else (none)))))) = some r := H
    have A15 := Aside0.mk A150
    clear A150
    replace H := Option.bind_eq_some_iff.mp H
    obtain ⟨⟨t190, t191⟩, A160, H⟩ := H
    replace H : ((font_Means.f kj4 a0_0 l0_1 a0_2 l3).bind fun bt192 => ((erasureref19_Means.f kj4 a0_0 l0_1 a0_2 l3).bind fun bt194 => ((erasurelaw19_awake.f).bind fun t196 => (if t196 = true then ((font_Check.f kj4 a0_0 l0_1 a0_2).bind fun t197 => ((erasureref19_Right.f kj4 a0_0 l0_1 a0_2).bind fun t198 => (if ((t197 == 0) == t198) = true then ((font_Find.f a0_0 l0_1 a0_2 a1).bind fun bt199 => ((erasureref19_Find.f kj4 a0_0 l0_1 a0_2 a1).bind fun bt202 => (if (bt199.1 == bt202.1 && (bt199.2.1 == bt202.2.1 && (bt199.2.2.toList == bt202.2.2.toList))) = true then ((erasureref05_Ints.f kj4 t180 t184).bind fun t205 => (if t205 = true then (if t183 = t187 then (if t188.toList = t190.toList then (if t189 = t191 then (if bt192.1.toList = bt194.1.toList then (some (bt192.2 == bt194.2)) else (none)) else (none)) else (none)) else (none)) else (none))) else (none)))) else (none)))) else (none))))) = some r := H
    have A16 := Aside0.mk A160
    clear A160
    replace H := Option.bind_eq_some_iff.mp H
    obtain ⟨⟨t192, t193⟩, A170, H⟩ := H
    replace H : ((erasureref19_Means.f kj4 a0_0 l0_1 a0_2 l3).bind fun bt194 => ((erasurelaw19_awake.f).bind fun t196 => (if t196 = true then ((font_Check.f kj4 a0_0 l0_1 a0_2).bind fun t197 => ((erasureref19_Right.f kj4 a0_0 l0_1 a0_2).bind fun t198 => (if ((t197 == 0) == t198) = true then ((font_Find.f a0_0 l0_1 a0_2 a1).bind fun bt199 => ((erasureref19_Find.f kj4 a0_0 l0_1 a0_2 a1).bind fun bt202 => (if (bt199.1 == bt202.1 && (bt199.2.1 == bt202.2.1 && (bt199.2.2.toList == bt202.2.2.toList))) = true then ((erasureref05_Ints.f kj4 t180 t184).bind fun t205 => (if t205 = true then (if t183 = t187 then (if t188.toList = t190.toList then (if t189 = t191 then (if t192.toList = bt194.1.toList then (some (t193 == bt194.2)) else (none)) else (none)) else (none)) else (none)) else (none))) else (none)))) else (none)))) else (none)))) = some r := H
    have A17 := Aside0.mk A170
    clear A170
    replace H := Option.bind_eq_some_iff.mp H
    obtain ⟨⟨t194, t195⟩, A180, H⟩ := H
    replace H : ((erasurelaw19_awake.f).bind fun t196 => (if t196 = true then ((font_Check.f kj4 a0_0 l0_1 a0_2).bind fun t197 => ((erasureref19_Right.f kj4 a0_0 l0_1 a0_2).bind fun t198 => (if ((t197 == 0) == t198) = true then ((font_Find.f a0_0 l0_1 a0_2 a1).bind fun bt199 => ((erasureref19_Find.f kj4 a0_0 l0_1 a0_2 a1).bind fun bt202 => (if (bt199.1 == bt202.1 && (bt199.2.1 == bt202.2.1 && (bt199.2.2.toList == bt202.2.2.toList))) = true then ((erasureref05_Ints.f kj4 t180 t184).bind fun t205 => (if t205 = true then (if t183 = t187 then (if t188.toList = t190.toList then (if t189 = t191 then (if t192.toList = t194.toList then (some (t193 == t195)) else (none)) else (none)) else (none)) else (none)) else (none))) else (none)))) else (none)))) else (none))) = some r := H
    have A18 := Aside0.mk A180
    clear A180
    replace H := Option.bind_eq_some_iff.mp H
    obtain ⟨t196, A190, H⟩ := H
    replace H : (if t196 = true then ((font_Check.f kj4 a0_0 l0_1 a0_2).bind fun t197 => ((erasureref19_Right.f kj4 a0_0 l0_1 a0_2).bind fun t198 => (if ((t197 == 0) == t198) = true then ((font_Find.f a0_0 l0_1 a0_2 a1).bind fun bt199 => ((erasureref19_Find.f kj4 a0_0 l0_1 a0_2 a1).bind fun bt202 => (if (bt199.1 == bt202.1 && (bt199.2.1 == bt202.2.1 && (bt199.2.2.toList == bt202.2.2.toList))) = true then ((erasureref05_Ints.f kj4 t180 t184).bind fun t205 => (if t205 = true then (if t183 = t187 then (if t188.toList = t190.toList then (if t189 = t191 then (if t192.toList = t194.toList then (some (t193 == t195)) else (none)) else (none)) else (none)) else (none)) else (none))) else (none)))) else (none)))) else (none)) = some r := H
    have A19 := Aside0.mk A190
    clear A190
    by_cases c20 : t196 = true
    ·subst c20
     have H1 : ((font_Check.f kj4 a0_0 l0_1 a0_2).bind fun t197 => ((erasureref19_Right.f kj4 a0_0 l0_1 a0_2).bind fun t198 => (if ((t197 == 0) == t198) = true then ((font_Find.f a0_0 l0_1 a0_2 a1).bind fun bt199 => ((erasureref19_Find.f kj4 a0_0 l0_1 a0_2 a1).bind fun bt202 => (if (bt199.1 == bt202.1 && (bt199.2.1 == bt202.2.1 && (bt199.2.2.toList == bt202.2.2.toList))) = true then ((erasureref05_Ints.f kj4 t180 t184).bind fun t205 => (if t205 = true then (if t183 = t187 then (if t188.toList = t190.toList then (if t189 = t191 then (if t192.toList = t194.toList then (some (t193 == t195)) else (none)) else (none)) else (none)) else (none)) else (none))) else (none)))) else (none)))) = some r := by rw [if_pos rfl] at H; exact H
     clear H
     have H := H1
     clear H1
     replace H := Option.bind_eq_some_iff.mp H
     obtain ⟨t197, A210, H⟩ := H
     replace H : ((erasureref19_Right.f kj4 a0_0 l0_1 a0_2).bind fun t198 => (if ((t197 == 0) == t198) = true then ((font_Find.f a0_0 l0_1 a0_2 a1).bind fun bt199 => ((erasureref19_Find.f kj4 a0_0 l0_1 a0_2 a1).bind fun bt202 => (if (bt199.1 == bt202.1 && (bt199.2.1 == bt202.2.1 && (bt199.2.2.toList == bt202.2.2.toList))) = true then ((erasureref05_Ints.f kj4 t180 t184).bind fun t205 => (if t205 = true then (if t183 = t187 then (if t188.toList = t190.toList then (if t189 = t191 then (if t192.toList = t194.toList then (some (t193 == t195)) else (none)) else (none)) else (none)) else (none)) else (none))) else (none)))) else (none))) = some r := H
     have A21 := Aside0.mk A210
     clear A210
     replace H := Option.bind_eq_some_iff.mp H
     obtain ⟨t198, A220, H⟩ := H
     replace H : (if ((t197 == 0) == t198) = true then ((font_Find.f a0_0 l0_1 a0_2 a1).bind fun bt199 => ((erasureref19_Find.f kj4 a0_0 l0_1 a0_2 a1).bind fun bt202 => (if (bt199.1 == bt202.1 && (bt199.2.1 == bt202.2.1 && (bt199.2.2.toList == bt202.2.2.toList))) = true then ((erasureref05_Ints.f kj4 t180 t184).bind fun t205 => (if t205 = true then (if t183 = t187 then (if t188.toList = t190.toList then (if t189 = t191 then (if t192.toList = t194.toList then (some (t193 == t195)) else (none)) else (none)) else (none)) else (none)) else (none))) else (none)))) else (none)) = some r := H
     have A22 := Aside0.mk A220
     clear A220
     by_cases c23 : ((t197 == 0) == t198) = true
     ·rw [if_pos c23] at H
      have c23b0 : ((t197 == 0) == t198) = true := c23
      (try (have c23b1 : decide ((t197 == 0) = t198) = true := by simpa using c23))
      (try (have c23b2 : ((t197 == 0) == t198) = true := by simpa using c23))
      clear c23
      replace H := Option.bind_eq_some_iff.mp H
      obtain ⟨⟨t199, t200, t201⟩, A240, H⟩ := H
      replace H : ((erasureref19_Find.f kj4 a0_0 l0_1 a0_2 a1).bind fun bt202 => (if (t199 == bt202.1 && (t200 == bt202.2.1 && (t201.toList == bt202.2.2.toList))) = true then ((erasureref05_Ints.f kj4 t180 t184).bind fun t205 => (if t205 = true then (if t183 = t187 then (if t188.toList = t190.toList then (if t189 = t191 then (if t192.toList = t194.toList then (some (t193 == t195)) else (none)) else (none)) else (none)) else (none)) else (none))) else (none))) = some r := H
      have A24 := Aside0.mk A240
      clear A240
      replace H := Option.bind_eq_some_iff.mp H
      obtain ⟨⟨t202, t203, t204⟩, A250, H⟩ := H
      replace H : (if (t199 == t202 && (t200 == t203 && (t201.toList == t204.toList))) = true then ((erasureref05_Ints.f kj4 t180 t184).bind fun t205 => (if t205 = true then (if t183 = t187 then (if t188.toList = t190.toList then (if t189 = t191 then (if t192.toList = t194.toList then (some (t193 == t195)) else (none)) else (none)) else (none)) else (none)) else (none))) else (none)) = some r := H
      have A25 := Aside0.mk A250
      clear A250
      by_cases c26 : (t199 == t202 && (t200 == t203 && (t201.toList == t204.toList))) = true
      ·rw [if_pos c26] at H
       have c26b0 : (t199 == t202 && (t200 == t203 && (t201.toList == t204.toList))) = true := c26
       (try (have c26b1 : decide (t199 = t202 && (t200 == t203 && (t201.toList == t204.toList))) = true := by simpa using c26))
       (try (have c26b2 : (t199 == t202 && (t200 == t203 && (t201.toList == t204.toList))) = true := by simpa using c26))
       clear c26
       replace H := Option.bind_eq_some_iff.mp H
       obtain ⟨t205, A270, H⟩ := H
       replace H : (if t205 = true then (if t183 = t187 then (if t188.toList = t190.toList then (if t189 = t191 then (if t192.toList = t194.toList then (some (t193 == t195)) else (none)) else (none)) else (none)) else (none)) else (none)) = some r := H
       have A27 := Aside0.mk A270
       clear A270
       by_cases c28 : t205 = true
       ·subst c28
        have H1 : (if t183 = t187 then (if t188.toList = t190.toList then (if t189 = t191 then (if t192.toList = t194.toList then (some (t193 == t195)) else (none)) else (none)) else (none)) else (none)) = some r := by rw [if_pos rfl] at H; exact H
        clear H
        have H := H1
        clear H1
        by_cases c29 : t183 = t187
        ·rw [if_pos c29] at H
         have c29b0 : (t183 == t187) = true := beq_iff_eq.mpr c29
         have c29b1 : (t183 != t187) = false := bne_eq_false_iff_eq.mpr c29
         clear c29
         by_cases c30 : t188.toList = t190.toList
         ·rw [if_pos c30] at H
          have c30b0 : (t188.toList == t190.toList) = true := beq_iff_eq.mpr c30
          have c30b1 : (t188.toList != t190.toList) = false := bne_eq_false_iff_eq.mpr c30
          clear c30
          by_cases c31 : t189 = t191
          ·rw [if_pos c31] at H
           have c31b0 : (t189 == t191) = true := beq_iff_eq.mpr c31
           have c31b1 : (t189 != t191) = false := bne_eq_false_iff_eq.mpr c31
           clear c31
           by_cases c32 : t192.toList = t194.toList
           ·rw [if_pos c32] at H
            have c32b0 : (t192.toList == t194.toList) = true := beq_iff_eq.mpr c32
            have c32b1 : (t192.toList != t194.toList) = false := bne_eq_false_iff_eq.mpr c32
            clear c32
            obtain rfl := Option.some.inj H
            have hcz33_0 : wc.cell? ⟨gb179, 0, none⟩ = some (.bool a0_0) := (blk_cell BK179.out 0).trans rfl
            have hcz33_1 : wc.cell? ⟨gb179, 1, none⟩ = some (.slice A0_1 l0_1.length c0_1) := (blk_cell BK179.out 1).trans rfl
            have hcz33_2 : wc.cell? ⟨gb179, 2, none⟩ = some (.int .i64 a0_2) := (blk_cell BK179.out 2).trans rfl
            have hfz33_0 := blk_frozen BK179.out 0
            have hfz33_1 := blk_frozen BK179.out 1
            have hfz33_2 := blk_frozen BK179.out 2
            try go_wp2_with (first | ((with_reducible refine gate_callee (f := 8) rfl ?_); refine goesL_ (some 38) rfl rfl Try.func8 (by kernel_rfl) rfl #[.agg #[.bool a0_0, .slice A0_1 l0_1.length c0_1, .int .i64 a0_2], .string a2] rfl (by (try simp only [List.map_toArray, List.map_cons, List.map_nil]); first | done | rfl | (simp only [List.length_drop, List.length_take]; rfl)) ?_; (with_reducible refine (font_Codes.calls kj4 a0_0 _ _ l0_1 a0_2 a2 t180 t183 _ ?side1 ?side2 A13.out).mono ?_); (case side1 => repeat (first | exact (Kd.C_below HR0_1.out HB.out) | (with_reducible refine Kd.C_alloc ?_ _) | (with_reducible refine Kd.C_drewN ?_ _) | (with_reducible refine Kd.C_drew ?_))); (case side2 => exact HC0_1.out); rintro e w34 ⟨v181, rfl, ho0, hb⟩; refine ⟨_, rfl, ?_⟩; have n0_ := Aside0.mk (Kd.R_lower ho0 (below_size (by repeat (first | (with_reducible first | exact HB.out | apply below_alloc | apply pw_below_drewN | apply below_drew1 | refine below_set ?_ GE179.out) | exact HB.out)))); have n1_ := Aside0.mk (blk_below (g := gb179) (o := .cells #[.bool a0_0, .slice A0_1 l0_1.length c0_1, .int .i64 a0_2] 24 (0, 0)) (by (with_reducible repeat (first | refine blk_drewN ?_ _ | refine blk_drew ?_ | refine blk_alloc ?_ _)); exact BK179.out) hb); have n2_ := Aside0.mk (below_step (by repeat (first | (with_reducible first | exact HB.out | apply below_alloc | apply pw_below_drewN | apply below_drew1 | refine below_set ?_ GE179.out) | exact HB.out)) hb); clear BK179; clear HB; have HO182 := n0_; have BK179 := n1_; have HB := n2_; clear n0_ n1_ n2_; (try clear hb); (try clear hb2); (try clear hk); (try clear hi); (try clear ho0); have hcz35_0 : w34.cell? ⟨gb179, 0, none⟩ = some (.bool a0_0) := (blk_cell BK179.out 0).trans rfl; have hcz35_1 : w34.cell? ⟨gb179, 1, none⟩ = some (.slice A0_1 l0_1.length c0_1) := (blk_cell BK179.out 1).trans rfl; have hcz35_2 : w34.cell? ⟨gb179, 2, none⟩ = some (.int .i64 a0_2) := (blk_cell BK179.out 2).trans rfl; have hfz35_0 := blk_frozen BK179.out 0; have hfz35_1 := blk_frozen BK179.out 1; have hfz35_2 := blk_frozen BK179.out 2) | ((with_reducible refine gate_callee (f := 12) rfl ?_); refine goesL_ (some 44) rfl rfl Try.func12 (by kernel_rfl) rfl #[.agg #[.bool a0_0, .slice A0_1 l0_1.length c0_1, .int .i64 a0_2], .string a2] rfl (by (try simp only [List.map_toArray, List.map_cons, List.map_nil]); first | done | rfl | (simp only [List.length_drop, List.length_take]; rfl)) ?_; (with_reducible refine (erasureref19_Codes.calls kj4 a0_0 _ _ l0_1 a0_2 a2 t184 t187 _ ?side1 ?side2 A14.out).mono ?_); (case side1 => repeat (first | exact (Kd.C_below HR0_1.out HB.out) | (with_reducible refine Kd.C_alloc ?_ _) | (with_reducible refine Kd.C_drewN ?_ _) | (with_reducible refine Kd.C_drew ?_))); (case side2 => exact HC0_1.out); rintro e w36 ⟨v185, rfl, ho0, hb⟩; refine ⟨_, rfl, ?_⟩; have n0_ := Aside0.mk (Kd.R_elder' (by (with_reducible repeat (first | apply Kd.R_alloc | apply Kd.R_drewN | apply Kd.R_drew)); exact HO182.out) (Kd.R_base ho0) hb); have n1_ := Aside0.mk (Kd.R_lower (Kd.R_new' ho0 (Kd.R_lt (by (with_reducible repeat (first | apply Kd.R_alloc | apply Kd.R_drewN | apply Kd.R_drew)); exact HO182.out))) (below_size (by repeat (first | (with_reducible first | exact HB.out | apply below_alloc | apply pw_below_drewN | apply below_drew1 | refine below_set ?_ GE179.out) | exact HB.out)))); have n2_ := Aside0.mk (blk_below (g := gb179) (o := .cells #[.bool a0_0, .slice A0_1 l0_1.length c0_1, .int .i64 a0_2] 24 (0, 0)) (by (with_reducible repeat (first | refine blk_drewN ?_ _ | refine blk_drew ?_ | refine blk_alloc ?_ _)); exact BK179.out) hb); have n3_ := Aside0.mk (below_step (by repeat (first | (with_reducible first | exact HB.out | apply below_alloc | apply pw_below_drewN | apply below_drew1 | refine below_set ?_ GE179.out) | exact HB.out)) hb); clear HO182; clear BK179; clear HB; have HO182 := n0_; have HO186 := n1_; have BK179 := n2_; have HB := n3_; clear n0_ n1_ n2_ n3_; (try clear hb); (try clear hb2); (try clear hk); (try clear hi); (try clear ho0); have hcz37_0 : w36.cell? ⟨gb179, 0, none⟩ = some (.bool a0_0) := (blk_cell BK179.out 0).trans rfl; have hcz37_1 : w36.cell? ⟨gb179, 1, none⟩ = some (.slice A0_1 l0_1.length c0_1) := (blk_cell BK179.out 1).trans rfl; have hcz37_2 : w36.cell? ⟨gb179, 2, none⟩ = some (.int .i64 a0_2) := (blk_cell BK179.out 2).trans rfl; have hfz37_0 := blk_frozen BK179.out 0; have hfz37_1 := blk_frozen BK179.out 1; have hfz37_2 := blk_frozen BK179.out 2) | ((with_reducible refine gate_callee (f := 9) rfl ?_); refine goesL_ (some 50) rfl rfl Try.func9 (by kernel_rfl) rfl #[.agg #[.bool a0_0, .slice A0_1 l0_1.length c0_1, .int .i64 a0_2], .slice A3 l3.length c3] rfl (by (try simp only [List.map_toArray, List.map_cons, List.map_nil]); first | done | rfl | (simp only [List.length_drop, List.length_take]; rfl)) ?_; (with_reducible refine (font_Bytes.calls kj4 a0_0 _ _ l0_1 a0_2 _ _ l3 t188 t189 _ ?side1 ?side2 ?side3 ?side4 A15.out).mono ?_); (case side1 => repeat (first | exact (Kd.C_below HR0_1.out HB.out) | (with_reducible refine Kd.C_alloc ?_ _) | (with_reducible refine Kd.C_drewN ?_ _) | (with_reducible refine Kd.C_drew ?_))); (case side2 => exact HC0_1.out); (case side3 => repeat (first | exact (Kd.C_below HR3.out HB.out) | (with_reducible refine Kd.C_alloc ?_ _) | (with_reducible refine Kd.C_drewN ?_ _) | (with_reducible refine Kd.C_drew ?_))); (case side4 => exact HC3.out); rintro e w38 ⟨rfl, hb⟩; refine ⟨_, rfl, ?_⟩; have n0_ := Aside0.mk (Kd.R_below (by (with_reducible repeat (first | apply Kd.R_alloc | apply Kd.R_drewN | apply Kd.R_drew)); exact HO182.out) hb); have n1_ := Aside0.mk (Kd.R_below (by (with_reducible repeat (first | apply Kd.R_alloc | apply Kd.R_drewN | apply Kd.R_drew)); exact HO186.out) hb); have n2_ := Aside0.mk (blk_below (g := gb179) (o := .cells #[.bool a0_0, .slice A0_1 l0_1.length c0_1, .int .i64 a0_2] 24 (0, 0)) (by (with_reducible repeat (first | refine blk_drewN ?_ _ | refine blk_drew ?_ | refine blk_alloc ?_ _)); exact BK179.out) hb); have n3_ := Aside0.mk (below_step (by repeat (first | (with_reducible first | exact HB.out | apply below_alloc | apply pw_below_drewN | apply below_drew1 | refine below_set ?_ GE179.out) | exact HB.out)) hb); clear HO182; clear HO186; clear BK179; clear HB; have HO182 := n0_; have HO186 := n1_; have BK179 := n2_; have HB := n3_; clear n0_ n1_ n2_ n3_; (try clear hb); (try clear hb2); (try clear hk); (try clear hi); have hcz39_0 : w38.cell? ⟨gb179, 0, none⟩ = some (.bool a0_0) := (blk_cell BK179.out 0).trans rfl; have hcz39_1 : w38.cell? ⟨gb179, 1, none⟩ = some (.slice A0_1 l0_1.length c0_1) := (blk_cell BK179.out 1).trans rfl; have hcz39_2 : w38.cell? ⟨gb179, 2, none⟩ = some (.int .i64 a0_2) := (blk_cell BK179.out 2).trans rfl; have hfz39_0 := blk_frozen BK179.out 0; have hfz39_1 := blk_frozen BK179.out 1; have hfz39_2 := blk_frozen BK179.out 2) | ((with_reducible refine gate_callee (f := 13) rfl ?_); refine goesL_ (some 56) rfl rfl Try.func13 (by kernel_rfl) rfl #[.agg #[.bool a0_0, .slice A0_1 l0_1.length c0_1, .int .i64 a0_2], .slice A3 l3.length c3] rfl (by (try simp only [List.map_toArray, List.map_cons, List.map_nil]); first | done | rfl | (simp only [List.length_drop, List.length_take]; rfl)) ?_; (with_reducible refine (erasureref19_Bytes.calls kj4 a0_0 _ _ l0_1 a0_2 _ _ l3 t190 t191 _ ?side1 ?side2 ?side3 ?side4 A16.out).mono ?_); (case side1 => repeat (first | exact (Kd.C_below HR0_1.out HB.out) | (with_reducible refine Kd.C_alloc ?_ _) | (with_reducible refine Kd.C_drewN ?_ _) | (with_reducible refine Kd.C_drew ?_))); (case side2 => exact HC0_1.out); (case side3 => repeat (first | exact (Kd.C_below HR3.out HB.out) | (with_reducible refine Kd.C_alloc ?_ _) | (with_reducible refine Kd.C_drewN ?_ _) | (with_reducible refine Kd.C_drew ?_))); (case side4 => exact HC3.out); rintro e w40 ⟨rfl, hb⟩; refine ⟨_, rfl, ?_⟩; have n0_ := Aside0.mk (Kd.R_below (by (with_reducible repeat (first | apply Kd.R_alloc | apply Kd.R_drewN | apply Kd.R_drew)); exact HO182.out) hb); have n1_ := Aside0.mk (Kd.R_below (by (with_reducible repeat (first | apply Kd.R_alloc | apply Kd.R_drewN | apply Kd.R_drew)); exact HO186.out) hb); have n2_ := Aside0.mk (blk_below (g := gb179) (o := .cells #[.bool a0_0, .slice A0_1 l0_1.length c0_1, .int .i64 a0_2] 24 (0, 0)) (by (with_reducible repeat (first | refine blk_drewN ?_ _ | refine blk_drew ?_ | refine blk_alloc ?_ _)); exact BK179.out) hb); have n3_ := Aside0.mk (below_step (by repeat (first | (with_reducible first | exact HB.out | apply below_alloc | apply pw_below_drewN | apply below_drew1 | refine below_set ?_ GE179.out) | exact HB.out)) hb); clear HO182; clear HO186; clear BK179; clear HB; have HO182 := n0_; have HO186 := n1_; have BK179 := n2_; have HB := n3_; clear n0_ n1_ n2_ n3_; (try clear hb); (try clear hb2); (try clear hk); (try clear hi); have hcz41_0 : w40.cell? ⟨gb179, 0, none⟩ = some (.bool a0_0) := (blk_cell BK179.out 0).trans rfl; have hcz41_1 : w40.cell? ⟨gb179, 1, none⟩ = some (.slice A0_1 l0_1.length c0_1) := (blk_cell BK179.out 1).trans rfl; have hcz41_2 : w40.cell? ⟨gb179, 2, none⟩ = some (.int .i64 a0_2) := (blk_cell BK179.out 2).trans rfl; have hfz41_0 := blk_frozen BK179.out 0; have hfz41_1 := blk_frozen BK179.out 1; have hfz41_2 := blk_frozen BK179.out 2) | ((with_reducible refine gate_callee (f := 14) rfl ?_); refine goesL_ (some 62) rfl rfl Try.func14 (by kernel_rfl) rfl #[.agg #[.bool a0_0, .slice A0_1 l0_1.length c0_1, .int .i64 a0_2], .slice A3 l3.length c3] rfl (by (try simp only [List.map_toArray, List.map_cons, List.map_nil]); first | done | rfl | (simp only [List.length_drop, List.length_take]; rfl)) ?_; (with_reducible refine (font_Means.calls kj4 a0_0 _ _ l0_1 a0_2 _ _ l3 t192 t193 _ ?side1 ?side2 ?side3 ?side4 A17.out).mono ?_); (case side1 => repeat (first | exact (Kd.C_below HR0_1.out HB.out) | (with_reducible refine Kd.C_alloc ?_ _) | (with_reducible refine Kd.C_drewN ?_ _) | (with_reducible refine Kd.C_drew ?_))); (case side2 => exact HC0_1.out); (case side3 => repeat (first | exact (Kd.C_below HR3.out HB.out) | (with_reducible refine Kd.C_alloc ?_ _) | (with_reducible refine Kd.C_drewN ?_ _) | (with_reducible refine Kd.C_drew ?_))); (case side4 => exact HC3.out); rintro e w42 ⟨rfl, hb⟩; refine ⟨_, rfl, ?_⟩; have n0_ := Aside0.mk (Kd.R_below (by (with_reducible repeat (first | apply Kd.R_alloc | apply Kd.R_drewN | apply Kd.R_drew)); exact HO182.out) hb); have n1_ := Aside0.mk (Kd.R_below (by (with_reducible repeat (first | apply Kd.R_alloc | apply Kd.R_drewN | apply Kd.R_drew)); exact HO186.out) hb); have n2_ := Aside0.mk (blk_below (g := gb179) (o := .cells #[.bool a0_0, .slice A0_1 l0_1.length c0_1, .int .i64 a0_2] 24 (0, 0)) (by (with_reducible repeat (first | refine blk_drewN ?_ _ | refine blk_drew ?_ | refine blk_alloc ?_ _)); exact BK179.out) hb); have n3_ := Aside0.mk (below_step (by repeat (first | (with_reducible first | exact HB.out | apply below_alloc | apply pw_below_drewN | apply below_drew1 | refine below_set ?_ GE179.out) | exact HB.out)) hb); clear HO182; clear HO186; clear BK179; clear HB; have HO182 := n0_; have HO186 := n1_; have BK179 := n2_; have HB := n3_; clear n0_ n1_ n2_ n3_; (try clear hb); (try clear hb2); (try clear hk); (try clear hi); have hcz43_0 : w42.cell? ⟨gb179, 0, none⟩ = some (.bool a0_0) := (blk_cell BK179.out 0).trans rfl; have hcz43_1 : w42.cell? ⟨gb179, 1, none⟩ = some (.slice A0_1 l0_1.length c0_1) := (blk_cell BK179.out 1).trans rfl; have hcz43_2 : w42.cell? ⟨gb179, 2, none⟩ = some (.int .i64 a0_2) := (blk_cell BK179.out 2).trans rfl; have hfz43_0 := blk_frozen BK179.out 0; have hfz43_1 := blk_frozen BK179.out 1; have hfz43_2 := blk_frozen BK179.out 2) | ((with_reducible refine gate_callee (f := 15) rfl ?_); refine goesL_ (some 68) rfl rfl Try.func15 (by kernel_rfl) rfl #[.agg #[.bool a0_0, .slice A0_1 l0_1.length c0_1, .int .i64 a0_2], .slice A3 l3.length c3] rfl (by (try simp only [List.map_toArray, List.map_cons, List.map_nil]); first | done | rfl | (simp only [List.length_drop, List.length_take]; rfl)) ?_; (with_reducible refine (erasureref19_Means.calls kj4 a0_0 _ _ l0_1 a0_2 _ _ l3 t194 t195 _ ?side1 ?side2 ?side3 ?side4 A18.out).mono ?_); (case side1 => repeat (first | exact (Kd.C_below HR0_1.out HB.out) | (with_reducible refine Kd.C_alloc ?_ _) | (with_reducible refine Kd.C_drewN ?_ _) | (with_reducible refine Kd.C_drew ?_))); (case side2 => exact HC0_1.out); (case side3 => repeat (first | exact (Kd.C_below HR3.out HB.out) | (with_reducible refine Kd.C_alloc ?_ _) | (with_reducible refine Kd.C_drewN ?_ _) | (with_reducible refine Kd.C_drew ?_))); (case side4 => exact HC3.out); rintro e w44 ⟨rfl, hb⟩; refine ⟨_, rfl, ?_⟩; have n0_ := Aside0.mk (Kd.R_below (by (with_reducible repeat (first | apply Kd.R_alloc | apply Kd.R_drewN | apply Kd.R_drew)); exact HO182.out) hb); have n1_ := Aside0.mk (Kd.R_below (by (with_reducible repeat (first | apply Kd.R_alloc | apply Kd.R_drewN | apply Kd.R_drew)); exact HO186.out) hb); have n2_ := Aside0.mk (blk_below (g := gb179) (o := .cells #[.bool a0_0, .slice A0_1 l0_1.length c0_1, .int .i64 a0_2] 24 (0, 0)) (by (with_reducible repeat (first | refine blk_drewN ?_ _ | refine blk_drew ?_ | refine blk_alloc ?_ _)); exact BK179.out) hb); have n3_ := Aside0.mk (below_step (by repeat (first | (with_reducible first | exact HB.out | apply below_alloc | apply pw_below_drewN | apply below_drew1 | refine below_set ?_ GE179.out) | exact HB.out)) hb); clear HO182; clear HO186; clear BK179; clear HB; have HO182 := n0_; have HO186 := n1_; have BK179 := n2_; have HB := n3_; clear n0_ n1_ n2_ n3_; (try clear hb); (try clear hb2); (try clear hk); (try clear hi)))
            have n0_ := Aside0.mk (Kd.R_drew HO182.out)
            have n1_ := Aside0.mk (Kd.R_drew HO186.out)
            have n2_ := Aside0.mk (blk_drew BK179.out)
            have n3_ := Aside0.mk (below_drew1 HB.out)
            clear HO182
            clear HO186
            clear BK179
            clear HB
            have HO182 := n0_
            have HO186 := n1_
            have BK179 := n2_
            have HB := n3_
            clear n0_ n1_ n2_ n3_
            refine start_ (n := 49) (S := fun w' => w'.cell? ⟨gb179, 0, none⟩ = some (.bool a0_0) ∧ w'.cell? ⟨gb179, 1, none⟩ = some (.slice A0_1 l0_1.length c0_1) ∧ w'.cell? ⟨gb179, 2, none⟩ = some (.int .i64 a0_2)) (ds := []) (tk_ 49 0) (by kernel_rfl) rfl (by kernel_rfl) ⟨(blk_cell BK179.out 0).trans rfl, (blk_cell BK179.out 1).trans rfl, (blk_cell BK179.out 2).trans rfl⟩ (fun hHeld => ?_); refine with_tabW erasurelaw19_FontTells.tab9 erasurelaw19_FontTells.bits9 (fun HT_ HW_ => ?_)
            generalize w44.drew = w45 at HO182 HO186 BK179 HB hHeld ⊢
            refine one_ (i := 0) (N := some 71) (tk_ 49 1) rfl rfl (one_of HT_.out (by kernel_rfl)) (by decide) (fun K hK => ?_)
            refine goes_ Try.func10 (by kernel_rfl) rfl #[] (by rfl) rfl rfl (by (try simp only [List.map_toArray, List.map_cons, List.map_nil]); first | done | rfl | (simp only [List.length_drop, List.length_take]; rfl)) ?_
            with_reducible refine (erasurelaw19_awake.calls  true _ A19.out).mono ?_
            rintro e w46 ⟨rfl, hb⟩
            refine ⟨_, rfl, ?_⟩
            have n0_ := Aside0.mk (Kd.R_below (by (with_reducible repeat (first | apply Kd.R_alloc | apply Kd.R_drewN | apply Kd.R_drew)); exact HO182.out) hb)
            have n1_ := Aside0.mk (Kd.R_below (by (with_reducible repeat (first | apply Kd.R_alloc | apply Kd.R_drewN | apply Kd.R_drew)); exact HO186.out) hb)
            have n2_ := Aside0.mk (blk_below (g := gb179) (o := .cells #[.bool a0_0, .slice A0_1 l0_1.length c0_1, .int .i64 a0_2] 24 (0, 0)) (by (with_reducible repeat (first | refine blk_drewN ?_ _ | refine blk_drew ?_ | refine blk_alloc ?_ _)); exact BK179.out) hb)
            have n3_ := Aside0.mk (below_step (by repeat (first | (with_reducible first | exact HB.out | apply below_alloc | apply pw_below_drewN | apply below_drew1 | refine below_set ?_ GE179.out) | exact HB.out)) hb)
            clear HO182
            clear HO186
            clear BK179
            clear HB
            have HO182 := n0_
            have HO186 := n1_
            have BK179 := n2_
            have HB := n3_
            clear n0_ n1_ n2_ n3_
            (try clear hb)
            (try clear hb2)
            (try clear hk)
            (try clear hi)
            refine hK.out _ _ ⟨(blk_cell BK179.out 0).trans rfl, (blk_cell BK179.out 1).trans rfl, (blk_cell BK179.out 2).trans rfl⟩ (fun hHeld => ?_)
            clear hK K
            refine norm_ (by show Act.put _ (some 71) _ = _; simp only [s0_, s1_, s2_, s3_, s4_, s5_]; rfl) ?_
            refine pu_ 1 72 (tk_ 49 3) HT_.out rfl rfl (by kernel_rfl) (fun _ _ _ h => h) (by rfl) (fun w' => by go_simp; with_reducible rfl) (by simp only [s0_, s1_, s2_, s3_, s4_, s5_]; rfl) ?_
            refine ta_ 2 73 (tk_ 49 7) HT_.out HW_.out rfl rfl (by kernel_rfl) (fun _ _ _ h => h) (by rfl) (by rintro w' ⟨s0, s1, s2⟩; go_simp; with_reducible rfl) hHeld (by simp only [s0_, s1_, s2_, s3_, s4_, s5_]; rfl) ?_
            refine ta_ 5 76 (tk_ 49 39) HT_.out HW_.out rfl rfl (by kernel_rfl) (fun _ _ _ h => h) (by rfl) (by rintro w' ⟨s0, s1, s2⟩; go_simp; with_reducible rfl) hHeld (by simp only [s0_, s1_, s2_, s3_, s4_, s5_]; rfl) ?_
            refine one_ (i := 3) (N := some 74) (tk_ 49 47) rfl rfl (one_of HT_.out (by kernel_rfl)) (by decide) (fun K hK => ?_)
            refine goes_ Try.func16 (by kernel_rfl) rfl #[.agg #[.bool a0_0, .slice A0_1 l0_1.length c0_1, .int .i64 a0_2]] (by rfl) rfl rfl (by (try simp only [List.map_toArray, List.map_cons, List.map_nil]); first | done | rfl | (simp only [List.length_drop, List.length_take]; rfl)) ?_
            with_reducible refine (font_Check.calls kj4 a0_0 _ _ l0_1 a0_2 t197 _ ?side1 ?side2 A21.out).mono ?_
            (case side1 => repeat (first | exact (Kd.C_below HR0_1.out HB.out) | (with_reducible refine Kd.C_alloc ?_ _) | (with_reducible refine Kd.C_drewN ?_ _) | (with_reducible refine Kd.C_drew ?_)))
            (case side2 => exact HC0_1.out)
            rintro e w47 ⟨rfl, hb⟩
            refine ⟨_, rfl, ?_⟩
            have n0_ := Aside0.mk (Kd.R_below (by (with_reducible repeat (first | apply Kd.R_alloc | apply Kd.R_drewN | apply Kd.R_drew)); exact HO182.out) hb)
            have n1_ := Aside0.mk (Kd.R_below (by (with_reducible repeat (first | apply Kd.R_alloc | apply Kd.R_drewN | apply Kd.R_drew)); exact HO186.out) hb)
            have n2_ := Aside0.mk (blk_below (g := gb179) (o := .cells #[.bool a0_0, .slice A0_1 l0_1.length c0_1, .int .i64 a0_2] 24 (0, 0)) (by (with_reducible repeat (first | refine blk_drewN ?_ _ | refine blk_drew ?_ | refine blk_alloc ?_ _)); exact BK179.out) hb)
            have n3_ := Aside0.mk (below_step (by repeat (first | (with_reducible first | exact HB.out | apply below_alloc | apply pw_below_drewN | apply below_drew1 | refine below_set ?_ GE179.out) | exact HB.out)) hb)
            clear HO182
            clear HO186
            clear BK179
            clear HB
            have HO182 := n0_
            have HO186 := n1_
            have BK179 := n2_
            have HB := n3_
            clear n0_ n1_ n2_ n3_
            (try clear hb)
            (try clear hb2)
            (try clear hk)
            (try clear hi)
            refine hK.out _ _ ⟨(blk_cell BK179.out 0).trans rfl, (blk_cell BK179.out 1).trans rfl, (blk_cell BK179.out 2).trans rfl⟩ (fun hHeld => ?_)
            clear hK K
            refine norm_ (by show Act.put _ (some 74) _ = _; simp only [s0_, s1_, s2_, s3_, s4_, s5_]; rfl) ?_
            refine pu_ 4 75 (tk_ 49 63) HT_.out rfl rfl (by kernel_rfl) (fun _ _ _ h => h) (by rfl) (fun w' => by go_simp; with_reducible rfl) (by simp only [s0_, s1_, s2_, s3_, s4_, s5_]; rfl) ?_
            refine one_ (i := 6) (N := some 77) (tk_ 49 127) rfl rfl (one_of HT_.out (by kernel_rfl)) (by decide) (fun K hK => ?_)
            refine goes_ Try.func17 (by kernel_rfl) rfl #[.agg #[.bool a0_0, .slice A0_1 l0_1.length c0_1, .int .i64 a0_2]] (by rfl) rfl rfl (by (try simp only [List.map_toArray, List.map_cons, List.map_nil]); first | done | rfl | (simp only [List.length_drop, List.length_take]; rfl)) ?_
            with_reducible refine (erasureref19_Right.calls kj4 a0_0 _ _ l0_1 a0_2 t198 _ ?side1 ?side2 A22.out).mono ?_
            (case side1 => repeat (first | exact (Kd.C_below HR0_1.out HB.out) | (with_reducible refine Kd.C_alloc ?_ _) | (with_reducible refine Kd.C_drewN ?_ _) | (with_reducible refine Kd.C_drew ?_)))
            (case side2 => exact HC0_1.out)
            rintro e w48 ⟨rfl, hb⟩
            refine ⟨_, rfl, ?_⟩
            have n0_ := Aside0.mk (Kd.R_below (by (with_reducible repeat (first | apply Kd.R_alloc | apply Kd.R_drewN | apply Kd.R_drew)); exact HO182.out) hb)
            have n1_ := Aside0.mk (Kd.R_below (by (with_reducible repeat (first | apply Kd.R_alloc | apply Kd.R_drewN | apply Kd.R_drew)); exact HO186.out) hb)
            have n2_ := Aside0.mk (blk_below (g := gb179) (o := .cells #[.bool a0_0, .slice A0_1 l0_1.length c0_1, .int .i64 a0_2] 24 (0, 0)) (by (with_reducible repeat (first | refine blk_drewN ?_ _ | refine blk_drew ?_ | refine blk_alloc ?_ _)); exact BK179.out) hb)
            have n3_ := Aside0.mk (below_step (by repeat (first | (with_reducible first | exact HB.out | apply below_alloc | apply pw_below_drewN | apply below_drew1 | refine below_set ?_ GE179.out) | exact HB.out)) hb)
            clear HO182
            clear HO186
            clear BK179
            clear HB
            have HO182 := n0_
            have HO186 := n1_
            have BK179 := n2_
            have HB := n3_
            clear n0_ n1_ n2_ n3_
            (try clear hb)
            (try clear hb2)
            (try clear hk)
            (try clear hi)
            refine hK.out _ _ ⟨(blk_cell BK179.out 0).trans rfl, (blk_cell BK179.out 1).trans rfl, (blk_cell BK179.out 2).trans rfl⟩ (fun hHeld => ?_)
            clear hK K
            refine norm_ (by show Act.put _ (some 77) _ = _; simp only [s0_, s1_, s2_, s3_, s4_, s5_]; rfl) ?_
            refine pu_ 7 78 (tk_ 49 255) HT_.out rfl rfl (by kernel_rfl) (fun _ _ _ h => h) (by rfl) (fun w' => by go_simp; with_reducible rfl) (by simp only [s0_, s1_, s2_, s3_, s4_, s5_]; rfl) ?_
            refine pu_ 8 79 (tk_ 49 511) HT_.out rfl rfl (by kernel_rfl) (fun _ _ _ h => h) (by rfl) (fun w' => by go_simp; with_reducible rfl) (by simp only [s0_, s1_, s2_, s3_, s4_, s5_]; rfl) ?_
            refine pu_ 9 80 (tk_ 49 1023) HT_.out rfl rfl (by kernel_rfl) (fun _ _ _ h => h) (by rfl) (fun w' => by go_simp; with_reducible rfl) (by simp only [s0_, s1_, s2_, s3_, s4_, s5_]; rfl) ?_
            refine pu_ 11 82 (tk_ 49 3071) HT_.out rfl rfl (by kernel_rfl) (fun _ _ _ h => h) (by rfl) (fun w' => by go_simp; with_reducible rfl) (by simp only [s0_, s1_, s2_, s3_, s4_, s5_]; rfl) ?_
            refine pu_ 14 85 (tk_ 49 19455) HT_.out rfl rfl (by kernel_rfl) (fun _ _ _ h => h) (by rfl) (fun w' => by go_simp; with_reducible rfl) (by simp only [s0_, s1_, s2_, s3_, s4_, s5_]; rfl) ?_
            refine ta_ 10 81 (tk_ 49 20479) HT_.out HW_.out rfl rfl (by kernel_rfl) (fun _ _ _ h => h) (by rfl) (by rintro w' ⟨s0, s1, s2⟩; go_simp; with_reducible rfl) hHeld (by simp only [s0_, s1_, s2_, s3_, s4_, s5_]; rfl) ?_
            refine ta_ 13 84 (tk_ 49 28671) HT_.out HW_.out rfl rfl (by kernel_rfl) (fun _ _ _ h => h) (by rfl) (by rintro w' ⟨s0, s1, s2⟩; go_simp; with_reducible rfl) hHeld (by simp only [s0_, s1_, s2_, s3_, s4_, s5_]; rfl) ?_
            refine one_ (i := 12) (N := some 83) (tk_ 49 32767) rfl rfl (one_of HT_.out (by kernel_rfl)) (by decide) (fun K hK => ?_)
            refine goes_ Try.func18 (by kernel_rfl) rfl #[.agg #[.bool a0_0, .slice A0_1 l0_1.length c0_1, .int .i64 a0_2], .int .i64 a1] (by rfl) rfl rfl (by (try simp only [List.map_toArray, List.map_cons, List.map_nil]); first | done | rfl | (simp only [List.length_drop, List.length_take]; rfl)) ?_
            with_reducible refine (font_Find.calls a0_0 _ _ l0_1 a0_2 a1 t199 t200 t201 _ ?side1 ?side2 A24.out).mono ?_
            (case side1 => repeat (first | exact (Kd.C_below HR0_1.out HB.out) | (with_reducible refine Kd.C_alloc ?_ _) | (with_reducible refine Kd.C_drewN ?_ _) | (with_reducible refine Kd.C_drew ?_)))
            (case side2 => exact HC0_1.out)
            rintro e w49 ⟨rfl, hb⟩
            refine ⟨_, rfl, ?_⟩
            have n0_ := Aside0.mk (Kd.R_below (by (with_reducible repeat (first | apply Kd.R_alloc | apply Kd.R_drewN | apply Kd.R_drew)); exact HO182.out) hb)
            have n1_ := Aside0.mk (Kd.R_below (by (with_reducible repeat (first | apply Kd.R_alloc | apply Kd.R_drewN | apply Kd.R_drew)); exact HO186.out) hb)
            have n2_ := Aside0.mk (blk_below (g := gb179) (o := .cells #[.bool a0_0, .slice A0_1 l0_1.length c0_1, .int .i64 a0_2] 24 (0, 0)) (by (with_reducible repeat (first | refine blk_drewN ?_ _ | refine blk_drew ?_ | refine blk_alloc ?_ _)); exact BK179.out) hb)
            have n3_ := Aside0.mk (below_step (by repeat (first | (with_reducible first | exact HB.out | apply below_alloc | apply pw_below_drewN | apply below_drew1 | refine below_set ?_ GE179.out) | exact HB.out)) hb)
            clear HO182
            clear HO186
            clear BK179
            clear HB
            have HO182 := n0_
            have HO186 := n1_
            have BK179 := n2_
            have HB := n3_
            clear n0_ n1_ n2_ n3_
            (try clear hb)
            (try clear hb2)
            (try clear hk)
            (try clear hi)
            refine hK.out _ _ ⟨(blk_cell BK179.out 0).trans rfl, (blk_cell BK179.out 1).trans rfl, (blk_cell BK179.out 2).trans rfl⟩ (fun hHeld => ?_)
            clear hK K
            refine norm_ (by show Act.put _ (some 83) _ = _; simp only [s0_, s1_, s2_, s3_, s4_, s5_]; rfl) ?_
            refine one_ (i := 15) (N := some 86) (tk_ 49 65535) rfl rfl (one_of HT_.out (by kernel_rfl)) (by decide) (fun K hK => ?_)
            refine goes_ Try.func19 (by kernel_rfl) rfl #[.agg #[.bool a0_0, .slice A0_1 l0_1.length c0_1, .int .i64 a0_2], .int .i64 a1] (by rfl) rfl rfl (by (try simp only [List.map_toArray, List.map_cons, List.map_nil]); first | done | rfl | (simp only [List.length_drop, List.length_take]; rfl)) ?_
            with_reducible refine (erasureref19_Find.calls kj4 a0_0 _ _ l0_1 a0_2 a1 t202 t203 t204 _ ?side1 ?side2 A25.out).mono ?_
            (case side1 => repeat (first | exact (Kd.C_below HR0_1.out HB.out) | (with_reducible refine Kd.C_alloc ?_ _) | (with_reducible refine Kd.C_drewN ?_ _) | (with_reducible refine Kd.C_drew ?_)))
            (case side2 => exact HC0_1.out)
            rintro e w50 ⟨rfl, hb⟩
            refine ⟨_, rfl, ?_⟩
            have n0_ := Aside0.mk (Kd.R_below (by (with_reducible repeat (first | apply Kd.R_alloc | apply Kd.R_drewN | apply Kd.R_drew)); exact HO182.out) hb)
            have n1_ := Aside0.mk (Kd.R_below (by (with_reducible repeat (first | apply Kd.R_alloc | apply Kd.R_drewN | apply Kd.R_drew)); exact HO186.out) hb)
            have n2_ := Aside0.mk (blk_below (g := gb179) (o := .cells #[.bool a0_0, .slice A0_1 l0_1.length c0_1, .int .i64 a0_2] 24 (0, 0)) (by (with_reducible repeat (first | refine blk_drewN ?_ _ | refine blk_drew ?_ | refine blk_alloc ?_ _)); exact BK179.out) hb)
            have n3_ := Aside0.mk (below_step (by repeat (first | (with_reducible first | exact HB.out | apply below_alloc | apply pw_below_drewN | apply below_drew1 | refine below_set ?_ GE179.out) | exact HB.out)) hb)
            clear HO182
            clear HO186
            clear BK179
            clear HB
            have HO182 := n0_
            have HO186 := n1_
            have BK179 := n2_
            have HB := n3_
            clear n0_ n1_ n2_ n3_
            (try clear hb)
            (try clear hb2)
            (try clear hk)
            (try clear hi)
            obtain ⟨Ao51, co51, eo51⟩ := Kd.R_slice HO182.out
            (first | subst eo51 | (injection eo51 with f1_ f2_ f3_; have f4_ := f1_.symm; have f5_ := f3_.symm; clear f1_ f2_ f3_; subst f4_; subst f5_))
            obtain ⟨Ao52, co52, eo52⟩ := Kd.R_slice HO186.out
            (first | subst eo52 | (injection eo52 with f1_ f2_ f3_; have f4_ := f1_.symm; have f5_ := f3_.symm; clear f1_ f2_ f3_; subst f4_; subst f5_))
            refine hK.out _ _ ⟨(blk_cell BK179.out 0).trans rfl, (blk_cell BK179.out 1).trans rfl, (blk_cell BK179.out 2).trans rfl⟩ (fun hHeld => ?_)
            clear hK K
            refine norm_ (by show Act.put _ (some 86) _ = _; simp only [s0_, s1_, s2_, s3_, s4_, s5_]; rfl) ?_
            refine pu_ 16 87 (tk_ 49 131071) HT_.out rfl rfl (by kernel_rfl) (fun _ _ _ h => h) (by rfl) (fun w' => by go_simp; with_reducible rfl) (by simp only [s0_, s1_, s2_, s3_, s4_, s5_]; rfl) ?_
            refine pu_ 17 88 (tk_ 49 262143) HT_.out rfl rfl (by kernel_rfl) (fun _ _ _ h => h) (by rfl) (fun w' => by go_simp; with_reducible rfl) (by simp only [s0_, s1_, s2_, s3_, s4_, s5_]; rfl) ?_
            refine pu_ 18 89 (tk_ 49 524287) HT_.out rfl rfl (by kernel_rfl) (fun _ _ _ h => h) (by rfl) (fun w' => by go_simp; with_reducible rfl) (by simp only [s0_, s1_, s2_, s3_, s4_, s5_]; rfl) ?_
            refine pu_ 19 90 (tk_ 49 1048575) HT_.out rfl rfl (by kernel_rfl) (fun _ _ _ h => h) (by rfl) (fun w' => by go_simp; with_reducible rfl) (by simp only [s0_, s1_, s2_, s3_, s4_, s5_]; rfl) ?_
            refine pu_ 20 91 (tk_ 49 2097151) HT_.out rfl rfl (by kernel_rfl) (fun _ _ _ h => h) (by rfl) (fun w' => by go_simp; with_reducible rfl) (by simp only [s0_, s1_, s2_, s3_, s4_, s5_]; rfl) ?_
            refine one_ (i := 21) (N := some 92) (tk_ 49 4194303) rfl rfl (one_of HT_.out (by kernel_rfl)) (by decide) (fun K hK => ?_)
            refine goes_ Try.func11 (by kernel_rfl) rfl #[.slice Ao51 t180.length co51, .slice Ao52 t184.length co52] (by rfl) rfl rfl (by (try simp only [List.map_toArray, List.map_cons, List.map_nil]); first | done | rfl | (simp only [List.length_drop, List.length_take]; rfl)) ?_
            with_reducible refine (erasureref05_Ints.calls kj4 _ _ t180 _ _ t184 true _ ?side1 ?side2 ?side3 ?side4 A27.out).mono ?_
            (case side1 => repeat (first | exact (Kd.R_reads' HO182.out).2.2 | (with_reducible refine Kd.C_alloc ?_ _) | (with_reducible refine Kd.C_drewN ?_ _) | (with_reducible refine Kd.C_drew ?_)))
            (case side2 => exact (Kd.R_reads' HO182.out).2.1)
            (case side3 => repeat (first | exact (Kd.R_reads' HO186.out).2.2 | (with_reducible refine Kd.C_alloc ?_ _) | (with_reducible refine Kd.C_drewN ?_ _) | (with_reducible refine Kd.C_drew ?_)))
            (case side4 => exact (Kd.R_reads' HO186.out).2.1)
            rintro e w' ⟨rfl, ⟨nd, rfl⟩⟩
            refine ⟨_, rfl, ?_⟩
            refine hK.out _ _ ⟨(blk_cell BK179.out 0).trans rfl, (blk_cell BK179.out 1).trans rfl, (blk_cell BK179.out 2).trans rfl⟩ (fun hHeld => ?_)
            clear hK K
            refine norm_ (by show Act.put _ (some 92) _ = _; simp only [s0_, s1_, s2_, s3_, s4_, s5_]; rfl) ?_
            refine pu_ 22 93 (tk_ 49 8388607) HT_.out rfl rfl (by kernel_rfl) (fun _ _ _ h => h) (by rfl) (fun w' => by go_simp; with_reducible rfl) (by simp only [s0_, s1_, s2_, s3_, s4_, s5_]; rfl) ?_
            refine pu_ 23 94 (tk_ 49 16777215) HT_.out rfl rfl (by kernel_rfl) (fun _ _ _ h => h) (by rfl) (fun w' => by go_simp; with_reducible rfl) (by simp only [s0_, s1_, s2_, s3_, s4_, s5_]; rfl) ?_
            refine pu_ 24 95 (tk_ 49 33554431) HT_.out rfl rfl (by kernel_rfl) (fun _ _ _ h => h) (by rfl) (fun w' => by go_simp; with_reducible rfl) (by simp only [s0_, s1_, s2_, s3_, s4_, s5_]; rfl) ?_
            refine pu_ 25 96 (tk_ 49 67108863) HT_.out rfl rfl (by kernel_rfl) (fun _ _ _ h => h) (by rfl) (fun w' => by go_simp; with_reducible rfl) (by simp only [s0_, s1_, s2_, s3_, s4_, s5_]; rfl) ?_
            refine pu_ 26 97 (tk_ 49 134217727) HT_.out rfl rfl (by kernel_rfl) (fun _ _ _ h => h) (by rfl) (fun w' => by go_simp; with_reducible rfl) (by simp only [s0_, s1_, s2_, s3_, s4_, s5_]; rfl) ?_
            refine pu_ 27 98 (tk_ 49 268435455) HT_.out rfl rfl (by kernel_rfl) (fun _ _ _ h => h) (by rfl) (fun w' => by go_simp; with_reducible rfl) (by simp only [s0_, s1_, s2_, s3_, s4_, s5_]; rfl) ?_
            refine pu_ 28 99 (tk_ 49 536870911) HT_.out rfl rfl (by kernel_rfl) (fun _ _ _ h => h) (by rfl) (fun w' => by go_simp; with_reducible rfl) (by simp only [s0_, s1_, s2_, s3_, s4_, s5_]; rfl) ?_
            refine pu_ 29 100 (tk_ 49 1073741823) HT_.out rfl rfl (by kernel_rfl) (fun _ _ _ h => h) (by rfl) (fun w' => by go_simp; with_reducible rfl) (by simp only [s0_, s1_, s2_, s3_, s4_, s5_]; rfl) ?_
            refine pu_ 30 101 (tk_ 49 2147483647) HT_.out rfl rfl (by kernel_rfl) (fun _ _ _ h => h) (by rfl) (fun w' => by go_simp; with_reducible rfl) (by simp only [s0_, s1_, s2_, s3_, s4_, s5_]; rfl) ?_
            refine pu_ 31 102 (tk_ 49 4294967295) HT_.out rfl rfl (by kernel_rfl) (fun _ _ _ h => h) (by rfl) (fun w' => by go_simp; with_reducible rfl) (by simp only [s0_, s1_, s2_, s3_, s4_, s5_]; rfl) ?_
            refine pu_ 32 103 (tk_ 49 8589934591) HT_.out rfl rfl (by kernel_rfl) (fun _ _ _ h => h) (by rfl) (fun w' => by go_simp; with_reducible rfl) (by simp only [s0_, s1_, s2_, s3_, s4_, s5_]; rfl) ?_
            refine pu_ 33 104 (tk_ 49 17179869183) HT_.out rfl rfl (by kernel_rfl) (fun _ _ _ h => h) (by rfl) (fun w' => by go_simp; with_reducible rfl) (by simp only [s0_, s1_, s2_, s3_, s4_, s5_]; rfl) ?_
            refine pu_ 34 105 (tk_ 49 34359738367) HT_.out rfl rfl (by kernel_rfl) (fun _ _ _ h => h) (by rfl) (fun w' => by go_simp; with_reducible rfl) (by simp only [s0_, s1_, s2_, s3_, s4_, s5_]; rfl) ?_
            refine pu_ 35 106 (tk_ 49 68719476735) HT_.out rfl rfl (by kernel_rfl) (fun _ _ _ h => h) (by rfl) (fun w' => by go_simp; with_reducible rfl) (by simp only [s0_, s1_, s2_, s3_, s4_, s5_]; rfl) ?_
            refine pu_ 36 107 (tk_ 49 137438953471) HT_.out rfl rfl (by kernel_rfl) (fun _ _ _ h => h) (by rfl) (fun w' => by go_simp; with_reducible rfl) (by simp only [s0_, s1_, s2_, s3_, s4_, s5_]; rfl) ?_
            refine pu_ 37 108 (tk_ 49 274877906943) HT_.out rfl rfl (by kernel_rfl) (fun _ _ _ h => h) (by rfl) (fun w' => by go_simp; with_reducible rfl) (by simp only [s0_, s1_, s2_, s3_, s4_, s5_]; rfl) ?_
            refine pu_ 38 109 (tk_ 49 549755813887) HT_.out rfl rfl (by kernel_rfl) (fun _ _ _ h => h) (by rfl) (fun w' => by go_simp; with_reducible rfl) (by simp only [s0_, s1_, s2_, s3_, s4_, s5_]; rfl) ?_
            refine pu_ 39 110 (tk_ 49 1099511627775) HT_.out rfl rfl (by kernel_rfl) (fun _ _ _ h => h) (by rfl) (fun w' => by go_simp; with_reducible rfl) (by simp only [s0_, s1_, s2_, s3_, s4_, s5_]; rfl) ?_
            refine pu_ 40 111 (tk_ 49 2199023255551) HT_.out rfl rfl (by kernel_rfl) (fun _ _ _ h => h) (by rfl) (fun w' => by go_simp; with_reducible rfl) (by simp only [s0_, s1_, s2_, s3_, s4_, s5_]; rfl) ?_
            refine pu_ 41 112 (tk_ 49 4398046511103) HT_.out rfl rfl (by kernel_rfl) (fun _ _ _ h => h) (by rfl) (fun w' => by go_simp; with_reducible rfl) (by simp only [s0_, s1_, s2_, s3_, s4_, s5_]; rfl) ?_
            refine pu_ 42 113 (tk_ 49 8796093022207) HT_.out rfl rfl (by kernel_rfl) (fun _ _ _ h => h) (by rfl) (fun w' => by go_simp; with_reducible rfl) (by simp only [s0_, s1_, s2_, s3_, s4_, s5_]; rfl) ?_
            refine pu_ 43 114 (tk_ 49 17592186044415) HT_.out rfl rfl (by kernel_rfl) (fun _ _ _ h => h) (by rfl) (fun w' => by go_simp; with_reducible rfl) (by simp only [s0_, s1_, s2_, s3_, s4_, s5_]; rfl) ?_
            refine pu_ 44 115 (tk_ 49 35184372088831) HT_.out rfl rfl (by kernel_rfl) (fun _ _ _ h => h) (by rfl) (fun w' => by go_simp; with_reducible rfl) (by simp only [s0_, s1_, s2_, s3_, s4_, s5_]; rfl) ?_
            refine pu_ 45 116 (tk_ 49 70368744177663) HT_.out rfl rfl (by kernel_rfl) (fun _ _ _ h => h) (by rfl) (fun w' => by go_simp; with_reducible rfl) (by simp only [s0_, s1_, s2_, s3_, s4_, s5_]; rfl) ?_
            refine pu_ 46 117 (tk_ 49 140737488355327) HT_.out rfl rfl (by kernel_rfl) (fun _ _ _ h => h) (by rfl) (fun w' => by go_simp; with_reducible rfl) (by simp only [s0_, s1_, s2_, s3_, s4_, s5_]; rfl) ?_
            refine pu_ 47 118 (tk_ 49 281474976710655) HT_.out rfl rfl (by kernel_rfl) (fun _ _ _ h => h) (by rfl) (fun w' => by go_simp; with_reducible rfl) (by simp only [s0_, s1_, s2_, s3_, s4_, s5_]; rfl) ?_
            refine pu_ 48 8 (tk_ 49 562949953421311) HT_.out rfl rfl (by kernel_rfl) (fun _ _ _ h => h) (by rfl) (fun w' => by go_simp; with_reducible rfl) (by simp only [s0_, s1_, s2_, s3_, s4_, s5_]; rfl) ?_
            refine done_ (done_of HT_.out (by kernel_rfl)) ?_
            try go_wp2
            go_ret
            exact ⟨by first | rfl | (simp [errW_none, errW_some] <;> rfl) | (simp [*, errW_none, errW_some] <;> rfl), by repeat (first | (with_reducible first | exact HB.out | apply below_alloc | apply pw_below_drewN | apply below_drew1 | refine below_set ?_ GE179.out) | exact HB.out)⟩
           ·rw [if_neg c32] at H
            exact absurd H (by simp)
          ·rw [if_neg c31] at H
           exact absurd H (by simp)
         ·rw [if_neg c30] at H
          exact absurd H (by simp)
        ·rw [if_neg c29] at H
         exact absurd H (by simp)
       ·replace c28 := Bool.eq_false_iff.mpr c28
        subst c28
        have H1 : (none : Option Bool) = some r := by rw [if_neg (show ¬ (false = true) by decide)] at H; exact H
        clear H
        have H := H1
        clear H1
        exact absurd H (by simp)
      ·rw [if_neg c26] at H
       exact absurd H (by simp)
     ·rw [if_neg c23] at H
      exact absurd H (by simp)
    ·replace c20 := Bool.eq_false_iff.mpr c20
     subst c20
     have H1 : (none : Option Bool) = some r := by rw [if_neg (show ¬ (false = true) by decide)] at H; exact H
     clear H
     have H := H1
     clear H1
     exact absurd H (by simp)
end Go.Proofs.Ytjhpcfpccnfniaa.T
