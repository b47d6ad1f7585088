-- written by my own driver of the kit's print (wip/tools/myprint.py); Lean checks it.
import Derived.Test.YtjhpcfpccnfniaaC0
import Derived.Test.YtjhpcfpccnfniaaA1
import Derived.Test.YtjhpcfpccnfniaaA11
import Derived.Test.YtjhpcfpccnfniaaA3
import Derived.Test.YtjhpcfpccnfniaaF1
import Derived.Test.YtjhpcfpccnfniaaH11
import Derived.Test.YtjhpcfpccnfniaaH8
namespace Go.Proofs.Ytjhpcfpccnfniaa.C
open Go.RowKit Go.Proofs.YtjhpcfpccnfniaaW.PrintWords Go.Proofs.YtjhpcfpccnfniaaW.PrintLast Go.Proofs.YtjhpcfpccnfniaaW.PrintMore Go.Proofs.Ytjhpcfpccnfniaa.A Go.Proofs.Ytjhpcfpccnfniaa.F
attribute [local go_sem] max2_int min2_int max_two min_two max_three min_three max_four min_four   -- for this text's walks alone
set_option linter.unusedVariables false
set_option linter.unusedSimpArgs false
attribute [local go_sem high] eqA37
mutual
def erasurelaw19_FontKeeps.j0 : Nat → List Int → Int → Bool → Bool → List (S37) → Int → Option (Bool)
 | 0, _, _, _, _, _, _ => none
 | k + 1, x1, x2, x26, x193000, x193001, x193002 => if x26 = true then (some true) else ((font_Cut.f k x193000 x193001 x193002 x1).bind fun bt193 => (if bt193.2.2.2 = 0 then ((font_Cut.f k bt193.1 bt193.2.1 bt193.2.2.1 x1).bind fun bt202 => (erasurelaw19_FontKeeps.l0 k x1 x2 bt202.2.2.2 ([] : List Int) false (wrap64 ((x1.length : Int) - 1)) x193000 x193001 x193002 bt193.1 bt193.2.1 bt193.2.2.1 bt202.1 bt202.2.1 bt202.2.2.1)) else ((erasurelaw19_awake.f).bind fun t200 => (if t200 = true then ((font_Check.f k x193000 x193001 x193002).bind fun t201 => (some (bt193.2.2.2 == t201))) else (some false)))))
def erasurelaw19_FontKeeps.l0 : Nat → List Int → Int → Int → List Int → Bool → Int → Bool → List (S37) → Int → Bool → List (S37) → Int → Bool → List (S37) → Int → Option (Bool)
 | 0, _, _, _, _, _, _, _, _, _, _, _, _, _, _, _ => none
 | k + 1, x1, x2, x10, x11, x12, x13, x193000, x193001, x193002, x200000, x200001, x200002, x209000, x209001, x209002 => if x13 ≥ 0 then (if 0 ≤ x13 then (if x13 < (x1.length : Int) then (if x11.length < 17592186044416 then ((some (x11 ++ [rd x1 x13] : List Int)).bind fun y210 => (if x12 = true then (erasurelaw19_FontKeeps.l0 k x1 x2 x10 y210 true (wrap64 (x13 - 1)) x193000 x193001 x193002 x200000 x200001 x200002 x209000 x209001 x209002) else (erasurelaw19_FontKeeps.l0 k x1 x2 x10 y210 ((rd x1 x13) == x2) (wrap64 (x13 - 1)) x193000 x193001 x193002 x200000 x200001 x200002 x209000 x209001 x209002))) else (none)) else (none)) else (none)) else ((font_Cut.f k x193000 x193001 x193002 x11).bind fun bt214 => (if x193000 = true then (erasurelaw19_FontKeeps.j2 k x2 x10 x12 bt214.2.2.2 65535 x193000 x193001 x193002 x200000 x200001 x200002 x209000 x209001 x209002 bt214.1 bt214.2.1 bt214.2.2.1) else (erasurelaw19_FontKeeps.j2 k x2 x10 x12 bt214.2.2.2 255 x193000 x193001 x193002 x200000 x200001 x200002 x209000 x209001 x209002 bt214.1 bt214.2.1 bt214.2.2.1)))
def erasurelaw19_FontKeeps.j2 : Nat → Int → Int → Bool → Int → Int → Bool → List (S37) → Int → Bool → List (S37) → Int → Bool → List (S37) → Int → Bool → List (S37) → Int → Option (Bool)
 | 0, _, _, _, _, _, _, _, _, _, _, _, _, _, _, _, _, _ => none
 | k + 1, x2, x10, x12, x15, x16, x193000, x193001, x193002, x200000, x200001, x200002, x209000, x209001, x209002, x221000, x221001, x221002 => (font_Find.f x200000 x200001 x200002 x2).bind fun bt221 => (if x12 = true then (if x2 ≥ 0 then (if x2 ≤ x16 then ((font_Find.f x193000 x193001 x193002 x2).bind fun bt225 => (if (!(bt221.1 == bt225.1) || (!(bt221.2.1 == bt225.2.1) || (!(bt221.2.2.toList == bt225.2.2.toList)))) = true then (erasurelaw19_FontKeeps.j3 k x10 x15 true x200000 x200001 x200002 x209000 x209001 x209002 x221000 x221001 x221002) else (erasurelaw19_FontKeeps.j3 k x10 x15 false x200000 x200001 x200002 x209000 x209001 x209002 x221000 x221001 x221002))) else (erasurelaw19_FontKeeps.j3 k x10 x15 false x200000 x200001 x200002 x209000 x209001 x209002 x221000 x221001 x221002)) else (erasurelaw19_FontKeeps.j3 k x10 x15 false x200000 x200001 x200002 x209000 x209001 x209002 x221000 x221001 x221002)) else (if bt221.2.1 = 0 then (erasurelaw19_FontKeeps.j3 k x10 x15 (bt221.2.2.toList != ([] : List UInt8)) x200000 x200001 x200002 x209000 x209001 x209002 x221000 x221001 x221002) else (erasurelaw19_FontKeeps.j3 k x10 x15 true x200000 x200001 x200002 x209000 x209001 x209002 x221000 x221001 x221002)))
def erasurelaw19_FontKeeps.j3 : Nat → Int → Int → Bool → Bool → List (S37) → Int → Bool → List (S37) → Int → Bool → List (S37) → Int → Option (Bool)
 | 0, _, _, _, _, _, _, _, _, _, _, _, _ => none
 | k + 1, x10, x15, x112, x200000, x200001, x200002, x209000, x209001, x209002, x221000, x221001, x221002 => if x112 = true then (some false) else ((erasurelaw19_awake.f).bind fun t228 => (if t228 = true then (if x10 = 0 then (if x15 = 0 then ((erasureref19_Same.f k x200000 x200001 x200002 x209000 x209001 x209002).bind fun t229 => (if t229 = true then ((erasureref19_Same.f k x200000 x200001 x200002 x221000 x221001 x221002).bind fun t230 => (if t230 = true then ((font_Check.f k x200000 x200001 x200002).bind fun t231 => (some (t231 == 0))) else (some false))) else (some false))) else (some false)) else (some false)) else (some false)))
end
def erasurelaw19_FontKeeps.f (k : Nat) (a0_0 : Bool) (l0_1 : List (S37)) (a0_2 : Int) (l1 : List Int) (a2 : Int) : Option (Bool) := if (l0_1.length : Int) > 150 then (erasurelaw19_FontKeeps.j0 k l1 a2 true a0_0 l0_1 a0_2) else (erasurelaw19_FontKeeps.j0 k l1 a2 (decide ((l1.length : Int) > 100)) a0_0 l0_1 a0_2)
theorem erasurelaw19_FontKeeps.mono_l : ∀ k, (∀ y0 y1 y2 y3 y4 y5, LeO (erasurelaw19_FontKeeps.j0 k y0 y1 y2 y3 y4 y5) (erasurelaw19_FontKeeps.j0 (k + 1) y0 y1 y2 y3 y4 y5)) ∧ (∀ y0 y1 y2 y3 y4 y5 y6 y7 y8 y9 y10 y11 y12 y13 y14, LeO (erasurelaw19_FontKeeps.l0 k y0 y1 y2 y3 y4 y5 y6 y7 y8 y9 y10 y11 y12 y13 y14) (erasurelaw19_FontKeeps.l0 (k + 1) y0 y1 y2 y3 y4 y5 y6 y7 y8 y9 y10 y11 y12 y13 y14)) ∧ (∀ y0 y1 y2 y3 y4 y5 y6 y7 y8 y9 y10 y11 y12 y13 y14 y15 y16, LeO (erasurelaw19_FontKeeps.j2 k y0 y1 y2 y3 y4 y5 y6 y7 y8 y9 y10 y11 y12 y13 y14 y15 y16) (erasurelaw19_FontKeeps.j2 (k + 1) y0 y1 y2 y3 y4 y5 y6 y7 y8 y9 y10 y11 y12 y13 y14 y15 y16)) ∧ (∀ y0 y1 y2 y3 y4 y5 y6 y7 y8 y9 y10 y11, LeO (erasurelaw19_FontKeeps.j3 k y0 y1 y2 y3 y4 y5 y6 y7 y8 y9 y10 y11) (erasurelaw19_FontKeeps.j3 (k + 1) y0 y1 y2 y3 y4 y5 y6 y7 y8 y9 y10 y11))
 | 0 => ⟨fun _ _ _ _ _ _ r h => by simp [erasurelaw19_FontKeeps.j0] at h, fun _ _ _ _ _ _ _ _ _ _ _ _ _ _ _ r h => by simp [erasurelaw19_FontKeeps.l0] at h, fun _ _ _ _ _ _ _ _ _ _ _ _ _ _ _ _ _ r h => by simp [erasurelaw19_FontKeeps.j2] at h, fun _ _ _ _ _ _ _ _ _ _ _ _ r h => by simp [erasurelaw19_FontKeeps.j3] at h⟩
 | k + 1 => by
  obtain ⟨ih0, ih1, ih2, ih3⟩ := erasurelaw19_FontKeeps.mono_l k
  refine ⟨?_, ?_, ?_, ?_⟩
  ·intro y0 y1 y2 y3 y4 y5
   unfold erasurelaw19_FontKeeps.j0
   repeat' first
   | (with_reducible exact ih0 _ _ _ _ _ _)
   | (with_reducible exact ih1 _ _ _ _ _ _ _ _ _ _ _ _ _ _ _)
   | (with_reducible exact ih2 _ _ _ _ _ _ _ _ _ _ _ _ _ _ _ _ _)
   | (with_reducible exact ih3 _ _ _ _ _ _ _ _ _ _ _ _)
   | (with_reducible exact erasureref19_Same.mono _ _ _ _ _ _ _)
   | (with_reducible exact font_Check.mono _ _ _ _)
   | (with_reducible exact font_Cut.mono _ _ _ _ _)
   | (with_reducible exact LeO.refl _)
   | (with_reducible exact LeO.none _)
   | (with_reducible refine LeO.ite ?_ ?_)
   | (with_reducible refine LeO.bind ?_ (fun _ => ?_))
   | exact ih0 _ _ _ _ _ _
   | exact ih1 _ _ _ _ _ _ _ _ _ _ _ _ _ _ _
   | exact ih2 _ _ _ _ _ _ _ _ _ _ _ _ _ _ _ _ _
   | exact ih3 _ _ _ _ _ _ _ _ _ _ _ _
   | exact erasureref19_Same.mono _ _ _ _ _ _ _
   | exact font_Check.mono _ _ _ _
   | exact font_Cut.mono _ _ _ _ _
   | exact LeO.none _
   | refine LeO.ite ?_ ?_
   | refine LeO.bind ?_ (fun _ => ?_)
  ·intro y0 y1 y2 y3 y4 y5 y6 y7 y8 y9 y10 y11 y12 y13 y14
   unfold erasurelaw19_FontKeeps.l0
   repeat' first
   | (with_reducible exact ih0 _ _ _ _ _ _)
   | (with_reducible exact ih1 _ _ _ _ _ _ _ _ _ _ _ _ _ _ _)
   | (with_reducible exact ih2 _ _ _ _ _ _ _ _ _ _ _ _ _ _ _ _ _)
   | (with_reducible exact ih3 _ _ _ _ _ _ _ _ _ _ _ _)
   | (with_reducible exact erasureref19_Same.mono _ _ _ _ _ _ _)
   | (with_reducible exact font_Check.mono _ _ _ _)
   | (with_reducible exact font_Cut.mono _ _ _ _ _)
   | (with_reducible exact LeO.refl _)
   | (with_reducible exact LeO.none _)
   | (with_reducible refine LeO.ite ?_ ?_)
   | (with_reducible refine LeO.bind ?_ (fun _ => ?_))
   | exact ih0 _ _ _ _ _ _
   | exact ih1 _ _ _ _ _ _ _ _ _ _ _ _ _ _ _
   | exact ih2 _ _ _ _ _ _ _ _ _ _ _ _ _ _ _ _ _
   | exact ih3 _ _ _ _ _ _ _ _ _ _ _ _
   | exact erasureref19_Same.mono _ _ _ _ _ _ _
   | exact font_Check.mono _ _ _ _
   | exact font_Cut.mono _ _ _ _ _
   | exact LeO.none _
   | refine LeO.ite ?_ ?_
   | refine LeO.bind ?_ (fun _ => ?_)
  ·intro y0 y1 y2 y3 y4 y5 y6 y7 y8 y9 y10 y11 y12 y13 y14 y15 y16
   unfold erasurelaw19_FontKeeps.j2
   repeat' first
   | (with_reducible exact ih0 _ _ _ _ _ _)
   | (with_reducible exact ih1 _ _ _ _ _ _ _ _ _ _ _ _ _ _ _)
   | (with_reducible exact ih2 _ _ _ _ _ _ _ _ _ _ _ _ _ _ _ _ _)
   | (with_reducible exact ih3 _ _ _ _ _ _ _ _ _ _ _ _)
   | (with_reducible exact erasureref19_Same.mono _ _ _ _ _ _ _)
   | (with_reducible exact font_Check.mono _ _ _ _)
   | (with_reducible exact font_Cut.mono _ _ _ _ _)
   | (with_reducible exact LeO.refl _)
   | (with_reducible exact LeO.none _)
   | (with_reducible refine LeO.ite ?_ ?_)
   | (with_reducible refine LeO.bind ?_ (fun _ => ?_))
   | exact ih0 _ _ _ _ _ _
   | exact ih1 _ _ _ _ _ _ _ _ _ _ _ _ _ _ _
   | exact ih2 _ _ _ _ _ _ _ _ _ _ _ _ _ _ _ _ _
   | exact ih3 _ _ _ _ _ _ _ _ _ _ _ _
   | exact erasureref19_Same.mono _ _ _ _ _ _ _
   | exact font_Check.mono _ _ _ _
   | exact font_Cut.mono _ _ _ _ _
   | exact LeO.none _
   | refine LeO.ite ?_ ?_
   | refine LeO.bind ?_ (fun _ => ?_)
  ·intro y0 y1 y2 y3 y4 y5 y6 y7 y8 y9 y10 y11
   unfold erasurelaw19_FontKeeps.j3
   repeat' first
   | (with_reducible exact ih0 _ _ _ _ _ _)
   | (with_reducible exact ih1 _ _ _ _ _ _ _ _ _ _ _ _ _ _ _)
   | (with_reducible exact ih2 _ _ _ _ _ _ _ _ _ _ _ _ _ _ _ _ _)
   | (with_reducible exact ih3 _ _ _ _ _ _ _ _ _ _ _ _)
   | (with_reducible exact erasureref19_Same.mono _ _ _ _ _ _ _)
   | (with_reducible exact font_Check.mono _ _ _ _)
   | (with_reducible exact font_Cut.mono _ _ _ _ _)
   | (with_reducible exact LeO.refl _)
   | (with_reducible exact LeO.none _)
   | (with_reducible refine LeO.ite ?_ ?_)
   | (with_reducible refine LeO.bind ?_ (fun _ => ?_))
   | exact ih0 _ _ _ _ _ _
   | exact ih1 _ _ _ _ _ _ _ _ _ _ _ _ _ _ _
   | exact ih2 _ _ _ _ _ _ _ _ _ _ _ _ _ _ _ _ _
   | exact ih3 _ _ _ _ _ _ _ _ _ _ _ _
   | exact erasureref19_Same.mono _ _ _ _ _ _ _
   | exact font_Check.mono _ _ _ _
   | exact font_Cut.mono _ _ _ _ _
   | exact LeO.none _
   | refine LeO.ite ?_ ?_
   | refine LeO.bind ?_ (fun _ => ?_)
theorem erasurelaw19_FontKeeps.mono : ∀ a0 a1 a2 a3 a4 k, LeO (erasurelaw19_FontKeeps.f k a0 a1 a2 a3 a4) (erasurelaw19_FontKeeps.f (k + 1) a0 a1 a2 a3 a4) := by
 intro a0 a1 a2 a3 a4 k
 obtain ⟨ih0, ih1, ih2, ih3⟩ := erasurelaw19_FontKeeps.mono_l k
 unfold erasurelaw19_FontKeeps.f
 repeat' first
   | (with_reducible exact ih0 _ _ _ _ _ _)
   | (with_reducible exact ih1 _ _ _ _ _ _ _ _ _ _ _ _ _ _ _)
   | (with_reducible exact ih2 _ _ _ _ _ _ _ _ _ _ _ _ _ _ _ _ _)
   | (with_reducible exact ih3 _ _ _ _ _ _ _ _ _ _ _ _)
   | (with_reducible exact erasureref19_Same.mono _ _ _ _ _ _ _)
   | (with_reducible exact font_Check.mono _ _ _ _)
   | (with_reducible exact font_Cut.mono _ _ _ _ _)
   | (with_reducible exact LeO.refl _)
   | (with_reducible exact LeO.none _)
   | (with_reducible refine LeO.ite ?_ ?_)
   | (with_reducible refine LeO.bind ?_ (fun _ => ?_))
   | exact ih0 _ _ _ _ _ _
   | exact ih1 _ _ _ _ _ _ _ _ _ _ _ _ _ _ _
   | exact ih2 _ _ _ _ _ _ _ _ _ _ _ _ _ _ _ _ _
   | exact ih3 _ _ _ _ _ _ _ _ _ _ _ _
   | exact erasureref19_Same.mono _ _ _ _ _ _ _
   | exact font_Check.mono _ _ _ _
   | exact font_Cut.mono _ _ _ _ _
   | exact LeO.none _
   | refine LeO.ite ?_ ?_
   | refine LeO.bind ?_ (fun _ => ?_)
def erasurelaw19_FontKeeps.T19 : Bool × List (List Nat × List Nat) := (true, [([], []), ([0], [0]), ([1], [1]), ([2, 1], [1, 2]), ([1, 3], [1, 3]), ([4, 1], [4]), ([5], [5]), ([5], [5]), ([6, 7, 5], [5, 6, 7]), ([5, 8], [5, 8]), ([9, 5], [9]), ([10], [10]), ([10], [10]), ([10], [10]), ([12, 13, 10, 10], [10, 12, 13]), ([11, 14, 10], [10, 11, 14]), ([10, 15], [10, 15]), ([16, 14], [16]), ([17], [17]), ([18, 17], [17, 18]), ([19, 17, 17], [17, 19]), ([20], [20]), ([21, 20], [20, 21]), ([22, 20], [20, 22]), ([23, 20, 20], [20, 23]), ([24], [24]), ([25, 24], [24, 25]), ([26, 24], [24, 26]), ([24, 27, 20], [20, 24, 27]), ([20, 28, 17], [17, 20, 28]), ([17, 29], [17, 29])])
def erasurelaw19_FontKeeps.B19 : List Nat := [0, 1, 3, 7, 15, 31, 63, 63, 255, 511, 1023, 2047, 2047, 2047, 14335, 32767, 65535, 131071, 262143, 524287, 1048575, 2097151, 4194303, 8388607, 16777215, 33554431, 67108863, 134217727, 268435455, 536870911, 1073741823]
theorem erasurelaw19_FontKeeps.tab19 : rtab .any (opsOf Try.f6 19) = erasurelaw19_FontKeeps.T19 := by kernel_rfl
theorem erasurelaw19_FontKeeps.bits19 : waitsOk erasurelaw19_FontKeeps.T19.2 erasurelaw19_FontKeeps.B19 = true := by kernel_rfl
set_option maxHeartbeats 8000000 in
set_option maxRecDepth 100000 in
theorem erasurelaw19_FontKeeps.calls (k : Nat) (a0_0 : Bool) (A0_1 : Option Addr) (c0_1 : Nat) (l0_1 : List (S37)) (a0_2 : Int) (A1 : Option Addr) (c1 : Nat) (l1 : List Int) (a2 : Int) (r : Bool) (w : World) (hr0_1 : Kd.C k37 w A0_1 l0_1.length l0_1) (hc0_1 : l0_1.length ≤ c0_1) (hr1 : Kd.C (Kd.int .i64) w A1 l1.length l1) (hc1 : l1.length ≤ c1) (h : erasurelaw19_FontKeeps.f k a0_0 l0_1 a0_2 l1 a2 = some r) :
  Calls Try.prog 6 #[.agg #[.bool a0_0, .slice A0_1 l0_1.length c0_1, .int .i64 a0_2], .slice A1 l1.length c1, .int .i64 a2] w fun e w' => e = .returned (.bool r) ∧ Below w.heap.size w w' := by
 have hu24 := Try.underlying24
 have hu37 := Try.underlying37
 have HR0_1 := Aside0.mk hr0_1
 have HC0_1 := Aside0.mk hc0_1
 clear hr0_1 hc0_1
 have HR1 := Aside0.mk hr1
 have HC1 := Aside0.mk hc1
 clear hr1 hc1
 have HB := Aside0.mk (Below.refl w.heap.size w)
 have H : (if (l0_1.length : Int) > 150 then (erasurelaw19_FontKeeps.j0 k l1 a2 true a0_0 l0_1 a0_2) else (erasurelaw19_FontKeeps.j0 k l1 a2 (decide ((l1.length : Int) > 100)) a0_0 l0_1 a0_2)) = some r := h
 clear h
 have HC4 := Aside0.mk H
 clear H
 go_enter Try.func6, Try.ntmps6
 go_upto_region 1 with (first | ((with_reducible refine gate_dst (N := 3) rfl ?_); (try (refine gate_guard (by rfl) ?_; dsimp only)); refine box_event ?hg (N := 3) ?hd (cs := #[.bool a0_0, .slice A0_1 l0_1.length c0_1, .int .i64 a0_2]) (t := 24) ?hr ?_; (case hd => rfl); (case hg => rfl); (case hr => first | (go_simp; done) | (go_simp; rfl)); intro gb192 hg w5 hbox hb; have n0_ := Aside0.mk (below_step (by repeat (first | (with_reducible first | exact HB.out | apply below_alloc | apply pw_below_drewN | apply below_drew1) | exact HB.out)) hb); have n1_ := Aside0.mk (hbox); have n2_ := Aside0.mk ((by rw [hg]; exact (below_size (by repeat (first | (with_reducible first | exact HB.out | apply below_alloc | apply pw_below_drewN | apply below_drew1) | exact HB.out))) : w.heap.size ≤ gb192)); have n3_ := Aside0.mk ((by rw [hg]; exact (below_size (by repeat (first | (with_reducible first | exact HB.out | apply below_alloc | apply pw_below_drewN | apply below_drew1) | exact HB.out))) : w.heap.size ≤ gb192)); clear HB; have HB := n0_; have BK192 := n1_; have GW192 := n2_; have GE192 := n3_; clear n0_ n1_ n2_ n3_; clear hb hbox hg))
 (try simp only [Act.put, List.setIfInBounds_toArray, List.set_cons_zero, List.set_cons_succ])
 go_cut [26] (fun v26 wc => ∃ (kq : Nat) (x26_3 : Bool), v26 = .bool x26_3 ∧ Aside0 (erasurelaw19_FontKeeps.j0 kq l1 a2 x26_3 a0_0 l0_1 a0_2 = some r) ∧ Aside0 (kq ≤ k) ∧ Aside0 (wc.heap[gb192]? = some (.cells #[.bool a0_0, (.slice A0_1 l0_1.length c0_1), .int .i64 a0_2] 24 (0, 0))) ∧ Aside0 (Below w.heap.size w wc))
 case first =>
  have H := HC4.out
  clear HC4
  by_cases c6 : (l0_1.length : Int) > 150
  ·rw [if_pos c6] at H
   have c6b0 : decide (150 < (l0_1.length : Int)) = true := decide_eq_true c6
   have c6b1 : decide (150 < l0_1.length) = true := decide_eq_true (by omega)
   clear c6
   (first | rw [c6b0] | (simp only [i64_w, i32_w]; rw [c6b0]) | skip)
   have H' := Aside0.mk H
   clear H
   have hcz7_0 : w5.cell? ⟨gb192, 0, none⟩ = some (.bool a0_0) := (blk_cell BK192.out 0).trans rfl
   have hcz7_1 : w5.cell? ⟨gb192, 1, none⟩ = some (.slice A0_1 l0_1.length c0_1) := (blk_cell BK192.out 1).trans rfl
   have hcz7_2 : w5.cell? ⟨gb192, 2, none⟩ = some (.int .i64 a0_2) := (blk_cell BK192.out 2).trans rfl
   have hfz7_0 := blk_frozen BK192.out 0
   have hfz7_1 := blk_frozen BK192.out 1
   have hfz7_2 := blk_frozen BK192.out 2
   go_wp2
   go_meet
   case rel => exact ⟨_, (true), (by first | rfl | (simp; done) | (simp [*]; done) | (simp; generalize ByteArray.toList _ = l_; cases l_ <;> rfl)), H', ⟨by first | omega | exact Nat.le_refl _⟩, ⟨by (with_reducible repeat (first | refine blk_drewN ?_ _ | refine blk_drew ?_ | refine blk_alloc ?_ _)); exact BK192.out⟩, ⟨by repeat (first | (with_reducible first | exact HB.out | apply below_alloc | apply pw_below_drewN | apply below_drew1 | refine below_set ?_ GE192.out) | exact HB.out)⟩⟩
  ·rw [if_neg c6] at H
   have c6b0 : decide (150 < (l0_1.length : Int)) = false := decide_eq_false c6
   have c6b1 : decide (150 < l0_1.length) = false := decide_eq_false (by omega)
   clear c6
   (first | rw [c6b0] | (simp only [i64_w, i32_w]; rw [c6b0]) | skip)
   have H' := Aside0.mk H
   clear H
   have hcz8_0 : w5.cell? ⟨gb192, 0, none⟩ = some (.bool a0_0) := (blk_cell BK192.out 0).trans rfl
   have hcz8_1 : w5.cell? ⟨gb192, 1, none⟩ = some (.slice A0_1 l0_1.length c0_1) := (blk_cell BK192.out 1).trans rfl
   have hcz8_2 : w5.cell? ⟨gb192, 2, none⟩ = some (.int .i64 a0_2) := (blk_cell BK192.out 2).trans rfl
   have hfz8_0 := blk_frozen BK192.out 0
   have hfz8_1 := blk_frozen BK192.out 1
   have hfz8_2 := blk_frozen BK192.out 2
   go_wp2
   go_meet
   case rel => exact ⟨_, (decide ((l1.length : Int) > 100)), (by first | rfl | (simp; done) | (simp [*]; done) | (simp; generalize ByteArray.toList _ = l_; cases l_ <;> rfl)), H', ⟨by first | omega | exact Nat.le_refl _⟩, ⟨by (with_reducible repeat (first | refine blk_drewN ?_ _ | refine blk_drew ?_ | refine blk_alloc ?_ _)); exact BK192.out⟩, ⟨by repeat (first | (with_reducible first | exact HB.out | apply below_alloc | apply pw_below_drewN | apply below_drew1 | refine below_set ?_ GE192.out) | exact HB.out)⟩⟩
 case rest =>
  clear HC4
  try clear c1
  try clear p2
  try clear c6
  try clear c6b0
  try clear c6b1
  try clear hcz7_0
  try clear hcz7_1
  try clear hcz7_2
  try clear hcz8_0
  try clear hcz8_1
  try clear hcz8_2
  try clear hfz7_0
  try clear hfz7_1
  try clear hfz7_2
  try clear hfz8_0
  try clear hfz8_1
  try clear hfz8_2
  obtain ⟨kq, x26_3, rfl, HA, HJ3, BK192, HB⟩ := hcut
  cases kq with
  | zero => exact absurd HA.out (by simp [erasurelaw19_FontKeeps.j0])
  | succ kj3 =>
   have H := HA.out
   clear HA
   simp only [erasurelaw19_FontKeeps.j0] at H
   by_cases c9 : x26_3 = true
   ·subst c9
    have H1 : (some true) = some r := by rw [if_pos rfl] at H; exact H
    clear H
    have H := H1
    clear H1
    obtain rfl := Option.some.inj H
    go_wp2
    go_ret
    exact ⟨by first | rfl | (simp [errW_none, errW_some] <;> rfl) | (simp [*, errW_none, errW_some] <;> rfl), by repeat (first | (with_reducible first | exact HB.out | apply below_alloc | apply pw_below_drewN | apply below_drew1 | refine below_set ?_ GE192.out) | exact HB.out)⟩
   ·replace c9 := Bool.eq_false_iff.mpr c9
    subst c9
    have H1 : ((font_Cut.f kj3 a0_0 l0_1 a0_2 l1).bind fun bt193 => (if bt193.2.2.2 = 0 then ((font_Cut.f kj3 bt193.1 bt193.2.1 bt193.2.2.1 l1).bind fun bt202 => (erasurelaw19_FontKeeps.l0 kj3 l1 a2 bt202.2.2.2 ([] : List Int) false (wrap64 ((l1.length : Int) - 1)) a0_0 l0_1 a0_2 bt193.1 bt193.2.1 bt193.2.2.1 bt202.1 bt202.2.1 bt202.2.2.1)) else ((erasurelaw19_awake.f).bind fun t200 => (if t200 = true then ((font_Check.f kj3 a0_0 l0_1 a0_2).bind fun t201 => (some (bt193.2.2.2 == t201))) else (some false))))) = some r := by rw [if_neg (show ¬ (false = true) by decide)] at H; exact H
    clear H
    have H := H1
    clear H1
    replace H := Option.bind_eq_some_iff.mp H
    obtain ⟨⟨t193, t194, t197, t198⟩, A100, H⟩ := H
    replace H : (if t198 = 0 then ((font_Cut.f kj3 t193 t194 t197 l1).bind fun bt202 => (erasurelaw19_FontKeeps.l0 kj3 l1 a2 bt202.2.2.2 ([] : List Int) false (wrap64 ((l1.length : Int) - 1)) a0_0 l0_1 a0_2 t193 t194 t197 bt202.1 bt202.2.1 bt202.2.2.1)) else ((erasurelaw19_awake.f).bind fun t200 => (if t200 = true then ((font_Check.f kj3 a0_0 l0_1 a0_2).bind fun t201 => (some (t198 == t201))) else (some false)))) = some r := H
    have A10 := Aside0.mk A100
    clear A100
    by_cases c11 : t198 = 0
    ·rw [if_pos c11] at H
     have c11b0 : (t198 == 0) = true := beq_iff_eq.mpr c11
     have c11b1 : (t198 != 0) = false := bne_eq_false_iff_eq.mpr c11
     clear c11
     replace H := Option.bind_eq_some_iff.mp H
     obtain ⟨⟨t202, t203, t206, t207⟩, A120, H⟩ := H
     replace H : (erasurelaw19_FontKeeps.l0 kj3 l1 a2 t207 ([] : List Int) false (wrap64 ((l1.length : Int) - 1)) a0_0 l0_1 a0_2 t193 t194 t197 t202 t203 t206) = some r := H
     have A12 := Aside0.mk A120
     clear A120
     have H' := Aside0.mk H
     clear H
     have hcz13_0 : wc.cell? ⟨gb192, 0, none⟩ = some (.bool a0_0) := (blk_cell BK192.out 0).trans rfl
     have hcz13_1 : wc.cell? ⟨gb192, 1, none⟩ = some (.slice A0_1 l0_1.length c0_1) := (blk_cell BK192.out 1).trans rfl
     have hcz13_2 : wc.cell? ⟨gb192, 2, none⟩ = some (.int .i64 a0_2) := (blk_cell BK192.out 2).trans rfl
     have hfz13_0 := blk_frozen BK192.out 0
     have hfz13_1 := blk_frozen BK192.out 1
     have hfz13_2 := blk_frozen BK192.out 2
     go_wp2_with (first | ((with_reducible refine gate_callee (f := 20) rfl ?_); refine goesL_ (some 30) rfl rfl Try.func20 (by kernel_rfl) rfl #[.agg #[.bool a0_0, .slice A0_1 l0_1.length c0_1, .int .i64 a0_2], .slice A1 l1.length c1] rfl (by (try simp only [List.map_toArray, List.map_cons, List.map_nil]); first | done | rfl | (simp only [List.length_drop, List.length_take]; rfl)) ?_; (with_reducible refine (font_Cut.calls kj3 a0_0 _ _ l0_1 a0_2 _ _ l1 t193 t194 t197 t198 _ ?side1 ?side2 ?side3 ?side4 A10.out).mono ?_); (case side1 => repeat (first | exact (Kd.C_below HR0_1.out HB.out) | (with_reducible refine Kd.C_alloc ?_ _) | (with_reducible refine Kd.C_drewN ?_ _) | (with_reducible refine Kd.C_drew ?_))); (case side2 => exact HC0_1.out); (case side3 => repeat (first | exact (Kd.C_below HR1.out HB.out) | (with_reducible refine Kd.C_alloc ?_ _) | (with_reducible refine Kd.C_drewN ?_ _) | (with_reducible refine Kd.C_drew ?_))); (case side4 => exact HC1.out); rintro e w14 ⟨v195, rfl, ho0, hb⟩; refine ⟨_, rfl, ?_⟩; have n0_ := Aside0.mk (Kd.R_lower ho0 (below_size (by repeat (first | (with_reducible first | exact HB.out | apply below_alloc | apply pw_below_drewN | apply below_drew1 | refine below_set ?_ GE192.out) | exact HB.out)))); have n1_ := Aside0.mk (blk_below (g := gb192) (o := .cells #[.bool a0_0, .slice A0_1 l0_1.length c0_1, .int .i64 a0_2] 24 (0, 0)) (by (with_reducible repeat (first | refine blk_drewN ?_ _ | refine blk_drew ?_ | refine blk_alloc ?_ _)); exact BK192.out) hb); have n2_ := Aside0.mk (below_step (by repeat (first | (with_reducible first | exact HB.out | apply below_alloc | apply pw_below_drewN | apply below_drew1 | refine below_set ?_ GE192.out) | exact HB.out)) hb); clear BK192; clear HB; have HO196 := n0_; have BK192 := n1_; have HB := n2_; clear n0_ n1_ n2_; (try clear hb); (try clear hb2); (try clear hk); (try clear hi); (try clear ho0)) | ((with_reducible refine gate_dst (N := 7) rfl ?_); (try (refine gate_guard (by rfl) ?_; dsimp only)); refine box_event ?hg (N := 7) ?hd (cs := #[.bool false, .slice none 0 0, .int .i64 0]) (t := 24) ?hr ?_; (case hd => rfl); (case hg => rfl); (case hr => first | (go_simp; done) | (go_simp; rfl)); intro gb199 hg w15 hbox hb; have n0_ := Aside0.mk (Kd.R_below (by (with_reducible repeat (first | apply Kd.R_alloc | apply Kd.R_drewN | apply Kd.R_drew)); exact HO196.out) hb); have n1_ := Aside0.mk (blk_below (g := gb192) (o := .cells #[.bool a0_0, .slice A0_1 l0_1.length c0_1, .int .i64 a0_2] 24 (0, 0)) (by (with_reducible repeat (first | refine blk_drewN ?_ _ | refine blk_drew ?_ | refine blk_alloc ?_ _)); exact BK192.out) hb); have n2_ := Aside0.mk (below_step (by repeat (first | (with_reducible first | exact HB.out | apply below_alloc | apply pw_below_drewN | apply below_drew1 | refine below_set ?_ GE192.out) | exact HB.out)) hb); have n3_ := Aside0.mk (hbox); have n4_ := Aside0.mk ((by rw [hg]; exact (below_size (by repeat (first | (with_reducible first | exact HB.out | apply below_alloc | apply pw_below_drewN | apply below_drew1 | refine below_set ?_ GE192.out) | exact HB.out))) : w.heap.size ≤ gb199)); have n5_ := Aside0.mk ((by rw [hg]; exact (below_size (by repeat (first | (with_reducible first | exact HB.out | apply below_alloc | apply pw_below_drewN | apply below_drew1 | refine below_set ?_ GE192.out) | exact HB.out))) : w.heap.size ≤ gb199)); have n6_ := Aside0.mk ((by rw [hg]; exact Nat.ne_of_lt (blk_lt (g := gb192) (o := .cells #[.bool a0_0, .slice A0_1 l0_1.length c0_1, .int .i64 a0_2] 24 (0, 0)) (by (with_reducible repeat (first | refine blk_drewN ?_ _ | refine blk_drew ?_ | refine blk_alloc ?_ _)); exact BK192.out)) : gb192 ≠ gb199)); have n7_ := Aside0.mk ((by rw [hg]; exact Nat.ne_of_gt (blk_lt (g := gb192) (o := .cells #[.bool a0_0, .slice A0_1 l0_1.length c0_1, .int .i64 a0_2] 24 (0, 0)) (by (with_reducible repeat (first | refine blk_drewN ?_ _ | refine blk_drew ?_ | refine blk_alloc ?_ _)); exact BK192.out)) : gb199 ≠ gb192)); clear HO196; clear BK192; clear HB; have HO196 := n0_; have BK192 := n1_; have HB := n2_; have BK199 := n3_; have GW199 := n4_; have GE199 := n5_; have NB192_199 := n6_; have NB199_192 := n7_; clear n0_ n1_ n2_ n3_ n4_ n5_ n6_ n7_; clear hb hbox hg; have hnb16 := NB199_192.out; have hnc16 := NB192_199.out; have hcz17_0 : w15.cell? ⟨gb199, 0, none⟩ = some (.bool false) := (blk_cell BK199.out 0).trans rfl; have hcz17_1 : w15.cell? ⟨gb199, 1, none⟩ = some (.slice none 0 0) := (blk_cell BK199.out 1).trans rfl; have hcz17_2 : w15.cell? ⟨gb199, 2, none⟩ = some (.int .i64 0) := (blk_cell BK199.out 2).trans rfl; have hfz17_0 := blk_frozen BK199.out 0; have hfz17_1 := blk_frozen BK199.out 1; have hfz17_2 := blk_frozen BK199.out 2; obtain ⟨Ao18, co18, eo18⟩ := Kd.R_slice HO196.out; subst eo18) | ((with_reducible refine gate_callee (f := 20) rfl ?_); refine goesL_ (some 45) rfl rfl Try.func20 (by kernel_rfl) rfl #[.agg #[.bool t193, .slice Ao18 t194.length co18, .int .i64 t197], .slice A1 l1.length c1] rfl (by (try simp only [List.map_toArray, List.map_cons, List.map_nil]); first | done | rfl | (simp only [List.length_drop, List.length_take]; rfl)) ?_; (with_reducible refine (font_Cut.calls kj3 t193 _ _ t194 t197 _ _ l1 t202 t203 t206 t207 _ ?side1 ?side2 ?side3 ?side4 A12.out).mono ?_); (case side1 => refine (Kd.R_reads' (e := 37) (base := w.heap.size) (ok := fun k_ => True) (n := t194.length) (c := co18) ?_).2.2; exact (by (with_reducible repeat (first | apply Kd.R_alloc | apply Kd.R_drewN | apply Kd.R_drew)); exact (Kd.R_mono (Kd.R_far (p := ⟨gb199, 2, none⟩) (Kd.R_far (p := ⟨gb199, 1, none⟩) (Kd.R_far (p := ⟨gb199, 0, none⟩) (Kd.R_types HO196.out BK199.out (by decide)) (fun _ hk => hk.2) (.bool t193)) (fun _ hk => hk.2) (.slice Ao18 t194.length co18)) (fun _ hk => hk.2) (.int .i64 t197)) (fun _ h_ => h_.1)))); (case side2 => exact (Kd.R_reads' HO196.out).2.1); (case side3 => exact Kd.C_below HR1.out (by repeat (first | (with_reducible first | exact HB.out | apply below_alloc | apply pw_below_drewN | apply below_drew1 | refine below_set ?_ GE192.out | refine below_set ?_ GE199.out) | exact HB.out))); (case side4 => exact HC1.out); rintro e w19 ⟨v204, rfl, ho0, hb⟩; refine ⟨_, rfl, ?_⟩; have n0_ := Aside0.mk (Kd.R_elder' (by (with_reducible repeat (first | apply Kd.R_alloc | apply Kd.R_drewN | apply Kd.R_drew)); exact (Kd.R_mono (Kd.R_far (p := ⟨gb199, 2, none⟩) (Kd.R_far (p := ⟨gb199, 1, none⟩) (Kd.R_far (p := ⟨gb199, 0, none⟩) (Kd.R_types HO196.out BK199.out (by decide)) (fun _ hk => hk.2) (.bool t193)) (fun _ hk => hk.2) (.slice Ao18 t194.length co18)) (fun _ hk => hk.2) (.int .i64 t197)) (fun _ h_ => h_.1))) (Kd.R_base ho0) hb); have n1_ := Aside0.mk (Kd.R_lower (Kd.R_new' ho0 (Kd.R_lt (by (with_reducible repeat (first | apply Kd.R_alloc | apply Kd.R_drewN | apply Kd.R_drew)); exact (Kd.R_mono (Kd.R_far (p := ⟨gb199, 2, none⟩) (Kd.R_far (p := ⟨gb199, 1, none⟩) (Kd.R_far (p := ⟨gb199, 0, none⟩) (Kd.R_types HO196.out BK199.out (by decide)) (fun _ hk => hk.2) (.bool t193)) (fun _ hk => hk.2) (.slice Ao18 t194.length co18)) (fun _ hk => hk.2) (.int .i64 t197)) (fun _ h_ => h_.1))))) (below_size (by repeat (first | (with_reducible first | exact HB.out | apply below_alloc | apply pw_below_drewN | apply below_drew1 | refine below_set ?_ GE192.out | refine below_set ?_ GE199.out) | exact HB.out)))); have n2_ := Aside0.mk (blk_below (g := gb192) (o := .cells #[.bool a0_0, .slice A0_1 l0_1.length c0_1, .int .i64 a0_2] 24 (0, 0)) (by (with_reducible repeat (first | refine blk_drewN ?_ _ | refine blk_drew ?_ | refine blk_alloc ?_ _)); refine blk_far ?_ NB192_199.out _; (with_reducible repeat (first | refine blk_drewN ?_ _ | refine blk_drew ?_ | refine blk_alloc ?_ _)); refine blk_far ?_ NB192_199.out _; (with_reducible repeat (first | refine blk_drewN ?_ _ | refine blk_drew ?_ | refine blk_alloc ?_ _)); refine blk_far ?_ NB192_199.out _; (with_reducible repeat (first | refine blk_drewN ?_ _ | refine blk_drew ?_ | refine blk_alloc ?_ _)); exact BK192.out) hb); have n3_ := Aside0.mk (blk_below (g := gb199) (o := .cells #[.bool t193, .slice Ao18 t194.length co18, .int .i64 t197] 24 (0, 0)) (by (with_reducible repeat (first | refine blk_drewN ?_ _ | refine blk_drew ?_ | refine blk_alloc ?_ _)); refine blk_put (cs := #[.bool t193, .slice Ao18 t194.length co18, .int .i64 0]) ?_ 2 _ rfl; (with_reducible repeat (first | refine blk_drewN ?_ _ | refine blk_drew ?_ | refine blk_alloc ?_ _)); refine blk_put (cs := #[.bool t193, .slice none 0 0, .int .i64 0]) ?_ 1 _ rfl; (with_reducible repeat (first | refine blk_drewN ?_ _ | refine blk_drew ?_ | refine blk_alloc ?_ _)); refine blk_put (cs := #[.bool false, .slice none 0 0, .int .i64 0]) ?_ 0 _ rfl; (with_reducible repeat (first | refine blk_drewN ?_ _ | refine blk_drew ?_ | refine blk_alloc ?_ _)); exact BK199.out) hb); have n4_ := Aside0.mk (below_step (by repeat (first | (with_reducible first | exact HB.out | apply below_alloc | apply pw_below_drewN | apply below_drew1 | refine below_set ?_ GE192.out | refine below_set ?_ GE199.out) | exact HB.out)) hb); clear HO196; clear BK192; clear BK199; clear HB; have HO196 := n0_; have HO205 := n1_; have BK192 := n2_; have BK199 := n3_; have HB := n4_; clear n0_ n1_ n2_ n3_ n4_; (try clear hb); (try clear hb2); (try clear hk); (try clear hi); (try clear ho0)) | ((with_reducible refine gate_dst (N := 9) rfl ?_); (try (refine gate_guard (by rfl) ?_; dsimp only)); refine box_event ?hg (N := 9) ?hd (cs := #[.bool false, .slice none 0 0, .int .i64 0]) (t := 24) ?hr ?_; (case hd => rfl); (case hg => rfl); (case hr => first | (go_simp; done) | (go_simp; rfl)); intro gb208 hg w20 hbox hb; have n0_ := Aside0.mk (Kd.R_below (by (with_reducible repeat (first | apply Kd.R_alloc | apply Kd.R_drewN | apply Kd.R_drew)); exact HO196.out) hb); have n1_ := Aside0.mk (Kd.R_below (by (with_reducible repeat (first | apply Kd.R_alloc | apply Kd.R_drewN | apply Kd.R_drew)); exact HO205.out) hb); have n2_ := Aside0.mk (blk_below (g := gb192) (o := .cells #[.bool a0_0, .slice A0_1 l0_1.length c0_1, .int .i64 a0_2] 24 (0, 0)) (by (with_reducible repeat (first | refine blk_drewN ?_ _ | refine blk_drew ?_ | refine blk_alloc ?_ _)); exact BK192.out) hb); have n3_ := Aside0.mk (blk_below (g := gb199) (o := .cells #[.bool t193, .slice Ao18 t194.length co18, .int .i64 t197] 24 (0, 0)) (by (with_reducible repeat (first | refine blk_drewN ?_ _ | refine blk_drew ?_ | refine blk_alloc ?_ _)); exact BK199.out) hb); have n4_ := Aside0.mk (below_step (by repeat (first | (with_reducible first | exact HB.out | apply below_alloc | apply pw_below_drewN | apply below_drew1 | refine below_set ?_ GE192.out | refine below_set ?_ GE199.out) | exact HB.out)) hb); have n5_ := Aside0.mk (hbox); have n6_ := Aside0.mk ((by rw [hg]; exact (below_size (by repeat (first | (with_reducible first | exact HB.out | apply below_alloc | apply pw_below_drewN | apply below_drew1 | refine below_set ?_ GE192.out | refine below_set ?_ GE199.out) | exact HB.out))) : w.heap.size ≤ gb208)); have n7_ := Aside0.mk ((by rw [hg]; exact (below_size (by repeat (first | (with_reducible first | exact HB.out | apply below_alloc | apply pw_below_drewN | apply below_drew1 | refine below_set ?_ GE192.out | refine below_set ?_ GE199.out) | exact HB.out))) : w.heap.size ≤ gb208)); have n8_ := Aside0.mk ((by rw [hg]; exact Nat.ne_of_lt (blk_lt (g := gb192) (o := .cells #[.bool a0_0, .slice A0_1 l0_1.length c0_1, .int .i64 a0_2] 24 (0, 0)) (by (with_reducible repeat (first | refine blk_drewN ?_ _ | refine blk_drew ?_ | refine blk_alloc ?_ _)); exact BK192.out)) : gb192 ≠ gb208)); have n9_ := Aside0.mk ((by rw [hg]; exact Nat.ne_of_gt (blk_lt (g := gb192) (o := .cells #[.bool a0_0, .slice A0_1 l0_1.length c0_1, .int .i64 a0_2] 24 (0, 0)) (by (with_reducible repeat (first | refine blk_drewN ?_ _ | refine blk_drew ?_ | refine blk_alloc ?_ _)); exact BK192.out)) : gb208 ≠ gb192)); have n10_ := Aside0.mk ((by rw [hg]; exact Nat.ne_of_lt (blk_lt (g := gb199) (o := .cells #[.bool t193, .slice Ao18 t194.length co18, .int .i64 t197] 24 (0, 0)) (by (with_reducible repeat (first | refine blk_drewN ?_ _ | refine blk_drew ?_ | refine blk_alloc ?_ _)); exact BK199.out)) : gb199 ≠ gb208)); have n11_ := Aside0.mk ((by rw [hg]; exact Nat.ne_of_gt (blk_lt (g := gb199) (o := .cells #[.bool t193, .slice Ao18 t194.length co18, .int .i64 t197] 24 (0, 0)) (by (with_reducible repeat (first | refine blk_drewN ?_ _ | refine blk_drew ?_ | refine blk_alloc ?_ _)); exact BK199.out)) : gb208 ≠ gb199)); clear HO196; clear HO205; clear BK192; clear BK199; clear HB; have HO196 := n0_; have HO205 := n1_; have BK192 := n2_; have BK199 := n3_; have HB := n4_; have BK208 := n5_; have GW208 := n6_; have GE208 := n7_; have NB192_208 := n8_; have NB208_192 := n9_; have NB199_208 := n10_; have NB208_199 := n11_; clear n0_ n1_ n2_ n3_ n4_ n5_ n6_ n7_ n8_ n9_ n10_ n11_; clear hb hbox hg; have hnb21 := NB208_192.out; have hnc21 := NB192_208.out; have hnb22 := NB208_199.out; have hnc22 := NB199_208.out; have hcz23_0 : w20.cell? ⟨gb208, 0, none⟩ = some (.bool false) := (blk_cell BK208.out 0).trans rfl; have hcz23_1 : w20.cell? ⟨gb208, 1, none⟩ = some (.slice none 0 0) := (blk_cell BK208.out 1).trans rfl; have hcz23_2 : w20.cell? ⟨gb208, 2, none⟩ = some (.int .i64 0) := (blk_cell BK208.out 2).trans rfl; have hfz23_0 := blk_frozen BK208.out 0; have hfz23_1 := blk_frozen BK208.out 1; have hfz23_2 := blk_frozen BK208.out 2; obtain ⟨Ao24, co24, eo24⟩ := Kd.R_slice HO205.out; subst eo24))
     go_loopg [11, 12, 13] kj3 (fun kq v11 v12 v13 w' => ∃ (x11_2 : List Int) (x12_2 : Bool) (x13_2 : Int), v12 = .bool x12_2 ∧ v13 = .int .i64 x13_2 ∧ Aside0 (erasurelaw19_FontKeeps.l0 kq l1 a2 t207 x11_2 x12_2 x13_2 a0_0 l0_1 a0_2 t193 t194 t197 t202 t203 t206 = some r) ∧ Aside0 (kq ≤ kj3) ∧ Aside0 (Kd.R (Kd.int .i64) 3 w' w.heap.size (fun _ => True) v11 x11_2) ∧ Aside0 (Kd.R k37 37 w' w.heap.size (fun k_ => some k_ ≠ ((.slice Ao24 t203.length co24) : Value).ownBlock) (.slice Ao18 t194.length co18) t194) ∧ Aside0 (Kd.R k37 37 w' w.heap.size (fun k_ => some k_ ≠ ((.slice Ao18 t194.length co18) : Value).ownBlock) (.slice Ao24 t203.length co24) t203) ∧ Aside0 (w'.heap[gb192]? = some (.cells #[.bool a0_0, (.slice A0_1 l0_1.length c0_1), .int .i64 a0_2] 24 (0, 0))) ∧ Aside0 (w'.heap[gb199]? = some (.cells #[.bool t193, (.slice Ao18 t194.length co18), .int .i64 t197] 24 (0, 0))) ∧ Aside0 (w'.heap[gb208]? = some (.cells #[.bool t202, (.slice Ao24 t203.length co24), .int .i64 t206] 24 (0, 0))) ∧ Aside0 (Below w.heap.size w w'))
     case atStart => exact ⟨(([] : List Int)), (false), (wrap64 ((l1.length : Int) - 1)), (by first | rfl | (simp; done) | (simp [*]; done) | (simp; generalize ByteArray.toList _ = l_; cases l_ <;> rfl)), (by first | rfl | (simp; done) | (simp [*]; done) | (simp; generalize ByteArray.toList _ = l_; cases l_ <;> rfl)), H', ⟨Nat.le_refl _⟩, ⟨by first | exact Kd.R_nil _ _ _ _ _ | exact Kd.N_nil _ _ _ _ _ | exact Kd.V_nil _ _ _ _ _ | exact Kd.Q_nil _ _ _ _ _ | exact Kd.S_nil _ _ _ _ _⟩, ⟨by (with_reducible repeat (first | apply Kd.R_alloc | apply Kd.R_drewN | apply Kd.R_drew)); exact Kd.R_mono (Kd.R_far (p := ⟨gb208, 2, none⟩) (Kd.R_far (p := ⟨gb208, 1, none⟩) (Kd.R_far (p := ⟨gb208, 0, none⟩) (Kd.R_types HO196.out BK208.out (by decide)) (fun _ hk => hk.2) (.bool t202)) (fun _ hk => hk.2) (.slice Ao24 t203.length co24)) (fun _ hk => hk.2) (.int .i64 t206)) (fun _ hk => hk.1.2)⟩, ⟨by (with_reducible repeat (first | apply Kd.R_alloc | apply Kd.R_drewN | apply Kd.R_drew)); exact Kd.R_mono (Kd.R_far (p := ⟨gb208, 2, none⟩) (Kd.R_far (p := ⟨gb208, 1, none⟩) (Kd.R_far (p := ⟨gb208, 0, none⟩) (Kd.R_types HO205.out BK208.out (by decide)) (fun _ hk => hk.2) (.bool t202)) (fun _ hk => hk.2) (.slice Ao24 t203.length co24)) (fun _ hk => hk.2) (.int .i64 t206)) (fun _ hk => hk.1.2)⟩, ⟨by (with_reducible repeat (first | refine blk_drewN ?_ _ | refine blk_drew ?_ | refine blk_alloc ?_ _)); refine blk_far ?_ NB192_208.out _; (with_reducible repeat (first | refine blk_drewN ?_ _ | refine blk_drew ?_ | refine blk_alloc ?_ _)); refine blk_far ?_ NB192_208.out _; (with_reducible repeat (first | refine blk_drewN ?_ _ | refine blk_drew ?_ | refine blk_alloc ?_ _)); refine blk_far ?_ NB192_208.out _; (with_reducible repeat (first | refine blk_drewN ?_ _ | refine blk_drew ?_ | refine blk_alloc ?_ _)); exact BK192.out⟩, ⟨by (with_reducible repeat (first | refine blk_drewN ?_ _ | refine blk_drew ?_ | refine blk_alloc ?_ _)); refine blk_far ?_ NB199_208.out _; (with_reducible repeat (first | refine blk_drewN ?_ _ | refine blk_drew ?_ | refine blk_alloc ?_ _)); refine blk_far ?_ NB199_208.out _; (with_reducible repeat (first | refine blk_drewN ?_ _ | refine blk_drew ?_ | refine blk_alloc ?_ _)); refine blk_far ?_ NB199_208.out _; (with_reducible repeat (first | refine blk_drewN ?_ _ | refine blk_drew ?_ | refine blk_alloc ?_ _)); exact BK199.out⟩, ⟨by (with_reducible repeat (first | refine blk_drewN ?_ _ | refine blk_drew ?_ | refine blk_alloc ?_ _)); refine blk_put (cs := #[.bool t202, .slice Ao24 t203.length co24, .int .i64 0]) ?_ 2 _ rfl; (with_reducible repeat (first | refine blk_drewN ?_ _ | refine blk_drew ?_ | refine blk_alloc ?_ _)); refine blk_put (cs := #[.bool t202, .slice none 0 0, .int .i64 0]) ?_ 1 _ rfl; (with_reducible repeat (first | refine blk_drewN ?_ _ | refine blk_drew ?_ | refine blk_alloc ?_ _)); refine blk_put (cs := #[.bool false, .slice none 0 0, .int .i64 0]) ?_ 0 _ rfl; (with_reducible repeat (first | refine blk_drewN ?_ _ | refine blk_drew ?_ | refine blk_alloc ?_ _)); exact BK208.out⟩, ⟨by repeat (first | (with_reducible first | exact HB.out | apply below_alloc | apply pw_below_drewN | apply below_drew1 | refine below_set ?_ GE192.out | refine below_set ?_ GE199.out | refine below_set ?_ GE208.out) | exact HB.out)⟩⟩
     case round =>
      clear H'
      try clear c1
      try clear c2
      try clear p2
      try clear c6
      try clear c6b0
      try clear c6b1
      try clear p6
      try clear c9
      try clear c11
      try clear c11b0
      try clear c11b1
      try clear c16
      try clear c20
      try clear c21
      try clear c22
      try clear hcz13_0
      try clear hcz13_1
      try clear hcz13_2
      try clear hcz17_0
      try clear hcz17_1
      try clear hcz17_2
      try clear hcz23_0
      try clear hcz23_1
      try clear hcz23_2
      try clear hcz7_0
      try clear hcz7_1
      try clear hcz7_2
      try clear hcz8_0
      try clear hcz8_1
      try clear hcz8_2
      try clear hfz13_0
      try clear hfz13_1
      try clear hfz13_2
      try clear hfz17_0
      try clear hfz17_1
      try clear hfz17_2
      try clear hfz23_0
      try clear hfz23_1
      try clear hfz23_2
      try clear hfz7_0
      try clear hfz7_1
      try clear hfz7_2
      try clear hfz8_0
      try clear hfz8_1
      try clear hfz8_2
      try clear p2
      obtain ⟨x11_2, x12_2, x13_2, rfl, rfl, HA, HK2, HO_11, HO_200001, HO_209001, BK192, BK199, BK208, HB⟩ := hrel
      cases gk with
      | zero => exact absurd HA.out (by simp [erasurelaw19_FontKeeps.l0])
      | succ k2 =>
       have H := HA.out
       clear HA
       simp only [erasurelaw19_FontKeeps.l0] at H
       by_cases c25 : x13_2 ≥ 0
       ·rw [if_pos c25] at H
        have c25b0 : decide (0 ≤ x13_2) = true := decide_eq_true c25
        clear c25
        by_cases c26 : 0 ≤ x13_2
        ·rw [if_pos c26] at H
         have c26b0 : decide (0 ≤ x13_2) = true := decide_eq_true c26
         clear c26
         by_cases c27 : x13_2 < (l1.length : Int)
         ·rw [if_pos c27] at H
          have c27b0 : decide (x13_2 < (l1.length : Int)) = true := decide_eq_true c27
          clear c27
          by_cases c28 : x11_2.length < 17592186044416
          ·rw [if_pos c28] at H
           have LMc28 := Aside0.mk c28
           clear c28
           obtain ⟨y210, hy210⟩ : ∃ y_ : List Int, y_ = (x11_2 ++ [rd l1 x13_2]) := ⟨_, rfl⟩
           replace H : (if x12_2 = true then (erasurelaw19_FontKeeps.l0 k2 l1 a2 t207 y210 true (wrap64 (x13_2 - 1)) a0_0 l0_1 a0_2 t193 t194 t197 t202 t203 t206) else (erasurelaw19_FontKeeps.l0 k2 l1 a2 t207 y210 ((rd l1 x13_2) == a2) (wrap64 (x13_2 - 1)) a0_0 l0_1 a0_2 t193 t194 t197 t202 t203 t206)) = some r := by first | (rw [hy210]; with_reducible exact H) | (have H2_ := (Option.bind_some _ _).symm.trans H; rw [hy210]; with_reducible exact H2_) | (have H2_ := (Option.bind_some _ _).symm.trans H; with_reducible exact H2_) | with_reducible exact H | (rw [hy210]; exact H) | exact H
           have Ny210 := Aside0.mk hy210
           clear hy210
           by_cases c29 : x12_2 = true
           ·subst c29
            have H1 : (erasurelaw19_FontKeeps.l0 k2 l1 a2 t207 y210 true (wrap64 (x13_2 - 1)) a0_0 l0_1 a0_2 t193 t194 t197 t202 t203 t206) = some r := by rw [if_pos rfl] at H; exact H
            clear H
            have H := H1
            clear H1
            have H' := Aside0.mk H
            clear H
            have p209 : 0 ≤ (x13_2 : Int) := of_decide_eq_true (by first | (with_reducible assumption) | assumption)
            have q209 : x13_2 < (l1.length : Int) := of_decide_eq_true (by first | (with_reducible assumption) | assumption)
            obtain ⟨ad209, e209, hx209_0⟩ := Kd.at_int HR1.out x13_2 p209 q209
            cases e209
            replace hx209_0 := (HB.out.cell (World.block_lt_of_cell? w _ hx209_0)).trans hx209_0
            replace p209 := eq_true p209
            replace q209 := eq_true q209
            go_wp2_with (first | ((with_reducible refine gate_builtin (b := .append) (xs := #[.tmp 55, .tmp 60]) rfl ?_); (try (refine gate_guard (by rfl) ?_; dsimp only)); at_builtin; refine Kd.R_append (Kd.int .i64) (w0 := w) w.heap.size rfl (.tmp 55) (.tmp 60) 25 3 (.int .i64 0) 8 rfl Try.underlying25 info3 rfl (by decide) (by omega) u11 x11_2 (rd l1 x13_2) [.int .i64 (rd l1 x13_2)] (fun _ => True) (fun _ => False) rfl rfl ?aP (fun _ hk => hk.elim) ?aF ?aO ?aB ?aS ?aL ?_; (case aP => exact rfl); (case aB => exact (by repeat (first | (with_reducible first | exact HB.out | apply below_alloc | apply pw_below_drewN | apply below_drew1 | refine below_set ?_ GE192.out | refine below_set ?_ GE199.out | refine below_set ?_ GE208.out) | exact HB.out))); (case aF => exact (fun _ _ => trivial)); (case aO => exact (by (with_reducible repeat (first | apply Kd.R_alloc | apply Kd.R_drewN | apply Kd.R_drew)); exact HO_11.out)); (case aS => exact (below_size (by repeat (first | (with_reducible first | exact HB.out | apply below_alloc | apply pw_below_drewN | apply below_drew1 | refine below_set ?_ GE192.out | refine below_set ?_ GE199.out | refine below_set ?_ GE208.out) | exact HB.out)))); (case aL => have := LMc28.out; omega); intro v211 w30 ho hb hg hat; rw [← Ny210.out] at ho; have n0_ := Aside0.mk (Kd.R_over' (by (with_reducible repeat (first | apply Kd.R_alloc | apply Kd.R_drewN | apply Kd.R_drew)); exact HO_200001.out) (Kd.R_typed (by (with_reducible repeat (first | apply Kd.R_alloc | apply Kd.R_drewN | apply Kd.R_drew)); exact HO_11.out)) (by decide) hg); have n1_ := Aside0.mk (Kd.R_over' (by (with_reducible repeat (first | apply Kd.R_alloc | apply Kd.R_drewN | apply Kd.R_drew)); exact HO_209001.out) (Kd.R_typed (by (with_reducible repeat (first | apply Kd.R_alloc | apply Kd.R_drewN | apply Kd.R_drew)); exact HO_11.out)) (by decide) hg); have n2_ := Aside0.mk (blk_grown (g := gb192) (o := .cells #[.bool a0_0, .slice A0_1 l0_1.length c0_1, .int .i64 a0_2] 24 (0, 0)) (by (with_reducible repeat (first | refine blk_drewN ?_ _ | refine blk_drew ?_ | refine blk_alloc ?_ _)); exact BK192.out) hg (Kd.R_ne HO_11.out BK192.out (by decide))); have n3_ := Aside0.mk (blk_grown (g := gb199) (o := .cells #[.bool t193, .slice Ao18 t194.length co18, .int .i64 t197] 24 (0, 0)) (by (with_reducible repeat (first | refine blk_drewN ?_ _ | refine blk_drew ?_ | refine blk_alloc ?_ _)); exact BK199.out) hg (Kd.R_ne HO_11.out BK199.out (by decide))); have n4_ := Aside0.mk (blk_grown (g := gb208) (o := .cells #[.bool t202, .slice Ao24 t203.length co24, .int .i64 t206] 24 (0, 0)) (by (with_reducible repeat (first | refine blk_drewN ?_ _ | refine blk_drew ?_ | refine blk_alloc ?_ _)); exact BK208.out) hg (Kd.R_ne HO_11.out BK208.out (by decide))); have n5_ := Aside0.mk (hb); have n6_ := Aside0.mk (ho); clear HO_200001; clear HO_209001; clear BK192; clear BK199; clear BK208; clear HB; clear HO_11; have HO_200001 := n0_; have HO_209001 := n1_; have BK192 := n2_; have BK199 := n3_; have BK208 := n4_; have HB := n5_; have HO212 := n6_; clear n0_ n1_ n2_ n3_ n4_ n5_ n6_; clear ho hb hg hat))
            go_roundg k2
            case measure => have := HJ3.out; have := HK2.out; omega
            case rel => exact ⟨(y210), (true), (wrap64 (x13_2 - 1)), (by first | rfl | (simp; done) | (simp [*]; done) | (simp; generalize ByteArray.toList _ = l_; cases l_ <;> rfl)), (by first | rfl | (simp; done) | (simp [*]; done) | (simp; generalize ByteArray.toList _ = l_; cases l_ <;> rfl)), H', ⟨by have := HJ3.out; have := HK2.out; omega⟩, ⟨by (with_reducible repeat (first | apply Kd.R_alloc | apply Kd.R_drewN | apply Kd.R_drew)); exact HO212.out⟩, ⟨by (with_reducible repeat (first | apply Kd.R_alloc | apply Kd.R_drewN | apply Kd.R_drew)); exact HO_200001.out⟩, ⟨by (with_reducible repeat (first | apply Kd.R_alloc | apply Kd.R_drewN | apply Kd.R_drew)); exact HO_209001.out⟩, ⟨by (with_reducible repeat (first | refine blk_drewN ?_ _ | refine blk_drew ?_ | refine blk_alloc ?_ _)); exact BK192.out⟩, ⟨by (with_reducible repeat (first | refine blk_drewN ?_ _ | refine blk_drew ?_ | refine blk_alloc ?_ _)); exact BK199.out⟩, ⟨by (with_reducible repeat (first | refine blk_drewN ?_ _ | refine blk_drew ?_ | refine blk_alloc ?_ _)); exact BK208.out⟩, ⟨by repeat (first | (with_reducible first | exact HB.out | apply below_alloc | apply pw_below_drewN | apply below_drew1 | refine below_set ?_ GE192.out | refine below_set ?_ GE199.out | refine below_set ?_ GE208.out) | exact HB.out)⟩⟩
           ·replace c29 := Bool.eq_false_iff.mpr c29
            subst c29
            have H1 : (erasurelaw19_FontKeeps.l0 k2 l1 a2 t207 y210 ((rd l1 x13_2) == a2) (wrap64 (x13_2 - 1)) a0_0 l0_1 a0_2 t193 t194 t197 t202 t203 t206) = some r := by rw [if_neg (show ¬ (false = true) by decide)] at H; exact H
            clear H
            have H := H1
            clear H1
            have H' := Aside0.mk H
            clear H
            have p209 : 0 ≤ (x13_2 : Int) := of_decide_eq_true (by first | (with_reducible assumption) | assumption)
            have q209 : x13_2 < (l1.length : Int) := of_decide_eq_true (by first | (with_reducible assumption) | assumption)
            obtain ⟨ad209, e209, hx209_0⟩ := Kd.at_int HR1.out x13_2 p209 q209
            cases e209
            replace hx209_0 := (HB.out.cell (World.block_lt_of_cell? w _ hx209_0)).trans hx209_0
            replace p209 := eq_true p209
            replace q209 := eq_true q209
            go_wp2_with (first | ((with_reducible refine gate_builtin (b := .append) (xs := #[.tmp 55, .tmp 60]) rfl ?_); (try (refine gate_guard (by rfl) ?_; dsimp only)); at_builtin; refine Kd.R_append (Kd.int .i64) (w0 := w) w.heap.size rfl (.tmp 55) (.tmp 60) 25 3 (.int .i64 0) 8 rfl Try.underlying25 info3 rfl (by decide) (by omega) u11 x11_2 (rd l1 x13_2) [.int .i64 (rd l1 x13_2)] (fun _ => True) (fun _ => False) rfl rfl ?aP (fun _ hk => hk.elim) ?aF ?aO ?aB ?aS ?aL ?_; (case aP => exact rfl); (case aB => exact (by repeat (first | (with_reducible first | exact HB.out | apply below_alloc | apply pw_below_drewN | apply below_drew1 | refine below_set ?_ GE192.out | refine below_set ?_ GE199.out | refine below_set ?_ GE208.out) | exact HB.out))); (case aF => exact (fun _ _ => trivial)); (case aO => exact (by (with_reducible repeat (first | apply Kd.R_alloc | apply Kd.R_drewN | apply Kd.R_drew)); exact HO_11.out)); (case aS => exact (below_size (by repeat (first | (with_reducible first | exact HB.out | apply below_alloc | apply pw_below_drewN | apply below_drew1 | refine below_set ?_ GE192.out | refine below_set ?_ GE199.out | refine below_set ?_ GE208.out) | exact HB.out)))); (case aL => have := LMc28.out; omega); intro v211 w31 ho hb hg hat; rw [← Ny210.out] at ho; have n0_ := Aside0.mk (Kd.R_over' (by (with_reducible repeat (first | apply Kd.R_alloc | apply Kd.R_drewN | apply Kd.R_drew)); exact HO_200001.out) (Kd.R_typed (by (with_reducible repeat (first | apply Kd.R_alloc | apply Kd.R_drewN | apply Kd.R_drew)); exact HO_11.out)) (by decide) hg); have n1_ := Aside0.mk (Kd.R_over' (by (with_reducible repeat (first | apply Kd.R_alloc | apply Kd.R_drewN | apply Kd.R_drew)); exact HO_209001.out) (Kd.R_typed (by (with_reducible repeat (first | apply Kd.R_alloc | apply Kd.R_drewN | apply Kd.R_drew)); exact HO_11.out)) (by decide) hg); have n2_ := Aside0.mk (blk_grown (g := gb192) (o := .cells #[.bool a0_0, .slice A0_1 l0_1.length c0_1, .int .i64 a0_2] 24 (0, 0)) (by (with_reducible repeat (first | refine blk_drewN ?_ _ | refine blk_drew ?_ | refine blk_alloc ?_ _)); exact BK192.out) hg (Kd.R_ne HO_11.out BK192.out (by decide))); have n3_ := Aside0.mk (blk_grown (g := gb199) (o := .cells #[.bool t193, .slice Ao18 t194.length co18, .int .i64 t197] 24 (0, 0)) (by (with_reducible repeat (first | refine blk_drewN ?_ _ | refine blk_drew ?_ | refine blk_alloc ?_ _)); exact BK199.out) hg (Kd.R_ne HO_11.out BK199.out (by decide))); have n4_ := Aside0.mk (blk_grown (g := gb208) (o := .cells #[.bool t202, .slice Ao24 t203.length co24, .int .i64 t206] 24 (0, 0)) (by (with_reducible repeat (first | refine blk_drewN ?_ _ | refine blk_drew ?_ | refine blk_alloc ?_ _)); exact BK208.out) hg (Kd.R_ne HO_11.out BK208.out (by decide))); have n5_ := Aside0.mk (hb); have n6_ := Aside0.mk (ho); clear HO_200001; clear HO_209001; clear BK192; clear BK199; clear BK208; clear HB; clear HO_11; have HO_200001 := n0_; have HO_209001 := n1_; have BK192 := n2_; have BK199 := n3_; have BK208 := n4_; have HB := n5_; have HO212 := n6_; clear n0_ n1_ n2_ n3_ n4_ n5_ n6_; clear ho hb hg hat; have p213 : 0 ≤ (x13_2 : Int) := of_decide_eq_true (by first | (with_reducible assumption) | assumption); have q213 : x13_2 < (l1.length : Int) := of_decide_eq_true (by first | (with_reducible assumption) | assumption); obtain ⟨ad213, e213, hx213_0⟩ := Kd.at_int HR1.out x13_2 p213 q213; obtain rfl : ad209 = ad213 := (by injection e213); replace hx213_0 := (HB.out.cell (World.block_lt_of_cell? w _ hx213_0)).trans hx213_0; replace p213 := eq_true p213; replace q213 := eq_true q213))
            go_roundg k2
            case measure => have := HJ3.out; have := HK2.out; omega
            case rel => exact ⟨(y210), (((rd l1 x13_2) == a2)), (wrap64 (x13_2 - 1)), (by first | rfl | (simp; done) | (simp [*]; done) | (simp; generalize ByteArray.toList _ = l_; cases l_ <;> rfl)), (by first | rfl | (simp; done) | (simp [*]; done) | (simp; generalize ByteArray.toList _ = l_; cases l_ <;> rfl)), H', ⟨by have := HJ3.out; have := HK2.out; omega⟩, ⟨by (with_reducible repeat (first | apply Kd.R_alloc | apply Kd.R_drewN | apply Kd.R_drew)); exact HO212.out⟩, ⟨by (with_reducible repeat (first | apply Kd.R_alloc | apply Kd.R_drewN | apply Kd.R_drew)); exact HO_200001.out⟩, ⟨by (with_reducible repeat (first | apply Kd.R_alloc | apply Kd.R_drewN | apply Kd.R_drew)); exact HO_209001.out⟩, ⟨by (with_reducible repeat (first | refine blk_drewN ?_ _ | refine blk_drew ?_ | refine blk_alloc ?_ _)); exact BK192.out⟩, ⟨by (with_reducible repeat (first | refine blk_drewN ?_ _ | refine blk_drew ?_ | refine blk_alloc ?_ _)); exact BK199.out⟩, ⟨by (with_reducible repeat (first | refine blk_drewN ?_ _ | refine blk_drew ?_ | refine blk_alloc ?_ _)); exact BK208.out⟩, ⟨by repeat (first | (with_reducible first | exact HB.out | apply below_alloc | apply pw_below_drewN | apply below_drew1 | refine below_set ?_ GE192.out | refine below_set ?_ GE199.out | refine below_set ?_ GE208.out) | exact HB.out)⟩⟩
          ·rw [if_neg c28] at H
           exact absurd H (by simp)
         ·rw [if_neg c27] at H
          exact absurd H (by simp)
        ·rw [if_neg c26] at H
         exact absurd H (by simp)
       ·rw [if_neg c25] at H
        have c25b0 : decide (0 ≤ x13_2) = false := decide_eq_false c25
        clear c25
        replace H := Option.bind_eq_some_iff.mp H
        obtain ⟨⟨t214, t215, t218, t219⟩, A320, H⟩ := H
        replace H : (if a0_0 = true then (erasurelaw19_FontKeeps.j2 k2 a2 t207 x12_2 t219 65535 a0_0 l0_1 a0_2 t193 t194 t197 t202 t203 t206 t214 t215 t218) else (erasurelaw19_FontKeeps.j2 k2 a2 t207 x12_2 t219 255 a0_0 l0_1 a0_2 t193 t194 t197 t202 t203 t206 t214 t215 t218)) = some r := H
        have A32 := Aside0.mk A320
        clear A320
        have HC33 := Aside0.mk H
        clear H
        have hnb34 := NB192_199.out
        have hnc34 := NB199_192.out
        have hnb35 := NB192_208.out
        have hnc35 := NB208_192.out
        have hcz36_0 : wr.cell? ⟨gb192, 0, none⟩ = some (.bool a0_0) := (blk_cell BK192.out 0).trans rfl
        have hcz36_1 : wr.cell? ⟨gb192, 1, none⟩ = some (.slice A0_1 l0_1.length c0_1) := (blk_cell BK192.out 1).trans rfl
        have hcz36_2 : wr.cell? ⟨gb192, 2, none⟩ = some (.int .i64 a0_2) := (blk_cell BK192.out 2).trans rfl
        have hfz36_0 := blk_frozen BK192.out 0
        have hfz36_1 := blk_frozen BK192.out 1
        have hfz36_2 := blk_frozen BK192.out 2
        obtain ⟨Ao37, co37, eo37⟩ := Kd.R_slice HO_11.out
        subst eo37
        go_upto_if 78 with (first | ((with_reducible refine gate_callee (f := 20) rfl ?_); refine goesL_ (some 74) rfl rfl Try.func20 (by kernel_rfl) rfl #[.agg #[.bool a0_0, .slice A0_1 l0_1.length c0_1, .int .i64 a0_2], .slice Ao37 x11_2.length co37] rfl (by (try simp only [List.map_toArray, List.map_cons, List.map_nil]); first | done | rfl | (simp only [List.length_drop, List.length_take]; rfl)) ?_; (with_reducible refine (font_Cut.calls k2 a0_0 _ _ l0_1 a0_2 _ _ x11_2 t214 t215 t218 t219 _ ?side1 ?side2 ?side3 ?side4 A32.out).mono ?_); (case side1 => repeat (first | exact (Kd.C_below HR0_1.out HB.out) | (with_reducible refine Kd.C_alloc ?_ _) | (with_reducible refine Kd.C_drewN ?_ _) | (with_reducible refine Kd.C_drew ?_))); (case side2 => exact HC0_1.out); (case side3 => repeat (first | exact (Kd.R_reads' HO_11.out).2.2 | (with_reducible refine Kd.C_alloc ?_ _) | (with_reducible refine Kd.C_drewN ?_ _) | (with_reducible refine Kd.C_drew ?_))); (case side4 => exact (Kd.R_reads' HO_11.out).2.1); rintro e w38 ⟨v216, rfl, ho0, hb⟩; refine ⟨_, rfl, ?_⟩; have n0_ := Aside0.mk (Kd.R_below (by (with_reducible repeat (first | apply Kd.R_alloc | apply Kd.R_drewN | apply Kd.R_drew)); exact HO_11.out) hb); have n1_ := Aside0.mk (Kd.R_elder' (by (with_reducible repeat (first | apply Kd.R_alloc | apply Kd.R_drewN | apply Kd.R_drew)); exact HO_200001.out) (Kd.R_base ho0) hb); have n2_ := Aside0.mk (Kd.R_elder' (by (with_reducible repeat (first | apply Kd.R_alloc | apply Kd.R_drewN | apply Kd.R_drew)); exact HO_209001.out) (Kd.R_base ho0) hb); have n3_ := Aside0.mk (Kd.R_lower (Kd.R_new' (Kd.R_new' ho0 (Kd.R_lt (by (with_reducible repeat (first | apply Kd.R_alloc | apply Kd.R_drewN | apply Kd.R_drew)); exact HO_200001.out))) (Kd.R_lt (by (with_reducible repeat (first | apply Kd.R_alloc | apply Kd.R_drewN | apply Kd.R_drew)); exact HO_209001.out))) (below_size (by repeat (first | (with_reducible first | exact HB.out | apply below_alloc | apply pw_below_drewN | apply below_drew1 | refine below_set ?_ GE192.out | refine below_set ?_ GE199.out | refine below_set ?_ GE208.out) | exact HB.out)))); have n4_ := Aside0.mk (blk_below (g := gb192) (o := .cells #[.bool a0_0, .slice A0_1 l0_1.length c0_1, .int .i64 a0_2] 24 (0, 0)) (by (with_reducible repeat (first | refine blk_drewN ?_ _ | refine blk_drew ?_ | refine blk_alloc ?_ _)); exact BK192.out) hb); have n5_ := Aside0.mk (blk_below (g := gb199) (o := .cells #[.bool t193, .slice Ao18 t194.length co18, .int .i64 t197] 24 (0, 0)) (by (with_reducible repeat (first | refine blk_drewN ?_ _ | refine blk_drew ?_ | refine blk_alloc ?_ _)); exact BK199.out) hb); have n6_ := Aside0.mk (blk_below (g := gb208) (o := .cells #[.bool t202, .slice Ao24 t203.length co24, .int .i64 t206] 24 (0, 0)) (by (with_reducible repeat (first | refine blk_drewN ?_ _ | refine blk_drew ?_ | refine blk_alloc ?_ _)); exact BK208.out) hb); have n7_ := Aside0.mk (below_step (by repeat (first | (with_reducible first | exact HB.out | apply below_alloc | apply pw_below_drewN | apply below_drew1 | refine below_set ?_ GE192.out | refine below_set ?_ GE199.out | refine below_set ?_ GE208.out) | exact HB.out)) hb); clear HO_11; clear HO_200001; clear HO_209001; clear BK192; clear BK199; clear BK208; clear HB; have HO_11 := n0_; have HO_200001 := n1_; have HO_209001 := n2_; have HO217 := n3_; have BK192 := n4_; have BK199 := n5_; have BK208 := n6_; have HB := n7_; clear n0_ n1_ n2_ n3_ n4_ n5_ n6_ n7_; (try clear hb); (try clear hb2); (try clear hk); (try clear hi); (try clear ho0)) | ((with_reducible refine gate_dst (N := 14) rfl ?_); (try (refine gate_guard (by rfl) ?_; dsimp only)); refine box_event ?hg (N := 14) ?hd (cs := #[.bool false, .slice none 0 0, .int .i64 0]) (t := 24) ?hr ?_; (case hd => rfl); (case hg => rfl); (case hr => first | (go_simp; done) | (go_simp; rfl)); intro gb220 hg w39 hbox hb; have n0_ := Aside0.mk (Kd.R_below (by (with_reducible repeat (first | apply Kd.R_alloc | apply Kd.R_drewN | apply Kd.R_drew)); exact HO_11.out) hb); have n1_ := Aside0.mk (Kd.R_below (by (with_reducible repeat (first | apply Kd.R_alloc | apply Kd.R_drewN | apply Kd.R_drew)); exact HO_200001.out) hb); have n2_ := Aside0.mk (Kd.R_below (by (with_reducible repeat (first | apply Kd.R_alloc | apply Kd.R_drewN | apply Kd.R_drew)); exact HO_209001.out) hb); have n3_ := Aside0.mk (Kd.R_below (by (with_reducible repeat (first | apply Kd.R_alloc | apply Kd.R_drewN | apply Kd.R_drew)); exact HO217.out) hb); have n4_ := Aside0.mk (blk_below (g := gb192) (o := .cells #[.bool a0_0, .slice A0_1 l0_1.length c0_1, .int .i64 a0_2] 24 (0, 0)) (by (with_reducible repeat (first | refine blk_drewN ?_ _ | refine blk_drew ?_ | refine blk_alloc ?_ _)); exact BK192.out) hb); have n5_ := Aside0.mk (blk_below (g := gb199) (o := .cells #[.bool t193, .slice Ao18 t194.length co18, .int .i64 t197] 24 (0, 0)) (by (with_reducible repeat (first | refine blk_drewN ?_ _ | refine blk_drew ?_ | refine blk_alloc ?_ _)); exact BK199.out) hb); have n6_ := Aside0.mk (blk_below (g := gb208) (o := .cells #[.bool t202, .slice Ao24 t203.length co24, .int .i64 t206] 24 (0, 0)) (by (with_reducible repeat (first | refine blk_drewN ?_ _ | refine blk_drew ?_ | refine blk_alloc ?_ _)); exact BK208.out) hb); have n7_ := Aside0.mk (below_step (by repeat (first | (with_reducible first | exact HB.out | apply below_alloc | apply pw_below_drewN | apply below_drew1 | refine below_set ?_ GE192.out | refine below_set ?_ GE199.out | refine below_set ?_ GE208.out) | exact HB.out)) hb); have n8_ := Aside0.mk (hbox); have n9_ := Aside0.mk ((by rw [hg]; exact (below_size (by repeat (first | (with_reducible first | exact HB.out | apply below_alloc | apply pw_below_drewN | apply below_drew1 | refine below_set ?_ GE192.out | refine below_set ?_ GE199.out | refine below_set ?_ GE208.out) | exact HB.out))) : w.heap.size ≤ gb220)); have n10_ := Aside0.mk ((by rw [hg]; exact (below_size (by repeat (first | (with_reducible first | exact HB.out | apply below_alloc | apply pw_below_drewN | apply below_drew1 | refine below_set ?_ GE192.out | refine below_set ?_ GE199.out | refine below_set ?_ GE208.out) | exact HB.out))) : w.heap.size ≤ gb220)); have n11_ := Aside0.mk ((by rw [hg]; exact Nat.ne_of_lt (blk_lt (g := gb192) (o := .cells #[.bool a0_0, .slice A0_1 l0_1.length c0_1, .int .i64 a0_2] 24 (0, 0)) (by (with_reducible repeat (first | refine blk_drewN ?_ _ | refine blk_drew ?_ | refine blk_alloc ?_ _)); exact BK192.out)) : gb192 ≠ gb220)); have n12_ := Aside0.mk ((by rw [hg]; exact Nat.ne_of_gt (blk_lt (g := gb192) (o := .cells #[.bool a0_0, .slice A0_1 l0_1.length c0_1, .int .i64 a0_2] 24 (0, 0)) (by (with_reducible repeat (first | refine blk_drewN ?_ _ | refine blk_drew ?_ | refine blk_alloc ?_ _)); exact BK192.out)) : gb220 ≠ gb192)); have n13_ := Aside0.mk ((by rw [hg]; exact Nat.ne_of_lt (blk_lt (g := gb199) (o := .cells #[.bool t193, .slice Ao18 t194.length co18, .int .i64 t197] 24 (0, 0)) (by (with_reducible repeat (first | refine blk_drewN ?_ _ | refine blk_drew ?_ | refine blk_alloc ?_ _)); exact BK199.out)) : gb199 ≠ gb220)); have n14_ := Aside0.mk ((by rw [hg]; exact Nat.ne_of_gt (blk_lt (g := gb199) (o := .cells #[.bool t193, .slice Ao18 t194.length co18, .int .i64 t197] 24 (0, 0)) (by (with_reducible repeat (first | refine blk_drewN ?_ _ | refine blk_drew ?_ | refine blk_alloc ?_ _)); exact BK199.out)) : gb220 ≠ gb199)); have n15_ := Aside0.mk ((by rw [hg]; exact Nat.ne_of_lt (blk_lt (g := gb208) (o := .cells #[.bool t202, .slice Ao24 t203.length co24, .int .i64 t206] 24 (0, 0)) (by (with_reducible repeat (first | refine blk_drewN ?_ _ | refine blk_drew ?_ | refine blk_alloc ?_ _)); exact BK208.out)) : gb208 ≠ gb220)); have n16_ := Aside0.mk ((by rw [hg]; exact Nat.ne_of_gt (blk_lt (g := gb208) (o := .cells #[.bool t202, .slice Ao24 t203.length co24, .int .i64 t206] 24 (0, 0)) (by (with_reducible repeat (first | refine blk_drewN ?_ _ | refine blk_drew ?_ | refine blk_alloc ?_ _)); exact BK208.out)) : gb220 ≠ gb208)); clear HO_11; clear HO_200001; clear HO_209001; clear HO217; clear BK192; clear BK199; clear BK208; clear HB; have HO_11 := n0_; have HO_200001 := n1_; have HO_209001 := n2_; have HO217 := n3_; have BK192 := n4_; have BK199 := n5_; have BK208 := n6_; have HB := n7_; have BK220 := n8_; have GW220 := n9_; have GE220 := n10_; have NB192_220 := n11_; have NB220_192 := n12_; have NB199_220 := n13_; have NB220_199 := n14_; have NB208_220 := n15_; have NB220_208 := n16_; clear n0_ n1_ n2_ n3_ n4_ n5_ n6_ n7_ n8_ n9_ n10_ n11_ n12_ n13_ n14_ n15_ n16_; clear hb hbox hg; have hnb40 := NB220_192.out; have hnc40 := NB192_220.out; have hnb41 := NB220_199.out; have hnc41 := NB199_220.out; have hnb42 := NB220_208.out; have hnc42 := NB208_220.out; have hcz43_0 : w39.cell? ⟨gb220, 0, none⟩ = some (.bool false) := (blk_cell BK220.out 0).trans rfl; have hcz43_1 : w39.cell? ⟨gb220, 1, none⟩ = some (.slice none 0 0) := (blk_cell BK220.out 1).trans rfl; have hcz43_2 : w39.cell? ⟨gb220, 2, none⟩ = some (.int .i64 0) := (blk_cell BK220.out 2).trans rfl; have hfz43_0 := blk_frozen BK220.out 0; have hfz43_1 := blk_frozen BK220.out 1; have hfz43_2 := blk_frozen BK220.out 2; obtain ⟨Ao44, co44, eo44⟩ := Kd.R_slice HO217.out; subst eo44; have hcz45_0 : w39.cell? ⟨gb192, 0, none⟩ = some (.bool a0_0) := (blk_cell BK192.out 0).trans rfl; have hcz45_1 : w39.cell? ⟨gb192, 1, none⟩ = some (.slice A0_1 l0_1.length c0_1) := (blk_cell BK192.out 1).trans rfl; have hcz45_2 : w39.cell? ⟨gb192, 2, none⟩ = some (.int .i64 a0_2) := (blk_cell BK192.out 2).trans rfl; have hfz45_0 := blk_frozen BK192.out 0; have hfz45_1 := blk_frozen BK192.out 1; have hfz45_2 := blk_frozen BK192.out 2))
        (try simp only [Act.put, List.setIfInBounds_toArray, List.set_cons_zero, List.set_cons_succ])
        go_cut [16] (fun v16 wc => ∃ (kq : Nat) (x16_32 : Int), v16 = .int .i64 x16_32 ∧ Aside0 (erasurelaw19_FontKeeps.j2 kq a2 t207 x12_2 t219 x16_32 a0_0 l0_1 a0_2 t193 t194 t197 t202 t203 t206 t214 t215 t218 = some r) ∧ Aside0 (kq ≤ k2) ∧ Aside0 (Kd.R k37 37 wc w.heap.size (fun k_ => some k_ ≠ ((.slice Ao24 t203.length co24) : Value).ownBlock ∧ some k_ ≠ ((.slice Ao44 t215.length co44) : Value).ownBlock) (.slice Ao18 t194.length co18) t194) ∧ Aside0 (Kd.R k37 37 wc w.heap.size (fun k_ => some k_ ≠ ((.slice Ao18 t194.length co18) : Value).ownBlock ∧ some k_ ≠ ((.slice Ao44 t215.length co44) : Value).ownBlock) (.slice Ao24 t203.length co24) t203) ∧ Aside0 (Kd.R k37 37 wc w.heap.size (fun k_ => some k_ ≠ ((.slice Ao18 t194.length co18) : Value).ownBlock ∧ some k_ ≠ ((.slice Ao24 t203.length co24) : Value).ownBlock) (.slice Ao44 t215.length co44) t215) ∧ Aside0 (wc.heap[gb192]? = some (.cells #[.bool a0_0, (.slice A0_1 l0_1.length c0_1), .int .i64 a0_2] 24 (0, 0))) ∧ Aside0 (wc.heap[gb199]? = some (.cells #[.bool t193, (.slice Ao18 t194.length co18), .int .i64 t197] 24 (0, 0))) ∧ Aside0 (wc.heap[gb208]? = some (.cells #[.bool t202, (.slice Ao24 t203.length co24), .int .i64 t206] 24 (0, 0))) ∧ Aside0 (wc.heap[gb220]? = some (.cells #[.bool t214, (.slice Ao44 t215.length co44), .int .i64 t218] 24 (0, 0))) ∧ Aside0 (Below w.heap.size w wc))
        case first =>
         have H := HC33.out
         clear HC33
         by_cases c46 : a0_0 = true
         ·subst c46
          have H1 : (erasurelaw19_FontKeeps.j2 k2 a2 t207 x12_2 t219 65535 true l0_1 a0_2 t193 t194 t197 t202 t203 t206 t214 t215 t218) = some r := by rw [if_pos rfl] at H; exact H
          clear H
          have H := H1
          clear H1
          have H' := Aside0.mk H
          clear H
          go_wp2
          go_meet
          case rel => exact ⟨_, (65535), (by first | rfl | (simp; done) | (simp [*]; done) | (simp; generalize ByteArray.toList _ = l_; cases l_ <;> rfl)), H', ⟨by have := HJ3.out; have := HK2.out; first | omega | exact Nat.le_refl _⟩, ⟨by (with_reducible repeat (first | apply Kd.R_alloc | apply Kd.R_drewN | apply Kd.R_drew)); exact Kd.R_mono (Kd.R_far (p := ⟨gb220, 2, none⟩) (Kd.R_far (p := ⟨gb220, 1, none⟩) (Kd.R_far (p := ⟨gb220, 0, none⟩) (Kd.R_types HO_200001.out BK220.out (by decide)) (fun _ hk => hk.2) (.bool t214)) (fun _ hk => hk.2) (.slice Ao44 t215.length co44)) (fun _ hk => hk.2) (.int .i64 t218)) (fun _ hk => ⟨hk.1.1, hk.1.2⟩)⟩, ⟨by (with_reducible repeat (first | apply Kd.R_alloc | apply Kd.R_drewN | apply Kd.R_drew)); exact Kd.R_mono (Kd.R_far (p := ⟨gb220, 2, none⟩) (Kd.R_far (p := ⟨gb220, 1, none⟩) (Kd.R_far (p := ⟨gb220, 0, none⟩) (Kd.R_types HO_209001.out BK220.out (by decide)) (fun _ hk => hk.2) (.bool t214)) (fun _ hk => hk.2) (.slice Ao44 t215.length co44)) (fun _ hk => hk.2) (.int .i64 t218)) (fun _ hk => ⟨hk.1.1, hk.1.2⟩)⟩, ⟨by (with_reducible repeat (first | apply Kd.R_alloc | apply Kd.R_drewN | apply Kd.R_drew)); exact Kd.R_mono (Kd.R_far (p := ⟨gb220, 2, none⟩) (Kd.R_far (p := ⟨gb220, 1, none⟩) (Kd.R_far (p := ⟨gb220, 0, none⟩) (Kd.R_types HO217.out BK220.out (by decide)) (fun _ hk => hk.2) (.bool t214)) (fun _ hk => hk.2) (.slice Ao44 t215.length co44)) (fun _ hk => hk.2) (.int .i64 t218)) (fun _ hk => ⟨hk.1.1.2, hk.1.2⟩)⟩, ⟨by (with_reducible repeat (first | refine blk_drewN ?_ _ | refine blk_drew ?_ | refine blk_alloc ?_ _)); refine blk_far ?_ NB192_220.out _; (with_reducible repeat (first | refine blk_drewN ?_ _ | refine blk_drew ?_ | refine blk_alloc ?_ _)); refine blk_far ?_ NB192_220.out _; (with_reducible repeat (first | refine blk_drewN ?_ _ | refine blk_drew ?_ | refine blk_alloc ?_ _)); refine blk_far ?_ NB192_220.out _; (with_reducible repeat (first | refine blk_drewN ?_ _ | refine blk_drew ?_ | refine blk_alloc ?_ _)); exact BK192.out⟩, ⟨by (with_reducible repeat (first | refine blk_drewN ?_ _ | refine blk_drew ?_ | refine blk_alloc ?_ _)); refine blk_far ?_ NB199_220.out _; (with_reducible repeat (first | refine blk_drewN ?_ _ | refine blk_drew ?_ | refine blk_alloc ?_ _)); refine blk_far ?_ NB199_220.out _; (with_reducible repeat (first | refine blk_drewN ?_ _ | refine blk_drew ?_ | refine blk_alloc ?_ _)); refine blk_far ?_ NB199_220.out _; (with_reducible repeat (first | refine blk_drewN ?_ _ | refine blk_drew ?_ | refine blk_alloc ?_ _)); exact BK199.out⟩, ⟨by (with_reducible repeat (first | refine blk_drewN ?_ _ | refine blk_drew ?_ | refine blk_alloc ?_ _)); refine blk_far ?_ NB208_220.out _; (with_reducible repeat (first | refine blk_drewN ?_ _ | refine blk_drew ?_ | refine blk_alloc ?_ _)); refine blk_far ?_ NB208_220.out _; (with_reducible repeat (first | refine blk_drewN ?_ _ | refine blk_drew ?_ | refine blk_alloc ?_ _)); refine blk_far ?_ NB208_220.out _; (with_reducible repeat (first | refine blk_drewN ?_ _ | refine blk_drew ?_ | refine blk_alloc ?_ _)); exact BK208.out⟩, ⟨by (with_reducible repeat (first | refine blk_drewN ?_ _ | refine blk_drew ?_ | refine blk_alloc ?_ _)); refine blk_put (cs := #[.bool t214, .slice Ao44 t215.length co44, .int .i64 0]) ?_ 2 _ rfl; (with_reducible repeat (first | refine blk_drewN ?_ _ | refine blk_drew ?_ | refine blk_alloc ?_ _)); refine blk_put (cs := #[.bool t214, .slice none 0 0, .int .i64 0]) ?_ 1 _ rfl; (with_reducible repeat (first | refine blk_drewN ?_ _ | refine blk_drew ?_ | refine blk_alloc ?_ _)); refine blk_put (cs := #[.bool false, .slice none 0 0, .int .i64 0]) ?_ 0 _ rfl; (with_reducible repeat (first | refine blk_drewN ?_ _ | refine blk_drew ?_ | refine blk_alloc ?_ _)); exact BK220.out⟩, ⟨by repeat (first | (with_reducible first | exact HB.out | apply below_alloc | apply pw_below_drewN | apply below_drew1 | refine below_set ?_ GE192.out | refine below_set ?_ GE199.out | refine below_set ?_ GE208.out | refine below_set ?_ GE220.out) | exact HB.out)⟩⟩
         ·replace c46 := Bool.eq_false_iff.mpr c46
          subst c46
          have H1 : (erasurelaw19_FontKeeps.j2 k2 a2 t207 x12_2 t219 255 false l0_1 a0_2 t193 t194 t197 t202 t203 t206 t214 t215 t218) = some r := by rw [if_neg (show ¬ (false = true) by decide)] at H; exact H
          clear H
          have H := H1
          clear H1
          have H' := Aside0.mk H
          clear H
          go_wp2
          go_meet
          case rel => exact ⟨_, (255), (by first | rfl | (simp; done) | (simp [*]; done) | (simp; generalize ByteArray.toList _ = l_; cases l_ <;> rfl)), H', ⟨by have := HJ3.out; have := HK2.out; first | omega | exact Nat.le_refl _⟩, ⟨by (with_reducible repeat (first | apply Kd.R_alloc | apply Kd.R_drewN | apply Kd.R_drew)); exact Kd.R_mono (Kd.R_far (p := ⟨gb220, 2, none⟩) (Kd.R_far (p := ⟨gb220, 1, none⟩) (Kd.R_far (p := ⟨gb220, 0, none⟩) (Kd.R_types HO_200001.out BK220.out (by decide)) (fun _ hk => hk.2) (.bool t214)) (fun _ hk => hk.2) (.slice Ao44 t215.length co44)) (fun _ hk => hk.2) (.int .i64 t218)) (fun _ hk => ⟨hk.1.1, hk.1.2⟩)⟩, ⟨by (with_reducible repeat (first | apply Kd.R_alloc | apply Kd.R_drewN | apply Kd.R_drew)); exact Kd.R_mono (Kd.R_far (p := ⟨gb220, 2, none⟩) (Kd.R_far (p := ⟨gb220, 1, none⟩) (Kd.R_far (p := ⟨gb220, 0, none⟩) (Kd.R_types HO_209001.out BK220.out (by decide)) (fun _ hk => hk.2) (.bool t214)) (fun _ hk => hk.2) (.slice Ao44 t215.length co44)) (fun _ hk => hk.2) (.int .i64 t218)) (fun _ hk => ⟨hk.1.1, hk.1.2⟩)⟩, ⟨by (with_reducible repeat (first | apply Kd.R_alloc | apply Kd.R_drewN | apply Kd.R_drew)); exact Kd.R_mono (Kd.R_far (p := ⟨gb220, 2, none⟩) (Kd.R_far (p := ⟨gb220, 1, none⟩) (Kd.R_far (p := ⟨gb220, 0, none⟩) (Kd.R_types HO217.out BK220.out (by decide)) (fun _ hk => hk.2) (.bool t214)) (fun _ hk => hk.2) (.slice Ao44 t215.length co44)) (fun _ hk => hk.2) (.int .i64 t218)) (fun _ hk => ⟨hk.1.1.2, hk.1.2⟩)⟩, ⟨by (with_reducible repeat (first | refine blk_drewN ?_ _ | refine blk_drew ?_ | refine blk_alloc ?_ _)); refine blk_far ?_ NB192_220.out _; (with_reducible repeat (first | refine blk_drewN ?_ _ | refine blk_drew ?_ | refine blk_alloc ?_ _)); refine blk_far ?_ NB192_220.out _; (with_reducible repeat (first | refine blk_drewN ?_ _ | refine blk_drew ?_ | refine blk_alloc ?_ _)); refine blk_far ?_ NB192_220.out _; (with_reducible repeat (first | refine blk_drewN ?_ _ | refine blk_drew ?_ | refine blk_alloc ?_ _)); exact BK192.out⟩, ⟨by (with_reducible repeat (first | refine blk_drewN ?_ _ | refine blk_drew ?_ | refine blk_alloc ?_ _)); refine blk_far ?_ NB199_220.out _; (with_reducible repeat (first | refine blk_drewN ?_ _ | refine blk_drew ?_ | refine blk_alloc ?_ _)); refine blk_far ?_ NB199_220.out _; (with_reducible repeat (first | refine blk_drewN ?_ _ | refine blk_drew ?_ | refine blk_alloc ?_ _)); refine blk_far ?_ NB199_220.out _; (with_reducible repeat (first | refine blk_drewN ?_ _ | refine blk_drew ?_ | refine blk_alloc ?_ _)); exact BK199.out⟩, ⟨by (with_reducible repeat (first | refine blk_drewN ?_ _ | refine blk_drew ?_ | refine blk_alloc ?_ _)); refine blk_far ?_ NB208_220.out _; (with_reducible repeat (first | refine blk_drewN ?_ _ | refine blk_drew ?_ | refine blk_alloc ?_ _)); refine blk_far ?_ NB208_220.out _; (with_reducible repeat (first | refine blk_drewN ?_ _ | refine blk_drew ?_ | refine blk_alloc ?_ _)); refine blk_far ?_ NB208_220.out _; (with_reducible repeat (first | refine blk_drewN ?_ _ | refine blk_drew ?_ | refine blk_alloc ?_ _)); exact BK208.out⟩, ⟨by (with_reducible repeat (first | refine blk_drewN ?_ _ | refine blk_drew ?_ | refine blk_alloc ?_ _)); refine blk_put (cs := #[.bool t214, .slice Ao44 t215.length co44, .int .i64 0]) ?_ 2 _ rfl; (with_reducible repeat (first | refine blk_drewN ?_ _ | refine blk_drew ?_ | refine blk_alloc ?_ _)); refine blk_put (cs := #[.bool t214, .slice none 0 0, .int .i64 0]) ?_ 1 _ rfl; (with_reducible repeat (first | refine blk_drewN ?_ _ | refine blk_drew ?_ | refine blk_alloc ?_ _)); refine blk_put (cs := #[.bool false, .slice none 0 0, .int .i64 0]) ?_ 0 _ rfl; (with_reducible repeat (first | refine blk_drewN ?_ _ | refine blk_drew ?_ | refine blk_alloc ?_ _)); exact BK220.out⟩, ⟨by repeat (first | (with_reducible first | exact HB.out | apply below_alloc | apply pw_below_drewN | apply below_drew1 | refine below_set ?_ GE192.out | refine below_set ?_ GE199.out | refine below_set ?_ GE208.out | refine below_set ?_ GE220.out) | exact HB.out)⟩⟩
        case rest =>
         clear HC33
         try clear c1
         try clear c2
         try clear p2
         try clear q2
         try clear hx2
         try clear c3
         try clear c4
         try clear c6
         try clear c6b0
         try clear c6b1
         try clear p6
         try clear c9
         try clear c11
         try clear c11b0
         try clear c11b1
         try clear c16
         try clear c20
         try clear p20
         try clear q20
         try clear hx20
         try clear c21
         try clear p21
         try clear q21
         try clear hx21
         try clear c22
         try clear c25
         try clear c25b0
         try clear c26
         try clear c26b0
         try clear c27
         try clear c27b0
         try clear c28
         try clear c29
         try clear c34
         try clear c35
         try clear c40
         try clear c41
         try clear c42
         try clear c46
         try clear hcz13_0
         try clear hcz13_1
         try clear hcz13_2
         try clear hcz17_0
         try clear hcz17_1
         try clear hcz17_2
         try clear hcz23_0
         try clear hcz23_1
         try clear hcz23_2
         try clear hcz36_0
         try clear hcz36_1
         try clear hcz36_2
         try clear hcz43_0
         try clear hcz43_1
         try clear hcz43_2
         try clear hcz45_0
         try clear hcz45_1
         try clear hcz45_2
         try clear hcz7_0
         try clear hcz7_1
         try clear hcz7_2
         try clear hcz8_0
         try clear hcz8_1
         try clear hcz8_2
         try clear hfz13_0
         try clear hfz13_1
         try clear hfz13_2
         try clear hfz17_0
         try clear hfz17_1
         try clear hfz17_2
         try clear hfz23_0
         try clear hfz23_1
         try clear hfz23_2
         try clear hfz36_0
         try clear hfz36_1
         try clear hfz36_2
         try clear hfz43_0
         try clear hfz43_1
         try clear hfz43_2
         try clear hfz45_0
         try clear hfz45_1
         try clear hfz45_2
         try clear hfz7_0
         try clear hfz7_1
         try clear hfz7_2
         try clear hfz8_0
         try clear hfz8_1
         try clear hfz8_2
         try clear hx209_0
         try clear hx213_0
         try clear p2
         try clear p209
         try clear p213
         try clear p6
         try clear q209
         try clear q213
         obtain ⟨kq, x16_32, rfl, HA, HJ32, HO_200001, HO_209001, HO_221001, BK192, BK199, BK208, BK220, HB⟩ := hcut
         cases kq with
         | zero => exact absurd HA.out (by simp [erasurelaw19_FontKeeps.j2])
         | succ kj32 =>
          have H := HA.out
          clear HA
          simp only [erasurelaw19_FontKeeps.j2] at H
          replace H := Option.bind_eq_some_iff.mp H
          obtain ⟨⟨t221, t222, t223⟩, A470, H⟩ := H
          replace H : (if x12_2 = true then (if a2 ≥ 0 then (if a2 ≤ x16_32 then ((font_Find.f a0_0 l0_1 a0_2 a2).bind fun bt225 => (if (!(t221 == bt225.1) || (!(t222 == bt225.2.1) || (!(t223.toList == bt225.2.2.toList)))) = true then (erasurelaw19_FontKeeps.j3 kj32 t207 t219 true t193 t194 t197 t202 t203 t206 t214 t215 t218) else (erasurelaw19_FontKeeps.j3 kj32 t207 t219 false t193 t194 t197 t202 t203 t206 t214 t215 t218))) else (erasurelaw19_FontKeeps.j3 kj32 t207 t219 false t193 t194 t197 t202 t203 t206 t214 t215 t218)) else (erasurelaw19_FontKeeps.j3 kj32 t207 t219 false t193 t194 t197 t202 t203 t206 t214 t215 t218)) else (if t222 = 0 then (erasurelaw19_FontKeeps.j3 kj32 t207 t219 (t223.toList != ([] : List UInt8)) t193 t194 t197 t202 t203 t206 t214 t215 t218) else (erasurelaw19_FontKeeps.j3 kj32 t207 t219 true t193 t194 t197 t202 t203 t206 t214 t215 t218))) = some r := H
          have A47 := Aside0.mk A470
          clear A470
          have HC48 := Aside0.mk H
          clear H
          have hnb49 := NB199_192.out
          have hnc49 := NB192_199.out
          have hnb50 := NB199_208.out
          have hnc50 := NB208_199.out
          have hnb51 := NB199_220.out
          have hnc51 := NB220_199.out
          have hcz52_0 : wc.cell? ⟨gb199, 0, none⟩ = some (.bool t193) := (blk_cell BK199.out 0).trans rfl
          have hcz52_1 : wc.cell? ⟨gb199, 1, none⟩ = some (.slice Ao18 t194.length co18) := (blk_cell BK199.out 1).trans rfl
          have hcz52_2 : wc.cell? ⟨gb199, 2, none⟩ = some (.int .i64 t197) := (blk_cell BK199.out 2).trans rfl
          have hfz52_0 := blk_frozen BK199.out 0
          have hfz52_1 := blk_frozen BK199.out 1
          have hfz52_2 := blk_frozen BK199.out 2
          go_upto_region 19 with (first | ((with_reducible refine gate_callee (f := 18) rfl ?_); refine goesL_ (some 81) rfl rfl Try.func18 (by kernel_rfl) rfl #[.agg #[.bool t193, .slice Ao18 t194.length co18, .int .i64 t197], .int .i64 a2] rfl (by (try simp only [List.map_toArray, List.map_cons, List.map_nil]); first | done | rfl | (simp only [List.length_drop, List.length_take]; rfl)) ?_; (with_reducible refine (font_Find.calls t193 _ _ t194 t197 a2 t221 t222 t223 _ ?side1 ?side2 A47.out).mono ?_); (case side1 => repeat (first | exact (Kd.R_reads' HO_200001.out).2.2 | (with_reducible refine Kd.C_alloc ?_ _) | (with_reducible refine Kd.C_drewN ?_ _) | (with_reducible refine Kd.C_drew ?_))); (case side2 => exact (Kd.R_reads' HO_200001.out).2.1); rintro e w53 ⟨rfl, hb⟩; refine ⟨_, rfl, ?_⟩; have n0_ := Aside0.mk (Kd.R_below (by (with_reducible repeat (first | apply Kd.R_alloc | apply Kd.R_drewN | apply Kd.R_drew)); exact HO_200001.out) hb); have n1_ := Aside0.mk (Kd.R_below (by (with_reducible repeat (first | apply Kd.R_alloc | apply Kd.R_drewN | apply Kd.R_drew)); exact HO_209001.out) hb); have n2_ := Aside0.mk (Kd.R_below (by (with_reducible repeat (first | apply Kd.R_alloc | apply Kd.R_drewN | apply Kd.R_drew)); exact HO_221001.out) hb); have n3_ := Aside0.mk (blk_below (g := gb192) (o := .cells #[.bool a0_0, .slice A0_1 l0_1.length c0_1, .int .i64 a0_2] 24 (0, 0)) (by (with_reducible repeat (first | refine blk_drewN ?_ _ | refine blk_drew ?_ | refine blk_alloc ?_ _)); exact BK192.out) hb); have n4_ := Aside0.mk (blk_below (g := gb199) (o := .cells #[.bool t193, .slice Ao18 t194.length co18, .int .i64 t197] 24 (0, 0)) (by (with_reducible repeat (first | refine blk_drewN ?_ _ | refine blk_drew ?_ | refine blk_alloc ?_ _)); exact BK199.out) hb); have n5_ := Aside0.mk (blk_below (g := gb208) (o := .cells #[.bool t202, .slice Ao24 t203.length co24, .int .i64 t206] 24 (0, 0)) (by (with_reducible repeat (first | refine blk_drewN ?_ _ | refine blk_drew ?_ | refine blk_alloc ?_ _)); exact BK208.out) hb); have n6_ := Aside0.mk (blk_below (g := gb220) (o := .cells #[.bool t214, .slice Ao44 t215.length co44, .int .i64 t218] 24 (0, 0)) (by (with_reducible repeat (first | refine blk_drewN ?_ _ | refine blk_drew ?_ | refine blk_alloc ?_ _)); exact BK220.out) hb); have n7_ := Aside0.mk (below_step (by repeat (first | (with_reducible first | exact HB.out | apply below_alloc | apply pw_below_drewN | apply below_drew1 | refine below_set ?_ GE192.out | refine below_set ?_ GE199.out | refine below_set ?_ GE208.out | refine below_set ?_ GE220.out) | exact HB.out)) hb); clear HO_200001; clear HO_209001; clear HO_221001; clear BK192; clear BK199; clear BK208; clear BK220; clear HB; have HO_200001 := n0_; have HO_209001 := n1_; have HO_221001 := n2_; have BK192 := n3_; have BK199 := n4_; have BK208 := n5_; have BK220 := n6_; have HB := n7_; clear n0_ n1_ n2_ n3_ n4_ n5_ n6_ n7_; (try clear hb); (try clear hb2); (try clear hk); (try clear hi)) | ((with_reducible refine gate_dst (N := 17) rfl ?_); (try (refine gate_guard (by rfl) ?_; dsimp only)); refine box_event ?hg (N := 17) ?hd (cs := #[.int .i64 0, .int .i64 0, .string (⟨#[]⟩ : ByteArray)]) (t := 37) ?hr ?_; (case hd => rfl); (case hg => rfl); (case hr => first | (go_simp; done) | (go_simp; rfl)); intro gb224 hg w54 hbox hb; have n0_ := Aside0.mk (Kd.R_below (Kd.R_elderB (by (with_reducible repeat (first | apply Kd.R_alloc | apply Kd.R_drewN | apply Kd.R_drew)); exact HO_200001.out) gb224 (Nat.le_of_eq hg.symm)) hb); have n1_ := Aside0.mk (Kd.R_below (Kd.R_elderB (by (with_reducible repeat (first | apply Kd.R_alloc | apply Kd.R_drewN | apply Kd.R_drew)); exact HO_209001.out) gb224 (Nat.le_of_eq hg.symm)) hb); have n2_ := Aside0.mk (Kd.R_below (Kd.R_elderB (by (with_reducible repeat (first | apply Kd.R_alloc | apply Kd.R_drewN | apply Kd.R_drew)); exact HO_221001.out) gb224 (Nat.le_of_eq hg.symm)) hb); have n3_ := Aside0.mk (blk_below (g := gb192) (o := .cells #[.bool a0_0, .slice A0_1 l0_1.length c0_1, .int .i64 a0_2] 24 (0, 0)) (by (with_reducible repeat (first | refine blk_drewN ?_ _ | refine blk_drew ?_ | refine blk_alloc ?_ _)); exact BK192.out) hb); have n4_ := Aside0.mk (blk_below (g := gb199) (o := .cells #[.bool t193, .slice Ao18 t194.length co18, .int .i64 t197] 24 (0, 0)) (by (with_reducible repeat (first | refine blk_drewN ?_ _ | refine blk_drew ?_ | refine blk_alloc ?_ _)); exact BK199.out) hb); have n5_ := Aside0.mk (blk_below (g := gb208) (o := .cells #[.bool t202, .slice Ao24 t203.length co24, .int .i64 t206] 24 (0, 0)) (by (with_reducible repeat (first | refine blk_drewN ?_ _ | refine blk_drew ?_ | refine blk_alloc ?_ _)); exact BK208.out) hb); have n6_ := Aside0.mk (blk_below (g := gb220) (o := .cells #[.bool t214, .slice Ao44 t215.length co44, .int .i64 t218] 24 (0, 0)) (by (with_reducible repeat (first | refine blk_drewN ?_ _ | refine blk_drew ?_ | refine blk_alloc ?_ _)); exact BK220.out) hb); have n7_ := Aside0.mk (below_step (by repeat (first | (with_reducible first | exact HB.out | apply below_alloc | apply pw_below_drewN | apply below_drew1 | refine below_set ?_ GE192.out | refine below_set ?_ GE199.out | refine below_set ?_ GE208.out | refine below_set ?_ GE220.out) | exact HB.out)) hb); have n8_ := Aside0.mk (hbox); have n9_ := Aside0.mk ((by rw [hg]; exact (below_size (by repeat (first | (with_reducible first | exact HB.out | apply below_alloc | apply pw_below_drewN | apply below_drew1 | refine below_set ?_ GE192.out | refine below_set ?_ GE199.out | refine below_set ?_ GE208.out | refine below_set ?_ GE220.out) | exact HB.out))) : w.heap.size ≤ gb224)); have n10_ := Aside0.mk ((by rw [hg]; exact (below_size (by repeat (first | (with_reducible first | exact HB.out | apply below_alloc | apply pw_below_drewN | apply below_drew1 | refine below_set ?_ GE192.out | refine below_set ?_ GE199.out | refine below_set ?_ GE208.out | refine below_set ?_ GE220.out) | exact HB.out))) : w.heap.size ≤ gb224)); have n11_ := Aside0.mk ((by rw [hg]; exact Nat.ne_of_lt (blk_lt (g := gb192) (o := .cells #[.bool a0_0, .slice A0_1 l0_1.length c0_1, .int .i64 a0_2] 24 (0, 0)) (by (with_reducible repeat (first | refine blk_drewN ?_ _ | refine blk_drew ?_ | refine blk_alloc ?_ _)); exact BK192.out)) : gb192 ≠ gb224)); have n12_ := Aside0.mk ((by rw [hg]; exact Nat.ne_of_gt (blk_lt (g := gb192) (o := .cells #[.bool a0_0, .slice A0_1 l0_1.length c0_1, .int .i64 a0_2] 24 (0, 0)) (by (with_reducible repeat (first | refine blk_drewN ?_ _ | refine blk_drew ?_ | refine blk_alloc ?_ _)); exact BK192.out)) : gb224 ≠ gb192)); have n13_ := Aside0.mk ((by rw [hg]; exact Nat.ne_of_lt (blk_lt (g := gb199) (o := .cells #[.bool t193, .slice Ao18 t194.length co18, .int .i64 t197] 24 (0, 0)) (by (with_reducible repeat (first | refine blk_drewN ?_ _ | refine blk_drew ?_ | refine blk_alloc ?_ _)); exact BK199.out)) : gb199 ≠ gb224)); have n14_ := Aside0.mk ((by rw [hg]; exact Nat.ne_of_gt (blk_lt (g := gb199) (o := .cells #[.bool t193, .slice Ao18 t194.length co18, .int .i64 t197] 24 (0, 0)) (by (with_reducible repeat (first | refine blk_drewN ?_ _ | refine blk_drew ?_ | refine blk_alloc ?_ _)); exact BK199.out)) : gb224 ≠ gb199)); have n15_ := Aside0.mk ((by rw [hg]; exact Nat.ne_of_lt (blk_lt (g := gb208) (o := .cells #[.bool t202, .slice Ao24 t203.length co24, .int .i64 t206] 24 (0, 0)) (by (with_reducible repeat (first | refine blk_drewN ?_ _ | refine blk_drew ?_ | refine blk_alloc ?_ _)); exact BK208.out)) : gb208 ≠ gb224)); have n16_ := Aside0.mk ((by rw [hg]; exact Nat.ne_of_gt (blk_lt (g := gb208) (o := .cells #[.bool t202, .slice Ao24 t203.length co24, .int .i64 t206] 24 (0, 0)) (by (with_reducible repeat (first | refine blk_drewN ?_ _ | refine blk_drew ?_ | refine blk_alloc ?_ _)); exact BK208.out)) : gb224 ≠ gb208)); have n17_ := Aside0.mk ((by rw [hg]; exact Nat.ne_of_lt (blk_lt (g := gb220) (o := .cells #[.bool t214, .slice Ao44 t215.length co44, .int .i64 t218] 24 (0, 0)) (by (with_reducible repeat (first | refine blk_drewN ?_ _ | refine blk_drew ?_ | refine blk_alloc ?_ _)); exact BK220.out)) : gb220 ≠ gb224)); have n18_ := Aside0.mk ((by rw [hg]; exact Nat.ne_of_gt (blk_lt (g := gb220) (o := .cells #[.bool t214, .slice Ao44 t215.length co44, .int .i64 t218] 24 (0, 0)) (by (with_reducible repeat (first | refine blk_drewN ?_ _ | refine blk_drew ?_ | refine blk_alloc ?_ _)); exact BK220.out)) : gb224 ≠ gb220)); clear HO_200001; clear HO_209001; clear HO_221001; clear BK192; clear BK199; clear BK208; clear BK220; clear HB; have HO_200001 := n0_; have HO_209001 := n1_; have HO_221001 := n2_; have BK192 := n3_; have BK199 := n4_; have BK208 := n5_; have BK220 := n6_; have HB := n7_; have BK224 := n8_; have GW224 := n9_; have GE224 := n10_; have NB192_224 := n11_; have NB224_192 := n12_; have NB199_224 := n13_; have NB224_199 := n14_; have NB208_224 := n15_; have NB224_208 := n16_; have NB220_224 := n17_; have NB224_220 := n18_; clear n0_ n1_ n2_ n3_ n4_ n5_ n6_ n7_ n8_ n9_ n10_ n11_ n12_ n13_ n14_ n15_ n16_ n17_ n18_; clear hb hbox hg; have hnb55 := NB224_192.out; have hnc55 := NB192_224.out; have hnb56 := NB224_199.out; have hnc56 := NB199_224.out; have hnb57 := NB224_208.out; have hnc57 := NB208_224.out; have hnb58 := NB224_220.out; have hnc58 := NB220_224.out; have hcz59_0 : w54.cell? ⟨gb224, 0, none⟩ = some (.int .i64 0) := (blk_cell BK224.out 0).trans rfl; have hcz59_1 : w54.cell? ⟨gb224, 1, none⟩ = some (.int .i64 0) := (blk_cell BK224.out 1).trans rfl; have hcz59_2 : w54.cell? ⟨gb224, 2, none⟩ = some (.string (⟨#[]⟩ : ByteArray)) := (blk_cell BK224.out 2).trans rfl; have hfz59_0 := blk_frozen BK224.out 0; have hfz59_1 := blk_frozen BK224.out 1; have hfz59_2 := blk_frozen BK224.out 2))
          (try simp only [Act.put, List.setIfInBounds_toArray, List.set_cons_zero, List.set_cons_succ])
          go_cut [112] (fun v112 wc => ∃ (kq : Nat) (x112_47 : Bool), v112 = .bool x112_47 ∧ Aside0 (erasurelaw19_FontKeeps.j3 kq t207 t219 x112_47 t193 t194 t197 t202 t203 t206 t214 t215 t218 = some r) ∧ Aside0 (kq ≤ kj32) ∧ Aside0 (Kd.R k37 37 wc w.heap.size (fun k_ => some k_ ≠ ((.slice Ao24 t203.length co24) : Value).ownBlock ∧ some k_ ≠ ((.slice Ao44 t215.length co44) : Value).ownBlock ∧ k_ ≠ gb224) (.slice Ao18 t194.length co18) t194) ∧ Aside0 (Kd.R k37 37 wc w.heap.size (fun k_ => some k_ ≠ ((.slice Ao18 t194.length co18) : Value).ownBlock ∧ some k_ ≠ ((.slice Ao44 t215.length co44) : Value).ownBlock ∧ k_ ≠ gb224) (.slice Ao24 t203.length co24) t203) ∧ Aside0 (Kd.R k37 37 wc w.heap.size (fun k_ => some k_ ≠ ((.slice Ao18 t194.length co18) : Value).ownBlock ∧ some k_ ≠ ((.slice Ao24 t203.length co24) : Value).ownBlock ∧ k_ ≠ gb224) (.slice Ao44 t215.length co44) t215) ∧ Aside0 (wc.heap[gb192]? = some (.cells #[.bool a0_0, (.slice A0_1 l0_1.length c0_1), .int .i64 a0_2] 24 (0, 0))) ∧ Aside0 (wc.heap[gb199]? = some (.cells #[.bool t193, (.slice Ao18 t194.length co18), .int .i64 t197] 24 (0, 0))) ∧ Aside0 (wc.heap[gb208]? = some (.cells #[.bool t202, (.slice Ao24 t203.length co24), .int .i64 t206] 24 (0, 0))) ∧ Aside0 (wc.heap[gb220]? = some (.cells #[.bool t214, (.slice Ao44 t215.length co44), .int .i64 t218] 24 (0, 0))) ∧ Aside0 (wc.heap[gb224]? = some (.cells #[.int .i64 t221, .int .i64 t222, .string t223] 37 (0, 0))) ∧ Aside0 (Below w.heap.size w wc))
          case first =>
           have H := HC48.out
           clear HC48
           by_cases c60 : x12_2 = true
           ·subst c60
            have H1 : (if a2 ≥ 0 then (if a2 ≤ x16_32 then ((font_Find.f a0_0 l0_1 a0_2 a2).bind fun bt225 => (if (!(t221 == bt225.1) || (!(t222 == bt225.2.1) || (!(t223.toList == bt225.2.2.toList)))) = true then (erasurelaw19_FontKeeps.j3 kj32 t207 t219 true t193 t194 t197 t202 t203 t206 t214 t215 t218) else (erasurelaw19_FontKeeps.j3 kj32 t207 t219 false t193 t194 t197 t202 t203 t206 t214 t215 t218))) else (erasurelaw19_FontKeeps.j3 kj32 t207 t219 false t193 t194 t197 t202 t203 t206 t214 t215 t218)) else (erasurelaw19_FontKeeps.j3 kj32 t207 t219 false t193 t194 t197 t202 t203 t206 t214 t215 t218)) = some r := by rw [if_pos rfl] at H; exact H
            clear H
            have H := H1
            clear H1
            by_cases c61 : a2 ≥ 0
            ·rw [if_pos c61] at H
             have c61b0 : decide (0 ≤ a2) = true := decide_eq_true c61
             clear c61
             (first | rw [c61b0] | (simp only [i64_w, i32_w]; rw [c61b0]) | skip)
             by_cases c62 : a2 ≤ x16_32
             ·rw [if_pos c62] at H
              have c62b0 : decide (a2 ≤ x16_32) = true := decide_eq_true c62
              clear c62
              replace H := Option.bind_eq_some_iff.mp H
              obtain ⟨⟨t225, t226, t227⟩, A630, H⟩ := H
              replace H : (if (!(t221 == t225) || (!(t222 == t226) || (!(t223.toList == t227.toList)))) = true then (erasurelaw19_FontKeeps.j3 kj32 t207 t219 true t193 t194 t197 t202 t203 t206 t214 t215 t218) else (erasurelaw19_FontKeeps.j3 kj32 t207 t219 false t193 t194 t197 t202 t203 t206 t214 t215 t218)) = some r := H
              have A63 := Aside0.mk A630
              clear A630
              by_cases c64 : (!(t221 == t225) || (!(t222 == t226) || (!(t223.toList == t227.toList)))) = true
              ·rw [if_pos c64] at H
               have c64b0 : (!(t221 == t225) || (!(t222 == t226) || (!(t223.toList == t227.toList)))) = true := c64
               clear c64
               have H' := Aside0.mk H
               clear H
               try go_wp2
               have n0_ : Aside0 (Kd.R k37 37 (((w54.setCell ⟨gb224, 0, none⟩ (.int .i64 t221)).setCell ⟨gb224, 1, none⟩ (.int .i64 t222)).setCell ⟨gb224, 2, none⟩ (.string t223)) w.heap.size (fun k_ => some k_ ≠ (.slice Ao24 t203.length co24 : Value).ownBlock ∧ some k_ ≠ (.slice Ao44 t215.length co44 : Value).ownBlock ∧ k_ ≠ gb224) (.slice Ao18 t194.length co18) t194) := ⟨by (with_reducible repeat (first | apply Kd.R_alloc | apply Kd.R_drewN | apply Kd.R_drew)); exact Kd.R_mono (Kd.R_far (p := ⟨gb224, 2, none⟩) (Kd.R_far (p := ⟨gb224, 1, none⟩) (Kd.R_far (p := ⟨gb224, 0, none⟩) (Kd.R_mono HO_200001.out (fun k_ hk => (⟨hk, hk.2⟩ : _ ∧ k_ ≠ gb224))) (fun _ hk => hk.2) (.int .i64 t221)) (fun _ hk => hk.2) (.int .i64 t222)) (fun _ hk => hk.2) (.string t223)) (fun _ hk => ⟨hk.1.1.1, ⟨hk.1.1.2, hk.1.2⟩⟩)⟩
               have n1_ : Aside0 (Kd.R k37 37 (((w54.setCell ⟨gb224, 0, none⟩ (.int .i64 t221)).setCell ⟨gb224, 1, none⟩ (.int .i64 t222)).setCell ⟨gb224, 2, none⟩ (.string t223)) w.heap.size (fun k_ => some k_ ≠ (.slice Ao18 t194.length co18 : Value).ownBlock ∧ some k_ ≠ (.slice Ao44 t215.length co44 : Value).ownBlock ∧ k_ ≠ gb224) (.slice Ao24 t203.length co24) t203) := ⟨by (with_reducible repeat (first | apply Kd.R_alloc | apply Kd.R_drewN | apply Kd.R_drew)); exact Kd.R_mono (Kd.R_far (p := ⟨gb224, 2, none⟩) (Kd.R_far (p := ⟨gb224, 1, none⟩) (Kd.R_far (p := ⟨gb224, 0, none⟩) (Kd.R_mono HO_209001.out (fun k_ hk => (⟨hk, hk.2⟩ : _ ∧ k_ ≠ gb224))) (fun _ hk => hk.2) (.int .i64 t221)) (fun _ hk => hk.2) (.int .i64 t222)) (fun _ hk => hk.2) (.string t223)) (fun _ hk => ⟨hk.1.1.1, ⟨hk.1.1.2, hk.1.2⟩⟩)⟩
               have n2_ : Aside0 (Kd.R k37 37 (((w54.setCell ⟨gb224, 0, none⟩ (.int .i64 t221)).setCell ⟨gb224, 1, none⟩ (.int .i64 t222)).setCell ⟨gb224, 2, none⟩ (.string t223)) w.heap.size (fun k_ => some k_ ≠ (.slice Ao18 t194.length co18 : Value).ownBlock ∧ some k_ ≠ (.slice Ao24 t203.length co24 : Value).ownBlock ∧ k_ ≠ gb224) (.slice Ao44 t215.length co44) t215) := ⟨by (with_reducible repeat (first | apply Kd.R_alloc | apply Kd.R_drewN | apply Kd.R_drew)); exact Kd.R_mono (Kd.R_far (p := ⟨gb224, 2, none⟩) (Kd.R_far (p := ⟨gb224, 1, none⟩) (Kd.R_far (p := ⟨gb224, 0, none⟩) (Kd.R_mono HO_221001.out (fun k_ hk => (⟨hk, hk.2⟩ : _ ∧ k_ ≠ gb224))) (fun _ hk => hk.2) (.int .i64 t221)) (fun _ hk => hk.2) (.int .i64 t222)) (fun _ hk => hk.2) (.string t223)) (fun _ hk => ⟨hk.1.1.1, ⟨hk.1.1.2, hk.1.2⟩⟩)⟩
               have n3_ : Aside0 ((((w54.setCell ⟨gb224, 0, none⟩ (.int .i64 t221)).setCell ⟨gb224, 1, none⟩ (.int .i64 t222)).setCell ⟨gb224, 2, none⟩ (.string t223)).heap[gb192]? = some (.cells #[.bool a0_0, .slice A0_1 l0_1.length c0_1, .int .i64 a0_2] 24 (0, 0))) := ⟨by (with_reducible repeat (first | refine blk_drewN ?_ _ | refine blk_drew ?_ | refine blk_alloc ?_ _)); refine blk_far ?_ NB192_224.out _; (with_reducible repeat (first | refine blk_drewN ?_ _ | refine blk_drew ?_ | refine blk_alloc ?_ _)); refine blk_far ?_ NB192_224.out _; (with_reducible repeat (first | refine blk_drewN ?_ _ | refine blk_drew ?_ | refine blk_alloc ?_ _)); refine blk_far ?_ NB192_224.out _; (with_reducible repeat (first | refine blk_drewN ?_ _ | refine blk_drew ?_ | refine blk_alloc ?_ _)); exact BK192.out⟩
               have n4_ : Aside0 ((((w54.setCell ⟨gb224, 0, none⟩ (.int .i64 t221)).setCell ⟨gb224, 1, none⟩ (.int .i64 t222)).setCell ⟨gb224, 2, none⟩ (.string t223)).heap[gb199]? = some (.cells #[.bool t193, .slice Ao18 t194.length co18, .int .i64 t197] 24 (0, 0))) := ⟨by (with_reducible repeat (first | refine blk_drewN ?_ _ | refine blk_drew ?_ | refine blk_alloc ?_ _)); refine blk_far ?_ NB199_224.out _; (with_reducible repeat (first | refine blk_drewN ?_ _ | refine blk_drew ?_ | refine blk_alloc ?_ _)); refine blk_far ?_ NB199_224.out _; (with_reducible repeat (first | refine blk_drewN ?_ _ | refine blk_drew ?_ | refine blk_alloc ?_ _)); refine blk_far ?_ NB199_224.out _; (with_reducible repeat (first | refine blk_drewN ?_ _ | refine blk_drew ?_ | refine blk_alloc ?_ _)); exact BK199.out⟩
               have n5_ : Aside0 ((((w54.setCell ⟨gb224, 0, none⟩ (.int .i64 t221)).setCell ⟨gb224, 1, none⟩ (.int .i64 t222)).setCell ⟨gb224, 2, none⟩ (.string t223)).heap[gb208]? = some (.cells #[.bool t202, .slice Ao24 t203.length co24, .int .i64 t206] 24 (0, 0))) := ⟨by (with_reducible repeat (first | refine blk_drewN ?_ _ | refine blk_drew ?_ | refine blk_alloc ?_ _)); refine blk_far ?_ NB208_224.out _; (with_reducible repeat (first | refine blk_drewN ?_ _ | refine blk_drew ?_ | refine blk_alloc ?_ _)); refine blk_far ?_ NB208_224.out _; (with_reducible repeat (first | refine blk_drewN ?_ _ | refine blk_drew ?_ | refine blk_alloc ?_ _)); refine blk_far ?_ NB208_224.out _; (with_reducible repeat (first | refine blk_drewN ?_ _ | refine blk_drew ?_ | refine blk_alloc ?_ _)); exact BK208.out⟩
               have n6_ : Aside0 ((((w54.setCell ⟨gb224, 0, none⟩ (.int .i64 t221)).setCell ⟨gb224, 1, none⟩ (.int .i64 t222)).setCell ⟨gb224, 2, none⟩ (.string t223)).heap[gb220]? = some (.cells #[.bool t214, .slice Ao44 t215.length co44, .int .i64 t218] 24 (0, 0))) := ⟨by (with_reducible repeat (first | refine blk_drewN ?_ _ | refine blk_drew ?_ | refine blk_alloc ?_ _)); refine blk_far ?_ NB220_224.out _; (with_reducible repeat (first | refine blk_drewN ?_ _ | refine blk_drew ?_ | refine blk_alloc ?_ _)); refine blk_far ?_ NB220_224.out _; (with_reducible repeat (first | refine blk_drewN ?_ _ | refine blk_drew ?_ | refine blk_alloc ?_ _)); refine blk_far ?_ NB220_224.out _; (with_reducible repeat (first | refine blk_drewN ?_ _ | refine blk_drew ?_ | refine blk_alloc ?_ _)); exact BK220.out⟩
               have n7_ : Aside0 ((((w54.setCell ⟨gb224, 0, none⟩ (.int .i64 t221)).setCell ⟨gb224, 1, none⟩ (.int .i64 t222)).setCell ⟨gb224, 2, none⟩ (.string t223)).heap[gb224]? = some (.cells #[.int .i64 t221, .int .i64 t222, .string t223] 37 (0, 0))) := ⟨by (with_reducible repeat (first | refine blk_drewN ?_ _ | refine blk_drew ?_ | refine blk_alloc ?_ _)); refine blk_put (cs := #[.int .i64 t221, .int .i64 t222, .string (⟨#[]⟩ : ByteArray)]) ?_ 2 _ rfl; (with_reducible repeat (first | refine blk_drewN ?_ _ | refine blk_drew ?_ | refine blk_alloc ?_ _)); refine blk_put (cs := #[.int .i64 t221, .int .i64 0, .string (⟨#[]⟩ : ByteArray)]) ?_ 1 _ rfl; (with_reducible repeat (first | refine blk_drewN ?_ _ | refine blk_drew ?_ | refine blk_alloc ?_ _)); refine blk_put (cs := #[.int .i64 0, .int .i64 0, .string (⟨#[]⟩ : ByteArray)]) ?_ 0 _ rfl; (with_reducible repeat (first | refine blk_drewN ?_ _ | refine blk_drew ?_ | refine blk_alloc ?_ _)); exact BK224.out⟩
               have n8_ : Aside0 (Below w.heap.size w (((w54.setCell ⟨gb224, 0, none⟩ (.int .i64 t221)).setCell ⟨gb224, 1, none⟩ (.int .i64 t222)).setCell ⟨gb224, 2, none⟩ (.string t223))) := ⟨by repeat (first | (with_reducible first | exact HB.out | apply below_alloc | apply pw_below_drewN | apply below_drew1 | refine below_set ?_ GE192.out | refine below_set ?_ GE199.out | refine below_set ?_ GE208.out | refine below_set ?_ GE220.out | refine below_set ?_ GE224.out) | exact HB.out)⟩
               (try clear HO_200001)
               (try clear HO_209001)
               (try clear HO_221001)
               (try clear BK192)
               (try clear BK199)
               (try clear BK208)
               (try clear BK220)
               (try clear BK224)
               (try clear HB)
               generalize (((w54.setCell ⟨gb224, 0, none⟩ (.int .i64 t221)).setCell ⟨gb224, 1, none⟩ (.int .i64 t222)).setCell ⟨gb224, 2, none⟩ (.string t223)) = w65 at n0_ n1_ n2_ n3_ n4_ n5_ n6_ n7_ n8_ ⊢
               have HO_200001 := n0_
               have HO_209001 := n1_
               have HO_221001 := n2_
               have BK192 := n3_
               have BK199 := n4_
               have BK208 := n5_
               have BK220 := n6_
               have BK224 := n7_
               have HB := n8_
               clear n0_ n1_ n2_ n3_ n4_ n5_ n6_ n7_ n8_
               have n0_ := Aside0.mk (Kd.R_drew HO_200001.out)
               have n1_ := Aside0.mk (Kd.R_drew HO_209001.out)
               have n2_ := Aside0.mk (Kd.R_drew HO_221001.out)
               have n3_ := Aside0.mk (blk_drew BK192.out)
               have n4_ := Aside0.mk (blk_drew BK199.out)
               have n5_ := Aside0.mk (blk_drew BK208.out)
               have n6_ := Aside0.mk (blk_drew BK220.out)
               have n7_ := Aside0.mk (blk_drew BK224.out)
               have n8_ := Aside0.mk (below_drew1 HB.out)
               clear HO_200001
               clear HO_209001
               clear HO_221001
               clear BK192
               clear BK199
               clear BK208
               clear BK220
               clear BK224
               clear HB
               have HO_200001 := n0_
               have HO_209001 := n1_
               have HO_221001 := n2_
               have BK192 := n3_
               have BK199 := n4_
               have BK208 := n5_
               have BK220 := n6_
               have BK224 := n7_
               have HB := n8_
               clear n0_ n1_ n2_ n3_ n4_ n5_ n6_ n7_ n8_
               refine start_ (n := 31) (S := fun w' => w'.cell? ⟨gb224, 0, none⟩ = some (.int .i64 t221) ∧ w'.cell? ⟨gb224, 1, none⟩ = some (.int .i64 t222) ∧ w'.cell? ⟨gb224, 2, none⟩ = some (.string t223) ∧ w'.cell? ⟨gb192, 0, none⟩ = some (.bool a0_0) ∧ w'.cell? ⟨gb192, 1, none⟩ = some (.slice A0_1 l0_1.length c0_1) ∧ w'.cell? ⟨gb192, 2, none⟩ = some (.int .i64 a0_2)) (ds := []) (tk_ 31 0) (by kernel_rfl) rfl (by kernel_rfl) ⟨(blk_cell BK224.out 0).trans rfl, (blk_cell BK224.out 1).trans rfl, (blk_cell BK224.out 2).trans rfl, (blk_cell BK192.out 0).trans rfl, (blk_cell BK192.out 1).trans rfl, (blk_cell BK192.out 2).trans rfl⟩ (fun hHeld => ?_); refine with_tabW erasurelaw19_FontKeeps.tab19 erasurelaw19_FontKeeps.bits19 (fun HT_ HW_ => ?_)
               generalize w65.drew = w66 at HO_200001 HO_209001 HO_221001 BK192 BK199 BK208 BK220 BK224 HB hHeld ⊢
               refine pu_ 0 82 (tk_ 31 1) HT_.out rfl rfl (by kernel_rfl) (fun _ _ _ h => h) (by rfl) (fun w' => by go_simp; with_reducible rfl) (by simp only [s0_, s1_, s2_, s3_, s4_, s5_]; rfl) ?_
               refine pu_ 1 83 (tk_ 31 3) HT_.out rfl rfl (by kernel_rfl) (fun _ _ _ h => h) (by rfl) (fun w' => by go_simp; with_reducible rfl) (by simp only [s0_, s1_, s2_, s3_, s4_, s5_]; rfl) ?_
               refine pu_ 2 84 (tk_ 31 7) HT_.out rfl rfl (by kernel_rfl) (fun _ _ _ h => h) (by rfl) (fun w' => by go_simp; with_reducible rfl) (by simp only [s0_, s1_, s2_, s3_, s4_, s5_]; rfl) ?_
               refine pu_ 3 85 (tk_ 31 15) HT_.out rfl rfl (by kernel_rfl) (fun _ _ _ h => h) (by rfl) (fun w' => by go_simp; with_reducible rfl) (by simp only [s0_, s1_, s2_, s3_, s4_, s5_]; rfl) ?_
               refine pu_ 4 86 (tk_ 31 31) HT_.out rfl rfl (by kernel_rfl) (fun _ _ _ h => h) (by rfl) (fun w' => by go_simp; with_reducible rfl) (by simp only [s0_, s1_, s2_, s3_, s4_, s5_]; rfl) ?_
               refine pu_ 5 87 (tk_ 31 63) HT_.out rfl rfl (by kernel_rfl) (fun _ _ _ h => h) (by rfl) (fun w' => by go_simp; with_reducible rfl) (by simp only [s0_, s1_, s2_, s3_, s4_, s5_]; rfl) ?_
               refine pu_ 6 88 (tk_ 31 127) HT_.out rfl rfl (by kernel_rfl) (fun _ _ _ h => h) (by rfl) (fun w' => by go_simp; with_reducible rfl) (by simp only [s0_, s1_, s2_, s3_, s4_, s5_]; rfl) ?_
               refine pu_ 7 89 (tk_ 31 255) HT_.out rfl rfl (by kernel_rfl) (fun _ _ _ h => h) (by rfl) (fun w' => by go_simp; with_reducible rfl) (by simp only [s0_, s1_, s2_, s3_, s4_, s5_]; rfl) ?_
               refine pu_ 8 90 (tk_ 31 511) HT_.out rfl rfl (by kernel_rfl) (fun _ _ _ h => h) (by rfl) (fun w' => by go_simp; with_reducible rfl) (by simp only [s0_, s1_, s2_, s3_, s4_, s5_]; rfl) ?_
               refine pu_ 9 91 (tk_ 31 1023) HT_.out rfl rfl (by kernel_rfl) (fun _ _ _ h => h) (by rfl) (fun w' => by go_simp; with_reducible rfl) (by simp only [s0_, s1_, s2_, s3_, s4_, s5_]; rfl) ?_
               refine pu_ 10 92 (tk_ 31 2047) HT_.out rfl rfl (by kernel_rfl) (fun _ _ _ h => h) (by rfl) (fun w' => by go_simp; with_reducible rfl) (by simp only [s0_, s1_, s2_, s3_, s4_, s5_]; rfl) ?_
               refine pu_ 13 95 (tk_ 31 10239) HT_.out rfl rfl (by kernel_rfl) (fun _ _ _ h => h) (by rfl) (fun w' => by go_simp; with_reducible rfl) (by simp only [s0_, s1_, s2_, s3_, s4_, s5_]; rfl) ?_
               refine ta_ 11 93 (tk_ 31 12287) HT_.out HW_.out rfl rfl (by kernel_rfl) (fun _ _ _ h => h) (by rfl) (by rintro w' ⟨s0, s1, s2, s3, s4, s5⟩; go_simp; with_reducible rfl) hHeld (by simp only [s0_, s1_, s2_, s3_, s4_, s5_]; rfl) ?_
               refine ta_ 12 94 (tk_ 31 16383) HT_.out HW_.out rfl rfl (by kernel_rfl) (fun _ _ _ h => h) (by rfl) (by rintro w' ⟨s0, s1, s2, s3, s4, s5⟩; go_simp; with_reducible rfl) hHeld (by simp only [s0_, s1_, s2_, s3_, s4_, s5_]; rfl) ?_
               refine one_ (i := 14) (N := some 96) (tk_ 31 32767) rfl rfl (one_of HT_.out (by kernel_rfl)) (by decide) (fun K hK => ?_)
               refine goes_ Try.func18 (by kernel_rfl) rfl #[.agg #[.bool a0_0, .slice A0_1 l0_1.length c0_1, .int .i64 a0_2], .int .i64 a2] (by rfl) rfl rfl (by (try simp only [List.map_toArray, List.map_cons, List.map_nil]); first | done | rfl | (simp only [List.length_drop, List.length_take]; rfl)) ?_
               with_reducible refine (font_Find.calls a0_0 _ _ l0_1 a0_2 a2 t225 t226 t227 _ ?side1 ?side2 A63.out).mono ?_
               (case side1 => repeat (first | exact (Kd.C_below HR0_1.out HB.out) | (with_reducible refine Kd.C_alloc ?_ _) | (with_reducible refine Kd.C_drewN ?_ _) | (with_reducible refine Kd.C_drew ?_)))
               (case side2 => exact HC0_1.out)
               rintro e w67 ⟨rfl, hb⟩
               refine ⟨_, rfl, ?_⟩
               have n0_ := Aside0.mk (Kd.R_below (by (with_reducible repeat (first | apply Kd.R_alloc | apply Kd.R_drewN | apply Kd.R_drew)); exact HO_200001.out) hb)
               have n1_ := Aside0.mk (Kd.R_below (by (with_reducible repeat (first | apply Kd.R_alloc | apply Kd.R_drewN | apply Kd.R_drew)); exact HO_209001.out) hb)
               have n2_ := Aside0.mk (Kd.R_below (by (with_reducible repeat (first | apply Kd.R_alloc | apply Kd.R_drewN | apply Kd.R_drew)); exact HO_221001.out) hb)
               have n3_ := Aside0.mk (blk_below (g := gb192) (o := .cells #[.bool a0_0, .slice A0_1 l0_1.length c0_1, .int .i64 a0_2] 24 (0, 0)) (by (with_reducible repeat (first | refine blk_drewN ?_ _ | refine blk_drew ?_ | refine blk_alloc ?_ _)); exact BK192.out) hb)
               have n4_ := Aside0.mk (blk_below (g := gb199) (o := .cells #[.bool t193, .slice Ao18 t194.length co18, .int .i64 t197] 24 (0, 0)) (by (with_reducible repeat (first | refine blk_drewN ?_ _ | refine blk_drew ?_ | refine blk_alloc ?_ _)); exact BK199.out) hb)
               have n5_ := Aside0.mk (blk_below (g := gb208) (o := .cells #[.bool t202, .slice Ao24 t203.length co24, .int .i64 t206] 24 (0, 0)) (by (with_reducible repeat (first | refine blk_drewN ?_ _ | refine blk_drew ?_ | refine blk_alloc ?_ _)); exact BK208.out) hb)
               have n6_ := Aside0.mk (blk_below (g := gb220) (o := .cells #[.bool t214, .slice Ao44 t215.length co44, .int .i64 t218] 24 (0, 0)) (by (with_reducible repeat (first | refine blk_drewN ?_ _ | refine blk_drew ?_ | refine blk_alloc ?_ _)); exact BK220.out) hb)
               have n7_ := Aside0.mk (blk_below (g := gb224) (o := .cells #[.int .i64 t221, .int .i64 t222, .string t223] 37 (0, 0)) (by (with_reducible repeat (first | refine blk_drewN ?_ _ | refine blk_drew ?_ | refine blk_alloc ?_ _)); exact BK224.out) hb)
               have n8_ := Aside0.mk (below_step (by repeat (first | (with_reducible first | exact HB.out | apply below_alloc | apply pw_below_drewN | apply below_drew1 | refine below_set ?_ GE192.out | refine below_set ?_ GE199.out | refine below_set ?_ GE208.out | refine below_set ?_ GE220.out | refine below_set ?_ GE224.out) | exact HB.out)) hb)
               clear HO_200001
               clear HO_209001
               clear HO_221001
               clear BK192
               clear BK199
               clear BK208
               clear BK220
               clear BK224
               clear HB
               have HO_200001 := n0_
               have HO_209001 := n1_
               have HO_221001 := n2_
               have BK192 := n3_
               have BK199 := n4_
               have BK208 := n5_
               have BK220 := n6_
               have BK224 := n7_
               have HB := n8_
               clear n0_ n1_ n2_ n3_ n4_ n5_ n6_ n7_ n8_
               (try clear hb)
               (try clear hb2)
               (try clear hk)
               (try clear hi)
               refine hK.out _ _ ⟨(blk_cell BK224.out 0).trans rfl, (blk_cell BK224.out 1).trans rfl, (blk_cell BK224.out 2).trans rfl, (blk_cell BK192.out 0).trans rfl, (blk_cell BK192.out 1).trans rfl, (blk_cell BK192.out 2).trans rfl⟩ (fun hHeld => ?_)
               clear hK K
               refine norm_ (by show Act.put _ (some 96) _ = _; simp only [s0_, s1_, s2_, s3_, s4_, s5_]; rfl) ?_
               refine pu_ 15 97 (tk_ 31 65535) HT_.out rfl rfl (by kernel_rfl) (fun _ _ _ h => h) (by rfl) (fun w' => by go_simp; with_reducible rfl) (by simp only [s0_, s1_, s2_, s3_, s4_, s5_]; rfl) ?_
               refine pu_ 16 98 (tk_ 31 131071) HT_.out rfl rfl (by kernel_rfl) (fun _ _ _ h => h) (by rfl) (fun w' => by go_simp; with_reducible rfl) (by simp only [s0_, s1_, s2_, s3_, s4_, s5_]; rfl) ?_
               refine pu_ 17 99 (tk_ 31 262143) HT_.out rfl rfl (by kernel_rfl) (fun _ _ _ h => h) (by rfl) (fun w' => by go_simp; with_reducible rfl) (by simp only [s0_, s1_, s2_, s3_, s4_, s5_]; rfl) ?_
               refine sk_ 18 100 (tk_ 31 524287) HT_.out rfl rfl (by kernel_rfl) (fun _ _ _ h => h) (by rfl) (by simp only [s0_, s1_, s2_, s3_, s4_, s5_]; rfl) ?_
               refine sk_ 19 101 (tk_ 31 1048575) HT_.out rfl rfl (by kernel_rfl) (fun _ _ _ h => h) (by rfl) (by simp only [s0_, s1_, s2_, s3_, s4_, s5_]; rfl) ?_
               refine sk_ 20 102 (tk_ 31 2097151) HT_.out rfl rfl (by kernel_rfl) (fun _ _ _ h => h) (by rfl) (by simp only [s0_, s1_, s2_, s3_, s4_, s5_]; rfl) ?_
               refine sk_ 21 103 (tk_ 31 4194303) HT_.out rfl rfl (by kernel_rfl) (fun _ _ _ h => h) (by rfl) (by simp only [s0_, s1_, s2_, s3_, s4_, s5_]; rfl) ?_
               refine sk_ 22 104 (tk_ 31 8388607) HT_.out rfl rfl (by kernel_rfl) (fun _ _ _ h => h) (by rfl) (by simp only [s0_, s1_, s2_, s3_, s4_, s5_]; rfl) ?_
               refine sk_ 23 105 (tk_ 31 16777215) HT_.out rfl rfl (by kernel_rfl) (fun _ _ _ h => h) (by rfl) (by simp only [s0_, s1_, s2_, s3_, s4_, s5_]; rfl) ?_
               refine sk_ 24 106 (tk_ 31 33554431) HT_.out rfl rfl (by kernel_rfl) (fun _ _ _ h => h) (by rfl) (by simp only [s0_, s1_, s2_, s3_, s4_, s5_]; rfl) ?_
               refine sk_ 25 107 (tk_ 31 67108863) HT_.out rfl rfl (by kernel_rfl) (fun _ _ _ h => h) (by rfl) (by simp only [s0_, s1_, s2_, s3_, s4_, s5_]; rfl) ?_
               refine sk_ 26 108 (tk_ 31 134217727) HT_.out rfl rfl (by kernel_rfl) (fun _ _ _ h => h) (by rfl) (by simp only [s0_, s1_, s2_, s3_, s4_, s5_]; rfl) ?_
               refine sk_ 27 109 (tk_ 31 268435455) HT_.out rfl rfl (by kernel_rfl) (fun _ _ _ h => h) (by rfl) (by simp only [s0_, s1_, s2_, s3_, s4_, s5_]; rfl) ?_
               refine sk_ 28 110 (tk_ 31 536870911) HT_.out rfl rfl (by kernel_rfl) (fun _ _ _ h => h) (by rfl) (by simp only [s0_, s1_, s2_, s3_, s4_, s5_]; rfl) ?_
               refine sk_ 29 111 (tk_ 31 1073741823) HT_.out rfl rfl (by kernel_rfl) (fun _ _ _ h => h) (by rfl) (by simp only [s0_, s1_, s2_, s3_, s4_, s5_]; rfl) ?_
               refine pu_ 30 112 (tk_ 31 2147483647) HT_.out rfl rfl (by kernel_rfl) (fun _ _ _ h => h) (by rfl) (fun w' => by go_simp; with_reducible rfl) (by simp only [s0_, s1_, s2_, s3_, s4_, s5_]; rfl) ?_
               refine done_ (done_of HT_.out (by kernel_rfl)) ?_
               try go_wp2
               go_meet
               case rel => exact ⟨_, (true), (by first | rfl | (simp; done) | (simp [*]; done) | (simp; generalize ByteArray.toList _ = l_; cases l_ <;> rfl)), H', ⟨by have := HJ3.out; have := HK2.out; have := HJ32.out; first | omega | exact Nat.le_refl _⟩, ⟨by (with_reducible repeat (first | apply Kd.R_alloc | apply Kd.R_drewN | apply Kd.R_drew)); exact HO_200001.out⟩, ⟨by (with_reducible repeat (first | apply Kd.R_alloc | apply Kd.R_drewN | apply Kd.R_drew)); exact HO_209001.out⟩, ⟨by (with_reducible repeat (first | apply Kd.R_alloc | apply Kd.R_drewN | apply Kd.R_drew)); exact HO_221001.out⟩, ⟨by (with_reducible repeat (first | refine blk_drewN ?_ _ | refine blk_drew ?_ | refine blk_alloc ?_ _)); exact BK192.out⟩, ⟨by (with_reducible repeat (first | refine blk_drewN ?_ _ | refine blk_drew ?_ | refine blk_alloc ?_ _)); exact BK199.out⟩, ⟨by (with_reducible repeat (first | refine blk_drewN ?_ _ | refine blk_drew ?_ | refine blk_alloc ?_ _)); exact BK208.out⟩, ⟨by (with_reducible repeat (first | refine blk_drewN ?_ _ | refine blk_drew ?_ | refine blk_alloc ?_ _)); exact BK220.out⟩, ⟨by (with_reducible repeat (first | refine blk_drewN ?_ _ | refine blk_drew ?_ | refine blk_alloc ?_ _)); exact BK224.out⟩, ⟨by repeat (first | (with_reducible first | exact HB.out | apply below_alloc | apply pw_below_drewN | apply below_drew1 | refine below_set ?_ GE192.out | refine below_set ?_ GE199.out | refine below_set ?_ GE208.out | refine below_set ?_ GE220.out | refine below_set ?_ GE224.out) | exact HB.out)⟩⟩
              ·rw [if_neg c64] at H
               have c64b0 : (!(t221 == t225) || (!(t222 == t226) || (!(t223.toList == t227.toList)))) = false := by simpa using c64
               clear c64
               have H' := Aside0.mk H
               clear H
               try go_wp2
               have n0_ : Aside0 (Kd.R k37 37 (((w54.setCell ⟨gb224, 0, none⟩ (.int .i64 t221)).setCell ⟨gb224, 1, none⟩ (.int .i64 t222)).setCell ⟨gb224, 2, none⟩ (.string t223)) w.heap.size (fun k_ => some k_ ≠ (.slice Ao24 t203.length co24 : Value).ownBlock ∧ some k_ ≠ (.slice Ao44 t215.length co44 : Value).ownBlock ∧ k_ ≠ gb224) (.slice Ao18 t194.length co18) t194) := ⟨by (with_reducible repeat (first | apply Kd.R_alloc | apply Kd.R_drewN | apply Kd.R_drew)); exact Kd.R_mono (Kd.R_far (p := ⟨gb224, 2, none⟩) (Kd.R_far (p := ⟨gb224, 1, none⟩) (Kd.R_far (p := ⟨gb224, 0, none⟩) (Kd.R_mono HO_200001.out (fun k_ hk => (⟨hk, hk.2⟩ : _ ∧ k_ ≠ gb224))) (fun _ hk => hk.2) (.int .i64 t221)) (fun _ hk => hk.2) (.int .i64 t222)) (fun _ hk => hk.2) (.string t223)) (fun _ hk => ⟨hk.1.1.1, ⟨hk.1.1.2, hk.1.2⟩⟩)⟩
               have n1_ : Aside0 (Kd.R k37 37 (((w54.setCell ⟨gb224, 0, none⟩ (.int .i64 t221)).setCell ⟨gb224, 1, none⟩ (.int .i64 t222)).setCell ⟨gb224, 2, none⟩ (.string t223)) w.heap.size (fun k_ => some k_ ≠ (.slice Ao18 t194.length co18 : Value).ownBlock ∧ some k_ ≠ (.slice Ao44 t215.length co44 : Value).ownBlock ∧ k_ ≠ gb224) (.slice Ao24 t203.length co24) t203) := ⟨by (with_reducible repeat (first | apply Kd.R_alloc | apply Kd.R_drewN | apply Kd.R_drew)); exact Kd.R_mono (Kd.R_far (p := ⟨gb224, 2, none⟩) (Kd.R_far (p := ⟨gb224, 1, none⟩) (Kd.R_far (p := ⟨gb224, 0, none⟩) (Kd.R_mono HO_209001.out (fun k_ hk => (⟨hk, hk.2⟩ : _ ∧ k_ ≠ gb224))) (fun _ hk => hk.2) (.int .i64 t221)) (fun _ hk => hk.2) (.int .i64 t222)) (fun _ hk => hk.2) (.string t223)) (fun _ hk => ⟨hk.1.1.1, ⟨hk.1.1.2, hk.1.2⟩⟩)⟩
               have n2_ : Aside0 (Kd.R k37 37 (((w54.setCell ⟨gb224, 0, none⟩ (.int .i64 t221)).setCell ⟨gb224, 1, none⟩ (.int .i64 t222)).setCell ⟨gb224, 2, none⟩ (.string t223)) w.heap.size (fun k_ => some k_ ≠ (.slice Ao18 t194.length co18 : Value).ownBlock ∧ some k_ ≠ (.slice Ao24 t203.length co24 : Value).ownBlock ∧ k_ ≠ gb224) (.slice Ao44 t215.length co44) t215) := ⟨by (with_reducible repeat (first | apply Kd.R_alloc | apply Kd.R_drewN | apply Kd.R_drew)); exact Kd.R_mono (Kd.R_far (p := ⟨gb224, 2, none⟩) (Kd.R_far (p := ⟨gb224, 1, none⟩) (Kd.R_far (p := ⟨gb224, 0, none⟩) (Kd.R_mono HO_221001.out (fun k_ hk => (⟨hk, hk.2⟩ : _ ∧ k_ ≠ gb224))) (fun _ hk => hk.2) (.int .i64 t221)) (fun _ hk => hk.2) (.int .i64 t222)) (fun _ hk => hk.2) (.string t223)) (fun _ hk => ⟨hk.1.1.1, ⟨hk.1.1.2, hk.1.2⟩⟩)⟩
               have n3_ : Aside0 ((((w54.setCell ⟨gb224, 0, none⟩ (.int .i64 t221)).setCell ⟨gb224, 1, none⟩ (.int .i64 t222)).setCell ⟨gb224, 2, none⟩ (.string t223)).heap[gb192]? = some (.cells #[.bool a0_0, .slice A0_1 l0_1.length c0_1, .int .i64 a0_2] 24 (0, 0))) := ⟨by (with_reducible repeat (first | refine blk_drewN ?_ _ | refine blk_drew ?_ | refine blk_alloc ?_ _)); refine blk_far ?_ NB192_224.out _; (with_reducible repeat (first | refine blk_drewN ?_ _ | refine blk_drew ?_ | refine blk_alloc ?_ _)); refine blk_far ?_ NB192_224.out _; (with_reducible repeat (first | refine blk_drewN ?_ _ | refine blk_drew ?_ | refine blk_alloc ?_ _)); refine blk_far ?_ NB192_224.out _; (with_reducible repeat (first | refine blk_drewN ?_ _ | refine blk_drew ?_ | refine blk_alloc ?_ _)); exact BK192.out⟩
               have n4_ : Aside0 ((((w54.setCell ⟨gb224, 0, none⟩ (.int .i64 t221)).setCell ⟨gb224, 1, none⟩ (.int .i64 t222)).setCell ⟨gb224, 2, none⟩ (.string t223)).heap[gb199]? = some (.cells #[.bool t193, .slice Ao18 t194.length co18, .int .i64 t197] 24 (0, 0))) := ⟨by (with_reducible repeat (first | refine blk_drewN ?_ _ | refine blk_drew ?_ | refine blk_alloc ?_ _)); refine blk_far ?_ NB199_224.out _; (with_reducible repeat (first | refine blk_drewN ?_ _ | refine blk_drew ?_ | refine blk_alloc ?_ _)); refine blk_far ?_ NB199_224.out _; (with_reducible repeat (first | refine blk_drewN ?_ _ | refine blk_drew ?_ | refine blk_alloc ?_ _)); refine blk_far ?_ NB199_224.out _; (with_reducible repeat (first | refine blk_drewN ?_ _ | refine blk_drew ?_ | refine blk_alloc ?_ _)); exact BK199.out⟩
               have n5_ : Aside0 ((((w54.setCell ⟨gb224, 0, none⟩ (.int .i64 t221)).setCell ⟨gb224, 1, none⟩ (.int .i64 t222)).setCell ⟨gb224, 2, none⟩ (.string t223)).heap[gb208]? = some (.cells #[.bool t202, .slice Ao24 t203.length co24, .int .i64 t206] 24 (0, 0))) := ⟨by (with_reducible repeat (first | refine blk_drewN ?_ _ | refine blk_drew ?_ | refine blk_alloc ?_ _)); refine blk_far ?_ NB208_224.out _; (with_reducible repeat (first | refine blk_drewN ?_ _ | refine blk_drew ?_ | refine blk_alloc ?_ _)); refine blk_far ?_ NB208_224.out _; (with_reducible repeat (first | refine blk_drewN ?_ _ | refine blk_drew ?_ | refine blk_alloc ?_ _)); refine blk_far ?_ NB208_224.out _; (with_reducible repeat (first | refine blk_drewN ?_ _ | refine blk_drew ?_ | refine blk_alloc ?_ _)); exact BK208.out⟩
               have n6_ : Aside0 ((((w54.setCell ⟨gb224, 0, none⟩ (.int .i64 t221)).setCell ⟨gb224, 1, none⟩ (.int .i64 t222)).setCell ⟨gb224, 2, none⟩ (.string t223)).heap[gb220]? = some (.cells #[.bool t214, .slice Ao44 t215.length co44, .int .i64 t218] 24 (0, 0))) := ⟨by (with_reducible repeat (first | refine blk_drewN ?_ _ | refine blk_drew ?_ | refine blk_alloc ?_ _)); refine blk_far ?_ NB220_224.out _; (with_reducible repeat (first | refine blk_drewN ?_ _ | refine blk_drew ?_ | refine blk_alloc ?_ _)); refine blk_far ?_ NB220_224.out _; (with_reducible repeat (first | refine blk_drewN ?_ _ | refine blk_drew ?_ | refine blk_alloc ?_ _)); refine blk_far ?_ NB220_224.out _; (with_reducible repeat (first | refine blk_drewN ?_ _ | refine blk_drew ?_ | refine blk_alloc ?_ _)); exact BK220.out⟩
               have n7_ : Aside0 ((((w54.setCell ⟨gb224, 0, none⟩ (.int .i64 t221)).setCell ⟨gb224, 1, none⟩ (.int .i64 t222)).setCell ⟨gb224, 2, none⟩ (.string t223)).heap[gb224]? = some (.cells #[.int .i64 t221, .int .i64 t222, .string t223] 37 (0, 0))) := ⟨by (with_reducible repeat (first | refine blk_drewN ?_ _ | refine blk_drew ?_ | refine blk_alloc ?_ _)); refine blk_put (cs := #[.int .i64 t221, .int .i64 t222, .string (⟨#[]⟩ : ByteArray)]) ?_ 2 _ rfl; (with_reducible repeat (first | refine blk_drewN ?_ _ | refine blk_drew ?_ | refine blk_alloc ?_ _)); refine blk_put (cs := #[.int .i64 t221, .int .i64 0, .string (⟨#[]⟩ : ByteArray)]) ?_ 1 _ rfl; (with_reducible repeat (first | refine blk_drewN ?_ _ | refine blk_drew ?_ | refine blk_alloc ?_ _)); refine blk_put (cs := #[.int .i64 0, .int .i64 0, .string (⟨#[]⟩ : ByteArray)]) ?_ 0 _ rfl; (with_reducible repeat (first | refine blk_drewN ?_ _ | refine blk_drew ?_ | refine blk_alloc ?_ _)); exact BK224.out⟩
               have n8_ : Aside0 (Below w.heap.size w (((w54.setCell ⟨gb224, 0, none⟩ (.int .i64 t221)).setCell ⟨gb224, 1, none⟩ (.int .i64 t222)).setCell ⟨gb224, 2, none⟩ (.string t223))) := ⟨by repeat (first | (with_reducible first | exact HB.out | apply below_alloc | apply pw_below_drewN | apply below_drew1 | refine below_set ?_ GE192.out | refine below_set ?_ GE199.out | refine below_set ?_ GE208.out | refine below_set ?_ GE220.out | refine below_set ?_ GE224.out) | exact HB.out)⟩
               (try clear HO_200001)
               (try clear HO_209001)
               (try clear HO_221001)
               (try clear BK192)
               (try clear BK199)
               (try clear BK208)
               (try clear BK220)
               (try clear BK224)
               (try clear HB)
               generalize (((w54.setCell ⟨gb224, 0, none⟩ (.int .i64 t221)).setCell ⟨gb224, 1, none⟩ (.int .i64 t222)).setCell ⟨gb224, 2, none⟩ (.string t223)) = w68 at n0_ n1_ n2_ n3_ n4_ n5_ n6_ n7_ n8_ ⊢
               have HO_200001 := n0_
               have HO_209001 := n1_
               have HO_221001 := n2_
               have BK192 := n3_
               have BK199 := n4_
               have BK208 := n5_
               have BK220 := n6_
               have BK224 := n7_
               have HB := n8_
               clear n0_ n1_ n2_ n3_ n4_ n5_ n6_ n7_ n8_
               have n0_ := Aside0.mk (Kd.R_drew HO_200001.out)
               have n1_ := Aside0.mk (Kd.R_drew HO_209001.out)
               have n2_ := Aside0.mk (Kd.R_drew HO_221001.out)
               have n3_ := Aside0.mk (blk_drew BK192.out)
               have n4_ := Aside0.mk (blk_drew BK199.out)
               have n5_ := Aside0.mk (blk_drew BK208.out)
               have n6_ := Aside0.mk (blk_drew BK220.out)
               have n7_ := Aside0.mk (blk_drew BK224.out)
               have n8_ := Aside0.mk (below_drew1 HB.out)
               clear HO_200001
               clear HO_209001
               clear HO_221001
               clear BK192
               clear BK199
               clear BK208
               clear BK220
               clear BK224
               clear HB
               have HO_200001 := n0_
               have HO_209001 := n1_
               have HO_221001 := n2_
               have BK192 := n3_
               have BK199 := n4_
               have BK208 := n5_
               have BK220 := n6_
               have BK224 := n7_
               have HB := n8_
               clear n0_ n1_ n2_ n3_ n4_ n5_ n6_ n7_ n8_
               refine start_ (n := 31) (S := fun w' => w'.cell? ⟨gb224, 0, none⟩ = some (.int .i64 t221) ∧ w'.cell? ⟨gb224, 1, none⟩ = some (.int .i64 t222) ∧ w'.cell? ⟨gb224, 2, none⟩ = some (.string t223) ∧ w'.cell? ⟨gb192, 0, none⟩ = some (.bool a0_0) ∧ w'.cell? ⟨gb192, 1, none⟩ = some (.slice A0_1 l0_1.length c0_1) ∧ w'.cell? ⟨gb192, 2, none⟩ = some (.int .i64 a0_2)) (ds := []) (tk_ 31 0) (by kernel_rfl) rfl (by kernel_rfl) ⟨(blk_cell BK224.out 0).trans rfl, (blk_cell BK224.out 1).trans rfl, (blk_cell BK224.out 2).trans rfl, (blk_cell BK192.out 0).trans rfl, (blk_cell BK192.out 1).trans rfl, (blk_cell BK192.out 2).trans rfl⟩ (fun hHeld => ?_); refine with_tabW erasurelaw19_FontKeeps.tab19 erasurelaw19_FontKeeps.bits19 (fun HT_ HW_ => ?_)
               generalize w68.drew = w69 at HO_200001 HO_209001 HO_221001 BK192 BK199 BK208 BK220 BK224 HB hHeld ⊢
               refine pu_ 0 82 (tk_ 31 1) HT_.out rfl rfl (by kernel_rfl) (fun _ _ _ h => h) (by rfl) (fun w' => by go_simp; with_reducible rfl) (by simp only [s0_, s1_, s2_, s3_, s4_, s5_]; rfl) ?_
               refine pu_ 1 83 (tk_ 31 3) HT_.out rfl rfl (by kernel_rfl) (fun _ _ _ h => h) (by rfl) (fun w' => by go_simp; with_reducible rfl) (by simp only [s0_, s1_, s2_, s3_, s4_, s5_]; rfl) ?_
               refine pu_ 2 84 (tk_ 31 7) HT_.out rfl rfl (by kernel_rfl) (fun _ _ _ h => h) (by rfl) (fun w' => by go_simp; with_reducible rfl) (by simp only [s0_, s1_, s2_, s3_, s4_, s5_]; rfl) ?_
               refine pu_ 3 85 (tk_ 31 15) HT_.out rfl rfl (by kernel_rfl) (fun _ _ _ h => h) (by rfl) (fun w' => by go_simp; with_reducible rfl) (by simp only [s0_, s1_, s2_, s3_, s4_, s5_]; rfl) ?_
               refine pu_ 4 86 (tk_ 31 31) HT_.out rfl rfl (by kernel_rfl) (fun _ _ _ h => h) (by rfl) (fun w' => by go_simp; with_reducible rfl) (by simp only [s0_, s1_, s2_, s3_, s4_, s5_]; rfl) ?_
               refine pu_ 5 87 (tk_ 31 63) HT_.out rfl rfl (by kernel_rfl) (fun _ _ _ h => h) (by rfl) (fun w' => by go_simp; with_reducible rfl) (by simp only [s0_, s1_, s2_, s3_, s4_, s5_]; rfl) ?_
               refine pu_ 6 88 (tk_ 31 127) HT_.out rfl rfl (by kernel_rfl) (fun _ _ _ h => h) (by rfl) (fun w' => by go_simp; with_reducible rfl) (by simp only [s0_, s1_, s2_, s3_, s4_, s5_]; rfl) ?_
               refine pu_ 7 89 (tk_ 31 255) HT_.out rfl rfl (by kernel_rfl) (fun _ _ _ h => h) (by rfl) (fun w' => by go_simp; with_reducible rfl) (by simp only [s0_, s1_, s2_, s3_, s4_, s5_]; rfl) ?_
               refine pu_ 8 90 (tk_ 31 511) HT_.out rfl rfl (by kernel_rfl) (fun _ _ _ h => h) (by rfl) (fun w' => by go_simp; with_reducible rfl) (by simp only [s0_, s1_, s2_, s3_, s4_, s5_]; rfl) ?_
               refine pu_ 9 91 (tk_ 31 1023) HT_.out rfl rfl (by kernel_rfl) (fun _ _ _ h => h) (by rfl) (fun w' => by go_simp; with_reducible rfl) (by simp only [s0_, s1_, s2_, s3_, s4_, s5_]; rfl) ?_
               refine pu_ 10 92 (tk_ 31 2047) HT_.out rfl rfl (by kernel_rfl) (fun _ _ _ h => h) (by rfl) (fun w' => by go_simp; with_reducible rfl) (by simp only [s0_, s1_, s2_, s3_, s4_, s5_]; rfl) ?_
               refine pu_ 13 95 (tk_ 31 10239) HT_.out rfl rfl (by kernel_rfl) (fun _ _ _ h => h) (by rfl) (fun w' => by go_simp; with_reducible rfl) (by simp only [s0_, s1_, s2_, s3_, s4_, s5_]; rfl) ?_
               refine ta_ 11 93 (tk_ 31 12287) HT_.out HW_.out rfl rfl (by kernel_rfl) (fun _ _ _ h => h) (by rfl) (by rintro w' ⟨s0, s1, s2, s3, s4, s5⟩; go_simp; with_reducible rfl) hHeld (by simp only [s0_, s1_, s2_, s3_, s4_, s5_]; rfl) ?_
               refine ta_ 12 94 (tk_ 31 16383) HT_.out HW_.out rfl rfl (by kernel_rfl) (fun _ _ _ h => h) (by rfl) (by rintro w' ⟨s0, s1, s2, s3, s4, s5⟩; go_simp; with_reducible rfl) hHeld (by simp only [s0_, s1_, s2_, s3_, s4_, s5_]; rfl) ?_
               refine one_ (i := 14) (N := some 96) (tk_ 31 32767) rfl rfl (one_of HT_.out (by kernel_rfl)) (by decide) (fun K hK => ?_)
               refine goes_ Try.func18 (by kernel_rfl) rfl #[.agg #[.bool a0_0, .slice A0_1 l0_1.length c0_1, .int .i64 a0_2], .int .i64 a2] (by rfl) rfl rfl (by (try simp only [List.map_toArray, List.map_cons, List.map_nil]); first | done | rfl | (simp only [List.length_drop, List.length_take]; rfl)) ?_
               with_reducible refine (font_Find.calls a0_0 _ _ l0_1 a0_2 a2 t225 t226 t227 _ ?side1 ?side2 A63.out).mono ?_
               (case side1 => repeat (first | exact (Kd.C_below HR0_1.out HB.out) | (with_reducible refine Kd.C_alloc ?_ _) | (with_reducible refine Kd.C_drewN ?_ _) | (with_reducible refine Kd.C_drew ?_)))
               (case side2 => exact HC0_1.out)
               rintro e w70 ⟨rfl, hb⟩
               refine ⟨_, rfl, ?_⟩
               have n0_ := Aside0.mk (Kd.R_below (by (with_reducible repeat (first | apply Kd.R_alloc | apply Kd.R_drewN | apply Kd.R_drew)); exact HO_200001.out) hb)
               have n1_ := Aside0.mk (Kd.R_below (by (with_reducible repeat (first | apply Kd.R_alloc | apply Kd.R_drewN | apply Kd.R_drew)); exact HO_209001.out) hb)
               have n2_ := Aside0.mk (Kd.R_below (by (with_reducible repeat (first | apply Kd.R_alloc | apply Kd.R_drewN | apply Kd.R_drew)); exact HO_221001.out) hb)
               have n3_ := Aside0.mk (blk_below (g := gb192) (o := .cells #[.bool a0_0, .slice A0_1 l0_1.length c0_1, .int .i64 a0_2] 24 (0, 0)) (by (with_reducible repeat (first | refine blk_drewN ?_ _ | refine blk_drew ?_ | refine blk_alloc ?_ _)); exact BK192.out) hb)
               have n4_ := Aside0.mk (blk_below (g := gb199) (o := .cells #[.bool t193, .slice Ao18 t194.length co18, .int .i64 t197] 24 (0, 0)) (by (with_reducible repeat (first | refine blk_drewN ?_ _ | refine blk_drew ?_ | refine blk_alloc ?_ _)); exact BK199.out) hb)
               have n5_ := Aside0.mk (blk_below (g := gb208) (o := .cells #[.bool t202, .slice Ao24 t203.length co24, .int .i64 t206] 24 (0, 0)) (by (with_reducible repeat (first | refine blk_drewN ?_ _ | refine blk_drew ?_ | refine blk_alloc ?_ _)); exact BK208.out) hb)
               have n6_ := Aside0.mk (blk_below (g := gb220) (o := .cells #[.bool t214, .slice Ao44 t215.length co44, .int .i64 t218] 24 (0, 0)) (by (with_reducible repeat (first | refine blk_drewN ?_ _ | refine blk_drew ?_ | refine blk_alloc ?_ _)); exact BK220.out) hb)
               have n7_ := Aside0.mk (blk_below (g := gb224) (o := .cells #[.int .i64 t221, .int .i64 t222, .string t223] 37 (0, 0)) (by (with_reducible repeat (first | refine blk_drewN ?_ _ | refine blk_drew ?_ | refine blk_alloc ?_ _)); exact BK224.out) hb)
               have n8_ := Aside0.mk (below_step (by repeat (first | (with_reducible first | exact HB.out | apply below_alloc | apply pw_below_drewN | apply below_drew1 | refine below_set ?_ GE192.out | refine below_set ?_ GE199.out | refine below_set ?_ GE208.out | refine below_set ?_ GE220.out | refine below_set ?_ GE224.out) | exact HB.out)) hb)
               clear HO_200001
               clear HO_209001
               clear HO_221001
               clear BK192
               clear BK199
               clear BK208
               clear BK220
               clear BK224
               clear HB
               have HO_200001 := n0_
               have HO_209001 := n1_
               have HO_221001 := n2_
               have BK192 := n3_
               have BK199 := n4_
               have BK208 := n5_
               have BK220 := n6_
               have BK224 := n7_
               have HB := n8_
               clear n0_ n1_ n2_ n3_ n4_ n5_ n6_ n7_ n8_
               (try clear hb)
               (try clear hb2)
               (try clear hk)
               (try clear hi)
               refine hK.out _ _ ⟨(blk_cell BK224.out 0).trans rfl, (blk_cell BK224.out 1).trans rfl, (blk_cell BK224.out 2).trans rfl, (blk_cell BK192.out 0).trans rfl, (blk_cell BK192.out 1).trans rfl, (blk_cell BK192.out 2).trans rfl⟩ (fun hHeld => ?_)
               clear hK K
               refine norm_ (by show Act.put _ (some 96) _ = _; simp only [s0_, s1_, s2_, s3_, s4_, s5_]; rfl) ?_
               refine pu_ 15 97 (tk_ 31 65535) HT_.out rfl rfl (by kernel_rfl) (fun _ _ _ h => h) (by rfl) (fun w' => by go_simp; with_reducible rfl) (by simp only [s0_, s1_, s2_, s3_, s4_, s5_]; rfl) ?_
               refine pu_ 16 98 (tk_ 31 131071) HT_.out rfl rfl (by kernel_rfl) (fun _ _ _ h => h) (by rfl) (fun w' => by go_simp; with_reducible rfl) (by simp only [s0_, s1_, s2_, s3_, s4_, s5_]; rfl) ?_
               refine pu_ 17 99 (tk_ 31 262143) HT_.out rfl rfl (by kernel_rfl) (fun _ _ _ h => h) (by rfl) (fun w' => by go_simp; with_reducible rfl) (by simp only [s0_, s1_, s2_, s3_, s4_, s5_]; rfl) ?_
               refine pu_ 18 100 (tk_ 31 524287) HT_.out rfl rfl (by kernel_rfl) (fun _ _ _ h => h) (by rfl) (fun w' => by go_simp; with_reducible rfl) (by simp only [s0_, s1_, s2_, s3_, s4_, s5_]; rfl) ?_
               refine pu_ 19 101 (tk_ 31 1048575) HT_.out rfl rfl (by kernel_rfl) (fun _ _ _ h => h) (by rfl) (fun w' => by go_simp; with_reducible rfl) (by simp only [s0_, s1_, s2_, s3_, s4_, s5_]; rfl) ?_
               refine pu_ 20 102 (tk_ 31 2097151) HT_.out rfl rfl (by kernel_rfl) (fun _ _ _ h => h) (by rfl) (fun w' => by go_simp; with_reducible rfl) (by simp only [s0_, s1_, s2_, s3_, s4_, s5_]; rfl) ?_
               refine sk_ 21 103 (tk_ 31 4194303) HT_.out rfl rfl (by kernel_rfl) (fun _ _ _ h => h) (by rfl) (by simp only [s0_, s1_, s2_, s3_, s4_, s5_]; rfl) ?_
               refine sk_ 22 104 (tk_ 31 8388607) HT_.out rfl rfl (by kernel_rfl) (fun _ _ _ h => h) (by rfl) (by simp only [s0_, s1_, s2_, s3_, s4_, s5_]; rfl) ?_
               refine sk_ 23 105 (tk_ 31 16777215) HT_.out rfl rfl (by kernel_rfl) (fun _ _ _ h => h) (by rfl) (by simp only [s0_, s1_, s2_, s3_, s4_, s5_]; rfl) ?_
               refine sk_ 24 106 (tk_ 31 33554431) HT_.out rfl rfl (by kernel_rfl) (fun _ _ _ h => h) (by rfl) (by simp only [s0_, s1_, s2_, s3_, s4_, s5_]; rfl) ?_
               refine sk_ 25 107 (tk_ 31 67108863) HT_.out rfl rfl (by kernel_rfl) (fun _ _ _ h => h) (by rfl) (by simp only [s0_, s1_, s2_, s3_, s4_, s5_]; rfl) ?_
               refine sk_ 26 108 (tk_ 31 134217727) HT_.out rfl rfl (by kernel_rfl) (fun _ _ _ h => h) (by rfl) (by simp only [s0_, s1_, s2_, s3_, s4_, s5_]; rfl) ?_
               refine sk_ 27 109 (tk_ 31 268435455) HT_.out rfl rfl (by kernel_rfl) (fun _ _ _ h => h) (by rfl) (by simp only [s0_, s1_, s2_, s3_, s4_, s5_]; rfl) ?_
               refine sk_ 28 110 (tk_ 31 536870911) HT_.out rfl rfl (by kernel_rfl) (fun _ _ _ h => h) (by rfl) (by simp only [s0_, s1_, s2_, s3_, s4_, s5_]; rfl) ?_
               refine pu_ 29 111 (tk_ 31 1073741823) HT_.out rfl rfl (by kernel_rfl) (fun _ _ _ h => h) (by rfl) (fun w' => by go_simp; with_reducible rfl) (by simp only [s0_, s1_, s2_, s3_, s4_, s5_]; rfl) ?_
               refine pu_ 30 112 (tk_ 31 2147483647) HT_.out rfl rfl (by kernel_rfl) (fun _ _ _ h => h) (by rfl) (fun w' => by go_simp; with_reducible rfl) (by simp only [s0_, s1_, s2_, s3_, s4_, s5_]; rfl) ?_
               refine done_ (done_of HT_.out (by kernel_rfl)) ?_
               try go_wp2
               go_meet
               case rel => exact ⟨_, (false), (by first | rfl | (simp; done) | (simp [*]; done) | (simp; generalize ByteArray.toList _ = l_; cases l_ <;> rfl)), H', ⟨by have := HJ3.out; have := HK2.out; have := HJ32.out; first | omega | exact Nat.le_refl _⟩, ⟨by (with_reducible repeat (first | apply Kd.R_alloc | apply Kd.R_drewN | apply Kd.R_drew)); exact HO_200001.out⟩, ⟨by (with_reducible repeat (first | apply Kd.R_alloc | apply Kd.R_drewN | apply Kd.R_drew)); exact HO_209001.out⟩, ⟨by (with_reducible repeat (first | apply Kd.R_alloc | apply Kd.R_drewN | apply Kd.R_drew)); exact HO_221001.out⟩, ⟨by (with_reducible repeat (first | refine blk_drewN ?_ _ | refine blk_drew ?_ | refine blk_alloc ?_ _)); exact BK192.out⟩, ⟨by (with_reducible repeat (first | refine blk_drewN ?_ _ | refine blk_drew ?_ | refine blk_alloc ?_ _)); exact BK199.out⟩, ⟨by (with_reducible repeat (first | refine blk_drewN ?_ _ | refine blk_drew ?_ | refine blk_alloc ?_ _)); exact BK208.out⟩, ⟨by (with_reducible repeat (first | refine blk_drewN ?_ _ | refine blk_drew ?_ | refine blk_alloc ?_ _)); exact BK220.out⟩, ⟨by (with_reducible repeat (first | refine blk_drewN ?_ _ | refine blk_drew ?_ | refine blk_alloc ?_ _)); exact BK224.out⟩, ⟨by repeat (first | (with_reducible first | exact HB.out | apply below_alloc | apply pw_below_drewN | apply below_drew1 | refine below_set ?_ GE192.out | refine below_set ?_ GE199.out | refine below_set ?_ GE208.out | refine below_set ?_ GE220.out | refine below_set ?_ GE224.out) | exact HB.out)⟩⟩
             ·rw [if_neg c62] at H
              have c62b0 : decide (a2 ≤ x16_32) = false := decide_eq_false c62
              clear c62
              have H' := Aside0.mk H
              clear H
              try go_wp2
              have n0_ : Aside0 (Kd.R k37 37 (((w54.setCell ⟨gb224, 0, none⟩ (.int .i64 t221)).setCell ⟨gb224, 1, none⟩ (.int .i64 t222)).setCell ⟨gb224, 2, none⟩ (.string t223)) w.heap.size (fun k_ => some k_ ≠ (.slice Ao24 t203.length co24 : Value).ownBlock ∧ some k_ ≠ (.slice Ao44 t215.length co44 : Value).ownBlock ∧ k_ ≠ gb224) (.slice Ao18 t194.length co18) t194) := ⟨by (with_reducible repeat (first | apply Kd.R_alloc | apply Kd.R_drewN | apply Kd.R_drew)); exact Kd.R_mono (Kd.R_far (p := ⟨gb224, 2, none⟩) (Kd.R_far (p := ⟨gb224, 1, none⟩) (Kd.R_far (p := ⟨gb224, 0, none⟩) (Kd.R_mono HO_200001.out (fun k_ hk => (⟨hk, hk.2⟩ : _ ∧ k_ ≠ gb224))) (fun _ hk => hk.2) (.int .i64 t221)) (fun _ hk => hk.2) (.int .i64 t222)) (fun _ hk => hk.2) (.string t223)) (fun _ hk => ⟨hk.1.1.1, ⟨hk.1.1.2, hk.1.2⟩⟩)⟩
              have n1_ : Aside0 (Kd.R k37 37 (((w54.setCell ⟨gb224, 0, none⟩ (.int .i64 t221)).setCell ⟨gb224, 1, none⟩ (.int .i64 t222)).setCell ⟨gb224, 2, none⟩ (.string t223)) w.heap.size (fun k_ => some k_ ≠ (.slice Ao18 t194.length co18 : Value).ownBlock ∧ some k_ ≠ (.slice Ao44 t215.length co44 : Value).ownBlock ∧ k_ ≠ gb224) (.slice Ao24 t203.length co24) t203) := ⟨by (with_reducible repeat (first | apply Kd.R_alloc | apply Kd.R_drewN | apply Kd.R_drew)); exact Kd.R_mono (Kd.R_far (p := ⟨gb224, 2, none⟩) (Kd.R_far (p := ⟨gb224, 1, none⟩) (Kd.R_far (p := ⟨gb224, 0, none⟩) (Kd.R_mono HO_209001.out (fun k_ hk => (⟨hk, hk.2⟩ : _ ∧ k_ ≠ gb224))) (fun _ hk => hk.2) (.int .i64 t221)) (fun _ hk => hk.2) (.int .i64 t222)) (fun _ hk => hk.2) (.string t223)) (fun _ hk => ⟨hk.1.1.1, ⟨hk.1.1.2, hk.1.2⟩⟩)⟩
              have n2_ : Aside0 (Kd.R k37 37 (((w54.setCell ⟨gb224, 0, none⟩ (.int .i64 t221)).setCell ⟨gb224, 1, none⟩ (.int .i64 t222)).setCell ⟨gb224, 2, none⟩ (.string t223)) w.heap.size (fun k_ => some k_ ≠ (.slice Ao18 t194.length co18 : Value).ownBlock ∧ some k_ ≠ (.slice Ao24 t203.length co24 : Value).ownBlock ∧ k_ ≠ gb224) (.slice Ao44 t215.length co44) t215) := ⟨by (with_reducible repeat (first | apply Kd.R_alloc | apply Kd.R_drewN | apply Kd.R_drew)); exact Kd.R_mono (Kd.R_far (p := ⟨gb224, 2, none⟩) (Kd.R_far (p := ⟨gb224, 1, none⟩) (Kd.R_far (p := ⟨gb224, 0, none⟩) (Kd.R_mono HO_221001.out (fun k_ hk => (⟨hk, hk.2⟩ : _ ∧ k_ ≠ gb224))) (fun _ hk => hk.2) (.int .i64 t221)) (fun _ hk => hk.2) (.int .i64 t222)) (fun _ hk => hk.2) (.string t223)) (fun _ hk => ⟨hk.1.1.1, ⟨hk.1.1.2, hk.1.2⟩⟩)⟩
              have n3_ : Aside0 ((((w54.setCell ⟨gb224, 0, none⟩ (.int .i64 t221)).setCell ⟨gb224, 1, none⟩ (.int .i64 t222)).setCell ⟨gb224, 2, none⟩ (.string t223)).heap[gb192]? = some (.cells #[.bool a0_0, .slice A0_1 l0_1.length c0_1, .int .i64 a0_2] 24 (0, 0))) := ⟨by (with_reducible repeat (first | refine blk_drewN ?_ _ | refine blk_drew ?_ | refine blk_alloc ?_ _)); refine blk_far ?_ NB192_224.out _; (with_reducible repeat (first | refine blk_drewN ?_ _ | refine blk_drew ?_ | refine blk_alloc ?_ _)); refine blk_far ?_ NB192_224.out _; (with_reducible repeat (first | refine blk_drewN ?_ _ | refine blk_drew ?_ | refine blk_alloc ?_ _)); refine blk_far ?_ NB192_224.out _; (with_reducible repeat (first | refine blk_drewN ?_ _ | refine blk_drew ?_ | refine blk_alloc ?_ _)); exact BK192.out⟩
              have n4_ : Aside0 ((((w54.setCell ⟨gb224, 0, none⟩ (.int .i64 t221)).setCell ⟨gb224, 1, none⟩ (.int .i64 t222)).setCell ⟨gb224, 2, none⟩ (.string t223)).heap[gb199]? = some (.cells #[.bool t193, .slice Ao18 t194.length co18, .int .i64 t197] 24 (0, 0))) := ⟨by (with_reducible repeat (first | refine blk_drewN ?_ _ | refine blk_drew ?_ | refine blk_alloc ?_ _)); refine blk_far ?_ NB199_224.out _; (with_reducible repeat (first | refine blk_drewN ?_ _ | refine blk_drew ?_ | refine blk_alloc ?_ _)); refine blk_far ?_ NB199_224.out _; (with_reducible repeat (first | refine blk_drewN ?_ _ | refine blk_drew ?_ | refine blk_alloc ?_ _)); refine blk_far ?_ NB199_224.out _; (with_reducible repeat (first | refine blk_drewN ?_ _ | refine blk_drew ?_ | refine blk_alloc ?_ _)); exact BK199.out⟩
              have n5_ : Aside0 ((((w54.setCell ⟨gb224, 0, none⟩ (.int .i64 t221)).setCell ⟨gb224, 1, none⟩ (.int .i64 t222)).setCell ⟨gb224, 2, none⟩ (.string t223)).heap[gb208]? = some (.cells #[.bool t202, .slice Ao24 t203.length co24, .int .i64 t206] 24 (0, 0))) := ⟨by (with_reducible repeat (first | refine blk_drewN ?_ _ | refine blk_drew ?_ | refine blk_alloc ?_ _)); refine blk_far ?_ NB208_224.out _; (with_reducible repeat (first | refine blk_drewN ?_ _ | refine blk_drew ?_ | refine blk_alloc ?_ _)); refine blk_far ?_ NB208_224.out _; (with_reducible repeat (first | refine blk_drewN ?_ _ | refine blk_drew ?_ | refine blk_alloc ?_ _)); refine blk_far ?_ NB208_224.out _; (with_reducible repeat (first | refine blk_drewN ?_ _ | refine blk_drew ?_ | refine blk_alloc ?_ _)); exact BK208.out⟩
              have n6_ : Aside0 ((((w54.setCell ⟨gb224, 0, none⟩ (.int .i64 t221)).setCell ⟨gb224, 1, none⟩ (.int .i64 t222)).setCell ⟨gb224, 2, none⟩ (.string t223)).heap[gb220]? = some (.cells #[.bool t214, .slice Ao44 t215.length co44, .int .i64 t218] 24 (0, 0))) := ⟨by (with_reducible repeat (first | refine blk_drewN ?_ _ | refine blk_drew ?_ | refine blk_alloc ?_ _)); refine blk_far ?_ NB220_224.out _; (with_reducible repeat (first | refine blk_drewN ?_ _ | refine blk_drew ?_ | refine blk_alloc ?_ _)); refine blk_far ?_ NB220_224.out _; (with_reducible repeat (first | refine blk_drewN ?_ _ | refine blk_drew ?_ | refine blk_alloc ?_ _)); refine blk_far ?_ NB220_224.out _; (with_reducible repeat (first | refine blk_drewN ?_ _ | refine blk_drew ?_ | refine blk_alloc ?_ _)); exact BK220.out⟩
              have n7_ : Aside0 ((((w54.setCell ⟨gb224, 0, none⟩ (.int .i64 t221)).setCell ⟨gb224, 1, none⟩ (.int .i64 t222)).setCell ⟨gb224, 2, none⟩ (.string t223)).heap[gb224]? = some (.cells #[.int .i64 t221, .int .i64 t222, .string t223] 37 (0, 0))) := ⟨by (with_reducible repeat (first | refine blk_drewN ?_ _ | refine blk_drew ?_ | refine blk_alloc ?_ _)); refine blk_put (cs := #[.int .i64 t221, .int .i64 t222, .string (⟨#[]⟩ : ByteArray)]) ?_ 2 _ rfl; (with_reducible repeat (first | refine blk_drewN ?_ _ | refine blk_drew ?_ | refine blk_alloc ?_ _)); refine blk_put (cs := #[.int .i64 t221, .int .i64 0, .string (⟨#[]⟩ : ByteArray)]) ?_ 1 _ rfl; (with_reducible repeat (first | refine blk_drewN ?_ _ | refine blk_drew ?_ | refine blk_alloc ?_ _)); refine blk_put (cs := #[.int .i64 0, .int .i64 0, .string (⟨#[]⟩ : ByteArray)]) ?_ 0 _ rfl; (with_reducible repeat (first | refine blk_drewN ?_ _ | refine blk_drew ?_ | refine blk_alloc ?_ _)); exact BK224.out⟩
              have n8_ : Aside0 (Below w.heap.size w (((w54.setCell ⟨gb224, 0, none⟩ (.int .i64 t221)).setCell ⟨gb224, 1, none⟩ (.int .i64 t222)).setCell ⟨gb224, 2, none⟩ (.string t223))) := ⟨by repeat (first | (with_reducible first | exact HB.out | apply below_alloc | apply pw_below_drewN | apply below_drew1 | refine below_set ?_ GE192.out | refine below_set ?_ GE199.out | refine below_set ?_ GE208.out | refine below_set ?_ GE220.out | refine below_set ?_ GE224.out) | exact HB.out)⟩
              (try clear HO_200001)
              (try clear HO_209001)
              (try clear HO_221001)
              (try clear BK192)
              (try clear BK199)
              (try clear BK208)
              (try clear BK220)
              (try clear BK224)
              (try clear HB)
              generalize (((w54.setCell ⟨gb224, 0, none⟩ (.int .i64 t221)).setCell ⟨gb224, 1, none⟩ (.int .i64 t222)).setCell ⟨gb224, 2, none⟩ (.string t223)) = w71 at n0_ n1_ n2_ n3_ n4_ n5_ n6_ n7_ n8_ ⊢
              have HO_200001 := n0_
              have HO_209001 := n1_
              have HO_221001 := n2_
              have BK192 := n3_
              have BK199 := n4_
              have BK208 := n5_
              have BK220 := n6_
              have BK224 := n7_
              have HB := n8_
              clear n0_ n1_ n2_ n3_ n4_ n5_ n6_ n7_ n8_
              have n0_ := Aside0.mk (Kd.R_drew HO_200001.out)
              have n1_ := Aside0.mk (Kd.R_drew HO_209001.out)
              have n2_ := Aside0.mk (Kd.R_drew HO_221001.out)
              have n3_ := Aside0.mk (blk_drew BK192.out)
              have n4_ := Aside0.mk (blk_drew BK199.out)
              have n5_ := Aside0.mk (blk_drew BK208.out)
              have n6_ := Aside0.mk (blk_drew BK220.out)
              have n7_ := Aside0.mk (blk_drew BK224.out)
              have n8_ := Aside0.mk (below_drew1 HB.out)
              clear HO_200001
              clear HO_209001
              clear HO_221001
              clear BK192
              clear BK199
              clear BK208
              clear BK220
              clear BK224
              clear HB
              have HO_200001 := n0_
              have HO_209001 := n1_
              have HO_221001 := n2_
              have BK192 := n3_
              have BK199 := n4_
              have BK208 := n5_
              have BK220 := n6_
              have BK224 := n7_
              have HB := n8_
              clear n0_ n1_ n2_ n3_ n4_ n5_ n6_ n7_ n8_
              refine start_ (n := 31) (S := fun w' => True) (ds := []) (tk_ 31 0) (by kernel_rfl) rfl rfl trivial (fun hHeld => ?_); refine with_tabW erasurelaw19_FontKeeps.tab19 erasurelaw19_FontKeeps.bits19 (fun HT_ HW_ => ?_)
              generalize w71.drew = w72 at HO_200001 HO_209001 HO_221001 BK192 BK199 BK208 BK220 BK224 HB hHeld ⊢
              refine pu_ 0 82 (tk_ 31 1) HT_.out rfl rfl (by kernel_rfl) (fun _ _ _ h => h) (by rfl) (fun w' => by go_simp; with_reducible rfl) (by simp only [s0_, s1_, s2_, s3_, s4_, s5_]; rfl) ?_
              refine pu_ 1 83 (tk_ 31 3) HT_.out rfl rfl (by kernel_rfl) (fun _ _ _ h => h) (by rfl) (fun w' => by go_simp; with_reducible rfl) (by simp only [s0_, s1_, s2_, s3_, s4_, s5_]; rfl) ?_
              refine pu_ 2 84 (tk_ 31 7) HT_.out rfl rfl (by kernel_rfl) (fun _ _ _ h => h) (by rfl) (fun w' => by go_simp; with_reducible rfl) (by simp only [s0_, s1_, s2_, s3_, s4_, s5_]; rfl) ?_
              refine pu_ 3 85 (tk_ 31 15) HT_.out rfl rfl (by kernel_rfl) (fun _ _ _ h => h) (by rfl) (fun w' => by go_simp; with_reducible rfl) (by simp only [s0_, s1_, s2_, s3_, s4_, s5_]; rfl) ?_
              refine pu_ 4 86 (tk_ 31 31) HT_.out rfl rfl (by kernel_rfl) (fun _ _ _ h => h) (by rfl) (fun w' => by go_simp; with_reducible rfl) (by simp only [s0_, s1_, s2_, s3_, s4_, s5_]; rfl) ?_
              refine pu_ 5 87 (tk_ 31 63) HT_.out rfl rfl (by kernel_rfl) (fun _ _ _ h => h) (by rfl) (fun w' => by go_simp; with_reducible rfl) (by simp only [s0_, s1_, s2_, s3_, s4_, s5_]; rfl) ?_
              refine pu_ 6 88 (tk_ 31 127) HT_.out rfl rfl (by kernel_rfl) (fun _ _ _ h => h) (by rfl) (fun w' => by go_simp; with_reducible rfl) (by simp only [s0_, s1_, s2_, s3_, s4_, s5_]; rfl) ?_
              refine pu_ 7 89 (tk_ 31 255) HT_.out rfl rfl (by kernel_rfl) (fun _ _ _ h => h) (by rfl) (fun w' => by go_simp; with_reducible rfl) (by simp only [s0_, s1_, s2_, s3_, s4_, s5_]; rfl) ?_
              refine pu_ 8 90 (tk_ 31 511) HT_.out rfl rfl (by kernel_rfl) (fun _ _ _ h => h) (by rfl) (fun w' => by go_simp; with_reducible rfl) (by simp only [s0_, s1_, s2_, s3_, s4_, s5_]; rfl) ?_
              refine pu_ 9 91 (tk_ 31 1023) HT_.out rfl rfl (by kernel_rfl) (fun _ _ _ h => h) (by rfl) (fun w' => by go_simp; with_reducible rfl) (by simp only [s0_, s1_, s2_, s3_, s4_, s5_]; rfl) ?_
              refine pu_ 10 92 (tk_ 31 2047) HT_.out rfl rfl (by kernel_rfl) (fun _ _ _ h => h) (by rfl) (fun w' => by go_simp; with_reducible rfl) (by simp only [s0_, s1_, s2_, s3_, s4_, s5_]; rfl) ?_
              refine sk_ 11 93 (tk_ 31 4095) HT_.out rfl rfl (by kernel_rfl) (fun _ _ _ h => h) (by rfl) (by simp only [s0_, s1_, s2_, s3_, s4_, s5_]; rfl) ?_
              refine sk_ 12 94 (tk_ 31 8191) HT_.out rfl rfl (by kernel_rfl) (fun _ _ _ h => h) (by rfl) (by simp only [s0_, s1_, s2_, s3_, s4_, s5_]; rfl) ?_
              refine sk_ 13 95 (tk_ 31 16383) HT_.out rfl rfl (by kernel_rfl) (fun _ _ _ h => h) (by rfl) (by simp only [s0_, s1_, s2_, s3_, s4_, s5_]; rfl) ?_
              refine sk_ 14 96 (tk_ 31 32767) HT_.out rfl rfl (by kernel_rfl) (fun _ _ _ h => h) (by rfl) (by simp only [s0_, s1_, s2_, s3_, s4_, s5_]; rfl) ?_
              refine sk_ 15 97 (tk_ 31 65535) HT_.out rfl rfl (by kernel_rfl) (fun _ _ _ h => h) (by rfl) (by simp only [s0_, s1_, s2_, s3_, s4_, s5_]; rfl) ?_
              refine pu_ 16 98 (tk_ 31 131071) HT_.out rfl rfl (by kernel_rfl) (fun _ _ _ h => h) (by rfl) (fun w' => by go_simp; with_reducible rfl) (by simp only [s0_, s1_, s2_, s3_, s4_, s5_]; rfl) ?_
              refine pu_ 17 99 (tk_ 31 262143) HT_.out rfl rfl (by kernel_rfl) (fun _ _ _ h => h) (by rfl) (fun w' => by go_simp; with_reducible rfl) (by simp only [s0_, s1_, s2_, s3_, s4_, s5_]; rfl) ?_
              refine pu_ 18 100 (tk_ 31 524287) HT_.out rfl rfl (by kernel_rfl) (fun _ _ _ h => h) (by rfl) (fun w' => by go_simp; with_reducible rfl) (by simp only [s0_, s1_, s2_, s3_, s4_, s5_]; rfl) ?_
              refine pu_ 19 101 (tk_ 31 1048575) HT_.out rfl rfl (by kernel_rfl) (fun _ _ _ h => h) (by rfl) (fun w' => by go_simp; with_reducible rfl) (by simp only [s0_, s1_, s2_, s3_, s4_, s5_]; rfl) ?_
              refine pu_ 20 102 (tk_ 31 2097151) HT_.out rfl rfl (by kernel_rfl) (fun _ _ _ h => h) (by rfl) (fun w' => by go_simp; with_reducible rfl) (by simp only [s0_, s1_, s2_, s3_, s4_, s5_]; rfl) ?_
              refine sk_ 21 103 (tk_ 31 4194303) HT_.out rfl rfl (by kernel_rfl) (fun _ _ _ h => h) (by rfl) (by simp only [s0_, s1_, s2_, s3_, s4_, s5_]; rfl) ?_
              refine sk_ 22 104 (tk_ 31 8388607) HT_.out rfl rfl (by kernel_rfl) (fun _ _ _ h => h) (by rfl) (by simp only [s0_, s1_, s2_, s3_, s4_, s5_]; rfl) ?_
              refine sk_ 23 105 (tk_ 31 16777215) HT_.out rfl rfl (by kernel_rfl) (fun _ _ _ h => h) (by rfl) (by simp only [s0_, s1_, s2_, s3_, s4_, s5_]; rfl) ?_
              refine sk_ 24 106 (tk_ 31 33554431) HT_.out rfl rfl (by kernel_rfl) (fun _ _ _ h => h) (by rfl) (by simp only [s0_, s1_, s2_, s3_, s4_, s5_]; rfl) ?_
              refine sk_ 25 107 (tk_ 31 67108863) HT_.out rfl rfl (by kernel_rfl) (fun _ _ _ h => h) (by rfl) (by simp only [s0_, s1_, s2_, s3_, s4_, s5_]; rfl) ?_
              refine sk_ 26 108 (tk_ 31 134217727) HT_.out rfl rfl (by kernel_rfl) (fun _ _ _ h => h) (by rfl) (by simp only [s0_, s1_, s2_, s3_, s4_, s5_]; rfl) ?_
              refine sk_ 27 109 (tk_ 31 268435455) HT_.out rfl rfl (by kernel_rfl) (fun _ _ _ h => h) (by rfl) (by simp only [s0_, s1_, s2_, s3_, s4_, s5_]; rfl) ?_
              refine sk_ 28 110 (tk_ 31 536870911) HT_.out rfl rfl (by kernel_rfl) (fun _ _ _ h => h) (by rfl) (by simp only [s0_, s1_, s2_, s3_, s4_, s5_]; rfl) ?_
              refine pu_ 29 111 (tk_ 31 1073741823) HT_.out rfl rfl (by kernel_rfl) (fun _ _ _ h => h) (by rfl) (fun w' => by go_simp; with_reducible rfl) (by simp only [s0_, s1_, s2_, s3_, s4_, s5_]; rfl) ?_
              refine pu_ 30 112 (tk_ 31 2147483647) HT_.out rfl rfl (by kernel_rfl) (fun _ _ _ h => h) (by rfl) (fun w' => by go_simp; with_reducible rfl) (by simp only [s0_, s1_, s2_, s3_, s4_, s5_]; rfl) ?_
              refine done_ (done_of HT_.out (by kernel_rfl)) ?_
              try go_wp2
              go_meet
              case rel => exact ⟨_, (false), (by first | rfl | (simp; done) | (simp [*]; done) | (simp; generalize ByteArray.toList _ = l_; cases l_ <;> rfl)), H', ⟨by have := HJ3.out; have := HK2.out; have := HJ32.out; first | omega | exact Nat.le_refl _⟩, ⟨by (with_reducible repeat (first | apply Kd.R_alloc | apply Kd.R_drewN | apply Kd.R_drew)); exact HO_200001.out⟩, ⟨by (with_reducible repeat (first | apply Kd.R_alloc | apply Kd.R_drewN | apply Kd.R_drew)); exact HO_209001.out⟩, ⟨by (with_reducible repeat (first | apply Kd.R_alloc | apply Kd.R_drewN | apply Kd.R_drew)); exact HO_221001.out⟩, ⟨by (with_reducible repeat (first | refine blk_drewN ?_ _ | refine blk_drew ?_ | refine blk_alloc ?_ _)); exact BK192.out⟩, ⟨by (with_reducible repeat (first | refine blk_drewN ?_ _ | refine blk_drew ?_ | refine blk_alloc ?_ _)); exact BK199.out⟩, ⟨by (with_reducible repeat (first | refine blk_drewN ?_ _ | refine blk_drew ?_ | refine blk_alloc ?_ _)); exact BK208.out⟩, ⟨by (with_reducible repeat (first | refine blk_drewN ?_ _ | refine blk_drew ?_ | refine blk_alloc ?_ _)); exact BK220.out⟩, ⟨by (with_reducible repeat (first | refine blk_drewN ?_ _ | refine blk_drew ?_ | refine blk_alloc ?_ _)); exact BK224.out⟩, ⟨by repeat (first | (with_reducible first | exact HB.out | apply below_alloc | apply pw_below_drewN | apply below_drew1 | refine below_set ?_ GE192.out | refine below_set ?_ GE199.out | refine below_set ?_ GE208.out | refine below_set ?_ GE220.out | refine below_set ?_ GE224.out) | exact HB.out)⟩⟩
            ·rw [if_neg c61] at H
             have c61b0 : decide (0 ≤ a2) = false := decide_eq_false c61
             clear c61
             (first | rw [c61b0] | (simp only [i64_w, i32_w]; rw [c61b0]) | skip)
             have H' := Aside0.mk H
             clear H
             try go_wp2
             have n0_ : Aside0 (Kd.R k37 37 (((w54.setCell ⟨gb224, 0, none⟩ (.int .i64 t221)).setCell ⟨gb224, 1, none⟩ (.int .i64 t222)).setCell ⟨gb224, 2, none⟩ (.string t223)) w.heap.size (fun k_ => some k_ ≠ (.slice Ao24 t203.length co24 : Value).ownBlock ∧ some k_ ≠ (.slice Ao44 t215.length co44 : Value).ownBlock ∧ k_ ≠ gb224) (.slice Ao18 t194.length co18) t194) := ⟨by (with_reducible repeat (first | apply Kd.R_alloc | apply Kd.R_drewN | apply Kd.R_drew)); exact Kd.R_mono (Kd.R_far (p := ⟨gb224, 2, none⟩) (Kd.R_far (p := ⟨gb224, 1, none⟩) (Kd.R_far (p := ⟨gb224, 0, none⟩) (Kd.R_mono HO_200001.out (fun k_ hk => (⟨hk, hk.2⟩ : _ ∧ k_ ≠ gb224))) (fun _ hk => hk.2) (.int .i64 t221)) (fun _ hk => hk.2) (.int .i64 t222)) (fun _ hk => hk.2) (.string t223)) (fun _ hk => ⟨hk.1.1.1, ⟨hk.1.1.2, hk.1.2⟩⟩)⟩
             have n1_ : Aside0 (Kd.R k37 37 (((w54.setCell ⟨gb224, 0, none⟩ (.int .i64 t221)).setCell ⟨gb224, 1, none⟩ (.int .i64 t222)).setCell ⟨gb224, 2, none⟩ (.string t223)) w.heap.size (fun k_ => some k_ ≠ (.slice Ao18 t194.length co18 : Value).ownBlock ∧ some k_ ≠ (.slice Ao44 t215.length co44 : Value).ownBlock ∧ k_ ≠ gb224) (.slice Ao24 t203.length co24) t203) := ⟨by (with_reducible repeat (first | apply Kd.R_alloc | apply Kd.R_drewN | apply Kd.R_drew)); exact Kd.R_mono (Kd.R_far (p := ⟨gb224, 2, none⟩) (Kd.R_far (p := ⟨gb224, 1, none⟩) (Kd.R_far (p := ⟨gb224, 0, none⟩) (Kd.R_mono HO_209001.out (fun k_ hk => (⟨hk, hk.2⟩ : _ ∧ k_ ≠ gb224))) (fun _ hk => hk.2) (.int .i64 t221)) (fun _ hk => hk.2) (.int .i64 t222)) (fun _ hk => hk.2) (.string t223)) (fun _ hk => ⟨hk.1.1.1, ⟨hk.1.1.2, hk.1.2⟩⟩)⟩
             have n2_ : Aside0 (Kd.R k37 37 (((w54.setCell ⟨gb224, 0, none⟩ (.int .i64 t221)).setCell ⟨gb224, 1, none⟩ (.int .i64 t222)).setCell ⟨gb224, 2, none⟩ (.string t223)) w.heap.size (fun k_ => some k_ ≠ (.slice Ao18 t194.length co18 : Value).ownBlock ∧ some k_ ≠ (.slice Ao24 t203.length co24 : Value).ownBlock ∧ k_ ≠ gb224) (.slice Ao44 t215.length co44) t215) := ⟨by (with_reducible repeat (first | apply Kd.R_alloc | apply Kd.R_drewN | apply Kd.R_drew)); exact Kd.R_mono (Kd.R_far (p := ⟨gb224, 2, none⟩) (Kd.R_far (p := ⟨gb224, 1, none⟩) (Kd.R_far (p := ⟨gb224, 0, none⟩) (Kd.R_mono HO_221001.out (fun k_ hk => (⟨hk, hk.2⟩ : _ ∧ k_ ≠ gb224))) (fun _ hk => hk.2) (.int .i64 t221)) (fun _ hk => hk.2) (.int .i64 t222)) (fun _ hk => hk.2) (.string t223)) (fun _ hk => ⟨hk.1.1.1, ⟨hk.1.1.2, hk.1.2⟩⟩)⟩
             have n3_ : Aside0 ((((w54.setCell ⟨gb224, 0, none⟩ (.int .i64 t221)).setCell ⟨gb224, 1, none⟩ (.int .i64 t222)).setCell ⟨gb224, 2, none⟩ (.string t223)).heap[gb192]? = some (.cells #[.bool a0_0, .slice A0_1 l0_1.length c0_1, .int .i64 a0_2] 24 (0, 0))) := ⟨by (with_reducible repeat (first | refine blk_drewN ?_ _ | refine blk_drew ?_ | refine blk_alloc ?_ _)); refine blk_far ?_ NB192_224.out _; (with_reducible repeat (first | refine blk_drewN ?_ _ | refine blk_drew ?_ | refine blk_alloc ?_ _)); refine blk_far ?_ NB192_224.out _; (with_reducible repeat (first | refine blk_drewN ?_ _ | refine blk_drew ?_ | refine blk_alloc ?_ _)); refine blk_far ?_ NB192_224.out _; (with_reducible repeat (first | refine blk_drewN ?_ _ | refine blk_drew ?_ | refine blk_alloc ?_ _)); exact BK192.out⟩
             have n4_ : Aside0 ((((w54.setCell ⟨gb224, 0, none⟩ (.int .i64 t221)).setCell ⟨gb224, 1, none⟩ (.int .i64 t222)).setCell ⟨gb224, 2, none⟩ (.string t223)).heap[gb199]? = some (.cells #[.bool t193, .slice Ao18 t194.length co18, .int .i64 t197] 24 (0, 0))) := ⟨by (with_reducible repeat (first | refine blk_drewN ?_ _ | refine blk_drew ?_ | refine blk_alloc ?_ _)); refine blk_far ?_ NB199_224.out _; (with_reducible repeat (first | refine blk_drewN ?_ _ | refine blk_drew ?_ | refine blk_alloc ?_ _)); refine blk_far ?_ NB199_224.out _; (with_reducible repeat (first | refine blk_drewN ?_ _ | refine blk_drew ?_ | refine blk_alloc ?_ _)); refine blk_far ?_ NB199_224.out _; (with_reducible repeat (first | refine blk_drewN ?_ _ | refine blk_drew ?_ | refine blk_alloc ?_ _)); exact BK199.out⟩
             have n5_ : Aside0 ((((w54.setCell ⟨gb224, 0, none⟩ (.int .i64 t221)).setCell ⟨gb224, 1, none⟩ (.int .i64 t222)).setCell ⟨gb224, 2, none⟩ (.string t223)).heap[gb208]? = some (.cells #[.bool t202, .slice Ao24 t203.length co24, .int .i64 t206] 24 (0, 0))) := ⟨by (with_reducible repeat (first | refine blk_drewN ?_ _ | refine blk_drew ?_ | refine blk_alloc ?_ _)); refine blk_far ?_ NB208_224.out _; (with_reducible repeat (first | refine blk_drewN ?_ _ | refine blk_drew ?_ | refine blk_alloc ?_ _)); refine blk_far ?_ NB208_224.out _; (with_reducible repeat (first | refine blk_drewN ?_ _ | refine blk_drew ?_ | refine blk_alloc ?_ _)); refine blk_far ?_ NB208_224.out _; (with_reducible repeat (first | refine blk_drewN ?_ _ | refine blk_drew ?_ | refine blk_alloc ?_ _)); exact BK208.out⟩
             have n6_ : Aside0 ((((w54.setCell ⟨gb224, 0, none⟩ (.int .i64 t221)).setCell ⟨gb224, 1, none⟩ (.int .i64 t222)).setCell ⟨gb224, 2, none⟩ (.string t223)).heap[gb220]? = some (.cells #[.bool t214, .slice Ao44 t215.length co44, .int .i64 t218] 24 (0, 0))) := ⟨by (with_reducible repeat (first | refine blk_drewN ?_ _ | refine blk_drew ?_ | refine blk_alloc ?_ _)); refine blk_far ?_ NB220_224.out _; (with_reducible repeat (first | refine blk_drewN ?_ _ | refine blk_drew ?_ | refine blk_alloc ?_ _)); refine blk_far ?_ NB220_224.out _; (with_reducible repeat (first | refine blk_drewN ?_ _ | refine blk_drew ?_ | refine blk_alloc ?_ _)); refine blk_far ?_ NB220_224.out _; (with_reducible repeat (first | refine blk_drewN ?_ _ | refine blk_drew ?_ | refine blk_alloc ?_ _)); exact BK220.out⟩
             have n7_ : Aside0 ((((w54.setCell ⟨gb224, 0, none⟩ (.int .i64 t221)).setCell ⟨gb224, 1, none⟩ (.int .i64 t222)).setCell ⟨gb224, 2, none⟩ (.string t223)).heap[gb224]? = some (.cells #[.int .i64 t221, .int .i64 t222, .string t223] 37 (0, 0))) := ⟨by (with_reducible repeat (first | refine blk_drewN ?_ _ | refine blk_drew ?_ | refine blk_alloc ?_ _)); refine blk_put (cs := #[.int .i64 t221, .int .i64 t222, .string (⟨#[]⟩ : ByteArray)]) ?_ 2 _ rfl; (with_reducible repeat (first | refine blk_drewN ?_ _ | refine blk_drew ?_ | refine blk_alloc ?_ _)); refine blk_put (cs := #[.int .i64 t221, .int .i64 0, .string (⟨#[]⟩ : ByteArray)]) ?_ 1 _ rfl; (with_reducible repeat (first | refine blk_drewN ?_ _ | refine blk_drew ?_ | refine blk_alloc ?_ _)); refine blk_put (cs := #[.int .i64 0, .int .i64 0, .string (⟨#[]⟩ : ByteArray)]) ?_ 0 _ rfl; (with_reducible repeat (first | refine blk_drewN ?_ _ | refine blk_drew ?_ | refine blk_alloc ?_ _)); exact BK224.out⟩
             have n8_ : Aside0 (Below w.heap.size w (((w54.setCell ⟨gb224, 0, none⟩ (.int .i64 t221)).setCell ⟨gb224, 1, none⟩ (.int .i64 t222)).setCell ⟨gb224, 2, none⟩ (.string t223))) := ⟨by repeat (first | (with_reducible first | exact HB.out | apply below_alloc | apply pw_below_drewN | apply below_drew1 | refine below_set ?_ GE192.out | refine below_set ?_ GE199.out | refine below_set ?_ GE208.out | refine below_set ?_ GE220.out | refine below_set ?_ GE224.out) | exact HB.out)⟩
             (try clear HO_200001)
             (try clear HO_209001)
             (try clear HO_221001)
             (try clear BK192)
             (try clear BK199)
             (try clear BK208)
             (try clear BK220)
             (try clear BK224)
             (try clear HB)
             generalize (((w54.setCell ⟨gb224, 0, none⟩ (.int .i64 t221)).setCell ⟨gb224, 1, none⟩ (.int .i64 t222)).setCell ⟨gb224, 2, none⟩ (.string t223)) = w73 at n0_ n1_ n2_ n3_ n4_ n5_ n6_ n7_ n8_ ⊢
             have HO_200001 := n0_
             have HO_209001 := n1_
             have HO_221001 := n2_
             have BK192 := n3_
             have BK199 := n4_
             have BK208 := n5_
             have BK220 := n6_
             have BK224 := n7_
             have HB := n8_
             clear n0_ n1_ n2_ n3_ n4_ n5_ n6_ n7_ n8_
             have n0_ := Aside0.mk (Kd.R_drew HO_200001.out)
             have n1_ := Aside0.mk (Kd.R_drew HO_209001.out)
             have n2_ := Aside0.mk (Kd.R_drew HO_221001.out)
             have n3_ := Aside0.mk (blk_drew BK192.out)
             have n4_ := Aside0.mk (blk_drew BK199.out)
             have n5_ := Aside0.mk (blk_drew BK208.out)
             have n6_ := Aside0.mk (blk_drew BK220.out)
             have n7_ := Aside0.mk (blk_drew BK224.out)
             have n8_ := Aside0.mk (below_drew1 HB.out)
             clear HO_200001
             clear HO_209001
             clear HO_221001
             clear BK192
             clear BK199
             clear BK208
             clear BK220
             clear BK224
             clear HB
             have HO_200001 := n0_
             have HO_209001 := n1_
             have HO_221001 := n2_
             have BK192 := n3_
             have BK199 := n4_
             have BK208 := n5_
             have BK220 := n6_
             have BK224 := n7_
             have HB := n8_
             clear n0_ n1_ n2_ n3_ n4_ n5_ n6_ n7_ n8_
             refine start_ (n := 31) (S := fun w' => True) (ds := []) (tk_ 31 0) (by kernel_rfl) rfl rfl trivial (fun hHeld => ?_); refine with_tabW erasurelaw19_FontKeeps.tab19 erasurelaw19_FontKeeps.bits19 (fun HT_ HW_ => ?_)
             generalize w73.drew = w74 at HO_200001 HO_209001 HO_221001 BK192 BK199 BK208 BK220 BK224 HB hHeld ⊢
             refine pu_ 0 82 (tk_ 31 1) HT_.out rfl rfl (by kernel_rfl) (fun _ _ _ h => h) (by rfl) (fun w' => by go_simp; with_reducible rfl) (by simp only [s0_, s1_, s2_, s3_, s4_, s5_]; rfl) ?_
             refine pu_ 1 83 (tk_ 31 3) HT_.out rfl rfl (by kernel_rfl) (fun _ _ _ h => h) (by rfl) (fun w' => by go_simp; with_reducible rfl) (by simp only [s0_, s1_, s2_, s3_, s4_, s5_]; rfl) ?_
             refine pu_ 2 84 (tk_ 31 7) HT_.out rfl rfl (by kernel_rfl) (fun _ _ _ h => h) (by rfl) (fun w' => by go_simp; with_reducible rfl) (by simp only [s0_, s1_, s2_, s3_, s4_, s5_]; rfl) ?_
             refine pu_ 3 85 (tk_ 31 15) HT_.out rfl rfl (by kernel_rfl) (fun _ _ _ h => h) (by rfl) (fun w' => by go_simp; with_reducible rfl) (by simp only [s0_, s1_, s2_, s3_, s4_, s5_]; rfl) ?_
             refine pu_ 4 86 (tk_ 31 31) HT_.out rfl rfl (by kernel_rfl) (fun _ _ _ h => h) (by rfl) (fun w' => by go_simp; with_reducible rfl) (by simp only [s0_, s1_, s2_, s3_, s4_, s5_]; rfl) ?_
             refine pu_ 5 87 (tk_ 31 63) HT_.out rfl rfl (by kernel_rfl) (fun _ _ _ h => h) (by rfl) (fun w' => by go_simp; with_reducible rfl) (by simp only [s0_, s1_, s2_, s3_, s4_, s5_]; rfl) ?_
             refine sk_ 6 88 (tk_ 31 127) HT_.out rfl rfl (by kernel_rfl) (fun _ _ _ h => h) (by rfl) (by simp only [s0_, s1_, s2_, s3_, s4_, s5_]; rfl) ?_
             refine sk_ 7 89 (tk_ 31 255) HT_.out rfl rfl (by kernel_rfl) (fun _ _ _ h => h) (by rfl) (by simp only [s0_, s1_, s2_, s3_, s4_, s5_]; rfl) ?_
             refine sk_ 8 90 (tk_ 31 511) HT_.out rfl rfl (by kernel_rfl) (fun _ _ _ h => h) (by rfl) (by simp only [s0_, s1_, s2_, s3_, s4_, s5_]; rfl) ?_
             refine pu_ 9 91 (tk_ 31 1023) HT_.out rfl rfl (by kernel_rfl) (fun _ _ _ h => h) (by rfl) (fun w' => by go_simp; with_reducible rfl) (by simp only [s0_, s1_, s2_, s3_, s4_, s5_]; rfl) ?_
             refine pu_ 10 92 (tk_ 31 2047) HT_.out rfl rfl (by kernel_rfl) (fun _ _ _ h => h) (by rfl) (fun w' => by go_simp; with_reducible rfl) (by simp only [s0_, s1_, s2_, s3_, s4_, s5_]; rfl) ?_
             refine sk_ 11 93 (tk_ 31 4095) HT_.out rfl rfl (by kernel_rfl) (fun _ _ _ h => h) (by rfl) (by simp only [s0_, s1_, s2_, s3_, s4_, s5_]; rfl) ?_
             refine sk_ 12 94 (tk_ 31 8191) HT_.out rfl rfl (by kernel_rfl) (fun _ _ _ h => h) (by rfl) (by simp only [s0_, s1_, s2_, s3_, s4_, s5_]; rfl) ?_
             refine sk_ 13 95 (tk_ 31 16383) HT_.out rfl rfl (by kernel_rfl) (fun _ _ _ h => h) (by rfl) (by simp only [s0_, s1_, s2_, s3_, s4_, s5_]; rfl) ?_
             refine sk_ 14 96 (tk_ 31 32767) HT_.out rfl rfl (by kernel_rfl) (fun _ _ _ h => h) (by rfl) (by simp only [s0_, s1_, s2_, s3_, s4_, s5_]; rfl) ?_
             refine sk_ 15 97 (tk_ 31 65535) HT_.out rfl rfl (by kernel_rfl) (fun _ _ _ h => h) (by rfl) (by simp only [s0_, s1_, s2_, s3_, s4_, s5_]; rfl) ?_
             refine pu_ 16 98 (tk_ 31 131071) HT_.out rfl rfl (by kernel_rfl) (fun _ _ _ h => h) (by rfl) (fun w' => by go_simp; with_reducible rfl) (by simp only [s0_, s1_, s2_, s3_, s4_, s5_]; rfl) ?_
             refine pu_ 17 99 (tk_ 31 262143) HT_.out rfl rfl (by kernel_rfl) (fun _ _ _ h => h) (by rfl) (fun w' => by go_simp; with_reducible rfl) (by simp only [s0_, s1_, s2_, s3_, s4_, s5_]; rfl) ?_
             refine pu_ 18 100 (tk_ 31 524287) HT_.out rfl rfl (by kernel_rfl) (fun _ _ _ h => h) (by rfl) (fun w' => by go_simp; with_reducible rfl) (by simp only [s0_, s1_, s2_, s3_, s4_, s5_]; rfl) ?_
             refine pu_ 19 101 (tk_ 31 1048575) HT_.out rfl rfl (by kernel_rfl) (fun _ _ _ h => h) (by rfl) (fun w' => by go_simp; with_reducible rfl) (by simp only [s0_, s1_, s2_, s3_, s4_, s5_]; rfl) ?_
             refine pu_ 20 102 (tk_ 31 2097151) HT_.out rfl rfl (by kernel_rfl) (fun _ _ _ h => h) (by rfl) (fun w' => by go_simp; with_reducible rfl) (by simp only [s0_, s1_, s2_, s3_, s4_, s5_]; rfl) ?_
             refine sk_ 21 103 (tk_ 31 4194303) HT_.out rfl rfl (by kernel_rfl) (fun _ _ _ h => h) (by rfl) (by simp only [s0_, s1_, s2_, s3_, s4_, s5_]; rfl) ?_
             refine sk_ 22 104 (tk_ 31 8388607) HT_.out rfl rfl (by kernel_rfl) (fun _ _ _ h => h) (by rfl) (by simp only [s0_, s1_, s2_, s3_, s4_, s5_]; rfl) ?_
             refine sk_ 23 105 (tk_ 31 16777215) HT_.out rfl rfl (by kernel_rfl) (fun _ _ _ h => h) (by rfl) (by simp only [s0_, s1_, s2_, s3_, s4_, s5_]; rfl) ?_
             refine sk_ 24 106 (tk_ 31 33554431) HT_.out rfl rfl (by kernel_rfl) (fun _ _ _ h => h) (by rfl) (by simp only [s0_, s1_, s2_, s3_, s4_, s5_]; rfl) ?_
             refine sk_ 25 107 (tk_ 31 67108863) HT_.out rfl rfl (by kernel_rfl) (fun _ _ _ h => h) (by rfl) (by simp only [s0_, s1_, s2_, s3_, s4_, s5_]; rfl) ?_
             refine sk_ 26 108 (tk_ 31 134217727) HT_.out rfl rfl (by kernel_rfl) (fun _ _ _ h => h) (by rfl) (by simp only [s0_, s1_, s2_, s3_, s4_, s5_]; rfl) ?_
             refine sk_ 27 109 (tk_ 31 268435455) HT_.out rfl rfl (by kernel_rfl) (fun _ _ _ h => h) (by rfl) (by simp only [s0_, s1_, s2_, s3_, s4_, s5_]; rfl) ?_
             refine sk_ 28 110 (tk_ 31 536870911) HT_.out rfl rfl (by kernel_rfl) (fun _ _ _ h => h) (by rfl) (by simp only [s0_, s1_, s2_, s3_, s4_, s5_]; rfl) ?_
             refine pu_ 29 111 (tk_ 31 1073741823) HT_.out rfl rfl (by kernel_rfl) (fun _ _ _ h => h) (by rfl) (fun w' => by go_simp; with_reducible rfl) (by simp only [s0_, s1_, s2_, s3_, s4_, s5_]; rfl) ?_
             refine pu_ 30 112 (tk_ 31 2147483647) HT_.out rfl rfl (by kernel_rfl) (fun _ _ _ h => h) (by rfl) (fun w' => by go_simp; with_reducible rfl) (by simp only [s0_, s1_, s2_, s3_, s4_, s5_]; rfl) ?_
             refine done_ (done_of HT_.out (by kernel_rfl)) ?_
             try go_wp2
             go_meet
             case rel => exact ⟨_, (false), (by first | rfl | (simp; done) | (simp [*]; done) | (simp; generalize ByteArray.toList _ = l_; cases l_ <;> rfl)), H', ⟨by have := HJ3.out; have := HK2.out; have := HJ32.out; first | omega | exact Nat.le_refl _⟩, ⟨by (with_reducible repeat (first | apply Kd.R_alloc | apply Kd.R_drewN | apply Kd.R_drew)); exact HO_200001.out⟩, ⟨by (with_reducible repeat (first | apply Kd.R_alloc | apply Kd.R_drewN | apply Kd.R_drew)); exact HO_209001.out⟩, ⟨by (with_reducible repeat (first | apply Kd.R_alloc | apply Kd.R_drewN | apply Kd.R_drew)); exact HO_221001.out⟩, ⟨by (with_reducible repeat (first | refine blk_drewN ?_ _ | refine blk_drew ?_ | refine blk_alloc ?_ _)); exact BK192.out⟩, ⟨by (with_reducible repeat (first | refine blk_drewN ?_ _ | refine blk_drew ?_ | refine blk_alloc ?_ _)); exact BK199.out⟩, ⟨by (with_reducible repeat (first | refine blk_drewN ?_ _ | refine blk_drew ?_ | refine blk_alloc ?_ _)); exact BK208.out⟩, ⟨by (with_reducible repeat (first | refine blk_drewN ?_ _ | refine blk_drew ?_ | refine blk_alloc ?_ _)); exact BK220.out⟩, ⟨by (with_reducible repeat (first | refine blk_drewN ?_ _ | refine blk_drew ?_ | refine blk_alloc ?_ _)); exact BK224.out⟩, ⟨by repeat (first | (with_reducible first | exact HB.out | apply below_alloc | apply pw_below_drewN | apply below_drew1 | refine below_set ?_ GE192.out | refine below_set ?_ GE199.out | refine below_set ?_ GE208.out | refine below_set ?_ GE220.out | refine below_set ?_ GE224.out) | exact HB.out)⟩⟩
           ·replace c60 := Bool.eq_false_iff.mpr c60
            subst c60
            have H1 : (if t222 = 0 then (erasurelaw19_FontKeeps.j3 kj32 t207 t219 (t223.toList != ([] : List UInt8)) t193 t194 t197 t202 t203 t206 t214 t215 t218) else (erasurelaw19_FontKeeps.j3 kj32 t207 t219 true t193 t194 t197 t202 t203 t206 t214 t215 t218)) = some r := by rw [if_neg (show ¬ (false = true) by decide)] at H; exact H
            clear H
            have H := H1
            clear H1
            by_cases c75 : t222 = 0
            ·rw [if_pos c75] at H
             have c75b0 : (t222 == 0) = true := beq_iff_eq.mpr c75
             have c75b1 : (t222 != 0) = false := bne_eq_false_iff_eq.mpr c75
             clear c75
             have H' := Aside0.mk H
             clear H
             try go_wp2
             have n0_ : Aside0 (Kd.R k37 37 (((w54.setCell ⟨gb224, 0, none⟩ (.int .i64 t221)).setCell ⟨gb224, 1, none⟩ (.int .i64 t222)).setCell ⟨gb224, 2, none⟩ (.string t223)) w.heap.size (fun k_ => some k_ ≠ (.slice Ao24 t203.length co24 : Value).ownBlock ∧ some k_ ≠ (.slice Ao44 t215.length co44 : Value).ownBlock ∧ k_ ≠ gb224) (.slice Ao18 t194.length co18) t194) := ⟨by (with_reducible repeat (first | apply Kd.R_alloc | apply Kd.R_drewN | apply Kd.R_drew)); exact Kd.R_mono (Kd.R_far (p := ⟨gb224, 2, none⟩) (Kd.R_far (p := ⟨gb224, 1, none⟩) (Kd.R_far (p := ⟨gb224, 0, none⟩) (Kd.R_mono HO_200001.out (fun k_ hk => (⟨hk, hk.2⟩ : _ ∧ k_ ≠ gb224))) (fun _ hk => hk.2) (.int .i64 t221)) (fun _ hk => hk.2) (.int .i64 t222)) (fun _ hk => hk.2) (.string t223)) (fun _ hk => ⟨hk.1.1.1, ⟨hk.1.1.2, hk.1.2⟩⟩)⟩
             have n1_ : Aside0 (Kd.R k37 37 (((w54.setCell ⟨gb224, 0, none⟩ (.int .i64 t221)).setCell ⟨gb224, 1, none⟩ (.int .i64 t222)).setCell ⟨gb224, 2, none⟩ (.string t223)) w.heap.size (fun k_ => some k_ ≠ (.slice Ao18 t194.length co18 : Value).ownBlock ∧ some k_ ≠ (.slice Ao44 t215.length co44 : Value).ownBlock ∧ k_ ≠ gb224) (.slice Ao24 t203.length co24) t203) := ⟨by (with_reducible repeat (first | apply Kd.R_alloc | apply Kd.R_drewN | apply Kd.R_drew)); exact Kd.R_mono (Kd.R_far (p := ⟨gb224, 2, none⟩) (Kd.R_far (p := ⟨gb224, 1, none⟩) (Kd.R_far (p := ⟨gb224, 0, none⟩) (Kd.R_mono HO_209001.out (fun k_ hk => (⟨hk, hk.2⟩ : _ ∧ k_ ≠ gb224))) (fun _ hk => hk.2) (.int .i64 t221)) (fun _ hk => hk.2) (.int .i64 t222)) (fun _ hk => hk.2) (.string t223)) (fun _ hk => ⟨hk.1.1.1, ⟨hk.1.1.2, hk.1.2⟩⟩)⟩
             have n2_ : Aside0 (Kd.R k37 37 (((w54.setCell ⟨gb224, 0, none⟩ (.int .i64 t221)).setCell ⟨gb224, 1, none⟩ (.int .i64 t222)).setCell ⟨gb224, 2, none⟩ (.string t223)) w.heap.size (fun k_ => some k_ ≠ (.slice Ao18 t194.length co18 : Value).ownBlock ∧ some k_ ≠ (.slice Ao24 t203.length co24 : Value).ownBlock ∧ k_ ≠ gb224) (.slice Ao44 t215.length co44) t215) := ⟨by (with_reducible repeat (first | apply Kd.R_alloc | apply Kd.R_drewN | apply Kd.R_drew)); exact Kd.R_mono (Kd.R_far (p := ⟨gb224, 2, none⟩) (Kd.R_far (p := ⟨gb224, 1, none⟩) (Kd.R_far (p := ⟨gb224, 0, none⟩) (Kd.R_mono HO_221001.out (fun k_ hk => (⟨hk, hk.2⟩ : _ ∧ k_ ≠ gb224))) (fun _ hk => hk.2) (.int .i64 t221)) (fun _ hk => hk.2) (.int .i64 t222)) (fun _ hk => hk.2) (.string t223)) (fun _ hk => ⟨hk.1.1.1, ⟨hk.1.1.2, hk.1.2⟩⟩)⟩
             have n3_ : Aside0 ((((w54.setCell ⟨gb224, 0, none⟩ (.int .i64 t221)).setCell ⟨gb224, 1, none⟩ (.int .i64 t222)).setCell ⟨gb224, 2, none⟩ (.string t223)).heap[gb192]? = some (.cells #[.bool a0_0, .slice A0_1 l0_1.length c0_1, .int .i64 a0_2] 24 (0, 0))) := ⟨by (with_reducible repeat (first | refine blk_drewN ?_ _ | refine blk_drew ?_ | refine blk_alloc ?_ _)); refine blk_far ?_ NB192_224.out _; (with_reducible repeat (first | refine blk_drewN ?_ _ | refine blk_drew ?_ | refine blk_alloc ?_ _)); refine blk_far ?_ NB192_224.out _; (with_reducible repeat (first | refine blk_drewN ?_ _ | refine blk_drew ?_ | refine blk_alloc ?_ _)); refine blk_far ?_ NB192_224.out _; (with_reducible repeat (first | refine blk_drewN ?_ _ | refine blk_drew ?_ | refine blk_alloc ?_ _)); exact BK192.out⟩
             have n4_ : Aside0 ((((w54.setCell ⟨gb224, 0, none⟩ (.int .i64 t221)).setCell ⟨gb224, 1, none⟩ (.int .i64 t222)).setCell ⟨gb224, 2, none⟩ (.string t223)).heap[gb199]? = some (.cells #[.bool t193, .slice Ao18 t194.length co18, .int .i64 t197] 24 (0, 0))) := ⟨by (with_reducible repeat (first | refine blk_drewN ?_ _ | refine blk_drew ?_ | refine blk_alloc ?_ _)); refine blk_far ?_ NB199_224.out _; (with_reducible repeat (first | refine blk_drewN ?_ _ | refine blk_drew ?_ | refine blk_alloc ?_ _)); refine blk_far ?_ NB199_224.out _; (with_reducible repeat (first | refine blk_drewN ?_ _ | refine blk_drew ?_ | refine blk_alloc ?_ _)); refine blk_far ?_ NB199_224.out _; (with_reducible repeat (first | refine blk_drewN ?_ _ | refine blk_drew ?_ | refine blk_alloc ?_ _)); exact BK199.out⟩
             have n5_ : Aside0 ((((w54.setCell ⟨gb224, 0, none⟩ (.int .i64 t221)).setCell ⟨gb224, 1, none⟩ (.int .i64 t222)).setCell ⟨gb224, 2, none⟩ (.string t223)).heap[gb208]? = some (.cells #[.bool t202, .slice Ao24 t203.length co24, .int .i64 t206] 24 (0, 0))) := ⟨by (with_reducible repeat (first | refine blk_drewN ?_ _ | refine blk_drew ?_ | refine blk_alloc ?_ _)); refine blk_far ?_ NB208_224.out _; (with_reducible repeat (first | refine blk_drewN ?_ _ | refine blk_drew ?_ | refine blk_alloc ?_ _)); refine blk_far ?_ NB208_224.out _; (with_reducible repeat (first | refine blk_drewN ?_ _ | refine blk_drew ?_ | refine blk_alloc ?_ _)); refine blk_far ?_ NB208_224.out _; (with_reducible repeat (first | refine blk_drewN ?_ _ | refine blk_drew ?_ | refine blk_alloc ?_ _)); exact BK208.out⟩
             have n6_ : Aside0 ((((w54.setCell ⟨gb224, 0, none⟩ (.int .i64 t221)).setCell ⟨gb224, 1, none⟩ (.int .i64 t222)).setCell ⟨gb224, 2, none⟩ (.string t223)).heap[gb220]? = some (.cells #[.bool t214, .slice Ao44 t215.length co44, .int .i64 t218] 24 (0, 0))) := ⟨by (with_reducible repeat (first | refine blk_drewN ?_ _ | refine blk_drew ?_ | refine blk_alloc ?_ _)); refine blk_far ?_ NB220_224.out _; (with_reducible repeat (first | refine blk_drewN ?_ _ | refine blk_drew ?_ | refine blk_alloc ?_ _)); refine blk_far ?_ NB220_224.out _; (with_reducible repeat (first | refine blk_drewN ?_ _ | refine blk_drew ?_ | refine blk_alloc ?_ _)); refine blk_far ?_ NB220_224.out _; (with_reducible repeat (first | refine blk_drewN ?_ _ | refine blk_drew ?_ | refine blk_alloc ?_ _)); exact BK220.out⟩
             have n7_ : Aside0 ((((w54.setCell ⟨gb224, 0, none⟩ (.int .i64 t221)).setCell ⟨gb224, 1, none⟩ (.int .i64 t222)).setCell ⟨gb224, 2, none⟩ (.string t223)).heap[gb224]? = some (.cells #[.int .i64 t221, .int .i64 t222, .string t223] 37 (0, 0))) := ⟨by (with_reducible repeat (first | refine blk_drewN ?_ _ | refine blk_drew ?_ | refine blk_alloc ?_ _)); refine blk_put (cs := #[.int .i64 t221, .int .i64 t222, .string (⟨#[]⟩ : ByteArray)]) ?_ 2 _ rfl; (with_reducible repeat (first | refine blk_drewN ?_ _ | refine blk_drew ?_ | refine blk_alloc ?_ _)); refine blk_put (cs := #[.int .i64 t221, .int .i64 0, .string (⟨#[]⟩ : ByteArray)]) ?_ 1 _ rfl; (with_reducible repeat (first | refine blk_drewN ?_ _ | refine blk_drew ?_ | refine blk_alloc ?_ _)); refine blk_put (cs := #[.int .i64 0, .int .i64 0, .string (⟨#[]⟩ : ByteArray)]) ?_ 0 _ rfl; (with_reducible repeat (first | refine blk_drewN ?_ _ | refine blk_drew ?_ | refine blk_alloc ?_ _)); exact BK224.out⟩
             have n8_ : Aside0 (Below w.heap.size w (((w54.setCell ⟨gb224, 0, none⟩ (.int .i64 t221)).setCell ⟨gb224, 1, none⟩ (.int .i64 t222)).setCell ⟨gb224, 2, none⟩ (.string t223))) := ⟨by repeat (first | (with_reducible first | exact HB.out | apply below_alloc | apply pw_below_drewN | apply below_drew1 | refine below_set ?_ GE192.out | refine below_set ?_ GE199.out | refine below_set ?_ GE208.out | refine below_set ?_ GE220.out | refine below_set ?_ GE224.out) | exact HB.out)⟩
             (try clear HO_200001)
             (try clear HO_209001)
             (try clear HO_221001)
             (try clear BK192)
             (try clear BK199)
             (try clear BK208)
             (try clear BK220)
             (try clear BK224)
             (try clear HB)
             generalize (((w54.setCell ⟨gb224, 0, none⟩ (.int .i64 t221)).setCell ⟨gb224, 1, none⟩ (.int .i64 t222)).setCell ⟨gb224, 2, none⟩ (.string t223)) = w76 at n0_ n1_ n2_ n3_ n4_ n5_ n6_ n7_ n8_ ⊢
             have HO_200001 := n0_
             have HO_209001 := n1_
             have HO_221001 := n2_
             have BK192 := n3_
             have BK199 := n4_
             have BK208 := n5_
             have BK220 := n6_
             have BK224 := n7_
             have HB := n8_
             clear n0_ n1_ n2_ n3_ n4_ n5_ n6_ n7_ n8_
             have n0_ := Aside0.mk (Kd.R_drew HO_200001.out)
             have n1_ := Aside0.mk (Kd.R_drew HO_209001.out)
             have n2_ := Aside0.mk (Kd.R_drew HO_221001.out)
             have n3_ := Aside0.mk (blk_drew BK192.out)
             have n4_ := Aside0.mk (blk_drew BK199.out)
             have n5_ := Aside0.mk (blk_drew BK208.out)
             have n6_ := Aside0.mk (blk_drew BK220.out)
             have n7_ := Aside0.mk (blk_drew BK224.out)
             have n8_ := Aside0.mk (below_drew1 HB.out)
             clear HO_200001
             clear HO_209001
             clear HO_221001
             clear BK192
             clear BK199
             clear BK208
             clear BK220
             clear BK224
             clear HB
             have HO_200001 := n0_
             have HO_209001 := n1_
             have HO_221001 := n2_
             have BK192 := n3_
             have BK199 := n4_
             have BK208 := n5_
             have BK220 := n6_
             have BK224 := n7_
             have HB := n8_
             clear n0_ n1_ n2_ n3_ n4_ n5_ n6_ n7_ n8_
             refine start_ (n := 31) (S := fun w' => w'.cell? ⟨gb224, 0, none⟩ = some (.int .i64 t221) ∧ w'.cell? ⟨gb224, 1, none⟩ = some (.int .i64 t222) ∧ w'.cell? ⟨gb224, 2, none⟩ = some (.string t223)) (ds := []) (tk_ 31 0) (by kernel_rfl) rfl (by kernel_rfl) ⟨(blk_cell BK224.out 0).trans rfl, (blk_cell BK224.out 1).trans rfl, (blk_cell BK224.out 2).trans rfl⟩ (fun hHeld => ?_); refine with_tabW erasurelaw19_FontKeeps.tab19 erasurelaw19_FontKeeps.bits19 (fun HT_ HW_ => ?_)
             generalize w76.drew = w77 at HO_200001 HO_209001 HO_221001 BK192 BK199 BK208 BK220 BK224 HB hHeld ⊢
             refine pu_ 0 82 (tk_ 31 1) HT_.out rfl rfl (by kernel_rfl) (fun _ _ _ h => h) (by rfl) (fun w' => by go_simp; with_reducible rfl) (by simp only [s0_, s1_, s2_, s3_, s4_, s5_]; rfl) ?_
             refine pu_ 1 83 (tk_ 31 3) HT_.out rfl rfl (by kernel_rfl) (fun _ _ _ h => h) (by rfl) (fun w' => by go_simp; with_reducible rfl) (by simp only [s0_, s1_, s2_, s3_, s4_, s5_]; rfl) ?_
             refine sk_ 2 84 (tk_ 31 7) HT_.out rfl rfl (by kernel_rfl) (fun _ _ _ h => h) (by rfl) (by simp only [s0_, s1_, s2_, s3_, s4_, s5_]; rfl) ?_
             refine sk_ 3 85 (tk_ 31 15) HT_.out rfl rfl (by kernel_rfl) (fun _ _ _ h => h) (by rfl) (by simp only [s0_, s1_, s2_, s3_, s4_, s5_]; rfl) ?_
             refine pu_ 4 86 (tk_ 31 31) HT_.out rfl rfl (by kernel_rfl) (fun _ _ _ h => h) (by rfl) (fun w' => by go_simp; with_reducible rfl) (by simp only [s0_, s1_, s2_, s3_, s4_, s5_]; rfl) ?_
             refine pu_ 5 87 (tk_ 31 63) HT_.out rfl rfl (by kernel_rfl) (fun _ _ _ h => h) (by rfl) (fun w' => by go_simp; with_reducible rfl) (by simp only [s0_, s1_, s2_, s3_, s4_, s5_]; rfl) ?_
             refine sk_ 6 88 (tk_ 31 127) HT_.out rfl rfl (by kernel_rfl) (fun _ _ _ h => h) (by rfl) (by simp only [s0_, s1_, s2_, s3_, s4_, s5_]; rfl) ?_
             refine sk_ 7 89 (tk_ 31 255) HT_.out rfl rfl (by kernel_rfl) (fun _ _ _ h => h) (by rfl) (by simp only [s0_, s1_, s2_, s3_, s4_, s5_]; rfl) ?_
             refine sk_ 8 90 (tk_ 31 511) HT_.out rfl rfl (by kernel_rfl) (fun _ _ _ h => h) (by rfl) (by simp only [s0_, s1_, s2_, s3_, s4_, s5_]; rfl) ?_
             refine pu_ 9 91 (tk_ 31 1023) HT_.out rfl rfl (by kernel_rfl) (fun _ _ _ h => h) (by rfl) (fun w' => by go_simp; with_reducible rfl) (by simp only [s0_, s1_, s2_, s3_, s4_, s5_]; rfl) ?_
             refine pu_ 10 92 (tk_ 31 2047) HT_.out rfl rfl (by kernel_rfl) (fun _ _ _ h => h) (by rfl) (fun w' => by go_simp; with_reducible rfl) (by simp only [s0_, s1_, s2_, s3_, s4_, s5_]; rfl) ?_
             refine sk_ 11 93 (tk_ 31 4095) HT_.out rfl rfl (by kernel_rfl) (fun _ _ _ h => h) (by rfl) (by simp only [s0_, s1_, s2_, s3_, s4_, s5_]; rfl) ?_
             refine sk_ 12 94 (tk_ 31 8191) HT_.out rfl rfl (by kernel_rfl) (fun _ _ _ h => h) (by rfl) (by simp only [s0_, s1_, s2_, s3_, s4_, s5_]; rfl) ?_
             refine sk_ 13 95 (tk_ 31 16383) HT_.out rfl rfl (by kernel_rfl) (fun _ _ _ h => h) (by rfl) (by simp only [s0_, s1_, s2_, s3_, s4_, s5_]; rfl) ?_
             refine sk_ 14 96 (tk_ 31 32767) HT_.out rfl rfl (by kernel_rfl) (fun _ _ _ h => h) (by rfl) (by simp only [s0_, s1_, s2_, s3_, s4_, s5_]; rfl) ?_
             refine sk_ 15 97 (tk_ 31 65535) HT_.out rfl rfl (by kernel_rfl) (fun _ _ _ h => h) (by rfl) (by simp only [s0_, s1_, s2_, s3_, s4_, s5_]; rfl) ?_
             refine pu_ 16 98 (tk_ 31 131071) HT_.out rfl rfl (by kernel_rfl) (fun _ _ _ h => h) (by rfl) (fun w' => by go_simp; with_reducible rfl) (by simp only [s0_, s1_, s2_, s3_, s4_, s5_]; rfl) ?_
             refine pu_ 17 99 (tk_ 31 262143) HT_.out rfl rfl (by kernel_rfl) (fun _ _ _ h => h) (by rfl) (fun w' => by go_simp; with_reducible rfl) (by simp only [s0_, s1_, s2_, s3_, s4_, s5_]; rfl) ?_
             refine pu_ 18 100 (tk_ 31 524287) HT_.out rfl rfl (by kernel_rfl) (fun _ _ _ h => h) (by rfl) (fun w' => by go_simp; with_reducible rfl) (by simp only [s0_, s1_, s2_, s3_, s4_, s5_]; rfl) ?_
             refine pu_ 19 101 (tk_ 31 1048575) HT_.out rfl rfl (by kernel_rfl) (fun _ _ _ h => h) (by rfl) (fun w' => by go_simp; with_reducible rfl) (by simp only [s0_, s1_, s2_, s3_, s4_, s5_]; rfl) ?_
             refine pu_ 20 102 (tk_ 31 2097151) HT_.out rfl rfl (by kernel_rfl) (fun _ _ _ h => h) (by rfl) (fun w' => by go_simp; with_reducible rfl) (by simp only [s0_, s1_, s2_, s3_, s4_, s5_]; rfl) ?_
             refine pu_ 21 103 (tk_ 31 4194303) HT_.out rfl rfl (by kernel_rfl) (fun _ _ _ h => h) (by rfl) (fun w' => by go_simp; with_reducible rfl) (by simp only [s0_, s1_, s2_, s3_, s4_, s5_]; rfl) ?_
             refine ta_ 22 104 (tk_ 31 8388607) HT_.out HW_.out rfl rfl (by kernel_rfl) (fun _ _ _ h => h) (by rfl) (by rintro w' ⟨s0, s1, s2⟩; go_simp; with_reducible rfl) hHeld (by simp only [s0_, s1_, s2_, s3_, s4_, s5_]; rfl) ?_
             refine pu_ 23 105 (tk_ 31 16777215) HT_.out rfl rfl (by kernel_rfl) (fun _ _ _ h => h) (by rfl) (fun w' => by go_simp; with_reducible rfl) (by simp only [s0_, s1_, s2_, s3_, s4_, s5_]; rfl) ?_
             refine pu_ 24 106 (tk_ 31 33554431) HT_.out rfl rfl (by kernel_rfl) (fun _ _ _ h => h) (by rfl) (fun w' => by go_simp; with_reducible rfl) (by simp only [s0_, s1_, s2_, s3_, s4_, s5_]; rfl) ?_
             refine pu_ 25 107 (tk_ 31 67108863) HT_.out rfl rfl (by kernel_rfl) (fun _ _ _ h => h) (by rfl) (fun w' => by go_simp; with_reducible rfl) (by simp only [s0_, s1_, s2_, s3_, s4_, s5_]; rfl) ?_
             refine ta_ 26 108 (tk_ 31 134217727) HT_.out HW_.out rfl rfl (by kernel_rfl) (fun _ _ _ h => h) (by rfl) (by rintro w' ⟨s0, s1, s2⟩; go_simp; with_reducible rfl) hHeld (by simp only [s0_, s1_, s2_, s3_, s4_, s5_]; rfl) ?_
             refine pu_ 27 109 (tk_ 31 268435455) HT_.out rfl rfl (by kernel_rfl) (fun _ _ _ h => h) (by rfl) (fun w' => by go_simp; with_reducible rfl) (by simp only [s0_, s1_, s2_, s3_, s4_, s5_]; rfl) ?_
             refine pu_ 28 110 (tk_ 31 536870911) HT_.out rfl rfl (by kernel_rfl) (fun _ _ _ h => h) (by rfl) (fun w' => by go_simp; with_reducible rfl) (by simp only [s0_, s1_, s2_, s3_, s4_, s5_]; rfl) ?_
             refine pu_ 29 111 (tk_ 31 1073741823) HT_.out rfl rfl (by kernel_rfl) (fun _ _ _ h => h) (by rfl) (fun w' => by go_simp; with_reducible rfl) (by simp only [s0_, s1_, s2_, s3_, s4_, s5_]; rfl) ?_
             refine pu_ 30 112 (tk_ 31 2147483647) HT_.out rfl rfl (by kernel_rfl) (fun _ _ _ h => h) (by rfl) (fun w' => by go_simp; with_reducible rfl) (by simp only [s0_, s1_, s2_, s3_, s4_, s5_]; rfl) ?_
             refine done_ (done_of HT_.out (by kernel_rfl)) ?_
             try go_wp2
             go_meet
             case rel => exact ⟨_, ((t223.toList != ([] : List UInt8))), (by first | rfl | (simp; done) | (simp [*]; done) | (simp; generalize ByteArray.toList _ = l_; cases l_ <;> rfl)), H', ⟨by have := HJ3.out; have := HK2.out; have := HJ32.out; first | omega | exact Nat.le_refl _⟩, ⟨by (with_reducible repeat (first | apply Kd.R_alloc | apply Kd.R_drewN | apply Kd.R_drew)); exact HO_200001.out⟩, ⟨by (with_reducible repeat (first | apply Kd.R_alloc | apply Kd.R_drewN | apply Kd.R_drew)); exact HO_209001.out⟩, ⟨by (with_reducible repeat (first | apply Kd.R_alloc | apply Kd.R_drewN | apply Kd.R_drew)); exact HO_221001.out⟩, ⟨by (with_reducible repeat (first | refine blk_drewN ?_ _ | refine blk_drew ?_ | refine blk_alloc ?_ _)); exact BK192.out⟩, ⟨by (with_reducible repeat (first | refine blk_drewN ?_ _ | refine blk_drew ?_ | refine blk_alloc ?_ _)); exact BK199.out⟩, ⟨by (with_reducible repeat (first | refine blk_drewN ?_ _ | refine blk_drew ?_ | refine blk_alloc ?_ _)); exact BK208.out⟩, ⟨by (with_reducible repeat (first | refine blk_drewN ?_ _ | refine blk_drew ?_ | refine blk_alloc ?_ _)); exact BK220.out⟩, ⟨by (with_reducible repeat (first | refine blk_drewN ?_ _ | refine blk_drew ?_ | refine blk_alloc ?_ _)); exact BK224.out⟩, ⟨by repeat (first | (with_reducible first | exact HB.out | apply below_alloc | apply pw_below_drewN | apply below_drew1 | refine below_set ?_ GE192.out | refine below_set ?_ GE199.out | refine below_set ?_ GE208.out | refine below_set ?_ GE220.out | refine below_set ?_ GE224.out) | exact HB.out)⟩⟩
            ·rw [if_neg c75] at H
             have c75b0 : (t222 == 0) = false := beq_eq_false_iff_ne.mpr c75
             have c75b1 : (t222 != 0) = true := bne_iff_ne.mpr c75
             have H' := Aside0.mk H
             clear H
             try go_wp2
             have n0_ : Aside0 (Kd.R k37 37 (((w54.setCell ⟨gb224, 0, none⟩ (.int .i64 t221)).setCell ⟨gb224, 1, none⟩ (.int .i64 t222)).setCell ⟨gb224, 2, none⟩ (.string t223)) w.heap.size (fun k_ => some k_ ≠ (.slice Ao24 t203.length co24 : Value).ownBlock ∧ some k_ ≠ (.slice Ao44 t215.length co44 : Value).ownBlock ∧ k_ ≠ gb224) (.slice Ao18 t194.length co18) t194) := ⟨by (with_reducible repeat (first | apply Kd.R_alloc | apply Kd.R_drewN | apply Kd.R_drew)); exact Kd.R_mono (Kd.R_far (p := ⟨gb224, 2, none⟩) (Kd.R_far (p := ⟨gb224, 1, none⟩) (Kd.R_far (p := ⟨gb224, 0, none⟩) (Kd.R_mono HO_200001.out (fun k_ hk => (⟨hk, hk.2⟩ : _ ∧ k_ ≠ gb224))) (fun _ hk => hk.2) (.int .i64 t221)) (fun _ hk => hk.2) (.int .i64 t222)) (fun _ hk => hk.2) (.string t223)) (fun _ hk => ⟨hk.1.1.1, ⟨hk.1.1.2, hk.1.2⟩⟩)⟩
             have n1_ : Aside0 (Kd.R k37 37 (((w54.setCell ⟨gb224, 0, none⟩ (.int .i64 t221)).setCell ⟨gb224, 1, none⟩ (.int .i64 t222)).setCell ⟨gb224, 2, none⟩ (.string t223)) w.heap.size (fun k_ => some k_ ≠ (.slice Ao18 t194.length co18 : Value).ownBlock ∧ some k_ ≠ (.slice Ao44 t215.length co44 : Value).ownBlock ∧ k_ ≠ gb224) (.slice Ao24 t203.length co24) t203) := ⟨by (with_reducible repeat (first | apply Kd.R_alloc | apply Kd.R_drewN | apply Kd.R_drew)); exact Kd.R_mono (Kd.R_far (p := ⟨gb224, 2, none⟩) (Kd.R_far (p := ⟨gb224, 1, none⟩) (Kd.R_far (p := ⟨gb224, 0, none⟩) (Kd.R_mono HO_209001.out (fun k_ hk => (⟨hk, hk.2⟩ : _ ∧ k_ ≠ gb224))) (fun _ hk => hk.2) (.int .i64 t221)) (fun _ hk => hk.2) (.int .i64 t222)) (fun _ hk => hk.2) (.string t223)) (fun _ hk => ⟨hk.1.1.1, ⟨hk.1.1.2, hk.1.2⟩⟩)⟩
             have n2_ : Aside0 (Kd.R k37 37 (((w54.setCell ⟨gb224, 0, none⟩ (.int .i64 t221)).setCell ⟨gb224, 1, none⟩ (.int .i64 t222)).setCell ⟨gb224, 2, none⟩ (.string t223)) w.heap.size (fun k_ => some k_ ≠ (.slice Ao18 t194.length co18 : Value).ownBlock ∧ some k_ ≠ (.slice Ao24 t203.length co24 : Value).ownBlock ∧ k_ ≠ gb224) (.slice Ao44 t215.length co44) t215) := ⟨by (with_reducible repeat (first | apply Kd.R_alloc | apply Kd.R_drewN | apply Kd.R_drew)); exact Kd.R_mono (Kd.R_far (p := ⟨gb224, 2, none⟩) (Kd.R_far (p := ⟨gb224, 1, none⟩) (Kd.R_far (p := ⟨gb224, 0, none⟩) (Kd.R_mono HO_221001.out (fun k_ hk => (⟨hk, hk.2⟩ : _ ∧ k_ ≠ gb224))) (fun _ hk => hk.2) (.int .i64 t221)) (fun _ hk => hk.2) (.int .i64 t222)) (fun _ hk => hk.2) (.string t223)) (fun _ hk => ⟨hk.1.1.1, ⟨hk.1.1.2, hk.1.2⟩⟩)⟩
             have n3_ : Aside0 ((((w54.setCell ⟨gb224, 0, none⟩ (.int .i64 t221)).setCell ⟨gb224, 1, none⟩ (.int .i64 t222)).setCell ⟨gb224, 2, none⟩ (.string t223)).heap[gb192]? = some (.cells #[.bool a0_0, .slice A0_1 l0_1.length c0_1, .int .i64 a0_2] 24 (0, 0))) := ⟨by (with_reducible repeat (first | refine blk_drewN ?_ _ | refine blk_drew ?_ | refine blk_alloc ?_ _)); refine blk_far ?_ NB192_224.out _; (with_reducible repeat (first | refine blk_drewN ?_ _ | refine blk_drew ?_ | refine blk_alloc ?_ _)); refine blk_far ?_ NB192_224.out _; (with_reducible repeat (first | refine blk_drewN ?_ _ | refine blk_drew ?_ | refine blk_alloc ?_ _)); refine blk_far ?_ NB192_224.out _; (with_reducible repeat (first | refine blk_drewN ?_ _ | refine blk_drew ?_ | refine blk_alloc ?_ _)); exact BK192.out⟩
             have n4_ : Aside0 ((((w54.setCell ⟨gb224, 0, none⟩ (.int .i64 t221)).setCell ⟨gb224, 1, none⟩ (.int .i64 t222)).setCell ⟨gb224, 2, none⟩ (.string t223)).heap[gb199]? = some (.cells #[.bool t193, .slice Ao18 t194.length co18, .int .i64 t197] 24 (0, 0))) := ⟨by (with_reducible repeat (first | refine blk_drewN ?_ _ | refine blk_drew ?_ | refine blk_alloc ?_ _)); refine blk_far ?_ NB199_224.out _; (with_reducible repeat (first | refine blk_drewN ?_ _ | refine blk_drew ?_ | refine blk_alloc ?_ _)); refine blk_far ?_ NB199_224.out _; (with_reducible repeat (first | refine blk_drewN ?_ _ | refine blk_drew ?_ | refine blk_alloc ?_ _)); refine blk_far ?_ NB199_224.out _; (with_reducible repeat (first | refine blk_drewN ?_ _ | refine blk_drew ?_ | refine blk_alloc ?_ _)); exact BK199.out⟩
             have n5_ : Aside0 ((((w54.setCell ⟨gb224, 0, none⟩ (.int .i64 t221)).setCell ⟨gb224, 1, none⟩ (.int .i64 t222)).setCell ⟨gb224, 2, none⟩ (.string t223)).heap[gb208]? = some (.cells #[.bool t202, .slice Ao24 t203.length co24, .int .i64 t206] 24 (0, 0))) := ⟨by (with_reducible repeat (first | refine blk_drewN ?_ _ | refine blk_drew ?_ | refine blk_alloc ?_ _)); refine blk_far ?_ NB208_224.out _; (with_reducible repeat (first | refine blk_drewN ?_ _ | refine blk_drew ?_ | refine blk_alloc ?_ _)); refine blk_far ?_ NB208_224.out _; (with_reducible repeat (first | refine blk_drewN ?_ _ | refine blk_drew ?_ | refine blk_alloc ?_ _)); refine blk_far ?_ NB208_224.out _; (with_reducible repeat (first | refine blk_drewN ?_ _ | refine blk_drew ?_ | refine blk_alloc ?_ _)); exact BK208.out⟩
             have n6_ : Aside0 ((((w54.setCell ⟨gb224, 0, none⟩ (.int .i64 t221)).setCell ⟨gb224, 1, none⟩ (.int .i64 t222)).setCell ⟨gb224, 2, none⟩ (.string t223)).heap[gb220]? = some (.cells #[.bool t214, .slice Ao44 t215.length co44, .int .i64 t218] 24 (0, 0))) := ⟨by (with_reducible repeat (first | refine blk_drewN ?_ _ | refine blk_drew ?_ | refine blk_alloc ?_ _)); refine blk_far ?_ NB220_224.out _; (with_reducible repeat (first | refine blk_drewN ?_ _ | refine blk_drew ?_ | refine blk_alloc ?_ _)); refine blk_far ?_ NB220_224.out _; (with_reducible repeat (first | refine blk_drewN ?_ _ | refine blk_drew ?_ | refine blk_alloc ?_ _)); refine blk_far ?_ NB220_224.out _; (with_reducible repeat (first | refine blk_drewN ?_ _ | refine blk_drew ?_ | refine blk_alloc ?_ _)); exact BK220.out⟩
             have n7_ : Aside0 ((((w54.setCell ⟨gb224, 0, none⟩ (.int .i64 t221)).setCell ⟨gb224, 1, none⟩ (.int .i64 t222)).setCell ⟨gb224, 2, none⟩ (.string t223)).heap[gb224]? = some (.cells #[.int .i64 t221, .int .i64 t222, .string t223] 37 (0, 0))) := ⟨by (with_reducible repeat (first | refine blk_drewN ?_ _ | refine blk_drew ?_ | refine blk_alloc ?_ _)); refine blk_put (cs := #[.int .i64 t221, .int .i64 t222, .string (⟨#[]⟩ : ByteArray)]) ?_ 2 _ rfl; (with_reducible repeat (first | refine blk_drewN ?_ _ | refine blk_drew ?_ | refine blk_alloc ?_ _)); refine blk_put (cs := #[.int .i64 t221, .int .i64 0, .string (⟨#[]⟩ : ByteArray)]) ?_ 1 _ rfl; (with_reducible repeat (first | refine blk_drewN ?_ _ | refine blk_drew ?_ | refine blk_alloc ?_ _)); refine blk_put (cs := #[.int .i64 0, .int .i64 0, .string (⟨#[]⟩ : ByteArray)]) ?_ 0 _ rfl; (with_reducible repeat (first | refine blk_drewN ?_ _ | refine blk_drew ?_ | refine blk_alloc ?_ _)); exact BK224.out⟩
             have n8_ : Aside0 (Below w.heap.size w (((w54.setCell ⟨gb224, 0, none⟩ (.int .i64 t221)).setCell ⟨gb224, 1, none⟩ (.int .i64 t222)).setCell ⟨gb224, 2, none⟩ (.string t223))) := ⟨by repeat (first | (with_reducible first | exact HB.out | apply below_alloc | apply pw_below_drewN | apply below_drew1 | refine below_set ?_ GE192.out | refine below_set ?_ GE199.out | refine below_set ?_ GE208.out | refine below_set ?_ GE220.out | refine below_set ?_ GE224.out) | exact HB.out)⟩
             (try clear HO_200001)
             (try clear HO_209001)
             (try clear HO_221001)
             (try clear BK192)
             (try clear BK199)
             (try clear BK208)
             (try clear BK220)
             (try clear BK224)
             (try clear HB)
             generalize (((w54.setCell ⟨gb224, 0, none⟩ (.int .i64 t221)).setCell ⟨gb224, 1, none⟩ (.int .i64 t222)).setCell ⟨gb224, 2, none⟩ (.string t223)) = w78 at n0_ n1_ n2_ n3_ n4_ n5_ n6_ n7_ n8_ ⊢
             have HO_200001 := n0_
             have HO_209001 := n1_
             have HO_221001 := n2_
             have BK192 := n3_
             have BK199 := n4_
             have BK208 := n5_
             have BK220 := n6_
             have BK224 := n7_
             have HB := n8_
             clear n0_ n1_ n2_ n3_ n4_ n5_ n6_ n7_ n8_
             have n0_ := Aside0.mk (Kd.R_drew HO_200001.out)
             have n1_ := Aside0.mk (Kd.R_drew HO_209001.out)
             have n2_ := Aside0.mk (Kd.R_drew HO_221001.out)
             have n3_ := Aside0.mk (blk_drew BK192.out)
             have n4_ := Aside0.mk (blk_drew BK199.out)
             have n5_ := Aside0.mk (blk_drew BK208.out)
             have n6_ := Aside0.mk (blk_drew BK220.out)
             have n7_ := Aside0.mk (blk_drew BK224.out)
             have n8_ := Aside0.mk (below_drew1 HB.out)
             clear HO_200001
             clear HO_209001
             clear HO_221001
             clear BK192
             clear BK199
             clear BK208
             clear BK220
             clear BK224
             clear HB
             have HO_200001 := n0_
             have HO_209001 := n1_
             have HO_221001 := n2_
             have BK192 := n3_
             have BK199 := n4_
             have BK208 := n5_
             have BK220 := n6_
             have BK224 := n7_
             have HB := n8_
             clear n0_ n1_ n2_ n3_ n4_ n5_ n6_ n7_ n8_
             refine start_ (n := 31) (S := fun w' => w'.cell? ⟨gb224, 0, none⟩ = some (.int .i64 t221) ∧ w'.cell? ⟨gb224, 1, none⟩ = some (.int .i64 t222) ∧ w'.cell? ⟨gb224, 2, none⟩ = some (.string t223)) (ds := []) (tk_ 31 0) (by kernel_rfl) rfl (by kernel_rfl) ⟨(blk_cell BK224.out 0).trans rfl, (blk_cell BK224.out 1).trans rfl, (blk_cell BK224.out 2).trans rfl⟩ (fun hHeld => ?_); refine with_tabW erasurelaw19_FontKeeps.tab19 erasurelaw19_FontKeeps.bits19 (fun HT_ HW_ => ?_)
             generalize w78.drew = w79 at HO_200001 HO_209001 HO_221001 BK192 BK199 BK208 BK220 BK224 HB hHeld ⊢
             refine pu_ 0 82 (tk_ 31 1) HT_.out rfl rfl (by kernel_rfl) (fun _ _ _ h => h) (by rfl) (fun w' => by go_simp; with_reducible rfl) (by simp only [s0_, s1_, s2_, s3_, s4_, s5_]; rfl) ?_
             refine pu_ 1 83 (tk_ 31 3) HT_.out rfl rfl (by kernel_rfl) (fun _ _ _ h => h) (by rfl) (fun w' => by go_simp; with_reducible rfl) (by simp only [s0_, s1_, s2_, s3_, s4_, s5_]; rfl) ?_
             refine sk_ 2 84 (tk_ 31 7) HT_.out rfl rfl (by kernel_rfl) (fun _ _ _ h => h) (by rfl) (by simp only [s0_, s1_, s2_, s3_, s4_, s5_]; rfl) ?_
             refine sk_ 3 85 (tk_ 31 15) HT_.out rfl rfl (by kernel_rfl) (fun _ _ _ h => h) (by rfl) (by simp only [s0_, s1_, s2_, s3_, s4_, s5_]; rfl) ?_
             refine pu_ 4 86 (tk_ 31 31) HT_.out rfl rfl (by kernel_rfl) (fun _ _ _ h => h) (by rfl) (fun w' => by go_simp; with_reducible rfl) (by simp only [s0_, s1_, s2_, s3_, s4_, s5_]; rfl) ?_
             refine pu_ 5 87 (tk_ 31 63) HT_.out rfl rfl (by kernel_rfl) (fun _ _ _ h => h) (by rfl) (fun w' => by go_simp; with_reducible rfl) (by simp only [s0_, s1_, s2_, s3_, s4_, s5_]; rfl) ?_
             refine sk_ 6 88 (tk_ 31 127) HT_.out rfl rfl (by kernel_rfl) (fun _ _ _ h => h) (by rfl) (by simp only [s0_, s1_, s2_, s3_, s4_, s5_]; rfl) ?_
             refine sk_ 7 89 (tk_ 31 255) HT_.out rfl rfl (by kernel_rfl) (fun _ _ _ h => h) (by rfl) (by simp only [s0_, s1_, s2_, s3_, s4_, s5_]; rfl) ?_
             refine sk_ 8 90 (tk_ 31 511) HT_.out rfl rfl (by kernel_rfl) (fun _ _ _ h => h) (by rfl) (by simp only [s0_, s1_, s2_, s3_, s4_, s5_]; rfl) ?_
             refine pu_ 9 91 (tk_ 31 1023) HT_.out rfl rfl (by kernel_rfl) (fun _ _ _ h => h) (by rfl) (fun w' => by go_simp; with_reducible rfl) (by simp only [s0_, s1_, s2_, s3_, s4_, s5_]; rfl) ?_
             refine pu_ 10 92 (tk_ 31 2047) HT_.out rfl rfl (by kernel_rfl) (fun _ _ _ h => h) (by rfl) (fun w' => by go_simp; with_reducible rfl) (by simp only [s0_, s1_, s2_, s3_, s4_, s5_]; rfl) ?_
             refine sk_ 11 93 (tk_ 31 4095) HT_.out rfl rfl (by kernel_rfl) (fun _ _ _ h => h) (by rfl) (by simp only [s0_, s1_, s2_, s3_, s4_, s5_]; rfl) ?_
             refine sk_ 12 94 (tk_ 31 8191) HT_.out rfl rfl (by kernel_rfl) (fun _ _ _ h => h) (by rfl) (by simp only [s0_, s1_, s2_, s3_, s4_, s5_]; rfl) ?_
             refine sk_ 13 95 (tk_ 31 16383) HT_.out rfl rfl (by kernel_rfl) (fun _ _ _ h => h) (by rfl) (by simp only [s0_, s1_, s2_, s3_, s4_, s5_]; rfl) ?_
             refine sk_ 14 96 (tk_ 31 32767) HT_.out rfl rfl (by kernel_rfl) (fun _ _ _ h => h) (by rfl) (by simp only [s0_, s1_, s2_, s3_, s4_, s5_]; rfl) ?_
             refine sk_ 15 97 (tk_ 31 65535) HT_.out rfl rfl (by kernel_rfl) (fun _ _ _ h => h) (by rfl) (by simp only [s0_, s1_, s2_, s3_, s4_, s5_]; rfl) ?_
             refine pu_ 16 98 (tk_ 31 131071) HT_.out rfl rfl (by kernel_rfl) (fun _ _ _ h => h) (by rfl) (fun w' => by go_simp; with_reducible rfl) (by simp only [s0_, s1_, s2_, s3_, s4_, s5_]; rfl) ?_
             refine pu_ 17 99 (tk_ 31 262143) HT_.out rfl rfl (by kernel_rfl) (fun _ _ _ h => h) (by rfl) (fun w' => by go_simp; with_reducible rfl) (by simp only [s0_, s1_, s2_, s3_, s4_, s5_]; rfl) ?_
             refine pu_ 18 100 (tk_ 31 524287) HT_.out rfl rfl (by kernel_rfl) (fun _ _ _ h => h) (by rfl) (fun w' => by go_simp; with_reducible rfl) (by simp only [s0_, s1_, s2_, s3_, s4_, s5_]; rfl) ?_
             refine pu_ 19 101 (tk_ 31 1048575) HT_.out rfl rfl (by kernel_rfl) (fun _ _ _ h => h) (by rfl) (fun w' => by go_simp; with_reducible rfl) (by simp only [s0_, s1_, s2_, s3_, s4_, s5_]; rfl) ?_
             refine pu_ 20 102 (tk_ 31 2097151) HT_.out rfl rfl (by kernel_rfl) (fun _ _ _ h => h) (by rfl) (fun w' => by go_simp; with_reducible rfl) (by simp only [s0_, s1_, s2_, s3_, s4_, s5_]; rfl) ?_
             refine pu_ 21 103 (tk_ 31 4194303) HT_.out rfl rfl (by kernel_rfl) (fun _ _ _ h => h) (by rfl) (fun w' => by go_simp; with_reducible rfl) (by simp only [s0_, s1_, s2_, s3_, s4_, s5_]; rfl) ?_
             refine ta_ 22 104 (tk_ 31 8388607) HT_.out HW_.out rfl rfl (by kernel_rfl) (fun _ _ _ h => h) (by rfl) (by rintro w' ⟨s0, s1, s2⟩; go_simp; with_reducible rfl) hHeld (by simp only [s0_, s1_, s2_, s3_, s4_, s5_]; rfl) ?_
             refine pu_ 23 105 (tk_ 31 16777215) HT_.out rfl rfl (by kernel_rfl) (fun _ _ _ h => h) (by rfl) (fun w' => by go_simp; with_reducible rfl) (by simp only [s0_, s1_, s2_, s3_, s4_, s5_]; rfl) ?_
             refine pu_ 24 106 (tk_ 31 33554431) HT_.out rfl rfl (by kernel_rfl) (fun _ _ _ h => h) (by rfl) (fun w' => by go_simp; with_reducible rfl) (by simp only [s0_, s1_, s2_, s3_, s4_, s5_]; rfl) ?_
             refine sk_ 25 107 (tk_ 31 67108863) HT_.out rfl rfl (by kernel_rfl) (fun _ _ _ h => h) (by rfl) (by simp only [s0_, s1_, s2_, s3_, s4_, s5_]; rfl) ?_
             refine sk_ 26 108 (tk_ 31 134217727) HT_.out rfl rfl (by kernel_rfl) (fun _ _ _ h => h) (by rfl) (by simp only [s0_, s1_, s2_, s3_, s4_, s5_]; rfl) ?_
             refine sk_ 27 109 (tk_ 31 268435455) HT_.out rfl rfl (by kernel_rfl) (fun _ _ _ h => h) (by rfl) (by simp only [s0_, s1_, s2_, s3_, s4_, s5_]; rfl) ?_
             refine pu_ 28 110 (tk_ 31 536870911) HT_.out rfl rfl (by kernel_rfl) (fun _ _ _ h => h) (by rfl) (fun w' => by go_simp; with_reducible rfl) (by simp only [s0_, s1_, s2_, s3_, s4_, s5_]; rfl) ?_
             refine pu_ 29 111 (tk_ 31 1073741823) HT_.out rfl rfl (by kernel_rfl) (fun _ _ _ h => h) (by rfl) (fun w' => by go_simp; with_reducible rfl) (by simp only [s0_, s1_, s2_, s3_, s4_, s5_]; rfl) ?_
             refine pu_ 30 112 (tk_ 31 2147483647) HT_.out rfl rfl (by kernel_rfl) (fun _ _ _ h => h) (by rfl) (fun w' => by go_simp; with_reducible rfl) (by simp only [s0_, s1_, s2_, s3_, s4_, s5_]; rfl) ?_
             refine done_ (done_of HT_.out (by kernel_rfl)) ?_
             try go_wp2
             go_meet
             case rel => exact ⟨_, (true), (by first | rfl | (simp; done) | (simp [*]; done) | (simp; generalize ByteArray.toList _ = l_; cases l_ <;> rfl)), H', ⟨by have := HJ3.out; have := HK2.out; have := HJ32.out; first | omega | exact Nat.le_refl _⟩, ⟨by (with_reducible repeat (first | apply Kd.R_alloc | apply Kd.R_drewN | apply Kd.R_drew)); exact HO_200001.out⟩, ⟨by (with_reducible repeat (first | apply Kd.R_alloc | apply Kd.R_drewN | apply Kd.R_drew)); exact HO_209001.out⟩, ⟨by (with_reducible repeat (first | apply Kd.R_alloc | apply Kd.R_drewN | apply Kd.R_drew)); exact HO_221001.out⟩, ⟨by (with_reducible repeat (first | refine blk_drewN ?_ _ | refine blk_drew ?_ | refine blk_alloc ?_ _)); exact BK192.out⟩, ⟨by (with_reducible repeat (first | refine blk_drewN ?_ _ | refine blk_drew ?_ | refine blk_alloc ?_ _)); exact BK199.out⟩, ⟨by (with_reducible repeat (first | refine blk_drewN ?_ _ | refine blk_drew ?_ | refine blk_alloc ?_ _)); exact BK208.out⟩, ⟨by (with_reducible repeat (first | refine blk_drewN ?_ _ | refine blk_drew ?_ | refine blk_alloc ?_ _)); exact BK220.out⟩, ⟨by (with_reducible repeat (first | refine blk_drewN ?_ _ | refine blk_drew ?_ | refine blk_alloc ?_ _)); exact BK224.out⟩, ⟨by repeat (first | (with_reducible first | exact HB.out | apply below_alloc | apply pw_below_drewN | apply below_drew1 | refine below_set ?_ GE192.out | refine below_set ?_ GE199.out | refine below_set ?_ GE208.out | refine below_set ?_ GE220.out | refine below_set ?_ GE224.out) | exact HB.out)⟩⟩
          case rest =>
           clear HC48
           try clear p2
           try clear c6
           try clear c7
           try clear c60
           try clear c75
           try clear c75b0
           try clear c75b1
           obtain ⟨kq, x112_47, rfl, HA, HJ47, HO_200001, HO_209001, HO_221001, BK192, BK199, BK208, BK220, BK224, HB⟩ := hcut
           cases kq with
           | zero => exact absurd HA.out (by simp [erasurelaw19_FontKeeps.j3])
           | succ kj47 =>
            have H := HA.out
            clear HA
            simp only [erasurelaw19_FontKeeps.j3] at H
            by_cases c80 : x112_47 = true
            ·subst c80
             have H1 : (some false) = some r := by rw [if_pos rfl] at H; exact H
             clear H
             have H := H1
             clear H1
             obtain rfl := Option.some.inj H
             go_wp2
             go_ret
             exact ⟨by first | rfl | (simp [errW_none, errW_some] <;> rfl) | (simp [*, errW_none, errW_some] <;> rfl), by repeat (first | (with_reducible first | exact HB.out | apply below_alloc | apply pw_below_drewN | apply below_drew1 | refine below_set ?_ GE192.out | refine below_set ?_ GE199.out | refine below_set ?_ GE208.out | refine below_set ?_ GE220.out | refine below_set ?_ GE224.out) | exact HB.out)⟩
            ·replace c80 := Bool.eq_false_iff.mpr c80
             subst c80
             have H1 : ((erasurelaw19_awake.f).bind fun t228 => (if t228 = true then (if t207 = 0 then (if t219 = 0 then ((erasureref19_Same.f kj47 t193 t194 t197 t202 t203 t206).bind fun t229 => (if t229 = true then ((erasureref19_Same.f kj47 t193 t194 t197 t214 t215 t218).bind fun t230 => (if t230 = true then ((font_Check.f kj47 t193 t194 t197).bind fun t231 => (some (t231 == 0))) else (some false))) else (some false))) else (some false)) else (some false)) else (some false))) = some r := by rw [if_neg (show ¬ (false = true) by decide)] at H; exact H
             clear H
             have H := H1
             clear H1
             replace H := Option.bind_eq_some_iff.mp H
             obtain ⟨t228, A810, H⟩ := H
             replace H : (if t228 = true then (if t207 = 0 then (if t219 = 0 then ((erasureref19_Same.f kj47 t193 t194 t197 t202 t203 t206).bind fun t229 => (if t229 = true then ((erasureref19_Same.f kj47 t193 t194 t197 t214 t215 t218).bind fun t230 => (if t230 = true then ((font_Check.f kj47 t193 t194 t197).bind fun t231 => (some (t231 == 0))) else (some false))) else (some false))) else (some false)) else (some false)) else (some false)) = some r := H
             have A81 := Aside0.mk A810
             clear A810
             by_cases c82 : t228 = true
             ·subst c82
              have H1 : (if t207 = 0 then (if t219 = 0 then ((erasureref19_Same.f kj47 t193 t194 t197 t202 t203 t206).bind fun t229 => (if t229 = true then ((erasureref19_Same.f kj47 t193 t194 t197 t214 t215 t218).bind fun t230 => (if t230 = true then ((font_Check.f kj47 t193 t194 t197).bind fun t231 => (some (t231 == 0))) else (some false))) else (some false))) else (some false)) else (some false)) = some r := by rw [if_pos rfl] at H; exact H
              clear H
              have H := H1
              clear H1
              by_cases c83 : t207 = 0
              ·rw [if_pos c83] at H
               have c83b0 : (t207 == 0) = true := beq_iff_eq.mpr c83
               have c83b1 : (t207 != 0) = false := bne_eq_false_iff_eq.mpr c83
               clear c83
               by_cases c84 : t219 = 0
               ·rw [if_pos c84] at H
                have c84b0 : (t219 == 0) = true := beq_iff_eq.mpr c84
                have c84b1 : (t219 != 0) = false := bne_eq_false_iff_eq.mpr c84
                clear c84
                replace H := Option.bind_eq_some_iff.mp H
                obtain ⟨t229, A850, H⟩ := H
                replace H : (if t229 = true then ((erasureref19_Same.f kj47 t193 t194 t197 t214 t215 t218).bind fun t230 => (if t230 = true then ((font_Check.f kj47 t193 t194 t197).bind fun t231 => (some (t231 == 0))) else (some false))) else (some false)) = some r := H
                have A85 := Aside0.mk A850
                clear A850
                by_cases c86 : t229 = true
                ·subst c86
                 have H1 : ((erasureref19_Same.f kj47 t193 t194 t197 t214 t215 t218).bind fun t230 => (if t230 = true then ((font_Check.f kj47 t193 t194 t197).bind fun t231 => (some (t231 == 0))) else (some false))) = some r := by rw [if_pos rfl] at H; exact H
                 clear H
                 have H := H1
                 clear H1
                 replace H := Option.bind_eq_some_iff.mp H
                 obtain ⟨t230, A870, H⟩ := H
                 replace H : (if t230 = true then ((font_Check.f kj47 t193 t194 t197).bind fun t231 => (some (t231 == 0))) else (some false)) = some r := H
                 have A87 := Aside0.mk A870
                 clear A870
                 by_cases c88 : t230 = true
                 ·subst c88
                  have H1 : ((font_Check.f kj47 t193 t194 t197).bind fun t231 => (some (t231 == 0))) = some r := by rw [if_pos rfl] at H; exact H
                  clear H
                  have H := H1
                  clear H1
                  replace H := Option.bind_eq_some_iff.mp H
                  obtain ⟨t231, A890, H⟩ := H
                  replace H : (some (t231 == 0)) = some r := H
                  have A89 := Aside0.mk A890
                  clear A890
                  obtain rfl := Option.some.inj H
                  go_wp2_with (first | ((with_reducible refine gate_callee (f := 10) rfl ?_); refine goesL_ (some 113) rfl rfl Try.func10 (by kernel_rfl) rfl #[] rfl (by (try simp only [List.map_toArray, List.map_cons, List.map_nil]); first | done | rfl | (simp only [List.length_drop, List.length_take]; rfl)) ?_; (with_reducible refine (erasurelaw19_awake.calls  true _ A81.out).mono ?_); rintro e w90 ⟨rfl, hb⟩; refine ⟨_, rfl, ?_⟩; have n0_ := Aside0.mk (Kd.R_below (by (with_reducible repeat (first | apply Kd.R_alloc | apply Kd.R_drewN | apply Kd.R_drew)); exact HO_200001.out) hb); have n1_ := Aside0.mk (Kd.R_below (by (with_reducible repeat (first | apply Kd.R_alloc | apply Kd.R_drewN | apply Kd.R_drew)); exact HO_209001.out) hb); have n2_ := Aside0.mk (Kd.R_below (by (with_reducible repeat (first | apply Kd.R_alloc | apply Kd.R_drewN | apply Kd.R_drew)); exact HO_221001.out) hb); have n3_ := Aside0.mk (blk_below (g := gb192) (o := .cells #[.bool a0_0, .slice A0_1 l0_1.length c0_1, .int .i64 a0_2] 24 (0, 0)) (by (with_reducible repeat (first | refine blk_drewN ?_ _ | refine blk_drew ?_ | refine blk_alloc ?_ _)); exact BK192.out) hb); have n4_ := Aside0.mk (blk_below (g := gb199) (o := .cells #[.bool t193, .slice Ao18 t194.length co18, .int .i64 t197] 24 (0, 0)) (by (with_reducible repeat (first | refine blk_drewN ?_ _ | refine blk_drew ?_ | refine blk_alloc ?_ _)); exact BK199.out) hb); have n5_ := Aside0.mk (blk_below (g := gb208) (o := .cells #[.bool t202, .slice Ao24 t203.length co24, .int .i64 t206] 24 (0, 0)) (by (with_reducible repeat (first | refine blk_drewN ?_ _ | refine blk_drew ?_ | refine blk_alloc ?_ _)); exact BK208.out) hb); have n6_ := Aside0.mk (blk_below (g := gb220) (o := .cells #[.bool t214, .slice Ao44 t215.length co44, .int .i64 t218] 24 (0, 0)) (by (with_reducible repeat (first | refine blk_drewN ?_ _ | refine blk_drew ?_ | refine blk_alloc ?_ _)); exact BK220.out) hb); have n7_ := Aside0.mk (blk_below (g := gb224) (o := .cells #[.int .i64 t221, .int .i64 t222, .string t223] 37 (0, 0)) (by (with_reducible repeat (first | refine blk_drewN ?_ _ | refine blk_drew ?_ | refine blk_alloc ?_ _)); exact BK224.out) hb); have n8_ := Aside0.mk (below_step (by repeat (first | (with_reducible first | exact HB.out | apply below_alloc | apply pw_below_drewN | apply below_drew1 | refine below_set ?_ GE192.out | refine below_set ?_ GE199.out | refine below_set ?_ GE208.out | refine below_set ?_ GE220.out | refine below_set ?_ GE224.out) | exact HB.out)) hb); clear HO_200001; clear HO_209001; clear HO_221001; clear BK192; clear BK199; clear BK208; clear BK220; clear BK224; clear HB; have HO_200001 := n0_; have HO_209001 := n1_; have HO_221001 := n2_; have BK192 := n3_; have BK199 := n4_; have BK208 := n5_; have BK220 := n6_; have BK224 := n7_; have HB := n8_; clear n0_ n1_ n2_ n3_ n4_ n5_ n6_ n7_ n8_; (try clear hb); (try clear hb2); (try clear hk); (try clear hi); have hnb91 := NB199_192.out; have hnc91 := NB192_199.out; have hnb92 := NB199_208.out; have hnc92 := NB208_199.out; have hnb93 := NB199_220.out; have hnc93 := NB220_199.out; have hnb94 := NB199_224.out; have hnc94 := NB224_199.out; have hcz95_0 : w90.cell? ⟨gb199, 0, none⟩ = some (.bool t193) := (blk_cell BK199.out 0).trans rfl; have hcz95_1 : w90.cell? ⟨gb199, 1, none⟩ = some (.slice Ao18 t194.length co18) := (blk_cell BK199.out 1).trans rfl; have hcz95_2 : w90.cell? ⟨gb199, 2, none⟩ = some (.int .i64 t197) := (blk_cell BK199.out 2).trans rfl; have hfz95_0 := blk_frozen BK199.out 0; have hfz95_1 := blk_frozen BK199.out 1; have hfz95_2 := blk_frozen BK199.out 2; have hnb96 := NB208_192.out; have hnc96 := NB192_208.out; have hnb97 := NB208_220.out; have hnc97 := NB220_208.out; have hnb98 := NB208_224.out; have hnc98 := NB224_208.out; have hcz99_0 : w90.cell? ⟨gb208, 0, none⟩ = some (.bool t202) := (blk_cell BK208.out 0).trans rfl; have hcz99_1 : w90.cell? ⟨gb208, 1, none⟩ = some (.slice Ao24 t203.length co24) := (blk_cell BK208.out 1).trans rfl; have hcz99_2 : w90.cell? ⟨gb208, 2, none⟩ = some (.int .i64 t206) := (blk_cell BK208.out 2).trans rfl; have hfz99_0 := blk_frozen BK208.out 0; have hfz99_1 := blk_frozen BK208.out 1; have hfz99_2 := blk_frozen BK208.out 2) | (go_at_call 22; (with_reducible refine (erasureref19_Same.calls kj47 t193 _ _ t194 t197 t202 _ _ t203 t206 true _ ?side1 ?side2 ?side3 ?side4 A85.out).mono ?_); (case side1 => repeat (first | exact (Kd.R_reads' HO_200001.out).2.2 | (with_reducible refine Kd.C_alloc ?_ _) | (with_reducible refine Kd.C_drewN ?_ _) | (with_reducible refine Kd.C_drew ?_))); (case side2 => exact (Kd.R_reads' HO_200001.out).2.1); (case side3 => repeat (first | exact (Kd.R_reads' HO_209001.out).2.2 | (with_reducible refine Kd.C_alloc ?_ _) | (with_reducible refine Kd.C_drewN ?_ _) | (with_reducible refine Kd.C_drew ?_))); (case side4 => exact (Kd.R_reads' HO_209001.out).2.1); rintro e w100 ⟨rfl, hb⟩; have n0_ := Aside0.mk (Kd.R_below (by (with_reducible repeat (first | apply Kd.R_alloc | apply Kd.R_drewN | apply Kd.R_drew)); exact HO_200001.out) hb); have n1_ := Aside0.mk (Kd.R_below (by (with_reducible repeat (first | apply Kd.R_alloc | apply Kd.R_drewN | apply Kd.R_drew)); exact HO_209001.out) hb); have n2_ := Aside0.mk (Kd.R_below (by (with_reducible repeat (first | apply Kd.R_alloc | apply Kd.R_drewN | apply Kd.R_drew)); exact HO_221001.out) hb); have n3_ := Aside0.mk (blk_below (g := gb192) (o := .cells #[.bool a0_0, .slice A0_1 l0_1.length c0_1, .int .i64 a0_2] 24 (0, 0)) (by (with_reducible repeat (first | refine blk_drewN ?_ _ | refine blk_drew ?_ | refine blk_alloc ?_ _)); exact BK192.out) hb); have n4_ := Aside0.mk (blk_below (g := gb199) (o := .cells #[.bool t193, .slice Ao18 t194.length co18, .int .i64 t197] 24 (0, 0)) (by (with_reducible repeat (first | refine blk_drewN ?_ _ | refine blk_drew ?_ | refine blk_alloc ?_ _)); exact BK199.out) hb); have n5_ := Aside0.mk (blk_below (g := gb208) (o := .cells #[.bool t202, .slice Ao24 t203.length co24, .int .i64 t206] 24 (0, 0)) (by (with_reducible repeat (first | refine blk_drewN ?_ _ | refine blk_drew ?_ | refine blk_alloc ?_ _)); exact BK208.out) hb); have n6_ := Aside0.mk (blk_below (g := gb220) (o := .cells #[.bool t214, .slice Ao44 t215.length co44, .int .i64 t218] 24 (0, 0)) (by (with_reducible repeat (first | refine blk_drewN ?_ _ | refine blk_drew ?_ | refine blk_alloc ?_ _)); exact BK220.out) hb); have n7_ := Aside0.mk (blk_below (g := gb224) (o := .cells #[.int .i64 t221, .int .i64 t222, .string t223] 37 (0, 0)) (by (with_reducible repeat (first | refine blk_drewN ?_ _ | refine blk_drew ?_ | refine blk_alloc ?_ _)); exact BK224.out) hb); have n8_ := Aside0.mk (below_step (by repeat (first | (with_reducible first | exact HB.out | apply below_alloc | apply pw_below_drewN | apply below_drew1 | refine below_set ?_ GE192.out | refine below_set ?_ GE199.out | refine below_set ?_ GE208.out | refine below_set ?_ GE220.out | refine below_set ?_ GE224.out) | exact HB.out)) hb); clear HO_200001; clear HO_209001; clear HO_221001; clear BK192; clear BK199; clear BK208; clear BK220; clear BK224; clear HB; have HO_200001 := n0_; have HO_209001 := n1_; have HO_221001 := n2_; have BK192 := n3_; have BK199 := n4_; have BK208 := n5_; have BK220 := n6_; have BK224 := n7_; have HB := n8_; clear n0_ n1_ n2_ n3_ n4_ n5_ n6_ n7_ n8_; (try clear hb); (try clear hb2); (try clear hk); (try clear hi); have hcz101_0 : w100.cell? ⟨gb199, 0, none⟩ = some (.bool t193) := (blk_cell BK199.out 0).trans rfl; have hcz101_1 : w100.cell? ⟨gb199, 1, none⟩ = some (.slice Ao18 t194.length co18) := (blk_cell BK199.out 1).trans rfl; have hcz101_2 : w100.cell? ⟨gb199, 2, none⟩ = some (.int .i64 t197) := (blk_cell BK199.out 2).trans rfl; have hfz101_0 := blk_frozen BK199.out 0; have hfz101_1 := blk_frozen BK199.out 1; have hfz101_2 := blk_frozen BK199.out 2; have hnb102 := NB220_192.out; have hnc102 := NB192_220.out; have hnb103 := NB220_224.out; have hnc103 := NB224_220.out; have hcz104_0 : w100.cell? ⟨gb220, 0, none⟩ = some (.bool t214) := (blk_cell BK220.out 0).trans rfl; have hcz104_1 : w100.cell? ⟨gb220, 1, none⟩ = some (.slice Ao44 t215.length co44) := (blk_cell BK220.out 1).trans rfl; have hcz104_2 : w100.cell? ⟨gb220, 2, none⟩ = some (.int .i64 t218) := (blk_cell BK220.out 2).trans rfl; have hfz104_0 := blk_frozen BK220.out 0; have hfz104_1 := blk_frozen BK220.out 1; have hfz104_2 := blk_frozen BK220.out 2) | (go_at_call 22; (with_reducible refine (erasureref19_Same.calls kj47 t193 _ _ t194 t197 t214 _ _ t215 t218 true _ ?side1 ?side2 ?side3 ?side4 A87.out).mono ?_); (case side1 => repeat (first | exact (Kd.R_reads' HO_200001.out).2.2 | (with_reducible refine Kd.C_alloc ?_ _) | (with_reducible refine Kd.C_drewN ?_ _) | (with_reducible refine Kd.C_drew ?_))); (case side2 => exact (Kd.R_reads' HO_200001.out).2.1); (case side3 => repeat (first | exact (Kd.R_reads' HO_221001.out).2.2 | (with_reducible refine Kd.C_alloc ?_ _) | (with_reducible refine Kd.C_drewN ?_ _) | (with_reducible refine Kd.C_drew ?_))); (case side4 => exact (Kd.R_reads' HO_221001.out).2.1); rintro e w105 ⟨rfl, hb⟩; have n0_ := Aside0.mk (Kd.R_below (by (with_reducible repeat (first | apply Kd.R_alloc | apply Kd.R_drewN | apply Kd.R_drew)); exact HO_200001.out) hb); have n1_ := Aside0.mk (Kd.R_below (by (with_reducible repeat (first | apply Kd.R_alloc | apply Kd.R_drewN | apply Kd.R_drew)); exact HO_209001.out) hb); have n2_ := Aside0.mk (Kd.R_below (by (with_reducible repeat (first | apply Kd.R_alloc | apply Kd.R_drewN | apply Kd.R_drew)); exact HO_221001.out) hb); have n3_ := Aside0.mk (blk_below (g := gb192) (o := .cells #[.bool a0_0, .slice A0_1 l0_1.length c0_1, .int .i64 a0_2] 24 (0, 0)) (by (with_reducible repeat (first | refine blk_drewN ?_ _ | refine blk_drew ?_ | refine blk_alloc ?_ _)); exact BK192.out) hb); have n4_ := Aside0.mk (blk_below (g := gb199) (o := .cells #[.bool t193, .slice Ao18 t194.length co18, .int .i64 t197] 24 (0, 0)) (by (with_reducible repeat (first | refine blk_drewN ?_ _ | refine blk_drew ?_ | refine blk_alloc ?_ _)); exact BK199.out) hb); have n5_ := Aside0.mk (blk_below (g := gb208) (o := .cells #[.bool t202, .slice Ao24 t203.length co24, .int .i64 t206] 24 (0, 0)) (by (with_reducible repeat (first | refine blk_drewN ?_ _ | refine blk_drew ?_ | refine blk_alloc ?_ _)); exact BK208.out) hb); have n6_ := Aside0.mk (blk_below (g := gb220) (o := .cells #[.bool t214, .slice Ao44 t215.length co44, .int .i64 t218] 24 (0, 0)) (by (with_reducible repeat (first | refine blk_drewN ?_ _ | refine blk_drew ?_ | refine blk_alloc ?_ _)); exact BK220.out) hb); have n7_ := Aside0.mk (blk_below (g := gb224) (o := .cells #[.int .i64 t221, .int .i64 t222, .string t223] 37 (0, 0)) (by (with_reducible repeat (first | refine blk_drewN ?_ _ | refine blk_drew ?_ | refine blk_alloc ?_ _)); exact BK224.out) hb); have n8_ := Aside0.mk (below_step (by repeat (first | (with_reducible first | exact HB.out | apply below_alloc | apply pw_below_drewN | apply below_drew1 | refine below_set ?_ GE192.out | refine below_set ?_ GE199.out | refine below_set ?_ GE208.out | refine below_set ?_ GE220.out | refine below_set ?_ GE224.out) | exact HB.out)) hb); clear HO_200001; clear HO_209001; clear HO_221001; clear BK192; clear BK199; clear BK208; clear BK220; clear BK224; clear HB; have HO_200001 := n0_; have HO_209001 := n1_; have HO_221001 := n2_; have BK192 := n3_; have BK199 := n4_; have BK208 := n5_; have BK220 := n6_; have BK224 := n7_; have HB := n8_; clear n0_ n1_ n2_ n3_ n4_ n5_ n6_ n7_ n8_; (try clear hb); (try clear hb2); (try clear hk); (try clear hi); have hcz106_0 : w105.cell? ⟨gb199, 0, none⟩ = some (.bool t193) := (blk_cell BK199.out 0).trans rfl; have hcz106_1 : w105.cell? ⟨gb199, 1, none⟩ = some (.slice Ao18 t194.length co18) := (blk_cell BK199.out 1).trans rfl; have hcz106_2 : w105.cell? ⟨gb199, 2, none⟩ = some (.int .i64 t197) := (blk_cell BK199.out 2).trans rfl; have hfz106_0 := blk_frozen BK199.out 0; have hfz106_1 := blk_frozen BK199.out 1; have hfz106_2 := blk_frozen BK199.out 2) | (go_at_call 16; (with_reducible refine (font_Check.calls kj47 t193 _ _ t194 t197 t231 _ ?side1 ?side2 A89.out).mono ?_); (case side1 => repeat (first | exact (Kd.R_reads' HO_200001.out).2.2 | (with_reducible refine Kd.C_alloc ?_ _) | (with_reducible refine Kd.C_drewN ?_ _) | (with_reducible refine Kd.C_drew ?_))); (case side2 => exact (Kd.R_reads' HO_200001.out).2.1); rintro e w107 ⟨rfl, hb⟩; have n0_ := Aside0.mk (Kd.R_below (by (with_reducible repeat (first | apply Kd.R_alloc | apply Kd.R_drewN | apply Kd.R_drew)); exact HO_200001.out) hb); have n1_ := Aside0.mk (Kd.R_below (by (with_reducible repeat (first | apply Kd.R_alloc | apply Kd.R_drewN | apply Kd.R_drew)); exact HO_209001.out) hb); have n2_ := Aside0.mk (Kd.R_below (by (with_reducible repeat (first | apply Kd.R_alloc | apply Kd.R_drewN | apply Kd.R_drew)); exact HO_221001.out) hb); have n3_ := Aside0.mk (blk_below (g := gb192) (o := .cells #[.bool a0_0, .slice A0_1 l0_1.length c0_1, .int .i64 a0_2] 24 (0, 0)) (by (with_reducible repeat (first | refine blk_drewN ?_ _ | refine blk_drew ?_ | refine blk_alloc ?_ _)); exact BK192.out) hb); have n4_ := Aside0.mk (blk_below (g := gb199) (o := .cells #[.bool t193, .slice Ao18 t194.length co18, .int .i64 t197] 24 (0, 0)) (by (with_reducible repeat (first | refine blk_drewN ?_ _ | refine blk_drew ?_ | refine blk_alloc ?_ _)); exact BK199.out) hb); have n5_ := Aside0.mk (blk_below (g := gb208) (o := .cells #[.bool t202, .slice Ao24 t203.length co24, .int .i64 t206] 24 (0, 0)) (by (with_reducible repeat (first | refine blk_drewN ?_ _ | refine blk_drew ?_ | refine blk_alloc ?_ _)); exact BK208.out) hb); have n6_ := Aside0.mk (blk_below (g := gb220) (o := .cells #[.bool t214, .slice Ao44 t215.length co44, .int .i64 t218] 24 (0, 0)) (by (with_reducible repeat (first | refine blk_drewN ?_ _ | refine blk_drew ?_ | refine blk_alloc ?_ _)); exact BK220.out) hb); have n7_ := Aside0.mk (blk_below (g := gb224) (o := .cells #[.int .i64 t221, .int .i64 t222, .string t223] 37 (0, 0)) (by (with_reducible repeat (first | refine blk_drewN ?_ _ | refine blk_drew ?_ | refine blk_alloc ?_ _)); exact BK224.out) hb); have n8_ := Aside0.mk (below_step (by repeat (first | (with_reducible first | exact HB.out | apply below_alloc | apply pw_below_drewN | apply below_drew1 | refine below_set ?_ GE192.out | refine below_set ?_ GE199.out | refine below_set ?_ GE208.out | refine below_set ?_ GE220.out | refine below_set ?_ GE224.out) | exact HB.out)) hb); clear HO_200001; clear HO_209001; clear HO_221001; clear BK192; clear BK199; clear BK208; clear BK220; clear BK224; clear HB; have HO_200001 := n0_; have HO_209001 := n1_; have HO_221001 := n2_; have BK192 := n3_; have BK199 := n4_; have BK208 := n5_; have BK220 := n6_; have BK224 := n7_; have HB := n8_; clear n0_ n1_ n2_ n3_ n4_ n5_ n6_ n7_ n8_; (try clear hb); (try clear hb2); (try clear hk); (try clear hi)))
                  go_ret
                  exact ⟨by first | rfl | (simp [errW_none, errW_some] <;> rfl) | (simp [*, errW_none, errW_some] <;> rfl), by repeat (first | (with_reducible first | exact HB.out | apply below_alloc | apply pw_below_drewN | apply below_drew1 | refine below_set ?_ GE192.out | refine below_set ?_ GE199.out | refine below_set ?_ GE208.out | refine below_set ?_ GE220.out | refine below_set ?_ GE224.out) | exact HB.out)⟩
                 ·replace c88 := Bool.eq_false_iff.mpr c88
                  subst c88
                  have H1 : (some false) = some r := by rw [if_neg (show ¬ (false = true) by decide)] at H; exact H
                  clear H
                  have H := H1
                  clear H1
                  obtain rfl := Option.some.inj H
                  go_wp2_with (first | ((with_reducible refine gate_callee (f := 10) rfl ?_); refine goesL_ (some 113) rfl rfl Try.func10 (by kernel_rfl) rfl #[] rfl (by (try simp only [List.map_toArray, List.map_cons, List.map_nil]); first | done | rfl | (simp only [List.length_drop, List.length_take]; rfl)) ?_; (with_reducible refine (erasurelaw19_awake.calls  true _ A81.out).mono ?_); rintro e w108 ⟨rfl, hb⟩; refine ⟨_, rfl, ?_⟩; have n0_ := Aside0.mk (Kd.R_below (by (with_reducible repeat (first | apply Kd.R_alloc | apply Kd.R_drewN | apply Kd.R_drew)); exact HO_200001.out) hb); have n1_ := Aside0.mk (Kd.R_below (by (with_reducible repeat (first | apply Kd.R_alloc | apply Kd.R_drewN | apply Kd.R_drew)); exact HO_209001.out) hb); have n2_ := Aside0.mk (Kd.R_below (by (with_reducible repeat (first | apply Kd.R_alloc | apply Kd.R_drewN | apply Kd.R_drew)); exact HO_221001.out) hb); have n3_ := Aside0.mk (blk_below (g := gb192) (o := .cells #[.bool a0_0, .slice A0_1 l0_1.length c0_1, .int .i64 a0_2] 24 (0, 0)) (by (with_reducible repeat (first | refine blk_drewN ?_ _ | refine blk_drew ?_ | refine blk_alloc ?_ _)); exact BK192.out) hb); have n4_ := Aside0.mk (blk_below (g := gb199) (o := .cells #[.bool t193, .slice Ao18 t194.length co18, .int .i64 t197] 24 (0, 0)) (by (with_reducible repeat (first | refine blk_drewN ?_ _ | refine blk_drew ?_ | refine blk_alloc ?_ _)); exact BK199.out) hb); have n5_ := Aside0.mk (blk_below (g := gb208) (o := .cells #[.bool t202, .slice Ao24 t203.length co24, .int .i64 t206] 24 (0, 0)) (by (with_reducible repeat (first | refine blk_drewN ?_ _ | refine blk_drew ?_ | refine blk_alloc ?_ _)); exact BK208.out) hb); have n6_ := Aside0.mk (blk_below (g := gb220) (o := .cells #[.bool t214, .slice Ao44 t215.length co44, .int .i64 t218] 24 (0, 0)) (by (with_reducible repeat (first | refine blk_drewN ?_ _ | refine blk_drew ?_ | refine blk_alloc ?_ _)); exact BK220.out) hb); have n7_ := Aside0.mk (blk_below (g := gb224) (o := .cells #[.int .i64 t221, .int .i64 t222, .string t223] 37 (0, 0)) (by (with_reducible repeat (first | refine blk_drewN ?_ _ | refine blk_drew ?_ | refine blk_alloc ?_ _)); exact BK224.out) hb); have n8_ := Aside0.mk (below_step (by repeat (first | (with_reducible first | exact HB.out | apply below_alloc | apply pw_below_drewN | apply below_drew1 | refine below_set ?_ GE192.out | refine below_set ?_ GE199.out | refine below_set ?_ GE208.out | refine below_set ?_ GE220.out | refine below_set ?_ GE224.out) | exact HB.out)) hb); clear HO_200001; clear HO_209001; clear HO_221001; clear BK192; clear BK199; clear BK208; clear BK220; clear BK224; clear HB; have HO_200001 := n0_; have HO_209001 := n1_; have HO_221001 := n2_; have BK192 := n3_; have BK199 := n4_; have BK208 := n5_; have BK220 := n6_; have BK224 := n7_; have HB := n8_; clear n0_ n1_ n2_ n3_ n4_ n5_ n6_ n7_ n8_; (try clear hb); (try clear hb2); (try clear hk); (try clear hi); have hnb109 := NB199_192.out; have hnc109 := NB192_199.out; have hnb110 := NB199_208.out; have hnc110 := NB208_199.out; have hnb111 := NB199_220.out; have hnc111 := NB220_199.out; have hnb112 := NB199_224.out; have hnc112 := NB224_199.out; have hcz113_0 : w108.cell? ⟨gb199, 0, none⟩ = some (.bool t193) := (blk_cell BK199.out 0).trans rfl; have hcz113_1 : w108.cell? ⟨gb199, 1, none⟩ = some (.slice Ao18 t194.length co18) := (blk_cell BK199.out 1).trans rfl; have hcz113_2 : w108.cell? ⟨gb199, 2, none⟩ = some (.int .i64 t197) := (blk_cell BK199.out 2).trans rfl; have hfz113_0 := blk_frozen BK199.out 0; have hfz113_1 := blk_frozen BK199.out 1; have hfz113_2 := blk_frozen BK199.out 2; have hnb114 := NB208_192.out; have hnc114 := NB192_208.out; have hnb115 := NB208_220.out; have hnc115 := NB220_208.out; have hnb116 := NB208_224.out; have hnc116 := NB224_208.out; have hcz117_0 : w108.cell? ⟨gb208, 0, none⟩ = some (.bool t202) := (blk_cell BK208.out 0).trans rfl; have hcz117_1 : w108.cell? ⟨gb208, 1, none⟩ = some (.slice Ao24 t203.length co24) := (blk_cell BK208.out 1).trans rfl; have hcz117_2 : w108.cell? ⟨gb208, 2, none⟩ = some (.int .i64 t206) := (blk_cell BK208.out 2).trans rfl; have hfz117_0 := blk_frozen BK208.out 0; have hfz117_1 := blk_frozen BK208.out 1; have hfz117_2 := blk_frozen BK208.out 2) | (go_at_call 22; (with_reducible refine (erasureref19_Same.calls kj47 t193 _ _ t194 t197 t202 _ _ t203 t206 true _ ?side1 ?side2 ?side3 ?side4 A85.out).mono ?_); (case side1 => repeat (first | exact (Kd.R_reads' HO_200001.out).2.2 | (with_reducible refine Kd.C_alloc ?_ _) | (with_reducible refine Kd.C_drewN ?_ _) | (with_reducible refine Kd.C_drew ?_))); (case side2 => exact (Kd.R_reads' HO_200001.out).2.1); (case side3 => repeat (first | exact (Kd.R_reads' HO_209001.out).2.2 | (with_reducible refine Kd.C_alloc ?_ _) | (with_reducible refine Kd.C_drewN ?_ _) | (with_reducible refine Kd.C_drew ?_))); (case side4 => exact (Kd.R_reads' HO_209001.out).2.1); rintro e w118 ⟨rfl, hb⟩; have n0_ := Aside0.mk (Kd.R_below (by (with_reducible repeat (first | apply Kd.R_alloc | apply Kd.R_drewN | apply Kd.R_drew)); exact HO_200001.out) hb); have n1_ := Aside0.mk (Kd.R_below (by (with_reducible repeat (first | apply Kd.R_alloc | apply Kd.R_drewN | apply Kd.R_drew)); exact HO_209001.out) hb); have n2_ := Aside0.mk (Kd.R_below (by (with_reducible repeat (first | apply Kd.R_alloc | apply Kd.R_drewN | apply Kd.R_drew)); exact HO_221001.out) hb); have n3_ := Aside0.mk (blk_below (g := gb192) (o := .cells #[.bool a0_0, .slice A0_1 l0_1.length c0_1, .int .i64 a0_2] 24 (0, 0)) (by (with_reducible repeat (first | refine blk_drewN ?_ _ | refine blk_drew ?_ | refine blk_alloc ?_ _)); exact BK192.out) hb); have n4_ := Aside0.mk (blk_below (g := gb199) (o := .cells #[.bool t193, .slice Ao18 t194.length co18, .int .i64 t197] 24 (0, 0)) (by (with_reducible repeat (first | refine blk_drewN ?_ _ | refine blk_drew ?_ | refine blk_alloc ?_ _)); exact BK199.out) hb); have n5_ := Aside0.mk (blk_below (g := gb208) (o := .cells #[.bool t202, .slice Ao24 t203.length co24, .int .i64 t206] 24 (0, 0)) (by (with_reducible repeat (first | refine blk_drewN ?_ _ | refine blk_drew ?_ | refine blk_alloc ?_ _)); exact BK208.out) hb); have n6_ := Aside0.mk (blk_below (g := gb220) (o := .cells #[.bool t214, .slice Ao44 t215.length co44, .int .i64 t218] 24 (0, 0)) (by (with_reducible repeat (first | refine blk_drewN ?_ _ | refine blk_drew ?_ | refine blk_alloc ?_ _)); exact BK220.out) hb); have n7_ := Aside0.mk (blk_below (g := gb224) (o := .cells #[.int .i64 t221, .int .i64 t222, .string t223] 37 (0, 0)) (by (with_reducible repeat (first | refine blk_drewN ?_ _ | refine blk_drew ?_ | refine blk_alloc ?_ _)); exact BK224.out) hb); have n8_ := Aside0.mk (below_step (by repeat (first | (with_reducible first | exact HB.out | apply below_alloc | apply pw_below_drewN | apply below_drew1 | refine below_set ?_ GE192.out | refine below_set ?_ GE199.out | refine below_set ?_ GE208.out | refine below_set ?_ GE220.out | refine below_set ?_ GE224.out) | exact HB.out)) hb); clear HO_200001; clear HO_209001; clear HO_221001; clear BK192; clear BK199; clear BK208; clear BK220; clear BK224; clear HB; have HO_200001 := n0_; have HO_209001 := n1_; have HO_221001 := n2_; have BK192 := n3_; have BK199 := n4_; have BK208 := n5_; have BK220 := n6_; have BK224 := n7_; have HB := n8_; clear n0_ n1_ n2_ n3_ n4_ n5_ n6_ n7_ n8_; (try clear hb); (try clear hb2); (try clear hk); (try clear hi); have hcz119_0 : w118.cell? ⟨gb199, 0, none⟩ = some (.bool t193) := (blk_cell BK199.out 0).trans rfl; have hcz119_1 : w118.cell? ⟨gb199, 1, none⟩ = some (.slice Ao18 t194.length co18) := (blk_cell BK199.out 1).trans rfl; have hcz119_2 : w118.cell? ⟨gb199, 2, none⟩ = some (.int .i64 t197) := (blk_cell BK199.out 2).trans rfl; have hfz119_0 := blk_frozen BK199.out 0; have hfz119_1 := blk_frozen BK199.out 1; have hfz119_2 := blk_frozen BK199.out 2; have hnb120 := NB220_192.out; have hnc120 := NB192_220.out; have hnb121 := NB220_224.out; have hnc121 := NB224_220.out; have hcz122_0 : w118.cell? ⟨gb220, 0, none⟩ = some (.bool t214) := (blk_cell BK220.out 0).trans rfl; have hcz122_1 : w118.cell? ⟨gb220, 1, none⟩ = some (.slice Ao44 t215.length co44) := (blk_cell BK220.out 1).trans rfl; have hcz122_2 : w118.cell? ⟨gb220, 2, none⟩ = some (.int .i64 t218) := (blk_cell BK220.out 2).trans rfl; have hfz122_0 := blk_frozen BK220.out 0; have hfz122_1 := blk_frozen BK220.out 1; have hfz122_2 := blk_frozen BK220.out 2) | (go_at_call 22; (with_reducible refine (erasureref19_Same.calls kj47 t193 _ _ t194 t197 t214 _ _ t215 t218 false _ ?side1 ?side2 ?side3 ?side4 A87.out).mono ?_); (case side1 => repeat (first | exact (Kd.R_reads' HO_200001.out).2.2 | (with_reducible refine Kd.C_alloc ?_ _) | (with_reducible refine Kd.C_drewN ?_ _) | (with_reducible refine Kd.C_drew ?_))); (case side2 => exact (Kd.R_reads' HO_200001.out).2.1); (case side3 => repeat (first | exact (Kd.R_reads' HO_221001.out).2.2 | (with_reducible refine Kd.C_alloc ?_ _) | (with_reducible refine Kd.C_drewN ?_ _) | (with_reducible refine Kd.C_drew ?_))); (case side4 => exact (Kd.R_reads' HO_221001.out).2.1); rintro e w123 ⟨rfl, hb⟩; have n0_ := Aside0.mk (Kd.R_below (by (with_reducible repeat (first | apply Kd.R_alloc | apply Kd.R_drewN | apply Kd.R_drew)); exact HO_200001.out) hb); have n1_ := Aside0.mk (Kd.R_below (by (with_reducible repeat (first | apply Kd.R_alloc | apply Kd.R_drewN | apply Kd.R_drew)); exact HO_209001.out) hb); have n2_ := Aside0.mk (Kd.R_below (by (with_reducible repeat (first | apply Kd.R_alloc | apply Kd.R_drewN | apply Kd.R_drew)); exact HO_221001.out) hb); have n3_ := Aside0.mk (blk_below (g := gb192) (o := .cells #[.bool a0_0, .slice A0_1 l0_1.length c0_1, .int .i64 a0_2] 24 (0, 0)) (by (with_reducible repeat (first | refine blk_drewN ?_ _ | refine blk_drew ?_ | refine blk_alloc ?_ _)); exact BK192.out) hb); have n4_ := Aside0.mk (blk_below (g := gb199) (o := .cells #[.bool t193, .slice Ao18 t194.length co18, .int .i64 t197] 24 (0, 0)) (by (with_reducible repeat (first | refine blk_drewN ?_ _ | refine blk_drew ?_ | refine blk_alloc ?_ _)); exact BK199.out) hb); have n5_ := Aside0.mk (blk_below (g := gb208) (o := .cells #[.bool t202, .slice Ao24 t203.length co24, .int .i64 t206] 24 (0, 0)) (by (with_reducible repeat (first | refine blk_drewN ?_ _ | refine blk_drew ?_ | refine blk_alloc ?_ _)); exact BK208.out) hb); have n6_ := Aside0.mk (blk_below (g := gb220) (o := .cells #[.bool t214, .slice Ao44 t215.length co44, .int .i64 t218] 24 (0, 0)) (by (with_reducible repeat (first | refine blk_drewN ?_ _ | refine blk_drew ?_ | refine blk_alloc ?_ _)); exact BK220.out) hb); have n7_ := Aside0.mk (blk_below (g := gb224) (o := .cells #[.int .i64 t221, .int .i64 t222, .string t223] 37 (0, 0)) (by (with_reducible repeat (first | refine blk_drewN ?_ _ | refine blk_drew ?_ | refine blk_alloc ?_ _)); exact BK224.out) hb); have n8_ := Aside0.mk (below_step (by repeat (first | (with_reducible first | exact HB.out | apply below_alloc | apply pw_below_drewN | apply below_drew1 | refine below_set ?_ GE192.out | refine below_set ?_ GE199.out | refine below_set ?_ GE208.out | refine below_set ?_ GE220.out | refine below_set ?_ GE224.out) | exact HB.out)) hb); clear HO_200001; clear HO_209001; clear HO_221001; clear BK192; clear BK199; clear BK208; clear BK220; clear BK224; clear HB; have HO_200001 := n0_; have HO_209001 := n1_; have HO_221001 := n2_; have BK192 := n3_; have BK199 := n4_; have BK208 := n5_; have BK220 := n6_; have BK224 := n7_; have HB := n8_; clear n0_ n1_ n2_ n3_ n4_ n5_ n6_ n7_ n8_; (try clear hb); (try clear hb2); (try clear hk); (try clear hi)))
                  go_ret
                  exact ⟨by first | rfl | (simp [errW_none, errW_some] <;> rfl) | (simp [*, errW_none, errW_some] <;> rfl), by repeat (first | (with_reducible first | exact HB.out | apply below_alloc | apply pw_below_drewN | apply below_drew1 | refine below_set ?_ GE192.out | refine below_set ?_ GE199.out | refine below_set ?_ GE208.out | refine below_set ?_ GE220.out | refine below_set ?_ GE224.out) | exact HB.out)⟩
                ·replace c86 := Bool.eq_false_iff.mpr c86
                 subst c86
                 have H1 : (some false) = some r := by rw [if_neg (show ¬ (false = true) by decide)] at H; exact H
                 clear H
                 have H := H1
                 clear H1
                 obtain rfl := Option.some.inj H
                 go_wp2_with (first | ((with_reducible refine gate_callee (f := 10) rfl ?_); refine goesL_ (some 113) rfl rfl Try.func10 (by kernel_rfl) rfl #[] rfl (by (try simp only [List.map_toArray, List.map_cons, List.map_nil]); first | done | rfl | (simp only [List.length_drop, List.length_take]; rfl)) ?_; (with_reducible refine (erasurelaw19_awake.calls  true _ A81.out).mono ?_); rintro e w124 ⟨rfl, hb⟩; refine ⟨_, rfl, ?_⟩; have n0_ := Aside0.mk (Kd.R_below (by (with_reducible repeat (first | apply Kd.R_alloc | apply Kd.R_drewN | apply Kd.R_drew)); exact HO_200001.out) hb); have n1_ := Aside0.mk (Kd.R_below (by (with_reducible repeat (first | apply Kd.R_alloc | apply Kd.R_drewN | apply Kd.R_drew)); exact HO_209001.out) hb); have n2_ := Aside0.mk (Kd.R_below (by (with_reducible repeat (first | apply Kd.R_alloc | apply Kd.R_drewN | apply Kd.R_drew)); exact HO_221001.out) hb); have n3_ := Aside0.mk (blk_below (g := gb192) (o := .cells #[.bool a0_0, .slice A0_1 l0_1.length c0_1, .int .i64 a0_2] 24 (0, 0)) (by (with_reducible repeat (first | refine blk_drewN ?_ _ | refine blk_drew ?_ | refine blk_alloc ?_ _)); exact BK192.out) hb); have n4_ := Aside0.mk (blk_below (g := gb199) (o := .cells #[.bool t193, .slice Ao18 t194.length co18, .int .i64 t197] 24 (0, 0)) (by (with_reducible repeat (first | refine blk_drewN ?_ _ | refine blk_drew ?_ | refine blk_alloc ?_ _)); exact BK199.out) hb); have n5_ := Aside0.mk (blk_below (g := gb208) (o := .cells #[.bool t202, .slice Ao24 t203.length co24, .int .i64 t206] 24 (0, 0)) (by (with_reducible repeat (first | refine blk_drewN ?_ _ | refine blk_drew ?_ | refine blk_alloc ?_ _)); exact BK208.out) hb); have n6_ := Aside0.mk (blk_below (g := gb220) (o := .cells #[.bool t214, .slice Ao44 t215.length co44, .int .i64 t218] 24 (0, 0)) (by (with_reducible repeat (first | refine blk_drewN ?_ _ | refine blk_drew ?_ | refine blk_alloc ?_ _)); exact BK220.out) hb); have n7_ := Aside0.mk (blk_below (g := gb224) (o := .cells #[.int .i64 t221, .int .i64 t222, .string t223] 37 (0, 0)) (by (with_reducible repeat (first | refine blk_drewN ?_ _ | refine blk_drew ?_ | refine blk_alloc ?_ _)); exact BK224.out) hb); have n8_ := Aside0.mk (below_step (by repeat (first | (with_reducible first | exact HB.out | apply below_alloc | apply pw_below_drewN | apply below_drew1 | refine below_set ?_ GE192.out | refine below_set ?_ GE199.out | refine below_set ?_ GE208.out | refine below_set ?_ GE220.out | refine below_set ?_ GE224.out) | exact HB.out)) hb); clear HO_200001; clear HO_209001; clear HO_221001; clear BK192; clear BK199; clear BK208; clear BK220; clear BK224; clear HB; have HO_200001 := n0_; have HO_209001 := n1_; have HO_221001 := n2_; have BK192 := n3_; have BK199 := n4_; have BK208 := n5_; have BK220 := n6_; have BK224 := n7_; have HB := n8_; clear n0_ n1_ n2_ n3_ n4_ n5_ n6_ n7_ n8_; (try clear hb); (try clear hb2); (try clear hk); (try clear hi); have hnb125 := NB199_192.out; have hnc125 := NB192_199.out; have hnb126 := NB199_208.out; have hnc126 := NB208_199.out; have hnb127 := NB199_220.out; have hnc127 := NB220_199.out; have hnb128 := NB199_224.out; have hnc128 := NB224_199.out; have hcz129_0 : w124.cell? ⟨gb199, 0, none⟩ = some (.bool t193) := (blk_cell BK199.out 0).trans rfl; have hcz129_1 : w124.cell? ⟨gb199, 1, none⟩ = some (.slice Ao18 t194.length co18) := (blk_cell BK199.out 1).trans rfl; have hcz129_2 : w124.cell? ⟨gb199, 2, none⟩ = some (.int .i64 t197) := (blk_cell BK199.out 2).trans rfl; have hfz129_0 := blk_frozen BK199.out 0; have hfz129_1 := blk_frozen BK199.out 1; have hfz129_2 := blk_frozen BK199.out 2; have hnb130 := NB208_192.out; have hnc130 := NB192_208.out; have hnb131 := NB208_220.out; have hnc131 := NB220_208.out; have hnb132 := NB208_224.out; have hnc132 := NB224_208.out; have hcz133_0 : w124.cell? ⟨gb208, 0, none⟩ = some (.bool t202) := (blk_cell BK208.out 0).trans rfl; have hcz133_1 : w124.cell? ⟨gb208, 1, none⟩ = some (.slice Ao24 t203.length co24) := (blk_cell BK208.out 1).trans rfl; have hcz133_2 : w124.cell? ⟨gb208, 2, none⟩ = some (.int .i64 t206) := (blk_cell BK208.out 2).trans rfl; have hfz133_0 := blk_frozen BK208.out 0; have hfz133_1 := blk_frozen BK208.out 1; have hfz133_2 := blk_frozen BK208.out 2) | (go_at_call 22; (with_reducible refine (erasureref19_Same.calls kj47 t193 _ _ t194 t197 t202 _ _ t203 t206 false _ ?side1 ?side2 ?side3 ?side4 A85.out).mono ?_); (case side1 => repeat (first | exact (Kd.R_reads' HO_200001.out).2.2 | (with_reducible refine Kd.C_alloc ?_ _) | (with_reducible refine Kd.C_drewN ?_ _) | (with_reducible refine Kd.C_drew ?_))); (case side2 => exact (Kd.R_reads' HO_200001.out).2.1); (case side3 => repeat (first | exact (Kd.R_reads' HO_209001.out).2.2 | (with_reducible refine Kd.C_alloc ?_ _) | (with_reducible refine Kd.C_drewN ?_ _) | (with_reducible refine Kd.C_drew ?_))); (case side4 => exact (Kd.R_reads' HO_209001.out).2.1); rintro e w134 ⟨rfl, hb⟩; have n0_ := Aside0.mk (Kd.R_below (by (with_reducible repeat (first | apply Kd.R_alloc | apply Kd.R_drewN | apply Kd.R_drew)); exact HO_200001.out) hb); have n1_ := Aside0.mk (Kd.R_below (by (with_reducible repeat (first | apply Kd.R_alloc | apply Kd.R_drewN | apply Kd.R_drew)); exact HO_209001.out) hb); have n2_ := Aside0.mk (Kd.R_below (by (with_reducible repeat (first | apply Kd.R_alloc | apply Kd.R_drewN | apply Kd.R_drew)); exact HO_221001.out) hb); have n3_ := Aside0.mk (blk_below (g := gb192) (o := .cells #[.bool a0_0, .slice A0_1 l0_1.length c0_1, .int .i64 a0_2] 24 (0, 0)) (by (with_reducible repeat (first | refine blk_drewN ?_ _ | refine blk_drew ?_ | refine blk_alloc ?_ _)); exact BK192.out) hb); have n4_ := Aside0.mk (blk_below (g := gb199) (o := .cells #[.bool t193, .slice Ao18 t194.length co18, .int .i64 t197] 24 (0, 0)) (by (with_reducible repeat (first | refine blk_drewN ?_ _ | refine blk_drew ?_ | refine blk_alloc ?_ _)); exact BK199.out) hb); have n5_ := Aside0.mk (blk_below (g := gb208) (o := .cells #[.bool t202, .slice Ao24 t203.length co24, .int .i64 t206] 24 (0, 0)) (by (with_reducible repeat (first | refine blk_drewN ?_ _ | refine blk_drew ?_ | refine blk_alloc ?_ _)); exact BK208.out) hb); have n6_ := Aside0.mk (blk_below (g := gb220) (o := .cells #[.bool t214, .slice Ao44 t215.length co44, .int .i64 t218] 24 (0, 0)) (by (with_reducible repeat (first | refine blk_drewN ?_ _ | refine blk_drew ?_ | refine blk_alloc ?_ _)); exact BK220.out) hb); have n7_ := Aside0.mk (blk_below (g := gb224) (o := .cells #[.int .i64 t221, .int .i64 t222, .string t223] 37 (0, 0)) (by (with_reducible repeat (first | refine blk_drewN ?_ _ | refine blk_drew ?_ | refine blk_alloc ?_ _)); exact BK224.out) hb); have n8_ := Aside0.mk (below_step (by repeat (first | (with_reducible first | exact HB.out | apply below_alloc | apply pw_below_drewN | apply below_drew1 | refine below_set ?_ GE192.out | refine below_set ?_ GE199.out | refine below_set ?_ GE208.out | refine below_set ?_ GE220.out | refine below_set ?_ GE224.out) | exact HB.out)) hb); clear HO_200001; clear HO_209001; clear HO_221001; clear BK192; clear BK199; clear BK208; clear BK220; clear BK224; clear HB; have HO_200001 := n0_; have HO_209001 := n1_; have HO_221001 := n2_; have BK192 := n3_; have BK199 := n4_; have BK208 := n5_; have BK220 := n6_; have BK224 := n7_; have HB := n8_; clear n0_ n1_ n2_ n3_ n4_ n5_ n6_ n7_ n8_; (try clear hb); (try clear hb2); (try clear hk); (try clear hi)))
                 go_ret
                 exact ⟨by first | rfl | (simp [errW_none, errW_some] <;> rfl) | (simp [*, errW_none, errW_some] <;> rfl), by repeat (first | (with_reducible first | exact HB.out | apply below_alloc | apply pw_below_drewN | apply below_drew1 | refine below_set ?_ GE192.out | refine below_set ?_ GE199.out | refine below_set ?_ GE208.out | refine below_set ?_ GE220.out | refine below_set ?_ GE224.out) | exact HB.out)⟩
               ·rw [if_neg c84] at H
                have c84b0 : (t219 == 0) = false := beq_eq_false_iff_ne.mpr c84
                have c84b1 : (t219 != 0) = true := bne_iff_ne.mpr c84
                obtain rfl := Option.some.inj H
                go_wp2_with (first | ((with_reducible refine gate_callee (f := 10) rfl ?_); refine goesL_ (some 113) rfl rfl Try.func10 (by kernel_rfl) rfl #[] rfl (by (try simp only [List.map_toArray, List.map_cons, List.map_nil]); first | done | rfl | (simp only [List.length_drop, List.length_take]; rfl)) ?_; (with_reducible refine (erasurelaw19_awake.calls  true _ A81.out).mono ?_); rintro e w135 ⟨rfl, hb⟩; refine ⟨_, rfl, ?_⟩; have n0_ := Aside0.mk (Kd.R_below (by (with_reducible repeat (first | apply Kd.R_alloc | apply Kd.R_drewN | apply Kd.R_drew)); exact HO_200001.out) hb); have n1_ := Aside0.mk (Kd.R_below (by (with_reducible repeat (first | apply Kd.R_alloc | apply Kd.R_drewN | apply Kd.R_drew)); exact HO_209001.out) hb); have n2_ := Aside0.mk (Kd.R_below (by (with_reducible repeat (first | apply Kd.R_alloc | apply Kd.R_drewN | apply Kd.R_drew)); exact HO_221001.out) hb); have n3_ := Aside0.mk (blk_below (g := gb192) (o := .cells #[.bool a0_0, .slice A0_1 l0_1.length c0_1, .int .i64 a0_2] 24 (0, 0)) (by (with_reducible repeat (first | refine blk_drewN ?_ _ | refine blk_drew ?_ | refine blk_alloc ?_ _)); exact BK192.out) hb); have n4_ := Aside0.mk (blk_below (g := gb199) (o := .cells #[.bool t193, .slice Ao18 t194.length co18, .int .i64 t197] 24 (0, 0)) (by (with_reducible repeat (first | refine blk_drewN ?_ _ | refine blk_drew ?_ | refine blk_alloc ?_ _)); exact BK199.out) hb); have n5_ := Aside0.mk (blk_below (g := gb208) (o := .cells #[.bool t202, .slice Ao24 t203.length co24, .int .i64 t206] 24 (0, 0)) (by (with_reducible repeat (first | refine blk_drewN ?_ _ | refine blk_drew ?_ | refine blk_alloc ?_ _)); exact BK208.out) hb); have n6_ := Aside0.mk (blk_below (g := gb220) (o := .cells #[.bool t214, .slice Ao44 t215.length co44, .int .i64 t218] 24 (0, 0)) (by (with_reducible repeat (first | refine blk_drewN ?_ _ | refine blk_drew ?_ | refine blk_alloc ?_ _)); exact BK220.out) hb); have n7_ := Aside0.mk (blk_below (g := gb224) (o := .cells #[.int .i64 t221, .int .i64 t222, .string t223] 37 (0, 0)) (by (with_reducible repeat (first | refine blk_drewN ?_ _ | refine blk_drew ?_ | refine blk_alloc ?_ _)); exact BK224.out) hb); have n8_ := Aside0.mk (below_step (by repeat (first | (with_reducible first | exact HB.out | apply below_alloc | apply pw_below_drewN | apply below_drew1 | refine below_set ?_ GE192.out | refine below_set ?_ GE199.out | refine below_set ?_ GE208.out | refine below_set ?_ GE220.out | refine below_set ?_ GE224.out) | exact HB.out)) hb); clear HO_200001; clear HO_209001; clear HO_221001; clear BK192; clear BK199; clear BK208; clear BK220; clear BK224; clear HB; have HO_200001 := n0_; have HO_209001 := n1_; have HO_221001 := n2_; have BK192 := n3_; have BK199 := n4_; have BK208 := n5_; have BK220 := n6_; have BK224 := n7_; have HB := n8_; clear n0_ n1_ n2_ n3_ n4_ n5_ n6_ n7_ n8_; (try clear hb); (try clear hb2); (try clear hk); (try clear hi)))
                go_ret
                exact ⟨by first | rfl | (simp [errW_none, errW_some] <;> rfl) | (simp [*, errW_none, errW_some] <;> rfl), by repeat (first | (with_reducible first | exact HB.out | apply below_alloc | apply pw_below_drewN | apply below_drew1 | refine below_set ?_ GE192.out | refine below_set ?_ GE199.out | refine below_set ?_ GE208.out | refine below_set ?_ GE220.out | refine below_set ?_ GE224.out) | exact HB.out)⟩
              ·rw [if_neg c83] at H
               have c83b0 : (t207 == 0) = false := beq_eq_false_iff_ne.mpr c83
               have c83b1 : (t207 != 0) = true := bne_iff_ne.mpr c83
               obtain rfl := Option.some.inj H
               go_wp2_with (first | ((with_reducible refine gate_callee (f := 10) rfl ?_); refine goesL_ (some 113) rfl rfl Try.func10 (by kernel_rfl) rfl #[] rfl (by (try simp only [List.map_toArray, List.map_cons, List.map_nil]); first | done | rfl | (simp only [List.length_drop, List.length_take]; rfl)) ?_; (with_reducible refine (erasurelaw19_awake.calls  true _ A81.out).mono ?_); rintro e w136 ⟨rfl, hb⟩; refine ⟨_, rfl, ?_⟩; have n0_ := Aside0.mk (Kd.R_below (by (with_reducible repeat (first | apply Kd.R_alloc | apply Kd.R_drewN | apply Kd.R_drew)); exact HO_200001.out) hb); have n1_ := Aside0.mk (Kd.R_below (by (with_reducible repeat (first | apply Kd.R_alloc | apply Kd.R_drewN | apply Kd.R_drew)); exact HO_209001.out) hb); have n2_ := Aside0.mk (Kd.R_below (by (with_reducible repeat (first | apply Kd.R_alloc | apply Kd.R_drewN | apply Kd.R_drew)); exact HO_221001.out) hb); have n3_ := Aside0.mk (blk_below (g := gb192) (o := .cells #[.bool a0_0, .slice A0_1 l0_1.length c0_1, .int .i64 a0_2] 24 (0, 0)) (by (with_reducible repeat (first | refine blk_drewN ?_ _ | refine blk_drew ?_ | refine blk_alloc ?_ _)); exact BK192.out) hb); have n4_ := Aside0.mk (blk_below (g := gb199) (o := .cells #[.bool t193, .slice Ao18 t194.length co18, .int .i64 t197] 24 (0, 0)) (by (with_reducible repeat (first | refine blk_drewN ?_ _ | refine blk_drew ?_ | refine blk_alloc ?_ _)); exact BK199.out) hb); have n5_ := Aside0.mk (blk_below (g := gb208) (o := .cells #[.bool t202, .slice Ao24 t203.length co24, .int .i64 t206] 24 (0, 0)) (by (with_reducible repeat (first | refine blk_drewN ?_ _ | refine blk_drew ?_ | refine blk_alloc ?_ _)); exact BK208.out) hb); have n6_ := Aside0.mk (blk_below (g := gb220) (o := .cells #[.bool t214, .slice Ao44 t215.length co44, .int .i64 t218] 24 (0, 0)) (by (with_reducible repeat (first | refine blk_drewN ?_ _ | refine blk_drew ?_ | refine blk_alloc ?_ _)); exact BK220.out) hb); have n7_ := Aside0.mk (blk_below (g := gb224) (o := .cells #[.int .i64 t221, .int .i64 t222, .string t223] 37 (0, 0)) (by (with_reducible repeat (first | refine blk_drewN ?_ _ | refine blk_drew ?_ | refine blk_alloc ?_ _)); exact BK224.out) hb); have n8_ := Aside0.mk (below_step (by repeat (first | (with_reducible first | exact HB.out | apply below_alloc | apply pw_below_drewN | apply below_drew1 | refine below_set ?_ GE192.out | refine below_set ?_ GE199.out | refine below_set ?_ GE208.out | refine below_set ?_ GE220.out | refine below_set ?_ GE224.out) | exact HB.out)) hb); clear HO_200001; clear HO_209001; clear HO_221001; clear BK192; clear BK199; clear BK208; clear BK220; clear BK224; clear HB; have HO_200001 := n0_; have HO_209001 := n1_; have HO_221001 := n2_; have BK192 := n3_; have BK199 := n4_; have BK208 := n5_; have BK220 := n6_; have BK224 := n7_; have HB := n8_; clear n0_ n1_ n2_ n3_ n4_ n5_ n6_ n7_ n8_; (try clear hb); (try clear hb2); (try clear hk); (try clear hi)))
               go_ret
               exact ⟨by first | rfl | (simp [errW_none, errW_some] <;> rfl) | (simp [*, errW_none, errW_some] <;> rfl), by repeat (first | (with_reducible first | exact HB.out | apply below_alloc | apply pw_below_drewN | apply below_drew1 | refine below_set ?_ GE192.out | refine below_set ?_ GE199.out | refine below_set ?_ GE208.out | refine below_set ?_ GE220.out | refine below_set ?_ GE224.out) | exact HB.out)⟩
             ·replace c82 := Bool.eq_false_iff.mpr c82
              subst c82
              have H1 : (some false) = some r := by rw [if_neg (show ¬ (false = true) by decide)] at H; exact H
              clear H
              have H := H1
              clear H1
              obtain rfl := Option.some.inj H
              go_wp2_with (first | ((with_reducible refine gate_callee (f := 10) rfl ?_); refine goesL_ (some 113) rfl rfl Try.func10 (by kernel_rfl) rfl #[] rfl (by (try simp only [List.map_toArray, List.map_cons, List.map_nil]); first | done | rfl | (simp only [List.length_drop, List.length_take]; rfl)) ?_; (with_reducible refine (erasurelaw19_awake.calls  false _ A81.out).mono ?_); rintro e w137 ⟨rfl, hb⟩; refine ⟨_, rfl, ?_⟩; have n0_ := Aside0.mk (Kd.R_below (by (with_reducible repeat (first | apply Kd.R_alloc | apply Kd.R_drewN | apply Kd.R_drew)); exact HO_200001.out) hb); have n1_ := Aside0.mk (Kd.R_below (by (with_reducible repeat (first | apply Kd.R_alloc | apply Kd.R_drewN | apply Kd.R_drew)); exact HO_209001.out) hb); have n2_ := Aside0.mk (Kd.R_below (by (with_reducible repeat (first | apply Kd.R_alloc | apply Kd.R_drewN | apply Kd.R_drew)); exact HO_221001.out) hb); have n3_ := Aside0.mk (blk_below (g := gb192) (o := .cells #[.bool a0_0, .slice A0_1 l0_1.length c0_1, .int .i64 a0_2] 24 (0, 0)) (by (with_reducible repeat (first | refine blk_drewN ?_ _ | refine blk_drew ?_ | refine blk_alloc ?_ _)); exact BK192.out) hb); have n4_ := Aside0.mk (blk_below (g := gb199) (o := .cells #[.bool t193, .slice Ao18 t194.length co18, .int .i64 t197] 24 (0, 0)) (by (with_reducible repeat (first | refine blk_drewN ?_ _ | refine blk_drew ?_ | refine blk_alloc ?_ _)); exact BK199.out) hb); have n5_ := Aside0.mk (blk_below (g := gb208) (o := .cells #[.bool t202, .slice Ao24 t203.length co24, .int .i64 t206] 24 (0, 0)) (by (with_reducible repeat (first | refine blk_drewN ?_ _ | refine blk_drew ?_ | refine blk_alloc ?_ _)); exact BK208.out) hb); have n6_ := Aside0.mk (blk_below (g := gb220) (o := .cells #[.bool t214, .slice Ao44 t215.length co44, .int .i64 t218] 24 (0, 0)) (by (with_reducible repeat (first | refine blk_drewN ?_ _ | refine blk_drew ?_ | refine blk_alloc ?_ _)); exact BK220.out) hb); have n7_ := Aside0.mk (blk_below (g := gb224) (o := .cells #[.int .i64 t221, .int .i64 t222, .string t223] 37 (0, 0)) (by (with_reducible repeat (first | refine blk_drewN ?_ _ | refine blk_drew ?_ | refine blk_alloc ?_ _)); exact BK224.out) hb); have n8_ := Aside0.mk (below_step (by repeat (first | (with_reducible first | exact HB.out | apply below_alloc | apply pw_below_drewN | apply below_drew1 | refine below_set ?_ GE192.out | refine below_set ?_ GE199.out | refine below_set ?_ GE208.out | refine below_set ?_ GE220.out | refine below_set ?_ GE224.out) | exact HB.out)) hb); clear HO_200001; clear HO_209001; clear HO_221001; clear BK192; clear BK199; clear BK208; clear BK220; clear BK224; clear HB; have HO_200001 := n0_; have HO_209001 := n1_; have HO_221001 := n2_; have BK192 := n3_; have BK199 := n4_; have BK208 := n5_; have BK220 := n6_; have BK224 := n7_; have HB := n8_; clear n0_ n1_ n2_ n3_ n4_ n5_ n6_ n7_ n8_; (try clear hb); (try clear hb2); (try clear hk); (try clear hi)))
              go_ret
              exact ⟨by first | rfl | (simp [errW_none, errW_some] <;> rfl) | (simp [*, errW_none, errW_some] <;> rfl), by repeat (first | (with_reducible first | exact HB.out | apply below_alloc | apply pw_below_drewN | apply below_drew1 | refine below_set ?_ GE192.out | refine below_set ?_ GE199.out | refine below_set ?_ GE208.out | refine below_set ?_ GE220.out | refine below_set ?_ GE224.out) | exact HB.out)⟩
    ·rw [if_neg c11] at H
     have c11b0 : (t198 == 0) = false := beq_eq_false_iff_ne.mpr c11
     have c11b1 : (t198 != 0) = true := bne_iff_ne.mpr c11
     replace H := Option.bind_eq_some_iff.mp H
     obtain ⟨t200, A1380, H⟩ := H
     replace H : (if t200 = true then ((font_Check.f kj3 a0_0 l0_1 a0_2).bind fun t201 => (some (t198 == t201))) else (some false)) = some r := H
     have A138 := Aside0.mk A1380
     clear A1380
     by_cases c139 : t200 = true
     ·subst c139
      have H1 : ((font_Check.f kj3 a0_0 l0_1 a0_2).bind fun t201 => (some (t198 == t201))) = some r := by rw [if_pos rfl] at H; exact H
      clear H
      have H := H1
      clear H1
      replace H := Option.bind_eq_some_iff.mp H
      obtain ⟨t201, A1400, H⟩ := H
      replace H : (some (t198 == t201)) = some r := H
      have A140 := Aside0.mk A1400
      clear A1400
      obtain rfl := Option.some.inj H
      have hcz141_0 : wc.cell? ⟨gb192, 0, none⟩ = some (.bool a0_0) := (blk_cell BK192.out 0).trans rfl
      have hcz141_1 : wc.cell? ⟨gb192, 1, none⟩ = some (.slice A0_1 l0_1.length c0_1) := (blk_cell BK192.out 1).trans rfl
      have hcz141_2 : wc.cell? ⟨gb192, 2, none⟩ = some (.int .i64 a0_2) := (blk_cell BK192.out 2).trans rfl
      have hfz141_0 := blk_frozen BK192.out 0
      have hfz141_1 := blk_frozen BK192.out 1
      have hfz141_2 := blk_frozen BK192.out 2
      go_wp2_with (first | ((with_reducible refine gate_callee (f := 20) rfl ?_); refine goesL_ (some 30) rfl rfl Try.func20 (by kernel_rfl) rfl #[.agg #[.bool a0_0, .slice A0_1 l0_1.length c0_1, .int .i64 a0_2], .slice A1 l1.length c1] rfl (by (try simp only [List.map_toArray, List.map_cons, List.map_nil]); first | done | rfl | (simp only [List.length_drop, List.length_take]; rfl)) ?_; (with_reducible refine (font_Cut.calls kj3 a0_0 _ _ l0_1 a0_2 _ _ l1 t193 t194 t197 t198 _ ?side1 ?side2 ?side3 ?side4 A10.out).mono ?_); (case side1 => repeat (first | exact (Kd.C_below HR0_1.out HB.out) | (with_reducible refine Kd.C_alloc ?_ _) | (with_reducible refine Kd.C_drewN ?_ _) | (with_reducible refine Kd.C_drew ?_))); (case side2 => exact HC0_1.out); (case side3 => repeat (first | exact (Kd.C_below HR1.out HB.out) | (with_reducible refine Kd.C_alloc ?_ _) | (with_reducible refine Kd.C_drewN ?_ _) | (with_reducible refine Kd.C_drew ?_))); (case side4 => exact HC1.out); rintro e w142 ⟨v195, rfl, ho0, hb⟩; refine ⟨_, rfl, ?_⟩; have n0_ := Aside0.mk (Kd.R_lower ho0 (below_size (by repeat (first | (with_reducible first | exact HB.out | apply below_alloc | apply pw_below_drewN | apply below_drew1 | refine below_set ?_ GE192.out) | exact HB.out)))); have n1_ := Aside0.mk (blk_below (g := gb192) (o := .cells #[.bool a0_0, .slice A0_1 l0_1.length c0_1, .int .i64 a0_2] 24 (0, 0)) (by (with_reducible repeat (first | refine blk_drewN ?_ _ | refine blk_drew ?_ | refine blk_alloc ?_ _)); exact BK192.out) hb); have n2_ := Aside0.mk (below_step (by repeat (first | (with_reducible first | exact HB.out | apply below_alloc | apply pw_below_drewN | apply below_drew1 | refine below_set ?_ GE192.out) | exact HB.out)) hb); clear BK192; clear HB; have HO196 := n0_; have BK192 := n1_; have HB := n2_; clear n0_ n1_ n2_; (try clear hb); (try clear hb2); (try clear hk); (try clear hi); (try clear ho0)) | ((with_reducible refine gate_dst (N := 7) rfl ?_); (try (refine gate_guard (by rfl) ?_; dsimp only)); refine box_event ?hg (N := 7) ?hd (cs := #[.bool false, .slice none 0 0, .int .i64 0]) (t := 24) ?hr ?_; (case hd => rfl); (case hg => rfl); (case hr => first | (go_simp; done) | (go_simp; rfl)); intro gb199 hg w143 hbox hb; have n0_ := Aside0.mk (Kd.R_below (by (with_reducible repeat (first | apply Kd.R_alloc | apply Kd.R_drewN | apply Kd.R_drew)); exact HO196.out) hb); have n1_ := Aside0.mk (blk_below (g := gb192) (o := .cells #[.bool a0_0, .slice A0_1 l0_1.length c0_1, .int .i64 a0_2] 24 (0, 0)) (by (with_reducible repeat (first | refine blk_drewN ?_ _ | refine blk_drew ?_ | refine blk_alloc ?_ _)); exact BK192.out) hb); have n2_ := Aside0.mk (below_step (by repeat (first | (with_reducible first | exact HB.out | apply below_alloc | apply pw_below_drewN | apply below_drew1 | refine below_set ?_ GE192.out) | exact HB.out)) hb); have n3_ := Aside0.mk (hbox); have n4_ := Aside0.mk ((by rw [hg]; exact (below_size (by repeat (first | (with_reducible first | exact HB.out | apply below_alloc | apply pw_below_drewN | apply below_drew1 | refine below_set ?_ GE192.out) | exact HB.out))) : w.heap.size ≤ gb199)); have n5_ := Aside0.mk ((by rw [hg]; exact (below_size (by repeat (first | (with_reducible first | exact HB.out | apply below_alloc | apply pw_below_drewN | apply below_drew1 | refine below_set ?_ GE192.out) | exact HB.out))) : w.heap.size ≤ gb199)); have n6_ := Aside0.mk ((by rw [hg]; exact Nat.ne_of_lt (blk_lt (g := gb192) (o := .cells #[.bool a0_0, .slice A0_1 l0_1.length c0_1, .int .i64 a0_2] 24 (0, 0)) (by (with_reducible repeat (first | refine blk_drewN ?_ _ | refine blk_drew ?_ | refine blk_alloc ?_ _)); exact BK192.out)) : gb192 ≠ gb199)); have n7_ := Aside0.mk ((by rw [hg]; exact Nat.ne_of_gt (blk_lt (g := gb192) (o := .cells #[.bool a0_0, .slice A0_1 l0_1.length c0_1, .int .i64 a0_2] 24 (0, 0)) (by (with_reducible repeat (first | refine blk_drewN ?_ _ | refine blk_drew ?_ | refine blk_alloc ?_ _)); exact BK192.out)) : gb199 ≠ gb192)); clear HO196; clear BK192; clear HB; have HO196 := n0_; have BK192 := n1_; have HB := n2_; have BK199 := n3_; have GW199 := n4_; have GE199 := n5_; have NB192_199 := n6_; have NB199_192 := n7_; clear n0_ n1_ n2_ n3_ n4_ n5_ n6_ n7_; clear hb hbox hg; have hnb144 := NB199_192.out; have hnc144 := NB192_199.out; have hcz145_0 : w143.cell? ⟨gb199, 0, none⟩ = some (.bool false) := (blk_cell BK199.out 0).trans rfl; have hcz145_1 : w143.cell? ⟨gb199, 1, none⟩ = some (.slice none 0 0) := (blk_cell BK199.out 1).trans rfl; have hcz145_2 : w143.cell? ⟨gb199, 2, none⟩ = some (.int .i64 0) := (blk_cell BK199.out 2).trans rfl; have hfz145_0 := blk_frozen BK199.out 0; have hfz145_1 := blk_frozen BK199.out 1; have hfz145_2 := blk_frozen BK199.out 2; obtain ⟨Ao146, co146, eo146⟩ := Kd.R_slice HO196.out; subst eo146) | ((with_reducible refine gate_callee (f := 10) rfl ?_); refine goesL_ (some 35) rfl rfl Try.func10 (by kernel_rfl) rfl #[] rfl (by (try simp only [List.map_toArray, List.map_cons, List.map_nil]); first | done | rfl | (simp only [List.length_drop, List.length_take]; rfl)) ?_; (with_reducible refine (erasurelaw19_awake.calls  true _ A138.out).mono ?_); rintro e w147 ⟨rfl, hb⟩; refine ⟨_, rfl, ?_⟩; have n0_ := Aside0.mk (Kd.R_below (by (with_reducible repeat (first | apply Kd.R_alloc | apply Kd.R_drewN | apply Kd.R_drew)); exact (Kd.R_mono (Kd.R_far (p := ⟨gb199, 2, none⟩) (Kd.R_far (p := ⟨gb199, 1, none⟩) (Kd.R_far (p := ⟨gb199, 0, none⟩) (Kd.R_types HO196.out BK199.out (by decide)) (fun _ hk => hk.2) (.bool t193)) (fun _ hk => hk.2) (.slice Ao146 t194.length co146)) (fun _ hk => hk.2) (.int .i64 t197)) (fun _ h_ => h_.1))) hb); have n1_ := Aside0.mk (blk_below (g := gb192) (o := .cells #[.bool a0_0, .slice A0_1 l0_1.length c0_1, .int .i64 a0_2] 24 (0, 0)) (by (with_reducible repeat (first | refine blk_drewN ?_ _ | refine blk_drew ?_ | refine blk_alloc ?_ _)); refine blk_far ?_ NB192_199.out _; (with_reducible repeat (first | refine blk_drewN ?_ _ | refine blk_drew ?_ | refine blk_alloc ?_ _)); refine blk_far ?_ NB192_199.out _; (with_reducible repeat (first | refine blk_drewN ?_ _ | refine blk_drew ?_ | refine blk_alloc ?_ _)); refine blk_far ?_ NB192_199.out _; (with_reducible repeat (first | refine blk_drewN ?_ _ | refine blk_drew ?_ | refine blk_alloc ?_ _)); exact BK192.out) hb); have n2_ := Aside0.mk (blk_below (g := gb199) (o := .cells #[.bool t193, .slice Ao146 t194.length co146, .int .i64 t197] 24 (0, 0)) (by (with_reducible repeat (first | refine blk_drewN ?_ _ | refine blk_drew ?_ | refine blk_alloc ?_ _)); refine blk_put (cs := #[.bool t193, .slice Ao146 t194.length co146, .int .i64 0]) ?_ 2 _ rfl; (with_reducible repeat (first | refine blk_drewN ?_ _ | refine blk_drew ?_ | refine blk_alloc ?_ _)); refine blk_put (cs := #[.bool t193, .slice none 0 0, .int .i64 0]) ?_ 1 _ rfl; (with_reducible repeat (first | refine blk_drewN ?_ _ | refine blk_drew ?_ | refine blk_alloc ?_ _)); refine blk_put (cs := #[.bool false, .slice none 0 0, .int .i64 0]) ?_ 0 _ rfl; (with_reducible repeat (first | refine blk_drewN ?_ _ | refine blk_drew ?_ | refine blk_alloc ?_ _)); exact BK199.out) hb); have n3_ := Aside0.mk (below_step (by repeat (first | (with_reducible first | exact HB.out | apply below_alloc | apply pw_below_drewN | apply below_drew1 | refine below_set ?_ GE192.out | refine below_set ?_ GE199.out) | exact HB.out)) hb); clear HO196; clear BK192; clear BK199; clear HB; have HO196 := n0_; have BK192 := n1_; have BK199 := n2_; have HB := n3_; clear n0_ n1_ n2_ n3_; (try clear hb); (try clear hb2); (try clear hk); (try clear hi); have hcz148_0 : w147.cell? ⟨gb192, 0, none⟩ = some (.bool a0_0) := (blk_cell BK192.out 0).trans rfl; have hcz148_1 : w147.cell? ⟨gb192, 1, none⟩ = some (.slice A0_1 l0_1.length c0_1) := (blk_cell BK192.out 1).trans rfl; have hcz148_2 : w147.cell? ⟨gb192, 2, none⟩ = some (.int .i64 a0_2) := (blk_cell BK192.out 2).trans rfl; have hfz148_0 := blk_frozen BK192.out 0; have hfz148_1 := blk_frozen BK192.out 1; have hfz148_2 := blk_frozen BK192.out 2) | (go_at_call 16; (with_reducible refine (font_Check.calls kj3 a0_0 _ _ l0_1 a0_2 t201 _ ?side1 ?side2 A140.out).mono ?_); (case side1 => repeat (first | exact (Kd.C_below HR0_1.out HB.out) | (with_reducible refine Kd.C_alloc ?_ _) | (with_reducible refine Kd.C_drewN ?_ _) | (with_reducible refine Kd.C_drew ?_))); (case side2 => exact HC0_1.out); rintro e w149 ⟨rfl, hb⟩; have n0_ := Aside0.mk (Kd.R_below (by (with_reducible repeat (first | apply Kd.R_alloc | apply Kd.R_drewN | apply Kd.R_drew)); exact HO196.out) hb); have n1_ := Aside0.mk (blk_below (g := gb192) (o := .cells #[.bool a0_0, .slice A0_1 l0_1.length c0_1, .int .i64 a0_2] 24 (0, 0)) (by (with_reducible repeat (first | refine blk_drewN ?_ _ | refine blk_drew ?_ | refine blk_alloc ?_ _)); exact BK192.out) hb); have n2_ := Aside0.mk (blk_below (g := gb199) (o := .cells #[.bool t193, .slice Ao146 t194.length co146, .int .i64 t197] 24 (0, 0)) (by (with_reducible repeat (first | refine blk_drewN ?_ _ | refine blk_drew ?_ | refine blk_alloc ?_ _)); exact BK199.out) hb); have n3_ := Aside0.mk (below_step (by repeat (first | (with_reducible first | exact HB.out | apply below_alloc | apply pw_below_drewN | apply below_drew1 | refine below_set ?_ GE192.out | refine below_set ?_ GE199.out) | exact HB.out)) hb); clear HO196; clear BK192; clear BK199; clear HB; have HO196 := n0_; have BK192 := n1_; have BK199 := n2_; have HB := n3_; clear n0_ n1_ n2_ n3_; (try clear hb); (try clear hb2); (try clear hk); (try clear hi)))
      go_ret
      exact ⟨by first | rfl | (simp [errW_none, errW_some] <;> rfl) | (simp [*, errW_none, errW_some] <;> rfl), by repeat (first | (with_reducible first | exact HB.out | apply below_alloc | apply pw_below_drewN | apply below_drew1 | refine below_set ?_ GE192.out | refine below_set ?_ GE199.out) | exact HB.out)⟩
     ·replace c139 := Bool.eq_false_iff.mpr c139
      subst c139
      have H1 : (some false) = some r := by rw [if_neg (show ¬ (false = true) by decide)] at H; exact H
      clear H
      have H := H1
      clear H1
      obtain rfl := Option.some.inj H
      have hcz150_0 : wc.cell? ⟨gb192, 0, none⟩ = some (.bool a0_0) := (blk_cell BK192.out 0).trans rfl
      have hcz150_1 : wc.cell? ⟨gb192, 1, none⟩ = some (.slice A0_1 l0_1.length c0_1) := (blk_cell BK192.out 1).trans rfl
      have hcz150_2 : wc.cell? ⟨gb192, 2, none⟩ = some (.int .i64 a0_2) := (blk_cell BK192.out 2).trans rfl
      have hfz150_0 := blk_frozen BK192.out 0
      have hfz150_1 := blk_frozen BK192.out 1
      have hfz150_2 := blk_frozen BK192.out 2
      go_wp2_with (first | ((with_reducible refine gate_callee (f := 20) rfl ?_); refine goesL_ (some 30) rfl rfl Try.func20 (by kernel_rfl) rfl #[.agg #[.bool a0_0, .slice A0_1 l0_1.length c0_1, .int .i64 a0_2], .slice A1 l1.length c1] rfl (by (try simp only [List.map_toArray, List.map_cons, List.map_nil]); first | done | rfl | (simp only [List.length_drop, List.length_take]; rfl)) ?_; (with_reducible refine (font_Cut.calls kj3 a0_0 _ _ l0_1 a0_2 _ _ l1 t193 t194 t197 t198 _ ?side1 ?side2 ?side3 ?side4 A10.out).mono ?_); (case side1 => repeat (first | exact (Kd.C_below HR0_1.out HB.out) | (with_reducible refine Kd.C_alloc ?_ _) | (with_reducible refine Kd.C_drewN ?_ _) | (with_reducible refine Kd.C_drew ?_))); (case side2 => exact HC0_1.out); (case side3 => repeat (first | exact (Kd.C_below HR1.out HB.out) | (with_reducible refine Kd.C_alloc ?_ _) | (with_reducible refine Kd.C_drewN ?_ _) | (with_reducible refine Kd.C_drew ?_))); (case side4 => exact HC1.out); rintro e w151 ⟨v195, rfl, ho0, hb⟩; refine ⟨_, rfl, ?_⟩; have n0_ := Aside0.mk (Kd.R_lower ho0 (below_size (by repeat (first | (with_reducible first | exact HB.out | apply below_alloc | apply pw_below_drewN | apply below_drew1 | refine below_set ?_ GE192.out) | exact HB.out)))); have n1_ := Aside0.mk (blk_below (g := gb192) (o := .cells #[.bool a0_0, .slice A0_1 l0_1.length c0_1, .int .i64 a0_2] 24 (0, 0)) (by (with_reducible repeat (first | refine blk_drewN ?_ _ | refine blk_drew ?_ | refine blk_alloc ?_ _)); exact BK192.out) hb); have n2_ := Aside0.mk (below_step (by repeat (first | (with_reducible first | exact HB.out | apply below_alloc | apply pw_below_drewN | apply below_drew1 | refine below_set ?_ GE192.out) | exact HB.out)) hb); clear BK192; clear HB; have HO196 := n0_; have BK192 := n1_; have HB := n2_; clear n0_ n1_ n2_; (try clear hb); (try clear hb2); (try clear hk); (try clear hi); (try clear ho0)) | ((with_reducible refine gate_dst (N := 7) rfl ?_); (try (refine gate_guard (by rfl) ?_; dsimp only)); refine box_event ?hg (N := 7) ?hd (cs := #[.bool false, .slice none 0 0, .int .i64 0]) (t := 24) ?hr ?_; (case hd => rfl); (case hg => rfl); (case hr => first | (go_simp; done) | (go_simp; rfl)); intro gb199 hg w152 hbox hb; have n0_ := Aside0.mk (Kd.R_below (by (with_reducible repeat (first | apply Kd.R_alloc | apply Kd.R_drewN | apply Kd.R_drew)); exact HO196.out) hb); have n1_ := Aside0.mk (blk_below (g := gb192) (o := .cells #[.bool a0_0, .slice A0_1 l0_1.length c0_1, .int .i64 a0_2] 24 (0, 0)) (by (with_reducible repeat (first | refine blk_drewN ?_ _ | refine blk_drew ?_ | refine blk_alloc ?_ _)); exact BK192.out) hb); have n2_ := Aside0.mk (below_step (by repeat (first | (with_reducible first | exact HB.out | apply below_alloc | apply pw_below_drewN | apply below_drew1 | refine below_set ?_ GE192.out) | exact HB.out)) hb); have n3_ := Aside0.mk (hbox); have n4_ := Aside0.mk ((by rw [hg]; exact (below_size (by repeat (first | (with_reducible first | exact HB.out | apply below_alloc | apply pw_below_drewN | apply below_drew1 | refine below_set ?_ GE192.out) | exact HB.out))) : w.heap.size ≤ gb199)); have n5_ := Aside0.mk ((by rw [hg]; exact (below_size (by repeat (first | (with_reducible first | exact HB.out | apply below_alloc | apply pw_below_drewN | apply below_drew1 | refine below_set ?_ GE192.out) | exact HB.out))) : w.heap.size ≤ gb199)); have n6_ := Aside0.mk ((by rw [hg]; exact Nat.ne_of_lt (blk_lt (g := gb192) (o := .cells #[.bool a0_0, .slice A0_1 l0_1.length c0_1, .int .i64 a0_2] 24 (0, 0)) (by (with_reducible repeat (first | refine blk_drewN ?_ _ | refine blk_drew ?_ | refine blk_alloc ?_ _)); exact BK192.out)) : gb192 ≠ gb199)); have n7_ := Aside0.mk ((by rw [hg]; exact Nat.ne_of_gt (blk_lt (g := gb192) (o := .cells #[.bool a0_0, .slice A0_1 l0_1.length c0_1, .int .i64 a0_2] 24 (0, 0)) (by (with_reducible repeat (first | refine blk_drewN ?_ _ | refine blk_drew ?_ | refine blk_alloc ?_ _)); exact BK192.out)) : gb199 ≠ gb192)); clear HO196; clear BK192; clear HB; have HO196 := n0_; have BK192 := n1_; have HB := n2_; have BK199 := n3_; have GW199 := n4_; have GE199 := n5_; have NB192_199 := n6_; have NB199_192 := n7_; clear n0_ n1_ n2_ n3_ n4_ n5_ n6_ n7_; clear hb hbox hg; have hnb153 := NB199_192.out; have hnc153 := NB192_199.out; have hcz154_0 : w152.cell? ⟨gb199, 0, none⟩ = some (.bool false) := (blk_cell BK199.out 0).trans rfl; have hcz154_1 : w152.cell? ⟨gb199, 1, none⟩ = some (.slice none 0 0) := (blk_cell BK199.out 1).trans rfl; have hcz154_2 : w152.cell? ⟨gb199, 2, none⟩ = some (.int .i64 0) := (blk_cell BK199.out 2).trans rfl; have hfz154_0 := blk_frozen BK199.out 0; have hfz154_1 := blk_frozen BK199.out 1; have hfz154_2 := blk_frozen BK199.out 2; obtain ⟨Ao155, co155, eo155⟩ := Kd.R_slice HO196.out; subst eo155) | ((with_reducible refine gate_callee (f := 10) rfl ?_); refine goesL_ (some 35) rfl rfl Try.func10 (by kernel_rfl) rfl #[] rfl (by (try simp only [List.map_toArray, List.map_cons, List.map_nil]); first | done | rfl | (simp only [List.length_drop, List.length_take]; rfl)) ?_; (with_reducible refine (erasurelaw19_awake.calls  false _ A138.out).mono ?_); rintro e w156 ⟨rfl, hb⟩; refine ⟨_, rfl, ?_⟩; have n0_ := Aside0.mk (Kd.R_below (by (with_reducible repeat (first | apply Kd.R_alloc | apply Kd.R_drewN | apply Kd.R_drew)); exact (Kd.R_mono (Kd.R_far (p := ⟨gb199, 2, none⟩) (Kd.R_far (p := ⟨gb199, 1, none⟩) (Kd.R_far (p := ⟨gb199, 0, none⟩) (Kd.R_types HO196.out BK199.out (by decide)) (fun _ hk => hk.2) (.bool t193)) (fun _ hk => hk.2) (.slice Ao155 t194.length co155)) (fun _ hk => hk.2) (.int .i64 t197)) (fun _ h_ => h_.1))) hb); have n1_ := Aside0.mk (blk_below (g := gb192) (o := .cells #[.bool a0_0, .slice A0_1 l0_1.length c0_1, .int .i64 a0_2] 24 (0, 0)) (by (with_reducible repeat (first | refine blk_drewN ?_ _ | refine blk_drew ?_ | refine blk_alloc ?_ _)); refine blk_far ?_ NB192_199.out _; (with_reducible repeat (first | refine blk_drewN ?_ _ | refine blk_drew ?_ | refine blk_alloc ?_ _)); refine blk_far ?_ NB192_199.out _; (with_reducible repeat (first | refine blk_drewN ?_ _ | refine blk_drew ?_ | refine blk_alloc ?_ _)); refine blk_far ?_ NB192_199.out _; (with_reducible repeat (first | refine blk_drewN ?_ _ | refine blk_drew ?_ | refine blk_alloc ?_ _)); exact BK192.out) hb); have n2_ := Aside0.mk (blk_below (g := gb199) (o := .cells #[.bool t193, .slice Ao155 t194.length co155, .int .i64 t197] 24 (0, 0)) (by (with_reducible repeat (first | refine blk_drewN ?_ _ | refine blk_drew ?_ | refine blk_alloc ?_ _)); refine blk_put (cs := #[.bool t193, .slice Ao155 t194.length co155, .int .i64 0]) ?_ 2 _ rfl; (with_reducible repeat (first | refine blk_drewN ?_ _ | refine blk_drew ?_ | refine blk_alloc ?_ _)); refine blk_put (cs := #[.bool t193, .slice none 0 0, .int .i64 0]) ?_ 1 _ rfl; (with_reducible repeat (first | refine blk_drewN ?_ _ | refine blk_drew ?_ | refine blk_alloc ?_ _)); refine blk_put (cs := #[.bool false, .slice none 0 0, .int .i64 0]) ?_ 0 _ rfl; (with_reducible repeat (first | refine blk_drewN ?_ _ | refine blk_drew ?_ | refine blk_alloc ?_ _)); exact BK199.out) hb); have n3_ := Aside0.mk (below_step (by repeat (first | (with_reducible first | exact HB.out | apply below_alloc | apply pw_below_drewN | apply below_drew1 | refine below_set ?_ GE192.out | refine below_set ?_ GE199.out) | exact HB.out)) hb); clear HO196; clear BK192; clear BK199; clear HB; have HO196 := n0_; have BK192 := n1_; have BK199 := n2_; have HB := n3_; clear n0_ n1_ n2_ n3_; (try clear hb); (try clear hb2); (try clear hk); (try clear hi)))
      go_ret
      exact ⟨by first | rfl | (simp [errW_none, errW_some] <;> rfl) | (simp [*, errW_none, errW_some] <;> rfl), by repeat (first | (with_reducible first | exact HB.out | apply below_alloc | apply pw_below_drewN | apply below_drew1 | refine below_set ?_ GE192.out | refine below_set ?_ GE199.out) | exact HB.out)⟩
end Go.Proofs.Ytjhpcfpccnfniaa.C
