-- written by my own driver of the kit's print (wip/tools/myprint.py); Lean checks it.
import Derived.Test.YtjhpcfpccnfniaaA0
namespace Go.Proofs.Ytjhpcfpccnfniaa.A
open Go.RowKit Go.Proofs.YtjhpcfpccnfniaaW.PrintWords Go.Proofs.YtjhpcfpccnfniaaW.PrintLast Go.Proofs.YtjhpcfpccnfniaaW.PrintMore
attribute [local go_sem] max2_int min2_int max_two min_two max_three min_three max_four min_four   -- for this text's walks alone
set_option linter.unusedVariables false
set_option linter.unusedSimpArgs false
def erasureref19_insert.l0 : Nat → List (S37) → List (S37) → Bool → Int → Int → Int → ByteArray → Option ((List (S37)) × Bool)
 | 0, _, _, _, _, _, _, _ => none
 | k + 1, x0, x6, x7, x8, x252000, x252001, x252002 => if x8 < (x0.length : Int) then (if 0 ≤ x8 then (if ((rd_T37 x0 x8).f0) = x252000 then (some (([] : List (S37)), false)) else (if ((rd_T37 x0 x8).f0) > x252000 then (if x7 = true then (if x6.length < 4398046511104 then (erasureref19_insert.l0 k x0 (x6 ++ [(⟨(rd_T37 x0 x8).f0, (rd_T37 x0 x8).f1, (rd_T37 x0 x8).f2⟩ : S37)]) x7 (wrap64 (x8 + 1)) x252000 x252001 x252002) else (none)) else (if x6.length < 4398046511104 then ((some (x6 ++ [(⟨x252000, x252001, x252002⟩ : S37)] : List (S37))).bind fun y261 => (if y261.length < 4398046511104 then (erasureref19_insert.l0 k x0 (y261 ++ [(⟨(rd_T37 x0 x8).f0, (rd_T37 x0 x8).f1, (rd_T37 x0 x8).f2⟩ : S37)]) true (wrap64 (x8 + 1)) x252000 x252001 x252002) else (none))) else (none))) else (if x6.length < 4398046511104 then (erasureref19_insert.l0 k x0 (x6 ++ [(⟨(rd_T37 x0 x8).f0, (rd_T37 x0 x8).f1, (rd_T37 x0 x8).f2⟩ : S37)]) x7 (wrap64 (x8 + 1)) x252000 x252001 x252002) else (none)))) else (none)) else (if x7 = true then (some (x6, true)) else (if x6.length < 4398046511104 then (some ((x6 ++ [(⟨x252000, x252001, x252002⟩ : S37)]), true)) else (none)))
def erasureref19_insert.f (k : Nat) (l0 : List (S37)) (a1_0 : Int) (a1_1 : Int) (a1_2 : ByteArray) : Option ((List (S37)) × Bool) := erasureref19_insert.l0 k l0 ([] : List (S37)) false 0 a1_0 a1_1 a1_2
theorem erasureref19_insert.mono_l : ∀ k, (∀ y0 y1 y2 y3 y4 y5 y6, LeO (erasureref19_insert.l0 k y0 y1 y2 y3 y4 y5 y6) (erasureref19_insert.l0 (k + 1) y0 y1 y2 y3 y4 y5 y6))
 | 0 => fun _ _ _ _ _ _ _ r h => by simp [erasureref19_insert.l0] at h
 | k + 1 => by
  have ih0 := erasureref19_insert.mono_l k
  ·intro y0 y1 y2 y3 y4 y5 y6
   unfold erasureref19_insert.l0
   repeat' first
   | (with_reducible exact ih0 _ _ _ _ _ _ _)
   | (with_reducible exact LeO.refl _)
   | (with_reducible exact LeO.none _)
   | (with_reducible refine LeO.ite ?_ ?_)
   | (with_reducible refine LeO.bind ?_ (fun _ => ?_))
   | exact ih0 _ _ _ _ _ _ _
   | exact LeO.none _
   | refine LeO.ite ?_ ?_
   | refine LeO.bind ?_ (fun _ => ?_)
theorem erasureref19_insert.mono : ∀ a0 a1 a2 a3 k, LeO (erasureref19_insert.f k a0 a1 a2 a3) (erasureref19_insert.f (k + 1) a0 a1 a2 a3) := by
 intro a0 a1 a2 a3 k
 have ih0 := erasureref19_insert.mono_l k
 unfold erasureref19_insert.f
 repeat' first
   | (with_reducible exact ih0 _ _ _ _ _ _ _)
   | (with_reducible exact LeO.refl _)
   | (with_reducible exact LeO.none _)
   | (with_reducible refine LeO.ite ?_ ?_)
   | (with_reducible refine LeO.bind ?_ (fun _ => ?_))
   | exact ih0 _ _ _ _ _ _ _
   | exact LeO.none _
   | refine LeO.ite ?_ ?_
   | refine LeO.bind ?_ (fun _ => ?_)
set_option maxHeartbeats 8000000 in
set_option maxRecDepth 100000 in
theorem erasureref19_insert.calls (k : Nat) (A0 : Option Addr) (c0 : Nat) (l0 : List (S37)) (a1_0 : Int) (a1_1 : Int) (a1_2 : ByteArray) (r1 : List (S37)) (r2 : Bool) (w : World) (hr0 : Kd.C k37 w A0 l0.length l0) (hc0 : l0.length ≤ c0) (h : erasureref19_insert.f k l0 a1_0 a1_1 a1_2 = some (r1, r2)) :
  Calls Try.prog 39 #[.slice A0 l0.length c0, .agg #[.int .i64 a1_0, .int .i64 a1_1, .string a1_2]] w fun e w' => ∃ v0_ : Value, e = .returned (.tuple #[v0_, .bool r2]) ∧ Kd.R k37 37 w' w.heap.size (fun _ => True) v0_ r1 ∧ Below w.heap.size w w' := by
 have hu37 := Try.underlying37
 have HR0 := Aside0.mk hr0
 have HC0 := Aside0.mk hc0
 clear hr0 hc0
 have HB := Aside0.mk (Below.refl w.heap.size w)
 have H : (erasureref19_insert.l0 k l0 ([] : List (S37)) false 0 a1_0 a1_1 a1_2) = some (r1, r2) := h
 clear h
 have H' := Aside0.mk H
 clear H
 go_enter Try.func39, Try.ntmps39
 go_wp2_with (first | ((with_reducible refine gate_dst (N := 3) rfl ?_); refine box_event ?hg (N := 3) ?hd (cs := #[.int .i64 a1_0, .int .i64 a1_1, .string a1_2]) (t := 37) ?hr ?_; (case hd => rfl); (case hg => rfl); (case hr => first | (go_simp; done) | (go_simp; rfl)); intro gb251 hg w3 hbox hb; have n0_ := Aside0.mk (below_step (by repeat (first | (with_reducible first | exact HB.out | apply below_alloc | apply pw_below_drewN | apply below_drew1) | exact HB.out)) hb); have n1_ := Aside0.mk (hbox); have n2_ := Aside0.mk ((by rw [hg]; exact (below_size (by repeat (first | (with_reducible first | exact HB.out | apply below_alloc | apply pw_below_drewN | apply below_drew1) | exact HB.out))) : w.heap.size ≤ gb251)); have n3_ := Aside0.mk ((by rw [hg]; exact (below_size (by repeat (first | (with_reducible first | exact HB.out | apply below_alloc | apply pw_below_drewN | apply below_drew1) | exact HB.out))) : w.heap.size ≤ gb251)); clear HB; have HB := n0_; have BK251 := n1_; have GW251 := n2_; have GE251 := n3_; clear n0_ n1_ n2_ n3_; clear hb hbox hg))
 repeat (go_quiet (first | ((with_reducible refine gate_dst (N := 3) rfl ?_); refine box_event ?hg (N := 3) ?hd (cs := #[.int .i64 a1_0, .int .i64 a1_1, .string a1_2]) (t := 37) ?hr ?_; (case hd => rfl); (case hg => rfl); (case hr => first | (go_simp; done) | (go_simp; rfl)); intro gb251 hg w3 hbox hb; have n0_ := Aside0.mk (below_step (by repeat (first | (with_reducible first | exact HB.out | apply below_alloc | apply pw_below_drewN | apply below_drew1) | exact HB.out)) hb); have n1_ := Aside0.mk (hbox); have n2_ := Aside0.mk ((by rw [hg]; exact (below_size (by repeat (first | (with_reducible first | exact HB.out | apply below_alloc | apply pw_below_drewN | apply below_drew1) | exact HB.out))) : w.heap.size ≤ gb251)); have n3_ := Aside0.mk ((by rw [hg]; exact (below_size (by repeat (first | (with_reducible first | exact HB.out | apply below_alloc | apply pw_below_drewN | apply below_drew1) | exact HB.out))) : w.heap.size ≤ gb251)); clear HB; have HB := n0_; have BK251 := n1_; have GW251 := n2_; have GE251 := n3_; clear n0_ n1_ n2_ n3_; clear hb hbox hg)); try go_wp2_with (first | ((with_reducible refine gate_dst (N := 3) rfl ?_); refine box_event ?hg (N := 3) ?hd (cs := #[.int .i64 a1_0, .int .i64 a1_1, .string a1_2]) (t := 37) ?hr ?_; (case hd => rfl); (case hg => rfl); (case hr => first | (go_simp; done) | (go_simp; rfl)); intro gb251 hg w3 hbox hb; have n0_ := Aside0.mk (below_step (by repeat (first | (with_reducible first | exact HB.out | apply below_alloc | apply pw_below_drewN | apply below_drew1) | exact HB.out)) hb); have n1_ := Aside0.mk (hbox); have n2_ := Aside0.mk ((by rw [hg]; exact (below_size (by repeat (first | (with_reducible first | exact HB.out | apply below_alloc | apply pw_below_drewN | apply below_drew1) | exact HB.out))) : w.heap.size ≤ gb251)); have n3_ := Aside0.mk ((by rw [hg]; exact (below_size (by repeat (first | (with_reducible first | exact HB.out | apply below_alloc | apply pw_below_drewN | apply below_drew1) | exact HB.out))) : w.heap.size ≤ gb251)); clear HB; have HB := n0_; have BK251 := n1_; have GW251 := n2_; have GE251 := n3_; clear n0_ n1_ n2_ n3_; clear hb hbox hg)))
 go_loopg [6, 7, 8] k (fun kq v6 v7 v8 w' => ∃ (x6_1 : List (S37)) (x7_1 : Bool) (x8_1 : Int), v7 = .bool x7_1 ∧ v8 = .int .i64 x8_1 ∧ Aside0 (erasureref19_insert.l0 kq l0 x6_1 x7_1 x8_1 a1_0 a1_1 a1_2 = some (r1, r2)) ∧ Aside0 (kq ≤ k) ∧ Aside0 (Kd.R k37 37 w' w.heap.size (fun k_ => k_ ≠ gb251) v6 x6_1) ∧ Aside0 (w'.heap[gb251]? = some (.cells #[.int .i64 a1_0, .int .i64 a1_1, .string a1_2] 37 (0, 0))) ∧ Aside0 (Below w.heap.size w w'))
 case atStart => exact ⟨(([] : List (S37))), (false), (0), (by first | rfl | (simp; done) | (simp [*]; done)), (by first | rfl | (simp; done) | (simp [*]; done)), H', ⟨Nat.le_refl _⟩, ⟨by first | exact Kd.R_nil _ _ _ _ _ | exact Kd.N_nil _ _ _ _ _ | exact Kd.V_nil _ _ _ _ _ | exact Kd.Q_nil _ _ _ _ _ | exact Kd.S_nil _ _ _ _ _⟩, ⟨by (with_reducible repeat (first | refine blk_drewN ?_ _ | refine blk_drew ?_ | refine blk_alloc ?_ _)); exact BK251.out⟩, ⟨by repeat (first | (with_reducible first | exact HB.out | apply below_alloc | apply pw_below_drewN | apply below_drew1 | refine below_set ?_ GE251.out) | exact HB.out)⟩⟩
 case round =>
  clear H'
  try clear p2
  try clear c3
  obtain ⟨x6_1, x7_1, x8_1, rfl, rfl, HA, HK1, HO_6, BK251, HB⟩ := hrel
  cases gk with
  | zero => exact absurd HA.out (by simp [erasureref19_insert.l0])
  | succ k1 =>
   have H := HA.out
   clear HA
   simp only [erasureref19_insert.l0] at H
   by_cases c4 : x8_1 < (l0.length : Int)
   ·rw [if_pos c4] at H
    have c4b0 : decide (x8_1 < (l0.length : Int)) = true := decide_eq_true c4
    clear c4
    by_cases c5 : 0 ≤ x8_1
    ·rw [if_pos c5] at H
     have c5b0 : decide (0 ≤ x8_1) = true := decide_eq_true c5
     clear c5
     by_cases c6 : ((rd_T37 l0 x8_1).f0) = a1_0
     ·rw [if_pos c6] at H
      have c6b0 : (((rd_T37 l0 x8_1).f0) == a1_0) = true := beq_iff_eq.mpr c6
      have c6b1 : (((rd_T37 l0 x8_1).f0) != a1_0) = false := bne_eq_false_iff_eq.mpr c6
      clear c6
      simp only [Option.some.injEq, Prod.mk.injEq] at H
      obtain ⟨rfl, rfl⟩ := H
      have p255 : 0 ≤ (x8_1 : Int) := of_decide_eq_true (by first | (with_reducible assumption) | assumption)
      have q255 : x8_1 < (l0.length : Int) := of_decide_eq_true (by first | (with_reducible assumption) | assumption)
      obtain ⟨ad255, e255, hx255_0, hx255_1, hx255_2⟩ := at_T37 HR0.out x8_1 p255 q255
      cases e255
      replace hx255_0 := (HB.out.cell (World.block_lt_of_cell? w _ hx255_0)).trans hx255_0
      replace hx255_1 := (HB.out.cell (World.block_lt_of_cell? w _ hx255_1)).trans hx255_1
      replace hx255_2 := (HB.out.cell (World.block_lt_of_cell? w _ hx255_2)).trans hx255_2
      replace p255 := eq_true p255
      replace q255 := eq_true q255
      have hcz7_0 : wr.cell? ⟨gb251, 0, none⟩ = some (.int .i64 a1_0) := (blk_cell BK251.out 0).trans rfl
      have hcz7_1 : wr.cell? ⟨gb251, 1, none⟩ = some (.int .i64 a1_1) := (blk_cell BK251.out 1).trans rfl
      have hcz7_2 : wr.cell? ⟨gb251, 2, none⟩ = some (.string a1_2) := (blk_cell BK251.out 2).trans rfl
      have hfz7_0 := blk_frozen BK251.out 0
      have hfz7_1 := blk_frozen BK251.out 1
      have hfz7_2 := blk_frozen BK251.out 2
      go_wp2
      repeat (go_quiet (fail); try go_wp2)
      go_ret2
      exact ⟨_, by first | rfl | (simp [errW_none, errW_some] <;> rfl) | (simp [*, errW_none, errW_some] <;> rfl), by first | exact Kd.R_nil _ _ _ _ _ | exact Kd.N_nil _ _ _ _ _ | exact Kd.V_nil _ _ _ _ _ | exact Kd.Q_nil _ _ _ _ _ | exact Kd.S_nil _ _ _ _ _, by repeat (first | (with_reducible first | exact HB.out | apply below_alloc | apply pw_below_drewN | apply below_drew1 | refine below_set ?_ GE251.out) | exact HB.out)⟩
     ·rw [if_neg c6] at H
      have c6b0 : (((rd_T37 l0 x8_1).f0) == a1_0) = false := beq_eq_false_iff_ne.mpr c6
      have c6b1 : (((rd_T37 l0 x8_1).f0) != a1_0) = true := bne_iff_ne.mpr c6
      by_cases c8 : ((rd_T37 l0 x8_1).f0) > a1_0
      ·rw [if_pos c8] at H
       have c8b0 : decide (a1_0 < ((rd_T37 l0 x8_1).f0)) = true := decide_eq_true c8
       clear c8
       by_cases c9 : x7_1 = true
       ·subst c9
        have H1 : (if x6_1.length < 4398046511104 then (erasureref19_insert.l0 k1 l0 (x6_1 ++ [(⟨(rd_T37 l0 x8_1).f0, (rd_T37 l0 x8_1).f1, (rd_T37 l0 x8_1).f2⟩ : S37)]) true (wrap64 (x8_1 + 1)) a1_0 a1_1 a1_2) else (none)) = some (r1, r2) := by rw [if_pos rfl] at H; exact H
        clear H
        have H := H1
        clear H1
        by_cases c10 : x6_1.length < 4398046511104
        ·rw [if_pos c10] at H
         have LMc10 := Aside0.mk c10
         clear c10
         obtain ⟨y258, hy258⟩ : ∃ y_ : List (S37), y_ = (x6_1 ++ [(⟨(rd_T37 l0 x8_1).f0, (rd_T37 l0 x8_1).f1, (rd_T37 l0 x8_1).f2⟩ : S37)]) := ⟨_, rfl⟩
         replace H : (erasureref19_insert.l0 k1 l0 y258 true (wrap64 (x8_1 + 1)) a1_0 a1_1 a1_2) = some (r1, r2) := by first | (rw [hy258]; with_reducible exact H) | (have H2_ := (Option.bind_some _ _).symm.trans H; rw [hy258]; with_reducible exact H2_) | (have H2_ := (Option.bind_some _ _).symm.trans H; with_reducible exact H2_) | with_reducible exact H | (rw [hy258]; exact H) | exact H
         have Ny258 := Aside0.mk hy258
         clear hy258
         have H' := Aside0.mk H
         clear H
         have p255 : 0 ≤ (x8_1 : Int) := of_decide_eq_true (by first | (with_reducible assumption) | assumption)
         have q255 : x8_1 < (l0.length : Int) := of_decide_eq_true (by first | (with_reducible assumption) | assumption)
         obtain ⟨ad255, e255, hx255_0, hx255_1, hx255_2⟩ := at_T37 HR0.out x8_1 p255 q255
         cases e255
         replace hx255_0 := (HB.out.cell (World.block_lt_of_cell? w _ hx255_0)).trans hx255_0
         replace hx255_1 := (HB.out.cell (World.block_lt_of_cell? w _ hx255_1)).trans hx255_1
         replace hx255_2 := (HB.out.cell (World.block_lt_of_cell? w _ hx255_2)).trans hx255_2
         replace p255 := eq_true p255
         replace q255 := eq_true q255
         have hcz11_0 : wr.cell? ⟨gb251, 0, none⟩ = some (.int .i64 a1_0) := (blk_cell BK251.out 0).trans rfl
         have hcz11_1 : wr.cell? ⟨gb251, 1, none⟩ = some (.int .i64 a1_1) := (blk_cell BK251.out 1).trans rfl
         have hcz11_2 : wr.cell? ⟨gb251, 2, none⟩ = some (.string a1_2) := (blk_cell BK251.out 2).trans rfl
         have hfz11_0 := blk_frozen BK251.out 0
         have hfz11_1 := blk_frozen BK251.out 1
         have hfz11_2 := blk_frozen BK251.out 2
         have p256 : 0 ≤ (x8_1 : Int) := of_decide_eq_true (by first | (with_reducible assumption) | assumption)
         have q256 : x8_1 < (l0.length : Int) := of_decide_eq_true (by first | (with_reducible assumption) | assumption)
         obtain ⟨ad256, e256, hx256_0, hx256_1, hx256_2⟩ := at_T37 HR0.out x8_1 p256 q256
         obtain rfl : ad255 = ad256 := (by injection e256)
         replace hx256_0 := (HB.out.cell (World.block_lt_of_cell? w _ hx256_0)).trans hx256_0
         replace hx256_1 := (HB.out.cell (World.block_lt_of_cell? w _ hx256_1)).trans hx256_1
         replace hx256_2 := (HB.out.cell (World.block_lt_of_cell? w _ hx256_2)).trans hx256_2
         replace p256 := eq_true p256
         replace q256 := eq_true q256
         have p257 : 0 ≤ (x8_1 : Int) := of_decide_eq_true (by first | (with_reducible assumption) | assumption)
         have q257 : x8_1 < (l0.length : Int) := of_decide_eq_true (by first | (with_reducible assumption) | assumption)
         obtain ⟨ad257, e257, hx257_0, hx257_1, hx257_2⟩ := at_T37 HR0.out x8_1 p257 q257
         obtain rfl : ad255 = ad257 := (by injection e257)
         replace hx257_0 := (HB.out.cell (World.block_lt_of_cell? w _ hx257_0)).trans hx257_0
         replace hx257_1 := (HB.out.cell (World.block_lt_of_cell? w _ hx257_1)).trans hx257_1
         replace hx257_2 := (HB.out.cell (World.block_lt_of_cell? w _ hx257_2)).trans hx257_2
         replace p257 := eq_true p257
         replace q257 := eq_true q257
         go_wp2_with (first | ((with_reducible refine gate_builtin (b := .append) (xs := #[.tmp 39, .tmp 44]) rfl ?_); at_builtin; refine Kd.R_append k37 (w0 := w) w.heap.size rfl (.tmp 39) (.tmp 44) 22 37 (.agg #[(.int .i64 0), (.int .i64 0), (.string ⟨#[]⟩)]) 32 rfl Try.underlying22 info37 rfl (by decide) (by omega) u6 x6_1 (⟨(rd_T37 l0 x8_1).f0, (rd_T37 l0 x8_1).f1, (rd_T37 l0 x8_1).f2⟩ : S37) [.int .i64 ((rd_T37 l0 x8_1).f0), .int .i64 ((rd_T37 l0 x8_1).f1), .string ((rd_T37 l0 x8_1).f2)] (fun k_ => k_ ≠ gb251) (fun _ => False) rfl rfl ?aP (fun _ hk => hk.elim) ?aF ?aO ?aB ?aS ?aL ?_; (case aP => exact k37_mkM _ _ _ (⟨(rd_T37 l0 x8_1).f0, (rd_T37 l0 x8_1).f1, (rd_T37 l0 x8_1).f2⟩ : S37)); (case aB => exact (by repeat (first | (with_reducible first | exact HB.out | apply below_alloc | apply pw_below_drewN | apply below_drew1 | refine below_set ?_ GE251.out) | exact HB.out))); (case aF => exact (fun k_ hk => Kd.freshB (g := gb251) (o := .cells #[.int .i64 a1_0, .int .i64 a1_1, .string a1_2] 37 (0, 0)) (by (with_reducible repeat (first | refine blk_drewN ?_ _ | refine blk_drew ?_ | refine blk_alloc ?_ _)); exact BK251.out) k_ hk)); (case aO => exact (by (with_reducible repeat (first | apply Kd.R_alloc | apply Kd.R_drewN | apply Kd.R_drew)); exact HO_6.out)); (case aS => exact (below_size (by repeat (first | (with_reducible first | exact HB.out | apply below_alloc | apply pw_below_drewN | apply below_drew1 | refine below_set ?_ GE251.out) | exact HB.out)))); (case aL => have := LMc10.out; omega); intro v259 w12 ho hb hg hat; rw [← Ny258.out] at ho; have n0_ := Aside0.mk (blk_grown (g := gb251) (o := .cells #[.int .i64 a1_0, .int .i64 a1_1, .string a1_2] 37 (0, 0)) (by (with_reducible repeat (first | refine blk_drewN ?_ _ | refine blk_drew ?_ | refine blk_alloc ?_ _)); exact BK251.out) hg (Kd.R_away HO_6.out (fun _ hk => hk))); have n1_ := Aside0.mk (hb); have n2_ := Aside0.mk (ho); clear BK251; clear HB; clear HO_6; have BK251 := n0_; have HB := n1_; have HO260 := n2_; clear n0_ n1_ n2_; clear ho hb hg hat))
         repeat (go_quiet (first | ((with_reducible refine gate_builtin (b := .append) (xs := #[.tmp 39, .tmp 44]) rfl ?_); at_builtin; refine Kd.R_append k37 (w0 := w) w.heap.size rfl (.tmp 39) (.tmp 44) 22 37 (.agg #[(.int .i64 0), (.int .i64 0), (.string ⟨#[]⟩)]) 32 rfl Try.underlying22 info37 rfl (by decide) (by omega) u6 x6_1 (⟨(rd_T37 l0 x8_1).f0, (rd_T37 l0 x8_1).f1, (rd_T37 l0 x8_1).f2⟩ : S37) [.int .i64 ((rd_T37 l0 x8_1).f0), .int .i64 ((rd_T37 l0 x8_1).f1), .string ((rd_T37 l0 x8_1).f2)] (fun k_ => k_ ≠ gb251) (fun _ => False) rfl rfl ?aP (fun _ hk => hk.elim) ?aF ?aO ?aB ?aS ?aL ?_; (case aP => exact k37_mkM _ _ _ (⟨(rd_T37 l0 x8_1).f0, (rd_T37 l0 x8_1).f1, (rd_T37 l0 x8_1).f2⟩ : S37)); (case aB => exact (by repeat (first | (with_reducible first | exact HB.out | apply below_alloc | apply pw_below_drewN | apply below_drew1 | refine below_set ?_ GE251.out) | exact HB.out))); (case aF => exact (fun k_ hk => Kd.freshB (g := gb251) (o := .cells #[.int .i64 a1_0, .int .i64 a1_1, .string a1_2] 37 (0, 0)) (by (with_reducible repeat (first | refine blk_drewN ?_ _ | refine blk_drew ?_ | refine blk_alloc ?_ _)); exact BK251.out) k_ hk)); (case aO => exact (by (with_reducible repeat (first | apply Kd.R_alloc | apply Kd.R_drewN | apply Kd.R_drew)); exact HO_6.out)); (case aS => exact (below_size (by repeat (first | (with_reducible first | exact HB.out | apply below_alloc | apply pw_below_drewN | apply below_drew1 | refine below_set ?_ GE251.out) | exact HB.out)))); (case aL => have := LMc10.out; omega); intro v259 w12 ho hb hg hat; rw [← Ny258.out] at ho; have n0_ := Aside0.mk (blk_grown (g := gb251) (o := .cells #[.int .i64 a1_0, .int .i64 a1_1, .string a1_2] 37 (0, 0)) (by (with_reducible repeat (first | refine blk_drewN ?_ _ | refine blk_drew ?_ | refine blk_alloc ?_ _)); exact BK251.out) hg (Kd.R_away HO_6.out (fun _ hk => hk))); have n1_ := Aside0.mk (hb); have n2_ := Aside0.mk (ho); clear BK251; clear HB; clear HO_6; have BK251 := n0_; have HB := n1_; have HO260 := n2_; clear n0_ n1_ n2_; clear ho hb hg hat)); try go_wp2_with (first | ((with_reducible refine gate_builtin (b := .append) (xs := #[.tmp 39, .tmp 44]) rfl ?_); at_builtin; refine Kd.R_append k37 (w0 := w) w.heap.size rfl (.tmp 39) (.tmp 44) 22 37 (.agg #[(.int .i64 0), (.int .i64 0), (.string ⟨#[]⟩)]) 32 rfl Try.underlying22 info37 rfl (by decide) (by omega) u6 x6_1 (⟨(rd_T37 l0 x8_1).f0, (rd_T37 l0 x8_1).f1, (rd_T37 l0 x8_1).f2⟩ : S37) [.int .i64 ((rd_T37 l0 x8_1).f0), .int .i64 ((rd_T37 l0 x8_1).f1), .string ((rd_T37 l0 x8_1).f2)] (fun k_ => k_ ≠ gb251) (fun _ => False) rfl rfl ?aP (fun _ hk => hk.elim) ?aF ?aO ?aB ?aS ?aL ?_; (case aP => exact k37_mkM _ _ _ (⟨(rd_T37 l0 x8_1).f0, (rd_T37 l0 x8_1).f1, (rd_T37 l0 x8_1).f2⟩ : S37)); (case aB => exact (by repeat (first | (with_reducible first | exact HB.out | apply below_alloc | apply pw_below_drewN | apply below_drew1 | refine below_set ?_ GE251.out) | exact HB.out))); (case aF => exact (fun k_ hk => Kd.freshB (g := gb251) (o := .cells #[.int .i64 a1_0, .int .i64 a1_1, .string a1_2] 37 (0, 0)) (by (with_reducible repeat (first | refine blk_drewN ?_ _ | refine blk_drew ?_ | refine blk_alloc ?_ _)); exact BK251.out) k_ hk)); (case aO => exact (by (with_reducible repeat (first | apply Kd.R_alloc | apply Kd.R_drewN | apply Kd.R_drew)); exact HO_6.out)); (case aS => exact (below_size (by repeat (first | (with_reducible first | exact HB.out | apply below_alloc | apply pw_below_drewN | apply below_drew1 | refine below_set ?_ GE251.out) | exact HB.out)))); (case aL => have := LMc10.out; omega); intro v259 w12 ho hb hg hat; rw [← Ny258.out] at ho; have n0_ := Aside0.mk (blk_grown (g := gb251) (o := .cells #[.int .i64 a1_0, .int .i64 a1_1, .string a1_2] 37 (0, 0)) (by (with_reducible repeat (first | refine blk_drewN ?_ _ | refine blk_drew ?_ | refine blk_alloc ?_ _)); exact BK251.out) hg (Kd.R_away HO_6.out (fun _ hk => hk))); have n1_ := Aside0.mk (hb); have n2_ := Aside0.mk (ho); clear BK251; clear HB; clear HO_6; have BK251 := n0_; have HB := n1_; have HO260 := n2_; clear n0_ n1_ n2_; clear ho hb hg hat)))
         go_roundg k1
         case measure => have := HK1.out; omega
         case rel => exact ⟨(y258), (true), (wrap64 (x8_1 + 1)), (by first | rfl | (simp; done) | (simp [*]; done)), (by first | rfl | (simp; done) | (simp [*]; done)), H', ⟨by have := HK1.out; omega⟩, ⟨by (with_reducible repeat (first | apply Kd.R_alloc | apply Kd.R_drewN | apply Kd.R_drew)); exact HO260.out⟩, ⟨by (with_reducible repeat (first | refine blk_drewN ?_ _ | refine blk_drew ?_ | refine blk_alloc ?_ _)); exact BK251.out⟩, ⟨by repeat (first | (with_reducible first | exact HB.out | apply below_alloc | apply pw_below_drewN | apply below_drew1 | refine below_set ?_ GE251.out) | exact HB.out)⟩⟩
        ·rw [if_neg c10] at H
         exact absurd H (by simp)
       ·replace c9 := Bool.eq_false_iff.mpr c9
        subst c9
        have H1 : (if x6_1.length < 4398046511104 then ((some (x6_1 ++ [(⟨a1_0, a1_1, a1_2⟩ : S37)] : List (S37))).bind fun y261 => (if y261.length < 4398046511104 then (erasureref19_insert.l0 k1 l0 (y261 ++ [(⟨(rd_T37 l0 x8_1).f0, (rd_T37 l0 x8_1).f1, (rd_T37 l0 x8_1).f2⟩ : S37)]) true (wrap64 (x8_1 + 1)) a1_0 a1_1 a1_2) else (none))) else (none)) = some (r1, r2) := by rw [if_neg (show ¬ (false = true) by decide)] at H; exact H
        clear H
        have H := H1
        clear H1
        by_cases c13 : x6_1.length < 4398046511104
        ·rw [if_pos c13] at H
         have LMc13 := Aside0.mk c13
         clear c13
         obtain ⟨y261, hy261⟩ : ∃ y_ : List (S37), y_ = (x6_1 ++ [(⟨a1_0, a1_1, a1_2⟩ : S37)]) := ⟨_, rfl⟩
         replace H : (if y261.length < 4398046511104 then (erasureref19_insert.l0 k1 l0 (y261 ++ [(⟨(rd_T37 l0 x8_1).f0, (rd_T37 l0 x8_1).f1, (rd_T37 l0 x8_1).f2⟩ : S37)]) true (wrap64 (x8_1 + 1)) a1_0 a1_1 a1_2) else (none)) = some (r1, r2) := by first | (rw [hy261]; with_reducible exact H) | (have H2_ := (Option.bind_some _ _).symm.trans H; rw [hy261]; with_reducible exact H2_) | (have H2_ := (Option.bind_some _ _).symm.trans H; with_reducible exact H2_) | with_reducible exact H | (rw [hy261]; exact H) | exact H
         have Ny261 := Aside0.mk hy261
         clear hy261
         by_cases c14 : y261.length < 4398046511104
         ·rw [if_pos c14] at H
          have LMc14 := Aside0.mk c14
          clear c14
          obtain ⟨y265, hy265⟩ : ∃ y_ : List (S37), y_ = (y261 ++ [(⟨(rd_T37 l0 x8_1).f0, (rd_T37 l0 x8_1).f1, (rd_T37 l0 x8_1).f2⟩ : S37)]) := ⟨_, rfl⟩
          replace H : (erasureref19_insert.l0 k1 l0 y265 true (wrap64 (x8_1 + 1)) a1_0 a1_1 a1_2) = some (r1, r2) := by first | (rw [hy265]; with_reducible exact H) | (have H2_ := (Option.bind_some _ _).symm.trans H; rw [hy265]; with_reducible exact H2_) | (have H2_ := (Option.bind_some _ _).symm.trans H; with_reducible exact H2_) | with_reducible exact H | (rw [hy265]; exact H) | exact H
          have Ny265 := Aside0.mk hy265
          clear hy265
          have H' := Aside0.mk H
          clear H
          have p255 : 0 ≤ (x8_1 : Int) := of_decide_eq_true (by first | (with_reducible assumption) | assumption)
          have q255 : x8_1 < (l0.length : Int) := of_decide_eq_true (by first | (with_reducible assumption) | assumption)
          obtain ⟨ad255, e255, hx255_0, hx255_1, hx255_2⟩ := at_T37 HR0.out x8_1 p255 q255
          cases e255
          replace hx255_0 := (HB.out.cell (World.block_lt_of_cell? w _ hx255_0)).trans hx255_0
          replace hx255_1 := (HB.out.cell (World.block_lt_of_cell? w _ hx255_1)).trans hx255_1
          replace hx255_2 := (HB.out.cell (World.block_lt_of_cell? w _ hx255_2)).trans hx255_2
          replace p255 := eq_true p255
          replace q255 := eq_true q255
          have hcz15_0 : wr.cell? ⟨gb251, 0, none⟩ = some (.int .i64 a1_0) := (blk_cell BK251.out 0).trans rfl
          have hcz15_1 : wr.cell? ⟨gb251, 1, none⟩ = some (.int .i64 a1_1) := (blk_cell BK251.out 1).trans rfl
          have hcz15_2 : wr.cell? ⟨gb251, 2, none⟩ = some (.string a1_2) := (blk_cell BK251.out 2).trans rfl
          have hfz15_0 := blk_frozen BK251.out 0
          have hfz15_1 := blk_frozen BK251.out 1
          have hfz15_2 := blk_frozen BK251.out 2
          have p256 : 0 ≤ (x8_1 : Int) := of_decide_eq_true (by first | (with_reducible assumption) | assumption)
          have q256 : x8_1 < (l0.length : Int) := of_decide_eq_true (by first | (with_reducible assumption) | assumption)
          obtain ⟨ad256, e256, hx256_0, hx256_1, hx256_2⟩ := at_T37 HR0.out x8_1 p256 q256
          obtain rfl : ad255 = ad256 := (by injection e256)
          replace hx256_0 := (HB.out.cell (World.block_lt_of_cell? w _ hx256_0)).trans hx256_0
          replace hx256_1 := (HB.out.cell (World.block_lt_of_cell? w _ hx256_1)).trans hx256_1
          replace hx256_2 := (HB.out.cell (World.block_lt_of_cell? w _ hx256_2)).trans hx256_2
          replace p256 := eq_true p256
          replace q256 := eq_true q256
          go_wp2_with (first | ((with_reducible refine gate_builtin (b := .append) (xs := #[.tmp 35, .tmp 37]) rfl ?_); at_builtin; refine Kd.R_append k37 (w0 := w) w.heap.size rfl (.tmp 35) (.tmp 37) 22 37 (.agg #[(.int .i64 0), (.int .i64 0), (.string ⟨#[]⟩)]) 32 rfl Try.underlying22 info37 rfl (by decide) (by omega) u6 x6_1 (⟨a1_0, a1_1, a1_2⟩ : S37) [.int .i64 a1_0, .int .i64 a1_1, .string a1_2] (fun k_ => k_ ≠ gb251) (fun _ => False) rfl rfl ?aP (fun _ hk => hk.elim) ?aF ?aO ?aB ?aS ?aL ?_; (case aP => exact k37_mkM _ _ _ (⟨a1_0, a1_1, a1_2⟩ : S37)); (case aB => exact (by repeat (first | (with_reducible first | exact HB.out | apply below_alloc | apply pw_below_drewN | apply below_drew1 | refine below_set ?_ GE251.out) | exact HB.out))); (case aF => exact (fun k_ hk => Kd.freshB (g := gb251) (o := .cells #[.int .i64 a1_0, .int .i64 a1_1, .string a1_2] 37 (0, 0)) (by (with_reducible repeat (first | refine blk_drewN ?_ _ | refine blk_drew ?_ | refine blk_alloc ?_ _)); exact BK251.out) k_ hk)); (case aO => exact (by (with_reducible repeat (first | apply Kd.R_alloc | apply Kd.R_drewN | apply Kd.R_drew)); exact HO_6.out)); (case aS => exact (below_size (by repeat (first | (with_reducible first | exact HB.out | apply below_alloc | apply pw_below_drewN | apply below_drew1 | refine below_set ?_ GE251.out) | exact HB.out)))); (case aL => have := LMc13.out; omega); intro v262 w16 ho hb hg hat; rw [← Ny261.out] at ho; have n0_ := Aside0.mk (blk_grown (g := gb251) (o := .cells #[.int .i64 a1_0, .int .i64 a1_1, .string a1_2] 37 (0, 0)) (by (with_reducible repeat (first | refine blk_drewN ?_ _ | refine blk_drew ?_ | refine blk_alloc ?_ _)); exact BK251.out) hg (Kd.R_away HO_6.out (fun _ hk => hk))); have n1_ := Aside0.mk (hb); have n2_ := Aside0.mk (ho); clear BK251; clear HB; clear HO_6; have BK251 := n0_; have HB := n1_; have HO263 := n2_; clear n0_ n1_ n2_; clear ho hb hg hat; have p264 : 0 ≤ (x8_1 : Int) := of_decide_eq_true (by first | (with_reducible assumption) | assumption); have q264 : x8_1 < (l0.length : Int) := of_decide_eq_true (by first | (with_reducible assumption) | assumption); obtain ⟨ad264, e264, hx264_0, hx264_1, hx264_2⟩ := at_T37 HR0.out x8_1 p264 q264; obtain rfl : ad255 = ad264 := (by injection e264); replace hx264_0 := (HB.out.cell (World.block_lt_of_cell? w _ hx264_0)).trans hx264_0; replace hx264_1 := (HB.out.cell (World.block_lt_of_cell? w _ hx264_1)).trans hx264_1; replace hx264_2 := (HB.out.cell (World.block_lt_of_cell? w _ hx264_2)).trans hx264_2; replace p264 := eq_true p264; replace q264 := eq_true q264) | ((with_reducible refine gate_builtin (b := .append) (xs := #[.tmp 39, .tmp 44]) rfl ?_); at_builtin; refine Kd.R_append k37 (w0 := w) w.heap.size rfl (.tmp 39) (.tmp 44) 22 37 (.agg #[(.int .i64 0), (.int .i64 0), (.string ⟨#[]⟩)]) 32 rfl Try.underlying22 info37 rfl (by decide) (by omega) v262 y261 (⟨(rd_T37 l0 x8_1).f0, (rd_T37 l0 x8_1).f1, (rd_T37 l0 x8_1).f2⟩ : S37) [.int .i64 ((rd_T37 l0 x8_1).f0), .int .i64 ((rd_T37 l0 x8_1).f1), .string ((rd_T37 l0 x8_1).f2)] (fun k_ => k_ ≠ gb251) (fun _ => False) rfl rfl ?aP (fun _ hk => hk.elim) ?aF ?aO ?aB ?aS ?aL ?_; (case aP => exact k37_mkM _ _ _ (⟨(rd_T37 l0 x8_1).f0, (rd_T37 l0 x8_1).f1, (rd_T37 l0 x8_1).f2⟩ : S37)); (case aB => exact (by repeat (first | (with_reducible first | exact HB.out | apply below_alloc | apply pw_below_drewN | apply below_drew1 | refine below_set ?_ GE251.out) | exact HB.out))); (case aF => exact (fun k_ hk => Kd.freshB (g := gb251) (o := .cells #[.int .i64 a1_0, .int .i64 a1_1, .string a1_2] 37 (0, 0)) (by (with_reducible repeat (first | refine blk_drewN ?_ _ | refine blk_drew ?_ | refine blk_alloc ?_ _)); exact BK251.out) k_ hk)); (case aO => exact (by (with_reducible repeat (first | apply Kd.R_alloc | apply Kd.R_drewN | apply Kd.R_drew)); exact HO263.out)); (case aS => exact (below_size (by repeat (first | (with_reducible first | exact HB.out | apply below_alloc | apply pw_below_drewN | apply below_drew1 | refine below_set ?_ GE251.out) | exact HB.out)))); (case aL => have := LMc14.out; omega); intro v266 w17 ho hb hg hat; rw [← Ny265.out] at ho; have n0_ := Aside0.mk (blk_grown (g := gb251) (o := .cells #[.int .i64 a1_0, .int .i64 a1_1, .string a1_2] 37 (0, 0)) (by (with_reducible repeat (first | refine blk_drewN ?_ _ | refine blk_drew ?_ | refine blk_alloc ?_ _)); exact BK251.out) hg (Kd.R_away HO263.out (fun _ hk => hk))); have n1_ := Aside0.mk (hb); have n2_ := Aside0.mk (ho); clear BK251; clear HB; clear HO263; have BK251 := n0_; have HB := n1_; have HO267 := n2_; clear n0_ n1_ n2_; clear ho hb hg hat))
          repeat (go_quiet (first | ((with_reducible refine gate_builtin (b := .append) (xs := #[.tmp 35, .tmp 37]) rfl ?_); at_builtin; refine Kd.R_append k37 (w0 := w) w.heap.size rfl (.tmp 35) (.tmp 37) 22 37 (.agg #[(.int .i64 0), (.int .i64 0), (.string ⟨#[]⟩)]) 32 rfl Try.underlying22 info37 rfl (by decide) (by omega) u6 x6_1 (⟨a1_0, a1_1, a1_2⟩ : S37) [.int .i64 a1_0, .int .i64 a1_1, .string a1_2] (fun k_ => k_ ≠ gb251) (fun _ => False) rfl rfl ?aP (fun _ hk => hk.elim) ?aF ?aO ?aB ?aS ?aL ?_; (case aP => exact k37_mkM _ _ _ (⟨a1_0, a1_1, a1_2⟩ : S37)); (case aB => exact (by repeat (first | (with_reducible first | exact HB.out | apply below_alloc | apply pw_below_drewN | apply below_drew1 | refine below_set ?_ GE251.out) | exact HB.out))); (case aF => exact (fun k_ hk => Kd.freshB (g := gb251) (o := .cells #[.int .i64 a1_0, .int .i64 a1_1, .string a1_2] 37 (0, 0)) (by (with_reducible repeat (first | refine blk_drewN ?_ _ | refine blk_drew ?_ | refine blk_alloc ?_ _)); exact BK251.out) k_ hk)); (case aO => exact (by (with_reducible repeat (first | apply Kd.R_alloc | apply Kd.R_drewN | apply Kd.R_drew)); exact HO_6.out)); (case aS => exact (below_size (by repeat (first | (with_reducible first | exact HB.out | apply below_alloc | apply pw_below_drewN | apply below_drew1 | refine below_set ?_ GE251.out) | exact HB.out)))); (case aL => have := LMc13.out; omega); intro v262 w16 ho hb hg hat; rw [← Ny261.out] at ho; have n0_ := Aside0.mk (blk_grown (g := gb251) (o := .cells #[.int .i64 a1_0, .int .i64 a1_1, .string a1_2] 37 (0, 0)) (by (with_reducible repeat (first | refine blk_drewN ?_ _ | refine blk_drew ?_ | refine blk_alloc ?_ _)); exact BK251.out) hg (Kd.R_away HO_6.out (fun _ hk => hk))); have n1_ := Aside0.mk (hb); have n2_ := Aside0.mk (ho); clear BK251; clear HB; clear HO_6; have BK251 := n0_; have HB := n1_; have HO263 := n2_; clear n0_ n1_ n2_; clear ho hb hg hat; have p264 : 0 ≤ (x8_1 : Int) := of_decide_eq_true (by first | (with_reducible assumption) | assumption); have q264 : x8_1 < (l0.length : Int) := of_decide_eq_true (by first | (with_reducible assumption) | assumption); obtain ⟨ad264, e264, hx264_0, hx264_1, hx264_2⟩ := at_T37 HR0.out x8_1 p264 q264; obtain rfl : ad255 = ad264 := (by injection e264); replace hx264_0 := (HB.out.cell (World.block_lt_of_cell? w _ hx264_0)).trans hx264_0; replace hx264_1 := (HB.out.cell (World.block_lt_of_cell? w _ hx264_1)).trans hx264_1; replace hx264_2 := (HB.out.cell (World.block_lt_of_cell? w _ hx264_2)).trans hx264_2; replace p264 := eq_true p264; replace q264 := eq_true q264) | ((with_reducible refine gate_builtin (b := .append) (xs := #[.tmp 39, .tmp 44]) rfl ?_); at_builtin; refine Kd.R_append k37 (w0 := w) w.heap.size rfl (.tmp 39) (.tmp 44) 22 37 (.agg #[(.int .i64 0), (.int .i64 0), (.string ⟨#[]⟩)]) 32 rfl Try.underlying22 info37 rfl (by decide) (by omega) v262 y261 (⟨(rd_T37 l0 x8_1).f0, (rd_T37 l0 x8_1).f1, (rd_T37 l0 x8_1).f2⟩ : S37) [.int .i64 ((rd_T37 l0 x8_1).f0), .int .i64 ((rd_T37 l0 x8_1).f1), .string ((rd_T37 l0 x8_1).f2)] (fun k_ => k_ ≠ gb251) (fun _ => False) rfl rfl ?aP (fun _ hk => hk.elim) ?aF ?aO ?aB ?aS ?aL ?_; (case aP => exact k37_mkM _ _ _ (⟨(rd_T37 l0 x8_1).f0, (rd_T37 l0 x8_1).f1, (rd_T37 l0 x8_1).f2⟩ : S37)); (case aB => exact (by repeat (first | (with_reducible first | exact HB.out | apply below_alloc | apply pw_below_drewN | apply below_drew1 | refine below_set ?_ GE251.out) | exact HB.out))); (case aF => exact (fun k_ hk => Kd.freshB (g := gb251) (o := .cells #[.int .i64 a1_0, .int .i64 a1_1, .string a1_2] 37 (0, 0)) (by (with_reducible repeat (first | refine blk_drewN ?_ _ | refine blk_drew ?_ | refine blk_alloc ?_ _)); exact BK251.out) k_ hk)); (case aO => exact (by (with_reducible repeat (first | apply Kd.R_alloc | apply Kd.R_drewN | apply Kd.R_drew)); exact HO263.out)); (case aS => exact (below_size (by repeat (first | (with_reducible first | exact HB.out | apply below_alloc | apply pw_below_drewN | apply below_drew1 | refine below_set ?_ GE251.out) | exact HB.out)))); (case aL => have := LMc14.out; omega); intro v266 w17 ho hb hg hat; rw [← Ny265.out] at ho; have n0_ := Aside0.mk (blk_grown (g := gb251) (o := .cells #[.int .i64 a1_0, .int .i64 a1_1, .string a1_2] 37 (0, 0)) (by (with_reducible repeat (first | refine blk_drewN ?_ _ | refine blk_drew ?_ | refine blk_alloc ?_ _)); exact BK251.out) hg (Kd.R_away HO263.out (fun _ hk => hk))); have n1_ := Aside0.mk (hb); have n2_ := Aside0.mk (ho); clear BK251; clear HB; clear HO263; have BK251 := n0_; have HB := n1_; have HO267 := n2_; clear n0_ n1_ n2_; clear ho hb hg hat)); try go_wp2_with (first | ((with_reducible refine gate_builtin (b := .append) (xs := #[.tmp 35, .tmp 37]) rfl ?_); at_builtin; refine Kd.R_append k37 (w0 := w) w.heap.size rfl (.tmp 35) (.tmp 37) 22 37 (.agg #[(.int .i64 0), (.int .i64 0), (.string ⟨#[]⟩)]) 32 rfl Try.underlying22 info37 rfl (by decide) (by omega) u6 x6_1 (⟨a1_0, a1_1, a1_2⟩ : S37) [.int .i64 a1_0, .int .i64 a1_1, .string a1_2] (fun k_ => k_ ≠ gb251) (fun _ => False) rfl rfl ?aP (fun _ hk => hk.elim) ?aF ?aO ?aB ?aS ?aL ?_; (case aP => exact k37_mkM _ _ _ (⟨a1_0, a1_1, a1_2⟩ : S37)); (case aB => exact (by repeat (first | (with_reducible first | exact HB.out | apply below_alloc | apply pw_below_drewN | apply below_drew1 | refine below_set ?_ GE251.out) | exact HB.out))); (case aF => exact (fun k_ hk => Kd.freshB (g := gb251) (o := .cells #[.int .i64 a1_0, .int .i64 a1_1, .string a1_2] 37 (0, 0)) (by (with_reducible repeat (first | refine blk_drewN ?_ _ | refine blk_drew ?_ | refine blk_alloc ?_ _)); exact BK251.out) k_ hk)); (case aO => exact (by (with_reducible repeat (first | apply Kd.R_alloc | apply Kd.R_drewN | apply Kd.R_drew)); exact HO_6.out)); (case aS => exact (below_size (by repeat (first | (with_reducible first | exact HB.out | apply below_alloc | apply pw_below_drewN | apply below_drew1 | refine below_set ?_ GE251.out) | exact HB.out)))); (case aL => have := LMc13.out; omega); intro v262 w16 ho hb hg hat; rw [← Ny261.out] at ho; have n0_ := Aside0.mk (blk_grown (g := gb251) (o := .cells #[.int .i64 a1_0, .int .i64 a1_1, .string a1_2] 37 (0, 0)) (by (with_reducible repeat (first | refine blk_drewN ?_ _ | refine blk_drew ?_ | refine blk_alloc ?_ _)); exact BK251.out) hg (Kd.R_away HO_6.out (fun _ hk => hk))); have n1_ := Aside0.mk (hb); have n2_ := Aside0.mk (ho); clear BK251; clear HB; clear HO_6; have BK251 := n0_; have HB := n1_; have HO263 := n2_; clear n0_ n1_ n2_; clear ho hb hg hat; have p264 : 0 ≤ (x8_1 : Int) := of_decide_eq_true (by first | (with_reducible assumption) | assumption); have q264 : x8_1 < (l0.length : Int) := of_decide_eq_true (by first | (with_reducible assumption) | assumption); obtain ⟨ad264, e264, hx264_0, hx264_1, hx264_2⟩ := at_T37 HR0.out x8_1 p264 q264; obtain rfl : ad255 = ad264 := (by injection e264); replace hx264_0 := (HB.out.cell (World.block_lt_of_cell? w _ hx264_0)).trans hx264_0; replace hx264_1 := (HB.out.cell (World.block_lt_of_cell? w _ hx264_1)).trans hx264_1; replace hx264_2 := (HB.out.cell (World.block_lt_of_cell? w _ hx264_2)).trans hx264_2; replace p264 := eq_true p264; replace q264 := eq_true q264) | ((with_reducible refine gate_builtin (b := .append) (xs := #[.tmp 39, .tmp 44]) rfl ?_); at_builtin; refine Kd.R_append k37 (w0 := w) w.heap.size rfl (.tmp 39) (.tmp 44) 22 37 (.agg #[(.int .i64 0), (.int .i64 0), (.string ⟨#[]⟩)]) 32 rfl Try.underlying22 info37 rfl (by decide) (by omega) v262 y261 (⟨(rd_T37 l0 x8_1).f0, (rd_T37 l0 x8_1).f1, (rd_T37 l0 x8_1).f2⟩ : S37) [.int .i64 ((rd_T37 l0 x8_1).f0), .int .i64 ((rd_T37 l0 x8_1).f1), .string ((rd_T37 l0 x8_1).f2)] (fun k_ => k_ ≠ gb251) (fun _ => False) rfl rfl ?aP (fun _ hk => hk.elim) ?aF ?aO ?aB ?aS ?aL ?_; (case aP => exact k37_mkM _ _ _ (⟨(rd_T37 l0 x8_1).f0, (rd_T37 l0 x8_1).f1, (rd_T37 l0 x8_1).f2⟩ : S37)); (case aB => exact (by repeat (first | (with_reducible first | exact HB.out | apply below_alloc | apply pw_below_drewN | apply below_drew1 | refine below_set ?_ GE251.out) | exact HB.out))); (case aF => exact (fun k_ hk => Kd.freshB (g := gb251) (o := .cells #[.int .i64 a1_0, .int .i64 a1_1, .string a1_2] 37 (0, 0)) (by (with_reducible repeat (first | refine blk_drewN ?_ _ | refine blk_drew ?_ | refine blk_alloc ?_ _)); exact BK251.out) k_ hk)); (case aO => exact (by (with_reducible repeat (first | apply Kd.R_alloc | apply Kd.R_drewN | apply Kd.R_drew)); exact HO263.out)); (case aS => exact (below_size (by repeat (first | (with_reducible first | exact HB.out | apply below_alloc | apply pw_below_drewN | apply below_drew1 | refine below_set ?_ GE251.out) | exact HB.out)))); (case aL => have := LMc14.out; omega); intro v266 w17 ho hb hg hat; rw [← Ny265.out] at ho; have n0_ := Aside0.mk (blk_grown (g := gb251) (o := .cells #[.int .i64 a1_0, .int .i64 a1_1, .string a1_2] 37 (0, 0)) (by (with_reducible repeat (first | refine blk_drewN ?_ _ | refine blk_drew ?_ | refine blk_alloc ?_ _)); exact BK251.out) hg (Kd.R_away HO263.out (fun _ hk => hk))); have n1_ := Aside0.mk (hb); have n2_ := Aside0.mk (ho); clear BK251; clear HB; clear HO263; have BK251 := n0_; have HB := n1_; have HO267 := n2_; clear n0_ n1_ n2_; clear ho hb hg hat)))
          go_roundg k1
          case measure => have := HK1.out; omega
          case rel => exact ⟨(y265), (true), (wrap64 (x8_1 + 1)), (by first | rfl | (simp; done) | (simp [*]; done)), (by first | rfl | (simp; done) | (simp [*]; done)), H', ⟨by have := HK1.out; omega⟩, ⟨by (with_reducible repeat (first | apply Kd.R_alloc | apply Kd.R_drewN | apply Kd.R_drew)); exact HO267.out⟩, ⟨by (with_reducible repeat (first | refine blk_drewN ?_ _ | refine blk_drew ?_ | refine blk_alloc ?_ _)); exact BK251.out⟩, ⟨by repeat (first | (with_reducible first | exact HB.out | apply below_alloc | apply pw_below_drewN | apply below_drew1 | refine below_set ?_ GE251.out) | exact HB.out)⟩⟩
         ·rw [if_neg c14] at H
          exact absurd H (by simp)
        ·rw [if_neg c13] at H
         exact absurd H (by simp)
      ·rw [if_neg c8] at H
       have c8b0 : decide (a1_0 < ((rd_T37 l0 x8_1).f0)) = false := decide_eq_false c8
       clear c8
       by_cases c18 : x6_1.length < 4398046511104
       ·rw [if_pos c18] at H
        have LMc18 := Aside0.mk c18
        clear c18
        obtain ⟨y269, hy269⟩ : ∃ y_ : List (S37), y_ = (x6_1 ++ [(⟨(rd_T37 l0 x8_1).f0, (rd_T37 l0 x8_1).f1, (rd_T37 l0 x8_1).f2⟩ : S37)]) := ⟨_, rfl⟩
        replace H : (erasureref19_insert.l0 k1 l0 y269 x7_1 (wrap64 (x8_1 + 1)) a1_0 a1_1 a1_2) = some (r1, r2) := by first | (rw [hy269]; with_reducible exact H) | (have H2_ := (Option.bind_some _ _).symm.trans H; rw [hy269]; with_reducible exact H2_) | (have H2_ := (Option.bind_some _ _).symm.trans H; with_reducible exact H2_) | with_reducible exact H | (rw [hy269]; exact H) | exact H
        have Ny269 := Aside0.mk hy269
        clear hy269
        have H' := Aside0.mk H
        clear H
        have p255 : 0 ≤ (x8_1 : Int) := of_decide_eq_true (by first | (with_reducible assumption) | assumption)
        have q255 : x8_1 < (l0.length : Int) := of_decide_eq_true (by first | (with_reducible assumption) | assumption)
        obtain ⟨ad255, e255, hx255_0, hx255_1, hx255_2⟩ := at_T37 HR0.out x8_1 p255 q255
        cases e255
        replace hx255_0 := (HB.out.cell (World.block_lt_of_cell? w _ hx255_0)).trans hx255_0
        replace hx255_1 := (HB.out.cell (World.block_lt_of_cell? w _ hx255_1)).trans hx255_1
        replace hx255_2 := (HB.out.cell (World.block_lt_of_cell? w _ hx255_2)).trans hx255_2
        replace p255 := eq_true p255
        replace q255 := eq_true q255
        have hcz19_0 : wr.cell? ⟨gb251, 0, none⟩ = some (.int .i64 a1_0) := (blk_cell BK251.out 0).trans rfl
        have hcz19_1 : wr.cell? ⟨gb251, 1, none⟩ = some (.int .i64 a1_1) := (blk_cell BK251.out 1).trans rfl
        have hcz19_2 : wr.cell? ⟨gb251, 2, none⟩ = some (.string a1_2) := (blk_cell BK251.out 2).trans rfl
        have hfz19_0 := blk_frozen BK251.out 0
        have hfz19_1 := blk_frozen BK251.out 1
        have hfz19_2 := blk_frozen BK251.out 2
        have p256 : 0 ≤ (x8_1 : Int) := of_decide_eq_true (by first | (with_reducible assumption) | assumption)
        have q256 : x8_1 < (l0.length : Int) := of_decide_eq_true (by first | (with_reducible assumption) | assumption)
        obtain ⟨ad256, e256, hx256_0, hx256_1, hx256_2⟩ := at_T37 HR0.out x8_1 p256 q256
        obtain rfl : ad255 = ad256 := (by injection e256)
        replace hx256_0 := (HB.out.cell (World.block_lt_of_cell? w _ hx256_0)).trans hx256_0
        replace hx256_1 := (HB.out.cell (World.block_lt_of_cell? w _ hx256_1)).trans hx256_1
        replace hx256_2 := (HB.out.cell (World.block_lt_of_cell? w _ hx256_2)).trans hx256_2
        replace p256 := eq_true p256
        replace q256 := eq_true q256
        have p268 : 0 ≤ (x8_1 : Int) := of_decide_eq_true (by first | (with_reducible assumption) | assumption)
        have q268 : x8_1 < (l0.length : Int) := of_decide_eq_true (by first | (with_reducible assumption) | assumption)
        obtain ⟨ad268, e268, hx268_0, hx268_1, hx268_2⟩ := at_T37 HR0.out x8_1 p268 q268
        obtain rfl : ad255 = ad268 := (by injection e268)
        replace hx268_0 := (HB.out.cell (World.block_lt_of_cell? w _ hx268_0)).trans hx268_0
        replace hx268_1 := (HB.out.cell (World.block_lt_of_cell? w _ hx268_1)).trans hx268_1
        replace hx268_2 := (HB.out.cell (World.block_lt_of_cell? w _ hx268_2)).trans hx268_2
        replace p268 := eq_true p268
        replace q268 := eq_true q268
        go_wp2_with (first | ((with_reducible refine gate_builtin (b := .append) (xs := #[.tmp 39, .tmp 44]) rfl ?_); at_builtin; refine Kd.R_append k37 (w0 := w) w.heap.size rfl (.tmp 39) (.tmp 44) 22 37 (.agg #[(.int .i64 0), (.int .i64 0), (.string ⟨#[]⟩)]) 32 rfl Try.underlying22 info37 rfl (by decide) (by omega) u6 x6_1 (⟨(rd_T37 l0 x8_1).f0, (rd_T37 l0 x8_1).f1, (rd_T37 l0 x8_1).f2⟩ : S37) [.int .i64 ((rd_T37 l0 x8_1).f0), .int .i64 ((rd_T37 l0 x8_1).f1), .string ((rd_T37 l0 x8_1).f2)] (fun k_ => k_ ≠ gb251) (fun _ => False) rfl rfl ?aP (fun _ hk => hk.elim) ?aF ?aO ?aB ?aS ?aL ?_; (case aP => exact k37_mkM _ _ _ (⟨(rd_T37 l0 x8_1).f0, (rd_T37 l0 x8_1).f1, (rd_T37 l0 x8_1).f2⟩ : S37)); (case aB => exact (by repeat (first | (with_reducible first | exact HB.out | apply below_alloc | apply pw_below_drewN | apply below_drew1 | refine below_set ?_ GE251.out) | exact HB.out))); (case aF => exact (fun k_ hk => Kd.freshB (g := gb251) (o := .cells #[.int .i64 a1_0, .int .i64 a1_1, .string a1_2] 37 (0, 0)) (by (with_reducible repeat (first | refine blk_drewN ?_ _ | refine blk_drew ?_ | refine blk_alloc ?_ _)); exact BK251.out) k_ hk)); (case aO => exact (by (with_reducible repeat (first | apply Kd.R_alloc | apply Kd.R_drewN | apply Kd.R_drew)); exact HO_6.out)); (case aS => exact (below_size (by repeat (first | (with_reducible first | exact HB.out | apply below_alloc | apply pw_below_drewN | apply below_drew1 | refine below_set ?_ GE251.out) | exact HB.out)))); (case aL => have := LMc18.out; omega); intro v270 w20 ho hb hg hat; rw [← Ny269.out] at ho; have n0_ := Aside0.mk (blk_grown (g := gb251) (o := .cells #[.int .i64 a1_0, .int .i64 a1_1, .string a1_2] 37 (0, 0)) (by (with_reducible repeat (first | refine blk_drewN ?_ _ | refine blk_drew ?_ | refine blk_alloc ?_ _)); exact BK251.out) hg (Kd.R_away HO_6.out (fun _ hk => hk))); have n1_ := Aside0.mk (hb); have n2_ := Aside0.mk (ho); clear BK251; clear HB; clear HO_6; have BK251 := n0_; have HB := n1_; have HO271 := n2_; clear n0_ n1_ n2_; clear ho hb hg hat))
        repeat (go_quiet (first | ((with_reducible refine gate_builtin (b := .append) (xs := #[.tmp 39, .tmp 44]) rfl ?_); at_builtin; refine Kd.R_append k37 (w0 := w) w.heap.size rfl (.tmp 39) (.tmp 44) 22 37 (.agg #[(.int .i64 0), (.int .i64 0), (.string ⟨#[]⟩)]) 32 rfl Try.underlying22 info37 rfl (by decide) (by omega) u6 x6_1 (⟨(rd_T37 l0 x8_1).f0, (rd_T37 l0 x8_1).f1, (rd_T37 l0 x8_1).f2⟩ : S37) [.int .i64 ((rd_T37 l0 x8_1).f0), .int .i64 ((rd_T37 l0 x8_1).f1), .string ((rd_T37 l0 x8_1).f2)] (fun k_ => k_ ≠ gb251) (fun _ => False) rfl rfl ?aP (fun _ hk => hk.elim) ?aF ?aO ?aB ?aS ?aL ?_; (case aP => exact k37_mkM _ _ _ (⟨(rd_T37 l0 x8_1).f0, (rd_T37 l0 x8_1).f1, (rd_T37 l0 x8_1).f2⟩ : S37)); (case aB => exact (by repeat (first | (with_reducible first | exact HB.out | apply below_alloc | apply pw_below_drewN | apply below_drew1 | refine below_set ?_ GE251.out) | exact HB.out))); (case aF => exact (fun k_ hk => Kd.freshB (g := gb251) (o := .cells #[.int .i64 a1_0, .int .i64 a1_1, .string a1_2] 37 (0, 0)) (by (with_reducible repeat (first | refine blk_drewN ?_ _ | refine blk_drew ?_ | refine blk_alloc ?_ _)); exact BK251.out) k_ hk)); (case aO => exact (by (with_reducible repeat (first | apply Kd.R_alloc | apply Kd.R_drewN | apply Kd.R_drew)); exact HO_6.out)); (case aS => exact (below_size (by repeat (first | (with_reducible first | exact HB.out | apply below_alloc | apply pw_below_drewN | apply below_drew1 | refine below_set ?_ GE251.out) | exact HB.out)))); (case aL => have := LMc18.out; omega); intro v270 w20 ho hb hg hat; rw [← Ny269.out] at ho; have n0_ := Aside0.mk (blk_grown (g := gb251) (o := .cells #[.int .i64 a1_0, .int .i64 a1_1, .string a1_2] 37 (0, 0)) (by (with_reducible repeat (first | refine blk_drewN ?_ _ | refine blk_drew ?_ | refine blk_alloc ?_ _)); exact BK251.out) hg (Kd.R_away HO_6.out (fun _ hk => hk))); have n1_ := Aside0.mk (hb); have n2_ := Aside0.mk (ho); clear BK251; clear HB; clear HO_6; have BK251 := n0_; have HB := n1_; have HO271 := n2_; clear n0_ n1_ n2_; clear ho hb hg hat)); try go_wp2_with (first | ((with_reducible refine gate_builtin (b := .append) (xs := #[.tmp 39, .tmp 44]) rfl ?_); at_builtin; refine Kd.R_append k37 (w0 := w) w.heap.size rfl (.tmp 39) (.tmp 44) 22 37 (.agg #[(.int .i64 0), (.int .i64 0), (.string ⟨#[]⟩)]) 32 rfl Try.underlying22 info37 rfl (by decide) (by omega) u6 x6_1 (⟨(rd_T37 l0 x8_1).f0, (rd_T37 l0 x8_1).f1, (rd_T37 l0 x8_1).f2⟩ : S37) [.int .i64 ((rd_T37 l0 x8_1).f0), .int .i64 ((rd_T37 l0 x8_1).f1), .string ((rd_T37 l0 x8_1).f2)] (fun k_ => k_ ≠ gb251) (fun _ => False) rfl rfl ?aP (fun _ hk => hk.elim) ?aF ?aO ?aB ?aS ?aL ?_; (case aP => exact k37_mkM _ _ _ (⟨(rd_T37 l0 x8_1).f0, (rd_T37 l0 x8_1).f1, (rd_T37 l0 x8_1).f2⟩ : S37)); (case aB => exact (by repeat (first | (with_reducible first | exact HB.out | apply below_alloc | apply pw_below_drewN | apply below_drew1 | refine below_set ?_ GE251.out) | exact HB.out))); (case aF => exact (fun k_ hk => Kd.freshB (g := gb251) (o := .cells #[.int .i64 a1_0, .int .i64 a1_1, .string a1_2] 37 (0, 0)) (by (with_reducible repeat (first | refine blk_drewN ?_ _ | refine blk_drew ?_ | refine blk_alloc ?_ _)); exact BK251.out) k_ hk)); (case aO => exact (by (with_reducible repeat (first | apply Kd.R_alloc | apply Kd.R_drewN | apply Kd.R_drew)); exact HO_6.out)); (case aS => exact (below_size (by repeat (first | (with_reducible first | exact HB.out | apply below_alloc | apply pw_below_drewN | apply below_drew1 | refine below_set ?_ GE251.out) | exact HB.out)))); (case aL => have := LMc18.out; omega); intro v270 w20 ho hb hg hat; rw [← Ny269.out] at ho; have n0_ := Aside0.mk (blk_grown (g := gb251) (o := .cells #[.int .i64 a1_0, .int .i64 a1_1, .string a1_2] 37 (0, 0)) (by (with_reducible repeat (first | refine blk_drewN ?_ _ | refine blk_drew ?_ | refine blk_alloc ?_ _)); exact BK251.out) hg (Kd.R_away HO_6.out (fun _ hk => hk))); have n1_ := Aside0.mk (hb); have n2_ := Aside0.mk (ho); clear BK251; clear HB; clear HO_6; have BK251 := n0_; have HB := n1_; have HO271 := n2_; clear n0_ n1_ n2_; clear ho hb hg hat)))
        go_roundg k1
        case measure => have := HK1.out; omega
        case rel => exact ⟨(y269), (x7_1), (wrap64 (x8_1 + 1)), (by first | rfl | (simp; done) | (simp [*]; done)), (by first | rfl | (simp; done) | (simp [*]; done)), H', ⟨by have := HK1.out; omega⟩, ⟨by (with_reducible repeat (first | apply Kd.R_alloc | apply Kd.R_drewN | apply Kd.R_drew)); exact HO271.out⟩, ⟨by (with_reducible repeat (first | refine blk_drewN ?_ _ | refine blk_drew ?_ | refine blk_alloc ?_ _)); exact BK251.out⟩, ⟨by repeat (first | (with_reducible first | exact HB.out | apply below_alloc | apply pw_below_drewN | apply below_drew1 | refine below_set ?_ GE251.out) | exact HB.out)⟩⟩
       ·rw [if_neg c18] at H
        exact absurd H (by simp)
    ·rw [if_neg c5] at H
     exact absurd H (by simp)
   ·rw [if_neg c4] at H
    have c4b0 : decide (x8_1 < (l0.length : Int)) = false := decide_eq_false c4
    clear c4
    by_cases c21 : x7_1 = true
    ·subst c21
     have H1 : (some (x6_1, true)) = some (r1, r2) := by rw [if_pos rfl] at H; exact H
     clear H
     have H := H1
     clear H1
     simp only [Option.some.injEq, Prod.mk.injEq] at H
     obtain ⟨rfl, rfl⟩ := H
     go_wp2
     repeat (go_quiet (fail); try go_wp2)
     go_ret2
     exact ⟨_, by first | rfl | (simp [errW_none, errW_some] <;> rfl) | (simp [*, errW_none, errW_some] <;> rfl), by (with_reducible repeat (first | apply Kd.R_alloc | apply Kd.R_drewN | apply Kd.R_drew)); exact Kd.R_mono HO_6.out (fun _ hk => trivial), by repeat (first | (with_reducible first | exact HB.out | apply below_alloc | apply pw_below_drewN | apply below_drew1 | refine below_set ?_ GE251.out) | exact HB.out)⟩
    ·replace c21 := Bool.eq_false_iff.mpr c21
     subst c21
     have H1 : (if x6_1.length < 4398046511104 then (some ((x6_1 ++ [(⟨a1_0, a1_1, a1_2⟩ : S37)]), true)) else (none)) = some (r1, r2) := by rw [if_neg (show ¬ (false = true) by decide)] at H; exact H
     clear H
     have H := H1
     clear H1
     by_cases c22 : x6_1.length < 4398046511104
     ·rw [if_pos c22] at H
      have LMc22 := Aside0.mk c22
      clear c22
      obtain ⟨y252, hy252⟩ : ∃ y_ : List (S37), y_ = (x6_1 ++ [(⟨a1_0, a1_1, a1_2⟩ : S37)]) := ⟨_, rfl⟩
      replace H : (some (y252, true)) = some (r1, r2) := by first | (rw [hy252]; with_reducible exact H) | (have H2_ := (Option.bind_some _ _).symm.trans H; rw [hy252]; with_reducible exact H2_) | (have H2_ := (Option.bind_some _ _).symm.trans H; with_reducible exact H2_) | with_reducible exact H | (rw [hy252]; exact H) | exact H
      have Ny252 := Aside0.mk hy252
      clear hy252
      simp only [Option.some.injEq, Prod.mk.injEq] at H
      obtain ⟨rfl, rfl⟩ := H
      have hcz23_0 : wr.cell? ⟨gb251, 0, none⟩ = some (.int .i64 a1_0) := (blk_cell BK251.out 0).trans rfl
      have hcz23_1 : wr.cell? ⟨gb251, 1, none⟩ = some (.int .i64 a1_1) := (blk_cell BK251.out 1).trans rfl
      have hcz23_2 : wr.cell? ⟨gb251, 2, none⟩ = some (.string a1_2) := (blk_cell BK251.out 2).trans rfl
      have hfz23_0 := blk_frozen BK251.out 0
      have hfz23_1 := blk_frozen BK251.out 1
      have hfz23_2 := blk_frozen BK251.out 2
      go_wp2_with (first | ((with_reducible refine gate_builtin (b := .append) (xs := #[.tmp 48, .tmp 50]) rfl ?_); at_builtin; refine Kd.R_append k37 (w0 := w) w.heap.size rfl (.tmp 48) (.tmp 50) 22 37 (.agg #[(.int .i64 0), (.int .i64 0), (.string ⟨#[]⟩)]) 32 rfl Try.underlying22 info37 rfl (by decide) (by omega) u6 x6_1 (⟨a1_0, a1_1, a1_2⟩ : S37) [.int .i64 a1_0, .int .i64 a1_1, .string a1_2] (fun k_ => k_ ≠ gb251) (fun _ => False) rfl rfl ?aP (fun _ hk => hk.elim) ?aF ?aO ?aB ?aS ?aL ?_; (case aP => exact k37_mkM _ _ _ (⟨a1_0, a1_1, a1_2⟩ : S37)); (case aB => exact (by repeat (first | (with_reducible first | exact HB.out | apply below_alloc | apply pw_below_drewN | apply below_drew1 | refine below_set ?_ GE251.out) | exact HB.out))); (case aF => exact (fun k_ hk => Kd.freshB (g := gb251) (o := .cells #[.int .i64 a1_0, .int .i64 a1_1, .string a1_2] 37 (0, 0)) (by (with_reducible repeat (first | refine blk_drewN ?_ _ | refine blk_drew ?_ | refine blk_alloc ?_ _)); exact BK251.out) k_ hk)); (case aO => exact (by (with_reducible repeat (first | apply Kd.R_alloc | apply Kd.R_drewN | apply Kd.R_drew)); exact HO_6.out)); (case aS => exact (below_size (by repeat (first | (with_reducible first | exact HB.out | apply below_alloc | apply pw_below_drewN | apply below_drew1 | refine below_set ?_ GE251.out) | exact HB.out)))); (case aL => have := LMc22.out; omega); intro v253 w24 ho hb hg hat; rw [← Ny252.out] at ho; have n0_ := Aside0.mk (blk_grown (g := gb251) (o := .cells #[.int .i64 a1_0, .int .i64 a1_1, .string a1_2] 37 (0, 0)) (by (with_reducible repeat (first | refine blk_drewN ?_ _ | refine blk_drew ?_ | refine blk_alloc ?_ _)); exact BK251.out) hg (Kd.R_away HO_6.out (fun _ hk => hk))); have n1_ := Aside0.mk (hb); have n2_ := Aside0.mk (ho); clear BK251; clear HB; clear HO_6; have BK251 := n0_; have HB := n1_; have HO254 := n2_; clear n0_ n1_ n2_; clear ho hb hg hat))
      repeat (go_quiet (first | ((with_reducible refine gate_builtin (b := .append) (xs := #[.tmp 48, .tmp 50]) rfl ?_); at_builtin; refine Kd.R_append k37 (w0 := w) w.heap.size rfl (.tmp 48) (.tmp 50) 22 37 (.agg #[(.int .i64 0), (.int .i64 0), (.string ⟨#[]⟩)]) 32 rfl Try.underlying22 info37 rfl (by decide) (by omega) u6 x6_1 (⟨a1_0, a1_1, a1_2⟩ : S37) [.int .i64 a1_0, .int .i64 a1_1, .string a1_2] (fun k_ => k_ ≠ gb251) (fun _ => False) rfl rfl ?aP (fun _ hk => hk.elim) ?aF ?aO ?aB ?aS ?aL ?_; (case aP => exact k37_mkM _ _ _ (⟨a1_0, a1_1, a1_2⟩ : S37)); (case aB => exact (by repeat (first | (with_reducible first | exact HB.out | apply below_alloc | apply pw_below_drewN | apply below_drew1 | refine below_set ?_ GE251.out) | exact HB.out))); (case aF => exact (fun k_ hk => Kd.freshB (g := gb251) (o := .cells #[.int .i64 a1_0, .int .i64 a1_1, .string a1_2] 37 (0, 0)) (by (with_reducible repeat (first | refine blk_drewN ?_ _ | refine blk_drew ?_ | refine blk_alloc ?_ _)); exact BK251.out) k_ hk)); (case aO => exact (by (with_reducible repeat (first | apply Kd.R_alloc | apply Kd.R_drewN | apply Kd.R_drew)); exact HO_6.out)); (case aS => exact (below_size (by repeat (first | (with_reducible first | exact HB.out | apply below_alloc | apply pw_below_drewN | apply below_drew1 | refine below_set ?_ GE251.out) | exact HB.out)))); (case aL => have := LMc22.out; omega); intro v253 w24 ho hb hg hat; rw [← Ny252.out] at ho; have n0_ := Aside0.mk (blk_grown (g := gb251) (o := .cells #[.int .i64 a1_0, .int .i64 a1_1, .string a1_2] 37 (0, 0)) (by (with_reducible repeat (first | refine blk_drewN ?_ _ | refine blk_drew ?_ | refine blk_alloc ?_ _)); exact BK251.out) hg (Kd.R_away HO_6.out (fun _ hk => hk))); have n1_ := Aside0.mk (hb); have n2_ := Aside0.mk (ho); clear BK251; clear HB; clear HO_6; have BK251 := n0_; have HB := n1_; have HO254 := n2_; clear n0_ n1_ n2_; clear ho hb hg hat)); try go_wp2_with (first | ((with_reducible refine gate_builtin (b := .append) (xs := #[.tmp 48, .tmp 50]) rfl ?_); at_builtin; refine Kd.R_append k37 (w0 := w) w.heap.size rfl (.tmp 48) (.tmp 50) 22 37 (.agg #[(.int .i64 0), (.int .i64 0), (.string ⟨#[]⟩)]) 32 rfl Try.underlying22 info37 rfl (by decide) (by omega) u6 x6_1 (⟨a1_0, a1_1, a1_2⟩ : S37) [.int .i64 a1_0, .int .i64 a1_1, .string a1_2] (fun k_ => k_ ≠ gb251) (fun _ => False) rfl rfl ?aP (fun _ hk => hk.elim) ?aF ?aO ?aB ?aS ?aL ?_; (case aP => exact k37_mkM _ _ _ (⟨a1_0, a1_1, a1_2⟩ : S37)); (case aB => exact (by repeat (first | (with_reducible first | exact HB.out | apply below_alloc | apply pw_below_drewN | apply below_drew1 | refine below_set ?_ GE251.out) | exact HB.out))); (case aF => exact (fun k_ hk => Kd.freshB (g := gb251) (o := .cells #[.int .i64 a1_0, .int .i64 a1_1, .string a1_2] 37 (0, 0)) (by (with_reducible repeat (first | refine blk_drewN ?_ _ | refine blk_drew ?_ | refine blk_alloc ?_ _)); exact BK251.out) k_ hk)); (case aO => exact (by (with_reducible repeat (first | apply Kd.R_alloc | apply Kd.R_drewN | apply Kd.R_drew)); exact HO_6.out)); (case aS => exact (below_size (by repeat (first | (with_reducible first | exact HB.out | apply below_alloc | apply pw_below_drewN | apply below_drew1 | refine below_set ?_ GE251.out) | exact HB.out)))); (case aL => have := LMc22.out; omega); intro v253 w24 ho hb hg hat; rw [← Ny252.out] at ho; have n0_ := Aside0.mk (blk_grown (g := gb251) (o := .cells #[.int .i64 a1_0, .int .i64 a1_1, .string a1_2] 37 (0, 0)) (by (with_reducible repeat (first | refine blk_drewN ?_ _ | refine blk_drew ?_ | refine blk_alloc ?_ _)); exact BK251.out) hg (Kd.R_away HO_6.out (fun _ hk => hk))); have n1_ := Aside0.mk (hb); have n2_ := Aside0.mk (ho); clear BK251; clear HB; clear HO_6; have BK251 := n0_; have HB := n1_; have HO254 := n2_; clear n0_ n1_ n2_; clear ho hb hg hat)))
      go_ret2
      exact ⟨_, by first | rfl | (simp [errW_none, errW_some] <;> rfl) | (simp [*, errW_none, errW_some] <;> rfl), by (with_reducible repeat (first | apply Kd.R_alloc | apply Kd.R_drewN | apply Kd.R_drew)); exact Kd.R_mono HO254.out (fun _ hk => trivial), by repeat (first | (with_reducible first | exact HB.out | apply below_alloc | apply pw_below_drewN | apply below_drew1 | refine below_set ?_ GE251.out) | exact HB.out)⟩
     ·rw [if_neg c22] at H
      exact absurd H (by simp)
end Go.Proofs.Ytjhpcfpccnfniaa.A
