import Derived.Test.YtnhgnejfagncpaaDoorLot2
import Derived.Test.YtnhgnejfagncpaaDoorLot10
namespace Go.Proofs.YtnhgnejfagncpaaDoor.E
open Go.RowKit Go.Proofs.YtnhgnejfagncpaaDoorW.PrintWords Go.Proofs.YtnhgnejfagncpaaDoorW.PrintLast Go.Proofs.YtnhgnejfagncpaaDoorW.PrintMore Go.Proofs.YtnhgnejfagncpaaDoor.H Go.Proofs.YtnhgnejfagncpaaDoor.A Go.Proofs.YtnhgnejfagncpaaDoor.B
attribute [local go_sem] max2_int min2_int max_two min_two max_three min_three max_four min_four   -- for this text's walks alone
set_option linter.unusedVariables false
set_option linter.unusedSimpArgs false
mutual
def erasureref01_Parse.j0 : Nat → ByteArray → Int → Bool → Bool → Int → Option (Int × Int × Int)
 | 0, _, _, _, _, _ => none
 | k + 1, x0, x5, x21, x118000, x118002 => if x21 = true then (if 0 < (x0.size : Int) then (erasureref01_Parse.j1 k x0 1 ((bt x0 0) == 45) x118002) else (none)) else (erasureref01_Parse.j1 k x0 x5 x118000 x118002)
def erasureref01_Parse.j1 : Nat → ByteArray → Int → Bool → Int → Option (Int × Int × Int)
 | 0, _, _, _, _ => none
 | k + 1, x0, x5, x118000, x118002 => erasureref01_Parse.l0 k x0 x5 ([] : List Int) false x118000 x118002
def erasureref01_Parse.l0 : Nat → ByteArray → Int → List Int → Bool → Bool → Int → Option (Int × Int × Int)
 | 0, _, _, _, _, _, _ => none
 | k + 1, x0, x5, x6, x7, x118000, x118002 => if x5 < (x0.size : Int) then (if 0 ≤ x5 then (if (bt x0 x5) = 46 then (erasureref01_Parse.j3 k x0 x5 x6 x7 (!x7) x118000 x118002) else (erasureref01_Parse.j3 k x0 x5 x6 x7 false x118000 x118002)) else (none)) else (if (x6.length : Int) = 0 then (erasureref01_Parse.j5 k x6 true x118000 x118002) else (erasureref01_Parse.j5 k x6 (decide ((x0.size : Int) > 40)) x118000 x118002))
def erasureref01_Parse.j3 : Nat → ByteArray → Int → List Int → Bool → Bool → Bool → Int → Option (Int × Int × Int)
 | 0, _, _, _, _, _, _, _ => none
 | k + 1, x0, x5, x6, x7, x39, x118000, x118002 => if x39 = true then (erasureref01_Parse.l0 k x0 (wrap64 (x5 + 1)) x6 true x118000 x118002) else (if 0 ≤ x5 then (if x5 < (x0.size : Int) then (if (bt x0 x5) < 48 then (erasureref01_Parse.j4 k x0 x5 x6 x7 true x118000 x118002) else (erasureref01_Parse.j4 k x0 x5 x6 x7 (decide ((bt x0 x5) > 57)) x118000 x118002)) else (none)) else (none))
def erasureref01_Parse.j4 : Nat → ByteArray → Int → List Int → Bool → Bool → Bool → Int → Option (Int × Int × Int)
 | 0, _, _, _, _, _, _, _ => none
 | k + 1, x0, x5, x6, x7, x49, x118000, x118002 => if x49 = true then (some (0, 0, 4)) else (if 0 ≤ x5 then (if x5 < (x0.size : Int) then (if x6.length < 17592186044416 then ((some (x6 ++ [((bt x0 x5) - 48) % 256] : List Int)).bind fun y118 => (if x7 = true then (erasureref01_Parse.l0 k x0 (wrap64 (x5 + 1)) y118 x7 x118000 (wrap64 (x118002 + 1))) else (erasureref01_Parse.l0 k x0 (wrap64 (x5 + 1)) y118 x7 x118000 x118002))) else (none)) else (none)) else (none))
def erasureref01_Parse.j5 : Nat → List Int → Bool → Bool → Int → Option (Int × Int × Int)
 | 0, _, _, _, _ => none
 | k + 1, x6, x71, x118000, x118002 => if x71 = true then (some (0, 0, 4)) else (erasureref01_Parse.l1 k x6 (wrap64 ((x6.length : Int) - 1)) x118000 ([] : List Int) x118002)
def erasureref01_Parse.l1 : Nat → List Int → Int → Bool → List Int → Int → Option (Int × Int × Int)
 | 0, _, _, _, _, _ => none
 | k + 1, x6, x8, x118000, x118001, x118002 => if x8 ≥ 0 then (if 0 ≤ x8 then (if x8 < (x6.length : Int) then (if x118001.length < 17592186044416 then (erasureref01_Parse.l1 k x6 (wrap64 (x8 - 1)) x118000 (x118001 ++ [rd x6 x8]) x118002) else (none)) else (none)) else (none)) else ((erasureref01_told.f k x118000 x118001 x118002).bind fun bt125 => (some (bt125.1, bt125.2.1, bt125.2.2)))
end
def erasureref01_Parse.f (k : Nat) (a0 : ByteArray) : Option (Int × Int × Int) := if a0.toList = ([] : List UInt8) then (erasureref01_Parse.j0 k a0 0 false false 0) else (if 0 < (a0.size : Int) then (if (bt a0 0) = 43 then (erasureref01_Parse.j0 k a0 0 true false 0) else (erasureref01_Parse.j0 k a0 0 ((bt a0 0) == 45) false 0)) else (none))
def erasureref01_Parse.T22 : Bool × List (List Nat × List Nat) := (true, [([], []), ([0], [0]), ([], []), ([], []), ([2, 3], [2, 3]), ([4], [4]), ([5], [5]), ([1, 6], [1, 6]), ([0, 1, 2, 3, 4, 5, 6, 7], []), ([8, 7, 7, 0, 1, 2, 3, 4, 5, 6, 7], [7, 8])])
def erasureref01_Parse.B22 : List Nat := [0, 1, 0, 0, 12, 28, 60, 127, 255, 511]
theorem erasureref01_Parse.tab22 : rtab .any (opsOf Tryd.f26 22) = erasureref01_Parse.T22 := by kernel_rfl
theorem erasureref01_Parse.bits22 : waitsOk erasureref01_Parse.T22.2 erasureref01_Parse.B22 = true := by kernel_rfl
theorem lf_E3_1 {p_ : Prop} (h_ : p_ := by
  go_wp2
  refine bodyPost_ret (results_ct rfl _ _ gb116 25 #[.int .i64 0, .int .i64 0] (0, 0) _ rfl (by (with_reducible repeat (first | refine blk_drewN ?_ _ | refine blk_drew ?_ | refine blk_alloc ?_ _)); refine blk_put (cs := #[.int .i64 0, .int .i64 x117001_3]) ?_ 1 _ rfl; (with_reducible repeat (first | refine blk_drewN ?_ _ | refine blk_drew ?_ | refine blk_alloc ?_ _)); refine blk_put (cs := #[.int .i64 x117000_3, .int .i64 x117001_3]) ?_ 0 _ rfl; (with_reducible repeat (first | refine blk_drewN ?_ _ | refine blk_drew ?_ | refine blk_alloc ?_ _)); exact BK116.out) Tryd.underlying25 rfl (by kernel_rfl)) rfl ?_
  exact ⟨ee_, bel⟩) : p_ := h_
set_option maxHeartbeats 8000000 in
set_option maxRecDepth 100000 in
theorem erasureref01_Parse.calls (k : Nat) (a0 : ByteArray) (r1 : Int) (r2 : Int) (r3 : Int) (w : World) (h : erasureref01_Parse.f k a0 = some (r1, r2, r3)) :
  Calls Tryd.prog 26 #[.string a0] w fun e w' => e = .returned (.tuple #[.agg #[.int .i64 r1, .int .i64 r2], .int .i64 r3]) ∧ Below w.heap.size w w' := by
 have hu25 := Tryd.underlying25
 have hu93 := Tryd.underlying93
 have HB := Aside0.mk (Below.refl w.heap.size w)
 have H : (if a0.toList = ([] : List UInt8) then (erasureref01_Parse.j0 k a0 0 false false 0) else (if 0 < (a0.size : Int) then (if (bt a0 0) = 43 then (erasureref01_Parse.j0 k a0 0 true false 0) else (erasureref01_Parse.j0 k a0 0 ((bt a0 0) == 45) false 0)) else (none))) = some (r1, r2, r3) := h
 clear h
 have HC2 := Aside0.mk H
 clear H
 go_enter Tryd.func26, Tryd.ntmps26
 go_upto_region 3 with (first | ((with_reducible refine gate_dst (N := 2) rfl ?_); (try (refine gate_guard (by rfl) ?_; dsimp only)); refine box_event ?hg (N := 2) ?hd (cs := #[.int .i64 0, .int .i64 0]) (t := 25) ?hr ?_; (case hd => rfl); (case hg => rfl); (case hr => first | (go_simp; done) | (go_simp; rfl)); intro gb116 hg w3 hbox hb; have n0_ := Aside0.mk (below_step bel hb); have n1_ := Aside0.mk (hbox); have n2_ := Aside0.mk ((by rw [hg]; exact (below_size bel) : w.heap.size ≤ gb116)); have n3_ := Aside0.mk ((by rw [hg]; exact (below_size bel) : w.heap.size ≤ gb116)); clear HB; have HB := n0_; have BK116 := n1_; have GW116 := n2_; have GE116 := n3_; clear n0_ n1_ n2_ n3_; clear hb hbox hg) | ((with_reducible refine gate_dst (N := 4) rfl ?_); (try (refine gate_guard (by rfl) ?_; dsimp only)); refine box_event ?hg (N := 4) ?hd (cs := #[.bool false, .slice none 0 0, .int .i64 0]) (t := 93) ?hr ?_; (case hd => rfl); (case hg => rfl); (case hr => first | (go_simp; done) | (go_simp; rfl)); intro gb117 hg w4 hbox hb; have n0_ := Aside0.mk (blk_below (bkk BK116.out) hb); have n1_ := Aside0.mk (below_step bel hb); have n2_ := Aside0.mk (hbox); have n3_ := Aside0.mk ((by rw [hg]; exact (below_size bel) : w.heap.size ≤ gb117)); have n4_ := Aside0.mk ((by rw [hg]; exact (below_size bel) : w.heap.size ≤ gb117)); have n5_ := Aside0.mk ((by rw [hg]; exact Nat.ne_of_lt (blk_lt (bkk BK116.out)) : gb116 ≠ gb117)); have n6_ := Aside0.mk ((by rw [hg]; exact Nat.ne_of_gt (blk_lt (bkk BK116.out)) : gb117 ≠ gb116)); clear BK116; clear HB; have BK116 := n0_; have HB := n1_; have BK117 := n2_; have GW117 := n3_; have GE117 := n4_; have NB116_117 := n5_; have NB117_116 := n6_; clear n0_ n1_ n2_ n3_ n4_ n5_ n6_; clear hb hbox hg; have hnb5 := NB117_116.out; have hnc5 := NB116_117.out; have hcz6_0 : w4.cell? ⟨gb117, 0, none⟩ = some (.bool false) := (blk_cell BK117.out 0).trans rfl; have hcz6_1 : w4.cell? ⟨gb117, 1, none⟩ = some (.slice none 0 0) := (blk_cell BK117.out 1).trans rfl; have hcz6_2 : w4.cell? ⟨gb117, 2, none⟩ = some (.int .i64 0) := (blk_cell BK117.out 2).trans rfl; have hfz6_0 := blk_frozen BK117.out 0; have hfz6_1 := blk_frozen BK117.out 1; have hfz6_2 := blk_frozen BK117.out 2))
 (try simp only [Act.put, List.setIfInBounds_toArray, List.set_cons_zero, List.set_cons_succ])
 go_cut [21] (fun v21 wc => ∃ (kq : Nat) (x21_1 : Bool), v21 = .bool x21_1 ∧ Aside0 (erasureref01_Parse.j0 kq a0 0 x21_1 false 0 = some (r1, r2, r3)) ∧ Aside0 (kq ≤ k) ∧ Aside0 (wc.heap[gb116]? = some (.cells #[.int .i64 0, .int .i64 0] 25 (0, 0))) ∧ Aside0 (wc.heap[gb117]? = some (.cells #[.bool false, (.slice none 0 0), .int .i64 0] 93 (0, 0))) ∧ Aside0 (Below w.heap.size w wc))
 case first =>
  have H := HC2.out
  clear HC2
  by_cases c7 : a0.toList = ([] : List UInt8)
  ·rw [if_pos c7] at H
   have c7b0 : (a0.toList == ([] : List UInt8)) = true := beq_iff_eq.mpr c7
   have c7b1 : (a0.toList != ([] : List UInt8)) = false := bne_eq_false_iff_eq.mpr c7
   clear c7
   (first | rw [c7b0] | (simp only [i64_w, i32_w]; rw [c7b0]) | skip)
   have H' := Aside0.mk H
   clear H
   go_wp2
   go_meet
   case rel => exact ⟨_, (false), ea_, H', ⟨by first | omega | exact Nat.le_refl _⟩, ⟨blks⟩, ⟨by (with_reducible repeat (first | refine blk_drewN ?_ _ | refine blk_drew ?_ | refine blk_alloc ?_ _)); refine blk_put (cs := #[.bool false, .slice none 0 0, .int .i64 0]) ?_ 2 _ rfl; (with_reducible repeat (first | refine blk_drewN ?_ _ | refine blk_drew ?_ | refine blk_alloc ?_ _)); refine blk_put (cs := #[.bool false, .slice none 0 0, .int .i64 0]) ?_ 1 _ rfl; (with_reducible repeat (first | refine blk_drewN ?_ _ | refine blk_drew ?_ | refine blk_alloc ?_ _)); refine blk_put (cs := #[.bool false, .slice none 0 0, .int .i64 0]) ?_ 0 _ rfl; (with_reducible repeat (first | refine blk_drewN ?_ _ | refine blk_drew ?_ | refine blk_alloc ?_ _)); exact BK117.out⟩, ⟨bel⟩⟩
  ·rw [if_neg c7] at H
   have c7b0 : (a0.toList == ([] : List UInt8)) = false := beq_eq_false_iff_ne.mpr c7
   have c7b1 : (a0.toList != ([] : List UInt8)) = true := bne_iff_ne.mpr c7
   (first | rw [c7b0] | (simp only [i64_w, i32_w]; rw [c7b0]) | skip)
   by_cases c8 : 0 < (a0.size : Int)
   ·rw [if_pos c8] at H
    have c8b0 : decide (0 < (a0.size : Int)) = true := decide_eq_true c8
    have c8b1 : decide (0 < a0.size) = true := decide_eq_true (by omega)
    clear c8
    by_cases c10 : (bt a0 0) = 43
    ·rw [if_pos c10] at H
     have c10b0 : ((bt a0 0) == 43) = true := beq_iff_eq.mpr c10
     have c10b1 : ((bt a0 0) != 43) = false := bne_eq_false_iff_eq.mpr c10
     clear c10
     have H' := Aside0.mk H
     clear H
     have p9 : 0 ≤ (0 : Int) := (by omega)
     have q9 : 0 < a0.size := (by have : (0 : Int) < (a0.size : Int) := of_decide_eq_true (by first | (with_reducible assumption) | assumption); omega)
     have hx9 : ∀ h : 0 < a0.size, ((a0[0]'h).toNat : Int) = bt a0 0 := bt_at a0 0
     clear p9
     have qi9 : (0 < (a0.size : Int)) = True := eq_true (of_decide_eq_true (by first | (with_reducible assumption) | assumption))
     replace q9 := eq_true q9
     go_wp2
     go_meet
     case rel => exact ⟨_, (true), ea_, H', ⟨by first | omega | exact Nat.le_refl _⟩, ⟨blks⟩, ⟨by (with_reducible repeat (first | refine blk_drewN ?_ _ | refine blk_drew ?_ | refine blk_alloc ?_ _)); refine blk_put (cs := #[.bool false, .slice none 0 0, .int .i64 0]) ?_ 2 _ rfl; (with_reducible repeat (first | refine blk_drewN ?_ _ | refine blk_drew ?_ | refine blk_alloc ?_ _)); refine blk_put (cs := #[.bool false, .slice none 0 0, .int .i64 0]) ?_ 1 _ rfl; (with_reducible repeat (first | refine blk_drewN ?_ _ | refine blk_drew ?_ | refine blk_alloc ?_ _)); refine blk_put (cs := #[.bool false, .slice none 0 0, .int .i64 0]) ?_ 0 _ rfl; (with_reducible repeat (first | refine blk_drewN ?_ _ | refine blk_drew ?_ | refine blk_alloc ?_ _)); exact BK117.out⟩, ⟨bel⟩⟩
    ·rw [if_neg c10] at H
     have c10b0 : ((bt a0 0) == 43) = false := beq_eq_false_iff_ne.mpr c10
     have c10b1 : ((bt a0 0) != 43) = true := bne_iff_ne.mpr c10
     have H' := Aside0.mk H
     clear H
     have p9 : 0 ≤ (0 : Int) := (by omega)
     have q9 : 0 < a0.size := (by have : (0 : Int) < (a0.size : Int) := of_decide_eq_true (by first | (with_reducible assumption) | assumption); omega)
     have hx9 : ∀ h : 0 < a0.size, ((a0[0]'h).toNat : Int) = bt a0 0 := bt_at a0 0
     clear p9
     have qi9 : (0 < (a0.size : Int)) = True := eq_true (of_decide_eq_true (by first | (with_reducible assumption) | assumption))
     replace q9 := eq_true q9
     have p11 : 0 ≤ (0 : Int) := (by omega)
     have q11 : 0 < a0.size := (by have : (0 : Int) < (a0.size : Int) := of_decide_eq_true (by first | (with_reducible assumption) | assumption); omega)
     have hx11 : ∀ h : 0 < a0.size, ((a0[0]'h).toNat : Int) = bt a0 0 := bt_at a0 0
     clear p11
     have qi11 : (0 < (a0.size : Int)) = True := eq_true (of_decide_eq_true (by first | (with_reducible assumption) | assumption))
     replace q11 := eq_true q11
     go_wp2
     go_meet
     case rel => exact ⟨_, (((bt a0 0) == 45)), ea_, H', ⟨by first | omega | exact Nat.le_refl _⟩, ⟨blks⟩, ⟨by (with_reducible repeat (first | refine blk_drewN ?_ _ | refine blk_drew ?_ | refine blk_alloc ?_ _)); refine blk_put (cs := #[.bool false, .slice none 0 0, .int .i64 0]) ?_ 2 _ rfl; (with_reducible repeat (first | refine blk_drewN ?_ _ | refine blk_drew ?_ | refine blk_alloc ?_ _)); refine blk_put (cs := #[.bool false, .slice none 0 0, .int .i64 0]) ?_ 1 _ rfl; (with_reducible repeat (first | refine blk_drewN ?_ _ | refine blk_drew ?_ | refine blk_alloc ?_ _)); refine blk_put (cs := #[.bool false, .slice none 0 0, .int .i64 0]) ?_ 0 _ rfl; (with_reducible repeat (first | refine blk_drewN ?_ _ | refine blk_drew ?_ | refine blk_alloc ?_ _)); exact BK117.out⟩, ⟨bel⟩⟩
   ·rw [if_neg c8] at H
    exact absurd H (by simp)
 case rest =>
  clear HC2
  try clear c1
  try clear p1
  try clear q1
  try clear hx1
  try clear qi1
  try clear c2
  try clear p2
  try clear c5
  try clear c7
  try clear c7b0
  try clear c7b1
  try clear c8
  try clear c8b0
  try clear c8b1
  try clear p9
  try clear q9
  try clear hx9
  try clear qi9
  try clear c10
  try clear c10b0
  try clear c10b1
  try clear p11
  try clear q11
  try clear hx11
  try clear qi11
  try clear hcz6_0
  try clear hcz6_1
  try clear hcz6_2
  try clear hfz6_0
  try clear hfz6_1
  try clear hfz6_2
  try clear p11
  try clear p9
  try clear q11
  try clear q9
  obtain ⟨kq, x21_1, rfl, HA, HJ1, BK116, BK117, HB⟩ := hcut
  cases kq with
  | zero => exact absurd HA.out (by simp [erasureref01_Parse.j0])
  | succ kj1 =>
   have H := HA.out
   clear HA
   simp only [erasureref01_Parse.j0] at H
   have HC12 := Aside0.mk H
   clear H
   go_upto_if 21 with (fail)
   go_cut [5] (fun v5 wc => ∃ (kq : Nat) (x5_11 : Int) (x118000_11 : Bool), v5 = .int .i64 x5_11 ∧ Aside0 (erasureref01_Parse.j1 kq a0 x5_11 x118000_11 0 = some (r1, r2, r3)) ∧ Aside0 (kq ≤ kj1) ∧ Aside0 (wc.heap[gb116]? = some (.cells #[.int .i64 0, .int .i64 0] 25 (0, 0))) ∧ Aside0 (wc.heap[gb117]? = some (.cells #[.bool x118000_11, (.slice none 0 0), .int .i64 0] 93 (0, 0))) ∧ Aside0 (Below w.heap.size w wc))
   case first =>
    have H := HC12.out
    clear HC12
    by_cases c13 : x21_1 = true
    ·subst c13
     have H1 : (if 0 < (a0.size : Int) then (erasureref01_Parse.j1 kj1 a0 1 ((bt a0 0) == 45) 0) else (none)) = some (r1, r2, r3) := by rw [if_pos rfl] at H; exact H
     clear H
     have H := H1
     clear H1
     by_cases c14 : 0 < (a0.size : Int)
     ·rw [if_pos c14] at H
      have c14b0 : decide (0 < (a0.size : Int)) = true := decide_eq_true c14
      have c14b1 : decide (0 < a0.size) = true := decide_eq_true (by omega)
      clear c14
      (first | rw [c14b0] | (simp only [i64_w, i32_w]; rw [c14b0]) | skip)
      have H' := Aside0.mk H
      clear H
      have p15 : 0 ≤ (0 : Int) := (by omega)
      have q15 : 0 < a0.size := (by have : (0 : Int) < (a0.size : Int) := of_decide_eq_true (by first | (with_reducible assumption) | assumption); omega)
      have hx15 : ∀ h : 0 < a0.size, ((a0[0]'h).toNat : Int) = bt a0 0 := bt_at a0 0
      clear p15
      have qi15 : (0 < (a0.size : Int)) = True := eq_true (of_decide_eq_true (by first | (with_reducible assumption) | assumption))
      replace q15 := eq_true q15
      have hnb16 := NB117_116.out
      have hnc16 := NB116_117.out
      have hcz17_0 : wc.cell? ⟨gb117, 0, none⟩ = some (.bool false) := (blk_cell BK117.out 0).trans rfl
      have hcz17_1 : wc.cell? ⟨gb117, 1, none⟩ = some (.slice none 0 0) := (blk_cell BK117.out 1).trans rfl
      have hcz17_2 : wc.cell? ⟨gb117, 2, none⟩ = some (.int .i64 0) := (blk_cell BK117.out 2).trans rfl
      have hfz17_0 := blk_frozen BK117.out 0
      have hfz17_1 := blk_frozen BK117.out 1
      have hfz17_2 := blk_frozen BK117.out 2
      go_wp2
      go_meet
      case rel => exact ⟨_, (1), (((bt a0 0) == 45)), ea_, H', ⟨by have := HJ1.out; first | omega | exact Nat.le_refl _⟩, ⟨blks⟩, ⟨by (with_reducible repeat (first | refine blk_drewN ?_ _ | refine blk_drew ?_ | refine blk_alloc ?_ _)); refine blk_put (cs := #[.bool false, .slice none 0 0, .int .i64 0]) ?_ 0 _ rfl; (with_reducible repeat (first | refine blk_drewN ?_ _ | refine blk_drew ?_ | refine blk_alloc ?_ _)); exact BK117.out⟩, ⟨bel⟩⟩
     ·rw [if_neg c14] at H
      exact absurd H (by simp)
    ·replace c13 := Bool.eq_false_iff.mpr c13
     subst c13
     have H1 : (erasureref01_Parse.j1 kj1 a0 0 false 0) = some (r1, r2, r3) := by rw [if_neg (show ¬ (false = true) by decide)] at H; exact H
     clear H
     have H := H1
     clear H1
     have H' := Aside0.mk H
     clear H
     go_wp2
     go_meet
     case rel => exact ⟨_, (0), (false), ea_, H', ⟨by have := HJ1.out; first | omega | exact Nat.le_refl _⟩, ⟨bkk BK116.out⟩, ⟨bkk BK117.out⟩, ⟨bel⟩⟩
   case rest =>
    clear HC12
    try clear c1
    try clear p1
    try clear q1
    try clear hx1
    try clear qi1
    try clear c2
    try clear p2
    try clear c5
    try clear c7
    try clear c7b0
    try clear c7b1
    try clear c8
    try clear c8b0
    try clear c8b1
    try clear p9
    try clear q9
    try clear hx9
    try clear qi9
    try clear c10
    try clear c10b0
    try clear c10b1
    try clear p11
    try clear q11
    try clear hx11
    try clear qi11
    try clear c13
    try clear c14
    try clear c14b0
    try clear c14b1
    try clear p15
    try clear q15
    try clear hx15
    try clear qi15
    try clear c16
    try clear hcz17_0
    try clear hcz17_1
    try clear hcz17_2
    try clear hcz6_0
    try clear hcz6_1
    try clear hcz6_2
    try clear hfz17_0
    try clear hfz17_1
    try clear hfz17_2
    try clear hfz6_0
    try clear hfz6_1
    try clear hfz6_2
    try clear p1
    try clear p11
    try clear p15
    try clear p2
    try clear p9
    try clear q1
    try clear q11
    try clear q15
    try clear q9
    obtain ⟨kq, x5_11, x118000_11, rfl, HA, HJ11, BK116, BK117, HB⟩ := hcut
    cases kq with
    | zero => exact absurd HA.out (by simp [erasureref01_Parse.j1])
    | succ kj11 =>
     have H := HA.out
     clear HA
     simp only [erasureref01_Parse.j1] at H
     have H' := Aside0.mk H
     clear H
     go_wp2
     go_loopg [5, 6, 7] kj11 (fun kq v5 v6 v7 w' => ∃ (x5_3 : Int) (x6_3 : List Int) (x7_3 : Bool) (x117000_3 : Int) (x117001_3 : Int) (x118002_3 : Int), v5 = .int .i64 x5_3 ∧ v7 = .bool x7_3 ∧ Aside0 (erasureref01_Parse.l0 kq a0 x5_3 x6_3 x7_3 x118000_11 x118002_3 = some (r1, r2, r3)) ∧ Aside0 (kq ≤ kj11) ∧ Aside0 (Kd.R (Kd.int .i64) 3 w' w.heap.size (fun _ => True) v6 x6_3) ∧ Aside0 (w'.heap[gb116]? = some (.cells #[.int .i64 x117000_3, .int .i64 x117001_3] 25 (0, 0))) ∧ Aside0 (w'.heap[gb117]? = some (.cells #[.bool x118000_11, (.slice none 0 0), .int .i64 x118002_3] 93 (0, 0))) ∧ Aside0 (Below w.heap.size w w'))
     case atStart => exact ⟨(x5_11), (([] : List Int)), (false), (0), (0), (0), ea_, ea_, H', ⟨Nat.le_refl _⟩, ⟨by first | exact Kd.R_nil _ _ _ _ _ | exact Kd.N_nil _ _ _ _ _ | exact Kd.V_nil _ _ _ _ _ | exact Kd.Q_nil _ _ _ _ _ | exact Kd.S_nil _ _ _ _ _⟩, ⟨bkk BK116.out⟩, ⟨bkk BK117.out⟩, ⟨bel⟩⟩
     case round =>
      clear H'
      try clear c1
      try clear p1
      try clear q1
      try clear hx1
      try clear qi1
      try clear c2
      try clear p2
      try clear c5
      try clear c7
      try clear c7b0
      try clear c7b1
      try clear c8
      try clear c8b0
      try clear c8b1
      try clear p9
      try clear q9
      try clear hx9
      try clear qi9
      try clear c10
      try clear c10b0
      try clear c10b1
      try clear p11
      try clear q11
      try clear hx11
      try clear qi11
      try clear c13
      try clear c14
      try clear c14b0
      try clear c14b1
      try clear p15
      try clear q15
      try clear hx15
      try clear qi15
      try clear c16
      try clear hcz17_0
      try clear hcz17_1
      try clear hcz17_2
      try clear hcz6_0
      try clear hcz6_1
      try clear hcz6_2
      try clear hfz17_0
      try clear hfz17_1
      try clear hfz17_2
      try clear hfz6_0
      try clear hfz6_1
      try clear hfz6_2
      try clear p1
      try clear p11
      try clear p15
      try clear p2
      try clear p9
      try clear q1
      try clear q11
      try clear q15
      try clear q9
      obtain ⟨x5_3, x6_3, x7_3, x117000_3, x117001_3, x118002_3, rfl, rfl, HA, HK3, HO_6, BK116, BK117, HB⟩ := hrel
      cases gk with
      | zero => exact absurd HA.out (by simp [erasureref01_Parse.l0])
      | succ k3 =>
       have H := HA.out
       clear HA
       simp only [erasureref01_Parse.l0] at H
       by_cases c18 : x5_3 < (a0.size : Int)
       ·rw [if_pos c18] at H
        have c18b0 : decide (x5_3 < (a0.size : Int)) = true := decide_eq_true c18
        clear c18
        have HC19 := Aside0.mk H
        clear H
        go_upto_region 10 with (fail)
        go_cut [39] (fun v39 wc => ∃ (kq : Nat) (x39_18 : Bool), v39 = .bool x39_18 ∧ Aside0 (erasureref01_Parse.j3 kq a0 x5_3 x6_3 x7_3 x39_18 x118000_11 x118002_3 = some (r1, r2, r3)) ∧ Aside0 (kq ≤ k3) ∧ Aside0 (Kd.R (Kd.int .i64) 3 wc w.heap.size (fun _ => True) u6 x6_3) ∧ Aside0 (wc.heap[gb116]? = some (.cells #[.int .i64 x117000_3, .int .i64 x117001_3] 25 (0, 0))) ∧ Aside0 (wc.heap[gb117]? = some (.cells #[.bool x118000_11, (.slice none 0 0), .int .i64 x118002_3] 93 (0, 0))) ∧ Aside0 (Below w.heap.size w wc))
        case first =>
         have H := HC19.out
         clear HC19
         by_cases c20 : 0 ≤ x5_3
         ·rw [if_pos c20] at H
          have c20b0 : decide (0 ≤ x5_3) = true := decide_eq_true c20
          clear c20
          (first | rw [c20b0] | (simp only [i64_w, i32_w]; rw [c20b0]) | skip)
          by_cases c22 : (bt a0 x5_3) = 46
          ·rw [if_pos c22] at H
           have c22b0 : ((bt a0 x5_3) == 46) = true := beq_iff_eq.mpr c22
           have c22b1 : ((bt a0 x5_3) != 46) = false := bne_eq_false_iff_eq.mpr c22
           clear c22
           have H' := Aside0.mk H
           clear H
           have p21 : 0 ≤ (x5_3 : Int) := of_decide_eq_true (by first | (with_reducible assumption) | assumption)
           have q21 : x5_3 < (a0.size : Int) := of_decide_eq_true (by first | (with_reducible assumption) | assumption)
           have hx21 := bt_at a0 x5_3
           replace p21 := eq_true p21
           replace q21 := eq_true q21
           go_wp2
           go_meet
           case rel => exact ⟨_, (!x7_3), ea_, H', ⟨by have := HJ1.out; have := HJ11.out; have := HK3.out; first | omega | exact Nat.le_refl _⟩, ⟨rkk HO_6.out⟩, ⟨bkk BK116.out⟩, ⟨bkk BK117.out⟩, ⟨bel⟩⟩
          ·rw [if_neg c22] at H
           have c22b0 : ((bt a0 x5_3) == 46) = false := beq_eq_false_iff_ne.mpr c22
           have c22b1 : ((bt a0 x5_3) != 46) = true := bne_iff_ne.mpr c22
           have H' := Aside0.mk H
           clear H
           have p21 : 0 ≤ (x5_3 : Int) := of_decide_eq_true (by first | (with_reducible assumption) | assumption)
           have q21 : x5_3 < (a0.size : Int) := of_decide_eq_true (by first | (with_reducible assumption) | assumption)
           have hx21 := bt_at a0 x5_3
           replace p21 := eq_true p21
           replace q21 := eq_true q21
           go_wp2
           go_meet
           case rel => exact ⟨_, (false), ea_, H', ⟨by have := HJ1.out; have := HJ11.out; have := HK3.out; first | omega | exact Nat.le_refl _⟩, ⟨rkk HO_6.out⟩, ⟨bkk BK116.out⟩, ⟨bkk BK117.out⟩, ⟨bel⟩⟩
         ·rw [if_neg c20] at H
          exact absurd H (by simp)
        case rest =>
         clear HC19
         try clear c1
         try clear p1
         try clear q1
         try clear hx1
         try clear qi1
         try clear c2
         try clear p2
         try clear q2
         try clear hx2
         try clear c5
         try clear c7
         try clear c7b0
         try clear c7b1
         try clear c8
         try clear c8b0
         try clear c8b1
         try clear p9
         try clear q9
         try clear hx9
         try clear qi9
         try clear c10
         try clear c10b0
         try clear c10b1
         try clear p11
         try clear q11
         try clear hx11
         try clear qi11
         try clear c13
         try clear c14
         try clear c14b0
         try clear c14b1
         try clear p15
         try clear q15
         try clear hx15
         try clear qi15
         try clear c16
         try clear c18
         try clear c18b0
         try clear c20
         try clear c20b0
         try clear p21
         try clear q21
         try clear hx21
         try clear c22
         try clear c22b0
         try clear c22b1
         try clear hcz17_0
         try clear hcz17_1
         try clear hcz17_2
         try clear hcz6_0
         try clear hcz6_1
         try clear hcz6_2
         try clear hfz17_0
         try clear hfz17_1
         try clear hfz17_2
         try clear hfz6_0
         try clear hfz6_1
         try clear hfz6_2
         try clear p1
         try clear p11
         try clear p15
         try clear p2
         try clear p21
         try clear p9
         try clear q1
         try clear q11
         try clear q15
         try clear q21
         try clear q9
         obtain ⟨kq, x39_18, rfl, HA, HJ18, HO_6, BK116, BK117, HB⟩ := hcut
         cases kq with
         | zero => exact absurd HA.out (by simp [erasureref01_Parse.j3])
         | succ kj18 =>
          have H := HA.out
          clear HA
          simp only [erasureref01_Parse.j3] at H
          by_cases c23 : x39_18 = true
          ·subst c23
           have H1 : (erasureref01_Parse.l0 kj18 a0 (wrap64 (x5_3 + 1)) x6_3 true x118000_11 x118002_3) = some (r1, r2, r3) := by rw [if_pos rfl] at H; exact H
           clear H
           have H := H1
           clear H1
           have H' := Aside0.mk H
           clear H
           go_wp2
           go_roundg kj18
           case measure => have := HJ1.out; have := HJ11.out; have := HK3.out; have := HJ18.out; omega
           case rel => exact ⟨(wrap64 (x5_3 + 1)), (x6_3), (true), (x117000_3), (x117001_3), (x118002_3), ea_, ea_, H', ⟨by have := HJ1.out; have := HJ11.out; have := HK3.out; have := HJ18.out; omega⟩, ⟨rkk HO_6.out⟩, ⟨bkk BK116.out⟩, ⟨bkk BK117.out⟩, ⟨bel⟩⟩
          ·replace c23 := Bool.eq_false_iff.mpr c23
           subst c23
           have H1 : (if 0 ≤ x5_3 then (if x5_3 < (a0.size : Int) then (if (bt a0 x5_3) < 48 then (erasureref01_Parse.j4 kj18 a0 x5_3 x6_3 x7_3 true x118000_11 x118002_3) else (erasureref01_Parse.j4 kj18 a0 x5_3 x6_3 x7_3 (decide ((bt a0 x5_3) > 57)) x118000_11 x118002_3)) else (none)) else (none)) = some (r1, r2, r3) := by rw [if_neg (show ¬ (false = true) by decide)] at H; exact H
           clear H
           have H := H1
           clear H1
           have HC24 := Aside0.mk H
           clear H
           go_upto_region 12 with (fail)
           go_cut [49] (fun v49 wc => ∃ (kq : Nat) (x49_23 : Bool), v49 = .bool x49_23 ∧ Aside0 (erasureref01_Parse.j4 kq a0 x5_3 x6_3 x7_3 x49_23 x118000_11 x118002_3 = some (r1, r2, r3)) ∧ Aside0 (kq ≤ kj18) ∧ Aside0 (Kd.R (Kd.int .i64) 3 wc w.heap.size (fun _ => True) u6 x6_3) ∧ Aside0 (wc.heap[gb116]? = some (.cells #[.int .i64 x117000_3, .int .i64 x117001_3] 25 (0, 0))) ∧ Aside0 (wc.heap[gb117]? = some (.cells #[.bool x118000_11, (.slice none 0 0), .int .i64 x118002_3] 93 (0, 0))) ∧ Aside0 (Below w.heap.size w wc))
           case first =>
            have H := HC24.out
            clear HC24
            by_cases c25 : 0 ≤ x5_3
            ·rw [if_pos c25] at H
             have c25b0 : decide (0 ≤ x5_3) = true := decide_eq_true c25
             clear c25
             (first | rw [c25b0] | (simp only [i64_w, i32_w]; rw [c25b0]) | skip)
             by_cases c26 : x5_3 < (a0.size : Int)
             ·rw [if_pos c26] at H
              have c26b0 : decide (x5_3 < (a0.size : Int)) = true := decide_eq_true c26
              clear c26
              by_cases c28 : (bt a0 x5_3) < 48
              ·rw [if_pos c28] at H
               have c28b0 : decide ((bt a0 x5_3) < 48) = true := decide_eq_true c28
               clear c28
               have H' := Aside0.mk H
               clear H
               have p27 : 0 ≤ (x5_3 : Int) := of_decide_eq_true (by first | (with_reducible assumption) | assumption)
               have q27 : x5_3 < (a0.size : Int) := of_decide_eq_true (by first | (with_reducible assumption) | assumption)
               have hx27 := bt_at a0 x5_3
               replace p27 := eq_true p27
               replace q27 := eq_true q27
               go_wp2
               go_meet
               case rel => exact ⟨_, (true), ea_, H', ⟨by have := HJ1.out; have := HJ11.out; have := HK3.out; have := HJ18.out; first | omega | exact Nat.le_refl _⟩, ⟨rkk HO_6.out⟩, ⟨bkk BK116.out⟩, ⟨bkk BK117.out⟩, ⟨bel⟩⟩
              ·rw [if_neg c28] at H
               have c28b0 : decide ((bt a0 x5_3) < 48) = false := decide_eq_false c28
               clear c28
               have H' := Aside0.mk H
               clear H
               have p27 : 0 ≤ (x5_3 : Int) := of_decide_eq_true (by first | (with_reducible assumption) | assumption)
               have q27 : x5_3 < (a0.size : Int) := of_decide_eq_true (by first | (with_reducible assumption) | assumption)
               have hx27 := bt_at a0 x5_3
               replace p27 := eq_true p27
               replace q27 := eq_true q27
               have p29 : 0 ≤ (x5_3 : Int) := of_decide_eq_true (by first | (with_reducible assumption) | assumption)
               have q29 : x5_3 < (a0.size : Int) := of_decide_eq_true (by first | (with_reducible assumption) | assumption)
               have hx29 := bt_at a0 x5_3
               replace p29 := eq_true p29
               replace q29 := eq_true q29
               go_wp2
               go_meet
               case rel => exact ⟨_, (decide ((bt a0 x5_3) > 57)), ea_, H', ⟨by have := HJ1.out; have := HJ11.out; have := HK3.out; have := HJ18.out; first | omega | exact Nat.le_refl _⟩, ⟨rkk HO_6.out⟩, ⟨bkk BK116.out⟩, ⟨bkk BK117.out⟩, ⟨bel⟩⟩
             ·rw [if_neg c26] at H
              exact absurd H (by simp)
            ·rw [if_neg c25] at H
             exact absurd H (by simp)
           case rest =>
            clear HC24
            try clear c1
            try clear p1
            try clear q1
            try clear hx1
            try clear qi1
            try clear c2
            try clear p2
            try clear q2
            try clear hx2
            try clear c5
            try clear p6
            try clear c7
            try clear c7b0
            try clear c7b1
            try clear c8
            try clear c8b0
            try clear c8b1
            try clear p9
            try clear q9
            try clear hx9
            try clear qi9
            try clear c10
            try clear c10b0
            try clear c10b1
            try clear p11
            try clear q11
            try clear hx11
            try clear qi11
            try clear c13
            try clear c14
            try clear c14b0
            try clear c14b1
            try clear p15
            try clear q15
            try clear hx15
            try clear qi15
            try clear c16
            try clear c18
            try clear c18b0
            try clear c20
            try clear c20b0
            try clear p21
            try clear q21
            try clear hx21
            try clear c22
            try clear c22b0
            try clear c22b1
            try clear c23
            try clear c25
            try clear c25b0
            try clear c26
            try clear c26b0
            try clear p27
            try clear q27
            try clear hx27
            try clear c28
            try clear c28b0
            try clear p29
            try clear q29
            try clear hx29
            try clear hcz17_0
            try clear hcz17_1
            try clear hcz17_2
            try clear hcz6_0
            try clear hcz6_1
            try clear hcz6_2
            try clear hfz17_0
            try clear hfz17_1
            try clear hfz17_2
            try clear hfz6_0
            try clear hfz6_1
            try clear hfz6_2
            try clear p1
            try clear p11
            try clear p15
            try clear p2
            try clear p21
            try clear p27
            try clear p29
            try clear p9
            try clear q1
            try clear q11
            try clear q15
            try clear q2
            try clear q21
            try clear q27
            try clear q29
            try clear q9
            obtain ⟨kq, x49_23, rfl, HA, HJ23, HO_6, BK116, BK117, HB⟩ := hcut
            cases kq with
            | zero => exact absurd HA.out (by simp [erasureref01_Parse.j4])
            | succ kj23 =>
             have H := HA.out
             clear HA
             simp only [erasureref01_Parse.j4] at H
             by_cases c30 : x49_23 = true
             ·subst c30
              have H1 : (some (0, 0, 4)) = some (r1, r2, r3) := by rw [if_pos rfl] at H; exact H
              clear H
              have H := H1
              clear H1
              simp only [Option.some.injEq, Prod.mk.injEq] at H
              obtain ⟨rfl, rfl, rfl⟩ := H
              have hnbq0 := NB116_117.out
              have hncq0 := NB117_116.out
              have hcz32_0 : wc.cell? ⟨gb116, 0, none⟩ = some (.int .i64 x117000_3) := (blk_cell BK116.out 0).trans rfl
              have hcz32_1 : wc.cell? ⟨gb116, 1, none⟩ = some (.int .i64 x117001_3) := (blk_cell BK116.out 1).trans rfl
              have hfz32_0 := blk_frozen BK116.out 0
              have hfz32_1 := blk_frozen BK116.out 1
              exact lf_E3_1
             ·replace c30 := Bool.eq_false_iff.mpr c30
              subst c30
              have H1 : (if 0 ≤ x5_3 then (if x5_3 < (a0.size : Int) then (if x6_3.length < 17592186044416 then ((some (x6_3 ++ [((bt a0 x5_3) - 48) % 256] : List Int)).bind fun y118 => (if x7_3 = true then (erasureref01_Parse.l0 kj23 a0 (wrap64 (x5_3 + 1)) y118 x7_3 x118000_11 (wrap64 (x118002_3 + 1))) else (erasureref01_Parse.l0 kj23 a0 (wrap64 (x5_3 + 1)) y118 x7_3 x118000_11 x118002_3))) else (none)) else (none)) else (none)) = some (r1, r2, r3) := by rw [if_neg (show ¬ (false = true) by decide)] at H; exact H
              clear H
              have H := H1
              clear H1
              by_cases c33 : 0 ≤ x5_3
              ·rw [if_pos c33] at H
               have c33b0 : decide (0 ≤ x5_3) = true := decide_eq_true c33
               clear c33
               by_cases c34 : x5_3 < (a0.size : Int)
               ·rw [if_pos c34] at H
                have c34b0 : decide (x5_3 < (a0.size : Int)) = true := decide_eq_true c34
                clear c34
                by_cases c36 : x6_3.length < 17592186044416
                ·rw [if_pos c36] at H
                 have LMc36 := Aside0.mk c36
                 clear c36
                 obtain ⟨y118, hy118⟩ : ∃ y_ : List Int, y_ = (x6_3 ++ [((bt a0 x5_3) - 48) % 256]) := ⟨_, rfl⟩
                 replace H : (if x7_3 = true then (erasureref01_Parse.l0 kj23 a0 (wrap64 (x5_3 + 1)) y118 x7_3 x118000_11 (wrap64 (x118002_3 + 1))) else (erasureref01_Parse.l0 kj23 a0 (wrap64 (x5_3 + 1)) y118 x7_3 x118000_11 x118002_3)) = some (r1, r2, r3) := by first | (rw [hy118]; with_reducible exact H) | (have H2_ := (Option.bind_some _ _).symm.trans H; rw [hy118]; with_reducible exact H2_) | (have H2_ := (Option.bind_some _ _).symm.trans H; with_reducible exact H2_) | with_reducible exact H | (rw [hy118]; exact H) | exact H
                 have Ny118 := Aside0.mk hy118
                 clear hy118
                 by_cases c37 : x7_3 = true
                 ·subst c37
                  have H1 : (erasureref01_Parse.l0 kj23 a0 (wrap64 (x5_3 + 1)) y118 true x118000_11 (wrap64 (x118002_3 + 1))) = some (r1, r2, r3) := by rw [if_pos rfl] at H; exact H
                  clear H
                  have H := H1
                  clear H1
                  have H' := Aside0.mk H
                  clear H
                  have p35 : 0 ≤ (x5_3 : Int) := of_decide_eq_true (by first | (with_reducible assumption) | assumption)
                  have q35 : x5_3 < (a0.size : Int) := of_decide_eq_true (by first | (with_reducible assumption) | assumption)
                  have hx35 := bt_at a0 x5_3
                  replace p35 := eq_true p35
                  replace q35 := eq_true q35
                  go_wp2_with (first | ((with_reducible refine gate_builtin (b := .append) (xs := #[.tmp 51, .tmp 57]) rfl ?_); (try (refine gate_guard (by rfl) ?_; dsimp only)); at_builtin; refine Kd.R_append (Kd.int .i64) (w0 := w) w.heap.size rfl (.tmp 51) (.tmp 57) 90 3 (.int .i64 0) 8 rfl Tryd.underlying90 info3 rfl (by decide) (by omega) u6 x6_3 (((bt a0 x5_3) - 48) % 256) [.int .i64 (((bt a0 x5_3) - 48) % 256)] (fun _ => True) (fun _ => False) rfl rfl ?aP (fun _ hk => hk.elim) ?aF ?aO ?aB ?aS ?aL ?_; (case aP => exact rfl); (case aB => exact bel); (case aF => exact (fun _ _ => trivial)); (case aO => exact (rkk HO_6.out)); (case aS => exact (below_size bel)); (case aL => have := LMc36.out; omega); intro v119 w38 ho hb hg hat; rw [← Ny118.out] at ho; have n0_ := Aside0.mk (blk_grown (bkk BK116.out) hg (Kd.R_ne HO_6.out BK116.out (by decide))); have n1_ := Aside0.mk (blk_grown (bkk BK117.out) hg (Kd.R_ne HO_6.out BK117.out (by decide))); have n2_ := Aside0.mk (hb); have n3_ := Aside0.mk (ho); clear BK116; clear BK117; clear HB; clear HO_6; have BK116 := n0_; have BK117 := n1_; have HB := n2_; have HO120 := n3_; clear n0_ n1_ n2_ n3_; clear ho hb hg hat; have hnb39 := NB117_116.out; have hnc39 := NB116_117.out; have hcz40_0 : w38.cell? ⟨gb117, 0, none⟩ = some (.bool x118000_11) := (blk_cell BK117.out 0).trans rfl; have hcz40_1 : w38.cell? ⟨gb117, 1, none⟩ = some (.slice none 0 0) := (blk_cell BK117.out 1).trans rfl; have hcz40_2 : w38.cell? ⟨gb117, 2, none⟩ = some (.int .i64 x118002_3) := (blk_cell BK117.out 2).trans rfl; have hfz40_0 := blk_frozen BK117.out 0; have hfz40_1 := blk_frozen BK117.out 1; have hfz40_2 := blk_frozen BK117.out 2))
                  go_roundg kj23
                  case measure => have := HJ1.out; have := HJ11.out; have := HK3.out; have := HJ18.out; have := HJ23.out; omega
                  case rel => exact ⟨(wrap64 (x5_3 + 1)), (y118), (true), (x117000_3), (x117001_3), (wrap64 (x118002_3 + 1)), ea_, ea_, H', ⟨by have := HJ1.out; have := HJ11.out; have := HK3.out; have := HJ18.out; have := HJ23.out; omega⟩, ⟨by (with_reducible repeat (first | apply Kd.R_alloc | apply Kd.R_drewN | apply Kd.R_drew)); exact Kd.R_mono (Kd.R_far (p := ⟨gb117, 2, none⟩) (Kd.R_types HO120.out BK117.out (by decide)) (fun _ hk => hk.2) (.int .i64 (wrap64 (x118002_3 + 1)))) (fun _ hk => trivial)⟩, ⟨blks⟩, ⟨by (with_reducible repeat (first | refine blk_drewN ?_ _ | refine blk_drew ?_ | refine blk_alloc ?_ _)); refine blk_put (cs := #[.bool x118000_11, .slice none 0 0, .int .i64 x118002_3]) ?_ 2 _ rfl; (with_reducible repeat (first | refine blk_drewN ?_ _ | refine blk_drew ?_ | refine blk_alloc ?_ _)); exact BK117.out⟩, ⟨bel⟩⟩
                 ·replace c37 := Bool.eq_false_iff.mpr c37
                  subst c37
                  have H1 : (erasureref01_Parse.l0 kj23 a0 (wrap64 (x5_3 + 1)) y118 false x118000_11 x118002_3) = some (r1, r2, r3) := by rw [if_neg (show ¬ (false = true) by decide)] at H; exact H
                  clear H
                  have H := H1
                  clear H1
                  have H' := Aside0.mk H
                  clear H
                  have p35 : 0 ≤ (x5_3 : Int) := of_decide_eq_true (by first | (with_reducible assumption) | assumption)
                  have q35 : x5_3 < (a0.size : Int) := of_decide_eq_true (by first | (with_reducible assumption) | assumption)
                  have hx35 := bt_at a0 x5_3
                  replace p35 := eq_true p35
                  replace q35 := eq_true q35
                  go_wp2_with (first | ((with_reducible refine gate_builtin (b := .append) (xs := #[.tmp 51, .tmp 57]) rfl ?_); (try (refine gate_guard (by rfl) ?_; dsimp only)); at_builtin; refine Kd.R_append (Kd.int .i64) (w0 := w) w.heap.size rfl (.tmp 51) (.tmp 57) 90 3 (.int .i64 0) 8 rfl Tryd.underlying90 info3 rfl (by decide) (by omega) u6 x6_3 (((bt a0 x5_3) - 48) % 256) [.int .i64 (((bt a0 x5_3) - 48) % 256)] (fun _ => True) (fun _ => False) rfl rfl ?aP (fun _ hk => hk.elim) ?aF ?aO ?aB ?aS ?aL ?_; (case aP => exact rfl); (case aB => exact bel); (case aF => exact (fun _ _ => trivial)); (case aO => exact (rkk HO_6.out)); (case aS => exact (below_size bel)); (case aL => have := LMc36.out; omega); intro v119 w41 ho hb hg hat; rw [← Ny118.out] at ho; have n0_ := Aside0.mk (blk_grown (bkk BK116.out) hg (Kd.R_ne HO_6.out BK116.out (by decide))); have n1_ := Aside0.mk (blk_grown (bkk BK117.out) hg (Kd.R_ne HO_6.out BK117.out (by decide))); have n2_ := Aside0.mk (hb); have n3_ := Aside0.mk (ho); clear BK116; clear BK117; clear HB; clear HO_6; have BK116 := n0_; have BK117 := n1_; have HB := n2_; have HO120 := n3_; clear n0_ n1_ n2_ n3_; clear ho hb hg hat))
                  go_roundg kj23
                  case measure => have := HJ1.out; have := HJ11.out; have := HK3.out; have := HJ18.out; have := HJ23.out; omega
                  case rel => exact ⟨(wrap64 (x5_3 + 1)), (y118), (false), (x117000_3), (x117001_3), (x118002_3), ea_, ea_, H', ⟨by have := HJ1.out; have := HJ11.out; have := HK3.out; have := HJ18.out; have := HJ23.out; omega⟩, ⟨rkk HO120.out⟩, ⟨bkk BK116.out⟩, ⟨bkk BK117.out⟩, ⟨bel⟩⟩
                ·rw [if_neg c36] at H
                 exact absurd H (by simp)
               ·rw [if_neg c34] at H
                exact absurd H (by simp)
              ·rw [if_neg c33] at H
               exact absurd H (by simp)
       ·rw [if_neg c18] at H
        have c18b0 : decide (x5_3 < (a0.size : Int)) = false := decide_eq_false c18
        clear c18
        have HC42 := Aside0.mk H
        clear H
        go_upto_region 17 with (fail)
        go_cut [71] (fun v71 wc => ∃ (kq : Nat) (x71_41 : Bool), v71 = .bool x71_41 ∧ Aside0 (erasureref01_Parse.j5 kq x6_3 x71_41 x118000_11 x118002_3 = some (r1, r2, r3)) ∧ Aside0 (kq ≤ k3) ∧ Aside0 (Kd.R (Kd.int .i64) 3 wc w.heap.size (fun _ => True) u6 x6_3) ∧ Aside0 (wc.heap[gb116]? = some (.cells #[.int .i64 x117000_3, .int .i64 x117001_3] 25 (0, 0))) ∧ Aside0 (wc.heap[gb117]? = some (.cells #[.bool x118000_11, (.slice none 0 0), .int .i64 x118002_3] 93 (0, 0))) ∧ Aside0 (Below w.heap.size w wc))
        case first =>
         have H := HC42.out
         clear HC42
         by_cases c43 : (x6_3.length : Int) = 0
         ·rw [if_pos c43] at H
          have c43b0 : ((x6_3.length : Int) == 0) = true := beq_iff_eq.mpr c43
          have c43b1 : ((x6_3.length : Int) != 0) = false := bne_eq_false_iff_eq.mpr c43
          clear c43
          (first | rw [c43b0] | (simp only [i64_w, i32_w]; rw [c43b0]) | skip)
          have H' := Aside0.mk H
          clear H
          obtain ⟨Ao44, co44, eo44⟩ := Kd.R_slice HO_6.out
          subst eo44
          go_wp2
          go_meet
          case rel => exact ⟨_, (true), ea_, H', ⟨by have := HJ1.out; have := HJ11.out; have := HK3.out; first | omega | exact Nat.le_refl _⟩, ⟨rkk HO_6.out⟩, ⟨bkk BK116.out⟩, ⟨bkk BK117.out⟩, ⟨bel⟩⟩
         ·rw [if_neg c43] at H
          have c43b0 : ((x6_3.length : Int) == 0) = false := beq_eq_false_iff_ne.mpr c43
          have c43b1 : ((x6_3.length : Int) != 0) = true := bne_iff_ne.mpr c43
          have c43b2 : ¬ (x6_3 = []) := fun h_ => c43 (by rw [h_]; rfl)
          (first | rw [c43b0] | (simp only [i64_w, i32_w]; rw [c43b0]) | skip)
          have H' := Aside0.mk H
          clear H
          obtain ⟨Ao45, co45, eo45⟩ := Kd.R_slice HO_6.out
          subst eo45
          go_wp2
          go_meet
          case rel => exact ⟨_, (decide ((a0.size : Int) > 40)), ea_, H', ⟨by have := HJ1.out; have := HJ11.out; have := HK3.out; first | omega | exact Nat.le_refl _⟩, ⟨rkk HO_6.out⟩, ⟨bkk BK116.out⟩, ⟨bkk BK117.out⟩, ⟨bel⟩⟩
        case rest =>
         clear HC42
         try clear c1
         try clear p1
         try clear q1
         try clear hx1
         try clear qi1
         try clear c2
         try clear p2
         try clear q2
         try clear hx2
         try clear c3
         try clear p3
         try clear q3
         try clear hx3
         try clear c4
         try clear c5
         try clear p6
         try clear c7
         try clear c7b0
         try clear c7b1
         try clear c8
         try clear c8b0
         try clear c8b1
         try clear p9
         try clear q9
         try clear hx9
         try clear qi9
         try clear c10
         try clear c10b0
         try clear c10b1
         try clear p11
         try clear q11
         try clear hx11
         try clear qi11
         try clear c13
         try clear c14
         try clear c14b0
         try clear c14b1
         try clear p15
         try clear q15
         try clear hx15
         try clear qi15
         try clear c16
         try clear c18
         try clear c18b0
         try clear c20
         try clear c20b0
         try clear p21
         try clear q21
         try clear hx21
         try clear c22
         try clear c22b0
         try clear c22b1
         try clear c23
         try clear c25
         try clear c25b0
         try clear c26
         try clear c26b0
         try clear p27
         try clear q27
         try clear hx27
         try clear c28
         try clear c28b0
         try clear p29
         try clear q29
         try clear hx29
         try clear c30
         try clear c31
         try clear c33
         try clear c33b0
         try clear c34
         try clear c34b0
         try clear p35
         try clear q35
         try clear hx35
         try clear c36
         try clear c37
         try clear c39
         try clear c43
         try clear c43b0
         try clear c43b1
         try clear c43b2
         try clear hcz17_0
         try clear hcz17_1
         try clear hcz17_2
         try clear hcz32_0
         try clear hcz32_1
         try clear hcz40_0
         try clear hcz40_1
         try clear hcz40_2
         try clear hcz6_0
         try clear hcz6_1
         try clear hcz6_2
         try clear hfz17_0
         try clear hfz17_1
         try clear hfz17_2
         try clear hfz32_0
         try clear hfz32_1
         try clear hfz40_0
         try clear hfz40_1
         try clear hfz40_2
         try clear hfz6_0
         try clear hfz6_1
         try clear hfz6_2
         try clear p1
         try clear p11
         try clear p15
         try clear p2
         try clear p21
         try clear p27
         try clear p29
         try clear p35
         try clear p6
         try clear p9
         try clear q1
         try clear q11
         try clear q15
         try clear q2
         try clear q21
         try clear q27
         try clear q29
         try clear q35
         try clear q9
         obtain ⟨kq, x71_41, rfl, HA, HJ41, HO_6, BK116, BK117, HB⟩ := hcut
         cases kq with
         | zero => exact absurd HA.out (by simp [erasureref01_Parse.j5])
         | succ kj41 =>
          have H := HA.out
          clear HA
          simp only [erasureref01_Parse.j5] at H
          by_cases c46 : x71_41 = true
          ·subst c46
           have H1 : (some (0, 0, 4)) = some (r1, r2, r3) := by rw [if_pos rfl] at H; exact H
           clear H
           have H := H1
           clear H1
           simp only [Option.some.injEq, Prod.mk.injEq] at H
           obtain ⟨rfl, rfl, rfl⟩ := H
           have hnbq0 := NB116_117.out
           have hncq0 := NB117_116.out
           have hcz48_0 : wc.cell? ⟨gb116, 0, none⟩ = some (.int .i64 x117000_3) := (blk_cell BK116.out 0).trans rfl
           have hcz48_1 : wc.cell? ⟨gb116, 1, none⟩ = some (.int .i64 x117001_3) := (blk_cell BK116.out 1).trans rfl
           have hfz48_0 := blk_frozen BK116.out 0
           have hfz48_1 := blk_frozen BK116.out 1
           exact lf_E3_1
          ·replace c46 := Bool.eq_false_iff.mpr c46
           subst c46
           have H1 : (erasureref01_Parse.l1 kj41 x6_3 (wrap64 ((x6_3.length : Int) - 1)) x118000_11 ([] : List Int) x118002_3) = some (r1, r2, r3) := by rw [if_neg (show ¬ (false = true) by decide)] at H; exact H
           clear H
           have H := H1
           clear H1
           have H' := Aside0.mk H
           clear H
           obtain ⟨Ao49, co49, eo49⟩ := Kd.R_slice HO_6.out
           subst eo49
           go_wp2
           go_loopg [8] kj41 (fun kq v8 w' => ∃ (x8_5 : Int) (x118001_5 : List Int) (u118001 : Value), v8 = .int .i64 x8_5 ∧ Aside0 (erasureref01_Parse.l1 kq x6_3 x8_5 x118000_11 x118001_5 x118002_3 = some (r1, r2, r3)) ∧ Aside0 (kq ≤ kj41) ∧ Aside0 (Kd.R (Kd.int .i64) 3 w' w.heap.size (fun k_ => some k_ ≠ (u118001 : Value).ownBlock) (.slice Ao49 x6_3.length co49) x6_3) ∧ Aside0 (Kd.R (Kd.int .i64) 3 w' w.heap.size (fun k_ => some k_ ≠ ((.slice Ao49 x6_3.length co49) : Value).ownBlock) u118001 x118001_5) ∧ Aside0 (w'.heap[gb116]? = some (.cells #[.int .i64 x117000_3, .int .i64 x117001_3] 25 (0, 0))) ∧ Aside0 (w'.heap[gb117]? = some (.cells #[.bool x118000_11, u118001, .int .i64 x118002_3] 93 (0, 0))) ∧ Aside0 (Below w.heap.size w w'))
           case atStart => exact ⟨(wrap64 ((x6_3.length : Int) - 1)), (([] : List Int)), (.slice none 0 0), ea_, H', ⟨Nat.le_refl _⟩, ⟨by (with_reducible repeat (first | apply Kd.R_alloc | apply Kd.R_drewN | apply Kd.R_drew)); exact Kd.R_mono HO_6.out (fun _ hk => (by simp [Value.ownBlock]))⟩, ⟨by first | exact Kd.R_nil _ _ _ _ _ | exact Kd.N_nil _ _ _ _ _ | exact Kd.V_nil _ _ _ _ _ | exact Kd.Q_nil _ _ _ _ _ | exact Kd.S_nil _ _ _ _ _⟩, ⟨bkk BK116.out⟩, ⟨bkk BK117.out⟩, ⟨bel⟩⟩
           case round =>
            clear H'
            try clear c1
            try clear p1
            try clear q1
            try clear hx1
            try clear qi1
            try clear c2
            try clear p2
            try clear q2
            try clear hx2
            try clear c3
            try clear p3
            try clear q3
            try clear hx3
            try clear c4
            try clear c5
            try clear p6
            try clear c7
            try clear c7b0
            try clear c7b1
            try clear c8
            try clear c8b0
            try clear c8b1
            try clear p9
            try clear q9
            try clear hx9
            try clear qi9
            try clear c10
            try clear c10b0
            try clear c10b1
            try clear p11
            try clear q11
            try clear hx11
            try clear qi11
            try clear c13
            try clear c14
            try clear c14b0
            try clear c14b1
            try clear p15
            try clear q15
            try clear hx15
            try clear qi15
            try clear c16
            try clear c18
            try clear c18b0
            try clear c20
            try clear c20b0
            try clear p21
            try clear q21
            try clear hx21
            try clear c22
            try clear c22b0
            try clear c22b1
            try clear c23
            try clear c25
            try clear c25b0
            try clear c26
            try clear c26b0
            try clear p27
            try clear q27
            try clear hx27
            try clear c28
            try clear c28b0
            try clear p29
            try clear q29
            try clear hx29
            try clear c30
            try clear c31
            try clear c33
            try clear c33b0
            try clear c34
            try clear c34b0
            try clear p35
            try clear q35
            try clear hx35
            try clear c36
            try clear c37
            try clear c39
            try clear c43
            try clear c43b0
            try clear c43b1
            try clear c43b2
            try clear c46
            try clear c47
            try clear hcz17_0
            try clear hcz17_1
            try clear hcz17_2
            try clear hcz32_0
            try clear hcz32_1
            try clear hcz40_0
            try clear hcz40_1
            try clear hcz40_2
            try clear hcz48_0
            try clear hcz48_1
            try clear hcz6_0
            try clear hcz6_1
            try clear hcz6_2
            try clear hfz17_0
            try clear hfz17_1
            try clear hfz17_2
            try clear hfz32_0
            try clear hfz32_1
            try clear hfz40_0
            try clear hfz40_1
            try clear hfz40_2
            try clear hfz48_0
            try clear hfz48_1
            try clear hfz6_0
            try clear hfz6_1
            try clear hfz6_2
            try clear p1
            try clear p11
            try clear p15
            try clear p2
            try clear p21
            try clear p27
            try clear p29
            try clear p3
            try clear p35
            try clear p6
            try clear p9
            try clear q1
            try clear q11
            try clear q15
            try clear q2
            try clear q21
            try clear q27
            try clear q29
            try clear q3
            try clear q35
            try clear q9
            obtain ⟨x8_5, x118001_5, u118001, rfl, HA, HK5, HO_6, HO_118001, BK116, BK117, HB⟩ := hrel
            cases gk with
            | zero => exact absurd HA.out (by simp [erasureref01_Parse.l1])
            | succ k5 =>
             have H := HA.out
             clear HA
             simp only [erasureref01_Parse.l1] at H
             by_cases c50 : x8_5 ≥ 0
             ·rw [if_pos c50] at H
              have c50b0 : decide (0 ≤ x8_5) = true := decide_eq_true c50
              clear c50
              by_cases c51 : 0 ≤ x8_5
              ·rw [if_pos c51] at H
               have c51b0 : decide (0 ≤ x8_5) = true := decide_eq_true c51
               clear c51
               by_cases c52 : x8_5 < (x6_3.length : Int)
               ·rw [if_pos c52] at H
                have c52b0 : decide (x8_5 < (x6_3.length : Int)) = true := decide_eq_true c52
                clear c52
                by_cases c53 : x118001_5.length < 17592186044416
                ·rw [if_pos c53] at H
                 have LMc53 := Aside0.mk c53
                 clear c53
                 obtain ⟨y122, hy122⟩ : ∃ y_ : List Int, y_ = (x118001_5 ++ [rd x6_3 x8_5]) := ⟨_, rfl⟩
                 replace H : (erasureref01_Parse.l1 k5 x6_3 (wrap64 (x8_5 - 1)) x118000_11 y122 x118002_3) = some (r1, r2, r3) := by first | (rw [hy122]; with_reducible exact H) | (have H2_ := (Option.bind_some _ _).symm.trans H; rw [hy122]; with_reducible exact H2_) | (have H2_ := (Option.bind_some _ _).symm.trans H; with_reducible exact H2_) | with_reducible exact H | (rw [hy122]; exact H) | exact H
                 have Ny122 := Aside0.mk hy122
                 clear hy122
                 have H' := Aside0.mk H
                 clear H
                 try go_wp2
                 have n0_ := Aside0.mk (Kd.R_drew HO_6.out)
                 have n1_ := Aside0.mk (Kd.R_drew HO_118001.out)
                 have n2_ := Aside0.mk (blk_drew BK116.out)
                 have n3_ := Aside0.mk (blk_drew BK117.out)
                 have n4_ := Aside0.mk (below_drew1 HB.out)
                 clear HO_6
                 clear HO_118001
                 clear BK116
                 clear BK117
                 clear HB
                 have HO_6 := n0_
                 have HO_118001 := n1_
                 have BK116 := n2_
                 have BK117 := n3_
                 have HB := n4_
                 clear n0_ n1_ n2_ n3_ n4_
                 have p121 : 0 ≤ (x8_5 : Int) := of_decide_eq_true (by first | (with_reducible assumption) | assumption)
                 have q121 : x8_5 < (x6_3.length : Int) := of_decide_eq_true (by first | (with_reducible assumption) | assumption)
                 obtain ⟨ad121, e121, hx121_0⟩ := Kd.at_int (Kd.R_reads' HO_6.out).2.2 x8_5 p121 q121
                 cases e121
                 replace p121 := eq_true p121
                 replace q121 := eq_true q121
                 refine start_ (n := 10) (S := fun w' => w'.cell? ⟨gb117, 0, none⟩ = some (.bool x118000_11) ∧ w'.cell? ⟨gb117, 1, none⟩ = some (u118001) ∧ w'.cell? ⟨gb117, 2, none⟩ = some (.int .i64 x118002_3) ∧ w'.cell? (ad121.add (x8_5).toNat) = some (.int .i64 (rd x6_3 x8_5))) (ds := [7, 9]) (tk_ 10 0) (by kernel_rfl) rfl (by kernel_rfl) ⟨(blk_cell BK117.out 0).trans rfl, (blk_cell BK117.out 1).trans rfl, (blk_cell BK117.out 2).trans rfl, hx121_0⟩ (fun hHeld => ?_); refine with_tabW erasureref01_Parse.tab22 erasureref01_Parse.bits22 (fun HT_ HW_ => ?_)
                 generalize wr.drew = w54 at HO_6 HO_118001 BK116 BK117 HB hx121_0 hHeld ⊢
                 refine pu_ 0 80 (tk_ 10 1) HT_.out rfl rfl (by kernel_rfl) (fun _ _ _ h => h) (by rfl) (fun w' => by go_simp; with_reducible rfl) (by simp only [s0_, s1_, s2_, s3_, s4_, s5_]; rfl) ?_
                 refine pu_ 2 82 (tk_ 10 5) HT_.out rfl rfl (by kernel_rfl) (fun _ _ _ h => h) (by rfl) (fun w' => by go_simp; with_reducible rfl) (by simp only [s0_, s1_, s2_, s3_, s4_, s5_]; rfl) ?_
                 refine pu_ 3 83 (tk_ 10 13) HT_.out rfl rfl (by kernel_rfl) (fun _ _ _ h => h) (by rfl) (fun w' => by go_simp; with_reducible rfl) (by simp only [s0_, s1_, s2_, s3_, s4_, s5_]; rfl) ?_
                 refine pu_ 4 84 (tk_ 10 29) HT_.out rfl rfl (by kernel_rfl) (fun _ _ _ h => h) (by rfl) (fun w' => by go_simp; with_reducible rfl) (by simp only [s0_, s1_, s2_, s3_, s4_, s5_]; rfl) ?_
                 refine ta_ 1 81 (tk_ 10 31) HT_.out HW_.out rfl rfl (by kernel_rfl) (fun _ _ _ h => h) (by rfl) (by rintro w' ⟨s0, s1, s2, s3⟩; go_simp; with_reducible rfl) hHeld (by simp only [s0_, s1_, s2_, s3_, s4_, s5_]; rfl) ?_
                 refine ta_ 5 85 (tk_ 10 63) HT_.out HW_.out rfl rfl (by kernel_rfl) (fun _ _ _ h => h) (by rfl) (by rintro w' ⟨s0, s1, s2, s3⟩; go_simp; with_reducible rfl) hHeld (by simp only [s0_, s1_, s2_, s3_, s4_, s5_]; rfl) ?_
                 refine one_ (i := 6) (N := some 86) (tk_ 10 127) rfl rfl (one_of HT_.out (by kernel_rfl)) (by decide) (fun K hK => ?_)
                 refine value_ (w1 := ?_) (v := ?_) (by rfl) rfl ?_ ?_
                 rotate_left 2
                 ·go_simp
                  constructor
                  ·rfl
                  ·rfl
                 refine hK.out _ _ ⟨(blk_cell (blk_alloc BK117.out _) 0).trans rfl, (blk_cell (blk_alloc BK117.out _) 1).trans rfl, (blk_cell (blk_alloc BK117.out _) 2).trans rfl, (World.cell?_alloc_lt _ _ _ (World.block_lt_of_cell? _ _ (hHeld.2.2.2))).trans (hHeld.2.2.2)⟩ (fun hHeld => ?_)
                 clear hK K
                 refine norm_ (by show Act.put _ (some 86) _ = _; simp only [s0_, s1_, s2_, s3_, s4_, s5_]; rfl) ?_
                 refine last_ (i := 7) (N := some 87) (tk_ 10 255) rfl rfl (one_of HT_.out (by kernel_rfl)) (by decide) (fun K hK => ?_)
                 refine Kd.R_append_step (Kd.int .i64) (w0 := w) w.heap.size (by rfl) (.tmp 81) (.tmp 86) 90 3 (.int .i64 0) 8 rfl Tryd.underlying90 info3 rfl (by decide) (by omega) u118001 x118001_5 (rd x6_3 x8_5) [.int .i64 (rd x6_3 x8_5)] (fun k_ => some k_ ≠ (.slice (some ad121) x6_3.length co49 : Value).ownBlock) (fun _ => False) rfl rfl ?aP (fun _ hk => hk.elim) ?aF ?aO ?aB ?aS ?aL ?_
                 (case aP => exact rfl)
                 (case aB => exact bel)
                 (case aF => exact (fun k_ hk => Kd.fresh' (Kd.R_lt (rkk HO_6.out)) k_ hk))
                 (case aO => exact (rkk HO_118001.out))
                 (case aS => exact (below_size bel))
                 (case aL => have := LMc53.out; omega)
                 intro v123 w55 ho hb hg hat
                 rw [← Ny122.out] at ho
                 have n0_ := Aside0.mk (Kd.R_after (ok := (fun _ => True)) (by (with_reducible repeat (first | apply Kd.R_alloc | apply Kd.R_drewN | apply Kd.R_drew)); exact Kd.R_mono HO_6.out (fun _ hk => ⟨trivial, hk⟩)) hg hat)
                 have n1_ := Aside0.mk (blk_grown (bkk BK116.out) hg (Kd.R_ne HO_118001.out BK116.out (by decide)))
                 have n2_ := Aside0.mk (blk_grown (bkk BK117.out) hg (Kd.R_ne HO_118001.out BK117.out (by decide)))
                 have n3_ := Aside0.mk (hb)
                 have n4_ := Aside0.mk (ho)
                 clear HO_6
                 clear BK116
                 clear BK117
                 clear HB
                 clear HO_118001
                 have HO_6 := n0_
                 have BK116 := n1_
                 have BK117 := n2_
                 have HB := n3_
                 have HO124 := n4_
                 clear n0_ n1_ n2_ n3_ n4_
                 clear ho hb hg hat
                 obtain ⟨Ao56, co56, eo56⟩ := Kd.R_slice HO124.out
                 (first | subst eo56 | (injection eo56 with f1_ f2_ f3_; have f4_ := f1_.symm; have f5_ := f3_.symm; clear f1_ f2_ f3_; subst f4_; subst f5_))
                 refine hK.out _ _ ?_
                 clear hK K
                 refine norm_ (by show Act.put _ (some 87) _ = _; simp only [s0_, s1_, s2_, s3_, s4_, s5_]; rfl) ?_
                 refine pu_ 8 88 (tk_ 10 511) HT_.out rfl rfl (by kernel_rfl) (fun _ _ _ h => h) (by rfl) (fun w' => by go_simp; with_reducible rfl) (by simp only [s0_, s1_, s2_, s3_, s4_, s5_]; rfl) ?_
                 refine last_ (i := 9) (N := none) (tk_ 10 1023) rfl rfl (one_of HT_.out (by kernel_rfl)) (by decide) (fun K hK => ?_)
                 have hs57 : w55.cell? ⟨gb117, 1, none⟩ = some (u118001) := (blk_cell BK117.out 1).trans rfl
                 have hfs57 := blk_frozen BK117.out 1
                 have hns57_0 := NB116_117.out
                 have hms57_0 := NB117_116.out
                 refine skip_ (w1 := ?_) (by rfl) rfl ?_ ?_
                 rotate_left
                 ·go_simp
                  rfl
                 refine hK.out _ _ ?_
                 clear hK K
                 refine done_ (done_of HT_.out (by kernel_rfl)) ?_
                 try go_wp2
                 go_roundg k5
                 case measure => have := HJ1.out; have := HJ11.out; have := HK3.out; have := HJ41.out; have := HK5.out; omega
                 case rel => exact ⟨(wrap64 (x8_5 - 1)), (y122), (.slice Ao56 y122.length co56), ea_, H', ⟨by have := HJ1.out; have := HJ11.out; have := HK3.out; have := HJ41.out; have := HK5.out; omega⟩, ⟨by (with_reducible repeat (first | apply Kd.R_alloc | apply Kd.R_drewN | apply Kd.R_drew)); exact Kd.R_mono (Kd.R_far (p := ⟨gb117, 1, none⟩) (Kd.R_types HO_6.out BK117.out (by decide)) (fun _ hk => hk.2) (.slice Ao56 y122.length co56)) (fun _ hk => hk.1.2)⟩, ⟨by (with_reducible repeat (first | apply Kd.R_alloc | apply Kd.R_drewN | apply Kd.R_drew)); exact Kd.R_mono (Kd.R_far (p := ⟨gb117, 1, none⟩) (Kd.R_types HO124.out BK117.out (by decide)) (fun _ hk => hk.2) (.slice Ao56 y122.length co56)) (fun _ hk => hk.1)⟩, ⟨blks⟩, ⟨by (with_reducible repeat (first | refine blk_drewN ?_ _ | refine blk_drew ?_ | refine blk_alloc ?_ _)); refine blk_put (cs := #[.bool x118000_11, u118001, .int .i64 x118002_3]) ?_ 1 _ rfl; (with_reducible repeat (first | refine blk_drewN ?_ _ | refine blk_drew ?_ | refine blk_alloc ?_ _)); exact BK117.out⟩, ⟨bel⟩⟩
                ·rw [if_neg c53] at H
                 exact absurd H (by simp)
               ·rw [if_neg c52] at H
                exact absurd H (by simp)
              ·rw [if_neg c51] at H
               exact absurd H (by simp)
             ·rw [if_neg c50] at H
              have c50b0 : decide (0 ≤ x8_5) = false := decide_eq_false c50
              clear c50
              replace H := Option.bind_eq_some_iff.mp H
              obtain ⟨⟨tq0, tq1, tq2⟩, Aq0, H⟩ := H
              replace H : (some (tq0, tq1, tq2)) = some (r1, r2, r3) := H
              have Aq1 := Aside0.mk Aq0
              clear Aq0
              simp only [Option.some.injEq, Prod.mk.injEq] at H
              obtain ⟨rfl, rfl, rfl⟩ := H
              have hnbq0 := NB117_116.out
              have hncq0 := NB116_117.out
              have hczq0 : wr.cell? ⟨gb117, 0, none⟩ = some (.bool x118000_11) := (blk_cell BK117.out 0).trans rfl
              have hczq1 : wr.cell? ⟨gb117, 1, none⟩ = some (u118001) := (blk_cell BK117.out 1).trans rfl
              have hczq2 : wr.cell? ⟨gb117, 2, none⟩ = some (.int .i64 x118002_3) := (blk_cell BK117.out 2).trans rfl
              have hfzq0 := blk_frozen BK117.out 0
              have hfzq1 := blk_frozen BK117.out 1
              have hfzq2 := blk_frozen BK117.out 2
              obtain ⟨Aoq0, coq0, eo61⟩ := Kd.R_slice HO_118001.out
              subst eo61
              go_wp2_with (first | ((with_reducible refine gate_callee (f := 56) rfl ?_); refine goesL_ (some 90) rfl rfl Tryd.func56 (by kernel_rfl) rfl #[.agg #[.bool x118000_11, .slice Aoq0 x118001_5.length coq0, .int .i64 x118002_3]] rfl gl_ ?_; (with_reducible refine (erasureref01_told.calls k5 x118000_11 _ _ x118001_5 x118002_3 tq0 tq1 tq2 _ ?side1 ?side2 Aq1.out).mono ?_); (case side1 => repeat (first | exact (Kd.R_reads' HO_118001.out).2.2 | (with_reducible refine Kd.C_alloc ?_ _) | (with_reducible refine Kd.C_drewN ?_ _) | (with_reducible refine Kd.C_drew ?_))); (case side2 => exact (Kd.R_reads' HO_118001.out).2.1); rintro e wq0 ⟨rfl, hb⟩; refine ⟨_, rfl, ?_⟩; have n0_ := Aside0.mk (Kd.R_below (rkk HO_6.out) hb); have n1_ := Aside0.mk (Kd.R_below (rkk HO_118001.out) hb); have n2_ := Aside0.mk (blk_below (bkk BK116.out) hb); have n3_ := Aside0.mk (blk_below (bkk BK117.out) hb); have n4_ := Aside0.mk (below_step bel hb); clear HO_6; clear HO_118001; clear BK116; clear BK117; clear HB; have HO_6 := n0_; have HO_118001 := n1_; have BK116 := n2_; have BK117 := n3_; have HB := n4_; clear n0_ n1_ n2_ n3_ n4_; (try clear hb); (try clear hb2); (try clear hk); (try clear hi); have hczq3 : wq0.cell? ⟨gb116, 0, none⟩ = some (.int .i64 x117000_3) := (blk_cell BK116.out 0).trans rfl; have hczq4 : wq0.cell? ⟨gb116, 1, none⟩ = some (.int .i64 x117001_3) := (blk_cell BK116.out 1).trans rfl; have hfzq3 := blk_frozen BK116.out 0; have hfzq4 := blk_frozen BK116.out 1))
              refine bodyPost_ret (results_ct rfl _ _ gb116 25 #[.int .i64 tq0, .int .i64 tq1] (0, 0) _ rfl (by (with_reducible repeat (first | refine blk_drewN ?_ _ | refine blk_drew ?_ | refine blk_alloc ?_ _)); refine blk_put (cs := #[.int .i64 tq0, .int .i64 x117001_3]) ?_ 1 _ rfl; (with_reducible repeat (first | refine blk_drewN ?_ _ | refine blk_drew ?_ | refine blk_alloc ?_ _)); refine blk_put (cs := #[.int .i64 x117000_3, .int .i64 x117001_3]) ?_ 0 _ rfl; (with_reducible repeat (first | refine blk_drewN ?_ _ | refine blk_drew ?_ | refine blk_alloc ?_ _)); exact BK116.out) Tryd.underlying25 rfl (by kernel_rfl)) rfl ?_
              exact ⟨ee_, bel⟩
end Go.Proofs.YtnhgnejfagncpaaDoor.E
