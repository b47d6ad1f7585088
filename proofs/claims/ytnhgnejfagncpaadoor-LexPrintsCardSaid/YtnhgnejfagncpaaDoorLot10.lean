/- Put together: E4, L9 (each in a section of its own). -/
import Derived.Test.YtnhgnejfagncpaaDoorLot2
import Derived.Test.YtnhgnejfagncpaaDoorLot8
import Derived.Test.YtnhgnejfagncpaaDoorLot5
import Derived.Test.YtnhgnejfagncpaaDoorLot9
section
-- written by my own driver of the kit's print (wip/tools/myprint.py); Lean checks it.
namespace Go.Proofs.YtnhgnejfagncpaaDoor.E
open Go.RowKit Go.Proofs.YtnhgnejfagncpaaDoorW.PrintWords Go.Proofs.YtnhgnejfagncpaaDoorW.PrintLast Go.Proofs.YtnhgnejfagncpaaDoorW.PrintMore Go.Proofs.YtnhgnejfagncpaaDoor.H Go.Proofs.YtnhgnejfagncpaaDoor.A Go.Proofs.YtnhgnejfagncpaaDoor.B
attribute [local go_sem] max2_int min2_int max_two min_two max_three min_three max_four min_four   -- for this text's walks alone
set_option linter.unusedVariables false
set_option linter.unusedSimpArgs false
def erasureref01_Right.f (a0_0 : Int) (a0_1 : Int) : Option (Bool) := if a0_0 ≥ (-999999999999999999) then (if a0_0 ≤ 999999999999999999 then (if a0_1 ≥ 0 then (if a0_1 ≤ 9 then (if a0_1 = 0 then (some true) else (some ((Int.tmod a0_0 10) != 0))) else (some false)) else (some false)) else (some false)) else (some false)
set_option maxHeartbeats 8000000 in
set_option maxRecDepth 100000 in
theorem erasureref01_Right.calls (a0_0 : Int) (a0_1 : Int) (r : Bool) (w : World) (h : erasureref01_Right.f a0_0 a0_1 = some r) :
  Calls Tryd.prog 64 #[.agg #[.int .i64 a0_0, .int .i64 a0_1]] w fun e w' => e = .returned (.bool r) ∧ Below w.heap.size w w' := by
 have hu25 := Tryd.underlying25
 have HB := Aside0.mk (Below.refl w.heap.size w)
 have H : (if a0_0 ≥ (-999999999999999999) then (if a0_0 ≤ 999999999999999999 then (if a0_1 ≥ 0 then (if a0_1 ≤ 9 then (if a0_1 = 0 then (some true) else (some ((Int.tmod a0_0 10) != 0))) else (some false)) else (some false)) else (some false)) else (some false)) = some r := h
 clear h
 by_cases c2 : a0_0 ≥ (-999999999999999999)
 ·rw [if_pos c2] at H
  have c2b0 : decide ((-999999999999999999) ≤ a0_0) = true := decide_eq_true c2
  clear c2
  by_cases c3 : a0_0 ≤ 999999999999999999
  ·rw [if_pos c3] at H
   have c3b0 : decide (a0_0 ≤ 999999999999999999) = true := decide_eq_true c3
   clear c3
   by_cases c4 : a0_1 ≥ 0
   ·rw [if_pos c4] at H
    have c4b0 : decide (0 ≤ a0_1) = true := decide_eq_true c4
    clear c4
    by_cases c5 : a0_1 ≤ 9
    ·rw [if_pos c5] at H
     have c5b0 : decide (a0_1 ≤ 9) = true := decide_eq_true c5
     clear c5
     by_cases c6 : a0_1 = 0
     ·rw [if_pos c6] at H
      have c6b0 : (a0_1 == 0) = true := beq_iff_eq.mpr c6
      have c6b1 : (a0_1 != 0) = false := bne_eq_false_iff_eq.mpr c6
      clear c6
      obtain rfl := Option.some.inj H
      go_enter Tryd.func64, Tryd.ntmps64
      go_wp2_with (first | ((with_reducible refine gate_dst (N := 1) rfl ?_); refine box_event ?hg (N := 1) ?hd (cs := #[.int .i64 a0_0, .int .i64 a0_1]) (t := 25) ?hr ?_; (case hd => rfl); (case hg => rfl); (case hr => first | (go_simp; done) | (go_simp; rfl)); intro gb128 hg w7 hbox hb; have n0_ := Aside0.mk (below_step bel hb); have n1_ := Aside0.mk (hbox); have n2_ := Aside0.mk ((by rw [hg]; exact (below_size bel) : w.heap.size ≤ gb128)); have n3_ := Aside0.mk ((by rw [hg]; exact (below_size bel) : w.heap.size ≤ gb128)); clear HB; have HB := n0_; have BK128 := n1_; have GW128 := n2_; have GE128 := n3_; clear n0_ n1_ n2_ n3_; clear hb hbox hg; have hcz8_0 : w7.cell? ⟨gb128, 0, none⟩ = some (.int .i64 a0_0) := (blk_cell BK128.out 0).trans rfl; have hcz8_1 : w7.cell? ⟨gb128, 1, none⟩ = some (.int .i64 a0_1) := (blk_cell BK128.out 1).trans rfl; have hfz8_0 := blk_frozen BK128.out 0; have hfz8_1 := blk_frozen BK128.out 1))
      go_ret
      exact ⟨by first | rfl | (simp [errW_none, errW_some] <;> rfl) | (simp [*, errW_none, errW_some] <;> rfl), bel⟩
     ·rw [if_neg c6] at H
      have c6b0 : (a0_1 == 0) = false := beq_eq_false_iff_ne.mpr c6
      have c6b1 : (a0_1 != 0) = true := bne_iff_ne.mpr c6
      obtain rfl := Option.some.inj H
      go_enter Tryd.func64, Tryd.ntmps64
      go_wp2_with (first | ((with_reducible refine gate_dst (N := 1) rfl ?_); refine box_event ?hg (N := 1) ?hd (cs := #[.int .i64 a0_0, .int .i64 a0_1]) (t := 25) ?hr ?_; (case hd => rfl); (case hg => rfl); (case hr => first | (go_simp; done) | (go_simp; rfl)); intro gb128 hg w9 hbox hb; have n0_ := Aside0.mk (below_step bel hb); have n1_ := Aside0.mk (hbox); have n2_ := Aside0.mk ((by rw [hg]; exact (below_size bel) : w.heap.size ≤ gb128)); have n3_ := Aside0.mk ((by rw [hg]; exact (below_size bel) : w.heap.size ≤ gb128)); clear HB; have HB := n0_; have BK128 := n1_; have GW128 := n2_; have GE128 := n3_; clear n0_ n1_ n2_ n3_; clear hb hbox hg; have hcz10_0 : w9.cell? ⟨gb128, 0, none⟩ = some (.int .i64 a0_0) := (blk_cell BK128.out 0).trans rfl; have hcz10_1 : w9.cell? ⟨gb128, 1, none⟩ = some (.int .i64 a0_1) := (blk_cell BK128.out 1).trans rfl; have hfz10_0 := blk_frozen BK128.out 0; have hfz10_1 := blk_frozen BK128.out 1))
      go_ret
      exact ⟨by first | rfl | (simp [errW_none, errW_some] <;> rfl) | (simp [*, errW_none, errW_some] <;> rfl), bel⟩
    ·rw [if_neg c5] at H
     have c5b0 : decide (a0_1 ≤ 9) = false := decide_eq_false c5
     clear c5
     obtain rfl := Option.some.inj H
     go_enter Tryd.func64, Tryd.ntmps64
     go_wp2_with (first | ((with_reducible refine gate_dst (N := 1) rfl ?_); refine box_event ?hg (N := 1) ?hd (cs := #[.int .i64 a0_0, .int .i64 a0_1]) (t := 25) ?hr ?_; (case hd => rfl); (case hg => rfl); (case hr => first | (go_simp; done) | (go_simp; rfl)); intro gb128 hg w11 hbox hb; have n0_ := Aside0.mk (below_step bel hb); have n1_ := Aside0.mk (hbox); have n2_ := Aside0.mk ((by rw [hg]; exact (below_size bel) : w.heap.size ≤ gb128)); have n3_ := Aside0.mk ((by rw [hg]; exact (below_size bel) : w.heap.size ≤ gb128)); clear HB; have HB := n0_; have BK128 := n1_; have GW128 := n2_; have GE128 := n3_; clear n0_ n1_ n2_ n3_; clear hb hbox hg; have hcz12_0 : w11.cell? ⟨gb128, 0, none⟩ = some (.int .i64 a0_0) := (blk_cell BK128.out 0).trans rfl; have hcz12_1 : w11.cell? ⟨gb128, 1, none⟩ = some (.int .i64 a0_1) := (blk_cell BK128.out 1).trans rfl; have hfz12_0 := blk_frozen BK128.out 0; have hfz12_1 := blk_frozen BK128.out 1))
     go_ret
     exact ⟨by first | rfl | (simp [errW_none, errW_some] <;> rfl) | (simp [*, errW_none, errW_some] <;> rfl), bel⟩
   ·rw [if_neg c4] at H
    have c4b0 : decide (0 ≤ a0_1) = false := decide_eq_false c4
    clear c4
    obtain rfl := Option.some.inj H
    go_enter Tryd.func64, Tryd.ntmps64
    go_wp2_with (first | ((with_reducible refine gate_dst (N := 1) rfl ?_); refine box_event ?hg (N := 1) ?hd (cs := #[.int .i64 a0_0, .int .i64 a0_1]) (t := 25) ?hr ?_; (case hd => rfl); (case hg => rfl); (case hr => first | (go_simp; done) | (go_simp; rfl)); intro gb128 hg w13 hbox hb; have n0_ := Aside0.mk (below_step bel hb); have n1_ := Aside0.mk (hbox); have n2_ := Aside0.mk ((by rw [hg]; exact (below_size bel) : w.heap.size ≤ gb128)); have n3_ := Aside0.mk ((by rw [hg]; exact (below_size bel) : w.heap.size ≤ gb128)); clear HB; have HB := n0_; have BK128 := n1_; have GW128 := n2_; have GE128 := n3_; clear n0_ n1_ n2_ n3_; clear hb hbox hg; have hcz14_0 : w13.cell? ⟨gb128, 0, none⟩ = some (.int .i64 a0_0) := (blk_cell BK128.out 0).trans rfl; have hcz14_1 : w13.cell? ⟨gb128, 1, none⟩ = some (.int .i64 a0_1) := (blk_cell BK128.out 1).trans rfl; have hfz14_0 := blk_frozen BK128.out 0; have hfz14_1 := blk_frozen BK128.out 1))
    go_ret
    exact ⟨by first | rfl | (simp [errW_none, errW_some] <;> rfl) | (simp [*, errW_none, errW_some] <;> rfl), bel⟩
  ·rw [if_neg c3] at H
   have c3b0 : decide (a0_0 ≤ 999999999999999999) = false := decide_eq_false c3
   clear c3
   obtain rfl := Option.some.inj H
   go_enter Tryd.func64, Tryd.ntmps64
   go_wp2_with (first | ((with_reducible refine gate_dst (N := 1) rfl ?_); refine box_event ?hg (N := 1) ?hd (cs := #[.int .i64 a0_0, .int .i64 a0_1]) (t := 25) ?hr ?_; (case hd => rfl); (case hg => rfl); (case hr => first | (go_simp; done) | (go_simp; rfl)); intro gb128 hg w15 hbox hb; have n0_ := Aside0.mk (below_step bel hb); have n1_ := Aside0.mk (hbox); have n2_ := Aside0.mk ((by rw [hg]; exact (below_size bel) : w.heap.size ≤ gb128)); have n3_ := Aside0.mk ((by rw [hg]; exact (below_size bel) : w.heap.size ≤ gb128)); clear HB; have HB := n0_; have BK128 := n1_; have GW128 := n2_; have GE128 := n3_; clear n0_ n1_ n2_ n3_; clear hb hbox hg; have hcz16_0 : w15.cell? ⟨gb128, 0, none⟩ = some (.int .i64 a0_0) := (blk_cell BK128.out 0).trans rfl; have hcz16_1 : w15.cell? ⟨gb128, 1, none⟩ = some (.int .i64 a0_1) := (blk_cell BK128.out 1).trans rfl; have hfz16_0 := blk_frozen BK128.out 0; have hfz16_1 := blk_frozen BK128.out 1))
   go_ret
   exact ⟨by first | rfl | (simp [errW_none, errW_some] <;> rfl) | (simp [*, errW_none, errW_some] <;> rfl), bel⟩
 ·rw [if_neg c2] at H
  have c2b0 : decide ((-999999999999999999) ≤ a0_0) = false := decide_eq_false c2
  clear c2
  obtain rfl := Option.some.inj H
  go_enter Tryd.func64, Tryd.ntmps64
  go_wp2_with (first | ((with_reducible refine gate_dst (N := 1) rfl ?_); refine box_event ?hg (N := 1) ?hd (cs := #[.int .i64 a0_0, .int .i64 a0_1]) (t := 25) ?hr ?_; (case hd => rfl); (case hg => rfl); (case hr => first | (go_simp; done) | (go_simp; rfl)); intro gb128 hg w17 hbox hb; have n0_ := Aside0.mk (below_step bel hb); have n1_ := Aside0.mk (hbox); have n2_ := Aside0.mk ((by rw [hg]; exact (below_size bel) : w.heap.size ≤ gb128)); have n3_ := Aside0.mk ((by rw [hg]; exact (below_size bel) : w.heap.size ≤ gb128)); clear HB; have HB := n0_; have BK128 := n1_; have GW128 := n2_; have GE128 := n3_; clear n0_ n1_ n2_ n3_; clear hb hbox hg; have hcz18_0 : w17.cell? ⟨gb128, 0, none⟩ = some (.int .i64 a0_0) := (blk_cell BK128.out 0).trans rfl; have hcz18_1 : w17.cell? ⟨gb128, 1, none⟩ = some (.int .i64 a0_1) := (blk_cell BK128.out 1).trans rfl; have hfz18_0 := blk_frozen BK128.out 0; have hfz18_1 := blk_frozen BK128.out 1))
  go_ret
  exact ⟨by first | rfl | (simp [errW_none, errW_some] <;> rfl) | (simp [*, errW_none, errW_some] <;> rfl), bel⟩
mutual
def erasureref01_of.j0 : Nat → Int → Bool → Int → Option (Bool × List Int × Int)
 | 0, _, _, _ => none
 | k + 1, x4, x132000, x132002 => erasureref01_of.l0 k x4 x132000 ([] : List Int) x132002
def erasureref01_of.l0 : Nat → Int → Bool → List Int → Int → Option (Bool × List Int × Int)
 | 0, _, _, _, _ => none
 | k + 1, x4, x132000, x132001, x132002 => if x4 > 0 then (if x132001.length < 17592186044416 then (erasureref01_of.l0 k (wrap64 (Int.tdiv x4 10)) x132000 (x132001 ++ [Int.tmod x4 10]) x132002) else (none)) else (some (x132000, x132001, x132002))
end
def erasureref01_of.f (k : Nat) (a0_0 : Int) (a0_1 : Int) : Option (Bool × List Int × Int) := if a0_0 < 0 then (erasureref01_of.j0 k (wrap64 (-a0_0)) (decide (a0_0 < 0)) a0_1) else (erasureref01_of.j0 k a0_0 (decide (a0_0 < 0)) a0_1)
set_option maxHeartbeats 8000000 in
set_option maxRecDepth 100000 in
theorem erasureref01_of.calls (k : Nat) (a0_0 : Int) (a0_1 : Int) (r1 : Bool) (r2 : List Int) (r3 : Int) (w : World) (h : erasureref01_of.f k a0_0 a0_1 = some (r1, r2, r3)) :
  Calls Tryd.prog 67 #[.agg #[.int .i64 a0_0, .int .i64 a0_1]] w fun e w' => ∃ v1_ : Value, e = .returned (.agg #[.bool r1, v1_, .int .i64 r3]) ∧ Kd.R (Kd.int .i64) 3 w' w.heap.size (fun _ => True) v1_ r2 ∧ Below w.heap.size w w' := by
 have hu25 := Tryd.underlying25
 have hu93 := Tryd.underlying93
 have HB := Aside0.mk (Below.refl w.heap.size w)
 have H : (if a0_0 < 0 then (erasureref01_of.j0 k (wrap64 (-a0_0)) (decide (a0_0 < 0)) a0_1) else (erasureref01_of.j0 k a0_0 (decide (a0_0 < 0)) a0_1)) = some (r1, r2, r3) := h
 clear h
 have HC2 := Aside0.mk H
 clear H
 go_enter Tryd.func67, Tryd.ntmps67
 go_upto_if 14 with (first | ((with_reducible refine gate_dst (N := 1) rfl ?_); refine box_event ?hg (N := 1) ?hd (cs := #[.int .i64 a0_0, .int .i64 a0_1]) (t := 25) ?hr ?_; (case hd => rfl); (case hg => rfl); (case hr => first | (go_simp; done) | (go_simp; rfl)); intro gb129 hg w3 hbox hb; have n0_ := Aside0.mk (below_step bel hb); have n1_ := Aside0.mk (hbox); have n2_ := Aside0.mk ((by rw [hg]; exact (below_size bel) : w.heap.size ≤ gb129)); have n3_ := Aside0.mk ((by rw [hg]; exact (below_size bel) : w.heap.size ≤ gb129)); clear HB; have HB := n0_; have BK129 := n1_; have GW129 := n2_; have GE129 := n3_; clear n0_ n1_ n2_ n3_; clear hb hbox hg) | ((with_reducible refine gate_dst (N := 2) rfl ?_); refine box_event ?hg (N := 2) ?hd (cs := #[.bool false, .slice none 0 0, .int .i64 0]) (t := 93) ?hr ?_; (case hd => rfl); (case hg => rfl); (case hr => first | (go_simp; done) | (go_simp; rfl)); intro gb130 hg w4 hbox hb; have n0_ := Aside0.mk (blk_below (bkk BK129.out) hb); have n1_ := Aside0.mk (below_step bel hb); have n2_ := Aside0.mk (hbox); have n3_ := Aside0.mk ((by rw [hg]; exact (below_size bel) : w.heap.size ≤ gb130)); have n4_ := Aside0.mk ((by rw [hg]; exact (below_size bel) : w.heap.size ≤ gb130)); have n5_ := Aside0.mk ((by rw [hg]; exact Nat.ne_of_lt (blk_lt (g := gb129) (o := .cells #[.int .i64 a0_0, .int .i64 a0_1] 25 (0, 0)) (bkk BK129.out)) : gb129 ≠ gb130)); have n6_ := Aside0.mk ((by rw [hg]; exact Nat.ne_of_gt (blk_lt (g := gb129) (o := .cells #[.int .i64 a0_0, .int .i64 a0_1] 25 (0, 0)) (bkk BK129.out)) : gb130 ≠ gb129)); clear BK129; clear HB; have BK129 := n0_; have HB := n1_; have BK130 := n2_; have GW130 := n3_; have GE130 := n4_; have NB129_130 := n5_; have NB130_129 := n6_; clear n0_ n1_ n2_ n3_ n4_ n5_ n6_; clear hb hbox hg; have hnb5 := NB129_130.out; have hnc5 := NB130_129.out; have hcz6_0 : w4.cell? ⟨gb129, 0, none⟩ = some (.int .i64 a0_0) := (blk_cell BK129.out 0).trans rfl; have hcz6_1 : w4.cell? ⟨gb129, 1, none⟩ = some (.int .i64 a0_1) := (blk_cell BK129.out 1).trans rfl; have hfz6_0 := blk_frozen BK129.out 0; have hfz6_1 := blk_frozen BK129.out 1) | ((with_reducible refine gate_dst (N := 3) rfl ?_); refine box_event ?hg (N := 3) ?hd (cs := #[.bool false, .slice none 0 0, .int .i64 0]) (t := 93) ?hr ?_; (case hd => rfl); (case hg => rfl); (case hr => first | (go_simp; done) | (go_simp; rfl)); intro gb131 hg w7 hbox hb; have n0_ := Aside0.mk (blk_below (bkk BK129.out) hb); have n1_ := Aside0.mk (blk_below (bkk BK130.out) hb); have n2_ := Aside0.mk (below_step bel hb); have n3_ := Aside0.mk (hbox); have n4_ := Aside0.mk ((by rw [hg]; exact (below_size bel) : w.heap.size ≤ gb131)); have n5_ := Aside0.mk ((by rw [hg]; exact (below_size bel) : w.heap.size ≤ gb131)); have n6_ := Aside0.mk ((by rw [hg]; exact Nat.ne_of_lt (blk_lt (g := gb129) (o := .cells #[.int .i64 a0_0, .int .i64 a0_1] 25 (0, 0)) (bkk BK129.out)) : gb129 ≠ gb131)); have n7_ := Aside0.mk ((by rw [hg]; exact Nat.ne_of_gt (blk_lt (g := gb129) (o := .cells #[.int .i64 a0_0, .int .i64 a0_1] 25 (0, 0)) (bkk BK129.out)) : gb131 ≠ gb129)); have n8_ := Aside0.mk ((by rw [hg]; exact Nat.ne_of_lt (blk_lt (g := gb130) (o := .cells #[.bool false, .slice none 0 0, .int .i64 0] 93 (0, 0)) (bkk BK130.out)) : gb130 ≠ gb131)); have n9_ := Aside0.mk ((by rw [hg]; exact Nat.ne_of_gt (blk_lt (g := gb130) (o := .cells #[.bool false, .slice none 0 0, .int .i64 0] 93 (0, 0)) (bkk BK130.out)) : gb131 ≠ gb130)); clear BK129; clear BK130; clear HB; have BK129 := n0_; have BK130 := n1_; have HB := n2_; have BK131 := n3_; have GW131 := n4_; have GE131 := n5_; have NB129_131 := n6_; have NB131_129 := n7_; have NB130_131 := n8_; have NB131_130 := n9_; clear n0_ n1_ n2_ n3_ n4_ n5_ n6_ n7_ n8_ n9_; clear hb hbox hg; have hnb8 := NB131_129.out; have hnc8 := NB129_131.out; have hnb9 := NB131_130.out; have hnc9 := NB130_131.out; have hcz10_0 : w7.cell? ⟨gb131, 0, none⟩ = some (.bool false) := (blk_cell BK131.out 0).trans rfl; have hcz10_1 : w7.cell? ⟨gb131, 1, none⟩ = some (.slice none 0 0) := (blk_cell BK131.out 1).trans rfl; have hcz10_2 : w7.cell? ⟨gb131, 2, none⟩ = some (.int .i64 0) := (blk_cell BK131.out 2).trans rfl; have hfz10_0 := blk_frozen BK131.out 0; have hfz10_1 := blk_frozen BK131.out 1; have hfz10_2 := blk_frozen BK131.out 2; have hcz11_0 : w7.cell? ⟨gb129, 0, none⟩ = some (.int .i64 a0_0) := (blk_cell BK129.out 0).trans rfl; have hcz11_1 : w7.cell? ⟨gb129, 1, none⟩ = some (.int .i64 a0_1) := (blk_cell BK129.out 1).trans rfl; have hfz11_0 := blk_frozen BK129.out 0; have hfz11_1 := blk_frozen BK129.out 1))
 (try simp only [Act.put, List.setIfInBounds_toArray, List.set_cons_zero, List.set_cons_succ])
 go_cut [4] (fun v4 wc => ∃ (kq : Nat) (x4_1 : Int), v4 = .int .i64 x4_1 ∧ Aside0 (erasureref01_of.j0 kq x4_1 (decide (a0_0 < 0)) a0_1 = some (r1, r2, r3)) ∧ Aside0 (kq ≤ k) ∧ Aside0 (wc.heap[gb129]? = some (.cells #[.int .i64 a0_0, .int .i64 a0_1] 25 (0, 0))) ∧ Aside0 (wc.heap[gb130]? = some (.cells #[.bool false, (.slice none 0 0), .int .i64 0] 93 (0, 0))) ∧ Aside0 (wc.heap[gb131]? = some (.cells #[.bool (decide (a0_0 < 0)), (.slice none 0 0), .int .i64 a0_1] 93 (0, 0))) ∧ Aside0 (Below w.heap.size w wc))
 case first =>
  have H := HC2.out
  clear HC2
  by_cases c12 : a0_0 < 0
  ·rw [if_pos c12] at H
   have c12b0 : decide (a0_0 < 0) = true := decide_eq_true c12
   clear c12
   (first | rw [c12b0] | (simp only [i64_w, i32_w]; rw [c12b0]) | skip)
   have H' := Aside0.mk H
   clear H
   go_wp2
   go_meet
   case rel => exact ⟨_, (wrap64 (-a0_0)), ea_, H', ⟨by first | omega | exact Nat.le_refl _⟩, ⟨blks⟩, ⟨blks⟩, ⟨by (with_reducible repeat (first | refine blk_drewN ?_ _ | refine blk_drew ?_ | refine blk_alloc ?_ _)); refine blk_put (cs := #[.bool (decide (a0_0 < 0)), .slice none 0 0, .int .i64 0]) ?_ 2 _ rfl; (with_reducible repeat (first | refine blk_drewN ?_ _ | refine blk_drew ?_ | refine blk_alloc ?_ _)); refine blk_put (cs := #[.bool (decide (a0_0 < 0)), .slice none 0 0, .int .i64 0]) ?_ 1 _ rfl; (with_reducible repeat (first | refine blk_drewN ?_ _ | refine blk_drew ?_ | refine blk_alloc ?_ _)); refine blk_put (cs := #[.bool false, .slice none 0 0, .int .i64 0]) ?_ 0 _ (by first | rfl | (simp [*]; done)); (with_reducible repeat (first | refine blk_drewN ?_ _ | refine blk_drew ?_ | refine blk_alloc ?_ _)); exact BK131.out⟩, ⟨bel⟩⟩
  ·rw [if_neg c12] at H
   have c12b0 : decide (a0_0 < 0) = false := decide_eq_false c12
   clear c12
   (first | rw [c12b0] | (simp only [i64_w, i32_w]; rw [c12b0]) | skip)
   have H' := Aside0.mk H
   clear H
   go_wp2
   go_meet
   case rel => exact ⟨_, (a0_0), ea_, H', ⟨by first | omega | exact Nat.le_refl _⟩, ⟨blks⟩, ⟨blks⟩, ⟨by (with_reducible repeat (first | refine blk_drewN ?_ _ | refine blk_drew ?_ | refine blk_alloc ?_ _)); refine blk_put (cs := #[.bool (decide (a0_0 < 0)), .slice none 0 0, .int .i64 0]) ?_ 2 _ rfl; (with_reducible repeat (first | refine blk_drewN ?_ _ | refine blk_drew ?_ | refine blk_alloc ?_ _)); refine blk_put (cs := #[.bool (decide (a0_0 < 0)), .slice none 0 0, .int .i64 0]) ?_ 1 _ rfl; (with_reducible repeat (first | refine blk_drewN ?_ _ | refine blk_drew ?_ | refine blk_alloc ?_ _)); refine blk_put (cs := #[.bool false, .slice none 0 0, .int .i64 0]) ?_ 0 _ (by first | rfl | (simp [*]; done)); (with_reducible repeat (first | refine blk_drewN ?_ _ | refine blk_drew ?_ | refine blk_alloc ?_ _)); exact BK131.out⟩, ⟨bel⟩⟩
 case rest =>
  clear HC2
  try clear c1
  try clear p2
  try clear c5
  try clear c6
  try clear p6
  try clear c8
  try clear c9
  try clear c12
  try clear c12b0
  try clear hcz10_0
  try clear hcz10_1
  try clear hcz10_2
  try clear hcz11_0
  try clear hcz11_1
  try clear hcz6_0
  try clear hcz6_1
  try clear hfz10_0
  try clear hfz10_1
  try clear hfz10_2
  try clear hfz11_0
  try clear hfz11_1
  try clear hfz6_0
  try clear hfz6_1
  obtain ⟨kq, x4_1, rfl, HA, HJ1, BK129, BK130, BK131, HB⟩ := hcut
  cases kq with
  | zero => exact absurd HA.out (by simp [erasureref01_of.j0])
  | succ kj1 =>
   have H := HA.out
   clear HA
   simp only [erasureref01_of.j0] at H
   have H' := Aside0.mk H
   clear H
   go_wp2
   go_loopg [4] kj1 (fun kq v4 w' => ∃ (x4_2 : Int) (x132001_2 : List Int) (u132001 : Value), v4 = .int .i64 x4_2 ∧ Aside0 (erasureref01_of.l0 kq x4_2 (decide (a0_0 < 0)) x132001_2 a0_1 = some (r1, r2, r3)) ∧ Aside0 (kq ≤ kj1) ∧ Aside0 (Kd.R (Kd.int .i64) 3 w' w.heap.size (fun _ => True) u132001 x132001_2) ∧ Aside0 (w'.heap[gb129]? = some (.cells #[.int .i64 a0_0, .int .i64 a0_1] 25 (0, 0))) ∧ Aside0 (w'.heap[gb130]? = some (.cells #[.bool false, (.slice none 0 0), .int .i64 0] 93 (0, 0))) ∧ Aside0 (w'.heap[gb131]? = some (.cells #[.bool (decide (a0_0 < 0)), u132001, .int .i64 a0_1] 93 (0, 0))) ∧ Aside0 (Below w.heap.size w w'))
   case atStart => exact ⟨(x4_1), (([] : List Int)), (.slice none 0 0), ea_, H', ⟨Nat.le_refl _⟩, ⟨by first | exact Kd.R_nil _ _ _ _ _ | exact Kd.N_nil _ _ _ _ _ | exact Kd.V_nil _ _ _ _ _ | exact Kd.Q_nil _ _ _ _ _ | exact Kd.S_nil _ _ _ _ _⟩, ⟨bkk BK129.out⟩, ⟨bkk BK130.out⟩, ⟨bkk BK131.out⟩, ⟨bel⟩⟩
   case round =>
    clear H'
    try clear c1
    try clear p2
    try clear c5
    try clear c6
    try clear p6
    try clear c8
    try clear c9
    try clear c12
    try clear c12b0
    try clear hcz10_0
    try clear hcz10_1
    try clear hcz10_2
    try clear hcz11_0
    try clear hcz11_1
    try clear hcz6_0
    try clear hcz6_1
    try clear hfz10_0
    try clear hfz10_1
    try clear hfz10_2
    try clear hfz11_0
    try clear hfz11_1
    try clear hfz6_0
    try clear hfz6_1
    try clear p2
    try clear p6
    obtain ⟨x4_2, x132001_2, u132001, rfl, HA, HK2, HO_132001, BK129, BK130, BK131, HB⟩ := hrel
    cases gk with
    | zero => exact absurd HA.out (by simp [erasureref01_of.l0])
    | succ k2 =>
     have H := HA.out
     clear HA
     simp only [erasureref01_of.l0] at H
     by_cases c13 : x4_2 > 0
     ·rw [if_pos c13] at H
      have c13b0 : decide (0 < x4_2) = true := decide_eq_true c13
      clear c13
      by_cases c14 : x132001_2.length < 17592186044416
      ·rw [if_pos c14] at H
       have LMc14 := Aside0.mk c14
       clear c14
       obtain ⟨y132, hy132⟩ : ∃ y_ : List Int, y_ = (x132001_2 ++ [Int.tmod x4_2 10]) := ⟨_, rfl⟩
       replace H : (erasureref01_of.l0 k2 (wrap64 (Int.tdiv x4_2 10)) (decide (a0_0 < 0)) y132 a0_1) = some (r1, r2, r3) := by first | (rw [hy132]; with_reducible exact H) | (have H2_ := (Option.bind_some _ _).symm.trans H; rw [hy132]; with_reducible exact H2_) | (have H2_ := (Option.bind_some _ _).symm.trans H; with_reducible exact H2_) | with_reducible exact H | (rw [hy132]; exact H) | exact H
       have Ny132 := Aside0.mk hy132
       clear hy132
       have H' := Aside0.mk H
       clear H
       have hnb15 := NB131_129.out
       have hnc15 := NB129_131.out
       have hnb16 := NB131_130.out
       have hnc16 := NB130_131.out
       have hcz17_0 : wr.cell? ⟨gb131, 0, none⟩ = some (.bool (decide (a0_0 < 0))) := (blk_cell BK131.out 0).trans rfl
       have hcz17_1 : wr.cell? ⟨gb131, 1, none⟩ = some (u132001) := (blk_cell BK131.out 1).trans rfl
       have hcz17_2 : wr.cell? ⟨gb131, 2, none⟩ = some (.int .i64 a0_1) := (blk_cell BK131.out 2).trans rfl
       have hfz17_0 := blk_frozen BK131.out 0
       have hfz17_1 := blk_frozen BK131.out 1
       have hfz17_2 := blk_frozen BK131.out 2
       go_wp2_with (first | ((with_reducible refine gate_builtin (b := .append) (xs := #[.tmp 20, .tmp 23]) rfl ?_); at_builtin; refine Kd.R_append (Kd.int .i64) (w0 := w) w.heap.size rfl (.tmp 20) (.tmp 23) 90 3 (.int .i64 0) 8 rfl Tryd.underlying90 info3 rfl (by decide) (by omega) u132001 x132001_2 (Int.tmod x4_2 10) [.int .i64 (Int.tmod x4_2 10)] (fun _ => True) (fun _ => False) rfl rfl ?aP (fun _ hk => hk.elim) ?aF ?aO ?aB ?aS ?aL ?_; (case aP => exact rfl); (case aB => exact bel); (case aF => exact (fun _ _ => trivial)); (case aO => exact (rkk HO_132001.out)); (case aS => exact (below_size bel)); (case aL => have := LMc14.out; omega); intro v133 w18 ho hb hg hat; rw [← Ny132.out] at ho; have n0_ := Aside0.mk (blk_grown (bkk BK129.out) hg (Kd.R_ne HO_132001.out BK129.out (by decide))); have n1_ := Aside0.mk (blk_grown (bkk BK130.out) hg (Kd.R_ne HO_132001.out BK130.out (by decide))); have n2_ := Aside0.mk (blk_grown (bkk BK131.out) hg (Kd.R_ne HO_132001.out BK131.out (by decide))); have n3_ := Aside0.mk (hb); have n4_ := Aside0.mk (ho); clear BK129; clear BK130; clear BK131; clear HB; clear HO_132001; have BK129 := n0_; have BK130 := n1_; have BK131 := n2_; have HB := n3_; have HO134 := n4_; clear n0_ n1_ n2_ n3_ n4_; clear ho hb hg hat; obtain ⟨Ao19, co19, eo19⟩ := Kd.R_slice HO134.out; subst eo19; have hcz20_0 : w18.cell? ⟨gb131, 0, none⟩ = some (.bool (decide (a0_0 < 0))) := (blk_cell BK131.out 0).trans rfl; have hcz20_1 : w18.cell? ⟨gb131, 1, none⟩ = some (u132001) := (blk_cell BK131.out 1).trans rfl; have hcz20_2 : w18.cell? ⟨gb131, 2, none⟩ = some (.int .i64 a0_1) := (blk_cell BK131.out 2).trans rfl; have hfz20_0 := blk_frozen BK131.out 0; have hfz20_1 := blk_frozen BK131.out 1; have hfz20_2 := blk_frozen BK131.out 2))
       go_roundg k2
       case measure => have := HJ1.out; have := HK2.out; omega
       case rel => exact ⟨(wrap64 (Int.tdiv x4_2 10)), (y132), (.slice Ao19 y132.length co19), ea_, H', ⟨by have := HJ1.out; have := HK2.out; omega⟩, ⟨by (with_reducible repeat (first | apply Kd.R_alloc | apply Kd.R_drewN | apply Kd.R_drew)); exact Kd.R_mono (Kd.R_far (p := ⟨gb131, 1, none⟩) (Kd.R_types HO134.out BK131.out (by decide)) (fun _ hk => hk.2) (.slice Ao19 y132.length co19)) (fun _ hk => trivial)⟩, ⟨blks⟩, ⟨blks⟩, ⟨by (with_reducible repeat (first | refine blk_drewN ?_ _ | refine blk_drew ?_ | refine blk_alloc ?_ _)); refine blk_put (cs := #[.bool (decide (a0_0 < 0)), u132001, .int .i64 a0_1]) ?_ 1 _ rfl; (with_reducible repeat (first | refine blk_drewN ?_ _ | refine blk_drew ?_ | refine blk_alloc ?_ _)); exact BK131.out⟩, ⟨bel⟩⟩
      ·rw [if_neg c14] at H
       exact absurd H (by simp)
     ·rw [if_neg c13] at H
      have c13b0 : decide (0 < x4_2) = false := decide_eq_false c13
      clear c13
      simp only [Option.some.injEq, Prod.mk.injEq] at H
      obtain ⟨rfl, rfl, rfl⟩ := H
      have hnb21 := NB131_129.out
      have hnc21 := NB129_131.out
      have hnb22 := NB131_130.out
      have hnc22 := NB130_131.out
      have hcz23_0 : wr.cell? ⟨gb131, 0, none⟩ = some (.bool (decide (a0_0 < 0))) := (blk_cell BK131.out 0).trans rfl
      have hcz23_1 : wr.cell? ⟨gb131, 1, none⟩ = some (u132001) := (blk_cell BK131.out 1).trans rfl
      have hcz23_2 : wr.cell? ⟨gb131, 2, none⟩ = some (.int .i64 a0_1) := (blk_cell BK131.out 2).trans rfl
      have hfz23_0 := blk_frozen BK131.out 0
      have hfz23_1 := blk_frozen BK131.out 1
      have hfz23_2 := blk_frozen BK131.out 2
      have hnb24 := NB130_129.out
      have hnc24 := NB129_130.out
      have hcz25_0 : wr.cell? ⟨gb130, 0, none⟩ = some (.bool false) := (blk_cell BK130.out 0).trans rfl
      have hcz25_1 : wr.cell? ⟨gb130, 1, none⟩ = some (.slice none 0 0) := (blk_cell BK130.out 1).trans rfl
      have hcz25_2 : wr.cell? ⟨gb130, 2, none⟩ = some (.int .i64 0) := (blk_cell BK130.out 2).trans rfl
      have hfz25_0 := blk_frozen BK130.out 0
      have hfz25_1 := blk_frozen BK130.out 1
      have hfz25_2 := blk_frozen BK130.out 2
      obtain ⟨Ao26, co26, eo26⟩ := Kd.R_slice HO_132001.out
      subst eo26
      go_wp2
      refine bodyPost_ret (results_cell_row rfl _ _ gb130 93 #[.bool (decide (a0_0 < 0)), .slice Ao26 x132001_2.length co26, .int .i64 a0_1] (0, 0) _ rfl (by (with_reducible repeat (first | refine blk_drewN ?_ _ | refine blk_drew ?_ | refine blk_alloc ?_ _)); refine blk_put (cs := #[.bool (decide (a0_0 < 0)), .slice Ao26 x132001_2.length co26, .int .i64 0]) ?_ 2 _ rfl; (with_reducible repeat (first | refine blk_drewN ?_ _ | refine blk_drew ?_ | refine blk_alloc ?_ _)); refine blk_put (cs := #[.bool (decide (a0_0 < 0)), .slice none 0 0, .int .i64 0]) ?_ 1 _ rfl; (with_reducible repeat (first | refine blk_drewN ?_ _ | refine blk_drew ?_ | refine blk_alloc ?_ _)); refine blk_put (cs := #[.bool false, .slice none 0 0, .int .i64 0]) ?_ 0 _ (by first | rfl | (simp [*]; done)); (with_reducible repeat (first | refine blk_drewN ?_ _ | refine blk_drew ?_ | refine blk_alloc ?_ _)); exact BK130.out) Tryd.underlying93 rfl (by kernel_rfl)) rfl ?_
      exact ⟨_, by first | rfl | (simp [errW_none, errW_some] <;> rfl) | (simp [*, errW_none, errW_some] <;> rfl), by (with_reducible repeat (first | apply Kd.R_alloc | apply Kd.R_drewN | apply Kd.R_drew)); exact Kd.R_mono (Kd.R_far (p := ⟨gb130, 2, none⟩) (Kd.R_far (p := ⟨gb130, 1, none⟩) (Kd.R_far (p := ⟨gb130, 0, none⟩) (Kd.R_types HO_132001.out BK130.out (by decide)) (fun _ hk => hk.2) (.bool (decide (a0_0 < 0)))) (fun _ hk => hk.2) (.slice Ao26 x132001_2.length co26)) (fun _ hk => hk.2) (.int .i64 a0_1)) (fun _ hk => trivial), bel⟩
mutual
def erasureref01_Print.j0 : Nat → ByteArray → Bool → List Int → Int → Option (ByteArray × Int)
 | 0, _, _, _, _ => none
 | k + 1, x5, x143000, x143001, x143002 => erasureref01_Print.l0 k x5 (wrap64 ((mx (x143001.length : Int) (wrap64 (x143002 + 1))) - 1)) x143000 x143001 x143002
def erasureref01_Print.l0 : Nat → ByteArray → Int → Bool → List Int → Int → Option (ByteArray × Int)
 | 0, _, _, _, _, _ => none
 | k + 1, x5, x6, x143000, x143001, x143002 => if x6 ≥ 0 then (if x6 = (wrap64 (x143002 - 1)) then (if x5.size + 1 ≤ 9223372036854775807 then ((erasureref01_digit.f x143001 x6).bind fun t143 => ((some (([(wrap64 (48 + t143)) % 256] : List Int) : List Int)).bind fun y144 => (if (x5 ++ (⟨#[46]⟩ : ByteArray)).size + (strOfNums y144).size ≤ 9223372036854775807 then (erasureref01_Print.l0 k ((x5 ++ (⟨#[46]⟩ : ByteArray)) ++ (strOfNums y144)) (wrap64 (x6 - 1)) x143000 x143001 x143002) else (none)))) else (none)) else ((erasureref01_digit.f x143001 x6).bind fun t147 => ((some (([(wrap64 (48 + t147)) % 256] : List Int) : List Int)).bind fun y148 => (if x5.size + (strOfNums y148).size ≤ 9223372036854775807 then (erasureref01_Print.l0 k (x5 ++ (strOfNums y148)) (wrap64 (x6 - 1)) x143000 x143001 x143002) else (none))))) else (some (x5, 0))
end
def erasureref01_Print.f (k : Nat) (a0_0 : Int) (a0_1 : Int) : Option (ByteArray × Int) := (erasureref01_Right.f a0_0 a0_1).bind fun t136 => (if t136 = true then ((erasureref01_of.f k a0_0 a0_1).bind fun bt137 => (if bt137.1 = true then (erasureref01_Print.j0 k (⟨#[45]⟩ : ByteArray) bt137.1 bt137.2.1 bt137.2.2) else (erasureref01_Print.j0 k (⟨#[]⟩ : ByteArray) bt137.1 bt137.2.1 bt137.2.2))) else (some ((⟨#[]⟩ : ByteArray), 1)))
set_option maxHeartbeats 8000000 in
set_option maxRecDepth 100000 in
theorem erasureref01_Print.calls (k : Nat) (a0_0 : Int) (a0_1 : Int) (r1 : ByteArray) (r2 : Int) (w : World) (h : erasureref01_Print.f k a0_0 a0_1 = some (r1, r2)) :
  Calls Tryd.prog 35 #[.agg #[.int .i64 a0_0, .int .i64 a0_1]] w fun e w' => e = .returned (.tuple #[.string r1, .int .i64 r2]) ∧ Below w.heap.size w w' := by
 have hu25 := Tryd.underlying25
 have hu93 := Tryd.underlying93
 have HB := Aside0.mk (Below.refl w.heap.size w)
 have H : ((erasureref01_Right.f a0_0 a0_1).bind fun t136 => (if t136 = true then ((erasureref01_of.f k a0_0 a0_1).bind fun bt137 => (if bt137.1 = true then (erasureref01_Print.j0 k (⟨#[45]⟩ : ByteArray) bt137.1 bt137.2.1 bt137.2.2) else (erasureref01_Print.j0 k (⟨#[]⟩ : ByteArray) bt137.1 bt137.2.1 bt137.2.2))) else (some ((⟨#[]⟩ : ByteArray), 1)))) = some (r1, r2) := h
 clear h
 replace H := Option.bind_eq_some_iff.mp H
 obtain ⟨t136, A20, H⟩ := H
 replace H : (if t136 = true then ((erasureref01_of.f k a0_0 a0_1).bind fun bt137 => (if bt137.1 = true then (erasureref01_Print.j0 k (⟨#[45]⟩ : ByteArray) bt137.1 bt137.2.1 bt137.2.2) else (erasureref01_Print.j0 k (⟨#[]⟩ : ByteArray) bt137.1 bt137.2.1 bt137.2.2))) else (some ((⟨#[]⟩ : ByteArray), 1))) = some (r1, r2) := H
 have A2 := Aside0.mk A20
 clear A20
 by_cases c3 : t136 = true
 ·subst c3
  have H1 : ((erasureref01_of.f k a0_0 a0_1).bind fun bt137 => (if bt137.1 = true then (erasureref01_Print.j0 k (⟨#[45]⟩ : ByteArray) bt137.1 bt137.2.1 bt137.2.2) else (erasureref01_Print.j0 k (⟨#[]⟩ : ByteArray) bt137.1 bt137.2.1 bt137.2.2))) = some (r1, r2) := by rw [if_pos rfl] at H; exact H
  clear H
  have H := H1
  clear H1
  replace H := Option.bind_eq_some_iff.mp H
  obtain ⟨⟨t137, t138, t141⟩, A40, H⟩ := H
  replace H : (if t137 = true then (erasureref01_Print.j0 k (⟨#[45]⟩ : ByteArray) t137 t138 t141) else (erasureref01_Print.j0 k (⟨#[]⟩ : ByteArray) t137 t138 t141)) = some (r1, r2) := H
  have A4 := Aside0.mk A40
  clear A40
  have HC5 := Aside0.mk H
  clear H
  go_enter Tryd.func35, Tryd.ntmps35
  go_upto_if 13 with (first | ((with_reducible refine gate_dst (N := 1) rfl ?_); refine box_event ?hg (N := 1) ?hd (cs := #[.int .i64 a0_0, .int .i64 a0_1]) (t := 25) ?hr ?_; (case hd => rfl); (case hg => rfl); (case hr => first | (go_simp; done) | (go_simp; rfl)); intro gb135 hg w6 hbox hb; have n0_ := Aside0.mk (below_step bel hb); have n1_ := Aside0.mk (hbox); have n2_ := Aside0.mk ((by rw [hg]; exact (below_size bel) : w.heap.size ≤ gb135)); have n3_ := Aside0.mk ((by rw [hg]; exact (below_size bel) : w.heap.size ≤ gb135)); clear HB; have HB := n0_; have BK135 := n1_; have GW135 := n2_; have GE135 := n3_; clear n0_ n1_ n2_ n3_; clear hb hbox hg; have hcz7_0 : w6.cell? ⟨gb135, 0, none⟩ = some (.int .i64 a0_0) := (blk_cell BK135.out 0).trans rfl; have hcz7_1 : w6.cell? ⟨gb135, 1, none⟩ = some (.int .i64 a0_1) := (blk_cell BK135.out 1).trans rfl; have hfz7_0 := blk_frozen BK135.out 0; have hfz7_1 := blk_frozen BK135.out 1) | ((with_reducible refine gate_callee (f := 64) rfl ?_); refine goesL_ (some 8) rfl rfl Tryd.func64 (by kernel_rfl) rfl #[.agg #[.int .i64 a0_0, .int .i64 a0_1]] rfl gl_ ?_; (with_reducible refine (erasureref01_Right.calls a0_0 a0_1 true _ A2.out).mono ?_); rintro e w8 ⟨rfl, hb⟩; refine ⟨_, rfl, ?_⟩; have n0_ := Aside0.mk (blk_below (bkk BK135.out) hb); have n1_ := Aside0.mk (below_step bel hb); clear BK135; clear HB; have BK135 := n0_; have HB := n1_; clear n0_ n1_; (try clear hb); (try clear hb2); (try clear hk); (try clear hi); have hcz9_0 : w8.cell? ⟨gb135, 0, none⟩ = some (.int .i64 a0_0) := (blk_cell BK135.out 0).trans rfl; have hcz9_1 : w8.cell? ⟨gb135, 1, none⟩ = some (.int .i64 a0_1) := (blk_cell BK135.out 1).trans rfl; have hfz9_0 := blk_frozen BK135.out 0; have hfz9_1 := blk_frozen BK135.out 1) | ((with_reducible refine gate_callee (f := 67) rfl ?_); refine goesL_ (some 11) rfl rfl Tryd.func67 (by kernel_rfl) rfl #[.agg #[.int .i64 a0_0, .int .i64 a0_1]] rfl gl_ ?_; (with_reducible refine (erasureref01_of.calls k a0_0 a0_1 t137 t138 t141 _ A4.out).mono ?_); rintro e w10 ⟨v139, rfl, ho0, hb⟩; refine ⟨_, rfl, ?_⟩; have n0_ := Aside0.mk (Kd.R_lower ho0 (below_size bel)); have n1_ := Aside0.mk (blk_below (bkk BK135.out) hb); have n2_ := Aside0.mk (below_step bel hb); clear BK135; clear HB; have HO140 := n0_; have BK135 := n1_; have HB := n2_; clear n0_ n1_ n2_; (try clear hb); (try clear hb2); (try clear hk); (try clear hi); (try clear ho0)) | ((with_reducible refine gate_dst (N := 4) rfl ?_); refine box_event ?hg (N := 4) ?hd (cs := #[.bool false, .slice none 0 0, .int .i64 0]) (t := 93) ?hr ?_; (case hd => rfl); (case hg => rfl); (case hr => first | (go_simp; done) | (go_simp; rfl)); intro gb142 hg w11 hbox hb; have n0_ := Aside0.mk (Kd.R_below (rkk HO140.out) hb); have n1_ := Aside0.mk (blk_below (bkk BK135.out) hb); have n2_ := Aside0.mk (below_step bel hb); have n3_ := Aside0.mk (hbox); have n4_ := Aside0.mk ((by rw [hg]; exact (below_size bel) : w.heap.size ≤ gb142)); have n5_ := Aside0.mk ((by rw [hg]; exact (below_size bel) : w.heap.size ≤ gb142)); have n6_ := Aside0.mk ((by rw [hg]; exact Nat.ne_of_lt (blk_lt (g := gb135) (o := .cells #[.int .i64 a0_0, .int .i64 a0_1] 25 (0, 0)) (bkk BK135.out)) : gb135 ≠ gb142)); have n7_ := Aside0.mk ((by rw [hg]; exact Nat.ne_of_gt (blk_lt (g := gb135) (o := .cells #[.int .i64 a0_0, .int .i64 a0_1] 25 (0, 0)) (bkk BK135.out)) : gb142 ≠ gb135)); clear HO140; clear BK135; clear HB; have HO140 := n0_; have BK135 := n1_; have HB := n2_; have BK142 := n3_; have GW142 := n4_; have GE142 := n5_; have NB135_142 := n6_; have NB142_135 := n7_; clear n0_ n1_ n2_ n3_ n4_ n5_ n6_ n7_; clear hb hbox hg; have hnb12 := NB142_135.out; have hnc12 := NB135_142.out; have hcz13_0 : w11.cell? ⟨gb142, 0, none⟩ = some (.bool false) := (blk_cell BK142.out 0).trans rfl; have hcz13_1 : w11.cell? ⟨gb142, 1, none⟩ = some (.slice none 0 0) := (blk_cell BK142.out 1).trans rfl; have hcz13_2 : w11.cell? ⟨gb142, 2, none⟩ = some (.int .i64 0) := (blk_cell BK142.out 2).trans rfl; have hfz13_0 := blk_frozen BK142.out 0; have hfz13_1 := blk_frozen BK142.out 1; have hfz13_2 := blk_frozen BK142.out 2; obtain ⟨Ao14, co14, eo14⟩ := Kd.R_slice HO140.out; subst eo14))
  (try simp only [Act.put, List.setIfInBounds_toArray, List.set_cons_zero, List.set_cons_succ])
  go_cut [5] (fun v5 wc => ∃ (kq : Nat) (x5_4 : ByteArray), v5 = .string x5_4 ∧ Aside0 (erasureref01_Print.j0 kq x5_4 t137 t138 t141 = some (r1, r2)) ∧ Aside0 (kq ≤ k) ∧ Aside0 (Kd.R (Kd.int .i64) 3 wc w.heap.size (fun _ => True) (.slice Ao14 t138.length co14) t138) ∧ Aside0 (wc.heap[gb135]? = some (.cells #[.int .i64 a0_0, .int .i64 a0_1] 25 (0, 0))) ∧ Aside0 (wc.heap[gb142]? = some (.cells #[.bool t137, (.slice Ao14 t138.length co14), .int .i64 t141] 93 (0, 0))) ∧ Aside0 (Below w.heap.size w wc))
  case first =>
   have H := HC5.out
   clear HC5
   by_cases c15 : t137 = true
   ·subst c15
    have H1 : (erasureref01_Print.j0 k (⟨#[45]⟩ : ByteArray) true t138 t141) = some (r1, r2) := by rw [if_pos rfl] at H; exact H
    clear H
    have H := H1
    clear H1
    have H' := Aside0.mk H
    clear H
    go_wp2
    go_meet
    case rel => exact ⟨_, ((⟨#[45]⟩ : ByteArray)), ea_, H', ⟨by first | omega | exact Nat.le_refl _⟩, ⟨by (with_reducible repeat (first | apply Kd.R_alloc | apply Kd.R_drewN | apply Kd.R_drew)); exact Kd.R_mono (Kd.R_far (p := ⟨gb142, 2, none⟩) (Kd.R_far (p := ⟨gb142, 1, none⟩) (Kd.R_far (p := ⟨gb142, 0, none⟩) (Kd.R_types HO140.out BK142.out (by decide)) (fun _ hk => hk.2) (.bool true)) (fun _ hk => hk.2) (.slice Ao14 t138.length co14)) (fun _ hk => hk.2) (.int .i64 t141)) (fun _ hk => trivial)⟩, ⟨blks⟩, ⟨by (with_reducible repeat (first | refine blk_drewN ?_ _ | refine blk_drew ?_ | refine blk_alloc ?_ _)); refine blk_put (cs := #[.bool true, .slice Ao14 t138.length co14, .int .i64 0]) ?_ 2 _ rfl; (with_reducible repeat (first | refine blk_drewN ?_ _ | refine blk_drew ?_ | refine blk_alloc ?_ _)); refine blk_put (cs := #[.bool true, .slice none 0 0, .int .i64 0]) ?_ 1 _ rfl; (with_reducible repeat (first | refine blk_drewN ?_ _ | refine blk_drew ?_ | refine blk_alloc ?_ _)); refine blk_put (cs := #[.bool false, .slice none 0 0, .int .i64 0]) ?_ 0 _ rfl; (with_reducible repeat (first | refine blk_drewN ?_ _ | refine blk_drew ?_ | refine blk_alloc ?_ _)); exact BK142.out⟩, ⟨bel⟩⟩
   ·replace c15 := Bool.eq_false_iff.mpr c15
    subst c15
    have H1 : (erasureref01_Print.j0 k (⟨#[]⟩ : ByteArray) false t138 t141) = some (r1, r2) := by rw [if_neg (show ¬ (false = true) by decide)] at H; exact H
    clear H
    have H := H1
    clear H1
    have H' := Aside0.mk H
    clear H
    go_wp2
    go_meet
    case rel => exact ⟨_, ((⟨#[]⟩ : ByteArray)), ea_, H', ⟨by first | omega | exact Nat.le_refl _⟩, ⟨by (with_reducible repeat (first | apply Kd.R_alloc | apply Kd.R_drewN | apply Kd.R_drew)); exact Kd.R_mono (Kd.R_far (p := ⟨gb142, 2, none⟩) (Kd.R_far (p := ⟨gb142, 1, none⟩) (Kd.R_far (p := ⟨gb142, 0, none⟩) (Kd.R_types HO140.out BK142.out (by decide)) (fun _ hk => hk.2) (.bool false)) (fun _ hk => hk.2) (.slice Ao14 t138.length co14)) (fun _ hk => hk.2) (.int .i64 t141)) (fun _ hk => trivial)⟩, ⟨blks⟩, ⟨by (with_reducible repeat (first | refine blk_drewN ?_ _ | refine blk_drew ?_ | refine blk_alloc ?_ _)); refine blk_put (cs := #[.bool false, .slice Ao14 t138.length co14, .int .i64 0]) ?_ 2 _ rfl; (with_reducible repeat (first | refine blk_drewN ?_ _ | refine blk_drew ?_ | refine blk_alloc ?_ _)); refine blk_put (cs := #[.bool false, .slice none 0 0, .int .i64 0]) ?_ 1 _ rfl; (with_reducible repeat (first | refine blk_drewN ?_ _ | refine blk_drew ?_ | refine blk_alloc ?_ _)); refine blk_put (cs := #[.bool false, .slice none 0 0, .int .i64 0]) ?_ 0 _ rfl; (with_reducible repeat (first | refine blk_drewN ?_ _ | refine blk_drew ?_ | refine blk_alloc ?_ _)); exact BK142.out⟩, ⟨bel⟩⟩
  case rest =>
   clear HC5
   try clear c1
   try clear p2
   try clear c3
   try clear c6
   try clear c12
   try clear c15
   try clear hcz13_0
   try clear hcz13_1
   try clear hcz13_2
   try clear hcz7_0
   try clear hcz7_1
   try clear hcz9_0
   try clear hcz9_1
   try clear hfz13_0
   try clear hfz13_1
   try clear hfz13_2
   try clear hfz7_0
   try clear hfz7_1
   try clear hfz9_0
   try clear hfz9_1
   obtain ⟨kq, x5_4, rfl, HA, HJ4, HO_143001, BK135, BK142, HB⟩ := hcut
   cases kq with
   | zero => exact absurd HA.out (by simp [erasureref01_Print.j0])
   | succ kj4 =>
    have H := HA.out
    clear HA
    simp only [erasureref01_Print.j0] at H
    obtain ⟨ji16, hji16⟩ : ∃ j_ : Int, (mx (t138.length : Int) (wrap64 (t141 + 1))) = j_ := ⟨_, rfl⟩
    replace H : (erasureref01_Print.l0 kj4 x5_4 (wrap64 ((ji16) - 1)) t137 t138 t141) = some (r1, r2) := by first | (rw [hji16] at H; exact H) | (simp only [hji16] at H ⊢; exact H)
    have hji16_ : (if (t138.length : Int) < (wrap64 (t141 + 1)) then (wrap64 (t141 + 1)) else (t138.length : Int)) = ji16 := hji16
    have H' := Aside0.mk H
    clear H
    have hnb17 := NB142_135.out
    have hnc17 := NB135_142.out
    have hcz18_0 : wc.cell? ⟨gb142, 0, none⟩ = some (.bool t137) := (blk_cell BK142.out 0).trans rfl
    have hcz18_1 : wc.cell? ⟨gb142, 1, none⟩ = some (.slice Ao14 t138.length co14) := (blk_cell BK142.out 1).trans rfl
    have hcz18_2 : wc.cell? ⟨gb142, 2, none⟩ = some (.int .i64 t141) := (blk_cell BK142.out 2).trans rfl
    have hfz18_0 := blk_frozen BK142.out 0
    have hfz18_1 := blk_frozen BK142.out 1
    have hfz18_2 := blk_frozen BK142.out 2
    go_wp2
    go_loopg [5, 6] kj4 (fun kq v5 v6 w' => ∃ (x5_2 : ByteArray) (x6_2 : Int), v5 = .string x5_2 ∧ v6 = .int .i64 x6_2 ∧ Aside0 (erasureref01_Print.l0 kq x5_2 x6_2 t137 t138 t141 = some (r1, r2)) ∧ Aside0 (kq ≤ kj4) ∧ Aside0 (Kd.R (Kd.int .i64) 3 w' w.heap.size (fun _ => True) (.slice Ao14 t138.length co14) t138) ∧ Aside0 (w'.heap[gb135]? = some (.cells #[.int .i64 a0_0, .int .i64 a0_1] 25 (0, 0))) ∧ Aside0 (w'.heap[gb142]? = some (.cells #[.bool t137, (.slice Ao14 t138.length co14), .int .i64 t141] 93 (0, 0))) ∧ Aside0 (Below w.heap.size w w'))
    case atStart => exact ⟨(x5_4), (wrap64 ((ji16) - 1)), ea_, (by first | rfl | (simp; done) | (simp only [← hji16] <;> (first | rfl | simp)) | (simp [*]; done)), H', ⟨Nat.le_refl _⟩, ⟨rkk HO_143001.out⟩, ⟨bkk BK135.out⟩, ⟨bkk BK142.out⟩, ⟨bel⟩⟩
    case round =>
     clear H'
     try clear c1
     try clear p2
     try clear c3
     try clear c6
     try clear p6
     try clear c12
     try clear c15
     try clear c17
     try clear hcz13_0
     try clear hcz13_1
     try clear hcz13_2
     try clear hcz18_0
     try clear hcz18_1
     try clear hcz18_2
     try clear hcz7_0
     try clear hcz7_1
     try clear hcz9_0
     try clear hcz9_1
     try clear hfz13_0
     try clear hfz13_1
     try clear hfz13_2
     try clear hfz18_0
     try clear hfz18_1
     try clear hfz18_2
     try clear hfz7_0
     try clear hfz7_1
     try clear hfz9_0
     try clear hfz9_1
     try clear p2
     obtain ⟨x5_2, x6_2, rfl, rfl, HA, HK2, HO_143001, BK135, BK142, HB⟩ := hrel
     cases gk with
     | zero => exact absurd HA.out (by simp [erasureref01_Print.l0])
     | succ k2 =>
      have H := HA.out
      clear HA
      simp only [erasureref01_Print.l0] at H
      by_cases c19 : x6_2 ≥ 0
      ·rw [if_pos c19] at H
       have c19b0 : decide (0 ≤ x6_2) = true := decide_eq_true c19
       clear c19
       by_cases c20 : x6_2 = (wrap64 (t141 - 1))
       ·rw [if_pos c20] at H
        have c20b0 : (x6_2 == (wrap64 (t141 - 1))) = true := beq_iff_eq.mpr c20
        have c20b1 : (x6_2 != (wrap64 (t141 - 1))) = false := bne_eq_false_iff_eq.mpr c20
        clear c20
        by_cases c21 : x5_2.size + 1 ≤ 9223372036854775807
        ·rw [if_pos c21] at H
         have c21b0 := eq_true c21
         have c21b1 : decide (x5_2.size + 1 ≤ 9223372036854775807) = true := decide_eq_true c21
         try have c21b2 : (9223372036854775807 < x5_2.size + 1) = False := eq_false (Nat.not_lt.2 c21)
         replace H := Option.bind_eq_some_iff.mp H
         obtain ⟨t143, A220, H⟩ := H
         replace H : ((some (([(wrap64 (48 + t143)) % 256] : List Int) : List Int)).bind fun y144 => (if (x5_2 ++ (⟨#[46]⟩ : ByteArray)).size + (strOfNums y144).size ≤ 9223372036854775807 then (erasureref01_Print.l0 k2 ((x5_2 ++ (⟨#[46]⟩ : ByteArray)) ++ (strOfNums y144)) (wrap64 (x6_2 - 1)) t137 t138 t141) else (none))) = some (r1, r2) := H
         have A22 := Aside0.mk A220
         clear A220
         obtain ⟨y144, hy144⟩ : ∃ y_ : List Int, y_ = (([(wrap64 (48 + t143)) % 256] : List Int)) := ⟨_, rfl⟩
         replace H : (if (x5_2 ++ (⟨#[46]⟩ : ByteArray)).size + (strOfNums y144).size ≤ 9223372036854775807 then (erasureref01_Print.l0 k2 ((x5_2 ++ (⟨#[46]⟩ : ByteArray)) ++ (strOfNums y144)) (wrap64 (x6_2 - 1)) t137 t138 t141) else (none)) = some (r1, r2) := by first | (rw [hy144]; with_reducible exact H) | (have H2_ := (Option.bind_some _ _).symm.trans H; rw [hy144]; with_reducible exact H2_) | (have H2_ := (Option.bind_some _ _).symm.trans H; with_reducible exact H2_) | with_reducible exact H | (rw [hy144]; exact H) | exact H
         have Ny144 := Aside0.mk hy144
         clear hy144
         by_cases c23 : (x5_2 ++ (⟨#[46]⟩ : ByteArray)).size + (strOfNums y144).size ≤ 9223372036854775807
         ·rw [if_pos c23] at H
          have c23b0 := eq_true c23
          have c23b1 : decide ((x5_2 ++ (⟨#[46]⟩ : ByteArray)).size + (strOfNums y144).size ≤ 9223372036854775807) = true := decide_eq_true c23
          try have c23b2 : (9223372036854775807 < (x5_2 ++ (⟨#[46]⟩ : ByteArray)).size + (strOfNums y144).size) = False := eq_false (Nat.not_lt.2 c23)
          have H' := Aside0.mk H
          clear H
          have hnb24 := NB142_135.out
          have hnc24 := NB135_142.out
          have hcz25_0 : wr.cell? ⟨gb142, 0, none⟩ = some (.bool t137) := (blk_cell BK142.out 0).trans rfl
          have hcz25_1 : wr.cell? ⟨gb142, 1, none⟩ = some (.slice Ao14 t138.length co14) := (blk_cell BK142.out 1).trans rfl
          have hcz25_2 : wr.cell? ⟨gb142, 2, none⟩ = some (.int .i64 t141) := (blk_cell BK142.out 2).trans rfl
          have hfz25_0 := blk_frozen BK142.out 0
          have hfz25_1 := blk_frozen BK142.out 1
          have hfz25_2 := blk_frozen BK142.out 2
          go_wp2_with (first | ((with_reducible refine gate_callee (f := 68) rfl ?_); refine goesL_ (some 37) rfl rfl Tryd.func68 (by kernel_rfl) rfl #[.slice Ao14 t138.length co14, .int .i64 x6_2] rfl gl_ ?_; (with_reducible refine (erasureref01_digit.calls _ _ t138 x6_2 t143 _ ?side1 ?side2 A22.out).mono ?_); (case side1 => repeat (first | exact (Kd.R_reads' HO_143001.out).2.2 | (with_reducible refine Kd.C_alloc ?_ _) | (with_reducible refine Kd.C_drewN ?_ _) | (with_reducible refine Kd.C_drew ?_))); (case side2 => exact (Kd.R_reads' HO_143001.out).2.1); rintro e w' ⟨rfl, ⟨nd, rfl⟩⟩; refine ⟨_, rfl, ?_⟩) | ((with_reducible refine gate_dst (N := 40) rfl ?_); refine Kd.R_lit (Kd.int .u8) _ 5 ?hg (N := 40) ?hd (xs := ([(wrap64 (48 + t143)) % 256] : List Int)) (inner := [.int .u8 ((wrap64 (48 + t143)) % 256)]) (ok := fun _ => True) (okp := fun _ => True) ?hr ?hp (fun _ hk => hk) trivial (Below.refl _ _) (Nat.le_refl _) (by simp) ?_; (case hd => rfl); (case hg => rfl); (case hr => first | (go_simp; done) | (go_simp; rfl)); (case hp => exact (Reps.one (show Kd.M (Kd.int .u8) _ _ _ ((wrap64 (48 + t143)) % 256) [.int .u8 ((wrap64 (48 + t143)) % 256)] from rfl) (Reps.none _ _))); intro v145 w26 ho27 hb hg_ hnew_; clear hg_ hnew_; (first | rw [← Ny144.out] at ho27 | (simp only [Int.reduceToNat] at ho27; rw [← Ny144.out] at ho27)); have n0_ := Aside0.mk (Kd.R_below (rkk HO_143001.out) hb); have n1_ := Aside0.mk (Kd.R_lower ho27 (below_size bel)); have n2_ := Aside0.mk (blk_below (bkk BK135.out) hb); have n3_ := Aside0.mk (blk_below (bkk BK142.out) hb); have n4_ := Aside0.mk (below_step bel hb); clear HO_143001; clear BK135; clear BK142; clear HB; have HO_143001 := n0_; have HO146 := n1_; have BK135 := n2_; have BK142 := n3_; have HB := n4_; clear n0_ n1_ n2_ n3_ n4_; clear hb ho27; have hcv28 := own_string (P := Tryd.prog) Tryd.underlying22 Tryd.underlying5 Tryd.underlying9 (Kd.own_of_R HO146.out)))
          go_roundg k2
          case measure => have := HJ4.out; have := HK2.out; omega
          case rel => exact ⟨((x5_2 ++ (⟨#[46]⟩ : ByteArray)) ++ (strOfNums y144)), (wrap64 (x6_2 - 1)), ea_, ea_, H', ⟨by have := HJ4.out; have := HK2.out; omega⟩, ⟨rkk HO_143001.out⟩, ⟨bkk BK135.out⟩, ⟨bkk BK142.out⟩, ⟨bel⟩⟩
         ·rw [if_neg c23] at H
          exact absurd H (by simp)
        ·rw [if_neg c21] at H
         exact absurd H (by simp)
       ·rw [if_neg c20] at H
        have c20b0 : (x6_2 == (wrap64 (t141 - 1))) = false := beq_eq_false_iff_ne.mpr c20
        have c20b1 : (x6_2 != (wrap64 (t141 - 1))) = true := bne_iff_ne.mpr c20
        replace H := Option.bind_eq_some_iff.mp H
        obtain ⟨t147, A290, H⟩ := H
        replace H : ((some (([(wrap64 (48 + t147)) % 256] : List Int) : List Int)).bind fun y148 => (if x5_2.size + (strOfNums y148).size ≤ 9223372036854775807 then (erasureref01_Print.l0 k2 (x5_2 ++ (strOfNums y148)) (wrap64 (x6_2 - 1)) t137 t138 t141) else (none))) = some (r1, r2) := H
        have A29 := Aside0.mk A290
        clear A290
        obtain ⟨y148, hy148⟩ : ∃ y_ : List Int, y_ = (([(wrap64 (48 + t147)) % 256] : List Int)) := ⟨_, rfl⟩
        replace H : (if x5_2.size + (strOfNums y148).size ≤ 9223372036854775807 then (erasureref01_Print.l0 k2 (x5_2 ++ (strOfNums y148)) (wrap64 (x6_2 - 1)) t137 t138 t141) else (none)) = some (r1, r2) := by first | (rw [hy148]; with_reducible exact H) | (have H2_ := (Option.bind_some _ _).symm.trans H; rw [hy148]; with_reducible exact H2_) | (have H2_ := (Option.bind_some _ _).symm.trans H; with_reducible exact H2_) | with_reducible exact H | (rw [hy148]; exact H) | exact H
        have Ny148 := Aside0.mk hy148
        clear hy148
        by_cases c30 : x5_2.size + (strOfNums y148).size ≤ 9223372036854775807
        ·rw [if_pos c30] at H
         have c30b0 := eq_true c30
         have c30b1 : decide (x5_2.size + (strOfNums y148).size ≤ 9223372036854775807) = true := decide_eq_true c30
         try have c30b2 : (9223372036854775807 < x5_2.size + (strOfNums y148).size) = False := eq_false (Nat.not_lt.2 c30)
         have H' := Aside0.mk H
         clear H
         have hnb31 := NB142_135.out
         have hnc31 := NB135_142.out
         have hcz32_0 : wr.cell? ⟨gb142, 0, none⟩ = some (.bool t137) := (blk_cell BK142.out 0).trans rfl
         have hcz32_1 : wr.cell? ⟨gb142, 1, none⟩ = some (.slice Ao14 t138.length co14) := (blk_cell BK142.out 1).trans rfl
         have hcz32_2 : wr.cell? ⟨gb142, 2, none⟩ = some (.int .i64 t141) := (blk_cell BK142.out 2).trans rfl
         have hfz32_0 := blk_frozen BK142.out 0
         have hfz32_1 := blk_frozen BK142.out 1
         have hfz32_2 := blk_frozen BK142.out 2
         go_wp2_with (first | ((with_reducible refine gate_callee (f := 68) rfl ?_); refine goesL_ (some 37) rfl rfl Tryd.func68 (by kernel_rfl) rfl #[.slice Ao14 t138.length co14, .int .i64 x6_2] rfl gl_ ?_; (with_reducible refine (erasureref01_digit.calls _ _ t138 x6_2 t147 _ ?side1 ?side2 A29.out).mono ?_); (case side1 => repeat (first | exact (Kd.R_reads' HO_143001.out).2.2 | (with_reducible refine Kd.C_alloc ?_ _) | (with_reducible refine Kd.C_drewN ?_ _) | (with_reducible refine Kd.C_drew ?_))); (case side2 => exact (Kd.R_reads' HO_143001.out).2.1); rintro e w' ⟨rfl, ⟨nd, rfl⟩⟩; refine ⟨_, rfl, ?_⟩) | ((with_reducible refine gate_dst (N := 40) rfl ?_); refine Kd.R_lit (Kd.int .u8) _ 5 ?hg (N := 40) ?hd (xs := ([(wrap64 (48 + t147)) % 256] : List Int)) (inner := [.int .u8 ((wrap64 (48 + t147)) % 256)]) (ok := fun _ => True) (okp := fun _ => True) ?hr ?hp (fun _ hk => hk) trivial (Below.refl _ _) (Nat.le_refl _) (by simp) ?_; (case hd => rfl); (case hg => rfl); (case hr => first | (go_simp; done) | (go_simp; rfl)); (case hp => exact (Reps.one (show Kd.M (Kd.int .u8) _ _ _ ((wrap64 (48 + t147)) % 256) [.int .u8 ((wrap64 (48 + t147)) % 256)] from rfl) (Reps.none _ _))); intro v149 w33 ho34 hb hg_ hnew_; clear hg_ hnew_; (first | rw [← Ny148.out] at ho34 | (simp only [Int.reduceToNat] at ho34; rw [← Ny148.out] at ho34)); have n0_ := Aside0.mk (Kd.R_below (rkk HO_143001.out) hb); have n1_ := Aside0.mk (Kd.R_lower ho34 (below_size bel)); have n2_ := Aside0.mk (blk_below (bkk BK135.out) hb); have n3_ := Aside0.mk (blk_below (bkk BK142.out) hb); have n4_ := Aside0.mk (below_step bel hb); clear HO_143001; clear BK135; clear BK142; clear HB; have HO_143001 := n0_; have HO150 := n1_; have BK135 := n2_; have BK142 := n3_; have HB := n4_; clear n0_ n1_ n2_ n3_ n4_; clear hb ho34; have hcv35 := own_string (P := Tryd.prog) Tryd.underlying22 Tryd.underlying5 Tryd.underlying9 (Kd.own_of_R HO150.out)))
         go_roundg k2
         case measure => have := HJ4.out; have := HK2.out; omega
         case rel => exact ⟨(x5_2 ++ (strOfNums y148)), (wrap64 (x6_2 - 1)), ea_, ea_, H', ⟨by have := HJ4.out; have := HK2.out; omega⟩, ⟨rkk HO_143001.out⟩, ⟨bkk BK135.out⟩, ⟨bkk BK142.out⟩, ⟨bel⟩⟩
        ·rw [if_neg c30] at H
         exact absurd H (by simp)
      ·rw [if_neg c19] at H
       have c19b0 : decide (0 ≤ x6_2) = false := decide_eq_false c19
       clear c19
       simp only [Option.some.injEq, Prod.mk.injEq] at H
       obtain ⟨rfl, rfl⟩ := H
       go_wp2
       go_ret2
       exact ⟨by first | rfl | (simp [errW_none, errW_some] <;> rfl) | (simp only [← hji16]; first | rfl | (simp [errW_none, errW_some] <;> rfl)) | (simp [*, errW_none, errW_some] <;> rfl), bel⟩
 ·replace c3 := Bool.eq_false_iff.mpr c3
  subst c3
  have H1 : (some ((⟨#[]⟩ : ByteArray), 1)) = some (r1, r2) := by rw [if_neg (show ¬ (false = true) by decide)] at H; exact H
  clear H
  have H := H1
  clear H1
  simp only [Option.some.injEq, Prod.mk.injEq] at H
  obtain ⟨rfl, rfl⟩ := H
  go_enter Tryd.func35, Tryd.ntmps35
  go_wp2_with (first | ((with_reducible refine gate_dst (N := 1) rfl ?_); refine box_event ?hg (N := 1) ?hd (cs := #[.int .i64 a0_0, .int .i64 a0_1]) (t := 25) ?hr ?_; (case hd => rfl); (case hg => rfl); (case hr => first | (go_simp; done) | (go_simp; rfl)); intro gb135 hg w36 hbox hb; have n0_ := Aside0.mk (below_step bel hb); have n1_ := Aside0.mk (hbox); have n2_ := Aside0.mk ((by rw [hg]; exact (below_size bel) : w.heap.size ≤ gb135)); have n3_ := Aside0.mk ((by rw [hg]; exact (below_size bel) : w.heap.size ≤ gb135)); clear HB; have HB := n0_; have BK135 := n1_; have GW135 := n2_; have GE135 := n3_; clear n0_ n1_ n2_ n3_; clear hb hbox hg; have hcz37_0 : w36.cell? ⟨gb135, 0, none⟩ = some (.int .i64 a0_0) := (blk_cell BK135.out 0).trans rfl; have hcz37_1 : w36.cell? ⟨gb135, 1, none⟩ = some (.int .i64 a0_1) := (blk_cell BK135.out 1).trans rfl; have hfz37_0 := blk_frozen BK135.out 0; have hfz37_1 := blk_frozen BK135.out 1) | ((with_reducible refine gate_callee (f := 64) rfl ?_); refine goesL_ (some 8) rfl rfl Tryd.func64 (by kernel_rfl) rfl #[.agg #[.int .i64 a0_0, .int .i64 a0_1]] rfl gl_ ?_; (with_reducible refine (erasureref01_Right.calls a0_0 a0_1 false _ A2.out).mono ?_); rintro e w38 ⟨rfl, hb⟩; refine ⟨_, rfl, ?_⟩; have n0_ := Aside0.mk (blk_below (bkk BK135.out) hb); have n1_ := Aside0.mk (below_step bel hb); clear BK135; clear HB; have BK135 := n0_; have HB := n1_; clear n0_ n1_; (try clear hb); (try clear hb2); (try clear hk); (try clear hi)))
  go_ret2
  exact ⟨by first | rfl | (simp [errW_none, errW_some] <;> rfl) | (simp [*, errW_none, errW_some] <;> rfl), bel⟩
end Go.Proofs.YtnhgnejfagncpaaDoor.E
end
section
-- written by my own driver of the kit's print (wip/tools/myprint.py); Lean checks it.
namespace Go.Proofs.YtnhgnejfagncpaaDoor.L
open Go.RowKit Go.Proofs.YtnhgnejfagncpaaDoorW.PrintWords Go.Proofs.YtnhgnejfagncpaaDoorW.PrintLast Go.Proofs.YtnhgnejfagncpaaDoorW.PrintMore Go.Proofs.YtnhgnejfagncpaaDoor.H Go.Proofs.YtnhgnejfagncpaaDoor.A Go.Proofs.YtnhgnejfagncpaaDoor.B Go.Proofs.YtnhgnejfagncpaaDoor.E
attribute [local go_sem] max2_int min2_int max_two min_two max_three min_three max_four min_four   -- for this text's walks alone
set_option linter.unusedVariables false
set_option linter.unusedSimpArgs false
attribute [local go_sem high] eqA25
def erasureref14_Word.l0 : Nat → ByteArray → Int → Option (Bool)
 | 0, _, _ => none
 | k + 1, x0, x3 => if x3 < (x0.size : Int) then (if 0 ≤ x3 then ((erasureref14_other.f (bt x0 x3)).bind fun t257 => (if t257 = true then (erasureref14_Word.l0 k x0 (wrap64 (x3 + 1))) else (some false))) else (none)) else ((erasureref01_Parse.f k x0).bind fun bt258 => (if (x0.size : Int) ≥ 1 then (if (x0.size : Int) ≤ 127 then (some (bt258.2.2 == 4)) else (some false)) else (some false)))
def erasureref14_Word.f (k : Nat) (a0 : ByteArray) : Option (Bool) := erasureref14_Word.l0 k a0 0
set_option maxHeartbeats 8000000 in
set_option maxRecDepth 100000 in
theorem erasureref14_Word.calls (k : Nat) (a0 : ByteArray) (r : Bool) (w : World) (h : erasureref14_Word.f k a0 = some r) :
  Calls Tryd.prog 66 #[.string a0] w fun e w' => e = .returned (.bool r) ∧ Below w.heap.size w w' := by
 have hu25 := Tryd.underlying25
 have HB := Aside0.mk (Below.refl w.heap.size w)
 have H : (erasureref14_Word.l0 k a0 0) = some r := h
 clear h
 have H' := Aside0.mk H
 clear H
 go_enter Tryd.func66, Tryd.ntmps66
 go_wp2
 go_loopg [3] k (fun kq v3 w' => ∃ (x3_1 : Int), v3 = .int .i64 x3_1 ∧ Aside0 (erasureref14_Word.l0 kq a0 x3_1 = some r) ∧ Aside0 (kq ≤ k) ∧ Aside0 (Below w.heap.size w w'))
 case atStart => exact ⟨(0), ea_, H', ⟨Nat.le_refl _⟩, ⟨bel⟩⟩
 case round =>
  clear H'
  obtain ⟨x3_1, rfl, HA, HK1, HB⟩ := hrel
  cases gk with
  | zero => exact absurd HA.out (by simp [erasureref14_Word.l0])
  | succ k1 =>
   have H := HA.out
   clear HA
   simp only [erasureref14_Word.l0] at H
   by_cases c2 : x3_1 < (a0.size : Int)
   ·rw [if_pos c2] at H
    have c2b0 : decide (x3_1 < (a0.size : Int)) = true := decide_eq_true c2
    clear c2
    by_cases c3 : 0 ≤ x3_1
    ·rw [if_pos c3] at H
     have c3b0 : decide (0 ≤ x3_1) = true := decide_eq_true c3
     clear c3
     replace H := Option.bind_eq_some_iff.mp H
     obtain ⟨t257, A50, H⟩ := H
     replace H : (if t257 = true then (erasureref14_Word.l0 k1 a0 (wrap64 (x3_1 + 1))) else (some false)) = some r := H
     have A5 := Aside0.mk A50
     clear A50
     by_cases c6 : t257 = true
     ·subst c6
      have H1 : (erasureref14_Word.l0 k1 a0 (wrap64 (x3_1 + 1))) = some r := by rw [if_pos rfl] at H; exact H
      clear H
      have H := H1
      clear H1
      have H' := Aside0.mk H
      clear H
      have p4 : 0 ≤ (x3_1 : Int) := of_decide_eq_true (by first | (with_reducible assumption) | assumption)
      have q4 : x3_1 < (a0.size : Int) := of_decide_eq_true (by first | (with_reducible assumption) | assumption)
      have hx4 := bt_at a0 x3_1
      replace p4 := eq_true p4
      replace q4 := eq_true q4
      go_wp2_with (first | ((with_reducible refine gate_callee (f := 36) rfl ?_); refine goesL_ (some 15) rfl rfl Tryd.func36 (by kernel_rfl) rfl #[.int .u8 (bt a0 x3_1)] rfl gl_ ?_; (with_reducible refine (erasureref14_other.calls (bt a0 x3_1) true _ A5.out).mono ?_); rintro e w' ⟨rfl, ⟨nd, rfl⟩⟩; refine ⟨_, rfl, ?_⟩))
      go_roundg k1
      case measure => have := HK1.out; omega
      case rel => exact ⟨(wrap64 (x3_1 + 1)), ea_, H', ⟨by have := HK1.out; omega⟩, ⟨bel⟩⟩
     ·replace c6 := Bool.eq_false_iff.mpr c6
      subst c6
      have H1 : (some false) = some r := by rw [if_neg (show ¬ (false = true) by decide)] at H; exact H
      clear H
      have H := H1
      clear H1
      obtain rfl := Option.some.inj H
      have p4 : 0 ≤ (x3_1 : Int) := of_decide_eq_true (by first | (with_reducible assumption) | assumption)
      have q4 : x3_1 < (a0.size : Int) := of_decide_eq_true (by first | (with_reducible assumption) | assumption)
      have hx4 := bt_at a0 x3_1
      replace p4 := eq_true p4
      replace q4 := eq_true q4
      go_wp2_with (first | ((with_reducible refine gate_callee (f := 36) rfl ?_); refine goesL_ (some 15) rfl rfl Tryd.func36 (by kernel_rfl) rfl #[.int .u8 (bt a0 x3_1)] rfl gl_ ?_; (with_reducible refine (erasureref14_other.calls (bt a0 x3_1) false _ A5.out).mono ?_); rintro e w' ⟨rfl, ⟨nd, rfl⟩⟩; refine ⟨_, rfl, ?_⟩))
      go_ret
      exact ⟨by first | rfl | (simp [errW_none, errW_some] <;> rfl) | (simp [*, errW_none, errW_some] <;> rfl), bel⟩
    ·rw [if_neg c3] at H
     exact absurd H (by simp)
   ·rw [if_neg c2] at H
    have c2b0 : decide (x3_1 < (a0.size : Int)) = false := decide_eq_false c2
    clear c2
    replace H := Option.bind_eq_some_iff.mp H
    obtain ⟨⟨t258, t259, t260⟩, A70, H⟩ := H
    replace H : (if (a0.size : Int) ≥ 1 then (if (a0.size : Int) ≤ 127 then (some (t260 == 4)) else (some false)) else (some false)) = some r := H
    have A7 := Aside0.mk A70
    clear A70
    by_cases c8 : (a0.size : Int) ≥ 1
    ·rw [if_pos c8] at H
     have c8b0 : decide (1 ≤ (a0.size : Int)) = true := decide_eq_true c8
     have c8b1 : decide (1 ≤ a0.size) = true := decide_eq_true (by omega)
     clear c8
     by_cases c9 : (a0.size : Int) ≤ 127
     ·rw [if_pos c9] at H
      have c9b0 : decide ((a0.size : Int) ≤ 127) = true := decide_eq_true c9
      have c9b1 : decide (a0.size ≤ 127) = true := decide_eq_true (by omega)
      clear c9
      obtain rfl := Option.some.inj H
      go_wp2_with (first | ((with_reducible refine gate_callee (f := 26) rfl ?_); refine goesL_ (some 19) rfl rfl Tryd.func26 (by kernel_rfl) rfl #[.string a0] rfl gl_ ?_; (with_reducible refine (erasureref01_Parse.calls k1 a0 t258 t259 t260 _ A7.out).mono ?_); rintro e w10 ⟨rfl, hb⟩; refine ⟨_, rfl, ?_⟩; have n0_ := Aside0.mk (below_step bel hb); clear HB; have HB := n0_; clear n0_; (try clear hb); (try clear hb2); (try clear hk); (try clear hi)) | ((with_reducible refine gate_dst (N := 4) rfl ?_); (try (refine gate_guard (by rfl) ?_; dsimp only)); refine box_event ?hg (N := 4) ?hd (cs := #[.int .i64 0, .int .i64 0]) (t := 25) ?hr ?_; (case hd => rfl); (case hg => rfl); (case hr => first | (go_simp; done) | (go_simp; rfl)); intro gb261 hg w11 hbox hb; have n0_ := Aside0.mk (below_step bel hb); have n1_ := Aside0.mk (hbox); have n2_ := Aside0.mk ((by rw [hg]; exact (below_size bel) : w.heap.size ≤ gb261)); have n3_ := Aside0.mk ((by rw [hg]; exact (below_size bel) : w.heap.size ≤ gb261)); clear HB; have HB := n0_; have BK261 := n1_; have GW261 := n2_; have GE261 := n3_; clear n0_ n1_ n2_ n3_; clear hb hbox hg; have hcz12_0 : w11.cell? ⟨gb261, 0, none⟩ = some (.int .i64 0) := (blk_cell BK261.out 0).trans rfl; have hcz12_1 : w11.cell? ⟨gb261, 1, none⟩ = some (.int .i64 0) := (blk_cell BK261.out 1).trans rfl; have hfz12_0 := blk_frozen BK261.out 0; have hfz12_1 := blk_frozen BK261.out 1))
      go_ret
      exact ⟨by first | rfl | (simp [errW_none, errW_some] <;> rfl) | (simp [*, errW_none, errW_some] <;> rfl), bel⟩
     ·rw [if_neg c9] at H
      have c9b0 : decide ((a0.size : Int) ≤ 127) = false := decide_eq_false c9
      have c9b1 : decide (a0.size ≤ 127) = false := decide_eq_false (by omega)
      clear c9
      obtain rfl := Option.some.inj H
      go_wp2_with (first | ((with_reducible refine gate_callee (f := 26) rfl ?_); refine goesL_ (some 19) rfl rfl Tryd.func26 (by kernel_rfl) rfl #[.string a0] rfl gl_ ?_; (with_reducible refine (erasureref01_Parse.calls k1 a0 t258 t259 t260 _ A7.out).mono ?_); rintro e w13 ⟨rfl, hb⟩; refine ⟨_, rfl, ?_⟩; have n0_ := Aside0.mk (below_step bel hb); clear HB; have HB := n0_; clear n0_; (try clear hb); (try clear hb2); (try clear hk); (try clear hi)) | ((with_reducible refine gate_dst (N := 4) rfl ?_); (try (refine gate_guard (by rfl) ?_; dsimp only)); refine box_event ?hg (N := 4) ?hd (cs := #[.int .i64 0, .int .i64 0]) (t := 25) ?hr ?_; (case hd => rfl); (case hg => rfl); (case hr => first | (go_simp; done) | (go_simp; rfl)); intro gb261 hg w14 hbox hb; have n0_ := Aside0.mk (below_step bel hb); have n1_ := Aside0.mk (hbox); have n2_ := Aside0.mk ((by rw [hg]; exact (below_size bel) : w.heap.size ≤ gb261)); have n3_ := Aside0.mk ((by rw [hg]; exact (below_size bel) : w.heap.size ≤ gb261)); clear HB; have HB := n0_; have BK261 := n1_; have GW261 := n2_; have GE261 := n3_; clear n0_ n1_ n2_ n3_; clear hb hbox hg; have hcz15_0 : w14.cell? ⟨gb261, 0, none⟩ = some (.int .i64 0) := (blk_cell BK261.out 0).trans rfl; have hcz15_1 : w14.cell? ⟨gb261, 1, none⟩ = some (.int .i64 0) := (blk_cell BK261.out 1).trans rfl; have hfz15_0 := blk_frozen BK261.out 0; have hfz15_1 := blk_frozen BK261.out 1))
      go_ret
      exact ⟨by first | rfl | (simp [errW_none, errW_some] <;> rfl) | (simp [*, errW_none, errW_some] <;> rfl), bel⟩
    ·rw [if_neg c8] at H
     have c8b0 : decide (1 ≤ (a0.size : Int)) = false := decide_eq_false c8
     have c8b1 : decide (1 ≤ a0.size) = false := decide_eq_false (by omega)
     clear c8
     obtain rfl := Option.some.inj H
     go_wp2_with (first | ((with_reducible refine gate_callee (f := 26) rfl ?_); refine goesL_ (some 19) rfl rfl Tryd.func26 (by kernel_rfl) rfl #[.string a0] rfl gl_ ?_; (with_reducible refine (erasureref01_Parse.calls k1 a0 t258 t259 t260 _ A7.out).mono ?_); rintro e w16 ⟨rfl, hb⟩; refine ⟨_, rfl, ?_⟩; have n0_ := Aside0.mk (below_step bel hb); clear HB; have HB := n0_; clear n0_; (try clear hb); (try clear hb2); (try clear hk); (try clear hi)) | ((with_reducible refine gate_dst (N := 4) rfl ?_); (try (refine gate_guard (by rfl) ?_; dsimp only)); refine box_event ?hg (N := 4) ?hd (cs := #[.int .i64 0, .int .i64 0]) (t := 25) ?hr ?_; (case hd => rfl); (case hg => rfl); (case hr => first | (go_simp; done) | (go_simp; rfl)); intro gb261 hg w17 hbox hb; have n0_ := Aside0.mk (below_step bel hb); have n1_ := Aside0.mk (hbox); have n2_ := Aside0.mk ((by rw [hg]; exact (below_size bel) : w.heap.size ≤ gb261)); have n3_ := Aside0.mk ((by rw [hg]; exact (below_size bel) : w.heap.size ≤ gb261)); clear HB; have HB := n0_; have BK261 := n1_; have GW261 := n2_; have GE261 := n3_; clear n0_ n1_ n2_ n3_; clear hb hbox hg; have hcz18_0 : w17.cell? ⟨gb261, 0, none⟩ = some (.int .i64 0) := (blk_cell BK261.out 0).trans rfl; have hcz18_1 : w17.cell? ⟨gb261, 1, none⟩ = some (.int .i64 0) := (blk_cell BK261.out 1).trans rfl; have hfz18_0 := blk_frozen BK261.out 0; have hfz18_1 := blk_frozen BK261.out 1))
     go_ret
     exact ⟨by first | rfl | (simp [errW_none, errW_some] <;> rfl) | (simp [*, errW_none, errW_some] <;> rfl), bel⟩
def erasureref14_Right.f (k : Nat) (a0_0 : Int) (a0_1 : Int) (a0_2 : Int) (a0_3 : ByteArray) : Option (Bool) := if a0_0 = 1 then ((erasureref01_Right.f a0_1 a0_2).bind fun t263 => (if t263 = true then (some (a0_3.toList == ([] : List UInt8))) else (some false))) else (if (!(a0_1 == 0) || (!(a0_2 == 0))) = true then (some false) else (if a0_0 = 2 then ((erasureref14_Name.f k a0_3).bind fun t264 => (some t264)) else (if a0_0 = 3 then (some (decide ((a0_3.size : Int) ≤ 65535))) else (if a0_0 = 4 then ((erasureref14_Word.f k a0_3).bind fun t265 => (some t265)) else (if a0_0 ≥ 0 then (if a0_0 ≤ 8 then (some (a0_3.toList == ([] : List UInt8))) else (some false)) else (some false))))))
set_option maxHeartbeats 8000000 in
set_option maxRecDepth 100000 in
theorem erasureref14_Right.calls (k : Nat) (a0_0 : Int) (a0_1 : Int) (a0_2 : Int) (a0_3 : ByteArray) (r : Bool) (w : World) (h : erasureref14_Right.f k a0_0 a0_1 a0_2 a0_3 = some r) :
  Calls Tryd.prog 34 #[.agg #[.int .i64 a0_0, .int .i64 a0_1, .int .i64 a0_2, .string a0_3]] w fun e w' => e = .returned (.bool r) ∧ Below w.heap.size w w' := by
 have hu27 := Tryd.underlying27
 have hu25 := Tryd.underlying25
 have HB := Aside0.mk (Below.refl w.heap.size w)
 have H : (if a0_0 = 1 then ((erasureref01_Right.f a0_1 a0_2).bind fun t263 => (if t263 = true then (some (a0_3.toList == ([] : List UInt8))) else (some false))) else (if (!(a0_1 == 0) || (!(a0_2 == 0))) = true then (some false) else (if a0_0 = 2 then ((erasureref14_Name.f k a0_3).bind fun t264 => (some t264)) else (if a0_0 = 3 then (some (decide ((a0_3.size : Int) ≤ 65535))) else (if a0_0 = 4 then ((erasureref14_Word.f k a0_3).bind fun t265 => (some t265)) else (if a0_0 ≥ 0 then (if a0_0 ≤ 8 then (some (a0_3.toList == ([] : List UInt8))) else (some false)) else (some false))))))) = some r := h
 clear h
 by_cases c2 : a0_0 = 1
 ·rw [if_pos c2] at H
  have c2b0 : (a0_0 == 1) = true := beq_iff_eq.mpr c2
  have c2b1 : (a0_0 != 1) = false := bne_eq_false_iff_eq.mpr c2
  clear c2
  replace H := Option.bind_eq_some_iff.mp H
  obtain ⟨t263, A30, H⟩ := H
  replace H : (if t263 = true then (some (a0_3.toList == ([] : List UInt8))) else (some false)) = some r := H
  have A3 := Aside0.mk A30
  clear A30
  by_cases c4 : t263 = true
  ·subst c4
   have H1 : (some (a0_3.toList == ([] : List UInt8))) = some r := by rw [if_pos rfl] at H; exact H
   clear H
   have H := H1
   clear H1
   obtain rfl := Option.some.inj H
   go_enter Tryd.func34, Tryd.ntmps34
   go_wp2_with (first | ((with_reducible refine gate_dst (N := 1) rfl ?_); refine box_event ?hg (N := 1) ?hd (cs := #[.int .i64 a0_0, .int .i64 a0_1, .int .i64 a0_2, .string a0_3]) (t := 27) ?hr ?_; (case hd => rfl); (case hg => rfl); (case hr => first | (go_simp; done) | (go_simp; rfl)); intro gb262 hg w5 hbox hb; have n0_ := Aside0.mk (below_step bel hb); have n1_ := Aside0.mk (hbox); have n2_ := Aside0.mk ((by rw [hg]; exact (below_size bel) : w.heap.size ≤ gb262)); have n3_ := Aside0.mk ((by rw [hg]; exact (below_size bel) : w.heap.size ≤ gb262)); clear HB; have HB := n0_; have BK262 := n1_; have GW262 := n2_; have GE262 := n3_; clear n0_ n1_ n2_ n3_; clear hb hbox hg; have hcz6_0 : w5.cell? ⟨gb262, 0, none⟩ = some (.int .i64 a0_0) := (blk_cell BK262.out 0).trans rfl; have hcz6_1 : w5.cell? ⟨gb262, 1, none⟩ = some (.int .i64 a0_1) := (blk_cell BK262.out 1).trans rfl; have hcz6_2 : w5.cell? ⟨gb262, 2, none⟩ = some (.int .i64 a0_2) := (blk_cell BK262.out 2).trans rfl; have hcz6_3 : w5.cell? ⟨gb262, 3, none⟩ = some (.string a0_3) := (blk_cell BK262.out 3).trans rfl; have hfz6_0 := blk_frozen BK262.out 0; have hfz6_1 := blk_frozen BK262.out 1; have hfz6_2 := blk_frozen BK262.out 2; have hfz6_3 := blk_frozen BK262.out 3) | ((with_reducible refine gate_callee (f := 64) rfl ?_); refine goesL_ (some 8) rfl rfl Tryd.func64 (by kernel_rfl) rfl #[.agg #[.int .i64 a0_1, .int .i64 a0_2]] rfl gl_ ?_; (with_reducible refine (erasureref01_Right.calls a0_1 a0_2 true _ A3.out).mono ?_); rintro e w7 ⟨rfl, hb⟩; refine ⟨_, rfl, ?_⟩; have n0_ := Aside0.mk (blk_below (bkk BK262.out) hb); have n1_ := Aside0.mk (below_step bel hb); clear BK262; clear HB; have BK262 := n0_; have HB := n1_; clear n0_ n1_; (try clear hb); (try clear hb2); (try clear hk); (try clear hi); have hcz8_0 : w7.cell? ⟨gb262, 0, none⟩ = some (.int .i64 a0_0) := (blk_cell BK262.out 0).trans rfl; have hcz8_1 : w7.cell? ⟨gb262, 1, none⟩ = some (.int .i64 a0_1) := (blk_cell BK262.out 1).trans rfl; have hcz8_2 : w7.cell? ⟨gb262, 2, none⟩ = some (.int .i64 a0_2) := (blk_cell BK262.out 2).trans rfl; have hcz8_3 : w7.cell? ⟨gb262, 3, none⟩ = some (.string a0_3) := (blk_cell BK262.out 3).trans rfl; have hfz8_0 := blk_frozen BK262.out 0; have hfz8_1 := blk_frozen BK262.out 1; have hfz8_2 := blk_frozen BK262.out 2; have hfz8_3 := blk_frozen BK262.out 3))
   go_ret
   exact ⟨by first | rfl | (simp [errW_none, errW_some] <;> rfl) | (simp [*, errW_none, errW_some] <;> rfl), bel⟩
  ·replace c4 := Bool.eq_false_iff.mpr c4
   subst c4
   have H1 : (some false) = some r := by rw [if_neg (show ¬ (false = true) by decide)] at H; exact H
   clear H
   have H := H1
   clear H1
   obtain rfl := Option.some.inj H
   go_enter Tryd.func34, Tryd.ntmps34
   go_wp2_with (first | ((with_reducible refine gate_dst (N := 1) rfl ?_); refine box_event ?hg (N := 1) ?hd (cs := #[.int .i64 a0_0, .int .i64 a0_1, .int .i64 a0_2, .string a0_3]) (t := 27) ?hr ?_; (case hd => rfl); (case hg => rfl); (case hr => first | (go_simp; done) | (go_simp; rfl)); intro gb262 hg w9 hbox hb; have n0_ := Aside0.mk (below_step bel hb); have n1_ := Aside0.mk (hbox); have n2_ := Aside0.mk ((by rw [hg]; exact (below_size bel) : w.heap.size ≤ gb262)); have n3_ := Aside0.mk ((by rw [hg]; exact (below_size bel) : w.heap.size ≤ gb262)); clear HB; have HB := n0_; have BK262 := n1_; have GW262 := n2_; have GE262 := n3_; clear n0_ n1_ n2_ n3_; clear hb hbox hg; have hcz10_0 : w9.cell? ⟨gb262, 0, none⟩ = some (.int .i64 a0_0) := (blk_cell BK262.out 0).trans rfl; have hcz10_1 : w9.cell? ⟨gb262, 1, none⟩ = some (.int .i64 a0_1) := (blk_cell BK262.out 1).trans rfl; have hcz10_2 : w9.cell? ⟨gb262, 2, none⟩ = some (.int .i64 a0_2) := (blk_cell BK262.out 2).trans rfl; have hcz10_3 : w9.cell? ⟨gb262, 3, none⟩ = some (.string a0_3) := (blk_cell BK262.out 3).trans rfl; have hfz10_0 := blk_frozen BK262.out 0; have hfz10_1 := blk_frozen BK262.out 1; have hfz10_2 := blk_frozen BK262.out 2; have hfz10_3 := blk_frozen BK262.out 3) | ((with_reducible refine gate_callee (f := 64) rfl ?_); refine goesL_ (some 8) rfl rfl Tryd.func64 (by kernel_rfl) rfl #[.agg #[.int .i64 a0_1, .int .i64 a0_2]] rfl gl_ ?_; (with_reducible refine (erasureref01_Right.calls a0_1 a0_2 false _ A3.out).mono ?_); rintro e w11 ⟨rfl, hb⟩; refine ⟨_, rfl, ?_⟩; have n0_ := Aside0.mk (blk_below (bkk BK262.out) hb); have n1_ := Aside0.mk (below_step bel hb); clear BK262; clear HB; have BK262 := n0_; have HB := n1_; clear n0_ n1_; (try clear hb); (try clear hb2); (try clear hk); (try clear hi)))
   go_ret
   exact ⟨by first | rfl | (simp [errW_none, errW_some] <;> rfl) | (simp [*, errW_none, errW_some] <;> rfl), bel⟩
 ·rw [if_neg c2] at H
  have c2b0 : (a0_0 == 1) = false := beq_eq_false_iff_ne.mpr c2
  have c2b1 : (a0_0 != 1) = true := bne_iff_ne.mpr c2
  by_cases c12 : (!(a0_1 == 0) || (!(a0_2 == 0))) = true
  ·rw [if_pos c12] at H
   have c12b0 : (!(a0_1 == 0) || (!(a0_2 == 0))) = true := c12
   clear c12
   obtain rfl := Option.some.inj H
   go_enter Tryd.func34, Tryd.ntmps34
   go_wp2_with (first | ((with_reducible refine gate_dst (N := 1) rfl ?_); refine box_event ?hg (N := 1) ?hd (cs := #[.int .i64 a0_0, .int .i64 a0_1, .int .i64 a0_2, .string a0_3]) (t := 27) ?hr ?_; (case hd => rfl); (case hg => rfl); (case hr => first | (go_simp; done) | (go_simp; rfl)); intro gb262 hg w13 hbox hb; have n0_ := Aside0.mk (below_step bel hb); have n1_ := Aside0.mk (hbox); have n2_ := Aside0.mk ((by rw [hg]; exact (below_size bel) : w.heap.size ≤ gb262)); have n3_ := Aside0.mk ((by rw [hg]; exact (below_size bel) : w.heap.size ≤ gb262)); clear HB; have HB := n0_; have BK262 := n1_; have GW262 := n2_; have GE262 := n3_; clear n0_ n1_ n2_ n3_; clear hb hbox hg; have hcz14_0 : w13.cell? ⟨gb262, 0, none⟩ = some (.int .i64 a0_0) := (blk_cell BK262.out 0).trans rfl; have hcz14_1 : w13.cell? ⟨gb262, 1, none⟩ = some (.int .i64 a0_1) := (blk_cell BK262.out 1).trans rfl; have hcz14_2 : w13.cell? ⟨gb262, 2, none⟩ = some (.int .i64 a0_2) := (blk_cell BK262.out 2).trans rfl; have hcz14_3 : w13.cell? ⟨gb262, 3, none⟩ = some (.string a0_3) := (blk_cell BK262.out 3).trans rfl; have hfz14_0 := blk_frozen BK262.out 0; have hfz14_1 := blk_frozen BK262.out 1; have hfz14_2 := blk_frozen BK262.out 2; have hfz14_3 := blk_frozen BK262.out 3))
   go_ret
   exact ⟨by first | rfl | (simp [errW_none, errW_some] <;> rfl) | (simp [*, errW_none, errW_some] <;> rfl), bel⟩
  ·rw [if_neg c12] at H
   have c12b0 : (!(a0_1 == 0) || (!(a0_2 == 0))) = false := by simpa using c12
   clear c12
   by_cases c15 : a0_0 = 2
   ·rw [if_pos c15] at H
    have c15b0 : (a0_0 == 2) = true := beq_iff_eq.mpr c15
    have c15b1 : (a0_0 != 2) = false := bne_eq_false_iff_eq.mpr c15
    clear c15
    replace H := Option.bind_eq_some_iff.mp H
    obtain ⟨t264, A160, H⟩ := H
    replace H : (some t264) = some r := H
    have A16 := Aside0.mk A160
    clear A160
    obtain rfl := Option.some.inj H
    go_enter Tryd.func34, Tryd.ntmps34
    go_wp2_with (first | ((with_reducible refine gate_dst (N := 1) rfl ?_); refine box_event ?hg (N := 1) ?hd (cs := #[.int .i64 a0_0, .int .i64 a0_1, .int .i64 a0_2, .string a0_3]) (t := 27) ?hr ?_; (case hd => rfl); (case hg => rfl); (case hr => first | (go_simp; done) | (go_simp; rfl)); intro gb262 hg w17 hbox hb; have n0_ := Aside0.mk (below_step bel hb); have n1_ := Aside0.mk (hbox); have n2_ := Aside0.mk ((by rw [hg]; exact (below_size bel) : w.heap.size ≤ gb262)); have n3_ := Aside0.mk ((by rw [hg]; exact (below_size bel) : w.heap.size ≤ gb262)); clear HB; have HB := n0_; have BK262 := n1_; have GW262 := n2_; have GE262 := n3_; clear n0_ n1_ n2_ n3_; clear hb hbox hg; have hcz18_0 : w17.cell? ⟨gb262, 0, none⟩ = some (.int .i64 a0_0) := (blk_cell BK262.out 0).trans rfl; have hcz18_1 : w17.cell? ⟨gb262, 1, none⟩ = some (.int .i64 a0_1) := (blk_cell BK262.out 1).trans rfl; have hcz18_2 : w17.cell? ⟨gb262, 2, none⟩ = some (.int .i64 a0_2) := (blk_cell BK262.out 2).trans rfl; have hcz18_3 : w17.cell? ⟨gb262, 3, none⟩ = some (.string a0_3) := (blk_cell BK262.out 3).trans rfl; have hfz18_0 := blk_frozen BK262.out 0; have hfz18_1 := blk_frozen BK262.out 1; have hfz18_2 := blk_frozen BK262.out 2; have hfz18_3 := blk_frozen BK262.out 3) | ((with_reducible refine gate_callee (f := 65) rfl ?_); refine goesL_ (some 24) rfl rfl Tryd.func65 (by kernel_rfl) rfl #[.string a0_3] rfl gl_ ?_; (with_reducible refine (erasureref14_Name.calls k a0_3 t264 _ A16.out).mono ?_); rintro e w' ⟨rfl, ⟨nd, rfl⟩⟩; refine ⟨_, rfl, ?_⟩))
    go_ret
    exact ⟨by first | rfl | (simp [errW_none, errW_some] <;> rfl) | (simp [*, errW_none, errW_some] <;> rfl), bel⟩
   ·rw [if_neg c15] at H
    have c15b0 : (a0_0 == 2) = false := beq_eq_false_iff_ne.mpr c15
    have c15b1 : (a0_0 != 2) = true := bne_iff_ne.mpr c15
    by_cases c19 : a0_0 = 3
    ·rw [if_pos c19] at H
     have c19b0 : (a0_0 == 3) = true := beq_iff_eq.mpr c19
     have c19b1 : (a0_0 != 3) = false := bne_eq_false_iff_eq.mpr c19
     clear c19
     obtain rfl := Option.some.inj H
     go_enter Tryd.func34, Tryd.ntmps34
     go_wp2_with (first | ((with_reducible refine gate_dst (N := 1) rfl ?_); refine box_event ?hg (N := 1) ?hd (cs := #[.int .i64 a0_0, .int .i64 a0_1, .int .i64 a0_2, .string a0_3]) (t := 27) ?hr ?_; (case hd => rfl); (case hg => rfl); (case hr => first | (go_simp; done) | (go_simp; rfl)); intro gb262 hg w20 hbox hb; have n0_ := Aside0.mk (below_step bel hb); have n1_ := Aside0.mk (hbox); have n2_ := Aside0.mk ((by rw [hg]; exact (below_size bel) : w.heap.size ≤ gb262)); have n3_ := Aside0.mk ((by rw [hg]; exact (below_size bel) : w.heap.size ≤ gb262)); clear HB; have HB := n0_; have BK262 := n1_; have GW262 := n2_; have GE262 := n3_; clear n0_ n1_ n2_ n3_; clear hb hbox hg; have hcz21_0 : w20.cell? ⟨gb262, 0, none⟩ = some (.int .i64 a0_0) := (blk_cell BK262.out 0).trans rfl; have hcz21_1 : w20.cell? ⟨gb262, 1, none⟩ = some (.int .i64 a0_1) := (blk_cell BK262.out 1).trans rfl; have hcz21_2 : w20.cell? ⟨gb262, 2, none⟩ = some (.int .i64 a0_2) := (blk_cell BK262.out 2).trans rfl; have hcz21_3 : w20.cell? ⟨gb262, 3, none⟩ = some (.string a0_3) := (blk_cell BK262.out 3).trans rfl; have hfz21_0 := blk_frozen BK262.out 0; have hfz21_1 := blk_frozen BK262.out 1; have hfz21_2 := blk_frozen BK262.out 2; have hfz21_3 := blk_frozen BK262.out 3))
     go_ret
     exact ⟨by first | rfl | (simp [errW_none, errW_some] <;> rfl) | (simp [*, errW_none, errW_some] <;> rfl), bel⟩
    ·rw [if_neg c19] at H
     have c19b0 : (a0_0 == 3) = false := beq_eq_false_iff_ne.mpr c19
     have c19b1 : (a0_0 != 3) = true := bne_iff_ne.mpr c19
     by_cases c22 : a0_0 = 4
     ·rw [if_pos c22] at H
      have c22b0 : (a0_0 == 4) = true := beq_iff_eq.mpr c22
      have c22b1 : (a0_0 != 4) = false := bne_eq_false_iff_eq.mpr c22
      clear c22
      replace H := Option.bind_eq_some_iff.mp H
      obtain ⟨t265, A230, H⟩ := H
      replace H : (some t265) = some r := H
      have A23 := Aside0.mk A230
      clear A230
      obtain rfl := Option.some.inj H
      go_enter Tryd.func34, Tryd.ntmps34
      go_wp2_with (first | ((with_reducible refine gate_dst (N := 1) rfl ?_); refine box_event ?hg (N := 1) ?hd (cs := #[.int .i64 a0_0, .int .i64 a0_1, .int .i64 a0_2, .string a0_3]) (t := 27) ?hr ?_; (case hd => rfl); (case hg => rfl); (case hr => first | (go_simp; done) | (go_simp; rfl)); intro gb262 hg w24 hbox hb; have n0_ := Aside0.mk (below_step bel hb); have n1_ := Aside0.mk (hbox); have n2_ := Aside0.mk ((by rw [hg]; exact (below_size bel) : w.heap.size ≤ gb262)); have n3_ := Aside0.mk ((by rw [hg]; exact (below_size bel) : w.heap.size ≤ gb262)); clear HB; have HB := n0_; have BK262 := n1_; have GW262 := n2_; have GE262 := n3_; clear n0_ n1_ n2_ n3_; clear hb hbox hg; have hcz25_0 : w24.cell? ⟨gb262, 0, none⟩ = some (.int .i64 a0_0) := (blk_cell BK262.out 0).trans rfl; have hcz25_1 : w24.cell? ⟨gb262, 1, none⟩ = some (.int .i64 a0_1) := (blk_cell BK262.out 1).trans rfl; have hcz25_2 : w24.cell? ⟨gb262, 2, none⟩ = some (.int .i64 a0_2) := (blk_cell BK262.out 2).trans rfl; have hcz25_3 : w24.cell? ⟨gb262, 3, none⟩ = some (.string a0_3) := (blk_cell BK262.out 3).trans rfl; have hfz25_0 := blk_frozen BK262.out 0; have hfz25_1 := blk_frozen BK262.out 1; have hfz25_2 := blk_frozen BK262.out 2; have hfz25_3 := blk_frozen BK262.out 3) | ((with_reducible refine gate_callee (f := 66) rfl ?_); refine goesL_ (some 35) rfl rfl Tryd.func66 (by kernel_rfl) rfl #[.string a0_3] rfl gl_ ?_; (with_reducible refine (erasureref14_Word.calls k a0_3 t265 _ A23.out).mono ?_); rintro e w26 ⟨rfl, hb⟩; refine ⟨_, rfl, ?_⟩; have n0_ := Aside0.mk (blk_below (bkk BK262.out) hb); have n1_ := Aside0.mk (below_step bel hb); clear BK262; clear HB; have BK262 := n0_; have HB := n1_; clear n0_ n1_; (try clear hb); (try clear hb2); (try clear hk); (try clear hi)))
      go_ret
      exact ⟨by first | rfl | (simp [errW_none, errW_some] <;> rfl) | (simp [*, errW_none, errW_some] <;> rfl), bel⟩
     ·rw [if_neg c22] at H
      have c22b0 : (a0_0 == 4) = false := beq_eq_false_iff_ne.mpr c22
      have c22b1 : (a0_0 != 4) = true := bne_iff_ne.mpr c22
      by_cases c27 : a0_0 ≥ 0
      ·rw [if_pos c27] at H
       have c27b0 : decide (0 ≤ a0_0) = true := decide_eq_true c27
       clear c27
       by_cases c28 : a0_0 ≤ 8
       ·rw [if_pos c28] at H
        have c28b0 : decide (a0_0 ≤ 8) = true := decide_eq_true c28
        clear c28
        obtain rfl := Option.some.inj H
        go_enter Tryd.func34, Tryd.ntmps34
        go_wp2_with (first | ((with_reducible refine gate_dst (N := 1) rfl ?_); refine box_event ?hg (N := 1) ?hd (cs := #[.int .i64 a0_0, .int .i64 a0_1, .int .i64 a0_2, .string a0_3]) (t := 27) ?hr ?_; (case hd => rfl); (case hg => rfl); (case hr => first | (go_simp; done) | (go_simp; rfl)); intro gb262 hg w29 hbox hb; have n0_ := Aside0.mk (below_step bel hb); have n1_ := Aside0.mk (hbox); have n2_ := Aside0.mk ((by rw [hg]; exact (below_size bel) : w.heap.size ≤ gb262)); have n3_ := Aside0.mk ((by rw [hg]; exact (below_size bel) : w.heap.size ≤ gb262)); clear HB; have HB := n0_; have BK262 := n1_; have GW262 := n2_; have GE262 := n3_; clear n0_ n1_ n2_ n3_; clear hb hbox hg; have hcz30_0 : w29.cell? ⟨gb262, 0, none⟩ = some (.int .i64 a0_0) := (blk_cell BK262.out 0).trans rfl; have hcz30_1 : w29.cell? ⟨gb262, 1, none⟩ = some (.int .i64 a0_1) := (blk_cell BK262.out 1).trans rfl; have hcz30_2 : w29.cell? ⟨gb262, 2, none⟩ = some (.int .i64 a0_2) := (blk_cell BK262.out 2).trans rfl; have hcz30_3 : w29.cell? ⟨gb262, 3, none⟩ = some (.string a0_3) := (blk_cell BK262.out 3).trans rfl; have hfz30_0 := blk_frozen BK262.out 0; have hfz30_1 := blk_frozen BK262.out 1; have hfz30_2 := blk_frozen BK262.out 2; have hfz30_3 := blk_frozen BK262.out 3))
        go_ret
        exact ⟨by first | rfl | (simp [errW_none, errW_some] <;> rfl) | (simp [*, errW_none, errW_some] <;> rfl), bel⟩
       ·rw [if_neg c28] at H
        have c28b0 : decide (a0_0 ≤ 8) = false := decide_eq_false c28
        clear c28
        obtain rfl := Option.some.inj H
        go_enter Tryd.func34, Tryd.ntmps34
        go_wp2_with (first | ((with_reducible refine gate_dst (N := 1) rfl ?_); refine box_event ?hg (N := 1) ?hd (cs := #[.int .i64 a0_0, .int .i64 a0_1, .int .i64 a0_2, .string a0_3]) (t := 27) ?hr ?_; (case hd => rfl); (case hg => rfl); (case hr => first | (go_simp; done) | (go_simp; rfl)); intro gb262 hg w31 hbox hb; have n0_ := Aside0.mk (below_step bel hb); have n1_ := Aside0.mk (hbox); have n2_ := Aside0.mk ((by rw [hg]; exact (below_size bel) : w.heap.size ≤ gb262)); have n3_ := Aside0.mk ((by rw [hg]; exact (below_size bel) : w.heap.size ≤ gb262)); clear HB; have HB := n0_; have BK262 := n1_; have GW262 := n2_; have GE262 := n3_; clear n0_ n1_ n2_ n3_; clear hb hbox hg; have hcz32_0 : w31.cell? ⟨gb262, 0, none⟩ = some (.int .i64 a0_0) := (blk_cell BK262.out 0).trans rfl; have hcz32_1 : w31.cell? ⟨gb262, 1, none⟩ = some (.int .i64 a0_1) := (blk_cell BK262.out 1).trans rfl; have hcz32_2 : w31.cell? ⟨gb262, 2, none⟩ = some (.int .i64 a0_2) := (blk_cell BK262.out 2).trans rfl; have hcz32_3 : w31.cell? ⟨gb262, 3, none⟩ = some (.string a0_3) := (blk_cell BK262.out 3).trans rfl; have hfz32_0 := blk_frozen BK262.out 0; have hfz32_1 := blk_frozen BK262.out 1; have hfz32_2 := blk_frozen BK262.out 2; have hfz32_3 := blk_frozen BK262.out 3))
        go_ret
        exact ⟨by first | rfl | (simp [errW_none, errW_some] <;> rfl) | (simp [*, errW_none, errW_some] <;> rfl), bel⟩
      ·rw [if_neg c27] at H
       have c27b0 : decide (0 ≤ a0_0) = false := decide_eq_false c27
       clear c27
       obtain rfl := Option.some.inj H
       go_enter Tryd.func34, Tryd.ntmps34
       go_wp2_with (first | ((with_reducible refine gate_dst (N := 1) rfl ?_); refine box_event ?hg (N := 1) ?hd (cs := #[.int .i64 a0_0, .int .i64 a0_1, .int .i64 a0_2, .string a0_3]) (t := 27) ?hr ?_; (case hd => rfl); (case hg => rfl); (case hr => first | (go_simp; done) | (go_simp; rfl)); intro gb262 hg w33 hbox hb; have n0_ := Aside0.mk (below_step bel hb); have n1_ := Aside0.mk (hbox); have n2_ := Aside0.mk ((by rw [hg]; exact (below_size bel) : w.heap.size ≤ gb262)); have n3_ := Aside0.mk ((by rw [hg]; exact (below_size bel) : w.heap.size ≤ gb262)); clear HB; have HB := n0_; have BK262 := n1_; have GW262 := n2_; have GE262 := n3_; clear n0_ n1_ n2_ n3_; clear hb hbox hg; have hcz34_0 : w33.cell? ⟨gb262, 0, none⟩ = some (.int .i64 a0_0) := (blk_cell BK262.out 0).trans rfl; have hcz34_1 : w33.cell? ⟨gb262, 1, none⟩ = some (.int .i64 a0_1) := (blk_cell BK262.out 1).trans rfl; have hcz34_2 : w33.cell? ⟨gb262, 2, none⟩ = some (.int .i64 a0_2) := (blk_cell BK262.out 2).trans rfl; have hcz34_3 : w33.cell? ⟨gb262, 3, none⟩ = some (.string a0_3) := (blk_cell BK262.out 3).trans rfl; have hfz34_0 := blk_frozen BK262.out 0; have hfz34_1 := blk_frozen BK262.out 1; have hfz34_2 := blk_frozen BK262.out 2; have hfz34_3 := blk_frozen BK262.out 3))
       go_ret
       exact ⟨by first | rfl | (simp [errW_none, errW_some] <;> rfl) | (simp [*, errW_none, errW_some] <;> rfl), bel⟩
end Go.Proofs.YtnhgnejfagncpaaDoor.L
end
