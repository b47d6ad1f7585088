/- Put together: L10, Q2, PlainTell, PlainDec, PlainMath (each in a section of its own). -/
import Derived.Test.YtnhgnejfagncpaaDoorLot2
import Derived.Test.YtnhgnejfagncpaaDoorLot8
import Derived.Test.YtnhgnejfagncpaaDoorLot10
import Derived.Test.YtnhgnejfagncpaaDoorLot3
import Derived.Laws.Bits64b
import Derived.Test.YtnhgnejfagncpaaDoorLot5
section
-- written by my own driver of the kit's print (wip/tools/myprint.py); Lean checks it.
namespace Go.Proofs.YtnhgnejfagncpaaDoor.L
open Go.RowKit Go.Proofs.YtnhgnejfagncpaaDoorW.PrintWords Go.Proofs.YtnhgnejfagncpaaDoorW.PrintLast Go.Proofs.YtnhgnejfagncpaaDoorW.PrintMore Go.Proofs.YtnhgnejfagncpaaDoor.H Go.Proofs.YtnhgnejfagncpaaDoor.A Go.Proofs.YtnhgnejfagncpaaDoor.B Go.Proofs.YtnhgnejfagncpaaDoor.E
attribute [local go_sem] max2_int min2_int max_two min_two max_three min_three max_four min_four   -- for this text's walks alone
set_option linter.unusedVariables false
set_option linter.unusedSimpArgs false
mutual
def erasureref14_Print.l0 : Nat → ByteArray → Int → Int → Int → Int → ByteArray → Option (ByteArray × Int)
 | 0, _, _, _, _, _, _ => none
 | k + 1, x4, x5, x289000, x289001, x289002, x289003 => if x5 < (x289003.size : Int) then (if 0 ≤ x5 then ((erasureref14_other.f (bt x289003 x5)).bind fun t292 => (if t292 = true then (if (bt x289003 x5) = 35 then (if x4.size + 1 ≤ 9223372036854775807 then ((erasureref14_two.f (bt x289003 x5)).bind fun t293 => (if (x4 ++ (⟨#[35]⟩ : ByteArray)).size + t293.size ≤ 9223372036854775807 then (erasureref14_Print.l0 k ((x4 ++ (⟨#[35]⟩ : ByteArray)) ++ t293) (wrap64 (x5 + 1)) x289000 x289001 x289002 x289003) else (none))) else (none)) else (if (bt x289003 x5) < 33 then (if x4.size + 1 ≤ 9223372036854775807 then ((erasureref14_two.f (bt x289003 x5)).bind fun t294 => (if (x4 ++ (⟨#[35]⟩ : ByteArray)).size + t294.size ≤ 9223372036854775807 then (erasureref14_Print.l0 k ((x4 ++ (⟨#[35]⟩ : ByteArray)) ++ t294) (wrap64 (x5 + 1)) x289000 x289001 x289002 x289003) else (none))) else (none)) else (if (bt x289003 x5) > 126 then (if x4.size + 1 ≤ 9223372036854775807 then ((erasureref14_two.f (bt x289003 x5)).bind fun t295 => (if (x4 ++ (⟨#[35]⟩ : ByteArray)).size + t295.size ≤ 9223372036854775807 then (erasureref14_Print.l0 k ((x4 ++ (⟨#[35]⟩ : ByteArray)) ++ t295) (wrap64 (x5 + 1)) x289000 x289001 x289002 x289003) else (none))) else (none)) else (if x5 ≤ (wrap64 (x5 + 1)) then (if (wrap64 (x5 + 1)) ≤ (x289003.size : Int) then (if x4.size + (x289003.extract (x5 : Int).toNat ((wrap64 (x5 + 1)) : Int).toNat).size ≤ 9223372036854775807 then (erasureref14_Print.l0 k (x4 ++ (x289003.extract (x5 : Int).toNat ((wrap64 (x5 + 1)) : Int).toNat)) (wrap64 (x5 + 1)) x289000 x289001 x289002 x289003) else (none)) else (none)) else (none))))) else (if x4.size + 1 ≤ 9223372036854775807 then ((erasureref14_two.f (bt x289003 x5)).bind fun t296 => (if (x4 ++ (⟨#[35]⟩ : ByteArray)).size + t296.size ≤ 9223372036854775807 then (erasureref14_Print.l0 k ((x4 ++ (⟨#[35]⟩ : ByteArray)) ++ t296) (wrap64 (x5 + 1)) x289000 x289001 x289002 x289003) else (none))) else (none)))) else (none)) else (some (x4, 0))
def erasureref14_Print.l1 : Nat → ByteArray → Int → Int → Int → Int → ByteArray → Option (ByteArray × Int)
 | 0, _, _, _, _, _, _ => none
 | k + 1, x4, x7, x289000, x289001, x289002, x289003 => if x7 < (x289003.size : Int) then (if 0 ≤ x7 then ((erasureref14_two.f (bt x289003 x7)).bind fun t297 => (if x4.size + t297.size ≤ 9223372036854775807 then (erasureref14_Print.l1 k (x4 ++ t297) (wrap64 (x7 + 1)) x289000 x289001 x289002 x289003) else (none))) else (none)) else (if x4.size + 1 ≤ 9223372036854775807 then (some (x4 ++ (⟨#[62]⟩ : ByteArray), 0)) else (none))
end
def erasureref14_Print.f (k : Nat) (a0_0 : Int) (a0_1 : Int) (a0_2 : Int) (a0_3 : ByteArray) : Option (ByteArray × Int) := (erasureref14_Right.f k a0_0 a0_1 a0_2 a0_3).bind fun t289 => (if t289 = true then (if a0_0 = 1 then ((erasureref01_Print.f k a0_1 a0_2).bind fun bt290 => (some (bt290.1, bt290.2))) else (if a0_0 = 2 then (erasureref14_Print.l0 k (⟨#[47]⟩ : ByteArray) 0 a0_0 a0_1 a0_2 a0_3) else (if a0_0 = 3 then (erasureref14_Print.l1 k (⟨#[60]⟩ : ByteArray) 0 a0_0 a0_1 a0_2 a0_3) else (if a0_0 = 4 then (some (a0_3, 0)) else ((some (([(⟨#[]⟩ : ByteArray), (⟨#[]⟩ : ByteArray), (⟨#[]⟩ : ByteArray), (⟨#[]⟩ : ByteArray), (⟨#[]⟩ : ByteArray), (⟨#[91]⟩ : ByteArray), (⟨#[93]⟩ : ByteArray), (⟨#[60, 60]⟩ : ByteArray), (⟨#[62, 62]⟩ : ByteArray)] : List ByteArray) : List ByteArray)).bind fun y298 => (if 0 ≤ a0_0 then (if a0_0 < (y298.length : Int) then (some (rdOf ByteArray.empty y298 a0_0, 0)) else (none)) else (none))))))) else (some ((⟨#[]⟩ : ByteArray), 1)))
set_option maxHeartbeats 8000000 in
set_option maxRecDepth 100000 in
theorem erasureref14_Print.calls (k : Nat) (a0_0 : Int) (a0_1 : Int) (a0_2 : Int) (a0_3 : ByteArray) (r1 : ByteArray) (r2 : Int) (w : World) (h : erasureref14_Print.f k a0_0 a0_1 a0_2 a0_3 = some (r1, r2)) :
  Calls Tryd.prog 14 #[.agg #[.int .i64 a0_0, .int .i64 a0_1, .int .i64 a0_2, .string a0_3]] w fun e w' => e = .returned (.tuple #[.string r1, .int .i64 r2]) ∧ Below w.heap.size w w' := by
 have hu27 := Tryd.underlying27
 have hu25 := Tryd.underlying25
 have HB := Aside0.mk (Below.refl w.heap.size w)
 have H : ((erasureref14_Right.f k a0_0 a0_1 a0_2 a0_3).bind fun t289 => (if t289 = true then (if a0_0 = 1 then ((erasureref01_Print.f k a0_1 a0_2).bind fun bt290 => (some (bt290.1, bt290.2))) else (if a0_0 = 2 then (erasureref14_Print.l0 k (⟨#[47]⟩ : ByteArray) 0 a0_0 a0_1 a0_2 a0_3) else (if a0_0 = 3 then (erasureref14_Print.l1 k (⟨#[60]⟩ : ByteArray) 0 a0_0 a0_1 a0_2 a0_3) else (if a0_0 = 4 then (some (a0_3, 0)) else ((some (([(⟨#[]⟩ : ByteArray), (⟨#[]⟩ : ByteArray), (⟨#[]⟩ : ByteArray), (⟨#[]⟩ : ByteArray), (⟨#[]⟩ : ByteArray), (⟨#[91]⟩ : ByteArray), (⟨#[93]⟩ : ByteArray), (⟨#[60, 60]⟩ : ByteArray), (⟨#[62, 62]⟩ : ByteArray)] : List ByteArray) : List ByteArray)).bind fun y298 => (if 0 ≤ a0_0 then (if a0_0 < (y298.length : Int) then (some (rdOf ByteArray.empty y298 a0_0, 0)) else (none)) else (none))))))) else (some ((⟨#[]⟩ : ByteArray), 1)))) = some (r1, r2) := h
 clear h
 replace H := Option.bind_eq_some_iff.mp H
 obtain ⟨t289, A20, H⟩ := H
 replace H : (if t289 = true then (if a0_0 = 1 then ((erasureref01_Print.f k a0_1 a0_2).bind fun bt290 => (some (bt290.1, bt290.2))) else (if a0_0 = 2 then (erasureref14_Print.l0 k (⟨#[47]⟩ : ByteArray) 0 a0_0 a0_1 a0_2 a0_3) else (if a0_0 = 3 then (erasureref14_Print.l1 k (⟨#[60]⟩ : ByteArray) 0 a0_0 a0_1 a0_2 a0_3) else (if a0_0 = 4 then (some (a0_3, 0)) else ((some (([(⟨#[]⟩ : ByteArray), (⟨#[]⟩ : ByteArray), (⟨#[]⟩ : ByteArray), (⟨#[]⟩ : ByteArray), (⟨#[]⟩ : ByteArray), (⟨#[91]⟩ : ByteArray), (⟨#[93]⟩ : ByteArray), (⟨#[60, 60]⟩ : ByteArray), (⟨#[62, 62]⟩ : ByteArray)] : List ByteArray) : List ByteArray)).bind fun y298 => (if 0 ≤ a0_0 then (if a0_0 < (y298.length : Int) then (some (rdOf ByteArray.empty y298 a0_0, 0)) else (none)) else (none))))))) else (some ((⟨#[]⟩ : ByteArray), 1))) = some (r1, r2) := H
 have A2 := Aside0.mk A20
 clear A20
 by_cases c3 : t289 = true
 ·subst c3
  have H1 : (if a0_0 = 1 then ((erasureref01_Print.f k a0_1 a0_2).bind fun bt290 => (some (bt290.1, bt290.2))) else (if a0_0 = 2 then (erasureref14_Print.l0 k (⟨#[47]⟩ : ByteArray) 0 a0_0 a0_1 a0_2 a0_3) else (if a0_0 = 3 then (erasureref14_Print.l1 k (⟨#[60]⟩ : ByteArray) 0 a0_0 a0_1 a0_2 a0_3) else (if a0_0 = 4 then (some (a0_3, 0)) else ((some (([(⟨#[]⟩ : ByteArray), (⟨#[]⟩ : ByteArray), (⟨#[]⟩ : ByteArray), (⟨#[]⟩ : ByteArray), (⟨#[]⟩ : ByteArray), (⟨#[91]⟩ : ByteArray), (⟨#[93]⟩ : ByteArray), (⟨#[60, 60]⟩ : ByteArray), (⟨#[62, 62]⟩ : ByteArray)] : List ByteArray) : List ByteArray)).bind fun y298 => (if 0 ≤ a0_0 then (if a0_0 < (y298.length : Int) then (some (rdOf ByteArray.empty y298 a0_0, 0)) else (none)) else (none))))))) = some (r1, r2) := by rw [if_pos rfl] at H; exact H
  clear H
  have H := H1
  clear H1
  by_cases c4 : a0_0 = 1
  ·rw [if_pos c4] at H
   have c4b0 : (a0_0 == 1) = true := beq_iff_eq.mpr c4
   have c4b1 : (a0_0 != 1) = false := bne_eq_false_iff_eq.mpr c4
   clear c4
   replace H := Option.bind_eq_some_iff.mp H
   obtain ⟨⟨t290, t291⟩, A50, H⟩ := H
   replace H : (some (t290, t291)) = some (r1, r2) := H
   have A5 := Aside0.mk A50
   clear A50
   simp only [Option.some.injEq, Prod.mk.injEq] at H
   obtain ⟨rfl, rfl⟩ := H
   go_enter Tryd.func14, Tryd.ntmps14
   go_wp2_with (first | ((with_reducible refine gate_dst (N := 1) rfl ?_); refine box_event ?hg (N := 1) ?hd (cs := #[.int .i64 a0_0, .int .i64 a0_1, .int .i64 a0_2, .string a0_3]) (t := 27) ?hr ?_; (case hd => rfl); (case hg => rfl); (case hr => first | (go_simp; done) | (go_simp; rfl)); intro gb288 hg w6 hbox hb; have n0_ := Aside0.mk (below_step bel hb); have n1_ := Aside0.mk (hbox); have n2_ := Aside0.mk ((by rw [hg]; exact (below_size bel) : w.heap.size ≤ gb288)); have n3_ := Aside0.mk ((by rw [hg]; exact (below_size bel) : w.heap.size ≤ gb288)); clear HB; have HB := n0_; have BK288 := n1_; have GW288 := n2_; have GE288 := n3_; clear n0_ n1_ n2_ n3_; clear hb hbox hg; have hcz7_0 : w6.cell? ⟨gb288, 0, none⟩ = some (.int .i64 a0_0) := (blk_cell BK288.out 0).trans rfl; have hcz7_1 : w6.cell? ⟨gb288, 1, none⟩ = some (.int .i64 a0_1) := (blk_cell BK288.out 1).trans rfl; have hcz7_2 : w6.cell? ⟨gb288, 2, none⟩ = some (.int .i64 a0_2) := (blk_cell BK288.out 2).trans rfl; have hcz7_3 : w6.cell? ⟨gb288, 3, none⟩ = some (.string a0_3) := (blk_cell BK288.out 3).trans rfl; have hfz7_0 := blk_frozen BK288.out 0; have hfz7_1 := blk_frozen BK288.out 1; have hfz7_2 := blk_frozen BK288.out 2; have hfz7_3 := blk_frozen BK288.out 3) | ((with_reducible refine gate_callee (f := 34) rfl ?_); refine goesL_ (some 10) rfl rfl Tryd.func34 (by kernel_rfl) rfl #[.agg #[.int .i64 a0_0, .int .i64 a0_1, .int .i64 a0_2, .string a0_3]] rfl gl_ ?_; (with_reducible refine (erasureref14_Right.calls k a0_0 a0_1 a0_2 a0_3 true _ A2.out).mono ?_); rintro e w8 ⟨rfl, hb⟩; refine ⟨_, rfl, ?_⟩; have n0_ := Aside0.mk (blk_below (bkk BK288.out) hb); have n1_ := Aside0.mk (below_step bel hb); clear BK288; clear HB; have BK288 := n0_; have HB := n1_; clear n0_ n1_; (try clear hb); (try clear hb2); (try clear hk); (try clear hi); have hcz9_0 : w8.cell? ⟨gb288, 0, none⟩ = some (.int .i64 a0_0) := (blk_cell BK288.out 0).trans rfl; have hcz9_1 : w8.cell? ⟨gb288, 1, none⟩ = some (.int .i64 a0_1) := (blk_cell BK288.out 1).trans rfl; have hcz9_2 : w8.cell? ⟨gb288, 2, none⟩ = some (.int .i64 a0_2) := (blk_cell BK288.out 2).trans rfl; have hcz9_3 : w8.cell? ⟨gb288, 3, none⟩ = some (.string a0_3) := (blk_cell BK288.out 3).trans rfl; have hfz9_0 := blk_frozen BK288.out 0; have hfz9_1 := blk_frozen BK288.out 1; have hfz9_2 := blk_frozen BK288.out 2; have hfz9_3 := blk_frozen BK288.out 3) | ((with_reducible refine gate_callee (f := 35) rfl ?_); refine goesL_ (some 24) rfl rfl Tryd.func35 (by kernel_rfl) rfl #[.agg #[.int .i64 a0_1, .int .i64 a0_2]] rfl gl_ ?_; (with_reducible refine (erasureref01_Print.calls k a0_1 a0_2 t290 t291 _ A5.out).mono ?_); rintro e w10 ⟨rfl, hb⟩; refine ⟨_, rfl, ?_⟩; have n0_ := Aside0.mk (blk_below (bkk BK288.out) hb); have n1_ := Aside0.mk (below_step bel hb); clear BK288; clear HB; have BK288 := n0_; have HB := n1_; clear n0_ n1_; (try clear hb); (try clear hb2); (try clear hk); (try clear hi)))
   go_ret2
   exact ⟨by first | rfl | (simp [errW_none, errW_some] <;> rfl) | (simp [*, errW_none, errW_some] <;> rfl), bel⟩
  ·rw [if_neg c4] at H
   have c4b0 : (a0_0 == 1) = false := beq_eq_false_iff_ne.mpr c4
   have c4b1 : (a0_0 != 1) = true := bne_iff_ne.mpr c4
   by_cases c11 : a0_0 = 2
   ·rw [if_pos c11] at H
    have c11b0 : (a0_0 == 2) = true := beq_iff_eq.mpr c11
    have c11b1 : (a0_0 != 2) = false := bne_eq_false_iff_eq.mpr c11
    clear c11
    have H' := Aside0.mk H
    clear H
    go_enter Tryd.func14, Tryd.ntmps14
    go_wp2_with (first | ((with_reducible refine gate_dst (N := 1) rfl ?_); refine box_event ?hg (N := 1) ?hd (cs := #[.int .i64 a0_0, .int .i64 a0_1, .int .i64 a0_2, .string a0_3]) (t := 27) ?hr ?_; (case hd => rfl); (case hg => rfl); (case hr => first | (go_simp; done) | (go_simp; rfl)); intro gb288 hg w12 hbox hb; have n0_ := Aside0.mk (below_step bel hb); have n1_ := Aside0.mk (hbox); have n2_ := Aside0.mk ((by rw [hg]; exact (below_size bel) : w.heap.size ≤ gb288)); have n3_ := Aside0.mk ((by rw [hg]; exact (below_size bel) : w.heap.size ≤ gb288)); clear HB; have HB := n0_; have BK288 := n1_; have GW288 := n2_; have GE288 := n3_; clear n0_ n1_ n2_ n3_; clear hb hbox hg; have hcz13_0 : w12.cell? ⟨gb288, 0, none⟩ = some (.int .i64 a0_0) := (blk_cell BK288.out 0).trans rfl; have hcz13_1 : w12.cell? ⟨gb288, 1, none⟩ = some (.int .i64 a0_1) := (blk_cell BK288.out 1).trans rfl; have hcz13_2 : w12.cell? ⟨gb288, 2, none⟩ = some (.int .i64 a0_2) := (blk_cell BK288.out 2).trans rfl; have hcz13_3 : w12.cell? ⟨gb288, 3, none⟩ = some (.string a0_3) := (blk_cell BK288.out 3).trans rfl; have hfz13_0 := blk_frozen BK288.out 0; have hfz13_1 := blk_frozen BK288.out 1; have hfz13_2 := blk_frozen BK288.out 2; have hfz13_3 := blk_frozen BK288.out 3) | ((with_reducible refine gate_callee (f := 34) rfl ?_); refine goesL_ (some 10) rfl rfl Tryd.func34 (by kernel_rfl) rfl #[.agg #[.int .i64 a0_0, .int .i64 a0_1, .int .i64 a0_2, .string a0_3]] rfl gl_ ?_; (with_reducible refine (erasureref14_Right.calls k a0_0 a0_1 a0_2 a0_3 true _ A2.out).mono ?_); rintro e w14 ⟨rfl, hb⟩; refine ⟨_, rfl, ?_⟩; have n0_ := Aside0.mk (blk_below (bkk BK288.out) hb); have n1_ := Aside0.mk (below_step bel hb); clear BK288; clear HB; have BK288 := n0_; have HB := n1_; clear n0_ n1_; (try clear hb); (try clear hb2); (try clear hk); (try clear hi); have hcz15_0 : w14.cell? ⟨gb288, 0, none⟩ = some (.int .i64 a0_0) := (blk_cell BK288.out 0).trans rfl; have hcz15_1 : w14.cell? ⟨gb288, 1, none⟩ = some (.int .i64 a0_1) := (blk_cell BK288.out 1).trans rfl; have hcz15_2 : w14.cell? ⟨gb288, 2, none⟩ = some (.int .i64 a0_2) := (blk_cell BK288.out 2).trans rfl; have hcz15_3 : w14.cell? ⟨gb288, 3, none⟩ = some (.string a0_3) := (blk_cell BK288.out 3).trans rfl; have hfz15_0 := blk_frozen BK288.out 0; have hfz15_1 := blk_frozen BK288.out 1; have hfz15_2 := blk_frozen BK288.out 2; have hfz15_3 := blk_frozen BK288.out 3))
    go_loopg [4, 5] k (fun kq v4 v5 w' => ∃ (x4_1 : ByteArray) (x5_1 : Int), v4 = .string x4_1 ∧ v5 = .int .i64 x5_1 ∧ Aside0 (erasureref14_Print.l0 kq x4_1 x5_1 a0_0 a0_1 a0_2 a0_3 = some (r1, r2)) ∧ Aside0 (kq ≤ k) ∧ Aside0 (w'.heap[gb288]? = some (.cells #[.int .i64 a0_0, .int .i64 a0_1, .int .i64 a0_2, .string a0_3] 27 (0, 0))) ∧ Aside0 (Below w.heap.size w w'))
    case atStart => exact ⟨((⟨#[47]⟩ : ByteArray)), (0), ea_, ea_, H', ⟨Nat.le_refl _⟩, ⟨bkk BK288.out⟩, ⟨bel⟩⟩
    case round =>
     clear H'
     try clear c1
     try clear p2
     try clear c3
     try clear c4
     try clear c4b0
     try clear c4b1
     try clear c11
     try clear c11b0
     try clear c11b1
     try clear c14
     try clear hcz13_0
     try clear hcz13_1
     try clear hcz13_2
     try clear hcz13_3
     try clear hcz15_0
     try clear hcz15_1
     try clear hcz15_2
     try clear hcz15_3
     try clear hcz7_0
     try clear hcz7_1
     try clear hcz7_2
     try clear hcz7_3
     try clear hcz9_0
     try clear hcz9_1
     try clear hcz9_2
     try clear hcz9_3
     try clear hfz13_0
     try clear hfz13_1
     try clear hfz13_2
     try clear hfz13_3
     try clear hfz15_0
     try clear hfz15_1
     try clear hfz15_2
     try clear hfz15_3
     try clear hfz7_0
     try clear hfz7_1
     try clear hfz7_2
     try clear hfz7_3
     try clear hfz9_0
     try clear hfz9_1
     try clear hfz9_2
     try clear hfz9_3
     obtain ⟨x4_1, x5_1, rfl, rfl, HA, HK1, BK288, HB⟩ := hrel
     cases gk with
     | zero => exact absurd HA.out (by simp [erasureref14_Print.l0])
     | succ k1 =>
      have H := HA.out
      clear HA
      simp only [erasureref14_Print.l0] at H
      by_cases c16 : x5_1 < (a0_3.size : Int)
      ·rw [if_pos c16] at H
       have c16b0 : decide (x5_1 < (a0_3.size : Int)) = true := decide_eq_true c16
       clear c16
       by_cases c17 : 0 ≤ x5_1
       ·rw [if_pos c17] at H
        have c17b0 : decide (0 ≤ x5_1) = true := decide_eq_true c17
        clear c17
        replace H := Option.bind_eq_some_iff.mp H
        obtain ⟨t292, A190, H⟩ := H
        replace H : (if t292 = true then (if (bt a0_3 x5_1) = 35 then (if x4_1.size + 1 ≤ 9223372036854775807 then ((erasureref14_two.f (bt a0_3 x5_1)).bind fun t293 => (if (x4_1 ++ (⟨#[35]⟩ : ByteArray)).size + t293.size ≤ 9223372036854775807 then (erasureref14_Print.l0 k1 ((x4_1 ++ (⟨#[35]⟩ : ByteArray)) ++ t293) (wrap64 (x5_1 + 1)) a0_0 a0_1 a0_2 a0_3) else (none))) else (none)) else (if (bt a0_3 x5_1) < 33 then (if x4_1.size + 1 ≤ 9223372036854775807 then ((erasureref14_two.f (bt a0_3 x5_1)).bind fun t294 => (if (x4_1 ++ (⟨#[35]⟩ : ByteArray)).size + t294.size ≤ 9223372036854775807 then (erasureref14_Print.l0 k1 ((x4_1 ++ (⟨#[35]⟩ : ByteArray)) ++ t294) (wrap64 (x5_1 + 1)) a0_0 a0_1 a0_2 a0_3) else (none))) else (none)) else (if (bt a0_3 x5_1) > 126 then (if x4_1.size + 1 ≤ 9223372036854775807 then ((erasureref14_two.f (bt a0_3 x5_1)).bind fun t295 => (if (x4_1 ++ (⟨#[35]⟩ : ByteArray)).size + t295.size ≤ 9223372036854775807 then (erasureref14_Print.l0 k1 ((x4_1 ++ (⟨#[35]⟩ : ByteArray)) ++ t295) (wrap64 (x5_1 + 1)) a0_0 a0_1 a0_2 a0_3) else (none))) else (none)) else (if x5_1 ≤ (wrap64 (x5_1 + 1)) then (if (wrap64 (x5_1 + 1)) ≤ (a0_3.size : Int) then (if x4_1.size + (a0_3.extract (x5_1 : Int).toNat ((wrap64 (x5_1 + 1)) : Int).toNat).size ≤ 9223372036854775807 then (erasureref14_Print.l0 k1 (x4_1 ++ (a0_3.extract (x5_1 : Int).toNat ((wrap64 (x5_1 + 1)) : Int).toNat)) (wrap64 (x5_1 + 1)) a0_0 a0_1 a0_2 a0_3) else (none)) else (none)) else (none))))) else (if x4_1.size + 1 ≤ 9223372036854775807 then ((erasureref14_two.f (bt a0_3 x5_1)).bind fun t296 => (if (x4_1 ++ (⟨#[35]⟩ : ByteArray)).size + t296.size ≤ 9223372036854775807 then (erasureref14_Print.l0 k1 ((x4_1 ++ (⟨#[35]⟩ : ByteArray)) ++ t296) (wrap64 (x5_1 + 1)) a0_0 a0_1 a0_2 a0_3) else (none))) else (none))) = some (r1, r2) := H
        have A19 := Aside0.mk A190
        clear A190
        by_cases c20 : t292 = true
        ·subst c20
         have H1 : (if (bt a0_3 x5_1) = 35 then (if x4_1.size + 1 ≤ 9223372036854775807 then ((erasureref14_two.f (bt a0_3 x5_1)).bind fun t293 => (if (x4_1 ++ (⟨#[35]⟩ : ByteArray)).size + t293.size ≤ 9223372036854775807 then (erasureref14_Print.l0 k1 ((x4_1 ++ (⟨#[35]⟩ : ByteArray)) ++ t293) (wrap64 (x5_1 + 1)) a0_0 a0_1 a0_2 a0_3) else (none))) else (none)) else (if (bt a0_3 x5_1) < 33 then (if x4_1.size + 1 ≤ 9223372036854775807 then ((erasureref14_two.f (bt a0_3 x5_1)).bind fun t294 => (if (x4_1 ++ (⟨#[35]⟩ : ByteArray)).size + t294.size ≤ 9223372036854775807 then (erasureref14_Print.l0 k1 ((x4_1 ++ (⟨#[35]⟩ : ByteArray)) ++ t294) (wrap64 (x5_1 + 1)) a0_0 a0_1 a0_2 a0_3) else (none))) else (none)) else (if (bt a0_3 x5_1) > 126 then (if x4_1.size + 1 ≤ 9223372036854775807 then ((erasureref14_two.f (bt a0_3 x5_1)).bind fun t295 => (if (x4_1 ++ (⟨#[35]⟩ : ByteArray)).size + t295.size ≤ 9223372036854775807 then (erasureref14_Print.l0 k1 ((x4_1 ++ (⟨#[35]⟩ : ByteArray)) ++ t295) (wrap64 (x5_1 + 1)) a0_0 a0_1 a0_2 a0_3) else (none))) else (none)) else (if x5_1 ≤ (wrap64 (x5_1 + 1)) then (if (wrap64 (x5_1 + 1)) ≤ (a0_3.size : Int) then (if x4_1.size + (a0_3.extract (x5_1 : Int).toNat ((wrap64 (x5_1 + 1)) : Int).toNat).size ≤ 9223372036854775807 then (erasureref14_Print.l0 k1 (x4_1 ++ (a0_3.extract (x5_1 : Int).toNat ((wrap64 (x5_1 + 1)) : Int).toNat)) (wrap64 (x5_1 + 1)) a0_0 a0_1 a0_2 a0_3) else (none)) else (none)) else (none))))) = some (r1, r2) := by rw [if_pos rfl] at H; exact H
         clear H
         have H := H1
         clear H1
         by_cases c21 : (bt a0_3 x5_1) = 35
         ·rw [if_pos c21] at H
          have c21b0 : ((bt a0_3 x5_1) == 35) = true := beq_iff_eq.mpr c21
          have c21b1 : ((bt a0_3 x5_1) != 35) = false := bne_eq_false_iff_eq.mpr c21
          clear c21
          by_cases c22 : x4_1.size + 1 ≤ 9223372036854775807
          ·rw [if_pos c22] at H
           have c22b0 := eq_true c22
           have c22b1 : decide (x4_1.size + 1 ≤ 9223372036854775807) = true := decide_eq_true c22
           try have c22b2 : (9223372036854775807 < x4_1.size + 1) = False := eq_false (Nat.not_lt.2 c22)
           try (have c22b3 := of_eq_false c22b2; simp only [ByteArray.size_append, show (⟨#[35]⟩ : ByteArray).size = 1 from rfl] at c22b3; have c22b4 := eq_false c22b3; clear c22b3)
           replace H := Option.bind_eq_some_iff.mp H
           obtain ⟨t293, A230, H⟩ := H
           replace H : (if (x4_1 ++ (⟨#[35]⟩ : ByteArray)).size + t293.size ≤ 9223372036854775807 then (erasureref14_Print.l0 k1 ((x4_1 ++ (⟨#[35]⟩ : ByteArray)) ++ t293) (wrap64 (x5_1 + 1)) a0_0 a0_1 a0_2 a0_3) else (none)) = some (r1, r2) := H
           have A23 := Aside0.mk A230
           clear A230
           by_cases c24 : (x4_1 ++ (⟨#[35]⟩ : ByteArray)).size + t293.size ≤ 9223372036854775807
           ·rw [if_pos c24] at H
            have c24b0 := eq_true c24
            have c24b1 : decide ((x4_1 ++ (⟨#[35]⟩ : ByteArray)).size + t293.size ≤ 9223372036854775807) = true := decide_eq_true c24
            try have c24b2 : (9223372036854775807 < (x4_1 ++ (⟨#[35]⟩ : ByteArray)).size + t293.size) = False := eq_false (Nat.not_lt.2 c24)
            try (have c24b3 := of_eq_false c24b2; simp only [ByteArray.size_append, show (⟨#[35]⟩ : ByteArray).size = 1 from rfl] at c24b3; have c24b4 := eq_false c24b3; clear c24b3)
            have H' := Aside0.mk H
            clear H
            have hcz25_0 : wr.cell? ⟨gb288, 0, none⟩ = some (.int .i64 a0_0) := (blk_cell BK288.out 0).trans rfl
            have hcz25_1 : wr.cell? ⟨gb288, 1, none⟩ = some (.int .i64 a0_1) := (blk_cell BK288.out 1).trans rfl
            have hcz25_2 : wr.cell? ⟨gb288, 2, none⟩ = some (.int .i64 a0_2) := (blk_cell BK288.out 2).trans rfl
            have hcz25_3 : wr.cell? ⟨gb288, 3, none⟩ = some (.string a0_3) := (blk_cell BK288.out 3).trans rfl
            have hfz25_0 := blk_frozen BK288.out 0
            have hfz25_1 := blk_frozen BK288.out 1
            have hfz25_2 := blk_frozen BK288.out 2
            have hfz25_3 := blk_frozen BK288.out 3
            have p18 : 0 ≤ (x5_1 : Int) := of_decide_eq_true (by first | (with_reducible assumption) | assumption)
            have q18 : x5_1 < (a0_3.size : Int) := of_decide_eq_true (by first | (with_reducible assumption) | assumption)
            have hx18 := bt_at a0_3 x5_1
            replace p18 := eq_true p18
            replace q18 := eq_true q18
            go_wp2_with (first | ((with_reducible refine gate_callee (f := 36) rfl ?_); refine goesL_ (some 41) rfl rfl Tryd.func36 (by kernel_rfl) rfl #[.int .u8 (bt a0_3 x5_1)] rfl gl_ ?_; (with_reducible refine (erasureref14_other.calls (bt a0_3 x5_1) true _ A19.out).mono ?_); rintro e w' ⟨rfl, ⟨nd, rfl⟩⟩; refine ⟨_, rfl, ?_⟩) | ((with_reducible refine gate_callee (f := 37) rfl ?_); refine goesL_ (some 58) rfl rfl Tryd.func37 (by kernel_rfl) rfl #[.int .u8 (bt a0_3 x5_1)] rfl gl_ ?_; (with_reducible refine (erasureref14_two.calls (bt a0_3 x5_1) t293 _ A23.out).mono ?_); rintro e w26 ⟨rfl, hb⟩; refine ⟨_, rfl, ?_⟩; have n0_ := Aside0.mk (blk_below (bkk BK288.out) hb); have n1_ := Aside0.mk (below_step bel hb); clear BK288; clear HB; have BK288 := n0_; have HB := n1_; clear n0_ n1_; (try clear hb); (try clear hb2); (try clear hk); (try clear hi)))
            go_roundg k1
            case measure => have := HK1.out; omega
            case rel => exact ⟨((x4_1 ++ (⟨#[35]⟩ : ByteArray)) ++ t293), (wrap64 (x5_1 + 1)), ea_, ea_, H', ⟨by have := HK1.out; omega⟩, ⟨bkk BK288.out⟩, ⟨bel⟩⟩
           ·rw [if_neg c24] at H
            exact absurd H (by simp)
          ·rw [if_neg c22] at H
           exact absurd H (by simp)
         ·rw [if_neg c21] at H
          have c21b0 : ((bt a0_3 x5_1) == 35) = false := beq_eq_false_iff_ne.mpr c21
          have c21b1 : ((bt a0_3 x5_1) != 35) = true := bne_iff_ne.mpr c21
          by_cases c27 : (bt a0_3 x5_1) < 33
          ·rw [if_pos c27] at H
           have c27b0 : decide ((bt a0_3 x5_1) < 33) = true := decide_eq_true c27
           clear c27
           by_cases c28 : x4_1.size + 1 ≤ 9223372036854775807
           ·rw [if_pos c28] at H
            have c28b0 := eq_true c28
            have c28b1 : decide (x4_1.size + 1 ≤ 9223372036854775807) = true := decide_eq_true c28
            try have c28b2 : (9223372036854775807 < x4_1.size + 1) = False := eq_false (Nat.not_lt.2 c28)
            try (have c28b3 := of_eq_false c28b2; simp only [ByteArray.size_append, show (⟨#[35]⟩ : ByteArray).size = 1 from rfl] at c28b3; have c28b4 := eq_false c28b3; clear c28b3)
            replace H := Option.bind_eq_some_iff.mp H
            obtain ⟨t294, A290, H⟩ := H
            replace H : (if (x4_1 ++ (⟨#[35]⟩ : ByteArray)).size + t294.size ≤ 9223372036854775807 then (erasureref14_Print.l0 k1 ((x4_1 ++ (⟨#[35]⟩ : ByteArray)) ++ t294) (wrap64 (x5_1 + 1)) a0_0 a0_1 a0_2 a0_3) else (none)) = some (r1, r2) := H
            have A29 := Aside0.mk A290
            clear A290
            by_cases c30 : (x4_1 ++ (⟨#[35]⟩ : ByteArray)).size + t294.size ≤ 9223372036854775807
            ·rw [if_pos c30] at H
             have c30b0 := eq_true c30
             have c30b1 : decide ((x4_1 ++ (⟨#[35]⟩ : ByteArray)).size + t294.size ≤ 9223372036854775807) = true := decide_eq_true c30
             try have c30b2 : (9223372036854775807 < (x4_1 ++ (⟨#[35]⟩ : ByteArray)).size + t294.size) = False := eq_false (Nat.not_lt.2 c30)
             try (have c30b3 := of_eq_false c30b2; simp only [ByteArray.size_append, show (⟨#[35]⟩ : ByteArray).size = 1 from rfl] at c30b3; have c30b4 := eq_false c30b3; clear c30b3)
             have H' := Aside0.mk H
             clear H
             have hcz31_0 : wr.cell? ⟨gb288, 0, none⟩ = some (.int .i64 a0_0) := (blk_cell BK288.out 0).trans rfl
             have hcz31_1 : wr.cell? ⟨gb288, 1, none⟩ = some (.int .i64 a0_1) := (blk_cell BK288.out 1).trans rfl
             have hcz31_2 : wr.cell? ⟨gb288, 2, none⟩ = some (.int .i64 a0_2) := (blk_cell BK288.out 2).trans rfl
             have hcz31_3 : wr.cell? ⟨gb288, 3, none⟩ = some (.string a0_3) := (blk_cell BK288.out 3).trans rfl
             have hfz31_0 := blk_frozen BK288.out 0
             have hfz31_1 := blk_frozen BK288.out 1
             have hfz31_2 := blk_frozen BK288.out 2
             have hfz31_3 := blk_frozen BK288.out 3
             have p18 : 0 ≤ (x5_1 : Int) := of_decide_eq_true (by first | (with_reducible assumption) | assumption)
             have q18 : x5_1 < (a0_3.size : Int) := of_decide_eq_true (by first | (with_reducible assumption) | assumption)
             have hx18 := bt_at a0_3 x5_1
             replace p18 := eq_true p18
             replace q18 := eq_true q18
             go_wp2_with (first | ((with_reducible refine gate_callee (f := 36) rfl ?_); refine goesL_ (some 41) rfl rfl Tryd.func36 (by kernel_rfl) rfl #[.int .u8 (bt a0_3 x5_1)] rfl gl_ ?_; (with_reducible refine (erasureref14_other.calls (bt a0_3 x5_1) true _ A19.out).mono ?_); rintro e w' ⟨rfl, ⟨nd, rfl⟩⟩; refine ⟨_, rfl, ?_⟩) | ((with_reducible refine gate_callee (f := 37) rfl ?_); refine goesL_ (some 58) rfl rfl Tryd.func37 (by kernel_rfl) rfl #[.int .u8 (bt a0_3 x5_1)] rfl gl_ ?_; (with_reducible refine (erasureref14_two.calls (bt a0_3 x5_1) t294 _ A29.out).mono ?_); rintro e w32 ⟨rfl, hb⟩; refine ⟨_, rfl, ?_⟩; have n0_ := Aside0.mk (blk_below (bkk BK288.out) hb); have n1_ := Aside0.mk (below_step bel hb); clear BK288; clear HB; have BK288 := n0_; have HB := n1_; clear n0_ n1_; (try clear hb); (try clear hb2); (try clear hk); (try clear hi)))
             go_roundg k1
             case measure => have := HK1.out; omega
             case rel => exact ⟨((x4_1 ++ (⟨#[35]⟩ : ByteArray)) ++ t294), (wrap64 (x5_1 + 1)), ea_, ea_, H', ⟨by have := HK1.out; omega⟩, ⟨bkk BK288.out⟩, ⟨bel⟩⟩
            ·rw [if_neg c30] at H
             exact absurd H (by simp)
           ·rw [if_neg c28] at H
            exact absurd H (by simp)
          ·rw [if_neg c27] at H
           have c27b0 : decide ((bt a0_3 x5_1) < 33) = false := decide_eq_false c27
           clear c27
           by_cases c33 : (bt a0_3 x5_1) > 126
           ·rw [if_pos c33] at H
            have c33b0 : decide (126 < (bt a0_3 x5_1)) = true := decide_eq_true c33
            clear c33
            by_cases c34 : x4_1.size + 1 ≤ 9223372036854775807
            ·rw [if_pos c34] at H
             have c34b0 := eq_true c34
             have c34b1 : decide (x4_1.size + 1 ≤ 9223372036854775807) = true := decide_eq_true c34
             try have c34b2 : (9223372036854775807 < x4_1.size + 1) = False := eq_false (Nat.not_lt.2 c34)
             try (have c34b3 := of_eq_false c34b2; simp only [ByteArray.size_append, show (⟨#[35]⟩ : ByteArray).size = 1 from rfl] at c34b3; have c34b4 := eq_false c34b3; clear c34b3)
             replace H := Option.bind_eq_some_iff.mp H
             obtain ⟨t295, A350, H⟩ := H
             replace H : (if (x4_1 ++ (⟨#[35]⟩ : ByteArray)).size + t295.size ≤ 9223372036854775807 then (erasureref14_Print.l0 k1 ((x4_1 ++ (⟨#[35]⟩ : ByteArray)) ++ t295) (wrap64 (x5_1 + 1)) a0_0 a0_1 a0_2 a0_3) else (none)) = some (r1, r2) := H
             have A35 := Aside0.mk A350
             clear A350
             by_cases c36 : (x4_1 ++ (⟨#[35]⟩ : ByteArray)).size + t295.size ≤ 9223372036854775807
             ·rw [if_pos c36] at H
              have c36b0 := eq_true c36
              have c36b1 : decide ((x4_1 ++ (⟨#[35]⟩ : ByteArray)).size + t295.size ≤ 9223372036854775807) = true := decide_eq_true c36
              try have c36b2 : (9223372036854775807 < (x4_1 ++ (⟨#[35]⟩ : ByteArray)).size + t295.size) = False := eq_false (Nat.not_lt.2 c36)
              try (have c36b3 := of_eq_false c36b2; simp only [ByteArray.size_append, show (⟨#[35]⟩ : ByteArray).size = 1 from rfl] at c36b3; have c36b4 := eq_false c36b3; clear c36b3)
              have H' := Aside0.mk H
              clear H
              have hcz37_0 : wr.cell? ⟨gb288, 0, none⟩ = some (.int .i64 a0_0) := (blk_cell BK288.out 0).trans rfl
              have hcz37_1 : wr.cell? ⟨gb288, 1, none⟩ = some (.int .i64 a0_1) := (blk_cell BK288.out 1).trans rfl
              have hcz37_2 : wr.cell? ⟨gb288, 2, none⟩ = some (.int .i64 a0_2) := (blk_cell BK288.out 2).trans rfl
              have hcz37_3 : wr.cell? ⟨gb288, 3, none⟩ = some (.string a0_3) := (blk_cell BK288.out 3).trans rfl
              have hfz37_0 := blk_frozen BK288.out 0
              have hfz37_1 := blk_frozen BK288.out 1
              have hfz37_2 := blk_frozen BK288.out 2
              have hfz37_3 := blk_frozen BK288.out 3
              have p18 : 0 ≤ (x5_1 : Int) := of_decide_eq_true (by first | (with_reducible assumption) | assumption)
              have q18 : x5_1 < (a0_3.size : Int) := of_decide_eq_true (by first | (with_reducible assumption) | assumption)
              have hx18 := bt_at a0_3 x5_1
              replace p18 := eq_true p18
              replace q18 := eq_true q18
              go_wp2_with (first | ((with_reducible refine gate_callee (f := 36) rfl ?_); refine goesL_ (some 41) rfl rfl Tryd.func36 (by kernel_rfl) rfl #[.int .u8 (bt a0_3 x5_1)] rfl gl_ ?_; (with_reducible refine (erasureref14_other.calls (bt a0_3 x5_1) true _ A19.out).mono ?_); rintro e w' ⟨rfl, ⟨nd, rfl⟩⟩; refine ⟨_, rfl, ?_⟩) | ((with_reducible refine gate_callee (f := 37) rfl ?_); refine goesL_ (some 58) rfl rfl Tryd.func37 (by kernel_rfl) rfl #[.int .u8 (bt a0_3 x5_1)] rfl gl_ ?_; (with_reducible refine (erasureref14_two.calls (bt a0_3 x5_1) t295 _ A35.out).mono ?_); rintro e w38 ⟨rfl, hb⟩; refine ⟨_, rfl, ?_⟩; have n0_ := Aside0.mk (blk_below (bkk BK288.out) hb); have n1_ := Aside0.mk (below_step bel hb); clear BK288; clear HB; have BK288 := n0_; have HB := n1_; clear n0_ n1_; (try clear hb); (try clear hb2); (try clear hk); (try clear hi)))
              go_roundg k1
              case measure => have := HK1.out; omega
              case rel => exact ⟨((x4_1 ++ (⟨#[35]⟩ : ByteArray)) ++ t295), (wrap64 (x5_1 + 1)), ea_, ea_, H', ⟨by have := HK1.out; omega⟩, ⟨bkk BK288.out⟩, ⟨bel⟩⟩
             ·rw [if_neg c36] at H
              exact absurd H (by simp)
            ·rw [if_neg c34] at H
             exact absurd H (by simp)
           ·rw [if_neg c33] at H
            have c33b0 : decide (126 < (bt a0_3 x5_1)) = false := decide_eq_false c33
            clear c33
            have c39b0 := eq_true (of_decide_eq_true (by first | (with_reducible assumption) | assumption) : 0 ≤ x5_1)
            by_cases c40 : x5_1 ≤ (wrap64 (x5_1 + 1))
            ·rw [if_pos c40] at H
             have c40b0 := eq_true c40
             have c40b1 : decide (x5_1 ≤ (wrap64 (x5_1 + 1))) = true := decide_eq_true c40
             by_cases c41 : (wrap64 (x5_1 + 1)) ≤ (a0_3.size : Int)
             ·rw [if_pos c41] at H
              have c41b0 := eq_true c41
              have c41b1 : decide ((wrap64 (x5_1 + 1)) ≤ (a0_3.size : Int)) = true := decide_eq_true c41
              by_cases c42 : x4_1.size + (a0_3.extract (x5_1 : Int).toNat ((wrap64 (x5_1 + 1)) : Int).toNat).size ≤ 9223372036854775807
              ·rw [if_pos c42] at H
               have c42b0 := eq_true c42
               have c42b1 : decide (x4_1.size + (a0_3.extract (x5_1 : Int).toNat ((wrap64 (x5_1 + 1)) : Int).toNat).size ≤ 9223372036854775807) = true := decide_eq_true c42
               try have c42b2 : (9223372036854775807 < x4_1.size + (a0_3.extract (x5_1 : Int).toNat ((wrap64 (x5_1 + 1)) : Int).toNat).size) = False := eq_false (Nat.not_lt.2 c42)
               try (have c42b3 := of_eq_false c42b2; simp only [ByteArray.size_append, show (⟨#[35]⟩ : ByteArray).size = 1 from rfl] at c42b3; have c42b4 := eq_false c42b3; clear c42b3)
               have H' := Aside0.mk H
               clear H
               have hcz43_0 : wr.cell? ⟨gb288, 0, none⟩ = some (.int .i64 a0_0) := (blk_cell BK288.out 0).trans rfl
               have hcz43_1 : wr.cell? ⟨gb288, 1, none⟩ = some (.int .i64 a0_1) := (blk_cell BK288.out 1).trans rfl
               have hcz43_2 : wr.cell? ⟨gb288, 2, none⟩ = some (.int .i64 a0_2) := (blk_cell BK288.out 2).trans rfl
               have hcz43_3 : wr.cell? ⟨gb288, 3, none⟩ = some (.string a0_3) := (blk_cell BK288.out 3).trans rfl
               have hfz43_0 := blk_frozen BK288.out 0
               have hfz43_1 := blk_frozen BK288.out 1
               have hfz43_2 := blk_frozen BK288.out 2
               have hfz43_3 := blk_frozen BK288.out 3
               have p18 : 0 ≤ (x5_1 : Int) := of_decide_eq_true (by first | (with_reducible assumption) | assumption)
               have q18 : x5_1 < (a0_3.size : Int) := of_decide_eq_true (by first | (with_reducible assumption) | assumption)
               have hx18 := bt_at a0_3 x5_1
               replace p18 := eq_true p18
               replace q18 := eq_true q18
               go_wp2_with (first | ((with_reducible refine gate_callee (f := 36) rfl ?_); refine goesL_ (some 41) rfl rfl Tryd.func36 (by kernel_rfl) rfl #[.int .u8 (bt a0_3 x5_1)] rfl gl_ ?_; (with_reducible refine (erasureref14_other.calls (bt a0_3 x5_1) true _ A19.out).mono ?_); rintro e w' ⟨rfl, ⟨nd, rfl⟩⟩; refine ⟨_, rfl, ?_⟩))
               go_roundg k1
               case measure => have := HK1.out; omega
               case rel => exact ⟨(x4_1 ++ (a0_3.extract (x5_1 : Int).toNat ((wrap64 (x5_1 + 1)) : Int).toNat)), (wrap64 (x5_1 + 1)), ea_, ea_, H', ⟨by have := HK1.out; omega⟩, ⟨bkk BK288.out⟩, ⟨bel⟩⟩
              ·rw [if_neg c42] at H
               exact absurd H (by simp)
             ·rw [if_neg c41] at H
              exact absurd H (by simp)
            ·rw [if_neg c40] at H
             exact absurd H (by simp)
        ·replace c20 := Bool.eq_false_iff.mpr c20
         subst c20
         have H1 : (if x4_1.size + 1 ≤ 9223372036854775807 then ((erasureref14_two.f (bt a0_3 x5_1)).bind fun t296 => (if (x4_1 ++ (⟨#[35]⟩ : ByteArray)).size + t296.size ≤ 9223372036854775807 then (erasureref14_Print.l0 k1 ((x4_1 ++ (⟨#[35]⟩ : ByteArray)) ++ t296) (wrap64 (x5_1 + 1)) a0_0 a0_1 a0_2 a0_3) else (none))) else (none)) = some (r1, r2) := by rw [if_neg (show ¬ (false = true) by decide)] at H; exact H
         clear H
         have H := H1
         clear H1
         by_cases c44 : x4_1.size + 1 ≤ 9223372036854775807
         ·rw [if_pos c44] at H
          have c44b0 := eq_true c44
          have c44b1 : decide (x4_1.size + 1 ≤ 9223372036854775807) = true := decide_eq_true c44
          try have c44b2 : (9223372036854775807 < x4_1.size + 1) = False := eq_false (Nat.not_lt.2 c44)
          try (have c44b3 := of_eq_false c44b2; simp only [ByteArray.size_append, show (⟨#[35]⟩ : ByteArray).size = 1 from rfl] at c44b3; have c44b4 := eq_false c44b3; clear c44b3)
          replace H := Option.bind_eq_some_iff.mp H
          obtain ⟨t296, A450, H⟩ := H
          replace H : (if (x4_1 ++ (⟨#[35]⟩ : ByteArray)).size + t296.size ≤ 9223372036854775807 then (erasureref14_Print.l0 k1 ((x4_1 ++ (⟨#[35]⟩ : ByteArray)) ++ t296) (wrap64 (x5_1 + 1)) a0_0 a0_1 a0_2 a0_3) else (none)) = some (r1, r2) := H
          have A45 := Aside0.mk A450
          clear A450
          by_cases c46 : (x4_1 ++ (⟨#[35]⟩ : ByteArray)).size + t296.size ≤ 9223372036854775807
          ·rw [if_pos c46] at H
           have c46b0 := eq_true c46
           have c46b1 : decide ((x4_1 ++ (⟨#[35]⟩ : ByteArray)).size + t296.size ≤ 9223372036854775807) = true := decide_eq_true c46
           try have c46b2 : (9223372036854775807 < (x4_1 ++ (⟨#[35]⟩ : ByteArray)).size + t296.size) = False := eq_false (Nat.not_lt.2 c46)
           try (have c46b3 := of_eq_false c46b2; simp only [ByteArray.size_append, show (⟨#[35]⟩ : ByteArray).size = 1 from rfl] at c46b3; have c46b4 := eq_false c46b3; clear c46b3)
           have H' := Aside0.mk H
           clear H
           have hcz47_0 : wr.cell? ⟨gb288, 0, none⟩ = some (.int .i64 a0_0) := (blk_cell BK288.out 0).trans rfl
           have hcz47_1 : wr.cell? ⟨gb288, 1, none⟩ = some (.int .i64 a0_1) := (blk_cell BK288.out 1).trans rfl
           have hcz47_2 : wr.cell? ⟨gb288, 2, none⟩ = some (.int .i64 a0_2) := (blk_cell BK288.out 2).trans rfl
           have hcz47_3 : wr.cell? ⟨gb288, 3, none⟩ = some (.string a0_3) := (blk_cell BK288.out 3).trans rfl
           have hfz47_0 := blk_frozen BK288.out 0
           have hfz47_1 := blk_frozen BK288.out 1
           have hfz47_2 := blk_frozen BK288.out 2
           have hfz47_3 := blk_frozen BK288.out 3
           have p18 : 0 ≤ (x5_1 : Int) := of_decide_eq_true (by first | (with_reducible assumption) | assumption)
           have q18 : x5_1 < (a0_3.size : Int) := of_decide_eq_true (by first | (with_reducible assumption) | assumption)
           have hx18 := bt_at a0_3 x5_1
           replace p18 := eq_true p18
           replace q18 := eq_true q18
           go_wp2_with (first | ((with_reducible refine gate_callee (f := 36) rfl ?_); refine goesL_ (some 41) rfl rfl Tryd.func36 (by kernel_rfl) rfl #[.int .u8 (bt a0_3 x5_1)] rfl gl_ ?_; (with_reducible refine (erasureref14_other.calls (bt a0_3 x5_1) false _ A19.out).mono ?_); rintro e w' ⟨rfl, ⟨nd, rfl⟩⟩; refine ⟨_, rfl, ?_⟩) | ((with_reducible refine gate_callee (f := 37) rfl ?_); refine goesL_ (some 58) rfl rfl Tryd.func37 (by kernel_rfl) rfl #[.int .u8 (bt a0_3 x5_1)] rfl gl_ ?_; (with_reducible refine (erasureref14_two.calls (bt a0_3 x5_1) t296 _ A45.out).mono ?_); rintro e w48 ⟨rfl, hb⟩; refine ⟨_, rfl, ?_⟩; have n0_ := Aside0.mk (blk_below (bkk BK288.out) hb); have n1_ := Aside0.mk (below_step bel hb); clear BK288; clear HB; have BK288 := n0_; have HB := n1_; clear n0_ n1_; (try clear hb); (try clear hb2); (try clear hk); (try clear hi)))
           go_roundg k1
           case measure => have := HK1.out; omega
           case rel => exact ⟨((x4_1 ++ (⟨#[35]⟩ : ByteArray)) ++ t296), (wrap64 (x5_1 + 1)), ea_, ea_, H', ⟨by have := HK1.out; omega⟩, ⟨bkk BK288.out⟩, ⟨bel⟩⟩
          ·rw [if_neg c46] at H
           exact absurd H (by simp)
         ·rw [if_neg c44] at H
          exact absurd H (by simp)
       ·rw [if_neg c17] at H
        exact absurd H (by simp)
      ·rw [if_neg c16] at H
       have c16b0 : decide (x5_1 < (a0_3.size : Int)) = false := decide_eq_false c16
       clear c16
       simp only [Option.some.injEq, Prod.mk.injEq] at H
       obtain ⟨rfl, rfl⟩ := H
       have hcz49_0 : wr.cell? ⟨gb288, 0, none⟩ = some (.int .i64 a0_0) := (blk_cell BK288.out 0).trans rfl
       have hcz49_1 : wr.cell? ⟨gb288, 1, none⟩ = some (.int .i64 a0_1) := (blk_cell BK288.out 1).trans rfl
       have hcz49_2 : wr.cell? ⟨gb288, 2, none⟩ = some (.int .i64 a0_2) := (blk_cell BK288.out 2).trans rfl
       have hcz49_3 : wr.cell? ⟨gb288, 3, none⟩ = some (.string a0_3) := (blk_cell BK288.out 3).trans rfl
       have hfz49_0 := blk_frozen BK288.out 0
       have hfz49_1 := blk_frozen BK288.out 1
       have hfz49_2 := blk_frozen BK288.out 2
       have hfz49_3 := blk_frozen BK288.out 3
       go_wp2
       go_ret2
       exact ⟨by first | rfl | (simp [errW_none, errW_some] <;> rfl) | (simp [*, errW_none, errW_some] <;> rfl), bel⟩
   ·rw [if_neg c11] at H
    have c11b0 : (a0_0 == 2) = false := beq_eq_false_iff_ne.mpr c11
    have c11b1 : (a0_0 != 2) = true := bne_iff_ne.mpr c11
    by_cases c50 : a0_0 = 3
    ·rw [if_pos c50] at H
     have c50b0 : (a0_0 == 3) = true := beq_iff_eq.mpr c50
     have c50b1 : (a0_0 != 3) = false := bne_eq_false_iff_eq.mpr c50
     clear c50
     have H' := Aside0.mk H
     clear H
     go_enter Tryd.func14, Tryd.ntmps14
     go_wp2_with (first | ((with_reducible refine gate_dst (N := 1) rfl ?_); refine box_event ?hg (N := 1) ?hd (cs := #[.int .i64 a0_0, .int .i64 a0_1, .int .i64 a0_2, .string a0_3]) (t := 27) ?hr ?_; (case hd => rfl); (case hg => rfl); (case hr => first | (go_simp; done) | (go_simp; rfl)); intro gb288 hg w51 hbox hb; have n0_ := Aside0.mk (below_step bel hb); have n1_ := Aside0.mk (hbox); have n2_ := Aside0.mk ((by rw [hg]; exact (below_size bel) : w.heap.size ≤ gb288)); have n3_ := Aside0.mk ((by rw [hg]; exact (below_size bel) : w.heap.size ≤ gb288)); clear HB; have HB := n0_; have BK288 := n1_; have GW288 := n2_; have GE288 := n3_; clear n0_ n1_ n2_ n3_; clear hb hbox hg; have hcz52_0 : w51.cell? ⟨gb288, 0, none⟩ = some (.int .i64 a0_0) := (blk_cell BK288.out 0).trans rfl; have hcz52_1 : w51.cell? ⟨gb288, 1, none⟩ = some (.int .i64 a0_1) := (blk_cell BK288.out 1).trans rfl; have hcz52_2 : w51.cell? ⟨gb288, 2, none⟩ = some (.int .i64 a0_2) := (blk_cell BK288.out 2).trans rfl; have hcz52_3 : w51.cell? ⟨gb288, 3, none⟩ = some (.string a0_3) := (blk_cell BK288.out 3).trans rfl; have hfz52_0 := blk_frozen BK288.out 0; have hfz52_1 := blk_frozen BK288.out 1; have hfz52_2 := blk_frozen BK288.out 2; have hfz52_3 := blk_frozen BK288.out 3) | ((with_reducible refine gate_callee (f := 34) rfl ?_); refine goesL_ (some 10) rfl rfl Tryd.func34 (by kernel_rfl) rfl #[.agg #[.int .i64 a0_0, .int .i64 a0_1, .int .i64 a0_2, .string a0_3]] rfl gl_ ?_; (with_reducible refine (erasureref14_Right.calls k a0_0 a0_1 a0_2 a0_3 true _ A2.out).mono ?_); rintro e w53 ⟨rfl, hb⟩; refine ⟨_, rfl, ?_⟩; have n0_ := Aside0.mk (blk_below (bkk BK288.out) hb); have n1_ := Aside0.mk (below_step bel hb); clear BK288; clear HB; have BK288 := n0_; have HB := n1_; clear n0_ n1_; (try clear hb); (try clear hb2); (try clear hk); (try clear hi); have hcz54_0 : w53.cell? ⟨gb288, 0, none⟩ = some (.int .i64 a0_0) := (blk_cell BK288.out 0).trans rfl; have hcz54_1 : w53.cell? ⟨gb288, 1, none⟩ = some (.int .i64 a0_1) := (blk_cell BK288.out 1).trans rfl; have hcz54_2 : w53.cell? ⟨gb288, 2, none⟩ = some (.int .i64 a0_2) := (blk_cell BK288.out 2).trans rfl; have hcz54_3 : w53.cell? ⟨gb288, 3, none⟩ = some (.string a0_3) := (blk_cell BK288.out 3).trans rfl; have hfz54_0 := blk_frozen BK288.out 0; have hfz54_1 := blk_frozen BK288.out 1; have hfz54_2 := blk_frozen BK288.out 2; have hfz54_3 := blk_frozen BK288.out 3))
     go_loopg [4, 7] k (fun kq v4 v7 w' => ∃ (x4_1 : ByteArray) (x7_1 : Int), v4 = .string x4_1 ∧ v7 = .int .i64 x7_1 ∧ Aside0 (erasureref14_Print.l1 kq x4_1 x7_1 a0_0 a0_1 a0_2 a0_3 = some (r1, r2)) ∧ Aside0 (kq ≤ k) ∧ Aside0 (w'.heap[gb288]? = some (.cells #[.int .i64 a0_0, .int .i64 a0_1, .int .i64 a0_2, .string a0_3] 27 (0, 0))) ∧ Aside0 (Below w.heap.size w w'))
     case atStart => exact ⟨((⟨#[60]⟩ : ByteArray)), (0), ea_, ea_, H', ⟨Nat.le_refl _⟩, ⟨bkk BK288.out⟩, ⟨bel⟩⟩
     case round =>
      clear H'
      try clear c1
      try clear p1
      try clear q1
      try clear hx1
      try clear c2
      try clear p2
      try clear c3
      try clear c4
      try clear c4b0
      try clear c4b1
      try clear c5
      try clear p6
      try clear c11
      try clear c11b0
      try clear c11b1
      try clear c14
      try clear c16
      try clear c16b0
      try clear c17
      try clear c17b0
      try clear p18
      try clear q18
      try clear hx18
      try clear c20
      try clear c21
      try clear c21b0
      try clear c21b1
      try clear c22
      try clear c22b0
      try clear c22b1
      try clear c22b2
      try clear c24
      try clear c24b0
      try clear c24b1
      try clear c24b2
      try clear c27
      try clear c27b0
      try clear c28
      try clear c28b0
      try clear c28b1
      try clear c28b2
      try clear c30
      try clear c30b0
      try clear c30b1
      try clear c30b2
      try clear c33
      try clear c33b0
      try clear c34
      try clear c34b0
      try clear c34b1
      try clear c34b2
      try clear c35
      try clear c36
      try clear c36b0
      try clear c36b1
      try clear c36b2
      try clear c37
      try clear c39
      try clear c39b0
      try clear c40
      try clear c40b0
      try clear c40b1
      try clear c41
      try clear c41b0
      try clear c41b1
      try clear c42
      try clear c42b0
      try clear c42b1
      try clear c42b2
      try clear c44
      try clear c44b0
      try clear c44b1
      try clear c44b2
      try clear c46
      try clear c46b0
      try clear c46b1
      try clear c46b2
      try clear c50
      try clear c50b0
      try clear c50b1
      try clear hcz13_0
      try clear hcz13_1
      try clear hcz13_2
      try clear hcz13_3
      try clear hcz15_0
      try clear hcz15_1
      try clear hcz15_2
      try clear hcz15_3
      try clear hcz25_0
      try clear hcz25_1
      try clear hcz25_2
      try clear hcz25_3
      try clear hcz31_0
      try clear hcz31_1
      try clear hcz31_2
      try clear hcz31_3
      try clear hcz37_0
      try clear hcz37_1
      try clear hcz37_2
      try clear hcz37_3
      try clear hcz43_0
      try clear hcz43_1
      try clear hcz43_2
      try clear hcz43_3
      try clear hcz47_0
      try clear hcz47_1
      try clear hcz47_2
      try clear hcz47_3
      try clear hcz49_0
      try clear hcz49_1
      try clear hcz49_2
      try clear hcz49_3
      try clear hcz52_0
      try clear hcz52_1
      try clear hcz52_2
      try clear hcz52_3
      try clear hcz54_0
      try clear hcz54_1
      try clear hcz54_2
      try clear hcz54_3
      try clear hcz7_0
      try clear hcz7_1
      try clear hcz7_2
      try clear hcz7_3
      try clear hcz9_0
      try clear hcz9_1
      try clear hcz9_2
      try clear hcz9_3
      try clear hfz13_0
      try clear hfz13_1
      try clear hfz13_2
      try clear hfz13_3
      try clear hfz15_0
      try clear hfz15_1
      try clear hfz15_2
      try clear hfz15_3
      try clear hfz25_0
      try clear hfz25_1
      try clear hfz25_2
      try clear hfz25_3
      try clear hfz31_0
      try clear hfz31_1
      try clear hfz31_2
      try clear hfz31_3
      try clear hfz37_0
      try clear hfz37_1
      try clear hfz37_2
      try clear hfz37_3
      try clear hfz43_0
      try clear hfz43_1
      try clear hfz43_2
      try clear hfz43_3
      try clear hfz47_0
      try clear hfz47_1
      try clear hfz47_2
      try clear hfz47_3
      try clear hfz49_0
      try clear hfz49_1
      try clear hfz49_2
      try clear hfz49_3
      try clear hfz52_0
      try clear hfz52_1
      try clear hfz52_2
      try clear hfz52_3
      try clear hfz54_0
      try clear hfz54_1
      try clear hfz54_2
      try clear hfz54_3
      try clear hfz7_0
      try clear hfz7_1
      try clear hfz7_2
      try clear hfz7_3
      try clear hfz9_0
      try clear hfz9_1
      try clear hfz9_2
      try clear hfz9_3
      try clear p18
      try clear p2
      try clear q18
      obtain ⟨x4_1, x7_1, rfl, rfl, HA, HK1, BK288, HB⟩ := hrel
      cases gk with
      | zero => exact absurd HA.out (by simp [erasureref14_Print.l1])
      | succ k1 =>
       have H := HA.out
       clear HA
       simp only [erasureref14_Print.l1] at H
       by_cases c55 : x7_1 < (a0_3.size : Int)
       ·rw [if_pos c55] at H
        have c55b0 : decide (x7_1 < (a0_3.size : Int)) = true := decide_eq_true c55
        clear c55
        by_cases c56 : 0 ≤ x7_1
        ·rw [if_pos c56] at H
         have c56b0 : decide (0 ≤ x7_1) = true := decide_eq_true c56
         clear c56
         replace H := Option.bind_eq_some_iff.mp H
         obtain ⟨t297, A580, H⟩ := H
         replace H : (if x4_1.size + t297.size ≤ 9223372036854775807 then (erasureref14_Print.l1 k1 (x4_1 ++ t297) (wrap64 (x7_1 + 1)) a0_0 a0_1 a0_2 a0_3) else (none)) = some (r1, r2) := H
         have A58 := Aside0.mk A580
         clear A580
         by_cases c59 : x4_1.size + t297.size ≤ 9223372036854775807
         ·rw [if_pos c59] at H
          have c59b0 := eq_true c59
          have c59b1 : decide (x4_1.size + t297.size ≤ 9223372036854775807) = true := decide_eq_true c59
          try have c59b2 : (9223372036854775807 < x4_1.size + t297.size) = False := eq_false (Nat.not_lt.2 c59)
          try (have c59b3 := of_eq_false c59b2; simp only [ByteArray.size_append, show (⟨#[35]⟩ : ByteArray).size = 1 from rfl] at c59b3; have c59b4 := eq_false c59b3; clear c59b3)
          have H' := Aside0.mk H
          clear H
          have hcz60_0 : wr.cell? ⟨gb288, 0, none⟩ = some (.int .i64 a0_0) := (blk_cell BK288.out 0).trans rfl
          have hcz60_1 : wr.cell? ⟨gb288, 1, none⟩ = some (.int .i64 a0_1) := (blk_cell BK288.out 1).trans rfl
          have hcz60_2 : wr.cell? ⟨gb288, 2, none⟩ = some (.int .i64 a0_2) := (blk_cell BK288.out 2).trans rfl
          have hcz60_3 : wr.cell? ⟨gb288, 3, none⟩ = some (.string a0_3) := (blk_cell BK288.out 3).trans rfl
          have hfz60_0 := blk_frozen BK288.out 0
          have hfz60_1 := blk_frozen BK288.out 1
          have hfz60_2 := blk_frozen BK288.out 2
          have hfz60_3 := blk_frozen BK288.out 3
          have p57 : 0 ≤ (x7_1 : Int) := of_decide_eq_true (by first | (with_reducible assumption) | assumption)
          have q57 : x7_1 < (a0_3.size : Int) := of_decide_eq_true (by first | (with_reducible assumption) | assumption)
          have hx57 := bt_at a0_3 x7_1
          replace p57 := eq_true p57
          replace q57 := eq_true q57
          go_wp2_with (first | ((with_reducible refine gate_callee (f := 37) rfl ?_); refine goesL_ (some 82) rfl rfl Tryd.func37 (by kernel_rfl) rfl #[.int .u8 (bt a0_3 x7_1)] rfl gl_ ?_; (with_reducible refine (erasureref14_two.calls (bt a0_3 x7_1) t297 _ A58.out).mono ?_); rintro e w61 ⟨rfl, hb⟩; refine ⟨_, rfl, ?_⟩; have n0_ := Aside0.mk (blk_below (bkk BK288.out) hb); have n1_ := Aside0.mk (below_step bel hb); clear BK288; clear HB; have BK288 := n0_; have HB := n1_; clear n0_ n1_; (try clear hb); (try clear hb2); (try clear hk); (try clear hi)))
          go_roundg k1
          case measure => have := HK1.out; omega
          case rel => exact ⟨(x4_1 ++ t297), (wrap64 (x7_1 + 1)), ea_, ea_, H', ⟨by have := HK1.out; omega⟩, ⟨bkk BK288.out⟩, ⟨bel⟩⟩
         ·rw [if_neg c59] at H
          exact absurd H (by simp)
        ·rw [if_neg c56] at H
         exact absurd H (by simp)
       ·rw [if_neg c55] at H
        have c55b0 : decide (x7_1 < (a0_3.size : Int)) = false := decide_eq_false c55
        clear c55
        by_cases c62 : x4_1.size + 1 ≤ 9223372036854775807
        ·rw [if_pos c62] at H
         have c62b0 := eq_true c62
         have c62b1 : decide (x4_1.size + 1 ≤ 9223372036854775807) = true := decide_eq_true c62
         try have c62b2 : (9223372036854775807 < x4_1.size + 1) = False := eq_false (Nat.not_lt.2 c62)
         try (have c62b3 := of_eq_false c62b2; simp only [ByteArray.size_append, show (⟨#[35]⟩ : ByteArray).size = 1 from rfl] at c62b3; have c62b4 := eq_false c62b3; clear c62b3)
         simp only [Option.some.injEq, Prod.mk.injEq] at H
         obtain ⟨rfl, rfl⟩ := H
         have hcz63_0 : wr.cell? ⟨gb288, 0, none⟩ = some (.int .i64 a0_0) := (blk_cell BK288.out 0).trans rfl
         have hcz63_1 : wr.cell? ⟨gb288, 1, none⟩ = some (.int .i64 a0_1) := (blk_cell BK288.out 1).trans rfl
         have hcz63_2 : wr.cell? ⟨gb288, 2, none⟩ = some (.int .i64 a0_2) := (blk_cell BK288.out 2).trans rfl
         have hcz63_3 : wr.cell? ⟨gb288, 3, none⟩ = some (.string a0_3) := (blk_cell BK288.out 3).trans rfl
         have hfz63_0 := blk_frozen BK288.out 0
         have hfz63_1 := blk_frozen BK288.out 1
         have hfz63_2 := blk_frozen BK288.out 2
         have hfz63_3 := blk_frozen BK288.out 3
         go_wp2
         go_ret2
         exact ⟨by first | rfl | (simp [errW_none, errW_some] <;> rfl) | (simp [*, errW_none, errW_some] <;> rfl), bel⟩
        ·rw [if_neg c62] at H
         exact absurd H (by simp)
    ·rw [if_neg c50] at H
     have c50b0 : (a0_0 == 3) = false := beq_eq_false_iff_ne.mpr c50
     have c50b1 : (a0_0 != 3) = true := bne_iff_ne.mpr c50
     by_cases c64 : a0_0 = 4
     ·rw [if_pos c64] at H
      have c64b0 : (a0_0 == 4) = true := beq_iff_eq.mpr c64
      have c64b1 : (a0_0 != 4) = false := bne_eq_false_iff_eq.mpr c64
      clear c64
      simp only [Option.some.injEq, Prod.mk.injEq] at H
      obtain ⟨rfl, rfl⟩ := H
      go_enter Tryd.func14, Tryd.ntmps14
      go_wp2_with (first | ((with_reducible refine gate_dst (N := 1) rfl ?_); refine box_event ?hg (N := 1) ?hd (cs := #[.int .i64 a0_0, .int .i64 a0_1, .int .i64 a0_2, .string a0_3]) (t := 27) ?hr ?_; (case hd => rfl); (case hg => rfl); (case hr => first | (go_simp; done) | (go_simp; rfl)); intro gb288 hg w65 hbox hb; have n0_ := Aside0.mk (below_step bel hb); have n1_ := Aside0.mk (hbox); have n2_ := Aside0.mk ((by rw [hg]; exact (below_size bel) : w.heap.size ≤ gb288)); have n3_ := Aside0.mk ((by rw [hg]; exact (below_size bel) : w.heap.size ≤ gb288)); clear HB; have HB := n0_; have BK288 := n1_; have GW288 := n2_; have GE288 := n3_; clear n0_ n1_ n2_ n3_; clear hb hbox hg; have hcz66_0 : w65.cell? ⟨gb288, 0, none⟩ = some (.int .i64 a0_0) := (blk_cell BK288.out 0).trans rfl; have hcz66_1 : w65.cell? ⟨gb288, 1, none⟩ = some (.int .i64 a0_1) := (blk_cell BK288.out 1).trans rfl; have hcz66_2 : w65.cell? ⟨gb288, 2, none⟩ = some (.int .i64 a0_2) := (blk_cell BK288.out 2).trans rfl; have hcz66_3 : w65.cell? ⟨gb288, 3, none⟩ = some (.string a0_3) := (blk_cell BK288.out 3).trans rfl; have hfz66_0 := blk_frozen BK288.out 0; have hfz66_1 := blk_frozen BK288.out 1; have hfz66_2 := blk_frozen BK288.out 2; have hfz66_3 := blk_frozen BK288.out 3) | ((with_reducible refine gate_callee (f := 34) rfl ?_); refine goesL_ (some 10) rfl rfl Tryd.func34 (by kernel_rfl) rfl #[.agg #[.int .i64 a0_0, .int .i64 a0_1, .int .i64 a0_2, .string a0_3]] rfl gl_ ?_; (with_reducible refine (erasureref14_Right.calls k a0_0 a0_1 a0_2 a0_3 true _ A2.out).mono ?_); rintro e w67 ⟨rfl, hb⟩; refine ⟨_, rfl, ?_⟩; have n0_ := Aside0.mk (blk_below (bkk BK288.out) hb); have n1_ := Aside0.mk (below_step bel hb); clear BK288; clear HB; have BK288 := n0_; have HB := n1_; clear n0_ n1_; (try clear hb); (try clear hb2); (try clear hk); (try clear hi); have hcz68_0 : w67.cell? ⟨gb288, 0, none⟩ = some (.int .i64 a0_0) := (blk_cell BK288.out 0).trans rfl; have hcz68_1 : w67.cell? ⟨gb288, 1, none⟩ = some (.int .i64 a0_1) := (blk_cell BK288.out 1).trans rfl; have hcz68_2 : w67.cell? ⟨gb288, 2, none⟩ = some (.int .i64 a0_2) := (blk_cell BK288.out 2).trans rfl; have hcz68_3 : w67.cell? ⟨gb288, 3, none⟩ = some (.string a0_3) := (blk_cell BK288.out 3).trans rfl; have hfz68_0 := blk_frozen BK288.out 0; have hfz68_1 := blk_frozen BK288.out 1; have hfz68_2 := blk_frozen BK288.out 2; have hfz68_3 := blk_frozen BK288.out 3))
      go_ret2
      exact ⟨by first | rfl | (simp [errW_none, errW_some] <;> rfl) | (simp [*, errW_none, errW_some] <;> rfl), bel⟩
     ·rw [if_neg c64] at H
      have c64b0 : (a0_0 == 4) = false := beq_eq_false_iff_ne.mpr c64
      have c64b1 : (a0_0 != 4) = true := bne_iff_ne.mpr c64
      obtain ⟨y298, hy298⟩ : ∃ y_ : List ByteArray, y_ = (([(⟨#[]⟩ : ByteArray), (⟨#[]⟩ : ByteArray), (⟨#[]⟩ : ByteArray), (⟨#[]⟩ : ByteArray), (⟨#[]⟩ : ByteArray), (⟨#[91]⟩ : ByteArray), (⟨#[93]⟩ : ByteArray), (⟨#[60, 60]⟩ : ByteArray), (⟨#[62, 62]⟩ : ByteArray)] : List ByteArray)) := ⟨_, rfl⟩
      replace H : (if 0 ≤ a0_0 then (if a0_0 < (y298.length : Int) then (some (rdOf ByteArray.empty y298 a0_0, 0)) else (none)) else (none)) = some (r1, r2) := by first | (rw [hy298]; with_reducible exact H) | (have H2_ := (Option.bind_some _ _).symm.trans H; rw [hy298]; with_reducible exact H2_) | (have H2_ := (Option.bind_some _ _).symm.trans H; with_reducible exact H2_) | with_reducible exact H | (rw [hy298]; exact H) | exact H
      have Ny298 := Aside0.mk hy298
      clear hy298
      by_cases c69 : 0 ≤ a0_0
      ·rw [if_pos c69] at H
       have c69b0 : decide (0 ≤ a0_0) = true := decide_eq_true c69
       clear c69
       by_cases c70 : a0_0 < (y298.length : Int)
       ·rw [if_pos c70] at H
        have c70b0 : decide (a0_0 < (y298.length : Int)) = true := decide_eq_true c70
        clear c70
        simp only [Option.some.injEq, Prod.mk.injEq] at H
        obtain ⟨rfl, rfl⟩ := H
        go_enter Tryd.func14, Tryd.ntmps14
        go_wp2_with (first | ((with_reducible refine gate_dst (N := 1) rfl ?_); refine box_event ?hg (N := 1) ?hd (cs := #[.int .i64 a0_0, .int .i64 a0_1, .int .i64 a0_2, .string a0_3]) (t := 27) ?hr ?_; (case hd => rfl); (case hg => rfl); (case hr => first | (go_simp; done) | (go_simp; rfl)); intro gb288 hg w71 hbox hb; have n0_ := Aside0.mk (below_step bel hb); have n1_ := Aside0.mk (hbox); have n2_ := Aside0.mk ((by rw [hg]; exact (below_size bel) : w.heap.size ≤ gb288)); have n3_ := Aside0.mk ((by rw [hg]; exact (below_size bel) : w.heap.size ≤ gb288)); clear HB; have HB := n0_; have BK288 := n1_; have GW288 := n2_; have GE288 := n3_; clear n0_ n1_ n2_ n3_; clear hb hbox hg; have hcz72_0 : w71.cell? ⟨gb288, 0, none⟩ = some (.int .i64 a0_0) := (blk_cell BK288.out 0).trans rfl; have hcz72_1 : w71.cell? ⟨gb288, 1, none⟩ = some (.int .i64 a0_1) := (blk_cell BK288.out 1).trans rfl; have hcz72_2 : w71.cell? ⟨gb288, 2, none⟩ = some (.int .i64 a0_2) := (blk_cell BK288.out 2).trans rfl; have hcz72_3 : w71.cell? ⟨gb288, 3, none⟩ = some (.string a0_3) := (blk_cell BK288.out 3).trans rfl; have hfz72_0 := blk_frozen BK288.out 0; have hfz72_1 := blk_frozen BK288.out 1; have hfz72_2 := blk_frozen BK288.out 2; have hfz72_3 := blk_frozen BK288.out 3) | ((with_reducible refine gate_callee (f := 34) rfl ?_); refine goesL_ (some 10) rfl rfl Tryd.func34 (by kernel_rfl) rfl #[.agg #[.int .i64 a0_0, .int .i64 a0_1, .int .i64 a0_2, .string a0_3]] rfl gl_ ?_; (with_reducible refine (erasureref14_Right.calls k a0_0 a0_1 a0_2 a0_3 true _ A2.out).mono ?_); rintro e w73 ⟨rfl, hb⟩; refine ⟨_, rfl, ?_⟩; have n0_ := Aside0.mk (blk_below (bkk BK288.out) hb); have n1_ := Aside0.mk (below_step bel hb); clear BK288; clear HB; have BK288 := n0_; have HB := n1_; clear n0_ n1_; (try clear hb); (try clear hb2); (try clear hk); (try clear hi); have hcz74_0 : w73.cell? ⟨gb288, 0, none⟩ = some (.int .i64 a0_0) := (blk_cell BK288.out 0).trans rfl; have hcz74_1 : w73.cell? ⟨gb288, 1, none⟩ = some (.int .i64 a0_1) := (blk_cell BK288.out 1).trans rfl; have hcz74_2 : w73.cell? ⟨gb288, 2, none⟩ = some (.int .i64 a0_2) := (blk_cell BK288.out 2).trans rfl; have hcz74_3 : w73.cell? ⟨gb288, 3, none⟩ = some (.string a0_3) := (blk_cell BK288.out 3).trans rfl; have hfz74_0 := blk_frozen BK288.out 0; have hfz74_1 := blk_frozen BK288.out 1; have hfz74_2 := blk_frozen BK288.out 2; have hfz74_3 := blk_frozen BK288.out 3) | ((with_reducible refine gate_dst (N := 14) rfl ?_); refine Kd.R_lit Kd.string _ 9 ?hg (N := 14) ?hd (xs := ([(⟨#[]⟩ : ByteArray), (⟨#[]⟩ : ByteArray), (⟨#[]⟩ : ByteArray), (⟨#[]⟩ : ByteArray), (⟨#[]⟩ : ByteArray), (⟨#[91]⟩ : ByteArray), (⟨#[93]⟩ : ByteArray), (⟨#[60, 60]⟩ : ByteArray), (⟨#[62, 62]⟩ : ByteArray)] : List ByteArray)) (inner := [.string (⟨#[]⟩ : ByteArray), .string (⟨#[]⟩ : ByteArray), .string (⟨#[]⟩ : ByteArray), .string (⟨#[]⟩ : ByteArray), .string (⟨#[]⟩ : ByteArray), .string (⟨#[91]⟩ : ByteArray), .string (⟨#[93]⟩ : ByteArray), .string (⟨#[60, 60]⟩ : ByteArray), .string (⟨#[62, 62]⟩ : ByteArray)]) (ok := fun _ => True) (okp := fun _ => True) ?hr ?hp (fun _ hk => hk) trivial (Below.refl _ _) (Nat.le_refl _) (by simp) ?_; (case hd => rfl); (case hg => rfl); (case hr => first | (go_simp; done) | (go_simp; rfl)); (case hp => exact (Reps.one (show Kd.M Kd.string _ _ _ (⟨#[]⟩ : ByteArray) [.string (⟨#[]⟩ : ByteArray)] from rfl) (Reps.one (show Kd.M Kd.string _ _ _ (⟨#[]⟩ : ByteArray) [.string (⟨#[]⟩ : ByteArray)] from rfl) (Reps.one (show Kd.M Kd.string _ _ _ (⟨#[]⟩ : ByteArray) [.string (⟨#[]⟩ : ByteArray)] from rfl) (Reps.one (show Kd.M Kd.string _ _ _ (⟨#[]⟩ : ByteArray) [.string (⟨#[]⟩ : ByteArray)] from rfl) (Reps.one (show Kd.M Kd.string _ _ _ (⟨#[]⟩ : ByteArray) [.string (⟨#[]⟩ : ByteArray)] from rfl) (Reps.one (show Kd.M Kd.string _ _ _ (⟨#[91]⟩ : ByteArray) [.string (⟨#[91]⟩ : ByteArray)] from rfl) (Reps.one (show Kd.M Kd.string _ _ _ (⟨#[93]⟩ : ByteArray) [.string (⟨#[93]⟩ : ByteArray)] from rfl) (Reps.one (show Kd.M Kd.string _ _ _ (⟨#[60, 60]⟩ : ByteArray) [.string (⟨#[60, 60]⟩ : ByteArray)] from rfl) (Reps.one (show Kd.M Kd.string _ _ _ (⟨#[62, 62]⟩ : ByteArray) [.string (⟨#[62, 62]⟩ : ByteArray)] from rfl) (Reps.none _ _))))))))))); intro v299 w75 ho76 hb hg_ hnew_; clear hg_ hnew_; (first | rw [← Ny298.out] at ho76 | (simp only [Int.reduceToNat] at ho76; rw [← Ny298.out] at ho76)); have n0_ := Aside0.mk (Kd.R_lower ho76 (below_size bel)); have n1_ := Aside0.mk (blk_below (bkk BK288.out) hb); have n2_ := Aside0.mk (below_step bel hb); clear BK288; clear HB; have HO300 := n0_; have BK288 := n1_; have HB := n2_; clear n0_ n1_ n2_; clear hb ho76; have hcz77_0 : w75.cell? ⟨gb288, 0, none⟩ = some (.int .i64 a0_0) := (blk_cell BK288.out 0).trans rfl; have hcz77_1 : w75.cell? ⟨gb288, 1, none⟩ = some (.int .i64 a0_1) := (blk_cell BK288.out 1).trans rfl; have hcz77_2 : w75.cell? ⟨gb288, 2, none⟩ = some (.int .i64 a0_2) := (blk_cell BK288.out 2).trans rfl; have hcz77_3 : w75.cell? ⟨gb288, 3, none⟩ = some (.string a0_3) := (blk_cell BK288.out 3).trans rfl; have hfz77_0 := blk_frozen BK288.out 0; have hfz77_1 := blk_frozen BK288.out 1; have hfz77_2 := blk_frozen BK288.out 2; have hfz77_3 := blk_frozen BK288.out 3; obtain ⟨Ao78, co78, eo78⟩ := Kd.R_slice HO300.out; subst eo78; have p301 : 0 ≤ (a0_0 : Int) := of_decide_eq_true (by first | (with_reducible assumption) | assumption); have q301 : a0_0 < (y298.length : Int) := of_decide_eq_true (by first | (with_reducible assumption) | assumption); obtain ⟨ad301, e301, hx301_0⟩ := Kd.at_string (Kd.R_reads' HO300.out).2.2 a0_0 p301 q301; cases e301; replace p301 := eq_true p301; replace q301 := eq_true q301))
        go_ret2
        exact ⟨by first | rfl | (simp [errW_none, errW_some] <;> rfl) | (simp [*, errW_none, errW_some] <;> rfl), bel⟩
       ·rw [if_neg c70] at H
        exact absurd H (by simp)
      ·rw [if_neg c69] at H
       exact absurd H (by simp)
 ·replace c3 := Bool.eq_false_iff.mpr c3
  subst c3
  have H1 : (some ((⟨#[]⟩ : ByteArray), 1)) = some (r1, r2) := by rw [if_neg (show ¬ (false = true) by decide)] at H; exact H
  clear H
  have H := H1
  clear H1
  simp only [Option.some.injEq, Prod.mk.injEq] at H
  obtain ⟨rfl, rfl⟩ := H
  go_enter Tryd.func14, Tryd.ntmps14
  go_wp2_with (first | ((with_reducible refine gate_dst (N := 1) rfl ?_); refine box_event ?hg (N := 1) ?hd (cs := #[.int .i64 a0_0, .int .i64 a0_1, .int .i64 a0_2, .string a0_3]) (t := 27) ?hr ?_; (case hd => rfl); (case hg => rfl); (case hr => first | (go_simp; done) | (go_simp; rfl)); intro gb288 hg w79 hbox hb; have n0_ := Aside0.mk (below_step bel hb); have n1_ := Aside0.mk (hbox); have n2_ := Aside0.mk ((by rw [hg]; exact (below_size bel) : w.heap.size ≤ gb288)); have n3_ := Aside0.mk ((by rw [hg]; exact (below_size bel) : w.heap.size ≤ gb288)); clear HB; have HB := n0_; have BK288 := n1_; have GW288 := n2_; have GE288 := n3_; clear n0_ n1_ n2_ n3_; clear hb hbox hg; have hcz80_0 : w79.cell? ⟨gb288, 0, none⟩ = some (.int .i64 a0_0) := (blk_cell BK288.out 0).trans rfl; have hcz80_1 : w79.cell? ⟨gb288, 1, none⟩ = some (.int .i64 a0_1) := (blk_cell BK288.out 1).trans rfl; have hcz80_2 : w79.cell? ⟨gb288, 2, none⟩ = some (.int .i64 a0_2) := (blk_cell BK288.out 2).trans rfl; have hcz80_3 : w79.cell? ⟨gb288, 3, none⟩ = some (.string a0_3) := (blk_cell BK288.out 3).trans rfl; have hfz80_0 := blk_frozen BK288.out 0; have hfz80_1 := blk_frozen BK288.out 1; have hfz80_2 := blk_frozen BK288.out 2; have hfz80_3 := blk_frozen BK288.out 3) | ((with_reducible refine gate_callee (f := 34) rfl ?_); refine goesL_ (some 10) rfl rfl Tryd.func34 (by kernel_rfl) rfl #[.agg #[.int .i64 a0_0, .int .i64 a0_1, .int .i64 a0_2, .string a0_3]] rfl gl_ ?_; (with_reducible refine (erasureref14_Right.calls k a0_0 a0_1 a0_2 a0_3 false _ A2.out).mono ?_); rintro e w81 ⟨rfl, hb⟩; refine ⟨_, rfl, ?_⟩; have n0_ := Aside0.mk (blk_below (bkk BK288.out) hb); have n1_ := Aside0.mk (below_step bel hb); clear BK288; clear HB; have BK288 := n0_; have HB := n1_; clear n0_ n1_; (try clear hb); (try clear hb2); (try clear hk); (try clear hi)))
  go_ret2
  exact ⟨by first | rfl | (simp [errW_none, errW_some] <;> rfl) | (simp [*, errW_none, errW_some] <;> rfl), bel⟩
end Go.Proofs.YtnhgnejfagncpaaDoor.L
end
section
-- written by my own driver of the kit's print (wip/tools/myprint.py); Lean checks it.
namespace Go.Proofs.YtnhgnejfagncpaaDoor.Q
open Go.RowKit Go.Proofs.YtnhgnejfagncpaaDoorW.PrintWords Go.Proofs.YtnhgnejfagncpaaDoorW.PrintLast Go.Proofs.YtnhgnejfagncpaaDoorW.PrintMore Go.Proofs.YtnhgnejfagncpaaDoor.H Go.Proofs.YtnhgnejfagncpaaDoor.A Go.Proofs.YtnhgnejfagncpaaDoor.B Go.Proofs.YtnhgnejfagncpaaDoor.E Go.Proofs.YtnhgnejfagncpaaDoor.L Go.Proofs.YtnhgnejfagncpaaDoor.M Go.Proofs.YtnhgnejfagncpaaDoor.P
attribute [local go_sem] max2_int min2_int max_two min_two max_three min_three max_four min_four   -- for this text's walks alone
set_option linter.unusedVariables false
set_option linter.unusedSimpArgs false
def erasurelaw14_LexPrints.f (k : Nat) (a0_0 : Int) (a0_1 : Int) (a0_2 : Int) (a0_3 : ByteArray) : Option (Bool) := if (a0_3.size : Int) > 500 then (some true) else ((lex_Print.f k a0_0 a0_1 a0_2 a0_3).bind fun bt177 => ((erasureref14_Print.f k a0_0 a0_1 a0_2 a0_3).bind fun bt179 => ((erasurelaw14_awake.f).bind fun t181 => (if t181 = true then (if bt177.1.toList = bt179.1.toList then (some (bt177.2 == bt179.2)) else (some false)) else (some false)))))
set_option maxHeartbeats 8000000 in
set_option maxRecDepth 100000 in
theorem erasurelaw14_LexPrints.calls (k : Nat) (a0_0 : Int) (a0_1 : Int) (a0_2 : Int) (a0_3 : ByteArray) (r : Bool) (w : World) (hT : Tab w) (h : erasurelaw14_LexPrints.f k a0_0 a0_1 a0_2 a0_3 = some r) :
  Calls Tryd.prog 4 #[.agg #[.int .i64 a0_0, .int .i64 a0_1, .int .i64 a0_2, .string a0_3]] w fun e w' => e = .returned (.bool r) ∧ Below w.heap.size w w' := by
 have hu27 := Tryd.underlying27
 have HB := Aside0.mk (Below.refl w.heap.size w)
 have HT := Aside0.mk hT
 clear hT
 have H : (if (a0_3.size : Int) > 500 then (some true) else ((lex_Print.f k a0_0 a0_1 a0_2 a0_3).bind fun bt177 => ((erasureref14_Print.f k a0_0 a0_1 a0_2 a0_3).bind fun bt179 => ((erasurelaw14_awake.f).bind fun t181 => (if t181 = true then (if bt177.1.toList = bt179.1.toList then (some (bt177.2 == bt179.2)) else (some false)) else (some false)))))) = some r := h
 clear h
 by_cases c2 : (a0_3.size : Int) > 500
 ·rw [if_pos c2] at H
  have c2b0 : decide (500 < (a0_3.size : Int)) = true := decide_eq_true c2
  have c2b1 : decide (500 < a0_3.size) = true := decide_eq_true (by omega)
  clear c2
  obtain rfl := Option.some.inj H
  go_enter Tryd.func4, Tryd.ntmps4
  go_wp2_with (first | ((with_reducible refine gate_dst (N := 1) rfl ?_); refine box_event ?hg (N := 1) ?hd (cs := #[.int .i64 a0_0, .int .i64 a0_1, .int .i64 a0_2, .string a0_3]) (t := 27) ?hr ?_; (case hd => rfl); (case hg => rfl); (case hr => first | (go_simp; done) | (go_simp; rfl)); intro gb176 hg w3 hbox hb; have n0_ := Aside0.mk (below_step bel hb); have n1_ := Aside0.mk (hbox); have n2_ := Aside0.mk ((by rw [hg]; exact (below_size bel) : w.heap.size ≤ gb176)); have n3_ := Aside0.mk ((by rw [hg]; exact (below_size bel) : w.heap.size ≤ gb176)); clear HB; have HB := n0_; have BK176 := n1_; have GW176 := n2_; have GE176 := n3_; clear n0_ n1_ n2_ n3_; clear hb hbox hg; have hcz4_0 : w3.cell? ⟨gb176, 0, none⟩ = some (.int .i64 a0_0) := (blk_cell BK176.out 0).trans rfl; have hcz4_1 : w3.cell? ⟨gb176, 1, none⟩ = some (.int .i64 a0_1) := (blk_cell BK176.out 1).trans rfl; have hcz4_2 : w3.cell? ⟨gb176, 2, none⟩ = some (.int .i64 a0_2) := (blk_cell BK176.out 2).trans rfl; have hcz4_3 : w3.cell? ⟨gb176, 3, none⟩ = some (.string a0_3) := (blk_cell BK176.out 3).trans rfl; have hfz4_0 := blk_frozen BK176.out 0; have hfz4_1 := blk_frozen BK176.out 1; have hfz4_2 := blk_frozen BK176.out 2; have hfz4_3 := blk_frozen BK176.out 3))
  go_ret
  exact ⟨by first | rfl | (simp [errW_none, errW_some] <;> rfl) | (simp [*, errW_none, errW_some] <;> rfl), bel⟩
 ·rw [if_neg c2] at H
  have c2b0 : decide (500 < (a0_3.size : Int)) = false := decide_eq_false c2
  have c2b1 : decide (500 < a0_3.size) = false := decide_eq_false (by omega)
  clear c2
  replace H := Option.bind_eq_some_iff.mp H
  obtain ⟨⟨t177, t178⟩, A50, H⟩ := H
  replace H : ((erasureref14_Print.f k a0_0 a0_1 a0_2 a0_3).bind fun bt179 => ((erasurelaw14_awake.f).bind fun t181 => (if t181 = true then (if t177.toList = bt179.1.toList then (some (t178 == bt179.2)) else (some false)) else (some false)))) = some r := H
  have A5 := Aside0.mk A50
  clear A50
  replace H := Option.bind_eq_some_iff.mp H
  obtain ⟨⟨t179, t180⟩, A60, H⟩ := H
  replace H : ((erasurelaw14_awake.f).bind fun t181 => (if t181 = true then (if t177.toList = t179.toList then (some (t178 == t180)) else (some false)) else (some false))) = some r := H
  have A6 := Aside0.mk A60
  clear A60
  replace H := Option.bind_eq_some_iff.mp H
  obtain ⟨t181, A70, H⟩ := H
  replace H : (if t181 = true then (if t177.toList = t179.toList then (some (t178 == t180)) else (some false)) else (some false)) = some r := H
  have A7 := Aside0.mk A70
  clear A70
  by_cases c8 : t181 = true
  ·subst c8
   have H1 : (if t177.toList = t179.toList then (some (t178 == t180)) else (some false)) = some r := by rw [if_pos rfl] at H; exact H
   clear H
   have H := H1
   clear H1
   by_cases c9 : t177.toList = t179.toList
   ·rw [if_pos c9] at H
    have c9b0 : (t177.toList == t179.toList) = true := beq_iff_eq.mpr c9
    have c9b1 : (t177.toList != t179.toList) = false := bne_eq_false_iff_eq.mpr c9
    clear c9
    obtain rfl := Option.some.inj H
    go_enter Tryd.func4, Tryd.ntmps4
    go_wp2_with (first | ((with_reducible refine gate_dst (N := 1) rfl ?_); refine box_event ?hg (N := 1) ?hd (cs := #[.int .i64 a0_0, .int .i64 a0_1, .int .i64 a0_2, .string a0_3]) (t := 27) ?hr ?_; (case hd => rfl); (case hg => rfl); (case hr => first | (go_simp; done) | (go_simp; rfl)); intro gb176 hg w10 hbox hb; have n0_ := Aside0.mk (below_step bel hb); have n1_ := Aside0.mk (hbox); have n2_ := Aside0.mk ((by rw [hg]; exact (below_size bel) : w.heap.size ≤ gb176)); have n3_ := Aside0.mk ((by rw [hg]; exact (below_size bel) : w.heap.size ≤ gb176)); clear HB; have HB := n0_; have BK176 := n1_; have GW176 := n2_; have GE176 := n3_; clear n0_ n1_ n2_ n3_; clear hb hbox hg; have hcz11_0 : w10.cell? ⟨gb176, 0, none⟩ = some (.int .i64 a0_0) := (blk_cell BK176.out 0).trans rfl; have hcz11_1 : w10.cell? ⟨gb176, 1, none⟩ = some (.int .i64 a0_1) := (blk_cell BK176.out 1).trans rfl; have hcz11_2 : w10.cell? ⟨gb176, 2, none⟩ = some (.int .i64 a0_2) := (blk_cell BK176.out 2).trans rfl; have hcz11_3 : w10.cell? ⟨gb176, 3, none⟩ = some (.string a0_3) := (blk_cell BK176.out 3).trans rfl; have hfz11_0 := blk_frozen BK176.out 0; have hfz11_1 := blk_frozen BK176.out 1; have hfz11_2 := blk_frozen BK176.out 2; have hfz11_3 := blk_frozen BK176.out 3) | ((with_reducible refine gate_callee (f := 13) rfl ?_); refine goesL_ (some 13) rfl rfl Tryd.func13 (by kernel_rfl) rfl #[.agg #[.int .i64 a0_0, .int .i64 a0_1, .int .i64 a0_2, .string a0_3]] rfl gl_ ?_; (with_reducible refine (lex_Print.calls k a0_0 a0_1 a0_2 a0_3 t177 t178 _ (Tab.below HT.out bel) A5.out).mono ?_); rintro e w12 ⟨rfl, hb⟩; refine ⟨_, rfl, ?_⟩; have n0_ := Aside0.mk (blk_below (bkk BK176.out) hb); have n1_ := Aside0.mk (below_step bel hb); clear BK176; clear HB; have BK176 := n0_; have HB := n1_; clear n0_ n1_; (try clear hb); (try clear hb2); (try clear hk); (try clear hi); have hcz13_0 : w12.cell? ⟨gb176, 0, none⟩ = some (.int .i64 a0_0) := (blk_cell BK176.out 0).trans rfl; have hcz13_1 : w12.cell? ⟨gb176, 1, none⟩ = some (.int .i64 a0_1) := (blk_cell BK176.out 1).trans rfl; have hcz13_2 : w12.cell? ⟨gb176, 2, none⟩ = some (.int .i64 a0_2) := (blk_cell BK176.out 2).trans rfl; have hcz13_3 : w12.cell? ⟨gb176, 3, none⟩ = some (.string a0_3) := (blk_cell BK176.out 3).trans rfl; have hfz13_0 := blk_frozen BK176.out 0; have hfz13_1 := blk_frozen BK176.out 1; have hfz13_2 := blk_frozen BK176.out 2; have hfz13_3 := blk_frozen BK176.out 3) | ((with_reducible refine gate_callee (f := 14) rfl ?_); refine goesL_ (some 18) rfl rfl Tryd.func14 (by kernel_rfl) rfl #[.agg #[.int .i64 a0_0, .int .i64 a0_1, .int .i64 a0_2, .string a0_3]] rfl gl_ ?_; (with_reducible refine (erasureref14_Print.calls k a0_0 a0_1 a0_2 a0_3 t179 t180 _ A6.out).mono ?_); rintro e w14 ⟨rfl, hb⟩; refine ⟨_, rfl, ?_⟩; have n0_ := Aside0.mk (blk_below (bkk BK176.out) hb); have n1_ := Aside0.mk (below_step bel hb); clear BK176; clear HB; have BK176 := n0_; have HB := n1_; clear n0_ n1_; (try clear hb); (try clear hb2); (try clear hk); (try clear hi)) | ((with_reducible refine gate_callee (f := 12) rfl ?_); refine goesL_ (some 21) rfl rfl Tryd.func12 (by kernel_rfl) rfl #[] rfl gl_ ?_; (with_reducible refine (erasurelaw14_awake.calls  true _ (Tab.below HT.out bel) A7.out).mono ?_); rintro e w15 ⟨rfl, hb⟩; refine ⟨_, rfl, ?_⟩; have n0_ := Aside0.mk (blk_below (bkk BK176.out) hb); have n1_ := Aside0.mk (below_step bel hb); clear BK176; clear HB; have BK176 := n0_; have HB := n1_; clear n0_ n1_; (try clear hb); (try clear hb2); (try clear hk); (try clear hi)))
    go_ret
    exact ⟨by first | rfl | (simp [errW_none, errW_some] <;> rfl) | (simp [*, errW_none, errW_some] <;> rfl), bel⟩
   ·rw [if_neg c9] at H
    have c9b0 : (t177.toList == t179.toList) = false := beq_eq_false_iff_ne.mpr c9
    have c9b1 : (t177.toList != t179.toList) = true := bne_iff_ne.mpr c9
    obtain rfl := Option.some.inj H
    go_enter Tryd.func4, Tryd.ntmps4
    go_wp2_with (first | ((with_reducible refine gate_dst (N := 1) rfl ?_); refine box_event ?hg (N := 1) ?hd (cs := #[.int .i64 a0_0, .int .i64 a0_1, .int .i64 a0_2, .string a0_3]) (t := 27) ?hr ?_; (case hd => rfl); (case hg => rfl); (case hr => first | (go_simp; done) | (go_simp; rfl)); intro gb176 hg w16 hbox hb; have n0_ := Aside0.mk (below_step bel hb); have n1_ := Aside0.mk (hbox); have n2_ := Aside0.mk ((by rw [hg]; exact (below_size bel) : w.heap.size ≤ gb176)); have n3_ := Aside0.mk ((by rw [hg]; exact (below_size bel) : w.heap.size ≤ gb176)); clear HB; have HB := n0_; have BK176 := n1_; have GW176 := n2_; have GE176 := n3_; clear n0_ n1_ n2_ n3_; clear hb hbox hg; have hcz17_0 : w16.cell? ⟨gb176, 0, none⟩ = some (.int .i64 a0_0) := (blk_cell BK176.out 0).trans rfl; have hcz17_1 : w16.cell? ⟨gb176, 1, none⟩ = some (.int .i64 a0_1) := (blk_cell BK176.out 1).trans rfl; have hcz17_2 : w16.cell? ⟨gb176, 2, none⟩ = some (.int .i64 a0_2) := (blk_cell BK176.out 2).trans rfl; have hcz17_3 : w16.cell? ⟨gb176, 3, none⟩ = some (.string a0_3) := (blk_cell BK176.out 3).trans rfl; have hfz17_0 := blk_frozen BK176.out 0; have hfz17_1 := blk_frozen BK176.out 1; have hfz17_2 := blk_frozen BK176.out 2; have hfz17_3 := blk_frozen BK176.out 3) | ((with_reducible refine gate_callee (f := 13) rfl ?_); refine goesL_ (some 13) rfl rfl Tryd.func13 (by kernel_rfl) rfl #[.agg #[.int .i64 a0_0, .int .i64 a0_1, .int .i64 a0_2, .string a0_3]] rfl gl_ ?_; (with_reducible refine (lex_Print.calls k a0_0 a0_1 a0_2 a0_3 t177 t178 _ (Tab.below HT.out bel) A5.out).mono ?_); rintro e w18 ⟨rfl, hb⟩; refine ⟨_, rfl, ?_⟩; have n0_ := Aside0.mk (blk_below (bkk BK176.out) hb); have n1_ := Aside0.mk (below_step bel hb); clear BK176; clear HB; have BK176 := n0_; have HB := n1_; clear n0_ n1_; (try clear hb); (try clear hb2); (try clear hk); (try clear hi); have hcz19_0 : w18.cell? ⟨gb176, 0, none⟩ = some (.int .i64 a0_0) := (blk_cell BK176.out 0).trans rfl; have hcz19_1 : w18.cell? ⟨gb176, 1, none⟩ = some (.int .i64 a0_1) := (blk_cell BK176.out 1).trans rfl; have hcz19_2 : w18.cell? ⟨gb176, 2, none⟩ = some (.int .i64 a0_2) := (blk_cell BK176.out 2).trans rfl; have hcz19_3 : w18.cell? ⟨gb176, 3, none⟩ = some (.string a0_3) := (blk_cell BK176.out 3).trans rfl; have hfz19_0 := blk_frozen BK176.out 0; have hfz19_1 := blk_frozen BK176.out 1; have hfz19_2 := blk_frozen BK176.out 2; have hfz19_3 := blk_frozen BK176.out 3) | ((with_reducible refine gate_callee (f := 14) rfl ?_); refine goesL_ (some 18) rfl rfl Tryd.func14 (by kernel_rfl) rfl #[.agg #[.int .i64 a0_0, .int .i64 a0_1, .int .i64 a0_2, .string a0_3]] rfl gl_ ?_; (with_reducible refine (erasureref14_Print.calls k a0_0 a0_1 a0_2 a0_3 t179 t180 _ A6.out).mono ?_); rintro e w20 ⟨rfl, hb⟩; refine ⟨_, rfl, ?_⟩; have n0_ := Aside0.mk (blk_below (bkk BK176.out) hb); have n1_ := Aside0.mk (below_step bel hb); clear BK176; clear HB; have BK176 := n0_; have HB := n1_; clear n0_ n1_; (try clear hb); (try clear hb2); (try clear hk); (try clear hi)) | ((with_reducible refine gate_callee (f := 12) rfl ?_); refine goesL_ (some 21) rfl rfl Tryd.func12 (by kernel_rfl) rfl #[] rfl gl_ ?_; (with_reducible refine (erasurelaw14_awake.calls  true _ (Tab.below HT.out bel) A7.out).mono ?_); rintro e w21 ⟨rfl, hb⟩; refine ⟨_, rfl, ?_⟩; have n0_ := Aside0.mk (blk_below (bkk BK176.out) hb); have n1_ := Aside0.mk (below_step bel hb); clear BK176; clear HB; have BK176 := n0_; have HB := n1_; clear n0_ n1_; (try clear hb); (try clear hb2); (try clear hk); (try clear hi)))
    go_ret
    exact ⟨by first | rfl | (simp [errW_none, errW_some] <;> rfl) | (simp [*, errW_none, errW_some] <;> rfl), bel⟩
  ·replace c8 := Bool.eq_false_iff.mpr c8
   subst c8
   have H1 : (some false) = some r := by rw [if_neg (show ¬ (false = true) by decide)] at H; exact H
   clear H
   have H := H1
   clear H1
   obtain rfl := Option.some.inj H
   go_enter Tryd.func4, Tryd.ntmps4
   go_wp2_with (first | ((with_reducible refine gate_dst (N := 1) rfl ?_); refine box_event ?hg (N := 1) ?hd (cs := #[.int .i64 a0_0, .int .i64 a0_1, .int .i64 a0_2, .string a0_3]) (t := 27) ?hr ?_; (case hd => rfl); (case hg => rfl); (case hr => first | (go_simp; done) | (go_simp; rfl)); intro gb176 hg w22 hbox hb; have n0_ := Aside0.mk (below_step bel hb); have n1_ := Aside0.mk (hbox); have n2_ := Aside0.mk ((by rw [hg]; exact (below_size bel) : w.heap.size ≤ gb176)); have n3_ := Aside0.mk ((by rw [hg]; exact (below_size bel) : w.heap.size ≤ gb176)); clear HB; have HB := n0_; have BK176 := n1_; have GW176 := n2_; have GE176 := n3_; clear n0_ n1_ n2_ n3_; clear hb hbox hg; have hcz23_0 : w22.cell? ⟨gb176, 0, none⟩ = some (.int .i64 a0_0) := (blk_cell BK176.out 0).trans rfl; have hcz23_1 : w22.cell? ⟨gb176, 1, none⟩ = some (.int .i64 a0_1) := (blk_cell BK176.out 1).trans rfl; have hcz23_2 : w22.cell? ⟨gb176, 2, none⟩ = some (.int .i64 a0_2) := (blk_cell BK176.out 2).trans rfl; have hcz23_3 : w22.cell? ⟨gb176, 3, none⟩ = some (.string a0_3) := (blk_cell BK176.out 3).trans rfl; have hfz23_0 := blk_frozen BK176.out 0; have hfz23_1 := blk_frozen BK176.out 1; have hfz23_2 := blk_frozen BK176.out 2; have hfz23_3 := blk_frozen BK176.out 3) | ((with_reducible refine gate_callee (f := 13) rfl ?_); refine goesL_ (some 13) rfl rfl Tryd.func13 (by kernel_rfl) rfl #[.agg #[.int .i64 a0_0, .int .i64 a0_1, .int .i64 a0_2, .string a0_3]] rfl gl_ ?_; (with_reducible refine (lex_Print.calls k a0_0 a0_1 a0_2 a0_3 t177 t178 _ (Tab.below HT.out bel) A5.out).mono ?_); rintro e w24 ⟨rfl, hb⟩; refine ⟨_, rfl, ?_⟩; have n0_ := Aside0.mk (blk_below (bkk BK176.out) hb); have n1_ := Aside0.mk (below_step bel hb); clear BK176; clear HB; have BK176 := n0_; have HB := n1_; clear n0_ n1_; (try clear hb); (try clear hb2); (try clear hk); (try clear hi); have hcz25_0 : w24.cell? ⟨gb176, 0, none⟩ = some (.int .i64 a0_0) := (blk_cell BK176.out 0).trans rfl; have hcz25_1 : w24.cell? ⟨gb176, 1, none⟩ = some (.int .i64 a0_1) := (blk_cell BK176.out 1).trans rfl; have hcz25_2 : w24.cell? ⟨gb176, 2, none⟩ = some (.int .i64 a0_2) := (blk_cell BK176.out 2).trans rfl; have hcz25_3 : w24.cell? ⟨gb176, 3, none⟩ = some (.string a0_3) := (blk_cell BK176.out 3).trans rfl; have hfz25_0 := blk_frozen BK176.out 0; have hfz25_1 := blk_frozen BK176.out 1; have hfz25_2 := blk_frozen BK176.out 2; have hfz25_3 := blk_frozen BK176.out 3) | ((with_reducible refine gate_callee (f := 14) rfl ?_); refine goesL_ (some 18) rfl rfl Tryd.func14 (by kernel_rfl) rfl #[.agg #[.int .i64 a0_0, .int .i64 a0_1, .int .i64 a0_2, .string a0_3]] rfl gl_ ?_; (with_reducible refine (erasureref14_Print.calls k a0_0 a0_1 a0_2 a0_3 t179 t180 _ A6.out).mono ?_); rintro e w26 ⟨rfl, hb⟩; refine ⟨_, rfl, ?_⟩; have n0_ := Aside0.mk (blk_below (bkk BK176.out) hb); have n1_ := Aside0.mk (below_step bel hb); clear BK176; clear HB; have BK176 := n0_; have HB := n1_; clear n0_ n1_; (try clear hb); (try clear hb2); (try clear hk); (try clear hi)) | ((with_reducible refine gate_callee (f := 12) rfl ?_); refine goesL_ (some 21) rfl rfl Tryd.func12 (by kernel_rfl) rfl #[] rfl gl_ ?_; (with_reducible refine (erasurelaw14_awake.calls  false _ (Tab.below HT.out bel) A7.out).mono ?_); rintro e w27 ⟨rfl, hb⟩; refine ⟨_, rfl, ?_⟩; have n0_ := Aside0.mk (blk_below (bkk BK176.out) hb); have n1_ := Aside0.mk (below_step bel hb); clear BK176; clear HB; have BK176 := n0_; have HB := n1_; clear n0_ n1_; (try clear hb); (try clear hb2); (try clear hk); (try clear hi)))
   go_ret
   exact ⟨by first | rfl | (simp [errW_none, errW_some] <;> rfl) | (simp [*, errW_none, errW_some] <;> rfl), bel⟩
end Go.Proofs.YtnhgnejfagncpaaDoor.Q
end
section
namespace Go.Proofs.YtnhgnejfagncpaaDoor.Plain
open Go.RowKit Go.Proofs.YtnhgnejfagncpaaDoor.A Go.Proofs.YtnhgnejfagncpaaDoor.H Go.Proofs.YtnhgnejfagncpaaDoorW.PrintWords Go.Proofs.YtnhgnejfagncpaaDoorW.PrintLast Go.Proofs.YtnhgnejfagncpaaDoorW.PrintMore
theorem wrap_small (n : Int) (h0 : -9223372036854775808 ≤ n) (h1 : n < 9223372036854775808) : wrap64 n = n := by
  unfold wrap64
  omega
theorem wu (n : Int) (h0 : 0 ≤ n) (h1 : n < 18446744073709551616) : IntKind.u64.wrap n = n := by
  rw [IntKind.wrap_u64]
  omega
theorem tm10 (n : Nat) : Int.tmod (n : Int) 10 = ((n % 10 : Nat) : Int) := rfl
theorem td10 (n : Nat) : Int.tdiv (n : Int) 10 = ((n / 10 : Nat) : Int) := rfl
theorem shl10 : shl .u64 10 60 = 11529215046068469760 := by decide
theorem lz10 : bits_LeadingZeros64.f 10 = some 60 := by decide
theorem shl60 (n : Nat) : shl .u64 (n : Int) 60 = ((n % 16 * 1152921504606846976 : Nat) : Int) := by
  unfold shl
  rw [IntKind.wrap_u64, show (2 : Int) ^ min (60 : Int).toNat IntKind.u64.bits = 1152921504606846976 from by decide]
  omega
theorem shr4 (n : Nat) : shr .u64 (n : Int) 4 = ((n / 16 : Nat) : Int) := by
  unfold shr
  rw [show (2 : Int) ^ min (4 : Int).toNat IntKind.u64.bits = 16 from by decide]
  omega
theorem shr60 (n : Nat) : shr .u64 (n : Int) 60 = ((n / 1152921504606846976 : Nat) : Int) := by
  unfold shr
  rw [show (2 : Int) ^ min (60 : Int).toNat IntKind.u64.bits = 1152921504606846976 from by decide]
  omega
theorem or60 (a b : Nat) (ha : a < 16) (hb : b < 1152921504606846976) : Go.bits .or .u64 ((a * 1152921504606846976 : Nat) : Int) (b : Int) = ((a * 1152921504606846976 + b : Nat) : Int) := by
  rw [bits_or_u64_nat _ _ (by omega) (by omega)]
  have h := Nat.two_pow_add_eq_or_of_lt (i := 60) (b := b) (by omega) a
  have h2 : (2 : Nat) ^ 60 = 1152921504606846976 := by decide
  rw [h2] at h
  rw [Nat.mul_comm a, h]
theorem and32 (n : Nat) (hn : n < 18446744073709551616) : Go.bits .and .u64 (n : Int) 4294967295 = ((n % 4294967296 : Nat) : Int) := by
  have h := bits_and_u64_nat n 4294967295 hn (by decide)
  rw [show ((4294967295 : Nat) : Int) = 4294967295 from rfl] at h
  rw [h]
  have h2 := Nat.and_two_pow_sub_one_eq_mod n 32
  rw [show (2 : Nat) ^ 32 - 1 = 4294967295 from by decide, show (2 : Nat) ^ 32 = 4294967296 from by decide] at h2
  rw [h2]
theorem wsub (X r m : Int) (h0 : 0 ≤ r + m) (h1 : r + m < 18446744073709551616) : IntKind.u64.wrap ((IntKind.u64.wrap ((IntKind.u64.wrap (X + r)) + m)) - (IntKind.u64.wrap X)) = r + m := by
  rw [IntKind.wrap_u64, IntKind.wrap_u64, IntKind.wrap_u64, IntKind.wrap_u64]
  omega
set_option maxRecDepth 100000 in
theorem key10 (N u l m q1 rh v q0 rr : Nat) (h1 : N = 16 * u + l) (h2 : l * 268435456 = m) (h3 : u = q1 * 2684354560 + rh) (h4 : v = rh * 4294967296 + m) (h5 : v = q0 * 2684354560 + rr) : N * 1152921504606846976 = 11529215046068469760 * (q1 * 4294967296 + q0) + rr * 4294967296 := by
  grind
set_option maxRecDepth 100000 in
theorem last10 (N Q rr : Nat) (hr : rr < 2684354560) (h : N * 1152921504606846976 = 11529215046068469760 * Q + rr * 4294967296) : rr * 4294967296 / 1152921504606846976 = N % 10 ∧ Q = N / 10 := by
  have h1 : N - 10 * Q = rr * 4294967296 / 1152921504606846976 := by omega
  have h2 : rr * 4294967296 / 1152921504606846976 < 10 := by omega
  omega
set_option maxHeartbeats 4000000 in
theorem div64_10 (N : Nat) (hN : N < 184467440737095516160) (k : Nat) (hk : 6 ≤ k) :
    bits_Div64.f k ((N / 18446744073709551616 : Nat) : Int) ((N % 18446744073709551616 : Nat) : Int) 10 = some (((N / 10 : Nat) : Int), ((N % 10 : Nat) : Int)) := by
  obtain ⟨k, rfl⟩ : ∃ m, k = m + 6 := ⟨k - 6, by omega⟩
  obtain ⟨hi, hhi⟩ : ∃ x, N / 18446744073709551616 = x := ⟨_, rfl⟩
  obtain ⟨lo, hlo⟩ : ∃ x, N % 18446744073709551616 = x := ⟨_, rfl⟩
  rw [hhi, hlo]
  have hhi10 : hi < 10 := by omega
  have hlo64 : lo < 18446744073709551616 := by omega
  unfold bits_Div64.f
  rw [if_neg (by decide), if_neg (by omega)]
  by_cases h0 : hi = 0
  · subst h0
    rw [if_pos (show ((0 : Nat) : Int) = 0 from rfl)]
    have h1 : N = lo := by omega
    subst h1
    rw [show Int.tdiv (N : Int) 10 = ((N / 10 : Nat) : Int) from rfl, show Int.tmod (N : Int) 10 = ((N % 10 : Nat) : Int) from rfl, wu _ (by omega) (by omega)]
  · rw [if_neg (by omega), lz10, Option.bind_some]
    have e1 : IntKind.u64.wrap (60 : Int) = 60 := by decide
    have e2 : IntKind.u64.wrap (64 - (60 : Int)) = 4 := by decide
    have e3 : (11529215046068469760 : Int) / 4294967296 = 2684354560 := by decide
    have e4 : Go.bits .and .u64 11529215046068469760 4294967295 = 0 := by decide
    rw [e1, e2, if_pos (by decide), if_pos (by decide), shl10, e3, e4, if_neg (by decide), shl60, shl60, shr4, Nat.mod_eq_of_lt (show hi < 16 by omega), or60 hi (lo / 16) (by omega) (by omega), and32 _ (by omega)]
    obtain ⟨u, hu⟩ : ∃ x, hi * 1152921504606846976 + lo / 16 = x := ⟨_, rfl⟩
    rw [hu, show Int.tdiv (u : Int) 2684354560 = ((u / 2684354560 : Nat) : Int) from rfl]
    obtain ⟨q1, hq1⟩ : ∃ x, u / 2684354560 = x := ⟨_, rfl⟩
    rw [hq1]
    have b1 : q1 < 4294967296 := by omega
    rw [wu (q1 : Int) (by omega) (by omega), wu ((q1 : Int) * 2684354560) (by omega) (by omega), wu ((u : Int) - (q1 : Int) * 2684354560) (by omega) (by omega)]
    have e5 : ((lo % 16 * 1152921504606846976 : Nat) : Int) / 4294967296 = ((lo % 16 * 268435456 : Nat) : Int) := by omega
    have e6 : ((lo % 16 * 1152921504606846976 % 4294967296 : Nat) : Int) = 0 := by omega
    have e7 : (u : Int) - (q1 : Int) * 2684354560 = ((u % 2684354560 : Nat) : Int) := by omega
    obtain ⟨rh, hrh⟩ : ∃ x, u % 2684354560 = x := ⟨_, rfl⟩
    obtain ⟨m, hm⟩ : ∃ x, lo % 16 * 268435456 = x := ⟨_, rfl⟩
    rw [e5, e6, e7, hrh, hm]
    have b2 : rh < 2684354560 := by omega
    have b3 : m < 4294967296 := by omega
    rw [bits_Div64.l0, if_neg (by omega)]
    have c1 : decide (IntKind.u64.wrap ((q1 : Int) * 0) > IntKind.u64.wrap (IntKind.u64.wrap (4294967296 * (rh : Int)) + (m : Int))) = false := by
      rw [decide_eq_false_iff_not, Int.mul_zero, wu 0 (by decide) (by decide), wu (4294967296 * (rh : Int)) (by omega) (by omega), wu _ (by omega) (by omega)]
      omega
    rw [c1, bits_Div64.j1, if_neg (by decide), bits_Div64.j2, if_neg (by decide)]
    have e8 : IntKind.u64.wrap ((IntKind.u64.wrap ((IntKind.u64.wrap ((u : Int) * 4294967296)) + (m : Int))) - (IntKind.u64.wrap ((q1 : Int) * 11529215046068469760))) = ((rh * 4294967296 + m : Nat) : Int) := by
      have h := wsub ((q1 : Int) * 11529215046068469760) ((rh : Int) * 4294967296) (m : Int) (by omega) (by omega)
      rw [show (q1 : Int) * 11529215046068469760 + (rh : Int) * 4294967296 = (u : Int) * 4294967296 from by omega] at h
      rw [h]
      omega
    rw [e8]
    obtain ⟨v, hv⟩ : ∃ x, rh * 4294967296 + m = x := ⟨_, rfl⟩
    rw [hv, show Int.tdiv (v : Int) 2684354560 = ((v / 2684354560 : Nat) : Int) from rfl]
    obtain ⟨q0, hq0⟩ : ∃ x, v / 2684354560 = x := ⟨_, rfl⟩
    rw [hq0]
    have b4 : q0 < 4294967296 := by omega
    rw [wu (q0 : Int) (by omega) (by omega), wu ((q0 : Int) * 2684354560) (by omega) (by omega), wu ((v : Int) - (q0 : Int) * 2684354560) (by omega) (by omega)]
    have e9 : (v : Int) - (q0 : Int) * 2684354560 = ((v % 2684354560 : Nat) : Int) := by omega
    obtain ⟨rr, hrr⟩ : ∃ x, v % 2684354560 = x := ⟨_, rfl⟩
    rw [e9, hrr]
    have b5 : rr < 2684354560 := by omega
    rw [bits_Div64.l1, if_neg (by omega)]
    have c2 : decide (IntKind.u64.wrap ((q0 : Int) * 0) > IntKind.u64.wrap (IntKind.u64.wrap (4294967296 * (rr : Int)) + 0)) = false := by
      rw [decide_eq_false_iff_not, Int.mul_zero, wu 0 (by decide) (by decide), wu (4294967296 * (rr : Int)) (by omega) (by omega), wu _ (by omega) (by omega)]
      omega
    rw [c2, bits_Div64.j4, if_neg (by decide), if_pos (by decide)]
    have e10 : IntKind.u64.wrap ((IntKind.u64.wrap ((IntKind.u64.wrap ((v : Int) * 4294967296)) + 0)) - (IntKind.u64.wrap ((q0 : Int) * 11529215046068469760))) = ((rr * 4294967296 : Nat) : Int) := by
      have h := wsub ((q0 : Int) * 11529215046068469760) ((rr : Int) * 4294967296) 0 (by omega) (by omega)
      rw [show (q0 : Int) * 11529215046068469760 + (rr : Int) * 4294967296 = (v : Int) * 4294967296 from by omega] at h
      rw [h]
      omega
    rw [e10, shr60, wu ((q1 : Int) * 4294967296) (by omega) (by omega), wu _ (by omega) (by omega)]
    have n1 : N = 16 * u + lo % 16 := by omega
    have key : N * 1152921504606846976 = 11529215046068469760 * (q1 * 4294967296 + q0) + rr * 4294967296 := key10 N u (lo % 16) m q1 rh v q0 rr n1 hm (by omega) hv.symm (by omega)
    clear e8 e9 e10 e7 e5 e6 c1 c2 n1
    obtain ⟨r1, r3⟩ := last10 N _ rr b5 key
    have r2 : (q1 : Int) * 4294967296 + (q0 : Int) = ((N / 10 : Nat) : Int) := by rw [← r3]; omega
    rw [r1, r2]
set_option maxRecDepth 100000 in
theorem by_f (N : Nat) (hN : N < 340282366920938463463374607431768211456) (k : Nat) (hk : 6 ≤ k) :
    dec_wide_by.f k ((N / 18446744073709551616 : Nat) : Int) ((N % 18446744073709551616 : Nat) : Int) = some (((N / 10 / 18446744073709551616 : Nat) : Int), ((N / 10 % 18446744073709551616 : Nat) : Int), ((N % 10 : Nat) : Int)) := by
  unfold dec_wide_by.f
  have h := div64_10 (N / 18446744073709551616 % 10 * 18446744073709551616 + N % 18446744073709551616) (by omega) k hk
  rw [show (N / 18446744073709551616 % 10 * 18446744073709551616 + N % 18446744073709551616) / 18446744073709551616 = N / 18446744073709551616 % 10 from by omega, show (N / 18446744073709551616 % 10 * 18446744073709551616 + N % 18446744073709551616) % 18446744073709551616 = N % 18446744073709551616 from by omega] at h
  rw [tm10, h, Option.bind_some, td10, wu _ (by omega) (by omega)]
  have h1 : N / 18446744073709551616 / 10 = N / 10 / 18446744073709551616 := by omega
  have h2 : (N / 18446744073709551616 % 10 * 18446744073709551616 + N % 18446744073709551616) / 10 = N / 10 % 18446744073709551616 := by omega
  have h3 : (N / 18446744073709551616 % 10 * 18446744073709551616 + N % 18446744073709551616) % 10 = N % 10 := by omega
  rw [h1, h2, h3]
def strip : Nat → Nat → Nat × Nat
  | N, 0 => (N, 0)
  | N, s + 1 => if N % 10 = 0 then strip (N / 10) s else (N, s + 1)
def told (below : Bool) (N s : Nat) : Int × Int × Int :=
  if (strip N s).1 > 999999999999999999 ∨ (strip N s).2 > 9 then (0, 0, 5) else (if below then -((strip N s).1 : Int) else ((strip N s).1 : Int), ((strip N s).2 : Int), 0)
theorem j1_f (below : Bool) (N s : Nat) (hs : s ≤ 1000) (k : Nat) (hk : 2 ≤ k) :
    dec_tell.j1 k below (s : Int) ((N / 18446744073709551616 : Nat) : Int) ((N % 18446744073709551616 : Nat) : Int) = some (if N > 999999999999999999 ∨ s > 9 then (0, 0, 5) else (if below then -(N : Int) else (N : Int), (s : Int), 0)) := by
  obtain ⟨k, rfl⟩ : ∃ m, k = m + 2 := ⟨k - 2, by omega⟩
  rw [dec_tell.j1]
  by_cases h1 : N ≥ 18446744073709551616
  · rw [if_neg (by omega), dec_tell.j2, if_pos rfl, if_pos (by omega)]
  · rw [if_pos (by omega)]
    have h2 : N % 18446744073709551616 = N := by omega
    rw [h2]
    by_cases h3 : N > 999999999999999999
    · rw [if_pos (by omega), dec_tell.j2, if_pos rfl, if_pos (by omega)]
    · rw [if_neg (by omega), dec_tell.j2]
      by_cases h4 : s > 9
      · rw [if_pos (by rw [decide_eq_true_iff]; omega), if_pos (by omega)]
      · rw [if_neg (by rw [decide_eq_true_iff]; omega), if_neg (show ¬ (N > 999999999999999999 ∨ s > 9) by omega), wrap_small (N : Int) (by omega) (by omega)]
        cases below
        · rfl
        · rw [if_pos rfl, wrap_small (-(N : Int)) (by omega) (by omega)]
          rfl
theorem tell_l0 (below : Bool) : ∀ (s N k : Nat), s ≤ 1000 → N < 340282366920938463463374607431768211456 → s + 7 ≤ k →
    dec_tell.l0 k below (s : Int) ((N / 18446744073709551616 : Nat) : Int) ((N % 18446744073709551616 : Nat) : Int) = some (told below N s) := by
  intro s
  induction s with
  | zero =>
    intro N k hs hN hk
    obtain ⟨k, rfl⟩ : ∃ m, k = m + 1 := ⟨k - 1, by omega⟩
    rw [dec_tell.l0, if_neg (by decide), j1_f below N 0 hs k (by omega)]
    rfl
  | succ s ih =>
    intro N k hs hN hk
    obtain ⟨k, rfl⟩ : ∃ m, k = m + 1 := ⟨k - 1, by omega⟩
    rw [dec_tell.l0, if_pos (by omega), by_f N hN k (by omega), Option.bind_some]
    by_cases h : N % 10 = 0
    · refine (if_pos (by show ((N % 10 : Nat) : Int) = 0; omega)).trans ?_
      rw [wrap_small _ (by omega) (by omega), show ((s + 1 : Nat) : Int) - 1 = (s : Int) from by omega]
      have h2 := ih (N / 10) k (by omega) (by omega) (by omega)
      refine h2.trans ?_
      unfold told
      rw [show strip N (s + 1) = strip (N / 10) s from by rw [strip, if_pos h]]
    · rw [if_neg (by show ¬ (((N % 10 : Nat) : Int) = 0); omega), j1_f below N (s + 1) hs k (by omega)]
      unfold told
      rw [show strip N (s + 1) = (N, s + 1) from by rw [strip, if_neg h]]
theorem tell_f (below : Bool) (s N k : Nat) (hs : s ≤ 1000) (hN : N < 340282366920938463463374607431768211456) (hk : s + 7 ≤ k) :
    dec_tell.f k below ((N / 18446744073709551616 : Nat) : Int) ((N % 18446744073709551616 : Nat) : Int) (s : Int) = some (told below N s) := tell_l0 below s N k hs hN hk
end Go.Proofs.YtnhgnejfagncpaaDoor.Plain
end
section
namespace Go.Proofs.YtnhgnejfagncpaaDoor.Plain
open Go.RowKit Go.Proofs.YtnhgnejfagncpaaDoor.A Go.Proofs.YtnhgnejfagncpaaDoor.B Go.Proofs.YtnhgnejfagncpaaDoor.H Go.Proofs.YtnhgnejfagncpaaDoorW.PrintWords Go.Proofs.YtnhgnejfagncpaaDoorW.PrintLast Go.Proofs.YtnhgnejfagncpaaDoorW.PrintMore
def Good (M S : Int) : Prop := -999999999999999999 ≤ M ∧ M ≤ 999999999999999999 ∧ 0 ≤ S ∧ S ≤ 9 ∧ (S = 0 ∨ M % 10 ≠ 0)
instance (M S : Int) : Decidable (Good M S) := inferInstanceAs (Decidable (_ ∧ _))
theorem tmod0 (M : Int) : (Int.tmod M 10 = 0) ↔ M % 10 = 0 := by
  rw [← Int.dvd_iff_tmod_eq_zero, Int.dvd_iff_emod_eq_zero]
theorem check_f (M S : Int) : dec_Check.f M S = some (if Good M S then 0 else 1) := by
  unfold dec_Check.f
  by_cases h1 : M < (-999999999999999999)
  · rw [if_pos h1, if_neg (fun h => by unfold Good at h; omega)]
  rw [if_neg h1]
  by_cases h2 : M > 999999999999999999
  · rw [if_pos h2, if_neg (fun h => by unfold Good at h; omega)]
  rw [if_neg h2]
  by_cases h3 : S < 0
  · rw [if_pos h3, if_neg (fun h => by unfold Good at h; omega)]
  rw [if_neg h3]
  by_cases h4 : S > 9
  · rw [if_pos h4, if_neg (fun h => by unfold Good at h; omega)]
  rw [if_neg h4]
  by_cases h5 : S > 0
  · rw [if_pos h5]
    by_cases h6 : Int.tmod M 10 = 0
    · rw [if_pos h6, if_neg (fun h => by have := (tmod0 M).1 h6; unfold Good at h; omega)]
    · rw [if_neg h6, if_pos (by have h7 : ¬ M % 10 = 0 := fun h => h6 ((tmod0 M).2 h); exact ⟨by omega, by omega, by omega, by omega, Or.inr h7⟩)]
  · rw [if_neg h5, if_pos ⟨by omega, by omega, by omega, by omega, Or.inl (by omega)⟩]
theorem size_f (M : Int) (h0 : -999999999999999999 ≤ M) (h1 : M ≤ 999999999999999999) : dec_size.f M = some (M.natAbs : Int) := by
  unfold dec_size.f mx
  rw [wrap_small (-M) (by omega) (by omega)]
  by_cases h : M < -M
  · rw [if_pos h, wu _ (by omega) (by omega)]
    congr 1
    omega
  · rw [if_neg h, wu _ (by omega) (by omega)]
    congr 1
    omega
theorem mx_nat (a b : Nat) : mx (a : Int) (b : Int) = ((max a b : Nat) : Int) := by
  unfold mx
  split <;> omega
theorem strip_zero : ∀ s, strip 0 s = (0, 0)
  | 0 => rfl
  | s + 1 => by rw [strip, if_pos rfl]; exact strip_zero s
def up (M : Int) (d : Nat) : Int := M * ((10 ^ d : Nat) : Int)
end Go.Proofs.YtnhgnejfagncpaaDoor.Plain
end
section
namespace Go.Proofs.YtnhgnejfagncpaaDoor.Plain
open Go.RowKit Go.Proofs.YtnhgnejfagncpaaDoor.A Go.Proofs.YtnhgnejfagncpaaDoor.B Go.Proofs.YtnhgnejfagncpaaDoor.H
theorem strip_mul : ∀ (d N s : Nat), strip (N * 10 ^ d) (s + d) = strip N s := by
  intro d
  induction d with
  | zero => intro N s; rw [Nat.pow_zero, Nat.mul_one, Nat.add_zero]
  | succ d ih =>
    intro N s
    have h : N * 10 ^ (d + 1) = N * 10 ^ d * 10 := by rw [Nat.pow_succ, Nat.mul_assoc]
    rw [h, show s + (d + 1) = s + d + 1 from rfl, strip, if_pos (by omega), Nat.mul_div_cancel _ (by decide)]
    exact ih N s
theorem strip_good (N s : Nat) (h : s = 0 ∨ N % 10 ≠ 0) : strip N s = (N, s) := by
  cases s with
  | zero => rfl
  | succ s => rw [strip, if_neg (by omega)]
end Go.Proofs.YtnhgnejfagncpaaDoor.Plain
end
