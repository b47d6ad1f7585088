/- Put together: L8, E4, L9, L10 (each in a section of its own). -/
import Derived.Test.YtnhgnejfagncpaaDoorLot2
import Derived.Test.YtnhgnejfagncpaaDoorLot8
import Derived.Test.YtnhgnejfagncpaaDoorLot10
import Derived.Test.YtnhgnejfagncpaaDoorLot9
import Derived.Test.YtnhgnejfagncpaaDoorE3
section
namespace Go.Proofs.YtnhgnejfagncpaaDoor.L
open Go.RowKit Go.Proofs.YtnhgnejfagncpaaDoorW.PrintWords Go.Proofs.YtnhgnejfagncpaaDoorW.PrintLast Go.Proofs.YtnhgnejfagncpaaDoorW.PrintMore Go.Proofs.YtnhgnejfagncpaaDoor.H Go.Proofs.YtnhgnejfagncpaaDoor.A Go.Proofs.YtnhgnejfagncpaaDoor.B Go.Proofs.YtnhgnejfagncpaaDoor.E
attribute [local go_sem] max2_int min2_int max_two min_two max_three min_three max_four min_four   -- for this text's walks alone
set_option linter.unusedVariables false
set_option linter.unusedSimpArgs false
mutual
def erasureref14_Next.j0 : Nat → List Int → Int → Bool → Option (Int × Int × Int × ByteArray × Int × Int)
 | 0, _, _, _ => none
 | k + 1, x0, x1, x29 => if x29 = true then (some (0, 0, 0, (⟨#[]⟩ : ByteArray), 0, 1)) else ((erasureref14_skip.f k x0 x1).bind fun t216 => (if t216 = (x0.length : Int) then (some (0, 0, 0, (⟨#[]⟩ : ByteArray), t216, 0)) else (if (wrap64 (t216 + 1)) < (x0.length : Int) then (if 0 ≤ (wrap64 (t216 + 1)) then (if 0 ≤ t216 then (if t216 < (x0.length : Int) then (erasureref14_Next.j1 k x0 t216 ((rd x0 (wrap64 (t216 + 1))) == (rd x0 t216))) else (none)) else (none)) else (none)) else (erasureref14_Next.j1 k x0 t216 false))))
def erasureref14_Next.j1 : Nat → List Int → Int → Bool → Option (Int × Int × Int × ByteArray × Int × Int)
 | 0, _, _, _ => none
 | k + 1, x0, x1, x7 => if 0 ≤ x1 then (if x1 < (x0.length : Int) then (if (rd x0 x1) = 91 then (some (5, 0, 0, (⟨#[]⟩ : ByteArray), wrap64 (x1 + 1), 0)) else (if (rd x0 x1) = 93 then (some (6, 0, 0, (⟨#[]⟩ : ByteArray), wrap64 (x1 + 1), 0)) else (if (rd x0 x1) = 60 then (if x7 = true then (some (7, 0, 0, (⟨#[]⟩ : ByteArray), wrap64 (x1 + 2), 0)) else ((erasureref14_hexa.f k x0 (wrap64 (x1 + 1))).bind fun bt220 => ((erasureref14_whole.f 3 bt220.1 bt220.2.1 bt220.2.2).bind fun bt223 => (some (bt223.1, bt223.2.1, bt223.2.2.1, bt223.2.2.2.1, bt223.2.2.2.2.1, bt223.2.2.2.2.2))))) else (if (rd x0 x1) = 62 then (if x7 = true then (some (8, 0, 0, (⟨#[]⟩ : ByteArray), wrap64 (x1 + 2), 0)) else (some (0, 0, 0, (⟨#[]⟩ : ByteArray), 0, 4))) else (if (rd x0 x1) = 40 then ((erasureref14_text.f k x0 (wrap64 (x1 + 1))).bind fun bt229 => ((erasureref14_whole.f 3 bt229.1 bt229.2.1 bt229.2.2).bind fun bt232 => (some (bt232.1, bt232.2.1, bt232.2.2.1, bt232.2.2.2.1, bt232.2.2.2.2.1, bt232.2.2.2.2.2)))) else (if (rd x0 x1) = 47 then ((erasureref14_row.f k x0 (wrap64 (x1 + 1))).bind fun bt238 => ((erasureref14_name.f k bt238.1).bind fun bt240 => ((erasureref14_whole.f 2 bt240.1 bt238.2 bt240.2).bind fun bt242 => (some (bt242.1, bt242.2.1, bt242.2.2.1, bt242.2.2.2.1, bt242.2.2.2.2.1, bt242.2.2.2.2.2))))) else ((erasureref14_mark.f (rd x0 x1)).bind fun t249 => (if t249 = true then (some (0, 0, 0, (⟨#[]⟩ : ByteArray), 0, 4)) else ((erasureref14_row.f k x0 x1).bind fun bt250 => ((erasureref01_Parse.f k bt250.1).bind fun bt252 => (if bt252.2.2 = 0 then (some (1, bt252.1, bt252.2.1, (⟨#[]⟩ : ByteArray), bt250.2, 0)) else (if bt252.2.2 = 5 then (some (0, 0, 0, (⟨#[]⟩ : ByteArray), 0, bt252.2.2)) else (if (bt250.1.size : Int) > 127 then (some (0, 0, 0, (⟨#[]⟩ : ByteArray), 0, 2)) else (some (4, 0, 0, bt250.1, bt250.2, 0))))))))))))))) else (none)) else (none)
end
def erasureref14_Next.f (k : Nat) (l0 : List Int) (a1 : Int) : Option (Int × Int × Int × ByteArray × Int × Int) := if a1 < 0 then (erasureref14_Next.j0 k l0 a1 true) else (erasureref14_Next.j0 k l0 a1 (decide (a1 > (l0.length : Int))))
theorem lf_L8_1 {p_ : Prop} (h_ : p_ := by
  go_wp2
  repeat (go_quiet (fail); try go_wp2)
  first
    | (refine bodyPost_ret (results_ctt rfl _ _ gb215 27 #[.int .i64 0, .int .i64 0, .int .i64 0, .string (⟨#[]⟩ : ByteArray)] (0, 0) _ rfl (by (with_reducible repeat (first | refine blk_drewN ?_ _ | refine blk_drew ?_ | refine blk_alloc ?_ _)); refine blk_put (cs := #[.int .i64 0, .int .i64 0, .int .i64 0, .string (⟨#[]⟩ : ByteArray)]) ?_ 3 _ rfl; (with_reducible repeat (first | refine blk_drewN ?_ _ | refine blk_drew ?_ | refine blk_alloc ?_ _)); refine blk_put (cs := #[.int .i64 0, .int .i64 0, .int .i64 0, .string (⟨#[]⟩ : ByteArray)]) ?_ 2 _ rfl; (with_reducible repeat (first | refine blk_drewN ?_ _ | refine blk_drew ?_ | refine blk_alloc ?_ _)); refine blk_put (cs := #[.int .i64 0, .int .i64 0, .int .i64 0, .string (⟨#[]⟩ : ByteArray)]) ?_ 1 _ rfl; (with_reducible repeat (first | refine blk_drewN ?_ _ | refine blk_drew ?_ | refine blk_alloc ?_ _)); refine blk_put (cs := #[.int .i64 0, .int .i64 0, .int .i64 0, .string (⟨#[]⟩ : ByteArray)]) ?_ 0 _ rfl; (with_reducible repeat (first | refine blk_drewN ?_ _ | refine blk_drew ?_ | refine blk_alloc ?_ _)); exact BK215.out) Tryd.underlying27 rfl (by kernel_rfl)) rfl ?_; exact ⟨ee_, bel⟩)
    | (refine bodyPost_ret (results_ctt rfl _ _ gb215 27 #[.int .i64 5, .int .i64 0, .int .i64 0, .string (⟨#[]⟩ : ByteArray)] (0, 0) _ rfl (by (with_reducible repeat (first | refine blk_drewN ?_ _ | refine blk_drew ?_ | refine blk_alloc ?_ _)); refine blk_put (cs := #[.int .i64 5, .int .i64 0, .int .i64 0, .string (⟨#[]⟩ : ByteArray)]) ?_ 3 _ rfl; (with_reducible repeat (first | refine blk_drewN ?_ _ | refine blk_drew ?_ | refine blk_alloc ?_ _)); refine blk_put (cs := #[.int .i64 5, .int .i64 0, .int .i64 0, .string (⟨#[]⟩ : ByteArray)]) ?_ 2 _ rfl; (with_reducible repeat (first | refine blk_drewN ?_ _ | refine blk_drew ?_ | refine blk_alloc ?_ _)); refine blk_put (cs := #[.int .i64 5, .int .i64 0, .int .i64 0, .string (⟨#[]⟩ : ByteArray)]) ?_ 1 _ rfl; (with_reducible repeat (first | refine blk_drewN ?_ _ | refine blk_drew ?_ | refine blk_alloc ?_ _)); refine blk_put (cs := #[.int .i64 0, .int .i64 0, .int .i64 0, .string (⟨#[]⟩ : ByteArray)]) ?_ 0 _ rfl; (with_reducible repeat (first | refine blk_drewN ?_ _ | refine blk_drew ?_ | refine blk_alloc ?_ _)); exact BK215.out) Tryd.underlying27 rfl (by kernel_rfl)) rfl ?_; exact ⟨ee_, bel⟩)
    | (refine bodyPost_ret (results_ctt rfl _ _ gb215 27 #[.int .i64 6, .int .i64 0, .int .i64 0, .string (⟨#[]⟩ : ByteArray)] (0, 0) _ rfl (by (with_reducible repeat (first | refine blk_drewN ?_ _ | refine blk_drew ?_ | refine blk_alloc ?_ _)); refine blk_put (cs := #[.int .i64 6, .int .i64 0, .int .i64 0, .string (⟨#[]⟩ : ByteArray)]) ?_ 3 _ rfl; (with_reducible repeat (first | refine blk_drewN ?_ _ | refine blk_drew ?_ | refine blk_alloc ?_ _)); refine blk_put (cs := #[.int .i64 6, .int .i64 0, .int .i64 0, .string (⟨#[]⟩ : ByteArray)]) ?_ 2 _ rfl; (with_reducible repeat (first | refine blk_drewN ?_ _ | refine blk_drew ?_ | refine blk_alloc ?_ _)); refine blk_put (cs := #[.int .i64 6, .int .i64 0, .int .i64 0, .string (⟨#[]⟩ : ByteArray)]) ?_ 1 _ rfl; (with_reducible repeat (first | refine blk_drewN ?_ _ | refine blk_drew ?_ | refine blk_alloc ?_ _)); refine blk_put (cs := #[.int .i64 0, .int .i64 0, .int .i64 0, .string (⟨#[]⟩ : ByteArray)]) ?_ 0 _ rfl; (with_reducible repeat (first | refine blk_drewN ?_ _ | refine blk_drew ?_ | refine blk_alloc ?_ _)); exact BK215.out) Tryd.underlying27 rfl (by kernel_rfl)) rfl ?_; exact ⟨ee_, bel⟩)
    | (refine bodyPost_ret (results_ctt rfl _ _ gb215 27 #[.int .i64 7, .int .i64 0, .int .i64 0, .string (⟨#[]⟩ : ByteArray)] (0, 0) _ rfl (by (with_reducible repeat (first | refine blk_drewN ?_ _ | refine blk_drew ?_ | refine blk_alloc ?_ _)); refine blk_put (cs := #[.int .i64 7, .int .i64 0, .int .i64 0, .string (⟨#[]⟩ : ByteArray)]) ?_ 3 _ rfl; (with_reducible repeat (first | refine blk_drewN ?_ _ | refine blk_drew ?_ | refine blk_alloc ?_ _)); refine blk_put (cs := #[.int .i64 7, .int .i64 0, .int .i64 0, .string (⟨#[]⟩ : ByteArray)]) ?_ 2 _ rfl; (with_reducible repeat (first | refine blk_drewN ?_ _ | refine blk_drew ?_ | refine blk_alloc ?_ _)); refine blk_put (cs := #[.int .i64 7, .int .i64 0, .int .i64 0, .string (⟨#[]⟩ : ByteArray)]) ?_ 1 _ rfl; (with_reducible repeat (first | refine blk_drewN ?_ _ | refine blk_drew ?_ | refine blk_alloc ?_ _)); refine blk_put (cs := #[.int .i64 0, .int .i64 0, .int .i64 0, .string (⟨#[]⟩ : ByteArray)]) ?_ 0 _ rfl; (with_reducible repeat (first | refine blk_drewN ?_ _ | refine blk_drew ?_ | refine blk_alloc ?_ _)); exact BK215.out) Tryd.underlying27 rfl (by kernel_rfl)) rfl ?_; exact ⟨ee_, bel⟩)
    | (refine bodyPost_ret (results_ctt rfl _ _ gb215 27 #[.int .i64 8, .int .i64 0, .int .i64 0, .string (⟨#[]⟩ : ByteArray)] (0, 0) _ rfl (by (with_reducible repeat (first | refine blk_drewN ?_ _ | refine blk_drew ?_ | refine blk_alloc ?_ _)); refine blk_put (cs := #[.int .i64 8, .int .i64 0, .int .i64 0, .string (⟨#[]⟩ : ByteArray)]) ?_ 3 _ rfl; (with_reducible repeat (first | refine blk_drewN ?_ _ | refine blk_drew ?_ | refine blk_alloc ?_ _)); refine blk_put (cs := #[.int .i64 8, .int .i64 0, .int .i64 0, .string (⟨#[]⟩ : ByteArray)]) ?_ 2 _ rfl; (with_reducible repeat (first | refine blk_drewN ?_ _ | refine blk_drew ?_ | refine blk_alloc ?_ _)); refine blk_put (cs := #[.int .i64 8, .int .i64 0, .int .i64 0, .string (⟨#[]⟩ : ByteArray)]) ?_ 1 _ rfl; (with_reducible repeat (first | refine blk_drewN ?_ _ | refine blk_drew ?_ | refine blk_alloc ?_ _)); refine blk_put (cs := #[.int .i64 0, .int .i64 0, .int .i64 0, .string (⟨#[]⟩ : ByteArray)]) ?_ 0 _ rfl; (with_reducible repeat (first | refine blk_drewN ?_ _ | refine blk_drew ?_ | refine blk_alloc ?_ _)); exact BK215.out) Tryd.underlying27 rfl (by kernel_rfl)) rfl ?_; exact ⟨ee_, bel⟩)) : p_ := h_
theorem lf_L8_2 {p_ : Prop} (h_ : p_ := by
  go_wp2_with (first | (go_at_call 25; (with_reducible refine (erasureref14_mark.calls (rd l0 t216) false _ A48.out).mono ?_); rintro e w' ⟨rfl, ⟨nd, rfl⟩⟩; (try exact dd_)) | (go_at_call 23; (with_reducible refine (erasureref14_row.calls kj10 _ _ l0 t216 t250 t251 _ ?side1 ?side2 A51.out).mono ?_); (case side1 => repeat (first | exact (Kd.C_below HR0.out bel) | (with_reducible refine Kd.C_alloc ?_ _) | (with_reducible refine Kd.C_drewN ?_ _) | (with_reducible refine Kd.C_drew ?_))); (case side2 => exact HC0.out); rintro e w' ⟨rfl, ⟨nd, rfl⟩⟩; (try exact dd_)) | (go_at_call 26; (with_reducible refine (erasureref01_Parse.calls kj10 t250 t252 t253 t254 _ A52.out).mono ?_); rintro e wq0 ⟨rfl, hb⟩; have n0_ := Aside0.mk (blk_below (bkk BK215.out) hb); have n1_ := Aside0.mk (below_step bel hb); clear BK215; clear HB; have BK215 := n0_; have HB := n1_; clear n0_ n1_; (try clear hb); (try clear hb2); (try clear hk); (try clear hi)) | ((with_reducible refine gate_dst (N := 20) rfl ?_); (try (refine gate_guard (by rfl) ?_; dsimp only)); refine box_event ?hg (N := 20) ?hd (cs := #[.int .i64 0, .int .i64 0]) (t := 25) ?hr ?_; (case hd => rfl); (case hg => rfl); (case hr => first | (go_simp; done) | (go_simp; rfl)); intro gb255 hg wq1 hbox hb; have n0_ := Aside0.mk (blk_below (bkk BK215.out) hb); have n1_ := Aside0.mk (below_step bel hb); have n2_ := Aside0.mk (hbox); have n3_ := Aside0.mk ((by rw [hg]; exact (below_size bel) : w.heap.size ≤ gb255)); have n4_ := Aside0.mk ((by rw [hg]; exact (below_size bel) : w.heap.size ≤ gb255)); have n5_ := Aside0.mk ((by rw [hg]; exact Nat.ne_of_lt (blk_lt (bkk BK215.out)) : gb215 ≠ gb255)); have n6_ := Aside0.mk ((by rw [hg]; exact Nat.ne_of_gt (blk_lt (bkk BK215.out)) : gb255 ≠ gb215)); clear BK215; clear HB; have BK215 := n0_; have HB := n1_; have BK255 := n2_; have GW255 := n3_; have GE255 := n4_; have NB215_255 := n5_; have NB255_215 := n6_; clear n0_ n1_ n2_ n3_ n4_ n5_ n6_; clear hb hbox hg; have hnbq0 := NB255_215.out; have hncq0 := NB215_255.out; have hczq0 : wq1.cell? ⟨gb255, 0, none⟩ = some (.int .i64 0) := (blk_cell BK255.out 0).trans rfl; have hczq1 : wq1.cell? ⟨gb255, 1, none⟩ = some (.int .i64 0) := (blk_cell BK255.out 1).trans rfl; have hfzq0 := blk_frozen BK255.out 0; have hfzq1 := blk_frozen BK255.out 1; have hczq2 : wq1.cell? ⟨gb215, 0, none⟩ = some (.int .i64 0) := (blk_cell BK215.out 0).trans rfl; have hczq3 : wq1.cell? ⟨gb215, 1, none⟩ = some (.int .i64 0) := (blk_cell BK215.out 1).trans rfl; have hczq4 : wq1.cell? ⟨gb215, 2, none⟩ = some (.int .i64 0) := (blk_cell BK215.out 2).trans rfl; have hczq5 : wq1.cell? ⟨gb215, 3, none⟩ = some (.string (⟨#[]⟩ : ByteArray)) := (blk_cell BK215.out 3).trans rfl; have hfzq2 := blk_frozen BK215.out 0; have hfzq3 := blk_frozen BK215.out 1; have hfzq4 := blk_frozen BK215.out 2; have hfzq5 := blk_frozen BK215.out 3))
  repeat (go_quiet (first | (go_at_call 25; (with_reducible refine (erasureref14_mark.calls (rd l0 t216) false _ A48.out).mono ?_); rintro e w' ⟨rfl, ⟨nd, rfl⟩⟩; (try exact dd_)) | (go_at_call 23; (with_reducible refine (erasureref14_row.calls kj10 _ _ l0 t216 t250 t251 _ ?side1 ?side2 A51.out).mono ?_); (case side1 => repeat (first | exact (Kd.C_below HR0.out bel) | (with_reducible refine Kd.C_alloc ?_ _) | (with_reducible refine Kd.C_drewN ?_ _) | (with_reducible refine Kd.C_drew ?_))); (case side2 => exact HC0.out); rintro e w' ⟨rfl, ⟨nd, rfl⟩⟩; (try exact dd_)) | (go_at_call 26; (with_reducible refine (erasureref01_Parse.calls kj10 t250 t252 t253 t254 _ A52.out).mono ?_); rintro e wq0 ⟨rfl, hb⟩; have n0_ := Aside0.mk (blk_below (bkk BK215.out) hb); have n1_ := Aside0.mk (below_step bel hb); clear BK215; clear HB; have BK215 := n0_; have HB := n1_; clear n0_ n1_; (try clear hb); (try clear hb2); (try clear hk); (try clear hi)) | ((with_reducible refine gate_dst (N := 20) rfl ?_); (try (refine gate_guard (by rfl) ?_; dsimp only)); refine box_event ?hg (N := 20) ?hd (cs := #[.int .i64 0, .int .i64 0]) (t := 25) ?hr ?_; (case hd => rfl); (case hg => rfl); (case hr => first | (go_simp; done) | (go_simp; rfl)); intro gb255 hg wq1 hbox hb; have n0_ := Aside0.mk (blk_below (bkk BK215.out) hb); have n1_ := Aside0.mk (below_step bel hb); have n2_ := Aside0.mk (hbox); have n3_ := Aside0.mk ((by rw [hg]; exact (below_size bel) : w.heap.size ≤ gb255)); have n4_ := Aside0.mk ((by rw [hg]; exact (below_size bel) : w.heap.size ≤ gb255)); have n5_ := Aside0.mk ((by rw [hg]; exact Nat.ne_of_lt (blk_lt (bkk BK215.out)) : gb215 ≠ gb255)); have n6_ := Aside0.mk ((by rw [hg]; exact Nat.ne_of_gt (blk_lt (bkk BK215.out)) : gb255 ≠ gb215)); clear BK215; clear HB; have BK215 := n0_; have HB := n1_; have BK255 := n2_; have GW255 := n3_; have GE255 := n4_; have NB215_255 := n5_; have NB255_215 := n6_; clear n0_ n1_ n2_ n3_ n4_ n5_ n6_; clear hb hbox hg; have hnbq0 := NB255_215.out; have hncq0 := NB215_255.out; have hczq0 : wq1.cell? ⟨gb255, 0, none⟩ = some (.int .i64 0) := (blk_cell BK255.out 0).trans rfl; have hczq1 : wq1.cell? ⟨gb255, 1, none⟩ = some (.int .i64 0) := (blk_cell BK255.out 1).trans rfl; have hfzq0 := blk_frozen BK255.out 0; have hfzq1 := blk_frozen BK255.out 1; have hczq2 : wq1.cell? ⟨gb215, 0, none⟩ = some (.int .i64 0) := (blk_cell BK215.out 0).trans rfl; have hczq3 : wq1.cell? ⟨gb215, 1, none⟩ = some (.int .i64 0) := (blk_cell BK215.out 1).trans rfl; have hczq4 : wq1.cell? ⟨gb215, 2, none⟩ = some (.int .i64 0) := (blk_cell BK215.out 2).trans rfl; have hczq5 : wq1.cell? ⟨gb215, 3, none⟩ = some (.string (⟨#[]⟩ : ByteArray)) := (blk_cell BK215.out 3).trans rfl; have hfzq2 := blk_frozen BK215.out 0; have hfzq3 := blk_frozen BK215.out 1; have hfzq4 := blk_frozen BK215.out 2; have hfzq5 := blk_frozen BK215.out 3)); try go_wp2_with (first | (go_at_call 25; (with_reducible refine (erasureref14_mark.calls (rd l0 t216) false _ A48.out).mono ?_); rintro e w' ⟨rfl, ⟨nd, rfl⟩⟩; (try exact dd_)) | (go_at_call 23; (with_reducible refine (erasureref14_row.calls kj10 _ _ l0 t216 t250 t251 _ ?side1 ?side2 A51.out).mono ?_); (case side1 => repeat (first | exact (Kd.C_below HR0.out bel) | (with_reducible refine Kd.C_alloc ?_ _) | (with_reducible refine Kd.C_drewN ?_ _) | (with_reducible refine Kd.C_drew ?_))); (case side2 => exact HC0.out); rintro e w' ⟨rfl, ⟨nd, rfl⟩⟩; (try exact dd_)) | (go_at_call 26; (with_reducible refine (erasureref01_Parse.calls kj10 t250 t252 t253 t254 _ A52.out).mono ?_); rintro e wq0 ⟨rfl, hb⟩; have n0_ := Aside0.mk (blk_below (bkk BK215.out) hb); have n1_ := Aside0.mk (below_step bel hb); clear BK215; clear HB; have BK215 := n0_; have HB := n1_; clear n0_ n1_; (try clear hb); (try clear hb2); (try clear hk); (try clear hi)) | ((with_reducible refine gate_dst (N := 20) rfl ?_); (try (refine gate_guard (by rfl) ?_; dsimp only)); refine box_event ?hg (N := 20) ?hd (cs := #[.int .i64 0, .int .i64 0]) (t := 25) ?hr ?_; (case hd => rfl); (case hg => rfl); (case hr => first | (go_simp; done) | (go_simp; rfl)); intro gb255 hg wq1 hbox hb; have n0_ := Aside0.mk (blk_below (bkk BK215.out) hb); have n1_ := Aside0.mk (below_step bel hb); have n2_ := Aside0.mk (hbox); have n3_ := Aside0.mk ((by rw [hg]; exact (below_size bel) : w.heap.size ≤ gb255)); have n4_ := Aside0.mk ((by rw [hg]; exact (below_size bel) : w.heap.size ≤ gb255)); have n5_ := Aside0.mk ((by rw [hg]; exact Nat.ne_of_lt (blk_lt (bkk BK215.out)) : gb215 ≠ gb255)); have n6_ := Aside0.mk ((by rw [hg]; exact Nat.ne_of_gt (blk_lt (bkk BK215.out)) : gb255 ≠ gb215)); clear BK215; clear HB; have BK215 := n0_; have HB := n1_; have BK255 := n2_; have GW255 := n3_; have GE255 := n4_; have NB215_255 := n5_; have NB255_215 := n6_; clear n0_ n1_ n2_ n3_ n4_ n5_ n6_; clear hb hbox hg; have hnbq0 := NB255_215.out; have hncq0 := NB215_255.out; have hczq0 : wq1.cell? ⟨gb255, 0, none⟩ = some (.int .i64 0) := (blk_cell BK255.out 0).trans rfl; have hczq1 : wq1.cell? ⟨gb255, 1, none⟩ = some (.int .i64 0) := (blk_cell BK255.out 1).trans rfl; have hfzq0 := blk_frozen BK255.out 0; have hfzq1 := blk_frozen BK255.out 1; have hczq2 : wq1.cell? ⟨gb215, 0, none⟩ = some (.int .i64 0) := (blk_cell BK215.out 0).trans rfl; have hczq3 : wq1.cell? ⟨gb215, 1, none⟩ = some (.int .i64 0) := (blk_cell BK215.out 1).trans rfl; have hczq4 : wq1.cell? ⟨gb215, 2, none⟩ = some (.int .i64 0) := (blk_cell BK215.out 2).trans rfl; have hczq5 : wq1.cell? ⟨gb215, 3, none⟩ = some (.string (⟨#[]⟩ : ByteArray)) := (blk_cell BK215.out 3).trans rfl; have hfzq2 := blk_frozen BK215.out 0; have hfzq3 := blk_frozen BK215.out 1; have hfzq4 := blk_frozen BK215.out 2; have hfzq5 := blk_frozen BK215.out 3)))
  first
    | (refine bodyPost_ret (results_ctt rfl _ _ gb215 27 #[.int .i64 1, .int .i64 t252, .int .i64 t253, .string (⟨#[]⟩ : ByteArray)] (0, 0) _ rfl (by (with_reducible repeat (first | refine blk_drewN ?_ _ | refine blk_drew ?_ | refine blk_alloc ?_ _)); refine blk_put (cs := #[.int .i64 1, .int .i64 t252, .int .i64 t253, .string (⟨#[]⟩ : ByteArray)]) ?_ 3 _ rfl; (with_reducible repeat (first | refine blk_drewN ?_ _ | refine blk_drew ?_ | refine blk_alloc ?_ _)); refine blk_put (cs := #[.int .i64 1, .int .i64 t252, .int .i64 0, .string (⟨#[]⟩ : ByteArray)]) ?_ 2 _ rfl; (with_reducible repeat (first | refine blk_drewN ?_ _ | refine blk_drew ?_ | refine blk_alloc ?_ _)); refine blk_put (cs := #[.int .i64 1, .int .i64 0, .int .i64 0, .string (⟨#[]⟩ : ByteArray)]) ?_ 1 _ rfl; (with_reducible repeat (first | refine blk_drewN ?_ _ | refine blk_drew ?_ | refine blk_alloc ?_ _)); refine blk_put (cs := #[.int .i64 0, .int .i64 0, .int .i64 0, .string (⟨#[]⟩ : ByteArray)]) ?_ 0 _ rfl; (with_reducible repeat (first | refine blk_drewN ?_ _ | refine blk_drew ?_ | refine blk_alloc ?_ _)); refine blk_far ?_ NB215_255.out _; (with_reducible repeat (first | refine blk_drewN ?_ _ | refine blk_drew ?_ | refine blk_alloc ?_ _)); refine blk_far ?_ NB215_255.out _; (with_reducible repeat (first | refine blk_drewN ?_ _ | refine blk_drew ?_ | refine blk_alloc ?_ _)); exact BK215.out) Tryd.underlying27 rfl (by kernel_rfl)) rfl ?_; exact ⟨ee_, bel⟩)
    | (refine bodyPost_ret (results_ctt rfl _ _ gb215 27 #[.int .i64 0, .int .i64 0, .int .i64 0, .string (⟨#[]⟩ : ByteArray)] (0, 0) _ rfl (by (with_reducible repeat (first | refine blk_drewN ?_ _ | refine blk_drew ?_ | refine blk_alloc ?_ _)); refine blk_put (cs := #[.int .i64 0, .int .i64 0, .int .i64 0, .string (⟨#[]⟩ : ByteArray)]) ?_ 3 _ rfl; (with_reducible repeat (first | refine blk_drewN ?_ _ | refine blk_drew ?_ | refine blk_alloc ?_ _)); refine blk_put (cs := #[.int .i64 0, .int .i64 0, .int .i64 0, .string (⟨#[]⟩ : ByteArray)]) ?_ 2 _ rfl; (with_reducible repeat (first | refine blk_drewN ?_ _ | refine blk_drew ?_ | refine blk_alloc ?_ _)); refine blk_put (cs := #[.int .i64 0, .int .i64 0, .int .i64 0, .string (⟨#[]⟩ : ByteArray)]) ?_ 1 _ rfl; (with_reducible repeat (first | refine blk_drewN ?_ _ | refine blk_drew ?_ | refine blk_alloc ?_ _)); refine blk_put (cs := #[.int .i64 0, .int .i64 0, .int .i64 0, .string (⟨#[]⟩ : ByteArray)]) ?_ 0 _ rfl; (with_reducible repeat (first | refine blk_drewN ?_ _ | refine blk_drew ?_ | refine blk_alloc ?_ _)); refine blk_far ?_ NB215_255.out _; (with_reducible repeat (first | refine blk_drewN ?_ _ | refine blk_drew ?_ | refine blk_alloc ?_ _)); refine blk_far ?_ NB215_255.out _; (with_reducible repeat (first | refine blk_drewN ?_ _ | refine blk_drew ?_ | refine blk_alloc ?_ _)); exact BK215.out) Tryd.underlying27 rfl (by kernel_rfl)) rfl ?_; exact ⟨ee_, bel⟩)
    | (refine bodyPost_ret (results_ctt rfl _ _ gb215 27 #[.int .i64 4, .int .i64 0, .int .i64 0, .string t250] (0, 0) _ rfl (by (with_reducible repeat (first | refine blk_drewN ?_ _ | refine blk_drew ?_ | refine blk_alloc ?_ _)); refine blk_put (cs := #[.int .i64 4, .int .i64 0, .int .i64 0, .string (⟨#[]⟩ : ByteArray)]) ?_ 3 _ rfl; (with_reducible repeat (first | refine blk_drewN ?_ _ | refine blk_drew ?_ | refine blk_alloc ?_ _)); refine blk_put (cs := #[.int .i64 4, .int .i64 0, .int .i64 0, .string (⟨#[]⟩ : ByteArray)]) ?_ 2 _ rfl; (with_reducible repeat (first | refine blk_drewN ?_ _ | refine blk_drew ?_ | refine blk_alloc ?_ _)); refine blk_put (cs := #[.int .i64 4, .int .i64 0, .int .i64 0, .string (⟨#[]⟩ : ByteArray)]) ?_ 1 _ rfl; (with_reducible repeat (first | refine blk_drewN ?_ _ | refine blk_drew ?_ | refine blk_alloc ?_ _)); refine blk_put (cs := #[.int .i64 0, .int .i64 0, .int .i64 0, .string (⟨#[]⟩ : ByteArray)]) ?_ 0 _ rfl; (with_reducible repeat (first | refine blk_drewN ?_ _ | refine blk_drew ?_ | refine blk_alloc ?_ _)); refine blk_far ?_ NB215_255.out _; (with_reducible repeat (first | refine blk_drewN ?_ _ | refine blk_drew ?_ | refine blk_alloc ?_ _)); refine blk_far ?_ NB215_255.out _; (with_reducible repeat (first | refine blk_drewN ?_ _ | refine blk_drew ?_ | refine blk_alloc ?_ _)); exact BK215.out) Tryd.underlying27 rfl (by kernel_rfl)) rfl ?_; exact ⟨ee_, bel⟩)) : p_ := h_
set_option maxHeartbeats 8000000 in
set_option maxRecDepth 100000 in
theorem erasureref14_Next.calls (k : Nat) (A0 : Option Addr) (c0 : Nat) (l0 : List Int) (a1 : Int) (r1 : Int) (r2 : Int) (r3 : Int) (r4 : ByteArray) (r5 : Int) (r6 : Int) (w : World) (hr0 : Kd.C (Kd.int .u8) w A0 l0.length l0) (hc0 : l0.length ≤ c0) (h : erasureref14_Next.f k l0 a1 = some (r1, r2, r3, r4, r5, r6)) :
  Calls Tryd.prog 11 #[.slice A0 l0.length c0, .int .i64 a1] w fun e w' => e = .returned (.tuple #[.agg #[.int .i64 r1, .int .i64 r2, .int .i64 r3, .string r4], .int .i64 r5, .int .i64 r6]) ∧ Below w.heap.size w w' := by
 have hu27 := Tryd.underlying27
 have hu25 := Tryd.underlying25
 have HR0 := Aside0.mk hr0
 have HC0 := Aside0.mk hc0
 clear hr0 hc0
 have HB := Aside0.mk (Below.refl w.heap.size w)
 have H : (if a1 < 0 then (erasureref14_Next.j0 k l0 a1 true) else (erasureref14_Next.j0 k l0 a1 (decide (a1 > (l0.length : Int))))) = some (r1, r2, r3, r4, r5, r6) := h
 clear h
 have HC3 := Aside0.mk H
 clear H
 go_enter Tryd.func11, Tryd.ntmps11
 go_upto_region 1 with (first | ((with_reducible refine gate_dst (N := 4) rfl ?_); (try (refine gate_guard (by rfl) ?_; dsimp only)); refine box_event ?hg (N := 4) ?hd (cs := #[.int .i64 0, .int .i64 0, .int .i64 0, .string (⟨#[]⟩ : ByteArray)]) (t := 27) ?hr ?_; (case hd => rfl); (case hg => rfl); (case hr => first | (go_simp; done) | (go_simp; rfl)); intro gb215 hg w4 hbox hb; have n0_ := Aside0.mk (below_step bel hb); have n1_ := Aside0.mk (hbox); have n2_ := Aside0.mk ((by rw [hg]; exact (below_size bel) : w.heap.size ≤ gb215)); have n3_ := Aside0.mk ((by rw [hg]; exact (below_size bel) : w.heap.size ≤ gb215)); clear HB; have HB := n0_; have BK215 := n1_; have GW215 := n2_; have GE215 := n3_; clear n0_ n1_ n2_ n3_; clear hb hbox hg))
 repeat (go_quiet (first | ((with_reducible refine gate_dst (N := 4) rfl ?_); (try (refine gate_guard (by rfl) ?_; dsimp only)); refine box_event ?hg (N := 4) ?hd (cs := #[.int .i64 0, .int .i64 0, .int .i64 0, .string (⟨#[]⟩ : ByteArray)]) (t := 27) ?hr ?_; (case hd => rfl); (case hg => rfl); (case hr => first | (go_simp; done) | (go_simp; rfl)); intro gb215 hg w4 hbox hb; have n0_ := Aside0.mk (below_step bel hb); have n1_ := Aside0.mk (hbox); have n2_ := Aside0.mk ((by rw [hg]; exact (below_size bel) : w.heap.size ≤ gb215)); have n3_ := Aside0.mk ((by rw [hg]; exact (below_size bel) : w.heap.size ≤ gb215)); clear HB; have HB := n0_; have BK215 := n1_; have GW215 := n2_; have GE215 := n3_; clear n0_ n1_ n2_ n3_; clear hb hbox hg)); go_upto_region 1 with (first | ((with_reducible refine gate_dst (N := 4) rfl ?_); (try (refine gate_guard (by rfl) ?_; dsimp only)); refine box_event ?hg (N := 4) ?hd (cs := #[.int .i64 0, .int .i64 0, .int .i64 0, .string (⟨#[]⟩ : ByteArray)]) (t := 27) ?hr ?_; (case hd => rfl); (case hg => rfl); (case hr => first | (go_simp; done) | (go_simp; rfl)); intro gb215 hg w4 hbox hb; have n0_ := Aside0.mk (below_step bel hb); have n1_ := Aside0.mk (hbox); have n2_ := Aside0.mk ((by rw [hg]; exact (below_size bel) : w.heap.size ≤ gb215)); have n3_ := Aside0.mk ((by rw [hg]; exact (below_size bel) : w.heap.size ≤ gb215)); clear HB; have HB := n0_; have BK215 := n1_; have GW215 := n2_; have GE215 := n3_; clear n0_ n1_ n2_ n3_; clear hb hbox hg)))
 (try simp only [Act.put, List.setIfInBounds_toArray, List.set_cons_zero, List.set_cons_succ])
 go_cut [29] (fun v29 wc => ∃ (kq : Nat) (x29_2 : Bool), v29 = .bool x29_2 ∧ Aside0 (erasureref14_Next.j0 kq l0 a1 x29_2 = some (r1, r2, r3, r4, r5, r6)) ∧ Aside0 (kq ≤ k) ∧ Aside0 (wc.heap[gb215]? = some (.cells #[.int .i64 0, .int .i64 0, .int .i64 0, .string (⟨#[]⟩ : ByteArray)] 27 (0, 0))) ∧ Aside0 (Below w.heap.size w wc))
 case first =>
  have H := HC3.out
  clear HC3
  by_cases c5 : a1 < 0
  ·rw [if_pos c5] at H
   have c5b0 : decide (a1 < 0) = true := decide_eq_true c5
   clear c5
   (first | rw [c5b0] | (simp only [i64_w, i32_w]; rw [c5b0]) | skip)
   have H' := Aside0.mk H
   clear H
   go_wp2
   repeat (go_quiet (fail); try go_wp2)
   go_meet
   case rel => exact ⟨_, (true), ea_, H', ⟨by first | omega | exact Nat.le_refl _⟩, ⟨bkk BK215.out⟩, ⟨bel⟩⟩
  ·rw [if_neg c5] at H
   have c5b0 : decide (a1 < 0) = false := decide_eq_false c5
   clear c5
   (first | rw [c5b0] | (simp only [i64_w, i32_w]; rw [c5b0]) | skip)
   have H' := Aside0.mk H
   clear H
   go_wp2
   repeat (go_quiet (fail); try go_wp2)
   go_meet
   case rel => exact ⟨_, (decide (a1 > (l0.length : Int))), ea_, H', ⟨by first | omega | exact Nat.le_refl _⟩, ⟨bkk BK215.out⟩, ⟨bel⟩⟩
 case rest =>
  clear HC3
  try clear c1
  try clear p2
  try clear c5
  try clear c5b0
  obtain ⟨kq, x29_2, rfl, HA, HJ2, BK215, HB⟩ := hcut
  cases kq with
  | zero => exact absurd HA.out (by simp [erasureref14_Next.j0])
  | succ kj2 =>
   have H := HA.out
   clear HA
   simp only [erasureref14_Next.j0] at H
   by_cases c6 : x29_2 = true
   ·subst c6
    have H1 : (some (0, 0, 0, (⟨#[]⟩ : ByteArray), 0, 1)) = some (r1, r2, r3, r4, r5, r6) := by rw [if_pos rfl] at H; exact H
    clear H
    have H := H1
    clear H1
    simp only [Option.some.injEq, Prod.mk.injEq] at H
    obtain ⟨rfl, rfl, rfl, rfl, rfl, rfl⟩ := H
    have hcz7_0 : wc.cell? ⟨gb215, 0, none⟩ = some (.int .i64 0) := (blk_cell BK215.out 0).trans rfl
    have hcz7_1 : wc.cell? ⟨gb215, 1, none⟩ = some (.int .i64 0) := (blk_cell BK215.out 1).trans rfl
    have hcz7_2 : wc.cell? ⟨gb215, 2, none⟩ = some (.int .i64 0) := (blk_cell BK215.out 2).trans rfl
    have hcz7_3 : wc.cell? ⟨gb215, 3, none⟩ = some (.string (⟨#[]⟩ : ByteArray)) := (blk_cell BK215.out 3).trans rfl
    have hfz7_0 := blk_frozen BK215.out 0
    have hfz7_1 := blk_frozen BK215.out 1
    have hfz7_2 := blk_frozen BK215.out 2
    have hfz7_3 := blk_frozen BK215.out 3
    exact lf_L8_1
   ·replace c6 := Bool.eq_false_iff.mpr c6
    subst c6
    have H1 : ((erasureref14_skip.f kj2 l0 a1).bind fun t216 => (if t216 = (l0.length : Int) then (some (0, 0, 0, (⟨#[]⟩ : ByteArray), t216, 0)) else (if (wrap64 (t216 + 1)) < (l0.length : Int) then (if 0 ≤ (wrap64 (t216 + 1)) then (if 0 ≤ t216 then (if t216 < (l0.length : Int) then (erasureref14_Next.j1 kj2 l0 t216 ((rd l0 (wrap64 (t216 + 1))) == (rd l0 t216))) else (none)) else (none)) else (none)) else (erasureref14_Next.j1 kj2 l0 t216 false)))) = some (r1, r2, r3, r4, r5, r6) := by rw [if_neg (show ¬ (false = true) by decide)] at H; exact H
    clear H
    have H := H1
    clear H1
    replace H := Option.bind_eq_some_iff.mp H
    obtain ⟨t216, A80, H⟩ := H
    replace H : (if t216 = (l0.length : Int) then (some (0, 0, 0, (⟨#[]⟩ : ByteArray), t216, 0)) else (if (wrap64 (t216 + 1)) < (l0.length : Int) then (if 0 ≤ (wrap64 (t216 + 1)) then (if 0 ≤ t216 then (if t216 < (l0.length : Int) then (erasureref14_Next.j1 kj2 l0 t216 ((rd l0 (wrap64 (t216 + 1))) == (rd l0 t216))) else (none)) else (none)) else (none)) else (erasureref14_Next.j1 kj2 l0 t216 false))) = some (r1, r2, r3, r4, r5, r6) := H
    have A8 := Aside0.mk A80
    clear A80
    by_cases c9 : t216 = (l0.length : Int)
    ·rw [if_pos c9] at H
     have c9b0 : (t216 == (l0.length : Int)) = true := beq_iff_eq.mpr c9
     have c9b1 : (t216 != (l0.length : Int)) = false := bne_eq_false_iff_eq.mpr c9
     clear c9
     simp only [Option.some.injEq, Prod.mk.injEq] at H
     obtain ⟨rfl, rfl, rfl, rfl, rfl, rfl⟩ := H
     go_wp2_with (first | (go_at_call 19; (with_reducible refine (erasureref14_skip.calls kj2 _ _ l0 a1 t216 _ ?side1 ?side2 A8.out).mono ?_); (case side1 => repeat (first | exact (Kd.C_below HR0.out HB.out) | (with_reducible refine Kd.C_alloc ?_ _) | (with_reducible refine Kd.C_drewN ?_ _) | (with_reducible refine Kd.C_drew ?_))); (case side2 => exact HC0.out); rintro e w' ⟨rfl, ⟨nd, rfl⟩⟩; (try exact dd_); have hcz10_0 : wc.cell? ⟨gb215, 0, none⟩ = some (.int .i64 0) := (blk_cell BK215.out 0).trans rfl; have hcz10_1 : wc.cell? ⟨gb215, 1, none⟩ = some (.int .i64 0) := (blk_cell BK215.out 1).trans rfl; have hcz10_2 : wc.cell? ⟨gb215, 2, none⟩ = some (.int .i64 0) := (blk_cell BK215.out 2).trans rfl; have hcz10_3 : wc.cell? ⟨gb215, 3, none⟩ = some (.string (⟨#[]⟩ : ByteArray)) := (blk_cell BK215.out 3).trans rfl; have hfz10_0 := blk_frozen BK215.out 0; have hfz10_1 := blk_frozen BK215.out 1; have hfz10_2 := blk_frozen BK215.out 2; have hfz10_3 := blk_frozen BK215.out 3))
     repeat (go_quiet (first | (go_at_call 19; (with_reducible refine (erasureref14_skip.calls kj2 _ _ l0 a1 t216 _ ?side1 ?side2 A8.out).mono ?_); (case side1 => repeat (first | exact (Kd.C_below HR0.out HB.out) | (with_reducible refine Kd.C_alloc ?_ _) | (with_reducible refine Kd.C_drewN ?_ _) | (with_reducible refine Kd.C_drew ?_))); (case side2 => exact HC0.out); rintro e w' ⟨rfl, ⟨nd, rfl⟩⟩; (try exact dd_); have hcz10_0 : wc.cell? ⟨gb215, 0, none⟩ = some (.int .i64 0) := (blk_cell BK215.out 0).trans rfl; have hcz10_1 : wc.cell? ⟨gb215, 1, none⟩ = some (.int .i64 0) := (blk_cell BK215.out 1).trans rfl; have hcz10_2 : wc.cell? ⟨gb215, 2, none⟩ = some (.int .i64 0) := (blk_cell BK215.out 2).trans rfl; have hcz10_3 : wc.cell? ⟨gb215, 3, none⟩ = some (.string (⟨#[]⟩ : ByteArray)) := (blk_cell BK215.out 3).trans rfl; have hfz10_0 := blk_frozen BK215.out 0; have hfz10_1 := blk_frozen BK215.out 1; have hfz10_2 := blk_frozen BK215.out 2; have hfz10_3 := blk_frozen BK215.out 3)); try go_wp2_with (first | (go_at_call 19; (with_reducible refine (erasureref14_skip.calls kj2 _ _ l0 a1 t216 _ ?side1 ?side2 A8.out).mono ?_); (case side1 => repeat (first | exact (Kd.C_below HR0.out HB.out) | (with_reducible refine Kd.C_alloc ?_ _) | (with_reducible refine Kd.C_drewN ?_ _) | (with_reducible refine Kd.C_drew ?_))); (case side2 => exact HC0.out); rintro e w' ⟨rfl, ⟨nd, rfl⟩⟩; (try exact dd_); have hcz10_0 : wc.cell? ⟨gb215, 0, none⟩ = some (.int .i64 0) := (blk_cell BK215.out 0).trans rfl; have hcz10_1 : wc.cell? ⟨gb215, 1, none⟩ = some (.int .i64 0) := (blk_cell BK215.out 1).trans rfl; have hcz10_2 : wc.cell? ⟨gb215, 2, none⟩ = some (.int .i64 0) := (blk_cell BK215.out 2).trans rfl; have hcz10_3 : wc.cell? ⟨gb215, 3, none⟩ = some (.string (⟨#[]⟩ : ByteArray)) := (blk_cell BK215.out 3).trans rfl; have hfz10_0 := blk_frozen BK215.out 0; have hfz10_1 := blk_frozen BK215.out 1; have hfz10_2 := blk_frozen BK215.out 2; have hfz10_3 := blk_frozen BK215.out 3)))
     refine bodyPost_ret (results_ctt rfl _ _ gb215 27 #[.int .i64 0, .int .i64 0, .int .i64 0, .string (⟨#[]⟩ : ByteArray)] (0, 0) _ rfl (by (with_reducible repeat (first | refine blk_drewN ?_ _ | refine blk_drew ?_ | refine blk_alloc ?_ _)); refine blk_put (cs := #[.int .i64 0, .int .i64 0, .int .i64 0, .string (⟨#[]⟩ : ByteArray)]) ?_ 3 _ rfl; (with_reducible repeat (first | refine blk_drewN ?_ _ | refine blk_drew ?_ | refine blk_alloc ?_ _)); refine blk_put (cs := #[.int .i64 0, .int .i64 0, .int .i64 0, .string (⟨#[]⟩ : ByteArray)]) ?_ 2 _ rfl; (with_reducible repeat (first | refine blk_drewN ?_ _ | refine blk_drew ?_ | refine blk_alloc ?_ _)); refine blk_put (cs := #[.int .i64 0, .int .i64 0, .int .i64 0, .string (⟨#[]⟩ : ByteArray)]) ?_ 1 _ rfl; (with_reducible repeat (first | refine blk_drewN ?_ _ | refine blk_drew ?_ | refine blk_alloc ?_ _)); refine blk_put (cs := #[.int .i64 0, .int .i64 0, .int .i64 0, .string (⟨#[]⟩ : ByteArray)]) ?_ 0 _ rfl; (with_reducible repeat (first | refine blk_drewN ?_ _ | refine blk_drew ?_ | refine blk_alloc ?_ _)); exact BK215.out) Tryd.underlying27 rfl (by kernel_rfl)) rfl ?_
     exact ⟨ee_, bel⟩
    ·rw [if_neg c9] at H
     have c9b0 : (t216 == (l0.length : Int)) = false := beq_eq_false_iff_ne.mpr c9
     have c9b1 : (t216 != (l0.length : Int)) = true := bne_iff_ne.mpr c9
     have HC11 := Aside0.mk H
     clear H
     go_upto_region 6 with (first | (go_at_call 19; (with_reducible refine (erasureref14_skip.calls kj2 _ _ l0 a1 t216 _ ?side1 ?side2 A8.out).mono ?_); (case side1 => repeat (first | exact (Kd.C_below HR0.out HB.out) | (with_reducible refine Kd.C_alloc ?_ _) | (with_reducible refine Kd.C_drewN ?_ _) | (with_reducible refine Kd.C_drew ?_))); (case side2 => exact HC0.out); rintro e w' ⟨rfl, ⟨nd, rfl⟩⟩; (try exact dd_)))
     repeat (go_quiet (first | (go_at_call 19; (with_reducible refine (erasureref14_skip.calls kj2 _ _ l0 a1 t216 _ ?side1 ?side2 A8.out).mono ?_); (case side1 => repeat (first | exact (Kd.C_below HR0.out HB.out) | (with_reducible refine Kd.C_alloc ?_ _) | (with_reducible refine Kd.C_drewN ?_ _) | (with_reducible refine Kd.C_drew ?_))); (case side2 => exact HC0.out); rintro e w' ⟨rfl, ⟨nd, rfl⟩⟩; (try exact dd_))); go_upto_region 6 with (first | (go_at_call 19; (with_reducible refine (erasureref14_skip.calls kj2 _ _ l0 a1 t216 _ ?side1 ?side2 A8.out).mono ?_); (case side1 => repeat (first | exact (Kd.C_below HR0.out HB.out) | (with_reducible refine Kd.C_alloc ?_ _) | (with_reducible refine Kd.C_drewN ?_ _) | (with_reducible refine Kd.C_drew ?_))); (case side2 => exact HC0.out); rintro e w' ⟨rfl, ⟨nd, rfl⟩⟩; (try exact dd_))))
     (try simp only [Act.put, List.setIfInBounds_toArray, List.set_cons_zero, List.set_cons_succ])
     go_cut [7] (fun v7 wc => ∃ (kq : Nat) (x7_10 : Bool), v7 = .bool x7_10 ∧ Aside0 (erasureref14_Next.j1 kq l0 t216 x7_10 = some (r1, r2, r3, r4, r5, r6)) ∧ Aside0 (kq ≤ kj2) ∧ Aside0 (wc.heap[gb215]? = some (.cells #[.int .i64 0, .int .i64 0, .int .i64 0, .string (⟨#[]⟩ : ByteArray)] 27 (0, 0))) ∧ Aside0 (Below w.heap.size w wc))
     case first =>
      have H := HC11.out
      clear HC11
      by_cases c12 : (wrap64 (t216 + 1)) < (l0.length : Int)
      ·rw [if_pos c12] at H
       have c12b0 : decide ((wrap64 (t216 + 1)) < (l0.length : Int)) = true := decide_eq_true c12
       clear c12
       (first | rw [c12b0] | (simp only [i64_w, i32_w]; rw [c12b0]) | skip)
       obtain ⟨ji13, hji13⟩ : ∃ j_ : Int, (wrap64 (t216 + 1)) = j_ := ⟨_, rfl⟩
       replace H : (if 0 ≤ (ji13) then (if 0 ≤ t216 then (if t216 < (l0.length : Int) then (erasureref14_Next.j1 kj2 l0 t216 ((rd l0 (ji13)) == (rd l0 t216))) else (none)) else (none)) else (none)) = some (r1, r2, r3, r4, r5, r6) := by first | (rw [hji13] at H; exact H) | (simp only [hji13] at H ⊢; exact H)
       (try rw [hji13] at c12b0)
       have hji13w : (IntKind.i64.wrap (t216 + 1)) = ji13 := (i64_w _).trans hji13
       by_cases c14 : 0 ≤ (ji13)
       ·rw [if_pos c14] at H
        have c14b0 : decide (0 ≤ (ji13)) = true := decide_eq_true c14
        clear c14
        by_cases c15 : 0 ≤ t216
        ·rw [if_pos c15] at H
         have c15b0 : decide (0 ≤ t216) = true := decide_eq_true c15
         clear c15
         by_cases c16 : t216 < (l0.length : Int)
         ·rw [if_pos c16] at H
          have c16b0 : decide (t216 < (l0.length : Int)) = true := decide_eq_true c16
          clear c16
          have H' := Aside0.mk H
          clear H
          have p217 : 0 ≤ ((ji13) : Int) := of_decide_eq_true (by first | (with_reducible assumption) | assumption)
          have q217 : (ji13) < (l0.length : Int) := of_decide_eq_true (by first | (with_reducible assumption) | assumption)
          obtain ⟨ad217, e217, hx217_0⟩ := Kd.at_int HR0.out (ji13) p217 q217
          cases e217
          replace hx217_0 := (HB.out.cell (World.block_lt_of_cell? w _ hx217_0)).trans hx217_0
          replace p217 := eq_true p217
          replace q217 := eq_true q217
          have p218 : 0 ≤ (t216 : Int) := of_decide_eq_true (by first | (with_reducible assumption) | assumption)
          have q218 : t216 < (l0.length : Int) := of_decide_eq_true (by first | (with_reducible assumption) | assumption)
          obtain ⟨ad218, e218, hx218_0⟩ := Kd.at_int HR0.out t216 p218 q218
          obtain rfl : ad217 = ad218 := (by injection e218)
          replace hx218_0 := (HB.out.cell (World.block_lt_of_cell? w _ hx218_0)).trans hx218_0
          replace p218 := eq_true p218
          replace q218 := eq_true q218
          go_wp2
          repeat (go_quiet (fail); try go_wp2)
          go_meet
          case rel => exact ⟨_, (((rd l0 (ji13)) == (rd l0 t216))), (by first | rfl | (simp; done) | (simp only [← hji13] <;> (first | rfl | simp)) | (simp [*]; done)), H', ⟨by have := HJ2.out; first | omega | exact Nat.le_refl _⟩, ⟨bkk BK215.out⟩, ⟨bel⟩⟩
         ·rw [if_neg c16] at H
          exact absurd H (by simp)
        ·rw [if_neg c15] at H
         exact absurd H (by simp)
       ·rw [if_neg c14] at H
        exact absurd H (by simp)
      ·rw [if_neg c12] at H
       have c12b0 : decide ((wrap64 (t216 + 1)) < (l0.length : Int)) = false := decide_eq_false c12
       clear c12
       (first | rw [c12b0] | (simp only [i64_w, i32_w]; rw [c12b0]) | skip)
       have H' := Aside0.mk H
       clear H
       go_wp2
       repeat (go_quiet (fail); try go_wp2)
       go_meet
       case rel => exact ⟨_, (false), ea_, H', ⟨by have := HJ2.out; first | omega | exact Nat.le_refl _⟩, ⟨bkk BK215.out⟩, ⟨bel⟩⟩
     case rest =>
      clear HC11
      try clear c1
      try clear p2
      try clear q2
      try clear hx2
      try clear c5
      try clear c5b0
      try clear c6
      try clear p6
      try clear c9
      try clear c9b0
      try clear c9b1
      try clear c11
      try clear c12
      try clear c12b0
      try clear c14
      try clear c14b0
      try clear c15
      try clear c15b0
      try clear c16
      try clear c16b0
      try clear hcz10_0
      try clear hcz10_1
      try clear hcz10_2
      try clear hcz10_3
      try clear hcz7_0
      try clear hcz7_1
      try clear hcz7_2
      try clear hcz7_3
      try clear hfz10_0
      try clear hfz10_1
      try clear hfz10_2
      try clear hfz10_3
      try clear hfz7_0
      try clear hfz7_1
      try clear hfz7_2
      try clear hfz7_3
      try clear hx217_0
      try clear hx218_0
      try clear p2
      try clear p217
      try clear p218
      try clear q217
      try clear q218
      obtain ⟨kq, x7_10, rfl, HA, HJ10, BK215, HB⟩ := hcut
      cases kq with
      | zero => exact absurd HA.out (by simp [erasureref14_Next.j1])
      | succ kj10 =>
       have H := HA.out
       clear HA
       simp only [erasureref14_Next.j1] at H
       by_cases c17 : 0 ≤ t216
       ·rw [if_pos c17] at H
        have c17b0 : decide (0 ≤ t216) = true := decide_eq_true c17
        clear c17
        by_cases c18 : t216 < (l0.length : Int)
        ·rw [if_pos c18] at H
         have c18b0 : decide (t216 < (l0.length : Int)) = true := decide_eq_true c18
         clear c18
         by_cases c19 : (rd l0 t216) = 91
         ·rw [if_pos c19] at H
          have c19b0 : ((rd l0 t216) == 91) = true := beq_iff_eq.mpr c19
          have c19b1 : ((rd l0 t216) != 91) = false := bne_eq_false_iff_eq.mpr c19
          clear c19
          simp only [Option.some.injEq, Prod.mk.injEq] at H
          obtain ⟨rfl, rfl, rfl, rfl, rfl, rfl⟩ := H
          have p219 : 0 ≤ (t216 : Int) := of_decide_eq_true (by first | (with_reducible assumption) | assumption)
          have q219 : t216 < (l0.length : Int) := of_decide_eq_true (by first | (with_reducible assumption) | assumption)
          obtain ⟨ad219, e219, hx219_0⟩ := Kd.at_int HR0.out t216 p219 q219
          cases e219
          replace hx219_0 := (HB.out.cell (World.block_lt_of_cell? w _ hx219_0)).trans hx219_0
          replace p219 := eq_true p219
          replace q219 := eq_true q219
          have hczq0 : wc.cell? ⟨gb215, 0, none⟩ = some (.int .i64 0) := (blk_cell BK215.out 0).trans rfl
          have hczq1 : wc.cell? ⟨gb215, 1, none⟩ = some (.int .i64 0) := (blk_cell BK215.out 1).trans rfl
          have hczq2 : wc.cell? ⟨gb215, 2, none⟩ = some (.int .i64 0) := (blk_cell BK215.out 2).trans rfl
          have hczq3 : wc.cell? ⟨gb215, 3, none⟩ = some (.string (⟨#[]⟩ : ByteArray)) := (blk_cell BK215.out 3).trans rfl
          have hfzq0 := blk_frozen BK215.out 0
          have hfzq1 := blk_frozen BK215.out 1
          have hfzq2 := blk_frozen BK215.out 2
          have hfzq3 := blk_frozen BK215.out 3
          exact lf_L8_1
         ·rw [if_neg c19] at H
          have c19b0 : ((rd l0 t216) == 91) = false := beq_eq_false_iff_ne.mpr c19
          have c19b1 : ((rd l0 t216) != 91) = true := bne_iff_ne.mpr c19
          by_cases c21 : (rd l0 t216) = 93
          ·rw [if_pos c21] at H
           have c21b0 : ((rd l0 t216) == 93) = true := beq_iff_eq.mpr c21
           have c21b1 : ((rd l0 t216) != 93) = false := bne_eq_false_iff_eq.mpr c21
           clear c21
           simp only [Option.some.injEq, Prod.mk.injEq] at H
           obtain ⟨rfl, rfl, rfl, rfl, rfl, rfl⟩ := H
           have p219 : 0 ≤ (t216 : Int) := of_decide_eq_true (by first | (with_reducible assumption) | assumption)
           have q219 : t216 < (l0.length : Int) := of_decide_eq_true (by first | (with_reducible assumption) | assumption)
           obtain ⟨ad219, e219, hx219_0⟩ := Kd.at_int HR0.out t216 p219 q219
           cases e219
           replace hx219_0 := (HB.out.cell (World.block_lt_of_cell? w _ hx219_0)).trans hx219_0
           replace p219 := eq_true p219
           replace q219 := eq_true q219
           have hczq0 : wc.cell? ⟨gb215, 0, none⟩ = some (.int .i64 0) := (blk_cell BK215.out 0).trans rfl
           have hczq1 : wc.cell? ⟨gb215, 1, none⟩ = some (.int .i64 0) := (blk_cell BK215.out 1).trans rfl
           have hczq2 : wc.cell? ⟨gb215, 2, none⟩ = some (.int .i64 0) := (blk_cell BK215.out 2).trans rfl
           have hczq3 : wc.cell? ⟨gb215, 3, none⟩ = some (.string (⟨#[]⟩ : ByteArray)) := (blk_cell BK215.out 3).trans rfl
           have hfzq0 := blk_frozen BK215.out 0
           have hfzq1 := blk_frozen BK215.out 1
           have hfzq2 := blk_frozen BK215.out 2
           have hfzq3 := blk_frozen BK215.out 3
           exact lf_L8_1
          ·rw [if_neg c21] at H
           have c21b0 : ((rd l0 t216) == 93) = false := beq_eq_false_iff_ne.mpr c21
           have c21b1 : ((rd l0 t216) != 93) = true := bne_iff_ne.mpr c21
           by_cases c23 : (rd l0 t216) = 60
           ·rw [if_pos c23] at H
            have c23b0 : ((rd l0 t216) == 60) = true := beq_iff_eq.mpr c23
            have c23b1 : ((rd l0 t216) != 60) = false := bne_eq_false_iff_eq.mpr c23
            clear c23
            by_cases c24 : x7_10 = true
            ·subst c24
             have H1 : (some (7, 0, 0, (⟨#[]⟩ : ByteArray), wrap64 (t216 + 2), 0)) = some (r1, r2, r3, r4, r5, r6) := by rw [if_pos rfl] at H; exact H
             clear H
             have H := H1
             clear H1
             simp only [Option.some.injEq, Prod.mk.injEq] at H
             obtain ⟨rfl, rfl, rfl, rfl, rfl, rfl⟩ := H
             have p219 : 0 ≤ (t216 : Int) := of_decide_eq_true (by first | (with_reducible assumption) | assumption)
             have q219 : t216 < (l0.length : Int) := of_decide_eq_true (by first | (with_reducible assumption) | assumption)
             obtain ⟨ad219, e219, hx219_0⟩ := Kd.at_int HR0.out t216 p219 q219
             cases e219
             replace hx219_0 := (HB.out.cell (World.block_lt_of_cell? w _ hx219_0)).trans hx219_0
             replace p219 := eq_true p219
             replace q219 := eq_true q219
             have hczq0 : wc.cell? ⟨gb215, 0, none⟩ = some (.int .i64 0) := (blk_cell BK215.out 0).trans rfl
             have hczq1 : wc.cell? ⟨gb215, 1, none⟩ = some (.int .i64 0) := (blk_cell BK215.out 1).trans rfl
             have hczq2 : wc.cell? ⟨gb215, 2, none⟩ = some (.int .i64 0) := (blk_cell BK215.out 2).trans rfl
             have hczq3 : wc.cell? ⟨gb215, 3, none⟩ = some (.string (⟨#[]⟩ : ByteArray)) := (blk_cell BK215.out 3).trans rfl
             have hfzq0 := blk_frozen BK215.out 0
             have hfzq1 := blk_frozen BK215.out 1
             have hfzq2 := blk_frozen BK215.out 2
             have hfzq3 := blk_frozen BK215.out 3
             exact lf_L8_1
            ·replace c24 := Bool.eq_false_iff.mpr c24
             subst c24
             have H1 : ((erasureref14_hexa.f kj10 l0 (wrap64 (t216 + 1))).bind fun btq0 => ((erasureref14_whole.f 3 btq0.1 btq0.2.1 btq0.2.2).bind fun btq1 => (some (btq1.1, btq1.2.1, btq1.2.2.1, btq1.2.2.2.1, btq1.2.2.2.2.1, btq1.2.2.2.2.2)))) = some (r1, r2, r3, r4, r5, r6) := by rw [if_neg (show ¬ (false = true) by decide)] at H; exact H
             clear H
             have H := H1
             clear H1
             replace H := Option.bind_eq_some_iff.mp H
             obtain ⟨⟨tq0, tq1, tq2⟩, Aq0, H⟩ := H
             replace H : ((erasureref14_whole.f 3 tq0 tq1 tq2).bind fun btq1 => (some (btq1.1, btq1.2.1, btq1.2.2.1, btq1.2.2.2.1, btq1.2.2.2.2.1, btq1.2.2.2.2.2))) = some (r1, r2, r3, r4, r5, r6) := H
             have Aq1 := Aside0.mk Aq0
             clear Aq0
             replace H := Option.bind_eq_some_iff.mp H
             obtain ⟨⟨tq3, tq4, tq5, tq6, tq7, tq8⟩, Aq2, H⟩ := H
             replace H : (some (tq3, tq4, tq5, tq6, tq7, tq8)) = some (r1, r2, r3, r4, r5, r6) := H
             have Aq3 := Aside0.mk Aq2
             clear Aq2
             simp only [Option.some.injEq, Prod.mk.injEq] at H
             obtain ⟨rfl, rfl, rfl, rfl, rfl, rfl⟩ := H
             have p219 : 0 ≤ (t216 : Int) := of_decide_eq_true (by first | (with_reducible assumption) | assumption)
             have q219 : t216 < (l0.length : Int) := of_decide_eq_true (by first | (with_reducible assumption) | assumption)
             obtain ⟨ad219, e219, hx219_0⟩ := Kd.at_int HR0.out t216 p219 q219
             cases e219
             replace hx219_0 := (HB.out.cell (World.block_lt_of_cell? w _ hx219_0)).trans hx219_0
             replace p219 := eq_true p219
             replace q219 := eq_true q219
             go_wp2_with (first | (go_at_call 20; (with_reducible refine (erasureref14_hexa.calls kj10 _ _ l0 (wrap64 (t216 + 1)) tq0 tq1 tq2 _ ?side1 ?side2 Aq1.out).mono ?_); (case side1 => repeat (first | exact (Kd.C_below HR0.out HB.out) | (with_reducible refine Kd.C_alloc ?_ _) | (with_reducible refine Kd.C_drewN ?_ _) | (with_reducible refine Kd.C_drew ?_))); (case side2 => exact HC0.out); rintro e wq0 ⟨rfl, hb⟩; have n0_ := Aside0.mk (blk_below (bkk BK215.out) hb); have n1_ := Aside0.mk (below_step bel hb); clear BK215; clear HB; have BK215 := n0_; have HB := n1_; clear n0_ n1_; (try clear hb); (try clear hb2); (try clear hk); (try clear hi)) | (go_at_call 21; (with_reducible refine (erasureref14_whole.calls 3 tq0 tq1 tq2 tq3 tq4 tq5 tq6 tq7 tq8 _ Aq3.out).mono ?_); rintro e wq1 ⟨rfl, hb⟩; have n0_ := Aside0.mk (blk_below (bkk BK215.out) hb); have n1_ := Aside0.mk (below_step bel hb); clear BK215; clear HB; have BK215 := n0_; have HB := n1_; clear n0_ n1_; (try clear hb); (try clear hb2); (try clear hk); (try clear hi); have hczq0 : wq1.cell? ⟨gb215, 0, none⟩ = some (.int .i64 0) := (blk_cell BK215.out 0).trans rfl; have hczq1 : wq1.cell? ⟨gb215, 1, none⟩ = some (.int .i64 0) := (blk_cell BK215.out 1).trans rfl; have hczq2 : wq1.cell? ⟨gb215, 2, none⟩ = some (.int .i64 0) := (blk_cell BK215.out 2).trans rfl; have hczq3 : wq1.cell? ⟨gb215, 3, none⟩ = some (.string (⟨#[]⟩ : ByteArray)) := (blk_cell BK215.out 3).trans rfl; have hfzq0 := blk_frozen BK215.out 0; have hfzq1 := blk_frozen BK215.out 1; have hfzq2 := blk_frozen BK215.out 2; have hfzq3 := blk_frozen BK215.out 3))
             repeat (go_quiet (first | (go_at_call 20; (with_reducible refine (erasureref14_hexa.calls kj10 _ _ l0 (wrap64 (t216 + 1)) tq0 tq1 tq2 _ ?side1 ?side2 Aq1.out).mono ?_); (case side1 => repeat (first | exact (Kd.C_below HR0.out HB.out) | (with_reducible refine Kd.C_alloc ?_ _) | (with_reducible refine Kd.C_drewN ?_ _) | (with_reducible refine Kd.C_drew ?_))); (case side2 => exact HC0.out); rintro e wq0 ⟨rfl, hb⟩; have n0_ := Aside0.mk (blk_below (bkk BK215.out) hb); have n1_ := Aside0.mk (below_step bel hb); clear BK215; clear HB; have BK215 := n0_; have HB := n1_; clear n0_ n1_; (try clear hb); (try clear hb2); (try clear hk); (try clear hi)) | (go_at_call 21; (with_reducible refine (erasureref14_whole.calls 3 tq0 tq1 tq2 tq3 tq4 tq5 tq6 tq7 tq8 _ Aq3.out).mono ?_); rintro e wq1 ⟨rfl, hb⟩; have n0_ := Aside0.mk (blk_below (bkk BK215.out) hb); have n1_ := Aside0.mk (below_step bel hb); clear BK215; clear HB; have BK215 := n0_; have HB := n1_; clear n0_ n1_; (try clear hb); (try clear hb2); (try clear hk); (try clear hi); have hczq0 : wq1.cell? ⟨gb215, 0, none⟩ = some (.int .i64 0) := (blk_cell BK215.out 0).trans rfl; have hczq1 : wq1.cell? ⟨gb215, 1, none⟩ = some (.int .i64 0) := (blk_cell BK215.out 1).trans rfl; have hczq2 : wq1.cell? ⟨gb215, 2, none⟩ = some (.int .i64 0) := (blk_cell BK215.out 2).trans rfl; have hczq3 : wq1.cell? ⟨gb215, 3, none⟩ = some (.string (⟨#[]⟩ : ByteArray)) := (blk_cell BK215.out 3).trans rfl; have hfzq0 := blk_frozen BK215.out 0; have hfzq1 := blk_frozen BK215.out 1; have hfzq2 := blk_frozen BK215.out 2; have hfzq3 := blk_frozen BK215.out 3)); try go_wp2_with (first | (go_at_call 20; (with_reducible refine (erasureref14_hexa.calls kj10 _ _ l0 (wrap64 (t216 + 1)) tq0 tq1 tq2 _ ?side1 ?side2 Aq1.out).mono ?_); (case side1 => repeat (first | exact (Kd.C_below HR0.out HB.out) | (with_reducible refine Kd.C_alloc ?_ _) | (with_reducible refine Kd.C_drewN ?_ _) | (with_reducible refine Kd.C_drew ?_))); (case side2 => exact HC0.out); rintro e wq0 ⟨rfl, hb⟩; have n0_ := Aside0.mk (blk_below (bkk BK215.out) hb); have n1_ := Aside0.mk (below_step bel hb); clear BK215; clear HB; have BK215 := n0_; have HB := n1_; clear n0_ n1_; (try clear hb); (try clear hb2); (try clear hk); (try clear hi)) | (go_at_call 21; (with_reducible refine (erasureref14_whole.calls 3 tq0 tq1 tq2 tq3 tq4 tq5 tq6 tq7 tq8 _ Aq3.out).mono ?_); rintro e wq1 ⟨rfl, hb⟩; have n0_ := Aside0.mk (blk_below (bkk BK215.out) hb); have n1_ := Aside0.mk (below_step bel hb); clear BK215; clear HB; have BK215 := n0_; have HB := n1_; clear n0_ n1_; (try clear hb); (try clear hb2); (try clear hk); (try clear hi); have hczq0 : wq1.cell? ⟨gb215, 0, none⟩ = some (.int .i64 0) := (blk_cell BK215.out 0).trans rfl; have hczq1 : wq1.cell? ⟨gb215, 1, none⟩ = some (.int .i64 0) := (blk_cell BK215.out 1).trans rfl; have hczq2 : wq1.cell? ⟨gb215, 2, none⟩ = some (.int .i64 0) := (blk_cell BK215.out 2).trans rfl; have hczq3 : wq1.cell? ⟨gb215, 3, none⟩ = some (.string (⟨#[]⟩ : ByteArray)) := (blk_cell BK215.out 3).trans rfl; have hfzq0 := blk_frozen BK215.out 0; have hfzq1 := blk_frozen BK215.out 1; have hfzq2 := blk_frozen BK215.out 2; have hfzq3 := blk_frozen BK215.out 3)))
             refine bodyPost_ret (results_ctt rfl _ _ gb215 27 #[.int .i64 tq3, .int .i64 tq4, .int .i64 tq5, .string tq6] (0, 0) _ rfl (by (with_reducible repeat (first | refine blk_drewN ?_ _ | refine blk_drew ?_ | refine blk_alloc ?_ _)); refine blk_put (cs := #[.int .i64 tq3, .int .i64 tq4, .int .i64 tq5, .string (⟨#[]⟩ : ByteArray)]) ?_ 3 _ rfl; (with_reducible repeat (first | refine blk_drewN ?_ _ | refine blk_drew ?_ | refine blk_alloc ?_ _)); refine blk_put (cs := #[.int .i64 tq3, .int .i64 tq4, .int .i64 0, .string (⟨#[]⟩ : ByteArray)]) ?_ 2 _ rfl; (with_reducible repeat (first | refine blk_drewN ?_ _ | refine blk_drew ?_ | refine blk_alloc ?_ _)); refine blk_put (cs := #[.int .i64 tq3, .int .i64 0, .int .i64 0, .string (⟨#[]⟩ : ByteArray)]) ?_ 1 _ rfl; (with_reducible repeat (first | refine blk_drewN ?_ _ | refine blk_drew ?_ | refine blk_alloc ?_ _)); refine blk_put (cs := #[.int .i64 0, .int .i64 0, .int .i64 0, .string (⟨#[]⟩ : ByteArray)]) ?_ 0 _ rfl; (with_reducible repeat (first | refine blk_drewN ?_ _ | refine blk_drew ?_ | refine blk_alloc ?_ _)); exact BK215.out) Tryd.underlying27 rfl (by kernel_rfl)) rfl ?_
             exact ⟨ee_, bel⟩
           ·rw [if_neg c23] at H
            have c23b0 : ((rd l0 t216) == 60) = false := beq_eq_false_iff_ne.mpr c23
            have c23b1 : ((rd l0 t216) != 60) = true := bne_iff_ne.mpr c23
            by_cases c31 : (rd l0 t216) = 62
            ·rw [if_pos c31] at H
             have c31b0 : ((rd l0 t216) == 62) = true := beq_iff_eq.mpr c31
             have c31b1 : ((rd l0 t216) != 62) = false := bne_eq_false_iff_eq.mpr c31
             clear c31
             by_cases c32 : x7_10 = true
             ·subst c32
              have H1 : (some (8, 0, 0, (⟨#[]⟩ : ByteArray), wrap64 (t216 + 2), 0)) = some (r1, r2, r3, r4, r5, r6) := by rw [if_pos rfl] at H; exact H
              clear H
              have H := H1
              clear H1
              simp only [Option.some.injEq, Prod.mk.injEq] at H
              obtain ⟨rfl, rfl, rfl, rfl, rfl, rfl⟩ := H
              have p219 : 0 ≤ (t216 : Int) := of_decide_eq_true (by first | (with_reducible assumption) | assumption)
              have q219 : t216 < (l0.length : Int) := of_decide_eq_true (by first | (with_reducible assumption) | assumption)
              obtain ⟨ad219, e219, hx219_0⟩ := Kd.at_int HR0.out t216 p219 q219
              cases e219
              replace hx219_0 := (HB.out.cell (World.block_lt_of_cell? w _ hx219_0)).trans hx219_0
              replace p219 := eq_true p219
              replace q219 := eq_true q219
              have hczq0 : wc.cell? ⟨gb215, 0, none⟩ = some (.int .i64 0) := (blk_cell BK215.out 0).trans rfl
              have hczq1 : wc.cell? ⟨gb215, 1, none⟩ = some (.int .i64 0) := (blk_cell BK215.out 1).trans rfl
              have hczq2 : wc.cell? ⟨gb215, 2, none⟩ = some (.int .i64 0) := (blk_cell BK215.out 2).trans rfl
              have hczq3 : wc.cell? ⟨gb215, 3, none⟩ = some (.string (⟨#[]⟩ : ByteArray)) := (blk_cell BK215.out 3).trans rfl
              have hfzq0 := blk_frozen BK215.out 0
              have hfzq1 := blk_frozen BK215.out 1
              have hfzq2 := blk_frozen BK215.out 2
              have hfzq3 := blk_frozen BK215.out 3
              exact lf_L8_1
             ·replace c32 := Bool.eq_false_iff.mpr c32
              subst c32
              have H1 : (some (0, 0, 0, (⟨#[]⟩ : ByteArray), 0, 4)) = some (r1, r2, r3, r4, r5, r6) := by rw [if_neg (show ¬ (false = true) by decide)] at H; exact H
              clear H
              have H := H1
              clear H1
              simp only [Option.some.injEq, Prod.mk.injEq] at H
              obtain ⟨rfl, rfl, rfl, rfl, rfl, rfl⟩ := H
              have p219 : 0 ≤ (t216 : Int) := of_decide_eq_true (by first | (with_reducible assumption) | assumption)
              have q219 : t216 < (l0.length : Int) := of_decide_eq_true (by first | (with_reducible assumption) | assumption)
              obtain ⟨ad219, e219, hx219_0⟩ := Kd.at_int HR0.out t216 p219 q219
              cases e219
              replace hx219_0 := (HB.out.cell (World.block_lt_of_cell? w _ hx219_0)).trans hx219_0
              replace p219 := eq_true p219
              replace q219 := eq_true q219
              have hczq0 : wc.cell? ⟨gb215, 0, none⟩ = some (.int .i64 0) := (blk_cell BK215.out 0).trans rfl
              have hczq1 : wc.cell? ⟨gb215, 1, none⟩ = some (.int .i64 0) := (blk_cell BK215.out 1).trans rfl
              have hczq2 : wc.cell? ⟨gb215, 2, none⟩ = some (.int .i64 0) := (blk_cell BK215.out 2).trans rfl
              have hczq3 : wc.cell? ⟨gb215, 3, none⟩ = some (.string (⟨#[]⟩ : ByteArray)) := (blk_cell BK215.out 3).trans rfl
              have hfzq0 := blk_frozen BK215.out 0
              have hfzq1 := blk_frozen BK215.out 1
              have hfzq2 := blk_frozen BK215.out 2
              have hfzq3 := blk_frozen BK215.out 3
              exact lf_L8_1
            ·rw [if_neg c31] at H
             have c31b0 : ((rd l0 t216) == 62) = false := beq_eq_false_iff_ne.mpr c31
             have c31b1 : ((rd l0 t216) != 62) = true := bne_iff_ne.mpr c31
             by_cases c35 : (rd l0 t216) = 40
             ·rw [if_pos c35] at H
              have c35b0 : ((rd l0 t216) == 40) = true := beq_iff_eq.mpr c35
              have c35b1 : ((rd l0 t216) != 40) = false := bne_eq_false_iff_eq.mpr c35
              clear c35
              replace H := Option.bind_eq_some_iff.mp H
              obtain ⟨⟨tq0, tq1, tq2⟩, Aq0, H⟩ := H
              replace H : ((erasureref14_whole.f 3 tq0 tq1 tq2).bind fun btq0 => (some (btq0.1, btq0.2.1, btq0.2.2.1, btq0.2.2.2.1, btq0.2.2.2.2.1, btq0.2.2.2.2.2))) = some (r1, r2, r3, r4, r5, r6) := H
              have Aq1 := Aside0.mk Aq0
              clear Aq0
              replace H := Option.bind_eq_some_iff.mp H
              obtain ⟨⟨tq3, tq4, tq5, tq6, tq7, tq8⟩, Aq2, H⟩ := H
              replace H : (some (tq3, tq4, tq5, tq6, tq7, tq8)) = some (r1, r2, r3, r4, r5, r6) := H
              have Aq3 := Aside0.mk Aq2
              clear Aq2
              simp only [Option.some.injEq, Prod.mk.injEq] at H
              obtain ⟨rfl, rfl, rfl, rfl, rfl, rfl⟩ := H
              have p219 : 0 ≤ (t216 : Int) := of_decide_eq_true (by first | (with_reducible assumption) | assumption)
              have q219 : t216 < (l0.length : Int) := of_decide_eq_true (by first | (with_reducible assumption) | assumption)
              obtain ⟨ad219, e219, hx219_0⟩ := Kd.at_int HR0.out t216 p219 q219
              cases e219
              replace hx219_0 := (HB.out.cell (World.block_lt_of_cell? w _ hx219_0)).trans hx219_0
              replace p219 := eq_true p219
              replace q219 := eq_true q219
              go_wp2_with (first | (go_at_call 22; (with_reducible refine (erasureref14_text.calls kj10 _ _ l0 (wrap64 (t216 + 1)) tq0 tq1 tq2 _ ?side1 ?side2 Aq1.out).mono ?_); (case side1 => repeat (first | exact (Kd.C_below HR0.out HB.out) | (with_reducible refine Kd.C_alloc ?_ _) | (with_reducible refine Kd.C_drewN ?_ _) | (with_reducible refine Kd.C_drew ?_))); (case side2 => exact HC0.out); rintro e wq0 ⟨rfl, hb⟩; have n0_ := Aside0.mk (blk_below (bkk BK215.out) hb); have n1_ := Aside0.mk (below_step bel hb); clear BK215; clear HB; have BK215 := n0_; have HB := n1_; clear n0_ n1_; (try clear hb); (try clear hb2); (try clear hk); (try clear hi)) | (go_at_call 21; (with_reducible refine (erasureref14_whole.calls 3 tq0 tq1 tq2 tq3 tq4 tq5 tq6 tq7 tq8 _ Aq3.out).mono ?_); rintro e wq1 ⟨rfl, hb⟩; have n0_ := Aside0.mk (blk_below (bkk BK215.out) hb); have n1_ := Aside0.mk (below_step bel hb); clear BK215; clear HB; have BK215 := n0_; have HB := n1_; clear n0_ n1_; (try clear hb); (try clear hb2); (try clear hk); (try clear hi); have hczq0 : wq1.cell? ⟨gb215, 0, none⟩ = some (.int .i64 0) := (blk_cell BK215.out 0).trans rfl; have hczq1 : wq1.cell? ⟨gb215, 1, none⟩ = some (.int .i64 0) := (blk_cell BK215.out 1).trans rfl; have hczq2 : wq1.cell? ⟨gb215, 2, none⟩ = some (.int .i64 0) := (blk_cell BK215.out 2).trans rfl; have hczq3 : wq1.cell? ⟨gb215, 3, none⟩ = some (.string (⟨#[]⟩ : ByteArray)) := (blk_cell BK215.out 3).trans rfl; have hfzq0 := blk_frozen BK215.out 0; have hfzq1 := blk_frozen BK215.out 1; have hfzq2 := blk_frozen BK215.out 2; have hfzq3 := blk_frozen BK215.out 3))
              repeat (go_quiet (first | (go_at_call 22; (with_reducible refine (erasureref14_text.calls kj10 _ _ l0 (wrap64 (t216 + 1)) tq0 tq1 tq2 _ ?side1 ?side2 Aq1.out).mono ?_); (case side1 => repeat (first | exact (Kd.C_below HR0.out HB.out) | (with_reducible refine Kd.C_alloc ?_ _) | (with_reducible refine Kd.C_drewN ?_ _) | (with_reducible refine Kd.C_drew ?_))); (case side2 => exact HC0.out); rintro e wq0 ⟨rfl, hb⟩; have n0_ := Aside0.mk (blk_below (bkk BK215.out) hb); have n1_ := Aside0.mk (below_step bel hb); clear BK215; clear HB; have BK215 := n0_; have HB := n1_; clear n0_ n1_; (try clear hb); (try clear hb2); (try clear hk); (try clear hi)) | (go_at_call 21; (with_reducible refine (erasureref14_whole.calls 3 tq0 tq1 tq2 tq3 tq4 tq5 tq6 tq7 tq8 _ Aq3.out).mono ?_); rintro e wq1 ⟨rfl, hb⟩; have n0_ := Aside0.mk (blk_below (bkk BK215.out) hb); have n1_ := Aside0.mk (below_step bel hb); clear BK215; clear HB; have BK215 := n0_; have HB := n1_; clear n0_ n1_; (try clear hb); (try clear hb2); (try clear hk); (try clear hi); have hczq0 : wq1.cell? ⟨gb215, 0, none⟩ = some (.int .i64 0) := (blk_cell BK215.out 0).trans rfl; have hczq1 : wq1.cell? ⟨gb215, 1, none⟩ = some (.int .i64 0) := (blk_cell BK215.out 1).trans rfl; have hczq2 : wq1.cell? ⟨gb215, 2, none⟩ = some (.int .i64 0) := (blk_cell BK215.out 2).trans rfl; have hczq3 : wq1.cell? ⟨gb215, 3, none⟩ = some (.string (⟨#[]⟩ : ByteArray)) := (blk_cell BK215.out 3).trans rfl; have hfzq0 := blk_frozen BK215.out 0; have hfzq1 := blk_frozen BK215.out 1; have hfzq2 := blk_frozen BK215.out 2; have hfzq3 := blk_frozen BK215.out 3)); try go_wp2_with (first | (go_at_call 22; (with_reducible refine (erasureref14_text.calls kj10 _ _ l0 (wrap64 (t216 + 1)) tq0 tq1 tq2 _ ?side1 ?side2 Aq1.out).mono ?_); (case side1 => repeat (first | exact (Kd.C_below HR0.out HB.out) | (with_reducible refine Kd.C_alloc ?_ _) | (with_reducible refine Kd.C_drewN ?_ _) | (with_reducible refine Kd.C_drew ?_))); (case side2 => exact HC0.out); rintro e wq0 ⟨rfl, hb⟩; have n0_ := Aside0.mk (blk_below (bkk BK215.out) hb); have n1_ := Aside0.mk (below_step bel hb); clear BK215; clear HB; have BK215 := n0_; have HB := n1_; clear n0_ n1_; (try clear hb); (try clear hb2); (try clear hk); (try clear hi)) | (go_at_call 21; (with_reducible refine (erasureref14_whole.calls 3 tq0 tq1 tq2 tq3 tq4 tq5 tq6 tq7 tq8 _ Aq3.out).mono ?_); rintro e wq1 ⟨rfl, hb⟩; have n0_ := Aside0.mk (blk_below (bkk BK215.out) hb); have n1_ := Aside0.mk (below_step bel hb); clear BK215; clear HB; have BK215 := n0_; have HB := n1_; clear n0_ n1_; (try clear hb); (try clear hb2); (try clear hk); (try clear hi); have hczq0 : wq1.cell? ⟨gb215, 0, none⟩ = some (.int .i64 0) := (blk_cell BK215.out 0).trans rfl; have hczq1 : wq1.cell? ⟨gb215, 1, none⟩ = some (.int .i64 0) := (blk_cell BK215.out 1).trans rfl; have hczq2 : wq1.cell? ⟨gb215, 2, none⟩ = some (.int .i64 0) := (blk_cell BK215.out 2).trans rfl; have hczq3 : wq1.cell? ⟨gb215, 3, none⟩ = some (.string (⟨#[]⟩ : ByteArray)) := (blk_cell BK215.out 3).trans rfl; have hfzq0 := blk_frozen BK215.out 0; have hfzq1 := blk_frozen BK215.out 1; have hfzq2 := blk_frozen BK215.out 2; have hfzq3 := blk_frozen BK215.out 3)))
              refine bodyPost_ret (results_ctt rfl _ _ gb215 27 #[.int .i64 tq3, .int .i64 tq4, .int .i64 tq5, .string tq6] (0, 0) _ rfl (by (with_reducible repeat (first | refine blk_drewN ?_ _ | refine blk_drew ?_ | refine blk_alloc ?_ _)); refine blk_put (cs := #[.int .i64 tq3, .int .i64 tq4, .int .i64 tq5, .string (⟨#[]⟩ : ByteArray)]) ?_ 3 _ rfl; (with_reducible repeat (first | refine blk_drewN ?_ _ | refine blk_drew ?_ | refine blk_alloc ?_ _)); refine blk_put (cs := #[.int .i64 tq3, .int .i64 tq4, .int .i64 0, .string (⟨#[]⟩ : ByteArray)]) ?_ 2 _ rfl; (with_reducible repeat (first | refine blk_drewN ?_ _ | refine blk_drew ?_ | refine blk_alloc ?_ _)); refine blk_put (cs := #[.int .i64 tq3, .int .i64 0, .int .i64 0, .string (⟨#[]⟩ : ByteArray)]) ?_ 1 _ rfl; (with_reducible repeat (first | refine blk_drewN ?_ _ | refine blk_drew ?_ | refine blk_alloc ?_ _)); refine blk_put (cs := #[.int .i64 0, .int .i64 0, .int .i64 0, .string (⟨#[]⟩ : ByteArray)]) ?_ 0 _ rfl; (with_reducible repeat (first | refine blk_drewN ?_ _ | refine blk_drew ?_ | refine blk_alloc ?_ _)); exact BK215.out) Tryd.underlying27 rfl (by kernel_rfl)) rfl ?_
              exact ⟨ee_, bel⟩
             ·rw [if_neg c35] at H
              have c35b0 : ((rd l0 t216) == 40) = false := beq_eq_false_iff_ne.mpr c35
              have c35b1 : ((rd l0 t216) != 40) = true := bne_iff_ne.mpr c35
              by_cases c41 : (rd l0 t216) = 47
              ·rw [if_pos c41] at H
               have c41b0 : ((rd l0 t216) == 47) = true := beq_iff_eq.mpr c41
               have c41b1 : ((rd l0 t216) != 47) = false := bne_eq_false_iff_eq.mpr c41
               clear c41
               replace H := Option.bind_eq_some_iff.mp H
               obtain ⟨⟨tq0, tq1⟩, Aq0, H⟩ := H
               replace H : ((erasureref14_name.f kj10 tq0).bind fun btq0 => ((erasureref14_whole.f 2 btq0.1 tq1 btq0.2).bind fun btq1 => (some (btq1.1, btq1.2.1, btq1.2.2.1, btq1.2.2.2.1, btq1.2.2.2.2.1, btq1.2.2.2.2.2)))) = some (r1, r2, r3, r4, r5, r6) := H
               have Aq1 := Aside0.mk Aq0
               clear Aq0
               replace H := Option.bind_eq_some_iff.mp H
               obtain ⟨⟨tq2, tq3⟩, Aq2, H⟩ := H
               replace H : ((erasureref14_whole.f 2 tq2 tq1 tq3).bind fun btq1 => (some (btq1.1, btq1.2.1, btq1.2.2.1, btq1.2.2.2.1, btq1.2.2.2.2.1, btq1.2.2.2.2.2))) = some (r1, r2, r3, r4, r5, r6) := H
               have Aq3 := Aside0.mk Aq2
               clear Aq2
               replace H := Option.bind_eq_some_iff.mp H
               obtain ⟨⟨tq4, tq5, tq6, tq7, tq8, tq9⟩, Aq4, H⟩ := H
               replace H : (some (tq4, tq5, tq6, tq7, tq8, tq9)) = some (r1, r2, r3, r4, r5, r6) := H
               have Aq5 := Aside0.mk Aq4
               clear Aq4
               simp only [Option.some.injEq, Prod.mk.injEq] at H
               obtain ⟨rfl, rfl, rfl, rfl, rfl, rfl⟩ := H
               have p219 : 0 ≤ (t216 : Int) := of_decide_eq_true (by first | (with_reducible assumption) | assumption)
               have q219 : t216 < (l0.length : Int) := of_decide_eq_true (by first | (with_reducible assumption) | assumption)
               obtain ⟨ad219, e219, hx219_0⟩ := Kd.at_int HR0.out t216 p219 q219
               cases e219
               replace hx219_0 := (HB.out.cell (World.block_lt_of_cell? w _ hx219_0)).trans hx219_0
               replace p219 := eq_true p219
               replace q219 := eq_true q219
               go_wp2_with (first | (go_at_call 23; (with_reducible refine (erasureref14_row.calls kj10 _ _ l0 (wrap64 (t216 + 1)) tq0 tq1 _ ?side1 ?side2 Aq1.out).mono ?_); (case side1 => repeat (first | exact (Kd.C_below HR0.out HB.out) | (with_reducible refine Kd.C_alloc ?_ _) | (with_reducible refine Kd.C_drewN ?_ _) | (with_reducible refine Kd.C_drew ?_))); (case side2 => exact HC0.out); rintro e w' ⟨rfl, ⟨nd, rfl⟩⟩; (try exact dd_)) | (go_at_call 24; (with_reducible refine (erasureref14_name.calls kj10 tq0 tq2 tq3 _ Aq3.out).mono ?_); rintro e wq0 ⟨rfl, hb⟩; have n0_ := Aside0.mk (blk_below (bkk BK215.out) hb); have n1_ := Aside0.mk (below_step bel hb); clear BK215; clear HB; have BK215 := n0_; have HB := n1_; clear n0_ n1_; (try clear hb); (try clear hb2); (try clear hk); (try clear hi)) | (go_at_call 21; (with_reducible refine (erasureref14_whole.calls 2 tq2 tq1 tq3 tq4 tq5 tq6 tq7 tq8 tq9 _ Aq5.out).mono ?_); rintro e wq1 ⟨rfl, hb⟩; have n0_ := Aside0.mk (blk_below (bkk BK215.out) hb); have n1_ := Aside0.mk (below_step bel hb); clear BK215; clear HB; have BK215 := n0_; have HB := n1_; clear n0_ n1_; (try clear hb); (try clear hb2); (try clear hk); (try clear hi); have hczq0 : wq1.cell? ⟨gb215, 0, none⟩ = some (.int .i64 0) := (blk_cell BK215.out 0).trans rfl; have hczq1 : wq1.cell? ⟨gb215, 1, none⟩ = some (.int .i64 0) := (blk_cell BK215.out 1).trans rfl; have hczq2 : wq1.cell? ⟨gb215, 2, none⟩ = some (.int .i64 0) := (blk_cell BK215.out 2).trans rfl; have hczq3 : wq1.cell? ⟨gb215, 3, none⟩ = some (.string (⟨#[]⟩ : ByteArray)) := (blk_cell BK215.out 3).trans rfl; have hfzq0 := blk_frozen BK215.out 0; have hfzq1 := blk_frozen BK215.out 1; have hfzq2 := blk_frozen BK215.out 2; have hfzq3 := blk_frozen BK215.out 3))
               repeat (go_quiet (first | (go_at_call 23; (with_reducible refine (erasureref14_row.calls kj10 _ _ l0 (wrap64 (t216 + 1)) tq0 tq1 _ ?side1 ?side2 Aq1.out).mono ?_); (case side1 => repeat (first | exact (Kd.C_below HR0.out HB.out) | (with_reducible refine Kd.C_alloc ?_ _) | (with_reducible refine Kd.C_drewN ?_ _) | (with_reducible refine Kd.C_drew ?_))); (case side2 => exact HC0.out); rintro e w' ⟨rfl, ⟨nd, rfl⟩⟩; (try exact dd_)) | (go_at_call 24; (with_reducible refine (erasureref14_name.calls kj10 tq0 tq2 tq3 _ Aq3.out).mono ?_); rintro e wq0 ⟨rfl, hb⟩; have n0_ := Aside0.mk (blk_below (bkk BK215.out) hb); have n1_ := Aside0.mk (below_step bel hb); clear BK215; clear HB; have BK215 := n0_; have HB := n1_; clear n0_ n1_; (try clear hb); (try clear hb2); (try clear hk); (try clear hi)) | (go_at_call 21; (with_reducible refine (erasureref14_whole.calls 2 tq2 tq1 tq3 tq4 tq5 tq6 tq7 tq8 tq9 _ Aq5.out).mono ?_); rintro e wq1 ⟨rfl, hb⟩; have n0_ := Aside0.mk (blk_below (bkk BK215.out) hb); have n1_ := Aside0.mk (below_step bel hb); clear BK215; clear HB; have BK215 := n0_; have HB := n1_; clear n0_ n1_; (try clear hb); (try clear hb2); (try clear hk); (try clear hi); have hczq0 : wq1.cell? ⟨gb215, 0, none⟩ = some (.int .i64 0) := (blk_cell BK215.out 0).trans rfl; have hczq1 : wq1.cell? ⟨gb215, 1, none⟩ = some (.int .i64 0) := (blk_cell BK215.out 1).trans rfl; have hczq2 : wq1.cell? ⟨gb215, 2, none⟩ = some (.int .i64 0) := (blk_cell BK215.out 2).trans rfl; have hczq3 : wq1.cell? ⟨gb215, 3, none⟩ = some (.string (⟨#[]⟩ : ByteArray)) := (blk_cell BK215.out 3).trans rfl; have hfzq0 := blk_frozen BK215.out 0; have hfzq1 := blk_frozen BK215.out 1; have hfzq2 := blk_frozen BK215.out 2; have hfzq3 := blk_frozen BK215.out 3)); try go_wp2_with (first | (go_at_call 23; (with_reducible refine (erasureref14_row.calls kj10 _ _ l0 (wrap64 (t216 + 1)) tq0 tq1 _ ?side1 ?side2 Aq1.out).mono ?_); (case side1 => repeat (first | exact (Kd.C_below HR0.out HB.out) | (with_reducible refine Kd.C_alloc ?_ _) | (with_reducible refine Kd.C_drewN ?_ _) | (with_reducible refine Kd.C_drew ?_))); (case side2 => exact HC0.out); rintro e w' ⟨rfl, ⟨nd, rfl⟩⟩; (try exact dd_)) | (go_at_call 24; (with_reducible refine (erasureref14_name.calls kj10 tq0 tq2 tq3 _ Aq3.out).mono ?_); rintro e wq0 ⟨rfl, hb⟩; have n0_ := Aside0.mk (blk_below (bkk BK215.out) hb); have n1_ := Aside0.mk (below_step bel hb); clear BK215; clear HB; have BK215 := n0_; have HB := n1_; clear n0_ n1_; (try clear hb); (try clear hb2); (try clear hk); (try clear hi)) | (go_at_call 21; (with_reducible refine (erasureref14_whole.calls 2 tq2 tq1 tq3 tq4 tq5 tq6 tq7 tq8 tq9 _ Aq5.out).mono ?_); rintro e wq1 ⟨rfl, hb⟩; have n0_ := Aside0.mk (blk_below (bkk BK215.out) hb); have n1_ := Aside0.mk (below_step bel hb); clear BK215; clear HB; have BK215 := n0_; have HB := n1_; clear n0_ n1_; (try clear hb); (try clear hb2); (try clear hk); (try clear hi); have hczq0 : wq1.cell? ⟨gb215, 0, none⟩ = some (.int .i64 0) := (blk_cell BK215.out 0).trans rfl; have hczq1 : wq1.cell? ⟨gb215, 1, none⟩ = some (.int .i64 0) := (blk_cell BK215.out 1).trans rfl; have hczq2 : wq1.cell? ⟨gb215, 2, none⟩ = some (.int .i64 0) := (blk_cell BK215.out 2).trans rfl; have hczq3 : wq1.cell? ⟨gb215, 3, none⟩ = some (.string (⟨#[]⟩ : ByteArray)) := (blk_cell BK215.out 3).trans rfl; have hfzq0 := blk_frozen BK215.out 0; have hfzq1 := blk_frozen BK215.out 1; have hfzq2 := blk_frozen BK215.out 2; have hfzq3 := blk_frozen BK215.out 3)))
               refine bodyPost_ret (results_ctt rfl _ _ gb215 27 #[.int .i64 tq4, .int .i64 tq5, .int .i64 tq6, .string tq7] (0, 0) _ rfl (by (with_reducible repeat (first | refine blk_drewN ?_ _ | refine blk_drew ?_ | refine blk_alloc ?_ _)); refine blk_put (cs := #[.int .i64 tq4, .int .i64 tq5, .int .i64 tq6, .string (⟨#[]⟩ : ByteArray)]) ?_ 3 _ rfl; (with_reducible repeat (first | refine blk_drewN ?_ _ | refine blk_drew ?_ | refine blk_alloc ?_ _)); refine blk_put (cs := #[.int .i64 tq4, .int .i64 tq5, .int .i64 0, .string (⟨#[]⟩ : ByteArray)]) ?_ 2 _ rfl; (with_reducible repeat (first | refine blk_drewN ?_ _ | refine blk_drew ?_ | refine blk_alloc ?_ _)); refine blk_put (cs := #[.int .i64 tq4, .int .i64 0, .int .i64 0, .string (⟨#[]⟩ : ByteArray)]) ?_ 1 _ rfl; (with_reducible repeat (first | refine blk_drewN ?_ _ | refine blk_drew ?_ | refine blk_alloc ?_ _)); refine blk_put (cs := #[.int .i64 0, .int .i64 0, .int .i64 0, .string (⟨#[]⟩ : ByteArray)]) ?_ 0 _ rfl; (with_reducible repeat (first | refine blk_drewN ?_ _ | refine blk_drew ?_ | refine blk_alloc ?_ _)); exact BK215.out) Tryd.underlying27 rfl (by kernel_rfl)) rfl ?_
               exact ⟨ee_, bel⟩
              ·rw [if_neg c41] at H
               have c41b0 : ((rd l0 t216) == 47) = false := beq_eq_false_iff_ne.mpr c41
               have c41b1 : ((rd l0 t216) != 47) = true := bne_iff_ne.mpr c41
               replace H := Option.bind_eq_some_iff.mp H
               obtain ⟨t249, A480, H⟩ := H
               replace H : (if t249 = true then (some (0, 0, 0, (⟨#[]⟩ : ByteArray), 0, 4)) else ((erasureref14_row.f kj10 l0 t216).bind fun bt250 => ((erasureref01_Parse.f kj10 bt250.1).bind fun bt252 => (if bt252.2.2 = 0 then (some (1, bt252.1, bt252.2.1, (⟨#[]⟩ : ByteArray), bt250.2, 0)) else (if bt252.2.2 = 5 then (some (0, 0, 0, (⟨#[]⟩ : ByteArray), 0, bt252.2.2)) else (if (bt250.1.size : Int) > 127 then (some (0, 0, 0, (⟨#[]⟩ : ByteArray), 0, 2)) else (some (4, 0, 0, bt250.1, bt250.2, 0)))))))) = some (r1, r2, r3, r4, r5, r6) := H
               have A48 := Aside0.mk A480
               clear A480
               by_cases c49 : t249 = true
               ·subst c49
                have H1 : (some (0, 0, 0, (⟨#[]⟩ : ByteArray), 0, 4)) = some (r1, r2, r3, r4, r5, r6) := by rw [if_pos rfl] at H; exact H
                clear H
                have H := H1
                clear H1
                simp only [Option.some.injEq, Prod.mk.injEq] at H
                obtain ⟨rfl, rfl, rfl, rfl, rfl, rfl⟩ := H
                have p219 : 0 ≤ (t216 : Int) := of_decide_eq_true (by first | (with_reducible assumption) | assumption)
                have q219 : t216 < (l0.length : Int) := of_decide_eq_true (by first | (with_reducible assumption) | assumption)
                obtain ⟨ad219, e219, hx219_0⟩ := Kd.at_int HR0.out t216 p219 q219
                cases e219
                replace hx219_0 := (HB.out.cell (World.block_lt_of_cell? w _ hx219_0)).trans hx219_0
                replace p219 := eq_true p219
                replace q219 := eq_true q219
                have p248 : 0 ≤ (t216 : Int) := of_decide_eq_true (by first | (with_reducible assumption) | assumption)
                have q248 : t216 < (l0.length : Int) := of_decide_eq_true (by first | (with_reducible assumption) | assumption)
                obtain ⟨ad248, e248, hx248_0⟩ := Kd.at_int HR0.out t216 p248 q248
                obtain rfl : ad219 = ad248 := (by injection e248)
                replace hx248_0 := (HB.out.cell (World.block_lt_of_cell? w _ hx248_0)).trans hx248_0
                replace p248 := eq_true p248
                replace q248 := eq_true q248
                go_wp2_with (first | (go_at_call 25; (with_reducible refine (erasureref14_mark.calls (rd l0 t216) true _ A48.out).mono ?_); rintro e w' ⟨rfl, ⟨nd, rfl⟩⟩; (try exact dd_); have hczq0 : wc.cell? ⟨gb215, 0, none⟩ = some (.int .i64 0) := (blk_cell BK215.out 0).trans rfl; have hczq1 : wc.cell? ⟨gb215, 1, none⟩ = some (.int .i64 0) := (blk_cell BK215.out 1).trans rfl; have hczq2 : wc.cell? ⟨gb215, 2, none⟩ = some (.int .i64 0) := (blk_cell BK215.out 2).trans rfl; have hczq3 : wc.cell? ⟨gb215, 3, none⟩ = some (.string (⟨#[]⟩ : ByteArray)) := (blk_cell BK215.out 3).trans rfl; have hfzq0 := blk_frozen BK215.out 0; have hfzq1 := blk_frozen BK215.out 1; have hfzq2 := blk_frozen BK215.out 2; have hfzq3 := blk_frozen BK215.out 3))
                repeat (go_quiet (first | (go_at_call 25; (with_reducible refine (erasureref14_mark.calls (rd l0 t216) true _ A48.out).mono ?_); rintro e w' ⟨rfl, ⟨nd, rfl⟩⟩; (try exact dd_); have hczq0 : wc.cell? ⟨gb215, 0, none⟩ = some (.int .i64 0) := (blk_cell BK215.out 0).trans rfl; have hczq1 : wc.cell? ⟨gb215, 1, none⟩ = some (.int .i64 0) := (blk_cell BK215.out 1).trans rfl; have hczq2 : wc.cell? ⟨gb215, 2, none⟩ = some (.int .i64 0) := (blk_cell BK215.out 2).trans rfl; have hczq3 : wc.cell? ⟨gb215, 3, none⟩ = some (.string (⟨#[]⟩ : ByteArray)) := (blk_cell BK215.out 3).trans rfl; have hfzq0 := blk_frozen BK215.out 0; have hfzq1 := blk_frozen BK215.out 1; have hfzq2 := blk_frozen BK215.out 2; have hfzq3 := blk_frozen BK215.out 3)); try go_wp2_with (first | (go_at_call 25; (with_reducible refine (erasureref14_mark.calls (rd l0 t216) true _ A48.out).mono ?_); rintro e w' ⟨rfl, ⟨nd, rfl⟩⟩; (try exact dd_); have hczq0 : wc.cell? ⟨gb215, 0, none⟩ = some (.int .i64 0) := (blk_cell BK215.out 0).trans rfl; have hczq1 : wc.cell? ⟨gb215, 1, none⟩ = some (.int .i64 0) := (blk_cell BK215.out 1).trans rfl; have hczq2 : wc.cell? ⟨gb215, 2, none⟩ = some (.int .i64 0) := (blk_cell BK215.out 2).trans rfl; have hczq3 : wc.cell? ⟨gb215, 3, none⟩ = some (.string (⟨#[]⟩ : ByteArray)) := (blk_cell BK215.out 3).trans rfl; have hfzq0 := blk_frozen BK215.out 0; have hfzq1 := blk_frozen BK215.out 1; have hfzq2 := blk_frozen BK215.out 2; have hfzq3 := blk_frozen BK215.out 3)))
                refine bodyPost_ret (results_ctt rfl _ _ gb215 27 #[.int .i64 0, .int .i64 0, .int .i64 0, .string (⟨#[]⟩ : ByteArray)] (0, 0) _ rfl (by (with_reducible repeat (first | refine blk_drewN ?_ _ | refine blk_drew ?_ | refine blk_alloc ?_ _)); refine blk_put (cs := #[.int .i64 0, .int .i64 0, .int .i64 0, .string (⟨#[]⟩ : ByteArray)]) ?_ 3 _ rfl; (with_reducible repeat (first | refine blk_drewN ?_ _ | refine blk_drew ?_ | refine blk_alloc ?_ _)); refine blk_put (cs := #[.int .i64 0, .int .i64 0, .int .i64 0, .string (⟨#[]⟩ : ByteArray)]) ?_ 2 _ rfl; (with_reducible repeat (first | refine blk_drewN ?_ _ | refine blk_drew ?_ | refine blk_alloc ?_ _)); refine blk_put (cs := #[.int .i64 0, .int .i64 0, .int .i64 0, .string (⟨#[]⟩ : ByteArray)]) ?_ 1 _ rfl; (with_reducible repeat (first | refine blk_drewN ?_ _ | refine blk_drew ?_ | refine blk_alloc ?_ _)); refine blk_put (cs := #[.int .i64 0, .int .i64 0, .int .i64 0, .string (⟨#[]⟩ : ByteArray)]) ?_ 0 _ rfl; (with_reducible repeat (first | refine blk_drewN ?_ _ | refine blk_drew ?_ | refine blk_alloc ?_ _)); exact BK215.out) Tryd.underlying27 rfl (by kernel_rfl)) rfl ?_
                exact ⟨ee_, bel⟩
               ·replace c49 := Bool.eq_false_iff.mpr c49
                subst c49
                have H1 : ((erasureref14_row.f kj10 l0 t216).bind fun bt250 => ((erasureref01_Parse.f kj10 bt250.1).bind fun bt252 => (if bt252.2.2 = 0 then (some (1, bt252.1, bt252.2.1, (⟨#[]⟩ : ByteArray), bt250.2, 0)) else (if bt252.2.2 = 5 then (some (0, 0, 0, (⟨#[]⟩ : ByteArray), 0, bt252.2.2)) else (if (bt250.1.size : Int) > 127 then (some (0, 0, 0, (⟨#[]⟩ : ByteArray), 0, 2)) else (some (4, 0, 0, bt250.1, bt250.2, 0))))))) = some (r1, r2, r3, r4, r5, r6) := by rw [if_neg (show ¬ (false = true) by decide)] at H; exact H
                clear H
                have H := H1
                clear H1
                replace H := Option.bind_eq_some_iff.mp H
                obtain ⟨⟨t250, t251⟩, A510, H⟩ := H
                replace H : ((erasureref01_Parse.f kj10 t250).bind fun bt252 => (if bt252.2.2 = 0 then (some (1, bt252.1, bt252.2.1, (⟨#[]⟩ : ByteArray), t251, 0)) else (if bt252.2.2 = 5 then (some (0, 0, 0, (⟨#[]⟩ : ByteArray), 0, bt252.2.2)) else (if (t250.size : Int) > 127 then (some (0, 0, 0, (⟨#[]⟩ : ByteArray), 0, 2)) else (some (4, 0, 0, t250, t251, 0)))))) = some (r1, r2, r3, r4, r5, r6) := H
                have A51 := Aside0.mk A510
                clear A510
                replace H := Option.bind_eq_some_iff.mp H
                obtain ⟨⟨t252, t253, t254⟩, A520, H⟩ := H
                replace H : (if t254 = 0 then (some (1, t252, t253, (⟨#[]⟩ : ByteArray), t251, 0)) else (if t254 = 5 then (some (0, 0, 0, (⟨#[]⟩ : ByteArray), 0, t254)) else (if (t250.size : Int) > 127 then (some (0, 0, 0, (⟨#[]⟩ : ByteArray), 0, 2)) else (some (4, 0, 0, t250, t251, 0))))) = some (r1, r2, r3, r4, r5, r6) := H
                have A52 := Aside0.mk A520
                clear A520
                by_cases c53 : t254 = 0
                ·rw [if_pos c53] at H
                 have c53b0 : (t254 == 0) = true := beq_iff_eq.mpr c53
                 have c53b1 : (t254 != 0) = false := bne_eq_false_iff_eq.mpr c53
                 clear c53
                 simp only [Option.some.injEq, Prod.mk.injEq] at H
                 obtain ⟨rfl, rfl, rfl, rfl, rfl, rfl⟩ := H
                 have p219 : 0 ≤ (t216 : Int) := of_decide_eq_true (by first | (with_reducible assumption) | assumption)
                 have q219 : t216 < (l0.length : Int) := of_decide_eq_true (by first | (with_reducible assumption) | assumption)
                 obtain ⟨ad219, e219, hx219_0⟩ := Kd.at_int HR0.out t216 p219 q219
                 cases e219
                 replace hx219_0 := (HB.out.cell (World.block_lt_of_cell? w _ hx219_0)).trans hx219_0
                 replace p219 := eq_true p219
                 replace q219 := eq_true q219
                 have p248 : 0 ≤ (t216 : Int) := of_decide_eq_true (by first | (with_reducible assumption) | assumption)
                 have q248 : t216 < (l0.length : Int) := of_decide_eq_true (by first | (with_reducible assumption) | assumption)
                 obtain ⟨ad248, e248, hx248_0⟩ := Kd.at_int HR0.out t216 p248 q248
                 obtain rfl : ad219 = ad248 := (by injection e248)
                 replace hx248_0 := (HB.out.cell (World.block_lt_of_cell? w _ hx248_0)).trans hx248_0
                 replace p248 := eq_true p248
                 replace q248 := eq_true q248
                 exact lf_L8_2
                ·rw [if_neg c53] at H
                 have c53b0 : (t254 == 0) = false := beq_eq_false_iff_ne.mpr c53
                 have c53b1 : (t254 != 0) = true := bne_iff_ne.mpr c53
                 by_cases c59 : t254 = 5
                 ·rw [if_pos c59] at H
                  have c59b0 : (t254 == 5) = true := beq_iff_eq.mpr c59
                  have c59b1 : (t254 != 5) = false := bne_eq_false_iff_eq.mpr c59
                  clear c59
                  simp only [Option.some.injEq, Prod.mk.injEq] at H
                  obtain ⟨rfl, rfl, rfl, rfl, rfl, rfl⟩ := H
                  have p219 : 0 ≤ (t216 : Int) := of_decide_eq_true (by first | (with_reducible assumption) | assumption)
                  have q219 : t216 < (l0.length : Int) := of_decide_eq_true (by first | (with_reducible assumption) | assumption)
                  obtain ⟨ad219, e219, hx219_0⟩ := Kd.at_int HR0.out t216 p219 q219
                  cases e219
                  replace hx219_0 := (HB.out.cell (World.block_lt_of_cell? w _ hx219_0)).trans hx219_0
                  replace p219 := eq_true p219
                  replace q219 := eq_true q219
                  have p248 : 0 ≤ (t216 : Int) := of_decide_eq_true (by first | (with_reducible assumption) | assumption)
                  have q248 : t216 < (l0.length : Int) := of_decide_eq_true (by first | (with_reducible assumption) | assumption)
                  obtain ⟨ad248, e248, hx248_0⟩ := Kd.at_int HR0.out t216 p248 q248
                  obtain rfl : ad219 = ad248 := (by injection e248)
                  replace hx248_0 := (HB.out.cell (World.block_lt_of_cell? w _ hx248_0)).trans hx248_0
                  replace p248 := eq_true p248
                  replace q248 := eq_true q248
                  exact lf_L8_2
                 ·rw [if_neg c59] at H
                  have c59b0 : (t254 == 5) = false := beq_eq_false_iff_ne.mpr c59
                  have c59b1 : (t254 != 5) = true := bne_iff_ne.mpr c59
                  by_cases c65 : (t250.size : Int) > 127
                  ·rw [if_pos c65] at H
                   have c65b0 : decide (127 < (t250.size : Int)) = true := decide_eq_true c65
                   have c65b1 : decide (127 < t250.size) = true := decide_eq_true (by omega)
                   clear c65
                   simp only [Option.some.injEq, Prod.mk.injEq] at H
                   obtain ⟨rfl, rfl, rfl, rfl, rfl, rfl⟩ := H
                   have p219 : 0 ≤ (t216 : Int) := of_decide_eq_true (by first | (with_reducible assumption) | assumption)
                   have q219 : t216 < (l0.length : Int) := of_decide_eq_true (by first | (with_reducible assumption) | assumption)
                   obtain ⟨ad219, e219, hx219_0⟩ := Kd.at_int HR0.out t216 p219 q219
                   cases e219
                   replace hx219_0 := (HB.out.cell (World.block_lt_of_cell? w _ hx219_0)).trans hx219_0
                   replace p219 := eq_true p219
                   replace q219 := eq_true q219
                   have p248 : 0 ≤ (t216 : Int) := of_decide_eq_true (by first | (with_reducible assumption) | assumption)
                   have q248 : t216 < (l0.length : Int) := of_decide_eq_true (by first | (with_reducible assumption) | assumption)
                   obtain ⟨ad248, e248, hx248_0⟩ := Kd.at_int HR0.out t216 p248 q248
                   obtain rfl : ad219 = ad248 := (by injection e248)
                   replace hx248_0 := (HB.out.cell (World.block_lt_of_cell? w _ hx248_0)).trans hx248_0
                   replace p248 := eq_true p248
                   replace q248 := eq_true q248
                   exact lf_L8_2
                  ·rw [if_neg c65] at H
                   have c65b0 : decide (127 < (t250.size : Int)) = false := decide_eq_false c65
                   have c65b1 : decide (127 < t250.size) = false := decide_eq_false (by omega)
                   clear c65
                   simp only [Option.some.injEq, Prod.mk.injEq] at H
                   obtain ⟨rfl, rfl, rfl, rfl, rfl, rfl⟩ := H
                   have p219 : 0 ≤ (t216 : Int) := of_decide_eq_true (by first | (with_reducible assumption) | assumption)
                   have q219 : t216 < (l0.length : Int) := of_decide_eq_true (by first | (with_reducible assumption) | assumption)
                   obtain ⟨ad219, e219, hx219_0⟩ := Kd.at_int HR0.out t216 p219 q219
                   cases e219
                   replace hx219_0 := (HB.out.cell (World.block_lt_of_cell? w _ hx219_0)).trans hx219_0
                   replace p219 := eq_true p219
                   replace q219 := eq_true q219
                   have p248 : 0 ≤ (t216 : Int) := of_decide_eq_true (by first | (with_reducible assumption) | assumption)
                   have q248 : t216 < (l0.length : Int) := of_decide_eq_true (by first | (with_reducible assumption) | assumption)
                   obtain ⟨ad248, e248, hx248_0⟩ := Kd.at_int HR0.out t216 p248 q248
                   obtain rfl : ad219 = ad248 := (by injection e248)
                   replace hx248_0 := (HB.out.cell (World.block_lt_of_cell? w _ hx248_0)).trans hx248_0
                   replace p248 := eq_true p248
                   replace q248 := eq_true q248
                   exact lf_L8_2
        ·rw [if_neg c18] at H
         exact absurd H (by simp)
       ·rw [if_neg c17] at H
        exact absurd H (by simp)
end Go.Proofs.YtnhgnejfagncpaaDoor.L
end
section
namespace Go.Proofs.YtnhgnejfagncpaaDoor.E
open Go.RowKit Go.Proofs.YtnhgnejfagncpaaDoorW.PrintWords Go.Proofs.YtnhgnejfagncpaaDoorW.PrintLast Go.Proofs.YtnhgnejfagncpaaDoorW.PrintMore Go.Proofs.YtnhgnejfagncpaaDoor.H Go.Proofs.YtnhgnejfagncpaaDoor.A Go.Proofs.YtnhgnejfagncpaaDoor.B
attribute [local go_sem] max2_int min2_int max_two min_two max_three min_three max_four min_four   -- for this text's walks alone
set_option linter.unusedVariables false
set_option linter.unusedSimpArgs false
end Go.Proofs.YtnhgnejfagncpaaDoor.E
end
section
namespace Go.Proofs.YtnhgnejfagncpaaDoor.L
open Go.RowKit Go.Proofs.YtnhgnejfagncpaaDoorW.PrintWords Go.Proofs.YtnhgnejfagncpaaDoorW.PrintLast Go.Proofs.YtnhgnejfagncpaaDoorW.PrintMore Go.Proofs.YtnhgnejfagncpaaDoor.H Go.Proofs.YtnhgnejfagncpaaDoor.A Go.Proofs.YtnhgnejfagncpaaDoor.B Go.Proofs.YtnhgnejfagncpaaDoor.E
attribute [local go_sem] max2_int min2_int max_two min_two max_three min_three max_four min_four   -- for this text's walks alone
set_option linter.unusedVariables false
set_option linter.unusedSimpArgs false
attribute [local go_sem high] eqA25
end Go.Proofs.YtnhgnejfagncpaaDoor.L
end
section
namespace Go.Proofs.YtnhgnejfagncpaaDoor.L
open Go.RowKit Go.Proofs.YtnhgnejfagncpaaDoorW.PrintWords Go.Proofs.YtnhgnejfagncpaaDoorW.PrintLast Go.Proofs.YtnhgnejfagncpaaDoorW.PrintMore Go.Proofs.YtnhgnejfagncpaaDoor.H Go.Proofs.YtnhgnejfagncpaaDoor.A Go.Proofs.YtnhgnejfagncpaaDoor.B Go.Proofs.YtnhgnejfagncpaaDoor.E
attribute [local go_sem] max2_int min2_int max_two min_two max_three min_three max_four min_four   -- for this text's walks alone
set_option linter.unusedVariables false
set_option linter.unusedSimpArgs false
def erasureref04_Own.f (l0 : List Int) : Option (List Int) := if ([] : List Int).length + l0.length < 140737488355328 then (some (([] : List Int) ++ l0)) else (none)
set_option maxHeartbeats 8000000 in
set_option maxRecDepth 100000 in
theorem erasureref04_Own.calls (A0 : Option Addr) (c0 : Nat) (l0 : List Int) (r : List Int) (w : World) (hr0 : Kd.C (Kd.int .u8) w A0 l0.length l0) (hc0 : l0.length ≤ c0) (h : erasureref04_Own.f l0 = some r) :
  Calls Tryd.prog 9 #[.slice A0 l0.length c0] w fun e w' => ∃ v0_ : Value, e = .returned (v0_) ∧ Kd.R (Kd.int .u8) 5 w' w.heap.size (fun _ => True) v0_ r ∧ Below w.heap.size w w' := by
 have HR0 := Aside0.mk hr0
 have HC0 := Aside0.mk hc0
 clear hr0 hc0
 have HB := Aside0.mk (Below.refl w.heap.size w)
 have H : (if ([] : List Int).length + l0.length < 140737488355328 then (some (([] : List Int) ++ l0)) else (none)) = some r := h
 clear h
 by_cases c2 : ([] : List Int).length + l0.length < 140737488355328
 ·rw [if_pos c2] at H
  have LMcq0 := Aside0.mk c2
  clear c2
  obtain ⟨yq0, hy302⟩ : ∃ y_ : List Int, y_ = (([] : List Int) ++ l0) := ⟨_, rfl⟩
  replace H : (some yq0) = some r := by first | (rw [hy302]; with_reducible exact H) | (have H2_ := (Option.bind_some _ _).symm.trans H; rw [hy302]; with_reducible exact H2_) | (have H2_ := (Option.bind_some _ _).symm.trans H; with_reducible exact H2_) | with_reducible exact H | (rw [hy302]; exact H) | exact H
  have Nyq0 := Aside0.mk hy302
  clear hy302
  obtain rfl := Option.some.inj H
  go_enter Tryd.func9, Tryd.ntmps9
  go_wp2_with (first | ((with_reducible refine gate_builtin (b := .append) (xs := #[.tmp 4, .tmp 5]) rfl ?_); at_builtin; refine Kd.R_append_rows (Kd.int .u8) (w0 := w) w.heap.size rfl (.tmp 4) (.tmp 5) 22 5 (.int .u8 0) 1 rfl Tryd.underlying22 info5 rfl (by decide) (by omega) (.slice none 0 0) ([] : List Int) l0 _ _ _ (fun _ => True) (fun _ => False) rfl rfl ?aO ?aR (fun _ _ h => h) (fun _ h => h.elim) ?aF ?aB ?aS ?aL ?_; (case aR => repeat (first | exact HR0.out | (with_reducible refine Kd.C_alloc ?_ _) | (with_reducible refine Kd.C_drewN ?_ _) | (with_reducible refine Kd.C_drew ?_))); (case aB => exact bel); (case aF => exact (fun _ _ => trivial)); (case aO => exact ((Kd.R_nil _ _ _ _ (fun _ => True)))); (case aS => exact (below_size bel)); (case aL => have := LMcq0.out; omega); intro vq0 wq0 ho hb hg hat; rw [← Nyq0.out] at ho; have n0_ := Aside0.mk (hb); have n1_ := Aside0.mk (ho); clear HB; have HB := n0_; have HOq0 := n1_; clear n0_ n1_; clear ho hb hg hat))
  go_ret
  exact ⟨_, by first | rfl | (simp [errW_none, errW_some] <;> rfl) | (simp [*, errW_none, errW_some] <;> rfl), by (with_reducible repeat (first | apply Kd.R_alloc | apply Kd.R_drewN | apply Kd.R_drew)); exact HOq0.out, bel⟩
 ·rw [if_neg c2] at H
  exact absurd H (by simp)
end Go.Proofs.YtnhgnejfagncpaaDoor.L
end
