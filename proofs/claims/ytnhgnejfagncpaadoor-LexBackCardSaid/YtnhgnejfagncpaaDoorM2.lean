import Derived.Test.YtnhgnejfagncpaaDoorLot2
import Derived.Test.YtnhgnejfagncpaaDoorLot3
namespace Go.Proofs.YtnhgnejfagncpaaDoor.M
open Go.RowKit Go.Proofs.YtnhgnejfagncpaaDoorW.PrintWords Go.Proofs.YtnhgnejfagncpaaDoorW.PrintLast Go.Proofs.YtnhgnejfagncpaaDoorW.PrintMore Go.Proofs.YtnhgnejfagncpaaDoor.H Go.Proofs.YtnhgnejfagncpaaDoor.A Go.Proofs.YtnhgnejfagncpaaDoor.B Go.Proofs.YtnhgnejfagncpaaDoor.E Go.Proofs.YtnhgnejfagncpaaDoor.L
attribute [local go_sem] max2_int min2_int max_two min_two max_three min_three max_four min_four   -- for this text's walks alone
set_option linter.unusedVariables false
set_option linter.unusedSimpArgs false
def lex_reader_word.f (k : Nat) (s0_0 : List Int) (s0_1 : Int) : Option (Int × Int × Int × ByteArray × Int × Int) := (lex_reader_row.f k s0_0 s0_1).bind fun bt116 => ((dec_Parse.f k bt116.1).bind fun bt118 => (if bt118.2.2 = 0 then (some (1, bt118.1, bt118.2.1, (⟨#[]⟩ : ByteArray), bt118.2.2, bt116.2)) else (if bt118.2.2 = 5 then (some (0, 0, 0, (⟨#[]⟩ : ByteArray), bt118.2.2, bt116.2)) else (if (bt116.1.size : Int) > 127 then (some (0, 0, 0, (⟨#[]⟩ : ByteArray), 2, bt116.2)) else (some (4, 0, 0, bt116.1, 0, bt116.2))))))
theorem lf_M2_1 {p_ : Prop} (h_ : p_ := by
  go_wp2_with (first | ((with_reducible refine gate_dst (N := 2) rfl ?_); refine box_event ?hg (N := 2) ?hd (cs := #[.int .i64 0, .int .i64 0, .int .i64 0, .string (⟨#[]⟩ : ByteArray)]) (t := 27) ?hr ?_; (case hd => rfl); (case hg => rfl); (case hr => first | (go_simp; done) | (go_simp; rfl)); intro gb115 hg wq0 hbox hb; have n0_ := Aside0.mk (IsS44.below (isk44) hb); have n1_ := Aside0.mk (KeepBut.trans (by repeat (first | (with_reducible first | exact HK.out | apply KeepBut.set_ | apply keep_drewN | apply keep_drew | apply keep_alloc) | exact HK.out)) (KeepBut.of_below hb g none) (.inl rfl)); have n2_ := Aside0.mk (below_step (isb44) hb); have n3_ := Aside0.mk (hbox); have n4_ := Aside0.mk ((by rw [hg]; exact (keep_size (w := w) (g := g) (row := none) (by repeat (first | (with_reducible first | exact HK.out | apply KeepBut.set_ | apply keep_drewN | apply keep_drew | apply keep_alloc) | exact HK.out))) : w.heap.size ≤ gb115)); have n5_ := Aside0.mk ((Nat.le_trans HW0.out (by rw [hg]; exact (keep_size (w := w) (g := g) (row := none) (by repeat (first | (with_reducible first | exact HK.out | apply KeepBut.set_ | apply keep_drewN | apply keep_drew | apply keep_alloc) | exact HK.out))) : w.heap.size ≤ gb115) : w0.heap.size ≤ gb115)); have n6_ := Aside0.mk ((by rw [hg]; exact Nat.ne_of_lt (IsS44.lt (show IsS44 w0 _ g s0_0 s0_1 from isk44)) : g ≠ gb115)); have n7_ := Aside0.mk ((by rw [hg]; exact Nat.ne_of_gt (IsS44.lt (show IsS44 w0 _ g s0_0 s0_1 from isk44)) : gb115 ≠ g)); clear HI0; clear HK; clear HB; have HI0 := n0_; have HK := n1_; have HB := n2_; have BK115 := n3_; have GW115 := n4_; have GE115 := n5_; have NB0_115 := n6_; have NB115_0 := n7_; clear n0_ n1_ n2_ n3_ n4_ n5_ n6_ n7_; clear hb hbox hg) | ((with_reducible refine gate_callee (f := 52) rfl ?_); refine goesL_ (some 8) rfl rfl Tryd.func52 (by kernel_rfl) rfl #[.pointer (some ⟨g, 0, none⟩)] rfl gl_ ?_; (with_reducible refine (lex_reader_row.calls k g s0_0 s0_1 t116 t117 w0 _ ?side1 ?side2 A2.out).mono ?_); (case side1 => exact isk44); (case side2 => exact isb44); rintro e wq1 ⟨rfl, hi, hb, hk⟩; refine ⟨_, rfl, ?_⟩; have n0_ := Aside0.mk (KeepBut.blk hk (g' := gb115) (o := .cells #[.int .i64 0, .int .i64 0, .int .i64 0, .string (⟨#[]⟩ : ByteArray)] 27 (0, 0)) (bkk BK115.out) NB115_0.out (by simp)); have n1_ := Aside0.mk (KeepBut.trans (by repeat (first | (with_reducible first | exact HK.out | apply KeepBut.set_ | apply keep_drewN | apply keep_drew | apply keep_alloc | refine keep_far ?_ GW115.out _) | exact HK.out)) hk (.inl rfl)); have n2_ := Aside0.mk (hb); have n3_ := Aside0.mk (hi); clear BK115; clear HK; clear HB; clear HI0; have BK115 := n0_; have HK := n1_; have HB := n2_; have HI0 := n3_; clear n0_ n1_ n2_ n3_; (try clear hb); (try clear hb2); (try clear hk); (try clear hi)) | ((with_reducible refine gate_callee (f := 15) rfl ?_); refine goesL_ (some 11) rfl rfl Tryd.func15 (by kernel_rfl) rfl #[.string t116] rfl gl_ ?_; (with_reducible refine (dec_Parse.calls k t116 t118 t119 t120 _ A3.out).mono ?_); rintro e wq2 ⟨rfl, hb⟩; refine ⟨_, rfl, ?_⟩; have n0_ := Aside0.mk (IsS44.below (isk44) hb); have n1_ := Aside0.mk (blk_below (bkk BK115.out) hb); have n2_ := Aside0.mk (KeepBut.trans (by repeat (first | (with_reducible first | exact HK.out | apply KeepBut.set_ | apply keep_drewN | apply keep_drew | apply keep_alloc | refine keep_far ?_ GW115.out _) | exact HK.out)) (KeepBut.of_below hb g none) (.inl rfl)); have n3_ := Aside0.mk (below_step (isb44) hb); clear HI0; clear BK115; clear HK; clear HB; have HI0 := n0_; have BK115 := n1_; have HK := n2_; have HB := n3_; clear n0_ n1_ n2_ n3_; (try clear hb); (try clear hb2); (try clear hk); (try clear hi)) | ((with_reducible refine gate_dst (N := 5) rfl ?_); refine box_event ?hg (N := 5) ?hd (cs := #[.int .i64 0, .int .i64 0]) (t := 25) ?hr ?_; (case hd => rfl); (case hg => rfl); (case hr => first | (go_simp; done) | (go_simp; rfl)); intro gb121 hg wq3 hbox hb; have n0_ := Aside0.mk (IsS44.below (isk44) hb); have n1_ := Aside0.mk (blk_below (bkk BK115.out) hb); have n2_ := Aside0.mk (KeepBut.trans (by repeat (first | (with_reducible first | exact HK.out | apply KeepBut.set_ | apply keep_drewN | apply keep_drew | apply keep_alloc | refine keep_far ?_ GW115.out _) | exact HK.out)) (KeepBut.of_below hb g none) (.inl rfl)); have n3_ := Aside0.mk (below_step (isb44) hb); have n4_ := Aside0.mk (hbox); have n5_ := Aside0.mk ((by rw [hg]; exact (keep_size (w := w) (g := g) (row := none) (by repeat (first | (with_reducible first | exact HK.out | apply KeepBut.set_ | apply keep_drewN | apply keep_drew | apply keep_alloc | refine keep_far ?_ GW115.out _) | exact HK.out))) : w.heap.size ≤ gb121)); have n6_ := Aside0.mk ((Nat.le_trans HW0.out (by rw [hg]; exact (keep_size (w := w) (g := g) (row := none) (by repeat (first | (with_reducible first | exact HK.out | apply KeepBut.set_ | apply keep_drewN | apply keep_drew | apply keep_alloc | refine keep_far ?_ GW115.out _) | exact HK.out))) : w.heap.size ≤ gb121) : w0.heap.size ≤ gb121)); have n7_ := Aside0.mk ((by rw [hg]; exact Nat.ne_of_lt (blk_lt (bkk BK115.out)) : gb115 ≠ gb121)); have n8_ := Aside0.mk ((by rw [hg]; exact Nat.ne_of_gt (blk_lt (bkk BK115.out)) : gb121 ≠ gb115)); have n9_ := Aside0.mk ((by rw [hg]; exact Nat.ne_of_lt (IsS44.lt (show IsS44 w0 _ g s0_0 t117 from isk44)) : g ≠ gb121)); have n10_ := Aside0.mk ((by rw [hg]; exact Nat.ne_of_gt (IsS44.lt (show IsS44 w0 _ g s0_0 t117 from isk44)) : gb121 ≠ g)); clear HI0; clear BK115; clear HK; clear HB; have HI0 := n0_; have BK115 := n1_; have HK := n2_; have HB := n3_; have BK121 := n4_; have GW121 := n5_; have GE121 := n6_; have NB115_121 := n7_; have NB121_115 := n8_; have NB0_121 := n9_; have NB121_0 := n10_; clear n0_ n1_ n2_ n3_ n4_ n5_ n6_ n7_ n8_ n9_ n10_; clear hb hbox hg; have hnbq0 := NB121_115.out; have hncq0 := NB115_121.out; have hnbq1 := NB121_0.out; have hncq1 := NB0_121.out; have hczq0 : wq3.cell? ⟨gb121, 0, none⟩ = some (.int .i64 0) := (blk_cell BK121.out 0).trans rfl; have hczq1 : wq3.cell? ⟨gb121, 1, none⟩ = some (.int .i64 0) := (blk_cell BK121.out 1).trans rfl; have hfzq0 := blk_frozen BK121.out 0; have hfzq1 := blk_frozen BK121.out 1; have hnbq2 := NB115_0.out; have hncq2 := NB0_115.out; have hczq2 : wq3.cell? ⟨gb115, 0, none⟩ = some (.int .i64 0) := (blk_cell BK115.out 0).trans rfl; have hczq3 : wq3.cell? ⟨gb115, 1, none⟩ = some (.int .i64 0) := (blk_cell BK115.out 1).trans rfl; have hczq4 : wq3.cell? ⟨gb115, 2, none⟩ = some (.int .i64 0) := (blk_cell BK115.out 2).trans rfl; have hczq5 : wq3.cell? ⟨gb115, 3, none⟩ = some (.string (⟨#[]⟩ : ByteArray)) := (blk_cell BK115.out 3).trans rfl; have hfzq2 := blk_frozen BK115.out 0; have hfzq3 := blk_frozen BK115.out 1; have hfzq4 := blk_frozen BK115.out 2; have hfzq5 := blk_frozen BK115.out 3))
  first
    | (refine bodyPost_ret (results_ct rfl _ _ gb115 27 #[.int .i64 1, .int .i64 t118, .int .i64 t119, .string (⟨#[]⟩ : ByteArray)] (0, 0) _ rfl (by (with_reducible repeat (first | refine blk_drewN ?_ _ | refine blk_drew ?_ | refine blk_alloc ?_ _)); refine blk_put (cs := #[.int .i64 1, .int .i64 t118, .int .i64 t119, .string (⟨#[]⟩ : ByteArray)]) ?_ 3 _ rfl; (with_reducible repeat (first | refine blk_drewN ?_ _ | refine blk_drew ?_ | refine blk_alloc ?_ _)); refine blk_put (cs := #[.int .i64 1, .int .i64 t118, .int .i64 0, .string (⟨#[]⟩ : ByteArray)]) ?_ 2 _ rfl; (with_reducible repeat (first | refine blk_drewN ?_ _ | refine blk_drew ?_ | refine blk_alloc ?_ _)); refine blk_put (cs := #[.int .i64 1, .int .i64 0, .int .i64 0, .string (⟨#[]⟩ : ByteArray)]) ?_ 1 _ rfl; (with_reducible repeat (first | refine blk_drewN ?_ _ | refine blk_drew ?_ | refine blk_alloc ?_ _)); refine blk_put (cs := #[.int .i64 0, .int .i64 0, .int .i64 0, .string (⟨#[]⟩ : ByteArray)]) ?_ 0 _ rfl; (with_reducible repeat (first | refine blk_drewN ?_ _ | refine blk_drew ?_ | refine blk_alloc ?_ _)); refine blk_far ?_ NB115_121.out _; (with_reducible repeat (first | refine blk_drewN ?_ _ | refine blk_drew ?_ | refine blk_alloc ?_ _)); refine blk_far ?_ NB115_121.out _; (with_reducible repeat (first | refine blk_drewN ?_ _ | refine blk_drew ?_ | refine blk_alloc ?_ _)); exact BK115.out) Tryd.underlying27 rfl (by kernel_rfl)) rfl ?_; exact ⟨ee_, isk44, isb44, by repeat (first | (with_reducible first | exact HK.out | apply KeepBut.set_ | apply keep_drewN | apply keep_drew | apply keep_alloc | refine keep_far ?_ GW115.out _ | refine keep_far ?_ GW121.out _) | exact HK.out)⟩)
    | (refine bodyPost_ret (results_ct rfl _ _ gb115 27 #[.int .i64 0, .int .i64 0, .int .i64 0, .string (⟨#[]⟩ : ByteArray)] (0, 0) _ rfl (by (with_reducible repeat (first | refine blk_drewN ?_ _ | refine blk_drew ?_ | refine blk_alloc ?_ _)); refine blk_put (cs := #[.int .i64 0, .int .i64 0, .int .i64 0, .string (⟨#[]⟩ : ByteArray)]) ?_ 3 _ rfl; (with_reducible repeat (first | refine blk_drewN ?_ _ | refine blk_drew ?_ | refine blk_alloc ?_ _)); refine blk_put (cs := #[.int .i64 0, .int .i64 0, .int .i64 0, .string (⟨#[]⟩ : ByteArray)]) ?_ 2 _ rfl; (with_reducible repeat (first | refine blk_drewN ?_ _ | refine blk_drew ?_ | refine blk_alloc ?_ _)); refine blk_put (cs := #[.int .i64 0, .int .i64 0, .int .i64 0, .string (⟨#[]⟩ : ByteArray)]) ?_ 1 _ rfl; (with_reducible repeat (first | refine blk_drewN ?_ _ | refine blk_drew ?_ | refine blk_alloc ?_ _)); refine blk_put (cs := #[.int .i64 0, .int .i64 0, .int .i64 0, .string (⟨#[]⟩ : ByteArray)]) ?_ 0 _ rfl; (with_reducible repeat (first | refine blk_drewN ?_ _ | refine blk_drew ?_ | refine blk_alloc ?_ _)); refine blk_far ?_ NB115_121.out _; (with_reducible repeat (first | refine blk_drewN ?_ _ | refine blk_drew ?_ | refine blk_alloc ?_ _)); refine blk_far ?_ NB115_121.out _; (with_reducible repeat (first | refine blk_drewN ?_ _ | refine blk_drew ?_ | refine blk_alloc ?_ _)); exact BK115.out) Tryd.underlying27 rfl (by kernel_rfl)) rfl ?_; exact ⟨ee_, isk44, isb44, by repeat (first | (with_reducible first | exact HK.out | apply KeepBut.set_ | apply keep_drewN | apply keep_drew | apply keep_alloc | refine keep_far ?_ GW115.out _ | refine keep_far ?_ GW121.out _) | exact HK.out)⟩)
    | (refine bodyPost_ret (results_ct rfl _ _ gb115 27 #[.int .i64 4, .int .i64 0, .int .i64 0, .string t116] (0, 0) _ rfl (by (with_reducible repeat (first | refine blk_drewN ?_ _ | refine blk_drew ?_ | refine blk_alloc ?_ _)); refine blk_put (cs := #[.int .i64 4, .int .i64 0, .int .i64 0, .string (⟨#[]⟩ : ByteArray)]) ?_ 3 _ rfl; (with_reducible repeat (first | refine blk_drewN ?_ _ | refine blk_drew ?_ | refine blk_alloc ?_ _)); refine blk_put (cs := #[.int .i64 4, .int .i64 0, .int .i64 0, .string (⟨#[]⟩ : ByteArray)]) ?_ 2 _ rfl; (with_reducible repeat (first | refine blk_drewN ?_ _ | refine blk_drew ?_ | refine blk_alloc ?_ _)); refine blk_put (cs := #[.int .i64 4, .int .i64 0, .int .i64 0, .string (⟨#[]⟩ : ByteArray)]) ?_ 1 _ rfl; (with_reducible repeat (first | refine blk_drewN ?_ _ | refine blk_drew ?_ | refine blk_alloc ?_ _)); refine blk_put (cs := #[.int .i64 0, .int .i64 0, .int .i64 0, .string (⟨#[]⟩ : ByteArray)]) ?_ 0 _ rfl; (with_reducible repeat (first | refine blk_drewN ?_ _ | refine blk_drew ?_ | refine blk_alloc ?_ _)); refine blk_far ?_ NB115_121.out _; (with_reducible repeat (first | refine blk_drewN ?_ _ | refine blk_drew ?_ | refine blk_alloc ?_ _)); refine blk_far ?_ NB115_121.out _; (with_reducible repeat (first | refine blk_drewN ?_ _ | refine blk_drew ?_ | refine blk_alloc ?_ _)); exact BK115.out) Tryd.underlying27 rfl (by kernel_rfl)) rfl ?_; exact ⟨ee_, isk44, isb44, by repeat (first | (with_reducible first | exact HK.out | apply KeepBut.set_ | apply keep_drewN | apply keep_drew | apply keep_alloc | refine keep_far ?_ GW115.out _ | refine keep_far ?_ GW121.out _) | exact HK.out)⟩)) : p_ := h_
set_option maxHeartbeats 8000000 in
set_option maxRecDepth 100000 in
theorem lex_reader_word.calls (k : Nat) (g : Nat) (s0_0 : List Int) (s0_1 : Int) (r1 : Int) (r2 : Int) (r3 : Int) (r4 : ByteArray) (r5 : Int) (r6 : Int) (w0 w : World) (hI : IsS44 w0 w g s0_0 s0_1) (hB : Below w0.heap.size w0 w) (h : lex_reader_word.f k s0_0 s0_1 = some (r1, r2, r3, r4, r5, r6)) :
  Calls Tryd.prog 48 #[.pointer (some ⟨g, 0, none⟩)] w fun e w' => e = .returned (.tuple #[.agg #[.int .i64 r1, .int .i64 r2, .int .i64 r3, .string r4], .int .i64 r5]) ∧ IsS44 w0 w' g s0_0 r6 ∧ Below w0.heap.size w0 w' ∧ KeepBut w w' g none := by
 have hu27 := Tryd.underlying27
 have hu25 := Tryd.underlying25
 have HI0 := Aside0.mk hI
 have HK := Aside0.mk (KeepBut.refl w g none)
 have HL := Aside0.mk hB.size
 clear hI
 have HW0 := Aside0.mk hB.size
 have HB := Aside0.mk hB
 clear hB
 have H : ((lex_reader_row.f k s0_0 s0_1).bind fun bt116 => ((dec_Parse.f k bt116.1).bind fun bt118 => (if bt118.2.2 = 0 then (some (1, bt118.1, bt118.2.1, (⟨#[]⟩ : ByteArray), bt118.2.2, bt116.2)) else (if bt118.2.2 = 5 then (some (0, 0, 0, (⟨#[]⟩ : ByteArray), bt118.2.2, bt116.2)) else (if (bt116.1.size : Int) > 127 then (some (0, 0, 0, (⟨#[]⟩ : ByteArray), 2, bt116.2)) else (some (4, 0, 0, bt116.1, 0, bt116.2))))))) = some (r1, r2, r3, r4, r5, r6) := h
 clear h
 replace H := Option.bind_eq_some_iff.mp H
 obtain ⟨⟨t116, t117⟩, A20, H⟩ := H
 replace H : ((dec_Parse.f k t116).bind fun bt118 => (if bt118.2.2 = 0 then (some (1, bt118.1, bt118.2.1, (⟨#[]⟩ : ByteArray), bt118.2.2, t117)) else (if bt118.2.2 = 5 then (some (0, 0, 0, (⟨#[]⟩ : ByteArray), bt118.2.2, t117)) else (if (t116.size : Int) > 127 then (some (0, 0, 0, (⟨#[]⟩ : ByteArray), 2, t117)) else (some (4, 0, 0, t116, 0, t117)))))) = some (r1, r2, r3, r4, r5, r6) := H
 have A2 := Aside0.mk A20
 clear A20
 replace H := Option.bind_eq_some_iff.mp H
 obtain ⟨⟨t118, t119, t120⟩, A30, H⟩ := H
 replace H : (if t120 = 0 then (some (1, t118, t119, (⟨#[]⟩ : ByteArray), t120, t117)) else (if t120 = 5 then (some (0, 0, 0, (⟨#[]⟩ : ByteArray), t120, t117)) else (if (t116.size : Int) > 127 then (some (0, 0, 0, (⟨#[]⟩ : ByteArray), 2, t117)) else (some (4, 0, 0, t116, 0, t117))))) = some (r1, r2, r3, r4, r5, r6) := H
 have A3 := Aside0.mk A30
 clear A30
 by_cases c4 : t120 = 0
 ·rw [if_pos c4] at H
  have c4b0 : (t120 == 0) = true := beq_iff_eq.mpr c4
  have c4b1 : (t120 != 0) = false := bne_eq_false_iff_eq.mpr c4
  clear c4
  simp only [Option.some.injEq, Prod.mk.injEq] at H
  obtain ⟨rfl, rfl, rfl, rfl, rfl, rfl⟩ := H
  go_enter Tryd.func48, Tryd.ntmps48
  exact lf_M2_1
 ·rw [if_neg c4] at H
  have c4b0 : (t120 == 0) = false := beq_eq_false_iff_ne.mpr c4
  have c4b1 : (t120 != 0) = true := bne_iff_ne.mpr c4
  by_cases c14 : t120 = 5
  ·rw [if_pos c14] at H
   have c14b0 : (t120 == 5) = true := beq_iff_eq.mpr c14
   have c14b1 : (t120 != 5) = false := bne_eq_false_iff_eq.mpr c14
   clear c14
   simp only [Option.some.injEq, Prod.mk.injEq] at H
   obtain ⟨rfl, rfl, rfl, rfl, rfl, rfl⟩ := H
   go_enter Tryd.func48, Tryd.ntmps48
   exact lf_M2_1
  ·rw [if_neg c14] at H
   have c14b0 : (t120 == 5) = false := beq_eq_false_iff_ne.mpr c14
   have c14b1 : (t120 != 5) = true := bne_iff_ne.mpr c14
   by_cases c24 : (t116.size : Int) > 127
   ·rw [if_pos c24] at H
    have c24b0 : decide (127 < (t116.size : Int)) = true := decide_eq_true c24
    have c24b1 : decide (127 < t116.size) = true := decide_eq_true (by omega)
    clear c24
    simp only [Option.some.injEq, Prod.mk.injEq] at H
    obtain ⟨rfl, rfl, rfl, rfl, rfl, rfl⟩ := H
    go_enter Tryd.func48, Tryd.ntmps48
    exact lf_M2_1
   ·rw [if_neg c24] at H
    have c24b0 : decide (127 < (t116.size : Int)) = false := decide_eq_false c24
    have c24b1 : decide (127 < t116.size) = false := decide_eq_false (by omega)
    clear c24
    simp only [Option.some.injEq, Prod.mk.injEq] at H
    obtain ⟨rfl, rfl, rfl, rfl, rfl, rfl⟩ := H
    go_enter Tryd.func48, Tryd.ntmps48
    exact lf_M2_1
def lex_reader_hexa.l0 : Nat → List Int → Int → List Int → Int → Option (ByteArray × Int × Int)
 | 0, _, _, _, _ => none
 | k + 1, x4, x5, x1000, x1001 => (lex_reader_peek.f x1000 x1001 0).bind fun bt125 => (if bt125.2.1 = true then ((lex_digit.f bt125.1).bind fun t128 => (if bt125.1 = 62 then (some (strOfNums x4, 0, wrap64 (bt125.2.2 + 1))) else ((lex_of.f k bt125.1).bind fun t129 => (if t129 = 0 then (lex_reader_hexa.l0 k x4 x5 x1000 (wrap64 (bt125.2.2 + 1))) else (if t128 < 0 then (some ((⟨#[]⟩ : ByteArray), 4, wrap64 (bt125.2.2 + 1))) else (if (Go.bits .and .i64 x5 1) = 0 then (if x4.length < 140737488355328 then (lex_reader_hexa.l0 k (x4 ++ [(wrap64 (t128 * 16)) % 256]) (wrap64 (x5 + 1)) x1000 (wrap64 (bt125.2.2 + 1))) else (none)) else (if 0 ≤ (x5 / 2) then (if (x5 / 2) < (x4.length : Int) then (lex_reader_hexa.l0 k (x4.set ((x5 / 2) : Int).toNat (Go.bits .or .u8 (rd x4 (x5 / 2)) ((t128) % 256))) (wrap64 (x5 + 1)) x1000 (wrap64 (bt125.2.2 + 1))) else (none)) else (none)))))))) else (some ((⟨#[]⟩ : ByteArray), 4, bt125.2.2)))
def lex_reader_hexa.f (k : Nat) (s0_0 : List Int) (s0_1 : Int) : Option (ByteArray × Int × Int) := lex_reader_hexa.l0 k ([] : List Int) 0 s0_0 s0_1
set_option maxHeartbeats 8000000 in
set_option maxRecDepth 100000 in
theorem lex_reader_hexa.calls (k : Nat) (g : Nat) (s0_0 : List Int) (s0_1 : Int) (r1 : ByteArray) (r2 : Int) (r3 : Int) (w0 w : World) (hI : IsS44 w0 w g s0_0 s0_1) (hB : Below w0.heap.size w0 w) (h : lex_reader_hexa.f k s0_0 s0_1 = some (r1, r2, r3)) :
  Calls Tryd.prog 49 #[.pointer (some ⟨g, 0, none⟩)] w fun e w' => e = .returned (.tuple #[.string r1, .int .i64 r2]) ∧ IsS44 w0 w' g s0_0 r3 ∧ Below w0.heap.size w0 w' ∧ KeepBut w w' g none := by
 have HI0 := Aside0.mk hI
 have HK := Aside0.mk (KeepBut.refl w g none)
 have HL := Aside0.mk hB.size
 clear hI
 have HW0 := Aside0.mk hB.size
 have HB := Aside0.mk hB
 clear hB
 have H : (lex_reader_hexa.l0 k ([] : List Int) 0 s0_0 s0_1) = some (r1, r2, r3) := h
 clear h
 have H' := Aside0.mk H
 clear H
 go_enter Tryd.func49, Tryd.ntmps49
 go_wp2
 go_loopg [4, 5] k (fun kq v4 v5 w' => ∃ (x4_1 : List Int) (x5_1 : Int) (x1001_1 : Int), v5 = .int .i64 x5_1 ∧ Aside0 (lex_reader_hexa.l0 kq x4_1 x5_1 s0_0 x1001_1 = some (r1, r2, r3)) ∧ Aside0 (kq ≤ k) ∧ Aside0 (Kd.R (Kd.int .u8) 5 w' w.heap.size (fun _ => True) v4 x4_1) ∧ Aside0 (IsS44 w0 w' g s0_0 x1001_1) ∧ Aside0 (KeepBut w w' g none) ∧ Aside0 (Below w0.heap.size w0 w'))
 case atStart => exact ⟨(([] : List Int)), (0), (s0_1), ea_, H', ⟨Nat.le_refl _⟩, ⟨by first | exact Kd.R_nil _ _ _ _ _ | exact Kd.N_nil _ _ _ _ _ | exact Kd.V_nil _ _ _ _ _ | exact Kd.Q_nil _ _ _ _ _ | exact Kd.S_nil _ _ _ _ _⟩, ⟨isk44⟩, ⟨by repeat (first | (with_reducible first | exact HK.out | apply KeepBut.set_ | apply keep_drewN | apply keep_drew | apply keep_alloc) | exact HK.out)⟩, ⟨isb44⟩⟩
 case round =>
  clear H'
  obtain ⟨x4_1, x5_1, x1001_1, rfl, HA, HK1, HO_4, HI0, HK, HB⟩ := hrel
  cases gk with
  | zero => exact absurd HA.out (by simp [lex_reader_hexa.l0])
  | succ k1 =>
   have H := HA.out
   clear HA
   simp only [lex_reader_hexa.l0] at H
   replace H := Option.bind_eq_some_iff.mp H
   obtain ⟨⟨t125, t126, t127⟩, A20, H⟩ := H
   replace H : (if t126 = true then ((lex_digit.f t125).bind fun t128 => (if t125 = 62 then (some (strOfNums x4_1, 0, wrap64 (t127 + 1))) else ((lex_of.f k1 t125).bind fun t129 => (if t129 = 0 then (lex_reader_hexa.l0 k1 x4_1 x5_1 s0_0 (wrap64 (t127 + 1))) else (if t128 < 0 then (some ((⟨#[]⟩ : ByteArray), 4, wrap64 (t127 + 1))) else (if (Go.bits .and .i64 x5_1 1) = 0 then (if x4_1.length < 140737488355328 then (lex_reader_hexa.l0 k1 (x4_1 ++ [(wrap64 (t128 * 16)) % 256]) (wrap64 (x5_1 + 1)) s0_0 (wrap64 (t127 + 1))) else (none)) else (if 0 ≤ (x5_1 / 2) then (if (x5_1 / 2) < (x4_1.length : Int) then (lex_reader_hexa.l0 k1 (x4_1.set ((x5_1 / 2) : Int).toNat (Go.bits .or .u8 (rd x4_1 (x5_1 / 2)) ((t128) % 256))) (wrap64 (x5_1 + 1)) s0_0 (wrap64 (t127 + 1))) else (none)) else (none)))))))) else (some ((⟨#[]⟩ : ByteArray), 4, t127))) = some (r1, r2, r3) := H
   have A2 := Aside0.mk A20
   clear A20
   by_cases c3 : t126 = true
   ·subst c3
    have H1 : ((lex_digit.f t125).bind fun t128 => (if t125 = 62 then (some (strOfNums x4_1, 0, wrap64 (t127 + 1))) else ((lex_of.f k1 t125).bind fun t129 => (if t129 = 0 then (lex_reader_hexa.l0 k1 x4_1 x5_1 s0_0 (wrap64 (t127 + 1))) else (if t128 < 0 then (some ((⟨#[]⟩ : ByteArray), 4, wrap64 (t127 + 1))) else (if (Go.bits .and .i64 x5_1 1) = 0 then (if x4_1.length < 140737488355328 then (lex_reader_hexa.l0 k1 (x4_1 ++ [(wrap64 (t128 * 16)) % 256]) (wrap64 (x5_1 + 1)) s0_0 (wrap64 (t127 + 1))) else (none)) else (if 0 ≤ (x5_1 / 2) then (if (x5_1 / 2) < (x4_1.length : Int) then (lex_reader_hexa.l0 k1 (x4_1.set ((x5_1 / 2) : Int).toNat (Go.bits .or .u8 (rd x4_1 (x5_1 / 2)) ((t128) % 256))) (wrap64 (x5_1 + 1)) s0_0 (wrap64 (t127 + 1))) else (none)) else (none)))))))) = some (r1, r2, r3) := by rw [if_pos rfl] at H; exact H
    clear H
    have H := H1
    clear H1
    replace H := Option.bind_eq_some_iff.mp H
    obtain ⟨t128, A40, H⟩ := H
    replace H : (if t125 = 62 then (some (strOfNums x4_1, 0, wrap64 (t127 + 1))) else ((lex_of.f k1 t125).bind fun t129 => (if t129 = 0 then (lex_reader_hexa.l0 k1 x4_1 x5_1 s0_0 (wrap64 (t127 + 1))) else (if t128 < 0 then (some ((⟨#[]⟩ : ByteArray), 4, wrap64 (t127 + 1))) else (if (Go.bits .and .i64 x5_1 1) = 0 then (if x4_1.length < 140737488355328 then (lex_reader_hexa.l0 k1 (x4_1 ++ [(wrap64 (t128 * 16)) % 256]) (wrap64 (x5_1 + 1)) s0_0 (wrap64 (t127 + 1))) else (none)) else (if 0 ≤ (x5_1 / 2) then (if (x5_1 / 2) < (x4_1.length : Int) then (lex_reader_hexa.l0 k1 (x4_1.set ((x5_1 / 2) : Int).toNat (Go.bits .or .u8 (rd x4_1 (x5_1 / 2)) ((t128) % 256))) (wrap64 (x5_1 + 1)) s0_0 (wrap64 (t127 + 1))) else (none)) else (none))))))) = some (r1, r2, r3) := H
    have A4 := Aside0.mk A40
    clear A40
    by_cases c5 : t125 = 62
    ·rw [if_pos c5] at H
     have c5b0 : (t125 == 62) = true := beq_iff_eq.mpr c5
     have c5b1 : (t125 != 62) = false := bne_eq_false_iff_eq.mpr c5
     clear c5
     simp only [Option.some.injEq, Prod.mk.injEq] at H
     obtain ⟨rfl, rfl, rfl⟩ := H
     go_wp2_with (first | ((with_reducible refine gate_callee (f := 47) rfl ?_); refine goesL_ (some 11) rfl rfl Tryd.func47 (by kernel_rfl) rfl #[.pointer (some ⟨g, 0, none⟩), .int .i64 0] rfl gl_ ?_; (with_reducible refine (lex_reader_peek.calls g s0_0 x1001_1 0 t125 true t127 w0 _ ?side1 ?side2 A2.out).mono ?_); (case side1 => exact isk44); (case side2 => exact isb44); rintro e wq0 ⟨rfl, hi, hb, hk⟩; refine ⟨_, rfl, ?_⟩; have n0_ := Aside0.mk (Kd.R_mono (Kd.R_keep (IsS44.apart (show IsS44 w0 _ g s0_0 x1001_1 from isk44) (rkk HO_4.out) (by decide)) hk (fun _ h => h.2)) (fun _ h => h.1)); have n1_ := Aside0.mk (KeepBut.trans (by repeat (first | (with_reducible first | exact HK.out | apply KeepBut.set_ | apply keep_drewN | apply keep_drew | apply keep_alloc) | exact HK.out)) hk (.inl rfl)); have n2_ := Aside0.mk (hb); have n3_ := Aside0.mk (hi); clear HO_4; clear HK; clear HB; clear HI0; have HO_4 := n0_; have HK := n1_; have HB := n2_; have HI0 := n3_; clear n0_ n1_ n2_ n3_; (try clear hb); (try clear hb2); (try clear hk); (try clear hi); obtain ⟨ASzq0, cSzq0, HGzq0, hgzq0, HSzq0⟩ := HI0.out; have hczq0 := cellS44_0 HGzq0; have hczq1 := cellS44_1 HGzq0; have hfzq0 := blk_frozen HGzq0 1; clear HGzq0 hgzq0) | ((with_reducible refine gate_callee (f := 83) rfl ?_); refine goesL_ (some 24) rfl rfl Tryd.func83 (by kernel_rfl) rfl #[.int .u8 t125] rfl gl_ ?_; (with_reducible refine (lex_digit.calls t125 t128 _ A4.out).mono ?_); rintro e wq1 ⟨rfl, hb⟩; refine ⟨_, rfl, ?_⟩; have n0_ := Aside0.mk (Kd.R_below (by (with_reducible repeat (first | apply Kd.R_alloc | apply Kd.R_drewN | apply Kd.R_drew)); exact (Kd.R_mono (Kd.R_far (p := ⟨g, 1, none⟩) (IsS44.apart HI0.out HO_4.out (by decide)) (fun _ hk => hk.2) (.int .i64 (wrap64 (t127 + 1)))) (fun _ h_ => h_.1))) hb); have n1_ := Aside0.mk (IsS44.below (show IsS44 w0 (wq0.setCell ⟨g, 1, none⟩ (.int .i64 (wrap64 (t127 + 1)))) g s0_0 (wrap64 (t127 + 1)) from isk44) hb); have n2_ := Aside0.mk (KeepBut.trans (by repeat (first | (with_reducible first | exact HK.out | apply KeepBut.set_ | apply keep_drewN | apply keep_drew | apply keep_alloc) | exact HK.out)) (KeepBut.of_below hb g none) (.inl rfl)); have n3_ := Aside0.mk (below_step (isb44) hb); clear HO_4; clear HI0; clear HK; clear HB; have HO_4 := n0_; have HI0 := n1_; have HK := n2_; have HB := n3_; clear n0_ n1_ n2_ n3_; (try clear hb); (try clear hb2); (try clear hk); (try clear hi); have hcvq0 := own_string (P := Tryd.prog) Tryd.underlying22 Tryd.underlying5 Tryd.underlying9 (Kd.own_of_R HO_4.out)))
     go_ret2
     exact ⟨ee_, isk44, isb44, by repeat (first | (with_reducible first | exact HK.out | apply KeepBut.set_ | apply keep_drewN | apply keep_drew | apply keep_alloc) | exact HK.out)⟩
    ·rw [if_neg c5] at H
     have c5b0 : (t125 == 62) = false := beq_eq_false_iff_ne.mpr c5
     have c5b1 : (t125 != 62) = true := bne_iff_ne.mpr c5
     replace H := Option.bind_eq_some_iff.mp H
     obtain ⟨t129, A100, H⟩ := H
     replace H : (if t129 = 0 then (lex_reader_hexa.l0 k1 x4_1 x5_1 s0_0 (wrap64 (t127 + 1))) else (if t128 < 0 then (some ((⟨#[]⟩ : ByteArray), 4, wrap64 (t127 + 1))) else (if (Go.bits .and .i64 x5_1 1) = 0 then (if x4_1.length < 140737488355328 then (lex_reader_hexa.l0 k1 (x4_1 ++ [(wrap64 (t128 * 16)) % 256]) (wrap64 (x5_1 + 1)) s0_0 (wrap64 (t127 + 1))) else (none)) else (if 0 ≤ (x5_1 / 2) then (if (x5_1 / 2) < (x4_1.length : Int) then (lex_reader_hexa.l0 k1 (x4_1.set ((x5_1 / 2) : Int).toNat (Go.bits .or .u8 (rd x4_1 (x5_1 / 2)) ((t128) % 256))) (wrap64 (x5_1 + 1)) s0_0 (wrap64 (t127 + 1))) else (none)) else (none))))) = some (r1, r2, r3) := H
     have A10 := Aside0.mk A100
     clear A100
     by_cases c11 : t129 = 0
     ·rw [if_pos c11] at H
      have c11b0 : (t129 == 0) = true := beq_iff_eq.mpr c11
      have c11b1 : (t129 != 0) = false := bne_eq_false_iff_eq.mpr c11
      clear c11
      have H' := Aside0.mk H
      clear H
      go_wp2_with (first | ((with_reducible refine gate_callee (f := 47) rfl ?_); refine goesL_ (some 11) rfl rfl Tryd.func47 (by kernel_rfl) rfl #[.pointer (some ⟨g, 0, none⟩), .int .i64 0] rfl gl_ ?_; (with_reducible refine (lex_reader_peek.calls g s0_0 x1001_1 0 t125 true t127 w0 _ ?side1 ?side2 A2.out).mono ?_); (case side1 => exact isk44); (case side2 => exact isb44); rintro e w12 ⟨rfl, hi, hb, hk⟩; refine ⟨_, rfl, ?_⟩; have n0_ := Aside0.mk (Kd.R_mono (Kd.R_keep (IsS44.apart (show IsS44 w0 _ g s0_0 x1001_1 from isk44) (rkk HO_4.out) (by decide)) hk (fun _ h => h.2)) (fun _ h => h.1)); have n1_ := Aside0.mk (KeepBut.trans (by repeat (first | (with_reducible first | exact HK.out | apply KeepBut.set_ | apply keep_drewN | apply keep_drew | apply keep_alloc) | exact HK.out)) hk (.inl rfl)); have n2_ := Aside0.mk (hb); have n3_ := Aside0.mk (hi); clear HO_4; clear HK; clear HB; clear HI0; have HO_4 := n0_; have HK := n1_; have HB := n2_; have HI0 := n3_; clear n0_ n1_ n2_ n3_; (try clear hb); (try clear hb2); (try clear hk); (try clear hi); obtain ⟨ASz13_0, cSz13_0, HGz13, hgz13, HSz13_0⟩ := HI0.out; have hcz13_0 := cellS44_0 HGz13; have hcz13_1 := cellS44_1 HGz13; have hfz13_1 := blk_frozen HGz13 1; clear HGz13 hgz13) | ((with_reducible refine gate_callee (f := 83) rfl ?_); refine goesL_ (some 24) rfl rfl Tryd.func83 (by kernel_rfl) rfl #[.int .u8 t125] rfl gl_ ?_; (with_reducible refine (lex_digit.calls t125 t128 _ A4.out).mono ?_); rintro e w14 ⟨rfl, hb⟩; refine ⟨_, rfl, ?_⟩; have n0_ := Aside0.mk (Kd.R_below (by (with_reducible repeat (first | apply Kd.R_alloc | apply Kd.R_drewN | apply Kd.R_drew)); exact (Kd.R_mono (Kd.R_far (p := ⟨g, 1, none⟩) (IsS44.apart HI0.out HO_4.out (by decide)) (fun _ hk => hk.2) (.int .i64 (wrap64 (t127 + 1)))) (fun _ h_ => h_.1))) hb); have n1_ := Aside0.mk (IsS44.below (show IsS44 w0 (w12.setCell ⟨g, 1, none⟩ (.int .i64 (wrap64 (t127 + 1)))) g s0_0 (wrap64 (t127 + 1)) from isk44) hb); have n2_ := Aside0.mk (KeepBut.trans (by repeat (first | (with_reducible first | exact HK.out | apply KeepBut.set_ | apply keep_drewN | apply keep_drew | apply keep_alloc) | exact HK.out)) (KeepBut.of_below hb g none) (.inl rfl)); have n3_ := Aside0.mk (below_step (isb44) hb); clear HO_4; clear HI0; clear HK; clear HB; have HO_4 := n0_; have HI0 := n1_; have HK := n2_; have HB := n3_; clear n0_ n1_ n2_ n3_; (try clear hb); (try clear hb2); (try clear hk); (try clear hi)) | ((with_reducible refine gate_callee (f := 30) rfl ?_); refine goesL_ (some 41) rfl rfl Tryd.func30 (by kernel_rfl) rfl #[.int .u8 t125] rfl gl_ ?_; (with_reducible refine (lex_of.calls k1 t125 t129 _ A10.out).mono ?_); rintro e w' ⟨rfl, ⟨nd, rfl⟩⟩; refine ⟨_, rfl, ?_⟩))
      go_roundg k1
      case measure => have := HK1.out; omega
      case rel => exact ⟨(x4_1), (x5_1), (wrap64 (t127 + 1)), ea_, H', ⟨by have := HK1.out; omega⟩, ⟨rkk HO_4.out⟩, ⟨isk44⟩, ⟨by repeat (first | (with_reducible first | exact HK.out | apply KeepBut.set_ | apply keep_drewN | apply keep_drew | apply keep_alloc) | exact HK.out)⟩, ⟨isb44⟩⟩
     ·rw [if_neg c11] at H
      have c11b0 : (t129 == 0) = false := beq_eq_false_iff_ne.mpr c11
      have c11b1 : (t129 != 0) = true := bne_iff_ne.mpr c11
      by_cases c15 : t128 < 0
      ·rw [if_pos c15] at H
       have c15b0 : decide (t128 < 0) = true := decide_eq_true c15
       clear c15
       simp only [Option.some.injEq, Prod.mk.injEq] at H
       obtain ⟨rfl, rfl, rfl⟩ := H
       go_wp2_with (first | ((with_reducible refine gate_callee (f := 47) rfl ?_); refine goesL_ (some 11) rfl rfl Tryd.func47 (by kernel_rfl) rfl #[.pointer (some ⟨g, 0, none⟩), .int .i64 0] rfl gl_ ?_; (with_reducible refine (lex_reader_peek.calls g s0_0 x1001_1 0 t125 true t127 w0 _ ?side1 ?side2 A2.out).mono ?_); (case side1 => exact isk44); (case side2 => exact isb44); rintro e wq0 ⟨rfl, hi, hb, hk⟩; refine ⟨_, rfl, ?_⟩; have n0_ := Aside0.mk (Kd.R_mono (Kd.R_keep (IsS44.apart (show IsS44 w0 _ g s0_0 x1001_1 from isk44) (rkk HO_4.out) (by decide)) hk (fun _ h => h.2)) (fun _ h => h.1)); have n1_ := Aside0.mk (KeepBut.trans (by repeat (first | (with_reducible first | exact HK.out | apply KeepBut.set_ | apply keep_drewN | apply keep_drew | apply keep_alloc) | exact HK.out)) hk (.inl rfl)); have n2_ := Aside0.mk (hb); have n3_ := Aside0.mk (hi); clear HO_4; clear HK; clear HB; clear HI0; have HO_4 := n0_; have HK := n1_; have HB := n2_; have HI0 := n3_; clear n0_ n1_ n2_ n3_; (try clear hb); (try clear hb2); (try clear hk); (try clear hi); obtain ⟨ASzq0, cSzq0, HGzq0, hgzq0, HSzq0⟩ := HI0.out; have hczq0 := cellS44_0 HGzq0; have hczq1 := cellS44_1 HGzq0; have hfzq0 := blk_frozen HGzq0 1; clear HGzq0 hgzq0) | ((with_reducible refine gate_callee (f := 83) rfl ?_); refine goesL_ (some 24) rfl rfl Tryd.func83 (by kernel_rfl) rfl #[.int .u8 t125] rfl gl_ ?_; (with_reducible refine (lex_digit.calls t125 t128 _ A4.out).mono ?_); rintro e wq1 ⟨rfl, hb⟩; refine ⟨_, rfl, ?_⟩; have n0_ := Aside0.mk (Kd.R_below (by (with_reducible repeat (first | apply Kd.R_alloc | apply Kd.R_drewN | apply Kd.R_drew)); exact (Kd.R_mono (Kd.R_far (p := ⟨g, 1, none⟩) (IsS44.apart HI0.out HO_4.out (by decide)) (fun _ hk => hk.2) (.int .i64 (wrap64 (t127 + 1)))) (fun _ h_ => h_.1))) hb); have n1_ := Aside0.mk (IsS44.below (show IsS44 w0 (wq0.setCell ⟨g, 1, none⟩ (.int .i64 (wrap64 (t127 + 1)))) g s0_0 (wrap64 (t127 + 1)) from isk44) hb); have n2_ := Aside0.mk (KeepBut.trans (by repeat (first | (with_reducible first | exact HK.out | apply KeepBut.set_ | apply keep_drewN | apply keep_drew | apply keep_alloc) | exact HK.out)) (KeepBut.of_below hb g none) (.inl rfl)); have n3_ := Aside0.mk (below_step (isb44) hb); clear HO_4; clear HI0; clear HK; clear HB; have HO_4 := n0_; have HI0 := n1_; have HK := n2_; have HB := n3_; clear n0_ n1_ n2_ n3_; (try clear hb); (try clear hb2); (try clear hk); (try clear hi)) | ((with_reducible refine gate_callee (f := 30) rfl ?_); refine goesL_ (some 41) rfl rfl Tryd.func30 (by kernel_rfl) rfl #[.int .u8 t125] rfl gl_ ?_; (with_reducible refine (lex_of.calls k1 t125 t129 _ A10.out).mono ?_); rintro e w' ⟨rfl, ⟨nd, rfl⟩⟩; refine ⟨_, rfl, ?_⟩))
       go_ret2
       exact ⟨ee_, isk44, isb44, by repeat (first | (with_reducible first | exact HK.out | apply KeepBut.set_ | apply keep_drewN | apply keep_drew | apply keep_alloc) | exact HK.out)⟩
      ·rw [if_neg c15] at H
       have c15b0 : decide (t128 < 0) = false := decide_eq_false c15
       clear c15
       by_cases c19 : (Go.bits .and .i64 x5_1 1) = 0
       ·rw [if_pos c19] at H
        have c19b0 : ((Go.bits .and .i64 x5_1 1) == 0) = true := beq_iff_eq.mpr c19
        have c19b1 : ((Go.bits .and .i64 x5_1 1) != 0) = false := bne_eq_false_iff_eq.mpr c19
        clear c19
        by_cases c20 : x4_1.length < 140737488355328
        ·rw [if_pos c20] at H
         have LMc20 := Aside0.mk c20
         clear c20
         obtain ⟨y130, hy130⟩ : ∃ y_ : List Int, y_ = (x4_1 ++ [(wrap64 (t128 * 16)) % 256]) := ⟨_, rfl⟩
         replace H : (lex_reader_hexa.l0 k1 y130 (wrap64 (x5_1 + 1)) s0_0 (wrap64 (t127 + 1))) = some (r1, r2, r3) := by first | (rw [hy130]; with_reducible exact H) | (have H2_ := (Option.bind_some _ _).symm.trans H; rw [hy130]; with_reducible exact H2_) | (have H2_ := (Option.bind_some _ _).symm.trans H; with_reducible exact H2_) | with_reducible exact H | (rw [hy130]; exact H) | exact H
         have Ny130 := Aside0.mk hy130
         clear hy130
         have H' := Aside0.mk H
         clear H
         go_wp2_with (first | ((with_reducible refine gate_callee (f := 47) rfl ?_); refine goesL_ (some 11) rfl rfl Tryd.func47 (by kernel_rfl) rfl #[.pointer (some ⟨g, 0, none⟩), .int .i64 0] rfl gl_ ?_; (with_reducible refine (lex_reader_peek.calls g s0_0 x1001_1 0 t125 true t127 w0 _ ?side1 ?side2 A2.out).mono ?_); (case side1 => exact isk44); (case side2 => exact isb44); rintro e w21 ⟨rfl, hi, hb, hk⟩; refine ⟨_, rfl, ?_⟩; have n0_ := Aside0.mk (Kd.R_mono (Kd.R_keep (IsS44.apart (show IsS44 w0 _ g s0_0 x1001_1 from isk44) (rkk HO_4.out) (by decide)) hk (fun _ h => h.2)) (fun _ h => h.1)); have n1_ := Aside0.mk (KeepBut.trans (by repeat (first | (with_reducible first | exact HK.out | apply KeepBut.set_ | apply keep_drewN | apply keep_drew | apply keep_alloc) | exact HK.out)) hk (.inl rfl)); have n2_ := Aside0.mk (hb); have n3_ := Aside0.mk (hi); clear HO_4; clear HK; clear HB; clear HI0; have HO_4 := n0_; have HK := n1_; have HB := n2_; have HI0 := n3_; clear n0_ n1_ n2_ n3_; (try clear hb); (try clear hb2); (try clear hk); (try clear hi); obtain ⟨ASz22_0, cSz22_0, HGz22, hgz22, HSz22_0⟩ := HI0.out; have hcz22_0 := cellS44_0 HGz22; have hcz22_1 := cellS44_1 HGz22; have hfz22_1 := blk_frozen HGz22 1; clear HGz22 hgz22) | ((with_reducible refine gate_callee (f := 83) rfl ?_); refine goesL_ (some 24) rfl rfl Tryd.func83 (by kernel_rfl) rfl #[.int .u8 t125] rfl gl_ ?_; (with_reducible refine (lex_digit.calls t125 t128 _ A4.out).mono ?_); rintro e w23 ⟨rfl, hb⟩; refine ⟨_, rfl, ?_⟩; have n0_ := Aside0.mk (Kd.R_below (by (with_reducible repeat (first | apply Kd.R_alloc | apply Kd.R_drewN | apply Kd.R_drew)); exact (Kd.R_mono (Kd.R_far (p := ⟨g, 1, none⟩) (IsS44.apart HI0.out HO_4.out (by decide)) (fun _ hk => hk.2) (.int .i64 (wrap64 (t127 + 1)))) (fun _ h_ => h_.1))) hb); have n1_ := Aside0.mk (IsS44.below (show IsS44 w0 (w21.setCell ⟨g, 1, none⟩ (.int .i64 (wrap64 (t127 + 1)))) g s0_0 (wrap64 (t127 + 1)) from isk44) hb); have n2_ := Aside0.mk (KeepBut.trans (by repeat (first | (with_reducible first | exact HK.out | apply KeepBut.set_ | apply keep_drewN | apply keep_drew | apply keep_alloc) | exact HK.out)) (KeepBut.of_below hb g none) (.inl rfl)); have n3_ := Aside0.mk (below_step (isb44) hb); clear HO_4; clear HI0; clear HK; clear HB; have HO_4 := n0_; have HI0 := n1_; have HK := n2_; have HB := n3_; clear n0_ n1_ n2_ n3_; (try clear hb); (try clear hb2); (try clear hk); (try clear hi)) | ((with_reducible refine gate_callee (f := 30) rfl ?_); refine goesL_ (some 41) rfl rfl Tryd.func30 (by kernel_rfl) rfl #[.int .u8 t125] rfl gl_ ?_; (with_reducible refine (lex_of.calls k1 t125 t129 _ A10.out).mono ?_); rintro e w' ⟨rfl, ⟨nd, rfl⟩⟩; refine ⟨_, rfl, ?_⟩) | ((with_reducible refine gate_builtin (b := .append) (xs := #[.tmp 50, .tmp 54]) rfl ?_); at_builtin; refine Kd.R_append (Kd.int .u8) w.heap.size rfl (.tmp 50) (.tmp 54) 22 5 (.int .u8 0) 1 rfl Tryd.underlying22 info5 rfl (by decide) (by omega) u4 x4_1 ((wrap64 (t128 * 16)) % 256) [.int .u8 ((wrap64 (t128 * 16)) % 256)] (fun _ => True) (fun _ => False) rfl rfl ?aP (fun _ hk => hk.elim) ?aF ?aO (Below.refl _ _) ?aS ?aL ?_; (case aP => exact rfl); (case aF => exact (fun _ _ => trivial)); (case aO => exact (rkk HO_4.out)); (case aS => exact (keep_size (w := w) (g := g) (row := none) (by repeat (first | (with_reducible first | exact HK.out | apply KeepBut.set_ | apply keep_drewN | apply keep_drew | apply keep_alloc) | exact HK.out)))); (case aL => have := LMc20.out; omega); intro v131 w24 ho hb hg hat; rw [← Ny130.out] at ho; have n0_ := Aside0.mk (IsS44.grown (isk44) hg (IsS44.own_ne HI0.out HO_4.out (by decide))); have n1_ := Aside0.mk (below_weaken (isb44) HL.out hb); have n2_ := Aside0.mk (KeepBut.trans (by repeat (first | (with_reducible first | exact HK.out | apply KeepBut.set_ | apply keep_drewN | apply keep_drew | apply keep_alloc) | exact HK.out)) (KeepBut.of_grown hg g) (Kd.R_base2 HO_4.out)); have n3_ := Aside0.mk (ho); clear HI0; clear HB; clear HK; clear HO_4; have HI0 := n0_; have HB := n1_; have HK := n2_; have HO132 := n3_; clear n0_ n1_ n2_ n3_; clear ho hb hg hat))
         go_roundg k1
         case measure => have := HK1.out; omega
         case rel => exact ⟨(y130), (wrap64 (x5_1 + 1)), (wrap64 (t127 + 1)), ea_, H', ⟨by have := HK1.out; omega⟩, ⟨rkk HO132.out⟩, ⟨isk44⟩, ⟨by repeat (first | (with_reducible first | exact HK.out | apply KeepBut.set_ | apply keep_drewN | apply keep_drew | apply keep_alloc) | exact HK.out)⟩, ⟨isb44⟩⟩
        ·rw [if_neg c20] at H
         exact absurd H (by simp)
       ·rw [if_neg c19] at H
        have c19b0 : ((Go.bits .and .i64 x5_1 1) == 0) = false := beq_eq_false_iff_ne.mpr c19
        have c19b1 : ((Go.bits .and .i64 x5_1 1) != 0) = true := bne_iff_ne.mpr c19
        obtain ⟨ji25, hji25⟩ : ∃ j_ : Int, (x5_1 / 2) = j_ := ⟨_, rfl⟩
        replace H : (if 0 ≤ (ji25) then (if (ji25) < (x4_1.length : Int) then (lex_reader_hexa.l0 k1 (x4_1.set ((ji25) : Int).toNat (Go.bits .or .u8 (rd x4_1 (ji25)) ((t128) % 256))) (wrap64 (x5_1 + 1)) s0_0 (wrap64 (t127 + 1))) else (none)) else (none)) = some (r1, r2, r3) := by first | (rw [hji25] at H; exact H) | (simp only [hji25] at H ⊢; exact H)
        (try rw [hji25] at A2)
        (try rw [hji25] at A4)
        (try rw [hji25] at A10)
        by_cases c26 : 0 ≤ (ji25)
        ·rw [if_pos c26] at H
         have c26b0 : decide (0 ≤ (ji25)) = true := decide_eq_true c26
         clear c26
         by_cases c27 : (ji25) < (x4_1.length : Int)
         ·rw [if_pos c27] at H
          have c27b0 : decide ((ji25) < (x4_1.length : Int)) = true := decide_eq_true c27
          clear c27
          obtain ⟨y134, hy134⟩ : ∃ y_ : List Int, y_ = (x4_1.set ((ji25) : Int).toNat (Go.bits .or .u8 (rd x4_1 (ji25)) ((t128) % 256))) := ⟨_, rfl⟩
          replace H : (lex_reader_hexa.l0 k1 y134 (wrap64 (x5_1 + 1)) s0_0 (wrap64 (t127 + 1))) = some (r1, r2, r3) := by first | (rw [hy134]; with_reducible exact H) | (have H2_ := (Option.bind_some _ _).symm.trans H; rw [hy134]; with_reducible exact H2_) | (have H2_ := (Option.bind_some _ _).symm.trans H; with_reducible exact H2_) | with_reducible exact H | (rw [hy134]; exact H) | exact H
          have Ny134 := Aside0.mk hy134
          clear hy134
          have H' := Aside0.mk H
          clear H
          go_wp2_with (first | ((with_reducible refine gate_callee (f := 47) rfl ?_); refine goesL_ (some 11) rfl rfl Tryd.func47 (by kernel_rfl) rfl #[.pointer (some ⟨g, 0, none⟩), .int .i64 0] rfl gl_ ?_; (with_reducible refine (lex_reader_peek.calls g s0_0 x1001_1 0 t125 true t127 w0 _ ?side1 ?side2 A2.out).mono ?_); (case side1 => exact isk44); (case side2 => exact isb44); rintro e w29 ⟨rfl, hi, hb, hk⟩; refine ⟨_, rfl, ?_⟩; have n0_ := Aside0.mk (Kd.R_mono (Kd.R_keep (IsS44.apart (show IsS44 w0 _ g s0_0 x1001_1 from isk44) (rkk HO_4.out) (by decide)) hk (fun _ h => h.2)) (fun _ h => h.1)); have n1_ := Aside0.mk (KeepBut.trans (by repeat (first | (with_reducible first | exact HK.out | apply KeepBut.set_ | apply keep_drewN | apply keep_drew | apply keep_alloc) | exact HK.out)) hk (.inl rfl)); have n2_ := Aside0.mk (hb); have n3_ := Aside0.mk (hi); clear HO_4; clear HK; clear HB; clear HI0; have HO_4 := n0_; have HK := n1_; have HB := n2_; have HI0 := n3_; clear n0_ n1_ n2_ n3_; (try clear hb); (try clear hb2); (try clear hk); (try clear hi); obtain ⟨ASz30_0, cSz30_0, HGz30, hgz30, HSz30_0⟩ := HI0.out; have hcz30_0 := cellS44_0 HGz30; have hcz30_1 := cellS44_1 HGz30; have hfz30_1 := blk_frozen HGz30 1; clear HGz30 hgz30) | ((with_reducible refine gate_callee (f := 83) rfl ?_); refine goesL_ (some 24) rfl rfl Tryd.func83 (by kernel_rfl) rfl #[.int .u8 t125] rfl gl_ ?_; (with_reducible refine (lex_digit.calls t125 t128 _ A4.out).mono ?_); rintro e w31 ⟨rfl, hb⟩; refine ⟨_, rfl, ?_⟩; have n0_ := Aside0.mk (Kd.R_below (by (with_reducible repeat (first | apply Kd.R_alloc | apply Kd.R_drewN | apply Kd.R_drew)); exact (Kd.R_mono (Kd.R_far (p := ⟨g, 1, none⟩) (IsS44.apart HI0.out HO_4.out (by decide)) (fun _ hk => hk.2) (.int .i64 (wrap64 (t127 + 1)))) (fun _ h_ => h_.1))) hb); have n1_ := Aside0.mk (IsS44.below (show IsS44 w0 (w29.setCell ⟨g, 1, none⟩ (.int .i64 (wrap64 (t127 + 1)))) g s0_0 (wrap64 (t127 + 1)) from isk44) hb); have n2_ := Aside0.mk (KeepBut.trans (by repeat (first | (with_reducible first | exact HK.out | apply KeepBut.set_ | apply keep_drewN | apply keep_drew | apply keep_alloc) | exact HK.out)) (KeepBut.of_below hb g none) (.inl rfl)); have n3_ := Aside0.mk (below_step (isb44) hb); clear HO_4; clear HI0; clear HK; clear HB; have HO_4 := n0_; have HI0 := n1_; have HK := n2_; have HB := n3_; clear n0_ n1_ n2_ n3_; (try clear hb); (try clear hb2); (try clear hk); (try clear hi)) | ((with_reducible refine gate_callee (f := 30) rfl ?_); refine goesL_ (some 41) rfl rfl Tryd.func30 (by kernel_rfl) rfl #[.int .u8 t125] rfl gl_ ?_; (with_reducible refine (lex_of.calls k1 t125 t129 _ A10.out).mono ?_); rintro e w' ⟨rfl, ⟨nd, rfl⟩⟩; refine ⟨_, rfl, ?_⟩; (try (rw [drewN_self w31]; generalize hq_ : World.drewN w31 _ = w31; have n0_ : Aside0 (Kd.R (Kd.int .u8) 5 w31 w.heap.size (fun _ => True) u4 x4_1) := ⟨by rw [← hq_]; exact (rkk HO_4.out)⟩; have n1_ : Aside0 (IsS44 w0 w31 g s0_0 (wrap64 (t127 + 1))) := ⟨by rw [← hq_]; exact (isk44)⟩; have n2_ : Aside0 (KeepBut w w31 g none) := ⟨by rw [← hq_]; exact (by repeat (first | (with_reducible first | exact HK.out | apply KeepBut.set_ | apply keep_drewN | apply keep_drew | apply keep_alloc) | exact HK.out))⟩; have n3_ : Aside0 (Below w0.heap.size w0 w31) := ⟨by rw [← hq_]; exact (isb44)⟩; clear HO_4 HI0 HK HB hq_; have HO_4 := n0_; have HI0 := n1_; have HK := n2_; have HB := n3_; clear n0_ n1_ n2_ n3_)); obtain ⟨Ao32, co32, eo32⟩ := Kd.R_slice HO_4.out; subst eo32; have p133 : 0 ≤ ((ji25) : Int) := of_decide_eq_true (by first | (with_reducible assumption) | assumption); have q133 : (ji25) < (x4_1.length : Int) := of_decide_eq_true (by first | (with_reducible assumption) | assumption); obtain ⟨ad133, e133, hx133_0⟩ := Kd.at_int (Kd.R_reads' HO_4.out).2.2 (ji25) p133 q133; cases e133; replace p133 := eq_true p133; replace q133 := eq_true q133; have p28 : 0 ≤ ((ji25) : Int) := of_decide_eq_true (by first | (with_reducible assumption) | assumption); have q28 : ((ji25) : Int) < ((x4_1.length : Int) : Int) := of_decide_eq_true (by first | (with_reducible assumption) | assumption); obtain ⟨go28, co28, eo28, gb28, gl28, cl28, HG28⟩ := Kd.R_form HO_4.out (by omega); (first | cases eo28 | (injection eo28 with ea_ en_ ec_; (first | subst ea_ | (injection ea_ with ea_; subst ea_)); subst ec_; clear en_)); have GB28 := Aside0.mk gb28; have GG28 := Aside0.mk HG28; clear gb28 gl28 HG28; (first | simp only [add_plain] at hx133_0 | skip); obtain ⟨hx28_0, hf28_0⟩ := Kd.R_celln 0 HO_4.out ((ji25) : Int) p28 q28; replace p28 := eq_true p28; replace q28 := eq_true q28; obtain ⟨hy33_, hz33_⟩ := Kd.R_celln 0 HO_4.out ((ji25) : Int) (of_decide_eq_true (by first | (with_reducible assumption) | assumption)) (of_decide_eq_true (by first | (with_reducible assumption) | assumption)); have HP33 := Kd.R_putg HO_4.out ((ji25) : Int) (Go.bits .or .u8 (rd x4_1 (ji25)) ((t128) % 256))) | ((with_reducible refine gate_store (t := 5) (p := 33) rfl ?_); refine store_event (t := 5) (p := 33) (v := ?vo_w34) (w1 := (w31.setCell ⟨go28, ((ji25) : Int).toNat, none⟩ (.int .u8 (Go.bits .or .u8 (rd x4_1 (ji25)) ((t128) % 256))))) ?hg ?ho ?hn ?hr ?_; (case ho => rfl); (case hg => rfl); (case hn => rfl); (case hr => first | (go_simp; done) | (go_simp; rfl)); intro w34 hw; have hg : w31.grownBy w34 (some go28) := (by rw [hw]; exact HP33.2); have hp_ : Kd.R (Kd.int .u8) 5 w34 w.heap.size (fun _ => True) (.slice (some ⟨go28, 0, none⟩) x4_1.length co32) y134 := (by rw [hw, Ny134.out]; exact HP33.1); clear HP33; have n0_ := Aside0.mk (hp_); have n1_ := Aside0.mk (IsS44.grown (isk44) hg (IsS44.own_ne HI0.out HO_4.out (by decide))); have n2_ := Aside0.mk ((by rw [hw]; exact below_set (HB.out) (Nat.le_trans HL.out GB28.out) : Below w0.heap.size w0 w34)); have n3_ := Aside0.mk (KeepBut.trans (by repeat (first | (with_reducible first | exact HK.out | apply KeepBut.set_ | apply keep_drewN | apply keep_drew | apply keep_alloc) | exact HK.out)) (KeepBut.of_grown hg g) (Kd.R_base2 HO_4.out)); clear HO_4; clear HI0; clear HB; clear HK; have HO_4 := n0_; have HI0 := n1_; have HB := n2_; have HK := n3_; clear n0_ n1_ n2_ n3_; clear hg hw hp_))
          go_roundg k1
          case measure => have := HK1.out; omega
          case rel => exact ⟨(y134), (wrap64 (x5_1 + 1)), (wrap64 (t127 + 1)), ea_, H', ⟨by have := HK1.out; omega⟩, ⟨rkk HO_4.out⟩, ⟨isk44⟩, ⟨by repeat (first | (with_reducible first | exact HK.out | apply KeepBut.set_ | apply keep_drewN | apply keep_drew | apply keep_alloc) | exact HK.out)⟩, ⟨isb44⟩⟩
         ·rw [if_neg c27] at H
          exact absurd H (by simp)
        ·rw [if_neg c26] at H
         exact absurd H (by simp)
   ·replace c3 := Bool.eq_false_iff.mpr c3
    subst c3
    have H1 : (some ((⟨#[]⟩ : ByteArray), 4, t127)) = some (r1, r2, r3) := by rw [if_neg (show ¬ (false = true) by decide)] at H; exact H
    clear H
    have H := H1
    clear H1
    simp only [Option.some.injEq, Prod.mk.injEq] at H
    obtain ⟨rfl, rfl, rfl⟩ := H
    go_wp2_with (first | ((with_reducible refine gate_callee (f := 47) rfl ?_); refine goesL_ (some 11) rfl rfl Tryd.func47 (by kernel_rfl) rfl #[.pointer (some ⟨g, 0, none⟩), .int .i64 0] rfl gl_ ?_; (with_reducible refine (lex_reader_peek.calls g s0_0 x1001_1 0 t125 false t127 w0 _ ?side1 ?side2 A2.out).mono ?_); (case side1 => exact isk44); (case side2 => exact isb44); rintro e wq0 ⟨rfl, hi, hb, hk⟩; refine ⟨_, rfl, ?_⟩; have n0_ := Aside0.mk (Kd.R_mono (Kd.R_keep (IsS44.apart (show IsS44 w0 _ g s0_0 x1001_1 from isk44) (rkk HO_4.out) (by decide)) hk (fun _ h => h.2)) (fun _ h => h.1)); have n1_ := Aside0.mk (KeepBut.trans (by repeat (first | (with_reducible first | exact HK.out | apply KeepBut.set_ | apply keep_drewN | apply keep_drew | apply keep_alloc) | exact HK.out)) hk (.inl rfl)); have n2_ := Aside0.mk (hb); have n3_ := Aside0.mk (hi); clear HO_4; clear HK; clear HB; clear HI0; have HO_4 := n0_; have HK := n1_; have HB := n2_; have HI0 := n3_; clear n0_ n1_ n2_ n3_; (try clear hb); (try clear hb2); (try clear hk); (try clear hi)))
    go_ret2
    exact ⟨ee_, isk44, isb44, by repeat (first | (with_reducible first | exact HK.out | apply KeepBut.set_ | apply keep_drewN | apply keep_drew | apply keep_alloc) | exact HK.out)⟩
def lex_reader_escape.l0 : Nat → List Int → Int → Int → List Int → Int → Option (List Int × Bool × Int)
 | 0, _, _, _, _, _ => none
 | k + 1, x1, x11, x77, x1000, x1001 => if x77 < 2 then ((lex_reader_peek.f x1000 x1001 0).bind fun bt151 => (if bt151.2.1 = true then (if bt151.1 < 48 then (if x1.length < 140737488355328 then (some ((x1 ++ [(x11) % 256]), true, bt151.2.2)) else (none)) else (if bt151.1 > 55 then (if x1.length < 140737488355328 then (some ((x1 ++ [(x11) % 256]), true, bt151.2.2)) else (none)) else (lex_reader_escape.l0 k x1 (Go.bits .or .i64 (wrap64 (x11 * 8)) ((bt151.1 - 48) % 256)) (wrap64 (x77 + 1)) x1000 (wrap64 (bt151.2.2 + 1))))) else (if x1.length < 140737488355328 then (some ((x1 ++ [(x11) % 256]), true, bt151.2.2)) else (none)))) else (if x1.length < 140737488355328 then (some ((x1 ++ [(x11) % 256]), true, x1001)) else (none))
def lex_reader_escape.f (k : Nat) (s0_0 : List Int) (s0_1 : Int) (l1 : List Int) : Option (List Int × Bool × Int) := (lex_reader_peek.f s0_0 s0_1 0).bind fun bt135 => (if bt135.2.1 = true then ((strings_IndexByte.f (⟨#[110, 114, 116, 98, 102]⟩ : ByteArray) bt135.1).bind fun t138 => (if t138 ≥ 0 then (if 0 ≤ t138 then (if t138 < 5 then (if l1.length < 140737488355328 then (some ((l1 ++ [bt (⟨#[10, 13, 9, 8, 12]⟩ : ByteArray) t138]), true, wrap64 (bt135.2.2 + 1))) else (none)) else (none)) else (none)) else (if bt135.1 = 13 then ((lex_reader_peek.f s0_0 (wrap64 (bt135.2.2 + 1)) 0).bind fun bt142 => (if bt142.2.1 = true then (if bt142.1 = 10 then (some (l1, true, wrap64 (bt142.2.2 + 1))) else (some (l1, true, bt142.2.2))) else (some (l1, true, bt142.2.2)))) else (if bt135.1 = 10 then (some (l1, true, wrap64 (bt135.2.2 + 1))) else (if bt135.1 < 48 then (if l1.length < 140737488355328 then (some ((l1 ++ [bt135.1]), true, wrap64 (bt135.2.2 + 1))) else (none)) else (if bt135.1 > 55 then (if l1.length < 140737488355328 then (some ((l1 ++ [bt135.1]), true, wrap64 (bt135.2.2 + 1))) else (none)) else (lex_reader_escape.l0 k l1 ((bt135.1 - 48) % 256) 0 s0_0 (wrap64 (bt135.2.2 + 1))))))))) else (some (([] : List Int), false, bt135.2.2)))
theorem lf_M2_2 {p_ : Prop} (h_ : p_ := by
  go_wp2_with (first | ((with_reducible refine gate_callee (f := 47) rfl ?_); refine goesL_ (some 81) rfl rfl Tryd.func47 (by kernel_rfl) rfl #[.pointer (some ⟨g, 0, none⟩), .int .i64 0] rfl gl_ ?_; (with_reducible refine (lex_reader_peek.calls g s0_0 x1001_1 0 t151 true t153 w0 _ ?side1 ?side2 A52.out).mono ?_); (case side1 => exact isk44); (case side2 => exact isb44); rintro e wq0 ⟨rfl, hi, hb, hk⟩; refine ⟨_, rfl, ?_⟩; have n0_ := Aside0.mk (Kd.R_mono (Kd.R_keep (IsS44.apart (show IsS44 w0 _ g s0_0 x1001_1 from isk44) (rkk HO_1.out) (by decide)) hk (fun _ h => h.2)) (fun _ h => h.1)); have n1_ := Aside0.mk (Kept.of_keep (S := (fun k_ => (P1_ k_) ∨ k_ = g)) (kpt44) hk (.inl (.inr rfl))); have n2_ := Aside0.mk (hb); have n3_ := Aside0.mk (hi); clear HO_1; clear HK; clear HB; clear HI0; have HO_1 := n0_; have HK := n1_; have HB := n2_; have HI0 := n3_; clear n0_ n1_ n2_ n3_; (try clear hb); (try clear hb2); (try clear hk); (try clear hi)) | ((with_reducible refine gate_builtin (b := .append) (xs := #[.tmp 108, .tmp 111]) rfl ?_); at_builtin; refine Kd.R_append (Kd.int .u8) (w0 := w0) w0.heap.size rfl (.tmp 108) (.tmp 111) 22 5 (.int .u8 0) 1 rfl Tryd.underlying22 info5 rfl (by decide) (by omega) u9000_ l1 ((x11_1) % 256) [.int .u8 ((x11_1) % 256)] (fun k_ => (P1_ k_ ∨ w.heap.size ≤ k_)) (fun _ => False) rfl rfl ?aP (fun _ hk => hk.elim) ?aF ?aO ?aB ?aS ?aL ?_; (case aP => exact rfl); (case aB => exact (isb44)); (case aF => exact (fun k_ hk => (.inr (Nat.le_trans (by first | exact HK.out.1 | exact (show Kept w _ (fun k_ => (P1_ k_) ∨ k_ = g) from kpt44).1) hk)))); (case aO => exact (rkk HO_1.out)); (case aS => exact (below_size (isb44))); (case aL => have := LMcq0.out; omega); intro vq0 wq1 ho hb hg hat; rw [← Nyq0.out] at ho; have n0_ := Aside0.mk (IsS44.grown (isk44) hg (IsS44.own_ne HI0.out HO_1.out (by decide))); have n1_ := Aside0.mk (hb); have n2_ := Aside0.mk (Kept.of_grown (S := (fun k_ => (P1_ k_) ∨ k_ = g)) hg (kpt44) (fun k_ e_ => Or.imp_left Or.inl ((HO_1.out.1 k_ e_)))); have n3_ := Aside0.mk (ho); clear HI0; clear HB; clear HK; clear HO_1; have HI0 := n0_; have HB := n1_; have HK := n2_; have HOq0 := n3_; clear n0_ n1_ n2_ n3_; clear ho hb hg hat))
  go_ret2
  exact ⟨_, by first | rfl | (simp [errW_none, errW_some] <;> rfl) | (simp [*, errW_none, errW_some] <;> rfl), by (with_reducible repeat (first | apply Kd.R_alloc | apply Kd.R_drewN | apply Kd.R_drew)); exact HOq0.out, isk44, isb44, kpt44⟩) : p_ := h_
set_option maxHeartbeats 8000000 in
set_option maxRecDepth 100000 in
theorem lex_reader_escape.calls (k : Nat) (g : Nat) (s0_0 : List Int) (s0_1 : Int) (P1_ : Nat → Prop) (u9000_ : Value) (l1 : List Int) (r1 : List Int) (r2 : Bool) (r3 : Int) (w0 w : World) (hI : IsS44 w0 w g s0_0 s0_1) (hB : Below w0.heap.size w0 w) (ho1 : Kd.R (Kd.int .u8) 5 w w0.heap.size P1_ u9000_ l1) (h : lex_reader_escape.f k s0_0 s0_1 l1 = some (r1, r2, r3)) :
  Calls Tryd.prog 84 #[.pointer (some ⟨g, 0, none⟩), u9000_] w fun e w' => ∃ v0_ : Value, e = .returned (.tuple #[v0_, .bool r2]) ∧ Kd.R (Kd.int .u8) 5 w' w0.heap.size (fun k_ => (P1_ k_ ∨ w.heap.size ≤ k_)) v0_ r1 ∧ IsS44 w0 w' g s0_0 r3 ∧ Below w0.heap.size w0 w' ∧ Kept w w' (fun k_ => (P1_ k_) ∨ k_ = g) := by
 have HO1 := Aside0.mk (show Kd.R (Kd.int .u8) 5 w w0.heap.size (fun k_ => (P1_ k_ ∨ w.heap.size ≤ k_)) u9000_ l1 from Kd.R_mono ho1 (fun k_ hk => (.inl hk)))
 have HI0 := Aside0.mk hI
 have HL := Aside0.mk hB.size
 clear hI
 have HK := Aside0.mk (Kept.refl w (fun k_ => (P1_ k_) ∨ k_ = g))
 have HW0 := Aside0.mk hB.size
 have HB := Aside0.mk hB
 clear hB
 have H : ((lex_reader_peek.f s0_0 s0_1 0).bind fun bt135 => (if bt135.2.1 = true then ((strings_IndexByte.f (⟨#[110, 114, 116, 98, 102]⟩ : ByteArray) bt135.1).bind fun t138 => (if t138 ≥ 0 then (if 0 ≤ t138 then (if t138 < 5 then (if l1.length < 140737488355328 then (some ((l1 ++ [bt (⟨#[10, 13, 9, 8, 12]⟩ : ByteArray) t138]), true, wrap64 (bt135.2.2 + 1))) else (none)) else (none)) else (none)) else (if bt135.1 = 13 then ((lex_reader_peek.f s0_0 (wrap64 (bt135.2.2 + 1)) 0).bind fun bt142 => (if bt142.2.1 = true then (if bt142.1 = 10 then (some (l1, true, wrap64 (bt142.2.2 + 1))) else (some (l1, true, bt142.2.2))) else (some (l1, true, bt142.2.2)))) else (if bt135.1 = 10 then (some (l1, true, wrap64 (bt135.2.2 + 1))) else (if bt135.1 < 48 then (if l1.length < 140737488355328 then (some ((l1 ++ [bt135.1]), true, wrap64 (bt135.2.2 + 1))) else (none)) else (if bt135.1 > 55 then (if l1.length < 140737488355328 then (some ((l1 ++ [bt135.1]), true, wrap64 (bt135.2.2 + 1))) else (none)) else (lex_reader_escape.l0 k l1 ((bt135.1 - 48) % 256) 0 s0_0 (wrap64 (bt135.2.2 + 1))))))))) else (some (([] : List Int), false, bt135.2.2)))) = some (r1, r2, r3) := h
 clear h
 replace H := Option.bind_eq_some_iff.mp H
 obtain ⟨⟨t135, t136, t137⟩, A30, H⟩ := H
 replace H : (if t136 = true then ((strings_IndexByte.f (⟨#[110, 114, 116, 98, 102]⟩ : ByteArray) t135).bind fun t138 => (if t138 ≥ 0 then (if 0 ≤ t138 then (if t138 < 5 then (if l1.length < 140737488355328 then (some ((l1 ++ [bt (⟨#[10, 13, 9, 8, 12]⟩ : ByteArray) t138]), true, wrap64 (t137 + 1))) else (none)) else (none)) else (none)) else (if t135 = 13 then ((lex_reader_peek.f s0_0 (wrap64 (t137 + 1)) 0).bind fun bt142 => (if bt142.2.1 = true then (if bt142.1 = 10 then (some (l1, true, wrap64 (bt142.2.2 + 1))) else (some (l1, true, bt142.2.2))) else (some (l1, true, bt142.2.2)))) else (if t135 = 10 then (some (l1, true, wrap64 (t137 + 1))) else (if t135 < 48 then (if l1.length < 140737488355328 then (some ((l1 ++ [t135]), true, wrap64 (t137 + 1))) else (none)) else (if t135 > 55 then (if l1.length < 140737488355328 then (some ((l1 ++ [t135]), true, wrap64 (t137 + 1))) else (none)) else (lex_reader_escape.l0 k l1 ((t135 - 48) % 256) 0 s0_0 (wrap64 (t137 + 1))))))))) else (some (([] : List Int), false, t137))) = some (r1, r2, r3) := H
 have A3 := Aside0.mk A30
 clear A30
 by_cases c4 : t136 = true
 ·subst c4
  have H1 : ((strings_IndexByte.f (⟨#[110, 114, 116, 98, 102]⟩ : ByteArray) t135).bind fun t138 => (if t138 ≥ 0 then (if 0 ≤ t138 then (if t138 < 5 then (if l1.length < 140737488355328 then (some ((l1 ++ [bt (⟨#[10, 13, 9, 8, 12]⟩ : ByteArray) t138]), true, wrap64 (t137 + 1))) else (none)) else (none)) else (none)) else (if t135 = 13 then ((lex_reader_peek.f s0_0 (wrap64 (t137 + 1)) 0).bind fun bt142 => (if bt142.2.1 = true then (if bt142.1 = 10 then (some (l1, true, wrap64 (bt142.2.2 + 1))) else (some (l1, true, bt142.2.2))) else (some (l1, true, bt142.2.2)))) else (if t135 = 10 then (some (l1, true, wrap64 (t137 + 1))) else (if t135 < 48 then (if l1.length < 140737488355328 then (some ((l1 ++ [t135]), true, wrap64 (t137 + 1))) else (none)) else (if t135 > 55 then (if l1.length < 140737488355328 then (some ((l1 ++ [t135]), true, wrap64 (t137 + 1))) else (none)) else (lex_reader_escape.l0 k l1 ((t135 - 48) % 256) 0 s0_0 (wrap64 (t137 + 1))))))))) = some (r1, r2, r3) := by rw [if_pos rfl] at H; exact H
  clear H
  have H := H1
  clear H1
  replace H := Option.bind_eq_some_iff.mp H
  obtain ⟨t138, A50, H⟩ := H
  replace H : (if t138 ≥ 0 then (if 0 ≤ t138 then (if t138 < 5 then (if l1.length < 140737488355328 then (some ((l1 ++ [bt (⟨#[10, 13, 9, 8, 12]⟩ : ByteArray) t138]), true, wrap64 (t137 + 1))) else (none)) else (none)) else (none)) else (if t135 = 13 then ((lex_reader_peek.f s0_0 (wrap64 (t137 + 1)) 0).bind fun bt142 => (if bt142.2.1 = true then (if bt142.1 = 10 then (some (l1, true, wrap64 (bt142.2.2 + 1))) else (some (l1, true, bt142.2.2))) else (some (l1, true, bt142.2.2)))) else (if t135 = 10 then (some (l1, true, wrap64 (t137 + 1))) else (if t135 < 48 then (if l1.length < 140737488355328 then (some ((l1 ++ [t135]), true, wrap64 (t137 + 1))) else (none)) else (if t135 > 55 then (if l1.length < 140737488355328 then (some ((l1 ++ [t135]), true, wrap64 (t137 + 1))) else (none)) else (lex_reader_escape.l0 k l1 ((t135 - 48) % 256) 0 s0_0 (wrap64 (t137 + 1)))))))) = some (r1, r2, r3) := H
  have A5 := Aside0.mk A50
  clear A50
  by_cases c6 : t138 ≥ 0
  ·rw [if_pos c6] at H
   have c6b0 : decide (0 ≤ t138) = true := decide_eq_true c6
   clear c6
   by_cases c7 : 0 ≤ t138
   ·rw [if_pos c7] at H
    have c7b0 : decide (0 ≤ t138) = true := decide_eq_true c7
    clear c7
    by_cases c8 : t138 < 5
    ·rw [if_pos c8] at H
     have c8b0 : decide (t138 < 5) = true := decide_eq_true c8
     clear c8
     by_cases c10 : l1.length < 140737488355328
     ·rw [if_pos c10] at H
      have LMcq0 := Aside0.mk c10
      clear c10
      obtain ⟨yq0, hy139⟩ : ∃ y_ : List Int, y_ = (l1 ++ [bt (⟨#[10, 13, 9, 8, 12]⟩ : ByteArray) t138]) := ⟨_, rfl⟩
      replace H : (some (yq0, true, wrap64 (t137 + 1))) = some (r1, r2, r3) := by first | (rw [hy139]; with_reducible exact H) | (have H2_ := (Option.bind_some _ _).symm.trans H; rw [hy139]; with_reducible exact H2_) | (have H2_ := (Option.bind_some _ _).symm.trans H; with_reducible exact H2_) | with_reducible exact H | (rw [hy139]; exact H) | exact H
      have Nyq0 := Aside0.mk hy139
      clear hy139
      simp only [Option.some.injEq, Prod.mk.injEq] at H
      obtain ⟨rfl, rfl, rfl⟩ := H
      go_enter Tryd.func84, Tryd.ntmps84
      go_wp2_with (first | ((with_reducible refine gate_callee (f := 47) rfl ?_); refine goesL_ (some 16) rfl rfl Tryd.func47 (by kernel_rfl) rfl #[.pointer (some ⟨g, 0, none⟩), .int .i64 0] rfl gl_ ?_; (with_reducible refine (lex_reader_peek.calls g s0_0 s0_1 0 t135 true t137 w0 _ ?side1 ?side2 A3.out).mono ?_); (case side1 => exact isk44); (case side2 => exact isb44); rintro e wq0 ⟨rfl, hi, hb, hk⟩; refine ⟨_, rfl, ?_⟩; have n0_ := Aside0.mk (Kd.R_mono (Kd.R_keep (IsS44.apart (show IsS44 w0 _ g s0_0 s0_1 from isk44) (rkk HO1.out) (by decide)) hk (fun _ h => h.2)) (fun _ h => h.1)); have n1_ := Aside0.mk (Kept.of_keep (S := (fun k_ => (P1_ k_) ∨ k_ = g)) (kpt44) hk (.inl (.inr rfl))); have n2_ := Aside0.mk (hb); have n3_ := Aside0.mk (hi); clear HO1; clear HK; clear HB; clear HI0; have HO1 := n0_; have HK := n1_; have HB := n2_; have HI0 := n3_; clear n0_ n1_ n2_ n3_; (try clear hb); (try clear hb2); (try clear hk); (try clear hi); obtain ⟨ASzq0, cSzq0, HGzq0, hgzq0, HSzq0⟩ := HI0.out; have hcz12_0 := cellS44_0 HGzq0; have hcz12_1 := cellS44_1 HGzq0; have hfz12_1 := blk_frozen HGzq0 1; clear HGzq0 hgzq0) | ((with_reducible refine gate_callee (f := 58) rfl ?_); refine goesL_ (some 29) rfl rfl Tryd.func58 (by kernel_rfl) rfl #[.string (⟨#[110, 114, 116, 98, 102]⟩ : ByteArray), .int .u8 t135] rfl gl_ ?_; (with_reducible refine (strings_IndexByte.calls (⟨#[110, 114, 116, 98, 102]⟩ : ByteArray) t135 t138 _ A5.out).mono ?_); rintro e wq1 ⟨rfl, hb⟩; refine ⟨_, rfl, ?_⟩; have n0_ := Aside0.mk (Kd.R_below (by (with_reducible repeat (first | apply Kd.R_alloc | apply Kd.R_drewN | apply Kd.R_drew)); exact (Kd.R_mono (Kd.R_far (p := ⟨g, 1, none⟩) (IsS44.apart HI0.out HO1.out (by decide)) (fun _ hk => hk.2) (.int .i64 (wrap64 (t137 + 1)))) (fun _ h_ => h_.1))) hb); have n1_ := Aside0.mk (IsS44.below (show IsS44 w0 (wq0.setCell ⟨g, 1, none⟩ (.int .i64 (wrap64 (t137 + 1)))) g s0_0 (wrap64 (t137 + 1)) from isk44) hb); have n2_ := Aside0.mk (Kept.below (w := w) (S := (fun k_ => (P1_ k_) ∨ k_ = g)) (kpt44) hb); have n3_ := Aside0.mk (below_step (isb44) hb); clear HO1; clear HI0; clear HK; clear HB; have HO1 := n0_; have HI0 := n1_; have HK := n2_; have HB := n3_; clear n0_ n1_ n2_ n3_; (try clear hb); (try clear hb2); (try clear hk); (try clear hi); have p9 : 0 ≤ (t138 : Int) := of_decide_eq_true (by first | (with_reducible assumption) | assumption); have q9 : t138 < (5 : Int) := of_decide_eq_true (by first | (with_reducible assumption) | assumption); have hx9 := bt_at (⟨#[10, 13, 9, 8, 12]⟩ : ByteArray) t138; replace p9 := eq_true p9; replace q9 := eq_true q9) | ((with_reducible refine gate_builtin (b := .append) (xs := #[.tmp 33, .tmp 36]) rfl ?_); at_builtin; refine Kd.R_append (Kd.int .u8) (w0 := w0) w0.heap.size rfl (.tmp 33) (.tmp 36) 22 5 (.int .u8 0) 1 rfl Tryd.underlying22 info5 rfl (by decide) (by omega) u9000_ l1 (bt (⟨#[10, 13, 9, 8, 12]⟩ : ByteArray) t138) [.int .u8 (bt (⟨#[10, 13, 9, 8, 12]⟩ : ByteArray) t138)] (fun k_ => (P1_ k_ ∨ w.heap.size ≤ k_)) (fun _ => False) rfl rfl ?aP (fun _ hk => hk.elim) ?aF ?aO ?aB ?aS ?aL ?_; (case aP => exact rfl); (case aB => exact (isb44)); (case aF => exact (fun k_ hk => (.inr (Nat.le_trans (by first | exact HK.out.1 | exact (show Kept w _ (fun k_ => (P1_ k_) ∨ k_ = g) from kpt44).1) hk)))); (case aO => exact (rkk HO1.out)); (case aS => exact (below_size (isb44))); (case aL => have := LMcq0.out; omega); intro vq0 wq2 ho hb hg hat; rw [← Nyq0.out] at ho; have n0_ := Aside0.mk (IsS44.grown (isk44) hg (IsS44.own_ne HI0.out HO1.out (by decide))); have n1_ := Aside0.mk (hb); have n2_ := Aside0.mk (Kept.of_grown (S := (fun k_ => (P1_ k_) ∨ k_ = g)) hg (kpt44) (fun k_ e_ => Or.imp_left Or.inl ((HO1.out.1 k_ e_)))); have n3_ := Aside0.mk (ho); clear HI0; clear HB; clear HK; clear HO1; have HI0 := n0_; have HB := n1_; have HK := n2_; have HOq0 := n3_; clear n0_ n1_ n2_ n3_; clear ho hb hg hat))
      go_ret2
      exact ⟨_, by first | rfl | (simp [errW_none, errW_some] <;> rfl) | (simp [*, errW_none, errW_some] <;> rfl), by (with_reducible repeat (first | apply Kd.R_alloc | apply Kd.R_drewN | apply Kd.R_drew)); exact HOq0.out, isk44, isb44, kpt44⟩
     ·rw [if_neg c10] at H
      exact absurd H (by simp)
    ·rw [if_neg c8] at H
     exact absurd H (by simp)
   ·rw [if_neg c7] at H
    exact absurd H (by simp)
  ·rw [if_neg c6] at H
   have c6b0 : decide (0 ≤ t138) = false := decide_eq_false c6
   clear c6
   by_cases c15 : t135 = 13
   ·rw [if_pos c15] at H
    have c15b0 : (t135 == 13) = true := beq_iff_eq.mpr c15
    have c15b1 : (t135 != 13) = false := bne_eq_false_iff_eq.mpr c15
    clear c15
    replace H := Option.bind_eq_some_iff.mp H
    obtain ⟨⟨t142, t143, t144⟩, A160, H⟩ := H
    replace H : (if t143 = true then (if t142 = 10 then (some (l1, true, wrap64 (t144 + 1))) else (some (l1, true, t144))) else (some (l1, true, t144))) = some (r1, r2, r3) := H
    have A16 := Aside0.mk A160
    clear A160
    by_cases c17 : t143 = true
    ·subst c17
     have H1 : (if t142 = 10 then (some (l1, true, wrap64 (t144 + 1))) else (some (l1, true, t144))) = some (r1, r2, r3) := by rw [if_pos rfl] at H; exact H
     clear H
     have H := H1
     clear H1
     by_cases c18 : t142 = 10
     ·rw [if_pos c18] at H
      have c18b0 : (t142 == 10) = true := beq_iff_eq.mpr c18
      have c18b1 : (t142 != 10) = false := bne_eq_false_iff_eq.mpr c18
      clear c18
      simp only [Option.some.injEq, Prod.mk.injEq] at H
      obtain ⟨rfl, rfl, rfl⟩ := H
      go_enter Tryd.func84, Tryd.ntmps84
      go_wp2_with (first | ((with_reducible refine gate_callee (f := 47) rfl ?_); refine goesL_ (some 16) rfl rfl Tryd.func47 (by kernel_rfl) rfl #[.pointer (some ⟨g, 0, none⟩), .int .i64 0] rfl gl_ ?_; (with_reducible refine (lex_reader_peek.calls g s0_0 s0_1 0 t135 true t137 w0 _ ?side1 ?side2 A3.out).mono ?_); (case side1 => exact isk44); (case side2 => exact isb44); rintro e wq0 ⟨rfl, hi, hb, hk⟩; refine ⟨_, rfl, ?_⟩; have n0_ := Aside0.mk (Kd.R_mono (Kd.R_keep (IsS44.apart (show IsS44 w0 _ g s0_0 s0_1 from isk44) (rkk HO1.out) (by decide)) hk (fun _ h => h.2)) (fun _ h => h.1)); have n1_ := Aside0.mk (Kept.of_keep (S := (fun k_ => (P1_ k_) ∨ k_ = g)) (kpt44) hk (.inl (.inr rfl))); have n2_ := Aside0.mk (hb); have n3_ := Aside0.mk (hi); clear HO1; clear HK; clear HB; clear HI0; have HO1 := n0_; have HK := n1_; have HB := n2_; have HI0 := n3_; clear n0_ n1_ n2_ n3_; (try clear hb); (try clear hb2); (try clear hk); (try clear hi); obtain ⟨ASzq0, cSzq0, HGzq0, hgzq0, HSzq0⟩ := HI0.out; have hcz20_0 := cellS44_0 HGzq0; have hcz20_1 := cellS44_1 HGzq0; have hfz20_1 := blk_frozen HGzq0 1; clear HGzq0 hgzq0) | ((with_reducible refine gate_callee (f := 58) rfl ?_); refine goesL_ (some 29) rfl rfl Tryd.func58 (by kernel_rfl) rfl #[.string (⟨#[110, 114, 116, 98, 102]⟩ : ByteArray), .int .u8 t135] rfl gl_ ?_; (with_reducible refine (strings_IndexByte.calls (⟨#[110, 114, 116, 98, 102]⟩ : ByteArray) t135 t138 _ A5.out).mono ?_); rintro e wq1 ⟨rfl, hb⟩; refine ⟨_, rfl, ?_⟩; have n0_ := Aside0.mk (Kd.R_below (by (with_reducible repeat (first | apply Kd.R_alloc | apply Kd.R_drewN | apply Kd.R_drew)); exact (Kd.R_mono (Kd.R_far (p := ⟨g, 1, none⟩) (IsS44.apart HI0.out HO1.out (by decide)) (fun _ hk => hk.2) (.int .i64 (wrap64 (t137 + 1)))) (fun _ h_ => h_.1))) hb); have n1_ := Aside0.mk (IsS44.below (show IsS44 w0 (wq0.setCell ⟨g, 1, none⟩ (.int .i64 (wrap64 (t137 + 1)))) g s0_0 (wrap64 (t137 + 1)) from isk44) hb); have n2_ := Aside0.mk (Kept.below (w := w) (S := (fun k_ => (P1_ k_) ∨ k_ = g)) (kpt44) hb); have n3_ := Aside0.mk (below_step (isb44) hb); clear HO1; clear HI0; clear HK; clear HB; have HO1 := n0_; have HI0 := n1_; have HK := n2_; have HB := n3_; clear n0_ n1_ n2_ n3_; (try clear hb); (try clear hb2); (try clear hk); (try clear hi)) | ((with_reducible refine gate_callee (f := 47) rfl ?_); refine goesL_ (some 43) rfl rfl Tryd.func47 (by kernel_rfl) rfl #[.pointer (some ⟨g, 0, none⟩), .int .i64 0] rfl gl_ ?_; (with_reducible refine (lex_reader_peek.calls g s0_0 (wrap64 (t137 + 1)) 0 t142 true t144 w0 _ ?side1 ?side2 A16.out).mono ?_); (case side1 => exact isk44); (case side2 => exact isb44); rintro e wq2 ⟨rfl, hi, hb, hk⟩; refine ⟨_, rfl, ?_⟩; have n0_ := Aside0.mk (Kd.R_mono (Kd.R_keep (IsS44.apart (show IsS44 w0 _ g s0_0 (wrap64 (t137 + 1)) from isk44) (rkk HO1.out) (by decide)) hk (fun _ h => h.2)) (fun _ h => h.1)); have n1_ := Aside0.mk (Kept.of_keep (S := (fun k_ => (P1_ k_) ∨ k_ = g)) (kpt44) hk (.inl (.inr rfl))); have n2_ := Aside0.mk (hb); have n3_ := Aside0.mk (hi); clear HO1; clear HK; clear HB; clear HI0; have HO1 := n0_; have HK := n1_; have HB := n2_; have HI0 := n3_; clear n0_ n1_ n2_ n3_; (try clear hb); (try clear hb2); (try clear hk); (try clear hi); obtain ⟨ASzq1, cSzq1, HGzq1, hgzq1, HSzq1⟩ := HI0.out; have hcz23_0 := cellS44_0 HGzq1; have hcz23_1 := cellS44_1 HGzq1; have hfz23_1 := blk_frozen HGzq1 1; clear HGzq1 hgzq1))
      go_ret2
      exact ⟨_, by first | rfl | (simp [errW_none, errW_some] <;> rfl) | (simp [*, errW_none, errW_some] <;> rfl), by (with_reducible repeat (first | apply Kd.R_alloc | apply Kd.R_drewN | apply Kd.R_drew)); exact Kd.R_mono (Kd.R_far (p := ⟨g, 1, none⟩) (IsS44.apart HI0.out HO1.out (by decide)) (fun _ hk => hk.2) (.int .i64 (wrap64 (t144 + 1)))) (fun _ hk => hk.1), isk44, isb44, kpt44⟩
     ·rw [if_neg c18] at H
      have c18b0 : (t142 == 10) = false := beq_eq_false_iff_ne.mpr c18
      have c18b1 : (t142 != 10) = true := bne_iff_ne.mpr c18
      simp only [Option.some.injEq, Prod.mk.injEq] at H
      obtain ⟨rfl, rfl, rfl⟩ := H
      go_enter Tryd.func84, Tryd.ntmps84
      go_wp2_with (first | ((with_reducible refine gate_callee (f := 47) rfl ?_); refine goesL_ (some 16) rfl rfl Tryd.func47 (by kernel_rfl) rfl #[.pointer (some ⟨g, 0, none⟩), .int .i64 0] rfl gl_ ?_; (with_reducible refine (lex_reader_peek.calls g s0_0 s0_1 0 t135 true t137 w0 _ ?side1 ?side2 A3.out).mono ?_); (case side1 => exact isk44); (case side2 => exact isb44); rintro e wq0 ⟨rfl, hi, hb, hk⟩; refine ⟨_, rfl, ?_⟩; have n0_ := Aside0.mk (Kd.R_mono (Kd.R_keep (IsS44.apart (show IsS44 w0 _ g s0_0 s0_1 from isk44) (rkk HO1.out) (by decide)) hk (fun _ h => h.2)) (fun _ h => h.1)); have n1_ := Aside0.mk (Kept.of_keep (S := (fun k_ => (P1_ k_) ∨ k_ = g)) (kpt44) hk (.inl (.inr rfl))); have n2_ := Aside0.mk (hb); have n3_ := Aside0.mk (hi); clear HO1; clear HK; clear HB; clear HI0; have HO1 := n0_; have HK := n1_; have HB := n2_; have HI0 := n3_; clear n0_ n1_ n2_ n3_; (try clear hb); (try clear hb2); (try clear hk); (try clear hi); obtain ⟨ASzq0, cSzq0, HGzq0, hgzq0, HSzq0⟩ := HI0.out; have hcz25_0 := cellS44_0 HGzq0; have hcz25_1 := cellS44_1 HGzq0; have hfz25_1 := blk_frozen HGzq0 1; clear HGzq0 hgzq0) | ((with_reducible refine gate_callee (f := 58) rfl ?_); refine goesL_ (some 29) rfl rfl Tryd.func58 (by kernel_rfl) rfl #[.string (⟨#[110, 114, 116, 98, 102]⟩ : ByteArray), .int .u8 t135] rfl gl_ ?_; (with_reducible refine (strings_IndexByte.calls (⟨#[110, 114, 116, 98, 102]⟩ : ByteArray) t135 t138 _ A5.out).mono ?_); rintro e wq1 ⟨rfl, hb⟩; refine ⟨_, rfl, ?_⟩; have n0_ := Aside0.mk (Kd.R_below (by (with_reducible repeat (first | apply Kd.R_alloc | apply Kd.R_drewN | apply Kd.R_drew)); exact (Kd.R_mono (Kd.R_far (p := ⟨g, 1, none⟩) (IsS44.apart HI0.out HO1.out (by decide)) (fun _ hk => hk.2) (.int .i64 (wrap64 (t137 + 1)))) (fun _ h_ => h_.1))) hb); have n1_ := Aside0.mk (IsS44.below (show IsS44 w0 (wq0.setCell ⟨g, 1, none⟩ (.int .i64 (wrap64 (t137 + 1)))) g s0_0 (wrap64 (t137 + 1)) from isk44) hb); have n2_ := Aside0.mk (Kept.below (w := w) (S := (fun k_ => (P1_ k_) ∨ k_ = g)) (kpt44) hb); have n3_ := Aside0.mk (below_step (isb44) hb); clear HO1; clear HI0; clear HK; clear HB; have HO1 := n0_; have HI0 := n1_; have HK := n2_; have HB := n3_; clear n0_ n1_ n2_ n3_; (try clear hb); (try clear hb2); (try clear hk); (try clear hi)) | ((with_reducible refine gate_callee (f := 47) rfl ?_); refine goesL_ (some 43) rfl rfl Tryd.func47 (by kernel_rfl) rfl #[.pointer (some ⟨g, 0, none⟩), .int .i64 0] rfl gl_ ?_; (with_reducible refine (lex_reader_peek.calls g s0_0 (wrap64 (t137 + 1)) 0 t142 true t144 w0 _ ?side1 ?side2 A16.out).mono ?_); (case side1 => exact isk44); (case side2 => exact isb44); rintro e wq2 ⟨rfl, hi, hb, hk⟩; refine ⟨_, rfl, ?_⟩; have n0_ := Aside0.mk (Kd.R_mono (Kd.R_keep (IsS44.apart (show IsS44 w0 _ g s0_0 (wrap64 (t137 + 1)) from isk44) (rkk HO1.out) (by decide)) hk (fun _ h => h.2)) (fun _ h => h.1)); have n1_ := Aside0.mk (Kept.of_keep (S := (fun k_ => (P1_ k_) ∨ k_ = g)) (kpt44) hk (.inl (.inr rfl))); have n2_ := Aside0.mk (hb); have n3_ := Aside0.mk (hi); clear HO1; clear HK; clear HB; clear HI0; have HO1 := n0_; have HK := n1_; have HB := n2_; have HI0 := n3_; clear n0_ n1_ n2_ n3_; (try clear hb); (try clear hb2); (try clear hk); (try clear hi)))
      go_ret2
      exact ⟨_, by first | rfl | (simp [errW_none, errW_some] <;> rfl) | (simp [*, errW_none, errW_some] <;> rfl), by (with_reducible repeat (first | apply Kd.R_alloc | apply Kd.R_drewN | apply Kd.R_drew)); exact HO1.out, isk44, isb44, kpt44⟩
    ·replace c17 := Bool.eq_false_iff.mpr c17
     subst c17
     have H1 : (some (l1, true, t144)) = some (r1, r2, r3) := by rw [if_neg (show ¬ (false = true) by decide)] at H; exact H
     clear H
     have H := H1
     clear H1
     simp only [Option.some.injEq, Prod.mk.injEq] at H
     obtain ⟨rfl, rfl, rfl⟩ := H
     go_enter Tryd.func84, Tryd.ntmps84
     go_wp2_with (first | ((with_reducible refine gate_callee (f := 47) rfl ?_); refine goesL_ (some 16) rfl rfl Tryd.func47 (by kernel_rfl) rfl #[.pointer (some ⟨g, 0, none⟩), .int .i64 0] rfl gl_ ?_; (with_reducible refine (lex_reader_peek.calls g s0_0 s0_1 0 t135 true t137 w0 _ ?side1 ?side2 A3.out).mono ?_); (case side1 => exact isk44); (case side2 => exact isb44); rintro e wq0 ⟨rfl, hi, hb, hk⟩; refine ⟨_, rfl, ?_⟩; have n0_ := Aside0.mk (Kd.R_mono (Kd.R_keep (IsS44.apart (show IsS44 w0 _ g s0_0 s0_1 from isk44) (rkk HO1.out) (by decide)) hk (fun _ h => h.2)) (fun _ h => h.1)); have n1_ := Aside0.mk (Kept.of_keep (S := (fun k_ => (P1_ k_) ∨ k_ = g)) (kpt44) hk (.inl (.inr rfl))); have n2_ := Aside0.mk (hb); have n3_ := Aside0.mk (hi); clear HO1; clear HK; clear HB; clear HI0; have HO1 := n0_; have HK := n1_; have HB := n2_; have HI0 := n3_; clear n0_ n1_ n2_ n3_; (try clear hb); (try clear hb2); (try clear hk); (try clear hi); obtain ⟨ASzq0, cSzq0, HGzq0, hgzq0, HSzq0⟩ := HI0.out; have hcz29_0 := cellS44_0 HGzq0; have hcz29_1 := cellS44_1 HGzq0; have hfz29_1 := blk_frozen HGzq0 1; clear HGzq0 hgzq0) | ((with_reducible refine gate_callee (f := 58) rfl ?_); refine goesL_ (some 29) rfl rfl Tryd.func58 (by kernel_rfl) rfl #[.string (⟨#[110, 114, 116, 98, 102]⟩ : ByteArray), .int .u8 t135] rfl gl_ ?_; (with_reducible refine (strings_IndexByte.calls (⟨#[110, 114, 116, 98, 102]⟩ : ByteArray) t135 t138 _ A5.out).mono ?_); rintro e wq1 ⟨rfl, hb⟩; refine ⟨_, rfl, ?_⟩; have n0_ := Aside0.mk (Kd.R_below (by (with_reducible repeat (first | apply Kd.R_alloc | apply Kd.R_drewN | apply Kd.R_drew)); exact (Kd.R_mono (Kd.R_far (p := ⟨g, 1, none⟩) (IsS44.apart HI0.out HO1.out (by decide)) (fun _ hk => hk.2) (.int .i64 (wrap64 (t137 + 1)))) (fun _ h_ => h_.1))) hb); have n1_ := Aside0.mk (IsS44.below (show IsS44 w0 (wq0.setCell ⟨g, 1, none⟩ (.int .i64 (wrap64 (t137 + 1)))) g s0_0 (wrap64 (t137 + 1)) from isk44) hb); have n2_ := Aside0.mk (Kept.below (w := w) (S := (fun k_ => (P1_ k_) ∨ k_ = g)) (kpt44) hb); have n3_ := Aside0.mk (below_step (isb44) hb); clear HO1; clear HI0; clear HK; clear HB; have HO1 := n0_; have HI0 := n1_; have HK := n2_; have HB := n3_; clear n0_ n1_ n2_ n3_; (try clear hb); (try clear hb2); (try clear hk); (try clear hi)) | ((with_reducible refine gate_callee (f := 47) rfl ?_); refine goesL_ (some 43) rfl rfl Tryd.func47 (by kernel_rfl) rfl #[.pointer (some ⟨g, 0, none⟩), .int .i64 0] rfl gl_ ?_; (with_reducible refine (lex_reader_peek.calls g s0_0 (wrap64 (t137 + 1)) 0 t142 false t144 w0 _ ?side1 ?side2 A16.out).mono ?_); (case side1 => exact isk44); (case side2 => exact isb44); rintro e wq2 ⟨rfl, hi, hb, hk⟩; refine ⟨_, rfl, ?_⟩; have n0_ := Aside0.mk (Kd.R_mono (Kd.R_keep (IsS44.apart (show IsS44 w0 _ g s0_0 (wrap64 (t137 + 1)) from isk44) (rkk HO1.out) (by decide)) hk (fun _ h => h.2)) (fun _ h => h.1)); have n1_ := Aside0.mk (Kept.of_keep (S := (fun k_ => (P1_ k_) ∨ k_ = g)) (kpt44) hk (.inl (.inr rfl))); have n2_ := Aside0.mk (hb); have n3_ := Aside0.mk (hi); clear HO1; clear HK; clear HB; clear HI0; have HO1 := n0_; have HK := n1_; have HB := n2_; have HI0 := n3_; clear n0_ n1_ n2_ n3_; (try clear hb); (try clear hb2); (try clear hk); (try clear hi)))
     go_ret2
     exact ⟨_, by first | rfl | (simp [errW_none, errW_some] <;> rfl) | (simp [*, errW_none, errW_some] <;> rfl), by (with_reducible repeat (first | apply Kd.R_alloc | apply Kd.R_drewN | apply Kd.R_drew)); exact HO1.out, isk44, isb44, kpt44⟩
   ·rw [if_neg c15] at H
    have c15b0 : (t135 == 13) = false := beq_eq_false_iff_ne.mpr c15
    have c15b1 : (t135 != 13) = true := bne_iff_ne.mpr c15
    by_cases c32 : t135 = 10
    ·rw [if_pos c32] at H
     have c32b0 : (t135 == 10) = true := beq_iff_eq.mpr c32
     have c32b1 : (t135 != 10) = false := bne_eq_false_iff_eq.mpr c32
     clear c32
     simp only [Option.some.injEq, Prod.mk.injEq] at H
     obtain ⟨rfl, rfl, rfl⟩ := H
     go_enter Tryd.func84, Tryd.ntmps84
     go_wp2_with (first | ((with_reducible refine gate_callee (f := 47) rfl ?_); refine goesL_ (some 16) rfl rfl Tryd.func47 (by kernel_rfl) rfl #[.pointer (some ⟨g, 0, none⟩), .int .i64 0] rfl gl_ ?_; (with_reducible refine (lex_reader_peek.calls g s0_0 s0_1 0 t135 true t137 w0 _ ?side1 ?side2 A3.out).mono ?_); (case side1 => exact isk44); (case side2 => exact isb44); rintro e wq0 ⟨rfl, hi, hb, hk⟩; refine ⟨_, rfl, ?_⟩; have n0_ := Aside0.mk (Kd.R_mono (Kd.R_keep (IsS44.apart (show IsS44 w0 _ g s0_0 s0_1 from isk44) (rkk HO1.out) (by decide)) hk (fun _ h => h.2)) (fun _ h => h.1)); have n1_ := Aside0.mk (Kept.of_keep (S := (fun k_ => (P1_ k_) ∨ k_ = g)) (kpt44) hk (.inl (.inr rfl))); have n2_ := Aside0.mk (hb); have n3_ := Aside0.mk (hi); clear HO1; clear HK; clear HB; clear HI0; have HO1 := n0_; have HK := n1_; have HB := n2_; have HI0 := n3_; clear n0_ n1_ n2_ n3_; (try clear hb); (try clear hb2); (try clear hk); (try clear hi); obtain ⟨ASzq0, cSzq0, HGzq0, hgzq0, HSzq0⟩ := HI0.out; have hcz34_0 := cellS44_0 HGzq0; have hcz34_1 := cellS44_1 HGzq0; have hfz34_1 := blk_frozen HGzq0 1; clear HGzq0 hgzq0) | ((with_reducible refine gate_callee (f := 58) rfl ?_); refine goesL_ (some 29) rfl rfl Tryd.func58 (by kernel_rfl) rfl #[.string (⟨#[110, 114, 116, 98, 102]⟩ : ByteArray), .int .u8 t135] rfl gl_ ?_; (with_reducible refine (strings_IndexByte.calls (⟨#[110, 114, 116, 98, 102]⟩ : ByteArray) t135 t138 _ A5.out).mono ?_); rintro e wq1 ⟨rfl, hb⟩; refine ⟨_, rfl, ?_⟩; have n0_ := Aside0.mk (Kd.R_below (by (with_reducible repeat (first | apply Kd.R_alloc | apply Kd.R_drewN | apply Kd.R_drew)); exact (Kd.R_mono (Kd.R_far (p := ⟨g, 1, none⟩) (IsS44.apart HI0.out HO1.out (by decide)) (fun _ hk => hk.2) (.int .i64 (wrap64 (t137 + 1)))) (fun _ h_ => h_.1))) hb); have n1_ := Aside0.mk (IsS44.below (show IsS44 w0 (wq0.setCell ⟨g, 1, none⟩ (.int .i64 (wrap64 (t137 + 1)))) g s0_0 (wrap64 (t137 + 1)) from isk44) hb); have n2_ := Aside0.mk (Kept.below (w := w) (S := (fun k_ => (P1_ k_) ∨ k_ = g)) (kpt44) hb); have n3_ := Aside0.mk (below_step (isb44) hb); clear HO1; clear HI0; clear HK; clear HB; have HO1 := n0_; have HI0 := n1_; have HK := n2_; have HB := n3_; clear n0_ n1_ n2_ n3_; (try clear hb); (try clear hb2); (try clear hk); (try clear hi)))
     go_ret2
     exact ⟨_, by first | rfl | (simp [errW_none, errW_some] <;> rfl) | (simp [*, errW_none, errW_some] <;> rfl), by (with_reducible repeat (first | apply Kd.R_alloc | apply Kd.R_drewN | apply Kd.R_drew)); exact HO1.out, isk44, isb44, kpt44⟩
    ·rw [if_neg c32] at H
     have c32b0 : (t135 == 10) = false := beq_eq_false_iff_ne.mpr c32
     have c32b1 : (t135 != 10) = true := bne_iff_ne.mpr c32
     by_cases c36 : t135 < 48
     ·rw [if_pos c36] at H
      have c36b0 : decide (t135 < 48) = true := decide_eq_true c36
      clear c36
      by_cases c37 : l1.length < 140737488355328
      ·rw [if_pos c37] at H
       have LMcq0 := Aside0.mk c37
       clear c37
       obtain ⟨yq0, hy145⟩ : ∃ y_ : List Int, y_ = (l1 ++ [t135]) := ⟨_, rfl⟩
       replace H : (some (yq0, true, wrap64 (t137 + 1))) = some (r1, r2, r3) := by first | (rw [hy145]; with_reducible exact H) | (have H2_ := (Option.bind_some _ _).symm.trans H; rw [hy145]; with_reducible exact H2_) | (have H2_ := (Option.bind_some _ _).symm.trans H; with_reducible exact H2_) | with_reducible exact H | (rw [hy145]; exact H) | exact H
       have Nyq0 := Aside0.mk hy145
       clear hy145
       simp only [Option.some.injEq, Prod.mk.injEq] at H
       obtain ⟨rfl, rfl, rfl⟩ := H
       go_enter Tryd.func84, Tryd.ntmps84
       go_wp2_with (first | ((with_reducible refine gate_callee (f := 47) rfl ?_); refine goesL_ (some 16) rfl rfl Tryd.func47 (by kernel_rfl) rfl #[.pointer (some ⟨g, 0, none⟩), .int .i64 0] rfl gl_ ?_; (with_reducible refine (lex_reader_peek.calls g s0_0 s0_1 0 t135 true t137 w0 _ ?side1 ?side2 A3.out).mono ?_); (case side1 => exact isk44); (case side2 => exact isb44); rintro e wq0 ⟨rfl, hi, hb, hk⟩; refine ⟨_, rfl, ?_⟩; have n0_ := Aside0.mk (Kd.R_mono (Kd.R_keep (IsS44.apart (show IsS44 w0 _ g s0_0 s0_1 from isk44) (rkk HO1.out) (by decide)) hk (fun _ h => h.2)) (fun _ h => h.1)); have n1_ := Aside0.mk (Kept.of_keep (S := (fun k_ => (P1_ k_) ∨ k_ = g)) (kpt44) hk (.inl (.inr rfl))); have n2_ := Aside0.mk (hb); have n3_ := Aside0.mk (hi); clear HO1; clear HK; clear HB; clear HI0; have HO1 := n0_; have HK := n1_; have HB := n2_; have HI0 := n3_; clear n0_ n1_ n2_ n3_; (try clear hb); (try clear hb2); (try clear hk); (try clear hi); obtain ⟨ASzq0, cSzq0, HGzq0, hgzq0, HSzq0⟩ := HI0.out; have hcz39_0 := cellS44_0 HGzq0; have hcz39_1 := cellS44_1 HGzq0; have hfz39_1 := blk_frozen HGzq0 1; clear HGzq0 hgzq0) | ((with_reducible refine gate_callee (f := 58) rfl ?_); refine goesL_ (some 29) rfl rfl Tryd.func58 (by kernel_rfl) rfl #[.string (⟨#[110, 114, 116, 98, 102]⟩ : ByteArray), .int .u8 t135] rfl gl_ ?_; (with_reducible refine (strings_IndexByte.calls (⟨#[110, 114, 116, 98, 102]⟩ : ByteArray) t135 t138 _ A5.out).mono ?_); rintro e wq1 ⟨rfl, hb⟩; refine ⟨_, rfl, ?_⟩; have n0_ := Aside0.mk (Kd.R_below (by (with_reducible repeat (first | apply Kd.R_alloc | apply Kd.R_drewN | apply Kd.R_drew)); exact (Kd.R_mono (Kd.R_far (p := ⟨g, 1, none⟩) (IsS44.apart HI0.out HO1.out (by decide)) (fun _ hk => hk.2) (.int .i64 (wrap64 (t137 + 1)))) (fun _ h_ => h_.1))) hb); have n1_ := Aside0.mk (IsS44.below (show IsS44 w0 (wq0.setCell ⟨g, 1, none⟩ (.int .i64 (wrap64 (t137 + 1)))) g s0_0 (wrap64 (t137 + 1)) from isk44) hb); have n2_ := Aside0.mk (Kept.below (w := w) (S := (fun k_ => (P1_ k_) ∨ k_ = g)) (kpt44) hb); have n3_ := Aside0.mk (below_step (isb44) hb); clear HO1; clear HI0; clear HK; clear HB; have HO1 := n0_; have HI0 := n1_; have HK := n2_; have HB := n3_; clear n0_ n1_ n2_ n3_; (try clear hb); (try clear hb2); (try clear hk); (try clear hi)) | ((with_reducible refine gate_builtin (b := .append) (xs := #[.tmp 70, .tmp 72]) rfl ?_); at_builtin; refine Kd.R_append (Kd.int .u8) (w0 := w0) w0.heap.size rfl (.tmp 70) (.tmp 72) 22 5 (.int .u8 0) 1 rfl Tryd.underlying22 info5 rfl (by decide) (by omega) u9000_ l1 t135 [.int .u8 t135] (fun k_ => (P1_ k_ ∨ w.heap.size ≤ k_)) (fun _ => False) rfl rfl ?aP (fun _ hk => hk.elim) ?aF ?aO ?aB ?aS ?aL ?_; (case aP => exact rfl); (case aB => exact (isb44)); (case aF => exact (fun k_ hk => (.inr (Nat.le_trans (by first | exact HK.out.1 | exact (show Kept w _ (fun k_ => (P1_ k_) ∨ k_ = g) from kpt44).1) hk)))); (case aO => exact (rkk HO1.out)); (case aS => exact (below_size (isb44))); (case aL => have := LMcq0.out; omega); intro vq0 wq2 ho hb hg hat; rw [← Nyq0.out] at ho; have n0_ := Aside0.mk (IsS44.grown (isk44) hg (IsS44.own_ne HI0.out HO1.out (by decide))); have n1_ := Aside0.mk (hb); have n2_ := Aside0.mk (Kept.of_grown (S := (fun k_ => (P1_ k_) ∨ k_ = g)) hg (kpt44) (fun k_ e_ => Or.imp_left Or.inl ((HO1.out.1 k_ e_)))); have n3_ := Aside0.mk (ho); clear HI0; clear HB; clear HK; clear HO1; have HI0 := n0_; have HB := n1_; have HK := n2_; have HOq0 := n3_; clear n0_ n1_ n2_ n3_; clear ho hb hg hat))
       go_ret2
       exact ⟨_, by first | rfl | (simp [errW_none, errW_some] <;> rfl) | (simp [*, errW_none, errW_some] <;> rfl), by (with_reducible repeat (first | apply Kd.R_alloc | apply Kd.R_drewN | apply Kd.R_drew)); exact HOq0.out, isk44, isb44, kpt44⟩
      ·rw [if_neg c37] at H
       exact absurd H (by simp)
     ·rw [if_neg c36] at H
      have c36b0 : decide (t135 < 48) = false := decide_eq_false c36
      clear c36
      by_cases c42 : t135 > 55
      ·rw [if_pos c42] at H
       have c42b0 : decide (55 < t135) = true := decide_eq_true c42
       clear c42
       by_cases c43 : l1.length < 140737488355328
       ·rw [if_pos c43] at H
        have LMcq0 := Aside0.mk c43
        clear c43
        obtain ⟨yq0, hy148⟩ : ∃ y_ : List Int, y_ = (l1 ++ [t135]) := ⟨_, rfl⟩
        replace H : (some (yq0, true, wrap64 (t137 + 1))) = some (r1, r2, r3) := by first | (rw [hy148]; with_reducible exact H) | (have H2_ := (Option.bind_some _ _).symm.trans H; rw [hy148]; with_reducible exact H2_) | (have H2_ := (Option.bind_some _ _).symm.trans H; with_reducible exact H2_) | with_reducible exact H | (rw [hy148]; exact H) | exact H
        have Nyq0 := Aside0.mk hy148
        clear hy148
        simp only [Option.some.injEq, Prod.mk.injEq] at H
        obtain ⟨rfl, rfl, rfl⟩ := H
        go_enter Tryd.func84, Tryd.ntmps84
        go_wp2_with (first | ((with_reducible refine gate_callee (f := 47) rfl ?_); refine goesL_ (some 16) rfl rfl Tryd.func47 (by kernel_rfl) rfl #[.pointer (some ⟨g, 0, none⟩), .int .i64 0] rfl gl_ ?_; (with_reducible refine (lex_reader_peek.calls g s0_0 s0_1 0 t135 true t137 w0 _ ?side1 ?side2 A3.out).mono ?_); (case side1 => exact isk44); (case side2 => exact isb44); rintro e wq0 ⟨rfl, hi, hb, hk⟩; refine ⟨_, rfl, ?_⟩; have n0_ := Aside0.mk (Kd.R_mono (Kd.R_keep (IsS44.apart (show IsS44 w0 _ g s0_0 s0_1 from isk44) (rkk HO1.out) (by decide)) hk (fun _ h => h.2)) (fun _ h => h.1)); have n1_ := Aside0.mk (Kept.of_keep (S := (fun k_ => (P1_ k_) ∨ k_ = g)) (kpt44) hk (.inl (.inr rfl))); have n2_ := Aside0.mk (hb); have n3_ := Aside0.mk (hi); clear HO1; clear HK; clear HB; clear HI0; have HO1 := n0_; have HK := n1_; have HB := n2_; have HI0 := n3_; clear n0_ n1_ n2_ n3_; (try clear hb); (try clear hb2); (try clear hk); (try clear hi); obtain ⟨ASzq0, cSzq0, HGzq0, hgzq0, HSzq0⟩ := HI0.out; have hcz45_0 := cellS44_0 HGzq0; have hcz45_1 := cellS44_1 HGzq0; have hfz45_1 := blk_frozen HGzq0 1; clear HGzq0 hgzq0) | ((with_reducible refine gate_callee (f := 58) rfl ?_); refine goesL_ (some 29) rfl rfl Tryd.func58 (by kernel_rfl) rfl #[.string (⟨#[110, 114, 116, 98, 102]⟩ : ByteArray), .int .u8 t135] rfl gl_ ?_; (with_reducible refine (strings_IndexByte.calls (⟨#[110, 114, 116, 98, 102]⟩ : ByteArray) t135 t138 _ A5.out).mono ?_); rintro e wq1 ⟨rfl, hb⟩; refine ⟨_, rfl, ?_⟩; have n0_ := Aside0.mk (Kd.R_below (by (with_reducible repeat (first | apply Kd.R_alloc | apply Kd.R_drewN | apply Kd.R_drew)); exact (Kd.R_mono (Kd.R_far (p := ⟨g, 1, none⟩) (IsS44.apart HI0.out HO1.out (by decide)) (fun _ hk => hk.2) (.int .i64 (wrap64 (t137 + 1)))) (fun _ h_ => h_.1))) hb); have n1_ := Aside0.mk (IsS44.below (show IsS44 w0 (wq0.setCell ⟨g, 1, none⟩ (.int .i64 (wrap64 (t137 + 1)))) g s0_0 (wrap64 (t137 + 1)) from isk44) hb); have n2_ := Aside0.mk (Kept.below (w := w) (S := (fun k_ => (P1_ k_) ∨ k_ = g)) (kpt44) hb); have n3_ := Aside0.mk (below_step (isb44) hb); clear HO1; clear HI0; clear HK; clear HB; have HO1 := n0_; have HI0 := n1_; have HK := n2_; have HB := n3_; clear n0_ n1_ n2_ n3_; (try clear hb); (try clear hb2); (try clear hk); (try clear hi)) | ((with_reducible refine gate_builtin (b := .append) (xs := #[.tmp 70, .tmp 72]) rfl ?_); at_builtin; refine Kd.R_append (Kd.int .u8) (w0 := w0) w0.heap.size rfl (.tmp 70) (.tmp 72) 22 5 (.int .u8 0) 1 rfl Tryd.underlying22 info5 rfl (by decide) (by omega) u9000_ l1 t135 [.int .u8 t135] (fun k_ => (P1_ k_ ∨ w.heap.size ≤ k_)) (fun _ => False) rfl rfl ?aP (fun _ hk => hk.elim) ?aF ?aO ?aB ?aS ?aL ?_; (case aP => exact rfl); (case aB => exact (isb44)); (case aF => exact (fun k_ hk => (.inr (Nat.le_trans (by first | exact HK.out.1 | exact (show Kept w _ (fun k_ => (P1_ k_) ∨ k_ = g) from kpt44).1) hk)))); (case aO => exact (rkk HO1.out)); (case aS => exact (below_size (isb44))); (case aL => have := LMcq0.out; omega); intro vq0 wq2 ho hb hg hat; rw [← Nyq0.out] at ho; have n0_ := Aside0.mk (IsS44.grown (isk44) hg (IsS44.own_ne HI0.out HO1.out (by decide))); have n1_ := Aside0.mk (hb); have n2_ := Aside0.mk (Kept.of_grown (S := (fun k_ => (P1_ k_) ∨ k_ = g)) hg (kpt44) (fun k_ e_ => Or.imp_left Or.inl ((HO1.out.1 k_ e_)))); have n3_ := Aside0.mk (ho); clear HI0; clear HB; clear HK; clear HO1; have HI0 := n0_; have HB := n1_; have HK := n2_; have HOq0 := n3_; clear n0_ n1_ n2_ n3_; clear ho hb hg hat))
        go_ret2
        exact ⟨_, by first | rfl | (simp [errW_none, errW_some] <;> rfl) | (simp [*, errW_none, errW_some] <;> rfl), by (with_reducible repeat (first | apply Kd.R_alloc | apply Kd.R_drewN | apply Kd.R_drew)); exact HOq0.out, isk44, isb44, kpt44⟩
       ·rw [if_neg c43] at H
        exact absurd H (by simp)
      ·rw [if_neg c42] at H
       have c42b0 : decide (55 < t135) = false := decide_eq_false c42
       clear c42
       have H' := Aside0.mk H
       clear H
       go_enter Tryd.func84, Tryd.ntmps84
       go_wp2_with (first | ((with_reducible refine gate_callee (f := 47) rfl ?_); refine goesL_ (some 16) rfl rfl Tryd.func47 (by kernel_rfl) rfl #[.pointer (some ⟨g, 0, none⟩), .int .i64 0] rfl gl_ ?_; (with_reducible refine (lex_reader_peek.calls g s0_0 s0_1 0 t135 true t137 w0 _ ?side1 ?side2 A3.out).mono ?_); (case side1 => exact isk44); (case side2 => exact isb44); rintro e w48 ⟨rfl, hi, hb, hk⟩; refine ⟨_, rfl, ?_⟩; have n0_ := Aside0.mk (Kd.R_mono (Kd.R_keep (IsS44.apart (show IsS44 w0 _ g s0_0 s0_1 from isk44) (rkk HO1.out) (by decide)) hk (fun _ h => h.2)) (fun _ h => h.1)); have n1_ := Aside0.mk (Kept.of_keep (S := (fun k_ => (P1_ k_) ∨ k_ = g)) (kpt44) hk (.inl (.inr rfl))); have n2_ := Aside0.mk (hb); have n3_ := Aside0.mk (hi); clear HO1; clear HK; clear HB; clear HI0; have HO1 := n0_; have HK := n1_; have HB := n2_; have HI0 := n3_; clear n0_ n1_ n2_ n3_; (try clear hb); (try clear hb2); (try clear hk); (try clear hi); obtain ⟨ASz49_0, cSz49_0, HGz49, hgz49, HSz49_0⟩ := HI0.out; have hcz49_0 := cellS44_0 HGz49; have hcz49_1 := cellS44_1 HGz49; have hfz49_1 := blk_frozen HGz49 1; clear HGz49 hgz49) | ((with_reducible refine gate_callee (f := 58) rfl ?_); refine goesL_ (some 29) rfl rfl Tryd.func58 (by kernel_rfl) rfl #[.string (⟨#[110, 114, 116, 98, 102]⟩ : ByteArray), .int .u8 t135] rfl gl_ ?_; (with_reducible refine (strings_IndexByte.calls (⟨#[110, 114, 116, 98, 102]⟩ : ByteArray) t135 t138 _ A5.out).mono ?_); rintro e w50 ⟨rfl, hb⟩; refine ⟨_, rfl, ?_⟩; have n0_ := Aside0.mk (Kd.R_below (by (with_reducible repeat (first | apply Kd.R_alloc | apply Kd.R_drewN | apply Kd.R_drew)); exact (Kd.R_mono (Kd.R_far (p := ⟨g, 1, none⟩) (IsS44.apart HI0.out HO1.out (by decide)) (fun _ hk => hk.2) (.int .i64 (wrap64 (t137 + 1)))) (fun _ h_ => h_.1))) hb); have n1_ := Aside0.mk (IsS44.below (show IsS44 w0 (w48.setCell ⟨g, 1, none⟩ (.int .i64 (wrap64 (t137 + 1)))) g s0_0 (wrap64 (t137 + 1)) from isk44) hb); have n2_ := Aside0.mk (Kept.below (w := w) (S := (fun k_ => (P1_ k_) ∨ k_ = g)) (kpt44) hb); have n3_ := Aside0.mk (below_step (isb44) hb); clear HO1; clear HI0; clear HK; clear HB; have HO1 := n0_; have HI0 := n1_; have HK := n2_; have HB := n3_; clear n0_ n1_ n2_ n3_; (try clear hb); (try clear hb2); (try clear hk); (try clear hi)))
       go_loopg [11, 77] k (fun kq v11 v77 w' => ∃ (x11_1 : Int) (x77_1 : Int) (x1001_1 : Int), v11 = .int .i64 x11_1 ∧ v77 = .int .i64 x77_1 ∧ Aside0 (lex_reader_escape.l0 kq l1 x11_1 x77_1 s0_0 x1001_1 = some (r1, r2, r3)) ∧ Aside0 (kq ≤ k) ∧ Aside0 (Kd.R (Kd.int .u8) 5 w' w0.heap.size (fun k_ => (P1_ k_ ∨ w.heap.size ≤ k_)) u9000_ l1) ∧ Aside0 (IsS44 w0 w' g s0_0 x1001_1) ∧ Aside0 (Kept w w' (fun k_ => (P1_ k_) ∨ k_ = g)) ∧ Aside0 (Below w0.heap.size w0 w'))
       case atStart => exact ⟨((t135 - 48) % 256), (0), (wrap64 (t137 + 1)), ea_, ea_, H', ⟨Nat.le_refl _⟩, ⟨rkk HO1.out⟩, ⟨isk44⟩, ⟨kpt44⟩, ⟨isb44⟩⟩
       case round =>
        clear H'
        try clear c1
        try clear p2
        try clear c3
        try clear c4
        try clear c5
        try clear c6
        try clear c6b0
        try clear p6
        try clear c7
        try clear c7b0
        try clear c8
        try clear c8b0
        try clear p9
        try clear q9
        try clear hx9
        try clear c10
        try clear c15
        try clear c15b0
        try clear c15b1
        try clear c17
        try clear c18
        try clear c18b0
        try clear c18b1
        try clear c32
        try clear c32b0
        try clear c32b1
        try clear c36
        try clear c36b0
        try clear c37
        try clear c42
        try clear c42b0
        try clear c43
        try clear c47
        try clear hcz12_0
        try clear hcz12_1
        try clear hcz20_0
        try clear hcz20_1
        try clear hcz23_0
        try clear hcz23_1
        try clear hcz25_0
        try clear hcz25_1
        try clear hcz29_0
        try clear hcz29_1
        try clear hcz34_0
        try clear hcz34_1
        try clear hcz39_0
        try clear hcz39_1
        try clear hcz45_0
        try clear hcz45_1
        try clear hcz49_0
        try clear hcz49_1
        try clear hfz12_1
        try clear hfz20_1
        try clear hfz23_1
        try clear hfz25_1
        try clear hfz29_1
        try clear hfz34_1
        try clear hfz39_1
        try clear hfz45_1
        try clear hfz49_1
        try clear p9
        try clear q9
        obtain ⟨x11_1, x77_1, x1001_1, rfl, rfl, HA, HK1, HO_1, HI0, HK, HB⟩ := hrel
        cases gk with
        | zero => exact absurd HA.out (by simp [lex_reader_escape.l0])
        | succ k1 =>
         have H := HA.out
         clear HA
         simp only [lex_reader_escape.l0] at H
         by_cases c51 : x77_1 < 2
         ·rw [if_pos c51] at H
          have c51b0 : decide (x77_1 < 2) = true := decide_eq_true c51
          clear c51
          replace H := Option.bind_eq_some_iff.mp H
          obtain ⟨⟨t151, t152, t153⟩, A520, H⟩ := H
          replace H : (if t152 = true then (if t151 < 48 then (if l1.length < 140737488355328 then (some ((l1 ++ [(x11_1) % 256]), true, t153)) else (none)) else (if t151 > 55 then (if l1.length < 140737488355328 then (some ((l1 ++ [(x11_1) % 256]), true, t153)) else (none)) else (lex_reader_escape.l0 k1 l1 (Go.bits .or .i64 (wrap64 (x11_1 * 8)) ((t151 - 48) % 256)) (wrap64 (x77_1 + 1)) s0_0 (wrap64 (t153 + 1))))) else (if l1.length < 140737488355328 then (some ((l1 ++ [(x11_1) % 256]), true, t153)) else (none))) = some (r1, r2, r3) := H
          have A52 := Aside0.mk A520
          clear A520
          by_cases c53 : t152 = true
          ·subst c53
           have H1 : (if t151 < 48 then (if l1.length < 140737488355328 then (some ((l1 ++ [(x11_1) % 256]), true, t153)) else (none)) else (if t151 > 55 then (if l1.length < 140737488355328 then (some ((l1 ++ [(x11_1) % 256]), true, t153)) else (none)) else (lex_reader_escape.l0 k1 l1 (Go.bits .or .i64 (wrap64 (x11_1 * 8)) ((t151 - 48) % 256)) (wrap64 (x77_1 + 1)) s0_0 (wrap64 (t153 + 1))))) = some (r1, r2, r3) := by rw [if_pos rfl] at H; exact H
           clear H
           have H := H1
           clear H1
           by_cases c54 : t151 < 48
           ·rw [if_pos c54] at H
            have c54b0 : decide (t151 < 48) = true := decide_eq_true c54
            clear c54
            by_cases c55 : l1.length < 140737488355328
            ·rw [if_pos c55] at H
             have LMcq0 := Aside0.mk c55
             clear c55
             obtain ⟨yq0, hy154⟩ : ∃ y_ : List Int, y_ = (l1 ++ [(x11_1) % 256]) := ⟨_, rfl⟩
             replace H : (some (yq0, true, t153)) = some (r1, r2, r3) := by first | (rw [hy154]; with_reducible exact H) | (have H2_ := (Option.bind_some _ _).symm.trans H; rw [hy154]; with_reducible exact H2_) | (have H2_ := (Option.bind_some _ _).symm.trans H; with_reducible exact H2_) | with_reducible exact H | (rw [hy154]; exact H) | exact H
             have Nyq0 := Aside0.mk hy154
             clear hy154
             simp only [Option.some.injEq, Prod.mk.injEq] at H
             obtain ⟨rfl, rfl, rfl⟩ := H
             exact lf_M2_2
            ·rw [if_neg c55] at H
             exact absurd H (by simp)
           ·rw [if_neg c54] at H
            have c54b0 : decide (t151 < 48) = false := decide_eq_false c54
            clear c54
            by_cases c58 : t151 > 55
            ·rw [if_pos c58] at H
             have c58b0 : decide (55 < t151) = true := decide_eq_true c58
             clear c58
             by_cases c59 : l1.length < 140737488355328
             ·rw [if_pos c59] at H
              have LMcq0 := Aside0.mk c59
              clear c59
              obtain ⟨yq0, hy157⟩ : ∃ y_ : List Int, y_ = (l1 ++ [(x11_1) % 256]) := ⟨_, rfl⟩
              replace H : (some (yq0, true, t153)) = some (r1, r2, r3) := by first | (rw [hy157]; with_reducible exact H) | (have H2_ := (Option.bind_some _ _).symm.trans H; rw [hy157]; with_reducible exact H2_) | (have H2_ := (Option.bind_some _ _).symm.trans H; with_reducible exact H2_) | with_reducible exact H | (rw [hy157]; exact H) | exact H
              have Nyq0 := Aside0.mk hy157
              clear hy157
              simp only [Option.some.injEq, Prod.mk.injEq] at H
              obtain ⟨rfl, rfl, rfl⟩ := H
              exact lf_M2_2
             ·rw [if_neg c59] at H
              exact absurd H (by simp)
            ·rw [if_neg c58] at H
             have c58b0 : decide (55 < t151) = false := decide_eq_false c58
             clear c58
             have H' := Aside0.mk H
             clear H
             go_wp2_with (first | ((with_reducible refine gate_callee (f := 47) rfl ?_); refine goesL_ (some 81) rfl rfl Tryd.func47 (by kernel_rfl) rfl #[.pointer (some ⟨g, 0, none⟩), .int .i64 0] rfl gl_ ?_; (with_reducible refine (lex_reader_peek.calls g s0_0 x1001_1 0 t151 true t153 w0 _ ?side1 ?side2 A52.out).mono ?_); (case side1 => exact isk44); (case side2 => exact isb44); rintro e w62 ⟨rfl, hi, hb, hk⟩; refine ⟨_, rfl, ?_⟩; have n0_ := Aside0.mk (Kd.R_mono (Kd.R_keep (IsS44.apart (show IsS44 w0 _ g s0_0 x1001_1 from isk44) (rkk HO_1.out) (by decide)) hk (fun _ h => h.2)) (fun _ h => h.1)); have n1_ := Aside0.mk (Kept.of_keep (S := (fun k_ => (P1_ k_) ∨ k_ = g)) (kpt44) hk (.inl (.inr rfl))); have n2_ := Aside0.mk (hb); have n3_ := Aside0.mk (hi); clear HO_1; clear HK; clear HB; clear HI0; have HO_1 := n0_; have HK := n1_; have HB := n2_; have HI0 := n3_; clear n0_ n1_ n2_ n3_; (try clear hb); (try clear hb2); (try clear hk); (try clear hi); obtain ⟨ASz63_0, cSz63_0, HGz63, hgz63, HSz63_0⟩ := HI0.out; have hcz63_0 := cellS44_0 HGz63; have hcz63_1 := cellS44_1 HGz63; have hfz63_1 := blk_frozen HGz63 1; clear HGz63 hgz63))
             go_roundg k1
             case measure => have := HK1.out; omega
             case rel => exact ⟨(Go.bits .or .i64 (wrap64 (x11_1 * 8)) ((t151 - 48) % 256)), (wrap64 (x77_1 + 1)), (wrap64 (t153 + 1)), ea_, ea_, H', ⟨by have := HK1.out; omega⟩, ⟨by (with_reducible repeat (first | apply Kd.R_alloc | apply Kd.R_drewN | apply Kd.R_drew)); exact Kd.R_mono (Kd.R_far (p := ⟨g, 1, none⟩) (IsS44.apart HI0.out HO_1.out (by decide)) (fun _ hk => hk.2) (.int .i64 (wrap64 (t153 + 1)))) (fun _ hk => hk.1)⟩, ⟨isk44⟩, ⟨kpt44⟩, ⟨isb44⟩⟩
          ·replace c53 := Bool.eq_false_iff.mpr c53
           subst c53
           have H1 : (if l1.length < 140737488355328 then (some ((l1 ++ [(x11_1) % 256]), true, t153)) else (none)) = some (r1, r2, r3) := by rw [if_neg (show ¬ (false = true) by decide)] at H; exact H
           clear H
           have H := H1
           clear H1
           by_cases c64 : l1.length < 140737488355328
           ·rw [if_pos c64] at H
            have LMcq0 := Aside0.mk c64
            clear c64
            obtain ⟨yq0, hy160⟩ : ∃ y_ : List Int, y_ = (l1 ++ [(x11_1) % 256]) := ⟨_, rfl⟩
            replace H : (some (yq0, true, t153)) = some (r1, r2, r3) := by first | (rw [hy160]; with_reducible exact H) | (have H2_ := (Option.bind_some _ _).symm.trans H; rw [hy160]; with_reducible exact H2_) | (have H2_ := (Option.bind_some _ _).symm.trans H; with_reducible exact H2_) | with_reducible exact H | (rw [hy160]; exact H) | exact H
            have Nyq0 := Aside0.mk hy160
            clear hy160
            simp only [Option.some.injEq, Prod.mk.injEq] at H
            obtain ⟨rfl, rfl, rfl⟩ := H
            go_wp2_with (first | ((with_reducible refine gate_callee (f := 47) rfl ?_); refine goesL_ (some 81) rfl rfl Tryd.func47 (by kernel_rfl) rfl #[.pointer (some ⟨g, 0, none⟩), .int .i64 0] rfl gl_ ?_; (with_reducible refine (lex_reader_peek.calls g s0_0 x1001_1 0 t151 false t153 w0 _ ?side1 ?side2 A52.out).mono ?_); (case side1 => exact isk44); (case side2 => exact isb44); rintro e wq0 ⟨rfl, hi, hb, hk⟩; refine ⟨_, rfl, ?_⟩; have n0_ := Aside0.mk (Kd.R_mono (Kd.R_keep (IsS44.apart (show IsS44 w0 _ g s0_0 x1001_1 from isk44) (rkk HO_1.out) (by decide)) hk (fun _ h => h.2)) (fun _ h => h.1)); have n1_ := Aside0.mk (Kept.of_keep (S := (fun k_ => (P1_ k_) ∨ k_ = g)) (kpt44) hk (.inl (.inr rfl))); have n2_ := Aside0.mk (hb); have n3_ := Aside0.mk (hi); clear HO_1; clear HK; clear HB; clear HI0; have HO_1 := n0_; have HK := n1_; have HB := n2_; have HI0 := n3_; clear n0_ n1_ n2_ n3_; (try clear hb); (try clear hb2); (try clear hk); (try clear hi)) | ((with_reducible refine gate_builtin (b := .append) (xs := #[.tmp 108, .tmp 111]) rfl ?_); at_builtin; refine Kd.R_append (Kd.int .u8) (w0 := w0) w0.heap.size rfl (.tmp 108) (.tmp 111) 22 5 (.int .u8 0) 1 rfl Tryd.underlying22 info5 rfl (by decide) (by omega) u9000_ l1 ((x11_1) % 256) [.int .u8 ((x11_1) % 256)] (fun k_ => (P1_ k_ ∨ w.heap.size ≤ k_)) (fun _ => False) rfl rfl ?aP (fun _ hk => hk.elim) ?aF ?aO ?aB ?aS ?aL ?_; (case aP => exact rfl); (case aB => exact (isb44)); (case aF => exact (fun k_ hk => (.inr (Nat.le_trans (by first | exact HK.out.1 | exact (show Kept w _ (fun k_ => (P1_ k_) ∨ k_ = g) from kpt44).1) hk)))); (case aO => exact (rkk HO_1.out)); (case aS => exact (below_size (isb44))); (case aL => have := LMcq0.out; omega); intro vq0 wq1 ho hb hg hat; rw [← Nyq0.out] at ho; have n0_ := Aside0.mk (IsS44.grown (isk44) hg (IsS44.own_ne HI0.out HO_1.out (by decide))); have n1_ := Aside0.mk (hb); have n2_ := Aside0.mk (Kept.of_grown (S := (fun k_ => (P1_ k_) ∨ k_ = g)) hg (kpt44) (fun k_ e_ => Or.imp_left Or.inl ((HO_1.out.1 k_ e_)))); have n3_ := Aside0.mk (ho); clear HI0; clear HB; clear HK; clear HO_1; have HI0 := n0_; have HB := n1_; have HK := n2_; have HOq0 := n3_; clear n0_ n1_ n2_ n3_; clear ho hb hg hat))
            go_ret2
            exact ⟨_, by first | rfl | (simp [errW_none, errW_some] <;> rfl) | (simp [*, errW_none, errW_some] <;> rfl), by (with_reducible repeat (first | apply Kd.R_alloc | apply Kd.R_drewN | apply Kd.R_drew)); exact HOq0.out, isk44, isb44, kpt44⟩
           ·rw [if_neg c64] at H
            exact absurd H (by simp)
         ·rw [if_neg c51] at H
          have c51b0 : decide (x77_1 < 2) = false := decide_eq_false c51
          clear c51
          by_cases c67 : l1.length < 140737488355328
          ·rw [if_pos c67] at H
           have LMcq0 := Aside0.mk c67
           clear c67
           obtain ⟨yq0, hy163⟩ : ∃ y_ : List Int, y_ = (l1 ++ [(x11_1) % 256]) := ⟨_, rfl⟩
           replace H : (some (yq0, true, x1001_1)) = some (r1, r2, r3) := by first | (rw [hy163]; with_reducible exact H) | (have H2_ := (Option.bind_some _ _).symm.trans H; rw [hy163]; with_reducible exact H2_) | (have H2_ := (Option.bind_some _ _).symm.trans H; with_reducible exact H2_) | with_reducible exact H | (rw [hy163]; exact H) | exact H
           have Nyq0 := Aside0.mk hy163
           clear hy163
           simp only [Option.some.injEq, Prod.mk.injEq] at H
           obtain ⟨rfl, rfl, rfl⟩ := H
           go_wp2_with (first | ((with_reducible refine gate_builtin (b := .append) (xs := #[.tmp 108, .tmp 111]) rfl ?_); at_builtin; refine Kd.R_append (Kd.int .u8) (w0 := w0) w0.heap.size rfl (.tmp 108) (.tmp 111) 22 5 (.int .u8 0) 1 rfl Tryd.underlying22 info5 rfl (by decide) (by omega) u9000_ l1 ((x11_1) % 256) [.int .u8 ((x11_1) % 256)] (fun k_ => (P1_ k_ ∨ w.heap.size ≤ k_)) (fun _ => False) rfl rfl ?aP (fun _ hk => hk.elim) ?aF ?aO ?aB ?aS ?aL ?_; (case aP => exact rfl); (case aB => exact (isb44)); (case aF => exact (fun k_ hk => (.inr (Nat.le_trans (by first | exact HK.out.1 | exact (show Kept w _ (fun k_ => (P1_ k_) ∨ k_ = g) from kpt44).1) hk)))); (case aO => exact (rkk HO_1.out)); (case aS => exact (below_size (isb44))); (case aL => have := LMcq0.out; omega); intro vq0 wq0 ho hb hg hat; rw [← Nyq0.out] at ho; have n0_ := Aside0.mk (IsS44.grown (isk44) hg (IsS44.own_ne HI0.out HO_1.out (by decide))); have n1_ := Aside0.mk (hb); have n2_ := Aside0.mk (Kept.of_grown (S := (fun k_ => (P1_ k_) ∨ k_ = g)) hg (kpt44) (fun k_ e_ => Or.imp_left Or.inl ((HO_1.out.1 k_ e_)))); have n3_ := Aside0.mk (ho); clear HI0; clear HB; clear HK; clear HO_1; have HI0 := n0_; have HB := n1_; have HK := n2_; have HOq0 := n3_; clear n0_ n1_ n2_ n3_; clear ho hb hg hat))
           go_ret2
           exact ⟨_, by first | rfl | (simp [errW_none, errW_some] <;> rfl) | (simp [*, errW_none, errW_some] <;> rfl), by (with_reducible repeat (first | apply Kd.R_alloc | apply Kd.R_drewN | apply Kd.R_drew)); exact HOq0.out, isk44, isb44, kpt44⟩
          ·rw [if_neg c67] at H
           exact absurd H (by simp)
 ·replace c4 := Bool.eq_false_iff.mpr c4
  subst c4
  have H1 : (some (([] : List Int), false, t137)) = some (r1, r2, r3) := by rw [if_neg (show ¬ (false = true) by decide)] at H; exact H
  clear H
  have H := H1
  clear H1
  simp only [Option.some.injEq, Prod.mk.injEq] at H
  obtain ⟨rfl, rfl, rfl⟩ := H
  go_enter Tryd.func84, Tryd.ntmps84
  go_wp2_with (first | ((with_reducible refine gate_callee (f := 47) rfl ?_); refine goesL_ (some 16) rfl rfl Tryd.func47 (by kernel_rfl) rfl #[.pointer (some ⟨g, 0, none⟩), .int .i64 0] rfl gl_ ?_; (with_reducible refine (lex_reader_peek.calls g s0_0 s0_1 0 t135 false t137 w0 _ ?side1 ?side2 A3.out).mono ?_); (case side1 => exact isk44); (case side2 => exact isb44); rintro e wq0 ⟨rfl, hi, hb, hk⟩; refine ⟨_, rfl, ?_⟩; have n0_ := Aside0.mk (Kd.R_mono (Kd.R_keep (IsS44.apart (show IsS44 w0 _ g s0_0 s0_1 from isk44) (rkk HO1.out) (by decide)) hk (fun _ h => h.2)) (fun _ h => h.1)); have n1_ := Aside0.mk (Kept.of_keep (S := (fun k_ => (P1_ k_) ∨ k_ = g)) (kpt44) hk (.inl (.inr rfl))); have n2_ := Aside0.mk (hb); have n3_ := Aside0.mk (hi); clear HO1; clear HK; clear HB; clear HI0; have HO1 := n0_; have HK := n1_; have HB := n2_; have HI0 := n3_; clear n0_ n1_ n2_ n3_; (try clear hb); (try clear hb2); (try clear hk); (try clear hi)))
  go_ret2
  exact ⟨_, by first | rfl | (simp [errW_none, errW_some] <;> rfl) | (simp [*, errW_none, errW_some] <;> rfl), by first | exact Kd.R_nil _ _ _ _ _ | exact Kd.N_nil _ _ _ _ _ | exact Kd.V_nil _ _ _ _ _ | exact Kd.Q_nil _ _ _ _ _ | exact Kd.S_nil _ _ _ _ _, isk44, isb44, kpt44⟩
end Go.Proofs.YtnhgnejfagncpaaDoor.M
