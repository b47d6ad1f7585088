/- Put together: P1, H7, H8 (each in a section of its own). -/
import Derived.Test.YtnhgnejfagncpaaDoorLot2
import Derived.Test.YtnhgnejfagncpaaDoorLot5
import Derived.Test.YtnhgnejfagncpaaDoorM2
import Derived.Test.YtnhgnejfagncpaaDoorM3
import Derived.Shelf.Strings.Builder1
section
namespace Go.Proofs.YtnhgnejfagncpaaDoor.P
open Go.RowKit Go.Proofs.YtnhgnejfagncpaaDoorW.PrintWords Go.Proofs.YtnhgnejfagncpaaDoorW.PrintLast Go.Proofs.YtnhgnejfagncpaaDoorW.PrintMore Go.Proofs.YtnhgnejfagncpaaDoor.H Go.Proofs.YtnhgnejfagncpaaDoor.A Go.Proofs.YtnhgnejfagncpaaDoor.B Go.Proofs.YtnhgnejfagncpaaDoor.E Go.Proofs.YtnhgnejfagncpaaDoor.L Go.Proofs.YtnhgnejfagncpaaDoor.M
attribute [local go_sem] max2_int min2_int max_two min_two max_three min_three max_four min_four   -- for this text's walks alone
set_option linter.unusedVariables false
set_option linter.unusedSimpArgs false
mutual
def lex_reader_token.j2 : Nat → Int → ByteArray → Int → List Int → Int → Option (Int × Int × Int × ByteArray × Int × Int)
 | 0, _, _, _, _, _ => none
 | k + 1, x7, x8, x9, x1000, x1001 => if x9 = 0 then (if (x8.size : Int) > 65535 then (some (0, 0, 0, (⟨#[]⟩ : ByteArray), 2, x1001)) else (some (x7, 0, 0, x8, 0, x1001))) else (some (0, 0, 0, (⟨#[]⟩ : ByteArray), x9, x1001))
def lex_reader_token.j0 : Nat → Int → Bool → Int → Int → ByteArray → Int → Bool → List Int → Int → Option (Int × Int × Int × ByteArray × Int × Int)
 | 0, _, _, _, _, _, _, _, _, _ => none
 | k + 1, x4, x5, x6, x7, x8, x9, x45, x1000, x1001 => if x45 = true then (lex_reader_token.j2 k 7 x8 x9 x1000 (wrap64 (x1001 + 1))) else (if x4 = 62 then (if x5 = true then (lex_reader_token.j1 k x4 x7 x8 x9 (x6 == x4) x1000 x1001) else (lex_reader_token.j1 k x4 x7 x8 x9 false x1000 x1001)) else (lex_reader_token.j1 k x4 x7 x8 x9 false x1000 x1001))
def lex_reader_token.j1 : Nat → Int → Int → ByteArray → Int → Bool → List Int → Int → Option (Int × Int × Int × ByteArray × Int × Int)
 | 0, _, _, _, _, _, _, _ => none
 | k + 1, x4, x7, x8, x9, x63, x1000, x1001 => if x63 = true then (lex_reader_token.j2 k 8 x8 x9 x1000 (wrap64 (x1001 + 1))) else (if x4 = 60 then ((lex_reader_hexa.f k x1000 x1001).bind fun bt160 => (lex_reader_token.j2 k x7 bt160.1 bt160.2.1 x1000 bt160.2.2)) else (if x4 = 40 then ((lex_reader_text.f k x1000 x1001).bind fun bt163 => (lex_reader_token.j2 k x7 bt163.1 bt163.2.1 x1000 bt163.2.2)) else (if x4 = 47 then ((lex_reader_row.f k x1000 x1001).bind fun bt166 => ((lex_name.f k bt166.1).bind fun bt168 => (lex_reader_token.j2 k 2 bt168.1 bt168.2 x1000 bt166.2))) else (lex_reader_token.j2 k x7 x8 4 x1000 x1001))))
end
def lex_reader_token.f (k : Nat) (s0_0 : List Int) (s0_1 : Int) : Option (Int × Int × Int × ByteArray × Int × Int) := (lex_reader_skip.f k s0_0 s0_1).bind fun t146 => ((lex_reader_peek.f s0_0 t146 0).bind fun bt147 => (if bt147.2.1 = true then ((lex_of.f k bt147.1).bind fun t150 => (if t150 = 2 then ((lex_reader_word.f k s0_0 bt147.2.2).bind fun bt151 => (some (bt151.1, bt151.2.1, bt151.2.2.1, bt151.2.2.2.1, bt151.2.2.2.2.1, bt151.2.2.2.2.2))) else ((lex_reader_peek.f s0_0 bt147.2.2 1).bind fun bt157 => (if bt147.1 = 91 then (lex_reader_token.j2 k 5 (⟨#[]⟩ : ByteArray) 0 s0_0 (wrap64 (bt157.2.2 + 1))) else (if bt147.1 = 93 then (lex_reader_token.j2 k 6 (⟨#[]⟩ : ByteArray) 0 s0_0 (wrap64 (bt157.2.2 + 1))) else (if bt147.1 = 60 then (if bt157.2.1 = true then (lex_reader_token.j0 k bt147.1 bt157.2.1 bt157.1 3 (⟨#[]⟩ : ByteArray) 0 (bt157.1 == bt147.1) s0_0 (wrap64 (bt157.2.2 + 1))) else (lex_reader_token.j0 k bt147.1 bt157.2.1 bt157.1 3 (⟨#[]⟩ : ByteArray) 0 false s0_0 (wrap64 (bt157.2.2 + 1)))) else (lex_reader_token.j0 k bt147.1 bt157.2.1 bt157.1 3 (⟨#[]⟩ : ByteArray) 0 false s0_0 (wrap64 (bt157.2.2 + 1))))))))) else (some (0, 0, 0, (⟨#[]⟩ : ByteArray), 0, bt147.2.2))))
theorem lf_P1_1 {p_ : Prop} (h_ : p_ := by
  go_wp2
  first
    | (refine bodyPost_ret (results_ct rfl _ _ gb145 27 #[.int .i64 0, .int .i64 0, .int .i64 0, .string (⟨#[]⟩ : ByteArray)] (0, 0) _ rfl (by (with_reducible repeat (first | refine blk_drewN ?_ _ | refine blk_drew ?_ | refine blk_alloc ?_ _)); refine blk_put (cs := #[.int .i64 0, .int .i64 0, .int .i64 0, .string (⟨#[]⟩ : ByteArray)]) ?_ 3 _ rfl; (with_reducible repeat (first | refine blk_drewN ?_ _ | refine blk_drew ?_ | refine blk_alloc ?_ _)); refine blk_put (cs := #[.int .i64 0, .int .i64 0, .int .i64 0, .string (⟨#[]⟩ : ByteArray)]) ?_ 2 _ rfl; (with_reducible repeat (first | refine blk_drewN ?_ _ | refine blk_drew ?_ | refine blk_alloc ?_ _)); refine blk_put (cs := #[.int .i64 0, .int .i64 0, .int .i64 0, .string (⟨#[]⟩ : ByteArray)]) ?_ 1 _ rfl; (with_reducible repeat (first | refine blk_drewN ?_ _ | refine blk_drew ?_ | refine blk_alloc ?_ _)); refine blk_put (cs := #[.int .i64 0, .int .i64 0, .int .i64 0, .string (⟨#[]⟩ : ByteArray)]) ?_ 0 _ rfl; (with_reducible repeat (first | refine blk_drewN ?_ _ | refine blk_drew ?_ | refine blk_alloc ?_ _)); exact BK145.out) Tryd.underlying27 rfl (by kernel_rfl)) rfl ?_; exact ⟨ee_, isk44, isb44, by repeat (first | (with_reducible first | exact HK.out | apply KeepBut.set_ | apply keep_drewN | apply keep_drew | apply keep_alloc | refine keep_far ?_ GW145.out _) | exact HK.out)⟩)
    | (refine bodyPost_ret (results_ct rfl _ _ gb145 27 #[.int .i64 x7_14, .int .i64 0, .int .i64 0, .string x8_14] (0, 0) _ rfl (by (with_reducible repeat (first | refine blk_drewN ?_ _ | refine blk_drew ?_ | refine blk_alloc ?_ _)); refine blk_put (cs := #[.int .i64 x7_14, .int .i64 0, .int .i64 0, .string (⟨#[]⟩ : ByteArray)]) ?_ 3 _ rfl; (with_reducible repeat (first | refine blk_drewN ?_ _ | refine blk_drew ?_ | refine blk_alloc ?_ _)); refine blk_put (cs := #[.int .i64 x7_14, .int .i64 0, .int .i64 0, .string (⟨#[]⟩ : ByteArray)]) ?_ 2 _ rfl; (with_reducible repeat (first | refine blk_drewN ?_ _ | refine blk_drew ?_ | refine blk_alloc ?_ _)); refine blk_put (cs := #[.int .i64 x7_14, .int .i64 0, .int .i64 0, .string (⟨#[]⟩ : ByteArray)]) ?_ 1 _ rfl; (with_reducible repeat (first | refine blk_drewN ?_ _ | refine blk_drew ?_ | refine blk_alloc ?_ _)); refine blk_put (cs := #[.int .i64 0, .int .i64 0, .int .i64 0, .string (⟨#[]⟩ : ByteArray)]) ?_ 0 _ rfl; (with_reducible repeat (first | refine blk_drewN ?_ _ | refine blk_drew ?_ | refine blk_alloc ?_ _)); exact BK145.out) Tryd.underlying27 rfl (by kernel_rfl)) rfl ?_; exact ⟨ee_, isk44, isb44, by repeat (first | (with_reducible first | exact HK.out | apply KeepBut.set_ | apply keep_drewN | apply keep_drew | apply keep_alloc | refine keep_far ?_ GW145.out _) | exact HK.out)⟩)) : p_ := h_
set_option maxHeartbeats 8000000 in
set_option maxRecDepth 100000 in
theorem lex_reader_token.calls (k : Nat) (g : Nat) (s0_0 : List Int) (s0_1 : Int) (r1 : Int) (r2 : Int) (r3 : Int) (r4 : ByteArray) (r5 : Int) (r6 : Int) (w0 w : World) (hI : IsS44 w0 w g s0_0 s0_1) (hB : Below w0.heap.size w0 w) (h : lex_reader_token.f k s0_0 s0_1 = some (r1, r2, r3, r4, r5, r6)) :
  Calls Tryd.prog 18 #[.pointer (some ⟨g, 0, none⟩)] w fun e w' => e = .returned (.tuple #[.agg #[.int .i64 r1, .int .i64 r2, .int .i64 r3, .string r4], .int .i64 r5]) ∧ IsS44 w0 w' g s0_0 r6 ∧ Below w0.heap.size w0 w' ∧ KeepBut w w' g none := by
 have hu27 := Tryd.underlying27
 have HI0 := Aside0.mk hI
 have HK := Aside0.mk (KeepBut.refl w g none)
 have HL := Aside0.mk hB.size
 clear hI
 have HW0 := Aside0.mk hB.size
 have HB := Aside0.mk hB
 clear hB
 have H : ((lex_reader_skip.f k s0_0 s0_1).bind fun t146 => ((lex_reader_peek.f s0_0 t146 0).bind fun bt147 => (if bt147.2.1 = true then ((lex_of.f k bt147.1).bind fun t150 => (if t150 = 2 then ((lex_reader_word.f k s0_0 bt147.2.2).bind fun bt151 => (some (bt151.1, bt151.2.1, bt151.2.2.1, bt151.2.2.2.1, bt151.2.2.2.2.1, bt151.2.2.2.2.2))) else ((lex_reader_peek.f s0_0 bt147.2.2 1).bind fun bt157 => (if bt147.1 = 91 then (lex_reader_token.j2 k 5 (⟨#[]⟩ : ByteArray) 0 s0_0 (wrap64 (bt157.2.2 + 1))) else (if bt147.1 = 93 then (lex_reader_token.j2 k 6 (⟨#[]⟩ : ByteArray) 0 s0_0 (wrap64 (bt157.2.2 + 1))) else (if bt147.1 = 60 then (if bt157.2.1 = true then (lex_reader_token.j0 k bt147.1 bt157.2.1 bt157.1 3 (⟨#[]⟩ : ByteArray) 0 (bt157.1 == bt147.1) s0_0 (wrap64 (bt157.2.2 + 1))) else (lex_reader_token.j0 k bt147.1 bt157.2.1 bt157.1 3 (⟨#[]⟩ : ByteArray) 0 false s0_0 (wrap64 (bt157.2.2 + 1)))) else (lex_reader_token.j0 k bt147.1 bt157.2.1 bt157.1 3 (⟨#[]⟩ : ByteArray) 0 false s0_0 (wrap64 (bt157.2.2 + 1))))))))) else (some (0, 0, 0, (⟨#[]⟩ : ByteArray), 0, bt147.2.2))))) = some (r1, r2, r3, r4, r5, r6) := h
 clear h
 replace H := Option.bind_eq_some_iff.mp H
 obtain ⟨t146, A20, H⟩ := H
 replace H : ((lex_reader_peek.f s0_0 t146 0).bind fun bt147 => (if bt147.2.1 = true then ((lex_of.f k bt147.1).bind fun t150 => (if t150 = 2 then ((lex_reader_word.f k s0_0 bt147.2.2).bind fun bt151 => (some (bt151.1, bt151.2.1, bt151.2.2.1, bt151.2.2.2.1, bt151.2.2.2.2.1, bt151.2.2.2.2.2))) else ((lex_reader_peek.f s0_0 bt147.2.2 1).bind fun bt157 => (if bt147.1 = 91 then (lex_reader_token.j2 k 5 (⟨#[]⟩ : ByteArray) 0 s0_0 (wrap64 (bt157.2.2 + 1))) else (if bt147.1 = 93 then (lex_reader_token.j2 k 6 (⟨#[]⟩ : ByteArray) 0 s0_0 (wrap64 (bt157.2.2 + 1))) else (if bt147.1 = 60 then (if bt157.2.1 = true then (lex_reader_token.j0 k bt147.1 bt157.2.1 bt157.1 3 (⟨#[]⟩ : ByteArray) 0 (bt157.1 == bt147.1) s0_0 (wrap64 (bt157.2.2 + 1))) else (lex_reader_token.j0 k bt147.1 bt157.2.1 bt157.1 3 (⟨#[]⟩ : ByteArray) 0 false s0_0 (wrap64 (bt157.2.2 + 1)))) else (lex_reader_token.j0 k bt147.1 bt157.2.1 bt157.1 3 (⟨#[]⟩ : ByteArray) 0 false s0_0 (wrap64 (bt157.2.2 + 1))))))))) else (some (0, 0, 0, (⟨#[]⟩ : ByteArray), 0, bt147.2.2)))) = some (r1, r2, r3, r4, r5, r6) := H
 have A2 := Aside0.mk A20
 clear A20
 replace H := Option.bind_eq_some_iff.mp H
 obtain ⟨⟨t147, t148, t149⟩, A30, H⟩ := H
 replace H : (if t148 = true then ((lex_of.f k t147).bind fun t150 => (if t150 = 2 then ((lex_reader_word.f k s0_0 t149).bind fun bt151 => (some (bt151.1, bt151.2.1, bt151.2.2.1, bt151.2.2.2.1, bt151.2.2.2.2.1, bt151.2.2.2.2.2))) else ((lex_reader_peek.f s0_0 t149 1).bind fun bt157 => (if t147 = 91 then (lex_reader_token.j2 k 5 (⟨#[]⟩ : ByteArray) 0 s0_0 (wrap64 (bt157.2.2 + 1))) else (if t147 = 93 then (lex_reader_token.j2 k 6 (⟨#[]⟩ : ByteArray) 0 s0_0 (wrap64 (bt157.2.2 + 1))) else (if t147 = 60 then (if bt157.2.1 = true then (lex_reader_token.j0 k t147 bt157.2.1 bt157.1 3 (⟨#[]⟩ : ByteArray) 0 (bt157.1 == t147) s0_0 (wrap64 (bt157.2.2 + 1))) else (lex_reader_token.j0 k t147 bt157.2.1 bt157.1 3 (⟨#[]⟩ : ByteArray) 0 false s0_0 (wrap64 (bt157.2.2 + 1)))) else (lex_reader_token.j0 k t147 bt157.2.1 bt157.1 3 (⟨#[]⟩ : ByteArray) 0 false s0_0 (wrap64 (bt157.2.2 + 1))))))))) else (some (0, 0, 0, (⟨#[]⟩ : ByteArray), 0, t149))) = some (r1, r2, r3, r4, r5, r6) := H
 have A3 := Aside0.mk A30
 clear A30
 by_cases c4 : t148 = true
 ·subst c4
  have H1 : ((lex_of.f k t147).bind fun t150 => (if t150 = 2 then ((lex_reader_word.f k s0_0 t149).bind fun bt151 => (some (bt151.1, bt151.2.1, bt151.2.2.1, bt151.2.2.2.1, bt151.2.2.2.2.1, bt151.2.2.2.2.2))) else ((lex_reader_peek.f s0_0 t149 1).bind fun bt157 => (if t147 = 91 then (lex_reader_token.j2 k 5 (⟨#[]⟩ : ByteArray) 0 s0_0 (wrap64 (bt157.2.2 + 1))) else (if t147 = 93 then (lex_reader_token.j2 k 6 (⟨#[]⟩ : ByteArray) 0 s0_0 (wrap64 (bt157.2.2 + 1))) else (if t147 = 60 then (if bt157.2.1 = true then (lex_reader_token.j0 k t147 bt157.2.1 bt157.1 3 (⟨#[]⟩ : ByteArray) 0 (bt157.1 == t147) s0_0 (wrap64 (bt157.2.2 + 1))) else (lex_reader_token.j0 k t147 bt157.2.1 bt157.1 3 (⟨#[]⟩ : ByteArray) 0 false s0_0 (wrap64 (bt157.2.2 + 1)))) else (lex_reader_token.j0 k t147 bt157.2.1 bt157.1 3 (⟨#[]⟩ : ByteArray) 0 false s0_0 (wrap64 (bt157.2.2 + 1))))))))) = some (r1, r2, r3, r4, r5, r6) := by rw [if_pos rfl] at H; exact H
  clear H
  have H := H1
  clear H1
  replace H := Option.bind_eq_some_iff.mp H
  obtain ⟨t150, A50, H⟩ := H
  replace H : (if t150 = 2 then ((lex_reader_word.f k s0_0 t149).bind fun bt151 => (some (bt151.1, bt151.2.1, bt151.2.2.1, bt151.2.2.2.1, bt151.2.2.2.2.1, bt151.2.2.2.2.2))) else ((lex_reader_peek.f s0_0 t149 1).bind fun bt157 => (if t147 = 91 then (lex_reader_token.j2 k 5 (⟨#[]⟩ : ByteArray) 0 s0_0 (wrap64 (bt157.2.2 + 1))) else (if t147 = 93 then (lex_reader_token.j2 k 6 (⟨#[]⟩ : ByteArray) 0 s0_0 (wrap64 (bt157.2.2 + 1))) else (if t147 = 60 then (if bt157.2.1 = true then (lex_reader_token.j0 k t147 bt157.2.1 bt157.1 3 (⟨#[]⟩ : ByteArray) 0 (bt157.1 == t147) s0_0 (wrap64 (bt157.2.2 + 1))) else (lex_reader_token.j0 k t147 bt157.2.1 bt157.1 3 (⟨#[]⟩ : ByteArray) 0 false s0_0 (wrap64 (bt157.2.2 + 1)))) else (lex_reader_token.j0 k t147 bt157.2.1 bt157.1 3 (⟨#[]⟩ : ByteArray) 0 false s0_0 (wrap64 (bt157.2.2 + 1)))))))) = some (r1, r2, r3, r4, r5, r6) := H
  have A5 := Aside0.mk A50
  clear A50
  by_cases c6 : t150 = 2
  ·rw [if_pos c6] at H
   have c6b0 : (t150 == 2) = true := beq_iff_eq.mpr c6
   have c6b1 : (t150 != 2) = false := bne_eq_false_iff_eq.mpr c6
   clear c6
   replace H := Option.bind_eq_some_iff.mp H
   obtain ⟨⟨tq0, tq1, tq2, tq3, tq4, tq5⟩, Aq0, H⟩ := H
   replace H : (some (tq0, tq1, tq2, tq3, tq4, tq5)) = some (r1, r2, r3, r4, r5, r6) := H
   have Aq1 := Aside0.mk Aq0
   clear Aq0
   simp only [Option.some.injEq, Prod.mk.injEq] at H
   obtain ⟨rfl, rfl, rfl, rfl, rfl, rfl⟩ := H
   go_enter Tryd.func18, Tryd.ntmps18
   go_wp2_with (first | ((with_reducible refine gate_dst (N := 2) rfl ?_); refine box_event ?hg (N := 2) ?hd (cs := #[.int .i64 0, .int .i64 0, .int .i64 0, .string (⟨#[]⟩ : ByteArray)]) (t := 27) ?hr ?_; (case hd => rfl); (case hg => rfl); (case hr => first | (go_simp; done) | (go_simp; rfl)); intro gb145 hg wq0 hbox hb; have n0_ := Aside0.mk (IsS44.below (isk44) hb); have n1_ := Aside0.mk (KeepBut.trans (by repeat (first | (with_reducible first | exact HK.out | apply KeepBut.set_ | apply keep_drewN | apply keep_drew | apply keep_alloc) | exact HK.out)) (KeepBut.of_below hb g none) (.inl rfl)); have n2_ := Aside0.mk (below_step (isb44) hb); have n3_ := Aside0.mk (hbox); have n4_ := Aside0.mk ((by rw [hg]; exact (keep_size (w := w) (g := g) (row := none) (by repeat (first | (with_reducible first | exact HK.out | apply KeepBut.set_ | apply keep_drewN | apply keep_drew | apply keep_alloc) | exact HK.out))) : w.heap.size ≤ gb145)); have n5_ := Aside0.mk ((Nat.le_trans HW0.out (by rw [hg]; exact (keep_size (w := w) (g := g) (row := none) (by repeat (first | (with_reducible first | exact HK.out | apply KeepBut.set_ | apply keep_drewN | apply keep_drew | apply keep_alloc) | exact HK.out))) : w.heap.size ≤ gb145) : w0.heap.size ≤ gb145)); have n6_ := Aside0.mk ((by rw [hg]; exact Nat.ne_of_lt (IsS44.lt (show IsS44 w0 _ g s0_0 s0_1 from isk44)) : g ≠ gb145)); have n7_ := Aside0.mk ((by rw [hg]; exact Nat.ne_of_gt (IsS44.lt (show IsS44 w0 _ g s0_0 s0_1 from isk44)) : gb145 ≠ g)); clear HI0; clear HK; clear HB; have HI0 := n0_; have HK := n1_; have HB := n2_; have BK145 := n3_; have GW145 := n4_; have GE145 := n5_; have NB0_145 := n6_; have NB145_0 := n7_; clear n0_ n1_ n2_ n3_ n4_ n5_ n6_ n7_; clear hb hbox hg) | ((with_reducible refine gate_callee (f := 46) rfl ?_); refine goesL_ (some 11) rfl rfl Tryd.func46 (by kernel_rfl) rfl #[.pointer (some ⟨g, 0, none⟩)] rfl gl_ ?_; (with_reducible refine (lex_reader_skip.calls k g s0_0 s0_1 t146 w0 _ ?side1 ?side2 A2.out).mono ?_); (case side1 => exact isk44); (case side2 => exact isb44); rintro e wq1 ⟨rfl, hi, hb, hk⟩; refine ⟨_, rfl, ?_⟩; have n0_ := Aside0.mk (KeepBut.blk hk (g' := gb145) (o := .cells #[.int .i64 0, .int .i64 0, .int .i64 0, .string (⟨#[]⟩ : ByteArray)] 27 (0, 0)) (bkk BK145.out) NB145_0.out (by simp)); have n1_ := Aside0.mk (KeepBut.trans (by repeat (first | (with_reducible first | exact HK.out | apply KeepBut.set_ | apply keep_drewN | apply keep_drew | apply keep_alloc | refine keep_far ?_ GW145.out _) | exact HK.out)) hk (.inl rfl)); have n2_ := Aside0.mk (hb); have n3_ := Aside0.mk (hi); clear BK145; clear HK; clear HB; clear HI0; have BK145 := n0_; have HK := n1_; have HB := n2_; have HI0 := n3_; clear n0_ n1_ n2_ n3_; (try clear hb); (try clear hb2); (try clear hk); (try clear hi)) | ((with_reducible refine gate_callee (f := 47) rfl ?_); refine goesL_ (some 14) rfl rfl Tryd.func47 (by kernel_rfl) rfl #[.pointer (some ⟨g, 0, none⟩), .int .i64 0] rfl gl_ ?_; (with_reducible refine (lex_reader_peek.calls g s0_0 t146 0 t147 true t149 w0 _ ?side1 ?side2 A3.out).mono ?_); (case side1 => exact isk44); (case side2 => exact isb44); rintro e wq2 ⟨rfl, hi, hb, hk⟩; refine ⟨_, rfl, ?_⟩; have n0_ := Aside0.mk (KeepBut.blk hk (g' := gb145) (o := .cells #[.int .i64 0, .int .i64 0, .int .i64 0, .string (⟨#[]⟩ : ByteArray)] 27 (0, 0)) (bkk BK145.out) NB145_0.out (by simp)); have n1_ := Aside0.mk (KeepBut.trans (by repeat (first | (with_reducible first | exact HK.out | apply KeepBut.set_ | apply keep_drewN | apply keep_drew | apply keep_alloc | refine keep_far ?_ GW145.out _) | exact HK.out)) hk (.inl rfl)); have n2_ := Aside0.mk (hb); have n3_ := Aside0.mk (hi); clear BK145; clear HK; clear HB; clear HI0; have BK145 := n0_; have HK := n1_; have HB := n2_; have HI0 := n3_; clear n0_ n1_ n2_ n3_; (try clear hb); (try clear hb2); (try clear hk); (try clear hi)) | ((with_reducible refine gate_callee (f := 30) rfl ?_); refine goesL_ (some 21) rfl rfl Tryd.func30 (by kernel_rfl) rfl #[.int .u8 t147] rfl gl_ ?_; (with_reducible refine (lex_of.calls k t147 t150 _ A5.out).mono ?_); rintro e w' ⟨rfl, ⟨nd, rfl⟩⟩; refine ⟨_, rfl, ?_⟩; (try (rw [drewN_self wq2]; generalize hq_ : World.drewN wq2 _ = wq2; have n0_ : Aside0 (wq2.heap[gb145]? = some (.cells #[.int .i64 0, .int .i64 0, .int .i64 0, .string (⟨#[]⟩ : ByteArray)] 27 (0, 0))) := ⟨by rw [← hq_]; exact (bkk BK145.out)⟩; have n1_ : Aside0 (IsS44 w0 wq2 g s0_0 t149) := ⟨by rw [← hq_]; exact (isk44)⟩; have n2_ : Aside0 (KeepBut w wq2 g none) := ⟨by rw [← hq_]; exact (by repeat (first | (with_reducible first | exact HK.out | apply KeepBut.set_ | apply keep_drewN | apply keep_drew | apply keep_alloc | refine keep_far ?_ GW145.out _) | exact HK.out))⟩; have n3_ : Aside0 (Below w0.heap.size w0 wq2) := ⟨by rw [← hq_]; exact (isb44)⟩; clear BK145 HI0 HK HB hq_; have BK145 := n0_; have HI0 := n1_; have HK := n2_; have HB := n3_; clear n0_ n1_ n2_ n3_))) | ((with_reducible refine gate_callee (f := 48) rfl ?_); refine goesL_ (some 24) rfl rfl Tryd.func48 (by kernel_rfl) rfl #[.pointer (some ⟨g, 0, none⟩)] rfl gl_ ?_; (with_reducible refine (lex_reader_word.calls k g s0_0 t149 tq0 tq1 tq2 tq3 tq4 tq5 w0 _ ?side1 ?side2 Aq1.out).mono ?_); (case side1 => exact isk44); (case side2 => exact isb44); rintro e wq3 ⟨rfl, hi, hb, hk⟩; refine ⟨_, rfl, ?_⟩; have n0_ := Aside0.mk (KeepBut.blk hk (g' := gb145) (o := .cells #[.int .i64 0, .int .i64 0, .int .i64 0, .string (⟨#[]⟩ : ByteArray)] 27 (0, 0)) (bkk BK145.out) NB145_0.out (by simp)); have n1_ := Aside0.mk (KeepBut.trans (by repeat (first | (with_reducible first | exact HK.out | apply KeepBut.set_ | apply keep_drewN | apply keep_drew | apply keep_alloc | refine keep_far ?_ GW145.out _) | exact HK.out)) hk (.inl rfl)); have n2_ := Aside0.mk (hb); have n3_ := Aside0.mk (hi); clear BK145; clear HK; clear HB; clear HI0; have BK145 := n0_; have HK := n1_; have HB := n2_; have HI0 := n3_; clear n0_ n1_ n2_ n3_; (try clear hb); (try clear hb2); (try clear hk); (try clear hi); have hnbq0 := NB145_0.out; have hncq0 := NB0_145.out; have hcz13_0 : wq3.cell? ⟨gb145, 0, none⟩ = some (.int .i64 0) := (blk_cell BK145.out 0).trans rfl; have hcz13_1 : wq3.cell? ⟨gb145, 1, none⟩ = some (.int .i64 0) := (blk_cell BK145.out 1).trans rfl; have hcz13_2 : wq3.cell? ⟨gb145, 2, none⟩ = some (.int .i64 0) := (blk_cell BK145.out 2).trans rfl; have hcz13_3 : wq3.cell? ⟨gb145, 3, none⟩ = some (.string (⟨#[]⟩ : ByteArray)) := (blk_cell BK145.out 3).trans rfl; have hfz13_0 := blk_frozen BK145.out 0; have hfz13_1 := blk_frozen BK145.out 1; have hfz13_2 := blk_frozen BK145.out 2; have hfz13_3 := blk_frozen BK145.out 3))
   refine bodyPost_ret (results_ct rfl _ _ gb145 27 #[.int .i64 tq0, .int .i64 tq1, .int .i64 tq2, .string tq3] (0, 0) _ rfl (by (with_reducible repeat (first | refine blk_drewN ?_ _ | refine blk_drew ?_ | refine blk_alloc ?_ _)); refine blk_put (cs := #[.int .i64 tq0, .int .i64 tq1, .int .i64 tq2, .string (⟨#[]⟩ : ByteArray)]) ?_ 3 _ rfl; (with_reducible repeat (first | refine blk_drewN ?_ _ | refine blk_drew ?_ | refine blk_alloc ?_ _)); refine blk_put (cs := #[.int .i64 tq0, .int .i64 tq1, .int .i64 0, .string (⟨#[]⟩ : ByteArray)]) ?_ 2 _ rfl; (with_reducible repeat (first | refine blk_drewN ?_ _ | refine blk_drew ?_ | refine blk_alloc ?_ _)); refine blk_put (cs := #[.int .i64 tq0, .int .i64 0, .int .i64 0, .string (⟨#[]⟩ : ByteArray)]) ?_ 1 _ rfl; (with_reducible repeat (first | refine blk_drewN ?_ _ | refine blk_drew ?_ | refine blk_alloc ?_ _)); refine blk_put (cs := #[.int .i64 0, .int .i64 0, .int .i64 0, .string (⟨#[]⟩ : ByteArray)]) ?_ 0 _ rfl; (with_reducible repeat (first | refine blk_drewN ?_ _ | refine blk_drew ?_ | refine blk_alloc ?_ _)); exact BK145.out) Tryd.underlying27 rfl (by kernel_rfl)) rfl ?_
   exact ⟨ee_, isk44, isb44, by repeat (first | (with_reducible first | exact HK.out | apply KeepBut.set_ | apply keep_drewN | apply keep_drew | apply keep_alloc | refine keep_far ?_ GW145.out _) | exact HK.out)⟩
  ·rw [if_neg c6] at H
   have c6b0 : (t150 == 2) = false := beq_eq_false_iff_ne.mpr c6
   have c6b1 : (t150 != 2) = true := bne_iff_ne.mpr c6
   replace H := Option.bind_eq_some_iff.mp H
   obtain ⟨⟨t157, t158, t159⟩, A140, H⟩ := H
   replace H : (if t147 = 91 then (lex_reader_token.j2 k 5 (⟨#[]⟩ : ByteArray) 0 s0_0 (wrap64 (t159 + 1))) else (if t147 = 93 then (lex_reader_token.j2 k 6 (⟨#[]⟩ : ByteArray) 0 s0_0 (wrap64 (t159 + 1))) else (if t147 = 60 then (if t158 = true then (lex_reader_token.j0 k t147 t158 t157 3 (⟨#[]⟩ : ByteArray) 0 (t157 == t147) s0_0 (wrap64 (t159 + 1))) else (lex_reader_token.j0 k t147 t158 t157 3 (⟨#[]⟩ : ByteArray) 0 false s0_0 (wrap64 (t159 + 1)))) else (lex_reader_token.j0 k t147 t158 t157 3 (⟨#[]⟩ : ByteArray) 0 false s0_0 (wrap64 (t159 + 1)))))) = some (r1, r2, r3, r4, r5, r6) := H
   have A14 := Aside0.mk A140
   clear A140
   have HC15 := Aside0.mk H
   clear H
   go_enter Tryd.func18, Tryd.ntmps18
   go_upto_block 0 with (first | ((with_reducible refine gate_dst (N := 2) rfl ?_); refine box_event ?hg (N := 2) ?hd (cs := #[.int .i64 0, .int .i64 0, .int .i64 0, .string (⟨#[]⟩ : ByteArray)]) (t := 27) ?hr ?_; (case hd => rfl); (case hg => rfl); (case hr => first | (go_simp; done) | (go_simp; rfl)); intro gb145 hg w16 hbox hb; have n0_ := Aside0.mk (IsS44.below (isk44) hb); have n1_ := Aside0.mk (KeepBut.trans (by repeat (first | (with_reducible first | exact HK.out | apply KeepBut.set_ | apply keep_drewN | apply keep_drew | apply keep_alloc) | exact HK.out)) (KeepBut.of_below hb g none) (.inl rfl)); have n2_ := Aside0.mk (below_step (isb44) hb); have n3_ := Aside0.mk (hbox); have n4_ := Aside0.mk ((by rw [hg]; exact (keep_size (w := w) (g := g) (row := none) (by repeat (first | (with_reducible first | exact HK.out | apply KeepBut.set_ | apply keep_drewN | apply keep_drew | apply keep_alloc) | exact HK.out))) : w.heap.size ≤ gb145)); have n5_ := Aside0.mk ((Nat.le_trans HW0.out (by rw [hg]; exact (keep_size (w := w) (g := g) (row := none) (by repeat (first | (with_reducible first | exact HK.out | apply KeepBut.set_ | apply keep_drewN | apply keep_drew | apply keep_alloc) | exact HK.out))) : w.heap.size ≤ gb145) : w0.heap.size ≤ gb145)); have n6_ := Aside0.mk ((by rw [hg]; exact Nat.ne_of_lt (IsS44.lt (show IsS44 w0 _ g s0_0 s0_1 from isk44)) : g ≠ gb145)); have n7_ := Aside0.mk ((by rw [hg]; exact Nat.ne_of_gt (IsS44.lt (show IsS44 w0 _ g s0_0 s0_1 from isk44)) : gb145 ≠ g)); clear HI0; clear HK; clear HB; have HI0 := n0_; have HK := n1_; have HB := n2_; have BK145 := n3_; have GW145 := n4_; have GE145 := n5_; have NB0_145 := n6_; have NB145_0 := n7_; clear n0_ n1_ n2_ n3_ n4_ n5_ n6_ n7_; clear hb hbox hg) | ((with_reducible refine gate_callee (f := 46) rfl ?_); refine goesL_ (some 11) rfl rfl Tryd.func46 (by kernel_rfl) rfl #[.pointer (some ⟨g, 0, none⟩)] rfl gl_ ?_; (with_reducible refine (lex_reader_skip.calls k g s0_0 s0_1 t146 w0 _ ?side1 ?side2 A2.out).mono ?_); (case side1 => exact isk44); (case side2 => exact isb44); rintro e w17 ⟨rfl, hi, hb, hk⟩; refine ⟨_, rfl, ?_⟩; have n0_ := Aside0.mk (KeepBut.blk hk (g' := gb145) (o := .cells #[.int .i64 0, .int .i64 0, .int .i64 0, .string (⟨#[]⟩ : ByteArray)] 27 (0, 0)) (bkk BK145.out) NB145_0.out (by simp)); have n1_ := Aside0.mk (KeepBut.trans (by repeat (first | (with_reducible first | exact HK.out | apply KeepBut.set_ | apply keep_drewN | apply keep_drew | apply keep_alloc | refine keep_far ?_ GW145.out _) | exact HK.out)) hk (.inl rfl)); have n2_ := Aside0.mk (hb); have n3_ := Aside0.mk (hi); clear BK145; clear HK; clear HB; clear HI0; have BK145 := n0_; have HK := n1_; have HB := n2_; have HI0 := n3_; clear n0_ n1_ n2_ n3_; (try clear hb); (try clear hb2); (try clear hk); (try clear hi)) | ((with_reducible refine gate_callee (f := 47) rfl ?_); refine goesL_ (some 14) rfl rfl Tryd.func47 (by kernel_rfl) rfl #[.pointer (some ⟨g, 0, none⟩), .int .i64 0] rfl gl_ ?_; (with_reducible refine (lex_reader_peek.calls g s0_0 t146 0 t147 true t149 w0 _ ?side1 ?side2 A3.out).mono ?_); (case side1 => exact isk44); (case side2 => exact isb44); rintro e w18 ⟨rfl, hi, hb, hk⟩; refine ⟨_, rfl, ?_⟩; have n0_ := Aside0.mk (KeepBut.blk hk (g' := gb145) (o := .cells #[.int .i64 0, .int .i64 0, .int .i64 0, .string (⟨#[]⟩ : ByteArray)] 27 (0, 0)) (bkk BK145.out) NB145_0.out (by simp)); have n1_ := Aside0.mk (KeepBut.trans (by repeat (first | (with_reducible first | exact HK.out | apply KeepBut.set_ | apply keep_drewN | apply keep_drew | apply keep_alloc | refine keep_far ?_ GW145.out _) | exact HK.out)) hk (.inl rfl)); have n2_ := Aside0.mk (hb); have n3_ := Aside0.mk (hi); clear BK145; clear HK; clear HB; clear HI0; have BK145 := n0_; have HK := n1_; have HB := n2_; have HI0 := n3_; clear n0_ n1_ n2_ n3_; (try clear hb); (try clear hb2); (try clear hk); (try clear hi)) | ((with_reducible refine gate_callee (f := 30) rfl ?_); refine goesL_ (some 21) rfl rfl Tryd.func30 (by kernel_rfl) rfl #[.int .u8 t147] rfl gl_ ?_; (with_reducible refine (lex_of.calls k t147 t150 _ A5.out).mono ?_); rintro e w' ⟨rfl, ⟨nd, rfl⟩⟩; refine ⟨_, rfl, ?_⟩; (try (rw [drewN_self w18]; generalize hq_ : World.drewN w18 _ = w18; have n0_ : Aside0 (w18.heap[gb145]? = some (.cells #[.int .i64 0, .int .i64 0, .int .i64 0, .string (⟨#[]⟩ : ByteArray)] 27 (0, 0))) := ⟨by rw [← hq_]; exact (bkk BK145.out)⟩; have n1_ : Aside0 (IsS44 w0 w18 g s0_0 t149) := ⟨by rw [← hq_]; exact (isk44)⟩; have n2_ : Aside0 (KeepBut w w18 g none) := ⟨by rw [← hq_]; exact (by repeat (first | (with_reducible first | exact HK.out | apply KeepBut.set_ | apply keep_drewN | apply keep_drew | apply keep_alloc | refine keep_far ?_ GW145.out _) | exact HK.out))⟩; have n3_ : Aside0 (Below w0.heap.size w0 w18) := ⟨by rw [← hq_]; exact (isb44)⟩; clear BK145 HI0 HK HB hq_; have BK145 := n0_; have HI0 := n1_; have HK := n2_; have HB := n3_; clear n0_ n1_ n2_ n3_))) | ((with_reducible refine gate_callee (f := 47) rfl ?_); refine goesL_ (some 29) rfl rfl Tryd.func47 (by kernel_rfl) rfl #[.pointer (some ⟨g, 0, none⟩), .int .i64 1] rfl gl_ ?_; (with_reducible refine (lex_reader_peek.calls g s0_0 t149 1 t157 t158 t159 w0 _ ?side1 ?side2 A14.out).mono ?_); (case side1 => exact isk44); (case side2 => exact isb44); rintro e w19 ⟨rfl, hi, hb, hk⟩; refine ⟨_, rfl, ?_⟩; have n0_ := Aside0.mk (KeepBut.blk hk (g' := gb145) (o := .cells #[.int .i64 0, .int .i64 0, .int .i64 0, .string (⟨#[]⟩ : ByteArray)] 27 (0, 0)) (bkk BK145.out) NB145_0.out (by simp)); have n1_ := Aside0.mk (KeepBut.trans (by repeat (first | (with_reducible first | exact HK.out | apply KeepBut.set_ | apply keep_drewN | apply keep_drew | apply keep_alloc | refine keep_far ?_ GW145.out _) | exact HK.out)) hk (.inl rfl)); have n2_ := Aside0.mk (hb); have n3_ := Aside0.mk (hi); clear BK145; clear HK; clear HB; clear HI0; have BK145 := n0_; have HK := n1_; have HB := n2_; have HI0 := n3_; clear n0_ n1_ n2_ n3_; (try clear hb); (try clear hb2); (try clear hk); (try clear hi); obtain ⟨ASz20_0, cSz20_0, HGz20, hgz20, HSz20_0⟩ := HI0.out; have hcz20_0 := cellS44_0 HGz20; have hcz20_1 := cellS44_1 HGz20; have hfz20_1 := blk_frozen HGz20 1; clear HGz20 hgz20))
   (try simp only [Act.put, List.setIfInBounds_toArray, List.set_cons_zero, List.set_cons_succ])
   go_cut [7, 8, 9] (fun v7 v8 v9 wc => ∃ (kq : Nat) (x7_14 : Int) (x8_14 : ByteArray) (x9_14 : Int) (x1001_14 : Int), v7 = .int .i64 x7_14 ∧ v8 = .string x8_14 ∧ v9 = .int .i64 x9_14 ∧ Aside0 (lex_reader_token.j2 kq x7_14 x8_14 x9_14 s0_0 x1001_14 = some (r1, r2, r3, r4, r5, r6)) ∧ Aside0 (kq ≤ k) ∧ Aside0 (wc.heap[gb145]? = some (.cells #[.int .i64 0, .int .i64 0, .int .i64 0, .string (⟨#[]⟩ : ByteArray)] 27 (0, 0))) ∧ Aside0 (IsS44 w0 wc g s0_0 x1001_14) ∧ Aside0 (KeepBut w wc g none) ∧ Aside0 (Below w0.heap.size w0 wc))
   case first =>
    have H := HC15.out
    clear HC15
    by_cases c21 : t147 = 91
    ·rw [if_pos c21] at H
     have c21b0 : (t147 == 91) = true := beq_iff_eq.mpr c21
     have c21b1 : (t147 != 91) = false := bne_eq_false_iff_eq.mpr c21
     clear c21
     (first | rw [c21b0] | (simp only [i64_w, i32_w]; rw [c21b0]) | skip)
     have H' := Aside0.mk H
     clear H
     go_wp2
     go_meet
     case rel => exact ⟨_, (5), ((⟨#[]⟩ : ByteArray)), (0), (wrap64 (t159 + 1)), ea_, ea_, ea_, H', ⟨by first | omega | exact Nat.le_refl _⟩, ⟨blks⟩, ⟨isk44⟩, ⟨by repeat (first | (with_reducible first | exact HK.out | apply KeepBut.set_ | apply keep_drewN | apply keep_drew | apply keep_alloc | refine keep_far ?_ GW145.out _) | exact HK.out)⟩, ⟨isb44⟩⟩
    ·rw [if_neg c21] at H
     have c21b0 : (t147 == 91) = false := beq_eq_false_iff_ne.mpr c21
     have c21b1 : (t147 != 91) = true := bne_iff_ne.mpr c21
     (first | rw [c21b0] | (simp only [i64_w, i32_w]; rw [c21b0]) | skip)
     by_cases c22 : t147 = 93
     ·rw [if_pos c22] at H
      have c22b0 : (t147 == 93) = true := beq_iff_eq.mpr c22
      have c22b1 : (t147 != 93) = false := bne_eq_false_iff_eq.mpr c22
      clear c22
      have H' := Aside0.mk H
      clear H
      go_wp2
      go_meet
      case rel => exact ⟨_, (6), ((⟨#[]⟩ : ByteArray)), (0), (wrap64 (t159 + 1)), ea_, ea_, ea_, H', ⟨by first | omega | exact Nat.le_refl _⟩, ⟨blks⟩, ⟨isk44⟩, ⟨by repeat (first | (with_reducible first | exact HK.out | apply KeepBut.set_ | apply keep_drewN | apply keep_drew | apply keep_alloc | refine keep_far ?_ GW145.out _) | exact HK.out)⟩, ⟨isb44⟩⟩
     ·rw [if_neg c22] at H
      have c22b0 : (t147 == 93) = false := beq_eq_false_iff_ne.mpr c22
      have c22b1 : (t147 != 93) = true := bne_iff_ne.mpr c22
      have HC23 := Aside0.mk H
      clear H
      go_upto_region 15 with (fail)
      go_cut [45] (fun v45 wc => ∃ (kq : Nat) (x45_22 : Bool), v45 = .bool x45_22 ∧ Aside0 (lex_reader_token.j0 kq t147 t158 t157 3 (⟨#[]⟩ : ByteArray) 0 x45_22 s0_0 (wrap64 (t159 + 1)) = some (r1, r2, r3, r4, r5, r6)) ∧ Aside0 (kq ≤ k) ∧ Aside0 (wc.heap[gb145]? = some (.cells #[.int .i64 0, .int .i64 0, .int .i64 0, .string (⟨#[]⟩ : ByteArray)] 27 (0, 0))) ∧ Aside0 (IsS44 w0 wc g s0_0 (wrap64 (t159 + 1))) ∧ Aside0 (KeepBut w wc g none) ∧ Aside0 (Below w0.heap.size w0 wc))
      case first =>
       have H := HC23.out
       clear HC23
       by_cases c24 : t147 = 60
       ·rw [if_pos c24] at H
        have c24b0 : (t147 == 60) = true := beq_iff_eq.mpr c24
        have c24b1 : (t147 != 60) = false := bne_eq_false_iff_eq.mpr c24
        clear c24
        (first | rw [c24b0] | (simp only [i64_w, i32_w]; rw [c24b0]) | skip)
        by_cases c25 : t158 = true
        ·subst c25
         have H1 : (lex_reader_token.j0 k t147 true t157 3 (⟨#[]⟩ : ByteArray) 0 (t157 == t147) s0_0 (wrap64 (t159 + 1))) = some (r1, r2, r3, r4, r5, r6) := by rw [if_pos rfl] at H; exact H
         clear H
         have H := H1
         clear H1
         have H' := Aside0.mk H
         clear H
         go_wp2
         go_meet
         case rel => exact ⟨_, ((t157 == t147)), ea_, H', ⟨by first | omega | exact Nat.le_refl _⟩, ⟨blks⟩, ⟨isk44⟩, ⟨by repeat (first | (with_reducible first | exact HK.out | apply KeepBut.set_ | apply keep_drewN | apply keep_drew | apply keep_alloc | refine keep_far ?_ GW145.out _) | exact HK.out)⟩, ⟨isb44⟩⟩
        ·replace c25 := Bool.eq_false_iff.mpr c25
         subst c25
         have H1 : (lex_reader_token.j0 k t147 false t157 3 (⟨#[]⟩ : ByteArray) 0 false s0_0 (wrap64 (t159 + 1))) = some (r1, r2, r3, r4, r5, r6) := by rw [if_neg (show ¬ (false = true) by decide)] at H; exact H
         clear H
         have H := H1
         clear H1
         have H' := Aside0.mk H
         clear H
         go_wp2
         go_meet
         case rel => exact ⟨_, (false), ea_, H', ⟨by first | omega | exact Nat.le_refl _⟩, ⟨blks⟩, ⟨isk44⟩, ⟨by repeat (first | (with_reducible first | exact HK.out | apply KeepBut.set_ | apply keep_drewN | apply keep_drew | apply keep_alloc | refine keep_far ?_ GW145.out _) | exact HK.out)⟩, ⟨isb44⟩⟩
       ·rw [if_neg c24] at H
        have c24b0 : (t147 == 60) = false := beq_eq_false_iff_ne.mpr c24
        have c24b1 : (t147 != 60) = true := bne_iff_ne.mpr c24
        (first | rw [c24b0] | (simp only [i64_w, i32_w]; rw [c24b0]) | skip)
        have H' := Aside0.mk H
        clear H
        go_wp2
        go_meet
        case rel => exact ⟨_, (false), ea_, H', ⟨by first | omega | exact Nat.le_refl _⟩, ⟨blks⟩, ⟨isk44⟩, ⟨by repeat (first | (with_reducible first | exact HK.out | apply KeepBut.set_ | apply keep_drewN | apply keep_drew | apply keep_alloc | refine keep_far ?_ GW145.out _) | exact HK.out)⟩, ⟨isb44⟩⟩
      case rest =>
       clear HC23
       try clear c1
       try clear c2
       try clear p2
       try clear c3
       try clear c4
       try clear c6
       try clear c6b0
       try clear c6b1
       try clear p6
       try clear c12
       try clear c18
       try clear c21
       try clear c21b0
       try clear c21b1
       try clear c22
       try clear c22b0
       try clear c22b1
       try clear c24
       try clear c24b0
       try clear c24b1
       try clear c25
       try clear hcz13_0
       try clear hcz13_1
       try clear hcz13_2
       try clear hcz13_3
       try clear hcz20_0
       try clear hcz20_1
       try clear hfz13_0
       try clear hfz13_1
       try clear hfz13_2
       try clear hfz13_3
       try clear hfz20_1
       obtain ⟨kq, x45_22, rfl, HA, HJ22, BK145, HI0, HK, HB⟩ := hcut
       cases kq with
       | zero => exact absurd HA.out (by simp [lex_reader_token.j0])
       | succ kj22 =>
        have H := HA.out
        clear HA
        simp only [lex_reader_token.j0] at H
        by_cases c26 : x45_22 = true
        ·subst c26
         have H1 : (lex_reader_token.j2 kj22 7 (⟨#[]⟩ : ByteArray) 0 s0_0 (wrap64 ((wrap64 (t159 + 1)) + 1))) = some (r1, r2, r3, r4, r5, r6) := by rw [if_pos rfl] at H; exact H
         clear H
         have H := H1
         clear H1
         have H' := Aside0.mk H
         clear H
         obtain ⟨ASz27_0, cSz27_0, HGz27, hgz27, HSz27_0⟩ := HI0.out
         have hcz27_0 := cellS44_0 HGz27
         have hcz27_1 := cellS44_1 HGz27
         have hfz27_1 := blk_frozen HGz27 1
         clear HGz27 hgz27
         go_wp2
         go_meet
         case rel => exact ⟨_, (7), ((⟨#[]⟩ : ByteArray)), (0), (wrap64 ((wrap64 (t159 + 1)) + 1)), ea_, ea_, ea_, H', ⟨by have := HJ22.out; first | omega | exact Nat.le_refl _⟩, ⟨blks⟩, ⟨isk44⟩, ⟨by repeat (first | (with_reducible first | exact HK.out | apply KeepBut.set_ | apply keep_drewN | apply keep_drew | apply keep_alloc | refine keep_far ?_ GW145.out _) | exact HK.out)⟩, ⟨isb44⟩⟩
        ·replace c26 := Bool.eq_false_iff.mpr c26
         subst c26
         have H1 : (if t147 = 62 then (if t158 = true then (lex_reader_token.j1 kj22 t147 3 (⟨#[]⟩ : ByteArray) 0 (t157 == t147) s0_0 (wrap64 (t159 + 1))) else (lex_reader_token.j1 kj22 t147 3 (⟨#[]⟩ : ByteArray) 0 false s0_0 (wrap64 (t159 + 1)))) else (lex_reader_token.j1 kj22 t147 3 (⟨#[]⟩ : ByteArray) 0 false s0_0 (wrap64 (t159 + 1)))) = some (r1, r2, r3, r4, r5, r6) := by rw [if_neg (show ¬ (false = true) by decide)] at H; exact H
         clear H
         have H := H1
         clear H1
         have HC28 := Aside0.mk H
         clear H
         go_upto_region 18 with (fail)
         go_cut [63] (fun v63 wc => ∃ (kq : Nat) (x63_27 : Bool), v63 = .bool x63_27 ∧ Aside0 (lex_reader_token.j1 kq t147 3 (⟨#[]⟩ : ByteArray) 0 x63_27 s0_0 (wrap64 (t159 + 1)) = some (r1, r2, r3, r4, r5, r6)) ∧ Aside0 (kq ≤ kj22) ∧ Aside0 (wc.heap[gb145]? = some (.cells #[.int .i64 0, .int .i64 0, .int .i64 0, .string (⟨#[]⟩ : ByteArray)] 27 (0, 0))) ∧ Aside0 (IsS44 w0 wc g s0_0 (wrap64 (t159 + 1))) ∧ Aside0 (KeepBut w wc g none) ∧ Aside0 (Below w0.heap.size w0 wc))
         case first =>
          have H := HC28.out
          clear HC28
          by_cases c29 : t147 = 62
          ·rw [if_pos c29] at H
           have c29b0 : (t147 == 62) = true := beq_iff_eq.mpr c29
           have c29b1 : (t147 != 62) = false := bne_eq_false_iff_eq.mpr c29
           clear c29
           (first | rw [c29b0] | (simp only [i64_w, i32_w]; rw [c29b0]) | skip)
           by_cases c30 : t158 = true
           ·subst c30
            have H1 : (lex_reader_token.j1 kj22 t147 3 (⟨#[]⟩ : ByteArray) 0 (t157 == t147) s0_0 (wrap64 (t159 + 1))) = some (r1, r2, r3, r4, r5, r6) := by rw [if_pos rfl] at H; exact H
            clear H
            have H := H1
            clear H1
            have H' := Aside0.mk H
            clear H
            go_wp2
            go_meet
            case rel => exact ⟨_, ((t157 == t147)), ea_, H', ⟨by have := HJ22.out; first | omega | exact Nat.le_refl _⟩, ⟨bkk BK145.out⟩, ⟨isk44⟩, ⟨by repeat (first | (with_reducible first | exact HK.out | apply KeepBut.set_ | apply keep_drewN | apply keep_drew | apply keep_alloc | refine keep_far ?_ GW145.out _) | exact HK.out)⟩, ⟨isb44⟩⟩
           ·replace c30 := Bool.eq_false_iff.mpr c30
            subst c30
            have H1 : (lex_reader_token.j1 kj22 t147 3 (⟨#[]⟩ : ByteArray) 0 false s0_0 (wrap64 (t159 + 1))) = some (r1, r2, r3, r4, r5, r6) := by rw [if_neg (show ¬ (false = true) by decide)] at H; exact H
            clear H
            have H := H1
            clear H1
            have H' := Aside0.mk H
            clear H
            go_wp2
            go_meet
            case rel => exact ⟨_, (false), ea_, H', ⟨by have := HJ22.out; first | omega | exact Nat.le_refl _⟩, ⟨bkk BK145.out⟩, ⟨isk44⟩, ⟨by repeat (first | (with_reducible first | exact HK.out | apply KeepBut.set_ | apply keep_drewN | apply keep_drew | apply keep_alloc | refine keep_far ?_ GW145.out _) | exact HK.out)⟩, ⟨isb44⟩⟩
          ·rw [if_neg c29] at H
           have c29b0 : (t147 == 62) = false := beq_eq_false_iff_ne.mpr c29
           have c29b1 : (t147 != 62) = true := bne_iff_ne.mpr c29
           (first | rw [c29b0] | (simp only [i64_w, i32_w]; rw [c29b0]) | skip)
           have H' := Aside0.mk H
           clear H
           go_wp2
           go_meet
           case rel => exact ⟨_, (false), ea_, H', ⟨by have := HJ22.out; first | omega | exact Nat.le_refl _⟩, ⟨bkk BK145.out⟩, ⟨isk44⟩, ⟨by repeat (first | (with_reducible first | exact HK.out | apply KeepBut.set_ | apply keep_drewN | apply keep_drew | apply keep_alloc | refine keep_far ?_ GW145.out _) | exact HK.out)⟩, ⟨isb44⟩⟩
         case rest =>
          clear HC28
          try clear c1
          try clear c2
          try clear p2
          try clear c3
          try clear c4
          try clear c6
          try clear c6b0
          try clear c6b1
          try clear p6
          try clear c12
          try clear c18
          try clear c21
          try clear c21b0
          try clear c21b1
          try clear c22
          try clear c22b0
          try clear c22b1
          try clear c24
          try clear c24b0
          try clear c24b1
          try clear c25
          try clear c26
          try clear c29
          try clear c29b0
          try clear c29b1
          try clear c30
          try clear hcz13_0
          try clear hcz13_1
          try clear hcz13_2
          try clear hcz13_3
          try clear hcz20_0
          try clear hcz20_1
          try clear hcz27_0
          try clear hcz27_1
          try clear hfz13_0
          try clear hfz13_1
          try clear hfz13_2
          try clear hfz13_3
          try clear hfz20_1
          try clear hfz27_1
          try clear p2
          try clear p6
          obtain ⟨kq, x63_27, rfl, HA, HJ27, BK145, HI0, HK, HB⟩ := hcut
          cases kq with
          | zero => exact absurd HA.out (by simp [lex_reader_token.j1])
          | succ kj27 =>
           have H := HA.out
           clear HA
           simp only [lex_reader_token.j1] at H
           by_cases c31 : x63_27 = true
           ·subst c31
            have H1 : (lex_reader_token.j2 kj27 8 (⟨#[]⟩ : ByteArray) 0 s0_0 (wrap64 ((wrap64 (t159 + 1)) + 1))) = some (r1, r2, r3, r4, r5, r6) := by rw [if_pos rfl] at H; exact H
            clear H
            have H := H1
            clear H1
            have H' := Aside0.mk H
            clear H
            obtain ⟨ASz32_0, cSz32_0, HGz32, hgz32, HSz32_0⟩ := HI0.out
            have hcz32_0 := cellS44_0 HGz32
            have hcz32_1 := cellS44_1 HGz32
            have hfz32_1 := blk_frozen HGz32 1
            clear HGz32 hgz32
            go_wp2
            go_meet
            case rel => exact ⟨_, (8), ((⟨#[]⟩ : ByteArray)), (0), (wrap64 ((wrap64 (t159 + 1)) + 1)), ea_, ea_, ea_, H', ⟨by have := HJ22.out; have := HJ27.out; first | omega | exact Nat.le_refl _⟩, ⟨blks⟩, ⟨isk44⟩, ⟨by repeat (first | (with_reducible first | exact HK.out | apply KeepBut.set_ | apply keep_drewN | apply keep_drew | apply keep_alloc | refine keep_far ?_ GW145.out _) | exact HK.out)⟩, ⟨isb44⟩⟩
           ·replace c31 := Bool.eq_false_iff.mpr c31
            subst c31
            have H1 : (if t147 = 60 then ((lex_reader_hexa.f kj27 s0_0 (wrap64 (t159 + 1))).bind fun bt160 => (lex_reader_token.j2 kj27 3 bt160.1 bt160.2.1 s0_0 bt160.2.2)) else (if t147 = 40 then ((lex_reader_text.f kj27 s0_0 (wrap64 (t159 + 1))).bind fun bt163 => (lex_reader_token.j2 kj27 3 bt163.1 bt163.2.1 s0_0 bt163.2.2)) else (if t147 = 47 then ((lex_reader_row.f kj27 s0_0 (wrap64 (t159 + 1))).bind fun bt166 => ((lex_name.f kj27 bt166.1).bind fun bt168 => (lex_reader_token.j2 kj27 2 bt168.1 bt168.2 s0_0 bt166.2))) else (lex_reader_token.j2 kj27 3 (⟨#[]⟩ : ByteArray) 4 s0_0 (wrap64 (t159 + 1)))))) = some (r1, r2, r3, r4, r5, r6) := by rw [if_neg (show ¬ (false = true) by decide)] at H; exact H
            clear H
            have H := H1
            clear H1
            by_cases c33 : t147 = 60
            ·rw [if_pos c33] at H
             have c33b0 : (t147 == 60) = true := beq_iff_eq.mpr c33
             have c33b1 : (t147 != 60) = false := bne_eq_false_iff_eq.mpr c33
             clear c33
             replace H := Option.bind_eq_some_iff.mp H
             obtain ⟨⟨t160, t161, t162⟩, A340, H⟩ := H
             replace H : (lex_reader_token.j2 kj27 3 t160 t161 s0_0 t162) = some (r1, r2, r3, r4, r5, r6) := H
             have A34 := Aside0.mk A340
             clear A340
             have H' := Aside0.mk H
             clear H
             go_wp2_with (first | ((with_reducible refine gate_callee (f := 49) rfl ?_); refine goesL_ (some 86) rfl rfl Tryd.func49 (by kernel_rfl) rfl #[.pointer (some ⟨g, 0, none⟩)] rfl gl_ ?_; (with_reducible refine (lex_reader_hexa.calls kj27 g s0_0 (wrap64 (t159 + 1)) t160 t161 t162 w0 _ ?side1 ?side2 A34.out).mono ?_); (case side1 => exact isk44); (case side2 => exact isb44); rintro e w35 ⟨rfl, hi, hb, hk⟩; refine ⟨_, rfl, ?_⟩; have n0_ := Aside0.mk (KeepBut.blk hk (g' := gb145) (o := .cells #[.int .i64 0, .int .i64 0, .int .i64 0, .string (⟨#[]⟩ : ByteArray)] 27 (0, 0)) (bkk BK145.out) NB145_0.out (by simp)); have n1_ := Aside0.mk (KeepBut.trans (by repeat (first | (with_reducible first | exact HK.out | apply KeepBut.set_ | apply keep_drewN | apply keep_drew | apply keep_alloc | refine keep_far ?_ GW145.out _) | exact HK.out)) hk (.inl rfl)); have n2_ := Aside0.mk (hb); have n3_ := Aside0.mk (hi); clear BK145; clear HK; clear HB; clear HI0; have BK145 := n0_; have HK := n1_; have HB := n2_; have HI0 := n3_; clear n0_ n1_ n2_ n3_; (try clear hb); (try clear hb2); (try clear hk); (try clear hi)))
             go_meet
             case rel => exact ⟨_, (3), (t160), (t161), (t162), ea_, ea_, ea_, H', ⟨by have := HJ22.out; have := HJ27.out; first | omega | exact Nat.le_refl _⟩, ⟨bkk BK145.out⟩, ⟨isk44⟩, ⟨by repeat (first | (with_reducible first | exact HK.out | apply KeepBut.set_ | apply keep_drewN | apply keep_drew | apply keep_alloc | refine keep_far ?_ GW145.out _) | exact HK.out)⟩, ⟨isb44⟩⟩
            ·rw [if_neg c33] at H
             have c33b0 : (t147 == 60) = false := beq_eq_false_iff_ne.mpr c33
             have c33b1 : (t147 != 60) = true := bne_iff_ne.mpr c33
             by_cases c36 : t147 = 40
             ·rw [if_pos c36] at H
              have c36b0 : (t147 == 40) = true := beq_iff_eq.mpr c36
              have c36b1 : (t147 != 40) = false := bne_eq_false_iff_eq.mpr c36
              clear c36
              replace H := Option.bind_eq_some_iff.mp H
              obtain ⟨⟨t163, t164, t165⟩, A370, H⟩ := H
              replace H : (lex_reader_token.j2 kj27 3 t163 t164 s0_0 t165) = some (r1, r2, r3, r4, r5, r6) := H
              have A37 := Aside0.mk A370
              clear A370
              have H' := Aside0.mk H
              clear H
              go_wp2_with (first | ((with_reducible refine gate_callee (f := 50) rfl ?_); refine goesL_ (some 94) rfl rfl Tryd.func50 (by kernel_rfl) rfl #[.pointer (some ⟨g, 0, none⟩)] rfl gl_ ?_; (with_reducible refine (lex_reader_text.calls kj27 g s0_0 (wrap64 (t159 + 1)) t163 t164 t165 w0 _ ?side1 ?side2 A37.out).mono ?_); (case side1 => exact isk44); (case side2 => exact isb44); rintro e w38 ⟨rfl, hi, hb, hk⟩; refine ⟨_, rfl, ?_⟩; have n0_ := Aside0.mk (KeepBut.blk hk (g' := gb145) (o := .cells #[.int .i64 0, .int .i64 0, .int .i64 0, .string (⟨#[]⟩ : ByteArray)] 27 (0, 0)) (bkk BK145.out) NB145_0.out (by simp)); have n1_ := Aside0.mk (KeepBut.trans (by repeat (first | (with_reducible first | exact HK.out | apply KeepBut.set_ | apply keep_drewN | apply keep_drew | apply keep_alloc | refine keep_far ?_ GW145.out _) | exact HK.out)) hk (.inl rfl)); have n2_ := Aside0.mk (hb); have n3_ := Aside0.mk (hi); clear BK145; clear HK; clear HB; clear HI0; have BK145 := n0_; have HK := n1_; have HB := n2_; have HI0 := n3_; clear n0_ n1_ n2_ n3_; (try clear hb); (try clear hb2); (try clear hk); (try clear hi)))
              go_meet
              case rel => exact ⟨_, (3), (t163), (t164), (t165), ea_, ea_, ea_, H', ⟨by have := HJ22.out; have := HJ27.out; first | omega | exact Nat.le_refl _⟩, ⟨bkk BK145.out⟩, ⟨isk44⟩, ⟨by repeat (first | (with_reducible first | exact HK.out | apply KeepBut.set_ | apply keep_drewN | apply keep_drew | apply keep_alloc | refine keep_far ?_ GW145.out _) | exact HK.out)⟩, ⟨isb44⟩⟩
             ·rw [if_neg c36] at H
              have c36b0 : (t147 == 40) = false := beq_eq_false_iff_ne.mpr c36
              have c36b1 : (t147 != 40) = true := bne_iff_ne.mpr c36
              by_cases c39 : t147 = 47
              ·rw [if_pos c39] at H
               have c39b0 : (t147 == 47) = true := beq_iff_eq.mpr c39
               have c39b1 : (t147 != 47) = false := bne_eq_false_iff_eq.mpr c39
               clear c39
               replace H := Option.bind_eq_some_iff.mp H
               obtain ⟨⟨t166, t167⟩, A400, H⟩ := H
               replace H : ((lex_name.f kj27 t166).bind fun bt168 => (lex_reader_token.j2 kj27 2 bt168.1 bt168.2 s0_0 t167)) = some (r1, r2, r3, r4, r5, r6) := H
               have A40 := Aside0.mk A400
               clear A400
               replace H := Option.bind_eq_some_iff.mp H
               obtain ⟨⟨t168, t169⟩, A410, H⟩ := H
               replace H : (lex_reader_token.j2 kj27 2 t168 t169 s0_0 t167) = some (r1, r2, r3, r4, r5, r6) := H
               have A41 := Aside0.mk A410
               clear A410
               have H' := Aside0.mk H
               clear H
               go_wp2_with (first | ((with_reducible refine gate_callee (f := 52) rfl ?_); refine goesL_ (some 102) rfl rfl Tryd.func52 (by kernel_rfl) rfl #[.pointer (some ⟨g, 0, none⟩)] rfl gl_ ?_; (with_reducible refine (lex_reader_row.calls kj27 g s0_0 (wrap64 (t159 + 1)) t166 t167 w0 _ ?side1 ?side2 A40.out).mono ?_); (case side1 => exact isk44); (case side2 => exact isb44); rintro e w42 ⟨rfl, hi, hb, hk⟩; refine ⟨_, rfl, ?_⟩; have n0_ := Aside0.mk (KeepBut.blk hk (g' := gb145) (o := .cells #[.int .i64 0, .int .i64 0, .int .i64 0, .string (⟨#[]⟩ : ByteArray)] 27 (0, 0)) (bkk BK145.out) NB145_0.out (by simp)); have n1_ := Aside0.mk (KeepBut.trans (by repeat (first | (with_reducible first | exact HK.out | apply KeepBut.set_ | apply keep_drewN | apply keep_drew | apply keep_alloc | refine keep_far ?_ GW145.out _) | exact HK.out)) hk (.inl rfl)); have n2_ := Aside0.mk (hb); have n3_ := Aside0.mk (hi); clear BK145; clear HK; clear HB; clear HI0; have BK145 := n0_; have HK := n1_; have HB := n2_; have HI0 := n3_; clear n0_ n1_ n2_ n3_; (try clear hb); (try clear hb2); (try clear hk); (try clear hi)) | ((with_reducible refine gate_callee (f := 51) rfl ?_); refine goesL_ (some 103) rfl rfl Tryd.func51 (by kernel_rfl) rfl #[.string t166] rfl gl_ ?_; (with_reducible refine (lex_name.calls kj27 t166 t168 t169 _ A41.out).mono ?_); rintro e w43 ⟨rfl, hb⟩; refine ⟨_, rfl, ?_⟩; have n0_ := Aside0.mk (blk_below (bkk BK145.out) hb); have n1_ := Aside0.mk (IsS44.below (isk44) hb); have n2_ := Aside0.mk (KeepBut.trans (by repeat (first | (with_reducible first | exact HK.out | apply KeepBut.set_ | apply keep_drewN | apply keep_drew | apply keep_alloc | refine keep_far ?_ GW145.out _) | exact HK.out)) (KeepBut.of_below hb g none) (.inl rfl)); have n3_ := Aside0.mk (below_step (isb44) hb); clear BK145; clear HI0; clear HK; clear HB; have BK145 := n0_; have HI0 := n1_; have HK := n2_; have HB := n3_; clear n0_ n1_ n2_ n3_; (try clear hb); (try clear hb2); (try clear hk); (try clear hi)))
               go_meet
               case rel => exact ⟨_, (2), (t168), (t169), (t167), ea_, ea_, ea_, H', ⟨by have := HJ22.out; have := HJ27.out; first | omega | exact Nat.le_refl _⟩, ⟨bkk BK145.out⟩, ⟨isk44⟩, ⟨by repeat (first | (with_reducible first | exact HK.out | apply KeepBut.set_ | apply keep_drewN | apply keep_drew | apply keep_alloc | refine keep_far ?_ GW145.out _) | exact HK.out)⟩, ⟨isb44⟩⟩
              ·rw [if_neg c39] at H
               have c39b0 : (t147 == 47) = false := beq_eq_false_iff_ne.mpr c39
               have c39b1 : (t147 != 47) = true := bne_iff_ne.mpr c39
               have H' := Aside0.mk H
               clear H
               go_wp2
               go_meet
               case rel => exact ⟨_, (3), ((⟨#[]⟩ : ByteArray)), (4), ((wrap64 (t159 + 1))), ea_, ea_, ea_, H', ⟨by have := HJ22.out; have := HJ27.out; first | omega | exact Nat.le_refl _⟩, ⟨bkk BK145.out⟩, ⟨isk44⟩, ⟨by repeat (first | (with_reducible first | exact HK.out | apply KeepBut.set_ | apply keep_drewN | apply keep_drew | apply keep_alloc | refine keep_far ?_ GW145.out _) | exact HK.out)⟩, ⟨isb44⟩⟩
   case rest =>
    clear HC15
    try clear c1
    try clear c2
    try clear p2
    try clear c3
    try clear c4
    try clear c5
    try clear c6
    try clear c6b0
    try clear c6b1
    try clear p6
    try clear c12
    try clear c18
    try clear c21
    try clear c21b0
    try clear c21b1
    try clear c22
    try clear c22b0
    try clear c22b1
    try clear c24
    try clear c24b0
    try clear c24b1
    try clear c25
    try clear c26
    try clear c29
    try clear c29b0
    try clear c29b1
    try clear c30
    try clear c31
    try clear c33
    try clear c33b0
    try clear c33b1
    try clear c36
    try clear c36b0
    try clear c36b1
    try clear c39
    try clear c39b0
    try clear c39b1
    try clear hcz13_0
    try clear hcz13_1
    try clear hcz13_2
    try clear hcz13_3
    try clear hcz20_0
    try clear hcz20_1
    try clear hcz27_0
    try clear hcz27_1
    try clear hcz32_0
    try clear hcz32_1
    try clear hfz13_0
    try clear hfz13_1
    try clear hfz13_2
    try clear hfz13_3
    try clear hfz20_1
    try clear hfz27_1
    try clear hfz32_1
    try clear p2
    try clear p6
    obtain ⟨kq, x7_14, x8_14, x9_14, x1001_14, rfl, rfl, rfl, HA, HJ14, BK145, HI0, HK, HB⟩ := hcut
    cases kq with
    | zero => exact absurd HA.out (by simp [lex_reader_token.j2])
    | succ kj14 =>
     have H := HA.out
     clear HA
     simp only [lex_reader_token.j2] at H
     by_cases c44 : x9_14 = 0
     ·rw [if_pos c44] at H
      have c44b0 : (x9_14 == 0) = true := beq_iff_eq.mpr c44
      have c44b1 : (x9_14 != 0) = false := bne_eq_false_iff_eq.mpr c44
      clear c44
      by_cases c45 : (x8_14.size : Int) > 65535
      ·rw [if_pos c45] at H
       have c45b0 : decide (65535 < (x8_14.size : Int)) = true := decide_eq_true c45
       have c45b1 : decide (65535 < x8_14.size) = true := decide_eq_true (by omega)
       clear c45
       simp only [Option.some.injEq, Prod.mk.injEq] at H
       obtain ⟨rfl, rfl, rfl, rfl, rfl, rfl⟩ := H
       have hnbq0 := NB145_0.out
       have hncq0 := NB0_145.out
       have hczq0 : wc.cell? ⟨gb145, 0, none⟩ = some (.int .i64 0) := (blk_cell BK145.out 0).trans rfl
       have hczq1 : wc.cell? ⟨gb145, 1, none⟩ = some (.int .i64 0) := (blk_cell BK145.out 1).trans rfl
       have hczq2 : wc.cell? ⟨gb145, 2, none⟩ = some (.int .i64 0) := (blk_cell BK145.out 2).trans rfl
       have hczq3 : wc.cell? ⟨gb145, 3, none⟩ = some (.string (⟨#[]⟩ : ByteArray)) := (blk_cell BK145.out 3).trans rfl
       have hfzq0 := blk_frozen BK145.out 0
       have hfzq1 := blk_frozen BK145.out 1
       have hfzq2 := blk_frozen BK145.out 2
       have hfzq3 := blk_frozen BK145.out 3
       exact lf_P1_1
      ·rw [if_neg c45] at H
       have c45b0 : decide (65535 < (x8_14.size : Int)) = false := decide_eq_false c45
       have c45b1 : decide (65535 < x8_14.size) = false := decide_eq_false (by omega)
       clear c45
       simp only [Option.some.injEq, Prod.mk.injEq] at H
       obtain ⟨rfl, rfl, rfl, rfl, rfl, rfl⟩ := H
       have hnbq0 := NB145_0.out
       have hncq0 := NB0_145.out
       have hczq0 : wc.cell? ⟨gb145, 0, none⟩ = some (.int .i64 0) := (blk_cell BK145.out 0).trans rfl
       have hczq1 : wc.cell? ⟨gb145, 1, none⟩ = some (.int .i64 0) := (blk_cell BK145.out 1).trans rfl
       have hczq2 : wc.cell? ⟨gb145, 2, none⟩ = some (.int .i64 0) := (blk_cell BK145.out 2).trans rfl
       have hczq3 : wc.cell? ⟨gb145, 3, none⟩ = some (.string (⟨#[]⟩ : ByteArray)) := (blk_cell BK145.out 3).trans rfl
       have hfzq0 := blk_frozen BK145.out 0
       have hfzq1 := blk_frozen BK145.out 1
       have hfzq2 := blk_frozen BK145.out 2
       have hfzq3 := blk_frozen BK145.out 3
       exact lf_P1_1
     ·rw [if_neg c44] at H
      have c44b0 : (x9_14 == 0) = false := beq_eq_false_iff_ne.mpr c44
      have c44b1 : (x9_14 != 0) = true := bne_iff_ne.mpr c44
      simp only [Option.some.injEq, Prod.mk.injEq] at H
      obtain ⟨rfl, rfl, rfl, rfl, rfl, rfl⟩ := H
      have hnbq0 := NB145_0.out
      have hncq0 := NB0_145.out
      have hczq0 : wc.cell? ⟨gb145, 0, none⟩ = some (.int .i64 0) := (blk_cell BK145.out 0).trans rfl
      have hczq1 : wc.cell? ⟨gb145, 1, none⟩ = some (.int .i64 0) := (blk_cell BK145.out 1).trans rfl
      have hczq2 : wc.cell? ⟨gb145, 2, none⟩ = some (.int .i64 0) := (blk_cell BK145.out 2).trans rfl
      have hczq3 : wc.cell? ⟨gb145, 3, none⟩ = some (.string (⟨#[]⟩ : ByteArray)) := (blk_cell BK145.out 3).trans rfl
      have hfzq0 := blk_frozen BK145.out 0
      have hfzq1 := blk_frozen BK145.out 1
      have hfzq2 := blk_frozen BK145.out 2
      have hfzq3 := blk_frozen BK145.out 3
      exact lf_P1_1
 ·replace c4 := Bool.eq_false_iff.mpr c4
  subst c4
  have H1 : (some (0, 0, 0, (⟨#[]⟩ : ByteArray), 0, t149)) = some (r1, r2, r3, r4, r5, r6) := by rw [if_neg (show ¬ (false = true) by decide)] at H; exact H
  clear H
  have H := H1
  clear H1
  simp only [Option.some.injEq, Prod.mk.injEq] at H
  obtain ⟨rfl, rfl, rfl, rfl, rfl, rfl⟩ := H
  go_enter Tryd.func18, Tryd.ntmps18
  go_wp2_with (first | ((with_reducible refine gate_dst (N := 2) rfl ?_); refine box_event ?hg (N := 2) ?hd (cs := #[.int .i64 0, .int .i64 0, .int .i64 0, .string (⟨#[]⟩ : ByteArray)]) (t := 27) ?hr ?_; (case hd => rfl); (case hg => rfl); (case hr => first | (go_simp; done) | (go_simp; rfl)); intro gb145 hg wq0 hbox hb; have n0_ := Aside0.mk (IsS44.below (isk44) hb); have n1_ := Aside0.mk (KeepBut.trans (by repeat (first | (with_reducible first | exact HK.out | apply KeepBut.set_ | apply keep_drewN | apply keep_drew | apply keep_alloc) | exact HK.out)) (KeepBut.of_below hb g none) (.inl rfl)); have n2_ := Aside0.mk (below_step (isb44) hb); have n3_ := Aside0.mk (hbox); have n4_ := Aside0.mk ((by rw [hg]; exact (keep_size (w := w) (g := g) (row := none) (by repeat (first | (with_reducible first | exact HK.out | apply KeepBut.set_ | apply keep_drewN | apply keep_drew | apply keep_alloc) | exact HK.out))) : w.heap.size ≤ gb145)); have n5_ := Aside0.mk ((Nat.le_trans HW0.out (by rw [hg]; exact (keep_size (w := w) (g := g) (row := none) (by repeat (first | (with_reducible first | exact HK.out | apply KeepBut.set_ | apply keep_drewN | apply keep_drew | apply keep_alloc) | exact HK.out))) : w.heap.size ≤ gb145) : w0.heap.size ≤ gb145)); have n6_ := Aside0.mk ((by rw [hg]; exact Nat.ne_of_lt (IsS44.lt (show IsS44 w0 _ g s0_0 s0_1 from isk44)) : g ≠ gb145)); have n7_ := Aside0.mk ((by rw [hg]; exact Nat.ne_of_gt (IsS44.lt (show IsS44 w0 _ g s0_0 s0_1 from isk44)) : gb145 ≠ g)); clear HI0; clear HK; clear HB; have HI0 := n0_; have HK := n1_; have HB := n2_; have BK145 := n3_; have GW145 := n4_; have GE145 := n5_; have NB0_145 := n6_; have NB145_0 := n7_; clear n0_ n1_ n2_ n3_ n4_ n5_ n6_ n7_; clear hb hbox hg) | ((with_reducible refine gate_callee (f := 46) rfl ?_); refine goesL_ (some 11) rfl rfl Tryd.func46 (by kernel_rfl) rfl #[.pointer (some ⟨g, 0, none⟩)] rfl gl_ ?_; (with_reducible refine (lex_reader_skip.calls k g s0_0 s0_1 t146 w0 _ ?side1 ?side2 A2.out).mono ?_); (case side1 => exact isk44); (case side2 => exact isb44); rintro e wq1 ⟨rfl, hi, hb, hk⟩; refine ⟨_, rfl, ?_⟩; have n0_ := Aside0.mk (KeepBut.blk hk (g' := gb145) (o := .cells #[.int .i64 0, .int .i64 0, .int .i64 0, .string (⟨#[]⟩ : ByteArray)] 27 (0, 0)) (bkk BK145.out) NB145_0.out (by simp)); have n1_ := Aside0.mk (KeepBut.trans (by repeat (first | (with_reducible first | exact HK.out | apply KeepBut.set_ | apply keep_drewN | apply keep_drew | apply keep_alloc | refine keep_far ?_ GW145.out _) | exact HK.out)) hk (.inl rfl)); have n2_ := Aside0.mk (hb); have n3_ := Aside0.mk (hi); clear BK145; clear HK; clear HB; clear HI0; have BK145 := n0_; have HK := n1_; have HB := n2_; have HI0 := n3_; clear n0_ n1_ n2_ n3_; (try clear hb); (try clear hb2); (try clear hk); (try clear hi)) | ((with_reducible refine gate_callee (f := 47) rfl ?_); refine goesL_ (some 14) rfl rfl Tryd.func47 (by kernel_rfl) rfl #[.pointer (some ⟨g, 0, none⟩), .int .i64 0] rfl gl_ ?_; (with_reducible refine (lex_reader_peek.calls g s0_0 t146 0 t147 false t149 w0 _ ?side1 ?side2 A3.out).mono ?_); (case side1 => exact isk44); (case side2 => exact isb44); rintro e wq2 ⟨rfl, hi, hb, hk⟩; refine ⟨_, rfl, ?_⟩; have n0_ := Aside0.mk (KeepBut.blk hk (g' := gb145) (o := .cells #[.int .i64 0, .int .i64 0, .int .i64 0, .string (⟨#[]⟩ : ByteArray)] 27 (0, 0)) (bkk BK145.out) NB145_0.out (by simp)); have n1_ := Aside0.mk (KeepBut.trans (by repeat (first | (with_reducible first | exact HK.out | apply KeepBut.set_ | apply keep_drewN | apply keep_drew | apply keep_alloc | refine keep_far ?_ GW145.out _) | exact HK.out)) hk (.inl rfl)); have n2_ := Aside0.mk (hb); have n3_ := Aside0.mk (hi); clear BK145; clear HK; clear HB; clear HI0; have BK145 := n0_; have HK := n1_; have HB := n2_; have HI0 := n3_; clear n0_ n1_ n2_ n3_; (try clear hb); (try clear hb2); (try clear hk); (try clear hi); have hnbq0 := NB145_0.out; have hncq0 := NB0_145.out; have hczq0 : wq2.cell? ⟨gb145, 0, none⟩ = some (.int .i64 0) := (blk_cell BK145.out 0).trans rfl; have hczq1 : wq2.cell? ⟨gb145, 1, none⟩ = some (.int .i64 0) := (blk_cell BK145.out 1).trans rfl; have hczq2 : wq2.cell? ⟨gb145, 2, none⟩ = some (.int .i64 0) := (blk_cell BK145.out 2).trans rfl; have hczq3 : wq2.cell? ⟨gb145, 3, none⟩ = some (.string (⟨#[]⟩ : ByteArray)) := (blk_cell BK145.out 3).trans rfl; have hfzq0 := blk_frozen BK145.out 0; have hfzq1 := blk_frozen BK145.out 1; have hfzq2 := blk_frozen BK145.out 2; have hfzq3 := blk_frozen BK145.out 3))
  refine bodyPost_ret (results_ct rfl _ _ gb145 27 #[.int .i64 0, .int .i64 0, .int .i64 0, .string (⟨#[]⟩ : ByteArray)] (0, 0) _ rfl (by (with_reducible repeat (first | refine blk_drewN ?_ _ | refine blk_drew ?_ | refine blk_alloc ?_ _)); refine blk_put (cs := #[.int .i64 0, .int .i64 0, .int .i64 0, .string (⟨#[]⟩ : ByteArray)]) ?_ 3 _ rfl; (with_reducible repeat (first | refine blk_drewN ?_ _ | refine blk_drew ?_ | refine blk_alloc ?_ _)); refine blk_put (cs := #[.int .i64 0, .int .i64 0, .int .i64 0, .string (⟨#[]⟩ : ByteArray)]) ?_ 2 _ rfl; (with_reducible repeat (first | refine blk_drewN ?_ _ | refine blk_drew ?_ | refine blk_alloc ?_ _)); refine blk_put (cs := #[.int .i64 0, .int .i64 0, .int .i64 0, .string (⟨#[]⟩ : ByteArray)]) ?_ 1 _ rfl; (with_reducible repeat (first | refine blk_drewN ?_ _ | refine blk_drew ?_ | refine blk_alloc ?_ _)); refine blk_put (cs := #[.int .i64 0, .int .i64 0, .int .i64 0, .string (⟨#[]⟩ : ByteArray)]) ?_ 0 _ rfl; (with_reducible repeat (first | refine blk_drewN ?_ _ | refine blk_drew ?_ | refine blk_alloc ?_ _)); exact BK145.out) Tryd.underlying27 rfl (by kernel_rfl)) rfl ?_
  exact ⟨ee_, isk44, isb44, by repeat (first | (with_reducible first | exact HK.out | apply KeepBut.set_ | apply keep_drewN | apply keep_drew | apply keep_alloc | refine keep_far ?_ GW145.out _) | exact HK.out)⟩
end Go.Proofs.YtnhgnejfagncpaaDoor.P
end
section
namespace Go.Proofs.YtnhgnejfagncpaaDoor.P
open Go Go.Shelf Go.RowKit Go.Proofs.YtnhgnejfagncpaaDoorW.PrintWords Go.Proofs.YtnhgnejfagncpaaDoorW.PrintLast Go.Proofs.YtnhgnejfagncpaaDoorW.PrintMore
set_option linter.unusedVariables false
set_option linter.unusedSimpArgs false
theorem sizeBuilder : (Tryd.prog.info? 59).map (fun i => i.size) = some 2 := by kernel_rfl
theorem infoByte : (Tryd.prog.info? 5).map (fun i => (i.zero, i.size, i.bytes)) = some (some (.int .u8 0), 1, 1) := by kernel_rfl
set_option maxHeartbeats 1000000 in
set_option maxRecDepth 100000 in
theorem copyCheck_used (b : Nat) (w : World) (h0 : w.cell? ⟨b, 0, none⟩ = some (.pointer (some ⟨b, 0, none⟩))) :
    Calls Tryd.prog 63 #[.pointer (some ⟨b, 0, none⟩)] w fun e w' => e = .returned (.tuple #[]) ∧ w' = w := by
  obtain ⟨j, hj, _⟩ := Option.map_eq_some_iff.1 sizeBuilder
  go_enter Tryd.func63, Tryd.ntmps63
  go_wp2
  rw [Lib.run_neq_ptr_same w _ Tryd.underlying57 hj]
  go_wp2
  go_end0
  exact ⟨rfl, rfl⟩
set_option maxHeartbeats 1000000 in
set_option maxRecDepth 100000 in
theorem copyCheck_fresh (b : Nat) (w : World) (h0 : w.cell? ⟨b, 0, none⟩ = some (.pointer none)) (hsh : w.shape? b = some (59, 2)) (hfz : w.frozen? ⟨b, 0, none⟩ = false) :
    Calls Tryd.prog 63 #[.pointer (some ⟨b, 0, none⟩)] w fun e w' => e = .returned (.tuple #[]) ∧ w' = w.setCell ⟨b, 0, none⟩ (.pointer (some ⟨b, 0, none⟩)) := by
  obtain ⟨j, hj, hjs⟩ := Option.map_eq_some_iff.1 sizeBuilder
  go_enter Tryd.func63, Tryd.ntmps63
  go_wp2
  rw [Lib.run_to_unsafe w ⟨b, 0, none⟩ Tryd.underlying57 Tryd.underlying127 hj (by rw [hjs]; decide) hsh (Nat.zero_lt_succ 1)]
  simp only [Result.andThen]
  rw [Oper.upon_value]
  go_wp2
  rw [run_callFunc_extern Tryd.func91 (by kernel_rfl) (by kernel_rfl) (by kernel_rfl) (e := Extern.AbiNoEscape.same) (by kernel_rfl)]
  rw [Lib.run_noEscape]
  simp only [Result.andThen]
  rw [Oper.upon_value]
  go_wp2
  rw [Lib.run_from_unsafe w ⟨b, 0, none⟩ Tryd.underlying127 Tryd.underlying57 hj hsh (by kernel_rfl)]
  simp only [Result.andThen]
  rw [Oper.upon_value]
  go_wp2
  go_end0
  exact ⟨rfl, rfl⟩
theorem builderAt_below {B b : Nat} {p : Value} {bs : List Value} {w w' : World} (h : Lib.BuilderAt 59 5 B b p bs w) (hb : Below w.heap.size w w') : Lib.BuilderAt 59 5 B b p bs w' := by
  obtain ⟨hB, v, hk, ho, hne⟩ := h
  exact ⟨hB, v, blk_below hk hb, pw_own_below ho hb, hne⟩
theorem string_at {P : Program} (w : World) (base : Nat) (t u ty e : TypeId) (i : TypeInfo) (ht : P.underlying t = some (.slice e)) (hu : P.underlying u = some .string) (hi : P.info? e = some i) (hz : i.zero = some (.int .u8 0))
    (hsize : i.size = 1) (hby : i.bytes = 1) (v : Value) (n : Nat) (xs : List Value) (hown : w.ownsRow base e 1 v n xs) (s : ByteArray) (h63 : n + s.size ≤ maxLen) (hbytes : n + s.size ≤ 140737488355328)
    (v' : Value) (w' : World) (hr' : (Builtin.append_ #[t, u] ty #[v, .string s]).run P w = .ok v' w') (h4 : v' = .slice none 0 0 ↔ v = .slice none 0 0 ∧ s.size = 0) :
    v'.ownBlock = v.ownBlock ∨ ∃ b, v'.ownBlock = some b ∧ w.heap.size ≤ b := by
  have hm : n + s.size ≤ 9223372036854775807 := by simp only [maxLen] at h63; omega
  have hxl : xs.length = n := by simpa using hown.1
  rcases hown.2 with ⟨rfl, rfl⟩ | ⟨g, cap, cur, rfl, hbg, hg, hnc, hcm, hcs, htake⟩
  · by_cases h0 : s.size = 0
    · rw [h4.2 ⟨rfl, h0⟩]
      exact Or.inl rfl
    · have hr := run_append_nil_string (P := P) w t u ty e i (.int .u8 0) ht hu hi hz s (by omega) (by omega) (by rw [hby]; omega)
      rw [hr'] at hr
      injection hr with e1 _
      subst e1
      exact Or.inr ⟨w.heap.size, rfl, Nat.le_refl _⟩
  · by_cases hroom : n + s.size ≤ cap
    · have hcs' : cur.size = cap := by simpa using hcs
      have hr := Lib.run_append_room_string (P := P) w t u ty e i ht hu hi hsize g n cap cur hg s hroom (by omega)
      rw [hr'] at hr
      injection hr with e1 _
      subst e1
      exact Or.inl rfl
    · have holds : ∀ j u, xs[j]? = some u → w.cell? ((⟨g, 0, none⟩ : Addr).add j) = some u := hown.cells (g := g) rfl
      have hr := Lib.run_append_grow_string (P := P) w t u ty e i (.int .u8 0) ht hu hi hz ⟨g, 0, none⟩ n cap xs (by rw [hsize]; simpa using hxl) holds s (by omega) (by omega) (by rw [hby]; exact growslice_fits (by omega) (by omega))
      rw [hr'] at hr
      injection hr with e1 _
      subst e1
      exact Or.inr ⟨w.heap.size, rfl, Nat.le_refl _⟩
theorem wpList_string_at {P : Program} {w : World} {ops : Array Oper} {rest : List Oper} {o : Oper} {a : Act} {Q : Exit → Act → World → Prop} (hgd : o.guard = none) (sl x : Operand) (t u : TypeId)
    (ho : o.op = .call { callee := .builtin .append, args := #[sl, x], argTypes := #[t, u] })
    (base : Nat) (e : TypeId) (i : TypeInfo) (ht : P.underlying t = some (.slice e)) (hu : P.underlying u = some .string) (hi : P.info? e = some i) (hz : i.zero = some (.int .u8 0))
    (hsize : i.size = 1) (hby : i.bytes = 1)
    (v : Value) (n : Nat) (xs : List Value) (hs : a.eval sl = v) (hown : w.ownsRow base e 1 v n xs) (s : ByteArray) (hx : a.eval x = .string s)
    (h63 : n + s.size ≤ maxLen) (hbytes : n + s.size ≤ 140737488355328) (hbase : base ≤ w.heap.size)
    (h : ∀ v' w', w'.ownsRow base e 1 v' (n + s.size) (xs ++ Lib.strCells s) → w.grownBy w' v.ownBlock → (v'.ownBlock = v.ownBlock ∨ ∃ b, v'.ownBlock = some b ∧ w.heap.size ≤ b) → wpList P ops Q rest (a.put o.dst v') w') : wpList P ops Q (o :: rest) a w := by
  refine wpList_plain hgd fun K hK => ?_
  obtain ⟨v', w', hr, h2, h3, h4⟩ := Lib.run_append_own_string (P := P) w base t u o.type e i ht hu hi hz hsize hby v n xs hown s h63 hbytes hbase
  have hat := string_at w base t u o.type e i ht hu hi hz hsize hby v n xs hown s h63 hbytes v' w' hr h4
  unfold Oper.wp execOp
  simp only [ho, resolve, invoke, builtin, Sem.run_bind, Sem.run_pure, Result.andThen_ok, List.map_toArray, List.map_cons, List.map_nil, hs, hx, hr]
  exact hK _ _ (h v' w' h2 h3 hat)
def OwnP (b : Nat) (P : Nat → Prop) (w : World) : Prop := ∀ p v fr, w.heap[b]? = some (.cells #[p, v] 59 fr) → ∀ k, v.ownBlock = some k → P k
theorem OwnP.of {b : Nat} {P : Nat → Prop} {w : World} {p v : Value} {fr : Nat × Nat} (hbk : w.heap[b]? = some (.cells #[p, v] 59 fr)) (h : ∀ k, v.ownBlock = some k → P k) : OwnP b P w := by
  intro p' v' fr' hk
  rw [hbk] at hk
  have h1 := Option.some.inj hk
  injection h1 with h2 _ _
  have h3 : ([p, v] : List Value) = [p', v'] := congrArg Array.toList h2
  injection h3 with _ h4
  injection h4 with h5 _
  rw [← h5]
  exact h
theorem copyCheck2 (B b : Nat) (bs : List Value) (w : World) (h : Lib.IsBuilder 59 5 B b bs w) :
    Calls Tryd.prog 63 #[.pointer (some ⟨b, 0, none⟩)] w fun e w' => e = .returned (.tuple #[]) ∧ (Lib.BuilderAt 59 5 B b (.pointer (some ⟨b, 0, none⟩)) bs w' ∧ Below B w w' ∧ Kept w w' (fun k => k = b) ∧ ∀ P, OwnP b P w → OwnP b P w') := by
  rcases h with h | h
  · refine (copyCheck_fresh b w h.cell0 h.shape h.frozen0).mono ?_
    rintro e w' ⟨rfl, rfl⟩
    refine ⟨rfl, h.used _, (Below.refl B w).setCell (p := ⟨b, 0, none⟩) h.1 _, Kept.setCell (S := fun k => k = b) (Kept.refl w _) (.inl rfl) _, fun P hP => ?_⟩
    obtain ⟨_, v, hbk, _⟩ := h
    exact OwnP.of (blk_set hbk 0 (.pointer (some ⟨b, 0, none⟩))) (hP _ _ _ hbk)
  · refine (copyCheck_used b w h.cell0).mono ?_
    rintro e w' ⟨rfl, rfl⟩
    exact ⟨rfl, h, Below.refl B _, Kept.refl _ _, fun _ hP => hP⟩
set_option maxHeartbeats 2000000 in
set_option maxRecDepth 100000 in
theorem writeByte2 (B b : Nat) (P : Nat → Prop) (bs : List Value) (c : Int) (w : World) (hP : OwnP b P w) (hF : ∀ k, w.heap.size ≤ k → P k) (h : Lib.IsBuilder 59 5 B b bs w) (hlen : bs.length + 1 ≤ 140737488355328) (hBw : B ≤ w.heap.size) :
    Calls Tryd.prog 29 #[.pointer (some ⟨b, 0, none⟩), .int .u8 c] w fun e w' => e = .returned .nilIface ∧ (Lib.BuilderAt 59 5 B b (.pointer (some ⟨b, 0, none⟩)) (bs ++ [.int .u8 c]) w' ∧ Below B w w' ∧ OwnP b P w' ∧ Kept w w' (fun k => k = b ∨ P k)) := by
  have HP := Aside0.mk hP
  have HF := Aside0.mk hF
  clear hP hF
  obtain ⟨i0, hi, hz0, hz1, hz2⟩ := info_parts infoByte
  go_enter Tryd.func29, Tryd.ntmps29
  go_wp2_with fail
  refine (copyCheck2 B b bs _ h).mono ?_
  rintro e w1 ⟨rfl, h1, hb1, hk1, hp1⟩
  have HK1 := Aside0.mk hk1
  have HP1 := Aside0.mk (hp1 P HP.out)
  clear hk1 hp1
  obtain ⟨hB, v, hbk, hown, hne⟩ := h1
  have c0 : w1.cell? ⟨b, 0, none⟩ = some (.pointer (some ⟨b, 0, none⟩)) := by rw [Lib.cell_of_heap hbk]; rfl
  have c1 : w1.cell? ⟨b, 1, none⟩ = some v := by rw [Lib.cell_of_heap hbk]; rfl
  go_wp2_with (at_builtin; refine wpList_append_own_at _ rfl _ _ 22 rfl B 5 i0 (.int .u8 0) 1 1 Tryd.underlying22 hi hz0 hz1 hz2 rfl (by decide) _ _ _ rfl (hown.alloc _) ⟨w1.heap.size, 0, none⟩ 1 1 [.int .u8 c] rfl rfl ?c1 ?c2 ?c3 ?c4 ?c5 ?_)
  case c1 =>
    intro j u hj
    match j, hj with
    | 0, hj => simp at hj; subst hj; simp [Addr.add]
  case c2 => intro u hu; simp at hu; subst hu; rfl
  case c3 => unfold maxLen; omega
  case c4 => omega
  case c5 => have := hb1.size; simp; omega
  intro v' w2 hown' hgrow _ hat
  have HAT := Aside0.mk hat
  clear hat
  have hlt : b < w1.heap.size := by
    rcases Nat.lt_or_ge b w1.heap.size with h' | h'
    · exact h'
    · simp [Array.getElem?_eq_none h'] at hbk
  have hb2 : w2.heap[b]? = some (.cells #[.pointer (some ⟨b, 0, none⟩), v] 59 (0, 0)) := by
    rw [hgrow.block b (by simp; omega) (fun e => hne e.symm), Lib.alloc_old w1 _ b hlt]
    exact hbk
  have d0 : w2.cell? ⟨b, 0, none⟩ = some (.pointer (some ⟨b, 0, none⟩)) := by rw [Lib.cell_of_heap hb2]; rfl
  have d1 : w2.cell? ⟨b, 1, none⟩ = some v := by rw [Lib.cell_of_heap hb2]; rfl
  have f1 : w2.frozen? ⟨b, 1, none⟩ = false := Lib.frozen_of_heap hb2 1
  have HOP := Aside0.mk (HP1.out _ _ _ hbk)
  obtain ⟨g, cap, rfl⟩ : ∃ g cap, v' = .slice (some ⟨g, 0, none⟩) (bs.length + 1) cap := by
    rcases hown'.2 with ⟨_, h0⟩ | ⟨g, cap, cur, hv, _⟩
    · omega
    · exact ⟨g, cap, hv⟩
  go_wp2
  go_ret
  refine ⟨rfl, ?_, ?_, ?_, ?_⟩
  · exact Lib.BuilderAt.put (T := 59) (e := 5) hB hb2 (bs' := bs ++ [.int .u8 c]) (by simpa using hown') (by decide)
  · exact ((hb1.alloc (by have := hb1.size; omega) _).grown hgrow (by have := hb1.size; simp; omega) (fun k hk => (hown.lt k hk).1)).setCell (p := ⟨b, 1, none⟩) hB _
  · refine OwnP.of (blk_set hb2 1 _) (fun k hk => ?_)
    rcases HAT.out with ha | ha
    · exact HOP.out k (ha ▸ hk)
    · rw [ha] at hk
      obtain rfl := Option.some.inj hk
      exact HF.out _ (Nat.le_trans HK1.out.1 (by first | omega | (rw [World.size_alloc]; omega)))
  · refine Kept.setCell (Kept.of_grown (w := w) hgrow (Kept.alloc (HK1.out.mono (fun k hk => Or.inl hk)) _) (fun k hk => Or.inl (Or.inr (HOP.out k hk)))) (.inl (.inl rfl)) _
set_option maxHeartbeats 2000000 in
set_option maxRecDepth 100000 in
theorem writeString2 (B b : Nat) (P : Nat → Prop) (bs : List Value) (s : ByteArray) (w : World) (hP : OwnP b P w) (hF : ∀ k, w.heap.size ≤ k → P k) (h : Lib.IsBuilder 59 5 B b bs w) (hlen : bs.length + s.size ≤ 140737488355328) (hBw : B ≤ w.heap.size) :
    Calls Tryd.prog 31 #[.pointer (some ⟨b, 0, none⟩), .string s] w fun e w' => (∃ v, e = .returned v) ∧ (Lib.BuilderAt 59 5 B b (.pointer (some ⟨b, 0, none⟩)) (bs ++ Lib.strCells s) w' ∧ Below B w w' ∧ OwnP b P w' ∧ Kept w w' (fun k => k = b ∨ P k)) := by
  have HP := Aside0.mk hP
  have HF := Aside0.mk hF
  clear hP hF
  obtain ⟨i0, hi, hz0, hz1, hz2⟩ := info_parts infoByte
  go_enter Tryd.func31, Tryd.ntmps31
  go_wp2_with fail
  refine (copyCheck2 B b bs _ h).mono ?_
  rintro e w1 ⟨rfl, h1, hb1, hk1, hp1⟩
  have HK1 := Aside0.mk hk1
  have HP1 := Aside0.mk (hp1 P HP.out)
  clear hk1 hp1
  obtain ⟨hB, v, hbk, hown, hne⟩ := h1
  have c0 : w1.cell? ⟨b, 0, none⟩ = some (.pointer (some ⟨b, 0, none⟩)) := by rw [Lib.cell_of_heap hbk]; rfl
  have c1 : w1.cell? ⟨b, 1, none⟩ = some v := by rw [Lib.cell_of_heap hbk]; rfl
  have hs1 : B ≤ w1.heap.size := Nat.le_trans hBw hb1.size
  have HOP := Aside0.mk (HP1.out _ _ _ hbk)
  replace hbk := Aside0.mk hbk
  replace hown := Aside0.mk hown
  replace hne := Aside0.mk hne
  replace hb1 := Aside0.mk hb1
  go_wp2_with (at_builtin; refine wpList_string_at rfl _ _ 22 9 rfl B 5 i0 Tryd.underlying22 Tryd.underlying9 hi hz0 hz1 hz2 _ _ _ rfl hown.out s rfl (by unfold maxLen; omega) hlen hs1 ?_; intro v' w2 hown' hgrow hat; have HAT := Aside0.mk hat; clear hat; have hb2 : w2.heap[b]? = some (.cells #[.pointer (some ⟨b, 0, none⟩), v] 59 (0, 0)) := (hgrow.block b (blk_lt hbk.out) (fun e => hne.out e.symm)).trans hbk.out; have d0 : w2.cell? ⟨b, 0, none⟩ = some (.pointer (some ⟨b, 0, none⟩)) := (by rw [Lib.cell_of_heap hb2]; rfl); have d1 : w2.cell? ⟨b, 1, none⟩ = some v := (by rw [Lib.cell_of_heap hb2]; rfl); have f1 : w2.frozen? ⟨b, 1, none⟩ = false := Lib.frozen_of_heap hb2 1; obtain ⟨A', c', hv'⟩ := own_slice hown'; subst hv'; replace hown' := Aside0.mk hown'; replace hgrow := Aside0.mk hgrow; replace hb2 := Aside0.mk hb2)
  go_ret2
  refine ⟨⟨_, rfl⟩, ?_, ?_, ?_, ?_⟩
  · exact Lib.BuilderAt.put (T := 59) (e := 5) hB hb2.out (bs' := bs ++ Lib.strCells s) (by rw [List.length_append, Lib.strCells_length]; exact hown'.out) (by decide)
  · exact (hb1.out.grown hgrow.out hs1 (fun k hk => (hown.out.lt k hk).1)).setCell (p := ⟨b, 1, none⟩) hB _
  · refine OwnP.of (blk_set hb2.out 1 _) (fun k hk => ?_)
    rcases HAT.out with ha | ⟨b', ha, hle⟩
    · exact HOP.out k (ha ▸ hk)
    · rw [ha] at hk
      obtain rfl := Option.some.inj hk
      exact HF.out _ (Nat.le_trans HK1.out.1 hle)
  · refine Kept.setCell (Kept.of_grown (w := w) hgrow.out (HK1.out.mono (fun k hk => Or.inl hk)) (fun k hk => Or.inl (Or.inr (HOP.out k hk)))) (.inl (.inl rfl)) _
end Go.Proofs.YtnhgnejfagncpaaDoor.P
end
section
namespace Go.Proofs.YtnhgnejfagncpaaDoor.P
open Go Go.RowKit Go.Proofs.YtnhgnejfagncpaaDoorW.PrintWords Go.Proofs.YtnhgnejfagncpaaDoorW.PrintLast Go.Proofs.YtnhgnejfagncpaaDoorW.PrintMore Go.Proofs.YtnhgnejfagncpaaDoor.H Go.Proofs.YtnhgnejfagncpaaDoor.A Go.Proofs.YtnhgnejfagncpaaDoor.B Go.Proofs.YtnhgnejfagncpaaDoor.E Go.Proofs.YtnhgnejfagncpaaDoor.L Go.Proofs.YtnhgnejfagncpaaDoor.M
set_option linter.unusedVariables false
set_option linter.unusedSimpArgs false
def lex_Print.ln : Nat → ByteArray → Int → List UInt8 → Option (List UInt8)
  | 0, _, _, _ => none
  | k + 1, s, i, acc => if i < (s.size : Int) then (if acc.length < 1000000 then (lex_of.f k (bt s i)).bind fun t =>
      if t = 2 then (if bt s i = 35 then lz (fun a => lex_Print.ln k s (i + 1) a) s i acc else if 32 < bt s i then (if bt s i ≤ 126 then lex_Print.ln k s (i + 1) (acc ++ [UInt8.ofNat (bt s i).toNat]) else lz (fun a => lex_Print.ln k s (i + 1) a) s i acc) else lz (fun a => lex_Print.ln k s (i + 1) a) s i acc) else lz (fun a => lex_Print.ln k s (i + 1) a) s i acc
    else none) else some acc
where lz (rest : List UInt8 → Option (List UInt8)) (s : ByteArray) (i : Int) (acc : List UInt8) : Option (List UInt8) := (lex_two.f (bt s i)).bind fun z => if z.size ≤ 100 then rest (acc ++ 35 :: z.data.toList) else none
def lex_Print.lt : Nat → ByteArray → Int → List UInt8 → Option (List UInt8)
  | 0, _, _, _ => none
  | k + 1, s, i, acc => if i < (s.size : Int) then (if acc.length < 1000000 then (lex_two.f (bt s i)).bind fun z => if z.size ≤ 100 then lex_Print.lt k s (i + 1) (acc ++ z.data.toList) else none else none) else some acc
def lex_Print.f (k : Nat) (a0_0 a0_1 a0_2 : Int) (a0_3 : ByteArray) : Option (ByteArray × Int) :=
  (lex_check.f k a0_0 a0_1 a0_2 a0_3).bind fun b => if b = true then
    (if a0_0 = 1 then dec_Print.f k a0_1 a0_2
     else if a0_0 = 2 then (if a0_3.size ≤ 100000 then (lex_Print.ln k a0_3 0 [47]).bind fun L => some (⟨L.toArray⟩, 0) else none)
     else if a0_0 = 3 then (if a0_3.size ≤ 100000 then (lex_Print.lt k a0_3 0 [60]).bind fun L => if L.length < 10000000 then some (⟨(L ++ [62]).toArray⟩, 0) else none else none)
     else if a0_0 = 4 then some (a0_3, 0) else if a0_0 = 5 then some (⟨#[91]⟩, 0) else if a0_0 = 6 then some (⟨#[93]⟩, 0) else if a0_0 = 7 then some (⟨#[60, 60]⟩, 0) else if a0_0 = 8 then some (⟨#[62, 62]⟩, 0) else some (⟨#[]⟩, 0))
  else some (⟨#[]⟩, 1)
theorem bt_byte (s : ByteArray) (i : Int) : ((UInt8.ofNat (bt s i).toNat).toNat : Int) = bt s i := by
  have := bt_range s i
  rw [UInt8.toNat_ofNat']
  omega
theorem cells_snoc (acc : List UInt8) (c : Int) (b : UInt8) (h : (b.toNat : Int) = c) : Lib.byteCells acc ++ [.int .u8 c] = Lib.byteCells (acc ++ [b]) := by
  unfold Lib.byteCells
  rw [List.map_append, List.map_cons, List.map_nil, h]
theorem cells_str (acc : List UInt8) (z : ByteArray) : Lib.byteCells acc ++ Lib.strCells z = Lib.byteCells (acc ++ z.data.toList) := by
  unfold Lib.byteCells Lib.strCells
  rw [List.map_append]
theorem cells_len (acc : List UInt8) : (Lib.byteCells acc).length = acc.length := List.length_map ..
theorem kept_cell {w w' : World} {S : Nat → Prop} (h : Kept w w' S) {g : Nat} (hg : g < w.heap.size) (hn : ¬ S g) (j : Nat) : w'.cell? ⟨g, j, none⟩ = w.cell? ⟨g, j, none⟩ := by
  have e := h.2 g hg hn
  simp [World.cell?, e]
theorem own_narrow {b : Nat} {B : Nat} {p : Value} {bs : List Value} {w w' : World} {P : Nat → Prop} (h : Lib.BuilderAt 59 5 B b p bs w) (hP : OwnP b P w) (hb : Below w.heap.size w w') : OwnP b (fun k => P k ∧ k ≠ w.heap.size) w' := by
  obtain ⟨hB, v, hk, ho, hne⟩ := h
  refine OwnP.of (blk_below hk hb) (fun k hk2 => ⟨hP _ _ _ hk k hk2, ?_⟩)
  have := (ho.lt k hk2).2
  omega
theorem bytes_cell (w : World) (s : ByteArray) (j : Nat) (hj : j < s.size) : (Lib.bytesWorld w 5 s).cell? ⟨w.heap.size, j, none⟩ = some (.int .u8 (bt s j)) := by
  rw [Lib.bytesWorld_cell w 5 s j hj]
  have hj2 : j < s.data.size := hj
  have e : s.data.toList.getD j 0 = s.data[j] := by
    rw [List.getD_eq_getElem?_getD, List.getElem?_eq_getElem (by simpa using hj2)]
    simp
  unfold bt
  rw [dif_pos (show ((j : Int)).toNat < s.size by rw [Int.toNat_natCast]; exact hj), e]
  rfl
theorem writeByte3 (B b : Nat) (P : Nat → Prop) (bs : List Value) (c : Int) (w : World) (n : Nat) (hP : OwnP b P w) (hF : ∀ k, w.heap.size ≤ k → P k) (h : Lib.IsBuilder 59 5 B b bs w) (hlen : bs.length + 1 ≤ 140737488355328) (hBw : B ≤ w.heap.size) :
    Calls Tryd.prog 29 #[.pointer (some ⟨b, 0, none⟩), .int .u8 c] (w.drewN n) fun e w' => e = .returned .nilIface ∧ (Lib.BuilderAt 59 5 B b (.pointer (some ⟨b, 0, none⟩)) (bs ++ [.int .u8 c]) w' ∧ Below B w w' ∧ OwnP b P w' ∧ Kept w w' (fun k => k = b ∨ P k)) :=
  (writeByte2 B b P bs c (w.drewN n) hP hF h hlen hBw).mono fun e w' ⟨h1, h2, h3, h4, h5⟩ => ⟨h1, h2, (pw_below_drewN (Below.refl _ _) n).trans h3, h4, h5⟩
theorem writeString3 (B b : Nat) (P : Nat → Prop) (bs : List Value) (s : ByteArray) (w : World) (n : Nat) (hP : OwnP b P w) (hF : ∀ k, w.heap.size ≤ k → P k) (h : Lib.IsBuilder 59 5 B b bs w) (hlen : bs.length + s.size ≤ 140737488355328) (hBw : B ≤ w.heap.size) :
    Calls Tryd.prog 31 #[.pointer (some ⟨b, 0, none⟩), .string s] (w.drewN n) fun e w' => (∃ v, e = .returned v) ∧ (Lib.BuilderAt 59 5 B b (.pointer (some ⟨b, 0, none⟩)) (bs ++ Lib.strCells s) w' ∧ Below B w w' ∧ OwnP b P w' ∧ Kept w w' (fun k => k = b ∨ P k)) :=
  (writeString2 B b P bs s (w.drewN n) hP hF h hlen hBw).mono fun e w' ⟨h1, h2, h3, h4, h5⟩ => ⟨h1, h2, (pw_below_drewN (Below.refl _ _) n).trans h3, h4, h5⟩
set_option maxHeartbeats 16000000 in
set_option maxRecDepth 100000 in
theorem lex_Print.calls (k : Nat) (a0_0 : Int) (a0_1 : Int) (a0_2 : Int) (a0_3 : ByteArray) (r1 : ByteArray) (r2 : Int) (w : World) (hT : Tab w) (h : lex_Print.f k a0_0 a0_1 a0_2 a0_3 = some (r1, r2)) :
    Calls Tryd.prog 13 #[.agg #[.int .i64 a0_0, .int .i64 a0_1, .int .i64 a0_2, .string a0_3]] w fun e w' => e = .returned (.tuple #[.string r1, .int .i64 r2]) ∧ Below w.heap.size w w' := by
  have hu27 := Tryd.underlying27
  have hu25 := Tryd.underlying25
  have hu59 := Tryd.underlying59
  have HT := Aside0.mk hT
  clear hT
  unfold lex_Print.f at h
  replace h := Option.bind_eq_some_iff.mp h
  obtain ⟨b, A10, H⟩ := h
  have A1 := Aside0.mk A10
  have HH := Aside0.mk H
  clear A10 H
  go_enter Tryd.func13, Tryd.ntmps13
  go_wp2_with fail
  refine (lex_check.calls k a0_0 a0_1 a0_2 a0_3 b _ A1.out).mono ?_
  rintro e w1 ⟨rfl, hb⟩
  have BKt := blk_below (blk_new w _) hb
  have HB1 := Aside0.mk (below_step (below_alloc (Below.refl _ _) _) hb)
  have z0 : w1.cell? ⟨w.heap.size, 0, none⟩ = some (.int .i64 a0_0) := (blk_cell BKt 0).trans rfl
  have z1 : w1.cell? ⟨w.heap.size, 1, none⟩ = some (.int .i64 a0_1) := (blk_cell BKt 1).trans rfl
  have z2 : w1.cell? ⟨w.heap.size, 2, none⟩ = some (.int .i64 a0_2) := (blk_cell BKt 2).trans rfl
  have z3 : w1.cell? ⟨w.heap.size, 3, none⟩ = some (.string a0_3) := (blk_cell BKt 3).trans rfl
  have zl : w.heap.size < w1.heap.size := blk_lt BKt
  have HBKt := Aside0.mk BKt
  clear hb BKt
  have H := HH.out
  clear HH A1
  cases b with
  | false =>
    rw [if_neg (by decide)] at H
    simp only [Option.some.injEq, Prod.mk.injEq] at H
    obtain ⟨rfl, rfl⟩ := H
    go_wp2_with fail
    go_ret2
    exact ⟨rfl, HB1.out⟩
  | true =>
    rw [if_pos rfl] at H
    by_cases k1 : a0_0 = 1
    · subst k1
      rw [if_pos rfl] at H
      have A2 := Aside0.mk H
      clear H
      go_wp2_with fail
      refine (dec_Print.calls k a0_1 a0_2 r1 r2 _ (Tab.below HT.out (below_alloc HB1.out _)) A2.out).mono ?_
      rintro e w2 ⟨rfl, hb⟩
      go_wp2_with fail
      go_ret2
      exact ⟨rfl, below_step (below_alloc HB1.out _) hb⟩
    rw [if_neg k1] at H
    have n1 : (a0_0 == 1) = false := beq_eq_false_iff_ne.mpr k1
    by_cases k2 : a0_0 = 2
    · subst k2
      rw [if_pos rfl] at H
      have hsz : a0_3.size ≤ 100000 := by
        by_cases hsz : a0_3.size ≤ 100000
        · exact hsz
        · rw [if_neg hsz] at H
          cases H
      rw [if_pos hsz] at H
      replace H := Option.bind_eq_some_iff.mp H
      obtain ⟨L, A20, H⟩ := H
      have A2 := Aside0.mk A20
      have HH := Aside0.mk H
      clear A20 H
      go_wp2_with fail
      obtain ⟨bb, hbb⟩ : ∃ x, x = w1.heap.size := ⟨_, rfl⟩
      have hF0 : ∀ j, (w1.alloc (.cells #[.pointer none, .slice none 0 0] 59)).heap.size ≤ j → w1.heap.size < j := fun j hj => by rw [World.size_alloc] at hj; omega
      refine (writeByte2 w1.heap.size w1.heap.size (fun j => w1.heap.size < j) [] 47 _ (OwnP.of (blk_new w1 _) (fun j hj => by simp [Value.ownBlock] at hj)) hF0 (Lib.fresh_isBuilder 59 5 w1) (by decide) (by rw [World.size_alloc]; omega)).mono ?_
      rintro e w3 ⟨rfl, hat, hb3, hown, hk3⟩
      rw [← hbb] at hat hb3 hown hk3 zl ⊢
      have BKt3 : w3.heap[w.heap.size]? = some (.cells #[.int .i64 2, .int .i64 a0_1, .int .i64 a0_2, .string a0_3] 27 (0, 0)) := (hk3.2 w.heap.size (by rw [World.size_alloc]; omega) (by omega)).trans (blk_alloc HBKt.out _)
      have HB3 := Aside0.mk (below_weaken (below_alloc HB1.out _) (by omega) hb3)
      have y3 : w3.cell? ⟨w.heap.size, 3, none⟩ = some (.string a0_3) := (blk_cell BKt3 3).trans rfl
      have zl3 : w.heap.size < w3.heap.size := blk_lt BKt3
      have hbl : bb < w3.heap.size := by have := hk3.1; rw [World.size_alloc] at this; omega
      have HWB : Aside0 (w.heap.size ≤ bb) := ⟨by omega⟩
      clear hk3 hF0 z0 z1 z2 z3 hb3 hbb
      have kb := fun W => print_bytes (P := Tryd.prog) 9 22 5 Tryd.underlying9 Tryd.underlying22 Tryd.underlying5 a0_3 W
      have HAT := Aside0.mk hat
      have HOWN := Aside0.mk hown
      clear hat hown
      go_wp2_with fail
      have hbw : Below w3.heap.size w3 (Lib.bytesWorld w3 5 a0_3) := bytes_below (Below.refl _ _) (Nat.le_refl _) 5 _
      have hcell := bytes_cell w3 a0_3
      have hat4 := builderAt_below HAT.out hbw
      have hown4 := own_narrow HAT.out HOWN.out hbw
      have HB4 := Aside0.mk (below_step HB3.out hbw)
      have hg3 : w3.heap.size < (Lib.bytesWorld w3 5 a0_3).heap.size := by rw [Lib.bytesWorld_size]; omega
      clear kb hbw HAT HOWN y3
      have HS := Aside0.mk hsz
      have HC := Aside0.mk hcell
      clear hsz hcell
      generalize Lib.bytesWorld w3 5 a0_3 = WB at HC hat4 hown4 HB4 hg3 ⊢
      generalize w3.heap.size = g3 at HC hown4 hg3 hbl ⊢
      have HAT := Aside0.mk hat4
      have HOWN := Aside0.mk hown4
      have HBL := Aside0.mk hbl
      have HG := Aside0.mk hg3
      clear hat4 hown4 hg3 hbl BKt3 zl3 HB3 zl
      have H' := A2
      clear A2
      go_loopg [28] k (fun kq vS w' => ∃ (i : Nat) (acc : List UInt8), vS = .int .i64 (i : Int) ∧ i ≤ a0_3.size ∧ Aside0 (lex_Print.ln kq a0_3 (i : Int) acc = some L) ∧ Aside0 (Lib.BuilderAt 59 5 bb bb (.pointer (some ⟨bb, 0, none⟩)) (Lib.byteCells acc) w') ∧ Aside0 (OwnP bb (fun j => bb < j ∧ j ≠ g3) w') ∧ Aside0 (Kept WB w' (fun j => j = bb ∨ (bb < j ∧ j ≠ g3))) ∧ Aside0 (Below bb WB w'))
      case atStart => exact ⟨0, [47], rfl, Nat.zero_le _, H', HAT, HOWN, ⟨Kept.refl _ _⟩, ⟨Below.refl _ _⟩⟩
      case round =>
        clear H' HAT HOWN
        obtain ⟨i, acc, rfl, hi, HA, HAT, HOWN, HKE, HBE⟩ := hrel
        cases gk with
        | zero => exact absurd HA.out (by simp [lex_Print.ln])
        | succ k1 =>
          have H := HA.out
          clear HA
          rw [lex_Print.ln] at H
          have hs1 := HS.out
          have hB8 : bb ≤ wr.heap.size := Nat.le_trans (Nat.le_of_lt (Nat.lt_trans HBL.out HG.out)) HKE.out.1
          have hFR : ∀ j, wr.heap.size ≤ j → (bb < j ∧ j ≠ g3) := fun j hj => by have := HBL.out; have := HG.out; have := HKE.out.1; omega
          have HFR := Aside0.mk hFR
          have HB8 := Aside0.mk hB8
          clear hFR hB8
          by_cases hlt : i < a0_3.size
          · rw [if_pos (by omega)] at H
            have hal : acc.length < 1000000 := by
              by_cases hal : acc.length < 1000000
              · exact hal
              · rw [if_neg hal] at H
                cases H
            rw [if_pos hal] at H
            have hbyte : wr.cell? ⟨g3, i, none⟩ = some (.int .u8 (bt a0_3 i)) := (kept_cell HKE.out HG.out (by intro h; have := HBL.out; omega) i).trans (HC.out i hlt)
            have hd : decide ((i : Int) < (a0_3.size : Int)) = true := decide_eq_true (by omega)
            have HAL := Aside0.mk hal
            clear hal
            replace H := Option.bind_eq_some_iff.mp H
            obtain ⟨t, A40, H⟩ := H
            have A4 := Aside0.mk A40
            clear A40
            by_cases c1 : t = 2
            · rw [if_pos c1] at H
              have e1 : (t == 2) = true := beq_iff_eq.mpr c1
              clear c1
              by_cases c2 : bt a0_3 i = 35
              · rw [if_pos c2] at H
                have e2 : (bt a0_3 i != 35) = false := bne_eq_false_iff_eq.mpr c2
                clear c2
                unfold lex_Print.ln.lz at H
                replace H := Option.bind_eq_some_iff.mp H
                obtain ⟨z, A50, H⟩ := H
                have A5 := Aside0.mk A50
                clear A50
                have hz : z.size ≤ 100 := by
                  by_cases hz : z.size ≤ 100
                  · exact hz
                  · rw [if_neg hz] at H
                    cases H
                rw [if_pos hz] at H
                have H' := Aside0.mk H
                clear H
                have hzs : ¬ (9223372036854775807 < 1 + z.size) := by omega
                have hzt : (⟨#[35]⟩ : ByteArray).size + z.size ≤ 9223372036854775807 := by show 1 + z.size ≤ _; omega
                go_wp2_with fail
                refine (lex_of.calls k1 (bt a0_3 i) t _ A4.out).mono ?_
                rintro e w6 ⟨rfl, ⟨m6, rfl⟩⟩
                go_wp2_with fail
                refine (lex_two.calls (bt a0_3 i) z _ A5.out).mono ?_
                rintro e w7 ⟨rfl, ⟨m7, rfl⟩⟩
                go_wp2_with fail
                refine (writeString3 bb bb (fun j => bb < j ∧ j ≠ g3) (Lib.byteCells acc) ((⟨#[35]⟩ : ByteArray) ++ z) wr _ HOWN.out HFR.out (Or.inr HAT.out) (by rw [cells_len, ByteArray.size_append]; have := HAL.out; show acc.length + (1 + z.size) ≤ _; omega) HB8.out).mono ?_
                rintro e w8 ⟨⟨v8, rfl⟩, hat, hb8, hown8, hk8⟩
                rw [cells_str] at hat
                have HAT2 := Aside0.mk hat
                have HOWN2 := Aside0.mk hown8
                have HKE2 := Aside0.mk (Kept.then_ HKE.out hk8 (fun j hj => Or.inl hj))
                have HBE2 := Aside0.mk (HBE.out.trans hb8)
                clear hat hown8 hk8 hb8
                go_wp2_with fail
                go_roundg k1
                case measure => omega
                case rel => exact ⟨i + 1, acc ++ 35 :: z.data.toList, by first | rfl | go_num, by omega, by first | exact H' | exact ⟨by have := H'.out; push_cast; exact this⟩, HAT2, HOWN2, HKE2, HBE2⟩
              · rw [if_neg c2] at H
                have e2 : (bt a0_3 i != 35) = true := bne_iff_ne.mpr c2
                clear c2
                by_cases c3 : 32 < bt a0_3 i
                · rw [if_pos c3] at H
                  have e3 : decide (32 < bt a0_3 i) = true := decide_eq_true c3
                  clear c3
                  by_cases c4 : bt a0_3 i ≤ 126
                  · rw [if_pos c4] at H
                    have e4 : decide (bt a0_3 i ≤ 126) = true := decide_eq_true c4
                    clear c4
                    have H' := Aside0.mk H
                    clear H
                    go_wp2_with fail
                    refine (lex_of.calls k1 (bt a0_3 i) t _ A4.out).mono ?_
                    rintro e w6 ⟨rfl, ⟨m6, rfl⟩⟩
                    go_wp2_with fail
                    refine (writeByte3 bb bb (fun j => bb < j ∧ j ≠ g3) (Lib.byteCells acc) (bt a0_3 i) wr _ HOWN.out HFR.out (Or.inr HAT.out) (by rw [cells_len]; have := HAL.out; omega) HB8.out).mono ?_
                    rintro e w8 ⟨rfl, hat, hb8, hown8, hk8⟩
                    rw [cells_snoc acc (bt a0_3 i) _ (bt_byte a0_3 i)] at hat
                    have HAT2 := Aside0.mk hat
                    have HOWN2 := Aside0.mk hown8
                    have HKE2 := Aside0.mk (Kept.then_ HKE.out hk8 (fun j hj => Or.inl hj))
                    have HBE2 := Aside0.mk (HBE.out.trans hb8)
                    clear hat hown8 hk8 hb8
                    go_wp2_with fail
                    go_roundg k1
                    case measure => omega
                    case rel => exact ⟨i + 1, acc ++ [UInt8.ofNat (bt a0_3 i).toNat], by first | rfl | go_num, by omega, by first | exact H' | exact ⟨by have := H'.out; push_cast; exact this⟩, HAT2, HOWN2, HKE2, HBE2⟩
                  · rw [if_neg c4] at H
                    have e4 : decide (bt a0_3 i ≤ 126) = false := decide_eq_false c4
                    clear c4
                    unfold lex_Print.ln.lz at H
                    replace H := Option.bind_eq_some_iff.mp H
                    obtain ⟨z, A50, H⟩ := H
                    have A5 := Aside0.mk A50
                    clear A50
                    have hz : z.size ≤ 100 := by
                      by_cases hz : z.size ≤ 100
                      · exact hz
                      · rw [if_neg hz] at H
                        cases H
                    rw [if_pos hz] at H
                    have H' := Aside0.mk H
                    clear H
                    have hzs : ¬ (9223372036854775807 < 1 + z.size) := by omega
                    have hzt : (⟨#[35]⟩ : ByteArray).size + z.size ≤ 9223372036854775807 := by show 1 + z.size ≤ _; omega
                    go_wp2_with fail
                    refine (lex_of.calls k1 (bt a0_3 i) t _ A4.out).mono ?_
                    rintro e w6 ⟨rfl, ⟨m6, rfl⟩⟩
                    go_wp2_with fail
                    refine (lex_two.calls (bt a0_3 i) z _ A5.out).mono ?_
                    rintro e w7 ⟨rfl, ⟨m7, rfl⟩⟩
                    go_wp2_with fail
                    refine (writeString3 bb bb (fun j => bb < j ∧ j ≠ g3) (Lib.byteCells acc) ((⟨#[35]⟩ : ByteArray) ++ z) wr _ HOWN.out HFR.out (Or.inr HAT.out) (by rw [cells_len, ByteArray.size_append]; have := HAL.out; show acc.length + (1 + z.size) ≤ _; omega) HB8.out).mono ?_
                    rintro e w8 ⟨⟨v8, rfl⟩, hat, hb8, hown8, hk8⟩
                    rw [cells_str] at hat
                    have HAT2 := Aside0.mk hat
                    have HOWN2 := Aside0.mk hown8
                    have HKE2 := Aside0.mk (Kept.then_ HKE.out hk8 (fun j hj => Or.inl hj))
                    have HBE2 := Aside0.mk (HBE.out.trans hb8)
                    clear hat hown8 hk8 hb8
                    go_wp2_with fail
                    go_roundg k1
                    case measure => omega
                    case rel => exact ⟨i + 1, acc ++ 35 :: z.data.toList, by first | rfl | go_num, by omega, by first | exact H' | exact ⟨by have := H'.out; push_cast; exact this⟩, HAT2, HOWN2, HKE2, HBE2⟩
                · rw [if_neg c3] at H
                  have e3 : decide (32 < bt a0_3 i) = false := decide_eq_false c3
                  clear c3
                  unfold lex_Print.ln.lz at H
                  replace H := Option.bind_eq_some_iff.mp H
                  obtain ⟨z, A50, H⟩ := H
                  have A5 := Aside0.mk A50
                  clear A50
                  have hz : z.size ≤ 100 := by
                    by_cases hz : z.size ≤ 100
                    · exact hz
                    · rw [if_neg hz] at H
                      cases H
                  rw [if_pos hz] at H
                  have H' := Aside0.mk H
                  clear H
                  have hzs : ¬ (9223372036854775807 < 1 + z.size) := by omega
                  have hzt : (⟨#[35]⟩ : ByteArray).size + z.size ≤ 9223372036854775807 := by show 1 + z.size ≤ _; omega
                  go_wp2_with fail
                  refine (lex_of.calls k1 (bt a0_3 i) t _ A4.out).mono ?_
                  rintro e w6 ⟨rfl, ⟨m6, rfl⟩⟩
                  go_wp2_with fail
                  refine (lex_two.calls (bt a0_3 i) z _ A5.out).mono ?_
                  rintro e w7 ⟨rfl, ⟨m7, rfl⟩⟩
                  go_wp2_with fail
                  refine (writeString3 bb bb (fun j => bb < j ∧ j ≠ g3) (Lib.byteCells acc) ((⟨#[35]⟩ : ByteArray) ++ z) wr _ HOWN.out HFR.out (Or.inr HAT.out) (by rw [cells_len, ByteArray.size_append]; have := HAL.out; show acc.length + (1 + z.size) ≤ _; omega) HB8.out).mono ?_
                  rintro e w8 ⟨⟨v8, rfl⟩, hat, hb8, hown8, hk8⟩
                  rw [cells_str] at hat
                  have HAT2 := Aside0.mk hat
                  have HOWN2 := Aside0.mk hown8
                  have HKE2 := Aside0.mk (Kept.then_ HKE.out hk8 (fun j hj => Or.inl hj))
                  have HBE2 := Aside0.mk (HBE.out.trans hb8)
                  clear hat hown8 hk8 hb8
                  go_wp2_with fail
                  go_roundg k1
                  case measure => omega
                  case rel => exact ⟨i + 1, acc ++ 35 :: z.data.toList, by first | rfl | go_num, by omega, by first | exact H' | exact ⟨by have := H'.out; push_cast; exact this⟩, HAT2, HOWN2, HKE2, HBE2⟩
            · rw [if_neg c1] at H
              have e1 : (t == 2) = false := beq_eq_false_iff_ne.mpr c1
              clear c1
              unfold lex_Print.ln.lz at H
              replace H := Option.bind_eq_some_iff.mp H
              obtain ⟨z, A50, H⟩ := H
              have A5 := Aside0.mk A50
              clear A50
              have hz : z.size ≤ 100 := by
                by_cases hz : z.size ≤ 100
                · exact hz
                · rw [if_neg hz] at H
                  cases H
              rw [if_pos hz] at H
              have H' := Aside0.mk H
              clear H
              have hzs : ¬ (9223372036854775807 < 1 + z.size) := by omega
              have hzt : (⟨#[35]⟩ : ByteArray).size + z.size ≤ 9223372036854775807 := by show 1 + z.size ≤ _; omega
              go_wp2_with fail
              refine (lex_of.calls k1 (bt a0_3 i) t _ A4.out).mono ?_
              rintro e w6 ⟨rfl, ⟨m6, rfl⟩⟩
              go_wp2_with fail
              refine (lex_two.calls (bt a0_3 i) z _ A5.out).mono ?_
              rintro e w7 ⟨rfl, ⟨m7, rfl⟩⟩
              go_wp2_with fail
              refine (writeString3 bb bb (fun j => bb < j ∧ j ≠ g3) (Lib.byteCells acc) ((⟨#[35]⟩ : ByteArray) ++ z) wr _ HOWN.out HFR.out (Or.inr HAT.out) (by rw [cells_len, ByteArray.size_append]; have := HAL.out; show acc.length + (1 + z.size) ≤ _; omega) HB8.out).mono ?_
              rintro e w8 ⟨⟨v8, rfl⟩, hat, hb8, hown8, hk8⟩
              rw [cells_str] at hat
              have HAT2 := Aside0.mk hat
              have HOWN2 := Aside0.mk hown8
              have HKE2 := Aside0.mk (Kept.then_ HKE.out hk8 (fun j hj => Or.inl hj))
              have HBE2 := Aside0.mk (HBE.out.trans hb8)
              clear hat hown8 hk8 hb8
              go_wp2_with fail
              go_roundg k1
              case measure => omega
              case rel => exact ⟨i + 1, acc ++ 35 :: z.data.toList, by first | rfl | go_num, by omega, by first | exact H' | exact ⟨by have := H'.out; push_cast; exact this⟩, HAT2, HOWN2, HKE2, HBE2⟩
          · rw [if_neg (by omega)] at H
            obtain rfl := Option.some.inj H
            clear H
            have hd : decide ((i : Int) < (a0_3.size : Int)) = false := decide_eq_false (by omega)
            have H := HH.out
            clear HH
            simp only [Option.some.injEq, Prod.mk.injEq] at H
            obtain ⟨rfl, rfl⟩ := H
            go_wp2_with fail
            refine (Tryd.Builder_String_any bb bb acc _ (Or.inr HAT.out) HB8.out).mono ?_
            rintro e w9 ⟨rfl, hb⟩
            go_wp2_with fail
            go_ret2
            exact ⟨rfl, below_weaken (below_weaken HB4.out HWB.out HBE.out) HWB.out hb⟩
    rw [if_neg k2] at H
    have n2 : (a0_0 == 2) = false := beq_eq_false_iff_ne.mpr k2
    by_cases k3 : a0_0 = 3
    · subst k3
      rw [if_pos rfl] at H
      have hsz : a0_3.size ≤ 100000 := by
        by_cases hsz : a0_3.size ≤ 100000
        · exact hsz
        · rw [if_neg hsz] at H
          cases H
      rw [if_pos hsz] at H
      replace H := Option.bind_eq_some_iff.mp H
      obtain ⟨L, A20, H⟩ := H
      have A2 := Aside0.mk A20
      have HH := Aside0.mk H
      clear A20 H
      go_wp2_with fail
      obtain ⟨bb, hbb⟩ : ∃ x, x = w1.heap.size := ⟨_, rfl⟩
      have hF0 : ∀ j, (w1.alloc (.cells #[.pointer none, .slice none 0 0] 59)).heap.size ≤ j → w1.heap.size < j := fun j hj => by rw [World.size_alloc] at hj; omega
      refine (writeByte2 w1.heap.size w1.heap.size (fun j => w1.heap.size < j) [] 60 _ (OwnP.of (blk_new w1 _) (fun j hj => by simp [Value.ownBlock] at hj)) hF0 (Lib.fresh_isBuilder 59 5 w1) (by decide) (by rw [World.size_alloc]; omega)).mono ?_
      rintro e w3 ⟨rfl, hat, hb3, hown, hk3⟩
      rw [← hbb] at hat hb3 hown hk3 zl ⊢
      have BKt3 : w3.heap[w.heap.size]? = some (.cells #[.int .i64 3, .int .i64 a0_1, .int .i64 a0_2, .string a0_3] 27 (0, 0)) := (hk3.2 w.heap.size (by rw [World.size_alloc]; omega) (by omega)).trans (blk_alloc HBKt.out _)
      have HB3 := Aside0.mk (below_weaken (below_alloc HB1.out _) (by omega) hb3)
      have y3 : w3.cell? ⟨w.heap.size, 3, none⟩ = some (.string a0_3) := (blk_cell BKt3 3).trans rfl
      have zl3 : w.heap.size < w3.heap.size := blk_lt BKt3
      have hbl : bb < w3.heap.size := by have := hk3.1; rw [World.size_alloc] at this; omega
      have HWB : Aside0 (w.heap.size ≤ bb) := ⟨by omega⟩
      clear hk3 hF0 z0 z1 z2 z3 hb3 hbb
      have kb := fun W => print_bytes (P := Tryd.prog) 9 22 5 Tryd.underlying9 Tryd.underlying22 Tryd.underlying5 a0_3 W
      have HAT := Aside0.mk hat
      have HOWN := Aside0.mk hown
      clear hat hown
      go_wp2_with fail
      have hbw : Below w3.heap.size w3 (Lib.bytesWorld w3 5 a0_3) := bytes_below (Below.refl _ _) (Nat.le_refl _) 5 _
      have hcell := bytes_cell w3 a0_3
      have hat4 := builderAt_below HAT.out hbw
      have hown4 := own_narrow HAT.out HOWN.out hbw
      have HB4 := Aside0.mk (below_step HB3.out hbw)
      have hg3 : w3.heap.size < (Lib.bytesWorld w3 5 a0_3).heap.size := by rw [Lib.bytesWorld_size]; omega
      clear kb hbw HAT HOWN y3
      have HS := Aside0.mk hsz
      have HC := Aside0.mk hcell
      clear hsz hcell
      generalize Lib.bytesWorld w3 5 a0_3 = WB at HC hat4 hown4 HB4 hg3 ⊢
      generalize w3.heap.size = g3 at HC hown4 hg3 hbl ⊢
      have HAT := Aside0.mk hat4
      have HOWN := Aside0.mk hown4
      have HBL := Aside0.mk hbl
      have HG := Aside0.mk hg3
      clear hat4 hown4 hg3 hbl BKt3 zl3 HB3 zl
      have H' := A2
      clear A2
      go_loopg [61] k (fun kq vS w' => ∃ (i : Nat) (acc : List UInt8), vS = .int .i64 (i : Int) ∧ i ≤ a0_3.size ∧ Aside0 (lex_Print.lt kq a0_3 (i : Int) acc = some L) ∧ Aside0 (Lib.BuilderAt 59 5 bb bb (.pointer (some ⟨bb, 0, none⟩)) (Lib.byteCells acc) w') ∧ Aside0 (OwnP bb (fun j => bb < j ∧ j ≠ g3) w') ∧ Aside0 (Kept WB w' (fun j => j = bb ∨ (bb < j ∧ j ≠ g3))) ∧ Aside0 (Below bb WB w'))
      case atStart => exact ⟨0, [60], rfl, Nat.zero_le _, H', HAT, HOWN, ⟨Kept.refl _ _⟩, ⟨Below.refl _ _⟩⟩
      case round =>
        clear H' HAT HOWN
        obtain ⟨i, acc, rfl, hi, HA, HAT, HOWN, HKE, HBE⟩ := hrel
        cases gk with
        | zero => exact absurd HA.out (by simp [lex_Print.lt])
        | succ k1 =>
          have H := HA.out
          clear HA
          rw [lex_Print.lt] at H
          have hs1 := HS.out
          have hB8 : bb ≤ wr.heap.size := Nat.le_trans (Nat.le_of_lt (Nat.lt_trans HBL.out HG.out)) HKE.out.1
          have hFR : ∀ j, wr.heap.size ≤ j → (bb < j ∧ j ≠ g3) := fun j hj => by have := HBL.out; have := HG.out; have := HKE.out.1; omega
          have HFR := Aside0.mk hFR
          have HB8 := Aside0.mk hB8
          clear hFR hB8
          by_cases hlt : i < a0_3.size
          · rw [if_pos (by omega)] at H
            have hal : acc.length < 1000000 := by
              by_cases hal : acc.length < 1000000
              · exact hal
              · rw [if_neg hal] at H
                cases H
            rw [if_pos hal] at H
            have hbyte : wr.cell? ⟨g3, i, none⟩ = some (.int .u8 (bt a0_3 i)) := (kept_cell HKE.out HG.out (by intro h; have := HBL.out; omega) i).trans (HC.out i hlt)
            have hd : decide ((i : Int) < (a0_3.size : Int)) = true := decide_eq_true (by omega)
            have HAL := Aside0.mk hal
            clear hal
            replace H := Option.bind_eq_some_iff.mp H
            obtain ⟨z, A50, H⟩ := H
            have A5 := Aside0.mk A50
            clear A50
            have hz : z.size ≤ 100 := by
              by_cases hz : z.size ≤ 100
              · exact hz
              · rw [if_neg hz] at H
                cases H
            rw [if_pos hz] at H
            have H' := Aside0.mk H
            clear H
            go_wp2_with fail
            refine (lex_two.calls (bt a0_3 i) z _ A5.out).mono ?_
            rintro e w7 ⟨rfl, ⟨m7, rfl⟩⟩
            go_wp2_with fail
            refine (writeString3 bb bb (fun j => bb < j ∧ j ≠ g3) (Lib.byteCells acc) z wr _ HOWN.out HFR.out (Or.inr HAT.out) (by rw [cells_len]; have := HAL.out; omega) HB8.out).mono ?_
            rintro e w8 ⟨⟨v8, rfl⟩, hat, hb8, hown8, hk8⟩
            rw [cells_str] at hat
            have HAT2 := Aside0.mk hat
            have HOWN2 := Aside0.mk hown8
            have HKE2 := Aside0.mk (Kept.then_ HKE.out hk8 (fun j hj => Or.inl hj))
            have HBE2 := Aside0.mk (HBE.out.trans hb8)
            clear hat hown8 hk8 hb8
            go_wp2_with fail
            go_roundg k1
            case measure => omega
            case rel => exact ⟨i + 1, acc ++ z.data.toList, by first | rfl | go_num, by omega, by first | exact H' | exact ⟨by have := H'.out; push_cast; exact this⟩, HAT2, HOWN2, HKE2, HBE2⟩
          · rw [if_neg (by omega)] at H
            obtain rfl := Option.some.inj H
            clear H
            have hd : decide ((i : Int) < (a0_3.size : Int)) = false := decide_eq_false (by omega)
            have H := HH.out
            clear HH
            (try dsimp only at H)
            have hl7 : acc.length < 10000000 := by
              by_cases hl7 : acc.length < 10000000
              · exact hl7
              · rw [if_neg hl7] at H
                cases H
            rw [if_pos hl7] at H
            simp only [Option.some.injEq, Prod.mk.injEq] at H
            obtain ⟨rfl, rfl⟩ := H
            go_wp2_with fail
            refine (writeByte2 bb bb (fun j => bb < j ∧ j ≠ g3) (Lib.byteCells acc) 62 _ HOWN.out HFR.out (Or.inr HAT.out) (by rw [cells_len]; omega) HB8.out).mono ?_
            rintro e w8 ⟨rfl, hat, hb8, _, hk8⟩
            rw [cells_snoc acc 62 62 rfl] at hat
            have HAT2 := Aside0.mk hat
            have HB9 : Aside0 (bb ≤ w8.heap.size) := ⟨Nat.le_trans HB8.out hk8.1⟩
            clear hat hk8
            go_wp2_with fail
            refine (Tryd.Builder_String_any bb bb (acc ++ [62]) _ (Or.inr HAT2.out) HB9.out).mono ?_
            rintro e w9 ⟨rfl, hb⟩
            go_wp2_with fail
            go_ret2
            exact ⟨rfl, below_weaken (below_weaken (below_weaken HB4.out HWB.out HBE.out) HWB.out hb8) HWB.out hb⟩
    rw [if_neg k3] at H
    have n3 : (a0_0 == 3) = false := beq_eq_false_iff_ne.mpr k3
    by_cases k4 : a0_0 = 4
    · subst k4
      rw [if_pos rfl] at H
      simp only [Option.some.injEq, Prod.mk.injEq] at H
      obtain ⟨rfl, rfl⟩ := H
      go_wp2_with fail
      go_ret2
      exact ⟨rfl, below_alloc HB1.out _⟩
    rw [if_neg k4] at H
    have n4 : (a0_0 == 4) = false := beq_eq_false_iff_ne.mpr k4
    by_cases k5 : a0_0 = 5
    · subst k5
      rw [if_pos rfl] at H
      simp only [Option.some.injEq, Prod.mk.injEq] at H
      obtain ⟨rfl, rfl⟩ := H
      go_wp2_with fail
      go_ret2
      exact ⟨rfl, below_alloc HB1.out _⟩
    rw [if_neg k5] at H
    have n5 : (a0_0 == 5) = false := beq_eq_false_iff_ne.mpr k5
    by_cases k6 : a0_0 = 6
    · subst k6
      rw [if_pos rfl] at H
      simp only [Option.some.injEq, Prod.mk.injEq] at H
      obtain ⟨rfl, rfl⟩ := H
      go_wp2_with fail
      go_ret2
      exact ⟨rfl, below_alloc HB1.out _⟩
    rw [if_neg k6] at H
    have n6 : (a0_0 == 6) = false := beq_eq_false_iff_ne.mpr k6
    by_cases k7 : a0_0 = 7
    · subst k7
      rw [if_pos rfl] at H
      simp only [Option.some.injEq, Prod.mk.injEq] at H
      obtain ⟨rfl, rfl⟩ := H
      go_wp2_with fail
      go_ret2
      exact ⟨rfl, below_alloc HB1.out _⟩
    rw [if_neg k7] at H
    have n7 : (a0_0 == 7) = false := beq_eq_false_iff_ne.mpr k7
    by_cases k8 : a0_0 = 8
    · subst k8
      rw [if_pos rfl] at H
      simp only [Option.some.injEq, Prod.mk.injEq] at H
      obtain ⟨rfl, rfl⟩ := H
      go_wp2_with fail
      go_ret2
      exact ⟨rfl, below_alloc HB1.out _⟩
    rw [if_neg k8] at H
    have n8 : (a0_0 == 8) = false := beq_eq_false_iff_ne.mpr k8
    simp only [Option.some.injEq, Prod.mk.injEq] at H
    obtain ⟨rfl, rfl⟩ := H
    go_wp2_with fail
    refine (Tryd.Builder_String_empty w1.heap.size w1.heap.size _ (Lib.fresh_isBuilder 59 5 w1) (by rw [World.size_alloc]; omega)).mono ?_
    rintro e w2 ⟨rfl, hb⟩
    go_wp2_with fail
    go_ret2
    exact ⟨rfl, below_weaken (below_alloc HB1.out _) HB1.out.size hb⟩
end Go.Proofs.YtnhgnejfagncpaaDoor.P
end
