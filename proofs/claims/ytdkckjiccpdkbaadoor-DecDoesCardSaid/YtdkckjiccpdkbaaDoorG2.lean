-- written by my own driver of the kit's print (wip/tools/myprint.py); Lean checks it.
import Derived.Test.YtdkckjiccpdkbaaDoorG0
import Derived.Test.YtdkckjiccpdkbaaDoorE1
import Derived.Test.YtdkckjiccpdkbaaDoorE4
namespace Go.Proofs.YtdkckjiccpdkbaaDoor.G
open Go.RowKit Go.Proofs.YtdkckjiccpdkbaaDoorW.PrintWords Go.Proofs.YtdkckjiccpdkbaaDoorW.PrintLast Go.Proofs.YtdkckjiccpdkbaaDoorW.PrintMore Go.Proofs.YtdkckjiccpdkbaaDoor.H Go.Proofs.YtdkckjiccpdkbaaDoor.A Go.Proofs.YtdkckjiccpdkbaaDoor.B Go.Proofs.YtdkckjiccpdkbaaDoor.E
attribute [local go_sem] max2_int min2_int max_two min_two max_three min_three max_four min_four   -- for this text's walks alone
set_option linter.unusedVariables false
set_option linter.unusedSimpArgs false
def erasureref01_Right.f (a0_0 : Int) (a0_1 : Int) : Option (Bool) := if a0_0 ≥ (-999999999999999999) then (if a0_0 ≤ 999999999999999999 then (if a0_1 ≥ 0 then (if a0_1 ≤ 9 then (if a0_1 = 0 then (some true) else (some ((Int.tmod a0_0 10) != 0))) else (some false)) else (some false)) else (some false)) else (some false)
set_option maxHeartbeats 8000000 in
set_option maxRecDepth 100000 in
theorem erasureref01_Right.calls (a0_0 : Int) (a0_1 : Int) (r : Bool) (w : World) (h : erasureref01_Right.f a0_0 a0_1 = some r) :
  Calls Tryd.prog 25 #[.agg #[.int .i64 a0_0, .int .i64 a0_1]] w fun e w' => e = .returned (.bool r) ∧ Below w.heap.size w w' := by
 have hu23 := Tryd.underlying23
 have HB := Aside0.mk (Below.refl w.heap.size w)
 have H : (if a0_0 ≥ (-999999999999999999) then (if a0_0 ≤ 999999999999999999 then (if a0_1 ≥ 0 then (if a0_1 ≤ 9 then (if a0_1 = 0 then (some true) else (some ((Int.tmod a0_0 10) != 0))) else (some false)) else (some false)) else (some false)) else (some false)) = some r := h
 clear h
 by_cases c2 : a0_0 ≥ (-999999999999999999)
 ·rw [if_pos c2] at H
  have c2b0 : decide ((-999999999999999999) ≤ a0_0) = true := decide_eq_true c2
  clear c2
  by_cases c3 : a0_0 ≤ 999999999999999999
  ·rw [if_pos c3] at H
   have c3b0 : decide (a0_0 ≤ 999999999999999999) = true := decide_eq_true c3
   clear c3
   by_cases c4 : a0_1 ≥ 0
   ·rw [if_pos c4] at H
    have c4b0 : decide (0 ≤ a0_1) = true := decide_eq_true c4
    clear c4
    by_cases c5 : a0_1 ≤ 9
    ·rw [if_pos c5] at H
     have c5b0 : decide (a0_1 ≤ 9) = true := decide_eq_true c5
     clear c5
     by_cases c6 : a0_1 = 0
     ·rw [if_pos c6] at H
      have c6b0 : (a0_1 == 0) = true := beq_iff_eq.mpr c6
      have c6b1 : (a0_1 != 0) = false := bne_eq_false_iff_eq.mpr c6
      clear c6
      obtain rfl := Option.some.inj H
      go_enter Tryd.func25, Tryd.ntmps25
      go_wp2_with (first | ((with_reducible refine gate_dst (N := 1) rfl ?_); refine box_event ?hg (N := 1) ?hd (cs := #[.int .i64 a0_0, .int .i64 a0_1]) (t := 23) ?hr ?_; (case hd => rfl); (case hg => rfl); (case hr => first | (go_simp; done) | (go_simp; rfl)); intro gb187 hg w7 hbox hb; have n0_ := Aside0.mk (below_step bel hb); have n1_ := Aside0.mk (hbox); have n2_ := Aside0.mk ((by rw [hg]; exact (below_size bel) : w.heap.size ≤ gb187)); have n3_ := Aside0.mk ((by rw [hg]; exact (below_size bel) : w.heap.size ≤ gb187)); clear HB; have HB := n0_; have BK187 := n1_; have GW187 := n2_; have GE187 := n3_; clear n0_ n1_ n2_ n3_; clear hb hbox hg; have hcz8_0 : w7.cell? ⟨gb187, 0, none⟩ = some (.int .i64 a0_0) := (blk_cell BK187.out 0).trans rfl; have hcz8_1 : w7.cell? ⟨gb187, 1, none⟩ = some (.int .i64 a0_1) := (blk_cell BK187.out 1).trans rfl; have hfz8_0 := blk_frozen BK187.out 0; have hfz8_1 := blk_frozen BK187.out 1))
      go_ret
      exact ⟨by first | rfl | (simp [errW_none, errW_some] <;> rfl) | (simp [*, errW_none, errW_some] <;> rfl), bel⟩
     ·rw [if_neg c6] at H
      have c6b0 : (a0_1 == 0) = false := beq_eq_false_iff_ne.mpr c6
      have c6b1 : (a0_1 != 0) = true := bne_iff_ne.mpr c6
      obtain rfl := Option.some.inj H
      go_enter Tryd.func25, Tryd.ntmps25
      go_wp2_with (first | ((with_reducible refine gate_dst (N := 1) rfl ?_); refine box_event ?hg (N := 1) ?hd (cs := #[.int .i64 a0_0, .int .i64 a0_1]) (t := 23) ?hr ?_; (case hd => rfl); (case hg => rfl); (case hr => first | (go_simp; done) | (go_simp; rfl)); intro gb187 hg w9 hbox hb; have n0_ := Aside0.mk (below_step bel hb); have n1_ := Aside0.mk (hbox); have n2_ := Aside0.mk ((by rw [hg]; exact (below_size bel) : w.heap.size ≤ gb187)); have n3_ := Aside0.mk ((by rw [hg]; exact (below_size bel) : w.heap.size ≤ gb187)); clear HB; have HB := n0_; have BK187 := n1_; have GW187 := n2_; have GE187 := n3_; clear n0_ n1_ n2_ n3_; clear hb hbox hg; have hcz10_0 : w9.cell? ⟨gb187, 0, none⟩ = some (.int .i64 a0_0) := (blk_cell BK187.out 0).trans rfl; have hcz10_1 : w9.cell? ⟨gb187, 1, none⟩ = some (.int .i64 a0_1) := (blk_cell BK187.out 1).trans rfl; have hfz10_0 := blk_frozen BK187.out 0; have hfz10_1 := blk_frozen BK187.out 1))
      go_ret
      exact ⟨by first | rfl | (simp [errW_none, errW_some] <;> rfl) | (simp [*, errW_none, errW_some] <;> rfl), bel⟩
    ·rw [if_neg c5] at H
     have c5b0 : decide (a0_1 ≤ 9) = false := decide_eq_false c5
     clear c5
     obtain rfl := Option.some.inj H
     go_enter Tryd.func25, Tryd.ntmps25
     go_wp2_with (first | ((with_reducible refine gate_dst (N := 1) rfl ?_); refine box_event ?hg (N := 1) ?hd (cs := #[.int .i64 a0_0, .int .i64 a0_1]) (t := 23) ?hr ?_; (case hd => rfl); (case hg => rfl); (case hr => first | (go_simp; done) | (go_simp; rfl)); intro gb187 hg w11 hbox hb; have n0_ := Aside0.mk (below_step bel hb); have n1_ := Aside0.mk (hbox); have n2_ := Aside0.mk ((by rw [hg]; exact (below_size bel) : w.heap.size ≤ gb187)); have n3_ := Aside0.mk ((by rw [hg]; exact (below_size bel) : w.heap.size ≤ gb187)); clear HB; have HB := n0_; have BK187 := n1_; have GW187 := n2_; have GE187 := n3_; clear n0_ n1_ n2_ n3_; clear hb hbox hg; have hcz12_0 : w11.cell? ⟨gb187, 0, none⟩ = some (.int .i64 a0_0) := (blk_cell BK187.out 0).trans rfl; have hcz12_1 : w11.cell? ⟨gb187, 1, none⟩ = some (.int .i64 a0_1) := (blk_cell BK187.out 1).trans rfl; have hfz12_0 := blk_frozen BK187.out 0; have hfz12_1 := blk_frozen BK187.out 1))
     go_ret
     exact ⟨by first | rfl | (simp [errW_none, errW_some] <;> rfl) | (simp [*, errW_none, errW_some] <;> rfl), bel⟩
   ·rw [if_neg c4] at H
    have c4b0 : decide (0 ≤ a0_1) = false := decide_eq_false c4
    clear c4
    obtain rfl := Option.some.inj H
    go_enter Tryd.func25, Tryd.ntmps25
    go_wp2_with (first | ((with_reducible refine gate_dst (N := 1) rfl ?_); refine box_event ?hg (N := 1) ?hd (cs := #[.int .i64 a0_0, .int .i64 a0_1]) (t := 23) ?hr ?_; (case hd => rfl); (case hg => rfl); (case hr => first | (go_simp; done) | (go_simp; rfl)); intro gb187 hg w13 hbox hb; have n0_ := Aside0.mk (below_step bel hb); have n1_ := Aside0.mk (hbox); have n2_ := Aside0.mk ((by rw [hg]; exact (below_size bel) : w.heap.size ≤ gb187)); have n3_ := Aside0.mk ((by rw [hg]; exact (below_size bel) : w.heap.size ≤ gb187)); clear HB; have HB := n0_; have BK187 := n1_; have GW187 := n2_; have GE187 := n3_; clear n0_ n1_ n2_ n3_; clear hb hbox hg; have hcz14_0 : w13.cell? ⟨gb187, 0, none⟩ = some (.int .i64 a0_0) := (blk_cell BK187.out 0).trans rfl; have hcz14_1 : w13.cell? ⟨gb187, 1, none⟩ = some (.int .i64 a0_1) := (blk_cell BK187.out 1).trans rfl; have hfz14_0 := blk_frozen BK187.out 0; have hfz14_1 := blk_frozen BK187.out 1))
    go_ret
    exact ⟨by first | rfl | (simp [errW_none, errW_some] <;> rfl) | (simp [*, errW_none, errW_some] <;> rfl), bel⟩
  ·rw [if_neg c3] at H
   have c3b0 : decide (a0_0 ≤ 999999999999999999) = false := decide_eq_false c3
   clear c3
   obtain rfl := Option.some.inj H
   go_enter Tryd.func25, Tryd.ntmps25
   go_wp2_with (first | ((with_reducible refine gate_dst (N := 1) rfl ?_); refine box_event ?hg (N := 1) ?hd (cs := #[.int .i64 a0_0, .int .i64 a0_1]) (t := 23) ?hr ?_; (case hd => rfl); (case hg => rfl); (case hr => first | (go_simp; done) | (go_simp; rfl)); intro gb187 hg w15 hbox hb; have n0_ := Aside0.mk (below_step bel hb); have n1_ := Aside0.mk (hbox); have n2_ := Aside0.mk ((by rw [hg]; exact (below_size bel) : w.heap.size ≤ gb187)); have n3_ := Aside0.mk ((by rw [hg]; exact (below_size bel) : w.heap.size ≤ gb187)); clear HB; have HB := n0_; have BK187 := n1_; have GW187 := n2_; have GE187 := n3_; clear n0_ n1_ n2_ n3_; clear hb hbox hg; have hcz16_0 : w15.cell? ⟨gb187, 0, none⟩ = some (.int .i64 a0_0) := (blk_cell BK187.out 0).trans rfl; have hcz16_1 : w15.cell? ⟨gb187, 1, none⟩ = some (.int .i64 a0_1) := (blk_cell BK187.out 1).trans rfl; have hfz16_0 := blk_frozen BK187.out 0; have hfz16_1 := blk_frozen BK187.out 1))
   go_ret
   exact ⟨by first | rfl | (simp [errW_none, errW_some] <;> rfl) | (simp [*, errW_none, errW_some] <;> rfl), bel⟩
 ·rw [if_neg c2] at H
  have c2b0 : decide ((-999999999999999999) ≤ a0_0) = false := decide_eq_false c2
  clear c2
  obtain rfl := Option.some.inj H
  go_enter Tryd.func25, Tryd.ntmps25
  go_wp2_with (first | ((with_reducible refine gate_dst (N := 1) rfl ?_); refine box_event ?hg (N := 1) ?hd (cs := #[.int .i64 a0_0, .int .i64 a0_1]) (t := 23) ?hr ?_; (case hd => rfl); (case hg => rfl); (case hr => first | (go_simp; done) | (go_simp; rfl)); intro gb187 hg w17 hbox hb; have n0_ := Aside0.mk (below_step bel hb); have n1_ := Aside0.mk (hbox); have n2_ := Aside0.mk ((by rw [hg]; exact (below_size bel) : w.heap.size ≤ gb187)); have n3_ := Aside0.mk ((by rw [hg]; exact (below_size bel) : w.heap.size ≤ gb187)); clear HB; have HB := n0_; have BK187 := n1_; have GW187 := n2_; have GE187 := n3_; clear n0_ n1_ n2_ n3_; clear hb hbox hg; have hcz18_0 : w17.cell? ⟨gb187, 0, none⟩ = some (.int .i64 a0_0) := (blk_cell BK187.out 0).trans rfl; have hcz18_1 : w17.cell? ⟨gb187, 1, none⟩ = some (.int .i64 a0_1) := (blk_cell BK187.out 1).trans rfl; have hfz18_0 := blk_frozen BK187.out 0; have hfz18_1 := blk_frozen BK187.out 1))
  go_ret
  exact ⟨by first | rfl | (simp [errW_none, errW_some] <;> rfl) | (simp [*, errW_none, errW_some] <;> rfl), bel⟩
mutual
def erasureref01_Print.j0 : Nat → ByteArray → Bool → List Int → Int → Option (ByteArray × Int)
 | 0, _, _, _, _ => none
 | k + 1, x5, x203000, x203001, x203002 => erasureref01_Print.l0 k x5 (wrap64 ((mx (x203001.length : Int) (wrap64 (x203002 + 1))) - 1)) x203000 x203001 x203002
def erasureref01_Print.l0 : Nat → ByteArray → Int → Bool → List Int → Int → Option (ByteArray × Int)
 | 0, _, _, _, _, _ => none
 | k + 1, x5, x6, x203000, x203001, x203002 => if x6 ≥ 0 then (if x6 = (wrap64 (x203002 - 1)) then (if x5.size + 1 ≤ 9223372036854775807 then ((erasureref01_digit.f x203001 x6).bind fun t203 => ((some (([(wrap64 (48 + t203)) % 256] : List Int) : List Int)).bind fun y204 => (if (x5 ++ (⟨#[46]⟩ : ByteArray)).size + (strOfNums y204).size ≤ 9223372036854775807 then (erasureref01_Print.l0 k ((x5 ++ (⟨#[46]⟩ : ByteArray)) ++ (strOfNums y204)) (wrap64 (x6 - 1)) x203000 x203001 x203002) else (none)))) else (none)) else ((erasureref01_digit.f x203001 x6).bind fun t207 => ((some (([(wrap64 (48 + t207)) % 256] : List Int) : List Int)).bind fun y208 => (if x5.size + (strOfNums y208).size ≤ 9223372036854775807 then (erasureref01_Print.l0 k (x5 ++ (strOfNums y208)) (wrap64 (x6 - 1)) x203000 x203001 x203002) else (none))))) else (some (x5, 0))
end
def erasureref01_Print.f (k : Nat) (a0_0 : Int) (a0_1 : Int) : Option (ByteArray × Int) := (erasureref01_Right.f a0_0 a0_1).bind fun t196 => (if t196 = true then ((erasureref01_of.f k a0_0 a0_1).bind fun bt197 => (if bt197.1 = true then (erasureref01_Print.j0 k (⟨#[45]⟩ : ByteArray) bt197.1 bt197.2.1 bt197.2.2) else (erasureref01_Print.j0 k (⟨#[]⟩ : ByteArray) bt197.1 bt197.2.1 bt197.2.2))) else (some ((⟨#[]⟩ : ByteArray), 1)))
theorem erasureref01_Print.mono_l : ∀ k, (∀ y0 y1 y2 y3, LeO (erasureref01_Print.j0 k y0 y1 y2 y3) (erasureref01_Print.j0 (k + 1) y0 y1 y2 y3)) ∧ (∀ y0 y1 y2 y3 y4, LeO (erasureref01_Print.l0 k y0 y1 y2 y3 y4) (erasureref01_Print.l0 (k + 1) y0 y1 y2 y3 y4))
 | 0 => ⟨fun _ _ _ _ r h => by simp [erasureref01_Print.j0] at h, fun _ _ _ _ _ r h => by simp [erasureref01_Print.l0] at h⟩
 | k + 1 => by
  obtain ⟨ih0, ih1⟩ := erasureref01_Print.mono_l k
  refine ⟨?_, ?_⟩
  ·intro y0 y1 y2 y3
   unfold erasureref01_Print.j0
   repeat' first
   | (with_reducible exact ih0 _ _ _ _)
   | (with_reducible exact ih1 _ _ _ _ _)
   | (with_reducible exact erasureref01_of.mono _ _ _)
   | (with_reducible exact LeO.refl _)
   | (with_reducible exact LeO.none _)
   | (with_reducible refine LeO.ite ?_ ?_)
   | (with_reducible refine LeO.bind ?_ (fun _ => ?_))
   | exact ih0 _ _ _ _
   | exact ih1 _ _ _ _ _
   | exact erasureref01_of.mono _ _ _
   | exact LeO.none _
   | refine LeO.ite ?_ ?_
   | refine LeO.bind ?_ (fun _ => ?_)
  ·intro y0 y1 y2 y3 y4
   unfold erasureref01_Print.l0
   repeat' first
   | (with_reducible exact ih0 _ _ _ _)
   | (with_reducible exact ih1 _ _ _ _ _)
   | (with_reducible exact erasureref01_of.mono _ _ _)
   | (with_reducible exact LeO.refl _)
   | (with_reducible exact LeO.none _)
   | (with_reducible refine LeO.ite ?_ ?_)
   | (with_reducible refine LeO.bind ?_ (fun _ => ?_))
   | exact ih0 _ _ _ _
   | exact ih1 _ _ _ _ _
   | exact erasureref01_of.mono _ _ _
   | exact LeO.none _
   | refine LeO.ite ?_ ?_
   | refine LeO.bind ?_ (fun _ => ?_)
theorem erasureref01_Print.mono : ∀ a0 a1 k, LeO (erasureref01_Print.f k a0 a1) (erasureref01_Print.f (k + 1) a0 a1) := by
 intro a0 a1 k
 obtain ⟨ih0, ih1⟩ := erasureref01_Print.mono_l k
 unfold erasureref01_Print.f
 repeat' first
   | (with_reducible exact ih0 _ _ _ _)
   | (with_reducible exact ih1 _ _ _ _ _)
   | (with_reducible exact erasureref01_of.mono _ _ _)
   | (with_reducible exact LeO.refl _)
   | (with_reducible exact LeO.none _)
   | (with_reducible refine LeO.ite ?_ ?_)
   | (with_reducible refine LeO.bind ?_ (fun _ => ?_))
   | exact ih0 _ _ _ _
   | exact ih1 _ _ _ _ _
   | exact erasureref01_of.mono _ _ _
   | exact LeO.none _
   | refine LeO.ite ?_ ?_
   | refine LeO.bind ?_ (fun _ => ?_)
set_option maxHeartbeats 8000000 in
set_option maxRecDepth 100000 in
theorem erasureref01_Print.calls (k : Nat) (a0_0 : Int) (a0_1 : Int) (r1 : ByteArray) (r2 : Int) (w : World) (h : erasureref01_Print.f k a0_0 a0_1 = some (r1, r2)) :
  Calls Tryd.prog 19 #[.agg #[.int .i64 a0_0, .int .i64 a0_1]] w fun e w' => e = .returned (.tuple #[.string r1, .int .i64 r2]) ∧ Below w.heap.size w w' := by
 have hu23 := Tryd.underlying23
 have hu61 := Tryd.underlying61
 have HB := Aside0.mk (Below.refl w.heap.size w)
 have H : ((erasureref01_Right.f a0_0 a0_1).bind fun t196 => (if t196 = true then ((erasureref01_of.f k a0_0 a0_1).bind fun bt197 => (if bt197.1 = true then (erasureref01_Print.j0 k (⟨#[45]⟩ : ByteArray) bt197.1 bt197.2.1 bt197.2.2) else (erasureref01_Print.j0 k (⟨#[]⟩ : ByteArray) bt197.1 bt197.2.1 bt197.2.2))) else (some ((⟨#[]⟩ : ByteArray), 1)))) = some (r1, r2) := h
 clear h
 replace H := Option.bind_eq_some_iff.mp H
 obtain ⟨t196, A20, H⟩ := H
 replace H : (if t196 = true then ((erasureref01_of.f k a0_0 a0_1).bind fun bt197 => (if bt197.1 = true then (erasureref01_Print.j0 k (⟨#[45]⟩ : ByteArray) bt197.1 bt197.2.1 bt197.2.2) else (erasureref01_Print.j0 k (⟨#[]⟩ : ByteArray) bt197.1 bt197.2.1 bt197.2.2))) else (some ((⟨#[]⟩ : ByteArray), 1))) = some (r1, r2) := H
 have A2 := Aside0.mk A20
 clear A20
 by_cases c3 : t196 = true
 ·subst c3
  have H1 : ((erasureref01_of.f k a0_0 a0_1).bind fun bt197 => (if bt197.1 = true then (erasureref01_Print.j0 k (⟨#[45]⟩ : ByteArray) bt197.1 bt197.2.1 bt197.2.2) else (erasureref01_Print.j0 k (⟨#[]⟩ : ByteArray) bt197.1 bt197.2.1 bt197.2.2))) = some (r1, r2) := by rw [if_pos rfl] at H; exact H
  clear H
  have H := H1
  clear H1
  replace H := Option.bind_eq_some_iff.mp H
  obtain ⟨⟨t197, t198, t201⟩, A40, H⟩ := H
  replace H : (if t197 = true then (erasureref01_Print.j0 k (⟨#[45]⟩ : ByteArray) t197 t198 t201) else (erasureref01_Print.j0 k (⟨#[]⟩ : ByteArray) t197 t198 t201)) = some (r1, r2) := H
  have A4 := Aside0.mk A40
  clear A40
  have HC5 := Aside0.mk H
  clear H
  go_enter Tryd.func19, Tryd.ntmps19
  go_upto_if 13 with (first | ((with_reducible refine gate_dst (N := 1) rfl ?_); refine box_event ?hg (N := 1) ?hd (cs := #[.int .i64 a0_0, .int .i64 a0_1]) (t := 23) ?hr ?_; (case hd => rfl); (case hg => rfl); (case hr => first | (go_simp; done) | (go_simp; rfl)); intro gb195 hg w6 hbox hb; have n0_ := Aside0.mk (below_step bel hb); have n1_ := Aside0.mk (hbox); have n2_ := Aside0.mk ((by rw [hg]; exact (below_size bel) : w.heap.size ≤ gb195)); have n3_ := Aside0.mk ((by rw [hg]; exact (below_size bel) : w.heap.size ≤ gb195)); clear HB; have HB := n0_; have BK195 := n1_; have GW195 := n2_; have GE195 := n3_; clear n0_ n1_ n2_ n3_; clear hb hbox hg; have hcz7_0 : w6.cell? ⟨gb195, 0, none⟩ = some (.int .i64 a0_0) := (blk_cell BK195.out 0).trans rfl; have hcz7_1 : w6.cell? ⟨gb195, 1, none⟩ = some (.int .i64 a0_1) := (blk_cell BK195.out 1).trans rfl; have hfz7_0 := blk_frozen BK195.out 0; have hfz7_1 := blk_frozen BK195.out 1) | ((with_reducible refine gate_callee (f := 25) rfl ?_); refine goesL_ (some 8) rfl rfl Tryd.func25 (by kernel_rfl) rfl #[.agg #[.int .i64 a0_0, .int .i64 a0_1]] rfl gl_ ?_; (with_reducible refine (erasureref01_Right.calls a0_0 a0_1 true _ A2.out).mono ?_); rintro e w8 ⟨rfl, hb⟩; refine ⟨_, rfl, ?_⟩; have n0_ := Aside0.mk (blk_below (bkk BK195.out) hb); have n1_ := Aside0.mk (below_step bel hb); clear BK195; clear HB; have BK195 := n0_; have HB := n1_; clear n0_ n1_; (try clear hb); (try clear hb2); (try clear hk); (try clear hi); have hcz9_0 : w8.cell? ⟨gb195, 0, none⟩ = some (.int .i64 a0_0) := (blk_cell BK195.out 0).trans rfl; have hcz9_1 : w8.cell? ⟨gb195, 1, none⟩ = some (.int .i64 a0_1) := (blk_cell BK195.out 1).trans rfl; have hfz9_0 := blk_frozen BK195.out 0; have hfz9_1 := blk_frozen BK195.out 1) | ((with_reducible refine gate_callee (f := 39) rfl ?_); refine goesL_ (some 11) rfl rfl Tryd.func39 (by kernel_rfl) rfl #[.agg #[.int .i64 a0_0, .int .i64 a0_1]] rfl gl_ ?_; (with_reducible refine (erasureref01_of.calls k a0_0 a0_1 t197 t198 t201 _ A4.out).mono ?_); rintro e w10 ⟨v199, rfl, ho0, hb⟩; refine ⟨_, rfl, ?_⟩; have n0_ := Aside0.mk (Kd.R_lower ho0 (below_size bel)); have n1_ := Aside0.mk (blk_below (bkk BK195.out) hb); have n2_ := Aside0.mk (below_step bel hb); clear BK195; clear HB; have HO200 := n0_; have BK195 := n1_; have HB := n2_; clear n0_ n1_ n2_; (try clear hb); (try clear hb2); (try clear hk); (try clear hi); (try clear ho0)) | ((with_reducible refine gate_dst (N := 4) rfl ?_); refine box_event ?hg (N := 4) ?hd (cs := #[.bool false, .slice none 0 0, .int .i64 0]) (t := 61) ?hr ?_; (case hd => rfl); (case hg => rfl); (case hr => first | (go_simp; done) | (go_simp; rfl)); intro gb202 hg w11 hbox hb; have n0_ := Aside0.mk (Kd.R_below (rkk HO200.out) hb); have n1_ := Aside0.mk (blk_below (bkk BK195.out) hb); have n2_ := Aside0.mk (below_step bel hb); have n3_ := Aside0.mk (hbox); have n4_ := Aside0.mk ((by rw [hg]; exact (below_size bel) : w.heap.size ≤ gb202)); have n5_ := Aside0.mk ((by rw [hg]; exact (below_size bel) : w.heap.size ≤ gb202)); have n6_ := Aside0.mk ((by rw [hg]; exact Nat.ne_of_lt (blk_lt (g := gb195) (o := .cells #[.int .i64 a0_0, .int .i64 a0_1] 23 (0, 0)) (bkk BK195.out)) : gb195 ≠ gb202)); have n7_ := Aside0.mk ((by rw [hg]; exact Nat.ne_of_gt (blk_lt (g := gb195) (o := .cells #[.int .i64 a0_0, .int .i64 a0_1] 23 (0, 0)) (bkk BK195.out)) : gb202 ≠ gb195)); clear HO200; clear BK195; clear HB; have HO200 := n0_; have BK195 := n1_; have HB := n2_; have BK202 := n3_; have GW202 := n4_; have GE202 := n5_; have NB195_202 := n6_; have NB202_195 := n7_; clear n0_ n1_ n2_ n3_ n4_ n5_ n6_ n7_; clear hb hbox hg; have hnb12 := NB202_195.out; have hnc12 := NB195_202.out; have hcz13_0 : w11.cell? ⟨gb202, 0, none⟩ = some (.bool false) := (blk_cell BK202.out 0).trans rfl; have hcz13_1 : w11.cell? ⟨gb202, 1, none⟩ = some (.slice none 0 0) := (blk_cell BK202.out 1).trans rfl; have hcz13_2 : w11.cell? ⟨gb202, 2, none⟩ = some (.int .i64 0) := (blk_cell BK202.out 2).trans rfl; have hfz13_0 := blk_frozen BK202.out 0; have hfz13_1 := blk_frozen BK202.out 1; have hfz13_2 := blk_frozen BK202.out 2; obtain ⟨Ao14, co14, eo14⟩ := Kd.R_slice HO200.out; subst eo14))
  (try simp only [Act.put, List.setIfInBounds_toArray, List.set_cons_zero, List.set_cons_succ])
  go_cut [5] (fun v5 wc => ∃ (kq : Nat) (x5_4 : ByteArray), v5 = .string x5_4 ∧ Aside0 (erasureref01_Print.j0 kq x5_4 t197 t198 t201 = some (r1, r2)) ∧ Aside0 (kq ≤ k) ∧ Aside0 (Kd.R (Kd.int .i64) 3 wc w.heap.size (fun _ => True) (.slice Ao14 t198.length co14) t198) ∧ Aside0 (wc.heap[gb195]? = some (.cells #[.int .i64 a0_0, .int .i64 a0_1] 23 (0, 0))) ∧ Aside0 (wc.heap[gb202]? = some (.cells #[.bool t197, (.slice Ao14 t198.length co14), .int .i64 t201] 61 (0, 0))) ∧ Aside0 (Below w.heap.size w wc))
  case first =>
   have H := HC5.out
   clear HC5
   by_cases c15 : t197 = true
   ·subst c15
    have H1 : (erasureref01_Print.j0 k (⟨#[45]⟩ : ByteArray) true t198 t201) = some (r1, r2) := by rw [if_pos rfl] at H; exact H
    clear H
    have H := H1
    clear H1
    have H' := Aside0.mk H
    clear H
    go_wp2
    go_meet
    case rel => exact ⟨_, ((⟨#[45]⟩ : ByteArray)), ea_, H', ⟨by first | omega | exact Nat.le_refl _⟩, ⟨by (with_reducible repeat (first | apply Kd.R_alloc | apply Kd.R_drewN | apply Kd.R_drew)); exact Kd.R_mono (Kd.R_far (p := ⟨gb202, 2, none⟩) (Kd.R_far (p := ⟨gb202, 1, none⟩) (Kd.R_far (p := ⟨gb202, 0, none⟩) (Kd.R_types HO200.out BK202.out (by decide)) (fun _ hk => hk.2) (.bool true)) (fun _ hk => hk.2) (.slice Ao14 t198.length co14)) (fun _ hk => hk.2) (.int .i64 t201)) (fun _ hk => trivial)⟩, ⟨blks⟩, ⟨by (with_reducible repeat (first | refine blk_drewN ?_ _ | refine blk_drew ?_ | refine blk_alloc ?_ _)); refine blk_put (cs := #[.bool true, .slice Ao14 t198.length co14, .int .i64 0]) ?_ 2 _ rfl; (with_reducible repeat (first | refine blk_drewN ?_ _ | refine blk_drew ?_ | refine blk_alloc ?_ _)); refine blk_put (cs := #[.bool true, .slice none 0 0, .int .i64 0]) ?_ 1 _ rfl; (with_reducible repeat (first | refine blk_drewN ?_ _ | refine blk_drew ?_ | refine blk_alloc ?_ _)); refine blk_put (cs := #[.bool false, .slice none 0 0, .int .i64 0]) ?_ 0 _ rfl; (with_reducible repeat (first | refine blk_drewN ?_ _ | refine blk_drew ?_ | refine blk_alloc ?_ _)); exact BK202.out⟩, ⟨bel⟩⟩
   ·replace c15 := Bool.eq_false_iff.mpr c15
    subst c15
    have H1 : (erasureref01_Print.j0 k (⟨#[]⟩ : ByteArray) false t198 t201) = some (r1, r2) := by rw [if_neg (show ¬ (false = true) by decide)] at H; exact H
    clear H
    have H := H1
    clear H1
    have H' := Aside0.mk H
    clear H
    go_wp2
    go_meet
    case rel => exact ⟨_, ((⟨#[]⟩ : ByteArray)), ea_, H', ⟨by first | omega | exact Nat.le_refl _⟩, ⟨by (with_reducible repeat (first | apply Kd.R_alloc | apply Kd.R_drewN | apply Kd.R_drew)); exact Kd.R_mono (Kd.R_far (p := ⟨gb202, 2, none⟩) (Kd.R_far (p := ⟨gb202, 1, none⟩) (Kd.R_far (p := ⟨gb202, 0, none⟩) (Kd.R_types HO200.out BK202.out (by decide)) (fun _ hk => hk.2) (.bool false)) (fun _ hk => hk.2) (.slice Ao14 t198.length co14)) (fun _ hk => hk.2) (.int .i64 t201)) (fun _ hk => trivial)⟩, ⟨blks⟩, ⟨by (with_reducible repeat (first | refine blk_drewN ?_ _ | refine blk_drew ?_ | refine blk_alloc ?_ _)); refine blk_put (cs := #[.bool false, .slice Ao14 t198.length co14, .int .i64 0]) ?_ 2 _ rfl; (with_reducible repeat (first | refine blk_drewN ?_ _ | refine blk_drew ?_ | refine blk_alloc ?_ _)); refine blk_put (cs := #[.bool false, .slice none 0 0, .int .i64 0]) ?_ 1 _ rfl; (with_reducible repeat (first | refine blk_drewN ?_ _ | refine blk_drew ?_ | refine blk_alloc ?_ _)); refine blk_put (cs := #[.bool false, .slice none 0 0, .int .i64 0]) ?_ 0 _ rfl; (with_reducible repeat (first | refine blk_drewN ?_ _ | refine blk_drew ?_ | refine blk_alloc ?_ _)); exact BK202.out⟩, ⟨bel⟩⟩
  case rest =>
   clear HC5
   try clear c1
   try clear c2
   try clear p2
   try clear c3
   try clear c12
   try clear c15
   try clear hcz13_0
   try clear hcz13_1
   try clear hcz13_2
   try clear hcz7_0
   try clear hcz7_1
   try clear hcz9_0
   try clear hcz9_1
   try clear hfz13_0
   try clear hfz13_1
   try clear hfz13_2
   try clear hfz7_0
   try clear hfz7_1
   try clear hfz9_0
   try clear hfz9_1
   obtain ⟨kq, x5_4, rfl, HA, HJ4, HO_203001, BK195, BK202, HB⟩ := hcut
   cases kq with
   | zero => exact absurd HA.out (by simp [erasureref01_Print.j0])
   | succ kj4 =>
    have H := HA.out
    clear HA
    simp only [erasureref01_Print.j0] at H
    obtain ⟨ji16, hji16⟩ : ∃ j_ : Int, (mx (t198.length : Int) (wrap64 (t201 + 1))) = j_ := ⟨_, rfl⟩
    replace H : (erasureref01_Print.l0 kj4 x5_4 (wrap64 ((ji16) - 1)) t197 t198 t201) = some (r1, r2) := by first | (rw [hji16] at H; exact H) | (simp only [hji16] at H ⊢; exact H)
    have hji16_ : (if (t198.length : Int) < (wrap64 (t201 + 1)) then (wrap64 (t201 + 1)) else (t198.length : Int)) = ji16 := hji16
    have H' := Aside0.mk H
    clear H
    have hnb17 := NB202_195.out
    have hnc17 := NB195_202.out
    have hcz18_0 : wc.cell? ⟨gb202, 0, none⟩ = some (.bool t197) := (blk_cell BK202.out 0).trans rfl
    have hcz18_1 : wc.cell? ⟨gb202, 1, none⟩ = some (.slice Ao14 t198.length co14) := (blk_cell BK202.out 1).trans rfl
    have hcz18_2 : wc.cell? ⟨gb202, 2, none⟩ = some (.int .i64 t201) := (blk_cell BK202.out 2).trans rfl
    have hfz18_0 := blk_frozen BK202.out 0
    have hfz18_1 := blk_frozen BK202.out 1
    have hfz18_2 := blk_frozen BK202.out 2
    go_wp2
    go_loopg [5, 6] kj4 (fun kq v5 v6 w' => ∃ (x5_2 : ByteArray) (x6_2 : Int), v5 = .string x5_2 ∧ v6 = .int .i64 x6_2 ∧ Aside0 (erasureref01_Print.l0 kq x5_2 x6_2 t197 t198 t201 = some (r1, r2)) ∧ Aside0 (kq ≤ kj4) ∧ Aside0 (Kd.R (Kd.int .i64) 3 w' w.heap.size (fun _ => True) (.slice Ao14 t198.length co14) t198) ∧ Aside0 (w'.heap[gb195]? = some (.cells #[.int .i64 a0_0, .int .i64 a0_1] 23 (0, 0))) ∧ Aside0 (w'.heap[gb202]? = some (.cells #[.bool t197, (.slice Ao14 t198.length co14), .int .i64 t201] 61 (0, 0))) ∧ Aside0 (Below w.heap.size w w'))
    case atStart => exact ⟨(x5_4), (wrap64 ((ji16) - 1)), ea_, (by first | rfl | (simp; done) | (simp only [← hji16] <;> (first | rfl | simp)) | (simp [*]; done)), H', ⟨Nat.le_refl _⟩, ⟨rkk HO_203001.out⟩, ⟨bkk BK195.out⟩, ⟨bkk BK202.out⟩, ⟨bel⟩⟩
    case round =>
     clear H'
     try clear c1
     try clear c2
     try clear p2
     try clear c3
     try clear p6
     try clear c12
     try clear c15
     try clear c17
     try clear hcz13_0
     try clear hcz13_1
     try clear hcz13_2
     try clear hcz18_0
     try clear hcz18_1
     try clear hcz18_2
     try clear hcz7_0
     try clear hcz7_1
     try clear hcz9_0
     try clear hcz9_1
     try clear hfz13_0
     try clear hfz13_1
     try clear hfz13_2
     try clear hfz18_0
     try clear hfz18_1
     try clear hfz18_2
     try clear hfz7_0
     try clear hfz7_1
     try clear hfz9_0
     try clear hfz9_1
     try clear p2
     obtain ⟨x5_2, x6_2, rfl, rfl, HA, HK2, HO_203001, BK195, BK202, HB⟩ := hrel
     cases gk with
     | zero => exact absurd HA.out (by simp [erasureref01_Print.l0])
     | succ k2 =>
      have H := HA.out
      clear HA
      simp only [erasureref01_Print.l0] at H
      by_cases c19 : x6_2 ≥ 0
      ·rw [if_pos c19] at H
       have c19b0 : decide (0 ≤ x6_2) = true := decide_eq_true c19
       clear c19
       by_cases c20 : x6_2 = (wrap64 (t201 - 1))
       ·rw [if_pos c20] at H
        have c20b0 : (x6_2 == (wrap64 (t201 - 1))) = true := beq_iff_eq.mpr c20
        have c20b1 : (x6_2 != (wrap64 (t201 - 1))) = false := bne_eq_false_iff_eq.mpr c20
        clear c20
        by_cases c21 : x5_2.size + 1 ≤ 9223372036854775807
        ·rw [if_pos c21] at H
         have c21b0 := eq_true c21
         have c21b1 : decide (x5_2.size + 1 ≤ 9223372036854775807) = true := decide_eq_true c21
         try have c21b2 : (9223372036854775807 < x5_2.size + 1) = False := eq_false (Nat.not_lt.2 c21)
         replace H := Option.bind_eq_some_iff.mp H
         obtain ⟨t203, A220, H⟩ := H
         replace H : ((some (([(wrap64 (48 + t203)) % 256] : List Int) : List Int)).bind fun y204 => (if (x5_2 ++ (⟨#[46]⟩ : ByteArray)).size + (strOfNums y204).size ≤ 9223372036854775807 then (erasureref01_Print.l0 k2 ((x5_2 ++ (⟨#[46]⟩ : ByteArray)) ++ (strOfNums y204)) (wrap64 (x6_2 - 1)) t197 t198 t201) else (none))) = some (r1, r2) := H
         have A22 := Aside0.mk A220
         clear A220
         obtain ⟨y204, hy204⟩ : ∃ y_ : List Int, y_ = (([(wrap64 (48 + t203)) % 256] : List Int)) := ⟨_, rfl⟩
         replace H : (if (x5_2 ++ (⟨#[46]⟩ : ByteArray)).size + (strOfNums y204).size ≤ 9223372036854775807 then (erasureref01_Print.l0 k2 ((x5_2 ++ (⟨#[46]⟩ : ByteArray)) ++ (strOfNums y204)) (wrap64 (x6_2 - 1)) t197 t198 t201) else (none)) = some (r1, r2) := by first | (rw [hy204]; with_reducible exact H) | (have H2_ := (Option.bind_some _ _).symm.trans H; rw [hy204]; with_reducible exact H2_) | (have H2_ := (Option.bind_some _ _).symm.trans H; with_reducible exact H2_) | with_reducible exact H | (rw [hy204]; exact H) | exact H
         have Ny204 := Aside0.mk hy204
         clear hy204
         by_cases c23 : (x5_2 ++ (⟨#[46]⟩ : ByteArray)).size + (strOfNums y204).size ≤ 9223372036854775807
         ·rw [if_pos c23] at H
          have c23b0 := eq_true c23
          have c23b1 : decide ((x5_2 ++ (⟨#[46]⟩ : ByteArray)).size + (strOfNums y204).size ≤ 9223372036854775807) = true := decide_eq_true c23
          try have c23b2 : (9223372036854775807 < (x5_2 ++ (⟨#[46]⟩ : ByteArray)).size + (strOfNums y204).size) = False := eq_false (Nat.not_lt.2 c23)
          have H' := Aside0.mk H
          clear H
          have hnb24 := NB202_195.out
          have hnc24 := NB195_202.out
          have hcz25_0 : wr.cell? ⟨gb202, 0, none⟩ = some (.bool t197) := (blk_cell BK202.out 0).trans rfl
          have hcz25_1 : wr.cell? ⟨gb202, 1, none⟩ = some (.slice Ao14 t198.length co14) := (blk_cell BK202.out 1).trans rfl
          have hcz25_2 : wr.cell? ⟨gb202, 2, none⟩ = some (.int .i64 t201) := (blk_cell BK202.out 2).trans rfl
          have hfz25_0 := blk_frozen BK202.out 0
          have hfz25_1 := blk_frozen BK202.out 1
          have hfz25_2 := blk_frozen BK202.out 2
          go_wp2_with (first | ((with_reducible refine gate_callee (f := 40) rfl ?_); refine goesL_ (some 37) rfl rfl Tryd.func40 (by kernel_rfl) rfl #[.slice Ao14 t198.length co14, .int .i64 x6_2] rfl gl_ ?_; (with_reducible refine (erasureref01_digit.calls _ _ t198 x6_2 t203 _ ?side1 ?side2 A22.out).mono ?_); (case side1 => repeat (first | exact (Kd.R_reads' HO_203001.out).2.2 | (with_reducible refine Kd.C_alloc ?_ _) | (with_reducible refine Kd.C_drewN ?_ _) | (with_reducible refine Kd.C_drew ?_))); (case side2 => exact (Kd.R_reads' HO_203001.out).2.1); rintro e w' ⟨rfl, ⟨nd, rfl⟩⟩; refine ⟨_, rfl, ?_⟩) | ((with_reducible refine gate_dst (N := 40) rfl ?_); refine Kd.R_lit (Kd.int .u8) _ 5 ?hg (N := 40) ?hd (xs := ([(wrap64 (48 + t203)) % 256] : List Int)) (inner := [.int .u8 ((wrap64 (48 + t203)) % 256)]) (ok := fun _ => True) (okp := fun _ => True) ?hr ?hp (fun _ hk => hk) trivial (Below.refl _ _) (Nat.le_refl _) (by simp) ?_; (case hd => rfl); (case hg => rfl); (case hr => first | (go_simp; done) | (go_simp; rfl)); (case hp => exact (Reps.one (show Kd.M (Kd.int .u8) _ _ _ ((wrap64 (48 + t203)) % 256) [.int .u8 ((wrap64 (48 + t203)) % 256)] from rfl) (Reps.none _ _))); intro v205 w26 ho27 hb hg_ hnew_; clear hg_ hnew_; (first | rw [← Ny204.out] at ho27 | (simp only [Int.reduceToNat] at ho27; rw [← Ny204.out] at ho27)); have n0_ := Aside0.mk (Kd.R_below (rkk HO_203001.out) hb); have n1_ := Aside0.mk (Kd.R_lower ho27 (below_size bel)); have n2_ := Aside0.mk (blk_below (bkk BK195.out) hb); have n3_ := Aside0.mk (blk_below (bkk BK202.out) hb); have n4_ := Aside0.mk (below_step bel hb); clear HO_203001; clear BK195; clear BK202; clear HB; have HO_203001 := n0_; have HO206 := n1_; have BK195 := n2_; have BK202 := n3_; have HB := n4_; clear n0_ n1_ n2_ n3_ n4_; clear hb ho27; have hcv28 := own_string (P := Tryd.prog) Tryd.underlying49 Tryd.underlying5 Tryd.underlying9 (Kd.own_of_R HO206.out)))
          go_roundg k2
          case measure => have := HJ4.out; have := HK2.out; omega
          case rel => exact ⟨((x5_2 ++ (⟨#[46]⟩ : ByteArray)) ++ (strOfNums y204)), (wrap64 (x6_2 - 1)), ea_, ea_, H', ⟨by have := HJ4.out; have := HK2.out; omega⟩, ⟨rkk HO_203001.out⟩, ⟨bkk BK195.out⟩, ⟨bkk BK202.out⟩, ⟨bel⟩⟩
         ·rw [if_neg c23] at H
          exact absurd H (by simp)
        ·rw [if_neg c21] at H
         exact absurd H (by simp)
       ·rw [if_neg c20] at H
        have c20b0 : (x6_2 == (wrap64 (t201 - 1))) = false := beq_eq_false_iff_ne.mpr c20
        have c20b1 : (x6_2 != (wrap64 (t201 - 1))) = true := bne_iff_ne.mpr c20
        replace H := Option.bind_eq_some_iff.mp H
        obtain ⟨t207, A290, H⟩ := H
        replace H : ((some (([(wrap64 (48 + t207)) % 256] : List Int) : List Int)).bind fun y208 => (if x5_2.size + (strOfNums y208).size ≤ 9223372036854775807 then (erasureref01_Print.l0 k2 (x5_2 ++ (strOfNums y208)) (wrap64 (x6_2 - 1)) t197 t198 t201) else (none))) = some (r1, r2) := H
        have A29 := Aside0.mk A290
        clear A290
        obtain ⟨y208, hy208⟩ : ∃ y_ : List Int, y_ = (([(wrap64 (48 + t207)) % 256] : List Int)) := ⟨_, rfl⟩
        replace H : (if x5_2.size + (strOfNums y208).size ≤ 9223372036854775807 then (erasureref01_Print.l0 k2 (x5_2 ++ (strOfNums y208)) (wrap64 (x6_2 - 1)) t197 t198 t201) else (none)) = some (r1, r2) := by first | (rw [hy208]; with_reducible exact H) | (have H2_ := (Option.bind_some _ _).symm.trans H; rw [hy208]; with_reducible exact H2_) | (have H2_ := (Option.bind_some _ _).symm.trans H; with_reducible exact H2_) | with_reducible exact H | (rw [hy208]; exact H) | exact H
        have Ny208 := Aside0.mk hy208
        clear hy208
        by_cases c30 : x5_2.size + (strOfNums y208).size ≤ 9223372036854775807
        ·rw [if_pos c30] at H
         have c30b0 := eq_true c30
         have c30b1 : decide (x5_2.size + (strOfNums y208).size ≤ 9223372036854775807) = true := decide_eq_true c30
         try have c30b2 : (9223372036854775807 < x5_2.size + (strOfNums y208).size) = False := eq_false (Nat.not_lt.2 c30)
         have H' := Aside0.mk H
         clear H
         have hnb31 := NB202_195.out
         have hnc31 := NB195_202.out
         have hcz32_0 : wr.cell? ⟨gb202, 0, none⟩ = some (.bool t197) := (blk_cell BK202.out 0).trans rfl
         have hcz32_1 : wr.cell? ⟨gb202, 1, none⟩ = some (.slice Ao14 t198.length co14) := (blk_cell BK202.out 1).trans rfl
         have hcz32_2 : wr.cell? ⟨gb202, 2, none⟩ = some (.int .i64 t201) := (blk_cell BK202.out 2).trans rfl
         have hfz32_0 := blk_frozen BK202.out 0
         have hfz32_1 := blk_frozen BK202.out 1
         have hfz32_2 := blk_frozen BK202.out 2
         go_wp2_with (first | ((with_reducible refine gate_callee (f := 40) rfl ?_); refine goesL_ (some 37) rfl rfl Tryd.func40 (by kernel_rfl) rfl #[.slice Ao14 t198.length co14, .int .i64 x6_2] rfl gl_ ?_; (with_reducible refine (erasureref01_digit.calls _ _ t198 x6_2 t207 _ ?side1 ?side2 A29.out).mono ?_); (case side1 => repeat (first | exact (Kd.R_reads' HO_203001.out).2.2 | (with_reducible refine Kd.C_alloc ?_ _) | (with_reducible refine Kd.C_drewN ?_ _) | (with_reducible refine Kd.C_drew ?_))); (case side2 => exact (Kd.R_reads' HO_203001.out).2.1); rintro e w' ⟨rfl, ⟨nd, rfl⟩⟩; refine ⟨_, rfl, ?_⟩) | ((with_reducible refine gate_dst (N := 40) rfl ?_); refine Kd.R_lit (Kd.int .u8) _ 5 ?hg (N := 40) ?hd (xs := ([(wrap64 (48 + t207)) % 256] : List Int)) (inner := [.int .u8 ((wrap64 (48 + t207)) % 256)]) (ok := fun _ => True) (okp := fun _ => True) ?hr ?hp (fun _ hk => hk) trivial (Below.refl _ _) (Nat.le_refl _) (by simp) ?_; (case hd => rfl); (case hg => rfl); (case hr => first | (go_simp; done) | (go_simp; rfl)); (case hp => exact (Reps.one (show Kd.M (Kd.int .u8) _ _ _ ((wrap64 (48 + t207)) % 256) [.int .u8 ((wrap64 (48 + t207)) % 256)] from rfl) (Reps.none _ _))); intro v209 w33 ho34 hb hg_ hnew_; clear hg_ hnew_; (first | rw [← Ny208.out] at ho34 | (simp only [Int.reduceToNat] at ho34; rw [← Ny208.out] at ho34)); have n0_ := Aside0.mk (Kd.R_below (rkk HO_203001.out) hb); have n1_ := Aside0.mk (Kd.R_lower ho34 (below_size bel)); have n2_ := Aside0.mk (blk_below (bkk BK195.out) hb); have n3_ := Aside0.mk (blk_below (bkk BK202.out) hb); have n4_ := Aside0.mk (below_step bel hb); clear HO_203001; clear BK195; clear BK202; clear HB; have HO_203001 := n0_; have HO210 := n1_; have BK195 := n2_; have BK202 := n3_; have HB := n4_; clear n0_ n1_ n2_ n3_ n4_; clear hb ho34; have hcv35 := own_string (P := Tryd.prog) Tryd.underlying49 Tryd.underlying5 Tryd.underlying9 (Kd.own_of_R HO210.out)))
         go_roundg k2
         case measure => have := HJ4.out; have := HK2.out; omega
         case rel => exact ⟨(x5_2 ++ (strOfNums y208)), (wrap64 (x6_2 - 1)), ea_, ea_, H', ⟨by have := HJ4.out; have := HK2.out; omega⟩, ⟨rkk HO_203001.out⟩, ⟨bkk BK195.out⟩, ⟨bkk BK202.out⟩, ⟨bel⟩⟩
        ·rw [if_neg c30] at H
         exact absurd H (by simp)
      ·rw [if_neg c19] at H
       have c19b0 : decide (0 ≤ x6_2) = false := decide_eq_false c19
       clear c19
       simp only [Option.some.injEq, Prod.mk.injEq] at H
       obtain ⟨rfl, rfl⟩ := H
       go_wp2
       go_ret2
       exact ⟨by first | rfl | (simp [errW_none, errW_some] <;> rfl) | (simp only [← hji16]; first | rfl | (simp [errW_none, errW_some] <;> rfl)) | (simp [*, errW_none, errW_some] <;> rfl), bel⟩
 ·replace c3 := Bool.eq_false_iff.mpr c3
  subst c3
  have H1 : (some ((⟨#[]⟩ : ByteArray), 1)) = some (r1, r2) := by rw [if_neg (show ¬ (false = true) by decide)] at H; exact H
  clear H
  have H := H1
  clear H1
  simp only [Option.some.injEq, Prod.mk.injEq] at H
  obtain ⟨rfl, rfl⟩ := H
  go_enter Tryd.func19, Tryd.ntmps19
  go_wp2_with (first | ((with_reducible refine gate_dst (N := 1) rfl ?_); refine box_event ?hg (N := 1) ?hd (cs := #[.int .i64 a0_0, .int .i64 a0_1]) (t := 23) ?hr ?_; (case hd => rfl); (case hg => rfl); (case hr => first | (go_simp; done) | (go_simp; rfl)); intro gb195 hg w36 hbox hb; have n0_ := Aside0.mk (below_step bel hb); have n1_ := Aside0.mk (hbox); have n2_ := Aside0.mk ((by rw [hg]; exact (below_size bel) : w.heap.size ≤ gb195)); have n3_ := Aside0.mk ((by rw [hg]; exact (below_size bel) : w.heap.size ≤ gb195)); clear HB; have HB := n0_; have BK195 := n1_; have GW195 := n2_; have GE195 := n3_; clear n0_ n1_ n2_ n3_; clear hb hbox hg; have hcz37_0 : w36.cell? ⟨gb195, 0, none⟩ = some (.int .i64 a0_0) := (blk_cell BK195.out 0).trans rfl; have hcz37_1 : w36.cell? ⟨gb195, 1, none⟩ = some (.int .i64 a0_1) := (blk_cell BK195.out 1).trans rfl; have hfz37_0 := blk_frozen BK195.out 0; have hfz37_1 := blk_frozen BK195.out 1) | ((with_reducible refine gate_callee (f := 25) rfl ?_); refine goesL_ (some 8) rfl rfl Tryd.func25 (by kernel_rfl) rfl #[.agg #[.int .i64 a0_0, .int .i64 a0_1]] rfl gl_ ?_; (with_reducible refine (erasureref01_Right.calls a0_0 a0_1 false _ A2.out).mono ?_); rintro e w38 ⟨rfl, hb⟩; refine ⟨_, rfl, ?_⟩; have n0_ := Aside0.mk (blk_below (bkk BK195.out) hb); have n1_ := Aside0.mk (below_step bel hb); clear BK195; clear HB; have BK195 := n0_; have HB := n1_; clear n0_ n1_; (try clear hb); (try clear hb2); (try clear hk); (try clear hi)))
  go_ret2
  exact ⟨by first | rfl | (simp [errW_none, errW_some] <;> rfl) | (simp [*, errW_none, errW_some] <;> rfl), bel⟩
def erasureref01_lift.l0 : Nat → Int → Bool → List Int → Int → Bool → List Int → Int → Option (Bool × List Int × Int)
 | 0, _, _, _, _, _, _, _ => none
 | k + 1, x1, x226000, x226001, x226002, x228000, x228001, x228002 => if x228002 < x1 then (if x228001.length < 17592186044416 then (erasureref01_lift.l0 k x1 x226000 x226001 x226002 x228000 (x228001 ++ [0]) (wrap64 (x228002 + 1))) else (none)) else (if x228001.length + x226001.length < 17592186044416 then (some (x228000, (x228001 ++ x226001), x228002)) else (none))
def erasureref01_lift.f (k : Nat) (a0_0 : Bool) (l0_1 : List Int) (a0_2 : Int) (a1 : Int) : Option (Bool × List Int × Int) := erasureref01_lift.l0 k a1 a0_0 l0_1 a0_2 a0_0 ([] : List Int) a0_2
theorem erasureref01_lift.mono_l : ∀ k, (∀ y0 y1 y2 y3 y4 y5 y6, LeO (erasureref01_lift.l0 k y0 y1 y2 y3 y4 y5 y6) (erasureref01_lift.l0 (k + 1) y0 y1 y2 y3 y4 y5 y6))
 | 0 => fun _ _ _ _ _ _ _ r h => by simp [erasureref01_lift.l0] at h
 | k + 1 => by
  have ih0 := erasureref01_lift.mono_l k
  ·intro y0 y1 y2 y3 y4 y5 y6
   unfold erasureref01_lift.l0
   repeat' first
   | (with_reducible exact ih0 _ _ _ _ _ _ _)
   | (with_reducible exact LeO.refl _)
   | (with_reducible exact LeO.none _)
   | (with_reducible refine LeO.ite ?_ ?_)
   | (with_reducible refine LeO.bind ?_ (fun _ => ?_))
   | exact ih0 _ _ _ _ _ _ _
   | exact LeO.none _
   | refine LeO.ite ?_ ?_
   | refine LeO.bind ?_ (fun _ => ?_)
theorem erasureref01_lift.mono : ∀ a0 a1 a2 a3 k, LeO (erasureref01_lift.f k a0 a1 a2 a3) (erasureref01_lift.f (k + 1) a0 a1 a2 a3) := by
 intro a0 a1 a2 a3 k
 have ih0 := erasureref01_lift.mono_l k
 unfold erasureref01_lift.f
 repeat' first
   | (with_reducible exact ih0 _ _ _ _ _ _ _)
   | (with_reducible exact LeO.refl _)
   | (with_reducible exact LeO.none _)
   | (with_reducible refine LeO.ite ?_ ?_)
   | (with_reducible refine LeO.bind ?_ (fun _ => ?_))
   | exact ih0 _ _ _ _ _ _ _
   | exact LeO.none _
   | refine LeO.ite ?_ ?_
   | refine LeO.bind ?_ (fun _ => ?_)
set_option maxHeartbeats 8000000 in
set_option maxRecDepth 100000 in
theorem erasureref01_lift.calls (k : Nat) (a0_0 : Bool) (A0_1 : Option Addr) (c0_1 : Nat) (l0_1 : List Int) (a0_2 : Int) (a1 : Int) (r1 : Bool) (r2 : List Int) (r3 : Int) (w : World) (hr0_1 : Kd.C (Kd.int .i64) w A0_1 l0_1.length l0_1) (hc0_1 : l0_1.length ≤ c0_1) (h : erasureref01_lift.f k a0_0 l0_1 a0_2 a1 = some (r1, r2, r3)) :
  Calls Tryd.prog 43 #[.agg #[.bool a0_0, .slice A0_1 l0_1.length c0_1, .int .i64 a0_2], .int .i64 a1] w fun e w' => ∃ v1_ : Value, e = .returned (.agg #[.bool r1, v1_, .int .i64 r3]) ∧ Kd.R (Kd.int .i64) 3 w' w.heap.size (fun _ => True) v1_ r2 ∧ Below w.heap.size w w' := by
 have hu61 := Tryd.underlying61
 have HR0_1 := Aside0.mk hr0_1
 have HC0_1 := Aside0.mk hc0_1
 clear hr0_1 hc0_1
 have HB := Aside0.mk (Below.refl w.heap.size w)
 have H : (erasureref01_lift.l0 k a1 a0_0 l0_1 a0_2 a0_0 ([] : List Int) a0_2) = some (r1, r2, r3) := h
 clear h
 have H' := Aside0.mk H
 clear H
 go_enter Tryd.func43, Tryd.ntmps43
 go_wp2_with (first | ((with_reducible refine gate_dst (N := 2) rfl ?_); refine box_event ?hg (N := 2) ?hd (cs := #[.bool a0_0, .slice A0_1 l0_1.length c0_1, .int .i64 a0_2]) (t := 61) ?hr ?_; (case hd => rfl); (case hg => rfl); (case hr => first | (go_simp; done) | (go_simp; rfl)); intro gb225 hg w3 hbox hb; have n0_ := Aside0.mk (below_step bel hb); have n1_ := Aside0.mk (hbox); have n2_ := Aside0.mk ((by rw [hg]; exact (below_size bel) : w.heap.size ≤ gb225)); have n3_ := Aside0.mk ((by rw [hg]; exact (below_size bel) : w.heap.size ≤ gb225)); clear HB; have HB := n0_; have BK225 := n1_; have GW225 := n2_; have GE225 := n3_; clear n0_ n1_ n2_ n3_; clear hb hbox hg) | ((with_reducible refine gate_dst (N := 4) rfl ?_); refine box_event ?hg (N := 4) ?hd (cs := #[.bool false, .slice none 0 0, .int .i64 0]) (t := 61) ?hr ?_; (case hd => rfl); (case hg => rfl); (case hr => first | (go_simp; done) | (go_simp; rfl)); intro gb226 hg w4 hbox hb; have n0_ := Aside0.mk (blk_below (bkk BK225.out) hb); have n1_ := Aside0.mk (below_step bel hb); have n2_ := Aside0.mk (hbox); have n3_ := Aside0.mk ((by rw [hg]; exact (below_size bel) : w.heap.size ≤ gb226)); have n4_ := Aside0.mk ((by rw [hg]; exact (below_size bel) : w.heap.size ≤ gb226)); have n5_ := Aside0.mk ((by rw [hg]; exact Nat.ne_of_lt (blk_lt (g := gb225) (o := .cells #[.bool a0_0, .slice A0_1 l0_1.length c0_1, .int .i64 a0_2] 61 (0, 0)) (bkk BK225.out)) : gb225 ≠ gb226)); have n6_ := Aside0.mk ((by rw [hg]; exact Nat.ne_of_gt (blk_lt (g := gb225) (o := .cells #[.bool a0_0, .slice A0_1 l0_1.length c0_1, .int .i64 a0_2] 61 (0, 0)) (bkk BK225.out)) : gb226 ≠ gb225)); clear BK225; clear HB; have BK225 := n0_; have HB := n1_; have BK226 := n2_; have GW226 := n3_; have GE226 := n4_; have NB225_226 := n5_; have NB226_225 := n6_; clear n0_ n1_ n2_ n3_ n4_ n5_ n6_; clear hb hbox hg; have hnb5 := NB225_226.out; have hnc5 := NB226_225.out; have hcz6_0 : w4.cell? ⟨gb225, 0, none⟩ = some (.bool a0_0) := (blk_cell BK225.out 0).trans rfl; have hcz6_1 : w4.cell? ⟨gb225, 1, none⟩ = some (.slice A0_1 l0_1.length c0_1) := (blk_cell BK225.out 1).trans rfl; have hcz6_2 : w4.cell? ⟨gb225, 2, none⟩ = some (.int .i64 a0_2) := (blk_cell BK225.out 2).trans rfl; have hfz6_0 := blk_frozen BK225.out 0; have hfz6_1 := blk_frozen BK225.out 1; have hfz6_2 := blk_frozen BK225.out 2) | ((with_reducible refine gate_dst (N := 5) rfl ?_); refine box_event ?hg (N := 5) ?hd (cs := #[.bool false, .slice none 0 0, .int .i64 0]) (t := 61) ?hr ?_; (case hd => rfl); (case hg => rfl); (case hr => first | (go_simp; done) | (go_simp; rfl)); intro gb227 hg w7 hbox hb; have n0_ := Aside0.mk (blk_below (bkk BK225.out) hb); have n1_ := Aside0.mk (blk_below (bkk BK226.out) hb); have n2_ := Aside0.mk (below_step bel hb); have n3_ := Aside0.mk (hbox); have n4_ := Aside0.mk ((by rw [hg]; exact (below_size bel) : w.heap.size ≤ gb227)); have n5_ := Aside0.mk ((by rw [hg]; exact (below_size bel) : w.heap.size ≤ gb227)); have n6_ := Aside0.mk ((by rw [hg]; exact Nat.ne_of_lt (blk_lt (g := gb225) (o := .cells #[.bool a0_0, .slice A0_1 l0_1.length c0_1, .int .i64 a0_2] 61 (0, 0)) (bkk BK225.out)) : gb225 ≠ gb227)); have n7_ := Aside0.mk ((by rw [hg]; exact Nat.ne_of_gt (blk_lt (g := gb225) (o := .cells #[.bool a0_0, .slice A0_1 l0_1.length c0_1, .int .i64 a0_2] 61 (0, 0)) (bkk BK225.out)) : gb227 ≠ gb225)); have n8_ := Aside0.mk ((by rw [hg]; exact Nat.ne_of_lt (blk_lt (g := gb226) (o := .cells #[.bool false, .slice none 0 0, .int .i64 0] 61 (0, 0)) (bkk BK226.out)) : gb226 ≠ gb227)); have n9_ := Aside0.mk ((by rw [hg]; exact Nat.ne_of_gt (blk_lt (g := gb226) (o := .cells #[.bool false, .slice none 0 0, .int .i64 0] 61 (0, 0)) (bkk BK226.out)) : gb227 ≠ gb226)); clear BK225; clear BK226; clear HB; have BK225 := n0_; have BK226 := n1_; have HB := n2_; have BK227 := n3_; have GW227 := n4_; have GE227 := n5_; have NB225_227 := n6_; have NB227_225 := n7_; have NB226_227 := n8_; have NB227_226 := n9_; clear n0_ n1_ n2_ n3_ n4_ n5_ n6_ n7_ n8_ n9_; clear hb hbox hg; have hnb8 := NB227_225.out; have hnc8 := NB225_227.out; have hnb9 := NB227_226.out; have hnc9 := NB226_227.out; have hcz10_0 : w7.cell? ⟨gb227, 0, none⟩ = some (.bool false) := (blk_cell BK227.out 0).trans rfl; have hcz10_1 : w7.cell? ⟨gb227, 1, none⟩ = some (.slice none 0 0) := (blk_cell BK227.out 1).trans rfl; have hcz10_2 : w7.cell? ⟨gb227, 2, none⟩ = some (.int .i64 0) := (blk_cell BK227.out 2).trans rfl; have hfz10_0 := blk_frozen BK227.out 0; have hfz10_1 := blk_frozen BK227.out 1; have hfz10_2 := blk_frozen BK227.out 2))
 go_loopg [] k (fun kq w' => ∃ (x228001_1 : List Int) (x228002_1 : Int) (u228001 : Value), Aside0 (erasureref01_lift.l0 kq a1 a0_0 l0_1 a0_2 a0_0 x228001_1 x228002_1 = some (r1, r2, r3)) ∧ Aside0 (kq ≤ k) ∧ Aside0 (Kd.R (Kd.int .i64) 3 w' w.heap.size (fun _ => True) u228001 x228001_1) ∧ Aside0 (w'.heap[gb225]? = some (.cells #[.bool a0_0, (.slice A0_1 l0_1.length c0_1), .int .i64 a0_2] 61 (0, 0))) ∧ Aside0 (w'.heap[gb226]? = some (.cells #[.bool false, (.slice none 0 0), .int .i64 0] 61 (0, 0))) ∧ Aside0 (w'.heap[gb227]? = some (.cells #[.bool a0_0, u228001, .int .i64 x228002_1] 61 (0, 0))) ∧ Aside0 (Below w.heap.size w w'))
 case atStart => exact ⟨(([] : List Int)), (a0_2), (.slice none 0 0), H', ⟨Nat.le_refl _⟩, ⟨by first | exact Kd.R_nil _ _ _ _ _ | exact Kd.N_nil _ _ _ _ _ | exact Kd.V_nil _ _ _ _ _ | exact Kd.Q_nil _ _ _ _ _ | exact Kd.S_nil _ _ _ _ _⟩, ⟨blks⟩, ⟨blks⟩, ⟨by (with_reducible repeat (first | refine blk_drewN ?_ _ | refine blk_drew ?_ | refine blk_alloc ?_ _)); refine blk_put (cs := #[.bool a0_0, .slice none 0 0, .int .i64 0]) ?_ 2 _ rfl; (with_reducible repeat (first | refine blk_drewN ?_ _ | refine blk_drew ?_ | refine blk_alloc ?_ _)); refine blk_put (cs := #[.bool a0_0, .slice none 0 0, .int .i64 0]) ?_ 1 _ rfl; (with_reducible repeat (first | refine blk_drewN ?_ _ | refine blk_drew ?_ | refine blk_alloc ?_ _)); refine blk_put (cs := #[.bool false, .slice none 0 0, .int .i64 0]) ?_ 0 _ rfl; (with_reducible repeat (first | refine blk_drewN ?_ _ | refine blk_drew ?_ | refine blk_alloc ?_ _)); exact BK227.out⟩, ⟨bel⟩⟩
 case round =>
  clear H'
  try clear p2
  try clear c4
  try clear c5
  try clear c8
  try clear c9
  try clear hcz10_0
  try clear hcz10_1
  try clear hcz10_2
  try clear hcz6_0
  try clear hcz6_1
  try clear hcz6_2
  try clear hfz10_0
  try clear hfz10_1
  try clear hfz10_2
  try clear hfz6_0
  try clear hfz6_1
  try clear hfz6_2
  obtain ⟨x228001_1, x228002_1, u228001, HA, HK1, HO_228001, BK225, BK226, BK227, HB⟩ := hrel
  cases gk with
  | zero => exact absurd HA.out (by simp [erasureref01_lift.l0])
  | succ k1 =>
   have H := HA.out
   clear HA
   simp only [erasureref01_lift.l0] at H
   by_cases c11 : x228002_1 < a1
   ·rw [if_pos c11] at H
    have c11b0 : decide (x228002_1 < a1) = true := decide_eq_true c11
    clear c11
    by_cases c12 : x228001_1.length < 17592186044416
    ·rw [if_pos c12] at H
     have LMc12 := Aside0.mk c12
     clear c12
     obtain ⟨y228, hy228⟩ : ∃ y_ : List Int, y_ = (x228001_1 ++ [0]) := ⟨_, rfl⟩
     replace H : (erasureref01_lift.l0 k1 a1 a0_0 l0_1 a0_2 a0_0 y228 (wrap64 (x228002_1 + 1))) = some (r1, r2, r3) := by first | (rw [hy228]; with_reducible exact H) | (have H2_ := (Option.bind_some _ _).symm.trans H; rw [hy228]; with_reducible exact H2_) | (have H2_ := (Option.bind_some _ _).symm.trans H; with_reducible exact H2_) | with_reducible exact H | (rw [hy228]; exact H) | exact H
     have Ny228 := Aside0.mk hy228
     clear hy228
     have H' := Aside0.mk H
     clear H
     have hnb13 := NB227_225.out
     have hnc13 := NB225_227.out
     have hnb14 := NB227_226.out
     have hnc14 := NB226_227.out
     have hcz15_0 : wr.cell? ⟨gb227, 0, none⟩ = some (.bool a0_0) := (blk_cell BK227.out 0).trans rfl
     have hcz15_1 : wr.cell? ⟨gb227, 1, none⟩ = some (u228001) := (blk_cell BK227.out 1).trans rfl
     have hcz15_2 : wr.cell? ⟨gb227, 2, none⟩ = some (.int .i64 x228002_1) := (blk_cell BK227.out 2).trans rfl
     have hfz15_0 := blk_frozen BK227.out 0
     have hfz15_1 := blk_frozen BK227.out 1
     have hfz15_2 := blk_frozen BK227.out 2
     go_wp2_with (first | ((with_reducible refine gate_builtin (b := .append) (xs := #[.tmp 16, .tmp 17]) rfl ?_); at_builtin; refine Kd.R_append (Kd.int .i64) (w0 := w) w.heap.size rfl (.tmp 16) (.tmp 17) 59 3 (.int .i64 0) 8 rfl Tryd.underlying59 info3 rfl (by decide) (by omega) u228001 x228001_1 0 [.int .i64 0] (fun _ => True) (fun _ => False) rfl rfl ?aP (fun _ hk => hk.elim) ?aF ?aO ?aB ?aS ?aL ?_; (case aP => exact rfl); (case aB => exact bel); (case aF => exact (fun _ _ => trivial)); (case aO => exact (rkk HO_228001.out)); (case aS => exact (below_size bel)); (case aL => have := LMc12.out; omega); intro v229 w16 ho hb hg hat; rw [← Ny228.out] at ho; have n0_ := Aside0.mk (blk_grown (bkk BK225.out) hg (Kd.R_ne HO_228001.out BK225.out (by decide))); have n1_ := Aside0.mk (blk_grown (bkk BK226.out) hg (Kd.R_ne HO_228001.out BK226.out (by decide))); have n2_ := Aside0.mk (blk_grown (bkk BK227.out) hg (Kd.R_ne HO_228001.out BK227.out (by decide))); have n3_ := Aside0.mk (hb); have n4_ := Aside0.mk (ho); clear BK225; clear BK226; clear BK227; clear HB; clear HO_228001; have BK225 := n0_; have BK226 := n1_; have BK227 := n2_; have HB := n3_; have HO230 := n4_; clear n0_ n1_ n2_ n3_ n4_; clear ho hb hg hat; obtain ⟨Ao17, co17, eo17⟩ := Kd.R_slice HO230.out; subst eo17; have hcz18_0 : w16.cell? ⟨gb227, 0, none⟩ = some (.bool a0_0) := (blk_cell BK227.out 0).trans rfl; have hcz18_1 : w16.cell? ⟨gb227, 1, none⟩ = some (u228001) := (blk_cell BK227.out 1).trans rfl; have hcz18_2 : w16.cell? ⟨gb227, 2, none⟩ = some (.int .i64 x228002_1) := (blk_cell BK227.out 2).trans rfl; have hfz18_0 := blk_frozen BK227.out 0; have hfz18_1 := blk_frozen BK227.out 1; have hfz18_2 := blk_frozen BK227.out 2))
     go_roundg k1
     case measure => have := HK1.out; omega
     case rel => exact ⟨(y228), (wrap64 (x228002_1 + 1)), (.slice Ao17 y228.length co17), H', ⟨by have := HK1.out; omega⟩, ⟨by (with_reducible repeat (first | apply Kd.R_alloc | apply Kd.R_drewN | apply Kd.R_drew)); exact Kd.R_mono (Kd.R_far (p := ⟨gb227, 2, none⟩) (Kd.R_far (p := ⟨gb227, 1, none⟩) (Kd.R_types HO230.out BK227.out (by decide)) (fun _ hk => hk.2) (.slice Ao17 y228.length co17)) (fun _ hk => hk.2) (.int .i64 (wrap64 (x228002_1 + 1)))) (fun _ hk => trivial)⟩, ⟨blks⟩, ⟨blks⟩, ⟨by (with_reducible repeat (first | refine blk_drewN ?_ _ | refine blk_drew ?_ | refine blk_alloc ?_ _)); refine blk_put (cs := #[.bool a0_0, .slice Ao17 y228.length co17, .int .i64 x228002_1]) ?_ 2 _ rfl; (with_reducible repeat (first | refine blk_drewN ?_ _ | refine blk_drew ?_ | refine blk_alloc ?_ _)); refine blk_put (cs := #[.bool a0_0, u228001, .int .i64 x228002_1]) ?_ 1 _ rfl; (with_reducible repeat (first | refine blk_drewN ?_ _ | refine blk_drew ?_ | refine blk_alloc ?_ _)); exact BK227.out⟩, ⟨bel⟩⟩
    ·rw [if_neg c12] at H
     exact absurd H (by simp)
   ·rw [if_neg c11] at H
    have c11b0 : decide (x228002_1 < a1) = false := decide_eq_false c11
    clear c11
    by_cases c19 : x228001_1.length + l0_1.length < 17592186044416
    ·rw [if_pos c19] at H
     have LMc19 := Aside0.mk c19
     clear c19
     obtain ⟨y231, hy231⟩ : ∃ y_ : List Int, y_ = (x228001_1 ++ l0_1) := ⟨_, rfl⟩
     replace H : (some (a0_0, y231, x228002_1)) = some (r1, r2, r3) := by first | (rw [hy231]; with_reducible exact H) | (have H2_ := (Option.bind_some _ _).symm.trans H; rw [hy231]; with_reducible exact H2_) | (have H2_ := (Option.bind_some _ _).symm.trans H; with_reducible exact H2_) | with_reducible exact H | (rw [hy231]; exact H) | exact H
     have Ny231 := Aside0.mk hy231
     clear hy231
     simp only [Option.some.injEq, Prod.mk.injEq] at H
     obtain ⟨rfl, rfl, rfl⟩ := H
     have hnb20 := NB227_225.out
     have hnc20 := NB225_227.out
     have hnb21 := NB227_226.out
     have hnc21 := NB226_227.out
     have hcz22_0 : wr.cell? ⟨gb227, 0, none⟩ = some (.bool a0_0) := (blk_cell BK227.out 0).trans rfl
     have hcz22_1 : wr.cell? ⟨gb227, 1, none⟩ = some (u228001) := (blk_cell BK227.out 1).trans rfl
     have hcz22_2 : wr.cell? ⟨gb227, 2, none⟩ = some (.int .i64 x228002_1) := (blk_cell BK227.out 2).trans rfl
     have hfz22_0 := blk_frozen BK227.out 0
     have hfz22_1 := blk_frozen BK227.out 1
     have hfz22_2 := blk_frozen BK227.out 2
     have hnb23 := NB225_226.out
     have hnc23 := NB226_225.out
     have hcz24_0 : wr.cell? ⟨gb225, 0, none⟩ = some (.bool a0_0) := (blk_cell BK225.out 0).trans rfl
     have hcz24_1 : wr.cell? ⟨gb225, 1, none⟩ = some (.slice A0_1 l0_1.length c0_1) := (blk_cell BK225.out 1).trans rfl
     have hcz24_2 : wr.cell? ⟨gb225, 2, none⟩ = some (.int .i64 a0_2) := (blk_cell BK225.out 2).trans rfl
     have hfz24_0 := blk_frozen BK225.out 0
     have hfz24_1 := blk_frozen BK225.out 1
     have hfz24_2 := blk_frozen BK225.out 2
     go_wp2_with (first | ((with_reducible refine gate_builtin (b := .append) (xs := #[.tmp 25, .tmp 27]) rfl ?_); at_builtin; refine Kd.R_append_rows (Kd.int .i64) (w0 := w) w.heap.size rfl (.tmp 25) (.tmp 27) 59 3 (.int .i64 0) 8 rfl Tryd.underlying59 info3 rfl (by decide) (by omega) u228001 x228001_1 l0_1 _ _ _ (fun _ => True) (fun _ => False) rfl rfl ?aO ?aR (fun _ _ h => h) (fun _ h => h.elim) ?aF ?aB ?aS ?aL ?_; (case aR => repeat (first | exact (Kd.C_below HR0_1.out HB.out) | (with_reducible refine Kd.C_alloc ?_ _) | (with_reducible refine Kd.C_drewN ?_ _) | (with_reducible refine Kd.C_drew ?_))); (case aB => exact bel); (case aF => exact (fun _ _ => trivial)); (case aO => exact (rkk HO_228001.out)); (case aS => exact (below_size bel)); (case aL => have := LMc19.out; omega); intro v232 w25 ho hb hg hat; rw [← Ny231.out] at ho; have n0_ := Aside0.mk (blk_grown (bkk BK225.out) hg (Kd.R_ne HO_228001.out BK225.out (by decide))); have n1_ := Aside0.mk (blk_grown (bkk BK226.out) hg (Kd.R_ne HO_228001.out BK226.out (by decide))); have n2_ := Aside0.mk (blk_grown (bkk BK227.out) hg (Kd.R_ne HO_228001.out BK227.out (by decide))); have n3_ := Aside0.mk (hb); have n4_ := Aside0.mk (ho); clear BK225; clear BK226; clear BK227; clear HB; clear HO_228001; have BK225 := n0_; have BK226 := n1_; have BK227 := n2_; have HB := n3_; have HO233 := n4_; clear n0_ n1_ n2_ n3_ n4_; clear ho hb hg hat; obtain ⟨Ao26, co26, eo26⟩ := Kd.R_slice HO233.out; subst eo26; have hcz27_0 : w25.cell? ⟨gb227, 0, none⟩ = some (.bool a0_0) := (blk_cell BK227.out 0).trans rfl; have hcz27_1 : w25.cell? ⟨gb227, 1, none⟩ = some (u228001) := (blk_cell BK227.out 1).trans rfl; have hcz27_2 : w25.cell? ⟨gb227, 2, none⟩ = some (.int .i64 x228002_1) := (blk_cell BK227.out 2).trans rfl; have hfz27_0 := blk_frozen BK227.out 0; have hfz27_1 := blk_frozen BK227.out 1; have hfz27_2 := blk_frozen BK227.out 2; have hcz28_0 : w25.cell? ⟨gb226, 0, none⟩ = some (.bool false) := (blk_cell BK226.out 0).trans rfl; have hcz28_1 : w25.cell? ⟨gb226, 1, none⟩ = some (.slice none 0 0) := (blk_cell BK226.out 1).trans rfl; have hcz28_2 : w25.cell? ⟨gb226, 2, none⟩ = some (.int .i64 0) := (blk_cell BK226.out 2).trans rfl; have hfz28_0 := blk_frozen BK226.out 0; have hfz28_1 := blk_frozen BK226.out 1; have hfz28_2 := blk_frozen BK226.out 2))
     refine bodyPost_ret (results_cell_row rfl _ _ gb226 61 #[.bool a0_0, .slice Ao26 y231.length co26, .int .i64 x228002_1] (0, 0) _ rfl (by (with_reducible repeat (first | refine blk_drewN ?_ _ | refine blk_drew ?_ | refine blk_alloc ?_ _)); refine blk_put (cs := #[.bool a0_0, .slice Ao26 y231.length co26, .int .i64 0]) ?_ 2 _ rfl; (with_reducible repeat (first | refine blk_drewN ?_ _ | refine blk_drew ?_ | refine blk_alloc ?_ _)); refine blk_put (cs := #[.bool a0_0, .slice none 0 0, .int .i64 0]) ?_ 1 _ rfl; (with_reducible repeat (first | refine blk_drewN ?_ _ | refine blk_drew ?_ | refine blk_alloc ?_ _)); refine blk_put (cs := #[.bool false, .slice none 0 0, .int .i64 0]) ?_ 0 _ rfl; (with_reducible repeat (first | refine blk_drewN ?_ _ | refine blk_drew ?_ | refine blk_alloc ?_ _)); refine blk_far ?_ NB226_227.out _; (with_reducible repeat (first | refine blk_drewN ?_ _ | refine blk_drew ?_ | refine blk_alloc ?_ _)); exact BK226.out) Tryd.underlying61 rfl (by kernel_rfl)) rfl ?_
     exact ⟨_, by first | rfl | (simp [errW_none, errW_some] <;> rfl) | (simp [*, errW_none, errW_some] <;> rfl), by (with_reducible repeat (first | apply Kd.R_alloc | apply Kd.R_drewN | apply Kd.R_drew)); exact Kd.R_mono (Kd.R_far (p := ⟨gb226, 2, none⟩) (Kd.R_far (p := ⟨gb226, 1, none⟩) (Kd.R_far (p := ⟨gb226, 0, none⟩) (Kd.R_far (p := ⟨gb227, 1, none⟩) (Kd.R_types (Kd.R_types HO233.out BK227.out (by decide)) BK226.out (by decide)) (fun _ hk => hk.1.2) (.slice Ao26 y231.length co26)) (fun _ hk => hk.2) (.bool a0_0)) (fun _ hk => hk.2) (.slice Ao26 y231.length co26)) (fun _ hk => hk.2) (.int .i64 x228002_1)) (fun _ hk => trivial), bel⟩
    ·rw [if_neg c19] at H
     exact absurd H (by simp)
def erasureref01_less.l0 : Nat → List Int → List Int → Int → Option (Bool)
 | 0, _, _, _ => none
 | k + 1, x0, x1, x5 => if x5 ≥ 0 then ((erasureref01_digit.f x0 x5).bind fun t234 => ((erasureref01_digit.f x1 x5).bind fun t235 => (if t234 = t235 then (erasureref01_less.l0 k x0 x1 (wrap64 (x5 - 1))) else ((erasureref01_digit.f x0 x5).bind fun t236 => ((erasureref01_digit.f x1 x5).bind fun t237 => (some (decide (t236 < t237)))))))) else (some false)
def erasureref01_less.f (k : Nat) (l0 : List Int) (l1 : List Int) : Option (Bool) := erasureref01_less.l0 k l0 l1 (wrap64 ((mx (l0.length : Int) (l1.length : Int)) - 1))
theorem erasureref01_less.mono_l : ∀ k, (∀ y0 y1 y2, LeO (erasureref01_less.l0 k y0 y1 y2) (erasureref01_less.l0 (k + 1) y0 y1 y2))
 | 0 => fun _ _ _ r h => by simp [erasureref01_less.l0] at h
 | k + 1 => by
  have ih0 := erasureref01_less.mono_l k
  ·intro y0 y1 y2
   unfold erasureref01_less.l0
   repeat' first
   | (with_reducible exact ih0 _ _ _)
   | (with_reducible exact LeO.refl _)
   | (with_reducible exact LeO.none _)
   | (with_reducible refine LeO.ite ?_ ?_)
   | (with_reducible refine LeO.bind ?_ (fun _ => ?_))
   | exact ih0 _ _ _
   | exact LeO.none _
   | refine LeO.ite ?_ ?_
   | refine LeO.bind ?_ (fun _ => ?_)
theorem erasureref01_less.mono : ∀ a0 a1 k, LeO (erasureref01_less.f k a0 a1) (erasureref01_less.f (k + 1) a0 a1) := by
 intro a0 a1 k
 have ih0 := erasureref01_less.mono_l k
 unfold erasureref01_less.f
 repeat' first
   | (with_reducible exact ih0 _ _ _)
   | (with_reducible exact LeO.refl _)
   | (with_reducible exact LeO.none _)
   | (with_reducible refine LeO.ite ?_ ?_)
   | (with_reducible refine LeO.bind ?_ (fun _ => ?_))
   | exact ih0 _ _ _
   | exact LeO.none _
   | refine LeO.ite ?_ ?_
   | refine LeO.bind ?_ (fun _ => ?_)
set_option maxHeartbeats 8000000 in
set_option maxRecDepth 100000 in
theorem erasureref01_less.calls (k : Nat) (A0 : Option Addr) (c0 : Nat) (l0 : List Int) (A1 : Option Addr) (c1 : Nat) (l1 : List Int) (r : Bool) (w : World) (hr0 : Kd.C (Kd.int .i64) w A0 l0.length l0) (hc0 : l0.length ≤ c0) (hr1 : Kd.C (Kd.int .i64) w A1 l1.length l1) (hc1 : l1.length ≤ c1) (h : erasureref01_less.f k l0 l1 = some r) :
  Calls Tryd.prog 44 #[.slice A0 l0.length c0, .slice A1 l1.length c1] w fun e w' => e = .returned (.bool r) ∧ Below w.heap.size w w' := by
 have HR0 := Aside0.mk hr0
 have HC0 := Aside0.mk hc0
 clear hr0 hc0
 have HR1 := Aside0.mk hr1
 have HC1 := Aside0.mk hc1
 clear hr1 hc1
 have HB := Aside0.mk (Below.refl w.heap.size w)
 have H : (erasureref01_less.l0 k l0 l1 (wrap64 ((mx (l0.length : Int) (l1.length : Int)) - 1))) = some r := h
 clear h
 obtain ⟨ji3, hji3⟩ : ∃ j_ : Int, (mx (l0.length : Int) (l1.length : Int)) = j_ := ⟨_, rfl⟩
 replace H : (erasureref01_less.l0 k l0 l1 (wrap64 ((ji3) - 1))) = some r := by first | (rw [hji3] at H; exact H) | (simp only [hji3] at H ⊢; exact H)
 (try (have hji3l : 0 ≤ ji3 := by (rw [← hji3]; unfold mx; (repeat' split) <;> omega)))
 (try (have hji3m : 0 ≤ ji3 := by omega))
 have hji3_ : (if (l0.length : Int) < (l1.length : Int) then (l1.length : Int) else (l0.length : Int)) = ji3 := hji3
 have H' := Aside0.mk H
 clear H
 go_enter Tryd.func44, Tryd.ntmps44
 go_wp2
 all_goals
   go_loopg [5] k (fun kq v5 w' => ∃ (x5_1 : Int), v5 = .int .i64 x5_1 ∧ Aside0 (erasureref01_less.l0 kq l0 l1 x5_1 = some r) ∧ Aside0 (kq ≤ k) ∧ Aside0 (Below w.heap.size w w'))
   case atStart => exact ⟨(wrap64 ((ji3) - 1)), (by first | rfl | (rw [← hji3_]; simp [*]; done) | (simp; done) | (simp only [← hji3] <;> (first | rfl | simp)) | (simp [*]; done)), H', ⟨Nat.le_refl _⟩, ⟨bel⟩⟩
   case round =>
    clear H'
    try clear c1
    try clear p2
    obtain ⟨x5_1, rfl, HA, HK1, HB⟩ := hrel
    cases gk with
    | zero => exact absurd HA.out (by simp [erasureref01_less.l0])
    | succ k1 =>
     have H := HA.out
     clear HA
     simp only [erasureref01_less.l0] at H
     by_cases c4 : x5_1 ≥ 0
     ·rw [if_pos c4] at H
      have c4b0 : decide (0 ≤ x5_1) = true := decide_eq_true c4
      clear c4
      replace H := Option.bind_eq_some_iff.mp H
      obtain ⟨t234, A50, H⟩ := H
      replace H : ((erasureref01_digit.f l1 x5_1).bind fun t235 => (if t234 = t235 then (erasureref01_less.l0 k1 l0 l1 (wrap64 (x5_1 - 1))) else ((erasureref01_digit.f l0 x5_1).bind fun t236 => ((erasureref01_digit.f l1 x5_1).bind fun t237 => (some (decide (t236 < t237))))))) = some r := H
      have A5 := Aside0.mk A50
      clear A50
      replace H := Option.bind_eq_some_iff.mp H
      obtain ⟨t235, A60, H⟩ := H
      replace H : (if t234 = t235 then (erasureref01_less.l0 k1 l0 l1 (wrap64 (x5_1 - 1))) else ((erasureref01_digit.f l0 x5_1).bind fun t236 => ((erasureref01_digit.f l1 x5_1).bind fun t237 => (some (decide (t236 < t237)))))) = some r := H
      have A6 := Aside0.mk A60
      clear A60
      by_cases c7 : t234 = t235
      ·rw [if_pos c7] at H
       have c7b0 : (t234 == t235) = true := beq_iff_eq.mpr c7
       have c7b1 : (t234 != t235) = false := bne_eq_false_iff_eq.mpr c7
       clear c7
       have H' := Aside0.mk H
       clear H
       go_wp2_with (first | ((with_reducible refine gate_callee (f := 40) rfl ?_); refine goesL_ (some 18) rfl rfl Tryd.func40 (by kernel_rfl) rfl #[.slice A0 l0.length c0, .int .i64 x5_1] rfl gl_ ?_; (with_reducible refine (erasureref01_digit.calls _ _ l0 x5_1 t234 _ ?side1 ?side2 A5.out).mono ?_); (case side1 => repeat (first | exact (Kd.C_below HR0.out HB.out) | (with_reducible refine Kd.C_alloc ?_ _) | (with_reducible refine Kd.C_drewN ?_ _) | (with_reducible refine Kd.C_drew ?_))); (case side2 => exact HC0.out); rintro e w' ⟨rfl, ⟨nd, rfl⟩⟩; refine ⟨_, rfl, ?_⟩) | ((with_reducible refine gate_callee (f := 40) rfl ?_); refine goesL_ (some 21) rfl rfl Tryd.func40 (by kernel_rfl) rfl #[.slice A1 l1.length c1, .int .i64 x5_1] rfl gl_ ?_; (with_reducible refine (erasureref01_digit.calls _ _ l1 x5_1 t235 _ ?side1 ?side2 A6.out).mono ?_); (case side1 => repeat (first | exact (Kd.C_below HR1.out bel) | (with_reducible refine Kd.C_alloc ?_ _) | (with_reducible refine Kd.C_drewN ?_ _) | (with_reducible refine Kd.C_drew ?_))); (case side2 => exact HC1.out); rintro e w' ⟨rfl, ⟨nd, rfl⟩⟩; refine ⟨_, rfl, ?_⟩))
       go_roundg k1
       case measure => have := HK1.out; omega
       case rel => exact ⟨(wrap64 (x5_1 - 1)), ea_, H', ⟨by have := HK1.out; omega⟩, ⟨bel⟩⟩
      ·rw [if_neg c7] at H
       have c7b0 : (t234 == t235) = false := beq_eq_false_iff_ne.mpr c7
       have c7b1 : (t234 != t235) = true := bne_iff_ne.mpr c7
       replace H := Option.bind_eq_some_iff.mp H
       obtain ⟨t236, A80, H⟩ := H
       replace H : ((erasureref01_digit.f l1 x5_1).bind fun t237 => (some (decide (t236 < t237)))) = some r := H
       have A8 := Aside0.mk A80
       clear A80
       replace H := Option.bind_eq_some_iff.mp H
       obtain ⟨t237, A90, H⟩ := H
       replace H : (some (decide (t236 < t237))) = some r := H
       have A9 := Aside0.mk A90
       clear A90
       obtain rfl := Option.some.inj H
       go_wp2_with (first | ((with_reducible refine gate_callee (f := 40) rfl ?_); refine goesL_ (some 18) rfl rfl Tryd.func40 (by kernel_rfl) rfl #[.slice A0 l0.length c0, .int .i64 x5_1] rfl gl_ ?_; (with_reducible refine (erasureref01_digit.calls _ _ l0 x5_1 t234 _ ?side1 ?side2 A5.out).mono ?_); (case side1 => repeat (first | exact (Kd.C_below HR0.out HB.out) | (with_reducible refine Kd.C_alloc ?_ _) | (with_reducible refine Kd.C_drewN ?_ _) | (with_reducible refine Kd.C_drew ?_))); (case side2 => exact HC0.out); rintro e w' ⟨rfl, ⟨nd, rfl⟩⟩; refine ⟨_, rfl, ?_⟩) | ((with_reducible refine gate_callee (f := 40) rfl ?_); refine goesL_ (some 21) rfl rfl Tryd.func40 (by kernel_rfl) rfl #[.slice A1 l1.length c1, .int .i64 x5_1] rfl gl_ ?_; (with_reducible refine (erasureref01_digit.calls _ _ l1 x5_1 t235 _ ?side1 ?side2 A6.out).mono ?_); (case side1 => repeat (first | exact (Kd.C_below HR1.out bel) | (with_reducible refine Kd.C_alloc ?_ _) | (with_reducible refine Kd.C_drewN ?_ _) | (with_reducible refine Kd.C_drew ?_))); (case side2 => exact HC1.out); rintro e w' ⟨rfl, ⟨nd, rfl⟩⟩; refine ⟨_, rfl, ?_⟩) | ((with_reducible refine gate_callee (f := 40) rfl ?_); refine goesL_ (some 25) rfl rfl Tryd.func40 (by kernel_rfl) rfl #[.slice A0 l0.length c0, .int .i64 x5_1] rfl gl_ ?_; (with_reducible refine (erasureref01_digit.calls _ _ l0 x5_1 t236 _ ?side1 ?side2 A8.out).mono ?_); (case side1 => repeat (first | exact (Kd.C_below HR0.out bel) | (with_reducible refine Kd.C_alloc ?_ _) | (with_reducible refine Kd.C_drewN ?_ _) | (with_reducible refine Kd.C_drew ?_))); (case side2 => exact HC0.out); rintro e w' ⟨rfl, ⟨nd, rfl⟩⟩; refine ⟨_, rfl, ?_⟩) | ((with_reducible refine gate_callee (f := 40) rfl ?_); refine goesL_ (some 28) rfl rfl Tryd.func40 (by kernel_rfl) rfl #[.slice A1 l1.length c1, .int .i64 x5_1] rfl gl_ ?_; (with_reducible refine (erasureref01_digit.calls _ _ l1 x5_1 t237 _ ?side1 ?side2 A9.out).mono ?_); (case side1 => repeat (first | exact (Kd.C_below HR1.out bel) | (with_reducible refine Kd.C_alloc ?_ _) | (with_reducible refine Kd.C_drewN ?_ _) | (with_reducible refine Kd.C_drew ?_))); (case side2 => exact HC1.out); rintro e w' ⟨rfl, ⟨nd, rfl⟩⟩; refine ⟨_, rfl, ?_⟩))
       go_ret
       exact ⟨by first | rfl | (simp [errW_none, errW_some] <;> rfl) | (simp only [← hji3]; first | rfl | (simp [errW_none, errW_some] <;> rfl)) | (simp [*, errW_none, errW_some] <;> rfl), bel⟩
     ·rw [if_neg c4] at H
      have c4b0 : decide (0 ≤ x5_1) = false := decide_eq_false c4
      clear c4
      obtain rfl := Option.some.inj H
      go_wp2
      go_ret
      exact ⟨by first | rfl | (simp [errW_none, errW_some] <;> rfl) | (simp only [← hji3]; first | rfl | (simp [errW_none, errW_some] <;> rfl)) | (simp [*, errW_none, errW_some] <;> rfl), bel⟩
end Go.Proofs.YtdkckjiccpdkbaaDoor.G
