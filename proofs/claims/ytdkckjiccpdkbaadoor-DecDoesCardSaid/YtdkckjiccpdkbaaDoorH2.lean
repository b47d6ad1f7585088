/- erasurelaw01.awake: the document's examples. -/
import Derived.Test.YtdkckjiccpdkbaaDoorPlainDec
import Derived.Test.YtdkckjiccpdkbaaDoorH1
namespace Go.Proofs.YtdkckjiccpdkbaaDoor.H
open Go.RowKit Go.Proofs.YtdkckjiccpdkbaaDoor.A Go.Proofs.YtdkckjiccpdkbaaDoor.B Go.Proofs.YtdkckjiccpdkbaaDoorW.PrintWords Go.Proofs.YtdkckjiccpdkbaaDoorW.PrintLast Go.Proofs.YtdkckjiccpdkbaaDoorW.PrintMore
attribute [local go_sem] max2_int min2_int max_two min_two max_three min_three max_four min_four
set_option linter.unusedVariables false
set_option linter.unusedSimpArgs false
def erasurelaw01_awake.f : Option Bool := some true
open Go.Proofs.YtdkckjiccpdkbaaDoor.Plain in
theorem aw_parse1 : dec_Parse.f 50 (⟨#[45, 48, 48, 46, 53, 48]⟩ : ByteArray) = some (-5, 1, 0) := by
  have h : dec_Parse.f 50 (⟨#[45, 48, 48, 46, 53, 48]⟩ : ByteArray) = dec_tell.f 50 true 0 5 1 := by rfl
  have ht := tell_f true 1 5 50 (by decide) (by decide) (by decide)
  exact h.trans (ht.trans (by decide))
theorem aw_parse2 : dec_Parse.f 50 (⟨#[46]⟩ : ByteArray) = some (0, 0, 4) := by rfl
theorem aw_parse3 : dec_Parse.f 50 (⟨#[49, 46, 48, 48, 48, 48, 48, 48, 48, 48, 48, 49]⟩ : ByteArray) = some (0, 0, 5) := by rfl
open Go.Proofs.YtdkckjiccpdkbaaDoor.Plain in
theorem aw_add : dec_Add.f 50 5 1 5 1 = some (1, 0, 0) := (add_f 5 5 1 1 (by decide) (by decide) 50 (by decide)).trans (by decide)
open Go.Proofs.YtdkckjiccpdkbaaDoor.Plain in
theorem aw_mul : dec_Mul.f 50 1 5 1 5 = some (0, 0, 5) := (mul_f 1 1 5 5 (by decide) (by decide) 50 (by decide)).trans (by decide)
open Go.Proofs.YtdkckjiccpdkbaaDoor.Plain in
theorem aw_print : dec_Print.f 50 (-5) 1 = some (⟨#[45, 48, 46, 53]⟩, 0) := by
  unfold dec_Print.f
  rw [check_f, if_pos (by decide), Option.bind_some, if_pos rfl, size_f (-5) (by decide) (by decide), Option.bind_some]
  have h : strconv_FormatUint.f (((-5 : Int).natAbs : Nat) : Int) 10 = some ⟨#[53]⟩ := by
    show strconv_FormatUint.f 5 10 = _
    unfold strconv_FormatUint.f
    rw [if_pos (by decide), show ((5 : Int).toNat) = 5 from rfl, Lib.decDigits_one (by decide)]
    rfl
  have h2 : strings_Repeat.f (⟨#[48]⟩ : ByteArray) 1 = some ⟨#[48]⟩ := by decide
  rw [h, Option.bind_some, if_pos (by decide), show wrap64 (1 - ((⟨#[53]⟩ : ByteArray).size : Int)) = 0 from Go.Proofs.YtdkckjiccpdkbaaDoor.Plain.wrap_small _ (by decide) (by decide), show wrap64 (0 + 1) = 1 from Go.Proofs.YtdkckjiccpdkbaaDoor.Plain.wrap_small _ (by decide) (by decide), h2, Option.bind_some, if_pos (by decide)]
  have e : wrap64 ((((⟨#[48]⟩ : ByteArray) ++ ⟨#[53]⟩).size : Int) - 1) = 1 := Go.Proofs.YtdkckjiccpdkbaaDoor.Plain.wrap_small _ (by decide) (by decide)
  rw [dec_Print.j0, e]
  rfl
theorem tab_on {w w' : World} (h : Aside0 (Tab w)) (hB : Below w.heap.size w w') : Tab w' := Tab.below h.out hB
set_option maxRecDepth 100000 in
set_option maxHeartbeats 8000000 in
theorem erasurelaw01_awake.calls (r : Bool) (w : World) (hT : Tab w) (h : erasurelaw01_awake.f = some r) :
    Calls Tryd.prog 12 #[] w fun e w' => e = .returned (.bool r) ∧ Below w.heap.size w w' := by
  obtain rfl : true = r := Option.some.inj h
  clear h
  have HT := Aside0.mk hT
  clear hT
  have hu23 := Tryd.underlying23
  go_enter Tryd.func12, Tryd.ntmps12
  go_wp2_with fail
  refine (dec_Parse.calls 50 _ (-5) 1 0 _ aw_parse1).mono ?_
  rintro e w1 ⟨rfl, hB1⟩
  go_wp2_with fail
  have hT1 : Tab (w1.alloc (.cells #[.int .i64 (-5), .int .i64 1] 23)) := tab_on HT (below_alloc hB1 _)
  refine (dec_Print.calls 50 (-5) 1 ⟨#[45, 48, 46, 53]⟩ 0 _ hT1 aw_print).mono ?_
  clear hT1
  rintro e w2 ⟨rfl, hB2⟩
  have BK1 := blk_below (blk_new w1 _) hB2
  have HB2 : Below w.heap.size w w2 := below_step (below_alloc hB1 _) hB2
  have HZ2 : w1.heap.size < w2.heap.size := blk_lt BK1
  clear hB2
  go_wp2_with fail
  refine (dec_Parse.calls 50 _ 0 0 4 _ aw_parse2).mono ?_
  rintro e w3 ⟨rfl, hB3⟩
  replace BK1 := blk_below BK1 hB3
  have HB3 : Below w.heap.size w w3 := below_step HB2 hB3
  clear hB3 HB2 HZ2
  go_wp2_with fail
  refine (dec_Parse.calls 50 _ 0 0 5 _ aw_parse3).mono ?_
  rintro e w4 ⟨rfl, hB4⟩
  replace BK1 := blk_below (blk_alloc BK1 _) hB4
  have HB4 : Below w.heap.size w w4 := below_step (below_alloc HB3 _) hB4
  clear hB4 HB3
  go_wp2_with fail
  refine (dec_Add.calls 50 5 1 5 1 1 0 0 _ aw_add).mono ?_
  rintro e w5 ⟨rfl, hB5⟩
  replace BK1 := blk_below (blk_alloc (blk_alloc BK1 _) _) hB5
  have HB5 : Below w.heap.size w w5 := below_step (below_alloc (below_alloc HB4 _) _) hB5
  clear hB5 HB4
  go_wp2_with fail
  refine (dec_Mul.calls 50 1 5 1 5 0 0 5 _ aw_mul).mono ?_
  rintro e w6 ⟨rfl, hB6⟩
  have BK2 := blk_below (blk_alloc (blk_new w5 _) _) hB6
  replace BK1 := blk_below (blk_alloc (blk_alloc BK1 _) _) hB6
  have HB6 : Below w.heap.size w w6 := below_step (below_alloc (below_alloc HB5 _) _) hB6
  clear hB6 HB5
  have hc0 := (blk_cell BK1 0).trans rfl
  have hc1 := (blk_cell BK1 1).trans rfl
  have hd0 := (blk_cell BK2 0).trans rfl
  have hd1 := (blk_cell BK2 1).trans rfl
  have hb1 := blk_lt BK1
  have hb2 := blk_lt BK2
  go_wp2
  go_ret
  exact ⟨rfl, below_alloc HB6 _⟩
end Go.Proofs.YtdkckjiccpdkbaaDoor.H
