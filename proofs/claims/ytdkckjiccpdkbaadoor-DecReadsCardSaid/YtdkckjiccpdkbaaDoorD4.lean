/- erasurelaw01.DecReads: true whatever the text and the numbers. -/
import Derived.Test.YtdkckjiccpdkbaaDoorE5
import Derived.Test.YtdkckjiccpdkbaaDoorPlainRef2
import Derived.Test.YtdkckjiccpdkbaaDoorPlainRef3
namespace Go.Proofs.YtdkckjiccpdkbaaDoor.D
open Go.RowKit Go.Proofs.YtdkckjiccpdkbaaDoorW.PrintWords Go.Proofs.YtdkckjiccpdkbaaDoorW.PrintLast Go.Proofs.YtdkckjiccpdkbaaDoorW.PrintMore Go.Proofs.YtdkckjiccpdkbaaDoor.A Go.Proofs.YtdkckjiccpdkbaaDoor.B Go.Proofs.YtdkckjiccpdkbaaDoor.H Go.Proofs.YtdkckjiccpdkbaaDoor.E
set_option linter.unusedVariables false
set_option linter.unusedSimpArgs false
set_option maxRecDepth 100000 in
set_option maxHeartbeats 8000000 in
theorem reads_good (t : ByteArray) (m s a0 a1 e c0 c1 g : Int) (w : World) (hT : Tab w) (hl : decide (300 < (t.size : Int)) = false) (h1 : dec_Parse.f 3000 t = some (a0, a1, e)) (h2 : erasureref01_Parse.f 3000 t = some (a0, a1, e)) (h3 : dec_Make.f 3000 m s = some (c0, c1, g)) (h4 : erasureref01_Make.f 3000 m s = some (c0, c1, g)) :
    Calls Tryd.prog 5 #[.string t, .int .i64 m, .int .i64 s] w fun e w' => e = .returned (.bool true) ∧ Below w.heap.size w w' := by
  have HT := Aside0.mk hT
  have A1 := Aside0.mk h1
  have A2 := Aside0.mk h2
  have A3 := Aside0.mk h3
  have A4 := Aside0.mk h4
  clear hT h1 h2 h3 h4
  have hu23 := Tryd.underlying23
  go_enter Tryd.func5, Tryd.ntmps5
  go_wp2_with fail
  refine (dec_Parse.calls 3000 t a0 a1 e _ A1.out).mono ?_
  rintro e w1 ⟨rfl, hB1⟩
  go_wp2_with fail
  refine (erasureref01_Parse.calls 3000 t a0 a1 e _ A2.out).mono ?_
  rintro e w2 ⟨rfl, hB2⟩
  have BKa := blk_below (blk_new w1 _) hB2
  have HB2 : Below w.heap.size w w2 := below_step (below_alloc hB1 _) hB2
  clear hB1 hB2
  go_wp2_with fail
  refine (dec_Make.calls 3000 m s c0 c1 g _ A3.out).mono ?_
  rintro e w3 ⟨rfl, hB3⟩
  have BKb := blk_below (blk_new w2 _) hB3
  replace BKa := blk_below (blk_alloc BKa _) hB3
  have HB3 : Below w.heap.size w w3 := below_step (below_alloc HB2 _) hB3
  clear hB3 HB2
  go_wp2_with fail
  refine (erasureref01_Make.calls 3000 m s c0 c1 g _ A4.out).mono ?_
  rintro e w4 ⟨rfl, hB4⟩
  have BKc := blk_below (blk_new w3 _) hB4
  replace BKa := blk_below (blk_alloc BKa _) hB4
  replace BKb := blk_below (blk_alloc BKb _) hB4
  have HB4 : Below w.heap.size w w4 := below_step (below_alloc HB3 _) hB4
  clear hB4 HB3
  go_wp2_with fail
  refine (erasurelaw01_awake.calls true _ (Tab.below HT.out (below_alloc HB4 _)) rfl).mono ?_
  rintro e w5 ⟨rfl, hB5⟩
  have BKd := blk_below (blk_new w4 _) hB5
  replace BKa := blk_below (blk_alloc BKa _) hB5
  replace BKb := blk_below (blk_alloc BKb _) hB5
  replace BKc := blk_below (blk_alloc BKc _) hB5
  have HB5 : Below w.heap.size w w5 := below_step (below_alloc HB4 _) hB5
  clear hB5 HB4
  have qa0 : w5.cell? ⟨w1.heap.size, 0, none⟩ = some (.int .i64 a0) := (blk_cell BKa 0).trans rfl
  have qa1 : w5.cell? ⟨w1.heap.size, 1, none⟩ = some (.int .i64 a1) := (blk_cell BKa 1).trans rfl
  have qb0 : w5.cell? ⟨w2.heap.size, 0, none⟩ = some (.int .i64 a0) := (blk_cell BKb 0).trans rfl
  have qb1 : w5.cell? ⟨w2.heap.size, 1, none⟩ = some (.int .i64 a1) := (blk_cell BKb 1).trans rfl
  have qc0 : w5.cell? ⟨w3.heap.size, 0, none⟩ = some (.int .i64 c0) := (blk_cell BKc 0).trans rfl
  have qc1 : w5.cell? ⟨w3.heap.size, 1, none⟩ = some (.int .i64 c1) := (blk_cell BKc 1).trans rfl
  have qd0 : w5.cell? ⟨w4.heap.size, 0, none⟩ = some (.int .i64 c0) := (blk_cell BKd 0).trans rfl
  have qd1 : w5.cell? ⟨w4.heap.size, 1, none⟩ = some (.int .i64 c1) := (blk_cell BKd 1).trans rfl
  go_wp2
  go_ret
  exact ⟨rfl, HB5⟩
set_option maxRecDepth 100000 in
set_option maxHeartbeats 8000000 in
theorem reads_long (t : ByteArray) (m s : Int) (w : World) (hl : decide (300 < (t.size : Int)) = true) :
    Calls Tryd.prog 5 #[.string t, .int .i64 m, .int .i64 s] w fun e w' => e = .returned (.bool true) ∧ Below w.heap.size w w' := by
  go_enter Tryd.func5, Tryd.ntmps5
  go_wp2
  go_ret
  exact ⟨rfl, Below.refl _ _⟩
def erasurelaw01_DecReads.f (t : ByteArray) (m s : Int) : Option Bool := some true
theorem erasurelaw01_DecReads.calls (t : ByteArray) (m s : Int) (r : Bool) (w : World) (hT : Tab w) (h : erasurelaw01_DecReads.f t m s = some r) :
    Calls Tryd.prog 5 #[.string t, .int .i64 m, .int .i64 s] w fun e w' => e = .returned (.bool r) ∧ Below w.heap.size w w' := by
  obtain rfl : true = r := Option.some.inj h
  by_cases hl : 300 < (t.size : Int)
  · exact reads_long t m s w (decide_eq_true hl)
  · have h3 := Plain.make_f m s 3000 (by decide)
    have h4 := Plain.make_ref m s 3000 (by decide)
    exact reads_good t m s _ _ _ _ _ _ w hT (decide_eq_false hl) (Plain.parse_f t 3000 (by decide)) (Plain.parse_ref t (by omega) 3000 (by decide)) h3 h4
end Go.Proofs.YtdkckjiccpdkbaaDoor.D
