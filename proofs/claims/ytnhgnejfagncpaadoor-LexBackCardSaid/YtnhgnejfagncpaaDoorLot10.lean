/- Put together: V2, PureLexBack, Open, Laid, TokSized (each in a section of its own). -/
import Derived.Test.YtnhgnejfagncpaaDoorLot9
import Derived.ChangeSlices
import Derived.ChangeArms
import Derived.Deep.Slices
import Derived.DataReads
import Derived.WideShapes
import Derived.Test.YtnhgnejfagncpaaDoorLot0
import Derived.Test.YtnhgnejfagncpaaDoorRows
import Derived.Test.YtnhgnejfagncpaaDoorLot2
import Derived.LaidSub
import Derived.LaidMore
import Derived.Lib.LaidTab
import Derived.SizedLaws
import Derived.ChangeOld
section
namespace Go.Proofs.YtnhgnejfagncpaaDoor.V
open Go
open Go.RowKit Go.Proofs.YtnhgnejfagncpaaDoorW.PrintWords Go.Proofs.YtnhgnejfagncpaaDoorW.PrintLast Go.Proofs.YtnhgnejfagncpaaDoorW.PrintMore Go.Proofs.YtnhgnejfagncpaaDoor.H Go.Proofs.YtnhgnejfagncpaaDoor.A Go.Proofs.YtnhgnejfagncpaaDoor.B Go.Proofs.YtnhgnejfagncpaaDoor.E Go.Proofs.YtnhgnejfagncpaaDoor.L Go.Proofs.YtnhgnejfagncpaaDoor.M Go.Proofs.YtnhgnejfagncpaaDoor.P Go.Proofs.YtnhgnejfagncpaaDoor.U
set_option linter.unusedVariables false
set_option linter.unusedSimpArgs false
set_option maxHeartbeats 16000000 in
set_option maxRecDepth 100000 in
theorem back_far (k1 M1 S1 : Int) (T1 : ByteArray) (k2 M2 S2 : Int) (T2 : ByteArray) (w : World) (hT : Tab w) (g : T1.size + T2.size ≤ 281474976702464) (h : 500 < T1.size + T2.size) :
    Calls Tryd.prog 5 #[.agg #[.int .i64 k1, .int .i64 M1, .int .i64 S1, .string T1], .agg #[.int .i64 k2, .int .i64 M2, .int .i64 S2, .string T2]] w fun e w' => e = .returned (.bool true) ∧ Below w.heap.size w w' := by
  have hwr : wrap64 ((T1.size : Int) + (T2.size : Int)) = (T1.size : Int) + (T2.size : Int) := Plain.wsm _ (by omega) (by omega)
  have a0 : decide (500 < (T1.size : Int) + (T2.size : Int)) = true := decide_eq_true (by omega)
  clear h g
  have HB := Aside0.mk (below_alloc (below_alloc (Below.refl w.heap.size w) (.cells #[.int .i64 k1, .int .i64 M1, .int .i64 S1, .string T1] 27)) (.cells #[.int .i64 k2, .int .i64 M2, .int .i64 S2, .string T2] 27))
  go_enter Tryd.func5, Tryd.ntmps5
  go_wp2_with fail
  go_ret
  exact ⟨by first | rfl | (simp [*]; done), HB.out⟩
set_option maxHeartbeats 16000000 in
set_option maxRecDepth 100000 in
theorem back_b1 (k1 M1 S1 : Int) (T1 : ByteArray) (k2 M2 S2 : Int) (T2 : ByteArray) (w : World) (hT : Tab w) (h5 : T1.size + T2.size ≤ 500) (s v : ByteArray) (hp1 : lex_Print.f 20000 k1 M1 S1 T1 = some (s, 1)) (hp2 : lex_Print.f 20000 k2 M2 S2 T2 = some (v, 0)) (hs : s = ⟨#[]⟩) :
    Calls Tryd.prog 5 #[.agg #[.int .i64 k1, .int .i64 M1, .int .i64 S1, .string T1], .agg #[.int .i64 k2, .int .i64 M2, .int .i64 S2, .string T2]] w fun e w' => e = .returned (.bool true) ∧ Below w.heap.size w w' := by
  subst hs
  have HT := Aside0.mk hT
  clear hT
  have HP1 := Aside0.mk hp1
  have HP2 := Aside0.mk hp2
  clear hp1 hp2
  have hwr : wrap64 ((T1.size : Int) + (T2.size : Int)) = (T1.size : Int) + (T2.size : Int) := Plain.wsm _ (by omega) (by omega)
  have a0 : decide (500 < (T1.size : Int) + (T2.size : Int)) = false := decide_eq_false (by omega)
  have H5 := Aside0.mk h5
  clear h5
  have HB2 := Aside0.mk (below_alloc (below_alloc (Below.refl w.heap.size w) (.cells #[.int .i64 k1, .int .i64 M1, .int .i64 S1, .string T1] 27)) (.cells #[.int .i64 k2, .int .i64 M2, .int .i64 S2, .string T2] 27))
  have BT2 := Aside0.mk (blk_alloc (blk_new w (.cells #[.int .i64 k1, .int .i64 M1, .int .i64 S1, .string T1] 27)) (.cells #[.int .i64 k2, .int .i64 M2, .int .i64 S2, .string T2] 27))
  have BU2 := Aside0.mk (show ((w.alloc (.cells #[.int .i64 k1, .int .i64 M1, .int .i64 S1, .string T1] 27)).alloc (.cells #[.int .i64 k2, .int .i64 M2, .int .i64 S2, .string T2] 27)).heap[w.heap.size + 1]? = some (.cells #[.int .i64 k2, .int .i64 M2, .int .i64 S2, .string T2] 27 (0, 0)) from by have h := blk_new (w.alloc (.cells #[.int .i64 k1, .int .i64 M1, .int .i64 S1, .string T1] 27)) (.cells #[.int .i64 k2, .int .i64 M2, .int .i64 S2, .string T2] 27); rw [World.size_alloc] at h; exact h)
  go_enter Tryd.func5, Tryd.ntmps5
  go_wp2_with fail
  refine (lex_Print.calls 20000 k1 M1 S1 T1 _ 1 _ (Tab.below HT.out HB2.out) HP1.out).mono ?_
  rintro e3 w3 ⟨rfl, hb⟩
  have HB3 := Aside0.mk (below_step HB2.out hb)
  have BT3 := Aside0.mk (blk_below BT2.out hb)
  have BU3 := Aside0.mk (blk_below BU2.out hb)
  clear HB2 BT2 BU2 hb
  have x0 : w3.cell? ⟨w.heap.size + 1, 0, none⟩ = some (.int .i64 k2) := (blk_cell BU3.out 0).trans rfl
  have x1 : w3.cell? ⟨w.heap.size + 1, 1, none⟩ = some (.int .i64 M2) := (blk_cell BU3.out 1).trans rfl
  have x2 : w3.cell? ⟨w.heap.size + 1, 2, none⟩ = some (.int .i64 S2) := (blk_cell BU3.out 2).trans rfl
  have x3 : w3.cell? ⟨w.heap.size + 1, 3, none⟩ = some (.string T2) := (blk_cell BU3.out 3).trans rfl
  go_wp2_with fail
  refine (lex_Print.calls 20000 k2 M2 S2 T2 _ 0 _ (Tab.below HT.out (by first | exact HB3.out | exact pw_below_drewN HB3.out _)) HP2.out).mono ?_
  rintro e4 w4 ⟨rfl, hb⟩
  have HB4 := Aside0.mk (below_step (by first | exact HB3.out | exact pw_below_drewN HB3.out _) hb)
  have BT4 := Aside0.mk (blk_below (by first | exact BT3.out | exact blk_drewN BT3.out _) hb)
  have BU4 := Aside0.mk (blk_below (by first | exact BU3.out | exact blk_drewN BU3.out _) hb)
  clear HB3 BT3 BU3 hb x0 x1 x2 x3
  go_wp2_with fail
  refine (awake14 _ (Tab.below HT.out (by first | exact HB4.out | exact pw_below_drewN HB4.out _))).mono ?_
  rintro e5 w5 ⟨rfl, hb⟩
  go_wp2_with fail
  go_ret
  exact ⟨ea_, below_step (by first | exact HB4.out | exact pw_below_drewN HB4.out _) hb⟩
set_option maxHeartbeats 16000000 in
set_option maxRecDepth 100000 in
theorem back_b2 (k1 M1 S1 : Int) (T1 : ByteArray) (k2 M2 S2 : Int) (T2 : ByteArray) (w : World) (hT : Tab w) (h5 : T1.size + T2.size ≤ 500) (s v : ByteArray) (hp1 : lex_Print.f 20000 k1 M1 S1 T1 = some (s, 1)) (hp2 : lex_Print.f 20000 k2 M2 S2 T2 = some (v, 1)) (hs : s = ⟨#[]⟩) (hv : v = ⟨#[]⟩) :
    Calls Tryd.prog 5 #[.agg #[.int .i64 k1, .int .i64 M1, .int .i64 S1, .string T1], .agg #[.int .i64 k2, .int .i64 M2, .int .i64 S2, .string T2]] w fun e w' => e = .returned (.bool true) ∧ Below w.heap.size w w' := by
  subst hs hv
  have HT := Aside0.mk hT
  clear hT
  have HP1 := Aside0.mk hp1
  have HP2 := Aside0.mk hp2
  clear hp1 hp2
  have hwr : wrap64 ((T1.size : Int) + (T2.size : Int)) = (T1.size : Int) + (T2.size : Int) := Plain.wsm _ (by omega) (by omega)
  have a0 : decide (500 < (T1.size : Int) + (T2.size : Int)) = false := decide_eq_false (by omega)
  have H5 := Aside0.mk h5
  clear h5
  have HB2 := Aside0.mk (below_alloc (below_alloc (Below.refl w.heap.size w) (.cells #[.int .i64 k1, .int .i64 M1, .int .i64 S1, .string T1] 27)) (.cells #[.int .i64 k2, .int .i64 M2, .int .i64 S2, .string T2] 27))
  have BT2 := Aside0.mk (blk_alloc (blk_new w (.cells #[.int .i64 k1, .int .i64 M1, .int .i64 S1, .string T1] 27)) (.cells #[.int .i64 k2, .int .i64 M2, .int .i64 S2, .string T2] 27))
  have BU2 := Aside0.mk (show ((w.alloc (.cells #[.int .i64 k1, .int .i64 M1, .int .i64 S1, .string T1] 27)).alloc (.cells #[.int .i64 k2, .int .i64 M2, .int .i64 S2, .string T2] 27)).heap[w.heap.size + 1]? = some (.cells #[.int .i64 k2, .int .i64 M2, .int .i64 S2, .string T2] 27 (0, 0)) from by have h := blk_new (w.alloc (.cells #[.int .i64 k1, .int .i64 M1, .int .i64 S1, .string T1] 27)) (.cells #[.int .i64 k2, .int .i64 M2, .int .i64 S2, .string T2] 27); rw [World.size_alloc] at h; exact h)
  go_enter Tryd.func5, Tryd.ntmps5
  go_wp2_with fail
  refine (lex_Print.calls 20000 k1 M1 S1 T1 _ 1 _ (Tab.below HT.out HB2.out) HP1.out).mono ?_
  rintro e3 w3 ⟨rfl, hb⟩
  have HB3 := Aside0.mk (below_step HB2.out hb)
  have BT3 := Aside0.mk (blk_below BT2.out hb)
  have BU3 := Aside0.mk (blk_below BU2.out hb)
  clear HB2 BT2 BU2 hb
  have x0 : w3.cell? ⟨w.heap.size + 1, 0, none⟩ = some (.int .i64 k2) := (blk_cell BU3.out 0).trans rfl
  have x1 : w3.cell? ⟨w.heap.size + 1, 1, none⟩ = some (.int .i64 M2) := (blk_cell BU3.out 1).trans rfl
  have x2 : w3.cell? ⟨w.heap.size + 1, 2, none⟩ = some (.int .i64 S2) := (blk_cell BU3.out 2).trans rfl
  have x3 : w3.cell? ⟨w.heap.size + 1, 3, none⟩ = some (.string T2) := (blk_cell BU3.out 3).trans rfl
  go_wp2_with fail
  refine (lex_Print.calls 20000 k2 M2 S2 T2 _ 1 _ (Tab.below HT.out (by first | exact HB3.out | exact pw_below_drewN HB3.out _)) HP2.out).mono ?_
  rintro e4 w4 ⟨rfl, hb⟩
  have HB4 := Aside0.mk (below_step (by first | exact HB3.out | exact pw_below_drewN HB3.out _) hb)
  have BT4 := Aside0.mk (blk_below (by first | exact BT3.out | exact blk_drewN BT3.out _) hb)
  have BU4 := Aside0.mk (blk_below (by first | exact BU3.out | exact blk_drewN BU3.out _) hb)
  clear HB3 BT3 BU3 hb x0 x1 x2 x3
  go_wp2_with fail
  refine (awake14 _ (Tab.below HT.out (by first | exact HB4.out | exact pw_below_drewN HB4.out _))).mono ?_
  rintro e5 w5 ⟨rfl, hb⟩
  go_wp2_with fail
  go_ret
  exact ⟨ea_, below_step (by first | exact HB4.out | exact pw_below_drewN HB4.out _) hb⟩
set_option maxHeartbeats 16000000 in
set_option maxRecDepth 100000 in
theorem back_b3 (k1 M1 S1 : Int) (T1 : ByteArray) (k2 M2 S2 : Int) (T2 : ByteArray) (w : World) (hT : Tab w) (h5 : T1.size + T2.size ≤ 500) (s v : ByteArray) (hp1 : lex_Print.f 20000 k1 M1 S1 T1 = some (s, 0)) (hp2 : lex_Print.f 20000 k2 M2 S2 T2 = some (v, 1)) (hv : v = ⟨#[]⟩) :
    Calls Tryd.prog 5 #[.agg #[.int .i64 k1, .int .i64 M1, .int .i64 S1, .string T1], .agg #[.int .i64 k2, .int .i64 M2, .int .i64 S2, .string T2]] w fun e w' => e = .returned (.bool true) ∧ Below w.heap.size w w' := by
  subst hv
  have HT := Aside0.mk hT
  clear hT
  have HP1 := Aside0.mk hp1
  have HP2 := Aside0.mk hp2
  clear hp1 hp2
  have hwr : wrap64 ((T1.size : Int) + (T2.size : Int)) = (T1.size : Int) + (T2.size : Int) := Plain.wsm _ (by omega) (by omega)
  have a0 : decide (500 < (T1.size : Int) + (T2.size : Int)) = false := decide_eq_false (by omega)
  have H5 := Aside0.mk h5
  clear h5
  have HB2 := Aside0.mk (below_alloc (below_alloc (Below.refl w.heap.size w) (.cells #[.int .i64 k1, .int .i64 M1, .int .i64 S1, .string T1] 27)) (.cells #[.int .i64 k2, .int .i64 M2, .int .i64 S2, .string T2] 27))
  have BT2 := Aside0.mk (blk_alloc (blk_new w (.cells #[.int .i64 k1, .int .i64 M1, .int .i64 S1, .string T1] 27)) (.cells #[.int .i64 k2, .int .i64 M2, .int .i64 S2, .string T2] 27))
  have BU2 := Aside0.mk (show ((w.alloc (.cells #[.int .i64 k1, .int .i64 M1, .int .i64 S1, .string T1] 27)).alloc (.cells #[.int .i64 k2, .int .i64 M2, .int .i64 S2, .string T2] 27)).heap[w.heap.size + 1]? = some (.cells #[.int .i64 k2, .int .i64 M2, .int .i64 S2, .string T2] 27 (0, 0)) from by have h := blk_new (w.alloc (.cells #[.int .i64 k1, .int .i64 M1, .int .i64 S1, .string T1] 27)) (.cells #[.int .i64 k2, .int .i64 M2, .int .i64 S2, .string T2] 27); rw [World.size_alloc] at h; exact h)
  go_enter Tryd.func5, Tryd.ntmps5
  go_wp2_with fail
  refine (lex_Print.calls 20000 k1 M1 S1 T1 _ 0 _ (Tab.below HT.out HB2.out) HP1.out).mono ?_
  rintro e3 w3 ⟨rfl, hb⟩
  have HB3 := Aside0.mk (below_step HB2.out hb)
  have BT3 := Aside0.mk (blk_below BT2.out hb)
  have BU3 := Aside0.mk (blk_below BU2.out hb)
  clear HB2 BT2 BU2 hb
  have x0 : w3.cell? ⟨w.heap.size + 1, 0, none⟩ = some (.int .i64 k2) := (blk_cell BU3.out 0).trans rfl
  have x1 : w3.cell? ⟨w.heap.size + 1, 1, none⟩ = some (.int .i64 M2) := (blk_cell BU3.out 1).trans rfl
  have x2 : w3.cell? ⟨w.heap.size + 1, 2, none⟩ = some (.int .i64 S2) := (blk_cell BU3.out 2).trans rfl
  have x3 : w3.cell? ⟨w.heap.size + 1, 3, none⟩ = some (.string T2) := (blk_cell BU3.out 3).trans rfl
  go_wp2_with fail
  refine (lex_Print.calls 20000 k2 M2 S2 T2 _ 1 _ (Tab.below HT.out (by first | exact HB3.out | exact pw_below_drewN HB3.out _)) HP2.out).mono ?_
  rintro e4 w4 ⟨rfl, hb⟩
  have HB4 := Aside0.mk (below_step (by first | exact HB3.out | exact pw_below_drewN HB3.out _) hb)
  have BT4 := Aside0.mk (blk_below (by first | exact BT3.out | exact blk_drewN BT3.out _) hb)
  have BU4 := Aside0.mk (blk_below (by first | exact BU3.out | exact blk_drewN BU3.out _) hb)
  clear HB3 BT3 BU3 hb x0 x1 x2 x3
  go_wp2_with fail
  refine (awake14 _ (Tab.below HT.out (by first | exact HB4.out | exact pw_below_drewN HB4.out _))).mono ?_
  rintro e5 w5 ⟨rfl, hb⟩
  go_wp2_with fail
  go_ret
  exact ⟨ea_, below_step (by first | exact HB4.out | exact pw_below_drewN HB4.out _) hb⟩
set_option maxHeartbeats 16000000 in
set_option maxRecDepth 100000 in
theorem back_c0 (M1 S1 : Int) (T1 : ByteArray) (k2 M2 S2 : Int) (T2 : ByteArray) (w : World) (hT : Tab w) (h5 : T1.size + T2.size ≤ 500) (s v : ByteArray) (hp1 : lex_Print.f 20000 0 M1 S1 T1 = some (s, 0)) (hp2 : lex_Print.f 20000 k2 M2 S2 T2 = some (v, 0)) (hsl : s.size ≤ 2000) (hvl : v.size ≤ 2000) (X0 : ByteArray) (hX : X0 = Plain.catX s v) (p1 : Int) (hn0 : lex_Next.f 20000 (Plain.nb X0) 0 = some (k2, M2, S2, T2, p1, 0)) :
    Calls Tryd.prog 5 #[.agg #[.int .i64 0, .int .i64 M1, .int .i64 S1, .string T1], .agg #[.int .i64 k2, .int .i64 M2, .int .i64 S2, .string T2]] w fun e w' => e = .returned (.bool true) ∧ Below w.heap.size w w' := by
  have HN0 := Aside0.mk hn0
  clear hn0
  have HT := Aside0.mk hT
  clear hT
  have HP1 := Aside0.mk hp1
  have HP2 := Aside0.mk hp2
  clear hp1 hp2
  have hwr : wrap64 ((T1.size : Int) + (T2.size : Int)) = (T1.size : Int) + (T2.size : Int) := Plain.wsm _ (by omega) (by omega)
  have a0 : decide (500 < (T1.size : Int) + (T2.size : Int)) = false := decide_eq_false (by omega)
  have H5 := Aside0.mk h5
  clear h5
  have HB2 := Aside0.mk (below_alloc (below_alloc (Below.refl w.heap.size w) (.cells #[.int .i64 0, .int .i64 M1, .int .i64 S1, .string T1] 27)) (.cells #[.int .i64 k2, .int .i64 M2, .int .i64 S2, .string T2] 27))
  have BT2 := Aside0.mk (blk_alloc (blk_new w (.cells #[.int .i64 0, .int .i64 M1, .int .i64 S1, .string T1] 27)) (.cells #[.int .i64 k2, .int .i64 M2, .int .i64 S2, .string T2] 27))
  have BU2 := Aside0.mk (show ((w.alloc (.cells #[.int .i64 0, .int .i64 M1, .int .i64 S1, .string T1] 27)).alloc (.cells #[.int .i64 k2, .int .i64 M2, .int .i64 S2, .string T2] 27)).heap[w.heap.size + 1]? = some (.cells #[.int .i64 k2, .int .i64 M2, .int .i64 S2, .string T2] 27 (0, 0)) from by have h := blk_new (w.alloc (.cells #[.int .i64 0, .int .i64 M1, .int .i64 S1, .string T1] 27)) (.cells #[.int .i64 k2, .int .i64 M2, .int .i64 S2, .string T2] 27); rw [World.size_alloc] at h; exact h)
  go_enter Tryd.func5, Tryd.ntmps5
  go_wp2_with fail
  refine (lex_Print.calls 20000 0 M1 S1 T1 _ 0 _ (Tab.below HT.out HB2.out) HP1.out).mono ?_
  rintro e3 w3 ⟨rfl, hb⟩
  have HB3 := Aside0.mk (below_step HB2.out hb)
  have BT3 := Aside0.mk (blk_below BT2.out hb)
  have BU3 := Aside0.mk (blk_below BU2.out hb)
  clear HB2 BT2 BU2 hb
  have x0 : w3.cell? ⟨w.heap.size + 1, 0, none⟩ = some (.int .i64 k2) := (blk_cell BU3.out 0).trans rfl
  have x1 : w3.cell? ⟨w.heap.size + 1, 1, none⟩ = some (.int .i64 M2) := (blk_cell BU3.out 1).trans rfl
  have x2 : w3.cell? ⟨w.heap.size + 1, 2, none⟩ = some (.int .i64 S2) := (blk_cell BU3.out 2).trans rfl
  have x3 : w3.cell? ⟨w.heap.size + 1, 3, none⟩ = some (.string T2) := (blk_cell BU3.out 3).trans rfl
  go_wp2_with fail
  refine (lex_Print.calls 20000 k2 M2 S2 T2 _ 0 _ (Tab.below HT.out (by first | exact HB3.out | exact pw_below_drewN HB3.out _)) HP2.out).mono ?_
  rintro e4 w4 ⟨rfl, hb⟩
  have HB4 := Aside0.mk (below_step (by first | exact HB3.out | exact pw_below_drewN HB3.out _) hb)
  have BT4 := Aside0.mk (blk_below (by first | exact BT3.out | exact blk_drewN BT3.out _) hb)
  have BU4 := Aside0.mk (blk_below (by first | exact BU3.out | exact blk_drewN BU3.out _) hb)
  clear HB3 BT3 BU3 hb x0 x1 x2 x3
  obtain ⟨X, hX2⟩ : ∃ X : ByteArray, X = ((((⟨#[32, 37, 120, 10]⟩ : ByteArray) ++ s) ++ (⟨#[10, 9, 37, 41, 13]⟩ : ByteArray)) ++ v) ++ (⟨#[32]⟩ : ByteArray) := ⟨_, rfl⟩
  obtain rfl : X0 = X := hX.trans hX2.symm
  have hcv := run_lay X0 _ hX2
  have HS := Aside0.mk (show X0.size ≤ 9223372036854775807 from by rw [hX2]; simp only [ByteArray.size_append]; show 4 + s.size + 5 + v.size + 1 ≤ _; omega)
  clear hX hX2
  have z1 : (9223372036854775807 < 4 + s.size) = False := eq_false (by omega)
  have z2 : (9223372036854775807 < 4 + s.size + 5) = False := eq_false (by omega)
  have z3 : (9223372036854775807 < 4 + s.size + 5 + v.size) = False := eq_false (by omega)
  have z4 : (9223372036854775807 < 4 + s.size + 5 + v.size + 1) = False := eq_false (by omega)
  clear hsl hvl
  go_wp2_with fail
  have HC4 := Aside0.mk (C_lay X0 w4 HS.out)
  have BTL := Aside0.mk (blk_lay X0 BT4.out)
  have BUL := Aside0.mk (blk_lay X0 BU4.out)
  have HBL := Aside0.mk (below_lay X0 HB4.out)
  have HCAP := Aside0.mk (cap_lay X0 w4)
  clear hcv BT4 BU4 HB4
  generalize layB X0 w4 = wL at HC4 BTL BUL HBL ⊢
  generalize capB X0 w4 = cL at HCAP ⊢
  generalize w4.heap.size = gL at HC4 ⊢
  refine (lex_Next.calls 20000 (some ⟨gL, 0, none⟩) cL (Plain.nb X0) 0 k2 M2 S2 T2 p1 0 _ HC4.out HCAP.out HN0.out).mono ?_
  rintro e5 w5 ⟨rfl, hb⟩
  have HC5 := Aside0.mk (Kd.C_below HC4.out hb)
  have BT5 := Aside0.mk (blk_below BTL.out hb)
  have BU5 := Aside0.mk (blk_below BUL.out hb)
  have HB5 := Aside0.mk (below_step HBL.out hb)
  clear hb
  have f0 : (w5.alloc (.cells #[.int .i64 k2, .int .i64 M2, .int .i64 S2, .string T2] 27)).cell? ⟨w.heap.size, 0, none⟩ = some (.int .i64 0) := (blk_cell (blk_alloc BT5.out (.cells #[.int .i64 k2, .int .i64 M2, .int .i64 S2, .string T2] 27)) 0).trans rfl
  have f1 : (w5.alloc (.cells #[.int .i64 k2, .int .i64 M2, .int .i64 S2, .string T2] 27)).cell? ⟨w.heap.size, 1, none⟩ = some (.int .i64 M1) := (blk_cell (blk_alloc BT5.out (.cells #[.int .i64 k2, .int .i64 M2, .int .i64 S2, .string T2] 27)) 1).trans rfl
  have f2 : (w5.alloc (.cells #[.int .i64 k2, .int .i64 M2, .int .i64 S2, .string T2] 27)).cell? ⟨w.heap.size, 2, none⟩ = some (.int .i64 S1) := (blk_cell (blk_alloc BT5.out (.cells #[.int .i64 k2, .int .i64 M2, .int .i64 S2, .string T2] 27)) 2).trans rfl
  have f3 : (w5.alloc (.cells #[.int .i64 k2, .int .i64 M2, .int .i64 S2, .string T2] 27)).cell? ⟨w.heap.size, 3, none⟩ = some (.string T1) := (blk_cell (blk_alloc BT5.out (.cells #[.int .i64 k2, .int .i64 M2, .int .i64 S2, .string T2] 27)) 3).trans rfl
  go_wp2_with fail
  clear f0 f1 f2 f3
  refine (awake14 _ (Tab.below HT.out (below_alloc HB5.out (.cells #[.int .i64 k2, .int .i64 M2, .int .i64 S2, .string T2] 27)))).mono ?_
  rintro e6 w6 ⟨rfl, hb⟩
  have BT6 := Aside0.mk (blk_below (blk_alloc BT5.out (.cells #[.int .i64 k2, .int .i64 M2, .int .i64 S2, .string T2] 27)) hb)
  have BU6 := Aside0.mk (blk_below (blk_alloc BU5.out (.cells #[.int .i64 k2, .int .i64 M2, .int .i64 S2, .string T2] 27)) hb)
  have BX6 := Aside0.mk (blk_below (blk_new w5 (.cells #[.int .i64 k2, .int .i64 M2, .int .i64 S2, .string T2] 27)) hb)
  have HB6 := Aside0.mk (below_step (below_alloc HB5.out (.cells #[.int .i64 k2, .int .i64 M2, .int .i64 S2, .string T2] 27)) hb)
  clear hb
  have f0 : w6.cell? ⟨w5.heap.size, 0, none⟩ = some (.int .i64 k2) := (blk_cell BX6.out 0).trans rfl
  have f1 : w6.cell? ⟨w5.heap.size, 1, none⟩ = some (.int .i64 M2) := (blk_cell BX6.out 1).trans rfl
  have f2 : w6.cell? ⟨w5.heap.size, 2, none⟩ = some (.int .i64 S2) := (blk_cell BX6.out 2).trans rfl
  have f3 : w6.cell? ⟨w5.heap.size, 3, none⟩ = some (.string T2) := (blk_cell BX6.out 3).trans rfl
  have f4 : w6.cell? ⟨w.heap.size + 1, 0, none⟩ = some (.int .i64 k2) := (blk_cell BU6.out 0).trans rfl
  have f5 : w6.cell? ⟨w.heap.size + 1, 1, none⟩ = some (.int .i64 M2) := (blk_cell BU6.out 1).trans rfl
  have f6 : w6.cell? ⟨w.heap.size + 1, 2, none⟩ = some (.int .i64 S2) := (blk_cell BU6.out 2).trans rfl
  have f7 : w6.cell? ⟨w.heap.size + 1, 3, none⟩ = some (.string T2) := (blk_cell BU6.out 3).trans rfl
  go_wp2_with fail
  go_ret
  exact ⟨ea_, HB6.out⟩
set_option maxHeartbeats 16000000 in
set_option maxRecDepth 100000 in
theorem back_c1 (k1 M1 S1 : Int) (T1 : ByteArray) (M2 S2 : Int) (T2 : ByteArray) (w : World) (hT : Tab w) (h5 : T1.size + T2.size ≤ 500) (s v : ByteArray) (hp1 : lex_Print.f 20000 k1 M1 S1 T1 = some (s, 0)) (hp2 : lex_Print.f 20000 0 M2 S2 T2 = some (v, 0)) (hsl : s.size ≤ 2000) (hvl : v.size ≤ 2000) (X0 : ByteArray) (hX : X0 = Plain.catX s v) (K1 : Aside0 ((k1 == 0) = false)) (p1 p2 : Int) (hn0 : lex_Next.f 20000 (Plain.nb X0) 0 = some (k1, M1, S1, T1, p1, 0)) (hn1 : lex_Next.f 20000 (Plain.nb X0) p1 = some (0, M2, S2, T2, p2, 0)) (hn2 : lex_Next.f 20000 (Plain.nb X0) p2 = some (0, 0, 0, ⟨#[]⟩, ((Plain.nb X0).length : Int), 0)) :
    Calls Tryd.prog 5 #[.agg #[.int .i64 k1, .int .i64 M1, .int .i64 S1, .string T1], .agg #[.int .i64 0, .int .i64 M2, .int .i64 S2, .string T2]] w fun e w' => e = .returned (.bool true) ∧ Below w.heap.size w w' := by
  have HN0 := Aside0.mk hn0
  have HN1 := Aside0.mk hn1
  have HN2 := Aside0.mk hn2
  clear hn0 hn1 hn2
  have e1 := K1.out
  have HT := Aside0.mk hT
  clear hT
  have HP1 := Aside0.mk hp1
  have HP2 := Aside0.mk hp2
  clear hp1 hp2
  have hwr : wrap64 ((T1.size : Int) + (T2.size : Int)) = (T1.size : Int) + (T2.size : Int) := Plain.wsm _ (by omega) (by omega)
  have a0 : decide (500 < (T1.size : Int) + (T2.size : Int)) = false := decide_eq_false (by omega)
  have H5 := Aside0.mk h5
  clear h5
  have HB2 := Aside0.mk (below_alloc (below_alloc (Below.refl w.heap.size w) (.cells #[.int .i64 k1, .int .i64 M1, .int .i64 S1, .string T1] 27)) (.cells #[.int .i64 0, .int .i64 M2, .int .i64 S2, .string T2] 27))
  have BT2 := Aside0.mk (blk_alloc (blk_new w (.cells #[.int .i64 k1, .int .i64 M1, .int .i64 S1, .string T1] 27)) (.cells #[.int .i64 0, .int .i64 M2, .int .i64 S2, .string T2] 27))
  have BU2 := Aside0.mk (show ((w.alloc (.cells #[.int .i64 k1, .int .i64 M1, .int .i64 S1, .string T1] 27)).alloc (.cells #[.int .i64 0, .int .i64 M2, .int .i64 S2, .string T2] 27)).heap[w.heap.size + 1]? = some (.cells #[.int .i64 0, .int .i64 M2, .int .i64 S2, .string T2] 27 (0, 0)) from by have h := blk_new (w.alloc (.cells #[.int .i64 k1, .int .i64 M1, .int .i64 S1, .string T1] 27)) (.cells #[.int .i64 0, .int .i64 M2, .int .i64 S2, .string T2] 27); rw [World.size_alloc] at h; exact h)
  go_enter Tryd.func5, Tryd.ntmps5
  go_wp2_with fail
  refine (lex_Print.calls 20000 k1 M1 S1 T1 _ 0 _ (Tab.below HT.out HB2.out) HP1.out).mono ?_
  rintro e3 w3 ⟨rfl, hb⟩
  have HB3 := Aside0.mk (below_step HB2.out hb)
  have BT3 := Aside0.mk (blk_below BT2.out hb)
  have BU3 := Aside0.mk (blk_below BU2.out hb)
  clear HB2 BT2 BU2 hb
  have x0 : w3.cell? ⟨w.heap.size + 1, 0, none⟩ = some (.int .i64 0) := (blk_cell BU3.out 0).trans rfl
  have x1 : w3.cell? ⟨w.heap.size + 1, 1, none⟩ = some (.int .i64 M2) := (blk_cell BU3.out 1).trans rfl
  have x2 : w3.cell? ⟨w.heap.size + 1, 2, none⟩ = some (.int .i64 S2) := (blk_cell BU3.out 2).trans rfl
  have x3 : w3.cell? ⟨w.heap.size + 1, 3, none⟩ = some (.string T2) := (blk_cell BU3.out 3).trans rfl
  go_wp2_with fail
  refine (lex_Print.calls 20000 0 M2 S2 T2 _ 0 _ (Tab.below HT.out (by first | exact HB3.out | exact pw_below_drewN HB3.out _)) HP2.out).mono ?_
  rintro e4 w4 ⟨rfl, hb⟩
  have HB4 := Aside0.mk (below_step (by first | exact HB3.out | exact pw_below_drewN HB3.out _) hb)
  have BT4 := Aside0.mk (blk_below (by first | exact BT3.out | exact blk_drewN BT3.out _) hb)
  have BU4 := Aside0.mk (blk_below (by first | exact BU3.out | exact blk_drewN BU3.out _) hb)
  clear HB3 BT3 BU3 hb x0 x1 x2 x3
  obtain ⟨X, hX2⟩ : ∃ X : ByteArray, X = ((((⟨#[32, 37, 120, 10]⟩ : ByteArray) ++ s) ++ (⟨#[10, 9, 37, 41, 13]⟩ : ByteArray)) ++ v) ++ (⟨#[32]⟩ : ByteArray) := ⟨_, rfl⟩
  obtain rfl : X0 = X := hX.trans hX2.symm
  have hcv := run_lay X0 _ hX2
  have HS := Aside0.mk (show X0.size ≤ 9223372036854775807 from by rw [hX2]; simp only [ByteArray.size_append]; show 4 + s.size + 5 + v.size + 1 ≤ _; omega)
  clear hX hX2
  have z1 : (9223372036854775807 < 4 + s.size) = False := eq_false (by omega)
  have z2 : (9223372036854775807 < 4 + s.size + 5) = False := eq_false (by omega)
  have z3 : (9223372036854775807 < 4 + s.size + 5 + v.size) = False := eq_false (by omega)
  have z4 : (9223372036854775807 < 4 + s.size + 5 + v.size + 1) = False := eq_false (by omega)
  clear hsl hvl
  go_wp2_with fail
  have HC4 := Aside0.mk (C_lay X0 w4 HS.out)
  have BTL := Aside0.mk (blk_lay X0 BT4.out)
  have BUL := Aside0.mk (blk_lay X0 BU4.out)
  have HBL := Aside0.mk (below_lay X0 HB4.out)
  have HCAP := Aside0.mk (cap_lay X0 w4)
  clear hcv BT4 BU4 HB4
  generalize layB X0 w4 = wL at HC4 BTL BUL HBL ⊢
  generalize capB X0 w4 = cL at HCAP ⊢
  generalize w4.heap.size = gL at HC4 ⊢
  refine (lex_Next.calls 20000 (some ⟨gL, 0, none⟩) cL (Plain.nb X0) 0 k1 M1 S1 T1 p1 0 _ HC4.out HCAP.out HN0.out).mono ?_
  rintro e5 w5 ⟨rfl, hb⟩
  have HC5 := Aside0.mk (Kd.C_below HC4.out hb)
  have BT5 := Aside0.mk (blk_below BTL.out hb)
  have BU5 := Aside0.mk (blk_below BUL.out hb)
  have HB5 := Aside0.mk (below_step HBL.out hb)
  clear hb
  have f0 : (w5.alloc (.cells #[.int .i64 k1, .int .i64 M1, .int .i64 S1, .string T1] 27)).cell? ⟨w.heap.size, 0, none⟩ = some (.int .i64 k1) := (blk_cell (blk_alloc BT5.out (.cells #[.int .i64 k1, .int .i64 M1, .int .i64 S1, .string T1] 27)) 0).trans rfl
  have f1 : (w5.alloc (.cells #[.int .i64 k1, .int .i64 M1, .int .i64 S1, .string T1] 27)).cell? ⟨w.heap.size, 1, none⟩ = some (.int .i64 M1) := (blk_cell (blk_alloc BT5.out (.cells #[.int .i64 k1, .int .i64 M1, .int .i64 S1, .string T1] 27)) 1).trans rfl
  have f2 : (w5.alloc (.cells #[.int .i64 k1, .int .i64 M1, .int .i64 S1, .string T1] 27)).cell? ⟨w.heap.size, 2, none⟩ = some (.int .i64 S1) := (blk_cell (blk_alloc BT5.out (.cells #[.int .i64 k1, .int .i64 M1, .int .i64 S1, .string T1] 27)) 2).trans rfl
  have f3 : (w5.alloc (.cells #[.int .i64 k1, .int .i64 M1, .int .i64 S1, .string T1] 27)).cell? ⟨w.heap.size, 3, none⟩ = some (.string T1) := (blk_cell (blk_alloc BT5.out (.cells #[.int .i64 k1, .int .i64 M1, .int .i64 S1, .string T1] 27)) 3).trans rfl
  go_wp2_with fail
  clear f0 f1 f2 f3
  refine (lex_Next.calls 20000 (some ⟨gL, 0, none⟩) cL (Plain.nb X0) p1 0 M2 S2 T2 p2 0 _ (Kd.C_alloc HC5.out (.cells #[.int .i64 k1, .int .i64 M1, .int .i64 S1, .string T1] 27)) HCAP.out HN1.out).mono ?_
  rintro e6 w6 ⟨rfl, hb⟩
  have HC6 := Aside0.mk (Kd.C_below (Kd.C_alloc HC5.out (.cells #[.int .i64 k1, .int .i64 M1, .int .i64 S1, .string T1] 27)) hb)
  have BT6 := Aside0.mk (blk_below (blk_alloc BT5.out (.cells #[.int .i64 k1, .int .i64 M1, .int .i64 S1, .string T1] 27)) hb)
  have BU6 := Aside0.mk (blk_below (blk_alloc BU5.out (.cells #[.int .i64 k1, .int .i64 M1, .int .i64 S1, .string T1] 27)) hb)
  have BX6 := Aside0.mk (blk_below (blk_new w5 (.cells #[.int .i64 k1, .int .i64 M1, .int .i64 S1, .string T1] 27)) hb)
  have HB6 := Aside0.mk (below_step (below_alloc HB5.out (.cells #[.int .i64 k1, .int .i64 M1, .int .i64 S1, .string T1] 27)) hb)
  clear hb
  go_wp2_with fail
  refine (lex_Next.calls 20000 (some ⟨gL, 0, none⟩) cL (Plain.nb X0) p2 0 0 0 ⟨#[]⟩ ((Plain.nb X0).length : Int) 0 _ (Kd.C_alloc HC6.out (.cells #[.int .i64 0, .int .i64 M2, .int .i64 S2, .string T2] 27)) HCAP.out HN2.out).mono ?_
  rintro e7 w7 ⟨rfl, hb⟩
  have HC7 := Aside0.mk (Kd.C_below (Kd.C_alloc HC6.out (.cells #[.int .i64 0, .int .i64 M2, .int .i64 S2, .string T2] 27)) hb)
  have BT7 := Aside0.mk (blk_below (blk_alloc BT6.out (.cells #[.int .i64 0, .int .i64 M2, .int .i64 S2, .string T2] 27)) hb)
  have BU7 := Aside0.mk (blk_below (blk_alloc BU6.out (.cells #[.int .i64 0, .int .i64 M2, .int .i64 S2, .string T2] 27)) hb)
  have BX7 := Aside0.mk (blk_below (blk_alloc BX6.out (.cells #[.int .i64 0, .int .i64 M2, .int .i64 S2, .string T2] 27)) hb)
  have BY7 := Aside0.mk (blk_below (blk_new w6 (.cells #[.int .i64 0, .int .i64 M2, .int .i64 S2, .string T2] 27)) hb)
  have HB7 := Aside0.mk (below_step (below_alloc HB6.out (.cells #[.int .i64 0, .int .i64 M2, .int .i64 S2, .string T2] 27)) hb)
  clear hb
  have f0 : (w7.alloc (.cells #[.int .i64 0, .int .i64 0, .int .i64 0, .string ⟨#[]⟩] 27)).cell? ⟨w.heap.size + 1, 0, none⟩ = some (.int .i64 0) := (blk_cell (blk_alloc BU7.out (.cells #[.int .i64 0, .int .i64 0, .int .i64 0, .string ⟨#[]⟩] 27)) 0).trans rfl
  have f1 : (w7.alloc (.cells #[.int .i64 0, .int .i64 0, .int .i64 0, .string ⟨#[]⟩] 27)).cell? ⟨w.heap.size + 1, 1, none⟩ = some (.int .i64 M2) := (blk_cell (blk_alloc BU7.out (.cells #[.int .i64 0, .int .i64 0, .int .i64 0, .string ⟨#[]⟩] 27)) 1).trans rfl
  have f2 : (w7.alloc (.cells #[.int .i64 0, .int .i64 0, .int .i64 0, .string ⟨#[]⟩] 27)).cell? ⟨w.heap.size + 1, 2, none⟩ = some (.int .i64 S2) := (blk_cell (blk_alloc BU7.out (.cells #[.int .i64 0, .int .i64 0, .int .i64 0, .string ⟨#[]⟩] 27)) 2).trans rfl
  have f3 : (w7.alloc (.cells #[.int .i64 0, .int .i64 0, .int .i64 0, .string ⟨#[]⟩] 27)).cell? ⟨w.heap.size + 1, 3, none⟩ = some (.string T2) := (blk_cell (blk_alloc BU7.out (.cells #[.int .i64 0, .int .i64 0, .int .i64 0, .string ⟨#[]⟩] 27)) 3).trans rfl
  go_wp2_with fail
  clear f0 f1 f2 f3
  refine (awake14 _ (Tab.below HT.out (below_alloc HB7.out (.cells #[.int .i64 0, .int .i64 0, .int .i64 0, .string ⟨#[]⟩] 27)))).mono ?_
  rintro e8 w8 ⟨rfl, hb⟩
  have BT8 := Aside0.mk (blk_below (blk_alloc BT7.out (.cells #[.int .i64 0, .int .i64 0, .int .i64 0, .string ⟨#[]⟩] 27)) hb)
  have BU8 := Aside0.mk (blk_below (blk_alloc BU7.out (.cells #[.int .i64 0, .int .i64 0, .int .i64 0, .string ⟨#[]⟩] 27)) hb)
  have BX8 := Aside0.mk (blk_below (blk_alloc BX7.out (.cells #[.int .i64 0, .int .i64 0, .int .i64 0, .string ⟨#[]⟩] 27)) hb)
  have BY8 := Aside0.mk (blk_below (blk_alloc BY7.out (.cells #[.int .i64 0, .int .i64 0, .int .i64 0, .string ⟨#[]⟩] 27)) hb)
  have BZ8 := Aside0.mk (blk_below (blk_new w7 (.cells #[.int .i64 0, .int .i64 0, .int .i64 0, .string ⟨#[]⟩] 27)) hb)
  have HB8 := Aside0.mk (below_step (below_alloc HB7.out (.cells #[.int .i64 0, .int .i64 0, .int .i64 0, .string ⟨#[]⟩] 27)) hb)
  clear hb
  have f0 : w8.cell? ⟨w5.heap.size, 0, none⟩ = some (.int .i64 k1) := (blk_cell BX8.out 0).trans rfl
  have f1 : w8.cell? ⟨w5.heap.size, 1, none⟩ = some (.int .i64 M1) := (blk_cell BX8.out 1).trans rfl
  have f2 : w8.cell? ⟨w5.heap.size, 2, none⟩ = some (.int .i64 S1) := (blk_cell BX8.out 2).trans rfl
  have f3 : w8.cell? ⟨w5.heap.size, 3, none⟩ = some (.string T1) := (blk_cell BX8.out 3).trans rfl
  have f4 : w8.cell? ⟨w.heap.size, 0, none⟩ = some (.int .i64 k1) := (blk_cell BT8.out 0).trans rfl
  have f5 : w8.cell? ⟨w.heap.size, 1, none⟩ = some (.int .i64 M1) := (blk_cell BT8.out 1).trans rfl
  have f6 : w8.cell? ⟨w.heap.size, 2, none⟩ = some (.int .i64 S1) := (blk_cell BT8.out 2).trans rfl
  have f7 : w8.cell? ⟨w.heap.size, 3, none⟩ = some (.string T1) := (blk_cell BT8.out 3).trans rfl
  have f8 : w8.cell? ⟨w6.heap.size, 0, none⟩ = some (.int .i64 0) := (blk_cell BY8.out 0).trans rfl
  have f9 : w8.cell? ⟨w6.heap.size, 1, none⟩ = some (.int .i64 M2) := (blk_cell BY8.out 1).trans rfl
  have f10 : w8.cell? ⟨w6.heap.size, 2, none⟩ = some (.int .i64 S2) := (blk_cell BY8.out 2).trans rfl
  have f11 : w8.cell? ⟨w6.heap.size, 3, none⟩ = some (.string T2) := (blk_cell BY8.out 3).trans rfl
  have f12 : w8.cell? ⟨w.heap.size + 1, 0, none⟩ = some (.int .i64 0) := (blk_cell BU8.out 0).trans rfl
  have f13 : w8.cell? ⟨w.heap.size + 1, 1, none⟩ = some (.int .i64 M2) := (blk_cell BU8.out 1).trans rfl
  have f14 : w8.cell? ⟨w.heap.size + 1, 2, none⟩ = some (.int .i64 S2) := (blk_cell BU8.out 2).trans rfl
  have f15 : w8.cell? ⟨w.heap.size + 1, 3, none⟩ = some (.string T2) := (blk_cell BU8.out 3).trans rfl
  go_wp2_with fail
  go_ret
  exact ⟨ea_, HB8.out⟩
set_option maxHeartbeats 16000000 in
set_option maxRecDepth 100000 in
theorem back_c2 (k1 M1 S1 : Int) (T1 : ByteArray) (k2 M2 S2 : Int) (T2 : ByteArray) (w : World) (hT : Tab w) (h5 : T1.size + T2.size ≤ 500) (s v : ByteArray) (hp1 : lex_Print.f 20000 k1 M1 S1 T1 = some (s, 0)) (hp2 : lex_Print.f 20000 k2 M2 S2 T2 = some (v, 0)) (hsl : s.size ≤ 2000) (hvl : v.size ≤ 2000) (X0 : ByteArray) (hX : X0 = Plain.catX s v) (K1 : Aside0 ((k1 == 0) = false)) (K2 : Aside0 ((k2 == 0) = false)) (p1 p2 : Int) (hn0 : lex_Next.f 20000 (Plain.nb X0) 0 = some (k1, M1, S1, T1, p1, 0)) (hn1 : lex_Next.f 20000 (Plain.nb X0) p1 = some (k2, M2, S2, T2, p2, 0)) (hn2 : lex_Next.f 20000 (Plain.nb X0) p2 = some (0, 0, 0, ⟨#[]⟩, ((Plain.nb X0).length : Int), 0)) :
    Calls Tryd.prog 5 #[.agg #[.int .i64 k1, .int .i64 M1, .int .i64 S1, .string T1], .agg #[.int .i64 k2, .int .i64 M2, .int .i64 S2, .string T2]] w fun e w' => e = .returned (.bool true) ∧ Below w.heap.size w w' := by
  have HN0 := Aside0.mk hn0
  have HN1 := Aside0.mk hn1
  have HN2 := Aside0.mk hn2
  clear hn0 hn1 hn2
  have e1 := K1.out
  have e2 := K2.out
  have HT := Aside0.mk hT
  clear hT
  have HP1 := Aside0.mk hp1
  have HP2 := Aside0.mk hp2
  clear hp1 hp2
  have hwr : wrap64 ((T1.size : Int) + (T2.size : Int)) = (T1.size : Int) + (T2.size : Int) := Plain.wsm _ (by omega) (by omega)
  have a0 : decide (500 < (T1.size : Int) + (T2.size : Int)) = false := decide_eq_false (by omega)
  have H5 := Aside0.mk h5
  clear h5
  have HB2 := Aside0.mk (below_alloc (below_alloc (Below.refl w.heap.size w) (.cells #[.int .i64 k1, .int .i64 M1, .int .i64 S1, .string T1] 27)) (.cells #[.int .i64 k2, .int .i64 M2, .int .i64 S2, .string T2] 27))
  have BT2 := Aside0.mk (blk_alloc (blk_new w (.cells #[.int .i64 k1, .int .i64 M1, .int .i64 S1, .string T1] 27)) (.cells #[.int .i64 k2, .int .i64 M2, .int .i64 S2, .string T2] 27))
  have BU2 := Aside0.mk (show ((w.alloc (.cells #[.int .i64 k1, .int .i64 M1, .int .i64 S1, .string T1] 27)).alloc (.cells #[.int .i64 k2, .int .i64 M2, .int .i64 S2, .string T2] 27)).heap[w.heap.size + 1]? = some (.cells #[.int .i64 k2, .int .i64 M2, .int .i64 S2, .string T2] 27 (0, 0)) from by have h := blk_new (w.alloc (.cells #[.int .i64 k1, .int .i64 M1, .int .i64 S1, .string T1] 27)) (.cells #[.int .i64 k2, .int .i64 M2, .int .i64 S2, .string T2] 27); rw [World.size_alloc] at h; exact h)
  go_enter Tryd.func5, Tryd.ntmps5
  go_wp2_with fail
  refine (lex_Print.calls 20000 k1 M1 S1 T1 _ 0 _ (Tab.below HT.out HB2.out) HP1.out).mono ?_
  rintro e3 w3 ⟨rfl, hb⟩
  have HB3 := Aside0.mk (below_step HB2.out hb)
  have BT3 := Aside0.mk (blk_below BT2.out hb)
  have BU3 := Aside0.mk (blk_below BU2.out hb)
  clear HB2 BT2 BU2 hb
  have x0 : w3.cell? ⟨w.heap.size + 1, 0, none⟩ = some (.int .i64 k2) := (blk_cell BU3.out 0).trans rfl
  have x1 : w3.cell? ⟨w.heap.size + 1, 1, none⟩ = some (.int .i64 M2) := (blk_cell BU3.out 1).trans rfl
  have x2 : w3.cell? ⟨w.heap.size + 1, 2, none⟩ = some (.int .i64 S2) := (blk_cell BU3.out 2).trans rfl
  have x3 : w3.cell? ⟨w.heap.size + 1, 3, none⟩ = some (.string T2) := (blk_cell BU3.out 3).trans rfl
  go_wp2_with fail
  refine (lex_Print.calls 20000 k2 M2 S2 T2 _ 0 _ (Tab.below HT.out (by first | exact HB3.out | exact pw_below_drewN HB3.out _)) HP2.out).mono ?_
  rintro e4 w4 ⟨rfl, hb⟩
  have HB4 := Aside0.mk (below_step (by first | exact HB3.out | exact pw_below_drewN HB3.out _) hb)
  have BT4 := Aside0.mk (blk_below (by first | exact BT3.out | exact blk_drewN BT3.out _) hb)
  have BU4 := Aside0.mk (blk_below (by first | exact BU3.out | exact blk_drewN BU3.out _) hb)
  clear HB3 BT3 BU3 hb x0 x1 x2 x3
  obtain ⟨X, hX2⟩ : ∃ X : ByteArray, X = ((((⟨#[32, 37, 120, 10]⟩ : ByteArray) ++ s) ++ (⟨#[10, 9, 37, 41, 13]⟩ : ByteArray)) ++ v) ++ (⟨#[32]⟩ : ByteArray) := ⟨_, rfl⟩
  obtain rfl : X0 = X := hX.trans hX2.symm
  have hcv := run_lay X0 _ hX2
  have HS := Aside0.mk (show X0.size ≤ 9223372036854775807 from by rw [hX2]; simp only [ByteArray.size_append]; show 4 + s.size + 5 + v.size + 1 ≤ _; omega)
  clear hX hX2
  have z1 : (9223372036854775807 < 4 + s.size) = False := eq_false (by omega)
  have z2 : (9223372036854775807 < 4 + s.size + 5) = False := eq_false (by omega)
  have z3 : (9223372036854775807 < 4 + s.size + 5 + v.size) = False := eq_false (by omega)
  have z4 : (9223372036854775807 < 4 + s.size + 5 + v.size + 1) = False := eq_false (by omega)
  clear hsl hvl
  go_wp2_with fail
  have HC4 := Aside0.mk (C_lay X0 w4 HS.out)
  have BTL := Aside0.mk (blk_lay X0 BT4.out)
  have BUL := Aside0.mk (blk_lay X0 BU4.out)
  have HBL := Aside0.mk (below_lay X0 HB4.out)
  have HCAP := Aside0.mk (cap_lay X0 w4)
  clear hcv BT4 BU4 HB4
  generalize layB X0 w4 = wL at HC4 BTL BUL HBL ⊢
  generalize capB X0 w4 = cL at HCAP ⊢
  generalize w4.heap.size = gL at HC4 ⊢
  refine (lex_Next.calls 20000 (some ⟨gL, 0, none⟩) cL (Plain.nb X0) 0 k1 M1 S1 T1 p1 0 _ HC4.out HCAP.out HN0.out).mono ?_
  rintro e5 w5 ⟨rfl, hb⟩
  have HC5 := Aside0.mk (Kd.C_below HC4.out hb)
  have BT5 := Aside0.mk (blk_below BTL.out hb)
  have BU5 := Aside0.mk (blk_below BUL.out hb)
  have HB5 := Aside0.mk (below_step HBL.out hb)
  clear hb
  have f0 : (w5.alloc (.cells #[.int .i64 k1, .int .i64 M1, .int .i64 S1, .string T1] 27)).cell? ⟨w.heap.size, 0, none⟩ = some (.int .i64 k1) := (blk_cell (blk_alloc BT5.out (.cells #[.int .i64 k1, .int .i64 M1, .int .i64 S1, .string T1] 27)) 0).trans rfl
  have f1 : (w5.alloc (.cells #[.int .i64 k1, .int .i64 M1, .int .i64 S1, .string T1] 27)).cell? ⟨w.heap.size, 1, none⟩ = some (.int .i64 M1) := (blk_cell (blk_alloc BT5.out (.cells #[.int .i64 k1, .int .i64 M1, .int .i64 S1, .string T1] 27)) 1).trans rfl
  have f2 : (w5.alloc (.cells #[.int .i64 k1, .int .i64 M1, .int .i64 S1, .string T1] 27)).cell? ⟨w.heap.size, 2, none⟩ = some (.int .i64 S1) := (blk_cell (blk_alloc BT5.out (.cells #[.int .i64 k1, .int .i64 M1, .int .i64 S1, .string T1] 27)) 2).trans rfl
  have f3 : (w5.alloc (.cells #[.int .i64 k1, .int .i64 M1, .int .i64 S1, .string T1] 27)).cell? ⟨w.heap.size, 3, none⟩ = some (.string T1) := (blk_cell (blk_alloc BT5.out (.cells #[.int .i64 k1, .int .i64 M1, .int .i64 S1, .string T1] 27)) 3).trans rfl
  go_wp2_with fail
  clear f0 f1 f2 f3
  refine (lex_Next.calls 20000 (some ⟨gL, 0, none⟩) cL (Plain.nb X0) p1 k2 M2 S2 T2 p2 0 _ (Kd.C_alloc HC5.out (.cells #[.int .i64 k1, .int .i64 M1, .int .i64 S1, .string T1] 27)) HCAP.out HN1.out).mono ?_
  rintro e6 w6 ⟨rfl, hb⟩
  have HC6 := Aside0.mk (Kd.C_below (Kd.C_alloc HC5.out (.cells #[.int .i64 k1, .int .i64 M1, .int .i64 S1, .string T1] 27)) hb)
  have BT6 := Aside0.mk (blk_below (blk_alloc BT5.out (.cells #[.int .i64 k1, .int .i64 M1, .int .i64 S1, .string T1] 27)) hb)
  have BU6 := Aside0.mk (blk_below (blk_alloc BU5.out (.cells #[.int .i64 k1, .int .i64 M1, .int .i64 S1, .string T1] 27)) hb)
  have BX6 := Aside0.mk (blk_below (blk_new w5 (.cells #[.int .i64 k1, .int .i64 M1, .int .i64 S1, .string T1] 27)) hb)
  have HB6 := Aside0.mk (below_step (below_alloc HB5.out (.cells #[.int .i64 k1, .int .i64 M1, .int .i64 S1, .string T1] 27)) hb)
  clear hb
  go_wp2_with fail
  refine (lex_Next.calls 20000 (some ⟨gL, 0, none⟩) cL (Plain.nb X0) p2 0 0 0 ⟨#[]⟩ ((Plain.nb X0).length : Int) 0 _ (Kd.C_alloc HC6.out (.cells #[.int .i64 k2, .int .i64 M2, .int .i64 S2, .string T2] 27)) HCAP.out HN2.out).mono ?_
  rintro e7 w7 ⟨rfl, hb⟩
  have HC7 := Aside0.mk (Kd.C_below (Kd.C_alloc HC6.out (.cells #[.int .i64 k2, .int .i64 M2, .int .i64 S2, .string T2] 27)) hb)
  have BT7 := Aside0.mk (blk_below (blk_alloc BT6.out (.cells #[.int .i64 k2, .int .i64 M2, .int .i64 S2, .string T2] 27)) hb)
  have BU7 := Aside0.mk (blk_below (blk_alloc BU6.out (.cells #[.int .i64 k2, .int .i64 M2, .int .i64 S2, .string T2] 27)) hb)
  have BX7 := Aside0.mk (blk_below (blk_alloc BX6.out (.cells #[.int .i64 k2, .int .i64 M2, .int .i64 S2, .string T2] 27)) hb)
  have BY7 := Aside0.mk (blk_below (blk_new w6 (.cells #[.int .i64 k2, .int .i64 M2, .int .i64 S2, .string T2] 27)) hb)
  have HB7 := Aside0.mk (below_step (below_alloc HB6.out (.cells #[.int .i64 k2, .int .i64 M2, .int .i64 S2, .string T2] 27)) hb)
  clear hb
  have f0 : (w7.alloc (.cells #[.int .i64 0, .int .i64 0, .int .i64 0, .string ⟨#[]⟩] 27)).cell? ⟨w.heap.size + 1, 0, none⟩ = some (.int .i64 k2) := (blk_cell (blk_alloc BU7.out (.cells #[.int .i64 0, .int .i64 0, .int .i64 0, .string ⟨#[]⟩] 27)) 0).trans rfl
  have f1 : (w7.alloc (.cells #[.int .i64 0, .int .i64 0, .int .i64 0, .string ⟨#[]⟩] 27)).cell? ⟨w.heap.size + 1, 1, none⟩ = some (.int .i64 M2) := (blk_cell (blk_alloc BU7.out (.cells #[.int .i64 0, .int .i64 0, .int .i64 0, .string ⟨#[]⟩] 27)) 1).trans rfl
  have f2 : (w7.alloc (.cells #[.int .i64 0, .int .i64 0, .int .i64 0, .string ⟨#[]⟩] 27)).cell? ⟨w.heap.size + 1, 2, none⟩ = some (.int .i64 S2) := (blk_cell (blk_alloc BU7.out (.cells #[.int .i64 0, .int .i64 0, .int .i64 0, .string ⟨#[]⟩] 27)) 2).trans rfl
  have f3 : (w7.alloc (.cells #[.int .i64 0, .int .i64 0, .int .i64 0, .string ⟨#[]⟩] 27)).cell? ⟨w.heap.size + 1, 3, none⟩ = some (.string T2) := (blk_cell (blk_alloc BU7.out (.cells #[.int .i64 0, .int .i64 0, .int .i64 0, .string ⟨#[]⟩] 27)) 3).trans rfl
  go_wp2_with fail
  clear f0 f1 f2 f3
  refine (awake14 _ (Tab.below HT.out (below_alloc HB7.out (.cells #[.int .i64 0, .int .i64 0, .int .i64 0, .string ⟨#[]⟩] 27)))).mono ?_
  rintro e8 w8 ⟨rfl, hb⟩
  have BT8 := Aside0.mk (blk_below (blk_alloc BT7.out (.cells #[.int .i64 0, .int .i64 0, .int .i64 0, .string ⟨#[]⟩] 27)) hb)
  have BU8 := Aside0.mk (blk_below (blk_alloc BU7.out (.cells #[.int .i64 0, .int .i64 0, .int .i64 0, .string ⟨#[]⟩] 27)) hb)
  have BX8 := Aside0.mk (blk_below (blk_alloc BX7.out (.cells #[.int .i64 0, .int .i64 0, .int .i64 0, .string ⟨#[]⟩] 27)) hb)
  have BY8 := Aside0.mk (blk_below (blk_alloc BY7.out (.cells #[.int .i64 0, .int .i64 0, .int .i64 0, .string ⟨#[]⟩] 27)) hb)
  have BZ8 := Aside0.mk (blk_below (blk_new w7 (.cells #[.int .i64 0, .int .i64 0, .int .i64 0, .string ⟨#[]⟩] 27)) hb)
  have HB8 := Aside0.mk (below_step (below_alloc HB7.out (.cells #[.int .i64 0, .int .i64 0, .int .i64 0, .string ⟨#[]⟩] 27)) hb)
  clear hb
  have f0 : w8.cell? ⟨w5.heap.size, 0, none⟩ = some (.int .i64 k1) := (blk_cell BX8.out 0).trans rfl
  have f1 : w8.cell? ⟨w5.heap.size, 1, none⟩ = some (.int .i64 M1) := (blk_cell BX8.out 1).trans rfl
  have f2 : w8.cell? ⟨w5.heap.size, 2, none⟩ = some (.int .i64 S1) := (blk_cell BX8.out 2).trans rfl
  have f3 : w8.cell? ⟨w5.heap.size, 3, none⟩ = some (.string T1) := (blk_cell BX8.out 3).trans rfl
  have f4 : w8.cell? ⟨w.heap.size, 0, none⟩ = some (.int .i64 k1) := (blk_cell BT8.out 0).trans rfl
  have f5 : w8.cell? ⟨w.heap.size, 1, none⟩ = some (.int .i64 M1) := (blk_cell BT8.out 1).trans rfl
  have f6 : w8.cell? ⟨w.heap.size, 2, none⟩ = some (.int .i64 S1) := (blk_cell BT8.out 2).trans rfl
  have f7 : w8.cell? ⟨w.heap.size, 3, none⟩ = some (.string T1) := (blk_cell BT8.out 3).trans rfl
  have f8 : w8.cell? ⟨w6.heap.size, 0, none⟩ = some (.int .i64 k2) := (blk_cell BY8.out 0).trans rfl
  have f9 : w8.cell? ⟨w6.heap.size, 1, none⟩ = some (.int .i64 M2) := (blk_cell BY8.out 1).trans rfl
  have f10 : w8.cell? ⟨w6.heap.size, 2, none⟩ = some (.int .i64 S2) := (blk_cell BY8.out 2).trans rfl
  have f11 : w8.cell? ⟨w6.heap.size, 3, none⟩ = some (.string T2) := (blk_cell BY8.out 3).trans rfl
  have f12 : w8.cell? ⟨w.heap.size + 1, 0, none⟩ = some (.int .i64 k2) := (blk_cell BU8.out 0).trans rfl
  have f13 : w8.cell? ⟨w.heap.size + 1, 1, none⟩ = some (.int .i64 M2) := (blk_cell BU8.out 1).trans rfl
  have f14 : w8.cell? ⟨w.heap.size + 1, 2, none⟩ = some (.int .i64 S2) := (blk_cell BU8.out 2).trans rfl
  have f15 : w8.cell? ⟨w.heap.size + 1, 3, none⟩ = some (.string T2) := (blk_cell BU8.out 3).trans rfl
  have f16 : w8.cell? ⟨w7.heap.size, 0, none⟩ = some (.int .i64 0) := (blk_cell BZ8.out 0).trans rfl
  have f17 : w8.cell? ⟨w7.heap.size, 1, none⟩ = some (.int .i64 0) := (blk_cell BZ8.out 1).trans rfl
  have f18 : w8.cell? ⟨w7.heap.size, 2, none⟩ = some (.int .i64 0) := (blk_cell BZ8.out 2).trans rfl
  have f19 : w8.cell? ⟨w7.heap.size, 3, none⟩ = some (.string ⟨#[]⟩) := (blk_cell BZ8.out 3).trans rfl
  go_wp2_with fail
  go_ret
  exact ⟨ea_, HB8.out⟩
def erasurelaw14_LexBack.f (a0_0 : Int) (a0_1 : Int) (a0_2 : Int) (a0_3 : ByteArray) (a1_0 : Int) (a1_1 : Int) (a1_2 : Int) (a1_3 : ByteArray) : Option Bool := if a0_3.size + a1_3.size ≤ 281474976702464 then some true else none
theorem erasurelaw14_LexBack.calls (a0_0 : Int) (a0_1 : Int) (a0_2 : Int) (a0_3 : ByteArray) (a1_0 : Int) (a1_1 : Int) (a1_2 : Int) (a1_3 : ByteArray) (r : Bool) (w : World) (hT : Tab w) (h : erasurelaw14_LexBack.f a0_0 a0_1 a0_2 a0_3 a1_0 a1_1 a1_2 a1_3 = some r) :
    Calls Tryd.prog 5 #[.agg #[.int .i64 a0_0, .int .i64 a0_1, .int .i64 a0_2, .string a0_3], .agg #[.int .i64 a1_0, .int .i64 a1_1, .int .i64 a1_2, .string a1_3]] w fun e w' => e = .returned (.bool r) ∧ Below w.heap.size w w' := by
  unfold erasurelaw14_LexBack.f at h
  by_cases hs : a0_3.size + a1_3.size ≤ 281474976702464
  · rw [if_pos hs] at h
    obtain rfl := Option.some.inj h
    by_cases h5 : 500 < a0_3.size + a1_3.size
    · exact back_far _ _ _ _ _ _ _ _ w hT hs h5
    have h5 : a0_3.size + a1_3.size ≤ 500 := by omega
    have p1 := Plain.print_lex a0_0 a0_1 a0_2 a0_3 (by omega) 20000 (by decide)
    have p2 := Plain.print_lex a1_0 a1_1 a1_2 a1_3 (by omega) 20000 (by decide)
    unfold Plain.prR at p1 p2
    by_cases r1 : Plain.RightT a0_0 a0_1 a0_2 (Plain.nb a0_3)
    · rw [if_pos r1] at p1
      by_cases r2 : Plain.RightT a1_0 a1_1 a1_2 (Plain.nb a1_3)
      · rw [if_pos r2] at p2
        obtain ⟨_, l1⟩ := Plain.pr_okB _ _ _ _ (Plain.i8_ok _) r1
        obtain ⟨_, l2⟩ := Plain.pr_okB _ _ _ _ (Plain.i8_ok _) r2
        have e1 : (Plain.I8 a0_3.data.toList).length = a0_3.size := Plain.nb_len a0_3
        have e2 : (Plain.I8 a1_3.data.toList).length = a1_3.size := Plain.nb_len a1_3
        rw [e1] at l1
        rw [e2] at l2
        have s1 : (Plain.bs (Plain.prL a0_0 a0_1 a0_2 (Plain.nb a0_3))).size ≤ 2000 := by rw [Plain.bs_len]; exact Nat.le_trans l1 (by omega)
        have s2 : (Plain.bs (Plain.prL a1_0 a1_1 a1_2 (Plain.nb a1_3))).size ≤ 2000 := by rw [Plain.bs_len]; exact Nat.le_trans l2 (by omega)
        obtain ⟨n0, n1⟩ := Plain.back_next a0_0 a0_1 a0_2 a0_3 a1_0 a1_1 a1_2 a1_3 r1 r2 h5 _ rfl
        by_cases k1 : a0_0 = 0
        · obtain ⟨q1, v1⟩ := n0 k1
          subst k1
          exact back_c0 a0_1 a0_2 a0_3 a1_0 a1_1 a1_2 a1_3 w hT h5 _ _ p1 p2 s1 s2 _ rfl q1 v1
        · obtain ⟨q1, q2, v1, v2, v3⟩ := n1 k1
          by_cases k2 : a1_0 = 0
          · subst k2
            exact back_c1 a0_0 a0_1 a0_2 a0_3 a1_1 a1_2 a1_3 w hT h5 _ _ p1 p2 s1 s2 _ rfl ⟨beq_eq_false_iff_ne.2 k1⟩ q1 q2 v1 v2 v3
          · exact back_c2 a0_0 a0_1 a0_2 a0_3 a1_0 a1_1 a1_2 a1_3 w hT h5 _ _ p1 p2 s1 s2 _ rfl ⟨beq_eq_false_iff_ne.2 k1⟩ ⟨beq_eq_false_iff_ne.2 k2⟩ q1 q2 v1 v2 v3
      · rw [if_neg r2] at p2
        exact back_b3 _ _ _ _ _ _ _ _ w hT h5 _ _ p1 p2 rfl
    · rw [if_neg r1] at p1
      by_cases r2 : Plain.RightT a1_0 a1_1 a1_2 (Plain.nb a1_3)
      · rw [if_pos r2] at p2
        exact back_b1 _ _ _ _ _ _ _ _ w hT h5 _ _ p1 p2 rfl
      · rw [if_neg r2] at p2
        exact back_b2 _ _ _ _ _ _ _ _ w hT h5 _ _ p1 p2 rfl rfl
  · rw [if_neg hs] at h
    cases h
end Go.Proofs.YtnhgnejfagncpaaDoor.V
end
section
namespace Go.Proofs.YtnhgnejfagncpaaDoor.Pure
open Go.RowKit
theorem LexBack (a0_0 : Int) (a0_1 : Int) (a0_2 : Int) (a0_3 : ByteArray) (a1_0 : Int) (a1_1 : Int) (a1_2 : Int) (a1_3 : ByteArray) : a0_3.size ≤ 140737488351232 → a1_3.size ≤ 140737488351232 → ∃ k : Nat, V.erasurelaw14_LexBack.f a0_0 a0_1 a0_2 a0_3 a1_0 a1_1 a1_2 a1_3 = some true := fun h0 h1 => ⟨0, by
  unfold V.erasurelaw14_LexBack.f
  rw [if_pos (by omega)]⟩
end Go.Proofs.YtnhgnejfagncpaaDoor.Pure
end
section
namespace Go.Proofs.YtnhgnejfagncpaaDoor.Opened
open Go.ChangeShapes Go.WideShapes Go.RowKit Go.Deep
open Go.Proofs.YtnhgnejfagncpaaDoorW.PrintWords
set_option linter.unusedVariables false
section
variable {H : Type} {enc : TypeId × Value → H} {P : Program} {w : World} {base : Nat} {spare : Nat → Bool} {held : Bool}
def Rd {α : Type} (enc : TypeId × Value → H) (P : Program) (w : World) (base : Nat) (spare : Nat → Bool) (held : Bool) (n : Nat) (t : TypeId) (K : Kd α) (Wf : α → Prop) : Prop :=
  ∀ m, m ≤ n → ∀ cs x, DataW.trod enc P w base spare held m t cs = some x → ∃ p, K.K w p cs ∧ Wf p
theorem Rd.mono {α : Type} {n n' : Nat} {t : TypeId} {K : Kd α} {Wf : α → Prop} (h : Rd enc P w base spare held n t K Wf) (hn : n' ≤ n) : Rd enc P w base spare held n' t K Wf := fun m hm => h m (Nat.le_trans hm hn)
theorem Rd.zero {α : Type} {t : TypeId} {K : Kd α} {Wf : α → Prop} : Rd enc P w base spare held 0 t K Wf := fun m hm cs x h => by
  obtain rfl : m = 0 := by omega
  simp [DataW.trod] at h
theorem rd_int {n : Nat} {t : TypeId} {k : IntKind} (ht : P.underlying t = some (.int k)) : Rd enc P w base spare held n t (Kd.int k) (fun x => (Lit.int k x).wf = true) := fun m _ cs x h => by
  obtain ⟨v, rfl, _, hw⟩ := DataW.trod_int ht h
  exact ⟨v, rfl, hw⟩
theorem rd_string {n : Nat} {t : TypeId} (ht : P.underlying t = some .string) : Rd enc P w base spare held n t Kd.string (fun s => s.size ≤ maxLen) := fun m _ cs x h => by
  obtain ⟨v, rfl, _, hw⟩ := DataW.trod_string ht h
  exact ⟨v, rfl, hw⟩
def RdF {α : Type} (enc : TypeId × Value → H) (P : Program) (w : World) (base : Nat) (spare : Nat → Bool) (held : Bool) (n : Nat) (fs : Array Field) (i o : Nat) (K : Kd α) (Wf : α → Prop) : Prop :=
  ∀ m, m ≤ n → ∀ cs : List Value, cs.length = o + K.sz → (∀ j f, i ≤ j → fs[j]? = some f → ∃ x, DataW.trod enc P w base spare held m f.type ((cs.drop f.offset).take (P.cellsOf f.type)) = some x) → ∃ p, K.K w p (cs.drop o) ∧ Wf p
theorem rdF_one {α : Type} {n : Nat} {fs : Array Field} {i o : Nat} {f : Field} {K : Kd α} {Wf : α → Prop} (hf : fs[i]? = some f) (ho : f.offset = o) (hc : P.cellsOf f.type = K.sz) (h : Rd enc P w base spare held n f.type K Wf) : RdF enc P w base spare held n fs i o K Wf := fun m hm cs hl hx => by
  obtain ⟨x, hx⟩ := hx i f (Nat.le_refl _) hf
  obtain ⟨p, hp, hw⟩ := h m hm _ _ hx
  rw [ho, hc, List.take_of_length_le (by rw [List.length_drop]; omega)] at hp
  exact ⟨p, hp, hw⟩
theorem rdF_cons {α β : Type} {n : Nat} {fs : Array Field} {i o : Nat} {f : Field} {K : Kd α} {Wf : α → Prop} {L : Kd β} {Wl : β → Prop} (hf : fs[i]? = some f) (ho : f.offset = o) (hc : P.cellsOf f.type = K.sz) (h : Rd enc P w base spare held n f.type K Wf)
    (hr : RdF enc P w base spare held n fs (i + 1) (o + K.sz) L Wl) : RdF enc P w base spare held n fs i o (Kd.pair K L) (fun p => Wf p.1 ∧ Wl p.2) := fun m hm cs hl hx => by
  obtain ⟨x, hx0⟩ := hx i f (Nat.le_refl _) hf
  obtain ⟨p, hp, hw⟩ := h m hm _ _ hx0
  have hl' : cs.length = o + (K.sz + L.sz) := hl
  obtain ⟨q, hq, hwq⟩ := hr m hm cs (by omega) (fun j g hj hg => hx j g (by omega) hg)
  rw [ho, hc] at hp
  refine ⟨(p, q), ⟨(cs.drop o).take K.sz, cs.drop (o + K.sz), ?_, hp, hq⟩, hw, hwq⟩
  rw [← List.drop_drop, List.take_append_drop]
theorem rd_struct {α β : Type} {n : Nat} {t : TypeId} {fs : Array Field} {K : Kd α} {Wf : α → Prop} (f : β → α) (g : α → β) (hfg : ∀ p, f (g p) = p) (ht : P.underlying t = some (.struct fs)) (hc : P.cellsOf t = K.sz) (h : RdF enc P w base spare held n fs 0 0 K Wf) :
    Rd enc P w base spare held (n + 1) t (Kd.iso K f) (fun x => Wf (f x)) := fun m hm cs x hx => by
  obtain ⟨xs, m', rfl, _, hl, hxl, hi⟩ := DataW.trod_struct ht hx
  obtain ⟨p, hp, hw⟩ := h m' (by omega) cs (by rw [hl, hc, Nat.zero_add]) (fun j f _ hf => by
    have := hi j f hf
    obtain ⟨hj, _⟩ := Array.getElem?_eq_some_iff.1 hf
    exact ⟨_, this.trans (List.getElem?_eq_getElem (by omega))⟩)
  refine ⟨g p, ?_, ?_⟩
  · show K.K w (f (g p)) cs
    rw [hfg]
    exact hp
  · show Wf (f (g p))
    rw [hfg]
    exact hw
theorem rd_tuple {α : Type} {n : Nat} {t : TypeId} {fs : Array Field} {K : Kd α} {Wf : α → Prop} (ht : P.underlying t = some (.struct fs)) (hc : P.cellsOf t = K.sz) (h : RdF enc P w base spare held n fs 0 0 K Wf) :
    Rd enc P w base spare held (n + 1) t K Wf := rd_struct (K := K) id id (fun _ => rfl) ht hc h
theorem rd_val {α : Type} {t : TypeId} {K : Kd α} {Wf : α → Prop} {v : Value} {d : DataW H} {ps : List MemPlace} (h : DataW.Trod enc P w base spare held t v d ps) (hr : ∀ n, Rd enc P w base spare held n t K Wf) : ∃ p, K.K w p v.cells.toList ∧ Wf p := by
  obtain ⟨fuel, hf⟩ := h
  exact hr fuel fuel (Nat.le_refl _) _ _ hf
theorem Rd.all {α : Type} {n : Nat} {t : TypeId} {K : Kd α} {Wf : α → Prop} (h : Rd enc P w base spare held (n + 1) t K Wf) : Rd enc P w base spare held n t K Wf := h.mono (Nat.le_succ _)
end
end Go.Proofs.YtnhgnejfagncpaaDoor.Opened
end
section
namespace Go.Proofs.YtnhgnejfagncpaaDoor.H
open Go.RowKit
theorem pow10_data : (Rows.laid_internal_strconv_uint64pow10 : DataW Unit) = Lib.tabData .u64 Lib.pow10Tab := by kernel_rfl
theorem tab_of_laid {W : World} (h : laidMetH Tryd.prog [("math/bits.deBruijn32tab", Rows.laid_math_bits_deBruijn32tab), ("math/bits.deBruijn64tab", Rows.laid_math_bits_deBruijn64tab), ("internal/strconv.uint64pow10", Rows.laid_internal_strconv_uint64pow10), ("unicode/utf8.acceptRanges", Rows.laid_unicode_utf8_acceptRanges), ("unicode/utf8.first", Rows.laid_unicode_utf8_first)] W) : Tab W := by
  have h1 := laidMetH.filter (fun x => x.1 == "internal/strconv.uint64pow10") h
  have h2 : laidMetH Tryd.prog [("internal/strconv.uint64pow10", Rows.laid_internal_strconv_uint64pow10)] W := h1
  rw [MakeChecks.laidMetH_plain _ _ _ (by kernel_rfl), pow10_data] at h2
  exact Lib.tabIs_of_head (g := 3) (t := 157) (by kernel_rfl) (by kernel_rfl) Tryd.underlying157 Tryd.underlying75 (by kernel_rfl) (by kernel_rfl) h2
end Go.Proofs.YtnhgnejfagncpaaDoor.H
end
section
namespace Go.Proofs.YtnhgnejfagncpaaDoor.Opened
open Go
set_option maxRecDepth 100000 in
theorem tok_size {H : Type} {enc : TypeId × Value → H} {W : World} {base : Nat} {spare : Nat → Bool} {held : Bool} {k M S : Int} {T : ByteArray} {d : DataW H} {ps : List MemPlace}
    (h : DataW.Trod enc Tryd.prog W base spare held 27 (.agg #[.int .i64 k, .int .i64 M, .int .i64 S, .string T]) d ps) : T.size ∈ d.weights Tryd.prog 27 := by
  obtain ⟨fuel, hf⟩ := h
  obtain ⟨xs, n, _, hx, hl, hlen, hfs⟩ := DataW.trod_struct Tryd.underlying27 hf
  obtain ⟨y0, y1, y2, rfl⟩ : ∃ y0 y1 y2, xs = [y0, y1, y2] := by
    match xs, hlen with
    | [y0, y1, y2], _ => exact ⟨y0, y1, y2, rfl⟩
  have f2 := hfs 2 _ rfl
  have hcs : ((Value.agg #[.int .i64 k, .int .i64 M, .int .i64 S, .string T]).cells.toList.drop 3).take (Tryd.prog.cellsOf 9) = [.string T] := by
    rw [show Tryd.prog.cellsOf 9 = 1 from by kernel_rfl]
    rfl
  have f2' : DataW.trod enc Tryd.prog W base spare held n 9 [.string T] = some y2 := by rw [← hcs]; simpa using f2
  obtain ⟨v, hv, hy, _⟩ := DataW.trod_string Tryd.underlying9 f2'
  obtain rfl : T = v := by injection hv with h1 h2; injection h1
  have hd : d = .agg [y0.1, y1.1, y2.1] := by injection hx with h1 h2
  have hy1 : y2.1 = .lit (.string T.data.toList) := by rw [hy]
  rw [hd, hy1]
  simp [DataW.weights, DataW.weightsEach, Tryd.underlying27]
theorem tok_sized {H : Type} {enc : TypeId × Value → H} {W : World} {base : Nat} {spare : Nat → Bool} {held : Bool} {k M S : Int} {T : ByteArray} {d : DataW H} {ps : List MemPlace} {ts : List TypeId} {ds : List (DataW H)} {j : Nat}
    (hsz : (DataW.weightsEach Tryd.prog ts ds).all (· ≤ reachBytes) = true) (ht : ts[j]? = some 27) (hd : ds[j]? = some d)
    (h : DataW.Trod enc Tryd.prog W base spare held 27 (.agg #[.int .i64 k, .int .i64 M, .int .i64 S, .string T]) d ps) : T.size ≤ 140737488351232 := by
  have := List.all_eq_true.1 hsz _ (DataW.weights_mem_each ht hd T.size (tok_size h))
  have h2 : T.size ≤ reachBytes := by simpa using this
  exact Nat.le_trans h2 (by decide)
end Go.Proofs.YtnhgnejfagncpaaDoor.Opened
end
