-- written by my own driver of the kit's print (wip/tools/myprint.py); Lean checks it.
import Derived.Test.YtdkckjiccpdkbaaDoorG0
import Derived.Test.YtdkckjiccpdkbaaDoorG1
import Derived.Test.YtdkckjiccpdkbaaDoorG2
import Derived.Test.YtdkckjiccpdkbaaDoorG4
import Derived.Test.YtdkckjiccpdkbaaDoorG5
import Derived.Test.YtdkckjiccpdkbaaDoorG6
import Derived.Test.YtdkckjiccpdkbaaDoorB1
import Derived.Test.YtdkckjiccpdkbaaDoorB2
import Derived.Test.YtdkckjiccpdkbaaDoorB3
import Derived.Test.YtdkckjiccpdkbaaDoorH2
namespace Go.Proofs.YtdkckjiccpdkbaaDoor.G
open Go.RowKit Go.Proofs.YtdkckjiccpdkbaaDoorW.PrintWords Go.Proofs.YtdkckjiccpdkbaaDoorW.PrintLast Go.Proofs.YtdkckjiccpdkbaaDoorW.PrintMore Go.Proofs.YtdkckjiccpdkbaaDoor.H Go.Proofs.YtdkckjiccpdkbaaDoor.A Go.Proofs.YtdkckjiccpdkbaaDoor.B Go.Proofs.YtdkckjiccpdkbaaDoor.E
attribute [local go_sem] max2_int min2_int max_two min_two max_three min_three max_four min_four   -- for this text's walks alone
set_option linter.unusedVariables false
set_option linter.unusedSimpArgs false
attribute [local go_sem high] eqA23
def erasurelaw01_DecDoes.f (k : Nat) (a0_0 : Int) (a0_1 : Int) (a1_0 : Int) (a1_1 : Int) : Option (Bool) := (dec_Print.f k a0_0 a0_1).bind fun bt377 => ((erasureref01_Print.f k a0_0 a0_1).bind fun bt379 => ((dec_Add.f k a0_0 a0_1 a1_0 a1_1).bind fun bt381 => ((erasureref01_Add.f k a0_0 a0_1 a1_0 a1_1).bind fun bt385 => ((dec_Mul.f k a0_0 a0_1 a1_0 a1_1).bind fun bt389 => ((erasureref01_Mul.f k a0_0 a0_1 a1_0 a1_1).bind fun bt393 => ((dec_Compare.f k a0_0 a0_1 a1_0 a1_1).bind fun bt397 => ((erasureref01_Compare.f k a0_0 a0_1 a1_0 a1_1).bind fun bt399 => ((dec_Neg.f a0_0 a0_1).bind fun bt401 => ((erasureref01_Neg.f a0_0 a0_1).bind fun bt405 => ((erasurelaw01_awake.f).bind fun t409 => (if t409 = true then ((dec_Check.f a0_0 a0_1).bind fun t410 => ((erasureref01_Right.f a0_0 a0_1).bind fun t411 => (if ((t410 == 0) == t411) = true then (if bt377.1.toList = bt379.1.toList then (if bt377.2 = bt379.2 then (if (bt381.1 == bt385.1 && (bt381.2.1 == bt385.2.1)) = true then (if bt381.2.2 = bt385.2.2 then (if (bt389.1 == bt393.1 && (bt389.2.1 == bt393.2.1)) = true then (if bt389.2.2 = bt393.2.2 then (if bt397.1 = bt399.1 then (if bt397.2 = bt399.2 then (if (bt401.1 == bt405.1 && (bt401.2.1 == bt405.2.1)) = true then (some (bt401.2.2 == bt405.2.2)) else (none)) else (none)) else (none)) else (none)) else (none)) else (none)) else (none)) else (none)) else (none)) else (none)))) else (none))))))))))))
theorem erasurelaw01_DecDoes.mono : ∀ a0 a1 a2 a3 k, LeO (erasurelaw01_DecDoes.f k a0 a1 a2 a3) (erasurelaw01_DecDoes.f (k + 1) a0 a1 a2 a3) := by
 intro a0 a1 a2 a3 k
 unfold erasurelaw01_DecDoes.f
 repeat' first
   | (with_reducible exact dec_Add.mono _ _ _ _ _)
   | (with_reducible exact dec_Compare.mono _ _ _ _ _)
   | (with_reducible exact dec_Mul.mono _ _ _ _ _)
   | (with_reducible exact dec_Print.mono _ _ _)
   | (with_reducible exact erasureref01_Add.mono _ _ _ _ _)
   | (with_reducible exact erasureref01_Compare.mono _ _ _ _ _)
   | (with_reducible exact erasureref01_Mul.mono _ _ _ _ _)
   | (with_reducible exact erasureref01_Print.mono _ _ _)
   | (with_reducible exact LeO.refl _)
   | (with_reducible exact LeO.none _)
   | (with_reducible refine LeO.ite ?_ ?_)
   | (with_reducible refine LeO.bind ?_ (fun _ => ?_))
   | exact dec_Add.mono _ _ _ _ _
   | exact dec_Compare.mono _ _ _ _ _
   | exact dec_Mul.mono _ _ _ _ _
   | exact dec_Print.mono _ _ _
   | exact erasureref01_Add.mono _ _ _ _ _
   | exact erasureref01_Compare.mono _ _ _ _ _
   | exact erasureref01_Mul.mono _ _ _ _ _
   | exact erasureref01_Print.mono _ _ _
   | exact LeO.none _
   | refine LeO.ite ?_ ?_
   | refine LeO.bind ?_ (fun _ => ?_)
def erasurelaw01_DecDoes.T11 : Bool × List (List Nat × List Nat) := (true, [([], []), ([0, 0], [0]), ([1], [1]), ([2, 1, 1], [1, 2]), ([3, 1], [1, 3]), ([1], [1]), ([5, 3, 1], [1, 5]), ([4, 6, 1], [1, 4, 6]), ([1, 7], [1, 7]), ([8, 6], [8]), ([9], [9]), ([9], [9]), ([10, 11, 9], [9, 10, 11]), ([9, 12], [9, 12]), ([13, 9], [13]), ([14], [14]), ([14], [14]), ([15, 16, 14], [14, 15, 16]), ([14, 17], [14, 17]), ([18, 14], [18]), ([19], [19]), ([19], [19]), ([20, 21, 19], [19, 20, 21]), ([19, 22], [19, 22]), ([23, 19], [23]), ([24], [24]), ([24], [24]), ([25, 26, 24], [24, 25, 26]), ([24, 27], [24, 27]), ([28, 24], [28]), ([29], [29]), ([29], [29]), ([30, 31, 29], [29, 30, 31]), ([29, 32], [29, 32]), ([33, 29], [33]), ([34], [34]), ([34], [34]), ([35, 36, 34], [34, 35, 36]), ([34, 37], [34, 37]), ([38, 34], [38]), ([39], [39]), ([39], [39]), ([40, 41, 39], [39, 40, 41]), ([39, 42], [39, 42]), ([43, 39], [43]), ([44], [44]), ([44], [44]), ([45, 46, 44], [44, 45, 46]), ([44, 47], [44, 47]), ([48, 44], [48]), ([49], [49]), ([49], [49]), ([50, 51, 49], [49, 50, 51]), ([49, 52], [49, 52]), ([53, 49], [53]), ([54], [54]), ([54], [54]), ([55, 56, 54], [54, 55, 56]), ([54, 57], [54, 57]), ([58, 54, 0, 1, 2, 3, 4, 5, 6, 7, 8, 9, 10, 11, 12, 13, 14, 15, 16, 17, 18, 19, 20, 21, 22, 23, 24, 25, 26, 27, 28, 29, 30, 31, 32, 33, 34, 35, 36, 37, 38, 39, 40, 41, 42, 43, 44, 45, 46, 47, 48, 49, 50, 51, 52, 53, 54, 55, 56, 57, 58], [58])])
def erasurelaw01_DecDoes.B11 : List Nat := [0, 1, 3, 7, 15, 3, 47, 127, 255, 511, 1023, 1023, 4095, 8191, 16383, 32767, 32767, 131071, 262143, 524287, 1048575, 1048575, 4194303, 8388607, 16777215, 33554431, 33554431, 134217727, 268435455, 536870911, 1073741823, 1073741823, 4294967295, 8589934591, 17179869183, 34359738367, 34359738367, 137438953471, 274877906943, 549755813887, 1099511627775, 1099511627775, 4398046511103, 8796093022207, 17592186044415, 35184372088831, 35184372088831, 140737488355327, 281474976710655, 562949953421311, 1125899906842623, 1125899906842623, 4503599627370495, 9007199254740991, 18014398509481983, 36028797018963967, 36028797018963967, 144115188075855871, 288230376151711743, 576460752303423487]
theorem erasurelaw01_DecDoes.tab11 : rtab .any (opsOf Tryd.f7 11) = erasurelaw01_DecDoes.T11 := by kernel_rfl
theorem erasurelaw01_DecDoes.bits11 : waitsOk erasurelaw01_DecDoes.T11.2 erasurelaw01_DecDoes.B11 = true := by kernel_rfl
set_option maxHeartbeats 8000000 in
set_option maxRecDepth 100000 in
theorem erasurelaw01_DecDoes.calls (k : Nat) (a0_0 : Int) (a0_1 : Int) (a1_0 : Int) (a1_1 : Int) (r : Bool) (w : World) (hT : Tab w) (h : erasurelaw01_DecDoes.f k a0_0 a0_1 a1_0 a1_1 = some r) :
  Calls Tryd.prog 7 #[.agg #[.int .i64 a0_0, .int .i64 a0_1], .agg #[.int .i64 a1_0, .int .i64 a1_1]] w fun e w' => e = .returned (.bool r) ∧ Below w.heap.size w w' := by
 have hu23 := Tryd.underlying23
 have HB := Aside0.mk (Below.refl w.heap.size w)
 have HT := Aside0.mk hT
 clear hT
 have H : ((dec_Print.f k a0_0 a0_1).bind fun bt377 => ((erasureref01_Print.f k a0_0 a0_1).bind fun bt379 => ((dec_Add.f k a0_0 a0_1 a1_0 a1_1).bind fun bt381 => ((erasureref01_Add.f k a0_0 a0_1 a1_0 a1_1).bind fun bt385 => ((dec_Mul.f k a0_0 a0_1 a1_0 a1_1).bind fun bt389 => ((erasureref01_Mul.f k a0_0 a0_1 a1_0 a1_1).bind fun bt393 => ((dec_Compare.f k a0_0 a0_1 a1_0 a1_1).bind fun bt397 => ((erasureref01_Compare.f k a0_0 a0_1 a1_0 a1_1).bind fun bt399 => ((dec_Neg.f a0_0 a0_1).bind fun bt401 => ((erasureref01_Neg.f a0_0 a0_1).bind fun bt405 => ((erasurelaw01_awake.f).bind fun t409 => (if t409 = true then ((dec_Check.f a0_0 a0_1).bind fun t410 => ((erasureref01_Right.f a0_0 a0_1).bind fun t411 => (if ((t410 == 0) == t411) = true then (if bt377.1.toList = bt379.1.toList then (if bt377.2 = bt379.2 then (if (bt381.1 == bt385.1 && (bt381.2.1 == bt385.2.1)) = true then (if bt381.2.2 = bt385.2.2 then (if (bt389.1 == bt393.1 && (bt389.2.1 == bt393.2.1)) = true then (if bt389.2.2 = bt393.2.2 then (if bt397.1 = bt399.1 then (if bt397.2 = bt399.2 then (if (bt401.1 == bt405.1 && (bt401.2.1 == bt405.2.1)) = true then (some (bt401.2.2 == bt405.2.2)) else (none)) else (none)) else (none)) else (none)) else (none)) else (none)) else (none)) else (none)) else (none)) else (none)))) else (none))))))))))))) = some r := h
 clear h
 replace H := Option.bind_eq_some_iff.mp H
 obtain ⟨⟨t377, t378⟩, A30, H⟩ := H
 replace H : ((erasureref01_Print.f k a0_0 a0_1).bind fun bt379 => ((dec_Add.f k a0_0 a0_1 a1_0 a1_1).bind fun bt381 => ((erasureref01_Add.f k a0_0 a0_1 a1_0 a1_1).bind fun bt385 => ((dec_Mul.f k a0_0 a0_1 a1_0 a1_1).bind fun bt389 => ((erasureref01_Mul.f k a0_0 a0_1 a1_0 a1_1).bind fun bt393 => ((dec_Compare.f k a0_0 a0_1 a1_0 a1_1).bind fun bt397 => ((erasureref01_Compare.f k a0_0 a0_1 a1_0 a1_1).bind fun bt399 => ((dec_Neg.f a0_0 a0_1).bind fun bt401 => ((erasureref01_Neg.f a0_0 a0_1).bind fun bt405 => ((erasurelaw01_awake.f).bind fun t409 => (if t409 = true then ((dec_Check.f a0_0 a0_1).bind fun t410 => ((erasureref01_Right.f a0_0 a0_1).bind fun t411 => (if ((t410 == 0) == t411) = true then (if t377.toList = bt379.1.toList then (if t378 = bt379.2 then (if (bt381.1 == bt385.1 && (bt381.2.1 == bt385.2.1)) = true then (if bt381.2.2 = bt385.2.2 then (if (bt389.1 == bt393.1 && (bt389.2.1 == bt393.2.1)) = true then (if bt389.2.2 = bt393.2.2 then (if bt397.1 = bt399.1 then (if bt397.2 = bt399.2 then (if (bt401.1 == bt405.1 && (bt401.2.1 == bt405.2.1)) = true then (some (bt401.2.2 == bt405.2.2)) else (none)) else (none)) else (none)) else (none)) else (none)) else (none)) else (none)) else (none)) else (none)) else (none)))) else (none)))))))))))) = some r := H
 have A3 := Aside0.mk A30
 clear A30
 replace H := Option.bind_eq_some_iff.mp H
 obtain ⟨⟨t379, t380⟩, A40, H⟩ := H
 replace H : ((dec_Add.f k a0_0 a0_1 a1_0 a1_1).bind fun bt381 => ((erasureref01_Add.f k a0_0 a0_1 a1_0 a1_1).bind fun bt385 => ((dec_Mul.f k a0_0 a0_1 a1_0 a1_1).bind fun bt389 => ((erasureref01_Mul.f k a0_0 a0_1 a1_0 a1_1).bind fun bt393 => ((dec_Compare.f k a0_0 a0_1 a1_0 a1_1).bind fun bt397 => ((erasureref01_Compare.f k a0_0 a0_1 a1_0 a1_1).bind fun bt399 => ((dec_Neg.f a0_0 a0_1).bind fun bt401 => ((erasureref01_Neg.f a0_0 a0_1).bind fun bt405 => ((erasurelaw01_awake.f).bind fun t409 => (if t409 = true then ((dec_Check.f a0_0 a0_1).bind fun t410 => ((erasureref01_Right.f a0_0 a0_1).bind fun t411 => (if ((t410 == 0) == t411) = true then (if t377.toList = t379.toList then (if t378 = t380 then (if (bt381.1 == bt385.1 && (bt381.2.1 == bt385.2.1)) = true then (if bt381.2.2 = bt385.2.2 then (if (bt389.1 == bt393.1 && (bt389.2.1 == bt393.2.1)) = true then (if bt389.2.2 = bt393.2.2 then (if bt397.1 = bt399.1 then (if bt397.2 = bt399.2 then (if (bt401.1 == bt405.1 && (bt401.2.1 == bt405.2.1)) = true then (some (bt401.2.2 == bt405.2.2)) else (none)) else (none)) else (none)) else (none)) else (none)) else (none)) else (none)) else (none)) else (none)) else (none)))) else (none))))))))))) = some r := H
 have A4 := Aside0.mk A40
 clear A40
 replace H := Option.bind_eq_some_iff.mp H
 obtain ⟨⟨t381, t382, t383⟩, A50, H⟩ := H
 replace H : ((erasureref01_Add.f k a0_0 a0_1 a1_0 a1_1).bind fun bt385 => ((dec_Mul.f k a0_0 a0_1 a1_0 a1_1).bind fun bt389 => ((erasureref01_Mul.f k a0_0 a0_1 a1_0 a1_1).bind fun bt393 => ((dec_Compare.f k a0_0 a0_1 a1_0 a1_1).bind fun bt397 => ((erasureref01_Compare.f k a0_0 a0_1 a1_0 a1_1).bind fun bt399 => ((dec_Neg.f a0_0 a0_1).bind fun bt401 => ((erasureref01_Neg.f a0_0 a0_1).bind fun bt405 => ((erasurelaw01_awake.f).bind fun t409 => (if t409 = true then ((dec_Check.f a0_0 a0_1).bind fun t410 => ((erasureref01_Right.f a0_0 a0_1).bind fun t411 => (if ((t410 == 0) == t411) = true then (if t377.toList = t379.toList then (if t378 = t380 then (if (t381 == bt385.1 && (t382 == bt385.2.1)) = true then (if t383 = bt385.2.2 then (if (bt389.1 == bt393.1 && (bt389.2.1 == bt393.2.1)) = true then (if bt389.2.2 = bt393.2.2 then (if bt397.1 = bt399.1 then (if bt397.2 = bt399.2 then (if (bt401.1 == bt405.1 && (bt401.2.1 == bt405.2.1)) = true then (some (bt401.2.2 == bt405.2.2)) else (none)) else (none)) else (none)) else (none)) else (none)) else (none)) else (none)) else (none)) else (none)) else (none)))) else (none)))))))))) = some r := H
 have A5 := Aside0.mk A50
 clear A50
 replace H := Option.bind_eq_some_iff.mp H
 obtain ⟨⟨t385, t386, t387⟩, A60, H⟩ := H
 replace H : ((dec_Mul.f k a0_0 a0_1 a1_0 a1_1).bind fun bt389 => ((erasureref01_Mul.f k a0_0 a0_1 a1_0 a1_1).bind fun bt393 => ((dec_Compare.f k a0_0 a0_1 a1_0 a1_1).bind fun bt397 => ((erasureref01_Compare.f k a0_0 a0_1 a1_0 a1_1).bind fun bt399 => ((dec_Neg.f a0_0 a0_1).bind fun bt401 => ((erasureref01_Neg.f a0_0 a0_1).bind fun bt405 => ((erasurelaw01_awake.f).bind fun t409 => (if t409 = true then ((dec_Check.f a0_0 a0_1).bind fun t410 => ((erasureref01_Right.f a0_0 a0_1).bind fun t411 => (if ((t410 == 0) == t411) = true then (if t377.toList = t379.toList then (if t378 = t380 then (if (t381 == t385 && (t382 == t386)) = true then (if t383 = t387 then (if (bt389.1 == bt393.1 && (bt389.2.1 == bt393.2.1)) = true then (if bt389.2.2 = bt393.2.2 then (if bt397.1 = bt399.1 then (if bt397.2 = bt399.2 then (if (bt401.1 == bt405.1 && (bt401.2.1 == bt405.2.1)) = true then (some (bt401.2.2 == bt405.2.2)) else (none)) else (none)) else (none)) else (none)) else (none)) else (none)) else (none)) else (none)) else (none)) else (none)))) else (none))))))))) = some r := H
 have A6 := Aside0.mk A60
 clear A60
 replace H := Option.bind_eq_some_iff.mp H
 obtain ⟨⟨t389, t390, t391⟩, A70, H⟩ := H
 replace H : ((erasureref01_Mul.f k a0_0 a0_1 a1_0 a1_1).bind fun bt393 => ((dec_Compare.f k a0_0 a0_1 a1_0 a1_1).bind fun bt397 => ((erasureref01_Compare.f k a0_0 a0_1 a1_0 a1_1).bind fun bt399 => ((dec_Neg.f a0_0 a0_1).bind fun bt401 => ((erasureref01_Neg.f a0_0 a0_1).bind fun bt405 => ((erasurelaw01_awake.f).bind fun t409 => (if t409 = true then ((dec_Check.f a0_0 a0_1).bind fun t410 => ((erasureref01_Right.f a0_0 a0_1).bind fun t411 => (if ((t410 == 0) == t411) = true then (if t377.toList = t379.toList then (if t378 = t380 then (if (t381 == t385 && (t382 == t386)) = true then (if t383 = t387 then (if (t389 == bt393.1 && (t390 == bt393.2.1)) = true then (if t391 = bt393.2.2 then (if bt397.1 = bt399.1 then (if bt397.2 = bt399.2 then (if (bt401.1 == bt405.1 && (bt401.2.1 == bt405.2.1)) = true then (some (bt401.2.2 == bt405.2.2)) else (none)) else (none)) else (none)) else (none)) else (none)) else (none)) else (none)) else (none)) else (none)) else (none)))) else (none)))))))) = some r := H
 have A7 := Aside0.mk A70
 clear A70
 replace H := Option.bind_eq_some_iff.mp H
 obtain ⟨⟨t393, t394, t395⟩, A80, H⟩ := H
 replace H : ((dec_Compare.f k a0_0 a0_1 a1_0 a1_1).bind fun bt397 => ((erasureref01_Compare.f k a0_0 a0_1 a1_0 a1_1).bind fun bt399 => ((dec_Neg.f a0_0 a0_1).bind fun bt401 => ((erasureref01_Neg.f a0_0 a0_1).bind fun bt405 => ((erasurelaw01_awake.f).bind fun t409 => (if t409 = true then ((dec_Check.f a0_0 a0_1).bind fun t410 => ((erasureref01_Right.f a0_0 a0_1).bind fun t411 => (if ((t410 == 0) == t411) = true then (if t377.toList = t379.toList then (if t378 = t380 then (if (t381 == t385 && (t382 == t386)) = true then (if t383 = t387 then (if (t389 == t393 && (t390 == t394)) = true then (if t391 = t395 then (if bt397.1 = bt399.1 then (if bt397.2 = bt399.2 then (if (bt401.1 == bt405.1 && (bt401.2.1 == bt405.2.1)) = true then (some (bt401.2.2 == bt405.2.2)) else (none)) else (none)) else (none)) else (none)) else (none)) else (none)) else (none)) else (none)) else (none)) else (none)))) else (none))))))) = some r := H
 have A8 := Aside0.mk A80
 clear A80
 replace H := Option.bind_eq_some_iff.mp H
 obtain ⟨⟨t397, t398⟩, A90, H⟩ := H
 replace H : ((erasureref01_Compare.f k a0_0 a0_1 a1_0 a1_1).bind fun bt399 => ((dec_Neg.f a0_0 a0_1).bind fun bt401 => ((erasureref01_Neg.f a0_0 a0_1).bind fun bt405 => ((erasurelaw01_awake.f).bind fun t409 => (if t409 = true then ((dec_Check.f a0_0 a0_1).bind fun t410 => ((erasureref01_Right.f a0_0 a0_1).bind fun t411 => (if ((t410 == 0) == t411) = true then (if t377.toList = t379.toList then (if t378 = t380 then (if (t381 == t385 && (t382 == t386)) = true then (if t383 = t387 then (if (t389 == t393 && (t390 == t394)) = true then (if t391 = t395 then (if t397 = bt399.1 then (if t398 = bt399.2 then (if (bt401.1 == bt405.1 && (bt401.2.1 == bt405.2.1)) = true then (some (bt401.2.2 == bt405.2.2)) else (none)) else (none)) else (none)) else (none)) else (none)) else (none)) else (none)) else (none)) else (none)) else (none)))) else (none)))))) = some r := H
 have A9 := Aside0.mk A90
 clear A90
 replace H := Option.bind_eq_some_iff.mp H
 obtain ⟨⟨t399, t400⟩, A100, H⟩ := H
 replace H : ((dec_Neg.f a0_0 a0_1).bind fun bt401 => ((erasureref01_Neg.f a0_0 a0_1).bind fun bt405 => ((erasurelaw01_awake.f).bind fun t409 => (if t409 = true then ((dec_Check.f a0_0 a0_1).bind fun t410 => ((erasureref01_Right.f a0_0 a0_1).bind fun t411 => (if ((t410 == 0) == t411) = true then (if t377.toList = t379.toList then (if t378 = t380 then (if (t381 == t385 && (t382 == t386)) = true then (if t383 = t387 then (if (t389 == t393 && (t390 == t394)) = true then (if t391 = t395 then (if t397 = t399 then (if t398 = t400 then (if (bt401.1 == bt405.1 && (bt401.2.1 == bt405.2.1)) = true then (some (bt401.2.2 == bt405.2.2)) else (none)) else (none)) else (none)) else (none)) else (none)) else (none)) else (none)) else (none)) else (none)) else (none)))) else (none))))) = some r := H
 have A10 := Aside0.mk A100
 clear A100
 replace H := Option.bind_eq_some_iff.mp H
 obtain ⟨⟨t401, t402, t403⟩, A110, H⟩ := H
 replace H : ((erasureref01_Neg.f a0_0 a0_1).bind fun bt405 => ((erasurelaw01_awake.f).bind fun t409 => (if t409 = true then ((dec_Check.f a0_0 a0_1).bind fun t410 => ((erasureref01_Right.f a0_0 a0_1).bind fun t411 => (if ((t410 == 0) == t411) = true then (if t377.toList = t379.toList then (if t378 = t380 then (if (t381 == t385 && (t382 == t386)) = true then (if t383 = t387 then (if (t389 == t393 && (t390 == t394)) = true then (if t391 = t395 then (if t397 = t399 then (if t398 = t400 then (if (t401 == bt405.1 && (t402 == bt405.2.1)) = true then (some (t403 == bt405.2.2)) else (none)) else (none)) else (none)) else (none)) else (none)) else (none)) else (none)) else (none)) else (none)) else (none)))) else (none)))) = some r := H
 have A11 := Aside0.mk A110
 clear A110
 replace H := Option.bind_eq_some_iff.mp H
 obtain ⟨⟨t405, t406, t407⟩, A120, H⟩ := H
 replace H : ((erasurelaw01_awake.f).bind fun t409 => (if t409 = true then ((dec_Check.f a0_0 a0_1).bind fun t410 => ((erasureref01_Right.f a0_0 a0_1).bind fun t411 => (if ((t410 == 0) == t411) = true then (if t377.toList = t379.toList then (if t378 = t380 then (if (t381 == t385 && (t382 == t386)) = true then (if t383 = t387 then (if (t389 == t393 && (t390 == t394)) = true then (if t391 = t395 then (if t397 = t399 then (if t398 = t400 then (if (t401 == t405 && (t402 == t406)) = true then (some (t403 == t407)) else (none)) else (none)) else (none)) else (none)) else (none)) else (none)) else (none)) else (none)) else (none)) else (none)))) else (none))) = some r := H
 have A12 := Aside0.mk A120
 clear A120
 replace H := Option.bind_eq_some_iff.mp H
 obtain ⟨t409, A130, H⟩ := H
 replace H : (if t409 = true then ((dec_Check.f a0_0 a0_1).bind fun t410 => ((erasureref01_Right.f a0_0 a0_1).bind fun t411 => (if ((t410 == 0) == t411) = true then (if t377.toList = t379.toList then (if t378 = t380 then (if (t381 == t385 && (t382 == t386)) = true then (if t383 = t387 then (if (t389 == t393 && (t390 == t394)) = true then (if t391 = t395 then (if t397 = t399 then (if t398 = t400 then (if (t401 == t405 && (t402 == t406)) = true then (some (t403 == t407)) else (none)) else (none)) else (none)) else (none)) else (none)) else (none)) else (none)) else (none)) else (none)) else (none)))) else (none)) = some r := H
 have A13 := Aside0.mk A130
 clear A130
 by_cases c14 : t409 = true
 ·subst c14
  have H1 : ((dec_Check.f a0_0 a0_1).bind fun t410 => ((erasureref01_Right.f a0_0 a0_1).bind fun t411 => (if ((t410 == 0) == t411) = true then (if t377.toList = t379.toList then (if t378 = t380 then (if (t381 == t385 && (t382 == t386)) = true then (if t383 = t387 then (if (t389 == t393 && (t390 == t394)) = true then (if t391 = t395 then (if t397 = t399 then (if t398 = t400 then (if (t401 == t405 && (t402 == t406)) = true then (some (t403 == t407)) else (none)) else (none)) else (none)) else (none)) else (none)) else (none)) else (none)) else (none)) else (none)) else (none)))) = some r := by rw [if_pos rfl] at H; exact H
  clear H
  have H := H1
  clear H1
  replace H := Option.bind_eq_some_iff.mp H
  obtain ⟨t410, A150, H⟩ := H
  replace H : ((erasureref01_Right.f a0_0 a0_1).bind fun t411 => (if ((t410 == 0) == t411) = true then (if t377.toList = t379.toList then (if t378 = t380 then (if (t381 == t385 && (t382 == t386)) = true then (if t383 = t387 then (if (t389 == t393 && (t390 == t394)) = true then (if t391 = t395 then (if t397 = t399 then (if t398 = t400 then (if (t401 == t405 && (t402 == t406)) = true then (some (t403 == t407)) else (none)) else (none)) else (none)) else (none)) else (none)) else (none)) else (none)) else (none)) else (none)) else (none))) = some r := H
  have A15 := Aside0.mk A150
  clear A150
  replace H := Option.bind_eq_some_iff.mp H
  obtain ⟨t411, A160, H⟩ := H
  replace H : (if ((t410 == 0) == t411) = true then (if t377.toList = t379.toList then (if t378 = t380 then (if (t381 == t385 && (t382 == t386)) = true then (if t383 = t387 then (if (t389 == t393 && (t390 == t394)) = true then (if t391 = t395 then (if t397 = t399 then (if t398 = t400 then (if (t401 == t405 && (t402 == t406)) = true then (some (t403 == t407)) else (none)) else (none)) else (none)) else (none)) else (none)) else (none)) else (none)) else (none)) else (none)) else (none)) = some r := H
  have A16 := Aside0.mk A160
  clear A160
  by_cases c17 : ((t410 == 0) == t411) = true
  ·rw [if_pos c17] at H
   have c17b0 : ((t410 == 0) == t411) = true := c17
   (try (have c17b1 : decide ((t410 == 0) = t411) = true := by simpa using c17))
   (try (have c17b2 : ((t410 == 0) == t411) = true := by simpa using c17))
   clear c17
   by_cases c18 : t377.toList = t379.toList
   ·rw [if_pos c18] at H
    have c18b0 : (t377.toList == t379.toList) = true := beq_iff_eq.mpr c18
    have c18b1 : (t377.toList != t379.toList) = false := bne_eq_false_iff_eq.mpr c18
    clear c18
    by_cases c19 : t378 = t380
    ·rw [if_pos c19] at H
     have c19b0 : (t378 == t380) = true := beq_iff_eq.mpr c19
     have c19b1 : (t378 != t380) = false := bne_eq_false_iff_eq.mpr c19
     clear c19
     by_cases c20 : (t381 == t385 && (t382 == t386)) = true
     ·rw [if_pos c20] at H
      have c20b0 : (t381 == t385 && (t382 == t386)) = true := c20
      (try (have c20b1 : decide (t381 = t385 && (t382 == t386)) = true := by simpa using c20))
      (try (have c20b2 : (t381 == t385 && (t382 == t386)) = true := by simpa using c20))
      clear c20
      by_cases c21 : t383 = t387
      ·rw [if_pos c21] at H
       have c21b0 : (t383 == t387) = true := beq_iff_eq.mpr c21
       have c21b1 : (t383 != t387) = false := bne_eq_false_iff_eq.mpr c21
       clear c21
       by_cases c22 : (t389 == t393 && (t390 == t394)) = true
       ·rw [if_pos c22] at H
        have c22b0 : (t389 == t393 && (t390 == t394)) = true := c22
        (try (have c22b1 : decide (t389 = t393 && (t390 == t394)) = true := by simpa using c22))
        (try (have c22b2 : (t389 == t393 && (t390 == t394)) = true := by simpa using c22))
        clear c22
        by_cases c23 : t391 = t395
        ·rw [if_pos c23] at H
         have c23b0 : (t391 == t395) = true := beq_iff_eq.mpr c23
         have c23b1 : (t391 != t395) = false := bne_eq_false_iff_eq.mpr c23
         clear c23
         by_cases c24 : t397 = t399
         ·rw [if_pos c24] at H
          have c24b0 : (t397 == t399) = true := beq_iff_eq.mpr c24
          have c24b1 : (t397 != t399) = false := bne_eq_false_iff_eq.mpr c24
          clear c24
          by_cases c25 : t398 = t400
          ·rw [if_pos c25] at H
           have c25b0 : (t398 == t400) = true := beq_iff_eq.mpr c25
           have c25b1 : (t398 != t400) = false := bne_eq_false_iff_eq.mpr c25
           clear c25
           by_cases c26 : (t401 == t405 && (t402 == t406)) = true
           ·rw [if_pos c26] at H
            have c26b0 : (t401 == t405 && (t402 == t406)) = true := c26
            (try (have c26b1 : decide (t401 = t405 && (t402 == t406)) = true := by simpa using c26))
            (try (have c26b2 : (t401 == t405 && (t402 == t406)) = true := by simpa using c26))
            clear c26
            obtain rfl := Option.some.inj H
            go_enter Tryd.func7, Tryd.ntmps7
            try go_wp2_with (first | ((with_reducible refine gate_dst (N := 2) rfl ?_); refine box_event ?hg (N := 2) ?hd (cs := #[.int .i64 a0_0, .int .i64 a0_1]) (t := 23) ?hr ?_; (case hd => rfl); (case hg => rfl); (case hr => first | (go_simp; done) | (go_simp; rfl)); intro gb375 hg w27 hbox hb; have n0_ := Aside0.mk (below_step bel hb); have n1_ := Aside0.mk (hbox); have n2_ := Aside0.mk ((by rw [hg]; exact (below_size bel) : w.heap.size ≤ gb375)); have n3_ := Aside0.mk ((by rw [hg]; exact (below_size bel) : w.heap.size ≤ gb375)); clear HB; have HB := n0_; have BK375 := n1_; have GW375 := n2_; have GE375 := n3_; clear n0_ n1_ n2_ n3_; clear hb hbox hg) | ((with_reducible refine gate_dst (N := 3) rfl ?_); refine box_event ?hg (N := 3) ?hd (cs := #[.int .i64 a1_0, .int .i64 a1_1]) (t := 23) ?hr ?_; (case hd => rfl); (case hg => rfl); (case hr => first | (go_simp; done) | (go_simp; rfl)); intro gb376 hg w28 hbox hb; have n0_ := Aside0.mk (blk_below (bkk BK375.out) hb); have n1_ := Aside0.mk (below_step bel hb); have n2_ := Aside0.mk (hbox); have n3_ := Aside0.mk ((by rw [hg]; exact (below_size bel) : w.heap.size ≤ gb376)); have n4_ := Aside0.mk ((by rw [hg]; exact (below_size bel) : w.heap.size ≤ gb376)); have n5_ := Aside0.mk ((by rw [hg]; exact Nat.ne_of_lt (blk_lt (g := gb375) (o := .cells #[.int .i64 a0_0, .int .i64 a0_1] 23 (0, 0)) (bkk BK375.out)) : gb375 ≠ gb376)); have n6_ := Aside0.mk ((by rw [hg]; exact Nat.ne_of_gt (blk_lt (g := gb375) (o := .cells #[.int .i64 a0_0, .int .i64 a0_1] 23 (0, 0)) (bkk BK375.out)) : gb376 ≠ gb375)); clear BK375; clear HB; have BK375 := n0_; have HB := n1_; have BK376 := n2_; have GW376 := n3_; have GE376 := n4_; have NB375_376 := n5_; have NB376_375 := n6_; clear n0_ n1_ n2_ n3_ n4_ n5_ n6_; clear hb hbox hg; have hnb29 := NB375_376.out; have hnc29 := NB376_375.out; have hcz30_0 : w28.cell? ⟨gb375, 0, none⟩ = some (.int .i64 a0_0) := (blk_cell BK375.out 0).trans rfl; have hcz30_1 : w28.cell? ⟨gb375, 1, none⟩ = some (.int .i64 a0_1) := (blk_cell BK375.out 1).trans rfl; have hfz30_0 := blk_frozen BK375.out 0; have hfz30_1 := blk_frozen BK375.out 1) | ((with_reducible refine gate_callee (f := 9) rfl ?_); refine goesL_ (some 27) rfl rfl Tryd.func9 (by kernel_rfl) rfl #[.agg #[.int .i64 a0_0, .int .i64 a0_1]] rfl gl_ ?_; (with_reducible refine (dec_Print.calls k a0_0 a0_1 t377 t378 _ (Tab.below HT.out bel) A3.out).mono ?_); rintro e w31 ⟨rfl, hb⟩; refine ⟨_, rfl, ?_⟩; have n0_ := Aside0.mk (blk_below (bkk BK375.out) hb); have n1_ := Aside0.mk (blk_below (bkk BK376.out) hb); have n2_ := Aside0.mk (below_step bel hb); clear BK375; clear BK376; clear HB; have BK375 := n0_; have BK376 := n1_; have HB := n2_; clear n0_ n1_ n2_; (try clear hb); (try clear hb2); (try clear hk); (try clear hi); have hcz32_0 : w31.cell? ⟨gb375, 0, none⟩ = some (.int .i64 a0_0) := (blk_cell BK375.out 0).trans rfl; have hcz32_1 : w31.cell? ⟨gb375, 1, none⟩ = some (.int .i64 a0_1) := (blk_cell BK375.out 1).trans rfl; have hfz32_0 := blk_frozen BK375.out 0; have hfz32_1 := blk_frozen BK375.out 1) | ((with_reducible refine gate_callee (f := 19) rfl ?_); refine goesL_ (some 32) rfl rfl Tryd.func19 (by kernel_rfl) rfl #[.agg #[.int .i64 a0_0, .int .i64 a0_1]] rfl gl_ ?_; (with_reducible refine (erasureref01_Print.calls k a0_0 a0_1 t379 t380 _ A4.out).mono ?_); rintro e w33 ⟨rfl, hb⟩; refine ⟨_, rfl, ?_⟩; have n0_ := Aside0.mk (blk_below (bkk BK375.out) hb); have n1_ := Aside0.mk (blk_below (bkk BK376.out) hb); have n2_ := Aside0.mk (below_step bel hb); clear BK375; clear BK376; clear HB; have BK375 := n0_; have BK376 := n1_; have HB := n2_; clear n0_ n1_ n2_; (try clear hb); (try clear hb2); (try clear hk); (try clear hi); have hcz34_0 : w33.cell? ⟨gb375, 0, none⟩ = some (.int .i64 a0_0) := (blk_cell BK375.out 0).trans rfl; have hcz34_1 : w33.cell? ⟨gb375, 1, none⟩ = some (.int .i64 a0_1) := (blk_cell BK375.out 1).trans rfl; have hfz34_0 := blk_frozen BK375.out 0; have hfz34_1 := blk_frozen BK375.out 1; have hcz35_0 : w33.cell? ⟨gb376, 0, none⟩ = some (.int .i64 a1_0) := (blk_cell BK376.out 0).trans rfl; have hcz35_1 : w33.cell? ⟨gb376, 1, none⟩ = some (.int .i64 a1_1) := (blk_cell BK376.out 1).trans rfl; have hfz35_0 := blk_frozen BK376.out 0; have hfz35_1 := blk_frozen BK376.out 1) | ((with_reducible refine gate_callee (f := 13) rfl ?_); refine goesL_ (some 38) rfl rfl Tryd.func13 (by kernel_rfl) rfl #[.agg #[.int .i64 a0_0, .int .i64 a0_1], .agg #[.int .i64 a1_0, .int .i64 a1_1]] rfl gl_ ?_; (with_reducible refine (dec_Add.calls k a0_0 a0_1 a1_0 a1_1 t381 t382 t383 _ A5.out).mono ?_); rintro e w36 ⟨rfl, hb⟩; refine ⟨_, rfl, ?_⟩; have n0_ := Aside0.mk (blk_below (bkk BK375.out) hb); have n1_ := Aside0.mk (blk_below (bkk BK376.out) hb); have n2_ := Aside0.mk (below_step bel hb); clear BK375; clear BK376; clear HB; have BK375 := n0_; have BK376 := n1_; have HB := n2_; clear n0_ n1_ n2_; (try clear hb); (try clear hb2); (try clear hk); (try clear hi)) | ((with_reducible refine gate_dst (N := 9) rfl ?_); refine box_event ?hg (N := 9) ?hd (cs := #[.int .i64 0, .int .i64 0]) (t := 23) ?hr ?_; (case hd => rfl); (case hg => rfl); (case hr => first | (go_simp; done) | (go_simp; rfl)); intro gb384 hg w37 hbox hb; have n0_ := Aside0.mk (blk_below (bkk BK375.out) hb); have n1_ := Aside0.mk (blk_below (bkk BK376.out) hb); have n2_ := Aside0.mk (below_step bel hb); have n3_ := Aside0.mk (hbox); have n4_ := Aside0.mk ((by rw [hg]; exact (below_size bel) : w.heap.size ≤ gb384)); have n5_ := Aside0.mk ((by rw [hg]; exact (below_size bel) : w.heap.size ≤ gb384)); have n6_ := Aside0.mk ((by rw [hg]; exact Nat.ne_of_lt (blk_lt (g := gb375) (o := .cells #[.int .i64 a0_0, .int .i64 a0_1] 23 (0, 0)) (bkk BK375.out)) : gb375 ≠ gb384)); have n7_ := Aside0.mk ((by rw [hg]; exact Nat.ne_of_gt (blk_lt (g := gb375) (o := .cells #[.int .i64 a0_0, .int .i64 a0_1] 23 (0, 0)) (bkk BK375.out)) : gb384 ≠ gb375)); have n8_ := Aside0.mk ((by rw [hg]; exact Nat.ne_of_lt (blk_lt (g := gb376) (o := .cells #[.int .i64 a1_0, .int .i64 a1_1] 23 (0, 0)) (bkk BK376.out)) : gb376 ≠ gb384)); have n9_ := Aside0.mk ((by rw [hg]; exact Nat.ne_of_gt (blk_lt (g := gb376) (o := .cells #[.int .i64 a1_0, .int .i64 a1_1] 23 (0, 0)) (bkk BK376.out)) : gb384 ≠ gb376)); clear BK375; clear BK376; clear HB; have BK375 := n0_; have BK376 := n1_; have HB := n2_; have BK384 := n3_; have GW384 := n4_; have GE384 := n5_; have NB375_384 := n6_; have NB384_375 := n7_; have NB376_384 := n8_; have NB384_376 := n9_; clear n0_ n1_ n2_ n3_ n4_ n5_ n6_ n7_ n8_ n9_; clear hb hbox hg; have hnb38 := NB384_375.out; have hnc38 := NB375_384.out; have hnb39 := NB384_376.out; have hnc39 := NB376_384.out; have hcz40_0 : w37.cell? ⟨gb384, 0, none⟩ = some (.int .i64 0) := (blk_cell BK384.out 0).trans rfl; have hcz40_1 : w37.cell? ⟨gb384, 1, none⟩ = some (.int .i64 0) := (blk_cell BK384.out 1).trans rfl; have hfz40_0 := blk_frozen BK384.out 0; have hfz40_1 := blk_frozen BK384.out 1; have hcz41_0 : w37.cell? ⟨gb375, 0, none⟩ = some (.int .i64 a0_0) := (blk_cell BK375.out 0).trans rfl; have hcz41_1 : w37.cell? ⟨gb375, 1, none⟩ = some (.int .i64 a0_1) := (blk_cell BK375.out 1).trans rfl; have hfz41_0 := blk_frozen BK375.out 0; have hfz41_1 := blk_frozen BK375.out 1; have hcz42_0 : w37.cell? ⟨gb376, 0, none⟩ = some (.int .i64 a1_0) := (blk_cell BK376.out 0).trans rfl; have hcz42_1 : w37.cell? ⟨gb376, 1, none⟩ = some (.int .i64 a1_1) := (blk_cell BK376.out 1).trans rfl; have hfz42_0 := blk_frozen BK376.out 0; have hfz42_1 := blk_frozen BK376.out 1) | ((with_reducible refine gate_callee (f := 20) rfl ?_); refine goesL_ (some 44) rfl rfl Tryd.func20 (by kernel_rfl) rfl #[.agg #[.int .i64 a0_0, .int .i64 a0_1], .agg #[.int .i64 a1_0, .int .i64 a1_1]] rfl gl_ ?_; (with_reducible refine (erasureref01_Add.calls k a0_0 a0_1 a1_0 a1_1 t385 t386 t387 _ A6.out).mono ?_); rintro e w43 ⟨rfl, hb⟩; refine ⟨_, rfl, ?_⟩; have n0_ := Aside0.mk (blk_below (g := gb375) (o := .cells #[.int .i64 a0_0, .int .i64 a0_1] 23 (0, 0)) blks hb); have n1_ := Aside0.mk (blk_below (g := gb376) (o := .cells #[.int .i64 a1_0, .int .i64 a1_1] 23 (0, 0)) blks hb); have n2_ := Aside0.mk (blk_below (g := gb384) (o := .cells #[.int .i64 t381, .int .i64 t382] 23 (0, 0)) (by (with_reducible repeat (first | refine blk_drewN ?_ _ | refine blk_drew ?_ | refine blk_alloc ?_ _)); refine blk_put (cs := #[.int .i64 t381, .int .i64 0]) ?_ 1 _ rfl; (with_reducible repeat (first | refine blk_drewN ?_ _ | refine blk_drew ?_ | refine blk_alloc ?_ _)); refine blk_put (cs := #[.int .i64 0, .int .i64 0]) ?_ 0 _ rfl; (with_reducible repeat (first | refine blk_drewN ?_ _ | refine blk_drew ?_ | refine blk_alloc ?_ _)); exact BK384.out) hb); have n3_ := Aside0.mk (below_step bel hb); clear BK375; clear BK376; clear BK384; clear HB; have BK375 := n0_; have BK376 := n1_; have BK384 := n2_; have HB := n3_; clear n0_ n1_ n2_ n3_; (try clear hb); (try clear hb2); (try clear hk); (try clear hi)) | ((with_reducible refine gate_dst (N := 11) rfl ?_); refine box_event ?hg (N := 11) ?hd (cs := #[.int .i64 0, .int .i64 0]) (t := 23) ?hr ?_; (case hd => rfl); (case hg => rfl); (case hr => first | (go_simp; done) | (go_simp; rfl)); intro gb388 hg w44 hbox hb; have n0_ := Aside0.mk (blk_below (bkk BK375.out) hb); have n1_ := Aside0.mk (blk_below (bkk BK376.out) hb); have n2_ := Aside0.mk (blk_below (bkk BK384.out) hb); have n3_ := Aside0.mk (below_step bel hb); have n4_ := Aside0.mk (hbox); have n5_ := Aside0.mk ((by rw [hg]; exact (below_size bel) : w.heap.size ≤ gb388)); have n6_ := Aside0.mk ((by rw [hg]; exact (below_size bel) : w.heap.size ≤ gb388)); have n7_ := Aside0.mk ((by rw [hg]; exact Nat.ne_of_lt (blk_lt (g := gb375) (o := .cells #[.int .i64 a0_0, .int .i64 a0_1] 23 (0, 0)) (bkk BK375.out)) : gb375 ≠ gb388)); have n8_ := Aside0.mk ((by rw [hg]; exact Nat.ne_of_gt (blk_lt (g := gb375) (o := .cells #[.int .i64 a0_0, .int .i64 a0_1] 23 (0, 0)) (bkk BK375.out)) : gb388 ≠ gb375)); have n9_ := Aside0.mk ((by rw [hg]; exact Nat.ne_of_lt (blk_lt (g := gb376) (o := .cells #[.int .i64 a1_0, .int .i64 a1_1] 23 (0, 0)) (bkk BK376.out)) : gb376 ≠ gb388)); have n10_ := Aside0.mk ((by rw [hg]; exact Nat.ne_of_gt (blk_lt (g := gb376) (o := .cells #[.int .i64 a1_0, .int .i64 a1_1] 23 (0, 0)) (bkk BK376.out)) : gb388 ≠ gb376)); have n11_ := Aside0.mk ((by rw [hg]; exact Nat.ne_of_lt (blk_lt (g := gb384) (o := .cells #[.int .i64 t381, .int .i64 t382] 23 (0, 0)) (bkk BK384.out)) : gb384 ≠ gb388)); have n12_ := Aside0.mk ((by rw [hg]; exact Nat.ne_of_gt (blk_lt (g := gb384) (o := .cells #[.int .i64 t381, .int .i64 t382] 23 (0, 0)) (bkk BK384.out)) : gb388 ≠ gb384)); clear BK375; clear BK376; clear BK384; clear HB; have BK375 := n0_; have BK376 := n1_; have BK384 := n2_; have HB := n3_; have BK388 := n4_; have GW388 := n5_; have GE388 := n6_; have NB375_388 := n7_; have NB388_375 := n8_; have NB376_388 := n9_; have NB388_376 := n10_; have NB384_388 := n11_; have NB388_384 := n12_; clear n0_ n1_ n2_ n3_ n4_ n5_ n6_ n7_ n8_ n9_ n10_ n11_ n12_; clear hb hbox hg; have hnb45 := NB388_375.out; have hnc45 := NB375_388.out; have hnb46 := NB388_376.out; have hnc46 := NB376_388.out; have hnb47 := NB388_384.out; have hnc47 := NB384_388.out; have hcz48_0 : w44.cell? ⟨gb388, 0, none⟩ = some (.int .i64 0) := (blk_cell BK388.out 0).trans rfl; have hcz48_1 : w44.cell? ⟨gb388, 1, none⟩ = some (.int .i64 0) := (blk_cell BK388.out 1).trans rfl; have hfz48_0 := blk_frozen BK388.out 0; have hfz48_1 := blk_frozen BK388.out 1; have hcz49_0 : w44.cell? ⟨gb375, 0, none⟩ = some (.int .i64 a0_0) := (blk_cell BK375.out 0).trans rfl; have hcz49_1 : w44.cell? ⟨gb375, 1, none⟩ = some (.int .i64 a0_1) := (blk_cell BK375.out 1).trans rfl; have hfz49_0 := blk_frozen BK375.out 0; have hfz49_1 := blk_frozen BK375.out 1; have hcz50_0 : w44.cell? ⟨gb376, 0, none⟩ = some (.int .i64 a1_0) := (blk_cell BK376.out 0).trans rfl; have hcz50_1 : w44.cell? ⟨gb376, 1, none⟩ = some (.int .i64 a1_1) := (blk_cell BK376.out 1).trans rfl; have hfz50_0 := blk_frozen BK376.out 0; have hfz50_1 := blk_frozen BK376.out 1) | ((with_reducible refine gate_callee (f := 14) rfl ?_); refine goesL_ (some 50) rfl rfl Tryd.func14 (by kernel_rfl) rfl #[.agg #[.int .i64 a0_0, .int .i64 a0_1], .agg #[.int .i64 a1_0, .int .i64 a1_1]] rfl gl_ ?_; (with_reducible refine (dec_Mul.calls k a0_0 a0_1 a1_0 a1_1 t389 t390 t391 _ A7.out).mono ?_); rintro e w51 ⟨rfl, hb⟩; refine ⟨_, rfl, ?_⟩; have n0_ := Aside0.mk (blk_below (g := gb375) (o := .cells #[.int .i64 a0_0, .int .i64 a0_1] 23 (0, 0)) blks hb); have n1_ := Aside0.mk (blk_below (g := gb376) (o := .cells #[.int .i64 a1_0, .int .i64 a1_1] 23 (0, 0)) blks hb); have n2_ := Aside0.mk (blk_below (g := gb384) (o := .cells #[.int .i64 t381, .int .i64 t382] 23 (0, 0)) blks hb); have n3_ := Aside0.mk (blk_below (g := gb388) (o := .cells #[.int .i64 t385, .int .i64 t386] 23 (0, 0)) (by (with_reducible repeat (first | refine blk_drewN ?_ _ | refine blk_drew ?_ | refine blk_alloc ?_ _)); refine blk_put (cs := #[.int .i64 t385, .int .i64 0]) ?_ 1 _ rfl; (with_reducible repeat (first | refine blk_drewN ?_ _ | refine blk_drew ?_ | refine blk_alloc ?_ _)); refine blk_put (cs := #[.int .i64 0, .int .i64 0]) ?_ 0 _ rfl; (with_reducible repeat (first | refine blk_drewN ?_ _ | refine blk_drew ?_ | refine blk_alloc ?_ _)); exact BK388.out) hb); have n4_ := Aside0.mk (below_step bel hb); clear BK375; clear BK376; clear BK384; clear BK388; clear HB; have BK375 := n0_; have BK376 := n1_; have BK384 := n2_; have BK388 := n3_; have HB := n4_; clear n0_ n1_ n2_ n3_ n4_; (try clear hb); (try clear hb2); (try clear hk); (try clear hi)) | ((with_reducible refine gate_dst (N := 13) rfl ?_); refine box_event ?hg (N := 13) ?hd (cs := #[.int .i64 0, .int .i64 0]) (t := 23) ?hr ?_; (case hd => rfl); (case hg => rfl); (case hr => first | (go_simp; done) | (go_simp; rfl)); intro gb392 hg w52 hbox hb; have n0_ := Aside0.mk (blk_below (bkk BK375.out) hb); have n1_ := Aside0.mk (blk_below (bkk BK376.out) hb); have n2_ := Aside0.mk (blk_below (bkk BK384.out) hb); have n3_ := Aside0.mk (blk_below (bkk BK388.out) hb); have n4_ := Aside0.mk (below_step bel hb); have n5_ := Aside0.mk (hbox); have n6_ := Aside0.mk ((by rw [hg]; exact (below_size bel) : w.heap.size ≤ gb392)); have n7_ := Aside0.mk ((by rw [hg]; exact (below_size bel) : w.heap.size ≤ gb392)); have n8_ := Aside0.mk ((by rw [hg]; exact Nat.ne_of_lt (blk_lt (g := gb375) (o := .cells #[.int .i64 a0_0, .int .i64 a0_1] 23 (0, 0)) (bkk BK375.out)) : gb375 ≠ gb392)); have n9_ := Aside0.mk ((by rw [hg]; exact Nat.ne_of_gt (blk_lt (g := gb375) (o := .cells #[.int .i64 a0_0, .int .i64 a0_1] 23 (0, 0)) (bkk BK375.out)) : gb392 ≠ gb375)); have n10_ := Aside0.mk ((by rw [hg]; exact Nat.ne_of_lt (blk_lt (g := gb376) (o := .cells #[.int .i64 a1_0, .int .i64 a1_1] 23 (0, 0)) (bkk BK376.out)) : gb376 ≠ gb392)); have n11_ := Aside0.mk ((by rw [hg]; exact Nat.ne_of_gt (blk_lt (g := gb376) (o := .cells #[.int .i64 a1_0, .int .i64 a1_1] 23 (0, 0)) (bkk BK376.out)) : gb392 ≠ gb376)); have n12_ := Aside0.mk ((by rw [hg]; exact Nat.ne_of_lt (blk_lt (g := gb384) (o := .cells #[.int .i64 t381, .int .i64 t382] 23 (0, 0)) (bkk BK384.out)) : gb384 ≠ gb392)); have n13_ := Aside0.mk ((by rw [hg]; exact Nat.ne_of_gt (blk_lt (g := gb384) (o := .cells #[.int .i64 t381, .int .i64 t382] 23 (0, 0)) (bkk BK384.out)) : gb392 ≠ gb384)); have n14_ := Aside0.mk ((by rw [hg]; exact Nat.ne_of_lt (blk_lt (g := gb388) (o := .cells #[.int .i64 t385, .int .i64 t386] 23 (0, 0)) (bkk BK388.out)) : gb388 ≠ gb392)); have n15_ := Aside0.mk ((by rw [hg]; exact Nat.ne_of_gt (blk_lt (g := gb388) (o := .cells #[.int .i64 t385, .int .i64 t386] 23 (0, 0)) (bkk BK388.out)) : gb392 ≠ gb388)); clear BK375; clear BK376; clear BK384; clear BK388; clear HB; have BK375 := n0_; have BK376 := n1_; have BK384 := n2_; have BK388 := n3_; have HB := n4_; have BK392 := n5_; have GW392 := n6_; have GE392 := n7_; have NB375_392 := n8_; have NB392_375 := n9_; have NB376_392 := n10_; have NB392_376 := n11_; have NB384_392 := n12_; have NB392_384 := n13_; have NB388_392 := n14_; have NB392_388 := n15_; clear n0_ n1_ n2_ n3_ n4_ n5_ n6_ n7_ n8_ n9_ n10_ n11_ n12_ n13_ n14_ n15_; clear hb hbox hg; have hnb53 := NB392_375.out; have hnc53 := NB375_392.out; have hnb54 := NB392_376.out; have hnc54 := NB376_392.out; have hnb55 := NB392_384.out; have hnc55 := NB384_392.out; have hnb56 := NB392_388.out; have hnc56 := NB388_392.out; have hcz57_0 : w52.cell? ⟨gb392, 0, none⟩ = some (.int .i64 0) := (blk_cell BK392.out 0).trans rfl; have hcz57_1 : w52.cell? ⟨gb392, 1, none⟩ = some (.int .i64 0) := (blk_cell BK392.out 1).trans rfl; have hfz57_0 := blk_frozen BK392.out 0; have hfz57_1 := blk_frozen BK392.out 1; have hcz58_0 : w52.cell? ⟨gb375, 0, none⟩ = some (.int .i64 a0_0) := (blk_cell BK375.out 0).trans rfl; have hcz58_1 : w52.cell? ⟨gb375, 1, none⟩ = some (.int .i64 a0_1) := (blk_cell BK375.out 1).trans rfl; have hfz58_0 := blk_frozen BK375.out 0; have hfz58_1 := blk_frozen BK375.out 1; have hcz59_0 : w52.cell? ⟨gb376, 0, none⟩ = some (.int .i64 a1_0) := (blk_cell BK376.out 0).trans rfl; have hcz59_1 : w52.cell? ⟨gb376, 1, none⟩ = some (.int .i64 a1_1) := (blk_cell BK376.out 1).trans rfl; have hfz59_0 := blk_frozen BK376.out 0; have hfz59_1 := blk_frozen BK376.out 1) | ((with_reducible refine gate_callee (f := 21) rfl ?_); refine goesL_ (some 56) rfl rfl Tryd.func21 (by kernel_rfl) rfl #[.agg #[.int .i64 a0_0, .int .i64 a0_1], .agg #[.int .i64 a1_0, .int .i64 a1_1]] rfl gl_ ?_; (with_reducible refine (erasureref01_Mul.calls k a0_0 a0_1 a1_0 a1_1 t393 t394 t395 _ A8.out).mono ?_); rintro e w60 ⟨rfl, hb⟩; refine ⟨_, rfl, ?_⟩; have n0_ := Aside0.mk (blk_below (g := gb375) (o := .cells #[.int .i64 a0_0, .int .i64 a0_1] 23 (0, 0)) blks hb); have n1_ := Aside0.mk (blk_below (g := gb376) (o := .cells #[.int .i64 a1_0, .int .i64 a1_1] 23 (0, 0)) blks hb); have n2_ := Aside0.mk (blk_below (g := gb384) (o := .cells #[.int .i64 t381, .int .i64 t382] 23 (0, 0)) blks hb); have n3_ := Aside0.mk (blk_below (g := gb388) (o := .cells #[.int .i64 t385, .int .i64 t386] 23 (0, 0)) blks hb); have n4_ := Aside0.mk (blk_below (g := gb392) (o := .cells #[.int .i64 t389, .int .i64 t390] 23 (0, 0)) (by (with_reducible repeat (first | refine blk_drewN ?_ _ | refine blk_drew ?_ | refine blk_alloc ?_ _)); refine blk_put (cs := #[.int .i64 t389, .int .i64 0]) ?_ 1 _ rfl; (with_reducible repeat (first | refine blk_drewN ?_ _ | refine blk_drew ?_ | refine blk_alloc ?_ _)); refine blk_put (cs := #[.int .i64 0, .int .i64 0]) ?_ 0 _ rfl; (with_reducible repeat (first | refine blk_drewN ?_ _ | refine blk_drew ?_ | refine blk_alloc ?_ _)); exact BK392.out) hb); have n5_ := Aside0.mk (below_step bel hb); clear BK375; clear BK376; clear BK384; clear BK388; clear BK392; clear HB; have BK375 := n0_; have BK376 := n1_; have BK384 := n2_; have BK388 := n3_; have BK392 := n4_; have HB := n5_; clear n0_ n1_ n2_ n3_ n4_ n5_; (try clear hb); (try clear hb2); (try clear hk); (try clear hi)) | ((with_reducible refine gate_dst (N := 15) rfl ?_); refine box_event ?hg (N := 15) ?hd (cs := #[.int .i64 0, .int .i64 0]) (t := 23) ?hr ?_; (case hd => rfl); (case hg => rfl); (case hr => first | (go_simp; done) | (go_simp; rfl)); intro gb396 hg w61 hbox hb; have n0_ := Aside0.mk (blk_below (bkk BK375.out) hb); have n1_ := Aside0.mk (blk_below (bkk BK376.out) hb); have n2_ := Aside0.mk (blk_below (bkk BK384.out) hb); have n3_ := Aside0.mk (blk_below (bkk BK388.out) hb); have n4_ := Aside0.mk (blk_below (bkk BK392.out) hb); have n5_ := Aside0.mk (below_step bel hb); have n6_ := Aside0.mk (hbox); have n7_ := Aside0.mk ((by rw [hg]; exact (below_size bel) : w.heap.size ≤ gb396)); have n8_ := Aside0.mk ((by rw [hg]; exact (below_size bel) : w.heap.size ≤ gb396)); have n9_ := Aside0.mk ((by rw [hg]; exact Nat.ne_of_lt (blk_lt (g := gb375) (o := .cells #[.int .i64 a0_0, .int .i64 a0_1] 23 (0, 0)) (bkk BK375.out)) : gb375 ≠ gb396)); have n10_ := Aside0.mk ((by rw [hg]; exact Nat.ne_of_gt (blk_lt (g := gb375) (o := .cells #[.int .i64 a0_0, .int .i64 a0_1] 23 (0, 0)) (bkk BK375.out)) : gb396 ≠ gb375)); have n11_ := Aside0.mk ((by rw [hg]; exact Nat.ne_of_lt (blk_lt (g := gb376) (o := .cells #[.int .i64 a1_0, .int .i64 a1_1] 23 (0, 0)) (bkk BK376.out)) : gb376 ≠ gb396)); have n12_ := Aside0.mk ((by rw [hg]; exact Nat.ne_of_gt (blk_lt (g := gb376) (o := .cells #[.int .i64 a1_0, .int .i64 a1_1] 23 (0, 0)) (bkk BK376.out)) : gb396 ≠ gb376)); have n13_ := Aside0.mk ((by rw [hg]; exact Nat.ne_of_lt (blk_lt (g := gb384) (o := .cells #[.int .i64 t381, .int .i64 t382] 23 (0, 0)) (bkk BK384.out)) : gb384 ≠ gb396)); have n14_ := Aside0.mk ((by rw [hg]; exact Nat.ne_of_gt (blk_lt (g := gb384) (o := .cells #[.int .i64 t381, .int .i64 t382] 23 (0, 0)) (bkk BK384.out)) : gb396 ≠ gb384)); have n15_ := Aside0.mk ((by rw [hg]; exact Nat.ne_of_lt (blk_lt (g := gb388) (o := .cells #[.int .i64 t385, .int .i64 t386] 23 (0, 0)) (bkk BK388.out)) : gb388 ≠ gb396)); have n16_ := Aside0.mk ((by rw [hg]; exact Nat.ne_of_gt (blk_lt (g := gb388) (o := .cells #[.int .i64 t385, .int .i64 t386] 23 (0, 0)) (bkk BK388.out)) : gb396 ≠ gb388)); have n17_ := Aside0.mk ((by rw [hg]; exact Nat.ne_of_lt (blk_lt (g := gb392) (o := .cells #[.int .i64 t389, .int .i64 t390] 23 (0, 0)) (bkk BK392.out)) : gb392 ≠ gb396)); have n18_ := Aside0.mk ((by rw [hg]; exact Nat.ne_of_gt (blk_lt (g := gb392) (o := .cells #[.int .i64 t389, .int .i64 t390] 23 (0, 0)) (bkk BK392.out)) : gb396 ≠ gb392)); clear BK375; clear BK376; clear BK384; clear BK388; clear BK392; clear HB; have BK375 := n0_; have BK376 := n1_; have BK384 := n2_; have BK388 := n3_; have BK392 := n4_; have HB := n5_; have BK396 := n6_; have GW396 := n7_; have GE396 := n8_; have NB375_396 := n9_; have NB396_375 := n10_; have NB376_396 := n11_; have NB396_376 := n12_; have NB384_396 := n13_; have NB396_384 := n14_; have NB388_396 := n15_; have NB396_388 := n16_; have NB392_396 := n17_; have NB396_392 := n18_; clear n0_ n1_ n2_ n3_ n4_ n5_ n6_ n7_ n8_ n9_ n10_ n11_ n12_ n13_ n14_ n15_ n16_ n17_ n18_; clear hb hbox hg; have hnb62 := NB396_375.out; have hnc62 := NB375_396.out; have hnb63 := NB396_376.out; have hnc63 := NB376_396.out; have hnb64 := NB396_384.out; have hnc64 := NB384_396.out; have hnb65 := NB396_388.out; have hnc65 := NB388_396.out; have hnb66 := NB396_392.out; have hnc66 := NB392_396.out; have hcz67_0 : w61.cell? ⟨gb396, 0, none⟩ = some (.int .i64 0) := (blk_cell BK396.out 0).trans rfl; have hcz67_1 : w61.cell? ⟨gb396, 1, none⟩ = some (.int .i64 0) := (blk_cell BK396.out 1).trans rfl; have hfz67_0 := blk_frozen BK396.out 0; have hfz67_1 := blk_frozen BK396.out 1; have hcz68_0 : w61.cell? ⟨gb375, 0, none⟩ = some (.int .i64 a0_0) := (blk_cell BK375.out 0).trans rfl; have hcz68_1 : w61.cell? ⟨gb375, 1, none⟩ = some (.int .i64 a0_1) := (blk_cell BK375.out 1).trans rfl; have hfz68_0 := blk_frozen BK375.out 0; have hfz68_1 := blk_frozen BK375.out 1; have hcz69_0 : w61.cell? ⟨gb376, 0, none⟩ = some (.int .i64 a1_0) := (blk_cell BK376.out 0).trans rfl; have hcz69_1 : w61.cell? ⟨gb376, 1, none⟩ = some (.int .i64 a1_1) := (blk_cell BK376.out 1).trans rfl; have hfz69_0 := blk_frozen BK376.out 0; have hfz69_1 := blk_frozen BK376.out 1) | ((with_reducible refine gate_callee (f := 22) rfl ?_); refine goesL_ (some 62) rfl rfl Tryd.func22 (by kernel_rfl) rfl #[.agg #[.int .i64 a0_0, .int .i64 a0_1], .agg #[.int .i64 a1_0, .int .i64 a1_1]] rfl gl_ ?_; (with_reducible refine (dec_Compare.calls k a0_0 a0_1 a1_0 a1_1 t397 t398 _ A9.out).mono ?_); rintro e w70 ⟨rfl, hb⟩; refine ⟨_, rfl, ?_⟩; have n0_ := Aside0.mk (blk_below (g := gb375) (o := .cells #[.int .i64 a0_0, .int .i64 a0_1] 23 (0, 0)) blks hb); have n1_ := Aside0.mk (blk_below (g := gb376) (o := .cells #[.int .i64 a1_0, .int .i64 a1_1] 23 (0, 0)) blks hb); have n2_ := Aside0.mk (blk_below (g := gb384) (o := .cells #[.int .i64 t381, .int .i64 t382] 23 (0, 0)) blks hb); have n3_ := Aside0.mk (blk_below (g := gb388) (o := .cells #[.int .i64 t385, .int .i64 t386] 23 (0, 0)) blks hb); have n4_ := Aside0.mk (blk_below (g := gb392) (o := .cells #[.int .i64 t389, .int .i64 t390] 23 (0, 0)) blks hb); have n5_ := Aside0.mk (blk_below (g := gb396) (o := .cells #[.int .i64 t393, .int .i64 t394] 23 (0, 0)) (by (with_reducible repeat (first | refine blk_drewN ?_ _ | refine blk_drew ?_ | refine blk_alloc ?_ _)); refine blk_put (cs := #[.int .i64 t393, .int .i64 0]) ?_ 1 _ rfl; (with_reducible repeat (first | refine blk_drewN ?_ _ | refine blk_drew ?_ | refine blk_alloc ?_ _)); refine blk_put (cs := #[.int .i64 0, .int .i64 0]) ?_ 0 _ rfl; (with_reducible repeat (first | refine blk_drewN ?_ _ | refine blk_drew ?_ | refine blk_alloc ?_ _)); exact BK396.out) hb); have n6_ := Aside0.mk (below_step bel hb); clear BK375; clear BK376; clear BK384; clear BK388; clear BK392; clear BK396; clear HB; have BK375 := n0_; have BK376 := n1_; have BK384 := n2_; have BK388 := n3_; have BK392 := n4_; have BK396 := n5_; have HB := n6_; clear n0_ n1_ n2_ n3_ n4_ n5_ n6_; (try clear hb); (try clear hb2); (try clear hk); (try clear hi); have hcz71_0 : w70.cell? ⟨gb375, 0, none⟩ = some (.int .i64 a0_0) := (blk_cell BK375.out 0).trans rfl; have hcz71_1 : w70.cell? ⟨gb375, 1, none⟩ = some (.int .i64 a0_1) := (blk_cell BK375.out 1).trans rfl; have hfz71_0 := blk_frozen BK375.out 0; have hfz71_1 := blk_frozen BK375.out 1; have hcz72_0 : w70.cell? ⟨gb376, 0, none⟩ = some (.int .i64 a1_0) := (blk_cell BK376.out 0).trans rfl; have hcz72_1 : w70.cell? ⟨gb376, 1, none⟩ = some (.int .i64 a1_1) := (blk_cell BK376.out 1).trans rfl; have hfz72_0 := blk_frozen BK376.out 0; have hfz72_1 := blk_frozen BK376.out 1) | ((with_reducible refine gate_callee (f := 23) rfl ?_); refine goesL_ (some 68) rfl rfl Tryd.func23 (by kernel_rfl) rfl #[.agg #[.int .i64 a0_0, .int .i64 a0_1], .agg #[.int .i64 a1_0, .int .i64 a1_1]] rfl gl_ ?_; (with_reducible refine (erasureref01_Compare.calls k a0_0 a0_1 a1_0 a1_1 t399 t400 _ A10.out).mono ?_); rintro e w73 ⟨rfl, hb⟩; refine ⟨_, rfl, ?_⟩; have n0_ := Aside0.mk (blk_below (bkk BK375.out) hb); have n1_ := Aside0.mk (blk_below (bkk BK376.out) hb); have n2_ := Aside0.mk (blk_below (bkk BK384.out) hb); have n3_ := Aside0.mk (blk_below (bkk BK388.out) hb); have n4_ := Aside0.mk (blk_below (bkk BK392.out) hb); have n5_ := Aside0.mk (blk_below (bkk BK396.out) hb); have n6_ := Aside0.mk (below_step bel hb); clear BK375; clear BK376; clear BK384; clear BK388; clear BK392; clear BK396; clear HB; have BK375 := n0_; have BK376 := n1_; have BK384 := n2_; have BK388 := n3_; have BK392 := n4_; have BK396 := n5_; have HB := n6_; clear n0_ n1_ n2_ n3_ n4_ n5_ n6_; (try clear hb); (try clear hb2); (try clear hk); (try clear hi); have hcz74_0 : w73.cell? ⟨gb375, 0, none⟩ = some (.int .i64 a0_0) := (blk_cell BK375.out 0).trans rfl; have hcz74_1 : w73.cell? ⟨gb375, 1, none⟩ = some (.int .i64 a0_1) := (blk_cell BK375.out 1).trans rfl; have hfz74_0 := blk_frozen BK375.out 0; have hfz74_1 := blk_frozen BK375.out 1) | ((with_reducible refine gate_callee (f := 18) rfl ?_); refine goesL_ (some 73) rfl rfl Tryd.func18 (by kernel_rfl) rfl #[.agg #[.int .i64 a0_0, .int .i64 a0_1]] rfl gl_ ?_; (with_reducible refine (dec_Neg.calls a0_0 a0_1 t401 t402 t403 _ A11.out).mono ?_); rintro e w75 ⟨rfl, hb⟩; refine ⟨_, rfl, ?_⟩; have n0_ := Aside0.mk (blk_below (bkk BK375.out) hb); have n1_ := Aside0.mk (blk_below (bkk BK376.out) hb); have n2_ := Aside0.mk (blk_below (bkk BK384.out) hb); have n3_ := Aside0.mk (blk_below (bkk BK388.out) hb); have n4_ := Aside0.mk (blk_below (bkk BK392.out) hb); have n5_ := Aside0.mk (blk_below (bkk BK396.out) hb); have n6_ := Aside0.mk (below_step bel hb); clear BK375; clear BK376; clear BK384; clear BK388; clear BK392; clear BK396; clear HB; have BK375 := n0_; have BK376 := n1_; have BK384 := n2_; have BK388 := n3_; have BK392 := n4_; have BK396 := n5_; have HB := n6_; clear n0_ n1_ n2_ n3_ n4_ n5_ n6_; (try clear hb); (try clear hb2); (try clear hk); (try clear hi)) | ((with_reducible refine gate_dst (N := 21) rfl ?_); refine box_event ?hg (N := 21) ?hd (cs := #[.int .i64 0, .int .i64 0]) (t := 23) ?hr ?_; (case hd => rfl); (case hg => rfl); (case hr => first | (go_simp; done) | (go_simp; rfl)); intro gb404 hg w76 hbox hb; have n0_ := Aside0.mk (blk_below (bkk BK375.out) hb); have n1_ := Aside0.mk (blk_below (bkk BK376.out) hb); have n2_ := Aside0.mk (blk_below (bkk BK384.out) hb); have n3_ := Aside0.mk (blk_below (bkk BK388.out) hb); have n4_ := Aside0.mk (blk_below (bkk BK392.out) hb); have n5_ := Aside0.mk (blk_below (bkk BK396.out) hb); have n6_ := Aside0.mk (below_step bel hb); have n7_ := Aside0.mk (hbox); have n8_ := Aside0.mk ((by rw [hg]; exact (below_size bel) : w.heap.size ≤ gb404)); have n9_ := Aside0.mk ((by rw [hg]; exact (below_size bel) : w.heap.size ≤ gb404)); have n10_ := Aside0.mk ((by rw [hg]; exact Nat.ne_of_lt (blk_lt (g := gb375) (o := .cells #[.int .i64 a0_0, .int .i64 a0_1] 23 (0, 0)) (bkk BK375.out)) : gb375 ≠ gb404)); have n11_ := Aside0.mk ((by rw [hg]; exact Nat.ne_of_gt (blk_lt (g := gb375) (o := .cells #[.int .i64 a0_0, .int .i64 a0_1] 23 (0, 0)) (bkk BK375.out)) : gb404 ≠ gb375)); have n12_ := Aside0.mk ((by rw [hg]; exact Nat.ne_of_lt (blk_lt (g := gb376) (o := .cells #[.int .i64 a1_0, .int .i64 a1_1] 23 (0, 0)) (bkk BK376.out)) : gb376 ≠ gb404)); have n13_ := Aside0.mk ((by rw [hg]; exact Nat.ne_of_gt (blk_lt (g := gb376) (o := .cells #[.int .i64 a1_0, .int .i64 a1_1] 23 (0, 0)) (bkk BK376.out)) : gb404 ≠ gb376)); have n14_ := Aside0.mk ((by rw [hg]; exact Nat.ne_of_lt (blk_lt (g := gb384) (o := .cells #[.int .i64 t381, .int .i64 t382] 23 (0, 0)) (bkk BK384.out)) : gb384 ≠ gb404)); have n15_ := Aside0.mk ((by rw [hg]; exact Nat.ne_of_gt (blk_lt (g := gb384) (o := .cells #[.int .i64 t381, .int .i64 t382] 23 (0, 0)) (bkk BK384.out)) : gb404 ≠ gb384)); have n16_ := Aside0.mk ((by rw [hg]; exact Nat.ne_of_lt (blk_lt (g := gb388) (o := .cells #[.int .i64 t385, .int .i64 t386] 23 (0, 0)) (bkk BK388.out)) : gb388 ≠ gb404)); have n17_ := Aside0.mk ((by rw [hg]; exact Nat.ne_of_gt (blk_lt (g := gb388) (o := .cells #[.int .i64 t385, .int .i64 t386] 23 (0, 0)) (bkk BK388.out)) : gb404 ≠ gb388)); have n18_ := Aside0.mk ((by rw [hg]; exact Nat.ne_of_lt (blk_lt (g := gb392) (o := .cells #[.int .i64 t389, .int .i64 t390] 23 (0, 0)) (bkk BK392.out)) : gb392 ≠ gb404)); have n19_ := Aside0.mk ((by rw [hg]; exact Nat.ne_of_gt (blk_lt (g := gb392) (o := .cells #[.int .i64 t389, .int .i64 t390] 23 (0, 0)) (bkk BK392.out)) : gb404 ≠ gb392)); have n20_ := Aside0.mk ((by rw [hg]; exact Nat.ne_of_lt (blk_lt (g := gb396) (o := .cells #[.int .i64 t393, .int .i64 t394] 23 (0, 0)) (bkk BK396.out)) : gb396 ≠ gb404)); have n21_ := Aside0.mk ((by rw [hg]; exact Nat.ne_of_gt (blk_lt (g := gb396) (o := .cells #[.int .i64 t393, .int .i64 t394] 23 (0, 0)) (bkk BK396.out)) : gb404 ≠ gb396)); clear BK375; clear BK376; clear BK384; clear BK388; clear BK392; clear BK396; clear HB; have BK375 := n0_; have BK376 := n1_; have BK384 := n2_; have BK388 := n3_; have BK392 := n4_; have BK396 := n5_; have HB := n6_; have BK404 := n7_; have GW404 := n8_; have GE404 := n9_; have NB375_404 := n10_; have NB404_375 := n11_; have NB376_404 := n12_; have NB404_376 := n13_; have NB384_404 := n14_; have NB404_384 := n15_; have NB388_404 := n16_; have NB404_388 := n17_; have NB392_404 := n18_; have NB404_392 := n19_; have NB396_404 := n20_; have NB404_396 := n21_; clear n0_ n1_ n2_ n3_ n4_ n5_ n6_ n7_ n8_ n9_ n10_ n11_ n12_ n13_ n14_ n15_ n16_ n17_ n18_ n19_ n20_ n21_; clear hb hbox hg; have hnb77 := NB404_375.out; have hnc77 := NB375_404.out; have hnb78 := NB404_376.out; have hnc78 := NB376_404.out; have hnb79 := NB404_384.out; have hnc79 := NB384_404.out; have hnb80 := NB404_388.out; have hnc80 := NB388_404.out; have hnb81 := NB404_392.out; have hnc81 := NB392_404.out; have hnb82 := NB404_396.out; have hnc82 := NB396_404.out; have hcz83_0 : w76.cell? ⟨gb404, 0, none⟩ = some (.int .i64 0) := (blk_cell BK404.out 0).trans rfl; have hcz83_1 : w76.cell? ⟨gb404, 1, none⟩ = some (.int .i64 0) := (blk_cell BK404.out 1).trans rfl; have hfz83_0 := blk_frozen BK404.out 0; have hfz83_1 := blk_frozen BK404.out 1; have hcz84_0 : w76.cell? ⟨gb375, 0, none⟩ = some (.int .i64 a0_0) := (blk_cell BK375.out 0).trans rfl; have hcz84_1 : w76.cell? ⟨gb375, 1, none⟩ = some (.int .i64 a0_1) := (blk_cell BK375.out 1).trans rfl; have hfz84_0 := blk_frozen BK375.out 0; have hfz84_1 := blk_frozen BK375.out 1) | ((with_reducible refine gate_callee (f := 24) rfl ?_); refine goesL_ (some 78) rfl rfl Tryd.func24 (by kernel_rfl) rfl #[.agg #[.int .i64 a0_0, .int .i64 a0_1]] rfl gl_ ?_; (with_reducible refine (erasureref01_Neg.calls a0_0 a0_1 t405 t406 t407 _ A12.out).mono ?_); rintro e w85 ⟨rfl, hb⟩; refine ⟨_, rfl, ?_⟩; have n0_ := Aside0.mk (blk_below (g := gb375) (o := .cells #[.int .i64 a0_0, .int .i64 a0_1] 23 (0, 0)) blks hb); have n1_ := Aside0.mk (blk_below (g := gb376) (o := .cells #[.int .i64 a1_0, .int .i64 a1_1] 23 (0, 0)) blks hb); have n2_ := Aside0.mk (blk_below (g := gb384) (o := .cells #[.int .i64 t381, .int .i64 t382] 23 (0, 0)) blks hb); have n3_ := Aside0.mk (blk_below (g := gb388) (o := .cells #[.int .i64 t385, .int .i64 t386] 23 (0, 0)) blks hb); have n4_ := Aside0.mk (blk_below (g := gb392) (o := .cells #[.int .i64 t389, .int .i64 t390] 23 (0, 0)) blks hb); have n5_ := Aside0.mk (blk_below (g := gb396) (o := .cells #[.int .i64 t393, .int .i64 t394] 23 (0, 0)) blks hb); have n6_ := Aside0.mk (blk_below (g := gb404) (o := .cells #[.int .i64 t401, .int .i64 t402] 23 (0, 0)) (by (with_reducible repeat (first | refine blk_drewN ?_ _ | refine blk_drew ?_ | refine blk_alloc ?_ _)); refine blk_put (cs := #[.int .i64 t401, .int .i64 0]) ?_ 1 _ rfl; (with_reducible repeat (first | refine blk_drewN ?_ _ | refine blk_drew ?_ | refine blk_alloc ?_ _)); refine blk_put (cs := #[.int .i64 0, .int .i64 0]) ?_ 0 _ rfl; (with_reducible repeat (first | refine blk_drewN ?_ _ | refine blk_drew ?_ | refine blk_alloc ?_ _)); exact BK404.out) hb); have n7_ := Aside0.mk (below_step bel hb); clear BK375; clear BK376; clear BK384; clear BK388; clear BK392; clear BK396; clear BK404; clear HB; have BK375 := n0_; have BK376 := n1_; have BK384 := n2_; have BK388 := n3_; have BK392 := n4_; have BK396 := n5_; have BK404 := n6_; have HB := n7_; clear n0_ n1_ n2_ n3_ n4_ n5_ n6_ n7_; (try clear hb); (try clear hb2); (try clear hk); (try clear hi)) | ((with_reducible refine gate_dst (N := 23) rfl ?_); refine box_event ?hg (N := 23) ?hd (cs := #[.int .i64 0, .int .i64 0]) (t := 23) ?hr ?_; (case hd => rfl); (case hg => rfl); (case hr => first | (go_simp; done) | (go_simp; rfl)); intro gb408 hg w86 hbox hb; have n0_ := Aside0.mk (blk_below (bkk BK375.out) hb); have n1_ := Aside0.mk (blk_below (bkk BK376.out) hb); have n2_ := Aside0.mk (blk_below (bkk BK384.out) hb); have n3_ := Aside0.mk (blk_below (bkk BK388.out) hb); have n4_ := Aside0.mk (blk_below (bkk BK392.out) hb); have n5_ := Aside0.mk (blk_below (bkk BK396.out) hb); have n6_ := Aside0.mk (blk_below (bkk BK404.out) hb); have n7_ := Aside0.mk (below_step bel hb); have n8_ := Aside0.mk (hbox); have n9_ := Aside0.mk ((by rw [hg]; exact (below_size bel) : w.heap.size ≤ gb408)); have n10_ := Aside0.mk ((by rw [hg]; exact (below_size bel) : w.heap.size ≤ gb408)); have n11_ := Aside0.mk ((by rw [hg]; exact Nat.ne_of_lt (blk_lt (g := gb375) (o := .cells #[.int .i64 a0_0, .int .i64 a0_1] 23 (0, 0)) (bkk BK375.out)) : gb375 ≠ gb408)); have n12_ := Aside0.mk ((by rw [hg]; exact Nat.ne_of_gt (blk_lt (g := gb375) (o := .cells #[.int .i64 a0_0, .int .i64 a0_1] 23 (0, 0)) (bkk BK375.out)) : gb408 ≠ gb375)); have n13_ := Aside0.mk ((by rw [hg]; exact Nat.ne_of_lt (blk_lt (g := gb376) (o := .cells #[.int .i64 a1_0, .int .i64 a1_1] 23 (0, 0)) (bkk BK376.out)) : gb376 ≠ gb408)); have n14_ := Aside0.mk ((by rw [hg]; exact Nat.ne_of_gt (blk_lt (g := gb376) (o := .cells #[.int .i64 a1_0, .int .i64 a1_1] 23 (0, 0)) (bkk BK376.out)) : gb408 ≠ gb376)); have n15_ := Aside0.mk ((by rw [hg]; exact Nat.ne_of_lt (blk_lt (g := gb384) (o := .cells #[.int .i64 t381, .int .i64 t382] 23 (0, 0)) (bkk BK384.out)) : gb384 ≠ gb408)); have n16_ := Aside0.mk ((by rw [hg]; exact Nat.ne_of_gt (blk_lt (g := gb384) (o := .cells #[.int .i64 t381, .int .i64 t382] 23 (0, 0)) (bkk BK384.out)) : gb408 ≠ gb384)); have n17_ := Aside0.mk ((by rw [hg]; exact Nat.ne_of_lt (blk_lt (g := gb388) (o := .cells #[.int .i64 t385, .int .i64 t386] 23 (0, 0)) (bkk BK388.out)) : gb388 ≠ gb408)); have n18_ := Aside0.mk ((by rw [hg]; exact Nat.ne_of_gt (blk_lt (g := gb388) (o := .cells #[.int .i64 t385, .int .i64 t386] 23 (0, 0)) (bkk BK388.out)) : gb408 ≠ gb388)); have n19_ := Aside0.mk ((by rw [hg]; exact Nat.ne_of_lt (blk_lt (g := gb392) (o := .cells #[.int .i64 t389, .int .i64 t390] 23 (0, 0)) (bkk BK392.out)) : gb392 ≠ gb408)); have n20_ := Aside0.mk ((by rw [hg]; exact Nat.ne_of_gt (blk_lt (g := gb392) (o := .cells #[.int .i64 t389, .int .i64 t390] 23 (0, 0)) (bkk BK392.out)) : gb408 ≠ gb392)); have n21_ := Aside0.mk ((by rw [hg]; exact Nat.ne_of_lt (blk_lt (g := gb396) (o := .cells #[.int .i64 t393, .int .i64 t394] 23 (0, 0)) (bkk BK396.out)) : gb396 ≠ gb408)); have n22_ := Aside0.mk ((by rw [hg]; exact Nat.ne_of_gt (blk_lt (g := gb396) (o := .cells #[.int .i64 t393, .int .i64 t394] 23 (0, 0)) (bkk BK396.out)) : gb408 ≠ gb396)); have n23_ := Aside0.mk ((by rw [hg]; exact Nat.ne_of_lt (blk_lt (g := gb404) (o := .cells #[.int .i64 t401, .int .i64 t402] 23 (0, 0)) (bkk BK404.out)) : gb404 ≠ gb408)); have n24_ := Aside0.mk ((by rw [hg]; exact Nat.ne_of_gt (blk_lt (g := gb404) (o := .cells #[.int .i64 t401, .int .i64 t402] 23 (0, 0)) (bkk BK404.out)) : gb408 ≠ gb404)); clear BK375; clear BK376; clear BK384; clear BK388; clear BK392; clear BK396; clear BK404; clear HB; have BK375 := n0_; have BK376 := n1_; have BK384 := n2_; have BK388 := n3_; have BK392 := n4_; have BK396 := n5_; have BK404 := n6_; have HB := n7_; have BK408 := n8_; have GW408 := n9_; have GE408 := n10_; have NB375_408 := n11_; have NB408_375 := n12_; have NB376_408 := n13_; have NB408_376 := n14_; have NB384_408 := n15_; have NB408_384 := n16_; have NB388_408 := n17_; have NB408_388 := n18_; have NB392_408 := n19_; have NB408_392 := n20_; have NB396_408 := n21_; have NB408_396 := n22_; have NB404_408 := n23_; have NB408_404 := n24_; clear n0_ n1_ n2_ n3_ n4_ n5_ n6_ n7_ n8_ n9_ n10_ n11_ n12_ n13_ n14_ n15_ n16_ n17_ n18_ n19_ n20_ n21_ n22_ n23_ n24_; clear hb hbox hg; have hnb87 := NB408_375.out; have hnc87 := NB375_408.out; have hnb88 := NB408_376.out; have hnc88 := NB376_408.out; have hnb89 := NB408_384.out; have hnc89 := NB384_408.out; have hnb90 := NB408_388.out; have hnc90 := NB388_408.out; have hnb91 := NB408_392.out; have hnc91 := NB392_408.out; have hnb92 := NB408_396.out; have hnc92 := NB396_408.out; have hnb93 := NB408_404.out; have hnc93 := NB404_408.out; have hcz94_0 : w86.cell? ⟨gb408, 0, none⟩ = some (.int .i64 0) := (blk_cell BK408.out 0).trans rfl; have hcz94_1 : w86.cell? ⟨gb408, 1, none⟩ = some (.int .i64 0) := (blk_cell BK408.out 1).trans rfl; have hfz94_0 := blk_frozen BK408.out 0; have hfz94_1 := blk_frozen BK408.out 1))
            have n0_ : Aside0 (((w86.setCell ⟨gb408, 0, none⟩ (.int .i64 t405)).setCell ⟨gb408, 1, none⟩ (.int .i64 t406)).heap[gb375]? = some (.cells #[.int .i64 a0_0, .int .i64 a0_1] 23 (0, 0))) := ⟨blks⟩
            have n1_ : Aside0 (((w86.setCell ⟨gb408, 0, none⟩ (.int .i64 t405)).setCell ⟨gb408, 1, none⟩ (.int .i64 t406)).heap[gb376]? = some (.cells #[.int .i64 a1_0, .int .i64 a1_1] 23 (0, 0))) := ⟨blks⟩
            have n2_ : Aside0 (((w86.setCell ⟨gb408, 0, none⟩ (.int .i64 t405)).setCell ⟨gb408, 1, none⟩ (.int .i64 t406)).heap[gb384]? = some (.cells #[.int .i64 t381, .int .i64 t382] 23 (0, 0))) := ⟨blks⟩
            have n3_ : Aside0 (((w86.setCell ⟨gb408, 0, none⟩ (.int .i64 t405)).setCell ⟨gb408, 1, none⟩ (.int .i64 t406)).heap[gb388]? = some (.cells #[.int .i64 t385, .int .i64 t386] 23 (0, 0))) := ⟨blks⟩
            have n4_ : Aside0 (((w86.setCell ⟨gb408, 0, none⟩ (.int .i64 t405)).setCell ⟨gb408, 1, none⟩ (.int .i64 t406)).heap[gb392]? = some (.cells #[.int .i64 t389, .int .i64 t390] 23 (0, 0))) := ⟨blks⟩
            have n5_ : Aside0 (((w86.setCell ⟨gb408, 0, none⟩ (.int .i64 t405)).setCell ⟨gb408, 1, none⟩ (.int .i64 t406)).heap[gb396]? = some (.cells #[.int .i64 t393, .int .i64 t394] 23 (0, 0))) := ⟨blks⟩
            have n6_ : Aside0 (((w86.setCell ⟨gb408, 0, none⟩ (.int .i64 t405)).setCell ⟨gb408, 1, none⟩ (.int .i64 t406)).heap[gb404]? = some (.cells #[.int .i64 t401, .int .i64 t402] 23 (0, 0))) := ⟨blks⟩
            have n7_ : Aside0 (((w86.setCell ⟨gb408, 0, none⟩ (.int .i64 t405)).setCell ⟨gb408, 1, none⟩ (.int .i64 t406)).heap[gb408]? = some (.cells #[.int .i64 t405, .int .i64 t406] 23 (0, 0))) := ⟨by (with_reducible repeat (first | refine blk_drewN ?_ _ | refine blk_drew ?_ | refine blk_alloc ?_ _)); refine blk_put (cs := #[.int .i64 t405, .int .i64 0]) ?_ 1 _ rfl; (with_reducible repeat (first | refine blk_drewN ?_ _ | refine blk_drew ?_ | refine blk_alloc ?_ _)); refine blk_put (cs := #[.int .i64 0, .int .i64 0]) ?_ 0 _ rfl; (with_reducible repeat (first | refine blk_drewN ?_ _ | refine blk_drew ?_ | refine blk_alloc ?_ _)); exact BK408.out⟩
            have n8_ : Aside0 (Below w.heap.size w ((w86.setCell ⟨gb408, 0, none⟩ (.int .i64 t405)).setCell ⟨gb408, 1, none⟩ (.int .i64 t406))) := ⟨bel⟩
            (try clear BK375)
            (try clear BK376)
            (try clear BK384)
            (try clear BK388)
            (try clear BK392)
            (try clear BK396)
            (try clear BK404)
            (try clear BK408)
            (try clear HB)
            generalize ((w86.setCell ⟨gb408, 0, none⟩ (.int .i64 t405)).setCell ⟨gb408, 1, none⟩ (.int .i64 t406)) = w95 at n0_ n1_ n2_ n3_ n4_ n5_ n6_ n7_ n8_ ⊢
            have BK375 := n0_
            have BK376 := n1_
            have BK384 := n2_
            have BK388 := n3_
            have BK392 := n4_
            have BK396 := n5_
            have BK404 := n6_
            have BK408 := n7_
            have HB := n8_
            clear n0_ n1_ n2_ n3_ n4_ n5_ n6_ n7_ n8_
            have n0_ := Aside0.mk (blk_drew BK375.out)
            have n1_ := Aside0.mk (blk_drew BK376.out)
            have n2_ := Aside0.mk (blk_drew BK384.out)
            have n3_ := Aside0.mk (blk_drew BK388.out)
            have n4_ := Aside0.mk (blk_drew BK392.out)
            have n5_ := Aside0.mk (blk_drew BK396.out)
            have n6_ := Aside0.mk (blk_drew BK404.out)
            have n7_ := Aside0.mk (blk_drew BK408.out)
            have n8_ := Aside0.mk (below_drew1 HB.out)
            clear BK375
            clear BK376
            clear BK384
            clear BK388
            clear BK392
            clear BK396
            clear BK404
            clear BK408
            clear HB
            have BK375 := n0_
            have BK376 := n1_
            have BK384 := n2_
            have BK388 := n3_
            have BK392 := n4_
            have BK396 := n5_
            have BK404 := n6_
            have BK408 := n7_
            have HB := n8_
            clear n0_ n1_ n2_ n3_ n4_ n5_ n6_ n7_ n8_
            refine start_ (n := 60) (S := fun w' => w'.cell? ⟨gb375, 0, none⟩ = some (.int .i64 a0_0) ∧ w'.cell? ⟨gb375, 1, none⟩ = some (.int .i64 a0_1) ∧ w'.cell? ⟨gb384, 0, none⟩ = some (.int .i64 t381) ∧ w'.cell? ⟨gb384, 1, none⟩ = some (.int .i64 t382) ∧ w'.cell? ⟨gb388, 0, none⟩ = some (.int .i64 t385) ∧ w'.cell? ⟨gb388, 1, none⟩ = some (.int .i64 t386) ∧ w'.cell? ⟨gb392, 0, none⟩ = some (.int .i64 t389) ∧ w'.cell? ⟨gb392, 1, none⟩ = some (.int .i64 t390) ∧ w'.cell? ⟨gb396, 0, none⟩ = some (.int .i64 t393) ∧ w'.cell? ⟨gb396, 1, none⟩ = some (.int .i64 t394) ∧ w'.cell? ⟨gb404, 0, none⟩ = some (.int .i64 t401) ∧ w'.cell? ⟨gb404, 1, none⟩ = some (.int .i64 t402) ∧ w'.cell? ⟨gb408, 0, none⟩ = some (.int .i64 t405) ∧ w'.cell? ⟨gb408, 1, none⟩ = some (.int .i64 t406)) (ds := []) (tk_ 60 0) (by kernel_rfl) rfl (by kernel_rfl) ⟨(blk_cell BK375.out 0).trans rfl, (blk_cell BK375.out 1).trans rfl, (blk_cell BK384.out 0).trans rfl, (blk_cell BK384.out 1).trans rfl, (blk_cell BK388.out 0).trans rfl, (blk_cell BK388.out 1).trans rfl, (blk_cell BK392.out 0).trans rfl, (blk_cell BK392.out 1).trans rfl, (blk_cell BK396.out 0).trans rfl, (blk_cell BK396.out 1).trans rfl, (blk_cell BK404.out 0).trans rfl, (blk_cell BK404.out 1).trans rfl, (blk_cell BK408.out 0).trans rfl, (blk_cell BK408.out 1).trans rfl⟩ (fun hHeld => ?_); refine with_tabW erasurelaw01_DecDoes.tab11 erasurelaw01_DecDoes.bits11 (fun HT_ HW_ => ?_)
            generalize w95.drew = w96 at BK375 BK376 BK384 BK388 BK392 BK396 BK404 BK408 HB hHeld ⊢
            refine one_ (i := 0) (N := some 81) (tk_ 60 1) rfl rfl (one_of HT_.out (by kernel_rfl)) (by decide) (fun K hK => ?_)
            refine goes_ Tryd.func12 (by kernel_rfl) rfl #[] (by rfl) rfl rfl gl_ ?_
            with_reducible refine (erasurelaw01_awake.calls  true _ (Tab.below HT.out bel) A13.out).mono ?_
            rintro e w97 ⟨rfl, hb⟩
            refine ⟨_, rfl, ?_⟩
            have n0_ := Aside0.mk (blk_below (bkk BK375.out) hb)
            have n1_ := Aside0.mk (blk_below (bkk BK376.out) hb)
            have n2_ := Aside0.mk (blk_below (bkk BK384.out) hb)
            have n3_ := Aside0.mk (blk_below (bkk BK388.out) hb)
            have n4_ := Aside0.mk (blk_below (bkk BK392.out) hb)
            have n5_ := Aside0.mk (blk_below (bkk BK396.out) hb)
            have n6_ := Aside0.mk (blk_below (bkk BK404.out) hb)
            have n7_ := Aside0.mk (blk_below (bkk BK408.out) hb)
            have n8_ := Aside0.mk (below_step bel hb)
            clear BK375
            clear BK376
            clear BK384
            clear BK388
            clear BK392
            clear BK396
            clear BK404
            clear BK408
            clear HB
            have BK375 := n0_
            have BK376 := n1_
            have BK384 := n2_
            have BK388 := n3_
            have BK392 := n4_
            have BK396 := n5_
            have BK404 := n6_
            have BK408 := n7_
            have HB := n8_
            clear n0_ n1_ n2_ n3_ n4_ n5_ n6_ n7_ n8_
            (try clear hb)
            (try clear hb2)
            (try clear hk)
            (try clear hi)
            refine hK.out _ _ ⟨(blk_cell BK375.out 0).trans rfl, (blk_cell BK375.out 1).trans rfl, (blk_cell BK384.out 0).trans rfl, (blk_cell BK384.out 1).trans rfl, (blk_cell BK388.out 0).trans rfl, (blk_cell BK388.out 1).trans rfl, (blk_cell BK392.out 0).trans rfl, (blk_cell BK392.out 1).trans rfl, (blk_cell BK396.out 0).trans rfl, (blk_cell BK396.out 1).trans rfl, (blk_cell BK404.out 0).trans rfl, (blk_cell BK404.out 1).trans rfl, (blk_cell BK408.out 0).trans rfl, (blk_cell BK408.out 1).trans rfl⟩ (fun hHeld => ?_)
            clear hK K
            refine norm_ (by show Act.put _ (some 81) _ = _; simp only [s0_, s1_, s2_, s3_, s4_, s5_]; rfl) ?_
            refine pu_ 1 82 (tk_ 60 3) HT_.out rfl rfl (by kernel_rfl) (fun _ _ _ h => h) (by rfl) (fun w' => by go_simp; with_reducible rfl) (by simp only [s0_, s1_, s2_, s3_, s4_, s5_]; rfl) ?_
            refine ta_ 2 83 (tk_ 60 7) HT_.out HW_.out rfl rfl (by kernel_rfl) (fun _ _ _ h => h) (by rfl) (by rintro w' ⟨s0, s1, s2, s3, s4, s5, s6, s7, s8, s9, s10, s11, s12, s13⟩; go_simp; with_reducible rfl) hHeld (by simp only [s0_, s1_, s2_, s3_, s4_, s5_]; rfl) ?_
            refine ta_ 5 86 (tk_ 60 39) HT_.out HW_.out rfl rfl (by kernel_rfl) (fun _ _ _ h => h) (by rfl) (by rintro w' ⟨s0, s1, s2, s3, s4, s5, s6, s7, s8, s9, s10, s11, s12, s13⟩; go_simp; with_reducible rfl) hHeld (by simp only [s0_, s1_, s2_, s3_, s4_, s5_]; rfl) ?_
            refine one_ (i := 3) (N := some 84) (tk_ 60 47) rfl rfl (one_of HT_.out (by kernel_rfl)) (by decide) (fun K hK => ?_)
            refine goes_ Tryd.func11 (by kernel_rfl) rfl #[.agg #[.int .i64 a0_0, .int .i64 a0_1]] (by rfl) rfl rfl gl_ ?_
            with_reducible refine (dec_Check.calls a0_0 a0_1 t410 _ A15.out).mono ?_
            rintro e w98 ⟨rfl, hb⟩
            refine ⟨_, rfl, ?_⟩
            have n0_ := Aside0.mk (blk_below (bkk BK375.out) hb)
            have n1_ := Aside0.mk (blk_below (bkk BK376.out) hb)
            have n2_ := Aside0.mk (blk_below (bkk BK384.out) hb)
            have n3_ := Aside0.mk (blk_below (bkk BK388.out) hb)
            have n4_ := Aside0.mk (blk_below (bkk BK392.out) hb)
            have n5_ := Aside0.mk (blk_below (bkk BK396.out) hb)
            have n6_ := Aside0.mk (blk_below (bkk BK404.out) hb)
            have n7_ := Aside0.mk (blk_below (bkk BK408.out) hb)
            have n8_ := Aside0.mk (below_step bel hb)
            clear BK375
            clear BK376
            clear BK384
            clear BK388
            clear BK392
            clear BK396
            clear BK404
            clear BK408
            clear HB
            have BK375 := n0_
            have BK376 := n1_
            have BK384 := n2_
            have BK388 := n3_
            have BK392 := n4_
            have BK396 := n5_
            have BK404 := n6_
            have BK408 := n7_
            have HB := n8_
            clear n0_ n1_ n2_ n3_ n4_ n5_ n6_ n7_ n8_
            (try clear hb)
            (try clear hb2)
            (try clear hk)
            (try clear hi)
            refine hK.out _ _ ⟨(blk_cell BK375.out 0).trans rfl, (blk_cell BK375.out 1).trans rfl, (blk_cell BK384.out 0).trans rfl, (blk_cell BK384.out 1).trans rfl, (blk_cell BK388.out 0).trans rfl, (blk_cell BK388.out 1).trans rfl, (blk_cell BK392.out 0).trans rfl, (blk_cell BK392.out 1).trans rfl, (blk_cell BK396.out 0).trans rfl, (blk_cell BK396.out 1).trans rfl, (blk_cell BK404.out 0).trans rfl, (blk_cell BK404.out 1).trans rfl, (blk_cell BK408.out 0).trans rfl, (blk_cell BK408.out 1).trans rfl⟩ (fun hHeld => ?_)
            clear hK K
            refine norm_ (by show Act.put _ (some 84) _ = _; simp only [s0_, s1_, s2_, s3_, s4_, s5_]; rfl) ?_
            refine pu_ 4 85 (tk_ 60 63) HT_.out rfl rfl (by kernel_rfl) (fun _ _ _ h => h) (by rfl) (fun w' => by go_simp; with_reducible rfl) (by simp only [s0_, s1_, s2_, s3_, s4_, s5_]; rfl) ?_
            refine one_ (i := 6) (N := some 87) (tk_ 60 127) rfl rfl (one_of HT_.out (by kernel_rfl)) (by decide) (fun K hK => ?_)
            refine goes_ Tryd.func25 (by kernel_rfl) rfl #[.agg #[.int .i64 a0_0, .int .i64 a0_1]] (by rfl) rfl rfl gl_ ?_
            with_reducible refine (erasureref01_Right.calls a0_0 a0_1 t411 _ A16.out).mono ?_
            rintro e w99 ⟨rfl, hb⟩
            refine ⟨_, rfl, ?_⟩
            have n0_ := Aside0.mk (blk_below (bkk BK375.out) hb)
            have n1_ := Aside0.mk (blk_below (bkk BK376.out) hb)
            have n2_ := Aside0.mk (blk_below (bkk BK384.out) hb)
            have n3_ := Aside0.mk (blk_below (bkk BK388.out) hb)
            have n4_ := Aside0.mk (blk_below (bkk BK392.out) hb)
            have n5_ := Aside0.mk (blk_below (bkk BK396.out) hb)
            have n6_ := Aside0.mk (blk_below (bkk BK404.out) hb)
            have n7_ := Aside0.mk (blk_below (bkk BK408.out) hb)
            have n8_ := Aside0.mk (below_step bel hb)
            clear BK375
            clear BK376
            clear BK384
            clear BK388
            clear BK392
            clear BK396
            clear BK404
            clear BK408
            clear HB
            have BK375 := n0_
            have BK376 := n1_
            have BK384 := n2_
            have BK388 := n3_
            have BK392 := n4_
            have BK396 := n5_
            have BK404 := n6_
            have BK408 := n7_
            have HB := n8_
            clear n0_ n1_ n2_ n3_ n4_ n5_ n6_ n7_ n8_
            (try clear hb)
            (try clear hb2)
            (try clear hk)
            (try clear hi)
            refine hK.out _ _ ⟨(blk_cell BK375.out 0).trans rfl, (blk_cell BK375.out 1).trans rfl, (blk_cell BK384.out 0).trans rfl, (blk_cell BK384.out 1).trans rfl, (blk_cell BK388.out 0).trans rfl, (blk_cell BK388.out 1).trans rfl, (blk_cell BK392.out 0).trans rfl, (blk_cell BK392.out 1).trans rfl, (blk_cell BK396.out 0).trans rfl, (blk_cell BK396.out 1).trans rfl, (blk_cell BK404.out 0).trans rfl, (blk_cell BK404.out 1).trans rfl, (blk_cell BK408.out 0).trans rfl, (blk_cell BK408.out 1).trans rfl⟩ (fun hHeld => ?_)
            clear hK K
            refine norm_ (by show Act.put _ (some 87) _ = _; simp only [s0_, s1_, s2_, s3_, s4_, s5_]; rfl) ?_
            refine pu_ 7 88 (tk_ 60 255) HT_.out rfl rfl (by kernel_rfl) (fun _ _ _ h => h) (by rfl) (fun w' => by go_simp; with_reducible rfl) (by simp only [s0_, s1_, s2_, s3_, s4_, s5_]; rfl) ?_
            refine pu_ 8 89 (tk_ 60 511) HT_.out rfl rfl (by kernel_rfl) (fun _ _ _ h => h) (by rfl) (fun w' => by go_simp; with_reducible rfl) (by simp only [s0_, s1_, s2_, s3_, s4_, s5_]; rfl) ?_
            refine pu_ 9 90 (tk_ 60 1023) HT_.out rfl rfl (by kernel_rfl) (fun _ _ _ h => h) (by rfl) (fun w' => by go_simp; with_reducible rfl) (by simp only [s0_, s1_, s2_, s3_, s4_, s5_]; rfl) ?_
            refine pu_ 10 91 (tk_ 60 2047) HT_.out rfl rfl (by kernel_rfl) (fun _ _ _ h => h) (by rfl) (fun w' => by go_simp; with_reducible rfl) (by simp only [s0_, s1_, s2_, s3_, s4_, s5_]; rfl) ?_
            refine pu_ 11 92 (tk_ 60 4095) HT_.out rfl rfl (by kernel_rfl) (fun _ _ _ h => h) (by rfl) (fun w' => by go_simp; with_reducible rfl) (by simp only [s0_, s1_, s2_, s3_, s4_, s5_]; rfl) ?_
            refine pu_ 12 93 (tk_ 60 8191) HT_.out rfl rfl (by kernel_rfl) (fun _ _ _ h => h) (by rfl) (fun w' => by go_simp; with_reducible rfl) (by simp only [s0_, s1_, s2_, s3_, s4_, s5_]; rfl) ?_
            refine pu_ 13 94 (tk_ 60 16383) HT_.out rfl rfl (by kernel_rfl) (fun _ _ _ h => h) (by rfl) (fun w' => by go_simp; with_reducible rfl) (by simp only [s0_, s1_, s2_, s3_, s4_, s5_]; rfl) ?_
            refine pu_ 14 95 (tk_ 60 32767) HT_.out rfl rfl (by kernel_rfl) (fun _ _ _ h => h) (by rfl) (fun w' => by go_simp; with_reducible rfl) (by simp only [s0_, s1_, s2_, s3_, s4_, s5_]; rfl) ?_
            refine pu_ 15 96 (tk_ 60 65535) HT_.out rfl rfl (by kernel_rfl) (fun _ _ _ h => h) (by rfl) (fun w' => by go_simp; with_reducible rfl) (by simp only [s0_, s1_, s2_, s3_, s4_, s5_]; rfl) ?_
            refine pu_ 16 97 (tk_ 60 131071) HT_.out rfl rfl (by kernel_rfl) (fun _ _ _ h => h) (by rfl) (fun w' => by go_simp; with_reducible rfl) (by simp only [s0_, s1_, s2_, s3_, s4_, s5_]; rfl) ?_
            refine pu_ 17 98 (tk_ 60 262143) HT_.out rfl rfl (by kernel_rfl) (fun _ _ _ h => h) (by rfl) (fun w' => by go_simp; with_reducible rfl) (by simp only [s0_, s1_, s2_, s3_, s4_, s5_]; rfl) ?_
            refine pu_ 18 99 (tk_ 60 524287) HT_.out rfl rfl (by kernel_rfl) (fun _ _ _ h => h) (by rfl) (fun w' => by go_simp; with_reducible rfl) (by simp only [s0_, s1_, s2_, s3_, s4_, s5_]; rfl) ?_
            refine pu_ 19 100 (tk_ 60 1048575) HT_.out rfl rfl (by kernel_rfl) (fun _ _ _ h => h) (by rfl) (fun w' => by go_simp; with_reducible rfl) (by simp only [s0_, s1_, s2_, s3_, s4_, s5_]; rfl) ?_
            refine ta_ 20 101 (tk_ 60 2097151) HT_.out HW_.out rfl rfl (by kernel_rfl) (fun _ _ _ h => h) (by rfl) (by rintro w' ⟨s0, s1, s2, s3, s4, s5, s6, s7, s8, s9, s10, s11, s12, s13⟩; go_simp; with_reducible rfl) hHeld (by simp only [s0_, s1_, s2_, s3_, s4_, s5_]; rfl) ?_
            refine ta_ 21 102 (tk_ 60 4194303) HT_.out HW_.out rfl rfl (by kernel_rfl) (fun _ _ _ h => h) (by rfl) (by rintro w' ⟨s0, s1, s2, s3, s4, s5, s6, s7, s8, s9, s10, s11, s12, s13⟩; go_simp; with_reducible rfl) hHeld (by simp only [s0_, s1_, s2_, s3_, s4_, s5_]; rfl) ?_
            refine pu_ 22 103 (tk_ 60 8388607) HT_.out rfl rfl (by kernel_rfl) (fun _ _ _ h => h) (by rfl) (fun w' => by go_simp; with_reducible rfl) (by simp only [s0_, s1_, s2_, s3_, s4_, s5_]; rfl) ?_
            refine pu_ 23 104 (tk_ 60 16777215) HT_.out rfl rfl (by kernel_rfl) (fun _ _ _ h => h) (by rfl) (fun w' => by go_simp; with_reducible rfl) (by simp only [s0_, s1_, s2_, s3_, s4_, s5_]; rfl) ?_
            refine pu_ 24 105 (tk_ 60 33554431) HT_.out rfl rfl (by kernel_rfl) (fun _ _ _ h => h) (by rfl) (fun w' => by go_simp; with_reducible rfl) (by simp only [s0_, s1_, s2_, s3_, s4_, s5_]; rfl) ?_
            refine pu_ 25 106 (tk_ 60 67108863) HT_.out rfl rfl (by kernel_rfl) (fun _ _ _ h => h) (by rfl) (fun w' => by go_simp; with_reducible rfl) (by simp only [s0_, s1_, s2_, s3_, s4_, s5_]; rfl) ?_
            refine pu_ 26 107 (tk_ 60 134217727) HT_.out rfl rfl (by kernel_rfl) (fun _ _ _ h => h) (by rfl) (fun w' => by go_simp; with_reducible rfl) (by simp only [s0_, s1_, s2_, s3_, s4_, s5_]; rfl) ?_
            refine pu_ 27 108 (tk_ 60 268435455) HT_.out rfl rfl (by kernel_rfl) (fun _ _ _ h => h) (by rfl) (fun w' => by go_simp; with_reducible rfl) (by simp only [s0_, s1_, s2_, s3_, s4_, s5_]; rfl) ?_
            refine pu_ 28 109 (tk_ 60 536870911) HT_.out rfl rfl (by kernel_rfl) (fun _ _ _ h => h) (by rfl) (fun w' => by go_simp; with_reducible rfl) (by simp only [s0_, s1_, s2_, s3_, s4_, s5_]; rfl) ?_
            refine pu_ 29 110 (tk_ 60 1073741823) HT_.out rfl rfl (by kernel_rfl) (fun _ _ _ h => h) (by rfl) (fun w' => by go_simp; with_reducible rfl) (by simp only [s0_, s1_, s2_, s3_, s4_, s5_]; rfl) ?_
            refine ta_ 30 111 (tk_ 60 2147483647) HT_.out HW_.out rfl rfl (by kernel_rfl) (fun _ _ _ h => h) (by rfl) (by rintro w' ⟨s0, s1, s2, s3, s4, s5, s6, s7, s8, s9, s10, s11, s12, s13⟩; go_simp; with_reducible rfl) hHeld (by simp only [s0_, s1_, s2_, s3_, s4_, s5_]; rfl) ?_
            refine ta_ 31 112 (tk_ 60 4294967295) HT_.out HW_.out rfl rfl (by kernel_rfl) (fun _ _ _ h => h) (by rfl) (by rintro w' ⟨s0, s1, s2, s3, s4, s5, s6, s7, s8, s9, s10, s11, s12, s13⟩; go_simp; with_reducible rfl) hHeld (by simp only [s0_, s1_, s2_, s3_, s4_, s5_]; rfl) ?_
            refine pu_ 32 113 (tk_ 60 8589934591) HT_.out rfl rfl (by kernel_rfl) (fun _ _ _ h => h) (by rfl) (fun w' => by go_simp; with_reducible rfl) (by simp only [s0_, s1_, s2_, s3_, s4_, s5_]; rfl) ?_
            refine pu_ 33 114 (tk_ 60 17179869183) HT_.out rfl rfl (by kernel_rfl) (fun _ _ _ h => h) (by rfl) (fun w' => by go_simp; with_reducible rfl) (by simp only [s0_, s1_, s2_, s3_, s4_, s5_]; rfl) ?_
            refine pu_ 34 115 (tk_ 60 34359738367) HT_.out rfl rfl (by kernel_rfl) (fun _ _ _ h => h) (by rfl) (fun w' => by go_simp; with_reducible rfl) (by simp only [s0_, s1_, s2_, s3_, s4_, s5_]; rfl) ?_
            refine pu_ 35 116 (tk_ 60 68719476735) HT_.out rfl rfl (by kernel_rfl) (fun _ _ _ h => h) (by rfl) (fun w' => by go_simp; with_reducible rfl) (by simp only [s0_, s1_, s2_, s3_, s4_, s5_]; rfl) ?_
            refine pu_ 36 117 (tk_ 60 137438953471) HT_.out rfl rfl (by kernel_rfl) (fun _ _ _ h => h) (by rfl) (fun w' => by go_simp; with_reducible rfl) (by simp only [s0_, s1_, s2_, s3_, s4_, s5_]; rfl) ?_
            refine pu_ 37 118 (tk_ 60 274877906943) HT_.out rfl rfl (by kernel_rfl) (fun _ _ _ h => h) (by rfl) (fun w' => by go_simp; with_reducible rfl) (by simp only [s0_, s1_, s2_, s3_, s4_, s5_]; rfl) ?_
            refine pu_ 38 119 (tk_ 60 549755813887) HT_.out rfl rfl (by kernel_rfl) (fun _ _ _ h => h) (by rfl) (fun w' => by go_simp; with_reducible rfl) (by simp only [s0_, s1_, s2_, s3_, s4_, s5_]; rfl) ?_
            refine pu_ 39 120 (tk_ 60 1099511627775) HT_.out rfl rfl (by kernel_rfl) (fun _ _ _ h => h) (by rfl) (fun w' => by go_simp; with_reducible rfl) (by simp only [s0_, s1_, s2_, s3_, s4_, s5_]; rfl) ?_
            refine pu_ 40 121 (tk_ 60 2199023255551) HT_.out rfl rfl (by kernel_rfl) (fun _ _ _ h => h) (by rfl) (fun w' => by go_simp; with_reducible rfl) (by simp only [s0_, s1_, s2_, s3_, s4_, s5_]; rfl) ?_
            refine pu_ 41 122 (tk_ 60 4398046511103) HT_.out rfl rfl (by kernel_rfl) (fun _ _ _ h => h) (by rfl) (fun w' => by go_simp; with_reducible rfl) (by simp only [s0_, s1_, s2_, s3_, s4_, s5_]; rfl) ?_
            refine pu_ 42 123 (tk_ 60 8796093022207) HT_.out rfl rfl (by kernel_rfl) (fun _ _ _ h => h) (by rfl) (fun w' => by go_simp; with_reducible rfl) (by simp only [s0_, s1_, s2_, s3_, s4_, s5_]; rfl) ?_
            refine pu_ 43 124 (tk_ 60 17592186044415) HT_.out rfl rfl (by kernel_rfl) (fun _ _ _ h => h) (by rfl) (fun w' => by go_simp; with_reducible rfl) (by simp only [s0_, s1_, s2_, s3_, s4_, s5_]; rfl) ?_
            refine pu_ 44 125 (tk_ 60 35184372088831) HT_.out rfl rfl (by kernel_rfl) (fun _ _ _ h => h) (by rfl) (fun w' => by go_simp; with_reducible rfl) (by simp only [s0_, s1_, s2_, s3_, s4_, s5_]; rfl) ?_
            refine pu_ 45 126 (tk_ 60 70368744177663) HT_.out rfl rfl (by kernel_rfl) (fun _ _ _ h => h) (by rfl) (fun w' => by go_simp; with_reducible rfl) (by simp only [s0_, s1_, s2_, s3_, s4_, s5_]; rfl) ?_
            refine pu_ 46 127 (tk_ 60 140737488355327) HT_.out rfl rfl (by kernel_rfl) (fun _ _ _ h => h) (by rfl) (fun w' => by go_simp; with_reducible rfl) (by simp only [s0_, s1_, s2_, s3_, s4_, s5_]; rfl) ?_
            refine pu_ 47 128 (tk_ 60 281474976710655) HT_.out rfl rfl (by kernel_rfl) (fun _ _ _ h => h) (by rfl) (fun w' => by go_simp; with_reducible rfl) (by simp only [s0_, s1_, s2_, s3_, s4_, s5_]; rfl) ?_
            refine pu_ 48 129 (tk_ 60 562949953421311) HT_.out rfl rfl (by kernel_rfl) (fun _ _ _ h => h) (by rfl) (fun w' => by go_simp; with_reducible rfl) (by simp only [s0_, s1_, s2_, s3_, s4_, s5_]; rfl) ?_
            refine pu_ 49 130 (tk_ 60 1125899906842623) HT_.out rfl rfl (by kernel_rfl) (fun _ _ _ h => h) (by rfl) (fun w' => by go_simp; with_reducible rfl) (by simp only [s0_, s1_, s2_, s3_, s4_, s5_]; rfl) ?_
            refine ta_ 50 131 (tk_ 60 2251799813685247) HT_.out HW_.out rfl rfl (by kernel_rfl) (fun _ _ _ h => h) (by rfl) (by rintro w' ⟨s0, s1, s2, s3, s4, s5, s6, s7, s8, s9, s10, s11, s12, s13⟩; go_simp; with_reducible rfl) hHeld (by simp only [s0_, s1_, s2_, s3_, s4_, s5_]; rfl) ?_
            refine ta_ 51 132 (tk_ 60 4503599627370495) HT_.out HW_.out rfl rfl (by kernel_rfl) (fun _ _ _ h => h) (by rfl) (by rintro w' ⟨s0, s1, s2, s3, s4, s5, s6, s7, s8, s9, s10, s11, s12, s13⟩; go_simp; with_reducible rfl) hHeld (by simp only [s0_, s1_, s2_, s3_, s4_, s5_]; rfl) ?_
            refine pu_ 52 133 (tk_ 60 9007199254740991) HT_.out rfl rfl (by kernel_rfl) (fun _ _ _ h => h) (by rfl) (fun w' => by go_simp; with_reducible rfl) (by simp only [s0_, s1_, s2_, s3_, s4_, s5_]; rfl) ?_
            refine pu_ 53 134 (tk_ 60 18014398509481983) HT_.out rfl rfl (by kernel_rfl) (fun _ _ _ h => h) (by rfl) (fun w' => by go_simp; with_reducible rfl) (by simp only [s0_, s1_, s2_, s3_, s4_, s5_]; rfl) ?_
            refine pu_ 54 135 (tk_ 60 36028797018963967) HT_.out rfl rfl (by kernel_rfl) (fun _ _ _ h => h) (by rfl) (fun w' => by go_simp; with_reducible rfl) (by simp only [s0_, s1_, s2_, s3_, s4_, s5_]; rfl) ?_
            refine pu_ 55 136 (tk_ 60 72057594037927935) HT_.out rfl rfl (by kernel_rfl) (fun _ _ _ h => h) (by rfl) (fun w' => by go_simp; with_reducible rfl) (by simp only [s0_, s1_, s2_, s3_, s4_, s5_]; rfl) ?_
            refine pu_ 56 137 (tk_ 60 144115188075855871) HT_.out rfl rfl (by kernel_rfl) (fun _ _ _ h => h) (by rfl) (fun w' => by go_simp; with_reducible rfl) (by simp only [s0_, s1_, s2_, s3_, s4_, s5_]; rfl) ?_
            refine pu_ 57 138 (tk_ 60 288230376151711743) HT_.out rfl rfl (by kernel_rfl) (fun _ _ _ h => h) (by rfl) (fun w' => by go_simp; with_reducible rfl) (by simp only [s0_, s1_, s2_, s3_, s4_, s5_]; rfl) ?_
            refine pu_ 58 139 (tk_ 60 576460752303423487) HT_.out rfl rfl (by kernel_rfl) (fun _ _ _ h => h) (by rfl) (fun w' => by go_simp; with_reducible rfl) (by simp only [s0_, s1_, s2_, s3_, s4_, s5_]; rfl) ?_
            refine pu_ 59 4 (tk_ 60 1152921504606846975) HT_.out rfl rfl (by kernel_rfl) (fun _ _ _ h => h) (by rfl) (fun w' => by go_simp; with_reducible rfl) (by simp only [s0_, s1_, s2_, s3_, s4_, s5_]; rfl) ?_
            refine done_ (done_of HT_.out (by kernel_rfl)) ?_
            try go_wp2
            go_ret
            exact ⟨by first | rfl | (simp [errW_none, errW_some] <;> rfl) | (simp [*, errW_none, errW_some] <;> rfl), bel⟩
           ·rw [if_neg c26] at H
            exact absurd H (by simp)
          ·rw [if_neg c25] at H
           exact absurd H (by simp)
         ·rw [if_neg c24] at H
          exact absurd H (by simp)
        ·rw [if_neg c23] at H
         exact absurd H (by simp)
       ·rw [if_neg c22] at H
        exact absurd H (by simp)
      ·rw [if_neg c21] at H
       exact absurd H (by simp)
     ·rw [if_neg c20] at H
      exact absurd H (by simp)
    ·rw [if_neg c19] at H
     exact absurd H (by simp)
   ·rw [if_neg c18] at H
    exact absurd H (by simp)
  ·rw [if_neg c17] at H
   exact absurd H (by simp)
 ·replace c14 := Bool.eq_false_iff.mpr c14
  subst c14
  have H1 : (none : Option Bool) = some r := by rw [if_neg (show ¬ (false = true) by decide)] at H; exact H
  clear H
  have H := H1
  clear H1
  exact absurd H (by simp)
end Go.Proofs.YtdkckjiccpdkbaaDoor.G
