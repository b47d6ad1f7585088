import Derived.Test.YtnhgnejfagncpaaDoorLot2
import Derived.Test.YtnhgnejfagncpaaDoorLot5
import Derived.Test.YtnhgnejfagncpaaDoorLot3
namespace Go.Proofs.YtnhgnejfagncpaaDoor.M
open Go.RowKit Go.Proofs.YtnhgnejfagncpaaDoorW.PrintWords Go.Proofs.YtnhgnejfagncpaaDoorW.PrintLast Go.Proofs.YtnhgnejfagncpaaDoorW.PrintMore Go.Proofs.YtnhgnejfagncpaaDoor.H Go.Proofs.YtnhgnejfagncpaaDoor.A Go.Proofs.YtnhgnejfagncpaaDoor.B Go.Proofs.YtnhgnejfagncpaaDoor.E Go.Proofs.YtnhgnejfagncpaaDoor.L
attribute [local go_sem] max2_int min2_int max_two min_two max_three min_three max_four min_four   -- for this text's walks alone
set_option linter.unusedVariables false
set_option linter.unusedSimpArgs false
attribute [local go_sem high] eqA25
mutual
def lex_name.l0 : Nat → ByteArray → List Int → Int → Option (ByteArray × Int)
 | 0, _, _, _ => none
 | k + 1, x0, x4, x5 => if x5 < (x0.size : Int) then (if 0 ≤ x5 then (if (bt x0 x5) = 35 then (if (wrap64 (x5 + 2)) ≥ (x0.size : Int) then (lex_name.j1 k x0 x4 x5 true) else (if 0 ≤ (wrap64 (x5 + 1)) then (if (wrap64 (x5 + 1)) < (x0.size : Int) then ((lex_digit.f (bt x0 (wrap64 (x5 + 1)))).bind fun t195 => (if t195 < 0 then (lex_name.j1 k x0 x4 x5 true) else (if 0 ≤ (wrap64 (x5 + 2)) then (if (wrap64 (x5 + 2)) < (x0.size : Int) then ((lex_digit.f (bt x0 (wrap64 (x5 + 2)))).bind fun t196 => (lex_name.j1 k x0 x4 x5 (decide (t196 < 0)))) else (none)) else (none)))) else (none)) else (none))) else (if x4.length < 140737488355328 then (lex_name.l0 k x0 (x4 ++ [bt x0 x5]) (wrap64 (x5 + 1))) else (none))) else (none)) else (some (strOfNums x4, 0))
def lex_name.j1 : Nat → ByteArray → List Int → Int → Bool → Option (ByteArray × Int)
 | 0, _, _, _, _ => none
 | k + 1, x0, x4, x5, x38 => if x38 = true then (some ((⟨#[]⟩ : ByteArray), 4)) else (if 0 ≤ (wrap64 (x5 + 1)) then (if (wrap64 (x5 + 1)) < (x0.size : Int) then ((lex_digit.f (bt x0 (wrap64 (x5 + 1)))).bind fun t197 => (if 0 ≤ (wrap64 (x5 + 2)) then (if (wrap64 (x5 + 2)) < (x0.size : Int) then ((lex_digit.f (bt x0 (wrap64 (x5 + 2)))).bind fun t198 => (if ((Go.bits .or .i64 (wrap64 (t197 * 16)) t198) % 256) = 0 then (some ((⟨#[]⟩ : ByteArray), 4)) else (if x4.length < 140737488355328 then (lex_name.l0 k x0 (x4 ++ [(Go.bits .or .i64 (wrap64 (t197 * 16)) t198) % 256]) (wrap64 ((wrap64 (x5 + 2)) + 1))) else (none)))) else (none)) else (none))) else (none)) else (none))
end
def lex_name.f (k : Nat) (a0 : ByteArray) : Option (ByteArray × Int) := lex_name.l0 k a0 ([] : List Int) 0
def lex_name.T9 : Bool × List (List Nat × List Nat) := (true, [([], []), ([], []), ([1], [1]), ([0, 2], [0, 2]), ([3], [3]), ([4], [4]), ([], []), ([], []), ([7], [7]), ([6, 8], [6, 8]), ([9, 4], [9]), ([5, 10], [5, 10]), ([11], [11]), ([12, 10, 0, 1, 2, 3, 4, 5, 6, 7, 8, 9, 10, 11, 12], [12])])
def lex_name.B9 : List Nat := [0, 0, 2, 7, 15, 31, 0, 0, 128, 448, 991, 2047, 4095, 8191]
theorem lex_name.tab9 : rtab .any (opsOf Tryd.f51 9) = lex_name.T9 := by kernel_rfl
theorem lex_name.bits9 : waitsOk lex_name.T9.2 lex_name.B9 = true := by kernel_rfl
set_option maxHeartbeats 8000000 in
set_option maxRecDepth 100000 in
theorem lex_name.calls (k : Nat) (a0 : ByteArray) (r1 : ByteArray) (r2 : Int) (w : World) (h : lex_name.f k a0 = some (r1, r2)) :
  Calls Tryd.prog 51 #[.string a0] w fun e w' => e = .returned (.tuple #[.string r1, .int .i64 r2]) ∧ Below w.heap.size w w' := by
 have HB := Aside0.mk (Below.refl w.heap.size w)
 have H : (lex_name.l0 k a0 ([] : List Int) 0) = some (r1, r2) := h
 clear h
 have H' := Aside0.mk H
 clear H
 go_enter Tryd.func51, Tryd.ntmps51
 go_wp2
 go_loopg [4, 5] k (fun kq v4 v5 w' => ∃ (x4_1 : List Int) (x5_1 : Int), v5 = .int .i64 x5_1 ∧ Aside0 (lex_name.l0 kq a0 x4_1 x5_1 = some (r1, r2)) ∧ Aside0 (kq ≤ k) ∧ Aside0 (Kd.R (Kd.int .u8) 5 w' w.heap.size (fun _ => True) v4 x4_1) ∧ Aside0 (Below w.heap.size w w'))
 case atStart => exact ⟨(([] : List Int)), (0), ea_, H', ⟨Nat.le_refl _⟩, ⟨by first | exact Kd.R_nil _ _ _ _ _ | exact Kd.N_nil _ _ _ _ _ | exact Kd.V_nil _ _ _ _ _ | exact Kd.Q_nil _ _ _ _ _ | exact Kd.S_nil _ _ _ _ _⟩, ⟨bel⟩⟩
 case round =>
  clear H'
  obtain ⟨x4_1, x5_1, rfl, HA, HK1, HO_4, HB⟩ := hrel
  cases gk with
  | zero => exact absurd HA.out (by simp [lex_name.l0])
  | succ k1 =>
   have H := HA.out
   clear HA
   simp only [lex_name.l0] at H
   by_cases c2 : x5_1 < (a0.size : Int)
   ·rw [if_pos c2] at H
    have c2b0 : decide (x5_1 < (a0.size : Int)) = true := decide_eq_true c2
    clear c2
    by_cases c3 : 0 ≤ x5_1
    ·rw [if_pos c3] at H
     have c3b0 : decide (0 ≤ x5_1) = true := decide_eq_true c3
     clear c3
     by_cases c5 : (bt a0 x5_1) = 35
     ·rw [if_pos c5] at H
      have c5b0 : ((bt a0 x5_1) == 35) = true := beq_iff_eq.mpr c5
      have c5b1 : ((bt a0 x5_1) != 35) = false := bne_eq_false_iff_eq.mpr c5
      clear c5
      have HC6 := Aside0.mk H
      clear H
      have p4 : 0 ≤ (x5_1 : Int) := of_decide_eq_true (by first | (with_reducible assumption) | assumption)
      have q4 : x5_1 < (a0.size : Int) := of_decide_eq_true (by first | (with_reducible assumption) | assumption)
      have hx4 := bt_at a0 x5_1
      replace p4 := eq_true p4
      replace q4 := eq_true q4
      go_upto_region 7 with (fail)
      go_cut [38] (fun v38 wc => ∃ (kq : Nat) (x38_5 : Bool), v38 = .bool x38_5 ∧ Aside0 (lex_name.j1 kq a0 x4_1 x5_1 x38_5 = some (r1, r2)) ∧ Aside0 (kq ≤ k1) ∧ Aside0 (Kd.R (Kd.int .u8) 5 wc w.heap.size (fun _ => True) u4 x4_1) ∧ Aside0 (Below w.heap.size w wc))
      case first =>
       have H := HC6.out
       clear HC6
       by_cases c7 : (wrap64 (x5_1 + 2)) ≥ (a0.size : Int)
       ·rw [if_pos c7] at H
        have c7b0 : decide ((a0.size : Int) ≤ (wrap64 (x5_1 + 2))) = true := decide_eq_true c7
        clear c7
        (first | rw [c7b0] | (simp only [i64_w, i32_w]; rw [c7b0]) | skip)
        have H' := Aside0.mk H
        clear H
        go_wp2
        go_meet
        case rel => exact ⟨_, (true), ea_, H', ⟨by have := HK1.out; first | omega | exact Nat.le_refl _⟩, ⟨rkk HO_4.out⟩, ⟨bel⟩⟩
       ·rw [if_neg c7] at H
        have c7b0 : decide ((a0.size : Int) ≤ (wrap64 (x5_1 + 2))) = false := decide_eq_false c7
        clear c7
        (first | rw [c7b0] | (simp only [i64_w, i32_w]; rw [c7b0]) | skip)
        obtain ⟨ji8, hji8⟩ : ∃ j_ : Int, (wrap64 (x5_1 + 1)) = j_ := ⟨_, rfl⟩
        replace H : (if 0 ≤ (ji8) then (if (ji8) < (a0.size : Int) then ((lex_digit.f (bt a0 (ji8))).bind fun t195 => (if t195 < 0 then (lex_name.j1 k1 a0 x4_1 x5_1 true) else (if 0 ≤ (wrap64 (x5_1 + 2)) then (if (wrap64 (x5_1 + 2)) < (a0.size : Int) then ((lex_digit.f (bt a0 (wrap64 (x5_1 + 2)))).bind fun t196 => (lex_name.j1 k1 a0 x4_1 x5_1 (decide (t196 < 0)))) else (none)) else (none)))) else (none)) else (none)) = some (r1, r2) := by first | (rw [hji8] at H; exact H) | (simp only [hji8] at H ⊢; exact H)
        have hji8w : (IntKind.i64.wrap (x5_1 + 1)) = ji8 := (i64_w _).trans hji8
        by_cases c9 : 0 ≤ (ji8)
        ·rw [if_pos c9] at H
         have c9b0 : decide (0 ≤ (ji8)) = true := decide_eq_true c9
         clear c9
         by_cases c10 : (ji8) < (a0.size : Int)
         ·rw [if_pos c10] at H
          have c10b0 : decide ((ji8) < (a0.size : Int)) = true := decide_eq_true c10
          clear c10
          replace H := Option.bind_eq_some_iff.mp H
          obtain ⟨t195, A120, H⟩ := H
          replace H : (if t195 < 0 then (lex_name.j1 k1 a0 x4_1 x5_1 true) else (if 0 ≤ (wrap64 (x5_1 + 2)) then (if (wrap64 (x5_1 + 2)) < (a0.size : Int) then ((lex_digit.f (bt a0 (wrap64 (x5_1 + 2)))).bind fun t196 => (lex_name.j1 k1 a0 x4_1 x5_1 (decide (t196 < 0)))) else (none)) else (none))) = some (r1, r2) := H
          have A12 := Aside0.mk A120
          clear A120
          by_cases c13 : t195 < 0
          ·rw [if_pos c13] at H
           have c13b0 : decide (t195 < 0) = true := decide_eq_true c13
           clear c13
           have H' := Aside0.mk H
           clear H
           have p11 : 0 ≤ ((ji8) : Int) := of_decide_eq_true (by first | (with_reducible assumption) | assumption)
           have q11 : (ji8) < (a0.size : Int) := of_decide_eq_true (by first | (with_reducible assumption) | assumption)
           have hx11 := bt_at a0 (ji8)
           replace p11 := eq_true p11
           replace q11 := eq_true q11
           go_wp2_with (first | (go_at_call 83; (with_reducible refine (lex_digit.calls (bt a0 (ji8)) t195 _ A12.out).mono ?_); rintro e w14 ⟨rfl, hb⟩; have n0_ := Aside0.mk (Kd.R_below (rkk HO_4.out) hb); have n1_ := Aside0.mk (below_step bel hb); clear HO_4; clear HB; have HO_4 := n0_; have HB := n1_; clear n0_ n1_; (try clear hb); (try clear hb2); (try clear hk); (try clear hi)))
           go_meet
           case rel => exact ⟨_, (true), ea_, H', ⟨by have := HK1.out; first | omega | exact Nat.le_refl _⟩, ⟨rkk HO_4.out⟩, ⟨bel⟩⟩
          ·rw [if_neg c13] at H
           have c13b0 : decide (t195 < 0) = false := decide_eq_false c13
           clear c13
           obtain ⟨ji15, hji15⟩ : ∃ j_ : Int, (wrap64 (x5_1 + 2)) = j_ := ⟨_, rfl⟩
           replace H : (if 0 ≤ (ji15) then (if (ji15) < (a0.size : Int) then ((lex_digit.f (bt a0 (ji15))).bind fun t196 => (lex_name.j1 k1 a0 x4_1 x5_1 (decide (t196 < 0)))) else (none)) else (none)) = some (r1, r2) := by first | (rw [hji15] at H; exact H) | (simp only [hji15] at H ⊢; exact H)
           (try rw [hji15] at c7b0)
           (try rw [hji15] at A12)
           have hji15w : (IntKind.i64.wrap (x5_1 + 2)) = ji15 := (i64_w _).trans hji15
           by_cases c16 : 0 ≤ (ji15)
           ·rw [if_pos c16] at H
            have c16b0 : decide (0 ≤ (ji15)) = true := decide_eq_true c16
            clear c16
            by_cases c17 : (ji15) < (a0.size : Int)
            ·rw [if_pos c17] at H
             have c17b0 : decide ((ji15) < (a0.size : Int)) = true := decide_eq_true c17
             clear c17
             replace H := Option.bind_eq_some_iff.mp H
             obtain ⟨t196, A190, H⟩ := H
             replace H : (lex_name.j1 k1 a0 x4_1 x5_1 (decide (t196 < 0))) = some (r1, r2) := H
             have A19 := Aside0.mk A190
             clear A190
             have H' := Aside0.mk H
             clear H
             have p11 : 0 ≤ ((ji8) : Int) := of_decide_eq_true (by first | (with_reducible assumption) | assumption)
             have q11 : (ji8) < (a0.size : Int) := of_decide_eq_true (by first | (with_reducible assumption) | assumption)
             have hx11 := bt_at a0 (ji8)
             replace p11 := eq_true p11
             replace q11 := eq_true q11
             go_wp2_with (first | (go_at_call 83; (with_reducible refine (lex_digit.calls (bt a0 (ji8)) t195 _ A12.out).mono ?_); rintro e w20 ⟨rfl, hb⟩; have n0_ := Aside0.mk (Kd.R_below (rkk HO_4.out) hb); have n1_ := Aside0.mk (below_step bel hb); clear HO_4; clear HB; have HO_4 := n0_; have HB := n1_; clear n0_ n1_; (try clear hb); (try clear hb2); (try clear hk); (try clear hi); have p18 : 0 ≤ ((ji15) : Int) := of_decide_eq_true (by first | (with_reducible assumption) | assumption); have q18 : (ji15) < (a0.size : Int) := of_decide_eq_true (by first | (with_reducible assumption) | assumption); have hx18 := bt_at a0 (ji15); replace p18 := eq_true p18; replace q18 := eq_true q18) | (go_at_call 83; (with_reducible refine (lex_digit.calls (bt a0 (ji15)) t196 _ A19.out).mono ?_); rintro e w21 ⟨rfl, hb⟩; have n0_ := Aside0.mk (Kd.R_below (rkk HO_4.out) hb); have n1_ := Aside0.mk (below_step bel hb); clear HO_4; clear HB; have HO_4 := n0_; have HB := n1_; clear n0_ n1_; (try clear hb); (try clear hb2); (try clear hk); (try clear hi)))
             go_meet
             case rel => exact ⟨_, (decide (t196 < 0)), ea_, H', ⟨by have := HK1.out; first | omega | exact Nat.le_refl _⟩, ⟨rkk HO_4.out⟩, ⟨bel⟩⟩
            ·rw [if_neg c17] at H
             exact absurd H (by simp)
           ·rw [if_neg c16] at H
            exact absurd H (by simp)
         ·rw [if_neg c10] at H
          exact absurd H (by simp)
        ·rw [if_neg c9] at H
         exact absurd H (by simp)
      case rest =>
       clear HC6
       try clear c1
       try clear p1
       try clear q1
       try clear hx1
       try clear c2
       try clear c2b0
       try clear p2
       try clear c3
       try clear c3b0
       try clear p4
       try clear q4
       try clear hx4
       try clear c5
       try clear c5b0
       try clear c5b1
       try clear p6
       try clear c7
       try clear c7b0
       try clear c9
       try clear c9b0
       try clear c10
       try clear c10b0
       try clear p11
       try clear q11
       try clear hx11
       try clear c13
       try clear c13b0
       try clear c16
       try clear c16b0
       try clear c17
       try clear c17b0
       try clear p18
       try clear q18
       try clear hx18
       try clear p11
       try clear p18
       try clear p4
       try clear q11
       try clear q18
       try clear q4
       obtain ⟨kq, x38_5, rfl, HA, HJ5, HO_4, HB⟩ := hcut
       cases kq with
       | zero => exact absurd HA.out (by simp [lex_name.j1])
       | succ kj5 =>
        have H := HA.out
        clear HA
        simp only [lex_name.j1] at H
        by_cases c22 : x38_5 = true
        ·subst c22
         have H1 : (some ((⟨#[]⟩ : ByteArray), 4)) = some (r1, r2) := by rw [if_pos rfl] at H; exact H
         clear H
         have H := H1
         clear H1
         simp only [Option.some.injEq, Prod.mk.injEq] at H
         obtain ⟨rfl, rfl⟩ := H
         go_wp2
         go_ret2
         exact ⟨ee_, bel⟩
        ·replace c22 := Bool.eq_false_iff.mpr c22
         subst c22
         have H1 : (if 0 ≤ (wrap64 (x5_1 + 1)) then (if (wrap64 (x5_1 + 1)) < (a0.size : Int) then ((lex_digit.f (bt a0 (wrap64 (x5_1 + 1)))).bind fun t197 => (if 0 ≤ (wrap64 (x5_1 + 2)) then (if (wrap64 (x5_1 + 2)) < (a0.size : Int) then ((lex_digit.f (bt a0 (wrap64 (x5_1 + 2)))).bind fun t198 => (if ((Go.bits .or .i64 (wrap64 (t197 * 16)) t198) % 256) = 0 then (some ((⟨#[]⟩ : ByteArray), 4)) else (if x4_1.length < 140737488355328 then (lex_name.l0 kj5 a0 (x4_1 ++ [(Go.bits .or .i64 (wrap64 (t197 * 16)) t198) % 256]) (wrap64 ((wrap64 (x5_1 + 2)) + 1))) else (none)))) else (none)) else (none))) else (none)) else (none)) = some (r1, r2) := by rw [if_neg (show ¬ (false = true) by decide)] at H; exact H
         clear H
         have H := H1
         clear H1
         obtain ⟨ji23, hji23⟩ : ∃ j_ : Int, (wrap64 (x5_1 + 1)) = j_ := ⟨_, rfl⟩
         replace H : (if 0 ≤ (ji23) then (if (ji23) < (a0.size : Int) then ((lex_digit.f (bt a0 (ji23))).bind fun t197 => (if 0 ≤ (wrap64 (x5_1 + 2)) then (if (wrap64 (x5_1 + 2)) < (a0.size : Int) then ((lex_digit.f (bt a0 (wrap64 (x5_1 + 2)))).bind fun t198 => (if ((Go.bits .or .i64 (wrap64 (t197 * 16)) t198) % 256) = 0 then (some ((⟨#[]⟩ : ByteArray), 4)) else (if x4_1.length < 140737488355328 then (lex_name.l0 kj5 a0 (x4_1 ++ [(Go.bits .or .i64 (wrap64 (t197 * 16)) t198) % 256]) (wrap64 ((wrap64 (x5_1 + 2)) + 1))) else (none)))) else (none)) else (none))) else (none)) else (none)) = some (r1, r2) := by first | (rw [hji23] at H; exact H) | (simp only [hji23] at H ⊢; exact H)
         have hji23w : (IntKind.i64.wrap (x5_1 + 1)) = ji23 := (i64_w _).trans hji23
         by_cases c24 : 0 ≤ (ji23)
         ·rw [if_pos c24] at H
          have c24b0 : decide (0 ≤ (ji23)) = true := decide_eq_true c24
          clear c24
          by_cases c25 : (ji23) < (a0.size : Int)
          ·rw [if_pos c25] at H
           have c25b0 : decide ((ji23) < (a0.size : Int)) = true := decide_eq_true c25
           clear c25
           replace H := Option.bind_eq_some_iff.mp H
           obtain ⟨t197, A270, H⟩ := H
           replace H : (if 0 ≤ (wrap64 (x5_1 + 2)) then (if (wrap64 (x5_1 + 2)) < (a0.size : Int) then ((lex_digit.f (bt a0 (wrap64 (x5_1 + 2)))).bind fun t198 => (if ((Go.bits .or .i64 (wrap64 (t197 * 16)) t198) % 256) = 0 then (some ((⟨#[]⟩ : ByteArray), 4)) else (if x4_1.length < 140737488355328 then (lex_name.l0 kj5 a0 (x4_1 ++ [(Go.bits .or .i64 (wrap64 (t197 * 16)) t198) % 256]) (wrap64 ((wrap64 (x5_1 + 2)) + 1))) else (none)))) else (none)) else (none)) = some (r1, r2) := H
           have A27 := Aside0.mk A270
           clear A270
           obtain ⟨ji28, hji28⟩ : ∃ j_ : Int, (wrap64 (x5_1 + 2)) = j_ := ⟨_, rfl⟩
           replace H : (if 0 ≤ (ji28) then (if (ji28) < (a0.size : Int) then ((lex_digit.f (bt a0 (ji28))).bind fun t198 => (if ((Go.bits .or .i64 (wrap64 (t197 * 16)) t198) % 256) = 0 then (some ((⟨#[]⟩ : ByteArray), 4)) else (if x4_1.length < 140737488355328 then (lex_name.l0 kj5 a0 (x4_1 ++ [(Go.bits .or .i64 (wrap64 (t197 * 16)) t198) % 256]) (wrap64 ((ji28) + 1))) else (none)))) else (none)) else (none)) = some (r1, r2) := by first | (rw [hji28] at H; exact H) | (simp only [hji28] at H ⊢; exact H)
           (try rw [hji28] at A27)
           have hji28w : (IntKind.i64.wrap (x5_1 + 2)) = ji28 := (i64_w _).trans hji28
           by_cases c29 : 0 ≤ (ji28)
           ·rw [if_pos c29] at H
            have c29b0 : decide (0 ≤ (ji28)) = true := decide_eq_true c29
            clear c29
            by_cases c30 : (ji28) < (a0.size : Int)
            ·rw [if_pos c30] at H
             have c30b0 : decide ((ji28) < (a0.size : Int)) = true := decide_eq_true c30
             clear c30
             replace H := Option.bind_eq_some_iff.mp H
             obtain ⟨t198, A320, H⟩ := H
             replace H : (if ((Go.bits .or .i64 (wrap64 (t197 * 16)) t198) % 256) = 0 then (some ((⟨#[]⟩ : ByteArray), 4)) else (if x4_1.length < 140737488355328 then (lex_name.l0 kj5 a0 (x4_1 ++ [(Go.bits .or .i64 (wrap64 (t197 * 16)) t198) % 256]) (wrap64 ((ji28) + 1))) else (none))) = some (r1, r2) := H
             have A32 := Aside0.mk A320
             clear A320
             by_cases c33 : ((Go.bits .or .i64 (wrap64 (t197 * 16)) t198) % 256) = 0
             ·rw [if_pos c33] at H
              have c33b0 : (((Go.bits .or .i64 (wrap64 (t197 * 16)) t198) % 256) == 0) = true := beq_iff_eq.mpr c33
              have c33b1 : (((Go.bits .or .i64 (wrap64 (t197 * 16)) t198) % 256) != 0) = false := bne_eq_false_iff_eq.mpr c33
              clear c33
              simp only [Option.some.injEq, Prod.mk.injEq] at H
              obtain ⟨rfl, rfl⟩ := H
              try go_wp2
              have n0_ := Aside0.mk (Kd.R_drew HO_4.out)
              have n1_ := Aside0.mk (below_drew1 HB.out)
              clear HO_4
              clear HB
              have HO_4 := n0_
              have HB := n1_
              clear n0_ n1_
              have p26 : 0 ≤ ((ji23) : Int) := of_decide_eq_true (by first | (with_reducible assumption) | assumption)
              have q26 : (ji23) < (a0.size : Int) := of_decide_eq_true (by first | (with_reducible assumption) | assumption)
              have hx26 := bt_at a0 (ji23)
              replace p26 := eq_true p26
              replace q26 := eq_true q26
              have p31 : 0 ≤ ((ji28) : Int) := of_decide_eq_true (by first | (with_reducible assumption) | assumption)
              have q31 : (ji28) < (a0.size : Int) := of_decide_eq_true (by first | (with_reducible assumption) | assumption)
              have hx31 := bt_at a0 (ji28)
              replace p31 := eq_true p31
              replace q31 := eq_true q31
              refine start_ (n := 14) (S := fun w' => True) (ds := []) (tk_ 14 0) (by kernel_rfl) rfl rfl trivial (fun hHeld => ?_); refine with_tabW lex_name.tab9 lex_name.bits9 (fun HT_ HW_ => ?_)
              generalize wc.drew = w34 at HO_4 HB hHeld ⊢
              refine pu_ 0 39 (tk_ 14 1) HT_.out rfl rfl (by kernel_rfl) (fun _ _ _ h => h) (by rfl) (fun w' => by go_simp; with_reducible rfl) (by simp only [s0_, s1_, s2_, s3_, s4_, s5_]; rfl) ?_
              refine pu_ 1 40 (tk_ 14 3) HT_.out rfl rfl (by kernel_rfl) (fun _ _ _ h => h) (by rfl) (fun w' => by go_simp; with_reducible rfl) (by simp only [s0_, s1_, s2_, s3_, s4_, s5_]; rfl) ?_
              refine pu_ 2 41 (tk_ 14 7) HT_.out rfl rfl (by kernel_rfl) (fun _ _ _ h => h) (by rfl) (fun w' => by go_simp; with_reducible rfl) (by simp only [s0_, s1_, s2_, s3_, s4_, s5_]; rfl) ?_
              refine pu_ 6 45 (tk_ 14 71) HT_.out rfl rfl (by kernel_rfl) (fun _ _ _ h => h) (by rfl) (fun w' => by go_simp; with_reducible rfl) (by simp only [s0_, s1_, s2_, s3_, s4_, s5_]; rfl) ?_
              refine pu_ 7 46 (tk_ 14 199) HT_.out rfl rfl (by kernel_rfl) (fun _ _ _ h => h) (by rfl) (fun w' => by go_simp; with_reducible rfl) (by simp only [s0_, s1_, s2_, s3_, s4_, s5_]; rfl) ?_
              refine pu_ 8 47 (tk_ 14 455) HT_.out rfl rfl (by kernel_rfl) (fun _ _ _ h => h) (by rfl) (fun w' => by go_simp; with_reducible rfl) (by simp only [s0_, s1_, s2_, s3_, s4_, s5_]; rfl) ?_
              refine take_ (i := 3) (N := some 42) (v := ?_) (a' := ?_) (tk_ 14 463) rfl rfl (take_ofW HT_.out HW_.out (by kernel_rfl)) (fun _ _ _ h => h) (Or.inl ⟨by rfl, ?_⟩) hHeld ?_ ?_
              rotate_left
              ·intro w' _
               go_simp
               with_reducible rfl
              rotate_left
              ·simp only [Act.put, List.setIfInBounds_toArray, List.set_cons_zero, List.set_cons_succ, i64_w, i32_w]
               rfl
              refine take_ (i := 9) (N := some 48) (v := ?_) (a' := ?_) (tk_ 14 975) rfl rfl (take_ofW HT_.out HW_.out (by kernel_rfl)) (fun _ _ _ h => h) (Or.inl ⟨by rfl, ?_⟩) hHeld ?_ ?_
              rotate_left
              ·intro w' _
               go_simp
               with_reducible rfl
              rotate_left
              ·simp only [Act.put, List.setIfInBounds_toArray, List.set_cons_zero, List.set_cons_succ, i64_w, i32_w]
               rfl
              refine one_ (i := 4) (N := some 43) (tk_ 14 991) rfl rfl (one_of HT_.out (by kernel_rfl)) (by decide) (fun K hK => ?_)
              refine goes_ Tryd.func83 (by kernel_rfl) rfl #[.int .u8 (bt a0 (ji23))] (by rfl) rfl rfl (by (try simp only [List.map_toArray, List.map_cons, List.map_nil]); first | done | (simp only [hji23]; rfl) | rfl | (simp only [List.length_drop, List.length_take]; rfl)) ?_
              with_reducible refine (lex_digit.calls (bt a0 (ji23)) t197 _ A27.out).mono ?_
              rintro e wq0 ⟨rfl, hb⟩
              refine ⟨_, rfl, ?_⟩
              have n0_ := Aside0.mk (Kd.R_below (rkk HO_4.out) hb)
              have n1_ := Aside0.mk (below_step bel hb)
              clear HO_4
              clear HB
              have HO_4 := n0_
              have HB := n1_
              clear n0_ n1_
              (try clear hb)
              (try clear hb2)
              (try clear hk)
              (try clear hi)
              refine hK.out _ _ trivial (fun hHeld => ?_)
              clear hK K
              refine norm_ (by show Act.put _ (some 43) _ = _; simp only [s0_, s1_, s2_, s3_, s4_, s5_]; rfl) ?_
              refine pu_ 5 44 (tk_ 14 1023) HT_.out rfl rfl (by kernel_rfl) (fun _ _ _ h => h) (by rfl) (fun w' => by go_simp; with_reducible rfl) (by simp only [s0_, s1_, s2_, s3_, s4_, s5_]; rfl) ?_
              refine one_ (i := 10) (N := some 49) (tk_ 14 2047) rfl rfl (one_of HT_.out (by kernel_rfl)) (by decide) (fun K hK => ?_)
              refine goes_ Tryd.func83 (by kernel_rfl) rfl #[.int .u8 (bt a0 (ji28))] (by rfl) rfl rfl (by (try simp only [List.map_toArray, List.map_cons, List.map_nil]); first | done | (simp only [hji28]; rfl) | rfl | (simp only [List.length_drop, List.length_take]; rfl)) ?_
              with_reducible refine (lex_digit.calls (bt a0 (ji28)) t198 _ A32.out).mono ?_
              rintro e wq1 ⟨rfl, hb⟩
              refine ⟨_, rfl, ?_⟩
              have n0_ := Aside0.mk (Kd.R_below (rkk HO_4.out) hb)
              have n1_ := Aside0.mk (below_step bel hb)
              clear HO_4
              clear HB
              have HO_4 := n0_
              have HB := n1_
              clear n0_ n1_
              (try clear hb)
              (try clear hb2)
              (try clear hk)
              (try clear hi)
              refine hK.out _ _ trivial (fun hHeld => ?_)
              clear hK K
              refine norm_ (by show Act.put _ (some 49) _ = _; simp only [s0_, s1_, s2_, s3_, s4_, s5_]; rfl) ?_
              refine pu_ 11 50 (tk_ 14 4095) HT_.out rfl rfl (by kernel_rfl) (fun _ _ _ h => h) (by rfl) (fun w' => by go_simp; with_reducible rfl) (by simp only [s0_, s1_, s2_, s3_, s4_, s5_]; rfl) ?_
              refine pu_ 12 51 (tk_ 14 8191) HT_.out rfl rfl (by kernel_rfl) (fun _ _ _ h => h) (by rfl) (fun w' => by go_simp; with_reducible rfl) (by simp only [s0_, s1_, s2_, s3_, s4_, s5_]; rfl) ?_
              refine pu_ 13 6 (tk_ 14 16383) HT_.out rfl rfl (by kernel_rfl) (fun _ _ _ h => h) (by rfl) (fun w' => by go_simp; with_reducible rfl) (by simp only [s0_, s1_, s2_, s3_, s4_, s5_]; rfl) ?_
              refine done_ (done_of HT_.out (by kernel_rfl)) ?_
              try go_wp2
              go_ret2
              exact ⟨by first | rfl | (simp [errW_none, errW_some] <;> rfl) | (simp only [← hji23, ← hji28]; first | rfl | (simp [errW_none, errW_some] <;> rfl)) | (simp [*, errW_none, errW_some] <;> rfl), bel⟩
             ·rw [if_neg c33] at H
              have c33b0 : (((Go.bits .or .i64 (wrap64 (t197 * 16)) t198) % 256) == 0) = false := beq_eq_false_iff_ne.mpr c33
              have c33b1 : (((Go.bits .or .i64 (wrap64 (t197 * 16)) t198) % 256) != 0) = true := bne_iff_ne.mpr c33
              by_cases c37 : x4_1.length < 140737488355328
              ·rw [if_pos c37] at H
               have LMc37 := Aside0.mk c37
               clear c37
               obtain ⟨y199, hy199⟩ : ∃ y_ : List Int, y_ = (x4_1 ++ [(Go.bits .or .i64 (wrap64 (t197 * 16)) t198) % 256]) := ⟨_, rfl⟩
               replace H : (lex_name.l0 kj5 a0 y199 (wrap64 ((ji28) + 1))) = some (r1, r2) := by first | (rw [hy199]; with_reducible exact H) | (have H2_ := (Option.bind_some _ _).symm.trans H; rw [hy199]; with_reducible exact H2_) | (have H2_ := (Option.bind_some _ _).symm.trans H; with_reducible exact H2_) | with_reducible exact H | (rw [hy199]; exact H) | exact H
               have Ny199 := Aside0.mk hy199
               clear hy199
               have H' := Aside0.mk H
               clear H
               try go_wp2
               have n0_ := Aside0.mk (Kd.R_drew HO_4.out)
               have n1_ := Aside0.mk (below_drew1 HB.out)
               clear HO_4
               clear HB
               have HO_4 := n0_
               have HB := n1_
               clear n0_ n1_
               have p26 : 0 ≤ ((ji23) : Int) := of_decide_eq_true (by first | (with_reducible assumption) | assumption)
               have q26 : (ji23) < (a0.size : Int) := of_decide_eq_true (by first | (with_reducible assumption) | assumption)
               have hx26 := bt_at a0 (ji23)
               replace p26 := eq_true p26
               replace q26 := eq_true q26
               have p31 : 0 ≤ ((ji28) : Int) := of_decide_eq_true (by first | (with_reducible assumption) | assumption)
               have q31 : (ji28) < (a0.size : Int) := of_decide_eq_true (by first | (with_reducible assumption) | assumption)
               have hx31 := bt_at a0 (ji28)
               replace p31 := eq_true p31
               replace q31 := eq_true q31
               refine start_ (n := 14) (S := fun w' => True) (ds := []) (tk_ 14 0) (by kernel_rfl) rfl rfl trivial (fun hHeld => ?_); refine with_tabW lex_name.tab9 lex_name.bits9 (fun HT_ HW_ => ?_)
               generalize wc.drew = w38 at HO_4 HB hHeld ⊢
               refine pu_ 0 39 (tk_ 14 1) HT_.out rfl rfl (by kernel_rfl) (fun _ _ _ h => h) (by rfl) (fun w' => by go_simp; with_reducible rfl) (by simp only [s0_, s1_, s2_, s3_, s4_, s5_]; rfl) ?_
               refine pu_ 1 40 (tk_ 14 3) HT_.out rfl rfl (by kernel_rfl) (fun _ _ _ h => h) (by rfl) (fun w' => by go_simp; with_reducible rfl) (by simp only [s0_, s1_, s2_, s3_, s4_, s5_]; rfl) ?_
               refine pu_ 2 41 (tk_ 14 7) HT_.out rfl rfl (by kernel_rfl) (fun _ _ _ h => h) (by rfl) (fun w' => by go_simp; with_reducible rfl) (by simp only [s0_, s1_, s2_, s3_, s4_, s5_]; rfl) ?_
               refine pu_ 6 45 (tk_ 14 71) HT_.out rfl rfl (by kernel_rfl) (fun _ _ _ h => h) (by rfl) (fun w' => by go_simp; with_reducible rfl) (by simp only [s0_, s1_, s2_, s3_, s4_, s5_]; rfl) ?_
               refine pu_ 7 46 (tk_ 14 199) HT_.out rfl rfl (by kernel_rfl) (fun _ _ _ h => h) (by rfl) (fun w' => by go_simp; with_reducible rfl) (by simp only [s0_, s1_, s2_, s3_, s4_, s5_]; rfl) ?_
               refine pu_ 8 47 (tk_ 14 455) HT_.out rfl rfl (by kernel_rfl) (fun _ _ _ h => h) (by rfl) (fun w' => by go_simp; with_reducible rfl) (by simp only [s0_, s1_, s2_, s3_, s4_, s5_]; rfl) ?_
               refine take_ (i := 3) (N := some 42) (v := ?_) (a' := ?_) (tk_ 14 463) rfl rfl (take_ofW HT_.out HW_.out (by kernel_rfl)) (fun _ _ _ h => h) (Or.inl ⟨by rfl, ?_⟩) hHeld ?_ ?_
               rotate_left
               ·intro w' _
                go_simp
                with_reducible rfl
               rotate_left
               ·simp only [Act.put, List.setIfInBounds_toArray, List.set_cons_zero, List.set_cons_succ, i64_w, i32_w]
                rfl
               refine take_ (i := 9) (N := some 48) (v := ?_) (a' := ?_) (tk_ 14 975) rfl rfl (take_ofW HT_.out HW_.out (by kernel_rfl)) (fun _ _ _ h => h) (Or.inl ⟨by rfl, ?_⟩) hHeld ?_ ?_
               rotate_left
               ·intro w' _
                go_simp
                with_reducible rfl
               rotate_left
               ·simp only [Act.put, List.setIfInBounds_toArray, List.set_cons_zero, List.set_cons_succ, i64_w, i32_w]
                rfl
               refine one_ (i := 4) (N := some 43) (tk_ 14 991) rfl rfl (one_of HT_.out (by kernel_rfl)) (by decide) (fun K hK => ?_)
               refine goes_ Tryd.func83 (by kernel_rfl) rfl #[.int .u8 (bt a0 (ji23))] (by rfl) rfl rfl (by (try simp only [List.map_toArray, List.map_cons, List.map_nil]); first | done | (simp only [hji23]; rfl) | rfl | (simp only [List.length_drop, List.length_take]; rfl)) ?_
               with_reducible refine (lex_digit.calls (bt a0 (ji23)) t197 _ A27.out).mono ?_
               rintro e w39 ⟨rfl, hb⟩
               refine ⟨_, rfl, ?_⟩
               have n0_ := Aside0.mk (Kd.R_below (rkk HO_4.out) hb)
               have n1_ := Aside0.mk (below_step bel hb)
               clear HO_4
               clear HB
               have HO_4 := n0_
               have HB := n1_
               clear n0_ n1_
               (try clear hb)
               (try clear hb2)
               (try clear hk)
               (try clear hi)
               refine hK.out _ _ trivial (fun hHeld => ?_)
               clear hK K
               refine norm_ (by show Act.put _ (some 43) _ = _; simp only [s0_, s1_, s2_, s3_, s4_, s5_]; rfl) ?_
               refine pu_ 5 44 (tk_ 14 1023) HT_.out rfl rfl (by kernel_rfl) (fun _ _ _ h => h) (by rfl) (fun w' => by go_simp; with_reducible rfl) (by simp only [s0_, s1_, s2_, s3_, s4_, s5_]; rfl) ?_
               refine one_ (i := 10) (N := some 49) (tk_ 14 2047) rfl rfl (one_of HT_.out (by kernel_rfl)) (by decide) (fun K hK => ?_)
               refine goes_ Tryd.func83 (by kernel_rfl) rfl #[.int .u8 (bt a0 (ji28))] (by rfl) rfl rfl (by (try simp only [List.map_toArray, List.map_cons, List.map_nil]); first | done | (simp only [hji28]; rfl) | rfl | (simp only [List.length_drop, List.length_take]; rfl)) ?_
               with_reducible refine (lex_digit.calls (bt a0 (ji28)) t198 _ A32.out).mono ?_
               rintro e w40 ⟨rfl, hb⟩
               refine ⟨_, rfl, ?_⟩
               have n0_ := Aside0.mk (Kd.R_below (rkk HO_4.out) hb)
               have n1_ := Aside0.mk (below_step bel hb)
               clear HO_4
               clear HB
               have HO_4 := n0_
               have HB := n1_
               clear n0_ n1_
               (try clear hb)
               (try clear hb2)
               (try clear hk)
               (try clear hi)
               refine hK.out _ _ trivial (fun hHeld => ?_)
               clear hK K
               refine norm_ (by show Act.put _ (some 49) _ = _; simp only [s0_, s1_, s2_, s3_, s4_, s5_]; rfl) ?_
               refine pu_ 11 50 (tk_ 14 4095) HT_.out rfl rfl (by kernel_rfl) (fun _ _ _ h => h) (by rfl) (fun w' => by go_simp; with_reducible rfl) (by simp only [s0_, s1_, s2_, s3_, s4_, s5_]; rfl) ?_
               refine pu_ 12 51 (tk_ 14 8191) HT_.out rfl rfl (by kernel_rfl) (fun _ _ _ h => h) (by rfl) (fun w' => by go_simp; with_reducible rfl) (by simp only [s0_, s1_, s2_, s3_, s4_, s5_]; rfl) ?_
               refine pu_ 13 6 (tk_ 14 16383) HT_.out rfl rfl (by kernel_rfl) (fun _ _ _ h => h) (by rfl) (fun w' => by go_simp; with_reducible rfl) (by simp only [s0_, s1_, s2_, s3_, s4_, s5_]; rfl) ?_
               refine done_ (done_of HT_.out (by kernel_rfl)) ?_
               try go_wp2_with (first | ((with_reducible refine gate_builtin (b := .append) (xs := #[.tmp 56, .tmp 58]) rfl ?_); at_builtin; refine Kd.R_append (Kd.int .u8) (w0 := w) w.heap.size rfl (.tmp 56) (.tmp 58) 22 5 (.int .u8 0) 1 rfl Tryd.underlying22 info5 rfl (by decide) (by omega) u4 x4_1 ((Go.bits .or .i64 (wrap64 (t197 * 16)) t198) % 256) [.int .u8 ((Go.bits .or .i64 (wrap64 (t197 * 16)) t198) % 256)] (fun _ => True) (fun _ => False) rfl rfl ?aP (fun _ hk => hk.elim) ?aF ?aO ?aB ?aS ?aL ?_; (case aP => exact rfl); (case aB => exact bel); (case aF => exact (fun _ _ => trivial)); (case aO => exact (rkk HO_4.out)); (case aS => exact (below_size bel)); (case aL => have := LMc37.out; omega); intro v200 w41 ho hb hg hat; rw [← Ny199.out] at ho; have n0_ := Aside0.mk (hb); have n1_ := Aside0.mk (ho); clear HB; clear HO_4; have HB := n0_; have HO201 := n1_; clear n0_ n1_; clear ho hb hg hat))
               go_roundg kj5
               case measure => have := HK1.out; have := HJ5.out; omega
               case rel => exact ⟨(y199), (wrap64 ((ji28) + 1)), (by first | rfl | (simp; done) | (simp only [← hji28] <;> (first | rfl | simp)) | (simp [*]; done)), H', ⟨by have := HK1.out; have := HJ5.out; omega⟩, ⟨rkk HO201.out⟩, ⟨bel⟩⟩
              ·rw [if_neg c37] at H
               exact absurd H (by simp)
            ·rw [if_neg c30] at H
             exact absurd H (by simp)
           ·rw [if_neg c29] at H
            exact absurd H (by simp)
          ·rw [if_neg c25] at H
           exact absurd H (by simp)
         ·rw [if_neg c24] at H
          exact absurd H (by simp)
     ·rw [if_neg c5] at H
      have c5b0 : ((bt a0 x5_1) == 35) = false := beq_eq_false_iff_ne.mpr c5
      have c5b1 : ((bt a0 x5_1) != 35) = true := bne_iff_ne.mpr c5
      by_cases c42 : x4_1.length < 140737488355328
      ·rw [if_pos c42] at H
       have LMc42 := Aside0.mk c42
       clear c42
       obtain ⟨y202, hy202⟩ : ∃ y_ : List Int, y_ = (x4_1 ++ [bt a0 x5_1]) := ⟨_, rfl⟩
       replace H : (lex_name.l0 k1 a0 y202 (wrap64 (x5_1 + 1))) = some (r1, r2) := by first | (rw [hy202]; with_reducible exact H) | (have H2_ := (Option.bind_some _ _).symm.trans H; rw [hy202]; with_reducible exact H2_) | (have H2_ := (Option.bind_some _ _).symm.trans H; with_reducible exact H2_) | with_reducible exact H | (rw [hy202]; exact H) | exact H
       have Ny202 := Aside0.mk hy202
       clear hy202
       have H' := Aside0.mk H
       clear H
       have p4 : 0 ≤ (x5_1 : Int) := of_decide_eq_true (by first | (with_reducible assumption) | assumption)
       have q4 : x5_1 < (a0.size : Int) := of_decide_eq_true (by first | (with_reducible assumption) | assumption)
       have hx4 := bt_at a0 x5_1
       replace p4 := eq_true p4
       replace q4 := eq_true q4
       go_wp2_with (first | ((with_reducible refine gate_builtin (b := .append) (xs := #[.tmp 56, .tmp 58]) rfl ?_); at_builtin; refine Kd.R_append (Kd.int .u8) (w0 := w) w.heap.size rfl (.tmp 56) (.tmp 58) 22 5 (.int .u8 0) 1 rfl Tryd.underlying22 info5 rfl (by decide) (by omega) u4 x4_1 (bt a0 x5_1) [.int .u8 (bt a0 x5_1)] (fun _ => True) (fun _ => False) rfl rfl ?aP (fun _ hk => hk.elim) ?aF ?aO ?aB ?aS ?aL ?_; (case aP => exact rfl); (case aB => exact bel); (case aF => exact (fun _ _ => trivial)); (case aO => exact (rkk HO_4.out)); (case aS => exact (below_size bel)); (case aL => have := LMc42.out; omega); intro v203 w43 ho hb hg hat; rw [← Ny202.out] at ho; have n0_ := Aside0.mk (hb); have n1_ := Aside0.mk (ho); clear HB; clear HO_4; have HB := n0_; have HO204 := n1_; clear n0_ n1_; clear ho hb hg hat))
       go_roundg k1
       case measure => have := HK1.out; omega
       case rel => exact ⟨(y202), (wrap64 (x5_1 + 1)), ea_, H', ⟨by have := HK1.out; omega⟩, ⟨rkk HO204.out⟩, ⟨bel⟩⟩
      ·rw [if_neg c42] at H
       exact absurd H (by simp)
    ·rw [if_neg c3] at H
     exact absurd H (by simp)
   ·rw [if_neg c2] at H
    have c2b0 : decide (x5_1 < (a0.size : Int)) = false := decide_eq_false c2
    clear c2
    simp only [Option.some.injEq, Prod.mk.injEq] at H
    obtain ⟨rfl, rfl⟩ := H
    have hcvq0 := own_string (P := Tryd.prog) Tryd.underlying22 Tryd.underlying5 Tryd.underlying9 (Kd.own_of_R HO_4.out)
    go_wp2
    go_ret2
    exact ⟨ee_, bel⟩
def lex_check.f (k : Nat) (a0_0 : Int) (a0_1 : Int) (a0_2 : Int) (a0_3 : ByteArray) : Option (Bool) := if a0_0 = 1 then ((dec_Check.f a0_1 a0_2).bind fun t227 => (if t227 = 0 then (some (a0_3.toList == ([] : List UInt8))) else (some false))) else (if a0_0 = 2 then (if (a0_1 == 0 && (a0_2 == 0)) = true then (if (a0_3.size : Int) ≤ 65535 then ((strings_IndexByte.f a0_3 0).bind fun t228 => (some (decide (t228 < 0)))) else (some false)) else (some false)) else (if a0_0 = 3 then (if (a0_1 == 0 && (a0_2 == 0)) = true then (some (decide ((a0_3.size : Int) ≤ 65535))) else (some false)) else (if a0_0 = 4 then ((dec_Parse.f k a0_3).bind fun bt229 => (if (a0_1 == 0 && (a0_2 == 0)) = true then (if a0_3.toList = ([] : List UInt8) then (some false) else (if (a0_3.size : Int) ≤ 127 then ((lex_plain.f k a0_3).bind fun t233 => (if t233 = true then (some (bt229.2.2 == 4)) else (some false))) else (some false))) else (some false))) else (if (a0_1 == 0 && (a0_2 == 0)) = true then (if a0_0 ≥ 0 then (if a0_0 ≤ 8 then (some (a0_3.toList == ([] : List UInt8))) else (some false)) else (some false)) else (some false)))))
theorem lf_M3_1 {p_ : Prop} (h_ : p_ := by
  go_wp2_with (first | ((with_reducible refine gate_dst (N := 1) rfl ?_); (try (refine gate_guard (by rfl) ?_; dsimp only)); refine box_event ?hg (N := 1) ?hd (cs := #[.int .i64 a0_0, .int .i64 a0_1, .int .i64 a0_2, .string a0_3]) (t := 27) ?hr ?_; (case hd => rfl); (case hg => rfl); (case hr => first | (go_simp; done) | (go_simp; rfl)); intro gb226 hg wq0 hbox hb; have n0_ := Aside0.mk (below_step bel hb); have n1_ := Aside0.mk (hbox); have n2_ := Aside0.mk ((by rw [hg]; exact (below_size bel) : w.heap.size ≤ gb226)); have n3_ := Aside0.mk ((by rw [hg]; exact (below_size bel) : w.heap.size ≤ gb226)); clear HB; have HB := n0_; have BK226 := n1_; have GW226 := n2_; have GE226 := n3_; clear n0_ n1_ n2_ n3_; clear hb hbox hg; have hczq0 : wq0.cell? ⟨gb226, 0, none⟩ = some (.int .i64 a0_0) := (blk_cell BK226.out 0).trans rfl; have hczq1 : wq0.cell? ⟨gb226, 1, none⟩ = some (.int .i64 a0_1) := (blk_cell BK226.out 1).trans rfl; have hczq2 : wq0.cell? ⟨gb226, 2, none⟩ = some (.int .i64 a0_2) := (blk_cell BK226.out 2).trans rfl; have hczq3 : wq0.cell? ⟨gb226, 3, none⟩ = some (.string a0_3) := (blk_cell BK226.out 3).trans rfl; have hfzq0 := blk_frozen BK226.out 0; have hfzq1 := blk_frozen BK226.out 1; have hfzq2 := blk_frozen BK226.out 2; have hfzq3 := blk_frozen BK226.out 3))
  go_ret
  exact ⟨ee_, bel⟩) : p_ := h_
theorem lf_M3_2 {p_ : Prop} (h_ : p_ := by
  go_wp2_with (first | ((with_reducible refine gate_dst (N := 1) rfl ?_); (try (refine gate_guard (by rfl) ?_; dsimp only)); refine box_event ?hg (N := 1) ?hd (cs := #[.int .i64 a0_0, .int .i64 a0_1, .int .i64 a0_2, .string a0_3]) (t := 27) ?hr ?_; (case hd => rfl); (case hg => rfl); (case hr => first | (go_simp; done) | (go_simp; rfl)); intro gb226 hg wq0 hbox hb; have n0_ := Aside0.mk (below_step bel hb); have n1_ := Aside0.mk (hbox); have n2_ := Aside0.mk ((by rw [hg]; exact (below_size bel) : w.heap.size ≤ gb226)); have n3_ := Aside0.mk ((by rw [hg]; exact (below_size bel) : w.heap.size ≤ gb226)); clear HB; have HB := n0_; have BK226 := n1_; have GW226 := n2_; have GE226 := n3_; clear n0_ n1_ n2_ n3_; clear hb hbox hg; have hczq0 : wq0.cell? ⟨gb226, 0, none⟩ = some (.int .i64 a0_0) := (blk_cell BK226.out 0).trans rfl; have hczq1 : wq0.cell? ⟨gb226, 1, none⟩ = some (.int .i64 a0_1) := (blk_cell BK226.out 1).trans rfl; have hczq2 : wq0.cell? ⟨gb226, 2, none⟩ = some (.int .i64 a0_2) := (blk_cell BK226.out 2).trans rfl; have hczq3 : wq0.cell? ⟨gb226, 3, none⟩ = some (.string a0_3) := (blk_cell BK226.out 3).trans rfl; have hfzq0 := blk_frozen BK226.out 0; have hfzq1 := blk_frozen BK226.out 1; have hfzq2 := blk_frozen BK226.out 2; have hfzq3 := blk_frozen BK226.out 3) | ((with_reducible refine gate_callee (f := 15) rfl ?_); refine goesL_ (some 52) rfl rfl Tryd.func15 (by kernel_rfl) rfl #[.string a0_3] rfl gl_ ?_; (with_reducible refine (dec_Parse.calls k a0_3 t229 t230 t231 _ A30.out).mono ?_); rintro e wq1 ⟨rfl, hb⟩; refine ⟨_, rfl, ?_⟩; have n0_ := Aside0.mk (blk_below (bkk BK226.out) hb); have n1_ := Aside0.mk (below_step bel hb); clear BK226; clear HB; have BK226 := n0_; have HB := n1_; clear n0_ n1_; (try clear hb); (try clear hb2); (try clear hk); (try clear hi)) | ((with_reducible refine gate_dst (N := 4) rfl ?_); (try (refine gate_guard (by rfl) ?_; dsimp only)); refine box_event ?hg (N := 4) ?hd (cs := #[.int .i64 0, .int .i64 0]) (t := 25) ?hr ?_; (case hd => rfl); (case hg => rfl); (case hr => first | (go_simp; done) | (go_simp; rfl)); intro gb232 hg wq2 hbox hb; have n0_ := Aside0.mk (blk_below (bkk BK226.out) hb); have n1_ := Aside0.mk (below_step bel hb); have n2_ := Aside0.mk (hbox); have n3_ := Aside0.mk ((by rw [hg]; exact (below_size bel) : w.heap.size ≤ gb232)); have n4_ := Aside0.mk ((by rw [hg]; exact (below_size bel) : w.heap.size ≤ gb232)); have n5_ := Aside0.mk ((by rw [hg]; exact Nat.ne_of_lt (blk_lt (bkk BK226.out)) : gb226 ≠ gb232)); have n6_ := Aside0.mk ((by rw [hg]; exact Nat.ne_of_gt (blk_lt (bkk BK226.out)) : gb232 ≠ gb226)); clear BK226; clear HB; have BK226 := n0_; have HB := n1_; have BK232 := n2_; have GW232 := n3_; have GE232 := n4_; have NB226_232 := n5_; have NB232_226 := n6_; clear n0_ n1_ n2_ n3_ n4_ n5_ n6_; clear hb hbox hg; have hnbq0 := NB232_226.out; have hncq0 := NB226_232.out; have hczq4 : wq2.cell? ⟨gb232, 0, none⟩ = some (.int .i64 0) := (blk_cell BK232.out 0).trans rfl; have hczq5 : wq2.cell? ⟨gb232, 1, none⟩ = some (.int .i64 0) := (blk_cell BK232.out 1).trans rfl; have hfzq4 := blk_frozen BK232.out 0; have hfzq5 := blk_frozen BK232.out 1; have hczq6 : wq2.cell? ⟨gb226, 0, none⟩ = some (.int .i64 a0_0) := (blk_cell BK226.out 0).trans rfl; have hczq7 : wq2.cell? ⟨gb226, 1, none⟩ = some (.int .i64 a0_1) := (blk_cell BK226.out 1).trans rfl; have hczq8 : wq2.cell? ⟨gb226, 2, none⟩ = some (.int .i64 a0_2) := (blk_cell BK226.out 2).trans rfl; have hczq9 : wq2.cell? ⟨gb226, 3, none⟩ = some (.string a0_3) := (blk_cell BK226.out 3).trans rfl; have hfzq6 := blk_frozen BK226.out 0; have hfzq7 := blk_frozen BK226.out 1; have hfzq8 := blk_frozen BK226.out 2; have hfzq9 := blk_frozen BK226.out 3))
  go_ret
  exact ⟨ee_, bel⟩) : p_ := h_
set_option maxHeartbeats 8000000 in
set_option maxRecDepth 100000 in
theorem lex_check.calls (k : Nat) (a0_0 : Int) (a0_1 : Int) (a0_2 : Int) (a0_3 : ByteArray) (r : Bool) (w : World) (h : lex_check.f k a0_0 a0_1 a0_2 a0_3 = some r) :
  Calls Tryd.prog 27 #[.agg #[.int .i64 a0_0, .int .i64 a0_1, .int .i64 a0_2, .string a0_3]] w fun e w' => e = .returned (.bool r) ∧ Below w.heap.size w w' := by
 have hu27 := Tryd.underlying27
 have hu25 := Tryd.underlying25
 have HB := Aside0.mk (Below.refl w.heap.size w)
 have H : (if a0_0 = 1 then ((dec_Check.f a0_1 a0_2).bind fun t227 => (if t227 = 0 then (some (a0_3.toList == ([] : List UInt8))) else (some false))) else (if a0_0 = 2 then (if (a0_1 == 0 && (a0_2 == 0)) = true then (if (a0_3.size : Int) ≤ 65535 then ((strings_IndexByte.f a0_3 0).bind fun t228 => (some (decide (t228 < 0)))) else (some false)) else (some false)) else (if a0_0 = 3 then (if (a0_1 == 0 && (a0_2 == 0)) = true then (some (decide ((a0_3.size : Int) ≤ 65535))) else (some false)) else (if a0_0 = 4 then ((dec_Parse.f k a0_3).bind fun bt229 => (if (a0_1 == 0 && (a0_2 == 0)) = true then (if a0_3.toList = ([] : List UInt8) then (some false) else (if (a0_3.size : Int) ≤ 127 then ((lex_plain.f k a0_3).bind fun t233 => (if t233 = true then (some (bt229.2.2 == 4)) else (some false))) else (some false))) else (some false))) else (if (a0_1 == 0 && (a0_2 == 0)) = true then (if a0_0 ≥ 0 then (if a0_0 ≤ 8 then (some (a0_3.toList == ([] : List UInt8))) else (some false)) else (some false)) else (some false)))))) = some r := h
 clear h
 by_cases c2 : a0_0 = 1
 ·rw [if_pos c2] at H
  have c2b0 : (a0_0 == 1) = true := beq_iff_eq.mpr c2
  have c2b1 : (a0_0 != 1) = false := bne_eq_false_iff_eq.mpr c2
  clear c2
  replace H := Option.bind_eq_some_iff.mp H
  obtain ⟨t227, A30, H⟩ := H
  replace H : (if t227 = 0 then (some (a0_3.toList == ([] : List UInt8))) else (some false)) = some r := H
  have A3 := Aside0.mk A30
  clear A30
  by_cases c4 : t227 = 0
  ·rw [if_pos c4] at H
   have c4b0 : (t227 == 0) = true := beq_iff_eq.mpr c4
   have c4b1 : (t227 != 0) = false := bne_eq_false_iff_eq.mpr c4
   clear c4
   obtain rfl := Option.some.inj H
   go_enter Tryd.func27, Tryd.ntmps27
   go_wp2_with (first | ((with_reducible refine gate_dst (N := 1) rfl ?_); (try (refine gate_guard (by rfl) ?_; dsimp only)); refine box_event ?hg (N := 1) ?hd (cs := #[.int .i64 a0_0, .int .i64 a0_1, .int .i64 a0_2, .string a0_3]) (t := 27) ?hr ?_; (case hd => rfl); (case hg => rfl); (case hr => first | (go_simp; done) | (go_simp; rfl)); intro gb226 hg wq0 hbox hb; have n0_ := Aside0.mk (below_step bel hb); have n1_ := Aside0.mk (hbox); have n2_ := Aside0.mk ((by rw [hg]; exact (below_size bel) : w.heap.size ≤ gb226)); have n3_ := Aside0.mk ((by rw [hg]; exact (below_size bel) : w.heap.size ≤ gb226)); clear HB; have HB := n0_; have BK226 := n1_; have GW226 := n2_; have GE226 := n3_; clear n0_ n1_ n2_ n3_; clear hb hbox hg; have hczq0 : wq0.cell? ⟨gb226, 0, none⟩ = some (.int .i64 a0_0) := (blk_cell BK226.out 0).trans rfl; have hczq1 : wq0.cell? ⟨gb226, 1, none⟩ = some (.int .i64 a0_1) := (blk_cell BK226.out 1).trans rfl; have hczq2 : wq0.cell? ⟨gb226, 2, none⟩ = some (.int .i64 a0_2) := (blk_cell BK226.out 2).trans rfl; have hczq3 : wq0.cell? ⟨gb226, 3, none⟩ = some (.string a0_3) := (blk_cell BK226.out 3).trans rfl; have hfzq0 := blk_frozen BK226.out 0; have hfzq1 := blk_frozen BK226.out 1; have hfzq2 := blk_frozen BK226.out 2; have hfzq3 := blk_frozen BK226.out 3) | ((with_reducible refine gate_callee (f := 57) rfl ?_); refine goesL_ (some 16) rfl rfl Tryd.func57 (by kernel_rfl) rfl #[.agg #[.int .i64 a0_1, .int .i64 a0_2]] rfl gl_ ?_; (with_reducible refine (dec_Check.calls a0_1 a0_2 t227 _ A3.out).mono ?_); rintro e wq1 ⟨rfl, hb⟩; refine ⟨_, rfl, ?_⟩; have n0_ := Aside0.mk (blk_below (bkk BK226.out) hb); have n1_ := Aside0.mk (below_step bel hb); clear BK226; clear HB; have BK226 := n0_; have HB := n1_; clear n0_ n1_; (try clear hb); (try clear hb2); (try clear hk); (try clear hi); have hczq4 : wq1.cell? ⟨gb226, 0, none⟩ = some (.int .i64 a0_0) := (blk_cell BK226.out 0).trans rfl; have hczq5 : wq1.cell? ⟨gb226, 1, none⟩ = some (.int .i64 a0_1) := (blk_cell BK226.out 1).trans rfl; have hczq6 : wq1.cell? ⟨gb226, 2, none⟩ = some (.int .i64 a0_2) := (blk_cell BK226.out 2).trans rfl; have hczq7 : wq1.cell? ⟨gb226, 3, none⟩ = some (.string a0_3) := (blk_cell BK226.out 3).trans rfl; have hfzq4 := blk_frozen BK226.out 0; have hfzq5 := blk_frozen BK226.out 1; have hfzq6 := blk_frozen BK226.out 2; have hfzq7 := blk_frozen BK226.out 3))
   go_ret
   exact ⟨ee_, bel⟩
  ·rw [if_neg c4] at H
   have c4b0 : (t227 == 0) = false := beq_eq_false_iff_ne.mpr c4
   have c4b1 : (t227 != 0) = true := bne_iff_ne.mpr c4
   obtain rfl := Option.some.inj H
   go_enter Tryd.func27, Tryd.ntmps27
   go_wp2_with (first | ((with_reducible refine gate_dst (N := 1) rfl ?_); (try (refine gate_guard (by rfl) ?_; dsimp only)); refine box_event ?hg (N := 1) ?hd (cs := #[.int .i64 a0_0, .int .i64 a0_1, .int .i64 a0_2, .string a0_3]) (t := 27) ?hr ?_; (case hd => rfl); (case hg => rfl); (case hr => first | (go_simp; done) | (go_simp; rfl)); intro gb226 hg wq0 hbox hb; have n0_ := Aside0.mk (below_step bel hb); have n1_ := Aside0.mk (hbox); have n2_ := Aside0.mk ((by rw [hg]; exact (below_size bel) : w.heap.size ≤ gb226)); have n3_ := Aside0.mk ((by rw [hg]; exact (below_size bel) : w.heap.size ≤ gb226)); clear HB; have HB := n0_; have BK226 := n1_; have GW226 := n2_; have GE226 := n3_; clear n0_ n1_ n2_ n3_; clear hb hbox hg; have hczq0 : wq0.cell? ⟨gb226, 0, none⟩ = some (.int .i64 a0_0) := (blk_cell BK226.out 0).trans rfl; have hczq1 : wq0.cell? ⟨gb226, 1, none⟩ = some (.int .i64 a0_1) := (blk_cell BK226.out 1).trans rfl; have hczq2 : wq0.cell? ⟨gb226, 2, none⟩ = some (.int .i64 a0_2) := (blk_cell BK226.out 2).trans rfl; have hczq3 : wq0.cell? ⟨gb226, 3, none⟩ = some (.string a0_3) := (blk_cell BK226.out 3).trans rfl; have hfzq0 := blk_frozen BK226.out 0; have hfzq1 := blk_frozen BK226.out 1; have hfzq2 := blk_frozen BK226.out 2; have hfzq3 := blk_frozen BK226.out 3) | ((with_reducible refine gate_callee (f := 57) rfl ?_); refine goesL_ (some 16) rfl rfl Tryd.func57 (by kernel_rfl) rfl #[.agg #[.int .i64 a0_1, .int .i64 a0_2]] rfl gl_ ?_; (with_reducible refine (dec_Check.calls a0_1 a0_2 t227 _ A3.out).mono ?_); rintro e wq1 ⟨rfl, hb⟩; refine ⟨_, rfl, ?_⟩; have n0_ := Aside0.mk (blk_below (bkk BK226.out) hb); have n1_ := Aside0.mk (below_step bel hb); clear BK226; clear HB; have BK226 := n0_; have HB := n1_; clear n0_ n1_; (try clear hb); (try clear hb2); (try clear hk); (try clear hi)))
   go_ret
   exact ⟨ee_, bel⟩
 ·rw [if_neg c2] at H
  have c2b0 : (a0_0 == 1) = false := beq_eq_false_iff_ne.mpr c2
  have c2b1 : (a0_0 != 1) = true := bne_iff_ne.mpr c2
  by_cases c12 : a0_0 = 2
  ·rw [if_pos c12] at H
   have c12b0 : (a0_0 == 2) = true := beq_iff_eq.mpr c12
   have c12b1 : (a0_0 != 2) = false := bne_eq_false_iff_eq.mpr c12
   clear c12
   by_cases c13 : (a0_1 == 0 && (a0_2 == 0)) = true
   ·rw [if_pos c13] at H
    have c13b0 : (a0_1 == 0 && (a0_2 == 0)) = true := c13
    (try (have c13b1 : decide (a0_1 = 0 && (a0_2 == 0)) = true := by simpa using c13))
    (try (have c13b2 : (a0_1 == 0 && (a0_2 == 0)) = true := by simpa using c13))
    clear c13
    by_cases c14 : (a0_3.size : Int) ≤ 65535
    ·rw [if_pos c14] at H
     have c14b0 : decide ((a0_3.size : Int) ≤ 65535) = true := decide_eq_true c14
     have c14b1 : decide (a0_3.size ≤ 65535) = true := decide_eq_true (by omega)
     clear c14
     replace H := Option.bind_eq_some_iff.mp H
     obtain ⟨t228, Aq0, H⟩ := H
     replace H : (some (decide (t228 < 0))) = some r := H
     have Aq1 := Aside0.mk Aq0
     clear Aq0
     obtain rfl := Option.some.inj H
     go_enter Tryd.func27, Tryd.ntmps27
     go_wp2_with (first | ((with_reducible refine gate_dst (N := 1) rfl ?_); (try (refine gate_guard (by rfl) ?_; dsimp only)); refine box_event ?hg (N := 1) ?hd (cs := #[.int .i64 a0_0, .int .i64 a0_1, .int .i64 a0_2, .string a0_3]) (t := 27) ?hr ?_; (case hd => rfl); (case hg => rfl); (case hr => first | (go_simp; done) | (go_simp; rfl)); intro gb226 hg wq0 hbox hb; have n0_ := Aside0.mk (below_step bel hb); have n1_ := Aside0.mk (hbox); have n2_ := Aside0.mk ((by rw [hg]; exact (below_size bel) : w.heap.size ≤ gb226)); have n3_ := Aside0.mk ((by rw [hg]; exact (below_size bel) : w.heap.size ≤ gb226)); clear HB; have HB := n0_; have BK226 := n1_; have GW226 := n2_; have GE226 := n3_; clear n0_ n1_ n2_ n3_; clear hb hbox hg; have hczq0 : wq0.cell? ⟨gb226, 0, none⟩ = some (.int .i64 a0_0) := (blk_cell BK226.out 0).trans rfl; have hczq1 : wq0.cell? ⟨gb226, 1, none⟩ = some (.int .i64 a0_1) := (blk_cell BK226.out 1).trans rfl; have hczq2 : wq0.cell? ⟨gb226, 2, none⟩ = some (.int .i64 a0_2) := (blk_cell BK226.out 2).trans rfl; have hczq3 : wq0.cell? ⟨gb226, 3, none⟩ = some (.string a0_3) := (blk_cell BK226.out 3).trans rfl; have hfzq0 := blk_frozen BK226.out 0; have hfzq1 := blk_frozen BK226.out 1; have hfzq2 := blk_frozen BK226.out 2; have hfzq3 := blk_frozen BK226.out 3) | (go_at_call 58; (with_reducible refine (strings_IndexByte.calls a0_3 0 t228 _ Aq1.out).mono ?_); rintro e wq1 ⟨rfl, hb⟩; have n0_ := Aside0.mk (blk_below (bkk BK226.out) hb); have n1_ := Aside0.mk (below_step bel hb); clear BK226; clear HB; have BK226 := n0_; have HB := n1_; clear n0_ n1_; (try clear hb); (try clear hb2); (try clear hk); (try clear hi)))
     go_ret
     exact ⟨ee_, bel⟩
    ·rw [if_neg c14] at H
     have c14b0 : decide ((a0_3.size : Int) ≤ 65535) = false := decide_eq_false c14
     have c14b1 : decide (a0_3.size ≤ 65535) = false := decide_eq_false (by omega)
     clear c14
     obtain rfl := Option.some.inj H
     go_enter Tryd.func27, Tryd.ntmps27
     exact lf_M3_1
   ·rw [if_neg c13] at H
    have c13b0 : (a0_1 == 0 && (a0_2 == 0)) = false := by simpa using c13
    (try (have c13b1 : decide (a0_1 = 0 && (a0_2 == 0)) = false := by simpa using c13))
    (try (have c13b2 : (a0_1 == 0 && (a0_2 == 0)) = false := by simpa using c13))
    (try (have cq0 : ¬ (a0_1 = 0 && (a0_2 == 0)) := by simpa using c13))
    clear c13
    obtain rfl := Option.some.inj H
    go_enter Tryd.func27, Tryd.ntmps27
    exact lf_M3_1
  ·rw [if_neg c12] at H
   have c12b0 : (a0_0 == 2) = false := beq_eq_false_iff_ne.mpr c12
   have c12b1 : (a0_0 != 2) = true := bne_iff_ne.mpr c12
   by_cases c23 : a0_0 = 3
   ·rw [if_pos c23] at H
    have c23b0 : (a0_0 == 3) = true := beq_iff_eq.mpr c23
    have c23b1 : (a0_0 != 3) = false := bne_eq_false_iff_eq.mpr c23
    clear c23
    by_cases c24 : (a0_1 == 0 && (a0_2 == 0)) = true
    ·rw [if_pos c24] at H
     have c24b0 : (a0_1 == 0 && (a0_2 == 0)) = true := c24
     (try (have c24b1 : decide (a0_1 = 0 && (a0_2 == 0)) = true := by simpa using c24))
     (try (have c24b2 : (a0_1 == 0 && (a0_2 == 0)) = true := by simpa using c24))
     clear c24
     obtain rfl := Option.some.inj H
     go_enter Tryd.func27, Tryd.ntmps27
     exact lf_M3_1
    ·rw [if_neg c24] at H
     have c24b0 : (a0_1 == 0 && (a0_2 == 0)) = false := by simpa using c24
     (try (have c24b1 : decide (a0_1 = 0 && (a0_2 == 0)) = false := by simpa using c24))
     (try (have c24b2 : (a0_1 == 0 && (a0_2 == 0)) = false := by simpa using c24))
     (try (have cq0 : ¬ (a0_1 = 0 && (a0_2 == 0)) := by simpa using c24))
     clear c24
     obtain rfl := Option.some.inj H
     go_enter Tryd.func27, Tryd.ntmps27
     exact lf_M3_1
   ·rw [if_neg c23] at H
    have c23b0 : (a0_0 == 3) = false := beq_eq_false_iff_ne.mpr c23
    have c23b1 : (a0_0 != 3) = true := bne_iff_ne.mpr c23
    by_cases c29 : a0_0 = 4
    ·rw [if_pos c29] at H
     have c29b0 : (a0_0 == 4) = true := beq_iff_eq.mpr c29
     have c29b1 : (a0_0 != 4) = false := bne_eq_false_iff_eq.mpr c29
     clear c29
     replace H := Option.bind_eq_some_iff.mp H
     obtain ⟨⟨t229, t230, t231⟩, A300, H⟩ := H
     replace H : (if (a0_1 == 0 && (a0_2 == 0)) = true then (if a0_3.toList = ([] : List UInt8) then (some false) else (if (a0_3.size : Int) ≤ 127 then ((lex_plain.f k a0_3).bind fun t233 => (if t233 = true then (some (t231 == 4)) else (some false))) else (some false))) else (some false)) = some r := H
     have A30 := Aside0.mk A300
     clear A300
     by_cases c31 : (a0_1 == 0 && (a0_2 == 0)) = true
     ·rw [if_pos c31] at H
      have c31b0 : (a0_1 == 0 && (a0_2 == 0)) = true := c31
      (try (have c31b1 : decide (a0_1 = 0 && (a0_2 == 0)) = true := by simpa using c31))
      (try (have c31b2 : (a0_1 == 0 && (a0_2 == 0)) = true := by simpa using c31))
      clear c31
      by_cases c32 : a0_3.toList = ([] : List UInt8)
      ·rw [if_pos c32] at H
       have c32b0 : (a0_3.toList == ([] : List UInt8)) = true := beq_iff_eq.mpr c32
       have c32b1 : (a0_3.toList != ([] : List UInt8)) = false := bne_eq_false_iff_eq.mpr c32
       clear c32
       obtain rfl := Option.some.inj H
       go_enter Tryd.func27, Tryd.ntmps27
       exact lf_M3_2
      ·rw [if_neg c32] at H
       have c32b0 : (a0_3.toList == ([] : List UInt8)) = false := beq_eq_false_iff_ne.mpr c32
       have c32b1 : (a0_3.toList != ([] : List UInt8)) = true := bne_iff_ne.mpr c32
       by_cases c40 : (a0_3.size : Int) ≤ 127
       ·rw [if_pos c40] at H
        have c40b0 : decide ((a0_3.size : Int) ≤ 127) = true := decide_eq_true c40
        have c40b1 : decide (a0_3.size ≤ 127) = true := decide_eq_true (by omega)
        clear c40
        replace H := Option.bind_eq_some_iff.mp H
        obtain ⟨t233, A410, H⟩ := H
        replace H : (if t233 = true then (some (t231 == 4)) else (some false)) = some r := H
        have A41 := Aside0.mk A410
        clear A410
        by_cases c42 : t233 = true
        ·subst c42
         have H1 : (some (t231 == 4)) = some r := by rw [if_pos rfl] at H; exact H
         clear H
         have H := H1
         clear H1
         obtain rfl := Option.some.inj H
         go_enter Tryd.func27, Tryd.ntmps27
         go_wp2_with (first | ((with_reducible refine gate_dst (N := 1) rfl ?_); (try (refine gate_guard (by rfl) ?_; dsimp only)); refine box_event ?hg (N := 1) ?hd (cs := #[.int .i64 a0_0, .int .i64 a0_1, .int .i64 a0_2, .string a0_3]) (t := 27) ?hr ?_; (case hd => rfl); (case hg => rfl); (case hr => first | (go_simp; done) | (go_simp; rfl)); intro gb226 hg wq0 hbox hb; have n0_ := Aside0.mk (below_step bel hb); have n1_ := Aside0.mk (hbox); have n2_ := Aside0.mk ((by rw [hg]; exact (below_size bel) : w.heap.size ≤ gb226)); have n3_ := Aside0.mk ((by rw [hg]; exact (below_size bel) : w.heap.size ≤ gb226)); clear HB; have HB := n0_; have BK226 := n1_; have GW226 := n2_; have GE226 := n3_; clear n0_ n1_ n2_ n3_; clear hb hbox hg; have hczq0 : wq0.cell? ⟨gb226, 0, none⟩ = some (.int .i64 a0_0) := (blk_cell BK226.out 0).trans rfl; have hczq1 : wq0.cell? ⟨gb226, 1, none⟩ = some (.int .i64 a0_1) := (blk_cell BK226.out 1).trans rfl; have hczq2 : wq0.cell? ⟨gb226, 2, none⟩ = some (.int .i64 a0_2) := (blk_cell BK226.out 2).trans rfl; have hczq3 : wq0.cell? ⟨gb226, 3, none⟩ = some (.string a0_3) := (blk_cell BK226.out 3).trans rfl; have hfzq0 := blk_frozen BK226.out 0; have hfzq1 := blk_frozen BK226.out 1; have hfzq2 := blk_frozen BK226.out 2; have hfzq3 := blk_frozen BK226.out 3) | ((with_reducible refine gate_callee (f := 15) rfl ?_); refine goesL_ (some 52) rfl rfl Tryd.func15 (by kernel_rfl) rfl #[.string a0_3] rfl gl_ ?_; (with_reducible refine (dec_Parse.calls k a0_3 t229 t230 t231 _ A30.out).mono ?_); rintro e wq1 ⟨rfl, hb⟩; refine ⟨_, rfl, ?_⟩; have n0_ := Aside0.mk (blk_below (bkk BK226.out) hb); have n1_ := Aside0.mk (below_step bel hb); clear BK226; clear HB; have BK226 := n0_; have HB := n1_; clear n0_ n1_; (try clear hb); (try clear hb2); (try clear hk); (try clear hi)) | ((with_reducible refine gate_dst (N := 4) rfl ?_); (try (refine gate_guard (by rfl) ?_; dsimp only)); refine box_event ?hg (N := 4) ?hd (cs := #[.int .i64 0, .int .i64 0]) (t := 25) ?hr ?_; (case hd => rfl); (case hg => rfl); (case hr => first | (go_simp; done) | (go_simp; rfl)); intro gb232 hg wq2 hbox hb; have n0_ := Aside0.mk (blk_below (bkk BK226.out) hb); have n1_ := Aside0.mk (below_step bel hb); have n2_ := Aside0.mk (hbox); have n3_ := Aside0.mk ((by rw [hg]; exact (below_size bel) : w.heap.size ≤ gb232)); have n4_ := Aside0.mk ((by rw [hg]; exact (below_size bel) : w.heap.size ≤ gb232)); have n5_ := Aside0.mk ((by rw [hg]; exact Nat.ne_of_lt (blk_lt (bkk BK226.out)) : gb226 ≠ gb232)); have n6_ := Aside0.mk ((by rw [hg]; exact Nat.ne_of_gt (blk_lt (bkk BK226.out)) : gb232 ≠ gb226)); clear BK226; clear HB; have BK226 := n0_; have HB := n1_; have BK232 := n2_; have GW232 := n3_; have GE232 := n4_; have NB226_232 := n5_; have NB232_226 := n6_; clear n0_ n1_ n2_ n3_ n4_ n5_ n6_; clear hb hbox hg; have hnbq0 := NB232_226.out; have hncq0 := NB226_232.out; have hczq4 : wq2.cell? ⟨gb232, 0, none⟩ = some (.int .i64 0) := (blk_cell BK232.out 0).trans rfl; have hczq5 : wq2.cell? ⟨gb232, 1, none⟩ = some (.int .i64 0) := (blk_cell BK232.out 1).trans rfl; have hfzq4 := blk_frozen BK232.out 0; have hfzq5 := blk_frozen BK232.out 1; have hczq6 : wq2.cell? ⟨gb226, 0, none⟩ = some (.int .i64 a0_0) := (blk_cell BK226.out 0).trans rfl; have hczq7 : wq2.cell? ⟨gb226, 1, none⟩ = some (.int .i64 a0_1) := (blk_cell BK226.out 1).trans rfl; have hczq8 : wq2.cell? ⟨gb226, 2, none⟩ = some (.int .i64 a0_2) := (blk_cell BK226.out 2).trans rfl; have hczq9 : wq2.cell? ⟨gb226, 3, none⟩ = some (.string a0_3) := (blk_cell BK226.out 3).trans rfl; have hfzq6 := blk_frozen BK226.out 0; have hfzq7 := blk_frozen BK226.out 1; have hfzq8 := blk_frozen BK226.out 2; have hfzq9 := blk_frozen BK226.out 3) | (go_at_call 59; (with_reducible refine (lex_plain.calls k a0_3 true _ A41.out).mono ?_); rintro e wq3 ⟨rfl, hb⟩; have n0_ := Aside0.mk (blk_below (g := gb226) (o := .cells #[.int .i64 a0_0, .int .i64 a0_1, .int .i64 a0_2, .string a0_3] 27 (0, 0)) blks hb); have n1_ := Aside0.mk (blk_below (g := gb232) (o := .cells #[.int .i64 t229, .int .i64 t230] 25 (0, 0)) (by (with_reducible repeat (first | refine blk_drewN ?_ _ | refine blk_drew ?_ | refine blk_alloc ?_ _)); refine blk_put (cs := #[.int .i64 t229, .int .i64 0]) ?_ 1 _ rfl; (with_reducible repeat (first | refine blk_drewN ?_ _ | refine blk_drew ?_ | refine blk_alloc ?_ _)); refine blk_put (cs := #[.int .i64 0, .int .i64 0]) ?_ 0 _ rfl; (with_reducible repeat (first | refine blk_drewN ?_ _ | refine blk_drew ?_ | refine blk_alloc ?_ _)); exact BK232.out) hb); have n2_ := Aside0.mk (below_step bel hb); clear BK226; clear BK232; clear HB; have BK226 := n0_; have BK232 := n1_; have HB := n2_; clear n0_ n1_ n2_; (try clear hb); (try clear hb2); (try clear hk); (try clear hi)))
         go_ret
         exact ⟨ee_, bel⟩
        ·replace c42 := Bool.eq_false_iff.mpr c42
         subst c42
         have H1 : (some false) = some r := by rw [if_neg (show ¬ (false = true) by decide)] at H; exact H
         clear H
         have H := H1
         clear H1
         obtain rfl := Option.some.inj H
         go_enter Tryd.func27, Tryd.ntmps27
         go_wp2_with (first | ((with_reducible refine gate_dst (N := 1) rfl ?_); (try (refine gate_guard (by rfl) ?_; dsimp only)); refine box_event ?hg (N := 1) ?hd (cs := #[.int .i64 a0_0, .int .i64 a0_1, .int .i64 a0_2, .string a0_3]) (t := 27) ?hr ?_; (case hd => rfl); (case hg => rfl); (case hr => first | (go_simp; done) | (go_simp; rfl)); intro gb226 hg wq0 hbox hb; have n0_ := Aside0.mk (below_step bel hb); have n1_ := Aside0.mk (hbox); have n2_ := Aside0.mk ((by rw [hg]; exact (below_size bel) : w.heap.size ≤ gb226)); have n3_ := Aside0.mk ((by rw [hg]; exact (below_size bel) : w.heap.size ≤ gb226)); clear HB; have HB := n0_; have BK226 := n1_; have GW226 := n2_; have GE226 := n3_; clear n0_ n1_ n2_ n3_; clear hb hbox hg; have hczq0 : wq0.cell? ⟨gb226, 0, none⟩ = some (.int .i64 a0_0) := (blk_cell BK226.out 0).trans rfl; have hczq1 : wq0.cell? ⟨gb226, 1, none⟩ = some (.int .i64 a0_1) := (blk_cell BK226.out 1).trans rfl; have hczq2 : wq0.cell? ⟨gb226, 2, none⟩ = some (.int .i64 a0_2) := (blk_cell BK226.out 2).trans rfl; have hczq3 : wq0.cell? ⟨gb226, 3, none⟩ = some (.string a0_3) := (blk_cell BK226.out 3).trans rfl; have hfzq0 := blk_frozen BK226.out 0; have hfzq1 := blk_frozen BK226.out 1; have hfzq2 := blk_frozen BK226.out 2; have hfzq3 := blk_frozen BK226.out 3) | ((with_reducible refine gate_callee (f := 15) rfl ?_); refine goesL_ (some 52) rfl rfl Tryd.func15 (by kernel_rfl) rfl #[.string a0_3] rfl gl_ ?_; (with_reducible refine (dec_Parse.calls k a0_3 t229 t230 t231 _ A30.out).mono ?_); rintro e wq1 ⟨rfl, hb⟩; refine ⟨_, rfl, ?_⟩; have n0_ := Aside0.mk (blk_below (bkk BK226.out) hb); have n1_ := Aside0.mk (below_step bel hb); clear BK226; clear HB; have BK226 := n0_; have HB := n1_; clear n0_ n1_; (try clear hb); (try clear hb2); (try clear hk); (try clear hi)) | ((with_reducible refine gate_dst (N := 4) rfl ?_); (try (refine gate_guard (by rfl) ?_; dsimp only)); refine box_event ?hg (N := 4) ?hd (cs := #[.int .i64 0, .int .i64 0]) (t := 25) ?hr ?_; (case hd => rfl); (case hg => rfl); (case hr => first | (go_simp; done) | (go_simp; rfl)); intro gb232 hg wq2 hbox hb; have n0_ := Aside0.mk (blk_below (bkk BK226.out) hb); have n1_ := Aside0.mk (below_step bel hb); have n2_ := Aside0.mk (hbox); have n3_ := Aside0.mk ((by rw [hg]; exact (below_size bel) : w.heap.size ≤ gb232)); have n4_ := Aside0.mk ((by rw [hg]; exact (below_size bel) : w.heap.size ≤ gb232)); have n5_ := Aside0.mk ((by rw [hg]; exact Nat.ne_of_lt (blk_lt (bkk BK226.out)) : gb226 ≠ gb232)); have n6_ := Aside0.mk ((by rw [hg]; exact Nat.ne_of_gt (blk_lt (bkk BK226.out)) : gb232 ≠ gb226)); clear BK226; clear HB; have BK226 := n0_; have HB := n1_; have BK232 := n2_; have GW232 := n3_; have GE232 := n4_; have NB226_232 := n5_; have NB232_226 := n6_; clear n0_ n1_ n2_ n3_ n4_ n5_ n6_; clear hb hbox hg; have hnbq0 := NB232_226.out; have hncq0 := NB226_232.out; have hczq4 : wq2.cell? ⟨gb232, 0, none⟩ = some (.int .i64 0) := (blk_cell BK232.out 0).trans rfl; have hczq5 : wq2.cell? ⟨gb232, 1, none⟩ = some (.int .i64 0) := (blk_cell BK232.out 1).trans rfl; have hfzq4 := blk_frozen BK232.out 0; have hfzq5 := blk_frozen BK232.out 1; have hczq6 : wq2.cell? ⟨gb226, 0, none⟩ = some (.int .i64 a0_0) := (blk_cell BK226.out 0).trans rfl; have hczq7 : wq2.cell? ⟨gb226, 1, none⟩ = some (.int .i64 a0_1) := (blk_cell BK226.out 1).trans rfl; have hczq8 : wq2.cell? ⟨gb226, 2, none⟩ = some (.int .i64 a0_2) := (blk_cell BK226.out 2).trans rfl; have hczq9 : wq2.cell? ⟨gb226, 3, none⟩ = some (.string a0_3) := (blk_cell BK226.out 3).trans rfl; have hfzq6 := blk_frozen BK226.out 0; have hfzq7 := blk_frozen BK226.out 1; have hfzq8 := blk_frozen BK226.out 2; have hfzq9 := blk_frozen BK226.out 3) | (go_at_call 59; (with_reducible refine (lex_plain.calls k a0_3 false _ A41.out).mono ?_); rintro e wq3 ⟨rfl, hb⟩; have n0_ := Aside0.mk (blk_below (g := gb226) (o := .cells #[.int .i64 a0_0, .int .i64 a0_1, .int .i64 a0_2, .string a0_3] 27 (0, 0)) blks hb); have n1_ := Aside0.mk (blk_below (g := gb232) (o := .cells #[.int .i64 t229, .int .i64 t230] 25 (0, 0)) (by (with_reducible repeat (first | refine blk_drewN ?_ _ | refine blk_drew ?_ | refine blk_alloc ?_ _)); refine blk_put (cs := #[.int .i64 t229, .int .i64 0]) ?_ 1 _ rfl; (with_reducible repeat (first | refine blk_drewN ?_ _ | refine blk_drew ?_ | refine blk_alloc ?_ _)); refine blk_put (cs := #[.int .i64 0, .int .i64 0]) ?_ 0 _ rfl; (with_reducible repeat (first | refine blk_drewN ?_ _ | refine blk_drew ?_ | refine blk_alloc ?_ _)); exact BK232.out) hb); have n2_ := Aside0.mk (below_step bel hb); clear BK226; clear BK232; clear HB; have BK226 := n0_; have BK232 := n1_; have HB := n2_; clear n0_ n1_ n2_; (try clear hb); (try clear hb2); (try clear hk); (try clear hi)))
         go_ret
         exact ⟨ee_, bel⟩
       ·rw [if_neg c40] at H
        have c40b0 : decide ((a0_3.size : Int) ≤ 127) = false := decide_eq_false c40
        have c40b1 : decide (a0_3.size ≤ 127) = false := decide_eq_false (by omega)
        clear c40
        obtain rfl := Option.some.inj H
        go_enter Tryd.func27, Tryd.ntmps27
        exact lf_M3_2
     ·rw [if_neg c31] at H
      have c31b0 : (a0_1 == 0 && (a0_2 == 0)) = false := by simpa using c31
      (try (have c31b1 : decide (a0_1 = 0 && (a0_2 == 0)) = false := by simpa using c31))
      (try (have c31b2 : (a0_1 == 0 && (a0_2 == 0)) = false := by simpa using c31))
      (try (have cq0 : ¬ (a0_1 = 0 && (a0_2 == 0)) := by simpa using c31))
      clear c31
      obtain rfl := Option.some.inj H
      go_enter Tryd.func27, Tryd.ntmps27
      go_wp2_with (first | ((with_reducible refine gate_dst (N := 1) rfl ?_); (try (refine gate_guard (by rfl) ?_; dsimp only)); refine box_event ?hg (N := 1) ?hd (cs := #[.int .i64 a0_0, .int .i64 a0_1, .int .i64 a0_2, .string a0_3]) (t := 27) ?hr ?_; (case hd => rfl); (case hg => rfl); (case hr => first | (go_simp; done) | (go_simp; rfl)); intro gb226 hg wq0 hbox hb; have n0_ := Aside0.mk (below_step bel hb); have n1_ := Aside0.mk (hbox); have n2_ := Aside0.mk ((by rw [hg]; exact (below_size bel) : w.heap.size ≤ gb226)); have n3_ := Aside0.mk ((by rw [hg]; exact (below_size bel) : w.heap.size ≤ gb226)); clear HB; have HB := n0_; have BK226 := n1_; have GW226 := n2_; have GE226 := n3_; clear n0_ n1_ n2_ n3_; clear hb hbox hg; have hczq0 : wq0.cell? ⟨gb226, 0, none⟩ = some (.int .i64 a0_0) := (blk_cell BK226.out 0).trans rfl; have hczq1 : wq0.cell? ⟨gb226, 1, none⟩ = some (.int .i64 a0_1) := (blk_cell BK226.out 1).trans rfl; have hczq2 : wq0.cell? ⟨gb226, 2, none⟩ = some (.int .i64 a0_2) := (blk_cell BK226.out 2).trans rfl; have hczq3 : wq0.cell? ⟨gb226, 3, none⟩ = some (.string a0_3) := (blk_cell BK226.out 3).trans rfl; have hfzq0 := blk_frozen BK226.out 0; have hfzq1 := blk_frozen BK226.out 1; have hfzq2 := blk_frozen BK226.out 2; have hfzq3 := blk_frozen BK226.out 3) | ((with_reducible refine gate_callee (f := 15) rfl ?_); refine goesL_ (some 52) rfl rfl Tryd.func15 (by kernel_rfl) rfl #[.string a0_3] rfl gl_ ?_; (with_reducible refine (dec_Parse.calls k a0_3 t229 t230 t231 _ A30.out).mono ?_); rintro e wq1 ⟨rfl, hb⟩; refine ⟨_, rfl, ?_⟩; have n0_ := Aside0.mk (blk_below (bkk BK226.out) hb); have n1_ := Aside0.mk (below_step bel hb); clear BK226; clear HB; have BK226 := n0_; have HB := n1_; clear n0_ n1_; (try clear hb); (try clear hb2); (try clear hk); (try clear hi)) | ((with_reducible refine gate_dst (N := 4) rfl ?_); (try (refine gate_guard (by rfl) ?_; dsimp only)); refine box_event ?hg (N := 4) ?hd (cs := #[.int .i64 0, .int .i64 0]) (t := 25) ?hr ?_; (case hd => rfl); (case hg => rfl); (case hr => first | (go_simp; done) | (go_simp; rfl)); intro gb232 hg wq2 hbox hb; have n0_ := Aside0.mk (blk_below (bkk BK226.out) hb); have n1_ := Aside0.mk (below_step bel hb); have n2_ := Aside0.mk (hbox); have n3_ := Aside0.mk ((by rw [hg]; exact (below_size bel) : w.heap.size ≤ gb232)); have n4_ := Aside0.mk ((by rw [hg]; exact (below_size bel) : w.heap.size ≤ gb232)); have n5_ := Aside0.mk ((by rw [hg]; exact Nat.ne_of_lt (blk_lt (bkk BK226.out)) : gb226 ≠ gb232)); have n6_ := Aside0.mk ((by rw [hg]; exact Nat.ne_of_gt (blk_lt (bkk BK226.out)) : gb232 ≠ gb226)); clear BK226; clear HB; have BK226 := n0_; have HB := n1_; have BK232 := n2_; have GW232 := n3_; have GE232 := n4_; have NB226_232 := n5_; have NB232_226 := n6_; clear n0_ n1_ n2_ n3_ n4_ n5_ n6_; clear hb hbox hg; have hnbq0 := NB232_226.out; have hncq0 := NB226_232.out; have hczq4 : wq2.cell? ⟨gb232, 0, none⟩ = some (.int .i64 0) := (blk_cell BK232.out 0).trans rfl; have hczq5 : wq2.cell? ⟨gb232, 1, none⟩ = some (.int .i64 0) := (blk_cell BK232.out 1).trans rfl; have hfzq4 := blk_frozen BK232.out 0; have hfzq5 := blk_frozen BK232.out 1))
      go_ret
      exact ⟨ee_, bel⟩
    ·rw [if_neg c29] at H
     have c29b0 : (a0_0 == 4) = false := beq_eq_false_iff_ne.mpr c29
     have c29b1 : (a0_0 != 4) = true := bne_iff_ne.mpr c29
     by_cases c72 : (a0_1 == 0 && (a0_2 == 0)) = true
     ·rw [if_pos c72] at H
      have c72b0 : (a0_1 == 0 && (a0_2 == 0)) = true := c72
      (try (have c72b1 : decide (a0_1 = 0 && (a0_2 == 0)) = true := by simpa using c72))
      (try (have c72b2 : (a0_1 == 0 && (a0_2 == 0)) = true := by simpa using c72))
      clear c72
      by_cases c73 : a0_0 ≥ 0
      ·rw [if_pos c73] at H
       have c73b0 : decide (0 ≤ a0_0) = true := decide_eq_true c73
       clear c73
       by_cases c74 : a0_0 ≤ 8
       ·rw [if_pos c74] at H
        have c74b0 : decide (a0_0 ≤ 8) = true := decide_eq_true c74
        clear c74
        obtain rfl := Option.some.inj H
        go_enter Tryd.func27, Tryd.ntmps27
        exact lf_M3_1
       ·rw [if_neg c74] at H
        have c74b0 : decide (a0_0 ≤ 8) = false := decide_eq_false c74
        clear c74
        obtain rfl := Option.some.inj H
        go_enter Tryd.func27, Tryd.ntmps27
        exact lf_M3_1
      ·rw [if_neg c73] at H
       have c73b0 : decide (0 ≤ a0_0) = false := decide_eq_false c73
       clear c73
       obtain rfl := Option.some.inj H
       go_enter Tryd.func27, Tryd.ntmps27
       exact lf_M3_1
     ·rw [if_neg c72] at H
      have c72b0 : (a0_1 == 0 && (a0_2 == 0)) = false := by simpa using c72
      (try (have c72b1 : decide (a0_1 = 0 && (a0_2 == 0)) = false := by simpa using c72))
      (try (have c72b2 : (a0_1 == 0 && (a0_2 == 0)) = false := by simpa using c72))
      (try (have cq0 : ¬ (a0_1 = 0 && (a0_2 == 0)) := by simpa using c72))
      clear c72
      obtain rfl := Option.some.inj H
      go_enter Tryd.func27, Tryd.ntmps27
      exact lf_M3_1
end Go.Proofs.YtnhgnejfagncpaaDoor.M
