/- Put together: L4, L7, E1, E2 (each in a section of its own). -/
import Derived.Test.YtnhgnejfagncpaaDoorLot2
import Derived.Test.YtnhgnejfagncpaaDoorLot8
section
namespace Go.Proofs.YtnhgnejfagncpaaDoor.L
open Go.RowKit Go.Proofs.YtnhgnejfagncpaaDoorW.PrintWords Go.Proofs.YtnhgnejfagncpaaDoorW.PrintLast Go.Proofs.YtnhgnejfagncpaaDoorW.PrintMore Go.Proofs.YtnhgnejfagncpaaDoor.H Go.Proofs.YtnhgnejfagncpaaDoor.A Go.Proofs.YtnhgnejfagncpaaDoor.B Go.Proofs.YtnhgnejfagncpaaDoor.E
attribute [local go_sem] max2_int min2_int max_two min_two max_three min_three max_four min_four   -- for this text's walks alone
set_option linter.unusedVariables false
set_option linter.unusedSimpArgs false
mutual
def erasureref14_hexa.l0 : Nat → List Int → Int → List Int → Option (ByteArray × Int × Bool)
 | 0, _, _, _ => none
 | k + 1, x0, x1, x7 => if x1 < (x0.length : Int) then (if 0 ≤ x1 then (if (rd x0 x1) = 62 then (if ((x7.length : Int) % 2) = 1 then (if x7.length < 17592186044416 then (erasureref14_hexa.j1 k (wrap64 (x1 + 1)) (x7 ++ [0])) else (none)) else (erasureref14_hexa.j1 k (wrap64 (x1 + 1)) x7)) else ((erasureref10_White.f (rd x0 x1)).bind fun t132 => (if t132 = true then (erasureref14_hexa.l0 k x0 (wrap64 (x1 + 1)) x7) else ((erasureref10_Digit.f k (rd x0 x1)).bind fun t133 => (if t133 < 0 then (some ((⟨#[]⟩ : ByteArray), 0, false)) else ((erasureref10_Digit.f k (rd x0 x1)).bind fun t134 => (if x7.length < 17592186044416 then (erasureref14_hexa.l0 k x0 (wrap64 (x1 + 1)) (x7 ++ [t134])) else (none)))))))) else (none)) else (some ((⟨#[]⟩ : ByteArray), 0, false))
def erasureref14_hexa.j1 : Nat → Int → List Int → Option (ByteArray × Int × Bool)
 | 0, _, _ => none
 | k + 1, x1, x7 => erasureref14_hexa.l1 k x1 x7 (⟨#[]⟩ : ByteArray) 0
def erasureref14_hexa.l1 : Nat → Int → List Int → ByteArray → Int → Option (ByteArray × Int × Bool)
 | 0, _, _, _, _ => none
 | k + 1, x1, x7, x9, x10 => if x10 < (x7.length : Int) then (if 0 ≤ x10 then (if 0 ≤ (wrap64 (x10 + 1)) then (if (wrap64 (x10 + 1)) < (x7.length : Int) then ((some (([(wrap64 ((wrap64 (16 * (rd x7 x10))) + (rd x7 (wrap64 (x10 + 1))))) % 256] : List Int) : List Int)).bind fun y129 => (if x9.size + (strOfNums y129).size ≤ 9223372036854775807 then (erasureref14_hexa.l1 k x1 x7 (x9 ++ (strOfNums y129)) (wrap64 (x10 + 2))) else (none))) else (none)) else (none)) else (none)) else (some (x9, x1, true))
end
def erasureref14_hexa.f (k : Nat) (l0 : List Int) (a1 : Int) : Option (ByteArray × Int × Bool) := erasureref14_hexa.l0 k l0 a1 ([] : List Int)
def erasureref14_hexa.T12 : Bool × List (List Nat × List Nat) := (true, [([], []), ([], []), ([], []), ([1, 2], [1, 2]), ([3], [3]), ([4], [4]), ([], []), ([], []), ([7], [7]), ([6, 8], [6, 8]), ([9], [9]), ([5, 10], [5, 10]), ([11], [11]), ([12], [12]), ([13], [13]), ([0, 14], [0, 14]), ([15, 0, 1, 2, 3, 4, 5, 6, 7, 8, 9, 10, 11, 12, 13, 14, 15], [0, 15])])
def erasureref14_hexa.B12 : List Nat := [0, 0, 0, 6, 14, 30, 0, 0, 128, 448, 960, 2046, 4094, 8190, 16382, 32767, 65535]
theorem erasureref14_hexa.tab12 : rtab .any (opsOf Tryd.f20 12) = erasureref14_hexa.T12 := by kernel_rfl
theorem erasureref14_hexa.bits12 : waitsOk erasureref14_hexa.T12.2 erasureref14_hexa.B12 = true := by kernel_rfl
set_option maxHeartbeats 8000000 in
set_option maxRecDepth 100000 in
theorem erasureref14_hexa.calls (k : Nat) (A0 : Option Addr) (c0 : Nat) (l0 : List Int) (a1 : Int) (r1 : ByteArray) (r2 : Int) (r3 : Bool) (w : World) (hr0 : Kd.C (Kd.int .u8) w A0 l0.length l0) (hc0 : l0.length ≤ c0) (h : erasureref14_hexa.f k l0 a1 = some (r1, r2, r3)) :
  Calls Tryd.prog 20 #[.slice A0 l0.length c0, .int .i64 a1] w fun e w' => e = .returned (.tuple #[.string r1, .int .i64 r2, .bool r3]) ∧ Below w.heap.size w w' := by
 have HR0 := Aside0.mk hr0
 have HC0 := Aside0.mk hc0
 clear hr0 hc0
 have HB := Aside0.mk (Below.refl w.heap.size w)
 have H : (erasureref14_hexa.l0 k l0 a1 ([] : List Int)) = some (r1, r2, r3) := h
 clear h
 have H' := Aside0.mk H
 clear H
 go_enter Tryd.func20, Tryd.ntmps20
 go_wp2
 go_loopg [1, 7] k (fun kq v1 v7 w' => ∃ (x1_1 : Int) (x7_1 : List Int), v1 = .int .i64 x1_1 ∧ Aside0 (erasureref14_hexa.l0 kq l0 x1_1 x7_1 = some (r1, r2, r3)) ∧ Aside0 (kq ≤ k) ∧ Aside0 (Kd.R (Kd.int .i64) 3 w' w.heap.size (fun _ => True) v7 x7_1) ∧ Aside0 (Below w.heap.size w w'))
 case atStart => exact ⟨(a1), (([] : List Int)), ea_, H', ⟨Nat.le_refl _⟩, ⟨by first | exact Kd.R_nil _ _ _ _ _ | exact Kd.N_nil _ _ _ _ _ | exact Kd.V_nil _ _ _ _ _ | exact Kd.Q_nil _ _ _ _ _ | exact Kd.S_nil _ _ _ _ _⟩, ⟨bel⟩⟩
 case round =>
  clear H'
  try clear c2
  try clear p2
  obtain ⟨x1_1, x7_1, rfl, HA, HK1, HO_7, HB⟩ := hrel
  cases gk with
  | zero => exact absurd HA.out (by simp [erasureref14_hexa.l0])
  | succ k1 =>
   have H := HA.out
   clear HA
   simp only [erasureref14_hexa.l0] at H
   by_cases c3 : x1_1 < (l0.length : Int)
   ·rw [if_pos c3] at H
    have c3b0 : decide (x1_1 < (l0.length : Int)) = true := decide_eq_true c3
    clear c3
    by_cases c4 : 0 ≤ x1_1
    ·rw [if_pos c4] at H
     have c4b0 : decide (0 ≤ x1_1) = true := decide_eq_true c4
     clear c4
     by_cases c5 : (rd l0 x1_1) = 62
     ·rw [if_pos c5] at H
      have c5b0 : ((rd l0 x1_1) == 62) = true := beq_iff_eq.mpr c5
      have c5b1 : ((rd l0 x1_1) != 62) = false := bne_eq_false_iff_eq.mpr c5
      clear c5
      have HC6 := Aside0.mk H
      clear H
      have p123 : 0 ≤ (x1_1 : Int) := of_decide_eq_true (by first | (with_reducible assumption) | assumption)
      have q123 : x1_1 < (l0.length : Int) := of_decide_eq_true (by first | (with_reducible assumption) | assumption)
      obtain ⟨ad123, e123, hx123_0⟩ := Kd.at_int HR0.out x1_1 p123 q123
      cases e123
      replace hx123_0 := (HB.out.cell (World.block_lt_of_cell? w _ hx123_0)).trans hx123_0
      replace p123 := eq_true p123
      replace q123 := eq_true q123
      obtain ⟨Ao7, co7, eo7⟩ := Kd.R_slice HO_7.out
      subst eo7
      go_upto_if 26 with (fail)
      go_cut [7] (fun v7 wc => ∃ (kq : Nat) (x7_5 : List Int), Aside0 (erasureref14_hexa.j1 kq (wrap64 (x1_1 + 1)) x7_5 = some (r1, r2, r3)) ∧ Aside0 (kq ≤ k1) ∧ Aside0 (Kd.R (Kd.int .i64) 3 wc w.heap.size (fun _ => True) v7 x7_5) ∧ Aside0 (Below w.heap.size w wc))
      case first =>
       have H := HC6.out
       clear HC6
       by_cases c8 : ((x7_1.length : Int) % 2) = 1
       ·rw [if_pos c8] at H
        have c8b0 : (((x7_1.length : Int) % 2) == 1) = true := beq_iff_eq.mpr c8
        have c8b1 : (((x7_1.length : Int) % 2) != 1) = false := bne_eq_false_iff_eq.mpr c8
        clear c8
        (first | rw [c8b0] | (simp only [i64_w, i32_w]; rw [c8b0]) | skip)
        by_cases c9 : x7_1.length < 17592186044416
        ·rw [if_pos c9] at H
         have LMc9 := Aside0.mk c9
         clear c9
         obtain ⟨y124, hy124⟩ : ∃ y_ : List Int, y_ = (x7_1 ++ [0]) := ⟨_, rfl⟩
         replace H : (erasureref14_hexa.j1 k1 (wrap64 (x1_1 + 1)) y124) = some (r1, r2, r3) := by first | (rw [hy124]; with_reducible exact H) | (have H2_ := (Option.bind_some _ _).symm.trans H; rw [hy124]; with_reducible exact H2_) | (have H2_ := (Option.bind_some _ _).symm.trans H; with_reducible exact H2_) | with_reducible exact H | (rw [hy124]; exact H) | exact H
         have Ny124 := Aside0.mk hy124
         clear hy124
         have H' := Aside0.mk H
         clear H
         go_wp2_with (first | ((with_reducible refine gate_builtin (b := .append) (xs := #[.tmp 27, .tmp 28]) rfl ?_); at_builtin; refine Kd.R_append (Kd.int .i64) (w0 := w) w.heap.size rfl (.tmp 27) (.tmp 28) 90 3 (.int .i64 0) 8 rfl Tryd.underlying90 info3 rfl (by decide) (by omega) (.slice Ao7 x7_1.length co7) x7_1 0 [.int .i64 0] (fun _ => True) (fun _ => False) rfl rfl ?aP (fun _ hk => hk.elim) ?aF ?aO ?aB ?aS ?aL ?_; (case aP => exact rfl); (case aB => exact bel); (case aF => exact (fun _ _ => trivial)); (case aO => exact (rkk HO_7.out)); (case aS => exact (below_size bel)); (case aL => have := LMc9.out; omega); intro v125 w10 ho hb hg hat; rw [← Ny124.out] at ho; have n0_ := Aside0.mk (hb); have n1_ := Aside0.mk (ho); clear HB; clear HO_7; have HB := n0_; have HO126 := n1_; clear n0_ n1_; clear ho hb hg hat))
         go_meet
         case rel => exact ⟨_, (y124), H', ⟨by have := HK1.out; first | omega | exact Nat.le_refl _⟩, ⟨rkk HO126.out⟩, ⟨bel⟩⟩
        ·rw [if_neg c9] at H
         exact absurd H (by simp)
       ·rw [if_neg c8] at H
        have c8b0 : (((x7_1.length : Int) % 2) == 1) = false := beq_eq_false_iff_ne.mpr c8
        have c8b1 : (((x7_1.length : Int) % 2) != 1) = true := bne_iff_ne.mpr c8
        (first | rw [c8b0] | (simp only [i64_w, i32_w]; rw [c8b0]) | skip)
        have H' := Aside0.mk H
        clear H
        go_wp2
        go_meet
        case rel => exact ⟨_, (x7_1), H', ⟨by have := HK1.out; first | omega | exact Nat.le_refl _⟩, ⟨rkk HO_7.out⟩, ⟨bel⟩⟩
      case rest =>
       clear HC6
       try clear p1
       try clear q1
       try clear hx1
       try clear c2
       try clear p2
       try clear c3
       try clear c3b0
       try clear c4
       try clear c4b0
       try clear c5
       try clear c5b0
       try clear c5b1
       try clear p6
       try clear c8
       try clear c8b0
       try clear c8b1
       try clear c9
       try clear hx123_0
       try clear p123
       try clear p2
       try clear q123
       obtain ⟨kq, x7_5, HA, HJ5, HO_7, HB⟩ := hcut
       cases kq with
       | zero => exact absurd HA.out (by simp [erasureref14_hexa.j1])
       | succ kj5 =>
        have H := HA.out
        clear HA
        simp only [erasureref14_hexa.j1] at H
        have H' := Aside0.mk H
        clear H
        go_wp2
        go_loopg [9, 10] kj5 (fun kq v9 v10 w' => ∃ (x9_3 : ByteArray) (x10_3 : Int), v9 = .string x9_3 ∧ v10 = .int .i64 x10_3 ∧ Aside0 (erasureref14_hexa.l1 kq (wrap64 (x1_1 + 1)) x7_5 x9_3 x10_3 = some (r1, r2, r3)) ∧ Aside0 (kq ≤ kj5) ∧ Aside0 (Kd.R (Kd.int .i64) 3 w' w.heap.size (fun _ => True) u7 x7_5) ∧ Aside0 (Below w.heap.size w w'))
        case atStart => exact ⟨((⟨#[]⟩ : ByteArray)), (0), ea_, ea_, H', ⟨Nat.le_refl _⟩, ⟨rkk HO_7.out⟩, ⟨bel⟩⟩
        case round =>
         clear H'
         try clear p1
         try clear q1
         try clear hx1
         try clear c2
         try clear p2
         try clear c3
         try clear c3b0
         try clear c4
         try clear c4b0
         try clear c5
         try clear c5b0
         try clear c5b1
         try clear p6
         try clear c8
         try clear c8b0
         try clear c8b1
         try clear c9
         try clear hx123_0
         try clear p1
         try clear p123
         try clear p2
         try clear p6
         try clear q1
         try clear q123
         obtain ⟨x9_3, x10_3, rfl, rfl, HA, HK3, HO_7, HB⟩ := hrel
         cases gk with
         | zero => exact absurd HA.out (by simp [erasureref14_hexa.l1])
         | succ k3 =>
          have H := HA.out
          clear HA
          simp only [erasureref14_hexa.l1] at H
          by_cases c11 : x10_3 < (x7_5.length : Int)
          ·rw [if_pos c11] at H
           have c11b0 : decide (x10_3 < (x7_5.length : Int)) = true := decide_eq_true c11
           clear c11
           by_cases c12 : 0 ≤ x10_3
           ·rw [if_pos c12] at H
            have c12b0 : decide (0 ≤ x10_3) = true := decide_eq_true c12
            clear c12
            obtain ⟨ji13, hji13⟩ : ∃ j_ : Int, (wrap64 (x10_3 + 1)) = j_ := ⟨_, rfl⟩
            replace H : (if 0 ≤ (ji13) then (if (ji13) < (x7_5.length : Int) then ((some (([(wrap64 ((wrap64 (16 * (rd x7_5 x10_3))) + (rd x7_5 (ji13)))) % 256] : List Int) : List Int)).bind fun y129 => (if x9_3.size + (strOfNums y129).size ≤ 9223372036854775807 then (erasureref14_hexa.l1 k3 (wrap64 (x1_1 + 1)) x7_5 (x9_3 ++ (strOfNums y129)) (wrap64 (x10_3 + 2))) else (none))) else (none)) else (none)) = some (r1, r2, r3) := by first | (rw [hji13] at H; exact H) | (simp only [hji13] at H ⊢; exact H)
            have hji13w : (IntKind.i64.wrap (x10_3 + 1)) = ji13 := (i64_w _).trans hji13
            by_cases c14 : 0 ≤ (ji13)
            ·rw [if_pos c14] at H
             have c14b0 : decide (0 ≤ (ji13)) = true := decide_eq_true c14
             clear c14
             by_cases c15 : (ji13) < (x7_5.length : Int)
             ·rw [if_pos c15] at H
              have c15b0 : decide ((ji13) < (x7_5.length : Int)) = true := decide_eq_true c15
              clear c15
              obtain ⟨y129, hy129⟩ : ∃ y_ : List Int, y_ = (([(wrap64 ((wrap64 (16 * (rd x7_5 x10_3))) + (rd x7_5 (ji13)))) % 256] : List Int)) := ⟨_, rfl⟩
              replace H : (if x9_3.size + (strOfNums y129).size ≤ 9223372036854775807 then (erasureref14_hexa.l1 k3 (wrap64 (x1_1 + 1)) x7_5 (x9_3 ++ (strOfNums y129)) (wrap64 (x10_3 + 2))) else (none)) = some (r1, r2, r3) := by first | (rw [hy129]; with_reducible exact H) | (have H2_ := (Option.bind_some _ _).symm.trans H; rw [hy129]; with_reducible exact H2_) | (have H2_ := (Option.bind_some _ _).symm.trans H; with_reducible exact H2_) | with_reducible exact H | (rw [hy129]; exact H) | exact H
              have Ny129 := Aside0.mk hy129
              clear hy129
              by_cases c16 : x9_3.size + (strOfNums y129).size ≤ 9223372036854775807
              ·rw [if_pos c16] at H
               have c16b0 := eq_true c16
               have c16b1 : decide (x9_3.size + (strOfNums y129).size ≤ 9223372036854775807) = true := decide_eq_true c16
               try have c16b2 : (9223372036854775807 < x9_3.size + (strOfNums y129).size) = False := eq_false (Nat.not_lt.2 c16)
               have H' := Aside0.mk H
               clear H
               obtain ⟨Ao17, co17, eo17⟩ := Kd.R_slice HO_7.out
               subst eo17
               try go_wp2
               have n0_ := Aside0.mk (Kd.R_drew HO_7.out)
               have n1_ := Aside0.mk (below_drew1 HB.out)
               clear HO_7
               clear HB
               have HO_7 := n0_
               have HB := n1_
               clear n0_ n1_
               have p127 : 0 ≤ (x10_3 : Int) := of_decide_eq_true (by first | (with_reducible assumption) | assumption)
               have q127 : x10_3 < (x7_5.length : Int) := of_decide_eq_true (by first | (with_reducible assumption) | assumption)
               obtain ⟨ad127, e127, hx127_0⟩ := Kd.at_int (Kd.R_reads' HO_7.out).2.2 x10_3 p127 q127
               cases e127
               replace p127 := eq_true p127
               replace q127 := eq_true q127
               have p128 : 0 ≤ ((ji13) : Int) := of_decide_eq_true (by first | (with_reducible assumption) | assumption)
               have q128 : (ji13) < (x7_5.length : Int) := of_decide_eq_true (by first | (with_reducible assumption) | assumption)
               obtain ⟨ad128, e128, hx128_0⟩ := Kd.at_int (Kd.R_reads' HO_7.out).2.2 (ji13) p128 q128
               obtain rfl : ad127 = ad128 := (by injection e128)
               replace p128 := eq_true p128
               replace q128 := eq_true q128
               refine start_ (n := 17) (S := fun w' => w'.cell? (ad127.add (x10_3).toNat) = some (.int .i64 (rd x7_5 x10_3)) ∧ w'.cell? (ad127.add ((ji13)).toNat) = some (.int .i64 (rd x7_5 (ji13)))) (ds := [14]) (tk_ 17 0) (by kernel_rfl) rfl (by kernel_rfl) ⟨hx127_0, hx128_0⟩ (fun hHeld => ?_); refine with_tabW erasureref14_hexa.tab12 erasureref14_hexa.bits12 (fun HT_ HW_ => ?_)
               generalize wr.drew = w18 at HO_7 HB hx127_0 hx128_0 hHeld ⊢
               refine pu_ 0 36 (tk_ 17 1) HT_.out rfl rfl (by kernel_rfl) (fun _ _ _ h => h) (by rfl) (fun w' => by go_simp; with_reducible rfl) (by simp only [s0_, s1_, s2_, s3_, s4_, s5_]; rfl) ?_
               refine pu_ 1 37 (tk_ 17 3) HT_.out rfl rfl (by kernel_rfl) (fun _ _ _ h => h) (by rfl) (fun w' => by go_simp; with_reducible rfl) (by simp only [s0_, s1_, s2_, s3_, s4_, s5_]; rfl) ?_
               refine pu_ 2 38 (tk_ 17 7) HT_.out rfl rfl (by kernel_rfl) (fun _ _ _ h => h) (by rfl) (fun w' => by go_simp; with_reducible rfl) (by simp only [s0_, s1_, s2_, s3_, s4_, s5_]; rfl) ?_
               refine pu_ 3 39 (tk_ 17 15) HT_.out rfl rfl (by kernel_rfl) (fun _ _ _ h => h) (by rfl) (fun w' => by go_simp; with_reducible rfl) (by simp only [s0_, s1_, s2_, s3_, s4_, s5_]; rfl) ?_
               refine pu_ 6 42 (tk_ 17 79) HT_.out rfl rfl (by kernel_rfl) (fun _ _ _ h => h) (by rfl) (fun w' => by go_simp; with_reducible rfl) (by simp only [s0_, s1_, s2_, s3_, s4_, s5_]; rfl) ?_
               refine pu_ 7 43 (tk_ 17 207) HT_.out rfl rfl (by kernel_rfl) (fun _ _ _ h => h) (by rfl) (fun w' => by go_simp; with_reducible rfl) (by simp only [s0_, s1_, s2_, s3_, s4_, s5_]; rfl) ?_
               refine pu_ 8 44 (tk_ 17 463) HT_.out rfl rfl (by kernel_rfl) (fun _ _ _ h => h) (by rfl) (fun w' => by go_simp; with_reducible rfl) (by simp only [s0_, s1_, s2_, s3_, s4_, s5_]; rfl) ?_
               refine pu_ 9 45 (tk_ 17 975) HT_.out rfl rfl (by kernel_rfl) (fun _ _ _ h => h) (by rfl) (fun w' => by go_simp; with_reducible rfl) (by simp only [s0_, s1_, s2_, s3_, s4_, s5_]; rfl) ?_
               refine ta_ 4 40 (tk_ 17 991) HT_.out HW_.out rfl rfl (by kernel_rfl) (fun _ _ _ h => h) (by rfl) (by rintro w' ⟨s0, s1⟩; go_simp; with_reducible rfl) hHeld (by simp only [s0_, s1_, s2_, s3_, s4_, s5_]; rfl) ?_
               refine pu_ 5 41 (tk_ 17 1023) HT_.out rfl rfl (by kernel_rfl) (fun _ _ _ h => h) (by rfl) (fun w' => by go_simp; with_reducible rfl) (by simp only [s0_, s1_, s2_, s3_, s4_, s5_]; rfl) ?_
               refine ta_ 10 46 (tk_ 17 2047) HT_.out HW_.out rfl rfl (by kernel_rfl) (fun _ _ _ h => h) (by rfl) (by rintro w' ⟨s0, s1⟩; go_simp; with_reducible rfl) hHeld (by simp only [s0_, s1_, s2_, s3_, s4_, s5_]; rfl) ?_
               refine pu_ 11 47 (tk_ 17 4095) HT_.out rfl rfl (by kernel_rfl) (fun _ _ _ h => h) (by rfl) (fun w' => by go_simp; with_reducible rfl) (by simp only [s0_, s1_, s2_, s3_, s4_, s5_]; rfl) ?_
               refine pu_ 12 48 (tk_ 17 8191) HT_.out rfl rfl (by kernel_rfl) (fun _ _ _ h => h) (by rfl) (fun w' => by go_simp; with_reducible rfl) (by simp only [s0_, s1_, s2_, s3_, s4_, s5_]; rfl) ?_
               refine one_ (i := 13) (N := some 49) (tk_ 17 16383) rfl rfl (one_of HT_.out (by kernel_rfl)) (by decide) (fun K hK => ?_)
               refine Kd.R_lit_step (Kd.int .u8) _ 5 ?hg (N := 49) ?hd (xs := ([(wrap64 ((wrap64 (16 * (rd x7_5 x10_3))) + (rd x7_5 (ji13)))) % 256] : List Int)) (inner := [.int .u8 ((wrap64 ((wrap64 (16 * (rd x7_5 x10_3))) + (rd x7_5 (ji13)))) % 256)]) (ok := fun _ => True) (okp := fun _ => True) ?hr ?hp (fun _ hk => hk) trivial (Below.refl _ _) (Nat.le_refl _) (by simp) ?_; (case hd => rfl); (case hg => rfl); (case hr => first | (go_simp; done) | (go_simp; rfl)); (case hp => exact (Reps.one (show Kd.M (Kd.int .u8) _ _ _ ((wrap64 ((wrap64 (16 * (rd x7_5 x10_3))) + (rd x7_5 (ji13)))) % 256) [.int .u8 ((wrap64 ((wrap64 (16 * (rd x7_5 x10_3))) + (rd x7_5 (ji13)))) % 256)] from rfl) (Reps.none _ _)))
               intro v130 w19 ho20 hb hg_ hnew_
               have HS0_ := (hb.cell (World.block_lt_of_cell? _ _ (hHeld.1))).trans (hHeld.1)
               have HS1_ := (hb.cell (World.block_lt_of_cell? _ _ (hHeld.2))).trans (hHeld.2)
               clear hg_ hnew_
               (first | rw [← Ny129.out] at ho20 | (simp only [Int.reduceToNat] at ho20; rw [← Ny129.out] at ho20))
               have n0_ := Aside0.mk (Kd.R_below (rkk HO_7.out) hb)
               have n1_ := Aside0.mk (Kd.R_lower ho20 (below_size bel))
               have n2_ := Aside0.mk (below_step bel hb)
               clear HO_7
               clear HB
               have HO_7 := n0_
               have HO131 := n1_
               have HB := n2_
               clear n0_ n1_ n2_
               clear hb ho20
               refine hK.out _ _ ⟨HS0_, HS1_⟩ (fun hHeld => ?_)
               clear hK K
               refine norm_ (by show Act.put _ (some 49) _ = _; simp only [s0_, s1_, s2_, s3_, s4_, s5_]; rfl) ?_
               refine last_ (i := 14) (N := some 50) (tk_ 17 32767) rfl rfl (one_of HT_.out (by kernel_rfl)) (by decide) (fun K hK => ?_)
               have hcv21 := own_string (P := Tryd.prog) Tryd.underlying22 Tryd.underlying5 Tryd.underlying9 (Kd.own_of_R HO131.out)
               refine value_ (w1 := ?_) (v := ?_) (by rfl) rfl ?_ ?_
               rotate_left 2
               ·go_simp
                constructor
                ·rfl
                ·rfl
               clear hcv21
               refine hK.out _ _ ?_
               clear hK K
               refine norm_ (by show Act.put _ (some 50) _ = _; simp only [s0_, s1_, s2_, s3_, s4_, s5_]; rfl) ?_
               refine pu_ 15 51 (tk_ 17 65535) HT_.out rfl rfl (by kernel_rfl) (fun _ _ _ h => h) (by rfl) (fun w' => by go_simp; with_reducible rfl) (by simp only [s0_, s1_, s2_, s3_, s4_, s5_]; rfl) ?_
               refine pu_ 16 9 (tk_ 17 131071) HT_.out rfl rfl (by kernel_rfl) (fun _ _ _ h => h) (by rfl) (fun w' => by go_simp; with_reducible rfl) (by simp only [s0_, s1_, s2_, s3_, s4_, s5_]; rfl) ?_
               refine done_ (done_of HT_.out (by kernel_rfl)) ?_
               try go_wp2
               go_roundg k3
               case measure => have := HK1.out; have := HJ5.out; have := HK3.out; omega
               case rel => exact ⟨(x9_3 ++ (strOfNums y129)), (wrap64 (x10_3 + 2)), ea_, ea_, H', ⟨by have := HK1.out; have := HJ5.out; have := HK3.out; omega⟩, ⟨rkk HO_7.out⟩, ⟨bel⟩⟩
              ·rw [if_neg c16] at H
               exact absurd H (by simp)
             ·rw [if_neg c15] at H
              exact absurd H (by simp)
            ·rw [if_neg c14] at H
             exact absurd H (by simp)
           ·rw [if_neg c12] at H
            exact absurd H (by simp)
          ·rw [if_neg c11] at H
           have c11b0 : decide (x10_3 < (x7_5.length : Int)) = false := decide_eq_false c11
           clear c11
           simp only [Option.some.injEq, Prod.mk.injEq] at H
           obtain ⟨rfl, rfl, rfl⟩ := H
           obtain ⟨Aoq0, coq0, eo22⟩ := Kd.R_slice HO_7.out
           subst eo22
           go_wp2
           go_ret3
           exact ⟨ee_, bel⟩
     ·rw [if_neg c5] at H
      have c5b0 : ((rd l0 x1_1) == 62) = false := beq_eq_false_iff_ne.mpr c5
      have c5b1 : ((rd l0 x1_1) != 62) = true := bne_iff_ne.mpr c5
      replace H := Option.bind_eq_some_iff.mp H
      obtain ⟨t132, A230, H⟩ := H
      replace H : (if t132 = true then (erasureref14_hexa.l0 k1 l0 (wrap64 (x1_1 + 1)) x7_1) else ((erasureref10_Digit.f k1 (rd l0 x1_1)).bind fun t133 => (if t133 < 0 then (some ((⟨#[]⟩ : ByteArray), 0, false)) else ((erasureref10_Digit.f k1 (rd l0 x1_1)).bind fun t134 => (if x7_1.length < 17592186044416 then (erasureref14_hexa.l0 k1 l0 (wrap64 (x1_1 + 1)) (x7_1 ++ [t134])) else (none)))))) = some (r1, r2, r3) := H
      have A23 := Aside0.mk A230
      clear A230
      by_cases c24 : t132 = true
      ·subst c24
       have H1 : (erasureref14_hexa.l0 k1 l0 (wrap64 (x1_1 + 1)) x7_1) = some (r1, r2, r3) := by rw [if_pos rfl] at H; exact H
       clear H
       have H := H1
       clear H1
       have H' := Aside0.mk H
       clear H
       have p123 : 0 ≤ (x1_1 : Int) := of_decide_eq_true (by first | (with_reducible assumption) | assumption)
       have q123 : x1_1 < (l0.length : Int) := of_decide_eq_true (by first | (with_reducible assumption) | assumption)
       obtain ⟨ad123, e123, hx123_0⟩ := Kd.at_int HR0.out x1_1 p123 q123
       cases e123
       replace hx123_0 := (HB.out.cell (World.block_lt_of_cell? w _ hx123_0)).trans hx123_0
       replace p123 := eq_true p123
       replace q123 := eq_true q123
       go_wp2_with (first | ((with_reducible refine gate_callee (f := 53) rfl ?_); refine goesL_ (some 55) rfl rfl Tryd.func53 (by kernel_rfl) rfl #[.int .u8 (rd l0 x1_1)] rfl gl_ ?_; (with_reducible refine (erasureref10_White.calls (rd l0 x1_1) true _ A23.out).mono ?_); rintro e w' ⟨rfl, ⟨nd, rfl⟩⟩; refine ⟨_, rfl, ?_⟩))
       go_roundg k1
       case measure => have := HK1.out; omega
       case rel => exact ⟨(wrap64 (x1_1 + 1)), (x7_1), ea_, H', ⟨by have := HK1.out; omega⟩, ⟨rkk HO_7.out⟩, ⟨bel⟩⟩
      ·replace c24 := Bool.eq_false_iff.mpr c24
       subst c24
       have H1 : ((erasureref10_Digit.f k1 (rd l0 x1_1)).bind fun t133 => (if t133 < 0 then (some ((⟨#[]⟩ : ByteArray), 0, false)) else ((erasureref10_Digit.f k1 (rd l0 x1_1)).bind fun t134 => (if x7_1.length < 17592186044416 then (erasureref14_hexa.l0 k1 l0 (wrap64 (x1_1 + 1)) (x7_1 ++ [t134])) else (none))))) = some (r1, r2, r3) := by rw [if_neg (show ¬ (false = true) by decide)] at H; exact H
       clear H
       have H := H1
       clear H1
       replace H := Option.bind_eq_some_iff.mp H
       obtain ⟨t133, A250, H⟩ := H
       replace H : (if t133 < 0 then (some ((⟨#[]⟩ : ByteArray), 0, false)) else ((erasureref10_Digit.f k1 (rd l0 x1_1)).bind fun t134 => (if x7_1.length < 17592186044416 then (erasureref14_hexa.l0 k1 l0 (wrap64 (x1_1 + 1)) (x7_1 ++ [t134])) else (none)))) = some (r1, r2, r3) := H
       have A25 := Aside0.mk A250
       clear A250
       by_cases c26 : t133 < 0
       ·rw [if_pos c26] at H
        have c26b0 : decide (t133 < 0) = true := decide_eq_true c26
        clear c26
        simp only [Option.some.injEq, Prod.mk.injEq] at H
        obtain ⟨rfl, rfl, rfl⟩ := H
        have p123 : 0 ≤ (x1_1 : Int) := of_decide_eq_true (by first | (with_reducible assumption) | assumption)
        have q123 : x1_1 < (l0.length : Int) := of_decide_eq_true (by first | (with_reducible assumption) | assumption)
        obtain ⟨ad123, e123, hx123_0⟩ := Kd.at_int HR0.out x1_1 p123 q123
        cases e123
        replace hx123_0 := (HB.out.cell (World.block_lt_of_cell? w _ hx123_0)).trans hx123_0
        replace p123 := eq_true p123
        replace q123 := eq_true q123
        go_wp2_with (first | ((with_reducible refine gate_callee (f := 53) rfl ?_); refine goesL_ (some 55) rfl rfl Tryd.func53 (by kernel_rfl) rfl #[.int .u8 (rd l0 x1_1)] rfl gl_ ?_; (with_reducible refine (erasureref10_White.calls (rd l0 x1_1) false _ A23.out).mono ?_); rintro e w' ⟨rfl, ⟨nd, rfl⟩⟩; refine ⟨_, rfl, ?_⟩) | ((with_reducible refine gate_callee (f := 54) rfl ?_); refine goesL_ (some 57) rfl rfl Tryd.func54 (by kernel_rfl) rfl #[.int .u8 (rd l0 x1_1)] rfl gl_ ?_; (with_reducible refine (erasureref10_Digit.calls k1 (rd l0 x1_1) t133 _ A25.out).mono ?_); rintro e w' ⟨rfl, ⟨nd, rfl⟩⟩; refine ⟨_, rfl, ?_⟩))
        go_ret3
        exact ⟨ee_, bel⟩
       ·rw [if_neg c26] at H
        have c26b0 : decide (t133 < 0) = false := decide_eq_false c26
        clear c26
        replace H := Option.bind_eq_some_iff.mp H
        obtain ⟨t134, A270, H⟩ := H
        replace H : (if x7_1.length < 17592186044416 then (erasureref14_hexa.l0 k1 l0 (wrap64 (x1_1 + 1)) (x7_1 ++ [t134])) else (none)) = some (r1, r2, r3) := H
        have A27 := Aside0.mk A270
        clear A270
        by_cases c28 : x7_1.length < 17592186044416
        ·rw [if_pos c28] at H
         have LMc28 := Aside0.mk c28
         clear c28
         obtain ⟨y135, hy135⟩ : ∃ y_ : List Int, y_ = (x7_1 ++ [t134]) := ⟨_, rfl⟩
         replace H : (erasureref14_hexa.l0 k1 l0 (wrap64 (x1_1 + 1)) y135) = some (r1, r2, r3) := by first | (rw [hy135]; with_reducible exact H) | (have H2_ := (Option.bind_some _ _).symm.trans H; rw [hy135]; with_reducible exact H2_) | (have H2_ := (Option.bind_some _ _).symm.trans H; with_reducible exact H2_) | with_reducible exact H | (rw [hy135]; exact H) | exact H
         have Ny135 := Aside0.mk hy135
         clear hy135
         have H' := Aside0.mk H
         clear H
         have p123 : 0 ≤ (x1_1 : Int) := of_decide_eq_true (by first | (with_reducible assumption) | assumption)
         have q123 : x1_1 < (l0.length : Int) := of_decide_eq_true (by first | (with_reducible assumption) | assumption)
         obtain ⟨ad123, e123, hx123_0⟩ := Kd.at_int HR0.out x1_1 p123 q123
         cases e123
         replace hx123_0 := (HB.out.cell (World.block_lt_of_cell? w _ hx123_0)).trans hx123_0
         replace p123 := eq_true p123
         replace q123 := eq_true q123
         go_wp2_with (first | ((with_reducible refine gate_callee (f := 53) rfl ?_); refine goesL_ (some 55) rfl rfl Tryd.func53 (by kernel_rfl) rfl #[.int .u8 (rd l0 x1_1)] rfl gl_ ?_; (with_reducible refine (erasureref10_White.calls (rd l0 x1_1) false _ A23.out).mono ?_); rintro e w' ⟨rfl, ⟨nd, rfl⟩⟩; refine ⟨_, rfl, ?_⟩) | ((with_reducible refine gate_callee (f := 54) rfl ?_); refine goesL_ (some 57) rfl rfl Tryd.func54 (by kernel_rfl) rfl #[.int .u8 (rd l0 x1_1)] rfl gl_ ?_; (with_reducible refine (erasureref10_Digit.calls k1 (rd l0 x1_1) t133 _ A25.out).mono ?_); rintro e w' ⟨rfl, ⟨nd, rfl⟩⟩; refine ⟨_, rfl, ?_⟩) | ((with_reducible refine gate_callee (f := 54) rfl ?_); refine goesL_ (some 61) rfl rfl Tryd.func54 (by kernel_rfl) rfl #[.int .u8 (rd l0 x1_1)] rfl gl_ ?_; (with_reducible refine (erasureref10_Digit.calls k1 (rd l0 x1_1) t134 _ A27.out).mono ?_); rintro e w' ⟨rfl, ⟨nd, rfl⟩⟩; refine ⟨_, rfl, ?_⟩) | ((with_reducible refine gate_builtin (b := .append) (xs := #[.tmp 59, .tmp 62]) rfl ?_); at_builtin; refine Kd.R_append (Kd.int .i64) (w0 := w) w.heap.size rfl (.tmp 59) (.tmp 62) 90 3 (.int .i64 0) 8 rfl Tryd.underlying90 info3 rfl (by decide) (by omega) u7 x7_1 t134 [.int .i64 t134] (fun _ => True) (fun _ => False) rfl rfl ?aP (fun _ hk => hk.elim) ?aF ?aO ?aB ?aS ?aL ?_; (case aP => exact rfl); (case aB => exact bel); (case aF => exact (fun _ _ => trivial)); (case aO => exact (rkk HO_7.out)); (case aS => exact (below_size bel)); (case aL => have := LMc28.out; omega); intro v136 w29 ho hb hg hat; rw [← Ny135.out] at ho; have n0_ := Aside0.mk (hb); have n1_ := Aside0.mk (ho); clear HB; clear HO_7; have HB := n0_; have HO137 := n1_; clear n0_ n1_; clear ho hb hg hat))
         go_roundg k1
         case measure => have := HK1.out; omega
         case rel => exact ⟨(wrap64 (x1_1 + 1)), (y135), ea_, H', ⟨by have := HK1.out; omega⟩, ⟨rkk HO137.out⟩, ⟨bel⟩⟩
        ·rw [if_neg c28] at H
         exact absurd H (by simp)
    ·rw [if_neg c4] at H
     exact absurd H (by simp)
   ·rw [if_neg c3] at H
    have c3b0 : decide (x1_1 < (l0.length : Int)) = false := decide_eq_false c3
    clear c3
    simp only [Option.some.injEq, Prod.mk.injEq] at H
    obtain ⟨rfl, rfl, rfl⟩ := H
    go_wp2
    go_ret3
    exact ⟨ee_, bel⟩
def erasureref14_whole.f (a0 : Int) (a1 : ByteArray) (a2 : Int) (a3 : Bool) : Option (Int × Int × Int × ByteArray × Int × Int) := if a3 = true then (if (a1.size : Int) > 65535 then (some (0, 0, 0, (⟨#[]⟩ : ByteArray), 0, 2)) else (some (a0, 0, 0, a1, a2, 0))) else (some (0, 0, 0, (⟨#[]⟩ : ByteArray), 0, 4))
theorem lf_L4_1 {p_ : Prop} (h_ : p_ := by
  go_wp2_with (first | ((with_reducible refine gate_dst (N := 8) rfl ?_); refine box_event ?hg (N := 8) ?hd (cs := #[.int .i64 0, .int .i64 0, .int .i64 0, .string (⟨#[]⟩ : ByteArray)]) (t := 27) ?hr ?_; (case hd => rfl); (case hg => rfl); (case hr => first | (go_simp; done) | (go_simp; rfl)); intro gb138 hg wq0 hbox hb; have n0_ := Aside0.mk (below_step bel hb); have n1_ := Aside0.mk (hbox); have n2_ := Aside0.mk ((by rw [hg]; exact (below_size bel) : w.heap.size ≤ gb138)); have n3_ := Aside0.mk ((by rw [hg]; exact (below_size bel) : w.heap.size ≤ gb138)); clear HB; have HB := n0_; have BK138 := n1_; have GW138 := n2_; have GE138 := n3_; clear n0_ n1_ n2_ n3_; clear hb hbox hg; have hczq0 : wq0.cell? ⟨gb138, 0, none⟩ = some (.int .i64 0) := (blk_cell BK138.out 0).trans rfl; have hczq1 : wq0.cell? ⟨gb138, 1, none⟩ = some (.int .i64 0) := (blk_cell BK138.out 1).trans rfl; have hczq2 : wq0.cell? ⟨gb138, 2, none⟩ = some (.int .i64 0) := (blk_cell BK138.out 2).trans rfl; have hczq3 : wq0.cell? ⟨gb138, 3, none⟩ = some (.string (⟨#[]⟩ : ByteArray)) := (blk_cell BK138.out 3).trans rfl; have hfzq0 := blk_frozen BK138.out 0; have hfzq1 := blk_frozen BK138.out 1; have hfzq2 := blk_frozen BK138.out 2; have hfzq3 := blk_frozen BK138.out 3))
  first
    | (refine bodyPost_ret (results_ctt rfl _ _ gb138 27 #[.int .i64 0, .int .i64 0, .int .i64 0, .string (⟨#[]⟩ : ByteArray)] (0, 0) _ rfl (by (with_reducible repeat (first | refine blk_drewN ?_ _ | refine blk_drew ?_ | refine blk_alloc ?_ _)); refine blk_put (cs := #[.int .i64 0, .int .i64 0, .int .i64 0, .string (⟨#[]⟩ : ByteArray)]) ?_ 3 _ rfl; (with_reducible repeat (first | refine blk_drewN ?_ _ | refine blk_drew ?_ | refine blk_alloc ?_ _)); refine blk_put (cs := #[.int .i64 0, .int .i64 0, .int .i64 0, .string (⟨#[]⟩ : ByteArray)]) ?_ 2 _ rfl; (with_reducible repeat (first | refine blk_drewN ?_ _ | refine blk_drew ?_ | refine blk_alloc ?_ _)); refine blk_put (cs := #[.int .i64 0, .int .i64 0, .int .i64 0, .string (⟨#[]⟩ : ByteArray)]) ?_ 1 _ rfl; (with_reducible repeat (first | refine blk_drewN ?_ _ | refine blk_drew ?_ | refine blk_alloc ?_ _)); refine blk_put (cs := #[.int .i64 0, .int .i64 0, .int .i64 0, .string (⟨#[]⟩ : ByteArray)]) ?_ 0 _ rfl; (with_reducible repeat (first | refine blk_drewN ?_ _ | refine blk_drew ?_ | refine blk_alloc ?_ _)); exact BK138.out) Tryd.underlying27 rfl (by kernel_rfl)) rfl ?_; exact ⟨ee_, bel⟩)
    | (refine bodyPost_ret (results_ctt rfl _ _ gb138 27 #[.int .i64 a0, .int .i64 0, .int .i64 0, .string a1] (0, 0) _ rfl (by (with_reducible repeat (first | refine blk_drewN ?_ _ | refine blk_drew ?_ | refine blk_alloc ?_ _)); refine blk_put (cs := #[.int .i64 a0, .int .i64 0, .int .i64 0, .string (⟨#[]⟩ : ByteArray)]) ?_ 3 _ rfl; (with_reducible repeat (first | refine blk_drewN ?_ _ | refine blk_drew ?_ | refine blk_alloc ?_ _)); refine blk_put (cs := #[.int .i64 a0, .int .i64 0, .int .i64 0, .string (⟨#[]⟩ : ByteArray)]) ?_ 2 _ rfl; (with_reducible repeat (first | refine blk_drewN ?_ _ | refine blk_drew ?_ | refine blk_alloc ?_ _)); refine blk_put (cs := #[.int .i64 a0, .int .i64 0, .int .i64 0, .string (⟨#[]⟩ : ByteArray)]) ?_ 1 _ rfl; (with_reducible repeat (first | refine blk_drewN ?_ _ | refine blk_drew ?_ | refine blk_alloc ?_ _)); refine blk_put (cs := #[.int .i64 0, .int .i64 0, .int .i64 0, .string (⟨#[]⟩ : ByteArray)]) ?_ 0 _ rfl; (with_reducible repeat (first | refine blk_drewN ?_ _ | refine blk_drew ?_ | refine blk_alloc ?_ _)); exact BK138.out) Tryd.underlying27 rfl (by kernel_rfl)) rfl ?_; exact ⟨ee_, bel⟩)) : p_ := h_
set_option maxHeartbeats 8000000 in
set_option maxRecDepth 100000 in
theorem erasureref14_whole.calls (a0 : Int) (a1 : ByteArray) (a2 : Int) (a3 : Bool) (r1 : Int) (r2 : Int) (r3 : Int) (r4 : ByteArray) (r5 : Int) (r6 : Int) (w : World) (h : erasureref14_whole.f a0 a1 a2 a3 = some (r1, r2, r3, r4, r5, r6)) :
  Calls Tryd.prog 21 #[.int .i64 a0, .string a1, .int .i64 a2, .bool a3] w fun e w' => e = .returned (.tuple #[.agg #[.int .i64 r1, .int .i64 r2, .int .i64 r3, .string r4], .int .i64 r5, .int .i64 r6]) ∧ Below w.heap.size w w' := by
 have hu27 := Tryd.underlying27
 have HB := Aside0.mk (Below.refl w.heap.size w)
 have H : (if a3 = true then (if (a1.size : Int) > 65535 then (some (0, 0, 0, (⟨#[]⟩ : ByteArray), 0, 2)) else (some (a0, 0, 0, a1, a2, 0))) else (some (0, 0, 0, (⟨#[]⟩ : ByteArray), 0, 4))) = some (r1, r2, r3, r4, r5, r6) := h
 clear h
 by_cases c5 : a3 = true
 ·subst c5
  have H1 : (if (a1.size : Int) > 65535 then (some (0, 0, 0, (⟨#[]⟩ : ByteArray), 0, 2)) else (some (a0, 0, 0, a1, a2, 0))) = some (r1, r2, r3, r4, r5, r6) := by rw [if_pos rfl] at H; exact H
  clear H
  have H := H1
  clear H1
  by_cases c6 : (a1.size : Int) > 65535
  ·rw [if_pos c6] at H
   have c6b0 : decide (65535 < (a1.size : Int)) = true := decide_eq_true c6
   have c6b1 : decide (65535 < a1.size) = true := decide_eq_true (by omega)
   clear c6
   simp only [Option.some.injEq, Prod.mk.injEq] at H
   obtain ⟨rfl, rfl, rfl, rfl, rfl, rfl⟩ := H
   go_enter Tryd.func21, Tryd.ntmps21
   exact lf_L4_1
  ·rw [if_neg c6] at H
   have c6b0 : decide (65535 < (a1.size : Int)) = false := decide_eq_false c6
   have c6b1 : decide (65535 < a1.size) = false := decide_eq_false (by omega)
   clear c6
   simp only [Option.some.injEq, Prod.mk.injEq] at H
   obtain ⟨rfl, rfl, rfl, rfl, rfl, rfl⟩ := H
   go_enter Tryd.func21, Tryd.ntmps21
   exact lf_L4_1
 ·replace c5 := Bool.eq_false_iff.mpr c5
  subst c5
  have H1 : (some (0, 0, 0, (⟨#[]⟩ : ByteArray), 0, 4)) = some (r1, r2, r3, r4, r5, r6) := by rw [if_neg (show ¬ (false = true) by decide)] at H; exact H
  clear H
  have H := H1
  clear H1
  simp only [Option.some.injEq, Prod.mk.injEq] at H
  obtain ⟨rfl, rfl, rfl, rfl, rfl, rfl⟩ := H
  go_enter Tryd.func21, Tryd.ntmps21
  exact lf_L4_1
end Go.Proofs.YtnhgnejfagncpaaDoor.L
end
section
namespace Go.Proofs.YtnhgnejfagncpaaDoor.L
open Go.RowKit Go.Proofs.YtnhgnejfagncpaaDoorW.PrintWords Go.Proofs.YtnhgnejfagncpaaDoorW.PrintLast Go.Proofs.YtnhgnejfagncpaaDoorW.PrintMore Go.Proofs.YtnhgnejfagncpaaDoor.H Go.Proofs.YtnhgnejfagncpaaDoor.A Go.Proofs.YtnhgnejfagncpaaDoor.B Go.Proofs.YtnhgnejfagncpaaDoor.E
attribute [local go_sem] max2_int min2_int max_two min_two max_three min_three max_four min_four   -- for this text's walks alone
set_option linter.unusedVariables false
set_option linter.unusedSimpArgs false
mutual
def erasureref14_name.l0 : Nat → ByteArray → ByteArray → Int → Option (ByteArray × Bool)
 | 0, _, _, _ => none
 | k + 1, x0, x4, x5 => if x5 < (x0.size : Int) then (if 0 ≤ x5 then (if (bt x0 x5) = 35 then (if (wrap64 (x5 + 2)) ≥ (x0.size : Int) then (erasureref14_name.j1 k x0 x4 x5 true) else (if 0 ≤ (wrap64 (x5 + 1)) then (if (wrap64 (x5 + 1)) < (x0.size : Int) then ((erasureref10_Digit.f k (bt x0 (wrap64 (x5 + 1)))).bind fun t181 => (if t181 < 0 then (erasureref14_name.j1 k x0 x4 x5 true) else (if 0 ≤ (wrap64 (x5 + 2)) then (if (wrap64 (x5 + 2)) < (x0.size : Int) then ((erasureref10_Digit.f k (bt x0 (wrap64 (x5 + 2)))).bind fun t182 => (erasureref14_name.j1 k x0 x4 x5 (decide (t182 < 0)))) else (none)) else (none)))) else (none)) else (none))) else (if x5 ≤ (wrap64 (x5 + 1)) then (if (wrap64 (x5 + 1)) ≤ (x0.size : Int) then (if x4.size + (x0.extract (x5 : Int).toNat ((wrap64 (x5 + 1)) : Int).toNat).size ≤ 9223372036854775807 then (erasureref14_name.l0 k x0 (x4 ++ (x0.extract (x5 : Int).toNat ((wrap64 (x5 + 1)) : Int).toNat)) (wrap64 (x5 + 1))) else (none)) else (none)) else (none))) else (none)) else (some (x4, true))
def erasureref14_name.j1 : Nat → ByteArray → ByteArray → Int → Bool → Option (ByteArray × Bool)
 | 0, _, _, _, _ => none
 | k + 1, x0, x4, x5, x44 => if x44 = true then (some ((⟨#[]⟩ : ByteArray), false)) else (if 0 ≤ (wrap64 (x5 + 1)) then (if (wrap64 (x5 + 1)) < (x0.size : Int) then ((erasureref10_Digit.f k (bt x0 (wrap64 (x5 + 1)))).bind fun t183 => (if 0 ≤ (wrap64 (x5 + 2)) then (if (wrap64 (x5 + 2)) < (x0.size : Int) then ((erasureref10_Digit.f k (bt x0 (wrap64 (x5 + 2)))).bind fun t184 => (if (wrap64 ((wrap64 (16 * t183)) + t184)) = 0 then (some ((⟨#[]⟩ : ByteArray), false)) else ((some (([(wrap64 ((wrap64 (16 * t183)) + t184)) % 256] : List Int) : List Int)).bind fun y185 => (if x4.size + (strOfNums y185).size ≤ 9223372036854775807 then (erasureref14_name.l0 k x0 (x4 ++ (strOfNums y185)) (wrap64 ((wrap64 (x5 + 2)) + 1))) else (none))))) else (none)) else (none))) else (none)) else (none))
end
def erasureref14_name.f (k : Nat) (a0 : ByteArray) : Option (ByteArray × Bool) := erasureref14_name.l0 k a0 (⟨#[]⟩ : ByteArray) 0
set_option maxHeartbeats 8000000 in
set_option maxRecDepth 100000 in
theorem erasureref14_name.calls (k : Nat) (a0 : ByteArray) (r1 : ByteArray) (r2 : Bool) (w : World) (h : erasureref14_name.f k a0 = some (r1, r2)) :
  Calls Tryd.prog 24 #[.string a0] w fun e w' => e = .returned (.tuple #[.string r1, .bool r2]) ∧ Below w.heap.size w w' := by
 have HB := Aside0.mk (Below.refl w.heap.size w)
 have H : (erasureref14_name.l0 k a0 (⟨#[]⟩ : ByteArray) 0) = some (r1, r2) := h
 clear h
 have H' := Aside0.mk H
 clear H
 go_enter Tryd.func24, Tryd.ntmps24
 go_wp2
 repeat (go_quiet (fail); try go_wp2)
 go_loopg [4, 5] k (fun kq v4 v5 w' => ∃ (x4_1 : ByteArray) (x5_1 : Int), v4 = .string x4_1 ∧ v5 = .int .i64 x5_1 ∧ Aside0 (erasureref14_name.l0 kq a0 x4_1 x5_1 = some (r1, r2)) ∧ Aside0 (kq ≤ k) ∧ Aside0 (Below w.heap.size w w'))
 case atStart => exact ⟨((⟨#[]⟩ : ByteArray)), (0), ea_, ea_, H', ⟨Nat.le_refl _⟩, ⟨bel⟩⟩
 case round =>
  clear H'
  obtain ⟨x4_1, x5_1, rfl, rfl, HA, HK1, HB⟩ := hrel
  cases gk with
  | zero => exact absurd HA.out (by simp [erasureref14_name.l0])
  | succ k1 =>
   have H := HA.out
   clear HA
   simp only [erasureref14_name.l0] at H
   by_cases c2 : x5_1 < (a0.size : Int)
   ·rw [if_pos c2] at H
    have c2b0 : decide (x5_1 < (a0.size : Int)) = true := decide_eq_true c2
    clear c2
    by_cases c3 : 0 ≤ x5_1
    ·rw [if_pos c3] at H
     have c3b0 : decide (0 ≤ x5_1) = true := decide_eq_true c3
     clear c3
     by_cases c5 : (bt a0 x5_1) = 35
     ·rw [if_pos c5] at H
      have c5b0 : ((bt a0 x5_1) == 35) = true := beq_iff_eq.mpr c5
      have c5b1 : ((bt a0 x5_1) != 35) = false := bne_eq_false_iff_eq.mpr c5
      clear c5
      have HC6 := Aside0.mk H
      clear H
      have p4 : 0 ≤ (x5_1 : Int) := of_decide_eq_true (by first | (with_reducible assumption) | assumption)
      have q4 : x5_1 < (a0.size : Int) := of_decide_eq_true (by first | (with_reducible assumption) | assumption)
      have hx4 := bt_at a0 x5_1
      replace p4 := eq_true p4
      replace q4 := eq_true q4
      go_upto_region 7 with (fail)
      repeat (go_quiet (fail); go_upto_region 7 with (fail))
      go_cut [44] (fun v44 wc => ∃ (kq : Nat) (x44_5 : Bool), v44 = .bool x44_5 ∧ Aside0 (erasureref14_name.j1 kq a0 x4_1 x5_1 x44_5 = some (r1, r2)) ∧ Aside0 (kq ≤ k1) ∧ Aside0 (Below w.heap.size w wc))
      case first =>
       have H := HC6.out
       clear HC6
       by_cases c7 : (wrap64 (x5_1 + 2)) ≥ (a0.size : Int)
       ·rw [if_pos c7] at H
        have c7b0 : decide ((a0.size : Int) ≤ (wrap64 (x5_1 + 2))) = true := decide_eq_true c7
        clear c7
        (first | rw [c7b0] | (simp only [i64_w, i32_w]; rw [c7b0]) | skip)
        have H' := Aside0.mk H
        clear H
        go_wp2
        repeat (go_quiet (fail); try go_wp2)
        go_meet
        case rel => exact ⟨_, (true), ea_, H', ⟨by have := HK1.out; first | omega | exact Nat.le_refl _⟩, ⟨bel⟩⟩
       ·rw [if_neg c7] at H
        have c7b0 : decide ((a0.size : Int) ≤ (wrap64 (x5_1 + 2))) = false := decide_eq_false c7
        clear c7
        (first | rw [c7b0] | (simp only [i64_w, i32_w]; rw [c7b0]) | skip)
        obtain ⟨ji8, hji8⟩ : ∃ j_ : Int, (wrap64 (x5_1 + 1)) = j_ := ⟨_, rfl⟩
        replace H : (if 0 ≤ (ji8) then (if (ji8) < (a0.size : Int) then ((erasureref10_Digit.f k1 (bt a0 (ji8))).bind fun t181 => (if t181 < 0 then (erasureref14_name.j1 k1 a0 x4_1 x5_1 true) else (if 0 ≤ (wrap64 (x5_1 + 2)) then (if (wrap64 (x5_1 + 2)) < (a0.size : Int) then ((erasureref10_Digit.f k1 (bt a0 (wrap64 (x5_1 + 2)))).bind fun t182 => (erasureref14_name.j1 k1 a0 x4_1 x5_1 (decide (t182 < 0)))) else (none)) else (none)))) else (none)) else (none)) = some (r1, r2) := by first | (rw [hji8] at H; exact H) | (simp only [hji8] at H ⊢; exact H)
        have hji8w : (IntKind.i64.wrap (x5_1 + 1)) = ji8 := (i64_w _).trans hji8
        by_cases c9 : 0 ≤ (ji8)
        ·rw [if_pos c9] at H
         have c9b0 : decide (0 ≤ (ji8)) = true := decide_eq_true c9
         clear c9
         by_cases c10 : (ji8) < (a0.size : Int)
         ·rw [if_pos c10] at H
          have c10b0 : decide ((ji8) < (a0.size : Int)) = true := decide_eq_true c10
          clear c10
          replace H := Option.bind_eq_some_iff.mp H
          obtain ⟨t181, A120, H⟩ := H
          replace H : (if t181 < 0 then (erasureref14_name.j1 k1 a0 x4_1 x5_1 true) else (if 0 ≤ (wrap64 (x5_1 + 2)) then (if (wrap64 (x5_1 + 2)) < (a0.size : Int) then ((erasureref10_Digit.f k1 (bt a0 (wrap64 (x5_1 + 2)))).bind fun t182 => (erasureref14_name.j1 k1 a0 x4_1 x5_1 (decide (t182 < 0)))) else (none)) else (none))) = some (r1, r2) := H
          have A12 := Aside0.mk A120
          clear A120
          by_cases c13 : t181 < 0
          ·rw [if_pos c13] at H
           have c13b0 : decide (t181 < 0) = true := decide_eq_true c13
           clear c13
           have H' := Aside0.mk H
           clear H
           have p11 : 0 ≤ ((ji8) : Int) := of_decide_eq_true (by first | (with_reducible assumption) | assumption)
           have q11 : (ji8) < (a0.size : Int) := of_decide_eq_true (by first | (with_reducible assumption) | assumption)
           have hx11 := bt_at a0 (ji8)
           replace p11 := eq_true p11
           replace q11 := eq_true q11
           go_wp2_with (first | (go_at_call 54; (with_reducible refine (erasureref10_Digit.calls k1 (bt a0 (ji8)) t181 _ A12.out).mono ?_); rintro e w' ⟨rfl, ⟨nd, rfl⟩⟩; (try exact dd_)))
           repeat (go_quiet (first | (go_at_call 54; (with_reducible refine (erasureref10_Digit.calls k1 (bt a0 (ji8)) t181 _ A12.out).mono ?_); rintro e w' ⟨rfl, ⟨nd, rfl⟩⟩; (try exact dd_))); try go_wp2_with (first | (go_at_call 54; (with_reducible refine (erasureref10_Digit.calls k1 (bt a0 (ji8)) t181 _ A12.out).mono ?_); rintro e w' ⟨rfl, ⟨nd, rfl⟩⟩; (try exact dd_))))
           go_meet
           case rel => exact ⟨_, (true), ea_, H', ⟨by have := HK1.out; first | omega | exact Nat.le_refl _⟩, ⟨bel⟩⟩
          ·rw [if_neg c13] at H
           have c13b0 : decide (t181 < 0) = false := decide_eq_false c13
           clear c13
           obtain ⟨ji14, hji14⟩ : ∃ j_ : Int, (wrap64 (x5_1 + 2)) = j_ := ⟨_, rfl⟩
           replace H : (if 0 ≤ (ji14) then (if (ji14) < (a0.size : Int) then ((erasureref10_Digit.f k1 (bt a0 (ji14))).bind fun t182 => (erasureref14_name.j1 k1 a0 x4_1 x5_1 (decide (t182 < 0)))) else (none)) else (none)) = some (r1, r2) := by first | (rw [hji14] at H; exact H) | (simp only [hji14] at H ⊢; exact H)
           (try rw [hji14] at c7b0)
           (try rw [hji14] at A12)
           have hji14w : (IntKind.i64.wrap (x5_1 + 2)) = ji14 := (i64_w _).trans hji14
           by_cases c15 : 0 ≤ (ji14)
           ·rw [if_pos c15] at H
            have c15b0 : decide (0 ≤ (ji14)) = true := decide_eq_true c15
            clear c15
            by_cases c16 : (ji14) < (a0.size : Int)
            ·rw [if_pos c16] at H
             have c16b0 : decide ((ji14) < (a0.size : Int)) = true := decide_eq_true c16
             clear c16
             replace H := Option.bind_eq_some_iff.mp H
             obtain ⟨t182, A180, H⟩ := H
             replace H : (erasureref14_name.j1 k1 a0 x4_1 x5_1 (decide (t182 < 0))) = some (r1, r2) := H
             have A18 := Aside0.mk A180
             clear A180
             have H' := Aside0.mk H
             clear H
             have p11 : 0 ≤ ((ji8) : Int) := of_decide_eq_true (by first | (with_reducible assumption) | assumption)
             have q11 : (ji8) < (a0.size : Int) := of_decide_eq_true (by first | (with_reducible assumption) | assumption)
             have hx11 := bt_at a0 (ji8)
             replace p11 := eq_true p11
             replace q11 := eq_true q11
             go_wp2_with (first | (go_at_call 54; (with_reducible refine (erasureref10_Digit.calls k1 (bt a0 (ji8)) t181 _ A12.out).mono ?_); rintro e w' ⟨rfl, ⟨nd, rfl⟩⟩; (try exact dd_); have p17 : 0 ≤ ((ji14) : Int) := of_decide_eq_true (by first | (with_reducible assumption) | assumption); have q17 : (ji14) < (a0.size : Int) := of_decide_eq_true (by first | (with_reducible assumption) | assumption); have hx17 := bt_at a0 (ji14); replace p17 := eq_true p17; replace q17 := eq_true q17) | (go_at_call 54; (with_reducible refine (erasureref10_Digit.calls k1 (bt a0 (ji14)) t182 _ A18.out).mono ?_); rintro e w' ⟨rfl, ⟨nd, rfl⟩⟩; (try exact dd_)))
             repeat (go_quiet (first | (go_at_call 54; (with_reducible refine (erasureref10_Digit.calls k1 (bt a0 (ji8)) t181 _ A12.out).mono ?_); rintro e w' ⟨rfl, ⟨nd, rfl⟩⟩; (try exact dd_); have p17 : 0 ≤ ((ji14) : Int) := of_decide_eq_true (by first | (with_reducible assumption) | assumption); have q17 : (ji14) < (a0.size : Int) := of_decide_eq_true (by first | (with_reducible assumption) | assumption); have hx17 := bt_at a0 (ji14); replace p17 := eq_true p17; replace q17 := eq_true q17) | (go_at_call 54; (with_reducible refine (erasureref10_Digit.calls k1 (bt a0 (ji14)) t182 _ A18.out).mono ?_); rintro e w' ⟨rfl, ⟨nd, rfl⟩⟩; (try exact dd_))); try go_wp2_with (first | (go_at_call 54; (with_reducible refine (erasureref10_Digit.calls k1 (bt a0 (ji8)) t181 _ A12.out).mono ?_); rintro e w' ⟨rfl, ⟨nd, rfl⟩⟩; (try exact dd_); have p17 : 0 ≤ ((ji14) : Int) := of_decide_eq_true (by first | (with_reducible assumption) | assumption); have q17 : (ji14) < (a0.size : Int) := of_decide_eq_true (by first | (with_reducible assumption) | assumption); have hx17 := bt_at a0 (ji14); replace p17 := eq_true p17; replace q17 := eq_true q17) | (go_at_call 54; (with_reducible refine (erasureref10_Digit.calls k1 (bt a0 (ji14)) t182 _ A18.out).mono ?_); rintro e w' ⟨rfl, ⟨nd, rfl⟩⟩; (try exact dd_))))
             go_meet
             case rel => exact ⟨_, (decide (t182 < 0)), ea_, H', ⟨by have := HK1.out; first | omega | exact Nat.le_refl _⟩, ⟨bel⟩⟩
            ·rw [if_neg c16] at H
             exact absurd H (by simp)
           ·rw [if_neg c15] at H
            exact absurd H (by simp)
         ·rw [if_neg c10] at H
          exact absurd H (by simp)
        ·rw [if_neg c9] at H
         exact absurd H (by simp)
      case rest =>
       clear HC6
       try clear c1
       try clear p1
       try clear q1
       try clear hx1
       try clear c2
       try clear c2b0
       try clear p2
       try clear c3
       try clear c3b0
       try clear p4
       try clear q4
       try clear hx4
       try clear c5
       try clear c5b0
       try clear c5b1
       try clear p6
       try clear c7
       try clear c7b0
       try clear c9
       try clear c9b0
       try clear c10
       try clear c10b0
       try clear p11
       try clear q11
       try clear hx11
       try clear c13
       try clear c13b0
       try clear c15
       try clear c15b0
       try clear c16
       try clear c16b0
       try clear p17
       try clear q17
       try clear hx17
       try clear p11
       try clear p17
       try clear p4
       try clear q11
       try clear q17
       try clear q4
       obtain ⟨kq, x44_5, rfl, HA, HJ5, HB⟩ := hcut
       cases kq with
       | zero => exact absurd HA.out (by simp [erasureref14_name.j1])
       | succ kj5 =>
        have H := HA.out
        clear HA
        simp only [erasureref14_name.j1] at H
        by_cases c19 : x44_5 = true
        ·subst c19
         have H1 : (some ((⟨#[]⟩ : ByteArray), false)) = some (r1, r2) := by rw [if_pos rfl] at H; exact H
         clear H
         have H := H1
         clear H1
         simp only [Option.some.injEq, Prod.mk.injEq] at H
         obtain ⟨rfl, rfl⟩ := H
         go_wp2
         repeat (go_quiet (fail); try go_wp2)
         go_ret2
         exact ⟨ee_, bel⟩
        ·replace c19 := Bool.eq_false_iff.mpr c19
         subst c19
         have H1 : (if 0 ≤ (wrap64 (x5_1 + 1)) then (if (wrap64 (x5_1 + 1)) < (a0.size : Int) then ((erasureref10_Digit.f kj5 (bt a0 (wrap64 (x5_1 + 1)))).bind fun t183 => (if 0 ≤ (wrap64 (x5_1 + 2)) then (if (wrap64 (x5_1 + 2)) < (a0.size : Int) then ((erasureref10_Digit.f kj5 (bt a0 (wrap64 (x5_1 + 2)))).bind fun t184 => (if (wrap64 ((wrap64 (16 * t183)) + t184)) = 0 then (some ((⟨#[]⟩ : ByteArray), false)) else ((some (([(wrap64 ((wrap64 (16 * t183)) + t184)) % 256] : List Int) : List Int)).bind fun y185 => (if x4_1.size + (strOfNums y185).size ≤ 9223372036854775807 then (erasureref14_name.l0 kj5 a0 (x4_1 ++ (strOfNums y185)) (wrap64 ((wrap64 (x5_1 + 2)) + 1))) else (none))))) else (none)) else (none))) else (none)) else (none)) = some (r1, r2) := by rw [if_neg (show ¬ (false = true) by decide)] at H; exact H
         clear H
         have H := H1
         clear H1
         obtain ⟨ji20, hji20⟩ : ∃ j_ : Int, (wrap64 (x5_1 + 1)) = j_ := ⟨_, rfl⟩
         replace H : (if 0 ≤ (ji20) then (if (ji20) < (a0.size : Int) then ((erasureref10_Digit.f kj5 (bt a0 (ji20))).bind fun t183 => (if 0 ≤ (wrap64 (x5_1 + 2)) then (if (wrap64 (x5_1 + 2)) < (a0.size : Int) then ((erasureref10_Digit.f kj5 (bt a0 (wrap64 (x5_1 + 2)))).bind fun t184 => (if (wrap64 ((wrap64 (16 * t183)) + t184)) = 0 then (some ((⟨#[]⟩ : ByteArray), false)) else ((some (([(wrap64 ((wrap64 (16 * t183)) + t184)) % 256] : List Int) : List Int)).bind fun y185 => (if x4_1.size + (strOfNums y185).size ≤ 9223372036854775807 then (erasureref14_name.l0 kj5 a0 (x4_1 ++ (strOfNums y185)) (wrap64 ((wrap64 (x5_1 + 2)) + 1))) else (none))))) else (none)) else (none))) else (none)) else (none)) = some (r1, r2) := by first | (rw [hji20] at H; exact H) | (simp only [hji20] at H ⊢; exact H)
         have hji20w : (IntKind.i64.wrap (x5_1 + 1)) = ji20 := (i64_w _).trans hji20
         by_cases c21 : 0 ≤ (ji20)
         ·rw [if_pos c21] at H
          have c21b0 : decide (0 ≤ (ji20)) = true := decide_eq_true c21
          clear c21
          by_cases c22 : (ji20) < (a0.size : Int)
          ·rw [if_pos c22] at H
           have c22b0 : decide ((ji20) < (a0.size : Int)) = true := decide_eq_true c22
           clear c22
           replace H := Option.bind_eq_some_iff.mp H
           obtain ⟨t183, A240, H⟩ := H
           replace H : (if 0 ≤ (wrap64 (x5_1 + 2)) then (if (wrap64 (x5_1 + 2)) < (a0.size : Int) then ((erasureref10_Digit.f kj5 (bt a0 (wrap64 (x5_1 + 2)))).bind fun t184 => (if (wrap64 ((wrap64 (16 * t183)) + t184)) = 0 then (some ((⟨#[]⟩ : ByteArray), false)) else ((some (([(wrap64 ((wrap64 (16 * t183)) + t184)) % 256] : List Int) : List Int)).bind fun y185 => (if x4_1.size + (strOfNums y185).size ≤ 9223372036854775807 then (erasureref14_name.l0 kj5 a0 (x4_1 ++ (strOfNums y185)) (wrap64 ((wrap64 (x5_1 + 2)) + 1))) else (none))))) else (none)) else (none)) = some (r1, r2) := H
           have A24 := Aside0.mk A240
           clear A240
           obtain ⟨ji25, hji25⟩ : ∃ j_ : Int, (wrap64 (x5_1 + 2)) = j_ := ⟨_, rfl⟩
           replace H : (if 0 ≤ (ji25) then (if (ji25) < (a0.size : Int) then ((erasureref10_Digit.f kj5 (bt a0 (ji25))).bind fun t184 => (if (wrap64 ((wrap64 (16 * t183)) + t184)) = 0 then (some ((⟨#[]⟩ : ByteArray), false)) else ((some (([(wrap64 ((wrap64 (16 * t183)) + t184)) % 256] : List Int) : List Int)).bind fun y185 => (if x4_1.size + (strOfNums y185).size ≤ 9223372036854775807 then (erasureref14_name.l0 kj5 a0 (x4_1 ++ (strOfNums y185)) (wrap64 ((ji25) + 1))) else (none))))) else (none)) else (none)) = some (r1, r2) := by first | (rw [hji25] at H; exact H) | (simp only [hji25] at H ⊢; exact H)
           (try rw [hji25] at A24)
           have hji25w : (IntKind.i64.wrap (x5_1 + 2)) = ji25 := (i64_w _).trans hji25
           by_cases c26 : 0 ≤ (ji25)
           ·rw [if_pos c26] at H
            have c26b0 : decide (0 ≤ (ji25)) = true := decide_eq_true c26
            clear c26
            by_cases c27 : (ji25) < (a0.size : Int)
            ·rw [if_pos c27] at H
             have c27b0 : decide ((ji25) < (a0.size : Int)) = true := decide_eq_true c27
             clear c27
             replace H := Option.bind_eq_some_iff.mp H
             obtain ⟨t184, A290, H⟩ := H
             replace H : (if (wrap64 ((wrap64 (16 * t183)) + t184)) = 0 then (some ((⟨#[]⟩ : ByteArray), false)) else ((some (([(wrap64 ((wrap64 (16 * t183)) + t184)) % 256] : List Int) : List Int)).bind fun y185 => (if x4_1.size + (strOfNums y185).size ≤ 9223372036854775807 then (erasureref14_name.l0 kj5 a0 (x4_1 ++ (strOfNums y185)) (wrap64 ((ji25) + 1))) else (none)))) = some (r1, r2) := H
             have A29 := Aside0.mk A290
             clear A290
             by_cases c30 : (wrap64 ((wrap64 (16 * t183)) + t184)) = 0
             ·rw [if_pos c30] at H
              have c30b0 : ((wrap64 ((wrap64 (16 * t183)) + t184)) == 0) = true := beq_iff_eq.mpr c30
              have c30b1 : ((wrap64 ((wrap64 (16 * t183)) + t184)) != 0) = false := bne_eq_false_iff_eq.mpr c30
              clear c30
              simp only [Option.some.injEq, Prod.mk.injEq] at H
              obtain ⟨rfl, rfl⟩ := H
              have p23 : 0 ≤ ((ji20) : Int) := of_decide_eq_true (by first | (with_reducible assumption) | assumption)
              have q23 : (ji20) < (a0.size : Int) := of_decide_eq_true (by first | (with_reducible assumption) | assumption)
              have hx23 := bt_at a0 (ji20)
              replace p23 := eq_true p23
              replace q23 := eq_true q23
              go_wp2_with (first | (go_at_call 54; (with_reducible refine (erasureref10_Digit.calls kj5 (bt a0 (ji20)) t183 _ A24.out).mono ?_); rintro e w' ⟨rfl, ⟨nd, rfl⟩⟩; (try exact dd_); have p28 : 0 ≤ ((ji25) : Int) := of_decide_eq_true (by first | (with_reducible assumption) | assumption); have q28 : (ji25) < (a0.size : Int) := of_decide_eq_true (by first | (with_reducible assumption) | assumption); have hx28 := bt_at a0 (ji25); replace p28 := eq_true p28; replace q28 := eq_true q28) | (go_at_call 54; (with_reducible refine (erasureref10_Digit.calls kj5 (bt a0 (ji25)) t184 _ A29.out).mono ?_); rintro e w' ⟨rfl, ⟨nd, rfl⟩⟩; (try exact dd_)))
              repeat (go_quiet (first | (go_at_call 54; (with_reducible refine (erasureref10_Digit.calls kj5 (bt a0 (ji20)) t183 _ A24.out).mono ?_); rintro e w' ⟨rfl, ⟨nd, rfl⟩⟩; (try exact dd_); have p28 : 0 ≤ ((ji25) : Int) := of_decide_eq_true (by first | (with_reducible assumption) | assumption); have q28 : (ji25) < (a0.size : Int) := of_decide_eq_true (by first | (with_reducible assumption) | assumption); have hx28 := bt_at a0 (ji25); replace p28 := eq_true p28; replace q28 := eq_true q28) | (go_at_call 54; (with_reducible refine (erasureref10_Digit.calls kj5 (bt a0 (ji25)) t184 _ A29.out).mono ?_); rintro e w' ⟨rfl, ⟨nd, rfl⟩⟩; (try exact dd_))); try go_wp2_with (first | (go_at_call 54; (with_reducible refine (erasureref10_Digit.calls kj5 (bt a0 (ji20)) t183 _ A24.out).mono ?_); rintro e w' ⟨rfl, ⟨nd, rfl⟩⟩; (try exact dd_); have p28 : 0 ≤ ((ji25) : Int) := of_decide_eq_true (by first | (with_reducible assumption) | assumption); have q28 : (ji25) < (a0.size : Int) := of_decide_eq_true (by first | (with_reducible assumption) | assumption); have hx28 := bt_at a0 (ji25); replace p28 := eq_true p28; replace q28 := eq_true q28) | (go_at_call 54; (with_reducible refine (erasureref10_Digit.calls kj5 (bt a0 (ji25)) t184 _ A29.out).mono ?_); rintro e w' ⟨rfl, ⟨nd, rfl⟩⟩; (try exact dd_))))
              go_ret2
              exact ⟨by first | rfl | (simp [errW_none, errW_some] <;> rfl) | (simp only [← hji20, ← hji25]; first | rfl | (simp [errW_none, errW_some] <;> rfl)) | (simp [*, errW_none, errW_some] <;> rfl), bel⟩
             ·rw [if_neg c30] at H
              have c30b0 : ((wrap64 ((wrap64 (16 * t183)) + t184)) == 0) = false := beq_eq_false_iff_ne.mpr c30
              have c30b1 : ((wrap64 ((wrap64 (16 * t183)) + t184)) != 0) = true := bne_iff_ne.mpr c30
              obtain ⟨y185, hy185⟩ : ∃ y_ : List Int, y_ = (([(wrap64 ((wrap64 (16 * t183)) + t184)) % 256] : List Int)) := ⟨_, rfl⟩
              replace H : (if x4_1.size + (strOfNums y185).size ≤ 9223372036854775807 then (erasureref14_name.l0 kj5 a0 (x4_1 ++ (strOfNums y185)) (wrap64 ((ji25) + 1))) else (none)) = some (r1, r2) := by first | (rw [hy185]; with_reducible exact H) | (have H2_ := (Option.bind_some _ _).symm.trans H; rw [hy185]; with_reducible exact H2_) | (have H2_ := (Option.bind_some _ _).symm.trans H; with_reducible exact H2_) | with_reducible exact H | (rw [hy185]; exact H) | exact H
              have Ny185 := Aside0.mk hy185
              clear hy185
              by_cases c31 : x4_1.size + (strOfNums y185).size ≤ 9223372036854775807
              ·rw [if_pos c31] at H
               have c31b0 := eq_true c31
               have c31b1 : decide (x4_1.size + (strOfNums y185).size ≤ 9223372036854775807) = true := decide_eq_true c31
               try have c31b2 : (9223372036854775807 < x4_1.size + (strOfNums y185).size) = False := eq_false (Nat.not_lt.2 c31)
               have H' := Aside0.mk H
               clear H
               have p23 : 0 ≤ ((ji20) : Int) := of_decide_eq_true (by first | (with_reducible assumption) | assumption)
               have q23 : (ji20) < (a0.size : Int) := of_decide_eq_true (by first | (with_reducible assumption) | assumption)
               have hx23 := bt_at a0 (ji20)
               replace p23 := eq_true p23
               replace q23 := eq_true q23
               go_wp2_with (first | (go_at_call 54; (with_reducible refine (erasureref10_Digit.calls kj5 (bt a0 (ji20)) t183 _ A24.out).mono ?_); rintro e w' ⟨rfl, ⟨nd, rfl⟩⟩; (try exact dd_); have p28 : 0 ≤ ((ji25) : Int) := of_decide_eq_true (by first | (with_reducible assumption) | assumption); have q28 : (ji25) < (a0.size : Int) := of_decide_eq_true (by first | (with_reducible assumption) | assumption); have hx28 := bt_at a0 (ji25); replace p28 := eq_true p28; replace q28 := eq_true q28) | (go_at_call 54; (with_reducible refine (erasureref10_Digit.calls kj5 (bt a0 (ji25)) t184 _ A29.out).mono ?_); rintro e w' ⟨rfl, ⟨nd, rfl⟩⟩; (try exact dd_)) | ((with_reducible refine gate_dst (N := 62) rfl ?_); refine Kd.R_lit (Kd.int .u8) _ 5 ?hg (N := 62) ?hd (xs := ([(wrap64 ((wrap64 (16 * t183)) + t184)) % 256] : List Int)) (inner := [.int .u8 ((wrap64 ((wrap64 (16 * t183)) + t184)) % 256)]) (ok := fun _ => True) (okp := fun _ => True) ?hr ?hp (fun _ hk => hk) trivial (Below.refl _ _) (Nat.le_refl _) (by simp) ?_; (case hd => rfl); (case hg => rfl); (case hr => first | (go_simp; done) | (go_simp; rfl)); (case hp => exact (Reps.one (show Kd.M (Kd.int .u8) _ _ _ ((wrap64 ((wrap64 (16 * t183)) + t184)) % 256) [.int .u8 ((wrap64 ((wrap64 (16 * t183)) + t184)) % 256)] from rfl) (Reps.none _ _))); intro v186 w32 ho33 hb hg_ hnew_; clear hg_ hnew_; (first | rw [← Ny185.out] at ho33 | (simp only [Int.reduceToNat] at ho33; rw [← Ny185.out] at ho33)); have n0_ := Aside0.mk (Kd.R_lower ho33 (below_size bel)); have n1_ := Aside0.mk (below_step bel hb); clear HB; have HO187 := n0_; have HB := n1_; clear n0_ n1_; clear hb ho33; have hcv34 := own_string (P := Tryd.prog) Tryd.underlying22 Tryd.underlying5 Tryd.underlying9 (Kd.own_of_R HO187.out)))
               repeat (go_quiet (first | (go_at_call 54; (with_reducible refine (erasureref10_Digit.calls kj5 (bt a0 (ji20)) t183 _ A24.out).mono ?_); rintro e w' ⟨rfl, ⟨nd, rfl⟩⟩; (try exact dd_); have p28 : 0 ≤ ((ji25) : Int) := of_decide_eq_true (by first | (with_reducible assumption) | assumption); have q28 : (ji25) < (a0.size : Int) := of_decide_eq_true (by first | (with_reducible assumption) | assumption); have hx28 := bt_at a0 (ji25); replace p28 := eq_true p28; replace q28 := eq_true q28) | (go_at_call 54; (with_reducible refine (erasureref10_Digit.calls kj5 (bt a0 (ji25)) t184 _ A29.out).mono ?_); rintro e w' ⟨rfl, ⟨nd, rfl⟩⟩; (try exact dd_)) | ((with_reducible refine gate_dst (N := 62) rfl ?_); refine Kd.R_lit (Kd.int .u8) _ 5 ?hg (N := 62) ?hd (xs := ([(wrap64 ((wrap64 (16 * t183)) + t184)) % 256] : List Int)) (inner := [.int .u8 ((wrap64 ((wrap64 (16 * t183)) + t184)) % 256)]) (ok := fun _ => True) (okp := fun _ => True) ?hr ?hp (fun _ hk => hk) trivial (Below.refl _ _) (Nat.le_refl _) (by simp) ?_; (case hd => rfl); (case hg => rfl); (case hr => first | (go_simp; done) | (go_simp; rfl)); (case hp => exact (Reps.one (show Kd.M (Kd.int .u8) _ _ _ ((wrap64 ((wrap64 (16 * t183)) + t184)) % 256) [.int .u8 ((wrap64 ((wrap64 (16 * t183)) + t184)) % 256)] from rfl) (Reps.none _ _))); intro v186 w32 ho33 hb hg_ hnew_; clear hg_ hnew_; (first | rw [← Ny185.out] at ho33 | (simp only [Int.reduceToNat] at ho33; rw [← Ny185.out] at ho33)); have n0_ := Aside0.mk (Kd.R_lower ho33 (below_size bel)); have n1_ := Aside0.mk (below_step bel hb); clear HB; have HO187 := n0_; have HB := n1_; clear n0_ n1_; clear hb ho33; have hcv34 := own_string (P := Tryd.prog) Tryd.underlying22 Tryd.underlying5 Tryd.underlying9 (Kd.own_of_R HO187.out))); try go_wp2_with (first | (go_at_call 54; (with_reducible refine (erasureref10_Digit.calls kj5 (bt a0 (ji20)) t183 _ A24.out).mono ?_); rintro e w' ⟨rfl, ⟨nd, rfl⟩⟩; (try exact dd_); have p28 : 0 ≤ ((ji25) : Int) := of_decide_eq_true (by first | (with_reducible assumption) | assumption); have q28 : (ji25) < (a0.size : Int) := of_decide_eq_true (by first | (with_reducible assumption) | assumption); have hx28 := bt_at a0 (ji25); replace p28 := eq_true p28; replace q28 := eq_true q28) | (go_at_call 54; (with_reducible refine (erasureref10_Digit.calls kj5 (bt a0 (ji25)) t184 _ A29.out).mono ?_); rintro e w' ⟨rfl, ⟨nd, rfl⟩⟩; (try exact dd_)) | ((with_reducible refine gate_dst (N := 62) rfl ?_); refine Kd.R_lit (Kd.int .u8) _ 5 ?hg (N := 62) ?hd (xs := ([(wrap64 ((wrap64 (16 * t183)) + t184)) % 256] : List Int)) (inner := [.int .u8 ((wrap64 ((wrap64 (16 * t183)) + t184)) % 256)]) (ok := fun _ => True) (okp := fun _ => True) ?hr ?hp (fun _ hk => hk) trivial (Below.refl _ _) (Nat.le_refl _) (by simp) ?_; (case hd => rfl); (case hg => rfl); (case hr => first | (go_simp; done) | (go_simp; rfl)); (case hp => exact (Reps.one (show Kd.M (Kd.int .u8) _ _ _ ((wrap64 ((wrap64 (16 * t183)) + t184)) % 256) [.int .u8 ((wrap64 ((wrap64 (16 * t183)) + t184)) % 256)] from rfl) (Reps.none _ _))); intro v186 w32 ho33 hb hg_ hnew_; clear hg_ hnew_; (first | rw [← Ny185.out] at ho33 | (simp only [Int.reduceToNat] at ho33; rw [← Ny185.out] at ho33)); have n0_ := Aside0.mk (Kd.R_lower ho33 (below_size bel)); have n1_ := Aside0.mk (below_step bel hb); clear HB; have HO187 := n0_; have HB := n1_; clear n0_ n1_; clear hb ho33; have hcv34 := own_string (P := Tryd.prog) Tryd.underlying22 Tryd.underlying5 Tryd.underlying9 (Kd.own_of_R HO187.out))))
               go_roundg kj5
               case measure => have := HK1.out; have := HJ5.out; omega
               case rel => exact ⟨(x4_1 ++ (strOfNums y185)), (wrap64 ((ji25) + 1)), ea_, (by first | rfl | (simp; done) | (simp only [← hji25] <;> (first | rfl | simp)) | (simp [*]; done)), H', ⟨by have := HK1.out; have := HJ5.out; omega⟩, ⟨bel⟩⟩
              ·rw [if_neg c31] at H
               exact absurd H (by simp)
            ·rw [if_neg c27] at H
             exact absurd H (by simp)
           ·rw [if_neg c26] at H
            exact absurd H (by simp)
          ·rw [if_neg c22] at H
           exact absurd H (by simp)
         ·rw [if_neg c21] at H
          exact absurd H (by simp)
     ·rw [if_neg c5] at H
      have c5b0 : ((bt a0 x5_1) == 35) = false := beq_eq_false_iff_ne.mpr c5
      have c5b1 : ((bt a0 x5_1) != 35) = true := bne_iff_ne.mpr c5
      have c35b0 := eq_true (of_decide_eq_true (by first | (with_reducible assumption) | assumption) : 0 ≤ x5_1)
      by_cases c36 : x5_1 ≤ (wrap64 (x5_1 + 1))
      ·rw [if_pos c36] at H
       have c36b0 := eq_true c36
       have c36b1 : decide (x5_1 ≤ (wrap64 (x5_1 + 1))) = true := decide_eq_true c36
       by_cases c37 : (wrap64 (x5_1 + 1)) ≤ (a0.size : Int)
       ·rw [if_pos c37] at H
        have c37b0 := eq_true c37
        have c37b1 : decide ((wrap64 (x5_1 + 1)) ≤ (a0.size : Int)) = true := decide_eq_true c37
        by_cases c38 : x4_1.size + (a0.extract (x5_1 : Int).toNat ((wrap64 (x5_1 + 1)) : Int).toNat).size ≤ 9223372036854775807
        ·rw [if_pos c38] at H
         have c38b0 := eq_true c38
         have c38b1 : decide (x4_1.size + (a0.extract (x5_1 : Int).toNat ((wrap64 (x5_1 + 1)) : Int).toNat).size ≤ 9223372036854775807) = true := decide_eq_true c38
         try have c38b2 : (9223372036854775807 < x4_1.size + (a0.extract (x5_1 : Int).toNat ((wrap64 (x5_1 + 1)) : Int).toNat).size) = False := eq_false (Nat.not_lt.2 c38)
         have H' := Aside0.mk H
         clear H
         have p4 : 0 ≤ (x5_1 : Int) := of_decide_eq_true (by first | (with_reducible assumption) | assumption)
         have q4 : x5_1 < (a0.size : Int) := of_decide_eq_true (by first | (with_reducible assumption) | assumption)
         have hx4 := bt_at a0 x5_1
         replace p4 := eq_true p4
         replace q4 := eq_true q4
         go_wp2
         repeat (go_quiet (fail); try go_wp2)
         go_roundg k1
         case measure => have := HK1.out; omega
         case rel => exact ⟨(x4_1 ++ (a0.extract (x5_1 : Int).toNat ((wrap64 (x5_1 + 1)) : Int).toNat)), (wrap64 (x5_1 + 1)), ea_, ea_, H', ⟨by have := HK1.out; omega⟩, ⟨bel⟩⟩
        ·rw [if_neg c38] at H
         exact absurd H (by simp)
       ·rw [if_neg c37] at H
        exact absurd H (by simp)
      ·rw [if_neg c36] at H
       exact absurd H (by simp)
    ·rw [if_neg c3] at H
     exact absurd H (by simp)
   ·rw [if_neg c2] at H
    have c2b0 : decide (x5_1 < (a0.size : Int)) = false := decide_eq_false c2
    clear c2
    simp only [Option.some.injEq, Prod.mk.injEq] at H
    obtain ⟨rfl, rfl⟩ := H
    go_wp2
    repeat (go_quiet (fail); try go_wp2)
    go_ret2
    exact ⟨ee_, bel⟩
end Go.Proofs.YtnhgnejfagncpaaDoor.L
end
section
namespace Go.Proofs.YtnhgnejfagncpaaDoor.E
open Go.RowKit Go.Proofs.YtnhgnejfagncpaaDoorW.PrintWords Go.Proofs.YtnhgnejfagncpaaDoorW.PrintLast Go.Proofs.YtnhgnejfagncpaaDoorW.PrintMore Go.Proofs.YtnhgnejfagncpaaDoor.H Go.Proofs.YtnhgnejfagncpaaDoor.A Go.Proofs.YtnhgnejfagncpaaDoor.B
attribute [local go_sem] max2_int min2_int max_two min_two max_three min_three max_four min_four   -- for this text's walks alone
set_option linter.unusedVariables false
set_option linter.unusedSimpArgs false
def erasureref01_digit.f (l0 : List Int) (a1 : Int) : Option (Int) := if a1 < 0 then (some 0) else (if a1 ≥ (l0.length : Int) then (some 0) else (if 0 ≤ a1 then (if a1 < (l0.length : Int) then (some (rd l0 a1)) else (none)) else (none)))
set_option maxHeartbeats 8000000 in
set_option maxRecDepth 100000 in
theorem erasureref01_digit.calls (A0 : Option Addr) (c0 : Nat) (l0 : List Int) (a1 : Int) (r : Int) (w : World) (hr0 : Kd.C (Kd.int .i64) w A0 l0.length l0) (hc0 : l0.length ≤ c0) (h : erasureref01_digit.f l0 a1 = some r) :
  Calls Tryd.prog 68 #[.slice A0 l0.length c0, .int .i64 a1] w fun e w' => e = .returned (.int .i64 r) ∧ Drawn0 w w' := by
 have HR0 := Aside0.mk hr0
 have HC0 := Aside0.mk hc0
 clear hr0 hc0
 have H : (if a1 < 0 then (some 0) else (if a1 ≥ (l0.length : Int) then (some 0) else (if 0 ≤ a1 then (if a1 < (l0.length : Int) then (some (rd l0 a1)) else (none)) else (none)))) = some r := h
 clear h
 by_cases c3 : a1 < 0
 ·rw [if_pos c3] at H
  have c3b0 : decide (a1 < 0) = true := decide_eq_true c3
  clear c3
  obtain rfl := Option.some.inj H
  go_enter Tryd.func68, Tryd.ntmps68
  go_wp2
  go_ret
  exact ⟨ea_, dr_⟩
 ·rw [if_neg c3] at H
  have c3b0 : decide (a1 < 0) = false := decide_eq_false c3
  clear c3
  by_cases c4 : a1 ≥ (l0.length : Int)
  ·rw [if_pos c4] at H
   have c4b0 : decide ((l0.length : Int) ≤ a1) = true := decide_eq_true c4
   clear c4
   obtain rfl := Option.some.inj H
   go_enter Tryd.func68, Tryd.ntmps68
   go_wp2
   go_ret
   exact ⟨ea_, dr_⟩
  ·rw [if_neg c4] at H
   have c4b0 : decide ((l0.length : Int) ≤ a1) = false := decide_eq_false c4
   clear c4
   by_cases c5 : 0 ≤ a1
   ·rw [if_pos c5] at H
    have c5b0 : decide (0 ≤ a1) = true := decide_eq_true c5
    clear c5
    by_cases c6 : a1 < (l0.length : Int)
    ·rw [if_pos c6] at H
     have cq0 : decide (a1 < (l0.length : Int)) = true := decide_eq_true c6
     clear c6
     obtain rfl := Option.some.inj H
     have pq0 : 0 ≤ (a1 : Int) := of_decide_eq_true (by first | (with_reducible assumption) | assumption)
     have qq0 : a1 < (l0.length : Int) := of_decide_eq_true (by first | (with_reducible assumption) | assumption)
     obtain ⟨adq0, eq0, hxq0⟩ := Kd.at_int HR0.out a1 pq0 qq0
     cases eq0
     replace pq0 := eq_true pq0
     replace qq0 := eq_true qq0
     go_enter Tryd.func68, Tryd.ntmps68
     go_wp2
     go_ret
     exact ⟨ea_, dr_⟩
    ·rw [if_neg c6] at H
     exact absurd H (by simp)
   ·rw [if_neg c5] at H
    exact absurd H (by simp)
end Go.Proofs.YtnhgnejfagncpaaDoor.E
end
section
namespace Go.Proofs.YtnhgnejfagncpaaDoor.E
open Go.RowKit Go.Proofs.YtnhgnejfagncpaaDoorW.PrintWords Go.Proofs.YtnhgnejfagncpaaDoorW.PrintLast Go.Proofs.YtnhgnejfagncpaaDoorW.PrintMore Go.Proofs.YtnhgnejfagncpaaDoor.H Go.Proofs.YtnhgnejfagncpaaDoor.A Go.Proofs.YtnhgnejfagncpaaDoor.B
attribute [local go_sem] max2_int min2_int max_two min_two max_three min_three max_four min_four   -- for this text's walks alone
set_option linter.unusedVariables false
set_option linter.unusedSimpArgs false
mutual
def erasureref01_told.l0 : Nat → List Int → Int → Bool → List Int → Int → Option (Int × Int × Int)
 | 0, _, _, _, _, _ => none
 | k + 1, x4, x5, x103000, x103001, x103002 => if x5 > 0 then ((erasureref01_digit.f x4 0).bind fun t107 => (erasureref01_told.j1 k x4 x5 (t107 == 0) x103000 x103001 x103002)) else (erasureref01_told.j1 k x4 x5 false x103000 x103001 x103002)
def erasureref01_told.j1 : Nat → List Int → Int → Bool → Bool → List Int → Int → Option (Int × Int × Int)
 | 0, _, _, _, _, _, _ => none
 | k + 1, x4, x5, x20, x103000, x103001, x103002 => if x20 = true then (if (x4.length : Int) > 0 then (if 1 ≤ (x4.length : Int) then (erasureref01_told.l0 k (x4.drop (1 : Int).toNat) (wrap64 (x5 - 1)) x103000 x103001 x103002) else (none)) else (erasureref01_told.l0 k x4 (wrap64 (x5 - 1)) x103000 x103001 x103002)) else (erasureref01_told.l1 k x4 x5 x103000 x103001 x103002)
def erasureref01_told.j3 : Nat → List Int → Int → Bool → List Int → Int → Option (Int × Int × Int)
 | 0, _, _, _, _, _ => none
 | k + 1, x4, x5, x103000, x103001, x103002 => if (x4.length : Int) > 18 then (erasureref01_told.j4 k x4 x5 true x103000 x103001 x103002) else (erasureref01_told.j4 k x4 x5 (decide (x5 > 9)) x103000 x103001 x103002)
def erasureref01_told.j4 : Nat → List Int → Int → Bool → Bool → List Int → Int → Option (Int × Int × Int)
 | 0, _, _, _, _, _, _ => none
 | k + 1, x4, x5, x51, x103000, x103001, x103002 => if x51 = true then (some (0, 0, 5)) else (erasureref01_told.l2 k x4 x5 0 (wrap64 ((x4.length : Int) - 1)) x103000 x103001 x103002)
def erasureref01_told.l2 : Nat → List Int → Int → Int → Int → Bool → List Int → Int → Option (Int × Int × Int)
 | 0, _, _, _, _, _, _, _ => none
 | k + 1, x4, x5, x6, x7, x103000, x103001, x103002 => if x7 ≥ 0 then (if 0 ≤ x7 then (if x7 < (x4.length : Int) then (erasureref01_told.l2 k x4 x5 (wrap64 ((wrap64 (10 * x6)) + (rd x4 x7))) (wrap64 (x7 - 1)) x103000 x103001 x103002) else (none)) else (none)) else (if x103000 = true then (some (wrap64 (-x6), x5, 0)) else (some (x6, x5, 0)))
def erasureref01_told.l1 : Nat → List Int → Int → Bool → List Int → Int → Option (Int × Int × Int)
 | 0, _, _, _, _, _ => none
 | k + 1, x4, x5, x103000, x103001, x103002 => if (x4.length : Int) > 0 then (if 0 ≤ (wrap64 ((x4.length : Int) - 1)) then (if (wrap64 ((x4.length : Int) - 1)) < (x4.length : Int) then (if (rd x4 (wrap64 ((x4.length : Int) - 1))) = 0 then (if (wrap64 ((x4.length : Int) - 1)) ≤ (x4.length : Int) then (erasureref01_told.l1 k (x4.take ((wrap64 ((x4.length : Int) - 1)) : Int).toNat) x5 x103000 x103001 x103002) else (none)) else (erasureref01_told.j3 k x4 x5 x103000 x103001 x103002)) else (none)) else (none)) else (erasureref01_told.j3 k x4 x5 x103000 x103001 x103002)
end
def erasureref01_told.f (k : Nat) (a0_0 : Bool) (l0_1 : List Int) (a0_2 : Int) : Option (Int × Int × Int) := if ([] : List Int).length + l0_1.length < 17592186044416 then (erasureref01_told.l0 k (([] : List Int) ++ l0_1) a0_2 a0_0 l0_1 a0_2) else (none)
set_option maxHeartbeats 8000000 in
set_option maxRecDepth 100000 in
theorem erasureref01_told.calls (k : Nat) (a0_0 : Bool) (A0_1 : Option Addr) (c0_1 : Nat) (l0_1 : List Int) (a0_2 : Int) (r1 : Int) (r2 : Int) (r3 : Int) (w : World) (hr0_1 : Kd.C (Kd.int .i64) w A0_1 l0_1.length l0_1) (hc0_1 : l0_1.length ≤ c0_1) (h : erasureref01_told.f k a0_0 l0_1 a0_2 = some (r1, r2, r3)) :
  Calls Tryd.prog 56 #[.agg #[.bool a0_0, .slice A0_1 l0_1.length c0_1, .int .i64 a0_2]] w fun e w' => e = .returned (.tuple #[.agg #[.int .i64 r1, .int .i64 r2], .int .i64 r3]) ∧ Below w.heap.size w w' := by
 have hu93 := Tryd.underlying93
 have hu25 := Tryd.underlying25
 have HR0_1 := Aside0.mk hr0_1
 have HC0_1 := Aside0.mk hc0_1
 clear hr0_1 hc0_1
 have HB := Aside0.mk (Below.refl w.heap.size w)
 have H : (if ([] : List Int).length + l0_1.length < 17592186044416 then (erasureref01_told.l0 k (([] : List Int) ++ l0_1) a0_2 a0_0 l0_1 a0_2) else (none)) = some (r1, r2, r3) := h
 clear h
 by_cases c2 : ([] : List Int).length + l0_1.length < 17592186044416
 ·rw [if_pos c2] at H
  have LMc2 := Aside0.mk c2
  clear c2
  obtain ⟨y104, hy104⟩ : ∃ y_ : List Int, y_ = (([] : List Int) ++ l0_1) := ⟨_, rfl⟩
  replace H : (erasureref01_told.l0 k y104 a0_2 a0_0 l0_1 a0_2) = some (r1, r2, r3) := by first | (rw [hy104]; with_reducible exact H) | (have H2_ := (Option.bind_some _ _).symm.trans H; rw [hy104]; with_reducible exact H2_) | (have H2_ := (Option.bind_some _ _).symm.trans H; with_reducible exact H2_) | with_reducible exact H | (rw [hy104]; exact H) | exact H
  have Ny104 := Aside0.mk hy104
  clear hy104
  have H' := Aside0.mk H
  clear H
  go_enter Tryd.func56, Tryd.ntmps56
  go_wp2_with (first | ((with_reducible refine gate_dst (N := 1) rfl ?_); (try (refine gate_guard (by rfl) ?_; dsimp only)); refine box_event ?hg (N := 1) ?hd (cs := #[.bool a0_0, .slice A0_1 l0_1.length c0_1, .int .i64 a0_2]) (t := 93) ?hr ?_; (case hd => rfl); (case hg => rfl); (case hr => first | (go_simp; done) | (go_simp; rfl)); intro gb102 hg w3 hbox hb; have n0_ := Aside0.mk (below_step bel hb); have n1_ := Aside0.mk (hbox); have n2_ := Aside0.mk ((by rw [hg]; exact (below_size bel) : w.heap.size ≤ gb102)); have n3_ := Aside0.mk ((by rw [hg]; exact (below_size bel) : w.heap.size ≤ gb102)); clear HB; have HB := n0_; have BK102 := n1_; have GW102 := n2_; have GE102 := n3_; clear n0_ n1_ n2_ n3_; clear hb hbox hg) | ((with_reducible refine gate_dst (N := 2) rfl ?_); (try (refine gate_guard (by rfl) ?_; dsimp only)); refine box_event ?hg (N := 2) ?hd (cs := #[.int .i64 0, .int .i64 0]) (t := 25) ?hr ?_; (case hd => rfl); (case hg => rfl); (case hr => first | (go_simp; done) | (go_simp; rfl)); intro gb103 hg w4 hbox hb; have n0_ := Aside0.mk (blk_below (bkk BK102.out) hb); have n1_ := Aside0.mk (below_step bel hb); have n2_ := Aside0.mk (hbox); have n3_ := Aside0.mk ((by rw [hg]; exact (below_size bel) : w.heap.size ≤ gb103)); have n4_ := Aside0.mk ((by rw [hg]; exact (below_size bel) : w.heap.size ≤ gb103)); have n5_ := Aside0.mk ((by rw [hg]; exact Nat.ne_of_lt (blk_lt (bkk BK102.out)) : gb102 ≠ gb103)); have n6_ := Aside0.mk ((by rw [hg]; exact Nat.ne_of_gt (blk_lt (bkk BK102.out)) : gb103 ≠ gb102)); clear BK102; clear HB; have BK102 := n0_; have HB := n1_; have BK103 := n2_; have GW103 := n3_; have GE103 := n4_; have NB102_103 := n5_; have NB103_102 := n6_; clear n0_ n1_ n2_ n3_ n4_ n5_ n6_; clear hb hbox hg; have hnb5 := NB102_103.out; have hnc5 := NB103_102.out; have hcz6_0 : w4.cell? ⟨gb102, 0, none⟩ = some (.bool a0_0) := (blk_cell BK102.out 0).trans rfl; have hcz6_1 : w4.cell? ⟨gb102, 1, none⟩ = some (.slice A0_1 l0_1.length c0_1) := (blk_cell BK102.out 1).trans rfl; have hcz6_2 : w4.cell? ⟨gb102, 2, none⟩ = some (.int .i64 a0_2) := (blk_cell BK102.out 2).trans rfl; have hfz6_0 := blk_frozen BK102.out 0; have hfz6_1 := blk_frozen BK102.out 1; have hfz6_2 := blk_frozen BK102.out 2) | ((with_reducible refine gate_builtin (b := .append) (xs := #[.tmp 8, .tmp 10]) rfl ?_); (try (refine gate_guard (by rfl) ?_; dsimp only)); at_builtin; refine Kd.R_append_rows (Kd.int .i64) (w0 := w) w.heap.size rfl (.tmp 8) (.tmp 10) 90 3 (.int .i64 0) 8 rfl Tryd.underlying90 info3 rfl (by decide) (by omega) (.slice none 0 0) ([] : List Int) l0_1 _ _ _ (fun _ => True) (fun _ => False) rfl rfl ?aO ?aR (fun _ _ h => h) (fun _ h => h.elim) ?aF ?aB ?aS ?aL ?_; (case aR => repeat (first | exact (Kd.C_below HR0_1.out HB.out) | (with_reducible refine Kd.C_alloc ?_ _) | (with_reducible refine Kd.C_drewN ?_ _) | (with_reducible refine Kd.C_drew ?_))); (case aB => exact bel); (case aF => exact (fun _ _ => trivial)); (case aO => exact ((Kd.R_nil _ _ _ _ (fun _ => True)))); (case aS => exact (below_size bel)); (case aL => have := LMc2.out; omega); intro v105 w7 ho hb hg hat; rw [← Ny104.out] at ho; have n0_ := Aside0.mk (blk_grown (bkk BK102.out) hg (by simp [Value.ownBlock])); have n1_ := Aside0.mk (blk_grown (bkk BK103.out) hg (by simp [Value.ownBlock])); have n2_ := Aside0.mk (hb); have n3_ := Aside0.mk (ho); clear BK102; clear BK103; clear HB; have BK102 := n0_; have BK103 := n1_; have HB := n2_; have HO106 := n3_; clear n0_ n1_ n2_ n3_; clear ho hb hg hat; have hcz8_0 : w7.cell? ⟨gb102, 0, none⟩ = some (.bool a0_0) := (blk_cell BK102.out 0).trans rfl; have hcz8_1 : w7.cell? ⟨gb102, 1, none⟩ = some (.slice A0_1 l0_1.length c0_1) := (blk_cell BK102.out 1).trans rfl; have hcz8_2 : w7.cell? ⟨gb102, 2, none⟩ = some (.int .i64 a0_2) := (blk_cell BK102.out 2).trans rfl; have hfz8_0 := blk_frozen BK102.out 0; have hfz8_1 := blk_frozen BK102.out 1; have hfz8_2 := blk_frozen BK102.out 2))
  go_loopg [4, 5] k (fun kq v4 v5 w' => ∃ (x4_1 : List Int) (x5_1 : Int), v5 = .int .i64 x5_1 ∧ Aside0 (erasureref01_told.l0 kq x4_1 x5_1 a0_0 l0_1 a0_2 = some (r1, r2, r3)) ∧ Aside0 (kq ≤ k) ∧ Aside0 (Kd.Q (Kd.int .i64) 3 w' w.heap.size (fun _ => True) v4 x4_1) ∧ Aside0 (w'.heap[gb102]? = some (.cells #[.bool a0_0, (.slice A0_1 l0_1.length c0_1), .int .i64 a0_2] 93 (0, 0))) ∧ Aside0 (w'.heap[gb103]? = some (.cells #[.int .i64 0, .int .i64 0] 25 (0, 0))) ∧ Aside0 (Below w.heap.size w w'))
  case atStart => exact ⟨(y104), (a0_2), ea_, H', ⟨Nat.le_refl _⟩, ⟨Kd.Q_of_R (rkk HO106.out)⟩, ⟨bkk BK102.out⟩, ⟨bkk BK103.out⟩, ⟨bel⟩⟩
  case round =>
   clear H'
   try clear c2
   try clear p2
   try clear c5
   try clear hcz6_0
   try clear hcz6_1
   try clear hcz6_2
   try clear hcz8_0
   try clear hcz8_1
   try clear hcz8_2
   try clear hfz6_0
   try clear hfz6_1
   try clear hfz6_2
   try clear hfz8_0
   try clear hfz8_1
   try clear hfz8_2
   obtain ⟨x4_1, x5_1, rfl, HA, HK1, HO_4, BK102, BK103, HB⟩ := hrel
   cases gk with
   | zero => exact absurd HA.out (by simp [erasureref01_told.l0])
   | succ k1 =>
    have H := HA.out
    clear HA
    simp only [erasureref01_told.l0] at H
    have HC9 := Aside0.mk H
    clear H
    go_upto_region 4 with (fail)
    go_cut [20] (fun v20 wc => ∃ (kq : Nat) (x20_8 : Bool), v20 = .bool x20_8 ∧ Aside0 (erasureref01_told.j1 kq x4_1 x5_1 x20_8 a0_0 l0_1 a0_2 = some (r1, r2, r3)) ∧ Aside0 (kq ≤ k1) ∧ Aside0 (Kd.Q (Kd.int .i64) 3 wc w.heap.size (fun _ => True) u4 x4_1) ∧ Aside0 (wc.heap[gb102]? = some (.cells #[.bool a0_0, (.slice A0_1 l0_1.length c0_1), .int .i64 a0_2] 93 (0, 0))) ∧ Aside0 (wc.heap[gb103]? = some (.cells #[.int .i64 0, .int .i64 0] 25 (0, 0))) ∧ Aside0 (Below w.heap.size w wc))
    case first =>
     have H := HC9.out
     clear HC9
     by_cases c10 : x5_1 > 0
     ·rw [if_pos c10] at H
      have c10b0 : decide (0 < x5_1) = true := decide_eq_true c10
      clear c10
      (first | rw [c10b0] | (simp only [i64_w, i32_w]; rw [c10b0]) | skip)
      replace H := Option.bind_eq_some_iff.mp H
      obtain ⟨t107, A110, H⟩ := H
      replace H : (erasureref01_told.j1 k1 x4_1 x5_1 (t107 == 0) a0_0 l0_1 a0_2) = some (r1, r2, r3) := H
      have A11 := Aside0.mk A110
      clear A110
      have H' := Aside0.mk H
      clear H
      obtain ⟨Ao12, co12, eo12, _⟩ := Kd.Q_slice HO_4.out
      subst eo12
      go_wp2_with (first | (go_at_call 68; (with_reducible refine (erasureref01_digit.calls _ _ x4_1 0 t107 _ ?side1 ?side2 A11.out).mono ?_); (case side1 => repeat (first | exact (Kd.Q_reads' HO_4.out).2.2 | (with_reducible refine Kd.C_alloc ?_ _) | (with_reducible refine Kd.C_drewN ?_ _) | (with_reducible refine Kd.C_drew ?_))); (case side2 => exact (Kd.Q_reads' HO_4.out).2.1); rintro e w' ⟨rfl, ⟨nd, rfl⟩⟩))
      go_meet
      case rel => exact ⟨_, ((t107 == 0)), ea_, H', ⟨by have := HK1.out; first | omega | exact Nat.le_refl _⟩, ⟨by (with_reducible repeat (first | apply Kd.Q_alloc | apply Kd.Q_drewN | apply Kd.Q_drew)); exact HO_4.out⟩, ⟨bkk BK102.out⟩, ⟨bkk BK103.out⟩, ⟨bel⟩⟩
     ·rw [if_neg c10] at H
      have c10b0 : decide (0 < x5_1) = false := decide_eq_false c10
      clear c10
      (first | rw [c10b0] | (simp only [i64_w, i32_w]; rw [c10b0]) | skip)
      have H' := Aside0.mk H
      clear H
      go_wp2
      go_meet
      case rel => exact ⟨_, (false), ea_, H', ⟨by have := HK1.out; first | omega | exact Nat.le_refl _⟩, ⟨by (with_reducible repeat (first | apply Kd.Q_alloc | apply Kd.Q_drewN | apply Kd.Q_drew)); exact HO_4.out⟩, ⟨bkk BK102.out⟩, ⟨bkk BK103.out⟩, ⟨bel⟩⟩
    case rest =>
     clear HC9
     try clear c1
     try clear c2
     try clear p2
     try clear c5
     try clear c10
     try clear c10b0
     try clear hcz6_0
     try clear hcz6_1
     try clear hcz6_2
     try clear hcz8_0
     try clear hcz8_1
     try clear hcz8_2
     try clear hfz6_0
     try clear hfz6_1
     try clear hfz6_2
     try clear hfz8_0
     try clear hfz8_1
     try clear hfz8_2
     try clear p2
     obtain ⟨kq, x20_8, rfl, HA, HJ8, HO_4, BK102, BK103, HB⟩ := hcut
     cases kq with
     | zero => exact absurd HA.out (by simp [erasureref01_told.j1])
     | succ kj8 =>
      have H := HA.out
      clear HA
      simp only [erasureref01_told.j1] at H
      by_cases c13 : x20_8 = true
      ·subst c13
       have H1 : (if (x4_1.length : Int) > 0 then (if 1 ≤ (x4_1.length : Int) then (erasureref01_told.l0 kj8 (x4_1.drop (1 : Int).toNat) (wrap64 (x5_1 - 1)) a0_0 l0_1 a0_2) else (none)) else (erasureref01_told.l0 kj8 x4_1 (wrap64 (x5_1 - 1)) a0_0 l0_1 a0_2)) = some (r1, r2, r3) := by rw [if_pos rfl] at H; exact H
       clear H
       have H := H1
       clear H1
       by_cases c14 : (x4_1.length : Int) > 0
       ·rw [if_pos c14] at H
        have c14b0 : decide (0 < (x4_1.length : Int)) = true := decide_eq_true c14
        have c14b1 : decide (0 < x4_1.length) = true := decide_eq_true (by omega)
        clear c14
        by_cases c15 : 1 ≤ (x4_1.length : Int)
        ·rw [if_pos c15] at H
         have c15b0 := eq_true c15
         have c15b1 : decide (1 ≤ (x4_1.length : Int)) = true := decide_eq_true c15
         clear c15
         obtain ⟨y108, hy108⟩ : ∃ y_ : List Int, y_ = (x4_1.drop (1 : Int).toNat) := ⟨_, rfl⟩
         replace H : (erasureref01_told.l0 kj8 y108 (wrap64 (x5_1 - 1)) a0_0 l0_1 a0_2) = some (r1, r2, r3) := by first | (rw [hy108]; with_reducible exact H) | (have H2_ := (Option.bind_some _ _).symm.trans H; rw [hy108]; with_reducible exact H2_) | (have H2_ := (Option.bind_some _ _).symm.trans H; with_reducible exact H2_) | with_reducible exact H | (rw [hy108]; exact H) | exact H
         have Ny108 := Aside0.mk hy108
         clear hy108
         have H' := Aside0.mk H
         clear H
         obtain ⟨Ao16, co16, eo16, _⟩ := Kd.Q_slice HO_4.out
         subst eo16
         have q17 : (1 : Int) ≤ ((x4_1.length : Int) : Int) := of_decide_eq_true (by first | (with_reducible assumption) | assumption)
         obtain ⟨i017, hi017, _, hsz17, _⟩ := info_parts info3
         have hcut17 := cut_from (P := Tryd.prog) 90 3 .i64 Tryd.underlying90 hi017 1 hsz17 Ao16 x4_1.length co16 1 (by omega) q17
         have hr17 := Kd.Q_drop (k := (1 : Int).toNat) HO_4.out (by omega)
         obtain ⟨A17, hA17⟩ : ∃ A1, A1 = (if co16 = (1 : Int).toNat then Ao16 else (Ao16 : Option Addr).map (·.add ((1 : Int).toNat * 1))) := ⟨_, rfl⟩
         obtain ⟨c17, hc17⟩ : ∃ c1, c1 = co16 - (1 : Int).toNat := ⟨_, rfl⟩
         have hy17 : y108.length = x4_1.length - (1 : Int).toNat := (by rw [Ny108.out, List.length_drop])
         rw [← Ny108.out] at hr17
         rw [← hy17, ← hA17, ← hc17] at hcut17
         replace hr17 : Kd.Q (Kd.int .i64) 3 wc w.heap.size (fun _ => True) (.slice A17 y108.length c17) y108 := (by rw [hA17, hc17, hy17]; exact hr17)
         have HE17 : Aside0 ((Value.slice A17 y108.length c17).ownBlock = (.slice Ao16 x4_1.length co16 : Value).ownBlock) := ⟨by rw [hA17]; split <;> (cases (Ao16 : Option Addr) <;> rfl)⟩
         clear hy17 hi017 hsz17 HO_4 hA17 hc17
         have HO110 := Aside0.mk hr17
         clear hr17
         replace q17 := eq_true q17
         go_wp2
         go_roundg kj8
         case measure => have := HK1.out; have := HJ8.out; omega
         case rel => exact ⟨(y108), (wrap64 (x5_1 - 1)), ea_, H', ⟨by have := HK1.out; have := HJ8.out; omega⟩, ⟨by (with_reducible repeat (first | apply Kd.Q_alloc | apply Kd.Q_drewN | apply Kd.Q_drew)); exact HO110.out⟩, ⟨bkk BK102.out⟩, ⟨bkk BK103.out⟩, ⟨bel⟩⟩
        ·rw [if_neg c15] at H
         exact absurd H (by simp)
       ·rw [if_neg c14] at H
        have c14b0 : decide (0 < (x4_1.length : Int)) = false := decide_eq_false c14
        have c14b1 : decide (0 < x4_1.length) = false := decide_eq_false (by omega)
        clear c14
        have H' := Aside0.mk H
        clear H
        obtain ⟨Ao18, co18, eo18, _⟩ := Kd.Q_slice HO_4.out
        subst eo18
        go_wp2
        go_roundg kj8
        case measure => have := HK1.out; have := HJ8.out; omega
        case rel => exact ⟨(x4_1), (wrap64 (x5_1 - 1)), ea_, H', ⟨by have := HK1.out; have := HJ8.out; omega⟩, ⟨by (with_reducible repeat (first | apply Kd.Q_alloc | apply Kd.Q_drewN | apply Kd.Q_drew)); exact HO_4.out⟩, ⟨bkk BK102.out⟩, ⟨bkk BK103.out⟩, ⟨bel⟩⟩
      ·replace c13 := Bool.eq_false_iff.mpr c13
       subst c13
       have H1 : (erasureref01_told.l1 kj8 x4_1 x5_1 a0_0 l0_1 a0_2) = some (r1, r2, r3) := by rw [if_neg (show ¬ (false = true) by decide)] at H; exact H
       clear H
       have H := H1
       clear H1
       have HC19 := Aside0.mk H
       clear H
       go_upto_block 2 with (fail)
       go_cut [4] (fun v4 wc => ∃ (kq : Nat) (x4_18 : List Int), Aside0 (erasureref01_told.j3 kq x4_18 x5_1 a0_0 l0_1 a0_2 = some (r1, r2, r3)) ∧ Aside0 (kq ≤ kj8) ∧ Aside0 (Kd.Q (Kd.int .i64) 3 wc w.heap.size (fun _ => True) v4 x4_18) ∧ Aside0 (wc.heap[gb102]? = some (.cells #[.bool a0_0, (.slice A0_1 l0_1.length c0_1), .int .i64 a0_2] 93 (0, 0))) ∧ Aside0 (wc.heap[gb103]? = some (.cells #[.int .i64 0, .int .i64 0] 25 (0, 0))) ∧ Aside0 (Below w.heap.size w wc))
       case first =>
        have H := HC19.out
        clear HC19
        have H' := Aside0.mk H
        clear H
        go_wp2
        go_loopg [4] kj8 (fun kq v4 w' => ∃ (x4_3 : List Int), Aside0 (erasureref01_told.l1 kq x4_3 x5_1 a0_0 l0_1 a0_2 = some (r1, r2, r3)) ∧ Aside0 (kq ≤ kj8) ∧ Aside0 (Kd.Q (Kd.int .i64) 3 w' w.heap.size (fun _ => True) v4 x4_3) ∧ Aside0 (w'.heap[gb102]? = some (.cells #[.bool a0_0, (.slice A0_1 l0_1.length c0_1), .int .i64 a0_2] 93 (0, 0))) ∧ Aside0 (w'.heap[gb103]? = some (.cells #[.int .i64 0, .int .i64 0] 25 (0, 0))) ∧ Aside0 (Below w.heap.size w w'))
        case atStart => exact ⟨(x4_1), H', ⟨Nat.le_refl _⟩, ⟨by (with_reducible repeat (first | apply Kd.Q_alloc | apply Kd.Q_drewN | apply Kd.Q_drew)); exact HO_4.out⟩, ⟨bkk BK102.out⟩, ⟨bkk BK103.out⟩, ⟨bel⟩⟩
        case round =>
         clear H'
         try clear c1
         try clear q1
         try clear c2
         try clear p2
         try clear c5
         try clear p6
         try clear c10
         try clear c10b0
         try clear c13
         try clear c14
         try clear c14b0
         try clear c14b1
         try clear c15
         try clear c15b0
         try clear c15b1
         try clear c17
         try clear q17
         try clear hcz6_0
         try clear hcz6_1
         try clear hcz6_2
         try clear hcz8_0
         try clear hcz8_1
         try clear hcz8_2
         try clear hfz6_0
         try clear hfz6_1
         try clear hfz6_2
         try clear hfz8_0
         try clear hfz8_1
         try clear hfz8_2
         try clear p2
         try clear q17
         obtain ⟨x4_3, HA, HK3, HO_4, BK102, BK103, HB⟩ := hrel
         cases gk with
         | zero => exact absurd HA.out (by simp [erasureref01_told.l1])
         | succ k3 =>
          have H := HA.out
          clear HA
          simp only [erasureref01_told.l1] at H
          by_cases c20 : (x4_3.length : Int) > 0
          ·rw [if_pos c20] at H
           have c20b0 : decide (0 < (x4_3.length : Int)) = true := decide_eq_true c20
           have c20b1 : decide (0 < x4_3.length) = true := decide_eq_true (by omega)
           clear c20
           (first | rw [c20b0] | (simp only [i64_w, i32_w]; rw [c20b0]) | skip)
           obtain ⟨ji21, hji21⟩ : ∃ j_ : Int, (wrap64 ((x4_3.length : Int) - 1)) = j_ := ⟨_, rfl⟩
           replace H : (if 0 ≤ (ji21) then (if (ji21) < (x4_3.length : Int) then (if (rd x4_3 (ji21)) = 0 then (if (ji21) ≤ (x4_3.length : Int) then (erasureref01_told.l1 k3 (x4_3.take ((ji21) : Int).toNat) x5_1 a0_0 l0_1 a0_2) else (none)) else (erasureref01_told.j3 k3 x4_3 x5_1 a0_0 l0_1 a0_2)) else (none)) else (none)) = some (r1, r2, r3) := by first | (rw [hji21] at H; exact H) | (simp only [hji21] at H ⊢; exact H)
           have hji21w : (IntKind.i64.wrap ((x4_3.length : Int) - 1)) = ji21 := (i64_w _).trans hji21
           by_cases c22 : 0 ≤ (ji21)
           ·rw [if_pos c22] at H
            have c22b0 : decide (0 ≤ (ji21)) = true := decide_eq_true c22
            clear c22
            by_cases c23 : (ji21) < (x4_3.length : Int)
            ·rw [if_pos c23] at H
             have c23b0 : decide ((ji21) < (x4_3.length : Int)) = true := decide_eq_true c23
             clear c23
             by_cases c24 : (rd x4_3 (ji21)) = 0
             ·rw [if_pos c24] at H
              have c24b0 : ((rd x4_3 (ji21)) == 0) = true := beq_iff_eq.mpr c24
              have c24b1 : ((rd x4_3 (ji21)) != 0) = false := bne_eq_false_iff_eq.mpr c24
              clear c24
              by_cases c25 : (ji21) ≤ (x4_3.length : Int)
              ·rw [if_pos c25] at H
               have c25b0 := eq_true c25
               have c25b1 : decide ((ji21) ≤ (x4_3.length : Int)) = true := decide_eq_true c25
               clear c25
               obtain ⟨y112, hy112⟩ : ∃ y_ : List Int, y_ = (x4_3.take ((ji21) : Int).toNat) := ⟨_, rfl⟩
               replace H : (erasureref01_told.l1 k3 y112 x5_1 a0_0 l0_1 a0_2) = some (r1, r2, r3) := by first | (rw [hy112]; with_reducible exact H) | (have H2_ := (Option.bind_some _ _).symm.trans H; rw [hy112]; with_reducible exact H2_) | (have H2_ := (Option.bind_some _ _).symm.trans H; with_reducible exact H2_) | with_reducible exact H | (rw [hy112]; exact H) | exact H
               have Ny112 := Aside0.mk hy112
               clear hy112
               have H' := Aside0.mk H
               clear H
               obtain ⟨Ao26, co26, eo26, _⟩ := Kd.Q_slice HO_4.out
               subst eo26
               have p111 : 0 ≤ ((ji21) : Int) := of_decide_eq_true (by first | (with_reducible assumption) | assumption)
               have q111 : (ji21) < (x4_3.length : Int) := of_decide_eq_true (by first | (with_reducible assumption) | assumption)
               obtain ⟨ad111, e111, hx111_0⟩ := Kd.at_int (Kd.Q_reads' HO_4.out).2.2 (ji21) p111 q111
               cases e111
               replace p111 := eq_true p111
               replace q111 := eq_true q111
               have q27 : ((ji21) : Int) ≤ ((x4_3.length : Int) : Int) := of_decide_eq_true (by first | (with_reducible assumption) | assumption)
               obtain ⟨i027, hi027, _, hsz27, _⟩ := info_parts info3
               have hcut27 := cut_to (P := Tryd.prog) 90 3 .i64 Tryd.underlying90 hi027 (some ad111) x4_3.length co26 (ji21) (of_decide_eq_true (by first | (with_reducible assumption) | assumption)) q27 (Kd.Q_reads' HO_4.out).2.1
               have hr27 := Kd.Q_take (m := ((ji21) : Int).toNat) HO_4.out (by omega)
               have hy27 : y112.length = ((ji21) : Int).toNat := (by rw [Ny112.out, List.length_take]; omega)
               rw [← Ny112.out] at hr27
               rw [← hy27] at hr27 hcut27
               clear hy27 hi027 hsz27 HO_4
               have HO114 := Aside0.mk hr27
               clear hr27
               replace q27 := eq_true q27
               go_wp2
               go_roundg k3
               case measure => have := HK1.out; have := HJ8.out; have := HK3.out; omega
               case rel => exact ⟨(y112), H', ⟨by have := HK1.out; have := HJ8.out; have := HK3.out; omega⟩, ⟨by (with_reducible repeat (first | apply Kd.Q_alloc | apply Kd.Q_drewN | apply Kd.Q_drew)); exact HO114.out⟩, ⟨bkk BK102.out⟩, ⟨bkk BK103.out⟩, ⟨bel⟩⟩
              ·rw [if_neg c25] at H
               exact absurd H (by simp)
             ·rw [if_neg c24] at H
              have c24b0 : ((rd x4_3 (ji21)) == 0) = false := beq_eq_false_iff_ne.mpr c24
              have c24b1 : ((rd x4_3 (ji21)) != 0) = true := bne_iff_ne.mpr c24
              have H' := Aside0.mk H
              clear H
              obtain ⟨Ao28, co28, eo28, _⟩ := Kd.Q_slice HO_4.out
              subst eo28
              have p111 : 0 ≤ ((ji21) : Int) := of_decide_eq_true (by first | (with_reducible assumption) | assumption)
              have q111 : (ji21) < (x4_3.length : Int) := of_decide_eq_true (by first | (with_reducible assumption) | assumption)
              obtain ⟨ad111, e111, hx111_0⟩ := Kd.at_int (Kd.Q_reads' HO_4.out).2.2 (ji21) p111 q111
              cases e111
              replace p111 := eq_true p111
              replace q111 := eq_true q111
              go_wp2
              go_meet
              case rel => exact ⟨_, (x4_3), H', ⟨by have := HK1.out; have := HJ8.out; have := HK3.out; first | omega | exact Nat.le_refl _⟩, ⟨by (with_reducible repeat (first | apply Kd.Q_alloc | apply Kd.Q_drewN | apply Kd.Q_drew)); exact HO_4.out⟩, ⟨bkk BK102.out⟩, ⟨bkk BK103.out⟩, ⟨bel⟩⟩
            ·rw [if_neg c23] at H
             exact absurd H (by simp)
           ·rw [if_neg c22] at H
            exact absurd H (by simp)
          ·rw [if_neg c20] at H
           have c20b0 : decide (0 < (x4_3.length : Int)) = false := decide_eq_false c20
           have c20b1 : decide (0 < x4_3.length) = false := decide_eq_false (by omega)
           clear c20
           (first | rw [c20b0] | (simp only [i64_w, i32_w]; rw [c20b0]) | skip)
           have H' := Aside0.mk H
           clear H
           obtain ⟨Ao29, co29, eo29, _⟩ := Kd.Q_slice HO_4.out
           subst eo29
           go_wp2
           go_meet
           case rel => exact ⟨_, (x4_3), H', ⟨by have := HK1.out; have := HJ8.out; have := HK3.out; first | omega | exact Nat.le_refl _⟩, ⟨by (with_reducible repeat (first | apply Kd.Q_alloc | apply Kd.Q_drewN | apply Kd.Q_drew)); exact HO_4.out⟩, ⟨bkk BK102.out⟩, ⟨bkk BK103.out⟩, ⟨bel⟩⟩
       case rest =>
        clear HC19
        try clear c1
        try clear p1
        try clear q1
        try clear hx1
        try clear c2
        try clear p2
        try clear q2
        try clear c5
        try clear p6
        try clear c10
        try clear c10b0
        try clear p11
        try clear q11
        try clear hx11
        try clear c13
        try clear c14
        try clear c14b0
        try clear c14b1
        try clear c15
        try clear c15b0
        try clear c15b1
        try clear c17
        try clear q17
        try clear c20
        try clear c20b0
        try clear c20b1
        try clear c22
        try clear c22b0
        try clear c23
        try clear c23b0
        try clear c24
        try clear c24b0
        try clear c24b1
        try clear c25
        try clear c25b0
        try clear c25b1
        try clear q27
        try clear hcz6_0
        try clear hcz6_1
        try clear hcz6_2
        try clear hcz8_0
        try clear hcz8_1
        try clear hcz8_2
        try clear hfz6_0
        try clear hfz6_1
        try clear hfz6_2
        try clear hfz8_0
        try clear hfz8_1
        try clear hfz8_2
        try clear hx111_0
        try clear p111
        try clear p2
        try clear p6
        try clear q1
        try clear q111
        try clear q17
        try clear q27
        obtain ⟨kq, x4_18, HA, HJ18, HO_4, BK102, BK103, HB⟩ := hcut
        cases kq with
        | zero => exact absurd HA.out (by simp [erasureref01_told.j3])
        | succ kj18 =>
         have H := HA.out
         clear HA
         simp only [erasureref01_told.j3] at H
         have HC30 := Aside0.mk H
         clear H
         go_upto_region 10 with (fail)
         go_cut [51] (fun v51 wc => ∃ (kq : Nat) (x51_29 : Bool), v51 = .bool x51_29 ∧ Aside0 (erasureref01_told.j4 kq x4_18 x5_1 x51_29 a0_0 l0_1 a0_2 = some (r1, r2, r3)) ∧ Aside0 (kq ≤ kj18) ∧ Aside0 (Kd.Q (Kd.int .i64) 3 wc w.heap.size (fun _ => True) u4 x4_18) ∧ Aside0 (wc.heap[gb102]? = some (.cells #[.bool a0_0, (.slice A0_1 l0_1.length c0_1), .int .i64 a0_2] 93 (0, 0))) ∧ Aside0 (wc.heap[gb103]? = some (.cells #[.int .i64 0, .int .i64 0] 25 (0, 0))) ∧ Aside0 (Below w.heap.size w wc))
         case first =>
          have H := HC30.out
          clear HC30
          by_cases c31 : (x4_18.length : Int) > 18
          ·rw [if_pos c31] at H
           have c31b0 : decide (18 < (x4_18.length : Int)) = true := decide_eq_true c31
           have c31b1 : decide (18 < x4_18.length) = true := decide_eq_true (by omega)
           clear c31
           (first | rw [c31b0] | (simp only [i64_w, i32_w]; rw [c31b0]) | skip)
           have H' := Aside0.mk H
           clear H
           obtain ⟨Ao32, co32, eo32, _⟩ := Kd.Q_slice HO_4.out
           subst eo32
           go_wp2
           go_meet
           case rel => exact ⟨_, (true), ea_, H', ⟨by have := HK1.out; have := HJ8.out; have := HJ18.out; first | omega | exact Nat.le_refl _⟩, ⟨by (with_reducible repeat (first | apply Kd.Q_alloc | apply Kd.Q_drewN | apply Kd.Q_drew)); exact HO_4.out⟩, ⟨bkk BK102.out⟩, ⟨bkk BK103.out⟩, ⟨bel⟩⟩
          ·rw [if_neg c31] at H
           have c31b0 : decide (18 < (x4_18.length : Int)) = false := decide_eq_false c31
           have c31b1 : decide (18 < x4_18.length) = false := decide_eq_false (by omega)
           clear c31
           (first | rw [c31b0] | (simp only [i64_w, i32_w]; rw [c31b0]) | skip)
           have H' := Aside0.mk H
           clear H
           obtain ⟨Ao33, co33, eo33, _⟩ := Kd.Q_slice HO_4.out
           subst eo33
           go_wp2
           go_meet
           case rel => exact ⟨_, (decide (x5_1 > 9)), ea_, H', ⟨by have := HK1.out; have := HJ8.out; have := HJ18.out; first | omega | exact Nat.le_refl _⟩, ⟨by (with_reducible repeat (first | apply Kd.Q_alloc | apply Kd.Q_drewN | apply Kd.Q_drew)); exact HO_4.out⟩, ⟨bkk BK102.out⟩, ⟨bkk BK103.out⟩, ⟨bel⟩⟩
         case rest =>
          clear HC30
          try clear c1
          try clear p1
          try clear q1
          try clear hx1
          try clear c2
          try clear p2
          try clear q2
          try clear c3
          try clear c5
          try clear p6
          try clear c10
          try clear c10b0
          try clear p11
          try clear q11
          try clear hx11
          try clear c13
          try clear c14
          try clear c14b0
          try clear c14b1
          try clear c15
          try clear c15b0
          try clear c15b1
          try clear c17
          try clear q17
          try clear c20
          try clear c20b0
          try clear c20b1
          try clear c22
          try clear c22b0
          try clear c23
          try clear c23b0
          try clear c24
          try clear c24b0
          try clear c24b1
          try clear c25
          try clear c25b0
          try clear c25b1
          try clear q27
          try clear c31
          try clear c31b0
          try clear c31b1
          try clear hcz6_0
          try clear hcz6_1
          try clear hcz6_2
          try clear hcz8_0
          try clear hcz8_1
          try clear hcz8_2
          try clear hfz6_0
          try clear hfz6_1
          try clear hfz6_2
          try clear hfz8_0
          try clear hfz8_1
          try clear hfz8_2
          try clear hx111_0
          try clear p1
          try clear p11
          try clear p111
          try clear p2
          try clear p6
          try clear q1
          try clear q11
          try clear q111
          try clear q17
          try clear q2
          try clear q27
          obtain ⟨kq, x51_29, rfl, HA, HJ29, HO_4, BK102, BK103, HB⟩ := hcut
          cases kq with
          | zero => exact absurd HA.out (by simp [erasureref01_told.j4])
          | succ kj29 =>
           have H := HA.out
           clear HA
           simp only [erasureref01_told.j4] at H
           by_cases c34 : x51_29 = true
           ·subst c34
            have H1 : (some (0, 0, 5)) = some (r1, r2, r3) := by rw [if_pos rfl] at H; exact H
            clear H
            have H := H1
            clear H1
            simp only [Option.some.injEq, Prod.mk.injEq] at H
            obtain ⟨rfl, rfl, rfl⟩ := H
            have hnbq0 := NB103_102.out
            have hncq0 := NB102_103.out
            have hcz36_0 : wc.cell? ⟨gb103, 0, none⟩ = some (.int .i64 0) := (blk_cell BK103.out 0).trans rfl
            have hcz36_1 : wc.cell? ⟨gb103, 1, none⟩ = some (.int .i64 0) := (blk_cell BK103.out 1).trans rfl
            have hfz36_0 := blk_frozen BK103.out 0
            have hfz36_1 := blk_frozen BK103.out 1
            go_wp2
            refine bodyPost_ret (results_ct rfl _ _ gb103 25 #[.int .i64 0, .int .i64 0] (0, 0) _ rfl (by (with_reducible repeat (first | refine blk_drewN ?_ _ | refine blk_drew ?_ | refine blk_alloc ?_ _)); refine blk_put (cs := #[.int .i64 0, .int .i64 0]) ?_ 1 _ rfl; (with_reducible repeat (first | refine blk_drewN ?_ _ | refine blk_drew ?_ | refine blk_alloc ?_ _)); refine blk_put (cs := #[.int .i64 0, .int .i64 0]) ?_ 0 _ rfl; (with_reducible repeat (first | refine blk_drewN ?_ _ | refine blk_drew ?_ | refine blk_alloc ?_ _)); exact BK103.out) Tryd.underlying25 rfl (by kernel_rfl)) rfl ?_
            exact ⟨ee_, bel⟩
           ·replace c34 := Bool.eq_false_iff.mpr c34
            subst c34
            have H1 : (erasureref01_told.l2 kj29 x4_18 x5_1 0 (wrap64 ((x4_18.length : Int) - 1)) a0_0 l0_1 a0_2) = some (r1, r2, r3) := by rw [if_neg (show ¬ (false = true) by decide)] at H; exact H
            clear H
            have H := H1
            clear H1
            have H' := Aside0.mk H
            clear H
            obtain ⟨Ao37, co37, eo37, _⟩ := Kd.Q_slice HO_4.out
            subst eo37
            go_wp2
            go_loopg [6, 7] kj29 (fun kq v6 v7 w' => ∃ (x6_5 : Int) (x7_5 : Int), v6 = .int .i64 x6_5 ∧ v7 = .int .i64 x7_5 ∧ Aside0 (erasureref01_told.l2 kq x4_18 x5_1 x6_5 x7_5 a0_0 l0_1 a0_2 = some (r1, r2, r3)) ∧ Aside0 (kq ≤ kj29) ∧ Aside0 (Kd.Q (Kd.int .i64) 3 w' w.heap.size (fun _ => True) (.slice Ao37 x4_18.length co37) x4_18) ∧ Aside0 (w'.heap[gb102]? = some (.cells #[.bool a0_0, (.slice A0_1 l0_1.length c0_1), .int .i64 a0_2] 93 (0, 0))) ∧ Aside0 (w'.heap[gb103]? = some (.cells #[.int .i64 0, .int .i64 0] 25 (0, 0))) ∧ Aside0 (Below w.heap.size w w'))
            case atStart => exact ⟨(0), (wrap64 ((x4_18.length : Int) - 1)), ea_, ea_, H', ⟨Nat.le_refl _⟩, ⟨by (with_reducible repeat (first | apply Kd.Q_alloc | apply Kd.Q_drewN | apply Kd.Q_drew)); exact HO_4.out⟩, ⟨bkk BK102.out⟩, ⟨bkk BK103.out⟩, ⟨bel⟩⟩
            case round =>
             clear H'
             try clear c1
             try clear p1
             try clear q1
             try clear hx1
             try clear c2
             try clear p2
             try clear q2
             try clear c3
             try clear c5
             try clear p6
             try clear c10
             try clear c10b0
             try clear p11
             try clear q11
             try clear hx11
             try clear c13
             try clear c14
             try clear c14b0
             try clear c14b1
             try clear c15
             try clear c15b0
             try clear c15b1
             try clear c17
             try clear q17
             try clear c20
             try clear c20b0
             try clear c20b1
             try clear c22
             try clear c22b0
             try clear c23
             try clear c23b0
             try clear c24
             try clear c24b0
             try clear c24b1
             try clear c25
             try clear c25b0
             try clear c25b1
             try clear q27
             try clear c31
             try clear c31b0
             try clear c31b1
             try clear c34
             try clear c35
             try clear hcz36_0
             try clear hcz36_1
             try clear hcz6_0
             try clear hcz6_1
             try clear hcz6_2
             try clear hcz8_0
             try clear hcz8_1
             try clear hcz8_2
             try clear hfz36_0
             try clear hfz36_1
             try clear hfz6_0
             try clear hfz6_1
             try clear hfz6_2
             try clear hfz8_0
             try clear hfz8_1
             try clear hfz8_2
             try clear hx111_0
             try clear p1
             try clear p11
             try clear p111
             try clear p2
             try clear p6
             try clear q1
             try clear q11
             try clear q111
             try clear q17
             try clear q2
             try clear q27
             obtain ⟨x6_5, x7_5, rfl, rfl, HA, HK5, HO_4, BK102, BK103, HB⟩ := hrel
             cases gk with
             | zero => exact absurd HA.out (by simp [erasureref01_told.l2])
             | succ k5 =>
              have H := HA.out
              clear HA
              simp only [erasureref01_told.l2] at H
              by_cases c38 : x7_5 ≥ 0
              ·rw [if_pos c38] at H
               have c38b0 : decide (0 ≤ x7_5) = true := decide_eq_true c38
               clear c38
               by_cases c39 : 0 ≤ x7_5
               ·rw [if_pos c39] at H
                have c39b0 : decide (0 ≤ x7_5) = true := decide_eq_true c39
                clear c39
                by_cases c40 : x7_5 < (x4_18.length : Int)
                ·rw [if_pos c40] at H
                 have c40b0 : decide (x7_5 < (x4_18.length : Int)) = true := decide_eq_true c40
                 clear c40
                 have H' := Aside0.mk H
                 clear H
                 have p115 : 0 ≤ (x7_5 : Int) := of_decide_eq_true (by first | (with_reducible assumption) | assumption)
                 have q115 : x7_5 < (x4_18.length : Int) := of_decide_eq_true (by first | (with_reducible assumption) | assumption)
                 obtain ⟨ad115, e115, hx115_0⟩ := Kd.at_int (Kd.Q_reads' HO_4.out).2.2 x7_5 p115 q115
                 cases e115
                 replace p115 := eq_true p115
                 replace q115 := eq_true q115
                 go_wp2
                 go_roundg k5
                 case measure => have := HK1.out; have := HJ8.out; have := HJ18.out; have := HJ29.out; have := HK5.out; omega
                 case rel => exact ⟨(wrap64 ((wrap64 (10 * x6_5)) + (rd x4_18 x7_5))), (wrap64 (x7_5 - 1)), ea_, ea_, H', ⟨by have := HK1.out; have := HJ8.out; have := HJ18.out; have := HJ29.out; have := HK5.out; omega⟩, ⟨by (with_reducible repeat (first | apply Kd.Q_alloc | apply Kd.Q_drewN | apply Kd.Q_drew)); exact HO_4.out⟩, ⟨bkk BK102.out⟩, ⟨bkk BK103.out⟩, ⟨bel⟩⟩
                ·rw [if_neg c40] at H
                 exact absurd H (by simp)
               ·rw [if_neg c39] at H
                exact absurd H (by simp)
              ·rw [if_neg c38] at H
               have c38b0 : decide (0 ≤ x7_5) = false := decide_eq_false c38
               clear c38
               by_cases c41 : a0_0 = true
               ·subst c41
                have H1 : (some (wrap64 (-x6_5), x5_1, 0)) = some (r1, r2, r3) := by rw [if_pos rfl] at H; exact H
                clear H
                have H := H1
                clear H1
                simp only [Option.some.injEq, Prod.mk.injEq] at H
                obtain ⟨rfl, rfl, rfl⟩ := H
                have hnbq0 := NB102_103.out
                have hncq0 := NB103_102.out
                have hczq0 : wr.cell? ⟨gb102, 0, none⟩ = some (.bool true) := (blk_cell BK102.out 0).trans rfl
                have hczq1 : wr.cell? ⟨gb102, 1, none⟩ = some (.slice A0_1 l0_1.length c0_1) := (blk_cell BK102.out 1).trans rfl
                have hczq2 : wr.cell? ⟨gb102, 2, none⟩ = some (.int .i64 a0_2) := (blk_cell BK102.out 2).trans rfl
                have hfzq0 := blk_frozen BK102.out 0
                have hfzq1 := blk_frozen BK102.out 1
                have hfzq2 := blk_frozen BK102.out 2
                have hczq3 : wr.cell? ⟨gb103, 0, none⟩ = some (.int .i64 0) := (blk_cell BK103.out 0).trans rfl
                have hczq4 : wr.cell? ⟨gb103, 1, none⟩ = some (.int .i64 0) := (blk_cell BK103.out 1).trans rfl
                have hfzq3 := blk_frozen BK103.out 0
                have hfzq4 := blk_frozen BK103.out 1
                go_wp2
                refine bodyPost_ret (results_ct rfl _ _ gb103 25 #[.int .i64 (wrap64 (-x6_5)), .int .i64 x5_1] (0, 0) _ rfl (by (with_reducible repeat (first | refine blk_drewN ?_ _ | refine blk_drew ?_ | refine blk_alloc ?_ _)); refine blk_put (cs := #[.int .i64 (wrap64 (-x6_5)), .int .i64 0]) ?_ 1 _ rfl; (with_reducible repeat (first | refine blk_drewN ?_ _ | refine blk_drew ?_ | refine blk_alloc ?_ _)); refine blk_put (cs := #[.int .i64 0, .int .i64 0]) ?_ 0 _ rfl; (with_reducible repeat (first | refine blk_drewN ?_ _ | refine blk_drew ?_ | refine blk_alloc ?_ _)); exact BK103.out) Tryd.underlying25 rfl (by kernel_rfl)) rfl ?_
                exact ⟨ee_, bel⟩
               ·replace c41 := Bool.eq_false_iff.mpr c41
                subst c41
                have H1 : (some (x6_5, x5_1, 0)) = some (r1, r2, r3) := by rw [if_neg (show ¬ (false = true) by decide)] at H; exact H
                clear H
                have H := H1
                clear H1
                simp only [Option.some.injEq, Prod.mk.injEq] at H
                obtain ⟨rfl, rfl, rfl⟩ := H
                have hnbq0 := NB102_103.out
                have hncq0 := NB103_102.out
                have hczq0 : wr.cell? ⟨gb102, 0, none⟩ = some (.bool false) := (blk_cell BK102.out 0).trans rfl
                have hczq1 : wr.cell? ⟨gb102, 1, none⟩ = some (.slice A0_1 l0_1.length c0_1) := (blk_cell BK102.out 1).trans rfl
                have hczq2 : wr.cell? ⟨gb102, 2, none⟩ = some (.int .i64 a0_2) := (blk_cell BK102.out 2).trans rfl
                have hfzq0 := blk_frozen BK102.out 0
                have hfzq1 := blk_frozen BK102.out 1
                have hfzq2 := blk_frozen BK102.out 2
                have hczq3 : wr.cell? ⟨gb103, 0, none⟩ = some (.int .i64 0) := (blk_cell BK103.out 0).trans rfl
                have hczq4 : wr.cell? ⟨gb103, 1, none⟩ = some (.int .i64 0) := (blk_cell BK103.out 1).trans rfl
                have hfzq3 := blk_frozen BK103.out 0
                have hfzq4 := blk_frozen BK103.out 1
                go_wp2
                refine bodyPost_ret (results_ct rfl _ _ gb103 25 #[.int .i64 x6_5, .int .i64 x5_1] (0, 0) _ rfl (by (with_reducible repeat (first | refine blk_drewN ?_ _ | refine blk_drew ?_ | refine blk_alloc ?_ _)); refine blk_put (cs := #[.int .i64 x6_5, .int .i64 0]) ?_ 1 _ rfl; (with_reducible repeat (first | refine blk_drewN ?_ _ | refine blk_drew ?_ | refine blk_alloc ?_ _)); refine blk_put (cs := #[.int .i64 0, .int .i64 0]) ?_ 0 _ rfl; (with_reducible repeat (first | refine blk_drewN ?_ _ | refine blk_drew ?_ | refine blk_alloc ?_ _)); exact BK103.out) Tryd.underlying25 rfl (by kernel_rfl)) rfl ?_
                exact ⟨ee_, bel⟩
 ·rw [if_neg c2] at H
  exact absurd H (by simp)
end Go.Proofs.YtnhgnejfagncpaaDoor.E
end
