/- Put together: L5, L6 (each in a section of its own). -/
import Derived.Test.YtnhgnejfagncpaaDoorLot2
import Derived.Test.YtnhgnejfagncpaaDoorLot8
section
namespace Go.Proofs.YtnhgnejfagncpaaDoor.L
open Go.RowKit Go.Proofs.YtnhgnejfagncpaaDoorW.PrintWords Go.Proofs.YtnhgnejfagncpaaDoorW.PrintLast Go.Proofs.YtnhgnejfagncpaaDoorW.PrintMore Go.Proofs.YtnhgnejfagncpaaDoor.H Go.Proofs.YtnhgnejfagncpaaDoor.A Go.Proofs.YtnhgnejfagncpaaDoor.B Go.Proofs.YtnhgnejfagncpaaDoor.E
attribute [local go_sem] max2_int min2_int max_two min_two max_three min_three max_four min_four   -- for this text's walks alone
set_option linter.unusedVariables false
set_option linter.unusedSimpArgs false
mutual
def erasureref14_escape.l0 : Nat → List Int → Int → Int → ByteArray → ByteArray → Int → Option (ByteArray × Int)
 | 0, _, _, _, _, _, _ => none
 | k + 1, x0, x1, x6, x7, x8, x9 => if x9 < 5 then (if 0 ≤ x9 then (if x9 < (x7.size : Int) then (if x6 = (bt x7 x9) then (if x9 ≤ (wrap64 (x9 + 1)) then (if (wrap64 (x9 + 1)) ≤ (x8.size : Int) then (some (x8.extract (x9 : Int).toNat ((wrap64 (x9 + 1)) : Int).toNat, wrap64 (x1 + 1))) else (none)) else (none)) else (erasureref14_escape.l0 k x0 x1 x6 x7 x8 (wrap64 (x9 + 1)))) else (none)) else (none)) else (if x6 = 13 then (if (wrap64 (x1 + 1)) < (x0.length : Int) then (if 0 ≤ (wrap64 (x1 + 1)) then (erasureref14_escape.j1 k x0 x1 x6 ((rd x0 (wrap64 (x1 + 1))) == 10)) else (none)) else (erasureref14_escape.j1 k x0 x1 x6 false)) else (erasureref14_escape.j1 k x0 x1 x6 false))
def erasureref14_escape.j1 : Nat → List Int → Int → Int → Bool → Option (ByteArray × Int)
 | 0, _, _, _, _ => none
 | k + 1, x0, x1, x6, x48 => if x48 = true then (some ((⟨#[]⟩ : ByteArray), wrap64 (x1 + 2))) else (if x6 = 13 then (erasureref14_escape.j2 k x0 x1 x6 true) else (erasureref14_escape.j2 k x0 x1 x6 (x6 == 10)))
def erasureref14_escape.j2 : Nat → List Int → Int → Int → Bool → Option (ByteArray × Int)
 | 0, _, _, _, _ => none
 | k + 1, x0, x1, x6, x56 => if x56 = true then (some ((⟨#[]⟩ : ByteArray), wrap64 (x1 + 1))) else (if x6 < 48 then (erasureref14_escape.j3 k x0 x1 x6 true) else (erasureref14_escape.j3 k x0 x1 x6 (decide (x6 > 55))))
def erasureref14_escape.j3 : Nat → List Int → Int → Int → Bool → Option (ByteArray × Int)
 | 0, _, _, _, _ => none
 | k + 1, x0, x1, x6, x64 => if x64 = true then (some (strOfNums (([x6] : List Int)), wrap64 (x1 + 1))) else (erasureref14_escape.l1 k x0 x1 0 0)
def erasureref14_escape.l1 : Nat → List Int → Int → Int → Int → Option (ByteArray × Int)
 | 0, _, _, _, _ => none
 | k + 1, x0, x1, x10, x11 => if x11 < 3 then (if (wrap64 (x1 + x11)) < (x0.length : Int) then (if 0 ≤ (wrap64 (x1 + x11)) then (if (rd x0 (wrap64 (x1 + x11))) ≥ 48 then (if (rd x0 (wrap64 (x1 + x11))) ≤ 55 then (erasureref14_escape.l1 k x0 x1 (wrap64 ((wrap64 (8 * x10)) + (((rd x0 (wrap64 (x1 + x11))) - 48) % 256))) (wrap64 (x11 + 1))) else (some (strOfNums (([(Int.tmod x10 256) % 256] : List Int)), wrap64 (x1 + x11)))) else (some (strOfNums (([(Int.tmod x10 256) % 256] : List Int)), wrap64 (x1 + x11)))) else (none)) else (some (strOfNums (([(Int.tmod x10 256) % 256] : List Int)), wrap64 (x1 + x11)))) else (some (strOfNums (([(Int.tmod x10 256) % 256] : List Int)), wrap64 (x1 + x11)))
end
def erasureref14_escape.f (k : Nat) (l0 : List Int) (a1 : Int) : Option (ByteArray × Int) := if 0 ≤ a1 then (if a1 < (l0.length : Int) then (erasureref14_escape.l0 k l0 a1 (rd l0 a1) (⟨#[110, 114, 116, 98, 102]⟩ : ByteArray) (⟨#[10, 13, 9, 8, 12]⟩ : ByteArray) 0) else (none)) else (none)
theorem lf_L5_1 {p_ : Prop} (h_ : p_ := by
  go_wp2_with (first | ((with_reducible refine gate_dst (N := 114) rfl ?_); (try (refine gate_guard (by rfl) ?_; dsimp only)); refine Kd.R_lit (Kd.int .u8) _ 5 ?hg (N := 114) ?hd (xs := ([(Int.tmod x10_5 256) % 256] : List Int)) (inner := [.int .u8 ((Int.tmod x10_5 256) % 256)]) (ok := fun _ => True) (okp := fun _ => True) ?hr ?hp (fun _ hk => hk) trivial (Below.refl _ _) (Nat.le_refl _) (by simp) ?_; (case hd => rfl); (case hg => rfl); (case hr => first | (go_simp; done) | (go_simp; rfl)); (case hp => exact (Reps.one (show Kd.M (Kd.int .u8) _ _ _ ((Int.tmod x10_5 256) % 256) [.int .u8 ((Int.tmod x10_5 256) % 256)] from rfl) (Reps.none _ _))); intro vq0 wq0 hoq0 hb hg_ hnew_; clear hg_ hnew_; (first | rw [← Nyq0.out] at hoq0 | (simp only [Int.reduceToNat] at hoq0; rw [← Nyq0.out] at hoq0)); have n0_ := Aside0.mk (Kd.R_lower hoq0 (below_size bel)); have n1_ := Aside0.mk (below_step bel hb); clear HB; have HOq0 := n0_; have HB := n1_; clear n0_ n1_; clear hb hoq0; have hcvq0 := own_string (P := Tryd.prog) Tryd.underlying22 Tryd.underlying5 Tryd.underlying9 (Kd.own_of_R HOq0.out)))
  go_ret2
  first
    | (exact ⟨by first | rfl | (simp [errW_none, errW_some] <;> rfl) | (simp only [← hji30]; first | rfl | (simp [errW_none, errW_some] <;> rfl)) | (simp [*, errW_none, errW_some] <;> rfl), bel⟩)
    | (exact ⟨ee_, bel⟩)) : p_ := h_
set_option maxHeartbeats 8000000 in
set_option maxRecDepth 100000 in
theorem erasureref14_escape.calls (k : Nat) (A0 : Option Addr) (c0 : Nat) (l0 : List Int) (a1 : Int) (r1 : ByteArray) (r2 : Int) (w : World) (hr0 : Kd.C (Kd.int .u8) w A0 l0.length l0) (hc0 : l0.length ≤ c0) (h : erasureref14_escape.f k l0 a1 = some (r1, r2)) :
  Calls Tryd.prog 55 #[.slice A0 l0.length c0, .int .i64 a1] w fun e w' => e = .returned (.tuple #[.string r1, .int .i64 r2]) ∧ Below w.heap.size w w' := by
 have HR0 := Aside0.mk hr0
 have HC0 := Aside0.mk hc0
 clear hr0 hc0
 have HB := Aside0.mk (Below.refl w.heap.size w)
 have H : (if 0 ≤ a1 then (if a1 < (l0.length : Int) then (erasureref14_escape.l0 k l0 a1 (rd l0 a1) (⟨#[110, 114, 116, 98, 102]⟩ : ByteArray) (⟨#[10, 13, 9, 8, 12]⟩ : ByteArray) 0) else (none)) else (none)) = some (r1, r2) := h
 clear h
 by_cases c3 : 0 ≤ a1
 ·rw [if_pos c3] at H
  have c3b0 : decide (0 ≤ a1) = true := decide_eq_true c3
  clear c3
  by_cases c4 : a1 < (l0.length : Int)
  ·rw [if_pos c4] at H
   have c4b0 : decide (a1 < (l0.length : Int)) = true := decide_eq_true c4
   clear c4
   have H' := Aside0.mk H
   clear H
   have p139 : 0 ≤ (a1 : Int) := of_decide_eq_true (by first | (with_reducible assumption) | assumption)
   have q139 : a1 < (l0.length : Int) := of_decide_eq_true (by first | (with_reducible assumption) | assumption)
   obtain ⟨ad139, e139, hx139_0⟩ := Kd.at_int HR0.out a1 p139 q139
   cases e139
   replace p139 := eq_true p139
   replace q139 := eq_true q139
   go_enter Tryd.func55, Tryd.ntmps55
   go_wp2
   go_loopg [9] k (fun kq v9 w' => ∃ (x9_1 : Int), v9 = .int .i64 x9_1 ∧ Aside0 (erasureref14_escape.l0 kq l0 a1 (rd l0 a1) (⟨#[110, 114, 116, 98, 102]⟩ : ByteArray) (⟨#[10, 13, 9, 8, 12]⟩ : ByteArray) x9_1 = some (r1, r2)) ∧ Aside0 (kq ≤ k) ∧ Aside0 (Below w.heap.size w w'))
   case atStart => exact ⟨(0), ea_, H', ⟨Nat.le_refl _⟩, ⟨bel⟩⟩
   case round =>
    clear H'
    try clear p1
    try clear q1
    try clear hx1
    try clear p2
    try clear c3
    try clear c3b0
    try clear c4
    try clear c4b0
    try clear hx139_0
    try clear p139
    try clear q139
    obtain ⟨x9_1, rfl, HA, HK1, HB⟩ := hrel
    cases gk with
    | zero => exact absurd HA.out (by simp [erasureref14_escape.l0])
    | succ k1 =>
     have H := HA.out
     clear HA
     simp only [erasureref14_escape.l0] at H
     by_cases c5 : x9_1 < 5
     ·rw [if_pos c5] at H
      have c5b0 : decide (x9_1 < 5) = true := decide_eq_true c5
      clear c5
      by_cases c6 : 0 ≤ x9_1
      ·rw [if_pos c6] at H
       have c6b0 : decide (0 ≤ x9_1) = true := decide_eq_true c6
       clear c6
       by_cases c7 : x9_1 < ((⟨#[110, 114, 116, 98, 102]⟩ : ByteArray).size : Int)
       ·rw [if_pos c7] at H
        have c7b0 : decide (x9_1 < ((⟨#[110, 114, 116, 98, 102]⟩ : ByteArray).size : Int)) = true := decide_eq_true c7
        clear c7
        by_cases c9 : (rd l0 a1) = (bt (⟨#[110, 114, 116, 98, 102]⟩ : ByteArray) x9_1)
        ·rw [if_pos c9] at H
         have c9b0 : ((rd l0 a1) == (bt (⟨#[110, 114, 116, 98, 102]⟩ : ByteArray) x9_1)) = true := beq_iff_eq.mpr c9
         have c9b1 : ((rd l0 a1) != (bt (⟨#[110, 114, 116, 98, 102]⟩ : ByteArray) x9_1)) = false := bne_eq_false_iff_eq.mpr c9
         clear c9
         have c10b0 := eq_true (of_decide_eq_true (by first | (with_reducible assumption) | assumption) : 0 ≤ x9_1)
         by_cases c11 : x9_1 ≤ (wrap64 (x9_1 + 1))
         ·rw [if_pos c11] at H
          have c11b0 := eq_true c11
          have c11b1 : decide (x9_1 ≤ (wrap64 (x9_1 + 1))) = true := decide_eq_true c11
          by_cases c12 : (wrap64 (x9_1 + 1)) ≤ ((⟨#[10, 13, 9, 8, 12]⟩ : ByteArray).size : Int)
          ·rw [if_pos c12] at H
           have c12b0 := eq_true c12
           have c12b1 : decide ((wrap64 (x9_1 + 1)) ≤ ((⟨#[10, 13, 9, 8, 12]⟩ : ByteArray).size : Int)) = true := decide_eq_true c12
           simp only [Option.some.injEq, Prod.mk.injEq] at H
           obtain ⟨rfl, rfl⟩ := H
           have p8 : 0 ≤ (x9_1 : Int) := of_decide_eq_true (by first | (with_reducible assumption) | assumption)
           have q8 : x9_1 < (5 : Int) := of_decide_eq_true (by first | (with_reducible assumption) | assumption)
           have hx8 := bt_at (⟨#[110, 114, 116, 98, 102]⟩ : ByteArray) x9_1
           have eq0 : wrap64 (x9_1 + 1) = x9_1 + 1 := by unfold wrap64; omega
           have f8 : (x9_1 + 1 ≤ 5) = True := eq_true (by omega)
           have g8 : (x9_1 ≤ x9_1 + 1) = True := eq_true (by omega)
           have h8 : decide (x9_1 + 1 ≤ 5) = true := decide_eq_true (by omega)
           replace p8 := eq_true p8
           replace q8 := eq_true q8
           go_wp2
           go_ret2
           exact ⟨ee_, bel⟩
          ·rw [if_neg c12] at H
           exact absurd H (by simp)
         ·rw [if_neg c11] at H
          exact absurd H (by simp)
        ·rw [if_neg c9] at H
         have c9b0 : ((rd l0 a1) == (bt (⟨#[110, 114, 116, 98, 102]⟩ : ByteArray) x9_1)) = false := beq_eq_false_iff_ne.mpr c9
         have c9b1 : ((rd l0 a1) != (bt (⟨#[110, 114, 116, 98, 102]⟩ : ByteArray) x9_1)) = true := bne_iff_ne.mpr c9
         have H' := Aside0.mk H
         clear H
         have p8 : 0 ≤ (x9_1 : Int) := of_decide_eq_true (by first | (with_reducible assumption) | assumption)
         have q8 : x9_1 < (5 : Int) := of_decide_eq_true (by first | (with_reducible assumption) | assumption)
         have hx8 := bt_at (⟨#[110, 114, 116, 98, 102]⟩ : ByteArray) x9_1
         replace p8 := eq_true p8
         replace q8 := eq_true q8
         go_wp2
         go_roundg k1
         case measure => have := HK1.out; omega
         case rel => exact ⟨(wrap64 (x9_1 + 1)), ea_, H', ⟨by have := HK1.out; omega⟩, ⟨bel⟩⟩
       ·rw [if_neg c7] at H
        exact absurd H (by simp)
      ·rw [if_neg c6] at H
       exact absurd H (by simp)
     ·rw [if_neg c5] at H
      have c5b0 : decide (x9_1 < 5) = false := decide_eq_false c5
      clear c5
      have HC13 := Aside0.mk H
      clear H
      go_upto_region 9 with (fail)
      go_cut [48] (fun v48 wc => ∃ (kq : Nat) (x48_12 : Bool), v48 = .bool x48_12 ∧ Aside0 (erasureref14_escape.j1 kq l0 a1 (rd l0 a1) x48_12 = some (r1, r2)) ∧ Aside0 (kq ≤ k1) ∧ Aside0 (Below w.heap.size w wc))
      case first =>
       have H := HC13.out
       clear HC13
       by_cases c14 : (rd l0 a1) = 13
       ·rw [if_pos c14] at H
        have c14b0 : ((rd l0 a1) == 13) = true := beq_iff_eq.mpr c14
        have c14b1 : ((rd l0 a1) != 13) = false := bne_eq_false_iff_eq.mpr c14
        clear c14
        (first | rw [c14b0] | (simp only [i64_w, i32_w]; rw [c14b0]) | skip)
        by_cases c15 : (wrap64 (a1 + 1)) < (l0.length : Int)
        ·rw [if_pos c15] at H
         have c15b0 : decide ((wrap64 (a1 + 1)) < (l0.length : Int)) = true := decide_eq_true c15
         clear c15
         obtain ⟨ji16, hji16⟩ : ∃ j_ : Int, (wrap64 (a1 + 1)) = j_ := ⟨_, rfl⟩
         replace H : (if 0 ≤ (ji16) then (erasureref14_escape.j1 k1 l0 a1 (rd l0 a1) ((rd l0 (ji16)) == 10)) else (none)) = some (r1, r2) := by first | (rw [hji16] at H; exact H) | (simp only [hji16] at H ⊢; exact H)
         (try rw [hji16] at c15b0)
         have hji16w : (IntKind.i64.wrap (a1 + 1)) = ji16 := (i64_w _).trans hji16
         by_cases c17 : 0 ≤ (ji16)
         ·rw [if_pos c17] at H
          have c17b0 : decide (0 ≤ (ji16)) = true := decide_eq_true c17
          clear c17
          have H' := Aside0.mk H
          clear H
          have p140 : 0 ≤ ((ji16) : Int) := of_decide_eq_true (by first | (with_reducible assumption) | assumption)
          have q140 : (ji16) < (l0.length : Int) := of_decide_eq_true (by first | (with_reducible assumption) | assumption)
          obtain ⟨ad140, e140, hx140_0⟩ := Kd.at_int HR0.out (ji16) p140 q140
          obtain rfl : ad139 = ad140 := (by injection e140)
          replace hx140_0 := (HB.out.cell (World.block_lt_of_cell? w _ hx140_0)).trans hx140_0
          replace p140 := eq_true p140
          replace q140 := eq_true q140
          go_wp2
          go_meet
          case rel => exact ⟨_, (((rd l0 (ji16)) == 10)), (by first | rfl | (simp; done) | (simp only [← hji16] <;> (first | rfl | simp)) | (simp [*]; done)), H', ⟨by have := HK1.out; first | omega | exact Nat.le_refl _⟩, ⟨bel⟩⟩
         ·rw [if_neg c17] at H
          exact absurd H (by simp)
        ·rw [if_neg c15] at H
         have c15b0 : decide ((wrap64 (a1 + 1)) < (l0.length : Int)) = false := decide_eq_false c15
         clear c15
         have H' := Aside0.mk H
         clear H
         go_wp2
         go_meet
         case rel => exact ⟨_, (false), ea_, H', ⟨by have := HK1.out; first | omega | exact Nat.le_refl _⟩, ⟨bel⟩⟩
       ·rw [if_neg c14] at H
        have c14b0 : ((rd l0 a1) == 13) = false := beq_eq_false_iff_ne.mpr c14
        have c14b1 : ((rd l0 a1) != 13) = true := bne_iff_ne.mpr c14
        (first | rw [c14b0] | (simp only [i64_w, i32_w]; rw [c14b0]) | skip)
        have H' := Aside0.mk H
        clear H
        go_wp2
        go_meet
        case rel => exact ⟨_, (false), ea_, H', ⟨by have := HK1.out; first | omega | exact Nat.le_refl _⟩, ⟨bel⟩⟩
      case rest =>
       clear HC13
       try clear c1
       try clear p1
       try clear q1
       try clear hx1
       try clear p2
       try clear c3
       try clear c3b0
       try clear c4
       try clear c4b0
       try clear c5
       try clear c5b0
       try clear c6
       try clear c6b0
       try clear p6
       try clear c7
       try clear c7b0
       try clear p8
       try clear q8
       try clear hx8
       try clear c9
       try clear c9b0
       try clear c9b1
       try clear c10
       try clear c10b0
       try clear c11
       try clear c11b0
       try clear c11b1
       try clear c12
       try clear c12b0
       try clear c12b1
       try clear p13
       try clear q13
       try clear hx13
       try clear c14
       try clear c14b0
       try clear c14b1
       try clear p14
       try clear q14
       try clear hx14
       try clear c15
       try clear c15b0
       try clear c17
       try clear c17b0
       try clear hx139_0
       try clear hx140_0
       try clear p1
       try clear p139
       try clear p140
       try clear p2
       try clear p8
       try clear q1
       try clear q139
       try clear q140
       try clear q8
       obtain ⟨kq, x48_12, rfl, HA, HJ12, HB⟩ := hcut
       cases kq with
       | zero => exact absurd HA.out (by simp [erasureref14_escape.j1])
       | succ kj12 =>
        have H := HA.out
        clear HA
        simp only [erasureref14_escape.j1] at H
        by_cases c18 : x48_12 = true
        ·subst c18
         have H1 : (some ((⟨#[]⟩ : ByteArray), wrap64 (a1 + 2))) = some (r1, r2) := by rw [if_pos rfl] at H; exact H
         clear H
         have H := H1
         clear H1
         simp only [Option.some.injEq, Prod.mk.injEq] at H
         obtain ⟨rfl, rfl⟩ := H
         go_wp2
         go_ret2
         exact ⟨ee_, bel⟩
        ·replace c18 := Bool.eq_false_iff.mpr c18
         subst c18
         have H1 : (if (rd l0 a1) = 13 then (erasureref14_escape.j2 kj12 l0 a1 (rd l0 a1) true) else (erasureref14_escape.j2 kj12 l0 a1 (rd l0 a1) ((rd l0 a1) == 10))) = some (r1, r2) := by rw [if_neg (show ¬ (false = true) by decide)] at H; exact H
         clear H
         have H := H1
         clear H1
         have HC19 := Aside0.mk H
         clear H
         go_upto_region 11 with (fail)
         go_cut [56] (fun v56 wc => ∃ (kq : Nat) (x56_18 : Bool), v56 = .bool x56_18 ∧ Aside0 (erasureref14_escape.j2 kq l0 a1 (rd l0 a1) x56_18 = some (r1, r2)) ∧ Aside0 (kq ≤ kj12) ∧ Aside0 (Below w.heap.size w wc))
         case first =>
          have H := HC19.out
          clear HC19
          by_cases c20 : (rd l0 a1) = 13
          ·rw [if_pos c20] at H
           have c20b0 : ((rd l0 a1) == 13) = true := beq_iff_eq.mpr c20
           have c20b1 : ((rd l0 a1) != 13) = false := bne_eq_false_iff_eq.mpr c20
           clear c20
           (first | rw [c20b0] | (simp only [i64_w, i32_w]; rw [c20b0]) | skip)
           have H' := Aside0.mk H
           clear H
           go_wp2
           go_meet
           case rel => exact ⟨_, (true), ea_, H', ⟨by have := HK1.out; have := HJ12.out; first | omega | exact Nat.le_refl _⟩, ⟨bel⟩⟩
          ·rw [if_neg c20] at H
           have c20b0 : ((rd l0 a1) == 13) = false := beq_eq_false_iff_ne.mpr c20
           have c20b1 : ((rd l0 a1) != 13) = true := bne_iff_ne.mpr c20
           (first | rw [c20b0] | (simp only [i64_w, i32_w]; rw [c20b0]) | skip)
           have H' := Aside0.mk H
           clear H
           go_wp2
           go_meet
           case rel => exact ⟨_, (((rd l0 a1) == 10)), ea_, H', ⟨by have := HK1.out; have := HJ12.out; first | omega | exact Nat.le_refl _⟩, ⟨bel⟩⟩
         case rest =>
          clear HC19
          try clear c1
          try clear p1
          try clear q1
          try clear hx1
          try clear c2
          try clear p2
          try clear c3
          try clear c3b0
          try clear c4
          try clear c4b0
          try clear c5
          try clear c5b0
          try clear c6
          try clear c6b0
          try clear p6
          try clear c7
          try clear c7b0
          try clear p8
          try clear q8
          try clear hx8
          try clear c9
          try clear c9b0
          try clear c9b1
          try clear c10
          try clear c10b0
          try clear c11
          try clear c11b0
          try clear c11b1
          try clear c12
          try clear c12b0
          try clear c12b1
          try clear p13
          try clear q13
          try clear hx13
          try clear c14
          try clear c14b0
          try clear c14b1
          try clear p14
          try clear q14
          try clear hx14
          try clear c15
          try clear c15b0
          try clear c17
          try clear c17b0
          try clear c18
          try clear c20
          try clear c20b0
          try clear c20b1
          try clear hx139_0
          try clear hx140_0
          try clear p1
          try clear p13
          try clear p139
          try clear p14
          try clear p140
          try clear p2
          try clear p6
          try clear p8
          try clear q1
          try clear q13
          try clear q139
          try clear q14
          try clear q140
          try clear q8
          obtain ⟨kq, x56_18, rfl, HA, HJ18, HB⟩ := hcut
          cases kq with
          | zero => exact absurd HA.out (by simp [erasureref14_escape.j2])
          | succ kj18 =>
           have H := HA.out
           clear HA
           simp only [erasureref14_escape.j2] at H
           by_cases c21 : x56_18 = true
           ·subst c21
            have H1 : (some ((⟨#[]⟩ : ByteArray), wrap64 (a1 + 1))) = some (r1, r2) := by rw [if_pos rfl] at H; exact H
            clear H
            have H := H1
            clear H1
            simp only [Option.some.injEq, Prod.mk.injEq] at H
            obtain ⟨rfl, rfl⟩ := H
            go_wp2
            go_ret2
            exact ⟨ee_, bel⟩
           ·replace c21 := Bool.eq_false_iff.mpr c21
            subst c21
            have H1 : (if (rd l0 a1) < 48 then (erasureref14_escape.j3 kj18 l0 a1 (rd l0 a1) true) else (erasureref14_escape.j3 kj18 l0 a1 (rd l0 a1) (decide ((rd l0 a1) > 55)))) = some (r1, r2) := by rw [if_neg (show ¬ (false = true) by decide)] at H; exact H
            clear H
            have H := H1
            clear H1
            have HC22 := Aside0.mk H
            clear H
            go_upto_region 13 with (fail)
            go_cut [64] (fun v64 wc => ∃ (kq : Nat) (x64_21 : Bool), v64 = .bool x64_21 ∧ Aside0 (erasureref14_escape.j3 kq l0 a1 (rd l0 a1) x64_21 = some (r1, r2)) ∧ Aside0 (kq ≤ kj18) ∧ Aside0 (Below w.heap.size w wc))
            case first =>
             have H := HC22.out
             clear HC22
             by_cases c23 : (rd l0 a1) < 48
             ·rw [if_pos c23] at H
              have c23b0 : decide ((rd l0 a1) < 48) = true := decide_eq_true c23
              clear c23
              (first | rw [c23b0] | (simp only [i64_w, i32_w]; rw [c23b0]) | skip)
              have H' := Aside0.mk H
              clear H
              go_wp2
              go_meet
              case rel => exact ⟨_, (true), ea_, H', ⟨by have := HK1.out; have := HJ12.out; have := HJ18.out; first | omega | exact Nat.le_refl _⟩, ⟨bel⟩⟩
             ·rw [if_neg c23] at H
              have c23b0 : decide ((rd l0 a1) < 48) = false := decide_eq_false c23
              clear c23
              (first | rw [c23b0] | (simp only [i64_w, i32_w]; rw [c23b0]) | skip)
              have H' := Aside0.mk H
              clear H
              go_wp2
              go_meet
              case rel => exact ⟨_, (decide ((rd l0 a1) > 55)), ea_, H', ⟨by have := HK1.out; have := HJ12.out; have := HJ18.out; first | omega | exact Nat.le_refl _⟩, ⟨bel⟩⟩
            case rest =>
             clear HC22
             try clear c1
             try clear p1
             try clear q1
             try clear hx1
             try clear c2
             try clear p2
             try clear c3
             try clear c3b0
             try clear c4
             try clear c4b0
             try clear c5
             try clear c5b0
             try clear c6
             try clear c6b0
             try clear p6
             try clear c7
             try clear c7b0
             try clear p8
             try clear q8
             try clear hx8
             try clear c9
             try clear c9b0
             try clear c9b1
             try clear c10
             try clear c10b0
             try clear c11
             try clear c11b0
             try clear c11b1
             try clear c12
             try clear c12b0
             try clear c12b1
             try clear p13
             try clear q13
             try clear hx13
             try clear c14
             try clear c14b0
             try clear c14b1
             try clear p14
             try clear q14
             try clear hx14
             try clear c15
             try clear c15b0
             try clear c17
             try clear c17b0
             try clear c18
             try clear c20
             try clear c20b0
             try clear c20b1
             try clear c21
             try clear c23
             try clear c23b0
             try clear hx139_0
             try clear hx140_0
             try clear p1
             try clear p13
             try clear p139
             try clear p14
             try clear p140
             try clear p2
             try clear p6
             try clear p8
             try clear q1
             try clear q13
             try clear q139
             try clear q14
             try clear q140
             try clear q8
             obtain ⟨kq, x64_21, rfl, HA, HJ21, HB⟩ := hcut
             cases kq with
             | zero => exact absurd HA.out (by simp [erasureref14_escape.j3])
             | succ kj21 =>
              have H := HA.out
              clear HA
              simp only [erasureref14_escape.j3] at H
              by_cases c24 : x64_21 = true
              ·subst c24
               have H1 : (some (strOfNums (([(rd l0 a1)] : List Int)), wrap64 (a1 + 1))) = some (r1, r2) := by rw [if_pos rfl] at H; exact H
               clear H
               have H := H1
               clear H1
               obtain ⟨yq0, hy141⟩ : ∃ y_ : List Int, y_ = (([(rd l0 a1)] : List Int)) := ⟨_, rfl⟩
               replace H : (some (strOfNums yq0, wrap64 (a1 + 1))) = some (r1, r2) := by first | (rw [hy141]; with_reducible exact H) | (have H2_ := (Option.bind_some _ _).symm.trans H; rw [hy141]; with_reducible exact H2_) | (have H2_ := (Option.bind_some _ _).symm.trans H; with_reducible exact H2_) | with_reducible exact H | (rw [hy141]; exact H) | exact H
               have Nyq0 := Aside0.mk hy141
               clear hy141
               simp only [Option.some.injEq, Prod.mk.injEq] at H
               obtain ⟨rfl, rfl⟩ := H
               go_wp2_with (first | ((with_reducible refine gate_dst (N := 66) rfl ?_); (try (refine gate_guard (by rfl) ?_; dsimp only)); refine Kd.R_lit (Kd.int .u8) _ 5 ?hg (N := 66) ?hd (xs := ([(rd l0 a1)] : List Int)) (inner := [.int .u8 (rd l0 a1)]) (ok := fun _ => True) (okp := fun _ => True) ?hr ?hp (fun _ hk => hk) trivial (Below.refl _ _) (Nat.le_refl _) (by simp) ?_; (case hd => rfl); (case hg => rfl); (case hr => first | (go_simp; done) | (go_simp; rfl)); (case hp => exact (Reps.one (show Kd.M (Kd.int .u8) _ _ _ (rd l0 a1) [.int .u8 (rd l0 a1)] from rfl) (Reps.none _ _))); intro vq0 wq0 hoq0 hb hg_ hnew_; clear hg_ hnew_; (first | rw [← Nyq0.out] at hoq0 | (simp only [Int.reduceToNat] at hoq0; rw [← Nyq0.out] at hoq0)); have n0_ := Aside0.mk (Kd.R_lower hoq0 (below_size bel)); have n1_ := Aside0.mk (below_step bel hb); clear HB; have HOq0 := n0_; have HB := n1_; clear n0_ n1_; clear hb hoq0; have hcv27 := own_string (P := Tryd.prog) Tryd.underlying22 Tryd.underlying5 Tryd.underlying9 (Kd.own_of_R HOq0.out)))
               go_ret2
               exact ⟨ee_, bel⟩
              ·replace c24 := Bool.eq_false_iff.mpr c24
               subst c24
               have H1 : (erasureref14_escape.l1 kj21 l0 a1 0 0) = some (r1, r2) := by rw [if_neg (show ¬ (false = true) by decide)] at H; exact H
               clear H
               have H := H1
               clear H1
               have H' := Aside0.mk H
               clear H
               go_wp2
               go_loopg [10, 11] kj21 (fun kq v10 v11 w' => ∃ (x10_5 : Int) (x11_5 : Int), v10 = .int .i64 x10_5 ∧ v11 = .int .i64 x11_5 ∧ Aside0 (erasureref14_escape.l1 kq l0 a1 x10_5 x11_5 = some (r1, r2)) ∧ Aside0 (kq ≤ kj21) ∧ Aside0 (Below w.heap.size w w'))
               case atStart => exact ⟨(0), (0), ea_, ea_, H', ⟨Nat.le_refl _⟩, ⟨bel⟩⟩
               case round =>
                clear H'
                try clear c1
                try clear p1
                try clear q1
                try clear hx1
                try clear c2
                try clear p2
                try clear hcv2
                try clear c3
                try clear c3b0
                try clear c4
                try clear c4b0
                try clear c5
                try clear c5b0
                try clear c6
                try clear c6b0
                try clear p6
                try clear c7
                try clear c7b0
                try clear p8
                try clear q8
                try clear hx8
                try clear c9
                try clear c9b0
                try clear c9b1
                try clear c10
                try clear c10b0
                try clear c11
                try clear c11b0
                try clear c11b1
                try clear c12
                try clear c12b0
                try clear c12b1
                try clear p13
                try clear q13
                try clear hx13
                try clear c14
                try clear c14b0
                try clear c14b1
                try clear p14
                try clear q14
                try clear hx14
                try clear c15
                try clear c15b0
                try clear c17
                try clear c17b0
                try clear c18
                try clear c20
                try clear c20b0
                try clear c20b1
                try clear c21
                try clear c23
                try clear c23b0
                try clear c24
                try clear hcv27
                try clear hx139_0
                try clear hx140_0
                try clear p1
                try clear p13
                try clear p139
                try clear p14
                try clear p140
                try clear p2
                try clear p6
                try clear p8
                try clear q1
                try clear q13
                try clear q139
                try clear q14
                try clear q140
                try clear q8
                obtain ⟨x10_5, x11_5, rfl, rfl, HA, HK5, HB⟩ := hrel
                cases gk with
                | zero => exact absurd HA.out (by simp [erasureref14_escape.l1])
                | succ k5 =>
                 have H := HA.out
                 clear HA
                 simp only [erasureref14_escape.l1] at H
                 by_cases c28 : x11_5 < 3
                 ·rw [if_pos c28] at H
                  have c28b0 : decide (x11_5 < 3) = true := decide_eq_true c28
                  clear c28
                  by_cases c29 : (wrap64 (a1 + x11_5)) < (l0.length : Int)
                  ·rw [if_pos c29] at H
                   have c29b0 : decide ((wrap64 (a1 + x11_5)) < (l0.length : Int)) = true := decide_eq_true c29
                   clear c29
                   obtain ⟨ji30, hji30⟩ : ∃ j_ : Int, (wrap64 (a1 + x11_5)) = j_ := ⟨_, rfl⟩
                   replace H : (if 0 ≤ (ji30) then (if (rd l0 (ji30)) ≥ 48 then (if (rd l0 (ji30)) ≤ 55 then (erasureref14_escape.l1 k5 l0 a1 (wrap64 ((wrap64 (8 * x10_5)) + (((rd l0 (ji30)) - 48) % 256))) (wrap64 (x11_5 + 1))) else (some (strOfNums (([(Int.tmod x10_5 256) % 256] : List Int)), ji30))) else (some (strOfNums (([(Int.tmod x10_5 256) % 256] : List Int)), ji30))) else (none)) = some (r1, r2) := by first | (rw [hji30] at H; exact H) | (simp only [hji30] at H ⊢; exact H)
                   (try rw [hji30] at c29b0)
                   have hji30w : (IntKind.i64.wrap (a1 + x11_5)) = ji30 := (i64_w _).trans hji30
                   by_cases c31 : 0 ≤ (ji30)
                   ·rw [if_pos c31] at H
                    have c31b0 : decide (0 ≤ (ji30)) = true := decide_eq_true c31
                    clear c31
                    by_cases c32 : (rd l0 (ji30)) ≥ 48
                    ·rw [if_pos c32] at H
                     have c32b0 : decide (48 ≤ (rd l0 (ji30))) = true := decide_eq_true c32
                     clear c32
                     by_cases c33 : (rd l0 (ji30)) ≤ 55
                     ·rw [if_pos c33] at H
                      have c33b0 : decide ((rd l0 (ji30)) ≤ 55) = true := decide_eq_true c33
                      clear c33
                      have H' := Aside0.mk H
                      clear H
                      have p144 : 0 ≤ ((ji30) : Int) := of_decide_eq_true (by first | (with_reducible assumption) | assumption)
                      have q144 : (ji30) < (l0.length : Int) := of_decide_eq_true (by first | (with_reducible assumption) | assumption)
                      obtain ⟨ad144, e144, hx144_0⟩ := Kd.at_int HR0.out (ji30) p144 q144
                      obtain rfl : ad139 = ad144 := (by injection e144)
                      replace hx144_0 := (HB.out.cell (World.block_lt_of_cell? w _ hx144_0)).trans hx144_0
                      replace p144 := eq_true p144
                      replace q144 := eq_true q144
                      have p145 : 0 ≤ ((ji30) : Int) := of_decide_eq_true (by first | (with_reducible assumption) | assumption)
                      have q145 : (ji30) < (l0.length : Int) := of_decide_eq_true (by first | (with_reducible assumption) | assumption)
                      obtain ⟨ad145, e145, hx145_0⟩ := Kd.at_int HR0.out (ji30) p145 q145
                      obtain rfl : ad139 = ad145 := (by injection e145)
                      replace hx145_0 := (HB.out.cell (World.block_lt_of_cell? w _ hx145_0)).trans hx145_0
                      replace p145 := eq_true p145
                      replace q145 := eq_true q145
                      have p146 : 0 ≤ ((ji30) : Int) := of_decide_eq_true (by first | (with_reducible assumption) | assumption)
                      have q146 : (ji30) < (l0.length : Int) := of_decide_eq_true (by first | (with_reducible assumption) | assumption)
                      obtain ⟨ad146, e146, hx146_0⟩ := Kd.at_int HR0.out (ji30) p146 q146
                      obtain rfl : ad139 = ad146 := (by injection e146)
                      replace hx146_0 := (HB.out.cell (World.block_lt_of_cell? w _ hx146_0)).trans hx146_0
                      replace p146 := eq_true p146
                      replace q146 := eq_true q146
                      go_wp2
                      go_roundg k5
                      case measure => have := HK1.out; have := HJ12.out; have := HJ18.out; have := HJ21.out; have := HK5.out; omega
                      case rel => exact ⟨(wrap64 ((wrap64 (8 * x10_5)) + (((rd l0 (ji30)) - 48) % 256))), (wrap64 (x11_5 + 1)), (by first | rfl | (simp; done) | (simp only [← hji30] <;> (first | rfl | simp)) | (simp [*]; done)), ea_, H', ⟨by have := HK1.out; have := HJ12.out; have := HJ18.out; have := HJ21.out; have := HK5.out; omega⟩, ⟨bel⟩⟩
                     ·rw [if_neg c33] at H
                      have c33b0 : decide ((rd l0 (ji30)) ≤ 55) = false := decide_eq_false c33
                      clear c33
                      obtain ⟨yq0, hy147⟩ : ∃ y_ : List Int, y_ = (([(Int.tmod x10_5 256) % 256] : List Int)) := ⟨_, rfl⟩
                      replace H : (some (strOfNums yq0, ji30)) = some (r1, r2) := by first | (rw [hy147]; with_reducible exact H) | (have H2_ := (Option.bind_some _ _).symm.trans H; rw [hy147]; with_reducible exact H2_) | (have H2_ := (Option.bind_some _ _).symm.trans H; with_reducible exact H2_) | with_reducible exact H | (rw [hy147]; exact H) | exact H
                      have Nyq0 := Aside0.mk hy147
                      clear hy147
                      simp only [Option.some.injEq, Prod.mk.injEq] at H
                      obtain ⟨rfl, rfl⟩ := H
                      have p144 : 0 ≤ ((ji30) : Int) := of_decide_eq_true (by first | (with_reducible assumption) | assumption)
                      have q144 : (ji30) < (l0.length : Int) := of_decide_eq_true (by first | (with_reducible assumption) | assumption)
                      obtain ⟨ad144, e144, hx144_0⟩ := Kd.at_int HR0.out (ji30) p144 q144
                      obtain rfl : ad139 = ad144 := (by injection e144)
                      replace hx144_0 := (HB.out.cell (World.block_lt_of_cell? w _ hx144_0)).trans hx144_0
                      replace p144 := eq_true p144
                      replace q144 := eq_true q144
                      have p145 : 0 ≤ ((ji30) : Int) := of_decide_eq_true (by first | (with_reducible assumption) | assumption)
                      have q145 : (ji30) < (l0.length : Int) := of_decide_eq_true (by first | (with_reducible assumption) | assumption)
                      obtain ⟨ad145, e145, hx145_0⟩ := Kd.at_int HR0.out (ji30) p145 q145
                      obtain rfl : ad139 = ad145 := (by injection e145)
                      replace hx145_0 := (HB.out.cell (World.block_lt_of_cell? w _ hx145_0)).trans hx145_0
                      replace p145 := eq_true p145
                      replace q145 := eq_true q145
                      exact lf_L5_1
                    ·rw [if_neg c32] at H
                     have c32b0 : decide (48 ≤ (rd l0 (ji30))) = false := decide_eq_false c32
                     clear c32
                     obtain ⟨yq0, hy150⟩ : ∃ y_ : List Int, y_ = (([(Int.tmod x10_5 256) % 256] : List Int)) := ⟨_, rfl⟩
                     replace H : (some (strOfNums yq0, ji30)) = some (r1, r2) := by first | (rw [hy150]; with_reducible exact H) | (have H2_ := (Option.bind_some _ _).symm.trans H; rw [hy150]; with_reducible exact H2_) | (have H2_ := (Option.bind_some _ _).symm.trans H; with_reducible exact H2_) | with_reducible exact H | (rw [hy150]; exact H) | exact H
                     have Nyq0 := Aside0.mk hy150
                     clear hy150
                     simp only [Option.some.injEq, Prod.mk.injEq] at H
                     obtain ⟨rfl, rfl⟩ := H
                     have p144 : 0 ≤ ((ji30) : Int) := of_decide_eq_true (by first | (with_reducible assumption) | assumption)
                     have q144 : (ji30) < (l0.length : Int) := of_decide_eq_true (by first | (with_reducible assumption) | assumption)
                     obtain ⟨ad144, e144, hx144_0⟩ := Kd.at_int HR0.out (ji30) p144 q144
                     obtain rfl : ad139 = ad144 := (by injection e144)
                     replace hx144_0 := (HB.out.cell (World.block_lt_of_cell? w _ hx144_0)).trans hx144_0
                     replace p144 := eq_true p144
                     replace q144 := eq_true q144
                     exact lf_L5_1
                   ·rw [if_neg c31] at H
                    exact absurd H (by simp)
                  ·rw [if_neg c29] at H
                   have c29b0 : decide ((wrap64 (a1 + x11_5)) < (l0.length : Int)) = false := decide_eq_false c29
                   clear c29
                   obtain ⟨yq0, hy153⟩ : ∃ y_ : List Int, y_ = (([(Int.tmod x10_5 256) % 256] : List Int)) := ⟨_, rfl⟩
                   replace H : (some (strOfNums yq0, wrap64 (a1 + x11_5))) = some (r1, r2) := by first | (rw [hy153]; with_reducible exact H) | (have H2_ := (Option.bind_some _ _).symm.trans H; rw [hy153]; with_reducible exact H2_) | (have H2_ := (Option.bind_some _ _).symm.trans H; with_reducible exact H2_) | with_reducible exact H | (rw [hy153]; exact H) | exact H
                   have Nyq0 := Aside0.mk hy153
                   clear hy153
                   simp only [Option.some.injEq, Prod.mk.injEq] at H
                   obtain ⟨rfl, rfl⟩ := H
                   exact lf_L5_1
                 ·rw [if_neg c28] at H
                  have c28b0 : decide (x11_5 < 3) = false := decide_eq_false c28
                  clear c28
                  obtain ⟨yq0, hy156⟩ : ∃ y_ : List Int, y_ = (([(Int.tmod x10_5 256) % 256] : List Int)) := ⟨_, rfl⟩
                  replace H : (some (strOfNums yq0, wrap64 (a1 + x11_5))) = some (r1, r2) := by first | (rw [hy156]; with_reducible exact H) | (have H2_ := (Option.bind_some _ _).symm.trans H; rw [hy156]; with_reducible exact H2_) | (have H2_ := (Option.bind_some _ _).symm.trans H; with_reducible exact H2_) | with_reducible exact H | (rw [hy156]; exact H) | exact H
                  have Nyq0 := Aside0.mk hy156
                  clear hy156
                  simp only [Option.some.injEq, Prod.mk.injEq] at H
                  obtain ⟨rfl, rfl⟩ := H
                  exact lf_L5_1
  ·rw [if_neg c4] at H
   exact absurd H (by simp)
 ·rw [if_neg c3] at H
  exact absurd H (by simp)
end Go.Proofs.YtnhgnejfagncpaaDoor.L
end
section
namespace Go.Proofs.YtnhgnejfagncpaaDoor.L
open Go.RowKit Go.Proofs.YtnhgnejfagncpaaDoorW.PrintWords Go.Proofs.YtnhgnejfagncpaaDoorW.PrintLast Go.Proofs.YtnhgnejfagncpaaDoorW.PrintMore Go.Proofs.YtnhgnejfagncpaaDoor.H Go.Proofs.YtnhgnejfagncpaaDoor.A Go.Proofs.YtnhgnejfagncpaaDoor.B Go.Proofs.YtnhgnejfagncpaaDoor.E
attribute [local go_sem] max2_int min2_int max_two min_two max_three min_three max_four min_four   -- for this text's walks alone
set_option linter.unusedVariables false
set_option linter.unusedSimpArgs false
mutual
def erasureref14_text.l0 : Nat → List Int → Int → ByteArray → Int → Option (ByteArray × Int × Bool)
 | 0, _, _, _, _ => none
 | k + 1, x0, x1, x7, x8 => if x1 < (x0.length : Int) then (if 0 ≤ x1 then (if (rd x0 x1) = 92 then (if (wrap64 (x1 + 1)) ≥ (x0.length : Int) then (some ((⟨#[]⟩ : ByteArray), 0, false)) else ((erasureref14_escape.f k x0 (wrap64 (x1 + 1))).bind fun bt160 => (if x7.size + bt160.1.size ≤ 9223372036854775807 then (erasureref14_text.l0 k x0 bt160.2 (x7 ++ bt160.1) x8) else (none)))) else (if (rd x0 x1) = 40 then (erasureref14_text.j1 k x0 (wrap64 (x1 + 1)) x7 (wrap64 (x8 + 1)) (rd x0 x1)) else (erasureref14_text.j1 k x0 (wrap64 (x1 + 1)) x7 x8 (rd x0 x1)))) else (none)) else (some ((⟨#[]⟩ : ByteArray), 0, false))
def erasureref14_text.j1 : Nat → List Int → Int → ByteArray → Int → Int → Option (ByteArray × Int × Bool)
 | 0, _, _, _, _, _ => none
 | k + 1, x0, x1, x7, x8, x9 => if x9 = 41 then (if (wrap64 (x8 - 1)) = 0 then (some (x7, x1, true)) else (erasureref14_text.j2 k x0 x1 x7 (wrap64 (x8 - 1)) x9)) else (erasureref14_text.j2 k x0 x1 x7 x8 x9)
def erasureref14_text.j2 : Nat → List Int → Int → ByteArray → Int → Int → Option (ByteArray × Int × Bool)
 | 0, _, _, _, _, _ => none
 | k + 1, x0, x1, x7, x8, x9 => if x9 = 13 then (if x1 < (x0.length : Int) then (if 0 ≤ x1 then (if (rd x0 x1) = 10 then ((some (([10] : List Int) : List Int)).bind fun y163 => (if x7.size + (strOfNums y163).size ≤ 9223372036854775807 then (erasureref14_text.l0 k x0 (wrap64 (x1 + 1)) (x7 ++ (strOfNums y163)) x8) else (none))) else ((some (([10] : List Int) : List Int)).bind fun y166 => (if x7.size + (strOfNums y166).size ≤ 9223372036854775807 then (erasureref14_text.l0 k x0 x1 (x7 ++ (strOfNums y166)) x8) else (none)))) else (none)) else ((some (([10] : List Int) : List Int)).bind fun y169 => (if x7.size + (strOfNums y169).size ≤ 9223372036854775807 then (erasureref14_text.l0 k x0 x1 (x7 ++ (strOfNums y169)) x8) else (none)))) else ((some (([x9] : List Int) : List Int)).bind fun y172 => (if x7.size + (strOfNums y172).size ≤ 9223372036854775807 then (erasureref14_text.l0 k x0 x1 (x7 ++ (strOfNums y172)) x8) else (none)))
end
def erasureref14_text.f (k : Nat) (l0 : List Int) (a1 : Int) : Option (ByteArray × Int × Bool) := erasureref14_text.l0 k l0 a1 (⟨#[]⟩ : ByteArray) 1
set_option maxHeartbeats 8000000 in
set_option maxRecDepth 100000 in
theorem erasureref14_text.calls (k : Nat) (A0 : Option Addr) (c0 : Nat) (l0 : List Int) (a1 : Int) (r1 : ByteArray) (r2 : Int) (r3 : Bool) (w : World) (hr0 : Kd.C (Kd.int .u8) w A0 l0.length l0) (hc0 : l0.length ≤ c0) (h : erasureref14_text.f k l0 a1 = some (r1, r2, r3)) :
  Calls Tryd.prog 22 #[.slice A0 l0.length c0, .int .i64 a1] w fun e w' => e = .returned (.tuple #[.string r1, .int .i64 r2, .bool r3]) ∧ Below w.heap.size w w' := by
 have HR0 := Aside0.mk hr0
 have HC0 := Aside0.mk hc0
 clear hr0 hc0
 have HB := Aside0.mk (Below.refl w.heap.size w)
 have H : (erasureref14_text.l0 k l0 a1 (⟨#[]⟩ : ByteArray) 1) = some (r1, r2, r3) := h
 clear h
 have H' := Aside0.mk H
 clear H
 go_enter Tryd.func22, Tryd.ntmps22
 go_wp2
 go_loopg [1, 7, 8] k (fun kq v1 v7 v8 w' => ∃ (x1_1 : Int) (x7_1 : ByteArray) (x8_1 : Int), v1 = .int .i64 x1_1 ∧ v7 = .string x7_1 ∧ v8 = .int .i64 x8_1 ∧ Aside0 (erasureref14_text.l0 kq l0 x1_1 x7_1 x8_1 = some (r1, r2, r3)) ∧ Aside0 (kq ≤ k) ∧ Aside0 (Below w.heap.size w w'))
 case atStart => exact ⟨(a1), ((⟨#[]⟩ : ByteArray)), (1), ea_, ea_, ea_, H', ⟨Nat.le_refl _⟩, ⟨bel⟩⟩
 case round =>
  clear H'
  try clear c2
  try clear p2
  obtain ⟨x1_1, x7_1, x8_1, rfl, rfl, rfl, HA, HK1, HB⟩ := hrel
  cases gk with
  | zero => exact absurd HA.out (by simp [erasureref14_text.l0])
  | succ k1 =>
   have H := HA.out
   clear HA
   simp only [erasureref14_text.l0] at H
   by_cases c3 : x1_1 < (l0.length : Int)
   ·rw [if_pos c3] at H
    have c3b0 : decide (x1_1 < (l0.length : Int)) = true := decide_eq_true c3
    clear c3
    by_cases c4 : 0 ≤ x1_1
    ·rw [if_pos c4] at H
     have c4b0 : decide (0 ≤ x1_1) = true := decide_eq_true c4
     clear c4
     by_cases c5 : (rd l0 x1_1) = 92
     ·rw [if_pos c5] at H
      have c5b0 : ((rd l0 x1_1) == 92) = true := beq_iff_eq.mpr c5
      have c5b1 : ((rd l0 x1_1) != 92) = false := bne_eq_false_iff_eq.mpr c5
      clear c5
      by_cases c6 : (wrap64 (x1_1 + 1)) ≥ (l0.length : Int)
      ·rw [if_pos c6] at H
       have c6b0 : decide ((l0.length : Int) ≤ (wrap64 (x1_1 + 1))) = true := decide_eq_true c6
       clear c6
       simp only [Option.some.injEq, Prod.mk.injEq] at H
       obtain ⟨rfl, rfl, rfl⟩ := H
       have p159 : 0 ≤ (x1_1 : Int) := of_decide_eq_true (by first | (with_reducible assumption) | assumption)
       have q159 : x1_1 < (l0.length : Int) := of_decide_eq_true (by first | (with_reducible assumption) | assumption)
       obtain ⟨ad159, e159, hx159_0⟩ := Kd.at_int HR0.out x1_1 p159 q159
       cases e159
       replace hx159_0 := (HB.out.cell (World.block_lt_of_cell? w _ hx159_0)).trans hx159_0
       replace p159 := eq_true p159
       replace q159 := eq_true q159
       go_wp2
       go_ret3
       exact ⟨ee_, bel⟩
      ·rw [if_neg c6] at H
       have c6b0 : decide ((l0.length : Int) ≤ (wrap64 (x1_1 + 1))) = false := decide_eq_false c6
       clear c6
       replace H := Option.bind_eq_some_iff.mp H
       obtain ⟨⟨t160, t161⟩, A70, H⟩ := H
       replace H : (if x7_1.size + t160.size ≤ 9223372036854775807 then (erasureref14_text.l0 k1 l0 t161 (x7_1 ++ t160) x8_1) else (none)) = some (r1, r2, r3) := H
       have A7 := Aside0.mk A70
       clear A70
       by_cases c8 : x7_1.size + t160.size ≤ 9223372036854775807
       ·rw [if_pos c8] at H
        have c8b0 := eq_true c8
        have c8b1 : decide (x7_1.size + t160.size ≤ 9223372036854775807) = true := decide_eq_true c8
        try have c8b2 : (9223372036854775807 < x7_1.size + t160.size) = False := eq_false (Nat.not_lt.2 c8)
        have H' := Aside0.mk H
        clear H
        have p159 : 0 ≤ (x1_1 : Int) := of_decide_eq_true (by first | (with_reducible assumption) | assumption)
        have q159 : x1_1 < (l0.length : Int) := of_decide_eq_true (by first | (with_reducible assumption) | assumption)
        obtain ⟨ad159, e159, hx159_0⟩ := Kd.at_int HR0.out x1_1 p159 q159
        cases e159
        replace hx159_0 := (HB.out.cell (World.block_lt_of_cell? w _ hx159_0)).trans hx159_0
        replace p159 := eq_true p159
        replace q159 := eq_true q159
        go_wp2_with (first | ((with_reducible refine gate_callee (f := 55) rfl ?_); refine goesL_ (some 31) rfl rfl Tryd.func55 (by kernel_rfl) rfl #[.slice (some ad159) l0.length c0, .int .i64 (wrap64 (x1_1 + 1))] rfl gl_ ?_; (with_reducible refine (erasureref14_escape.calls k1 _ _ l0 (wrap64 (x1_1 + 1)) t160 t161 _ ?side1 ?side2 A7.out).mono ?_); (case side1 => repeat (first | exact (Kd.C_below HR0.out HB.out) | (with_reducible refine Kd.C_alloc ?_ _) | (with_reducible refine Kd.C_drewN ?_ _) | (with_reducible refine Kd.C_drew ?_))); (case side2 => exact HC0.out); rintro e w9 ⟨rfl, hb⟩; refine ⟨_, rfl, ?_⟩; have n0_ := Aside0.mk (below_step bel hb); clear HB; have HB := n0_; clear n0_; (try clear hb); (try clear hb2); (try clear hk); (try clear hi)))
        go_roundg k1
        case measure => have := HK1.out; omega
        case rel => exact ⟨(t161), (x7_1 ++ t160), (x8_1), ea_, ea_, ea_, H', ⟨by have := HK1.out; omega⟩, ⟨bel⟩⟩
       ·rw [if_neg c8] at H
        exact absurd H (by simp)
     ·rw [if_neg c5] at H
      have c5b0 : ((rd l0 x1_1) == 92) = false := beq_eq_false_iff_ne.mpr c5
      have c5b1 : ((rd l0 x1_1) != 92) = true := bne_iff_ne.mpr c5
      have HC10 := Aside0.mk H
      clear H
      have p159 : 0 ≤ (x1_1 : Int) := of_decide_eq_true (by first | (with_reducible assumption) | assumption)
      have q159 : x1_1 < (l0.length : Int) := of_decide_eq_true (by first | (with_reducible assumption) | assumption)
      obtain ⟨ad159, e159, hx159_0⟩ := Kd.at_int HR0.out x1_1 p159 q159
      cases e159
      replace hx159_0 := (HB.out.cell (World.block_lt_of_cell? w _ hx159_0)).trans hx159_0
      replace p159 := eq_true p159
      replace q159 := eq_true q159
      go_upto_if 41 with (fail)
      go_cut [8] (fun v8 wc => ∃ (kq : Nat) (x8_9 : Int), v8 = .int .i64 x8_9 ∧ Aside0 (erasureref14_text.j1 kq l0 (wrap64 (x1_1 + 1)) x7_1 x8_9 (rd l0 x1_1) = some (r1, r2, r3)) ∧ Aside0 (kq ≤ k1) ∧ Aside0 (Below w.heap.size w wc))
      case first =>
       have H := HC10.out
       clear HC10
       by_cases c11 : (rd l0 x1_1) = 40
       ·rw [if_pos c11] at H
        have c11b0 : ((rd l0 x1_1) == 40) = true := beq_iff_eq.mpr c11
        have c11b1 : ((rd l0 x1_1) != 40) = false := bne_eq_false_iff_eq.mpr c11
        clear c11
        (first | rw [c11b0] | (simp only [i64_w, i32_w]; rw [c11b0]) | skip)
        have H' := Aside0.mk H
        clear H
        go_wp2
        go_meet
        case rel => exact ⟨_, (wrap64 (x8_1 + 1)), ea_, H', ⟨by have := HK1.out; first | omega | exact Nat.le_refl _⟩, ⟨bel⟩⟩
       ·rw [if_neg c11] at H
        have c11b0 : ((rd l0 x1_1) == 40) = false := beq_eq_false_iff_ne.mpr c11
        have c11b1 : ((rd l0 x1_1) != 40) = true := bne_iff_ne.mpr c11
        (first | rw [c11b0] | (simp only [i64_w, i32_w]; rw [c11b0]) | skip)
        have H' := Aside0.mk H
        clear H
        go_wp2
        go_meet
        case rel => exact ⟨_, (x8_1), ea_, H', ⟨by have := HK1.out; first | omega | exact Nat.le_refl _⟩, ⟨bel⟩⟩
      case rest =>
       clear HC10
       try clear c1
       try clear p1
       try clear q1
       try clear hx1
       try clear c2
       try clear p2
       try clear c3
       try clear c3b0
       try clear c4
       try clear c4b0
       try clear c5
       try clear c5b0
       try clear c5b1
       try clear c6
       try clear c6b0
       try clear p6
       try clear c8
       try clear c8b0
       try clear c8b1
       try clear c8b2
       try clear c11
       try clear c11b0
       try clear c11b1
       try clear hx159_0
       try clear p159
       try clear p2
       try clear q159
       obtain ⟨kq, x8_9, rfl, HA, HJ9, HB⟩ := hcut
       cases kq with
       | zero => exact absurd HA.out (by simp [erasureref14_text.j1])
       | succ kj9 =>
        have H := HA.out
        clear HA
        simp only [erasureref14_text.j1] at H
        have HC12 := Aside0.mk H
        clear H
        go_upto_if 45 with (fail)
        go_cut [8] (fun v8 wc => ∃ (kq : Nat) (x8_11 : Int), v8 = .int .i64 x8_11 ∧ Aside0 (erasureref14_text.j2 kq l0 (wrap64 (x1_1 + 1)) x7_1 x8_11 (rd l0 x1_1) = some (r1, r2, r3)) ∧ Aside0 (kq ≤ kj9) ∧ Aside0 (Below w.heap.size w wc))
        case first =>
         have H := HC12.out
         clear HC12
         by_cases c13 : (rd l0 x1_1) = 41
         ·rw [if_pos c13] at H
          have c13b0 : ((rd l0 x1_1) == 41) = true := beq_iff_eq.mpr c13
          have c13b1 : ((rd l0 x1_1) != 41) = false := bne_eq_false_iff_eq.mpr c13
          clear c13
          (first | rw [c13b0] | (simp only [i64_w, i32_w]; rw [c13b0]) | skip)
          by_cases c14 : (wrap64 (x8_9 - 1)) = 0
          ·rw [if_pos c14] at H
           have c14b0 : ((wrap64 (x8_9 - 1)) == 0) = true := beq_iff_eq.mpr c14
           have c14b1 : ((wrap64 (x8_9 - 1)) != 0) = false := bne_eq_false_iff_eq.mpr c14
           clear c14
           simp only [Option.some.injEq, Prod.mk.injEq] at H
           obtain ⟨rfl, rfl, rfl⟩ := H
           go_wp2
           go_ret3
           exact ⟨ee_, bel⟩
          ·rw [if_neg c14] at H
           have c14b0 : ((wrap64 (x8_9 - 1)) == 0) = false := beq_eq_false_iff_ne.mpr c14
           have c14b1 : ((wrap64 (x8_9 - 1)) != 0) = true := bne_iff_ne.mpr c14
           have H' := Aside0.mk H
           clear H
           go_wp2
           go_meet
           case rel => exact ⟨_, (wrap64 (x8_9 - 1)), ea_, H', ⟨by have := HK1.out; have := HJ9.out; first | omega | exact Nat.le_refl _⟩, ⟨bel⟩⟩
         ·rw [if_neg c13] at H
          have c13b0 : ((rd l0 x1_1) == 41) = false := beq_eq_false_iff_ne.mpr c13
          have c13b1 : ((rd l0 x1_1) != 41) = true := bne_iff_ne.mpr c13
          (first | rw [c13b0] | (simp only [i64_w, i32_w]; rw [c13b0]) | skip)
          have H' := Aside0.mk H
          clear H
          go_wp2
          go_meet
          case rel => exact ⟨_, (x8_9), ea_, H', ⟨by have := HK1.out; have := HJ9.out; first | omega | exact Nat.le_refl _⟩, ⟨bel⟩⟩
        case rest =>
         clear HC12
         try clear c1
         try clear p1
         try clear q1
         try clear hx1
         try clear c2
         try clear p2
         try clear c3
         try clear c3b0
         try clear c4
         try clear c4b0
         try clear c5
         try clear c5b0
         try clear c5b1
         try clear c6
         try clear c6b0
         try clear p6
         try clear c8
         try clear c8b0
         try clear c8b1
         try clear c8b2
         try clear c11
         try clear c11b0
         try clear c11b1
         try clear c13
         try clear c13b0
         try clear c13b1
         try clear c14
         try clear c14b0
         try clear c14b1
         try clear hx159_0
         try clear p1
         try clear p159
         try clear p2
         try clear p6
         try clear q1
         try clear q159
         obtain ⟨kq, x8_11, rfl, HA, HJ11, HB⟩ := hcut
         cases kq with
         | zero => exact absurd HA.out (by simp [erasureref14_text.j2])
         | succ kj11 =>
          have H := HA.out
          clear HA
          simp only [erasureref14_text.j2] at H
          by_cases c15 : (rd l0 x1_1) = 13
          ·rw [if_pos c15] at H
           have c15b0 : ((rd l0 x1_1) == 13) = true := beq_iff_eq.mpr c15
           have c15b1 : ((rd l0 x1_1) != 13) = false := bne_eq_false_iff_eq.mpr c15
           clear c15
           by_cases c16 : (wrap64 (x1_1 + 1)) < (l0.length : Int)
           ·rw [if_pos c16] at H
            have c16b0 : decide ((wrap64 (x1_1 + 1)) < (l0.length : Int)) = true := decide_eq_true c16
            clear c16
            obtain ⟨ji17, hji17⟩ : ∃ j_ : Int, (wrap64 (x1_1 + 1)) = j_ := ⟨_, rfl⟩
            replace H : (if 0 ≤ (ji17) then (if (rd l0 (ji17)) = 10 then ((some (([10] : List Int) : List Int)).bind fun y163 => (if x7_1.size + (strOfNums y163).size ≤ 9223372036854775807 then (erasureref14_text.l0 kj11 l0 (wrap64 ((ji17) + 1)) (x7_1 ++ (strOfNums y163)) x8_11) else (none))) else ((some (([10] : List Int) : List Int)).bind fun y166 => (if x7_1.size + (strOfNums y166).size ≤ 9223372036854775807 then (erasureref14_text.l0 kj11 l0 (ji17) (x7_1 ++ (strOfNums y166)) x8_11) else (none)))) else (none)) = some (r1, r2, r3) := by first | (rw [hji17] at H; exact H) | (simp only [hji17] at H ⊢; exact H)
            (try rw [hji17] at c16b0)
            have hji17w : (IntKind.i64.wrap (x1_1 + 1)) = ji17 := (i64_w _).trans hji17
            by_cases c18 : 0 ≤ (ji17)
            ·rw [if_pos c18] at H
             have c18b0 : decide (0 ≤ (ji17)) = true := decide_eq_true c18
             clear c18
             by_cases c19 : (rd l0 (ji17)) = 10
             ·rw [if_pos c19] at H
              have c19b0 : ((rd l0 (ji17)) == 10) = true := beq_iff_eq.mpr c19
              have c19b1 : ((rd l0 (ji17)) != 10) = false := bne_eq_false_iff_eq.mpr c19
              clear c19
              obtain ⟨y163, hy163⟩ : ∃ y_ : List Int, y_ = (([10] : List Int)) := ⟨_, rfl⟩
              replace H : (if x7_1.size + (strOfNums y163).size ≤ 9223372036854775807 then (erasureref14_text.l0 kj11 l0 (wrap64 ((ji17) + 1)) (x7_1 ++ (strOfNums y163)) x8_11) else (none)) = some (r1, r2, r3) := by first | (rw [hy163]; with_reducible exact H) | (have H2_ := (Option.bind_some _ _).symm.trans H; rw [hy163]; with_reducible exact H2_) | (have H2_ := (Option.bind_some _ _).symm.trans H; with_reducible exact H2_) | with_reducible exact H | (rw [hy163]; exact H) | exact H
              have Ny163 := Aside0.mk hy163
              clear hy163
              by_cases c20 : x7_1.size + (strOfNums y163).size ≤ 9223372036854775807
              ·rw [if_pos c20] at H
               have c20b0 := eq_true c20
               have c20b1 : decide (x7_1.size + (strOfNums y163).size ≤ 9223372036854775807) = true := decide_eq_true c20
               try have c20b2 : (9223372036854775807 < x7_1.size + (strOfNums y163).size) = False := eq_false (Nat.not_lt.2 c20)
               have H' := Aside0.mk H
               clear H
               have p162 : 0 ≤ ((ji17) : Int) := of_decide_eq_true (by first | (with_reducible assumption) | assumption)
               have q162 : (ji17) < (l0.length : Int) := of_decide_eq_true (by first | (with_reducible assumption) | assumption)
               obtain ⟨ad162, e162, hx162_0⟩ := Kd.at_int HR0.out (ji17) p162 q162
               obtain rfl : ad159 = ad162 := (by injection e162)
               replace hx162_0 := (HB.out.cell (World.block_lt_of_cell? w _ hx162_0)).trans hx162_0
               replace p162 := eq_true p162
               replace q162 := eq_true q162
               go_wp2_with (first | ((with_reducible refine gate_dst (N := 69) rfl ?_); refine Kd.R_lit (Kd.int .u8) _ 5 ?hg (N := 69) ?hd (xs := ([10] : List Int)) (inner := [.int .u8 10]) (ok := fun _ => True) (okp := fun _ => True) ?hr ?hp (fun _ hk => hk) trivial (Below.refl _ _) (Nat.le_refl _) (by simp) ?_; (case hd => rfl); (case hg => rfl); (case hr => first | (go_simp; done) | (go_simp; rfl)); (case hp => exact (Reps.one (show Kd.M (Kd.int .u8) _ _ _ 10 [.int .u8 10] from rfl) (Reps.none _ _))); intro v164 w21 ho22 hb hg_ hnew_; clear hg_ hnew_; (first | rw [← Ny163.out] at ho22 | (simp only [Int.reduceToNat] at ho22; rw [← Ny163.out] at ho22)); have n0_ := Aside0.mk (Kd.R_lower ho22 (below_size bel)); have n1_ := Aside0.mk (below_step bel hb); clear HB; have HO165 := n0_; have HB := n1_; clear n0_ n1_; clear hb ho22; have hcv23 := own_string (P := Tryd.prog) Tryd.underlying22 Tryd.underlying5 Tryd.underlying9 (Kd.own_of_R HO165.out)))
               go_roundg kj11
               case measure => have := HK1.out; have := HJ9.out; have := HJ11.out; omega
               case rel => exact ⟨(wrap64 ((ji17) + 1)), (x7_1 ++ (strOfNums y163)), (x8_11), (by first | rfl | (simp; done) | (simp only [← hji17] <;> (first | rfl | simp)) | (simp [*]; done)), ea_, ea_, H', ⟨by have := HK1.out; have := HJ9.out; have := HJ11.out; omega⟩, ⟨bel⟩⟩
              ·rw [if_neg c20] at H
               exact absurd H (by simp)
             ·rw [if_neg c19] at H
              have c19b0 : ((rd l0 (ji17)) == 10) = false := beq_eq_false_iff_ne.mpr c19
              have c19b1 : ((rd l0 (ji17)) != 10) = true := bne_iff_ne.mpr c19
              obtain ⟨y166, hy166⟩ : ∃ y_ : List Int, y_ = (([10] : List Int)) := ⟨_, rfl⟩
              replace H : (if x7_1.size + (strOfNums y166).size ≤ 9223372036854775807 then (erasureref14_text.l0 kj11 l0 (ji17) (x7_1 ++ (strOfNums y166)) x8_11) else (none)) = some (r1, r2, r3) := by first | (rw [hy166]; with_reducible exact H) | (have H2_ := (Option.bind_some _ _).symm.trans H; rw [hy166]; with_reducible exact H2_) | (have H2_ := (Option.bind_some _ _).symm.trans H; with_reducible exact H2_) | with_reducible exact H | (rw [hy166]; exact H) | exact H
              have Ny166 := Aside0.mk hy166
              clear hy166
              by_cases c24 : x7_1.size + (strOfNums y166).size ≤ 9223372036854775807
              ·rw [if_pos c24] at H
               have c24b0 := eq_true c24
               have c24b1 : decide (x7_1.size + (strOfNums y166).size ≤ 9223372036854775807) = true := decide_eq_true c24
               try have c24b2 : (9223372036854775807 < x7_1.size + (strOfNums y166).size) = False := eq_false (Nat.not_lt.2 c24)
               have H' := Aside0.mk H
               clear H
               have p162 : 0 ≤ ((ji17) : Int) := of_decide_eq_true (by first | (with_reducible assumption) | assumption)
               have q162 : (ji17) < (l0.length : Int) := of_decide_eq_true (by first | (with_reducible assumption) | assumption)
               obtain ⟨ad162, e162, hx162_0⟩ := Kd.at_int HR0.out (ji17) p162 q162
               obtain rfl : ad159 = ad162 := (by injection e162)
               replace hx162_0 := (HB.out.cell (World.block_lt_of_cell? w _ hx162_0)).trans hx162_0
               replace p162 := eq_true p162
               replace q162 := eq_true q162
               go_wp2_with (first | ((with_reducible refine gate_dst (N := 69) rfl ?_); refine Kd.R_lit (Kd.int .u8) _ 5 ?hg (N := 69) ?hd (xs := ([10] : List Int)) (inner := [.int .u8 10]) (ok := fun _ => True) (okp := fun _ => True) ?hr ?hp (fun _ hk => hk) trivial (Below.refl _ _) (Nat.le_refl _) (by simp) ?_; (case hd => rfl); (case hg => rfl); (case hr => first | (go_simp; done) | (go_simp; rfl)); (case hp => exact (Reps.one (show Kd.M (Kd.int .u8) _ _ _ 10 [.int .u8 10] from rfl) (Reps.none _ _))); intro v167 w25 ho26 hb hg_ hnew_; clear hg_ hnew_; (first | rw [← Ny166.out] at ho26 | (simp only [Int.reduceToNat] at ho26; rw [← Ny166.out] at ho26)); have n0_ := Aside0.mk (Kd.R_lower ho26 (below_size bel)); have n1_ := Aside0.mk (below_step bel hb); clear HB; have HO168 := n0_; have HB := n1_; clear n0_ n1_; clear hb ho26; have hcv27 := own_string (P := Tryd.prog) Tryd.underlying22 Tryd.underlying5 Tryd.underlying9 (Kd.own_of_R HO168.out)))
               go_roundg kj11
               case measure => have := HK1.out; have := HJ9.out; have := HJ11.out; omega
               case rel => exact ⟨((ji17)), (x7_1 ++ (strOfNums y166)), (x8_11), (by first | rfl | (simp; done) | (simp only [← hji17] <;> (first | rfl | simp)) | (simp [*]; done)), ea_, ea_, H', ⟨by have := HK1.out; have := HJ9.out; have := HJ11.out; omega⟩, ⟨bel⟩⟩
              ·rw [if_neg c24] at H
               exact absurd H (by simp)
            ·rw [if_neg c18] at H
             exact absurd H (by simp)
           ·rw [if_neg c16] at H
            have c16b0 : decide ((wrap64 (x1_1 + 1)) < (l0.length : Int)) = false := decide_eq_false c16
            clear c16
            obtain ⟨y169, hy169⟩ : ∃ y_ : List Int, y_ = (([10] : List Int)) := ⟨_, rfl⟩
            replace H : (if x7_1.size + (strOfNums y169).size ≤ 9223372036854775807 then (erasureref14_text.l0 kj11 l0 (wrap64 (x1_1 + 1)) (x7_1 ++ (strOfNums y169)) x8_11) else (none)) = some (r1, r2, r3) := by first | (rw [hy169]; with_reducible exact H) | (have H2_ := (Option.bind_some _ _).symm.trans H; rw [hy169]; with_reducible exact H2_) | (have H2_ := (Option.bind_some _ _).symm.trans H; with_reducible exact H2_) | with_reducible exact H | (rw [hy169]; exact H) | exact H
            have Ny169 := Aside0.mk hy169
            clear hy169
            by_cases c28 : x7_1.size + (strOfNums y169).size ≤ 9223372036854775807
            ·rw [if_pos c28] at H
             have c28b0 := eq_true c28
             have c28b1 : decide (x7_1.size + (strOfNums y169).size ≤ 9223372036854775807) = true := decide_eq_true c28
             try have c28b2 : (9223372036854775807 < x7_1.size + (strOfNums y169).size) = False := eq_false (Nat.not_lt.2 c28)
             have H' := Aside0.mk H
             clear H
             go_wp2_with (first | ((with_reducible refine gate_dst (N := 69) rfl ?_); refine Kd.R_lit (Kd.int .u8) _ 5 ?hg (N := 69) ?hd (xs := ([10] : List Int)) (inner := [.int .u8 10]) (ok := fun _ => True) (okp := fun _ => True) ?hr ?hp (fun _ hk => hk) trivial (Below.refl _ _) (Nat.le_refl _) (by simp) ?_; (case hd => rfl); (case hg => rfl); (case hr => first | (go_simp; done) | (go_simp; rfl)); (case hp => exact (Reps.one (show Kd.M (Kd.int .u8) _ _ _ 10 [.int .u8 10] from rfl) (Reps.none _ _))); intro v170 w29 ho30 hb hg_ hnew_; clear hg_ hnew_; (first | rw [← Ny169.out] at ho30 | (simp only [Int.reduceToNat] at ho30; rw [← Ny169.out] at ho30)); have n0_ := Aside0.mk (Kd.R_lower ho30 (below_size bel)); have n1_ := Aside0.mk (below_step bel hb); clear HB; have HO171 := n0_; have HB := n1_; clear n0_ n1_; clear hb ho30; have hcv31 := own_string (P := Tryd.prog) Tryd.underlying22 Tryd.underlying5 Tryd.underlying9 (Kd.own_of_R HO171.out)))
             go_roundg kj11
             case measure => have := HK1.out; have := HJ9.out; have := HJ11.out; omega
             case rel => exact ⟨((wrap64 (x1_1 + 1))), (x7_1 ++ (strOfNums y169)), (x8_11), ea_, ea_, ea_, H', ⟨by have := HK1.out; have := HJ9.out; have := HJ11.out; omega⟩, ⟨bel⟩⟩
            ·rw [if_neg c28] at H
             exact absurd H (by simp)
          ·rw [if_neg c15] at H
           have c15b0 : ((rd l0 x1_1) == 13) = false := beq_eq_false_iff_ne.mpr c15
           have c15b1 : ((rd l0 x1_1) != 13) = true := bne_iff_ne.mpr c15
           obtain ⟨y172, hy172⟩ : ∃ y_ : List Int, y_ = (([(rd l0 x1_1)] : List Int)) := ⟨_, rfl⟩
           replace H : (if x7_1.size + (strOfNums y172).size ≤ 9223372036854775807 then (erasureref14_text.l0 kj11 l0 (wrap64 (x1_1 + 1)) (x7_1 ++ (strOfNums y172)) x8_11) else (none)) = some (r1, r2, r3) := by first | (rw [hy172]; with_reducible exact H) | (have H2_ := (Option.bind_some _ _).symm.trans H; rw [hy172]; with_reducible exact H2_) | (have H2_ := (Option.bind_some _ _).symm.trans H; with_reducible exact H2_) | with_reducible exact H | (rw [hy172]; exact H) | exact H
           have Ny172 := Aside0.mk hy172
           clear hy172
           by_cases c32 : x7_1.size + (strOfNums y172).size ≤ 9223372036854775807
           ·rw [if_pos c32] at H
            have c32b0 := eq_true c32
            have c32b1 : decide (x7_1.size + (strOfNums y172).size ≤ 9223372036854775807) = true := decide_eq_true c32
            try have c32b2 : (9223372036854775807 < x7_1.size + (strOfNums y172).size) = False := eq_false (Nat.not_lt.2 c32)
            have H' := Aside0.mk H
            clear H
            go_wp2_with (first | ((with_reducible refine gate_dst (N := 69) rfl ?_); refine Kd.R_lit (Kd.int .u8) _ 5 ?hg (N := 69) ?hd (xs := ([(rd l0 x1_1)] : List Int)) (inner := [.int .u8 (rd l0 x1_1)]) (ok := fun _ => True) (okp := fun _ => True) ?hr ?hp (fun _ hk => hk) trivial (Below.refl _ _) (Nat.le_refl _) (by simp) ?_; (case hd => rfl); (case hg => rfl); (case hr => first | (go_simp; done) | (go_simp; rfl)); (case hp => exact (Reps.one (show Kd.M (Kd.int .u8) _ _ _ (rd l0 x1_1) [.int .u8 (rd l0 x1_1)] from rfl) (Reps.none _ _))); intro v173 w33 ho34 hb hg_ hnew_; clear hg_ hnew_; (first | rw [← Ny172.out] at ho34 | (simp only [Int.reduceToNat] at ho34; rw [← Ny172.out] at ho34)); have n0_ := Aside0.mk (Kd.R_lower ho34 (below_size bel)); have n1_ := Aside0.mk (below_step bel hb); clear HB; have HO174 := n0_; have HB := n1_; clear n0_ n1_; clear hb ho34; have hcv35 := own_string (P := Tryd.prog) Tryd.underlying22 Tryd.underlying5 Tryd.underlying9 (Kd.own_of_R HO174.out)))
            go_roundg kj11
            case measure => have := HK1.out; have := HJ9.out; have := HJ11.out; omega
            case rel => exact ⟨((wrap64 (x1_1 + 1))), (x7_1 ++ (strOfNums y172)), (x8_11), ea_, ea_, ea_, H', ⟨by have := HK1.out; have := HJ9.out; have := HJ11.out; omega⟩, ⟨bel⟩⟩
           ·rw [if_neg c32] at H
            exact absurd H (by simp)
    ·rw [if_neg c4] at H
     exact absurd H (by simp)
   ·rw [if_neg c3] at H
    have c3b0 : decide (x1_1 < (l0.length : Int)) = false := decide_eq_false c3
    clear c3
    simp only [Option.some.injEq, Prod.mk.injEq] at H
    obtain ⟨rfl, rfl, rfl⟩ := H
    go_wp2
    go_ret3
    exact ⟨ee_, bel⟩
def erasureref14_mark.f (a0 : Int) : Option (Bool) := if a0 = 40 then (some true) else (if a0 = 41 then (some true) else (if a0 = 60 then (some true) else (if a0 = 62 then (some true) else (if a0 = 91 then (some true) else (if a0 = 93 then (some true) else (if a0 = 123 then (some true) else (if a0 = 125 then (some true) else (if a0 = 47 then (some true) else (some (a0 == 37))))))))))
theorem lf_L6_1 {p_ : Prop} (h_ : p_ := by
  go_wp2
  go_ret
  exact ⟨ea_, dr_⟩) : p_ := h_
set_option maxHeartbeats 8000000 in
set_option maxRecDepth 100000 in
theorem erasureref14_mark.calls (a0 : Int) (r : Bool) (w : World) (h : erasureref14_mark.f a0 = some r) :
  Calls Tryd.prog 25 #[.int .u8 a0] w fun e w' => e = .returned (.bool r) ∧ Drawn0 w w' := by
 have H : (if a0 = 40 then (some true) else (if a0 = 41 then (some true) else (if a0 = 60 then (some true) else (if a0 = 62 then (some true) else (if a0 = 91 then (some true) else (if a0 = 93 then (some true) else (if a0 = 123 then (some true) else (if a0 = 125 then (some true) else (if a0 = 47 then (some true) else (some (a0 == 37))))))))))) = some r := h
 clear h
 by_cases c2 : a0 = 40
 ·rw [if_pos c2] at H
  have c2b0 : (a0 == 40) = true := beq_iff_eq.mpr c2
  have c2b1 : (a0 != 40) = false := bne_eq_false_iff_eq.mpr c2
  clear c2
  obtain rfl := Option.some.inj H
  go_enter Tryd.func25, Tryd.ntmps25
  exact lf_L6_1
 ·rw [if_neg c2] at H
  have c2b0 : (a0 == 40) = false := beq_eq_false_iff_ne.mpr c2
  have c2b1 : (a0 != 40) = true := bne_iff_ne.mpr c2
  by_cases c3 : a0 = 41
  ·rw [if_pos c3] at H
   have c3b0 : (a0 == 41) = true := beq_iff_eq.mpr c3
   have c3b1 : (a0 != 41) = false := bne_eq_false_iff_eq.mpr c3
   clear c3
   obtain rfl := Option.some.inj H
   go_enter Tryd.func25, Tryd.ntmps25
   exact lf_L6_1
  ·rw [if_neg c3] at H
   have c3b0 : (a0 == 41) = false := beq_eq_false_iff_ne.mpr c3
   have c3b1 : (a0 != 41) = true := bne_iff_ne.mpr c3
   by_cases c4 : a0 = 60
   ·rw [if_pos c4] at H
    have c4b0 : (a0 == 60) = true := beq_iff_eq.mpr c4
    have c4b1 : (a0 != 60) = false := bne_eq_false_iff_eq.mpr c4
    clear c4
    obtain rfl := Option.some.inj H
    go_enter Tryd.func25, Tryd.ntmps25
    exact lf_L6_1
   ·rw [if_neg c4] at H
    have c4b0 : (a0 == 60) = false := beq_eq_false_iff_ne.mpr c4
    have c4b1 : (a0 != 60) = true := bne_iff_ne.mpr c4
    by_cases c5 : a0 = 62
    ·rw [if_pos c5] at H
     have c5b0 : (a0 == 62) = true := beq_iff_eq.mpr c5
     have c5b1 : (a0 != 62) = false := bne_eq_false_iff_eq.mpr c5
     clear c5
     obtain rfl := Option.some.inj H
     go_enter Tryd.func25, Tryd.ntmps25
     exact lf_L6_1
    ·rw [if_neg c5] at H
     have c5b0 : (a0 == 62) = false := beq_eq_false_iff_ne.mpr c5
     have c5b1 : (a0 != 62) = true := bne_iff_ne.mpr c5
     by_cases c6 : a0 = 91
     ·rw [if_pos c6] at H
      have c6b0 : (a0 == 91) = true := beq_iff_eq.mpr c6
      have c6b1 : (a0 != 91) = false := bne_eq_false_iff_eq.mpr c6
      clear c6
      obtain rfl := Option.some.inj H
      go_enter Tryd.func25, Tryd.ntmps25
      exact lf_L6_1
     ·rw [if_neg c6] at H
      have c6b0 : (a0 == 91) = false := beq_eq_false_iff_ne.mpr c6
      have c6b1 : (a0 != 91) = true := bne_iff_ne.mpr c6
      by_cases c7 : a0 = 93
      ·rw [if_pos c7] at H
       have c7b0 : (a0 == 93) = true := beq_iff_eq.mpr c7
       have c7b1 : (a0 != 93) = false := bne_eq_false_iff_eq.mpr c7
       clear c7
       obtain rfl := Option.some.inj H
       go_enter Tryd.func25, Tryd.ntmps25
       exact lf_L6_1
      ·rw [if_neg c7] at H
       have c7b0 : (a0 == 93) = false := beq_eq_false_iff_ne.mpr c7
       have c7b1 : (a0 != 93) = true := bne_iff_ne.mpr c7
       by_cases c8 : a0 = 123
       ·rw [if_pos c8] at H
        have c8b0 : (a0 == 123) = true := beq_iff_eq.mpr c8
        have c8b1 : (a0 != 123) = false := bne_eq_false_iff_eq.mpr c8
        clear c8
        obtain rfl := Option.some.inj H
        go_enter Tryd.func25, Tryd.ntmps25
        exact lf_L6_1
       ·rw [if_neg c8] at H
        have c8b0 : (a0 == 123) = false := beq_eq_false_iff_ne.mpr c8
        have c8b1 : (a0 != 123) = true := bne_iff_ne.mpr c8
        by_cases c9 : a0 = 125
        ·rw [if_pos c9] at H
         have c9b0 : (a0 == 125) = true := beq_iff_eq.mpr c9
         have c9b1 : (a0 != 125) = false := bne_eq_false_iff_eq.mpr c9
         clear c9
         obtain rfl := Option.some.inj H
         go_enter Tryd.func25, Tryd.ntmps25
         exact lf_L6_1
        ·rw [if_neg c9] at H
         have c9b0 : (a0 == 125) = false := beq_eq_false_iff_ne.mpr c9
         have c9b1 : (a0 != 125) = true := bne_iff_ne.mpr c9
         by_cases c10 : a0 = 47
         ·rw [if_pos c10] at H
          have c10b0 : (a0 == 47) = true := beq_iff_eq.mpr c10
          have c10b1 : (a0 != 47) = false := bne_eq_false_iff_eq.mpr c10
          clear c10
          obtain rfl := Option.some.inj H
          go_enter Tryd.func25, Tryd.ntmps25
          exact lf_L6_1
         ·rw [if_neg c10] at H
          have c10b0 : (a0 == 47) = false := beq_eq_false_iff_ne.mpr c10
          have c10b1 : (a0 != 47) = true := bne_iff_ne.mpr c10
          obtain rfl := Option.some.inj H
          go_enter Tryd.func25, Tryd.ntmps25
          exact lf_L6_1
def erasureref14_other.f (a0 : Int) : Option (Bool) := (erasureref14_mark.f a0).bind fun t175 => (if t175 = true then (some false) else ((erasureref10_White.f a0).bind fun t176 => (some (!t176))))
set_option maxHeartbeats 8000000 in
set_option maxRecDepth 100000 in
theorem erasureref14_other.calls (a0 : Int) (r : Bool) (w : World) (h : erasureref14_other.f a0 = some r) :
  Calls Tryd.prog 36 #[.int .u8 a0] w fun e w' => e = .returned (.bool r) ∧ Drawn0 w w' := by
 have H : ((erasureref14_mark.f a0).bind fun t175 => (if t175 = true then (some false) else ((erasureref10_White.f a0).bind fun t176 => (some (!t176))))) = some r := h
 clear h
 replace H := Option.bind_eq_some_iff.mp H
 obtain ⟨t175, A20, H⟩ := H
 replace H : (if t175 = true then (some false) else ((erasureref10_White.f a0).bind fun t176 => (some (!t176)))) = some r := H
 have A2 := Aside0.mk A20
 clear A20
 by_cases c3 : t175 = true
 ·subst c3
  have H1 : (some false) = some r := by rw [if_pos rfl] at H; exact H
  clear H
  have H := H1
  clear H1
  obtain rfl := Option.some.inj H
  go_enter Tryd.func36, Tryd.ntmps36
  go_wp2_with (first | ((with_reducible refine gate_callee (f := 25) rfl ?_); refine goesL_ (some 4) rfl rfl Tryd.func25 (by kernel_rfl) rfl #[.int .u8 a0] rfl gl_ ?_; (with_reducible refine (erasureref14_mark.calls a0 true _ A2.out).mono ?_); rintro e w' ⟨rfl, ⟨nd, rfl⟩⟩; refine ⟨_, rfl, ?_⟩))
  go_ret
  exact ⟨ea_, dr_⟩
 ·replace c3 := Bool.eq_false_iff.mpr c3
  subst c3
  have H1 : ((erasureref10_White.f a0).bind fun t176 => (some (!t176))) = some r := by rw [if_neg (show ¬ (false = true) by decide)] at H; exact H
  clear H
  have H := H1
  clear H1
  replace H := Option.bind_eq_some_iff.mp H
  obtain ⟨t176, Aq0, H⟩ := H
  replace H : (some (!t176)) = some r := H
  have Aq1 := Aside0.mk Aq0
  clear Aq0
  obtain rfl := Option.some.inj H
  go_enter Tryd.func36, Tryd.ntmps36
  go_wp2_with (first | ((with_reducible refine gate_callee (f := 25) rfl ?_); refine goesL_ (some 4) rfl rfl Tryd.func25 (by kernel_rfl) rfl #[.int .u8 a0] rfl gl_ ?_; (with_reducible refine (erasureref14_mark.calls a0 false _ A2.out).mono ?_); rintro e w' ⟨rfl, ⟨nd, rfl⟩⟩; refine ⟨_, rfl, ?_⟩) | (go_at_call 53; (with_reducible refine (erasureref10_White.calls a0 t176 _ Aq1.out).mono ?_); rintro e w' ⟨rfl, ⟨nd, rfl⟩⟩))
  go_ret
  exact ⟨ea_, dr_⟩
def erasureref14_row.l0 : Nat → List Int → Int → Int → Option (ByteArray × Int)
 | 0, _, _, _ => none
 | k + 1, x0, x1, x6 => if x6 < (x0.length : Int) then (if 0 ≤ x6 then ((erasureref14_other.f (rd x0 x6)).bind fun t178 => (if t178 = true then (erasureref14_row.l0 k x0 x1 (wrap64 (x6 + 1))) else (if 0 ≤ x1 then (if x1 ≤ x6 then (if x6 ≤ (x0.length : Int) then (some (strOfNums ((x0.take (x6 : Int).toNat).drop (x1 : Int).toNat), x6)) else (none)) else (none)) else (none)))) else (none)) else (if 0 ≤ x1 then (if x1 ≤ x6 then (if x6 ≤ (x0.length : Int) then (some (strOfNums ((x0.take (x6 : Int).toNat).drop (x1 : Int).toNat), x6)) else (none)) else (none)) else (none))
def erasureref14_row.f (k : Nat) (l0 : List Int) (a1 : Int) : Option (ByteArray × Int) := erasureref14_row.l0 k l0 a1 a1
set_option maxHeartbeats 8000000 in
set_option maxRecDepth 100000 in
theorem erasureref14_row.calls (k : Nat) (A0 : Option Addr) (c0 : Nat) (l0 : List Int) (a1 : Int) (r1 : ByteArray) (r2 : Int) (w : World) (hr0 : Kd.C (Kd.int .u8) w A0 l0.length l0) (hc0 : l0.length ≤ c0) (h : erasureref14_row.f k l0 a1 = some (r1, r2)) :
  Calls Tryd.prog 23 #[.slice A0 l0.length c0, .int .i64 a1] w fun e w' => e = .returned (.tuple #[.string r1, .int .i64 r2]) ∧ Drawn0 w w' := by
 have HR0 := Aside0.mk hr0
 have HC0 := Aside0.mk hc0
 clear hr0 hc0
 have H : (erasureref14_row.l0 k l0 a1 a1) = some (r1, r2) := h
 clear h
 have H' := Aside0.mk H
 clear H
 go_enter Tryd.func23, Tryd.ntmps23
 go_wp2
 go_loopg [6] k (fun kq v6 w' => ∃ (x6_1 : Int), v6 = .int .i64 x6_1 ∧ Aside0 (erasureref14_row.l0 kq l0 a1 x6_1 = some (r1, r2)) ∧ Aside0 (kq ≤ k) ∧ Drawn0 w w')
 case atStart => exact ⟨(a1), ea_, H', ⟨Nat.le_refl _⟩, dr_⟩
 case round =>
  clear H'
  try clear c2
  try clear p2
  obtain ⟨x6_1, rfl, HA, HK1, ⟨m1, rfl⟩⟩ := hrel
  cases gk with
  | zero => exact absurd HA.out (by simp [erasureref14_row.l0])
  | succ k1 =>
   have H := HA.out
   clear HA
   simp only [erasureref14_row.l0] at H
   by_cases c3 : x6_1 < (l0.length : Int)
   ·rw [if_pos c3] at H
    have c3b0 : decide (x6_1 < (l0.length : Int)) = true := decide_eq_true c3
    clear c3
    by_cases c4 : 0 ≤ x6_1
    ·rw [if_pos c4] at H
     have c4b0 : decide (0 ≤ x6_1) = true := decide_eq_true c4
     clear c4
     replace H := Option.bind_eq_some_iff.mp H
     obtain ⟨t178, A50, H⟩ := H
     replace H : (if t178 = true then (erasureref14_row.l0 k1 l0 a1 (wrap64 (x6_1 + 1))) else (if 0 ≤ a1 then (if a1 ≤ x6_1 then (if x6_1 ≤ (l0.length : Int) then (some (strOfNums ((l0.take (x6_1 : Int).toNat).drop (a1 : Int).toNat), x6_1)) else (none)) else (none)) else (none))) = some (r1, r2) := H
     have A5 := Aside0.mk A50
     clear A50
     by_cases c6 : t178 = true
     ·subst c6
      have H1 : (erasureref14_row.l0 k1 l0 a1 (wrap64 (x6_1 + 1))) = some (r1, r2) := by rw [if_pos rfl] at H; exact H
      clear H
      have H := H1
      clear H1
      have H' := Aside0.mk H
      clear H
      have p177 : 0 ≤ (x6_1 : Int) := of_decide_eq_true (by first | (with_reducible assumption) | assumption)
      have q177 : x6_1 < (l0.length : Int) := of_decide_eq_true (by first | (with_reducible assumption) | assumption)
      obtain ⟨ad177, e177, hx177_0⟩ := Kd.at_int HR0.out x6_1 p177 q177
      cases e177
      replace p177 := eq_true p177
      replace q177 := eq_true q177
      go_wp2_with (first | (go_at_call 36; (with_reducible refine (erasureref14_other.calls (rd l0 x6_1) true _ A5.out).mono ?_); rintro e w' ⟨rfl, ⟨nd, rfl⟩⟩))
      go_roundg k1
      case measure => have := HK1.out; omega
      case rel => exact ⟨(wrap64 (x6_1 + 1)), ea_, H', ⟨by have := HK1.out; omega⟩, dr_⟩
     ·replace c6 := Bool.eq_false_iff.mpr c6
      subst c6
      have H1 : (if 0 ≤ a1 then (if a1 ≤ x6_1 then (if x6_1 ≤ (l0.length : Int) then (some (strOfNums ((l0.take (x6_1 : Int).toNat).drop (a1 : Int).toNat), x6_1)) else (none)) else (none)) else (none)) = some (r1, r2) := by rw [if_neg (show ¬ (false = true) by decide)] at H; exact H
      clear H
      have H := H1
      clear H1
      by_cases c7 : 0 ≤ a1
      ·rw [if_pos c7] at H
       have c7b0 := eq_true c7
       have c7b1 : decide (0 ≤ a1) = true := decide_eq_true c7
       clear c7
       by_cases c8 : a1 ≤ x6_1
       ·rw [if_pos c8] at H
        have c8b0 := eq_true c8
        have c8b1 : decide (a1 ≤ x6_1) = true := decide_eq_true c8
        clear c8
        by_cases c9 : x6_1 ≤ (l0.length : Int)
        ·rw [if_pos c9] at H
         have cq0 := eq_true c9
         have cq1 : decide (x6_1 ≤ (l0.length : Int)) = true := decide_eq_true c9
         clear c9
         simp only [Option.some.injEq, Prod.mk.injEq] at H
         obtain ⟨rfl, rfl⟩ := H
         have p177 : 0 ≤ (x6_1 : Int) := of_decide_eq_true (by first | (with_reducible assumption) | assumption)
         have q177 : x6_1 < (l0.length : Int) := of_decide_eq_true (by first | (with_reducible assumption) | assumption)
         obtain ⟨ad177, e177, hx177_0⟩ := Kd.at_int HR0.out x6_1 p177 q177
         cases e177
         replace p177 := eq_true p177
         replace q177 := eq_true q177
         go_wp2_with (first | (go_at_call 36; (with_reducible refine (erasureref14_other.calls (rd l0 x6_1) false _ A5.out).mono ?_); rintro e w' ⟨rfl, ⟨nd, rfl⟩⟩; obtain ⟨i010, hi010, _, hsz10, _⟩ := info_parts info5; obtain ⟨Aq0, hcutq0, hA10, hC10⟩ := print_mid_of (P := Tryd.prog) (Value.int .u8) 0 22 5 .i64 .i64 Tryd.underlying22 hi010 hsz10 (some ad177) c0 l0 a1 x6_1 (of_decide_eq_true (by first | (with_reducible assumption) | assumption)) (by first | omega | exact of_decide_eq_true (by first | (with_reducible assumption) | assumption)) (of_decide_eq_true (by first | (with_reducible assumption) | assumption)) HC0.out; have HR179 := Aside0.mk (Kd.C_of_reads (h1 := fun _ => rfl) (hA10 _ (Kd.reads_of_C HR0.out))); have HC179 := Aside0.mk hC10; clear hA10 hC10 hi010 hsz10; have hcvq0 := Kd.C_string (P := Tryd.prog) (A := Aq0) (c := (c0 - a1.toNat)) Tryd.underlying22 Tryd.underlying5 Tryd.underlying9 HR179.out; have hlen_ : (List.drop a1.toNat (List.take x6_1.toNat l0)).length = x6_1.toNat - a1.toNat := (by rw [List.length_drop, List.length_take]; first | omega | (simp only [eq_iff_iff, iff_true] at *; omega)); (try rw [hlen_] at hcutq0); have hcv11_ := fun m_ => Kd.C_string (P := Tryd.prog) (A := Aq0) (c := (c0 - a1.toNat)) Tryd.underlying22 Tryd.underlying5 Tryd.underlying9 (Kd.C_drewN HR179.out m_); (try simp only [hlen_] at hcv11_); (try rw [hlen_] at hcvq0)))
         go_ret2
         exact ⟨ea_, dr_⟩
        ·rw [if_neg c9] at H
         exact absurd H (by simp)
       ·rw [if_neg c8] at H
        exact absurd H (by simp)
      ·rw [if_neg c7] at H
       exact absurd H (by simp)
    ·rw [if_neg c4] at H
     exact absurd H (by simp)
   ·rw [if_neg c3] at H
    have c3b0 : decide (x6_1 < (l0.length : Int)) = false := decide_eq_false c3
    clear c3
    by_cases c12 : 0 ≤ a1
    ·rw [if_pos c12] at H
     have c12b0 := eq_true c12
     have c12b1 : decide (0 ≤ a1) = true := decide_eq_true c12
     clear c12
     by_cases c13 : a1 ≤ x6_1
     ·rw [if_pos c13] at H
      have c13b0 := eq_true c13
      have c13b1 : decide (a1 ≤ x6_1) = true := decide_eq_true c13
      clear c13
      by_cases c14 : x6_1 ≤ (l0.length : Int)
      ·rw [if_pos c14] at H
       have cq0 := eq_true c14
       have cq1 : decide (x6_1 ≤ (l0.length : Int)) = true := decide_eq_true c14
       clear c14
       simp only [Option.some.injEq, Prod.mk.injEq] at H
       obtain ⟨rfl, rfl⟩ := H
       obtain ⟨i015, hi015, _, hsz15, _⟩ := info_parts info5
       obtain ⟨Aq0, hcutq0, hA15, hC15⟩ := print_mid_of (P := Tryd.prog) (Value.int .u8) 0 22 5 .i64 .i64 Tryd.underlying22 hi015 hsz15 A0 c0 l0 a1 x6_1 (of_decide_eq_true (by first | (with_reducible assumption) | assumption)) (by first | omega | exact of_decide_eq_true (by first | (with_reducible assumption) | assumption)) (of_decide_eq_true (by first | (with_reducible assumption) | assumption)) HC0.out
       have HR180 := Aside0.mk (Kd.C_of_reads (h1 := fun _ => rfl) (hA15 _ (Kd.reads_of_C HR0.out)))
       have HC180 := Aside0.mk hC15
       clear hA15 hC15 hi015 hsz15
       have hcvq0 := Kd.C_string (P := Tryd.prog) (A := Aq0) (c := (c0 - a1.toNat)) Tryd.underlying22 Tryd.underlying5 Tryd.underlying9 HR180.out; have hlen_ : (List.drop a1.toNat (List.take x6_1.toNat l0)).length = x6_1.toNat - a1.toNat := (by rw [List.length_drop, List.length_take]; first | omega | (simp only [eq_iff_iff, iff_true] at *; omega)); (try rw [hlen_] at hcutq0); have hcv16_ := fun m_ => Kd.C_string (P := Tryd.prog) (A := Aq0) (c := (c0 - a1.toNat)) Tryd.underlying22 Tryd.underlying5 Tryd.underlying9 (Kd.C_drewN HR180.out m_); (try simp only [hlen_] at hcv16_); (try rw [hlen_] at hcvq0)
       go_wp2
       go_ret2
       exact ⟨ea_, dr_⟩
      ·rw [if_neg c14] at H
       exact absurd H (by simp)
     ·rw [if_neg c13] at H
      exact absurd H (by simp)
    ·rw [if_neg c12] at H
     exact absurd H (by simp)
end Go.Proofs.YtnhgnejfagncpaaDoor.L
end
