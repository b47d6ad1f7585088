/- Put together: O2, L3, L5, L6, H5, L4, L7, E1, E2, E3, L8, E4, L9, L10, PlainTell, PlainDec, PlainMath, PlainText, PlainRef, PlainRef2 (each in a section of its own). -/
import Derived.Test.YtnhgnejfagncpaaDoorLot2
import Derived.Test.YtnhgnejfagncpaaDoorLot7
import Derived.Test.YtnhgnejfagncpaaDoorLot8
import Derived.Test.YtnhgnejfagncpaaDoorLot3
import Derived.Laws.Bits64b
import Derived.Test.YtnhgnejfagncpaaDoorLot5
import Derived.Lib.IndexLaws
section
namespace Go.Proofs.YtnhgnejfagncpaaDoor.O
open Go.RowKit Go.Proofs.YtnhgnejfagncpaaDoorW.PrintWords Go.Proofs.YtnhgnejfagncpaaDoorW.PrintLast Go.Proofs.YtnhgnejfagncpaaDoorW.PrintMore Go.Proofs.YtnhgnejfagncpaaDoor.H Go.Proofs.YtnhgnejfagncpaaDoor.A Go.Proofs.YtnhgnejfagncpaaDoor.B Go.Proofs.YtnhgnejfagncpaaDoor.E Go.Proofs.YtnhgnejfagncpaaDoor.L Go.Proofs.YtnhgnejfagncpaaDoor.M Go.Proofs.YtnhgnejfagncpaaDoor.P
attribute [local go_sem] max2_int min2_int max_two min_two max_three min_three max_four min_four   -- for this text's walks alone
set_option linter.unusedVariables false
set_option linter.unusedSimpArgs false
attribute [local go_sem high] eqA27
mutual
def erasurelaw14_LexOn.j0 : Nat → List Int → Int → List Int → Bool → Option (Bool)
 | 0, _, _, _, _ => none
 | k + 1, x0, x1, x2, x23 => if x23 = true then (some true) else ((lex_Next.f k x0 x1).bind fun bt101 => (if bt101.2.2.2.2.2 = 0 then (if bt101.2.2.2.2.1 < x1 then (erasurelaw14_LexOn.j1 k x0 x1 x2 bt101.2.2.2.2.1 true bt101.1 bt101.2.1 bt101.2.2.1 bt101.2.2.2.1) else (if bt101.2.2.2.2.1 > (x0.length : Int) then (erasurelaw14_LexOn.j1 k x0 x1 x2 bt101.2.2.2.2.1 true bt101.1 bt101.2.1 bt101.2.2.1 bt101.2.2.2.1) else (if bt101.1 = 0 then (erasurelaw14_LexOn.j1 k x0 x1 x2 bt101.2.2.2.2.1 false bt101.1 bt101.2.1 bt101.2.2.1 bt101.2.2.2.1) else (erasurelaw14_LexOn.j1 k x0 x1 x2 bt101.2.2.2.2.1 (bt101.2.2.2.2.1 == x1) bt101.1 bt101.2.1 bt101.2.2.1 bt101.2.2.2.1)))) else ((erasurelaw14_awake.f).bind fun t108 => (if t108 = true then (if bt101.2.2.2.2.1 = 0 then (some (bt101.1 == 0 && ((bt101.2.1 == 0 && (bt101.2.2.1 == 0)) && (bt101.2.2.2.1.toList == ([] : List UInt8))))) else (none)) else (none)))))
def erasurelaw14_LexOn.j1 : Nat → List Int → Int → List Int → Int → Bool → Int → Int → Int → ByteArray → Option (Bool)
 | 0, _, _, _, _, _, _, _, _, _ => none
 | k + 1, x0, x1, x2, x8, x61, x108000, x108001, x108002, x108003 => if x61 = true then (none) else ((lex_Print.f k x108000 x108001 x108002 x108003).bind fun bt109 => ((some (([] : List Int) : List Int)).bind fun y111 => (if 0 ≤ x8 then (if x8 ≤ (x0.length : Int) then (if y111.length + (x0.take (x8 : Int).toNat).length < 140737488355328 then ((some (y111 ++ (x0.take (x8 : Int).toNat) : List Int)).bind fun y115 => (if y115.length < 140737488355328 then ((some (y115 ++ [32] : List Int)).bind fun y118 => (if y118.length + x2.length < 140737488355328 then ((lex_Next.f k (y118 ++ x2) x1).bind fun bt124 => (if x108000 = 0 then ((erasurelaw14_awake.f).bind fun t131 => (if t131 = true then (some (bt109.2 == 0)) else (none))) else ((erasurelaw14_awake.f).bind fun t132 => (if t132 = true then (if bt109.2 = 0 then (if bt124.2.2.2.2.2 = 0 then (if (bt124.1 == x108000 && ((bt124.2.1 == x108001 && (bt124.2.2.1 == x108002)) && (bt124.2.2.2.1.toList == x108003.toList))) = true then (some (bt124.2.2.2.2.1 == x8)) else (none)) else (none)) else (none)) else (none))))) else (none))) else (none))) else (none)) else (none)) else (none))))
end
def erasurelaw14_LexOn.f (k : Nat) (l0 : List Int) (a1 : Int) (l2 : List Int) : Option (Bool) := if (l0.length : Int) > 500 then (erasurelaw14_LexOn.j0 k l0 a1 l2 true) else (erasurelaw14_LexOn.j0 k l0 a1 l2 (decide ((l2.length : Int) > 100)))
set_option maxHeartbeats 8000000 in
set_option maxRecDepth 100000 in
theorem erasurelaw14_LexOn.calls (k : Nat) (A0 : Option Addr) (c0 : Nat) (l0 : List Int) (a1 : Int) (A2 : Option Addr) (c2 : Nat) (l2 : List Int) (r : Bool) (w : World) (hr0 : Kd.C (Kd.int .u8) w A0 l0.length l0) (hc0 : l0.length ≤ c0) (hr2 : Kd.C (Kd.int .u8) w A2 l2.length l2) (hc2 : l2.length ≤ c2) (hT : Tab w) (h : erasurelaw14_LexOn.f k l0 a1 l2 = some r) :
  Calls Tryd.prog 6 #[.slice A0 l0.length c0, .int .i64 a1, .slice A2 l2.length c2] w fun e w' => e = .returned (.bool r) ∧ Below w.heap.size w w' := by
 have hu27 := Tryd.underlying27
 have HR0 := Aside0.mk hr0
 have HC0 := Aside0.mk hc0
 clear hr0 hc0
 have HR2 := Aside0.mk hr2
 have HC2 := Aside0.mk hc2
 clear hr2 hc2
 have HB := Aside0.mk (Below.refl w.heap.size w)
 have HT := Aside0.mk hT
 clear hT
 have H : (if (l0.length : Int) > 500 then (erasurelaw14_LexOn.j0 k l0 a1 l2 true) else (erasurelaw14_LexOn.j0 k l0 a1 l2 (decide ((l2.length : Int) > 100)))) = some r := h
 clear h
 have HC4 := Aside0.mk H
 clear H
 go_enter Tryd.func6, Tryd.ntmps6
 go_upto_region 1 with (fail)
 go_cut [23] (fun v23 wc => ∃ (kq : Nat) (x23_3 : Bool), v23 = .bool x23_3 ∧ Aside0 (erasurelaw14_LexOn.j0 kq l0 a1 l2 x23_3 = some r) ∧ Aside0 (kq ≤ k) ∧ Aside0 (Below w.heap.size w wc))
 case first =>
  have H := HC4.out
  clear HC4
  by_cases c5 : (l0.length : Int) > 500
  ·rw [if_pos c5] at H
   have c5b0 : decide (500 < (l0.length : Int)) = true := decide_eq_true c5
   have c5b1 : decide (500 < l0.length) = true := decide_eq_true (by omega)
   clear c5
   (first | rw [c5b0] | (simp only [i64_w, i32_w]; rw [c5b0]) | skip)
   have H' := Aside0.mk H
   clear H
   go_wp2
   go_meet
   case rel => exact ⟨_, (true), ea_, H', ⟨by first | omega | exact Nat.le_refl _⟩, ⟨bel⟩⟩
  ·rw [if_neg c5] at H
   have c5b0 : decide (500 < (l0.length : Int)) = false := decide_eq_false c5
   have c5b1 : decide (500 < l0.length) = false := decide_eq_false (by omega)
   clear c5
   (first | rw [c5b0] | (simp only [i64_w, i32_w]; rw [c5b0]) | skip)
   have H' := Aside0.mk H
   clear H
   go_wp2
   go_meet
   case rel => exact ⟨_, (decide ((l2.length : Int) > 100)), ea_, H', ⟨by first | omega | exact Nat.le_refl _⟩, ⟨bel⟩⟩
 case rest =>
  clear HC4
  try clear c2
  try clear p2
  try clear c5
  try clear c5b0
  try clear c5b1
  obtain ⟨kq, x23_3, rfl, HA, HJ3, HB⟩ := hcut
  cases kq with
  | zero => exact absurd HA.out (by simp [erasurelaw14_LexOn.j0])
  | succ kj3 =>
   have H := HA.out
   clear HA
   simp only [erasurelaw14_LexOn.j0] at H
   by_cases c6 : x23_3 = true
   ·subst c6
    have H1 : (some true) = some r := by rw [if_pos rfl] at H; exact H
    clear H
    have H := H1
    clear H1
    obtain rfl := Option.some.inj H
    go_wp2
    go_ret
    exact ⟨ee_, bel⟩
   ·replace c6 := Bool.eq_false_iff.mpr c6
    subst c6
    have H1 : ((lex_Next.f kj3 l0 a1).bind fun bt101 => (if bt101.2.2.2.2.2 = 0 then (if bt101.2.2.2.2.1 < a1 then (erasurelaw14_LexOn.j1 kj3 l0 a1 l2 bt101.2.2.2.2.1 true bt101.1 bt101.2.1 bt101.2.2.1 bt101.2.2.2.1) else (if bt101.2.2.2.2.1 > (l0.length : Int) then (erasurelaw14_LexOn.j1 kj3 l0 a1 l2 bt101.2.2.2.2.1 true bt101.1 bt101.2.1 bt101.2.2.1 bt101.2.2.2.1) else (if bt101.1 = 0 then (erasurelaw14_LexOn.j1 kj3 l0 a1 l2 bt101.2.2.2.2.1 false bt101.1 bt101.2.1 bt101.2.2.1 bt101.2.2.2.1) else (erasurelaw14_LexOn.j1 kj3 l0 a1 l2 bt101.2.2.2.2.1 (bt101.2.2.2.2.1 == a1) bt101.1 bt101.2.1 bt101.2.2.1 bt101.2.2.2.1)))) else ((erasurelaw14_awake.f).bind fun t108 => (if t108 = true then (if bt101.2.2.2.2.1 = 0 then (some (bt101.1 == 0 && ((bt101.2.1 == 0 && (bt101.2.2.1 == 0)) && (bt101.2.2.2.1.toList == ([] : List UInt8))))) else (none)) else (none))))) = some r := by rw [if_neg (show ¬ (false = true) by decide)] at H; exact H
    clear H
    have H := H1
    clear H1
    replace H := Option.bind_eq_some_iff.mp H
    obtain ⟨⟨t101, t102, t103, t104, t105, t106⟩, A70, H⟩ := H
    replace H : (if t106 = 0 then (if t105 < a1 then (erasurelaw14_LexOn.j1 kj3 l0 a1 l2 t105 true t101 t102 t103 t104) else (if t105 > (l0.length : Int) then (erasurelaw14_LexOn.j1 kj3 l0 a1 l2 t105 true t101 t102 t103 t104) else (if t101 = 0 then (erasurelaw14_LexOn.j1 kj3 l0 a1 l2 t105 false t101 t102 t103 t104) else (erasurelaw14_LexOn.j1 kj3 l0 a1 l2 t105 (t105 == a1) t101 t102 t103 t104)))) else ((erasurelaw14_awake.f).bind fun t108 => (if t108 = true then (if t105 = 0 then (some (t101 == 0 && ((t102 == 0 && (t103 == 0)) && (t104.toList == ([] : List UInt8))))) else (none)) else (none)))) = some r := H
    have A7 := Aside0.mk A70
    clear A70
    by_cases c8 : t106 = 0
    ·rw [if_pos c8] at H
     have c8b0 : (t106 == 0) = true := beq_iff_eq.mpr c8
     have c8b1 : (t106 != 0) = false := bne_eq_false_iff_eq.mpr c8
     clear c8
     have HC9 := Aside0.mk H
     clear H
     go_upto_region 6 with (first | ((with_reducible refine gate_callee (f := 10) rfl ?_); refine goesL_ (some 27) rfl rfl Tryd.func10 (by kernel_rfl) rfl #[.slice A0 l0.length c0, .int .i64 a1] rfl gl_ ?_; (with_reducible refine (lex_Next.calls kj3 _ _ l0 a1 t101 t102 t103 t104 t105 t106 _ ?side1 ?side2 A7.out).mono ?_); (case side1 => repeat (first | exact (Kd.C_below HR0.out HB.out) | (with_reducible refine Kd.C_alloc ?_ _) | (with_reducible refine Kd.C_drewN ?_ _) | (with_reducible refine Kd.C_drew ?_))); (case side2 => exact HC0.out); rintro e w10 ⟨rfl, hb⟩; refine ⟨_, rfl, ?_⟩; have n0_ := Aside0.mk (below_step bel hb); clear HB; have HB := n0_; clear n0_; (try clear hb); (try clear hb2); (try clear hk); (try clear hi)) | ((with_reducible refine gate_dst (N := 7) rfl ?_); (try (refine gate_guard (by rfl) ?_; dsimp only)); refine box_event ?hg (N := 7) ?hd (cs := #[.int .i64 0, .int .i64 0, .int .i64 0, .string (⟨#[]⟩ : ByteArray)]) (t := 27) ?hr ?_; (case hd => rfl); (case hg => rfl); (case hr => first | (go_simp; done) | (go_simp; rfl)); intro gb107 hg w11 hbox hb; have n0_ := Aside0.mk (below_step bel hb); have n1_ := Aside0.mk (hbox); have n2_ := Aside0.mk ((by rw [hg]; exact (below_size bel) : w.heap.size ≤ gb107)); have n3_ := Aside0.mk ((by rw [hg]; exact (below_size bel) : w.heap.size ≤ gb107)); clear HB; have HB := n0_; have BK107 := n1_; have GW107 := n2_; have GE107 := n3_; clear n0_ n1_ n2_ n3_; clear hb hbox hg; have hcz12_0 : w11.cell? ⟨gb107, 0, none⟩ = some (.int .i64 0) := (blk_cell BK107.out 0).trans rfl; have hcz12_1 : w11.cell? ⟨gb107, 1, none⟩ = some (.int .i64 0) := (blk_cell BK107.out 1).trans rfl; have hcz12_2 : w11.cell? ⟨gb107, 2, none⟩ = some (.int .i64 0) := (blk_cell BK107.out 2).trans rfl; have hcz12_3 : w11.cell? ⟨gb107, 3, none⟩ = some (.string (⟨#[]⟩ : ByteArray)) := (blk_cell BK107.out 3).trans rfl; have hfz12_0 := blk_frozen BK107.out 0; have hfz12_1 := blk_frozen BK107.out 1; have hfz12_2 := blk_frozen BK107.out 2; have hfz12_3 := blk_frozen BK107.out 3))
     (try simp only [Act.put, List.setIfInBounds_toArray, List.set_cons_zero, List.set_cons_succ])
     go_cut [61] (fun v61 wc => ∃ (kq : Nat) (x61_8 : Bool), v61 = .bool x61_8 ∧ Aside0 (erasurelaw14_LexOn.j1 kq l0 a1 l2 t105 x61_8 t101 t102 t103 t104 = some r) ∧ Aside0 (kq ≤ kj3) ∧ Aside0 (wc.heap[gb107]? = some (.cells #[.int .i64 t101, .int .i64 t102, .int .i64 t103, .string t104] 27 (0, 0))) ∧ Aside0 (Below w.heap.size w wc))
     case first =>
      have H := HC9.out
      clear HC9
      by_cases c13 : t105 < a1
      ·rw [if_pos c13] at H
       have c13b0 : decide (t105 < a1) = true := decide_eq_true c13
       clear c13
       (first | rw [c13b0] | (simp only [i64_w, i32_w]; rw [c13b0]) | skip)
       have H' := Aside0.mk H
       clear H
       go_wp2
       go_meet
       case rel => exact ⟨_, (true), ea_, H', ⟨by have := HJ3.out; first | omega | exact Nat.le_refl _⟩, ⟨by (with_reducible repeat (first | refine blk_drewN ?_ _ | refine blk_drew ?_ | refine blk_alloc ?_ _)); refine blk_put (cs := #[.int .i64 t101, .int .i64 t102, .int .i64 t103, .string (⟨#[]⟩ : ByteArray)]) ?_ 3 _ rfl; (with_reducible repeat (first | refine blk_drewN ?_ _ | refine blk_drew ?_ | refine blk_alloc ?_ _)); refine blk_put (cs := #[.int .i64 t101, .int .i64 t102, .int .i64 0, .string (⟨#[]⟩ : ByteArray)]) ?_ 2 _ rfl; (with_reducible repeat (first | refine blk_drewN ?_ _ | refine blk_drew ?_ | refine blk_alloc ?_ _)); refine blk_put (cs := #[.int .i64 t101, .int .i64 0, .int .i64 0, .string (⟨#[]⟩ : ByteArray)]) ?_ 1 _ rfl; (with_reducible repeat (first | refine blk_drewN ?_ _ | refine blk_drew ?_ | refine blk_alloc ?_ _)); refine blk_put (cs := #[.int .i64 0, .int .i64 0, .int .i64 0, .string (⟨#[]⟩ : ByteArray)]) ?_ 0 _ rfl; (with_reducible repeat (first | refine blk_drewN ?_ _ | refine blk_drew ?_ | refine blk_alloc ?_ _)); exact BK107.out⟩, ⟨bel⟩⟩
      ·rw [if_neg c13] at H
       have c13b0 : decide (t105 < a1) = false := decide_eq_false c13
       clear c13
       (first | rw [c13b0] | (simp only [i64_w, i32_w]; rw [c13b0]) | skip)
       by_cases c14 : t105 > (l0.length : Int)
       ·rw [if_pos c14] at H
        have c14b0 : decide ((l0.length : Int) < t105) = true := decide_eq_true c14
        clear c14
        have H' := Aside0.mk H
        clear H
        go_wp2
        go_meet
        case rel => exact ⟨_, (true), ea_, H', ⟨by have := HJ3.out; first | omega | exact Nat.le_refl _⟩, ⟨by (with_reducible repeat (first | refine blk_drewN ?_ _ | refine blk_drew ?_ | refine blk_alloc ?_ _)); refine blk_put (cs := #[.int .i64 t101, .int .i64 t102, .int .i64 t103, .string (⟨#[]⟩ : ByteArray)]) ?_ 3 _ rfl; (with_reducible repeat (first | refine blk_drewN ?_ _ | refine blk_drew ?_ | refine blk_alloc ?_ _)); refine blk_put (cs := #[.int .i64 t101, .int .i64 t102, .int .i64 0, .string (⟨#[]⟩ : ByteArray)]) ?_ 2 _ rfl; (with_reducible repeat (first | refine blk_drewN ?_ _ | refine blk_drew ?_ | refine blk_alloc ?_ _)); refine blk_put (cs := #[.int .i64 t101, .int .i64 0, .int .i64 0, .string (⟨#[]⟩ : ByteArray)]) ?_ 1 _ rfl; (with_reducible repeat (first | refine blk_drewN ?_ _ | refine blk_drew ?_ | refine blk_alloc ?_ _)); refine blk_put (cs := #[.int .i64 0, .int .i64 0, .int .i64 0, .string (⟨#[]⟩ : ByteArray)]) ?_ 0 _ rfl; (with_reducible repeat (first | refine blk_drewN ?_ _ | refine blk_drew ?_ | refine blk_alloc ?_ _)); exact BK107.out⟩, ⟨bel⟩⟩
       ·rw [if_neg c14] at H
        have c14b0 : decide ((l0.length : Int) < t105) = false := decide_eq_false c14
        clear c14
        by_cases c15 : t101 = 0
        ·rw [if_pos c15] at H
         have c15b0 : (t101 == 0) = true := beq_iff_eq.mpr c15
         have c15b1 : (t101 != 0) = false := bne_eq_false_iff_eq.mpr c15
         clear c15
         have H' := Aside0.mk H
         clear H
         have hcz16_0 : w11.cell? ⟨gb107, 0, none⟩ = some (.int .i64 0) := (blk_cell BK107.out 0).trans rfl
         have hcz16_1 : w11.cell? ⟨gb107, 1, none⟩ = some (.int .i64 0) := (blk_cell BK107.out 1).trans rfl
         have hcz16_2 : w11.cell? ⟨gb107, 2, none⟩ = some (.int .i64 0) := (blk_cell BK107.out 2).trans rfl
         have hcz16_3 : w11.cell? ⟨gb107, 3, none⟩ = some (.string (⟨#[]⟩ : ByteArray)) := (blk_cell BK107.out 3).trans rfl
         have hfz16_0 := blk_frozen BK107.out 0
         have hfz16_1 := blk_frozen BK107.out 1
         have hfz16_2 := blk_frozen BK107.out 2
         have hfz16_3 := blk_frozen BK107.out 3
         go_wp2
         go_meet
         case rel => exact ⟨_, (false), ea_, H', ⟨by have := HJ3.out; first | omega | exact Nat.le_refl _⟩, ⟨by (with_reducible repeat (first | refine blk_drewN ?_ _ | refine blk_drew ?_ | refine blk_alloc ?_ _)); refine blk_put (cs := #[.int .i64 t101, .int .i64 t102, .int .i64 t103, .string (⟨#[]⟩ : ByteArray)]) ?_ 3 _ rfl; (with_reducible repeat (first | refine blk_drewN ?_ _ | refine blk_drew ?_ | refine blk_alloc ?_ _)); refine blk_put (cs := #[.int .i64 t101, .int .i64 t102, .int .i64 0, .string (⟨#[]⟩ : ByteArray)]) ?_ 2 _ rfl; (with_reducible repeat (first | refine blk_drewN ?_ _ | refine blk_drew ?_ | refine blk_alloc ?_ _)); refine blk_put (cs := #[.int .i64 t101, .int .i64 0, .int .i64 0, .string (⟨#[]⟩ : ByteArray)]) ?_ 1 _ rfl; (with_reducible repeat (first | refine blk_drewN ?_ _ | refine blk_drew ?_ | refine blk_alloc ?_ _)); refine blk_put (cs := #[.int .i64 0, .int .i64 0, .int .i64 0, .string (⟨#[]⟩ : ByteArray)]) ?_ 0 _ rfl; (with_reducible repeat (first | refine blk_drewN ?_ _ | refine blk_drew ?_ | refine blk_alloc ?_ _)); exact BK107.out⟩, ⟨bel⟩⟩
        ·rw [if_neg c15] at H
         have c15b0 : (t101 == 0) = false := beq_eq_false_iff_ne.mpr c15
         have c15b1 : (t101 != 0) = true := bne_iff_ne.mpr c15
         have H' := Aside0.mk H
         clear H
         have hcz17_0 : w11.cell? ⟨gb107, 0, none⟩ = some (.int .i64 0) := (blk_cell BK107.out 0).trans rfl
         have hcz17_1 : w11.cell? ⟨gb107, 1, none⟩ = some (.int .i64 0) := (blk_cell BK107.out 1).trans rfl
         have hcz17_2 : w11.cell? ⟨gb107, 2, none⟩ = some (.int .i64 0) := (blk_cell BK107.out 2).trans rfl
         have hcz17_3 : w11.cell? ⟨gb107, 3, none⟩ = some (.string (⟨#[]⟩ : ByteArray)) := (blk_cell BK107.out 3).trans rfl
         have hfz17_0 := blk_frozen BK107.out 0
         have hfz17_1 := blk_frozen BK107.out 1
         have hfz17_2 := blk_frozen BK107.out 2
         have hfz17_3 := blk_frozen BK107.out 3
         go_wp2
         go_meet
         case rel => exact ⟨_, ((t105 == a1)), ea_, H', ⟨by have := HJ3.out; first | omega | exact Nat.le_refl _⟩, ⟨by (with_reducible repeat (first | refine blk_drewN ?_ _ | refine blk_drew ?_ | refine blk_alloc ?_ _)); refine blk_put (cs := #[.int .i64 t101, .int .i64 t102, .int .i64 t103, .string (⟨#[]⟩ : ByteArray)]) ?_ 3 _ rfl; (with_reducible repeat (first | refine blk_drewN ?_ _ | refine blk_drew ?_ | refine blk_alloc ?_ _)); refine blk_put (cs := #[.int .i64 t101, .int .i64 t102, .int .i64 0, .string (⟨#[]⟩ : ByteArray)]) ?_ 2 _ rfl; (with_reducible repeat (first | refine blk_drewN ?_ _ | refine blk_drew ?_ | refine blk_alloc ?_ _)); refine blk_put (cs := #[.int .i64 t101, .int .i64 0, .int .i64 0, .string (⟨#[]⟩ : ByteArray)]) ?_ 1 _ rfl; (with_reducible repeat (first | refine blk_drewN ?_ _ | refine blk_drew ?_ | refine blk_alloc ?_ _)); refine blk_put (cs := #[.int .i64 0, .int .i64 0, .int .i64 0, .string (⟨#[]⟩ : ByteArray)]) ?_ 0 _ rfl; (with_reducible repeat (first | refine blk_drewN ?_ _ | refine blk_drew ?_ | refine blk_alloc ?_ _)); exact BK107.out⟩, ⟨bel⟩⟩
     case rest =>
      clear HC9
      try clear c1
      try clear c2
      try clear p2
      try clear c5
      try clear c5b0
      try clear c5b1
      try clear c6
      try clear c8
      try clear c8b0
      try clear c8b1
      try clear c10
      try clear c13
      try clear c13b0
      try clear c14
      try clear c14b0
      try clear c15
      try clear c15b0
      try clear c15b1
      try clear hcz12_0
      try clear hcz12_1
      try clear hcz12_2
      try clear hcz12_3
      try clear hcz16_0
      try clear hcz16_1
      try clear hcz16_2
      try clear hcz16_3
      try clear hcz17_0
      try clear hcz17_1
      try clear hcz17_2
      try clear hcz17_3
      try clear hfz12_0
      try clear hfz12_1
      try clear hfz12_2
      try clear hfz12_3
      try clear hfz16_0
      try clear hfz16_1
      try clear hfz16_2
      try clear hfz16_3
      try clear hfz17_0
      try clear hfz17_1
      try clear hfz17_2
      try clear hfz17_3
      try clear p2
      obtain ⟨kq, x61_8, rfl, HA, HJ8, BK107, HB⟩ := hcut
      cases kq with
      | zero => exact absurd HA.out (by simp [erasurelaw14_LexOn.j1])
      | succ kj8 =>
       have H := HA.out
       clear HA
       simp only [erasurelaw14_LexOn.j1] at H
       by_cases c18 : x61_8 = true
       ·subst c18
        rw [if_pos rfl] at H
        cases H
       ·replace c18 := Bool.eq_false_iff.mpr c18
        subst c18
        have H1 : ((lex_Print.f kj8 t101 t102 t103 t104).bind fun bt109 => ((some (([] : List Int) : List Int)).bind fun y111 => (if 0 ≤ t105 then (if t105 ≤ (l0.length : Int) then (if y111.length + (l0.take (t105 : Int).toNat).length < 140737488355328 then ((some (y111 ++ (l0.take (t105 : Int).toNat) : List Int)).bind fun y115 => (if y115.length < 140737488355328 then ((some (y115 ++ [32] : List Int)).bind fun y118 => (if y118.length + l2.length < 140737488355328 then ((lex_Next.f kj8 (y118 ++ l2) a1).bind fun bt124 => (if t101 = 0 then ((erasurelaw14_awake.f).bind fun t131 => (if t131 = true then (some (bt109.2 == 0)) else (none))) else ((erasurelaw14_awake.f).bind fun t132 => (if t132 = true then (if bt109.2 = 0 then (if bt124.2.2.2.2.2 = 0 then (if (bt124.1 == t101 && ((bt124.2.1 == t102 && (bt124.2.2.1 == t103)) && (bt124.2.2.2.1.toList == t104.toList))) = true then (some (bt124.2.2.2.2.1 == t105)) else (none)) else (none)) else (none)) else (none))))) else (none))) else (none))) else (none)) else (none)) else (none)))) = some r := by rw [if_neg (show ¬ (false = true) by decide)] at H; exact H
        clear H
        have H := H1
        clear H1
        replace H := Option.bind_eq_some_iff.mp H
        obtain ⟨⟨t109, t110⟩, A190, H⟩ := H
        replace H : ((some (([] : List Int) : List Int)).bind fun y111 => (if 0 ≤ t105 then (if t105 ≤ (l0.length : Int) then (if y111.length + (l0.take (t105 : Int).toNat).length < 140737488355328 then ((some (y111 ++ (l0.take (t105 : Int).toNat) : List Int)).bind fun y115 => (if y115.length < 140737488355328 then ((some (y115 ++ [32] : List Int)).bind fun y118 => (if y118.length + l2.length < 140737488355328 then ((lex_Next.f kj8 (y118 ++ l2) a1).bind fun bt124 => (if t101 = 0 then ((erasurelaw14_awake.f).bind fun t131 => (if t131 = true then (some (t110 == 0)) else (none))) else ((erasurelaw14_awake.f).bind fun t132 => (if t132 = true then (if t110 = 0 then (if bt124.2.2.2.2.2 = 0 then (if (bt124.1 == t101 && ((bt124.2.1 == t102 && (bt124.2.2.1 == t103)) && (bt124.2.2.2.1.toList == t104.toList))) = true then (some (bt124.2.2.2.2.1 == t105)) else (none)) else (none)) else (none)) else (none))))) else (none))) else (none))) else (none)) else (none)) else (none))) = some r := H
        have A19 := Aside0.mk A190
        clear A190
        obtain ⟨y111, hy111⟩ : ∃ y_ : List Int, y_ = (([] : List Int)) := ⟨_, rfl⟩
        replace H : (if 0 ≤ t105 then (if t105 ≤ (l0.length : Int) then (if y111.length + (l0.take (t105 : Int).toNat).length < 140737488355328 then ((some (y111 ++ (l0.take (t105 : Int).toNat) : List Int)).bind fun y115 => (if y115.length < 140737488355328 then ((some (y115 ++ [32] : List Int)).bind fun y118 => (if y118.length + l2.length < 140737488355328 then ((lex_Next.f kj8 (y118 ++ l2) a1).bind fun bt124 => (if t101 = 0 then ((erasurelaw14_awake.f).bind fun t131 => (if t131 = true then (some (t110 == 0)) else (none))) else ((erasurelaw14_awake.f).bind fun t132 => (if t132 = true then (if t110 = 0 then (if bt124.2.2.2.2.2 = 0 then (if (bt124.1 == t101 && ((bt124.2.1 == t102 && (bt124.2.2.1 == t103)) && (bt124.2.2.2.1.toList == t104.toList))) = true then (some (bt124.2.2.2.2.1 == t105)) else (none)) else (none)) else (none)) else (none))))) else (none))) else (none))) else (none)) else (none)) else (none)) = some r := by first | (rw [hy111]; with_reducible exact H) | (have H2_ := (Option.bind_some _ _).symm.trans H; rw [hy111]; with_reducible exact H2_) | (have H2_ := (Option.bind_some _ _).symm.trans H; with_reducible exact H2_) | with_reducible exact H | (rw [hy111]; exact H) | exact H
        have Ny111 := Aside0.mk hy111
        clear hy111
        by_cases c20 : 0 ≤ t105
        ·rw [if_pos c20] at H
         have c20b0 := eq_true c20
         have c20b1 : decide (0 ≤ t105) = true := decide_eq_true c20
         clear c20
         by_cases c21 : t105 ≤ (l0.length : Int)
         ·rw [if_pos c21] at H
          have c21b0 := eq_true c21
          have c21b1 : decide (t105 ≤ (l0.length : Int)) = true := decide_eq_true c21
          clear c21
          by_cases c22 : y111.length + (l0.take (t105 : Int).toNat).length < 140737488355328
          ·rw [if_pos c22] at H
           have LMc22 := Aside0.mk c22
           clear c22
           obtain ⟨y115, hy115⟩ : ∃ y_ : List Int, y_ = (y111 ++ (l0.take (t105 : Int).toNat)) := ⟨_, rfl⟩
           replace H : (if y115.length < 140737488355328 then ((some (y115 ++ [32] : List Int)).bind fun y118 => (if y118.length + l2.length < 140737488355328 then ((lex_Next.f kj8 (y118 ++ l2) a1).bind fun bt124 => (if t101 = 0 then ((erasurelaw14_awake.f).bind fun t131 => (if t131 = true then (some (t110 == 0)) else (none))) else ((erasurelaw14_awake.f).bind fun t132 => (if t132 = true then (if t110 = 0 then (if bt124.2.2.2.2.2 = 0 then (if (bt124.1 == t101 && ((bt124.2.1 == t102 && (bt124.2.2.1 == t103)) && (bt124.2.2.2.1.toList == t104.toList))) = true then (some (bt124.2.2.2.2.1 == t105)) else (none)) else (none)) else (none)) else (none))))) else (none))) else (none)) = some r := by first | (rw [hy115]; with_reducible exact H) | (have H2_ := (Option.bind_some _ _).symm.trans H; rw [hy115]; with_reducible exact H2_) | (have H2_ := (Option.bind_some _ _).symm.trans H; with_reducible exact H2_) | with_reducible exact H | (rw [hy115]; exact H) | exact H
           have Ny115 := Aside0.mk hy115
           clear hy115
           by_cases c23 : y115.length < 140737488355328
           ·rw [if_pos c23] at H
            have LMc23 := Aside0.mk c23
            clear c23
            obtain ⟨y118, hy118⟩ : ∃ y_ : List Int, y_ = (y115 ++ [32]) := ⟨_, rfl⟩
            replace H : (if y118.length + l2.length < 140737488355328 then ((lex_Next.f kj8 (y118 ++ l2) a1).bind fun bt124 => (if t101 = 0 then ((erasurelaw14_awake.f).bind fun t131 => (if t131 = true then (some (t110 == 0)) else (none))) else ((erasurelaw14_awake.f).bind fun t132 => (if t132 = true then (if t110 = 0 then (if bt124.2.2.2.2.2 = 0 then (if (bt124.1 == t101 && ((bt124.2.1 == t102 && (bt124.2.2.1 == t103)) && (bt124.2.2.2.1.toList == t104.toList))) = true then (some (bt124.2.2.2.2.1 == t105)) else (none)) else (none)) else (none)) else (none))))) else (none)) = some r := by first | (rw [hy118]; with_reducible exact H) | (have H2_ := (Option.bind_some _ _).symm.trans H; rw [hy118]; with_reducible exact H2_) | (have H2_ := (Option.bind_some _ _).symm.trans H; with_reducible exact H2_) | with_reducible exact H | (rw [hy118]; exact H) | exact H
            have Ny118 := Aside0.mk hy118
            clear hy118
            by_cases c24 : y118.length + l2.length < 140737488355328
            ·rw [if_pos c24] at H
             have LMc24 := Aside0.mk c24
             clear c24
             obtain ⟨y121, hy121⟩ : ∃ y_ : List Int, y_ = (y118 ++ l2) := ⟨_, rfl⟩
             replace H : ((lex_Next.f kj8 y121 a1).bind fun bt124 => (if t101 = 0 then ((erasurelaw14_awake.f).bind fun t131 => (if t131 = true then (some (t110 == 0)) else (none))) else ((erasurelaw14_awake.f).bind fun t132 => (if t132 = true then (if t110 = 0 then (if bt124.2.2.2.2.2 = 0 then (if (bt124.1 == t101 && ((bt124.2.1 == t102 && (bt124.2.2.1 == t103)) && (bt124.2.2.2.1.toList == t104.toList))) = true then (some (bt124.2.2.2.2.1 == t105)) else (none)) else (none)) else (none)) else (none))))) = some r := by first | (rw [hy121]; with_reducible exact H) | (have H2_ := (Option.bind_some _ _).symm.trans H; rw [hy121]; with_reducible exact H2_) | (have H2_ := (Option.bind_some _ _).symm.trans H; with_reducible exact H2_) | with_reducible exact H | (rw [hy121]; exact H) | exact H
             have Ny121 := Aside0.mk hy121
             clear hy121
             replace H := Option.bind_eq_some_iff.mp H
             obtain ⟨⟨t124, t125, t126, t127, t128, t129⟩, A250, H⟩ := H
             replace H : (if t101 = 0 then ((erasurelaw14_awake.f).bind fun t131 => (if t131 = true then (some (t110 == 0)) else (none))) else ((erasurelaw14_awake.f).bind fun t132 => (if t132 = true then (if t110 = 0 then (if t129 = 0 then (if (t124 == t101 && ((t125 == t102 && (t126 == t103)) && (t127.toList == t104.toList))) = true then (some (t128 == t105)) else (none)) else (none)) else (none)) else (none)))) = some r := H
             have A25 := Aside0.mk A250
             clear A250
             by_cases c26 : t101 = 0
             ·rw [if_pos c26] at H
              have c26b0 : (t101 == 0) = true := beq_iff_eq.mpr c26
              have c26b1 : (t101 != 0) = false := bne_eq_false_iff_eq.mpr c26
              clear c26
              replace H := Option.bind_eq_some_iff.mp H
              obtain ⟨t131, A270, H⟩ := H
              replace H : (if t131 = true then (some (t110 == 0)) else (none)) = some r := H
              have A27 := Aside0.mk A270
              clear A270
              by_cases c28 : t131 = true
              ·subst c28
               have H1 : (some (t110 == 0)) = some r := by rw [if_pos rfl] at H; exact H
               clear H
               have H := H1
               clear H1
               obtain rfl := Option.some.inj H
               have hczq0 : wc.cell? ⟨gb107, 0, none⟩ = some (.int .i64 t101) := (blk_cell BK107.out 0).trans rfl
               have hczq1 : wc.cell? ⟨gb107, 1, none⟩ = some (.int .i64 t102) := (blk_cell BK107.out 1).trans rfl
               have hczq2 : wc.cell? ⟨gb107, 2, none⟩ = some (.int .i64 t103) := (blk_cell BK107.out 2).trans rfl
               have hczq3 : wc.cell? ⟨gb107, 3, none⟩ = some (.string t104) := (blk_cell BK107.out 3).trans rfl
               have hfzq0 := blk_frozen BK107.out 0
               have hfzq1 := blk_frozen BK107.out 1
               have hfzq2 := blk_frozen BK107.out 2
               have hfzq3 := blk_frozen BK107.out 3
               go_wp2_with (first | ((with_reducible refine gate_callee (f := 13) rfl ?_); refine goesL_ (some 64) rfl rfl Tryd.func13 (by kernel_rfl) rfl #[.agg #[.int .i64 t101, .int .i64 t102, .int .i64 t103, .string t104]] rfl gl_ ?_; (with_reducible refine (lex_Print.calls kj8 t101 t102 t103 t104 t109 t110 _ (Tab.below HT.out bel) A19.out).mono ?_); rintro e wq0 ⟨rfl, hb⟩; refine ⟨_, rfl, ?_⟩; have n0_ := Aside0.mk (blk_below (bkk BK107.out) hb); have n1_ := Aside0.mk (below_step bel hb); clear BK107; clear HB; have BK107 := n0_; have HB := n1_; clear n0_ n1_; (try clear hb); (try clear hb2); (try clear hk); (try clear hi)) | ((with_reducible refine gate_dst (N := 67) rfl ?_); (try (refine gate_guard (by rfl) ?_; dsimp only)); refine Kd.R_lit (Kd.int .u8) _ 5 ?hg (N := 67) ?hd (xs := ([] : List Int)) (inner := []) (ok := fun _ => True) (okp := fun _ => True) ?hr ?hp (fun _ hk => hk) trivial (Below.refl _ _) (Nat.le_refl _) (by simp) ?_; (case hd => rfl); (case hg => rfl); (case hr => first | (go_simp; done) | (go_simp; rfl)); (case hp => exact (Reps.none _ _)); intro v112 wq1 hoq0 hb hg_ hnew_; clear hg_ hnew_; (first | rw [← Ny111.out] at hoq0 | (simp only [Int.reduceToNat] at hoq0; rw [← Ny111.out] at hoq0)); have n0_ := Aside0.mk (Kd.R_lower hoq0 (below_size bel)); have n1_ := Aside0.mk (blk_below (bkk BK107.out) hb); have n2_ := Aside0.mk (below_step bel hb); clear BK107; clear HB; have HO113 := n0_; have BK107 := n1_; have HB := n2_; clear n0_ n1_ n2_; clear hb hoq0; obtain ⟨i033, hi033, _, hsz33, _⟩ := info_parts info5; obtain ⟨hcutq0, hA33, hC33⟩ := print_take_of (P := Tryd.prog) (Value.int .u8) 0 22 5 .i64 Tryd.underlying22 hi033 hsz33 A0 c0 l0 t105 (of_decide_eq_true (by first | (with_reducible assumption) | assumption)) (of_decide_eq_true (by first | (with_reducible assumption) | assumption)) HC0.out; have HR114 := Aside0.mk (Kd.C_of_reads (h1 := fun _ => rfl) (hA33 _ (Kd.reads_of_C HR0.out))); have HC114 := Aside0.mk hC33; clear hA33 hC33 hi033 hsz33) | ((with_reducible refine gate_builtin (b := .append) (xs := #[.tmp 67, .tmp 70]) rfl ?_); (try (refine gate_guard (by rfl) ?_; dsimp only)); at_builtin; refine Kd.R_append_rows (Kd.int .u8) (w0 := w) w.heap.size rfl (.tmp 67) (.tmp 70) 22 5 (.int .u8 0) 1 rfl Tryd.underlying22 info5 rfl (by decide) (by omega) v112 y111 (l0.take (t105 : Int).toNat) _ _ _ (fun _ => True) (fun _ => False) rfl rfl ?aO ?aR (fun _ _ h => h) (fun _ h => h.elim) ?aF ?aB ?aS ?aL ?_; (case aR => first | (have hq_ := (Kd.C_below HR114.out HB.out); rw [show (l0.take (t105 : Int).toNat).length = t105.toNat from (by rw [List.length_take]; have h_ : (t105 : Int) ≤ (l0.length : Int) := of_decide_eq_true (by first | (with_reducible assumption) | assumption); omega)] at hq_; repeat (first | exact hq_ | (with_reducible refine Kd.C_alloc ?_ _) | (with_reducible refine Kd.C_drewN ?_ _) | (with_reducible refine Kd.C_drew ?_))) | (rw [← show (l0.take (t105 : Int).toNat).length = t105.toNat from (by rw [List.length_take]; have h_ : (t105 : Int) ≤ (l0.length : Int) := of_decide_eq_true (by first | (with_reducible assumption) | assumption); omega)]; repeat (first | exact (Kd.C_below HR114.out HB.out) | (with_reducible refine Kd.C_alloc ?_ _) | (with_reducible refine Kd.C_drewN ?_ _) | (with_reducible refine Kd.C_drew ?_))) | (repeat (first | exact (Kd.C_below HR114.out HB.out) | (with_reducible refine Kd.C_alloc ?_ _) | (with_reducible refine Kd.C_drewN ?_ _) | (with_reducible refine Kd.C_drew ?_)))); (case aB => exact bel); (case aF => exact (fun _ _ => trivial)); (case aO => exact (rkk HO113.out)); (case aS => exact (below_size bel)); (case aL => have := LMc22.out; have hlx_ := (show (l0.take (t105 : Int).toNat).length = t105.toNat from (by rw [List.length_take]; have h_ : (t105 : Int) ≤ (l0.length : Int) := of_decide_eq_true (by first | (with_reducible assumption) | assumption); omega)); omega); intro v116 wq2 ho hb hg hat; rw [← Ny115.out] at ho; have n0_ := Aside0.mk (blk_grown (bkk BK107.out) hg (Kd.R_ne HO113.out BK107.out (by decide))); have n1_ := Aside0.mk (hb); have n2_ := Aside0.mk (ho); clear BK107; clear HB; clear HO113; have BK107 := n0_; have HB := n1_; have HO117 := n2_; clear n0_ n1_ n2_; clear ho hb hg hat) | ((with_reducible refine gate_builtin (b := .append) (xs := #[.tmp 71, .tmp 72]) rfl ?_); (try (refine gate_guard (by rfl) ?_; dsimp only)); at_builtin; refine Kd.R_append (Kd.int .u8) (w0 := w) w.heap.size rfl (.tmp 71) (.tmp 72) 22 5 (.int .u8 0) 1 rfl Tryd.underlying22 info5 rfl (by decide) (by omega) v116 y115 32 [.int .u8 32] (fun _ => True) (fun _ => False) rfl rfl ?aP (fun _ hk => hk.elim) ?aF ?aO ?aB ?aS ?aL ?_; (case aP => exact rfl); (case aB => exact bel); (case aF => exact (fun _ _ => trivial)); (case aO => exact (rkk HO117.out)); (case aS => exact (below_size bel)); (case aL => have := LMc23.out; omega); intro v119 wq3 ho hb hg hat; rw [← Ny118.out] at ho; have n0_ := Aside0.mk (blk_grown (bkk BK107.out) hg (Kd.R_ne HO117.out BK107.out (by decide))); have n1_ := Aside0.mk (hb); have n2_ := Aside0.mk (ho); clear BK107; clear HB; clear HO117; have BK107 := n0_; have HB := n1_; have HO120 := n2_; clear n0_ n1_ n2_; clear ho hb hg hat) | ((with_reducible refine gate_builtin (b := .append) (xs := #[.tmp 73, .tmp 74]) rfl ?_); (try (refine gate_guard (by rfl) ?_; dsimp only)); at_builtin; refine Kd.R_append_rows (Kd.int .u8) (w0 := w) w.heap.size rfl (.tmp 73) (.tmp 74) 22 5 (.int .u8 0) 1 rfl Tryd.underlying22 info5 rfl (by decide) (by omega) v119 y118 l2 _ _ _ (fun _ => True) (fun _ => False) rfl rfl ?aO ?aR (fun _ _ h => h) (fun _ h => h.elim) ?aF ?aB ?aS ?aL ?_; (case aR => repeat (first | exact (Kd.C_below HR2.out HB.out) | (with_reducible refine Kd.C_alloc ?_ _) | (with_reducible refine Kd.C_drewN ?_ _) | (with_reducible refine Kd.C_drew ?_))); (case aB => exact bel); (case aF => exact (fun _ _ => trivial)); (case aO => exact (rkk HO120.out)); (case aS => exact (below_size bel)); (case aL => have := LMc24.out; omega); intro v122 wq4 ho hb hg hat; rw [← Ny121.out] at ho; have n0_ := Aside0.mk (blk_grown (bkk BK107.out) hg (Kd.R_ne HO120.out BK107.out (by decide))); have n1_ := Aside0.mk (hb); have n2_ := Aside0.mk (ho); clear BK107; clear HB; clear HO120; have BK107 := n0_; have HB := n1_; have HO123 := n2_; clear n0_ n1_ n2_; clear ho hb hg hat; obtain ⟨Aoq0, coq0, eo37⟩ := Kd.R_slice HO123.out; subst eo37) | ((with_reducible refine gate_callee (f := 10) rfl ?_); refine goesL_ (some 79) rfl rfl Tryd.func10 (by kernel_rfl) rfl #[.slice Aoq0 y121.length coq0, .int .i64 a1] rfl gl_ ?_; (with_reducible refine (lex_Next.calls kj8 _ _ y121 a1 t124 t125 t126 t127 t128 t129 _ ?side1 ?side2 A25.out).mono ?_); (case side1 => repeat (first | exact (Kd.R_reads' HO123.out).2.2 | (with_reducible refine Kd.C_alloc ?_ _) | (with_reducible refine Kd.C_drewN ?_ _) | (with_reducible refine Kd.C_drew ?_))); (case side2 => exact (Kd.R_reads' HO123.out).2.1); rintro e wq5 ⟨rfl, hb⟩; refine ⟨_, rfl, ?_⟩; have n0_ := Aside0.mk (Kd.R_below (rkk HO123.out) hb); have n1_ := Aside0.mk (blk_below (bkk BK107.out) hb); have n2_ := Aside0.mk (below_step bel hb); clear HO123; clear BK107; clear HB; have HO123 := n0_; have BK107 := n1_; have HB := n2_; clear n0_ n1_ n2_; (try clear hb); (try clear hb2); (try clear hk); (try clear hi)) | ((with_reducible refine gate_dst (N := 13) rfl ?_); (try (refine gate_guard (by rfl) ?_; dsimp only)); refine box_event ?hg (N := 13) ?hd (cs := #[.int .i64 0, .int .i64 0, .int .i64 0, .string (⟨#[]⟩ : ByteArray)]) (t := 27) ?hr ?_; (case hd => rfl); (case hg => rfl); (case hr => first | (go_simp; done) | (go_simp; rfl)); intro gb130 hg wq6 hbox hb; have n0_ := Aside0.mk (Kd.R_below (rkk HO123.out) hb); have n1_ := Aside0.mk (blk_below (bkk BK107.out) hb); have n2_ := Aside0.mk (below_step bel hb); have n3_ := Aside0.mk (hbox); have n4_ := Aside0.mk ((by rw [hg]; exact (below_size bel) : w.heap.size ≤ gb130)); have n5_ := Aside0.mk ((by rw [hg]; exact (below_size bel) : w.heap.size ≤ gb130)); have n6_ := Aside0.mk ((by rw [hg]; exact Nat.ne_of_lt (blk_lt (bkk BK107.out)) : gb107 ≠ gb130)); have n7_ := Aside0.mk ((by rw [hg]; exact Nat.ne_of_gt (blk_lt (bkk BK107.out)) : gb130 ≠ gb107)); clear HO123; clear BK107; clear HB; have HO123 := n0_; have BK107 := n1_; have HB := n2_; have BK130 := n3_; have GW130 := n4_; have GE130 := n5_; have NB107_130 := n6_; have NB130_107 := n7_; clear n0_ n1_ n2_ n3_ n4_ n5_ n6_ n7_; clear hb hbox hg; have hnbq0 := NB130_107.out; have hncq0 := NB107_130.out; have hczq4 : wq6.cell? ⟨gb130, 0, none⟩ = some (.int .i64 0) := (blk_cell BK130.out 0).trans rfl; have hczq5 : wq6.cell? ⟨gb130, 1, none⟩ = some (.int .i64 0) := (blk_cell BK130.out 1).trans rfl; have hczq6 : wq6.cell? ⟨gb130, 2, none⟩ = some (.int .i64 0) := (blk_cell BK130.out 2).trans rfl; have hczq7 : wq6.cell? ⟨gb130, 3, none⟩ = some (.string (⟨#[]⟩ : ByteArray)) := (blk_cell BK130.out 3).trans rfl; have hfzq4 := blk_frozen BK130.out 0; have hfzq5 := blk_frozen BK130.out 1; have hfzq6 := blk_frozen BK130.out 2; have hfzq7 := blk_frozen BK130.out 3; have hczq8 : wq6.cell? ⟨gb107, 0, none⟩ = some (.int .i64 t101) := (blk_cell BK107.out 0).trans rfl; have hczq9 : wq6.cell? ⟨gb107, 1, none⟩ = some (.int .i64 t102) := (blk_cell BK107.out 1).trans rfl; have hczq10 : wq6.cell? ⟨gb107, 2, none⟩ = some (.int .i64 t103) := (blk_cell BK107.out 2).trans rfl; have hczq11 : wq6.cell? ⟨gb107, 3, none⟩ = some (.string t104) := (blk_cell BK107.out 3).trans rfl; have hfzq8 := blk_frozen BK107.out 0; have hfzq9 := blk_frozen BK107.out 1; have hfzq10 := blk_frozen BK107.out 2; have hfzq11 := blk_frozen BK107.out 3) | ((with_reducible refine gate_callee (f := 12) rfl ?_); refine goesL_ (some 86) rfl rfl Tryd.func12 (by kernel_rfl) rfl #[] rfl gl_ ?_; (with_reducible refine (erasurelaw14_awake.calls  true _ (Tab.below HT.out bel) A27.out).mono ?_); rintro e wq7 ⟨rfl, hb⟩; refine ⟨_, rfl, ?_⟩; have n0_ := Aside0.mk (Kd.R_below (by (with_reducible repeat (first | apply Kd.R_alloc | apply Kd.R_drewN | apply Kd.R_drew)); exact (Kd.R_mono (Kd.R_far (p := ⟨gb130, 3, none⟩) (Kd.R_far (p := ⟨gb130, 2, none⟩) (Kd.R_far (p := ⟨gb130, 1, none⟩) (Kd.R_far (p := ⟨gb130, 0, none⟩) (Kd.R_types HO123.out BK130.out (by decide)) (fun _ hk => hk.2) (.int .i64 t124)) (fun _ hk => hk.2) (.int .i64 t125)) (fun _ hk => hk.2) (.int .i64 t126)) (fun _ hk => hk.2) (.string t127)) (fun _ h_ => h_.1))) hb); have n1_ := Aside0.mk (blk_below (g := gb107) (o := .cells #[.int .i64 t101, .int .i64 t102, .int .i64 t103, .string t104] 27 (0, 0)) blks hb); have n2_ := Aside0.mk (blk_below (g := gb130) (o := .cells #[.int .i64 t124, .int .i64 t125, .int .i64 t126, .string t127] 27 (0, 0)) (by (with_reducible repeat (first | refine blk_drewN ?_ _ | refine blk_drew ?_ | refine blk_alloc ?_ _)); refine blk_put (cs := #[.int .i64 t124, .int .i64 t125, .int .i64 t126, .string (⟨#[]⟩ : ByteArray)]) ?_ 3 _ rfl; (with_reducible repeat (first | refine blk_drewN ?_ _ | refine blk_drew ?_ | refine blk_alloc ?_ _)); refine blk_put (cs := #[.int .i64 t124, .int .i64 t125, .int .i64 0, .string (⟨#[]⟩ : ByteArray)]) ?_ 2 _ rfl; (with_reducible repeat (first | refine blk_drewN ?_ _ | refine blk_drew ?_ | refine blk_alloc ?_ _)); refine blk_put (cs := #[.int .i64 t124, .int .i64 0, .int .i64 0, .string (⟨#[]⟩ : ByteArray)]) ?_ 1 _ rfl; (with_reducible repeat (first | refine blk_drewN ?_ _ | refine blk_drew ?_ | refine blk_alloc ?_ _)); refine blk_put (cs := #[.int .i64 0, .int .i64 0, .int .i64 0, .string (⟨#[]⟩ : ByteArray)]) ?_ 0 _ rfl; (with_reducible repeat (first | refine blk_drewN ?_ _ | refine blk_drew ?_ | refine blk_alloc ?_ _)); exact BK130.out) hb); have n3_ := Aside0.mk (below_step bel hb); clear HO123; clear BK107; clear BK130; clear HB; have HO123 := n0_; have BK107 := n1_; have BK130 := n2_; have HB := n3_; clear n0_ n1_ n2_ n3_; (try clear hb); (try clear hb2); (try clear hk); (try clear hi)))
               go_ret
               exact ⟨ee_, bel⟩
              ·replace c28 := Bool.eq_false_iff.mpr c28
               subst c28
               have H1 : (none : Option Bool) = some r := by rw [if_neg (show ¬ (false = true) by decide)] at H; exact H
               clear H
               have H := H1
               clear H1
               exact absurd H (by simp)
             ·rw [if_neg c26] at H
              have c26b0 : (t101 == 0) = false := beq_eq_false_iff_ne.mpr c26
              have c26b1 : (t101 != 0) = true := bne_iff_ne.mpr c26
              replace H := Option.bind_eq_some_iff.mp H
              obtain ⟨t132, A590, H⟩ := H
              replace H : (if t132 = true then (if t110 = 0 then (if t129 = 0 then (if (t124 == t101 && ((t125 == t102 && (t126 == t103)) && (t127.toList == t104.toList))) = true then (some (t128 == t105)) else (none)) else (none)) else (none)) else (none)) = some r := H
              have A59 := Aside0.mk A590
              clear A590
              by_cases c60 : t132 = true
              ·subst c60
               have H1 : (if t110 = 0 then (if t129 = 0 then (if (t124 == t101 && ((t125 == t102 && (t126 == t103)) && (t127.toList == t104.toList))) = true then (some (t128 == t105)) else (none)) else (none)) else (none)) = some r := by rw [if_pos rfl] at H; exact H
               clear H
               have H := H1
               clear H1
               by_cases c61 : t110 = 0
               ·rw [if_pos c61] at H
                have c61b0 : (t110 == 0) = true := beq_iff_eq.mpr c61
                have c61b1 : (t110 != 0) = false := bne_eq_false_iff_eq.mpr c61
                clear c61
                by_cases c62 : t129 = 0
                ·rw [if_pos c62] at H
                 have c62b0 : (t129 == 0) = true := beq_iff_eq.mpr c62
                 have c62b1 : (t129 != 0) = false := bne_eq_false_iff_eq.mpr c62
                 clear c62
                 by_cases c63 : (t124 == t101 && ((t125 == t102 && (t126 == t103)) && (t127.toList == t104.toList))) = true
                 ·rw [if_pos c63] at H
                  have cq0 : (t124 == t101 && ((t125 == t102 && (t126 == t103)) && (t127.toList == t104.toList))) = true := c63
                  (try (have cq1 : decide (t124 = t101 && ((t125 == t102 && (t126 == t103)) && (t127.toList == t104.toList))) = true := by simpa using c63))
                  (try (have cq2 : (t124 == t101 && ((t125 == t102 && (t126 == t103)) && (t127.toList == t104.toList))) = true := by simpa using c63))
                  clear c63
                  obtain rfl := Option.some.inj H
                  have hczq0 : wc.cell? ⟨gb107, 0, none⟩ = some (.int .i64 t101) := (blk_cell BK107.out 0).trans rfl
                  have hczq1 : wc.cell? ⟨gb107, 1, none⟩ = some (.int .i64 t102) := (blk_cell BK107.out 1).trans rfl
                  have hczq2 : wc.cell? ⟨gb107, 2, none⟩ = some (.int .i64 t103) := (blk_cell BK107.out 2).trans rfl
                  have hczq3 : wc.cell? ⟨gb107, 3, none⟩ = some (.string t104) := (blk_cell BK107.out 3).trans rfl
                  have hfzq0 := blk_frozen BK107.out 0
                  have hfzq1 := blk_frozen BK107.out 1
                  have hfzq2 := blk_frozen BK107.out 2
                  have hfzq3 := blk_frozen BK107.out 3
                  go_wp2_with (first | ((with_reducible refine gate_callee (f := 13) rfl ?_); refine goesL_ (some 64) rfl rfl Tryd.func13 (by kernel_rfl) rfl #[.agg #[.int .i64 t101, .int .i64 t102, .int .i64 t103, .string t104]] rfl gl_ ?_; (with_reducible refine (lex_Print.calls kj8 t101 t102 t103 t104 t109 t110 _ (Tab.below HT.out bel) A19.out).mono ?_); rintro e wq0 ⟨rfl, hb⟩; refine ⟨_, rfl, ?_⟩; have n0_ := Aside0.mk (blk_below (bkk BK107.out) hb); have n1_ := Aside0.mk (below_step bel hb); clear BK107; clear HB; have BK107 := n0_; have HB := n1_; clear n0_ n1_; (try clear hb); (try clear hb2); (try clear hk); (try clear hi)) | ((with_reducible refine gate_dst (N := 67) rfl ?_); (try (refine gate_guard (by rfl) ?_; dsimp only)); refine Kd.R_lit (Kd.int .u8) _ 5 ?hg (N := 67) ?hd (xs := ([] : List Int)) (inner := []) (ok := fun _ => True) (okp := fun _ => True) ?hr ?hp (fun _ hk => hk) trivial (Below.refl _ _) (Nat.le_refl _) (by simp) ?_; (case hd => rfl); (case hg => rfl); (case hr => first | (go_simp; done) | (go_simp; rfl)); (case hp => exact (Reps.none _ _)); intro v112 wq1 hoq0 hb hg_ hnew_; clear hg_ hnew_; (first | rw [← Ny111.out] at hoq0 | (simp only [Int.reduceToNat] at hoq0; rw [← Ny111.out] at hoq0)); have n0_ := Aside0.mk (Kd.R_lower hoq0 (below_size bel)); have n1_ := Aside0.mk (blk_below (bkk BK107.out) hb); have n2_ := Aside0.mk (below_step bel hb); clear BK107; clear HB; have HO113 := n0_; have BK107 := n1_; have HB := n2_; clear n0_ n1_ n2_; clear hb hoq0; obtain ⟨i068, hi068, _, hsz68, _⟩ := info_parts info5; obtain ⟨hcutq0, hA68, hC68⟩ := print_take_of (P := Tryd.prog) (Value.int .u8) 0 22 5 .i64 Tryd.underlying22 hi068 hsz68 A0 c0 l0 t105 (of_decide_eq_true (by first | (with_reducible assumption) | assumption)) (of_decide_eq_true (by first | (with_reducible assumption) | assumption)) HC0.out; have HR114 := Aside0.mk (Kd.C_of_reads (h1 := fun _ => rfl) (hA68 _ (Kd.reads_of_C HR0.out))); have HC114 := Aside0.mk hC68; clear hA68 hC68 hi068 hsz68) | ((with_reducible refine gate_builtin (b := .append) (xs := #[.tmp 67, .tmp 70]) rfl ?_); (try (refine gate_guard (by rfl) ?_; dsimp only)); at_builtin; refine Kd.R_append_rows (Kd.int .u8) (w0 := w) w.heap.size rfl (.tmp 67) (.tmp 70) 22 5 (.int .u8 0) 1 rfl Tryd.underlying22 info5 rfl (by decide) (by omega) v112 y111 (l0.take (t105 : Int).toNat) _ _ _ (fun _ => True) (fun _ => False) rfl rfl ?aO ?aR (fun _ _ h => h) (fun _ h => h.elim) ?aF ?aB ?aS ?aL ?_; (case aR => first | (have hq_ := (Kd.C_below HR114.out HB.out); rw [show (l0.take (t105 : Int).toNat).length = t105.toNat from (by rw [List.length_take]; have h_ : (t105 : Int) ≤ (l0.length : Int) := of_decide_eq_true (by first | (with_reducible assumption) | assumption); omega)] at hq_; repeat (first | exact hq_ | (with_reducible refine Kd.C_alloc ?_ _) | (with_reducible refine Kd.C_drewN ?_ _) | (with_reducible refine Kd.C_drew ?_))) | (rw [← show (l0.take (t105 : Int).toNat).length = t105.toNat from (by rw [List.length_take]; have h_ : (t105 : Int) ≤ (l0.length : Int) := of_decide_eq_true (by first | (with_reducible assumption) | assumption); omega)]; repeat (first | exact (Kd.C_below HR114.out HB.out) | (with_reducible refine Kd.C_alloc ?_ _) | (with_reducible refine Kd.C_drewN ?_ _) | (with_reducible refine Kd.C_drew ?_))) | (repeat (first | exact (Kd.C_below HR114.out HB.out) | (with_reducible refine Kd.C_alloc ?_ _) | (with_reducible refine Kd.C_drewN ?_ _) | (with_reducible refine Kd.C_drew ?_)))); (case aB => exact bel); (case aF => exact (fun _ _ => trivial)); (case aO => exact (rkk HO113.out)); (case aS => exact (below_size bel)); (case aL => have := LMc22.out; have hlx_ := (show (l0.take (t105 : Int).toNat).length = t105.toNat from (by rw [List.length_take]; have h_ : (t105 : Int) ≤ (l0.length : Int) := of_decide_eq_true (by first | (with_reducible assumption) | assumption); omega)); omega); intro v116 wq2 ho hb hg hat; rw [← Ny115.out] at ho; have n0_ := Aside0.mk (blk_grown (bkk BK107.out) hg (Kd.R_ne HO113.out BK107.out (by decide))); have n1_ := Aside0.mk (hb); have n2_ := Aside0.mk (ho); clear BK107; clear HB; clear HO113; have BK107 := n0_; have HB := n1_; have HO117 := n2_; clear n0_ n1_ n2_; clear ho hb hg hat) | ((with_reducible refine gate_builtin (b := .append) (xs := #[.tmp 71, .tmp 72]) rfl ?_); (try (refine gate_guard (by rfl) ?_; dsimp only)); at_builtin; refine Kd.R_append (Kd.int .u8) (w0 := w) w.heap.size rfl (.tmp 71) (.tmp 72) 22 5 (.int .u8 0) 1 rfl Tryd.underlying22 info5 rfl (by decide) (by omega) v116 y115 32 [.int .u8 32] (fun _ => True) (fun _ => False) rfl rfl ?aP (fun _ hk => hk.elim) ?aF ?aO ?aB ?aS ?aL ?_; (case aP => exact rfl); (case aB => exact bel); (case aF => exact (fun _ _ => trivial)); (case aO => exact (rkk HO117.out)); (case aS => exact (below_size bel)); (case aL => have := LMc23.out; omega); intro v119 wq3 ho hb hg hat; rw [← Ny118.out] at ho; have n0_ := Aside0.mk (blk_grown (bkk BK107.out) hg (Kd.R_ne HO117.out BK107.out (by decide))); have n1_ := Aside0.mk (hb); have n2_ := Aside0.mk (ho); clear BK107; clear HB; clear HO117; have BK107 := n0_; have HB := n1_; have HO120 := n2_; clear n0_ n1_ n2_; clear ho hb hg hat) | ((with_reducible refine gate_builtin (b := .append) (xs := #[.tmp 73, .tmp 74]) rfl ?_); (try (refine gate_guard (by rfl) ?_; dsimp only)); at_builtin; refine Kd.R_append_rows (Kd.int .u8) (w0 := w) w.heap.size rfl (.tmp 73) (.tmp 74) 22 5 (.int .u8 0) 1 rfl Tryd.underlying22 info5 rfl (by decide) (by omega) v119 y118 l2 _ _ _ (fun _ => True) (fun _ => False) rfl rfl ?aO ?aR (fun _ _ h => h) (fun _ h => h.elim) ?aF ?aB ?aS ?aL ?_; (case aR => repeat (first | exact (Kd.C_below HR2.out HB.out) | (with_reducible refine Kd.C_alloc ?_ _) | (with_reducible refine Kd.C_drewN ?_ _) | (with_reducible refine Kd.C_drew ?_))); (case aB => exact bel); (case aF => exact (fun _ _ => trivial)); (case aO => exact (rkk HO120.out)); (case aS => exact (below_size bel)); (case aL => have := LMc24.out; omega); intro v122 wq4 ho hb hg hat; rw [← Ny121.out] at ho; have n0_ := Aside0.mk (blk_grown (bkk BK107.out) hg (Kd.R_ne HO120.out BK107.out (by decide))); have n1_ := Aside0.mk (hb); have n2_ := Aside0.mk (ho); clear BK107; clear HB; clear HO120; have BK107 := n0_; have HB := n1_; have HO123 := n2_; clear n0_ n1_ n2_; clear ho hb hg hat; obtain ⟨Aoq0, coq0, eo72⟩ := Kd.R_slice HO123.out; subst eo72) | ((with_reducible refine gate_callee (f := 10) rfl ?_); refine goesL_ (some 79) rfl rfl Tryd.func10 (by kernel_rfl) rfl #[.slice Aoq0 y121.length coq0, .int .i64 a1] rfl gl_ ?_; (with_reducible refine (lex_Next.calls kj8 _ _ y121 a1 t124 t125 t126 t127 t128 t129 _ ?side1 ?side2 A25.out).mono ?_); (case side1 => repeat (first | exact (Kd.R_reads' HO123.out).2.2 | (with_reducible refine Kd.C_alloc ?_ _) | (with_reducible refine Kd.C_drewN ?_ _) | (with_reducible refine Kd.C_drew ?_))); (case side2 => exact (Kd.R_reads' HO123.out).2.1); rintro e wq5 ⟨rfl, hb⟩; refine ⟨_, rfl, ?_⟩; have n0_ := Aside0.mk (Kd.R_below (rkk HO123.out) hb); have n1_ := Aside0.mk (blk_below (bkk BK107.out) hb); have n2_ := Aside0.mk (below_step bel hb); clear HO123; clear BK107; clear HB; have HO123 := n0_; have BK107 := n1_; have HB := n2_; clear n0_ n1_ n2_; (try clear hb); (try clear hb2); (try clear hk); (try clear hi)) | ((with_reducible refine gate_dst (N := 13) rfl ?_); (try (refine gate_guard (by rfl) ?_; dsimp only)); refine box_event ?hg (N := 13) ?hd (cs := #[.int .i64 0, .int .i64 0, .int .i64 0, .string (⟨#[]⟩ : ByteArray)]) (t := 27) ?hr ?_; (case hd => rfl); (case hg => rfl); (case hr => first | (go_simp; done) | (go_simp; rfl)); intro gb130 hg wq6 hbox hb; have n0_ := Aside0.mk (Kd.R_below (rkk HO123.out) hb); have n1_ := Aside0.mk (blk_below (bkk BK107.out) hb); have n2_ := Aside0.mk (below_step bel hb); have n3_ := Aside0.mk (hbox); have n4_ := Aside0.mk ((by rw [hg]; exact (below_size bel) : w.heap.size ≤ gb130)); have n5_ := Aside0.mk ((by rw [hg]; exact (below_size bel) : w.heap.size ≤ gb130)); have n6_ := Aside0.mk ((by rw [hg]; exact Nat.ne_of_lt (blk_lt (bkk BK107.out)) : gb107 ≠ gb130)); have n7_ := Aside0.mk ((by rw [hg]; exact Nat.ne_of_gt (blk_lt (bkk BK107.out)) : gb130 ≠ gb107)); clear HO123; clear BK107; clear HB; have HO123 := n0_; have BK107 := n1_; have HB := n2_; have BK130 := n3_; have GW130 := n4_; have GE130 := n5_; have NB107_130 := n6_; have NB130_107 := n7_; clear n0_ n1_ n2_ n3_ n4_ n5_ n6_ n7_; clear hb hbox hg; have hnbq0 := NB130_107.out; have hncq0 := NB107_130.out; have hczq4 : wq6.cell? ⟨gb130, 0, none⟩ = some (.int .i64 0) := (blk_cell BK130.out 0).trans rfl; have hczq5 : wq6.cell? ⟨gb130, 1, none⟩ = some (.int .i64 0) := (blk_cell BK130.out 1).trans rfl; have hczq6 : wq6.cell? ⟨gb130, 2, none⟩ = some (.int .i64 0) := (blk_cell BK130.out 2).trans rfl; have hczq7 : wq6.cell? ⟨gb130, 3, none⟩ = some (.string (⟨#[]⟩ : ByteArray)) := (blk_cell BK130.out 3).trans rfl; have hfzq4 := blk_frozen BK130.out 0; have hfzq5 := blk_frozen BK130.out 1; have hfzq6 := blk_frozen BK130.out 2; have hfzq7 := blk_frozen BK130.out 3; have hczq8 : wq6.cell? ⟨gb107, 0, none⟩ = some (.int .i64 t101) := (blk_cell BK107.out 0).trans rfl; have hczq9 : wq6.cell? ⟨gb107, 1, none⟩ = some (.int .i64 t102) := (blk_cell BK107.out 1).trans rfl; have hczq10 : wq6.cell? ⟨gb107, 2, none⟩ = some (.int .i64 t103) := (blk_cell BK107.out 2).trans rfl; have hczq11 : wq6.cell? ⟨gb107, 3, none⟩ = some (.string t104) := (blk_cell BK107.out 3).trans rfl; have hfzq8 := blk_frozen BK107.out 0; have hfzq9 := blk_frozen BK107.out 1; have hfzq10 := blk_frozen BK107.out 2; have hfzq11 := blk_frozen BK107.out 3) | ((with_reducible refine gate_callee (f := 12) rfl ?_); refine goesL_ (some 91) rfl rfl Tryd.func12 (by kernel_rfl) rfl #[] rfl gl_ ?_; (with_reducible refine (erasurelaw14_awake.calls  true _ (Tab.below HT.out bel) A59.out).mono ?_); rintro e wq7 ⟨rfl, hb⟩; refine ⟨_, rfl, ?_⟩; have n0_ := Aside0.mk (Kd.R_below (by (with_reducible repeat (first | apply Kd.R_alloc | apply Kd.R_drewN | apply Kd.R_drew)); exact (Kd.R_mono (Kd.R_far (p := ⟨gb130, 3, none⟩) (Kd.R_far (p := ⟨gb130, 2, none⟩) (Kd.R_far (p := ⟨gb130, 1, none⟩) (Kd.R_far (p := ⟨gb130, 0, none⟩) (Kd.R_types HO123.out BK130.out (by decide)) (fun _ hk => hk.2) (.int .i64 t124)) (fun _ hk => hk.2) (.int .i64 t125)) (fun _ hk => hk.2) (.int .i64 t126)) (fun _ hk => hk.2) (.string t127)) (fun _ h_ => h_.1))) hb); have n1_ := Aside0.mk (blk_below (g := gb107) (o := .cells #[.int .i64 t101, .int .i64 t102, .int .i64 t103, .string t104] 27 (0, 0)) blks hb); have n2_ := Aside0.mk (blk_below (g := gb130) (o := .cells #[.int .i64 t124, .int .i64 t125, .int .i64 t126, .string t127] 27 (0, 0)) (by (with_reducible repeat (first | refine blk_drewN ?_ _ | refine blk_drew ?_ | refine blk_alloc ?_ _)); refine blk_put (cs := #[.int .i64 t124, .int .i64 t125, .int .i64 t126, .string (⟨#[]⟩ : ByteArray)]) ?_ 3 _ rfl; (with_reducible repeat (first | refine blk_drewN ?_ _ | refine blk_drew ?_ | refine blk_alloc ?_ _)); refine blk_put (cs := #[.int .i64 t124, .int .i64 t125, .int .i64 0, .string (⟨#[]⟩ : ByteArray)]) ?_ 2 _ rfl; (with_reducible repeat (first | refine blk_drewN ?_ _ | refine blk_drew ?_ | refine blk_alloc ?_ _)); refine blk_put (cs := #[.int .i64 t124, .int .i64 0, .int .i64 0, .string (⟨#[]⟩ : ByteArray)]) ?_ 1 _ rfl; (with_reducible repeat (first | refine blk_drewN ?_ _ | refine blk_drew ?_ | refine blk_alloc ?_ _)); refine blk_put (cs := #[.int .i64 0, .int .i64 0, .int .i64 0, .string (⟨#[]⟩ : ByteArray)]) ?_ 0 _ rfl; (with_reducible repeat (first | refine blk_drewN ?_ _ | refine blk_drew ?_ | refine blk_alloc ?_ _)); exact BK130.out) hb); have n3_ := Aside0.mk (below_step bel hb); clear HO123; clear BK107; clear BK130; clear HB; have HO123 := n0_; have BK107 := n1_; have BK130 := n2_; have HB := n3_; clear n0_ n1_ n2_ n3_; (try clear hb); (try clear hb2); (try clear hk); (try clear hi); have hczq12 : wq7.cell? ⟨gb130, 0, none⟩ = some (.int .i64 t124) := (blk_cell BK130.out 0).trans rfl; have hczq13 : wq7.cell? ⟨gb130, 1, none⟩ = some (.int .i64 t125) := (blk_cell BK130.out 1).trans rfl; have hczq14 : wq7.cell? ⟨gb130, 2, none⟩ = some (.int .i64 t126) := (blk_cell BK130.out 2).trans rfl; have hczq15 : wq7.cell? ⟨gb130, 3, none⟩ = some (.string t127) := (blk_cell BK130.out 3).trans rfl; have hfzq12 := blk_frozen BK130.out 0; have hfzq13 := blk_frozen BK130.out 1; have hfzq14 := blk_frozen BK130.out 2; have hfzq15 := blk_frozen BK130.out 3; have hczq16 : wq7.cell? ⟨gb107, 0, none⟩ = some (.int .i64 t101) := (blk_cell BK107.out 0).trans rfl; have hczq17 : wq7.cell? ⟨gb107, 1, none⟩ = some (.int .i64 t102) := (blk_cell BK107.out 1).trans rfl; have hczq18 : wq7.cell? ⟨gb107, 2, none⟩ = some (.int .i64 t103) := (blk_cell BK107.out 2).trans rfl; have hczq19 : wq7.cell? ⟨gb107, 3, none⟩ = some (.string t104) := (blk_cell BK107.out 3).trans rfl; have hfzq16 := blk_frozen BK107.out 0; have hfzq17 := blk_frozen BK107.out 1; have hfzq18 := blk_frozen BK107.out 2; have hfzq19 := blk_frozen BK107.out 3))
                  go_ret
                  exact ⟨ee_, bel⟩
                 ·rw [if_neg c63] at H
                  exact absurd H (by simp)
                ·rw [if_neg c62] at H
                 exact absurd H (by simp)
               ·rw [if_neg c61] at H
                exact absurd H (by simp)
              ·replace c60 := Bool.eq_false_iff.mpr c60
               subst c60
               have H1 : (none : Option Bool) = some r := by rw [if_neg (show ¬ (false = true) by decide)] at H; exact H
               clear H
               have H := H1
               clear H1
               exact absurd H (by simp)
            ·rw [if_neg c24] at H
             exact absurd H (by simp)
           ·rw [if_neg c23] at H
            exact absurd H (by simp)
          ·rw [if_neg c22] at H
           exact absurd H (by simp)
         ·rw [if_neg c21] at H
          exact absurd H (by simp)
        ·rw [if_neg c20] at H
         exact absurd H (by simp)
    ·rw [if_neg c8] at H
     have c8b0 : (t106 == 0) = false := beq_eq_false_iff_ne.mpr c8
     have c8b1 : (t106 != 0) = true := bne_iff_ne.mpr c8
     replace H := Option.bind_eq_some_iff.mp H
     obtain ⟨t108, A1430, H⟩ := H
     replace H : (if t108 = true then (if t105 = 0 then (some (t101 == 0 && ((t102 == 0 && (t103 == 0)) && (t104.toList == ([] : List UInt8))))) else (none)) else (none)) = some r := H
     have A143 := Aside0.mk A1430
     clear A1430
     by_cases c144 : t108 = true
     ·subst c144
      have H1 : (if t105 = 0 then (some (t101 == 0 && ((t102 == 0 && (t103 == 0)) && (t104.toList == ([] : List UInt8))))) else (none)) = some r := by rw [if_pos rfl] at H; exact H
      clear H
      have H := H1
      clear H1
      by_cases c145 : t105 = 0
      ·rw [if_pos c145] at H
       have cq0 : (t105 == 0) = true := beq_iff_eq.mpr c145
       have cq1 : (t105 != 0) = false := bne_eq_false_iff_eq.mpr c145
       clear c145
       obtain rfl := Option.some.inj H
       go_wp2_with (first | ((with_reducible refine gate_callee (f := 10) rfl ?_); refine goesL_ (some 27) rfl rfl Tryd.func10 (by kernel_rfl) rfl #[.slice A0 l0.length c0, .int .i64 a1] rfl gl_ ?_; (with_reducible refine (lex_Next.calls kj3 _ _ l0 a1 t101 t102 t103 t104 t105 t106 _ ?side1 ?side2 A7.out).mono ?_); (case side1 => repeat (first | exact (Kd.C_below HR0.out HB.out) | (with_reducible refine Kd.C_alloc ?_ _) | (with_reducible refine Kd.C_drewN ?_ _) | (with_reducible refine Kd.C_drew ?_))); (case side2 => exact HC0.out); rintro e wq0 ⟨rfl, hb⟩; refine ⟨_, rfl, ?_⟩; have n0_ := Aside0.mk (below_step bel hb); clear HB; have HB := n0_; clear n0_; (try clear hb); (try clear hb2); (try clear hk); (try clear hi)) | ((with_reducible refine gate_dst (N := 7) rfl ?_); (try (refine gate_guard (by rfl) ?_; dsimp only)); refine box_event ?hg (N := 7) ?hd (cs := #[.int .i64 0, .int .i64 0, .int .i64 0, .string (⟨#[]⟩ : ByteArray)]) (t := 27) ?hr ?_; (case hd => rfl); (case hg => rfl); (case hr => first | (go_simp; done) | (go_simp; rfl)); intro gb107 hg wq1 hbox hb; have n0_ := Aside0.mk (below_step bel hb); have n1_ := Aside0.mk (hbox); have n2_ := Aside0.mk ((by rw [hg]; exact (below_size bel) : w.heap.size ≤ gb107)); have n3_ := Aside0.mk ((by rw [hg]; exact (below_size bel) : w.heap.size ≤ gb107)); clear HB; have HB := n0_; have BK107 := n1_; have GW107 := n2_; have GE107 := n3_; clear n0_ n1_ n2_ n3_; clear hb hbox hg; have hczq0 : wq1.cell? ⟨gb107, 0, none⟩ = some (.int .i64 0) := (blk_cell BK107.out 0).trans rfl; have hczq1 : wq1.cell? ⟨gb107, 1, none⟩ = some (.int .i64 0) := (blk_cell BK107.out 1).trans rfl; have hczq2 : wq1.cell? ⟨gb107, 2, none⟩ = some (.int .i64 0) := (blk_cell BK107.out 2).trans rfl; have hczq3 : wq1.cell? ⟨gb107, 3, none⟩ = some (.string (⟨#[]⟩ : ByteArray)) := (blk_cell BK107.out 3).trans rfl; have hfzq0 := blk_frozen BK107.out 0; have hfzq1 := blk_frozen BK107.out 1; have hfzq2 := blk_frozen BK107.out 2; have hfzq3 := blk_frozen BK107.out 3) | ((with_reducible refine gate_callee (f := 12) rfl ?_); refine goesL_ (some 33) rfl rfl Tryd.func12 (by kernel_rfl) rfl #[] rfl gl_ ?_; (with_reducible refine (erasurelaw14_awake.calls  true _ (Tab.below HT.out bel) A143.out).mono ?_); rintro e wq2 ⟨rfl, hb⟩; refine ⟨_, rfl, ?_⟩; have n0_ := Aside0.mk (blk_below (g := gb107) (o := .cells #[.int .i64 t101, .int .i64 t102, .int .i64 t103, .string t104] 27 (0, 0)) (by (with_reducible repeat (first | refine blk_drewN ?_ _ | refine blk_drew ?_ | refine blk_alloc ?_ _)); refine blk_put (cs := #[.int .i64 t101, .int .i64 t102, .int .i64 t103, .string (⟨#[]⟩ : ByteArray)]) ?_ 3 _ rfl; (with_reducible repeat (first | refine blk_drewN ?_ _ | refine blk_drew ?_ | refine blk_alloc ?_ _)); refine blk_put (cs := #[.int .i64 t101, .int .i64 t102, .int .i64 0, .string (⟨#[]⟩ : ByteArray)]) ?_ 2 _ rfl; (with_reducible repeat (first | refine blk_drewN ?_ _ | refine blk_drew ?_ | refine blk_alloc ?_ _)); refine blk_put (cs := #[.int .i64 t101, .int .i64 0, .int .i64 0, .string (⟨#[]⟩ : ByteArray)]) ?_ 1 _ rfl; (with_reducible repeat (first | refine blk_drewN ?_ _ | refine blk_drew ?_ | refine blk_alloc ?_ _)); refine blk_put (cs := #[.int .i64 0, .int .i64 0, .int .i64 0, .string (⟨#[]⟩ : ByteArray)]) ?_ 0 _ rfl; (with_reducible repeat (first | refine blk_drewN ?_ _ | refine blk_drew ?_ | refine blk_alloc ?_ _)); exact BK107.out) hb); have n1_ := Aside0.mk (below_step bel hb); clear BK107; clear HB; have BK107 := n0_; have HB := n1_; clear n0_ n1_; (try clear hb); (try clear hb2); (try clear hk); (try clear hi); have hczq4 : wq2.cell? ⟨gb107, 0, none⟩ = some (.int .i64 t101) := (blk_cell BK107.out 0).trans rfl; have hczq5 : wq2.cell? ⟨gb107, 1, none⟩ = some (.int .i64 t102) := (blk_cell BK107.out 1).trans rfl; have hczq6 : wq2.cell? ⟨gb107, 2, none⟩ = some (.int .i64 t103) := (blk_cell BK107.out 2).trans rfl; have hczq7 : wq2.cell? ⟨gb107, 3, none⟩ = some (.string t104) := (blk_cell BK107.out 3).trans rfl; have hfzq4 := blk_frozen BK107.out 0; have hfzq5 := blk_frozen BK107.out 1; have hfzq6 := blk_frozen BK107.out 2; have hfzq7 := blk_frozen BK107.out 3))
       go_ret
       exact ⟨ee_, bel⟩
      ·rw [if_neg c145] at H
       exact absurd H (by simp)
     ·replace c144 := Bool.eq_false_iff.mpr c144
      subst c144
      have H1 : (none : Option Bool) = some r := by rw [if_neg (show ¬ (false = true) by decide)] at H; exact H
      clear H
      have H := H1
      clear H1
      exact absurd H (by simp)
def erasurelaw14_LexOn.Pure : Prop := ∀ (l0 : List Int) (a1 : Int) (l2 : List Int), l0.length ≤ maxLen → l0.length * 1 ≤ 140737488351232 → (∀ x ∈ l0, (Lit.int .u8 x).wf = true) → (Lit.int .i64 a1).wf = true → l2.length ≤ maxLen → l2.length * 1 ≤ 140737488351232 → (∀ x ∈ l2, (Lit.int .u8 x).wf = true) → ∃ k, erasurelaw14_LexOn.f k l0 a1 l2 = some true
end Go.Proofs.YtnhgnejfagncpaaDoor.O
end
section
namespace Go.Proofs.YtnhgnejfagncpaaDoor.L
open Go.RowKit Go.Proofs.YtnhgnejfagncpaaDoorW.PrintWords Go.Proofs.YtnhgnejfagncpaaDoorW.PrintLast Go.Proofs.YtnhgnejfagncpaaDoorW.PrintMore Go.Proofs.YtnhgnejfagncpaaDoor.H Go.Proofs.YtnhgnejfagncpaaDoor.A Go.Proofs.YtnhgnejfagncpaaDoor.B Go.Proofs.YtnhgnejfagncpaaDoor.E
attribute [local go_sem] max2_int min2_int max_two min_two max_three min_three max_four min_four   -- for this text's walks alone
set_option linter.unusedVariables false
set_option linter.unusedSimpArgs false
end Go.Proofs.YtnhgnejfagncpaaDoor.L
end
section
namespace Go.Proofs.YtnhgnejfagncpaaDoor.L
open Go.RowKit Go.Proofs.YtnhgnejfagncpaaDoorW.PrintWords Go.Proofs.YtnhgnejfagncpaaDoorW.PrintLast Go.Proofs.YtnhgnejfagncpaaDoorW.PrintMore Go.Proofs.YtnhgnejfagncpaaDoor.H Go.Proofs.YtnhgnejfagncpaaDoor.A Go.Proofs.YtnhgnejfagncpaaDoor.B Go.Proofs.YtnhgnejfagncpaaDoor.E
attribute [local go_sem] max2_int min2_int max_two min_two max_three min_three max_four min_four   -- for this text's walks alone
set_option linter.unusedVariables false
set_option linter.unusedSimpArgs false
end Go.Proofs.YtnhgnejfagncpaaDoor.L
end
section
namespace Go.Proofs.YtnhgnejfagncpaaDoor.L
open Go.RowKit Go.Proofs.YtnhgnejfagncpaaDoorW.PrintWords Go.Proofs.YtnhgnejfagncpaaDoorW.PrintLast Go.Proofs.YtnhgnejfagncpaaDoorW.PrintMore Go.Proofs.YtnhgnejfagncpaaDoor.H Go.Proofs.YtnhgnejfagncpaaDoor.A Go.Proofs.YtnhgnejfagncpaaDoor.B Go.Proofs.YtnhgnejfagncpaaDoor.E
attribute [local go_sem] max2_int min2_int max_two min_two max_three min_three max_four min_four   -- for this text's walks alone
set_option linter.unusedVariables false
set_option linter.unusedSimpArgs false
end Go.Proofs.YtnhgnejfagncpaaDoor.L
end
section
namespace Go.Proofs.YtnhgnejfagncpaaDoor.L
open Go.RowKit Go.Proofs.YtnhgnejfagncpaaDoorW.PrintWords Go.Proofs.YtnhgnejfagncpaaDoorW.PrintLast Go.Proofs.YtnhgnejfagncpaaDoorW.PrintMore Go.Proofs.YtnhgnejfagncpaaDoor.H
set_option linter.unusedVariables false
set_option linter.unusedSimpArgs false
def hexS : ByteArray := ⟨#[48, 49, 50, 51, 52, 53, 54, 55, 56, 57, 97, 98, 99, 100, 101, 102]⟩
def erasureref14_two.f (a0 : Int) : Option ByteArray := if 0 ≤ a0 ∧ a0 < 256 then some (hexS.extract (a0 / 16).toNat (a0 / 16 + 1).toNat ++ hexS.extract (a0 % 16).toNat (a0 % 16 + 1).toNat) else none
end Go.Proofs.YtnhgnejfagncpaaDoor.L
end
section
namespace Go.Proofs.YtnhgnejfagncpaaDoor.L
open Go.RowKit Go.Proofs.YtnhgnejfagncpaaDoorW.PrintWords Go.Proofs.YtnhgnejfagncpaaDoorW.PrintLast Go.Proofs.YtnhgnejfagncpaaDoorW.PrintMore Go.Proofs.YtnhgnejfagncpaaDoor.H Go.Proofs.YtnhgnejfagncpaaDoor.A Go.Proofs.YtnhgnejfagncpaaDoor.B Go.Proofs.YtnhgnejfagncpaaDoor.E
attribute [local go_sem] max2_int min2_int max_two min_two max_three min_three max_four min_four   -- for this text's walks alone
set_option linter.unusedVariables false
set_option linter.unusedSimpArgs false
end Go.Proofs.YtnhgnejfagncpaaDoor.L
end
section
namespace Go.Proofs.YtnhgnejfagncpaaDoor.L
open Go.RowKit Go.Proofs.YtnhgnejfagncpaaDoorW.PrintWords Go.Proofs.YtnhgnejfagncpaaDoorW.PrintLast Go.Proofs.YtnhgnejfagncpaaDoorW.PrintMore Go.Proofs.YtnhgnejfagncpaaDoor.H Go.Proofs.YtnhgnejfagncpaaDoor.A Go.Proofs.YtnhgnejfagncpaaDoor.B Go.Proofs.YtnhgnejfagncpaaDoor.E
attribute [local go_sem] max2_int min2_int max_two min_two max_three min_three max_four min_four   -- for this text's walks alone
set_option linter.unusedVariables false
set_option linter.unusedSimpArgs false
end Go.Proofs.YtnhgnejfagncpaaDoor.L
end
section
namespace Go.Proofs.YtnhgnejfagncpaaDoor.E
open Go.RowKit Go.Proofs.YtnhgnejfagncpaaDoorW.PrintWords Go.Proofs.YtnhgnejfagncpaaDoorW.PrintLast Go.Proofs.YtnhgnejfagncpaaDoorW.PrintMore Go.Proofs.YtnhgnejfagncpaaDoor.H Go.Proofs.YtnhgnejfagncpaaDoor.A Go.Proofs.YtnhgnejfagncpaaDoor.B
attribute [local go_sem] max2_int min2_int max_two min_two max_three min_three max_four min_four   -- for this text's walks alone
set_option linter.unusedVariables false
set_option linter.unusedSimpArgs false
end Go.Proofs.YtnhgnejfagncpaaDoor.E
end
section
namespace Go.Proofs.YtnhgnejfagncpaaDoor.E
open Go.RowKit Go.Proofs.YtnhgnejfagncpaaDoorW.PrintWords Go.Proofs.YtnhgnejfagncpaaDoorW.PrintLast Go.Proofs.YtnhgnejfagncpaaDoorW.PrintMore Go.Proofs.YtnhgnejfagncpaaDoor.H Go.Proofs.YtnhgnejfagncpaaDoor.A Go.Proofs.YtnhgnejfagncpaaDoor.B
attribute [local go_sem] max2_int min2_int max_two min_two max_three min_three max_four min_four   -- for this text's walks alone
set_option linter.unusedVariables false
set_option linter.unusedSimpArgs false
end Go.Proofs.YtnhgnejfagncpaaDoor.E
end
section
namespace Go.Proofs.YtnhgnejfagncpaaDoor.E
open Go.RowKit Go.Proofs.YtnhgnejfagncpaaDoorW.PrintWords Go.Proofs.YtnhgnejfagncpaaDoorW.PrintLast Go.Proofs.YtnhgnejfagncpaaDoorW.PrintMore Go.Proofs.YtnhgnejfagncpaaDoor.H Go.Proofs.YtnhgnejfagncpaaDoor.A Go.Proofs.YtnhgnejfagncpaaDoor.B
attribute [local go_sem] max2_int min2_int max_two min_two max_three min_three max_four min_four   -- for this text's walks alone
set_option linter.unusedVariables false
set_option linter.unusedSimpArgs false
end Go.Proofs.YtnhgnejfagncpaaDoor.E
end
section
namespace Go.Proofs.YtnhgnejfagncpaaDoor.L
open Go.RowKit Go.Proofs.YtnhgnejfagncpaaDoorW.PrintWords Go.Proofs.YtnhgnejfagncpaaDoorW.PrintLast Go.Proofs.YtnhgnejfagncpaaDoorW.PrintMore Go.Proofs.YtnhgnejfagncpaaDoor.H Go.Proofs.YtnhgnejfagncpaaDoor.A Go.Proofs.YtnhgnejfagncpaaDoor.B Go.Proofs.YtnhgnejfagncpaaDoor.E
attribute [local go_sem] max2_int min2_int max_two min_two max_three min_three max_four min_four   -- for this text's walks alone
set_option linter.unusedVariables false
set_option linter.unusedSimpArgs false
end Go.Proofs.YtnhgnejfagncpaaDoor.L
end
section
namespace Go.Proofs.YtnhgnejfagncpaaDoor.E
open Go.RowKit Go.Proofs.YtnhgnejfagncpaaDoorW.PrintWords Go.Proofs.YtnhgnejfagncpaaDoorW.PrintLast Go.Proofs.YtnhgnejfagncpaaDoorW.PrintMore Go.Proofs.YtnhgnejfagncpaaDoor.H Go.Proofs.YtnhgnejfagncpaaDoor.A Go.Proofs.YtnhgnejfagncpaaDoor.B
attribute [local go_sem] max2_int min2_int max_two min_two max_three min_three max_four min_four   -- for this text's walks alone
set_option linter.unusedVariables false
set_option linter.unusedSimpArgs false
end Go.Proofs.YtnhgnejfagncpaaDoor.E
end
section
namespace Go.Proofs.YtnhgnejfagncpaaDoor.L
open Go.RowKit Go.Proofs.YtnhgnejfagncpaaDoorW.PrintWords Go.Proofs.YtnhgnejfagncpaaDoorW.PrintLast Go.Proofs.YtnhgnejfagncpaaDoorW.PrintMore Go.Proofs.YtnhgnejfagncpaaDoor.H Go.Proofs.YtnhgnejfagncpaaDoor.A Go.Proofs.YtnhgnejfagncpaaDoor.B Go.Proofs.YtnhgnejfagncpaaDoor.E
attribute [local go_sem] max2_int min2_int max_two min_two max_three min_three max_four min_four   -- for this text's walks alone
set_option linter.unusedVariables false
set_option linter.unusedSimpArgs false
attribute [local go_sem high] eqA25
end Go.Proofs.YtnhgnejfagncpaaDoor.L
end
section
namespace Go.Proofs.YtnhgnejfagncpaaDoor.L
open Go.RowKit Go.Proofs.YtnhgnejfagncpaaDoorW.PrintWords Go.Proofs.YtnhgnejfagncpaaDoorW.PrintLast Go.Proofs.YtnhgnejfagncpaaDoorW.PrintMore Go.Proofs.YtnhgnejfagncpaaDoor.H Go.Proofs.YtnhgnejfagncpaaDoor.A Go.Proofs.YtnhgnejfagncpaaDoor.B Go.Proofs.YtnhgnejfagncpaaDoor.E
attribute [local go_sem] max2_int min2_int max_two min_two max_three min_three max_four min_four   -- for this text's walks alone
set_option linter.unusedVariables false
set_option linter.unusedSimpArgs false
end Go.Proofs.YtnhgnejfagncpaaDoor.L
end
section
namespace Go.Proofs.YtnhgnejfagncpaaDoor.Plain
open Go.RowKit Go.Proofs.YtnhgnejfagncpaaDoor.A Go.Proofs.YtnhgnejfagncpaaDoor.H Go.Proofs.YtnhgnejfagncpaaDoorW.PrintWords Go.Proofs.YtnhgnejfagncpaaDoorW.PrintLast Go.Proofs.YtnhgnejfagncpaaDoorW.PrintMore
theorem wrap_small (n : Int) (h0 : -9223372036854775808 ≤ n) (h1 : n < 9223372036854775808) : wrap64 n = n := by
  unfold wrap64
  omega
theorem wu (n : Int) (h0 : 0 ≤ n) (h1 : n < 18446744073709551616) : IntKind.u64.wrap n = n := by
  rw [IntKind.wrap_u64]
  omega
theorem tm10 (n : Nat) : Int.tmod (n : Int) 10 = ((n % 10 : Nat) : Int) := rfl
theorem td10 (n : Nat) : Int.tdiv (n : Int) 10 = ((n / 10 : Nat) : Int) := rfl
theorem shl10 : shl .u64 10 60 = 11529215046068469760 := by decide
theorem lz10 : bits_LeadingZeros64.f 10 = some 60 := by decide
theorem shl60 (n : Nat) : shl .u64 (n : Int) 60 = ((n % 16 * 1152921504606846976 : Nat) : Int) := by
  unfold shl
  rw [IntKind.wrap_u64, show (2 : Int) ^ min (60 : Int).toNat IntKind.u64.bits = 1152921504606846976 from by decide]
  omega
theorem shr4 (n : Nat) : shr .u64 (n : Int) 4 = ((n / 16 : Nat) : Int) := by
  unfold shr
  rw [show (2 : Int) ^ min (4 : Int).toNat IntKind.u64.bits = 16 from by decide]
  omega
theorem shr60 (n : Nat) : shr .u64 (n : Int) 60 = ((n / 1152921504606846976 : Nat) : Int) := by
  unfold shr
  rw [show (2 : Int) ^ min (60 : Int).toNat IntKind.u64.bits = 1152921504606846976 from by decide]
  omega
theorem or60 (a b : Nat) (ha : a < 16) (hb : b < 1152921504606846976) : Go.bits .or .u64 ((a * 1152921504606846976 : Nat) : Int) (b : Int) = ((a * 1152921504606846976 + b : Nat) : Int) := by
  rw [bits_or_u64_nat _ _ (by omega) (by omega)]
  have h := Nat.two_pow_add_eq_or_of_lt (i := 60) (b := b) (by omega) a
  have h2 : (2 : Nat) ^ 60 = 1152921504606846976 := by decide
  rw [h2] at h
  rw [Nat.mul_comm a, h]
theorem and32 (n : Nat) (hn : n < 18446744073709551616) : Go.bits .and .u64 (n : Int) 4294967295 = ((n % 4294967296 : Nat) : Int) := by
  have h := bits_and_u64_nat n 4294967295 hn (by decide)
  rw [show ((4294967295 : Nat) : Int) = 4294967295 from rfl] at h
  rw [h]
  have h2 := Nat.and_two_pow_sub_one_eq_mod n 32
  rw [show (2 : Nat) ^ 32 - 1 = 4294967295 from by decide, show (2 : Nat) ^ 32 = 4294967296 from by decide] at h2
  rw [h2]
theorem wsub (X r m : Int) (h0 : 0 ≤ r + m) (h1 : r + m < 18446744073709551616) : IntKind.u64.wrap ((IntKind.u64.wrap ((IntKind.u64.wrap (X + r)) + m)) - (IntKind.u64.wrap X)) = r + m := by
  rw [IntKind.wrap_u64, IntKind.wrap_u64, IntKind.wrap_u64, IntKind.wrap_u64]
  omega
set_option maxRecDepth 100000 in
theorem key10 (N u l m q1 rh v q0 rr : Nat) (h1 : N = 16 * u + l) (h2 : l * 268435456 = m) (h3 : u = q1 * 2684354560 + rh) (h4 : v = rh * 4294967296 + m) (h5 : v = q0 * 2684354560 + rr) : N * 1152921504606846976 = 11529215046068469760 * (q1 * 4294967296 + q0) + rr * 4294967296 := by
  grind
set_option maxRecDepth 100000 in
theorem last10 (N Q rr : Nat) (hr : rr < 2684354560) (h : N * 1152921504606846976 = 11529215046068469760 * Q + rr * 4294967296) : rr * 4294967296 / 1152921504606846976 = N % 10 ∧ Q = N / 10 := by
  have h1 : N - 10 * Q = rr * 4294967296 / 1152921504606846976 := by omega
  have h2 : rr * 4294967296 / 1152921504606846976 < 10 := by omega
  omega
set_option maxHeartbeats 4000000 in
theorem div64_10 (N : Nat) (hN : N < 184467440737095516160) (k : Nat) (hk : 6 ≤ k) :
    bits_Div64.f k ((N / 18446744073709551616 : Nat) : Int) ((N % 18446744073709551616 : Nat) : Int) 10 = some (((N / 10 : Nat) : Int), ((N % 10 : Nat) : Int)) := by
  obtain ⟨k, rfl⟩ : ∃ m, k = m + 6 := ⟨k - 6, by omega⟩
  obtain ⟨hi, hhi⟩ : ∃ x, N / 18446744073709551616 = x := ⟨_, rfl⟩
  obtain ⟨lo, hlo⟩ : ∃ x, N % 18446744073709551616 = x := ⟨_, rfl⟩
  rw [hhi, hlo]
  have hhi10 : hi < 10 := by omega
  have hlo64 : lo < 18446744073709551616 := by omega
  unfold bits_Div64.f
  rw [if_neg (by decide), if_neg (by omega)]
  by_cases h0 : hi = 0
  · subst h0
    rw [if_pos (show ((0 : Nat) : Int) = 0 from rfl)]
    have h1 : N = lo := by omega
    subst h1
    rw [show Int.tdiv (N : Int) 10 = ((N / 10 : Nat) : Int) from rfl, show Int.tmod (N : Int) 10 = ((N % 10 : Nat) : Int) from rfl, wu _ (by omega) (by omega)]
  · rw [if_neg (by omega), lz10, Option.bind_some]
    have e1 : IntKind.u64.wrap (60 : Int) = 60 := by decide
    have e2 : IntKind.u64.wrap (64 - (60 : Int)) = 4 := by decide
    have e3 : (11529215046068469760 : Int) / 4294967296 = 2684354560 := by decide
    have e4 : Go.bits .and .u64 11529215046068469760 4294967295 = 0 := by decide
    rw [e1, e2, if_pos (by decide), if_pos (by decide), shl10, e3, e4, if_neg (by decide), shl60, shl60, shr4, Nat.mod_eq_of_lt (show hi < 16 by omega), or60 hi (lo / 16) (by omega) (by omega), and32 _ (by omega)]
    obtain ⟨u, hu⟩ : ∃ x, hi * 1152921504606846976 + lo / 16 = x := ⟨_, rfl⟩
    rw [hu, show Int.tdiv (u : Int) 2684354560 = ((u / 2684354560 : Nat) : Int) from rfl]
    obtain ⟨q1, hq1⟩ : ∃ x, u / 2684354560 = x := ⟨_, rfl⟩
    rw [hq1]
    have b1 : q1 < 4294967296 := by omega
    rw [wu (q1 : Int) (by omega) (by omega), wu ((q1 : Int) * 2684354560) (by omega) (by omega), wu ((u : Int) - (q1 : Int) * 2684354560) (by omega) (by omega)]
    have e5 : ((lo % 16 * 1152921504606846976 : Nat) : Int) / 4294967296 = ((lo % 16 * 268435456 : Nat) : Int) := by omega
    have e6 : ((lo % 16 * 1152921504606846976 % 4294967296 : Nat) : Int) = 0 := by omega
    have e7 : (u : Int) - (q1 : Int) * 2684354560 = ((u % 2684354560 : Nat) : Int) := by omega
    obtain ⟨rh, hrh⟩ : ∃ x, u % 2684354560 = x := ⟨_, rfl⟩
    obtain ⟨m, hm⟩ : ∃ x, lo % 16 * 268435456 = x := ⟨_, rfl⟩
    rw [e5, e6, e7, hrh, hm]
    have b2 : rh < 2684354560 := by omega
    have b3 : m < 4294967296 := by omega
    rw [bits_Div64.l0, if_neg (by omega)]
    have c1 : decide (IntKind.u64.wrap ((q1 : Int) * 0) > IntKind.u64.wrap (IntKind.u64.wrap (4294967296 * (rh : Int)) + (m : Int))) = false := by
      rw [decide_eq_false_iff_not, Int.mul_zero, wu 0 (by decide) (by decide), wu (4294967296 * (rh : Int)) (by omega) (by omega), wu _ (by omega) (by omega)]
      omega
    rw [c1, bits_Div64.j1, if_neg (by decide), bits_Div64.j2, if_neg (by decide)]
    have e8 : IntKind.u64.wrap ((IntKind.u64.wrap ((IntKind.u64.wrap ((u : Int) * 4294967296)) + (m : Int))) - (IntKind.u64.wrap ((q1 : Int) * 11529215046068469760))) = ((rh * 4294967296 + m : Nat) : Int) := by
      have h := wsub ((q1 : Int) * 11529215046068469760) ((rh : Int) * 4294967296) (m : Int) (by omega) (by omega)
      rw [show (q1 : Int) * 11529215046068469760 + (rh : Int) * 4294967296 = (u : Int) * 4294967296 from by omega] at h
      rw [h]
      omega
    rw [e8]
    obtain ⟨v, hv⟩ : ∃ x, rh * 4294967296 + m = x := ⟨_, rfl⟩
    rw [hv, show Int.tdiv (v : Int) 2684354560 = ((v / 2684354560 : Nat) : Int) from rfl]
    obtain ⟨q0, hq0⟩ : ∃ x, v / 2684354560 = x := ⟨_, rfl⟩
    rw [hq0]
    have b4 : q0 < 4294967296 := by omega
    rw [wu (q0 : Int) (by omega) (by omega), wu ((q0 : Int) * 2684354560) (by omega) (by omega), wu ((v : Int) - (q0 : Int) * 2684354560) (by omega) (by omega)]
    have e9 : (v : Int) - (q0 : Int) * 2684354560 = ((v % 2684354560 : Nat) : Int) := by omega
    obtain ⟨rr, hrr⟩ : ∃ x, v % 2684354560 = x := ⟨_, rfl⟩
    rw [e9, hrr]
    have b5 : rr < 2684354560 := by omega
    rw [bits_Div64.l1, if_neg (by omega)]
    have c2 : decide (IntKind.u64.wrap ((q0 : Int) * 0) > IntKind.u64.wrap (IntKind.u64.wrap (4294967296 * (rr : Int)) + 0)) = false := by
      rw [decide_eq_false_iff_not, Int.mul_zero, wu 0 (by decide) (by decide), wu (4294967296 * (rr : Int)) (by omega) (by omega), wu _ (by omega) (by omega)]
      omega
    rw [c2, bits_Div64.j4, if_neg (by decide), if_pos (by decide)]
    have e10 : IntKind.u64.wrap ((IntKind.u64.wrap ((IntKind.u64.wrap ((v : Int) * 4294967296)) + 0)) - (IntKind.u64.wrap ((q0 : Int) * 11529215046068469760))) = ((rr * 4294967296 : Nat) : Int) := by
      have h := wsub ((q0 : Int) * 11529215046068469760) ((rr : Int) * 4294967296) 0 (by omega) (by omega)
      rw [show (q0 : Int) * 11529215046068469760 + (rr : Int) * 4294967296 = (v : Int) * 4294967296 from by omega] at h
      rw [h]
      omega
    rw [e10, shr60, wu ((q1 : Int) * 4294967296) (by omega) (by omega), wu _ (by omega) (by omega)]
    have n1 : N = 16 * u + lo % 16 := by omega
    have key : N * 1152921504606846976 = 11529215046068469760 * (q1 * 4294967296 + q0) + rr * 4294967296 := key10 N u (lo % 16) m q1 rh v q0 rr n1 hm (by omega) hv.symm (by omega)
    clear e8 e9 e10 e7 e5 e6 c1 c2 n1
    obtain ⟨r1, r3⟩ := last10 N _ rr b5 key
    have r2 : (q1 : Int) * 4294967296 + (q0 : Int) = ((N / 10 : Nat) : Int) := by rw [← r3]; omega
    rw [r1, r2]
set_option maxRecDepth 100000 in
theorem by_f (N : Nat) (hN : N < 340282366920938463463374607431768211456) (k : Nat) (hk : 6 ≤ k) :
    dec_wide_by.f k ((N / 18446744073709551616 : Nat) : Int) ((N % 18446744073709551616 : Nat) : Int) = some (((N / 10 / 18446744073709551616 : Nat) : Int), ((N / 10 % 18446744073709551616 : Nat) : Int), ((N % 10 : Nat) : Int)) := by
  unfold dec_wide_by.f
  have h := div64_10 (N / 18446744073709551616 % 10 * 18446744073709551616 + N % 18446744073709551616) (by omega) k hk
  rw [show (N / 18446744073709551616 % 10 * 18446744073709551616 + N % 18446744073709551616) / 18446744073709551616 = N / 18446744073709551616 % 10 from by omega, show (N / 18446744073709551616 % 10 * 18446744073709551616 + N % 18446744073709551616) % 18446744073709551616 = N % 18446744073709551616 from by omega] at h
  rw [tm10, h, Option.bind_some, td10, wu _ (by omega) (by omega)]
  have h1 : N / 18446744073709551616 / 10 = N / 10 / 18446744073709551616 := by omega
  have h2 : (N / 18446744073709551616 % 10 * 18446744073709551616 + N % 18446744073709551616) / 10 = N / 10 % 18446744073709551616 := by omega
  have h3 : (N / 18446744073709551616 % 10 * 18446744073709551616 + N % 18446744073709551616) % 10 = N % 10 := by omega
  rw [h1, h2, h3]
def strip : Nat → Nat → Nat × Nat
  | N, 0 => (N, 0)
  | N, s + 1 => if N % 10 = 0 then strip (N / 10) s else (N, s + 1)
def told (below : Bool) (N s : Nat) : Int × Int × Int :=
  if (strip N s).1 > 999999999999999999 ∨ (strip N s).2 > 9 then (0, 0, 5) else (if below then -((strip N s).1 : Int) else ((strip N s).1 : Int), ((strip N s).2 : Int), 0)
theorem j1_f (below : Bool) (N s : Nat) (hs : s ≤ 1000) (k : Nat) (hk : 2 ≤ k) :
    dec_tell.j1 k below (s : Int) ((N / 18446744073709551616 : Nat) : Int) ((N % 18446744073709551616 : Nat) : Int) = some (if N > 999999999999999999 ∨ s > 9 then (0, 0, 5) else (if below then -(N : Int) else (N : Int), (s : Int), 0)) := by
  obtain ⟨k, rfl⟩ : ∃ m, k = m + 2 := ⟨k - 2, by omega⟩
  rw [dec_tell.j1]
  by_cases h1 : N ≥ 18446744073709551616
  · rw [if_neg (by omega), dec_tell.j2, if_pos rfl, if_pos (by omega)]
  · rw [if_pos (by omega)]
    have h2 : N % 18446744073709551616 = N := by omega
    rw [h2]
    by_cases h3 : N > 999999999999999999
    · rw [if_pos (by omega), dec_tell.j2, if_pos rfl, if_pos (by omega)]
    · rw [if_neg (by omega), dec_tell.j2]
      by_cases h4 : s > 9
      · rw [if_pos (by rw [decide_eq_true_iff]; omega), if_pos (by omega)]
      · rw [if_neg (by rw [decide_eq_true_iff]; omega), if_neg (show ¬ (N > 999999999999999999 ∨ s > 9) by omega), wrap_small (N : Int) (by omega) (by omega)]
        cases below
        · rfl
        · rw [if_pos rfl, wrap_small (-(N : Int)) (by omega) (by omega)]
          rfl
theorem tell_l0 (below : Bool) : ∀ (s N k : Nat), s ≤ 1000 → N < 340282366920938463463374607431768211456 → s + 7 ≤ k →
    dec_tell.l0 k below (s : Int) ((N / 18446744073709551616 : Nat) : Int) ((N % 18446744073709551616 : Nat) : Int) = some (told below N s) := by
  intro s
  induction s with
  | zero =>
    intro N k hs hN hk
    obtain ⟨k, rfl⟩ : ∃ m, k = m + 1 := ⟨k - 1, by omega⟩
    rw [dec_tell.l0, if_neg (by decide), j1_f below N 0 hs k (by omega)]
    rfl
  | succ s ih =>
    intro N k hs hN hk
    obtain ⟨k, rfl⟩ : ∃ m, k = m + 1 := ⟨k - 1, by omega⟩
    rw [dec_tell.l0, if_pos (by omega), by_f N hN k (by omega), Option.bind_some]
    by_cases h : N % 10 = 0
    · refine (if_pos (by show ((N % 10 : Nat) : Int) = 0; omega)).trans ?_
      rw [wrap_small _ (by omega) (by omega), show ((s + 1 : Nat) : Int) - 1 = (s : Int) from by omega]
      have h2 := ih (N / 10) k (by omega) (by omega) (by omega)
      refine h2.trans ?_
      unfold told
      rw [show strip N (s + 1) = strip (N / 10) s from by rw [strip, if_pos h]]
    · rw [if_neg (by show ¬ (((N % 10 : Nat) : Int) = 0); omega), j1_f below N (s + 1) hs k (by omega)]
      unfold told
      rw [show strip N (s + 1) = (N, s + 1) from by rw [strip, if_neg h]]
theorem tell_f (below : Bool) (s N k : Nat) (hs : s ≤ 1000) (hN : N < 340282366920938463463374607431768211456) (hk : s + 7 ≤ k) :
    dec_tell.f k below ((N / 18446744073709551616 : Nat) : Int) ((N % 18446744073709551616 : Nat) : Int) (s : Int) = some (told below N s) := tell_l0 below s N k hs hN hk
end Go.Proofs.YtnhgnejfagncpaaDoor.Plain
end
section
namespace Go.Proofs.YtnhgnejfagncpaaDoor.Plain
open Go.RowKit Go.Proofs.YtnhgnejfagncpaaDoor.A Go.Proofs.YtnhgnejfagncpaaDoor.B Go.Proofs.YtnhgnejfagncpaaDoor.H Go.Proofs.YtnhgnejfagncpaaDoorW.PrintWords Go.Proofs.YtnhgnejfagncpaaDoorW.PrintLast Go.Proofs.YtnhgnejfagncpaaDoorW.PrintMore
def Good (M S : Int) : Prop := -999999999999999999 ≤ M ∧ M ≤ 999999999999999999 ∧ 0 ≤ S ∧ S ≤ 9 ∧ (S = 0 ∨ M % 10 ≠ 0)
instance (M S : Int) : Decidable (Good M S) := inferInstanceAs (Decidable (_ ∧ _))
theorem tmod0 (M : Int) : (Int.tmod M 10 = 0) ↔ M % 10 = 0 := by
  rw [← Int.dvd_iff_tmod_eq_zero, Int.dvd_iff_emod_eq_zero]
theorem check_f (M S : Int) : dec_Check.f M S = some (if Good M S then 0 else 1) := by
  unfold dec_Check.f
  by_cases h1 : M < (-999999999999999999)
  · rw [if_pos h1, if_neg (fun h => by unfold Good at h; omega)]
  rw [if_neg h1]
  by_cases h2 : M > 999999999999999999
  · rw [if_pos h2, if_neg (fun h => by unfold Good at h; omega)]
  rw [if_neg h2]
  by_cases h3 : S < 0
  · rw [if_pos h3, if_neg (fun h => by unfold Good at h; omega)]
  rw [if_neg h3]
  by_cases h4 : S > 9
  · rw [if_pos h4, if_neg (fun h => by unfold Good at h; omega)]
  rw [if_neg h4]
  by_cases h5 : S > 0
  · rw [if_pos h5]
    by_cases h6 : Int.tmod M 10 = 0
    · rw [if_pos h6, if_neg (fun h => by have := (tmod0 M).1 h6; unfold Good at h; omega)]
    · rw [if_neg h6, if_pos (by have h7 : ¬ M % 10 = 0 := fun h => h6 ((tmod0 M).2 h); exact ⟨by omega, by omega, by omega, by omega, Or.inr h7⟩)]
  · rw [if_neg h5, if_pos ⟨by omega, by omega, by omega, by omega, Or.inl (by omega)⟩]
theorem size_f (M : Int) (h0 : -999999999999999999 ≤ M) (h1 : M ≤ 999999999999999999) : dec_size.f M = some (M.natAbs : Int) := by
  unfold dec_size.f mx
  rw [wrap_small (-M) (by omega) (by omega)]
  by_cases h : M < -M
  · rw [if_pos h, wu _ (by omega) (by omega)]
    congr 1
    omega
  · rw [if_neg h, wu _ (by omega) (by omega)]
    congr 1
    omega
def up (M : Int) (d : Nat) : Int := M * ((10 ^ d : Nat) : Int)
end Go.Proofs.YtnhgnejfagncpaaDoor.Plain
end
section
namespace Go.Proofs.YtnhgnejfagncpaaDoor.Plain
open Go.RowKit Go.Proofs.YtnhgnejfagncpaaDoor.A Go.Proofs.YtnhgnejfagncpaaDoor.B Go.Proofs.YtnhgnejfagncpaaDoor.H
theorem strip_mul : ∀ (d N s : Nat), strip (N * 10 ^ d) (s + d) = strip N s := by
  intro d
  induction d with
  | zero => intro N s; rw [Nat.pow_zero, Nat.mul_one, Nat.add_zero]
  | succ d ih =>
    intro N s
    have h : N * 10 ^ (d + 1) = N * 10 ^ d * 10 := by rw [Nat.pow_succ, Nat.mul_assoc]
    rw [h, show s + (d + 1) = s + d + 1 from rfl, strip, if_pos (by omega), Nat.mul_div_cancel _ (by decide)]
    exact ih N s
theorem strip_spec : ∀ (s N : Nat), (strip N s).2 ≤ s ∧ (strip N s).1 * 10 ^ (s - (strip N s).2) = N ∧ ((strip N s).2 = 0 ∨ (strip N s).1 % 10 ≠ 0) := by
  intro s
  induction s with
  | zero => intro N; exact ⟨Nat.le_refl _, by show N * 10 ^ 0 = N; omega, Or.inl rfl⟩
  | succ s ih =>
    intro N
    by_cases h : N % 10 = 0
    · rw [strip, if_pos h]
      obtain ⟨h1, h2, h3⟩ := ih (N / 10)
      refine ⟨by omega, ?_, h3⟩
      rw [show s + 1 - (strip (N / 10) s).2 = s - (strip (N / 10) s).2 + 1 from by omega, Nat.pow_succ, ← Nat.mul_assoc, h2]
      omega
    · rw [strip, if_neg h]
      exact ⟨Nat.le_refl _, by show N * 10 ^ (s + 1 - (s + 1)) = N; rw [Nat.sub_self]; omega, Or.inr h⟩
theorem strip_good (N s : Nat) (h : s = 0 ∨ N % 10 ≠ 0) : strip N s = (N, s) := by
  cases s with
  | zero => rfl
  | succ s => rw [strip, if_neg (by omega)]
end Go.Proofs.YtnhgnejfagncpaaDoor.Plain
end
section
namespace Go.Proofs.YtnhgnejfagncpaaDoor.Plain
open Go.RowKit Go.Proofs.YtnhgnejfagncpaaDoor.A Go.Proofs.YtnhgnejfagncpaaDoor.B Go.Proofs.YtnhgnejfagncpaaDoor.H
def isDig (c : UInt8) : Prop := 48 ≤ c.toNat ∧ c.toNat ≤ 57
instance (c : UInt8) : Decidable (isDig c) := inferInstanceAs (Decidable (_ ∧ _))
def allDig (l : List UInt8) : Prop := ∀ c ∈ l, isDig c
instance (l : List UInt8) : Decidable (allDig l) := inferInstanceAs (Decidable (∀ c ∈ l, isDig c))
theorem allDig_append (a b : List UInt8) : allDig (a ++ b) ↔ allDig a ∧ allDig b := by
  unfold allDig
  simp only [List.mem_append]
  exact ⟨fun h => ⟨fun c hc => h c (Or.inl hc), fun c hc => h c (Or.inr hc)⟩, fun h c hc => hc.elim (h.1 c) (h.2 c)⟩
theorem allDig_cons (c : UInt8) (t : List UInt8) : allDig (c :: t) ↔ isDig c ∧ allDig t := by
  unfold allDig
  simp
def valA : Nat → List UInt8 → Nat
  | n, [] => n
  | n, c :: t => valA (n * 10 + (c.toNat - 48)) t
def val (l : List UInt8) : Nat := valA 0 l
def cnt : Nat → List UInt8 → Nat
  | n, [] => n
  | n, c :: t => cnt (if n > 0 ∨ 48 < c.toNat then n + 1 else n) t
theorem valA_append : ∀ (a b : List UInt8) (n : Nat), valA n (a ++ b) = valA (valA n a) b := by
  intro a
  induction a with
  | nil => intro b n; rfl
  | cons c t ih => intro b n; exact ih b _
theorem valA_step (n d p v : Nat) : (n * 10 + d) * p + v = n * (p * 10) + ((0 * 10 + d) * p + v) := by grind
theorem valA_eq : ∀ (l : List UInt8) (n : Nat), valA n l = n * 10 ^ l.length + val l
  | [], n => by
    show n = n * 10 ^ 0 + 0
    rw [Nat.pow_zero]
    omega
  | c :: t, n => by
    have h1 : valA n (c :: t) = valA (n * 10 + (c.toNat - 48)) t := rfl
    have h2 : val (c :: t) = valA (0 * 10 + (c.toNat - 48)) t := rfl
    rw [h1, h2, valA_eq t, valA_eq t (0 * 10 + (c.toNat - 48)), List.length_cons, Nat.pow_succ]
    exact valA_step _ _ _ _
theorem val_append (a b : List UInt8) : val (a ++ b) = val a * 10 ^ b.length + val b := by
  unfold val
  rw [valA_append, valA_eq b]
  rfl
theorem val_lt : ∀ (l : List UInt8), allDig l → val l < 10 ^ l.length
  | [], _ => by decide
  | c :: t, h => by
    obtain ⟨h1, h2⟩ := (allDig_cons c t).1 h
    have ih := val_lt t h2
    have e : val (c :: t) = (c.toNat - 48) * 10 ^ t.length + val t := by
      show valA (0 * 10 + (c.toNat - 48)) t = _
      rw [valA_eq, Nat.zero_mul, Nat.zero_add]
    have h3 : (c.toNat - 48) * 10 ^ t.length ≤ 9 * 10 ^ t.length := Nat.mul_le_mul_right _ (by unfold isDig at h1; omega)
    rw [e, List.length_cons, Nat.pow_succ]
    omega
theorem cnt_pos : ∀ (l : List UInt8) (n : Nat), 0 < n → cnt n l = n + l.length
  | [], _, _ => rfl
  | c :: t, n, h => by
    show cnt (if n > 0 ∨ 48 < c.toNat then n + 1 else n) t = _
    rw [if_pos (Or.inl h), cnt_pos t (n + 1) (by omega), List.length_cons]
    omega
theorem cnt_zero : ∀ (l : List UInt8), allDig l → val l < 10 ^ cnt 0 l ∧ (0 < cnt 0 l → 10 ^ (cnt 0 l - 1) ≤ val l)
  | [], _ => ⟨by decide, fun h => absurd h (by decide)⟩
  | c :: t, h => by
    obtain ⟨h1, h2⟩ := (allDig_cons c t).1 h
    have e : val (c :: t) = (c.toNat - 48) * 10 ^ t.length + val t := by
      show valA (0 * 10 + (c.toNat - 48)) t = _
      rw [valA_eq, Nat.zero_mul, Nat.zero_add]
    by_cases hc : 48 < c.toNat
    · have e2 : cnt 0 (c :: t) = t.length + 1 := by
        show cnt (if 0 > 0 ∨ 48 < c.toNat then 0 + 1 else 0) t = _
        rw [if_pos (Or.inr hc), cnt_pos t 1 (by decide)]
        omega
      rw [e2]
      refine ⟨val_lt (c :: t) h, fun _ => ?_⟩
      have h3 : 1 * 10 ^ t.length ≤ (c.toNat - 48) * 10 ^ t.length := Nat.mul_le_mul_right _ (by omega)
      rw [e, Nat.add_sub_cancel]
      omega
    · have e2 : cnt 0 (c :: t) = cnt 0 t := by
        show cnt (if 0 > 0 ∨ 48 < c.toNat then 0 + 1 else 0) t = _
        rw [if_neg (by omega)]
      rw [e2, e, show c.toNat - 48 = 0 from by omega, Nat.zero_mul, Nat.zero_add]
      exact cnt_zero t h2
theorem cnt_18 (l : List UInt8) (h : allDig l) : cnt 0 l ≤ 18 ↔ val l ≤ 999999999999999999 := by
  obtain ⟨h1, h2⟩ := cnt_zero l h
  constructor
  · intro hc
    have : 10 ^ cnt 0 l ≤ 10 ^ 18 := Nat.pow_le_pow_right (by decide) hc
    have e : (10 : Nat) ^ 18 = 1000000000000000000 := by decide
    omega
  · intro hv
    refine Classical.byContradiction fun hc => ?_
    have h3 := h2 (by omega)
    have : 10 ^ 18 ≤ 10 ^ (cnt 0 l - 1) := Nat.pow_le_pow_right (by decide) (by omega)
    have e : (10 : Nat) ^ 18 = 1000000000000000000 := by decide
    omega
theorem digs_none : ∀ (l : List UInt8) (m n e : Int), ¬ allDig l → digs l m n e = none
  | [], _, _, _, h => absurd (fun c hc => by cases hc) h
  | c :: t, m, n, e, h => by
    rw [digs]
    by_cases hc : (c.toNat : Int) < 48 ∨ 57 < (c.toNat : Int)
    · rw [if_pos hc]
    · rw [if_neg hc]
      have ht : ¬ allDig t := fun ht => h ((allDig_cons c t).2 ⟨⟨by omega, by omega⟩, ht⟩)
      dsimp only
      (repeat' split) <;> exact digs_none t _ _ _ ht
theorem digs_far : ∀ (l : List UInt8) (m : Int) (n : Nat), allDig l → 18 < n → digs l m (n : Int) 5 = some (m, ((n + l.length : Nat) : Int), 5)
  | [], _, _, _, _ => rfl
  | c :: t, m, n, h, hn => by
    obtain ⟨h1, h2⟩ := (allDig_cons c t).1 h
    rw [digs, if_neg (by unfold isDig at h1; omega)]
    dsimp only
    rw [if_pos (Or.inl (by omega)), if_pos (by omega)]
    have := digs_far t m (n + 1) h2 (by omega)
    rw [Int.natCast_add] at this
    refine this.trans ?_
    rw [List.length_cons, show n + 1 + t.length = n + (t.length + 1) from by omega]
theorem digs_all : ∀ (l : List UInt8) (m n : Nat), allDig l → n ≤ 18 →
    (cnt n l ≤ 18 → digs l (m : Int) (n : Int) 0 = some ((valA m l : Int), (cnt n l : Int), 0)) ∧ (18 < cnt n l → ∃ m', digs l (m : Int) (n : Int) 0 = some (m', (cnt n l : Int), 5))
  | [], m, n, _, hn => ⟨fun _ => rfl, fun h => absurd h (by show ¬ 18 < n; omega)⟩
  | c :: t, m, n, h, hn => by
    obtain ⟨h1, h2⟩ := (allDig_cons c t).1 h
    have e1 : digs (c :: t) (m : Int) (n : Int) 0 = if ((if n > 0 ∨ 48 < c.toNat then n + 1 else n : Nat) : Int) > 18 then digs t m ((if n > 0 ∨ 48 < c.toNat then n + 1 else n : Nat) : Int) 5 else digs t ((m * 10 + (c.toNat - 48) : Nat) : Int) ((if n > 0 ∨ 48 < c.toNat then n + 1 else n : Nat) : Int) 0 := by
      rw [digs, if_neg (by unfold isDig at h1; omega)]
      dsimp only
      have e2 : (if (n : Int) > 0 ∨ 48 < (c.toNat : Int) then (n : Int) + 1 else (n : Int)) = ((if n > 0 ∨ 48 < c.toNat then n + 1 else n : Nat) : Int) := by
        by_cases hq : n > 0 ∨ 48 < c.toNat
        · rw [if_pos hq, if_pos (by omega)]; rfl
        · rw [if_neg hq, if_neg (by omega)]
      rw [e2, show (m : Int) * 10 + ((c.toNat : Int) - 48) = ((m * 10 + (c.toNat - 48) : Nat) : Int) from by unfold isDig at h1; omega]
    rw [e1]
    show (cnt (if n > 0 ∨ 48 < c.toNat then n + 1 else n) t ≤ 18 → _ = some ((valA (m * 10 + (c.toNat - 48)) t : Int), (cnt (if n > 0 ∨ 48 < c.toNat then n + 1 else n) t : Int), 0)) ∧ (18 < cnt (if n > 0 ∨ 48 < c.toNat then n + 1 else n) t → ∃ m', _ = some (m', (cnt (if n > 0 ∨ 48 < c.toNat then n + 1 else n) t : Int), 5))
    obtain ⟨n', hn'⟩ : ∃ x, (if n > 0 ∨ 48 < c.toNat then n + 1 else n) = x := ⟨_, rfl⟩
    rw [hn']
    by_cases h18 : n' ≤ 18
    · rw [if_neg (by omega)]
      exact digs_all t (m * 10 + (c.toNat - 48)) n' h2 h18
    · rw [if_pos (by omega), digs_far t m n' h2 (by omega), cnt_pos t n' (by omega)]
      exact ⟨fun h => absurd h (by omega), fun _ => ⟨_, rfl⟩⟩
theorem dropZ (l : List UInt8) : ∃ j, l = List.replicate j 48 ++ l.dropWhile (· == 48) := by
  induction l with
  | nil => exact ⟨0, rfl⟩
  | cons c t ih =>
    by_cases h : (c == 48) = true
    · obtain ⟨j, hj⟩ := ih
      have h2 : c = 48 := by simpa using h
      subst h2
      refine ⟨j + 1, ?_⟩
      rw [List.dropWhile_cons_of_pos (p := (· == 48)) h, List.replicate_succ, List.cons_append, ← hj]
    · exact ⟨0, by rw [List.dropWhile_cons_of_neg (p := (· == 48)) h]; rfl⟩
theorem val_zeros : ∀ j, val (List.replicate j 48) = 0
  | 0 => rfl
  | j + 1 => by
    rw [List.replicate_succ]
    show valA (0 * 10 + ((48 : UInt8).toNat - 48)) _ = 0
    exact val_zeros j
theorem allDig_zeros (j : Nat) : allDig (List.replicate j 48) := fun c hc => by
  rw [List.eq_of_mem_replicate hc]
  decide
theorem trimL (l : List UInt8) : ∃ j, l = List.replicate j 48 ++ Lib.trimLeftB l 48 := dropZ l
theorem trimR (l : List UInt8) : ∃ j, l = Lib.trimRightB l 48 ++ List.replicate j 48 := by
  obtain ⟨j, hj⟩ := dropZ l.reverse
  refine ⟨j, ?_⟩
  have := congrArg List.reverse hj
  rw [List.reverse_reverse, List.reverse_append, List.reverse_replicate] at this
  exact this
theorem trimR_last (l : List UInt8) (h : allDig l) (a : List UInt8) : Lib.trimRightB l 48 = [] ∨ val (a ++ Lib.trimRightB l 48) % 10 ≠ 0 := by
  unfold Lib.trimRightB
  have hm : ∀ c ∈ l.reverse.dropWhile (· == 48), isDig c := fun c hc => h c (List.mem_reverse.1 ((List.dropWhile_suffix _).subset hc))
  cases hq : l.reverse.dropWhile (· == 48) with
  | nil => exact Or.inl rfl
  | cons c t =>
    refine Or.inr ?_
    have hc : ¬ (c == 48) = true := by
      have := List.head?_dropWhile_not (· == 48) l.reverse
      rw [hq] at this
      simpa using this
    rw [hq] at hm
    have hd := hm c (List.mem_cons_self ..)
    have hne : c.toNat ≠ 48 := fun e => hc (by rw [beq_iff_eq]; exact UInt8.toNat_inj.1 e)
    rw [List.reverse_cons, ← List.append_assoc, val_append]
    show (val (a ++ t.reverse) * 10 ^ 1 + valA (0 * 10 + (c.toNat - 48)) []) % 10 ≠ 0
    show (val (a ++ t.reverse) * 10 ^ 1 + (0 * 10 + (c.toNat - 48))) % 10 ≠ 0
    unfold isDig at hd
    omega
theorem told_zeros (b : Bool) (N s j : Nat) : told b (N * 10 ^ j) (s + j) = told b N s := by
  unfold told
  rw [strip_mul]
def parseL (l : List UInt8) : Int × Int × Int :=
  if l.length > 40 ∨ (cutAt (headB l).2 46).1 ++ (cutAt (headB l).2 46).2.1 = [] ∨ ¬ allDig ((cutAt (headB l).2 46).1 ++ (cutAt (headB l).2 46).2.1) then (0, 0, 4)
  else told (headB l).1 (val ((cutAt (headB l).2 46).1 ++ (cutAt (headB l).2 46).2.1)) (cutAt (headB l).2 46).2.1.length
theorem told_far (b : Bool) (v s : Nat) (h : s = 0 ∨ v % 10 ≠ 0) (hf : v > 999999999999999999 ∨ s > 9) : told b v s = (0, 0, 5) := by
  unfold told
  rw [strip_good v s h, if_pos hf]
theorem parseDigs_f (b : Bool) (F K : List UInt8) (hK : K.length ≤ 41) (k : Nat) (hk : 60 ≤ k) :
    parseDigs k b (Lib.trimLeftB F 48) (Lib.trimRightB K 48) = some (if ¬ allDig (F ++ K) then (0, 0, 4) else told b (val (F ++ K)) K.length) := by
  obtain ⟨i, hi⟩ := trimL F
  obtain ⟨j, hj⟩ := trimR K
  have hiff : allDig (F ++ K) ↔ allDig (Lib.trimLeftB F 48 ++ Lib.trimRightB K 48) := by
    rw [allDig_append, allDig_append]
    constructor
    · intro h
      rw [hi, hj] at h
      exact ⟨((allDig_append _ _).1 h.1).2, ((allDig_append _ _).1 h.2).1⟩
    · intro h
      rw [hi, hj]
      exact ⟨(allDig_append _ _).2 ⟨allDig_zeros _, h.1⟩, (allDig_append _ _).2 ⟨h.2, allDig_zeros _⟩⟩
  have hlK : K.length = (Lib.trimRightB K 48).length + j := by
    have := congrArg List.length hj
    rw [List.length_append, List.length_replicate] at this
    exact this
  have hval : val (F ++ K) = val (Lib.trimLeftB F 48 ++ Lib.trimRightB K 48) * 10 ^ j := by
    have h1 : F ++ K = List.replicate i 48 ++ ((Lib.trimLeftB F 48 ++ Lib.trimRightB K 48) ++ List.replicate j 48) := by
      rw [← List.append_assoc, ← List.append_assoc, List.append_assoc (List.replicate i 48 ++ _), ← hi, ← hj]
    rw [h1, val_append, val_zeros, Nat.zero_mul, Nat.zero_add, val_append, val_zeros, List.length_replicate, Nat.add_zero]
  unfold parseDigs
  by_cases hd : allDig (Lib.trimLeftB F 48 ++ Lib.trimRightB K 48)
  · rw [if_neg (by rw [Classical.not_not]; exact hiff.2 hd), hval, hlK, told_zeros]
    have hlast := trimR_last K ((allDig_append _ _).1 (hiff.2 hd)).2 (Lib.trimLeftB F 48)
    obtain ⟨L, hL⟩ : ∃ x, Lib.trimLeftB F 48 ++ Lib.trimRightB K 48 = x := ⟨_, rfl⟩
    have hlast' : (Lib.trimRightB K 48).length = 0 ∨ val L % 10 ≠ 0 := by
      rw [← hL]
      exact hlast.imp (fun h => by rw [h]; rfl) id
    rw [hL] at hd
    rw [hL]
    obtain ⟨d1, d2⟩ := digs_all L 0 0 hd (by decide)
    have h18 := cnt_18 L hd
    by_cases hc : cnt 0 L ≤ 18
    · have e := d1 hc
      rw [show ((0 : Nat) : Int) = 0 from rfl] at e
      rw [e]
      dsimp only
      by_cases h9 : (Lib.trimRightB K 48).length > 9
      · rw [if_pos (Or.inr h9), told_far _ _ _ hlast' (Or.inr h9)]
      · rw [if_neg (fun h => h.elim (fun h => h rfl) h9)]
        have hv := h18.1 hc
        have ht := tell_f b (Lib.trimRightB K 48).length (val L) k (by omega) (by omega) (by omega)
        rw [show val L / 18446744073709551616 = 0 from by omega, show val L % 18446744073709551616 = val L from by omega] at ht
        exact ht
    · obtain ⟨m', e⟩ := d2 (by omega)
      rw [show ((0 : Nat) : Int) = 0 from rfl] at e
      rw [e]
      dsimp only
      rw [if_pos (Or.inl (by decide)), told_far _ _ _ hlast' (Or.inl (by omega))]
  · rw [digs_none _ _ _ _ hd, if_pos (fun h => hd (hiff.1 h))]
theorem parse_f (t : ByteArray) (k : Nat) (hk : 60 ≤ k) : dec_Parse.f k t = some (parseL t.data.toList) := by
  unfold dec_Parse.f parseL
  have hs : t.size = t.data.toList.length := Array.length_toList.symm
  by_cases h1 : t.size > 40
  · rw [if_pos h1, if_pos (Or.inl (by omega))]
  · rw [if_neg h1]
    dsimp only
    have hl := headB_len t.data.toList
    have hl2 := (cutAt_len (headB t.data.toList).2 46).2
    by_cases h2 : (cutAt (headB t.data.toList).2 46).1 ++ (cutAt (headB t.data.toList).2 46).2.1 = []
    · rw [if_pos h2, if_pos (Or.inr (Or.inl h2))]
    · rw [if_neg h2, parseDigs_f _ _ _ (by omega) k hk]
      by_cases h3 : ¬ allDig ((cutAt (headB t.data.toList).2 46).1 ++ (cutAt (headB t.data.toList).2 46).2.1)
      · rw [if_pos h3, if_pos (Or.inr (Or.inr h3))]
      · rw [if_neg h3, if_neg (by intro h; rcases h with h | h | h; exact absurd h (by omega); exact h2 h; exact h3 h)]
theorem nd_le : ∀ (k N : Nat), N < 10 ^ (k + 1) → Lib.nDigits N ≤ k + 1
  | 0, N, h => by rw [Lib.nDigits_small (by simpa using h)]; omega
  | k + 1, N, h => by
    by_cases h10 : N < 10
    · rw [Lib.nDigits_small h10]; omega
    · rw [Lib.nDigits_big h10]
      have h2 : N / 10 < 10 ^ (k + 1) := by rw [Nat.pow_succ] at h; omega
      have := nd_le k (N / 10) h2
      omega
theorem toNat_dig (d : Nat) (h : d < 10) : (UInt8.ofNat (48 + d)).toNat = 48 + d := by
  rw [UInt8.toNat_ofNat']
  omega
theorem dec_dig : ∀ (n N : Nat), N ≤ n → allDig (Lib.decDigits N) ∧ val (Lib.decDigits N) = N := by
  intro n
  induction n with
  | zero =>
    intro N h
    obtain rfl : N = 0 := by omega
    rw [Lib.decDigits_one (by decide)]
    exact ⟨by decide, by decide⟩
  | succ n ih =>
    intro N h
    by_cases h10 : N < 10
    · rw [Lib.decDigits_one h10]
      have e := toNat_dig N h10
      refine ⟨fun c hc => ?_, ?_⟩
      · rw [List.mem_singleton.1 hc]
        unfold isDig
        omega
      · show 0 * 10 + ((UInt8.ofNat (48 + N)).toNat - 48) = N
        omega
    · obtain ⟨i1, i2⟩ := ih (N / 10) (by omega)
      have e := toNat_dig (N % 10) (by omega)
      rw [Lib.decDigits, dif_neg h10]
      refine ⟨(allDig_append _ _).2 ⟨i1, fun c hc => ?_⟩, ?_⟩
      · rw [List.mem_singleton.1 hc]
        unfold isDig
        omega
      · rw [val_append, i2]
        show N / 10 * 10 ^ 1 + (0 * 10 + ((UInt8.ofNat (48 + N % 10)).toNat - 48)) = N
        omega
def padD (N s : Nat) : List UInt8 := if (Lib.decDigits N).length ≤ s then Lib.repeatL [48] (s - (Lib.decDigits N).length + 1) ++ Lib.decDigits N else Lib.decDigits N
theorem repeat_zeros : ∀ n, Lib.repeatL [48] n = List.replicate n 48
  | 0 => rfl
  | n + 1 => by rw [Lib.repeatL, repeat_zeros n]; rfl
theorem pad_facts (N s : Nat) : allDig (padD N s) ∧ val (padD N s) = N ∧ (padD N s).length = max (Lib.nDigits N) (s + 1) := by
  obtain ⟨h1, h2⟩ := dec_dig N N (Nat.le_refl _)
  have h3 := Lib.decDigits_length N
  unfold padD
  by_cases h : (Lib.decDigits N).length ≤ s
  · rw [if_pos h, repeat_zeros]
    refine ⟨(allDig_append _ _).2 ⟨allDig_zeros _, h1⟩, ?_, ?_⟩
    · rw [val_append, val_zeros, h2]
      omega
    · rw [List.length_append, List.length_replicate]
      omega
  · rw [if_neg h]
    exact ⟨h1, h2, by omega⟩
def bodyL (N s : Nat) : List UInt8 := if s > 0 then (padD N s).take ((padD N s).length - s) ++ 46 :: (padD N s).drop ((padD N s).length - s) else padD N s
def printL (M : Int) (s : Nat) : List UInt8 := if M < 0 then 45 :: bodyL M.natAbs s else bodyL M.natAbs s
theorem body_len (N s : Nat) : (bodyL N s).length = max (Lib.nDigits N) (s + 1) + if s > 0 then 1 else 0 := by
  obtain ⟨_, _, h3⟩ := pad_facts N s
  unfold bodyL
  by_cases h : s > 0
  · rw [if_pos h, if_pos h, List.length_append, List.length_cons, List.length_take, List.length_drop]
    omega
  · rw [if_neg h, if_neg h, h3]
    omega
theorem bytes_take (P : List UInt8) (i : Nat) : (⟨P.toArray⟩ : ByteArray).extract 0 i = ⟨(P.take i).toArray⟩ := by
  apply ByteArray.ext
  simp
theorem bytes_drop (P : List UInt8) (i : Nat) : (⟨P.toArray⟩ : ByteArray).extract i (⟨P.toArray⟩ : ByteArray).size = ⟨(P.drop i).toArray⟩ := by
  apply ByteArray.ext
  simp only [ByteArray.data_extract, ByteArray.size, List.size_toArray, List.extract_toArray, List.extract_eq_take_drop]
  rw [List.take_of_length_le (by rw [List.length_drop]; exact Nat.le_refl _)]
theorem bytes_app (P Q : List UInt8) : (⟨P.toArray⟩ : ByteArray) ++ (⟨Q.toArray⟩ : ByteArray) = ⟨(P ++ Q).toArray⟩ := by
  apply ByteArray.ext
  simp
theorem bytes_size (P : List UInt8) : (⟨P.toArray⟩ : ByteArray).size = P.length := by simp [ByteArray.size]
theorem print_j0 (M : Int) (s : Nat) (P : List UInt8) (hP : s ≤ P.length) (hl : P.length ≤ 100) (k : Nat) (hk : 1 ≤ k) :
    dec_Print.j0 k ⟨P.toArray⟩ M (s : Int) = some (⟨(if M < 0 then 45 :: (if s > 0 then P.take (P.length - s) ++ 46 :: P.drop (P.length - s) else P) else (if s > 0 then P.take (P.length - s) ++ 46 :: P.drop (P.length - s) else P)).toArray⟩, 0) := by
  obtain ⟨k, rfl⟩ : ∃ m, k = m + 1 := ⟨k - 1, by omega⟩
  have e1 : (⟨#[46]⟩ : ByteArray) = ⟨([46] : List UInt8).toArray⟩ := rfl
  have e2 : (⟨#[45]⟩ : ByteArray) = ⟨([45] : List UInt8).toArray⟩ := rfl
  rw [dec_Print.j0, bytes_size]
  by_cases hs : s > 0
  · rw [if_pos (by omega), if_pos hs, wrap_small _ (by omega) (by omega), if_pos (by omega), if_pos (by omega), show ((P.length : Int) - (s : Int)).toNat = P.length - s from by omega]
    have e3 := bytes_drop P (P.length - s)
    rw [bytes_size] at e3
    rw [bytes_take, e3, e1, e2, bytes_app, bytes_app, bytes_app, bytes_size, bytes_size, bytes_size, bytes_size]
    have l1 : (P.take (P.length - s)).length ≤ 100 := by rw [List.length_take]; omega
    have l2 : (P.drop (P.length - s)).length ≤ 100 := by rw [List.length_drop]; omega
    have l3 : (P.take (P.length - s) ++ [46]).length ≤ 101 := by rw [List.length_append]; show _ + 1 ≤ _; omega
    have l4 : (P.take (P.length - s) ++ [46] ++ P.drop (P.length - s)).length ≤ 201 := by rw [List.length_append]; omega
    rw [if_pos (by omega), if_pos (by omega), List.append_assoc, List.singleton_append]
    rw [List.append_assoc, List.singleton_append] at l4
    by_cases hm : M < 0
    · rw [if_pos hm, if_pos hm, if_pos (by omega)]
      rfl
    · rw [if_neg hm, if_neg hm]
  · rw [if_neg (by omega), if_neg hs]
    by_cases hm : M < 0
    · rw [if_pos hm, if_pos hm, if_pos (by omega), e2, bytes_app]
      rfl
    · rw [if_neg hm, if_neg hm]
theorem print_f (M : Int) (s : Nat) (hg : Good M s) (k : Nat) (hk : 3 ≤ k) : dec_Print.f k M (s : Int) = some (⟨(printL M s).toArray⟩, 0) := by
  obtain ⟨g1, g2, g3, g4, _⟩ := id hg
  have hn : Lib.nDigits M.natAbs ≤ 18 := nd_le 17 M.natAbs (by rw [show (10 : Nat) ^ (17 + 1) = 1000000000000000000 from by decide]; omega)
  have hd := Lib.decDigits_length M.natAbs
  obtain ⟨_, _, hpl⟩ := pad_facts M.natAbs s
  have hfin := print_j0 M s (padD M.natAbs s) (by omega) (by omega) k (by omega)
  have hfmt : strconv_FormatUint.f (M.natAbs : Int) 10 = some ⟨(Lib.decDigits M.natAbs).toArray⟩ := by
    unfold strconv_FormatUint.f
    rw [if_pos ⟨rfl, by omega, by omega⟩, Int.toNat_natCast]
  unfold dec_Print.f
  rw [check_f, if_pos hg, Option.bind_some, if_pos rfl, size_f M g1 g2, Option.bind_some, hfmt, Option.bind_some, bytes_size]
  have hgoal : dec_Print.j0 k ⟨(padD M.natAbs s).toArray⟩ M (s : Int) = some (⟨(printL M s).toArray⟩, 0) := hfin
  unfold padD at hgoal
  by_cases h : (Lib.decDigits M.natAbs).length ≤ s
  · rw [if_pos (by omega)]
    rw [if_pos h] at hgoal
    have hrep : strings_Repeat.f (⟨#[48]⟩ : ByteArray) (((s - (Lib.decDigits M.natAbs).length + 1 : Nat)) : Int) = some ⟨(Lib.repeatL [48] (s - (Lib.decDigits M.natAbs).length + 1)).toArray⟩ := by
      unfold strings_Repeat.f
      rw [if_pos ⟨by omega, by omega, by decide⟩, Int.toNat_natCast]
    rw [wrap_small ((s : Int) - ((Lib.decDigits M.natAbs).length : Int)) (by omega) (by omega), wrap_small _ (by omega) (by omega), show (s : Int) - ((Lib.decDigits M.natAbs).length : Int) + 1 = ((s - (Lib.decDigits M.natAbs).length + 1 : Nat) : Int) from by omega, hrep, Option.bind_some, bytes_size, repeat_zeros, List.length_replicate, if_pos (by omega), bytes_app]
    rw [repeat_zeros] at hgoal
    exact hgoal
  · rw [if_neg (by omega)]
    rw [if_neg h] at hgoal
    exact hgoal
theorem print_len (M : Int) (s : Nat) : (printL M s).length = (if M < 0 then 1 else 0) + (max (Lib.nDigits M.natAbs) (s + 1) + if s > 0 then 1 else 0) := by
  unfold printL
  split
  · rw [List.length_cons, body_len]
    omega
  · rw [body_len]
    omega
theorem cut_len2 (l : List UInt8) : l.length = (cutAt l 46).1.length + (cutAt l 46).2.1.length + (if (cutAt l 46).2.2 then 1 else 0) ∧ ((cutAt l 46).2.1 ≠ [] → (cutAt l 46).2.2 = true) := by
  unfold cutAt
  have := indexByte_range l 46
  by_cases h : 0 ≤ Lib.indexByte l 46
  · rw [if_pos h]
    refine ⟨?_, fun _ => rfl⟩
    show l.length = (l.take _).length + (l.drop _).length + 1
    rw [List.length_take, List.length_drop]
    omega
  · rw [if_neg h]
    exact ⟨rfl, fun h => absurd rfl h⟩
theorem head_len2 (l : List UInt8) : (headB l).2.length + (if (headB l).1 then 1 else 0) ≤ l.length := by
  cases l with
  | nil => exact Nat.le_refl _
  | cons c t =>
    show (if c = 43 ∨ c = 45 then (decide (c = 45), t) else (false, c :: t)).2.length + (if (if c = 43 ∨ c = 45 then (decide (c = 45), t) else (false, c :: t)).1 = true then 1 else 0) ≤ t.length + 1
    by_cases h : c = 43 ∨ c = 45
    · rw [if_pos h]
      dsimp only
      split <;> omega
    · rw [if_neg h]
      exact Nat.le_refl _
theorem told_three (b : Bool) (v s : Nat) : told b v s = (0, 0, 5) ∨ ∃ (n u : Nat), told b v s = (if b then -(n : Int) else n, (u : Int), 0) ∧ Good (if b then -(n : Int) else n) u ∧ n * 10 ^ (s - u) = v ∧ u ≤ s := by
  obtain ⟨h1, h2, h3⟩ := strip_spec s v
  unfold told
  by_cases h : (strip v s).1 > 999999999999999999 ∨ (strip v s).2 > 9
  · exact Or.inl (if_pos h)
  · refine Or.inr ⟨_, _, if_neg h, ?_, h2, h1⟩
    refine ⟨?_, ?_, by omega, by omega, ?_⟩
    · split <;> omega
    · split <;> omega
    · split <;> omega
theorem parse_three (l : List UInt8) : (∃ e, parseL l = (0, 0, e) ∧ e ≠ 0) ∨ ∃ (M : Int) (u : Nat), parseL l = (M, (u : Int), 0) ∧ Good M u ∧ (printL M u).length ≤ l.length + 1 := by
  unfold parseL
  by_cases h : l.length > 40 ∨ (cutAt (headB l).2 46).1 ++ (cutAt (headB l).2 46).2.1 = [] ∨ ¬ allDig ((cutAt (headB l).2 46).1 ++ (cutAt (headB l).2 46).2.1)
  · exact Or.inl ⟨4, if_pos h, by decide⟩
  · rw [if_neg h]
    have hd : allDig ((cutAt (headB l).2 46).1 ++ (cutAt (headB l).2 46).2.1) := Classical.not_not.1 fun n => h (Or.inr (Or.inr n))
    have hv := val_lt _ hd
    have hl1 := head_len2 l
    obtain ⟨hl2, hl3⟩ := cut_len2 (headB l).2
    obtain ⟨F, hF⟩ : ∃ x, (cutAt (headB l).2 46).1 = x := ⟨_, rfl⟩
    obtain ⟨K, hK⟩ : ∃ x, (cutAt (headB l).2 46).2.1 = x := ⟨_, rfl⟩
    obtain ⟨d, hdot⟩ : ∃ x, (cutAt (headB l).2 46).2.2 = x := ⟨_, rfl⟩
    obtain ⟨b, hb⟩ : ∃ x, (headB l).1 = x := ⟨_, rfl⟩
    rw [hF, hK] at hv
    rw [hF, hK, hdot] at hl2
    rw [hK, hdot] at hl3
    rw [hb] at hl1
    rw [hF, hK, hb]
    rcases told_three b (val (F ++ K)) K.length with h5 | ⟨n, u, h1, h2, h3, h4⟩
    · exact Or.inl ⟨5, h5, by decide⟩
    · refine Or.inr ⟨_, u, h1, h2, ?_⟩
      rw [print_len]
      have hn : n < 10 ^ (F.length + u) := by
        rw [← h3, List.length_append, show F.length + K.length = (F.length + u) + (K.length - u) from by omega, Nat.pow_add] at hv
        exact Nat.lt_of_mul_lt_mul_right hv
      have hnd : Lib.nDigits n ≤ max 1 (F.length + u) := by
        cases hq : F.length + u with
        | zero => rw [hq] at hn; rw [Lib.nDigits_small (by simpa using (show n < 10 by omega))]; omega
        | succ m => rw [hq] at hn; have := nd_le m n hn; omega
      have ha : (if b then -(n : Int) else (n : Int)).natAbs = n := by cases b <;> simp
      have hs : (if (if b then -(n : Int) else (n : Int)) < 0 then 1 else 0) ≤ (if b then 1 else 0) := by
        cases b
        · simp
        · simp
          split <;> omega
      have hdot2 : (if u > 0 then 1 else 0) ≤ (if d then 1 else 0) := by
        by_cases hu : u > 0
        · rw [hl3 (fun e => by rw [e] at h4; exact absurd h4 (by show ¬ u ≤ 0; omega))]
          simp
          split <;> omega
        · rw [if_neg hu]
          omega
      rw [ha]
      omega
end Go.Proofs.YtnhgnejfagncpaaDoor.Plain
end
section
namespace Go.Proofs.YtnhgnejfagncpaaDoor.Plain
open Go.RowKit Go.Proofs.YtnhgnejfagncpaaDoorW.PrintWords Go.Proofs.YtnhgnejfagncpaaDoor.A Go.Proofs.YtnhgnejfagncpaaDoor.B Go.Proofs.YtnhgnejfagncpaaDoor.H Go.Proofs.YtnhgnejfagncpaaDoor.E
theorem wsm (n : Int) (h0 : -9223372036854775808 ≤ n) (h1 : n < 9223372036854775808) : wrap64 n = n := by
  unfold wrap64
  omega
def fin (b : Bool) (N s : Nat) : Int × Int × Int := if N > 999999999999999999 ∨ s > 9 then (0, 0, 5) else (if b then -(N : Int) else (N : Int), (s : Int), 0)
theorem p18 : (10 : Nat) ^ 18 = 1000000000000000000 := by decide
end Go.Proofs.YtnhgnejfagncpaaDoor.Plain
end
section
namespace Go.Proofs.YtnhgnejfagncpaaDoor.Plain
open Go.RowKit Go.Proofs.YtnhgnejfagncpaaDoorW.PrintWords Go.Proofs.YtnhgnejfagncpaaDoor.A Go.Proofs.YtnhgnejfagncpaaDoor.B Go.Proofs.YtnhgnejfagncpaaDoor.H Go.Proofs.YtnhgnejfagncpaaDoor.E
theorem bt_get (t : ByteArray) (i : Nat) (c : UInt8) (h : t.data.toList[i]? = some c) : bt t (i : Int) = (c.toNat : Int) := by
  have hl : i < t.data.toList.length := by
    rcases Nat.lt_or_ge i t.data.toList.length with h2 | h2
    · exact h2
    · rw [List.getElem?_eq_none h2] at h; cases h
  have hs : i < t.size := by rw [Array.length_toList] at hl; exact hl
  unfold bt
  rw [Int.toNat_natCast, dif_pos hs]
  have e : t[i] = c := by
    have h3 : t.data[i]? = some c := by rw [← Array.getElem?_toList]; exact h
    have h4 : t.data[i]? = some (t.data[i]'hs) := Array.getElem?_eq_getElem hs
    rw [h4] at h3
    exact Option.some.inj h3
  rw [e]
end Go.Proofs.YtnhgnejfagncpaaDoor.Plain
end
