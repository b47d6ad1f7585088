/- Put together: R2, PlainTell, PlainDec, PlainMath, PlainText, PlainRef, PlainRef2, PlainRef7, PlainLex, PlainTok, PlainTok3, PlainPrint (each in a section of its own). -/
import Derived.Test.YtnhgnejfagncpaaDoorLot2
import Derived.Test.YtnhgnejfagncpaaDoorLot7
import Derived.Test.YtnhgnejfagncpaaDoorLot8
import Derived.Test.YtnhgnejfagncpaaDoorLot12
import Derived.Test.YtnhgnejfagncpaaDoorLot3
import Derived.Laws.Bits64b
import Derived.Test.YtnhgnejfagncpaaDoorLot5
import Derived.Lib.IndexLaws
import Derived.Test.YtnhgnejfagncpaaDoorE3
section
namespace Go.Proofs.YtnhgnejfagncpaaDoor.R
open Go.RowKit Go.Proofs.YtnhgnejfagncpaaDoorW.PrintWords Go.Proofs.YtnhgnejfagncpaaDoorW.PrintLast Go.Proofs.YtnhgnejfagncpaaDoorW.PrintMore Go.Proofs.YtnhgnejfagncpaaDoor.H Go.Proofs.YtnhgnejfagncpaaDoor.A Go.Proofs.YtnhgnejfagncpaaDoor.B Go.Proofs.YtnhgnejfagncpaaDoor.E Go.Proofs.YtnhgnejfagncpaaDoor.L Go.Proofs.YtnhgnejfagncpaaDoor.M Go.Proofs.YtnhgnejfagncpaaDoor.P
attribute [local go_sem] max2_int min2_int max_two min_two max_three min_three max_four min_four   -- for this text's walks alone
set_option linter.unusedVariables false
set_option linter.unusedSimpArgs false
attribute [local go_sem high] eqA27
mutual
def erasurelaw14_LexReads.l0 : Nat → List Int → Int → List Int → Int → Option (Bool)
 | 0, _, _, _, _ => none
 | k + 1, x0, x1, x5, x6 => if x6 ≤ (wrap64 ((x0.length : Int) + 1)) then ((lex_Next.f k x5 x1).bind fun bt245 => ((erasureref14_Next.f k x0 x1).bind fun bt252 => (if (!(bt245.1 == bt252.1) || ((!(bt245.2.1 == bt252.2.1) || (!(bt245.2.2.1 == bt252.2.2.1))) || (!(bt245.2.2.2.1.toList == bt252.2.2.2.1.toList)))) = true then (erasurelaw14_LexReads.j1 k x0 x5 x6 bt252.2.2.2.2.1 bt252.2.2.2.2.2 true bt252.1 bt252.2.1 bt252.2.2.1 bt252.2.2.2.1) else (if bt245.2.2.2.2.1 = bt252.2.2.2.2.1 then (erasurelaw14_LexReads.j1 k x0 x5 x6 bt252.2.2.2.2.1 bt252.2.2.2.2.2 (bt245.2.2.2.2.2 != bt252.2.2.2.2.2) bt252.1 bt252.2.1 bt252.2.2.1 bt252.2.2.2.1) else (erasurelaw14_LexReads.j1 k x0 x5 x6 bt252.2.2.2.2.1 bt252.2.2.2.2.2 true bt252.1 bt252.2.1 bt252.2.2.1 bt252.2.2.2.1))))) else (some false)
def erasurelaw14_LexReads.j1 : Nat → List Int → List Int → Int → Int → Int → Bool → Int → Int → Int → ByteArray → Option (Bool)
 | 0, _, _, _, _, _, _, _, _, _, _ => none
 | k + 1, x0, x5, x6, x11, x12, x51, x259000, x259001, x259002, x259003 => if x51 = true then (some false) else (if x12 = 0 then (if x259000 = 0 then ((erasurelaw14_awake.f).bind fun t259 => (if t259 = true then (some ((strOfNums x5).toList == (strOfNums x0).toList)) else (some false))) else (erasurelaw14_LexReads.l0 k x0 x11 x5 (wrap64 (x6 + 1)))) else ((erasurelaw14_awake.f).bind fun t260 => (if t260 = true then (some ((strOfNums x5).toList == (strOfNums x0).toList)) else (some false))))
end
def erasurelaw14_LexReads.f (k : Nat) (l0 : List Int) (a1 : Int) : Option (Bool) := if (l0.length : Int) > 500 then (some true) else ((erasureref04_Own.f l0).bind fun t242 => (erasurelaw14_LexReads.l0 k l0 a1 t242 0))
set_option maxHeartbeats 8000000 in
set_option maxRecDepth 100000 in
theorem erasurelaw14_LexReads.calls (k : Nat) (A0 : Option Addr) (c0 : Nat) (l0 : List Int) (a1 : Int) (r : Bool) (w : World) (hr0 : Kd.C (Kd.int .u8) w A0 l0.length l0) (hc0 : l0.length ≤ c0) (hT : Tab w) (h : erasurelaw14_LexReads.f k l0 a1 = some r) :
  Calls Tryd.prog 3 #[.slice A0 l0.length c0, .int .i64 a1] w fun e w' => e = .returned (.bool r) ∧ Below w.heap.size w w' := by
 have hu27 := Tryd.underlying27
 have HR0 := Aside0.mk hr0
 have HC0 := Aside0.mk hc0
 clear hr0 hc0
 have HB := Aside0.mk (Below.refl w.heap.size w)
 have HT := Aside0.mk hT
 clear hT
 have H : (if (l0.length : Int) > 500 then (some true) else ((erasureref04_Own.f l0).bind fun t242 => (erasurelaw14_LexReads.l0 k l0 a1 t242 0))) = some r := h
 clear h
 by_cases c3 : (l0.length : Int) > 500
 ·rw [if_pos c3] at H
  have c3b0 : decide (500 < (l0.length : Int)) = true := decide_eq_true c3
  have c3b1 : decide (500 < l0.length) = true := decide_eq_true (by omega)
  clear c3
  obtain rfl := Option.some.inj H
  go_enter Tryd.func3, Tryd.ntmps3
  go_wp2
  go_ret
  exact ⟨ee_, bel⟩
 ·rw [if_neg c3] at H
  have c3b0 : decide (500 < (l0.length : Int)) = false := decide_eq_false c3
  have c3b1 : decide (500 < l0.length) = false := decide_eq_false (by omega)
  clear c3
  replace H := Option.bind_eq_some_iff.mp H
  obtain ⟨t242, A40, H⟩ := H
  replace H : (erasurelaw14_LexReads.l0 k l0 a1 t242 0) = some r := H
  have A4 := Aside0.mk A40
  clear A40
  have H' := Aside0.mk H
  clear H
  go_enter Tryd.func3, Tryd.ntmps3
  go_wp2_with (first | ((with_reducible refine gate_callee (f := 9) rfl ?_); refine goesL_ (some 17) rfl rfl Tryd.func9 (by kernel_rfl) rfl #[.slice A0 l0.length c0] rfl gl_ ?_; (with_reducible refine (erasureref04_Own.calls _ _ l0 t242 _ ?side1 ?side2 A4.out).mono ?_); (case side1 => repeat (first | exact HR0.out | (with_reducible refine Kd.C_alloc ?_ _) | (with_reducible refine Kd.C_drewN ?_ _) | (with_reducible refine Kd.C_drew ?_))); (case side2 => exact HC0.out); rintro e w5 ⟨v243, rfl, ho0, hb⟩; refine ⟨_, rfl, ?_⟩; have n0_ := Aside0.mk (Kd.R_lower ho0 (below_size bel)); have n1_ := Aside0.mk (below_step bel hb); clear HB; have HO244 := n0_; have HB := n1_; clear n0_ n1_; (try clear hb); (try clear hb2); (try clear hk); (try clear hi); (try clear ho0)))
  go_loopg [1, 6] k (fun kq v1 v6 w' => ∃ (x1_1 : Int) (x6_1 : Int), v1 = .int .i64 x1_1 ∧ v6 = .int .i64 x6_1 ∧ Aside0 (erasurelaw14_LexReads.l0 kq l0 x1_1 t242 x6_1 = some r) ∧ Aside0 (kq ≤ k) ∧ Aside0 (Kd.R (Kd.int .u8) 5 w' w.heap.size (fun _ => True) v243 t242) ∧ Aside0 (Below w.heap.size w w'))
  case atStart => exact ⟨(a1), (0), ea_, ea_, H', ⟨Nat.le_refl _⟩, ⟨rkk HO244.out⟩, ⟨bel⟩⟩
  case round =>
   clear H'
   try clear p2
   try clear c3
   try clear c3b0
   try clear c3b1
   obtain ⟨x1_1, x6_1, rfl, rfl, HA, HK1, HO_5, HB⟩ := hrel
   cases gk with
   | zero => exact absurd HA.out (by simp [erasurelaw14_LexReads.l0])
   | succ k1 =>
    have H := HA.out
    clear HA
    simp only [erasurelaw14_LexReads.l0] at H
    by_cases c6 : x6_1 ≤ (wrap64 ((l0.length : Int) + 1))
    ·rw [if_pos c6] at H
     have c6b0 : decide (x6_1 ≤ (wrap64 ((l0.length : Int) + 1))) = true := decide_eq_true c6
     clear c6
     replace H := Option.bind_eq_some_iff.mp H
     obtain ⟨⟨t245, t246, t247, t248, t249, t250⟩, A70, H⟩ := H
     replace H : ((erasureref14_Next.f k1 l0 x1_1).bind fun bt252 => (if (!(t245 == bt252.1) || ((!(t246 == bt252.2.1) || (!(t247 == bt252.2.2.1))) || (!(t248.toList == bt252.2.2.2.1.toList)))) = true then (erasurelaw14_LexReads.j1 k1 l0 t242 x6_1 bt252.2.2.2.2.1 bt252.2.2.2.2.2 true bt252.1 bt252.2.1 bt252.2.2.1 bt252.2.2.2.1) else (if t249 = bt252.2.2.2.2.1 then (erasurelaw14_LexReads.j1 k1 l0 t242 x6_1 bt252.2.2.2.2.1 bt252.2.2.2.2.2 (t250 != bt252.2.2.2.2.2) bt252.1 bt252.2.1 bt252.2.2.1 bt252.2.2.2.1) else (erasurelaw14_LexReads.j1 k1 l0 t242 x6_1 bt252.2.2.2.2.1 bt252.2.2.2.2.2 true bt252.1 bt252.2.1 bt252.2.2.1 bt252.2.2.2.1)))) = some r := H
     have A7 := Aside0.mk A70
     clear A70
     replace H := Option.bind_eq_some_iff.mp H
     obtain ⟨⟨t252, t253, t254, t255, t256, t257⟩, A80, H⟩ := H
     replace H : (if (!(t245 == t252) || ((!(t246 == t253) || (!(t247 == t254))) || (!(t248.toList == t255.toList)))) = true then (erasurelaw14_LexReads.j1 k1 l0 t242 x6_1 t256 t257 true t252 t253 t254 t255) else (if t249 = t256 then (erasurelaw14_LexReads.j1 k1 l0 t242 x6_1 t256 t257 (t250 != t257) t252 t253 t254 t255) else (erasurelaw14_LexReads.j1 k1 l0 t242 x6_1 t256 t257 true t252 t253 t254 t255))) = some r := H
     have A8 := Aside0.mk A80
     clear A80
     have HC9 := Aside0.mk H
     clear H
     obtain ⟨Ao10, co10, eo10⟩ := Kd.R_slice HO_5.out
     subst eo10
     go_upto_region 9 with (first | ((with_reducible refine gate_callee (f := 10) rfl ?_); refine goesL_ (some 28) rfl rfl Tryd.func10 (by kernel_rfl) rfl #[.slice Ao10 t242.length co10, .int .i64 x1_1] rfl gl_ ?_; (with_reducible refine (lex_Next.calls k1 _ _ t242 x1_1 t245 t246 t247 t248 t249 t250 _ ?side1 ?side2 A7.out).mono ?_); (case side1 => repeat (first | exact (Kd.R_reads' HO_5.out).2.2 | (with_reducible refine Kd.C_alloc ?_ _) | (with_reducible refine Kd.C_drewN ?_ _) | (with_reducible refine Kd.C_drew ?_))); (case side2 => exact (Kd.R_reads' HO_5.out).2.1); rintro e w11 ⟨rfl, hb⟩; refine ⟨_, rfl, ?_⟩; have n0_ := Aside0.mk (Kd.R_below (rkk HO_5.out) hb); have n1_ := Aside0.mk (below_step bel hb); clear HO_5; clear HB; have HO_5 := n0_; have HB := n1_; clear n0_ n1_; (try clear hb); (try clear hb2); (try clear hk); (try clear hi)) | ((with_reducible refine gate_dst (N := 7) rfl ?_); refine box_event ?hg (N := 7) ?hd (cs := #[.int .i64 0, .int .i64 0, .int .i64 0, .string (⟨#[]⟩ : ByteArray)]) (t := 27) ?hr ?_; (case hd => rfl); (case hg => rfl); (case hr => first | (go_simp; done) | (go_simp; rfl)); intro gb251 hg w12 hbox hb; have n0_ := Aside0.mk (Kd.R_below (rkk HO_5.out) hb); have n1_ := Aside0.mk (below_step bel hb); have n2_ := Aside0.mk (hbox); have n3_ := Aside0.mk ((by rw [hg]; exact (below_size bel) : w.heap.size ≤ gb251)); have n4_ := Aside0.mk ((by rw [hg]; exact (below_size bel) : w.heap.size ≤ gb251)); clear HO_5; clear HB; have HO_5 := n0_; have HB := n1_; have BK251 := n2_; have GW251 := n3_; have GE251 := n4_; clear n0_ n1_ n2_ n3_ n4_; clear hb hbox hg; have hcz13_0 : w12.cell? ⟨gb251, 0, none⟩ = some (.int .i64 0) := (blk_cell BK251.out 0).trans rfl; have hcz13_1 : w12.cell? ⟨gb251, 1, none⟩ = some (.int .i64 0) := (blk_cell BK251.out 1).trans rfl; have hcz13_2 : w12.cell? ⟨gb251, 2, none⟩ = some (.int .i64 0) := (blk_cell BK251.out 2).trans rfl; have hcz13_3 : w12.cell? ⟨gb251, 3, none⟩ = some (.string (⟨#[]⟩ : ByteArray)) := (blk_cell BK251.out 3).trans rfl; have hfz13_0 := blk_frozen BK251.out 0; have hfz13_1 := blk_frozen BK251.out 1; have hfz13_2 := blk_frozen BK251.out 2; have hfz13_3 := blk_frozen BK251.out 3) | ((with_reducible refine gate_callee (f := 11) rfl ?_); refine goesL_ (some 35) rfl rfl Tryd.func11 (by kernel_rfl) rfl #[.slice A0 l0.length c0, .int .i64 x1_1] rfl gl_ ?_; (with_reducible refine (erasureref14_Next.calls k1 _ _ l0 x1_1 t252 t253 t254 t255 t256 t257 _ ?side1 ?side2 A8.out).mono ?_); (case side1 => exact Kd.C_below HR0.out bel); (case side2 => exact HC0.out); rintro e w14 ⟨rfl, hb⟩; refine ⟨_, rfl, ?_⟩; have n0_ := Aside0.mk (Kd.R_below (by (with_reducible repeat (first | apply Kd.R_alloc | apply Kd.R_drewN | apply Kd.R_drew)); exact (Kd.R_mono (Kd.R_far (p := ⟨gb251, 3, none⟩) (Kd.R_far (p := ⟨gb251, 2, none⟩) (Kd.R_far (p := ⟨gb251, 1, none⟩) (Kd.R_far (p := ⟨gb251, 0, none⟩) (Kd.R_types HO_5.out BK251.out (by decide)) (fun _ hk => hk.2) (.int .i64 t245)) (fun _ hk => hk.2) (.int .i64 t246)) (fun _ hk => hk.2) (.int .i64 t247)) (fun _ hk => hk.2) (.string t248)) (fun _ h_ => h_.1))) hb); have n1_ := Aside0.mk (blk_below (g := gb251) (o := .cells #[.int .i64 t245, .int .i64 t246, .int .i64 t247, .string t248] 27 (0, 0)) (by (with_reducible repeat (first | refine blk_drewN ?_ _ | refine blk_drew ?_ | refine blk_alloc ?_ _)); refine blk_put (cs := #[.int .i64 t245, .int .i64 t246, .int .i64 t247, .string (⟨#[]⟩ : ByteArray)]) ?_ 3 _ rfl; (with_reducible repeat (first | refine blk_drewN ?_ _ | refine blk_drew ?_ | refine blk_alloc ?_ _)); refine blk_put (cs := #[.int .i64 t245, .int .i64 t246, .int .i64 0, .string (⟨#[]⟩ : ByteArray)]) ?_ 2 _ rfl; (with_reducible repeat (first | refine blk_drewN ?_ _ | refine blk_drew ?_ | refine blk_alloc ?_ _)); refine blk_put (cs := #[.int .i64 t245, .int .i64 0, .int .i64 0, .string (⟨#[]⟩ : ByteArray)]) ?_ 1 _ rfl; (with_reducible repeat (first | refine blk_drewN ?_ _ | refine blk_drew ?_ | refine blk_alloc ?_ _)); refine blk_put (cs := #[.int .i64 0, .int .i64 0, .int .i64 0, .string (⟨#[]⟩ : ByteArray)]) ?_ 0 _ rfl; (with_reducible repeat (first | refine blk_drewN ?_ _ | refine blk_drew ?_ | refine blk_alloc ?_ _)); exact BK251.out) hb); have n2_ := Aside0.mk (below_step bel hb); clear HO_5; clear BK251; clear HB; have HO_5 := n0_; have BK251 := n1_; have HB := n2_; clear n0_ n1_ n2_; (try clear hb); (try clear hb2); (try clear hk); (try clear hi)) | ((with_reducible refine gate_dst (N := 10) rfl ?_); refine box_event ?hg (N := 10) ?hd (cs := #[.int .i64 0, .int .i64 0, .int .i64 0, .string (⟨#[]⟩ : ByteArray)]) (t := 27) ?hr ?_; (case hd => rfl); (case hg => rfl); (case hr => first | (go_simp; done) | (go_simp; rfl)); intro gb258 hg w15 hbox hb; have n0_ := Aside0.mk (Kd.R_below (rkk HO_5.out) hb); have n1_ := Aside0.mk (blk_below (bkk BK251.out) hb); have n2_ := Aside0.mk (below_step bel hb); have n3_ := Aside0.mk (hbox); have n4_ := Aside0.mk ((by rw [hg]; exact (below_size bel) : w.heap.size ≤ gb258)); have n5_ := Aside0.mk ((by rw [hg]; exact (below_size bel) : w.heap.size ≤ gb258)); have n6_ := Aside0.mk ((by rw [hg]; exact Nat.ne_of_lt (blk_lt (bkk BK251.out)) : gb251 ≠ gb258)); have n7_ := Aside0.mk ((by rw [hg]; exact Nat.ne_of_gt (blk_lt (bkk BK251.out)) : gb258 ≠ gb251)); clear HO_5; clear BK251; clear HB; have HO_5 := n0_; have BK251 := n1_; have HB := n2_; have BK258 := n3_; have GW258 := n4_; have GE258 := n5_; have NB251_258 := n6_; have NB258_251 := n7_; clear n0_ n1_ n2_ n3_ n4_ n5_ n6_ n7_; clear hb hbox hg; have hnb16 := NB258_251.out; have hnc16 := NB251_258.out; have hcz17_0 : w15.cell? ⟨gb258, 0, none⟩ = some (.int .i64 0) := (blk_cell BK258.out 0).trans rfl; have hcz17_1 : w15.cell? ⟨gb258, 1, none⟩ = some (.int .i64 0) := (blk_cell BK258.out 1).trans rfl; have hcz17_2 : w15.cell? ⟨gb258, 2, none⟩ = some (.int .i64 0) := (blk_cell BK258.out 2).trans rfl; have hcz17_3 : w15.cell? ⟨gb258, 3, none⟩ = some (.string (⟨#[]⟩ : ByteArray)) := (blk_cell BK258.out 3).trans rfl; have hfz17_0 := blk_frozen BK258.out 0; have hfz17_1 := blk_frozen BK258.out 1; have hfz17_2 := blk_frozen BK258.out 2; have hfz17_3 := blk_frozen BK258.out 3))
     (try simp only [Act.put, List.setIfInBounds_toArray, List.set_cons_zero, List.set_cons_succ])
     go_cut [51] (fun v51 wc => ∃ (kq : Nat) (x51_8 : Bool), v51 = .bool x51_8 ∧ Aside0 (erasurelaw14_LexReads.j1 kq l0 t242 x6_1 t256 t257 x51_8 t252 t253 t254 t255 = some r) ∧ Aside0 (kq ≤ k1) ∧ Aside0 (Kd.R (Kd.int .u8) 5 wc w.heap.size (fun _ => True) (.slice Ao10 t242.length co10) t242) ∧ Aside0 (wc.heap[gb251]? = some (.cells #[.int .i64 t245, .int .i64 t246, .int .i64 t247, .string t248] 27 (0, 0))) ∧ Aside0 (wc.heap[gb258]? = some (.cells #[.int .i64 t252, .int .i64 t253, .int .i64 t254, .string t255] 27 (0, 0))) ∧ Aside0 (Below w.heap.size w wc))
     case first =>
      have H := HC9.out
      clear HC9
      by_cases c18 : (!(t245 == t252) || ((!(t246 == t253) || (!(t247 == t254))) || (!(t248.toList == t255.toList)))) = true
      ·rw [if_pos c18] at H
       have c18b0 : (!(t245 == t252) || ((!(t246 == t253) || (!(t247 == t254))) || (!(t248.toList == t255.toList)))) = true := c18
       clear c18
       (first | rw [c18b0] | (simp only [i64_w, i32_w]; rw [c18b0]) | skip)
       have H' := Aside0.mk H
       clear H
       have hnb19 := NB251_258.out
       have hnc19 := NB258_251.out
       have hcz20_0 : w15.cell? ⟨gb251, 0, none⟩ = some (.int .i64 t245) := (blk_cell BK251.out 0).trans rfl
       have hcz20_1 : w15.cell? ⟨gb251, 1, none⟩ = some (.int .i64 t246) := (blk_cell BK251.out 1).trans rfl
       have hcz20_2 : w15.cell? ⟨gb251, 2, none⟩ = some (.int .i64 t247) := (blk_cell BK251.out 2).trans rfl
       have hcz20_3 : w15.cell? ⟨gb251, 3, none⟩ = some (.string t248) := (blk_cell BK251.out 3).trans rfl
       have hfz20_0 := blk_frozen BK251.out 0
       have hfz20_1 := blk_frozen BK251.out 1
       have hfz20_2 := blk_frozen BK251.out 2
       have hfz20_3 := blk_frozen BK251.out 3
       have hcz21_0 : w15.cell? ⟨gb258, 0, none⟩ = some (.int .i64 0) := (blk_cell BK258.out 0).trans rfl
       have hcz21_1 : w15.cell? ⟨gb258, 1, none⟩ = some (.int .i64 0) := (blk_cell BK258.out 1).trans rfl
       have hcz21_2 : w15.cell? ⟨gb258, 2, none⟩ = some (.int .i64 0) := (blk_cell BK258.out 2).trans rfl
       have hcz21_3 : w15.cell? ⟨gb258, 3, none⟩ = some (.string (⟨#[]⟩ : ByteArray)) := (blk_cell BK258.out 3).trans rfl
       have hfz21_0 := blk_frozen BK258.out 0
       have hfz21_1 := blk_frozen BK258.out 1
       have hfz21_2 := blk_frozen BK258.out 2
       have hfz21_3 := blk_frozen BK258.out 3
       go_wp2
       go_meet
       case rel => exact ⟨_, (true), ea_, H', ⟨by have := HK1.out; first | omega | exact Nat.le_refl _⟩, ⟨by (with_reducible repeat (first | apply Kd.R_alloc | apply Kd.R_drewN | apply Kd.R_drew)); exact Kd.R_mono (Kd.R_far (p := ⟨gb258, 3, none⟩) (Kd.R_far (p := ⟨gb258, 2, none⟩) (Kd.R_far (p := ⟨gb258, 1, none⟩) (Kd.R_far (p := ⟨gb258, 0, none⟩) (Kd.R_types HO_5.out BK258.out (by decide)) (fun _ hk => hk.2) (.int .i64 t252)) (fun _ hk => hk.2) (.int .i64 t253)) (fun _ hk => hk.2) (.int .i64 t254)) (fun _ hk => hk.2) (.string t255)) (fun _ hk => trivial)⟩, ⟨blks⟩, ⟨by (with_reducible repeat (first | refine blk_drewN ?_ _ | refine blk_drew ?_ | refine blk_alloc ?_ _)); refine blk_put (cs := #[.int .i64 t252, .int .i64 t253, .int .i64 t254, .string (⟨#[]⟩ : ByteArray)]) ?_ 3 _ rfl; (with_reducible repeat (first | refine blk_drewN ?_ _ | refine blk_drew ?_ | refine blk_alloc ?_ _)); refine blk_put (cs := #[.int .i64 t252, .int .i64 t253, .int .i64 0, .string (⟨#[]⟩ : ByteArray)]) ?_ 2 _ rfl; (with_reducible repeat (first | refine blk_drewN ?_ _ | refine blk_drew ?_ | refine blk_alloc ?_ _)); refine blk_put (cs := #[.int .i64 t252, .int .i64 0, .int .i64 0, .string (⟨#[]⟩ : ByteArray)]) ?_ 1 _ rfl; (with_reducible repeat (first | refine blk_drewN ?_ _ | refine blk_drew ?_ | refine blk_alloc ?_ _)); refine blk_put (cs := #[.int .i64 0, .int .i64 0, .int .i64 0, .string (⟨#[]⟩ : ByteArray)]) ?_ 0 _ rfl; (with_reducible repeat (first | refine blk_drewN ?_ _ | refine blk_drew ?_ | refine blk_alloc ?_ _)); exact BK258.out⟩, ⟨bel⟩⟩
      ·rw [if_neg c18] at H
       have c18b0 : (!(t245 == t252) || ((!(t246 == t253) || (!(t247 == t254))) || (!(t248.toList == t255.toList)))) = false := by simpa using c18
       clear c18
       (first | rw [c18b0] | (simp only [i64_w, i32_w]; rw [c18b0]) | skip)
       by_cases c22 : t249 = t256
       ·rw [if_pos c22] at H
        have c22b0 : (t249 == t256) = true := beq_iff_eq.mpr c22
        have c22b1 : (t249 != t256) = false := bne_eq_false_iff_eq.mpr c22
        clear c22
        have H' := Aside0.mk H
        clear H
        have hnb23 := NB251_258.out
        have hnc23 := NB258_251.out
        have hcz24_0 : w15.cell? ⟨gb251, 0, none⟩ = some (.int .i64 t245) := (blk_cell BK251.out 0).trans rfl
        have hcz24_1 : w15.cell? ⟨gb251, 1, none⟩ = some (.int .i64 t246) := (blk_cell BK251.out 1).trans rfl
        have hcz24_2 : w15.cell? ⟨gb251, 2, none⟩ = some (.int .i64 t247) := (blk_cell BK251.out 2).trans rfl
        have hcz24_3 : w15.cell? ⟨gb251, 3, none⟩ = some (.string t248) := (blk_cell BK251.out 3).trans rfl
        have hfz24_0 := blk_frozen BK251.out 0
        have hfz24_1 := blk_frozen BK251.out 1
        have hfz24_2 := blk_frozen BK251.out 2
        have hfz24_3 := blk_frozen BK251.out 3
        have hcz25_0 : w15.cell? ⟨gb258, 0, none⟩ = some (.int .i64 0) := (blk_cell BK258.out 0).trans rfl
        have hcz25_1 : w15.cell? ⟨gb258, 1, none⟩ = some (.int .i64 0) := (blk_cell BK258.out 1).trans rfl
        have hcz25_2 : w15.cell? ⟨gb258, 2, none⟩ = some (.int .i64 0) := (blk_cell BK258.out 2).trans rfl
        have hcz25_3 : w15.cell? ⟨gb258, 3, none⟩ = some (.string (⟨#[]⟩ : ByteArray)) := (blk_cell BK258.out 3).trans rfl
        have hfz25_0 := blk_frozen BK258.out 0
        have hfz25_1 := blk_frozen BK258.out 1
        have hfz25_2 := blk_frozen BK258.out 2
        have hfz25_3 := blk_frozen BK258.out 3
        go_wp2
        go_meet
        case rel => exact ⟨_, ((t250 != t257)), ea_, H', ⟨by have := HK1.out; first | omega | exact Nat.le_refl _⟩, ⟨by (with_reducible repeat (first | apply Kd.R_alloc | apply Kd.R_drewN | apply Kd.R_drew)); exact Kd.R_mono (Kd.R_far (p := ⟨gb258, 3, none⟩) (Kd.R_far (p := ⟨gb258, 2, none⟩) (Kd.R_far (p := ⟨gb258, 1, none⟩) (Kd.R_far (p := ⟨gb258, 0, none⟩) (Kd.R_types HO_5.out BK258.out (by decide)) (fun _ hk => hk.2) (.int .i64 t252)) (fun _ hk => hk.2) (.int .i64 t253)) (fun _ hk => hk.2) (.int .i64 t254)) (fun _ hk => hk.2) (.string t255)) (fun _ hk => trivial)⟩, ⟨blks⟩, ⟨by (with_reducible repeat (first | refine blk_drewN ?_ _ | refine blk_drew ?_ | refine blk_alloc ?_ _)); refine blk_put (cs := #[.int .i64 t252, .int .i64 t253, .int .i64 t254, .string (⟨#[]⟩ : ByteArray)]) ?_ 3 _ rfl; (with_reducible repeat (first | refine blk_drewN ?_ _ | refine blk_drew ?_ | refine blk_alloc ?_ _)); refine blk_put (cs := #[.int .i64 t252, .int .i64 t253, .int .i64 0, .string (⟨#[]⟩ : ByteArray)]) ?_ 2 _ rfl; (with_reducible repeat (first | refine blk_drewN ?_ _ | refine blk_drew ?_ | refine blk_alloc ?_ _)); refine blk_put (cs := #[.int .i64 t252, .int .i64 0, .int .i64 0, .string (⟨#[]⟩ : ByteArray)]) ?_ 1 _ rfl; (with_reducible repeat (first | refine blk_drewN ?_ _ | refine blk_drew ?_ | refine blk_alloc ?_ _)); refine blk_put (cs := #[.int .i64 0, .int .i64 0, .int .i64 0, .string (⟨#[]⟩ : ByteArray)]) ?_ 0 _ rfl; (with_reducible repeat (first | refine blk_drewN ?_ _ | refine blk_drew ?_ | refine blk_alloc ?_ _)); exact BK258.out⟩, ⟨bel⟩⟩
       ·rw [if_neg c22] at H
        have c22b0 : (t249 == t256) = false := beq_eq_false_iff_ne.mpr c22
        have c22b1 : (t249 != t256) = true := bne_iff_ne.mpr c22
        have H' := Aside0.mk H
        clear H
        have hnb26 := NB251_258.out
        have hnc26 := NB258_251.out
        have hcz27_0 : w15.cell? ⟨gb251, 0, none⟩ = some (.int .i64 t245) := (blk_cell BK251.out 0).trans rfl
        have hcz27_1 : w15.cell? ⟨gb251, 1, none⟩ = some (.int .i64 t246) := (blk_cell BK251.out 1).trans rfl
        have hcz27_2 : w15.cell? ⟨gb251, 2, none⟩ = some (.int .i64 t247) := (blk_cell BK251.out 2).trans rfl
        have hcz27_3 : w15.cell? ⟨gb251, 3, none⟩ = some (.string t248) := (blk_cell BK251.out 3).trans rfl
        have hfz27_0 := blk_frozen BK251.out 0
        have hfz27_1 := blk_frozen BK251.out 1
        have hfz27_2 := blk_frozen BK251.out 2
        have hfz27_3 := blk_frozen BK251.out 3
        have hcz28_0 : w15.cell? ⟨gb258, 0, none⟩ = some (.int .i64 0) := (blk_cell BK258.out 0).trans rfl
        have hcz28_1 : w15.cell? ⟨gb258, 1, none⟩ = some (.int .i64 0) := (blk_cell BK258.out 1).trans rfl
        have hcz28_2 : w15.cell? ⟨gb258, 2, none⟩ = some (.int .i64 0) := (blk_cell BK258.out 2).trans rfl
        have hcz28_3 : w15.cell? ⟨gb258, 3, none⟩ = some (.string (⟨#[]⟩ : ByteArray)) := (blk_cell BK258.out 3).trans rfl
        have hfz28_0 := blk_frozen BK258.out 0
        have hfz28_1 := blk_frozen BK258.out 1
        have hfz28_2 := blk_frozen BK258.out 2
        have hfz28_3 := blk_frozen BK258.out 3
        go_wp2
        go_meet
        case rel => exact ⟨_, (true), ea_, H', ⟨by have := HK1.out; first | omega | exact Nat.le_refl _⟩, ⟨by (with_reducible repeat (first | apply Kd.R_alloc | apply Kd.R_drewN | apply Kd.R_drew)); exact Kd.R_mono (Kd.R_far (p := ⟨gb258, 3, none⟩) (Kd.R_far (p := ⟨gb258, 2, none⟩) (Kd.R_far (p := ⟨gb258, 1, none⟩) (Kd.R_far (p := ⟨gb258, 0, none⟩) (Kd.R_types HO_5.out BK258.out (by decide)) (fun _ hk => hk.2) (.int .i64 t252)) (fun _ hk => hk.2) (.int .i64 t253)) (fun _ hk => hk.2) (.int .i64 t254)) (fun _ hk => hk.2) (.string t255)) (fun _ hk => trivial)⟩, ⟨blks⟩, ⟨by (with_reducible repeat (first | refine blk_drewN ?_ _ | refine blk_drew ?_ | refine blk_alloc ?_ _)); refine blk_put (cs := #[.int .i64 t252, .int .i64 t253, .int .i64 t254, .string (⟨#[]⟩ : ByteArray)]) ?_ 3 _ rfl; (with_reducible repeat (first | refine blk_drewN ?_ _ | refine blk_drew ?_ | refine blk_alloc ?_ _)); refine blk_put (cs := #[.int .i64 t252, .int .i64 t253, .int .i64 0, .string (⟨#[]⟩ : ByteArray)]) ?_ 2 _ rfl; (with_reducible repeat (first | refine blk_drewN ?_ _ | refine blk_drew ?_ | refine blk_alloc ?_ _)); refine blk_put (cs := #[.int .i64 t252, .int .i64 0, .int .i64 0, .string (⟨#[]⟩ : ByteArray)]) ?_ 1 _ rfl; (with_reducible repeat (first | refine blk_drewN ?_ _ | refine blk_drew ?_ | refine blk_alloc ?_ _)); refine blk_put (cs := #[.int .i64 0, .int .i64 0, .int .i64 0, .string (⟨#[]⟩ : ByteArray)]) ?_ 0 _ rfl; (with_reducible repeat (first | refine blk_drewN ?_ _ | refine blk_drew ?_ | refine blk_alloc ?_ _)); exact BK258.out⟩, ⟨bel⟩⟩
     case rest =>
      clear HC9
      try clear c1
      try clear c2
      try clear p2
      try clear c3
      try clear c3b0
      try clear c3b1
      try clear c6
      try clear c6b0
      try clear p6
      try clear c9
      try clear c10
      try clear c11
      try clear c16
      try clear c18
      try clear c18b0
      try clear c19
      try clear c22
      try clear c22b0
      try clear c22b1
      try clear c23
      try clear c26
      try clear hcz13_0
      try clear hcz13_1
      try clear hcz13_2
      try clear hcz13_3
      try clear hcz17_0
      try clear hcz17_1
      try clear hcz17_2
      try clear hcz17_3
      try clear hcz20_0
      try clear hcz20_1
      try clear hcz20_2
      try clear hcz20_3
      try clear hcz21_0
      try clear hcz21_1
      try clear hcz21_2
      try clear hcz21_3
      try clear hcz24_0
      try clear hcz24_1
      try clear hcz24_2
      try clear hcz24_3
      try clear hcz25_0
      try clear hcz25_1
      try clear hcz25_2
      try clear hcz25_3
      try clear hcz27_0
      try clear hcz27_1
      try clear hcz27_2
      try clear hcz27_3
      try clear hcz28_0
      try clear hcz28_1
      try clear hcz28_2
      try clear hcz28_3
      try clear hfz13_0
      try clear hfz13_1
      try clear hfz13_2
      try clear hfz13_3
      try clear hfz17_0
      try clear hfz17_1
      try clear hfz17_2
      try clear hfz17_3
      try clear hfz20_0
      try clear hfz20_1
      try clear hfz20_2
      try clear hfz20_3
      try clear hfz21_0
      try clear hfz21_1
      try clear hfz21_2
      try clear hfz21_3
      try clear hfz24_0
      try clear hfz24_1
      try clear hfz24_2
      try clear hfz24_3
      try clear hfz25_0
      try clear hfz25_1
      try clear hfz25_2
      try clear hfz25_3
      try clear hfz27_0
      try clear hfz27_1
      try clear hfz27_2
      try clear hfz27_3
      try clear hfz28_0
      try clear hfz28_1
      try clear hfz28_2
      try clear hfz28_3
      try clear p2
      obtain ⟨kq, x51_8, rfl, HA, HJ8, HO_5, BK251, BK258, HB⟩ := hcut
      cases kq with
      | zero => exact absurd HA.out (by simp [erasurelaw14_LexReads.j1])
      | succ kj8 =>
       have H := HA.out
       clear HA
       simp only [erasurelaw14_LexReads.j1] at H
       by_cases c29 : x51_8 = true
       ·subst c29
        have H1 : (some false) = some r := by rw [if_pos rfl] at H; exact H
        clear H
        have H := H1
        clear H1
        obtain rfl := Option.some.inj H
        go_wp2
        go_ret
        exact ⟨ee_, bel⟩
       ·replace c29 := Bool.eq_false_iff.mpr c29
        subst c29
        have H1 : (if t257 = 0 then (if t252 = 0 then ((erasurelaw14_awake.f).bind fun t259 => (if t259 = true then (some ((strOfNums t242).toList == (strOfNums l0).toList)) else (some false))) else (erasurelaw14_LexReads.l0 kj8 l0 t256 t242 (wrap64 (x6_1 + 1)))) else ((erasurelaw14_awake.f).bind fun t260 => (if t260 = true then (some ((strOfNums t242).toList == (strOfNums l0).toList)) else (some false)))) = some r := by rw [if_neg (show ¬ (false = true) by decide)] at H; exact H
        clear H
        have H := H1
        clear H1
        by_cases c30 : t257 = 0
        ·rw [if_pos c30] at H
         have c30b0 : (t257 == 0) = true := beq_iff_eq.mpr c30
         have c30b1 : (t257 != 0) = false := bne_eq_false_iff_eq.mpr c30
         clear c30
         by_cases c31 : t252 = 0
         ·rw [if_pos c31] at H
          have c31b0 : (t252 == 0) = true := beq_iff_eq.mpr c31
          have c31b1 : (t252 != 0) = false := bne_eq_false_iff_eq.mpr c31
          clear c31
          replace H := Option.bind_eq_some_iff.mp H
          obtain ⟨t259, A320, H⟩ := H
          replace H : (if t259 = true then (some ((strOfNums t242).toList == (strOfNums l0).toList)) else (some false)) = some r := H
          have A32 := Aside0.mk A320
          clear A320
          by_cases c33 : t259 = true
          ·subst c33
           have H1 : (some ((strOfNums t242).toList == (strOfNums l0).toList)) = some r := by rw [if_pos rfl] at H; exact H
           clear H
           have H := H1
           clear H1
           obtain rfl := Option.some.inj H
           have hnbq0 := NB258_251.out
           have hncq0 := NB251_258.out
           have hczq0 : wc.cell? ⟨gb258, 0, none⟩ = some (.int .i64 t252) := (blk_cell BK258.out 0).trans rfl
           have hczq1 : wc.cell? ⟨gb258, 1, none⟩ = some (.int .i64 t253) := (blk_cell BK258.out 1).trans rfl
           have hczq2 : wc.cell? ⟨gb258, 2, none⟩ = some (.int .i64 t254) := (blk_cell BK258.out 2).trans rfl
           have hczq3 : wc.cell? ⟨gb258, 3, none⟩ = some (.string t255) := (blk_cell BK258.out 3).trans rfl
           have hfzq0 := blk_frozen BK258.out 0
           have hfzq1 := blk_frozen BK258.out 1
           have hfzq2 := blk_frozen BK258.out 2
           have hfzq3 := blk_frozen BK258.out 3
           go_wp2_with (first | ((with_reducible refine gate_callee (f := 12) rfl ?_); refine goesL_ (some 59) rfl rfl Tryd.func12 (by kernel_rfl) rfl #[] rfl gl_ ?_; (with_reducible refine (erasurelaw14_awake.calls  true _ (Tab.below HT.out bel) A32.out).mono ?_); rintro e wq0 ⟨rfl, hb⟩; refine ⟨_, rfl, ?_⟩; have n0_ := Aside0.mk (Kd.R_below (rkk HO_5.out) hb); have n1_ := Aside0.mk (blk_below (bkk BK251.out) hb); have n2_ := Aside0.mk (blk_below (bkk BK258.out) hb); have n3_ := Aside0.mk (below_step bel hb); clear HO_5; clear BK251; clear BK258; clear HB; have HO_5 := n0_; have BK251 := n1_; have BK258 := n2_; have HB := n3_; clear n0_ n1_ n2_ n3_; (try clear hb); (try clear hb2); (try clear hk); (try clear hi); have hcvq0 := own_string (P := Tryd.prog) Tryd.underlying22 Tryd.underlying5 Tryd.underlying9 (Kd.own_of_R HO_5.out); have hcvq1 := Kd.C_string (P := Tryd.prog) (A := A0) (c := c0) Tryd.underlying22 Tryd.underlying5 Tryd.underlying9 (Kd.C_below HR0.out HB.out)))
           go_ret
           exact ⟨ee_, bel⟩
          ·replace c33 := Bool.eq_false_iff.mpr c33
           subst c33
           have H1 : (some false) = some r := by rw [if_neg (show ¬ (false = true) by decide)] at H; exact H
           clear H
           have H := H1
           clear H1
           obtain rfl := Option.some.inj H
           have hnbq0 := NB258_251.out
           have hncq0 := NB251_258.out
           have hczq0 : wc.cell? ⟨gb258, 0, none⟩ = some (.int .i64 t252) := (blk_cell BK258.out 0).trans rfl
           have hczq1 : wc.cell? ⟨gb258, 1, none⟩ = some (.int .i64 t253) := (blk_cell BK258.out 1).trans rfl
           have hczq2 : wc.cell? ⟨gb258, 2, none⟩ = some (.int .i64 t254) := (blk_cell BK258.out 2).trans rfl
           have hczq3 : wc.cell? ⟨gb258, 3, none⟩ = some (.string t255) := (blk_cell BK258.out 3).trans rfl
           have hfzq0 := blk_frozen BK258.out 0
           have hfzq1 := blk_frozen BK258.out 1
           have hfzq2 := blk_frozen BK258.out 2
           have hfzq3 := blk_frozen BK258.out 3
           go_wp2_with (first | ((with_reducible refine gate_callee (f := 12) rfl ?_); refine goesL_ (some 59) rfl rfl Tryd.func12 (by kernel_rfl) rfl #[] rfl gl_ ?_; (with_reducible refine (erasurelaw14_awake.calls  false _ (Tab.below HT.out bel) A32.out).mono ?_); rintro e wq0 ⟨rfl, hb⟩; refine ⟨_, rfl, ?_⟩; have n0_ := Aside0.mk (Kd.R_below (rkk HO_5.out) hb); have n1_ := Aside0.mk (blk_below (bkk BK251.out) hb); have n2_ := Aside0.mk (blk_below (bkk BK258.out) hb); have n3_ := Aside0.mk (below_step bel hb); clear HO_5; clear BK251; clear BK258; clear HB; have HO_5 := n0_; have BK251 := n1_; have BK258 := n2_; have HB := n3_; clear n0_ n1_ n2_ n3_; (try clear hb); (try clear hb2); (try clear hk); (try clear hi)))
           go_ret
           exact ⟨ee_, bel⟩
         ·rw [if_neg c31] at H
          have c31b0 : (t252 == 0) = false := beq_eq_false_iff_ne.mpr c31
          have c31b1 : (t252 != 0) = true := bne_iff_ne.mpr c31
          have H' := Aside0.mk H
          clear H
          have hnb42 := NB258_251.out
          have hnc42 := NB251_258.out
          have hcz43_0 : wc.cell? ⟨gb258, 0, none⟩ = some (.int .i64 t252) := (blk_cell BK258.out 0).trans rfl
          have hcz43_1 : wc.cell? ⟨gb258, 1, none⟩ = some (.int .i64 t253) := (blk_cell BK258.out 1).trans rfl
          have hcz43_2 : wc.cell? ⟨gb258, 2, none⟩ = some (.int .i64 t254) := (blk_cell BK258.out 2).trans rfl
          have hcz43_3 : wc.cell? ⟨gb258, 3, none⟩ = some (.string t255) := (blk_cell BK258.out 3).trans rfl
          have hfz43_0 := blk_frozen BK258.out 0
          have hfz43_1 := blk_frozen BK258.out 1
          have hfz43_2 := blk_frozen BK258.out 2
          have hfz43_3 := blk_frozen BK258.out 3
          go_wp2
          go_roundg kj8
          case measure => have := HK1.out; have := HJ8.out; omega
          case rel => exact ⟨(t256), (wrap64 (x6_1 + 1)), ea_, ea_, H', ⟨by have := HK1.out; have := HJ8.out; omega⟩, ⟨rkk HO_5.out⟩, ⟨bel⟩⟩
        ·rw [if_neg c30] at H
         have c30b0 : (t257 == 0) = false := beq_eq_false_iff_ne.mpr c30
         have c30b1 : (t257 != 0) = true := bne_iff_ne.mpr c30
         replace H := Option.bind_eq_some_iff.mp H
         obtain ⟨t260, A440, H⟩ := H
         replace H : (if t260 = true then (some ((strOfNums t242).toList == (strOfNums l0).toList)) else (some false)) = some r := H
         have A44 := Aside0.mk A440
         clear A440
         by_cases c45 : t260 = true
         ·subst c45
          have H1 : (some ((strOfNums t242).toList == (strOfNums l0).toList)) = some r := by rw [if_pos rfl] at H; exact H
          clear H
          have H := H1
          clear H1
          obtain rfl := Option.some.inj H
          go_wp2_with (first | ((with_reducible refine gate_callee (f := 12) rfl ?_); refine goesL_ (some 59) rfl rfl Tryd.func12 (by kernel_rfl) rfl #[] rfl gl_ ?_; (with_reducible refine (erasurelaw14_awake.calls  true _ (Tab.below HT.out bel) A44.out).mono ?_); rintro e wq0 ⟨rfl, hb⟩; refine ⟨_, rfl, ?_⟩; have n0_ := Aside0.mk (Kd.R_below (rkk HO_5.out) hb); have n1_ := Aside0.mk (blk_below (bkk BK251.out) hb); have n2_ := Aside0.mk (blk_below (bkk BK258.out) hb); have n3_ := Aside0.mk (below_step bel hb); clear HO_5; clear BK251; clear BK258; clear HB; have HO_5 := n0_; have BK251 := n1_; have BK258 := n2_; have HB := n3_; clear n0_ n1_ n2_ n3_; (try clear hb); (try clear hb2); (try clear hk); (try clear hi); have hcvq0 := own_string (P := Tryd.prog) Tryd.underlying22 Tryd.underlying5 Tryd.underlying9 (Kd.own_of_R HO_5.out); have hcvq1 := Kd.C_string (P := Tryd.prog) (A := A0) (c := c0) Tryd.underlying22 Tryd.underlying5 Tryd.underlying9 (Kd.C_below HR0.out HB.out)))
          go_ret
          exact ⟨ee_, bel⟩
         ·replace c45 := Bool.eq_false_iff.mpr c45
          subst c45
          have H1 : (some false) = some r := by rw [if_neg (show ¬ (false = true) by decide)] at H; exact H
          clear H
          have H := H1
          clear H1
          obtain rfl := Option.some.inj H
          go_wp2_with (first | ((with_reducible refine gate_callee (f := 12) rfl ?_); refine goesL_ (some 59) rfl rfl Tryd.func12 (by kernel_rfl) rfl #[] rfl gl_ ?_; (with_reducible refine (erasurelaw14_awake.calls  false _ (Tab.below HT.out bel) A44.out).mono ?_); rintro e wq0 ⟨rfl, hb⟩; refine ⟨_, rfl, ?_⟩; have n0_ := Aside0.mk (Kd.R_below (rkk HO_5.out) hb); have n1_ := Aside0.mk (blk_below (bkk BK251.out) hb); have n2_ := Aside0.mk (blk_below (bkk BK258.out) hb); have n3_ := Aside0.mk (below_step bel hb); clear HO_5; clear BK251; clear BK258; clear HB; have HO_5 := n0_; have BK251 := n1_; have BK258 := n2_; have HB := n3_; clear n0_ n1_ n2_ n3_; (try clear hb); (try clear hb2); (try clear hk); (try clear hi)))
          go_ret
          exact ⟨ee_, bel⟩
    ·rw [if_neg c6] at H
     have c6b0 : decide (x6_1 ≤ (wrap64 ((l0.length : Int) + 1))) = false := decide_eq_false c6
     clear c6
     obtain rfl := Option.some.inj H
     go_wp2
     go_ret
     exact ⟨ee_, bel⟩
def erasurelaw14_LexReads.Pure : Prop := ∀ (l0 : List Int) (a1 : Int), l0.length ≤ maxLen → l0.length * 1 ≤ 140737488351232 → (∀ x ∈ l0, (Lit.int .u8 x).wf = true) → (Lit.int .i64 a1).wf = true → ∃ k, erasurelaw14_LexReads.f k l0 a1 = some true
end Go.Proofs.YtnhgnejfagncpaaDoor.R
end
section
namespace Go.Proofs.YtnhgnejfagncpaaDoor.Plain
open Go.RowKit Go.Proofs.YtnhgnejfagncpaaDoor.A Go.Proofs.YtnhgnejfagncpaaDoor.H Go.Proofs.YtnhgnejfagncpaaDoorW.PrintWords Go.Proofs.YtnhgnejfagncpaaDoorW.PrintLast Go.Proofs.YtnhgnejfagncpaaDoorW.PrintMore
theorem wrap_small (n : Int) (h0 : -9223372036854775808 ≤ n) (h1 : n < 9223372036854775808) : wrap64 n = n := by
  unfold wrap64
  omega
theorem wu (n : Int) (h0 : 0 ≤ n) (h1 : n < 18446744073709551616) : IntKind.u64.wrap n = n := by
  rw [IntKind.wrap_u64]
  omega
theorem tm10 (n : Nat) : Int.tmod (n : Int) 10 = ((n % 10 : Nat) : Int) := rfl
theorem td10 (n : Nat) : Int.tdiv (n : Int) 10 = ((n / 10 : Nat) : Int) := rfl
theorem shl10 : shl .u64 10 60 = 11529215046068469760 := by decide
theorem lz10 : bits_LeadingZeros64.f 10 = some 60 := by decide
theorem shl60 (n : Nat) : shl .u64 (n : Int) 60 = ((n % 16 * 1152921504606846976 : Nat) : Int) := by
  unfold shl
  rw [IntKind.wrap_u64, show (2 : Int) ^ min (60 : Int).toNat IntKind.u64.bits = 1152921504606846976 from by decide]
  omega
theorem shr4 (n : Nat) : shr .u64 (n : Int) 4 = ((n / 16 : Nat) : Int) := by
  unfold shr
  rw [show (2 : Int) ^ min (4 : Int).toNat IntKind.u64.bits = 16 from by decide]
  omega
theorem shr60 (n : Nat) : shr .u64 (n : Int) 60 = ((n / 1152921504606846976 : Nat) : Int) := by
  unfold shr
  rw [show (2 : Int) ^ min (60 : Int).toNat IntKind.u64.bits = 1152921504606846976 from by decide]
  omega
theorem or60 (a b : Nat) (ha : a < 16) (hb : b < 1152921504606846976) : Go.bits .or .u64 ((a * 1152921504606846976 : Nat) : Int) (b : Int) = ((a * 1152921504606846976 + b : Nat) : Int) := by
  rw [bits_or_u64_nat _ _ (by omega) (by omega)]
  have h := Nat.two_pow_add_eq_or_of_lt (i := 60) (b := b) (by omega) a
  have h2 : (2 : Nat) ^ 60 = 1152921504606846976 := by decide
  rw [h2] at h
  rw [Nat.mul_comm a, h]
theorem and32 (n : Nat) (hn : n < 18446744073709551616) : Go.bits .and .u64 (n : Int) 4294967295 = ((n % 4294967296 : Nat) : Int) := by
  have h := bits_and_u64_nat n 4294967295 hn (by decide)
  rw [show ((4294967295 : Nat) : Int) = 4294967295 from rfl] at h
  rw [h]
  have h2 := Nat.and_two_pow_sub_one_eq_mod n 32
  rw [show (2 : Nat) ^ 32 - 1 = 4294967295 from by decide, show (2 : Nat) ^ 32 = 4294967296 from by decide] at h2
  rw [h2]
theorem wsub (X r m : Int) (h0 : 0 ≤ r + m) (h1 : r + m < 18446744073709551616) : IntKind.u64.wrap ((IntKind.u64.wrap ((IntKind.u64.wrap (X + r)) + m)) - (IntKind.u64.wrap X)) = r + m := by
  rw [IntKind.wrap_u64, IntKind.wrap_u64, IntKind.wrap_u64, IntKind.wrap_u64]
  omega
set_option maxRecDepth 100000 in
theorem key10 (N u l m q1 rh v q0 rr : Nat) (h1 : N = 16 * u + l) (h2 : l * 268435456 = m) (h3 : u = q1 * 2684354560 + rh) (h4 : v = rh * 4294967296 + m) (h5 : v = q0 * 2684354560 + rr) : N * 1152921504606846976 = 11529215046068469760 * (q1 * 4294967296 + q0) + rr * 4294967296 := by
  grind
set_option maxRecDepth 100000 in
theorem last10 (N Q rr : Nat) (hr : rr < 2684354560) (h : N * 1152921504606846976 = 11529215046068469760 * Q + rr * 4294967296) : rr * 4294967296 / 1152921504606846976 = N % 10 ∧ Q = N / 10 := by
  have h1 : N - 10 * Q = rr * 4294967296 / 1152921504606846976 := by omega
  have h2 : rr * 4294967296 / 1152921504606846976 < 10 := by omega
  omega
set_option maxHeartbeats 4000000 in
theorem div64_10 (N : Nat) (hN : N < 184467440737095516160) (k : Nat) (hk : 6 ≤ k) :
    bits_Div64.f k ((N / 18446744073709551616 : Nat) : Int) ((N % 18446744073709551616 : Nat) : Int) 10 = some (((N / 10 : Nat) : Int), ((N % 10 : Nat) : Int)) := by
  obtain ⟨k, rfl⟩ : ∃ m, k = m + 6 := ⟨k - 6, by omega⟩
  obtain ⟨hi, hhi⟩ : ∃ x, N / 18446744073709551616 = x := ⟨_, rfl⟩
  obtain ⟨lo, hlo⟩ : ∃ x, N % 18446744073709551616 = x := ⟨_, rfl⟩
  rw [hhi, hlo]
  have hhi10 : hi < 10 := by omega
  have hlo64 : lo < 18446744073709551616 := by omega
  unfold bits_Div64.f
  rw [if_neg (by decide), if_neg (by omega)]
  by_cases h0 : hi = 0
  · subst h0
    rw [if_pos (show ((0 : Nat) : Int) = 0 from rfl)]
    have h1 : N = lo := by omega
    subst h1
    rw [show Int.tdiv (N : Int) 10 = ((N / 10 : Nat) : Int) from rfl, show Int.tmod (N : Int) 10 = ((N % 10 : Nat) : Int) from rfl, wu _ (by omega) (by omega)]
  · rw [if_neg (by omega), lz10, Option.bind_some]
    have e1 : IntKind.u64.wrap (60 : Int) = 60 := by decide
    have e2 : IntKind.u64.wrap (64 - (60 : Int)) = 4 := by decide
    have e3 : (11529215046068469760 : Int) / 4294967296 = 2684354560 := by decide
    have e4 : Go.bits .and .u64 11529215046068469760 4294967295 = 0 := by decide
    rw [e1, e2, if_pos (by decide), if_pos (by decide), shl10, e3, e4, if_neg (by decide), shl60, shl60, shr4, Nat.mod_eq_of_lt (show hi < 16 by omega), or60 hi (lo / 16) (by omega) (by omega), and32 _ (by omega)]
    obtain ⟨u, hu⟩ : ∃ x, hi * 1152921504606846976 + lo / 16 = x := ⟨_, rfl⟩
    rw [hu, show Int.tdiv (u : Int) 2684354560 = ((u / 2684354560 : Nat) : Int) from rfl]
    obtain ⟨q1, hq1⟩ : ∃ x, u / 2684354560 = x := ⟨_, rfl⟩
    rw [hq1]
    have b1 : q1 < 4294967296 := by omega
    rw [wu (q1 : Int) (by omega) (by omega), wu ((q1 : Int) * 2684354560) (by omega) (by omega), wu ((u : Int) - (q1 : Int) * 2684354560) (by omega) (by omega)]
    have e5 : ((lo % 16 * 1152921504606846976 : Nat) : Int) / 4294967296 = ((lo % 16 * 268435456 : Nat) : Int) := by omega
    have e6 : ((lo % 16 * 1152921504606846976 % 4294967296 : Nat) : Int) = 0 := by omega
    have e7 : (u : Int) - (q1 : Int) * 2684354560 = ((u % 2684354560 : Nat) : Int) := by omega
    obtain ⟨rh, hrh⟩ : ∃ x, u % 2684354560 = x := ⟨_, rfl⟩
    obtain ⟨m, hm⟩ : ∃ x, lo % 16 * 268435456 = x := ⟨_, rfl⟩
    rw [e5, e6, e7, hrh, hm]
    have b2 : rh < 2684354560 := by omega
    have b3 : m < 4294967296 := by omega
    rw [bits_Div64.l0, if_neg (by omega)]
    have c1 : decide (IntKind.u64.wrap ((q1 : Int) * 0) > IntKind.u64.wrap (IntKind.u64.wrap (4294967296 * (rh : Int)) + (m : Int))) = false := by
      rw [decide_eq_false_iff_not, Int.mul_zero, wu 0 (by decide) (by decide), wu (4294967296 * (rh : Int)) (by omega) (by omega), wu _ (by omega) (by omega)]
      omega
    rw [c1, bits_Div64.j1, if_neg (by decide), bits_Div64.j2, if_neg (by decide)]
    have e8 : IntKind.u64.wrap ((IntKind.u64.wrap ((IntKind.u64.wrap ((u : Int) * 4294967296)) + (m : Int))) - (IntKind.u64.wrap ((q1 : Int) * 11529215046068469760))) = ((rh * 4294967296 + m : Nat) : Int) := by
      have h := wsub ((q1 : Int) * 11529215046068469760) ((rh : Int) * 4294967296) (m : Int) (by omega) (by omega)
      rw [show (q1 : Int) * 11529215046068469760 + (rh : Int) * 4294967296 = (u : Int) * 4294967296 from by omega] at h
      rw [h]
      omega
    rw [e8]
    obtain ⟨v, hv⟩ : ∃ x, rh * 4294967296 + m = x := ⟨_, rfl⟩
    rw [hv, show Int.tdiv (v : Int) 2684354560 = ((v / 2684354560 : Nat) : Int) from rfl]
    obtain ⟨q0, hq0⟩ : ∃ x, v / 2684354560 = x := ⟨_, rfl⟩
    rw [hq0]
    have b4 : q0 < 4294967296 := by omega
    rw [wu (q0 : Int) (by omega) (by omega), wu ((q0 : Int) * 2684354560) (by omega) (by omega), wu ((v : Int) - (q0 : Int) * 2684354560) (by omega) (by omega)]
    have e9 : (v : Int) - (q0 : Int) * 2684354560 = ((v % 2684354560 : Nat) : Int) := by omega
    obtain ⟨rr, hrr⟩ : ∃ x, v % 2684354560 = x := ⟨_, rfl⟩
    rw [e9, hrr]
    have b5 : rr < 2684354560 := by omega
    rw [bits_Div64.l1, if_neg (by omega)]
    have c2 : decide (IntKind.u64.wrap ((q0 : Int) * 0) > IntKind.u64.wrap (IntKind.u64.wrap (4294967296 * (rr : Int)) + 0)) = false := by
      rw [decide_eq_false_iff_not, Int.mul_zero, wu 0 (by decide) (by decide), wu (4294967296 * (rr : Int)) (by omega) (by omega), wu _ (by omega) (by omega)]
      omega
    rw [c2, bits_Div64.j4, if_neg (by decide), if_pos (by decide)]
    have e10 : IntKind.u64.wrap ((IntKind.u64.wrap ((IntKind.u64.wrap ((v : Int) * 4294967296)) + 0)) - (IntKind.u64.wrap ((q0 : Int) * 11529215046068469760))) = ((rr * 4294967296 : Nat) : Int) := by
      have h := wsub ((q0 : Int) * 11529215046068469760) ((rr : Int) * 4294967296) 0 (by omega) (by omega)
      rw [show (q0 : Int) * 11529215046068469760 + (rr : Int) * 4294967296 = (v : Int) * 4294967296 from by omega] at h
      rw [h]
      omega
    rw [e10, shr60, wu ((q1 : Int) * 4294967296) (by omega) (by omega), wu _ (by omega) (by omega)]
    have n1 : N = 16 * u + lo % 16 := by omega
    have key : N * 1152921504606846976 = 11529215046068469760 * (q1 * 4294967296 + q0) + rr * 4294967296 := key10 N u (lo % 16) m q1 rh v q0 rr n1 hm (by omega) hv.symm (by omega)
    clear e8 e9 e10 e7 e5 e6 c1 c2 n1
    obtain ⟨r1, r3⟩ := last10 N _ rr b5 key
    have r2 : (q1 : Int) * 4294967296 + (q0 : Int) = ((N / 10 : Nat) : Int) := by rw [← r3]; omega
    rw [r1, r2]
set_option maxRecDepth 100000 in
theorem by_f (N : Nat) (hN : N < 340282366920938463463374607431768211456) (k : Nat) (hk : 6 ≤ k) :
    dec_wide_by.f k ((N / 18446744073709551616 : Nat) : Int) ((N % 18446744073709551616 : Nat) : Int) = some (((N / 10 / 18446744073709551616 : Nat) : Int), ((N / 10 % 18446744073709551616 : Nat) : Int), ((N % 10 : Nat) : Int)) := by
  unfold dec_wide_by.f
  have h := div64_10 (N / 18446744073709551616 % 10 * 18446744073709551616 + N % 18446744073709551616) (by omega) k hk
  rw [show (N / 18446744073709551616 % 10 * 18446744073709551616 + N % 18446744073709551616) / 18446744073709551616 = N / 18446744073709551616 % 10 from by omega, show (N / 18446744073709551616 % 10 * 18446744073709551616 + N % 18446744073709551616) % 18446744073709551616 = N % 18446744073709551616 from by omega] at h
  rw [tm10, h, Option.bind_some, td10, wu _ (by omega) (by omega)]
  have h1 : N / 18446744073709551616 / 10 = N / 10 / 18446744073709551616 := by omega
  have h2 : (N / 18446744073709551616 % 10 * 18446744073709551616 + N % 18446744073709551616) / 10 = N / 10 % 18446744073709551616 := by omega
  have h3 : (N / 18446744073709551616 % 10 * 18446744073709551616 + N % 18446744073709551616) % 10 = N % 10 := by omega
  rw [h1, h2, h3]
def strip : Nat → Nat → Nat × Nat
  | N, 0 => (N, 0)
  | N, s + 1 => if N % 10 = 0 then strip (N / 10) s else (N, s + 1)
def told (below : Bool) (N s : Nat) : Int × Int × Int :=
  if (strip N s).1 > 999999999999999999 ∨ (strip N s).2 > 9 then (0, 0, 5) else (if below then -((strip N s).1 : Int) else ((strip N s).1 : Int), ((strip N s).2 : Int), 0)
theorem j1_f (below : Bool) (N s : Nat) (hs : s ≤ 1000) (k : Nat) (hk : 2 ≤ k) :
    dec_tell.j1 k below (s : Int) ((N / 18446744073709551616 : Nat) : Int) ((N % 18446744073709551616 : Nat) : Int) = some (if N > 999999999999999999 ∨ s > 9 then (0, 0, 5) else (if below then -(N : Int) else (N : Int), (s : Int), 0)) := by
  obtain ⟨k, rfl⟩ : ∃ m, k = m + 2 := ⟨k - 2, by omega⟩
  rw [dec_tell.j1]
  by_cases h1 : N ≥ 18446744073709551616
  · rw [if_neg (by omega), dec_tell.j2, if_pos rfl, if_pos (by omega)]
  · rw [if_pos (by omega)]
    have h2 : N % 18446744073709551616 = N := by omega
    rw [h2]
    by_cases h3 : N > 999999999999999999
    · rw [if_pos (by omega), dec_tell.j2, if_pos rfl, if_pos (by omega)]
    · rw [if_neg (by omega), dec_tell.j2]
      by_cases h4 : s > 9
      · rw [if_pos (by rw [decide_eq_true_iff]; omega), if_pos (by omega)]
      · rw [if_neg (by rw [decide_eq_true_iff]; omega), if_neg (show ¬ (N > 999999999999999999 ∨ s > 9) by omega), wrap_small (N : Int) (by omega) (by omega)]
        cases below
        · rfl
        · rw [if_pos rfl, wrap_small (-(N : Int)) (by omega) (by omega)]
          rfl
theorem tell_l0 (below : Bool) : ∀ (s N k : Nat), s ≤ 1000 → N < 340282366920938463463374607431768211456 → s + 7 ≤ k →
    dec_tell.l0 k below (s : Int) ((N / 18446744073709551616 : Nat) : Int) ((N % 18446744073709551616 : Nat) : Int) = some (told below N s) := by
  intro s
  induction s with
  | zero =>
    intro N k hs hN hk
    obtain ⟨k, rfl⟩ : ∃ m, k = m + 1 := ⟨k - 1, by omega⟩
    rw [dec_tell.l0, if_neg (by decide), j1_f below N 0 hs k (by omega)]
    rfl
  | succ s ih =>
    intro N k hs hN hk
    obtain ⟨k, rfl⟩ : ∃ m, k = m + 1 := ⟨k - 1, by omega⟩
    rw [dec_tell.l0, if_pos (by omega), by_f N hN k (by omega), Option.bind_some]
    by_cases h : N % 10 = 0
    · refine (if_pos (by show ((N % 10 : Nat) : Int) = 0; omega)).trans ?_
      rw [wrap_small _ (by omega) (by omega), show ((s + 1 : Nat) : Int) - 1 = (s : Int) from by omega]
      have h2 := ih (N / 10) k (by omega) (by omega) (by omega)
      refine h2.trans ?_
      unfold told
      rw [show strip N (s + 1) = strip (N / 10) s from by rw [strip, if_pos h]]
    · rw [if_neg (by show ¬ (((N % 10 : Nat) : Int) = 0); omega), j1_f below N (s + 1) hs k (by omega)]
      unfold told
      rw [show strip N (s + 1) = (N, s + 1) from by rw [strip, if_neg h]]
theorem tell_f (below : Bool) (s N k : Nat) (hs : s ≤ 1000) (hN : N < 340282366920938463463374607431768211456) (hk : s + 7 ≤ k) :
    dec_tell.f k below ((N / 18446744073709551616 : Nat) : Int) ((N % 18446744073709551616 : Nat) : Int) (s : Int) = some (told below N s) := tell_l0 below s N k hs hN hk
end Go.Proofs.YtnhgnejfagncpaaDoor.Plain
end
section
namespace Go.Proofs.YtnhgnejfagncpaaDoor.Plain
open Go.RowKit Go.Proofs.YtnhgnejfagncpaaDoor.A Go.Proofs.YtnhgnejfagncpaaDoor.B Go.Proofs.YtnhgnejfagncpaaDoor.H Go.Proofs.YtnhgnejfagncpaaDoorW.PrintWords Go.Proofs.YtnhgnejfagncpaaDoorW.PrintLast Go.Proofs.YtnhgnejfagncpaaDoorW.PrintMore
def Good (M S : Int) : Prop := -999999999999999999 ≤ M ∧ M ≤ 999999999999999999 ∧ 0 ≤ S ∧ S ≤ 9 ∧ (S = 0 ∨ M % 10 ≠ 0)
instance (M S : Int) : Decidable (Good M S) := inferInstanceAs (Decidable (_ ∧ _))
theorem strip_zero : ∀ s, strip 0 s = (0, 0)
  | 0 => rfl
  | s + 1 => by rw [strip, if_pos rfl]; exact strip_zero s
def up (M : Int) (d : Nat) : Int := M * ((10 ^ d : Nat) : Int)
end Go.Proofs.YtnhgnejfagncpaaDoor.Plain
end
section
namespace Go.Proofs.YtnhgnejfagncpaaDoor.Plain
open Go.RowKit Go.Proofs.YtnhgnejfagncpaaDoor.A Go.Proofs.YtnhgnejfagncpaaDoor.B Go.Proofs.YtnhgnejfagncpaaDoor.H
theorem strip_mul : ∀ (d N s : Nat), strip (N * 10 ^ d) (s + d) = strip N s := by
  intro d
  induction d with
  | zero => intro N s; rw [Nat.pow_zero, Nat.mul_one, Nat.add_zero]
  | succ d ih =>
    intro N s
    have h : N * 10 ^ (d + 1) = N * 10 ^ d * 10 := by rw [Nat.pow_succ, Nat.mul_assoc]
    rw [h, show s + (d + 1) = s + d + 1 from rfl, strip, if_pos (by omega), Nat.mul_div_cancel _ (by decide)]
    exact ih N s
theorem strip_good (N s : Nat) (h : s = 0 ∨ N % 10 ≠ 0) : strip N s = (N, s) := by
  cases s with
  | zero => rfl
  | succ s => rw [strip, if_neg (by omega)]
end Go.Proofs.YtnhgnejfagncpaaDoor.Plain
end
section
namespace Go.Proofs.YtnhgnejfagncpaaDoor.Plain
open Go.RowKit Go.Proofs.YtnhgnejfagncpaaDoor.A Go.Proofs.YtnhgnejfagncpaaDoor.B Go.Proofs.YtnhgnejfagncpaaDoor.H
def isDig (c : UInt8) : Prop := 48 ≤ c.toNat ∧ c.toNat ≤ 57
instance (c : UInt8) : Decidable (isDig c) := inferInstanceAs (Decidable (_ ∧ _))
def allDig (l : List UInt8) : Prop := ∀ c ∈ l, isDig c
instance (l : List UInt8) : Decidable (allDig l) := inferInstanceAs (Decidable (∀ c ∈ l, isDig c))
theorem allDig_append (a b : List UInt8) : allDig (a ++ b) ↔ allDig a ∧ allDig b := by
  unfold allDig
  simp only [List.mem_append]
  exact ⟨fun h => ⟨fun c hc => h c (Or.inl hc), fun c hc => h c (Or.inr hc)⟩, fun h c hc => hc.elim (h.1 c) (h.2 c)⟩
theorem allDig_cons (c : UInt8) (t : List UInt8) : allDig (c :: t) ↔ isDig c ∧ allDig t := by
  unfold allDig
  simp
def valA : Nat → List UInt8 → Nat
  | n, [] => n
  | n, c :: t => valA (n * 10 + (c.toNat - 48)) t
def val (l : List UInt8) : Nat := valA 0 l
def cnt : Nat → List UInt8 → Nat
  | n, [] => n
  | n, c :: t => cnt (if n > 0 ∨ 48 < c.toNat then n + 1 else n) t
theorem valA_append : ∀ (a b : List UInt8) (n : Nat), valA n (a ++ b) = valA (valA n a) b := by
  intro a
  induction a with
  | nil => intro b n; rfl
  | cons c t ih => intro b n; exact ih b _
theorem valA_step (n d p v : Nat) : (n * 10 + d) * p + v = n * (p * 10) + ((0 * 10 + d) * p + v) := by grind
theorem valA_eq : ∀ (l : List UInt8) (n : Nat), valA n l = n * 10 ^ l.length + val l
  | [], n => by
    show n = n * 10 ^ 0 + 0
    rw [Nat.pow_zero]
    omega
  | c :: t, n => by
    have h1 : valA n (c :: t) = valA (n * 10 + (c.toNat - 48)) t := rfl
    have h2 : val (c :: t) = valA (0 * 10 + (c.toNat - 48)) t := rfl
    rw [h1, h2, valA_eq t, valA_eq t (0 * 10 + (c.toNat - 48)), List.length_cons, Nat.pow_succ]
    exact valA_step _ _ _ _
theorem val_append (a b : List UInt8) : val (a ++ b) = val a * 10 ^ b.length + val b := by
  unfold val
  rw [valA_append, valA_eq b]
  rfl
theorem val_lt : ∀ (l : List UInt8), allDig l → val l < 10 ^ l.length
  | [], _ => by decide
  | c :: t, h => by
    obtain ⟨h1, h2⟩ := (allDig_cons c t).1 h
    have ih := val_lt t h2
    have e : val (c :: t) = (c.toNat - 48) * 10 ^ t.length + val t := by
      show valA (0 * 10 + (c.toNat - 48)) t = _
      rw [valA_eq, Nat.zero_mul, Nat.zero_add]
    have h3 : (c.toNat - 48) * 10 ^ t.length ≤ 9 * 10 ^ t.length := Nat.mul_le_mul_right _ (by unfold isDig at h1; omega)
    rw [e, List.length_cons, Nat.pow_succ]
    omega
theorem cnt_pos : ∀ (l : List UInt8) (n : Nat), 0 < n → cnt n l = n + l.length
  | [], _, _ => rfl
  | c :: t, n, h => by
    show cnt (if n > 0 ∨ 48 < c.toNat then n + 1 else n) t = _
    rw [if_pos (Or.inl h), cnt_pos t (n + 1) (by omega), List.length_cons]
    omega
theorem cnt_zero : ∀ (l : List UInt8), allDig l → val l < 10 ^ cnt 0 l ∧ (0 < cnt 0 l → 10 ^ (cnt 0 l - 1) ≤ val l)
  | [], _ => ⟨by decide, fun h => absurd h (by decide)⟩
  | c :: t, h => by
    obtain ⟨h1, h2⟩ := (allDig_cons c t).1 h
    have e : val (c :: t) = (c.toNat - 48) * 10 ^ t.length + val t := by
      show valA (0 * 10 + (c.toNat - 48)) t = _
      rw [valA_eq, Nat.zero_mul, Nat.zero_add]
    by_cases hc : 48 < c.toNat
    · have e2 : cnt 0 (c :: t) = t.length + 1 := by
        show cnt (if 0 > 0 ∨ 48 < c.toNat then 0 + 1 else 0) t = _
        rw [if_pos (Or.inr hc), cnt_pos t 1 (by decide)]
        omega
      rw [e2]
      refine ⟨val_lt (c :: t) h, fun _ => ?_⟩
      have h3 : 1 * 10 ^ t.length ≤ (c.toNat - 48) * 10 ^ t.length := Nat.mul_le_mul_right _ (by omega)
      rw [e, Nat.add_sub_cancel]
      omega
    · have e2 : cnt 0 (c :: t) = cnt 0 t := by
        show cnt (if 0 > 0 ∨ 48 < c.toNat then 0 + 1 else 0) t = _
        rw [if_neg (by omega)]
      rw [e2, e, show c.toNat - 48 = 0 from by omega, Nat.zero_mul, Nat.zero_add]
      exact cnt_zero t h2
theorem cnt_18 (l : List UInt8) (h : allDig l) : cnt 0 l ≤ 18 ↔ val l ≤ 999999999999999999 := by
  obtain ⟨h1, h2⟩ := cnt_zero l h
  constructor
  · intro hc
    have : 10 ^ cnt 0 l ≤ 10 ^ 18 := Nat.pow_le_pow_right (by decide) hc
    have e : (10 : Nat) ^ 18 = 1000000000000000000 := by decide
    omega
  · intro hv
    refine Classical.byContradiction fun hc => ?_
    have h3 := h2 (by omega)
    have : 10 ^ 18 ≤ 10 ^ (cnt 0 l - 1) := Nat.pow_le_pow_right (by decide) (by omega)
    have e : (10 : Nat) ^ 18 = 1000000000000000000 := by decide
    omega
theorem digs_none : ∀ (l : List UInt8) (m n e : Int), ¬ allDig l → digs l m n e = none
  | [], _, _, _, h => absurd (fun c hc => by cases hc) h
  | c :: t, m, n, e, h => by
    rw [digs]
    by_cases hc : (c.toNat : Int) < 48 ∨ 57 < (c.toNat : Int)
    · rw [if_pos hc]
    · rw [if_neg hc]
      have ht : ¬ allDig t := fun ht => h ((allDig_cons c t).2 ⟨⟨by omega, by omega⟩, ht⟩)
      dsimp only
      (repeat' split) <;> exact digs_none t _ _ _ ht
theorem digs_far : ∀ (l : List UInt8) (m : Int) (n : Nat), allDig l → 18 < n → digs l m (n : Int) 5 = some (m, ((n + l.length : Nat) : Int), 5)
  | [], _, _, _, _ => rfl
  | c :: t, m, n, h, hn => by
    obtain ⟨h1, h2⟩ := (allDig_cons c t).1 h
    rw [digs, if_neg (by unfold isDig at h1; omega)]
    dsimp only
    rw [if_pos (Or.inl (by omega)), if_pos (by omega)]
    have := digs_far t m (n + 1) h2 (by omega)
    rw [Int.natCast_add] at this
    refine this.trans ?_
    rw [List.length_cons, show n + 1 + t.length = n + (t.length + 1) from by omega]
theorem digs_all : ∀ (l : List UInt8) (m n : Nat), allDig l → n ≤ 18 →
    (cnt n l ≤ 18 → digs l (m : Int) (n : Int) 0 = some ((valA m l : Int), (cnt n l : Int), 0)) ∧ (18 < cnt n l → ∃ m', digs l (m : Int) (n : Int) 0 = some (m', (cnt n l : Int), 5))
  | [], m, n, _, hn => ⟨fun _ => rfl, fun h => absurd h (by show ¬ 18 < n; omega)⟩
  | c :: t, m, n, h, hn => by
    obtain ⟨h1, h2⟩ := (allDig_cons c t).1 h
    have e1 : digs (c :: t) (m : Int) (n : Int) 0 = if ((if n > 0 ∨ 48 < c.toNat then n + 1 else n : Nat) : Int) > 18 then digs t m ((if n > 0 ∨ 48 < c.toNat then n + 1 else n : Nat) : Int) 5 else digs t ((m * 10 + (c.toNat - 48) : Nat) : Int) ((if n > 0 ∨ 48 < c.toNat then n + 1 else n : Nat) : Int) 0 := by
      rw [digs, if_neg (by unfold isDig at h1; omega)]
      dsimp only
      have e2 : (if (n : Int) > 0 ∨ 48 < (c.toNat : Int) then (n : Int) + 1 else (n : Int)) = ((if n > 0 ∨ 48 < c.toNat then n + 1 else n : Nat) : Int) := by
        by_cases hq : n > 0 ∨ 48 < c.toNat
        · rw [if_pos hq, if_pos (by omega)]; rfl
        · rw [if_neg hq, if_neg (by omega)]
      rw [e2, show (m : Int) * 10 + ((c.toNat : Int) - 48) = ((m * 10 + (c.toNat - 48) : Nat) : Int) from by unfold isDig at h1; omega]
    rw [e1]
    show (cnt (if n > 0 ∨ 48 < c.toNat then n + 1 else n) t ≤ 18 → _ = some ((valA (m * 10 + (c.toNat - 48)) t : Int), (cnt (if n > 0 ∨ 48 < c.toNat then n + 1 else n) t : Int), 0)) ∧ (18 < cnt (if n > 0 ∨ 48 < c.toNat then n + 1 else n) t → ∃ m', _ = some (m', (cnt (if n > 0 ∨ 48 < c.toNat then n + 1 else n) t : Int), 5))
    obtain ⟨n', hn'⟩ : ∃ x, (if n > 0 ∨ 48 < c.toNat then n + 1 else n) = x := ⟨_, rfl⟩
    rw [hn']
    by_cases h18 : n' ≤ 18
    · rw [if_neg (by omega)]
      exact digs_all t (m * 10 + (c.toNat - 48)) n' h2 h18
    · rw [if_pos (by omega), digs_far t m n' h2 (by omega), cnt_pos t n' (by omega)]
      exact ⟨fun h => absurd h (by omega), fun _ => ⟨_, rfl⟩⟩
theorem dropZ (l : List UInt8) : ∃ j, l = List.replicate j 48 ++ l.dropWhile (· == 48) := by
  induction l with
  | nil => exact ⟨0, rfl⟩
  | cons c t ih =>
    by_cases h : (c == 48) = true
    · obtain ⟨j, hj⟩ := ih
      have h2 : c = 48 := by simpa using h
      subst h2
      refine ⟨j + 1, ?_⟩
      rw [List.dropWhile_cons_of_pos (p := (· == 48)) h, List.replicate_succ, List.cons_append, ← hj]
    · exact ⟨0, by rw [List.dropWhile_cons_of_neg (p := (· == 48)) h]; rfl⟩
theorem val_zeros : ∀ j, val (List.replicate j 48) = 0
  | 0 => rfl
  | j + 1 => by
    rw [List.replicate_succ]
    show valA (0 * 10 + ((48 : UInt8).toNat - 48)) _ = 0
    exact val_zeros j
theorem allDig_zeros (j : Nat) : allDig (List.replicate j 48) := fun c hc => by
  rw [List.eq_of_mem_replicate hc]
  decide
theorem trimL (l : List UInt8) : ∃ j, l = List.replicate j 48 ++ Lib.trimLeftB l 48 := dropZ l
theorem trimR (l : List UInt8) : ∃ j, l = Lib.trimRightB l 48 ++ List.replicate j 48 := by
  obtain ⟨j, hj⟩ := dropZ l.reverse
  refine ⟨j, ?_⟩
  have := congrArg List.reverse hj
  rw [List.reverse_reverse, List.reverse_append, List.reverse_replicate] at this
  exact this
theorem trimR_last (l : List UInt8) (h : allDig l) (a : List UInt8) : Lib.trimRightB l 48 = [] ∨ val (a ++ Lib.trimRightB l 48) % 10 ≠ 0 := by
  unfold Lib.trimRightB
  have hm : ∀ c ∈ l.reverse.dropWhile (· == 48), isDig c := fun c hc => h c (List.mem_reverse.1 ((List.dropWhile_suffix _).subset hc))
  cases hq : l.reverse.dropWhile (· == 48) with
  | nil => exact Or.inl rfl
  | cons c t =>
    refine Or.inr ?_
    have hc : ¬ (c == 48) = true := by
      have := List.head?_dropWhile_not (· == 48) l.reverse
      rw [hq] at this
      simpa using this
    rw [hq] at hm
    have hd := hm c (List.mem_cons_self ..)
    have hne : c.toNat ≠ 48 := fun e => hc (by rw [beq_iff_eq]; exact UInt8.toNat_inj.1 e)
    rw [List.reverse_cons, ← List.append_assoc, val_append]
    show (val (a ++ t.reverse) * 10 ^ 1 + valA (0 * 10 + (c.toNat - 48)) []) % 10 ≠ 0
    show (val (a ++ t.reverse) * 10 ^ 1 + (0 * 10 + (c.toNat - 48))) % 10 ≠ 0
    unfold isDig at hd
    omega
theorem told_zeros (b : Bool) (N s j : Nat) : told b (N * 10 ^ j) (s + j) = told b N s := by
  unfold told
  rw [strip_mul]
def parseL (l : List UInt8) : Int × Int × Int :=
  if l.length > 40 ∨ (cutAt (headB l).2 46).1 ++ (cutAt (headB l).2 46).2.1 = [] ∨ ¬ allDig ((cutAt (headB l).2 46).1 ++ (cutAt (headB l).2 46).2.1) then (0, 0, 4)
  else told (headB l).1 (val ((cutAt (headB l).2 46).1 ++ (cutAt (headB l).2 46).2.1)) (cutAt (headB l).2 46).2.1.length
theorem told_far (b : Bool) (v s : Nat) (h : s = 0 ∨ v % 10 ≠ 0) (hf : v > 999999999999999999 ∨ s > 9) : told b v s = (0, 0, 5) := by
  unfold told
  rw [strip_good v s h, if_pos hf]
theorem parseDigs_f (b : Bool) (F K : List UInt8) (hK : K.length ≤ 41) (k : Nat) (hk : 60 ≤ k) :
    parseDigs k b (Lib.trimLeftB F 48) (Lib.trimRightB K 48) = some (if ¬ allDig (F ++ K) then (0, 0, 4) else told b (val (F ++ K)) K.length) := by
  obtain ⟨i, hi⟩ := trimL F
  obtain ⟨j, hj⟩ := trimR K
  have hiff : allDig (F ++ K) ↔ allDig (Lib.trimLeftB F 48 ++ Lib.trimRightB K 48) := by
    rw [allDig_append, allDig_append]
    constructor
    · intro h
      rw [hi, hj] at h
      exact ⟨((allDig_append _ _).1 h.1).2, ((allDig_append _ _).1 h.2).1⟩
    · intro h
      rw [hi, hj]
      exact ⟨(allDig_append _ _).2 ⟨allDig_zeros _, h.1⟩, (allDig_append _ _).2 ⟨h.2, allDig_zeros _⟩⟩
  have hlK : K.length = (Lib.trimRightB K 48).length + j := by
    have := congrArg List.length hj
    rw [List.length_append, List.length_replicate] at this
    exact this
  have hval : val (F ++ K) = val (Lib.trimLeftB F 48 ++ Lib.trimRightB K 48) * 10 ^ j := by
    have h1 : F ++ K = List.replicate i 48 ++ ((Lib.trimLeftB F 48 ++ Lib.trimRightB K 48) ++ List.replicate j 48) := by
      rw [← List.append_assoc, ← List.append_assoc, List.append_assoc (List.replicate i 48 ++ _), ← hi, ← hj]
    rw [h1, val_append, val_zeros, Nat.zero_mul, Nat.zero_add, val_append, val_zeros, List.length_replicate, Nat.add_zero]
  unfold parseDigs
  by_cases hd : allDig (Lib.trimLeftB F 48 ++ Lib.trimRightB K 48)
  · rw [if_neg (by rw [Classical.not_not]; exact hiff.2 hd), hval, hlK, told_zeros]
    have hlast := trimR_last K ((allDig_append _ _).1 (hiff.2 hd)).2 (Lib.trimLeftB F 48)
    obtain ⟨L, hL⟩ : ∃ x, Lib.trimLeftB F 48 ++ Lib.trimRightB K 48 = x := ⟨_, rfl⟩
    have hlast' : (Lib.trimRightB K 48).length = 0 ∨ val L % 10 ≠ 0 := by
      rw [← hL]
      exact hlast.imp (fun h => by rw [h]; rfl) id
    rw [hL] at hd
    rw [hL]
    obtain ⟨d1, d2⟩ := digs_all L 0 0 hd (by decide)
    have h18 := cnt_18 L hd
    by_cases hc : cnt 0 L ≤ 18
    · have e := d1 hc
      rw [show ((0 : Nat) : Int) = 0 from rfl] at e
      rw [e]
      dsimp only
      by_cases h9 : (Lib.trimRightB K 48).length > 9
      · rw [if_pos (Or.inr h9), told_far _ _ _ hlast' (Or.inr h9)]
      · rw [if_neg (fun h => h.elim (fun h => h rfl) h9)]
        have hv := h18.1 hc
        have ht := tell_f b (Lib.trimRightB K 48).length (val L) k (by omega) (by omega) (by omega)
        rw [show val L / 18446744073709551616 = 0 from by omega, show val L % 18446744073709551616 = val L from by omega] at ht
        exact ht
    · obtain ⟨m', e⟩ := d2 (by omega)
      rw [show ((0 : Nat) : Int) = 0 from rfl] at e
      rw [e]
      dsimp only
      rw [if_pos (Or.inl (by decide)), told_far _ _ _ hlast' (Or.inl (by omega))]
  · rw [digs_none _ _ _ _ hd, if_pos (fun h => hd (hiff.1 h))]
theorem parse_f (t : ByteArray) (k : Nat) (hk : 60 ≤ k) : dec_Parse.f k t = some (parseL t.data.toList) := by
  unfold dec_Parse.f parseL
  have hs : t.size = t.data.toList.length := Array.length_toList.symm
  by_cases h1 : t.size > 40
  · rw [if_pos h1, if_pos (Or.inl (by omega))]
  · rw [if_neg h1]
    dsimp only
    have hl := headB_len t.data.toList
    have hl2 := (cutAt_len (headB t.data.toList).2 46).2
    by_cases h2 : (cutAt (headB t.data.toList).2 46).1 ++ (cutAt (headB t.data.toList).2 46).2.1 = []
    · rw [if_pos h2, if_pos (Or.inr (Or.inl h2))]
    · rw [if_neg h2, parseDigs_f _ _ _ (by omega) k hk]
      by_cases h3 : ¬ allDig ((cutAt (headB t.data.toList).2 46).1 ++ (cutAt (headB t.data.toList).2 46).2.1)
      · rw [if_pos h3, if_pos (Or.inr (Or.inr h3))]
      · rw [if_neg h3, if_neg (by intro h; rcases h with h | h | h; exact absurd h (by omega); exact h2 h; exact h3 h)]
theorem bytes_app (P Q : List UInt8) : (⟨P.toArray⟩ : ByteArray) ++ (⟨Q.toArray⟩ : ByteArray) = ⟨(P ++ Q).toArray⟩ := by
  apply ByteArray.ext
  simp
theorem bytes_size (P : List UInt8) : (⟨P.toArray⟩ : ByteArray).size = P.length := by simp [ByteArray.size]
end Go.Proofs.YtnhgnejfagncpaaDoor.Plain
end
section
namespace Go.Proofs.YtnhgnejfagncpaaDoor.Plain
open Go.RowKit Go.Proofs.YtnhgnejfagncpaaDoorW.PrintWords Go.Proofs.YtnhgnejfagncpaaDoor.A Go.Proofs.YtnhgnejfagncpaaDoor.B Go.Proofs.YtnhgnejfagncpaaDoor.H Go.Proofs.YtnhgnejfagncpaaDoor.E
theorem wsm (n : Int) (h0 : -9223372036854775808 ≤ n) (h1 : n < 9223372036854775808) : wrap64 n = n := by
  unfold wrap64
  omega
def rv : List Nat → Nat
  | [] => 0
  | d :: t => d + 10 * rv t
def okD (D : List Nat) : Prop := ∀ d ∈ D, d ≤ 9
def dIs (D : List Nat) : List Int := D.map (fun d : Nat => (d : Int))
theorem dIs_len (D : List Nat) : (dIs D).length = D.length := List.length_map ..
theorem dIs_app (D E : List Nat) : dIs (D ++ E) = dIs D ++ dIs E := List.map_append ..
theorem dIs_rd (D : List Nat) (i d : Nat) (h : D[i]? = some d) : rd (dIs D) (i : Int) = (d : Int) := by
  unfold rd dIs
  rw [Int.toNat_natCast, List.getD_eq_getElem?_getD, List.getElem?_map, h]
  rfl
theorem rv_app : ∀ (D E : List Nat), rv (D ++ E) = rv D + 10 ^ D.length * rv E
  | [], E => by show rv E = 0 + 10 ^ 0 * rv E; omega
  | d :: t, E => by
    show d + 10 * rv (t ++ E) = d + 10 * rv t + 10 ^ (t.length + 1) * rv E
    rw [rv_app t E, Nat.pow_succ]
    grind
theorem rv_lt : ∀ (D : List Nat), okD D → rv D < 10 ^ D.length
  | [], _ => by decide
  | d :: t, h => by
    have ih := rv_lt t (fun x hx => h x (List.mem_cons_of_mem _ hx))
    have hd := h d (List.mem_cons_self ..)
    show d + 10 * rv t < 10 ^ (t.length + 1)
    rw [Nat.pow_succ]
    omega
def fin (b : Bool) (N s : Nat) : Int × Int × Int := if N > 999999999999999999 ∨ s > 9 then (0, 0, 5) else (if b then -(N : Int) else (N : Int), (s : Int), 0)
theorem p18 : (10 : Nat) ^ 18 = 1000000000000000000 := by decide
theorem l2_f (b : Bool) (D : List Nat) (hD : okD D) (hl : D.length ≤ 18) (s : Int) (x1 : List Int) (x2 : Int) : ∀ (i m k : Nat), i ≤ D.length → m * 10 ^ i + rv (D.take i) ≤ 999999999999999999 → i + 1 ≤ k →
    erasureref01_told.l2 k (dIs D) s (m : Int) ((i : Int) - 1) b x1 x2 = some (if b then -((m * 10 ^ i + rv (D.take i) : Nat) : Int) else ((m * 10 ^ i + rv (D.take i) : Nat) : Int), s, 0) := by
  intro i
  induction i with
  | zero =>
    intro m k hi hN hk
    obtain ⟨k, rfl⟩ : ∃ q, k = q + 1 := ⟨k - 1, by omega⟩
    have e : m * 10 ^ 0 + rv (D.take 0) = m := by show m * 1 + 0 = m; omega
    rw [e] at hN
    rw [e, erasureref01_told.l2, if_neg (by omega)]
    cases b
    · rfl
    · rw [if_pos rfl, if_pos rfl, wsm _ (by omega) (by omega)]
  | succ i ih =>
    intro m k hi hN hk
    obtain ⟨k, rfl⟩ : ∃ q, k = q + 1 := ⟨k - 1, by omega⟩
    obtain ⟨d, hd⟩ : ∃ d, D[i]? = some d := ⟨D[i]'(by omega), List.getElem?_eq_getElem (by omega)⟩
    have hd9 : d ≤ 9 := hD d (List.mem_of_getElem? hd)
    have ht : D.take (i + 1) = D.take i ++ [d] := by rw [List.take_add_one, hd]; rfl
    have hr : rv (D.take (i + 1)) = rv (D.take i) + 10 ^ i * d := by
      rw [ht, rv_app, List.length_take, Nat.min_eq_left (by omega)]
      show _ + 10 ^ i * (d + 10 * 0) = _
      rw [Nat.mul_zero, Nat.add_zero]
    have hv : m * 10 ^ (i + 1) + rv (D.take (i + 1)) = (m * 10 + d) * 10 ^ i + rv (D.take i) := by
      rw [hr, Nat.pow_succ]
      grind
    rw [hv] at hN
    have hp : 1 ≤ 10 ^ i := Nat.one_le_pow _ _ (by decide)
    have hb : (m * 10 + d) * 1 ≤ (m * 10 + d) * 10 ^ i := Nat.mul_le_mul_left _ hp
    rw [hv, erasureref01_told.l2, if_pos (by omega), if_pos (by omega), dIs_len, if_pos (by omega), show ((i + 1 : Nat) : Int) - 1 = (i : Int) from by omega, dIs_rd D i d hd, wsm (10 * (m : Int)) (by omega) (by omega), wsm (10 * (m : Int) + (d : Int)) (by omega) (by omega), wsm ((i : Int) - 1) (by omega) (by omega), show 10 * (m : Int) + (d : Int) = ((m * 10 + d : Nat) : Int) from by omega]
    exact ih (m * 10 + d) k (by omega) hN (by omega)
theorem j3_f (b : Bool) (D : List Nat) (hD : okD D) (s : Nat) (hbig : D.length > 18 → rv D > 999999999999999999) (hs : s ≤ 1000) (x1 : List Int) (x2 : Int) (k : Nat) (hk : 24 ≤ k) (hl : D.length ≤ 1000) :
    erasureref01_told.j3 k (dIs D) (s : Int) b x1 x2 = some (fin b (rv D) s) := by
  obtain ⟨k, rfl⟩ : ∃ q, k = q + 2 := ⟨k - 2, by omega⟩
  unfold fin
  rw [erasureref01_told.j3, dIs_len]
  by_cases h18 : D.length > 18
  · rw [if_pos (by omega), erasureref01_told.j4, if_pos rfl, if_pos (Or.inl (hbig h18))]
  · rw [if_neg (by omega), erasureref01_told.j4]
    have hlt := rv_lt D hD
    have hpw : 10 ^ D.length ≤ 10 ^ 18 := Nat.pow_le_pow_right (by decide) (by omega)
    rw [p18] at hpw
    by_cases h9 : s > 9
    · rw [if_pos (by rw [decide_eq_true_iff]; omega), if_pos (Or.inr h9)]
    · rw [if_neg (by rw [decide_eq_true_iff]; omega), if_neg (by omega), dIs_len, wsm _ (by omega) (by omega)]
      have h := l2_f b D hD (by omega) s x1 x2 D.length 0 k (Nat.le_refl _) (by rw [List.take_length, Nat.zero_mul]; omega) (by omega)
      rw [List.take_length, Nat.zero_mul, Nat.zero_add] at h
      exact h
theorem l1_f (b : Bool) (s : Nat) (hs : s ≤ 1000) (x1 : List Int) (x2 : Int) : ∀ (n : Nat) (D : List Nat) (k : Nat), D.length = n → okD D → n ≤ 1000 → n + 25 ≤ k →
    erasureref01_told.l1 k (dIs D) (s : Int) b x1 x2 = some (fin b (rv D) s) := by
  intro n
  induction n with
  | zero =>
    intro D k hn hD hl hk
    obtain ⟨k, rfl⟩ : ∃ q, k = q + 1 := ⟨k - 1, by omega⟩
    rw [erasureref01_told.l1, dIs_len, if_neg (by omega)]
    exact j3_f b D hD s (by omega) hs x1 x2 k (by omega) (by omega)
  | succ n ih =>
    intro D k hn hD hl hk
    obtain ⟨k, rfl⟩ : ∃ q, k = q + 1 := ⟨k - 1, by omega⟩
    rcases List.eq_nil_or_concat D with rfl | ⟨E, d, rfl⟩
    · exact absurd hn (by show ¬ 0 = _; omega)
    · rw [List.concat_eq_append] at hn hD ⊢
      rw [List.length_append] at hn
      have hE : E.length = n := by simp at hn; exact hn
      have hat : (E ++ [d])[n]? = some d := by rw [← hE]; simp
      have hrd := dIs_rd (E ++ [d]) n d hat
      have hlen : (E ++ [d]).length = n + 1 := by rw [List.length_append, hE]; rfl
      rw [erasureref01_told.l1, dIs_len, hlen, if_pos (by omega), wsm _ (by omega) (by omega), if_pos (by omega), if_pos (by omega), show ((n + 1 : Nat) : Int) - 1 = (n : Int) from by omega, hrd]
      by_cases h0 : d = 0
      · have ht : (dIs (E ++ [d])).take (n : Int).toNat = dIs E := by
          rw [Int.toNat_natCast, dIs_app, ← hE, ← dIs_len E, List.take_left]
        have hv : rv (E ++ [d]) = rv E := by rw [rv_app, h0]; show rv E + 10 ^ E.length * (0 + 10 * 0) = rv E; omega
        rw [if_pos (by omega), if_pos (by omega), ht, hv]
        exact ih E k hE (fun x hx => hD x (List.mem_append_left _ hx)) (by omega) (by omega)
      · rw [if_neg (by omega)]
        refine j3_f b (E ++ [d]) hD s (fun h18 => ?_) hs x1 x2 k (by omega) (by omega)
        rw [rv_app]
        have hp : 10 ^ 18 ≤ 10 ^ E.length := Nat.pow_le_pow_right (by decide) (by omega)
        rw [p18] at hp
        show rv E + 10 ^ E.length * (d + 10 * 0) > _
        have h1 : 10 ^ E.length * 1 ≤ 10 ^ E.length * (d + 10 * 0) := Nat.mul_le_mul_left _ (by omega)
        omega
theorem told_fin (b : Bool) (N s : Nat) (h : s = 0 ∨ N % 10 ≠ 0) : told b N s = fin b N s := by
  unfold told fin
  rw [strip_good N s h]
theorem l0_f (b : Bool) (x1 : List Int) (x2 : Int) : ∀ (s : Nat) (D : List Nat) (k : Nat), s ≤ 1000 → D.length ≤ 1000 → okD D → 2 * s + D.length + 40 ≤ k →
    erasureref01_told.l0 k (dIs D) (s : Int) b x1 x2 = some (told b (rv D) s) := by
  intro s
  induction s with
  | zero =>
    intro D k hs hl hD hk
    obtain ⟨k, rfl⟩ : ∃ q, k = q + 2 := ⟨k - 2, by omega⟩
    rw [erasureref01_told.l0, if_neg (by decide), erasureref01_told.j1, if_neg (by decide), told_fin b _ 0 (Or.inl rfl)]
    exact l1_f b 0 (by decide) x1 x2 D.length D k rfl hD hl (by omega)
  | succ s ih =>
    intro D k hs hl hD hk
    obtain ⟨k, rfl⟩ : ∃ q, k = q + 2 := ⟨k - 2, by omega⟩
    rw [erasureref01_told.l0, if_pos (by omega)]
    cases D with
    | nil =>
      have hd : erasureref01_digit.f (dIs []) 0 = some 0 := rfl
      rw [hd, Option.bind_some, erasureref01_told.j1, if_pos (by decide), if_neg (by decide), wsm _ (by omega) (by omega), show ((s + 1 : Nat) : Int) - 1 = (s : Int) from by omega, ih [] k (by omega) hl hD (by omega)]
      unfold told
      rw [show rv [] = 0 from rfl, strip_zero, strip_zero]
    | cons d t =>
      have hd : erasureref01_digit.f (dIs (d :: t)) 0 = some (d : Int) := by
        unfold erasureref01_digit.f
        rw [if_neg (by decide), dIs_len, if_neg (by rw [List.length_cons]; omega), if_pos (by decide), if_pos (by rw [List.length_cons]; omega), show (0 : Int) = ((0 : Nat) : Int) from rfl, dIs_rd (d :: t) 0 d rfl]
      have hd9 := hD d (List.mem_cons_self ..)
      have ht : okD t := fun x hx => hD x (List.mem_cons_of_mem _ hx)
      rw [List.length_cons] at hl hk
      rw [hd, Option.bind_some, erasureref01_told.j1]
      by_cases h0 : d = 0
      · subst h0
        rw [if_pos (by rw [beq_iff_eq]; rfl), dIs_len, if_pos (by rw [List.length_cons]; omega), if_pos (by rw [List.length_cons]; omega), wsm _ (by omega) (by omega), show ((s + 1 : Nat) : Int) - 1 = (s : Int) from by omega]
        have e : (dIs (0 :: t)).drop (1 : Int).toNat = dIs t := rfl
        rw [e, ih t k (by omega) (by omega) ht (by omega)]
        unfold told
        have e2 : rv (0 :: t) = 10 * rv t := by show 0 + 10 * rv t = _; omega
        rw [e2, show strip (10 * rv t) (s + 1) = strip (rv t) s from by rw [strip, if_pos (by omega), Nat.mul_div_cancel_left _ (by decide)]]
      · rw [if_neg (by rw [beq_iff_eq]; omega), told_fin b _ (s + 1) (Or.inr (by show (d + 10 * rv t) % 10 ≠ 0; omega))]
        exact l1_f b (s + 1) (by omega) x1 x2 (d :: t).length (d :: t) k rfl hD (by rw [List.length_cons]; omega) (by rw [List.length_cons]; omega)
theorem told_ref (b : Bool) (s : Nat) (D : List Nat) (k : Nat) (hs : s ≤ 1000) (hl : D.length ≤ 1000) (hD : okD D) (hk : 2 * s + D.length + 40 ≤ k) : erasureref01_told.f k b (dIs D) (s : Int) = some (told b (rv D) s) := by
  unfold erasureref01_told.f
  rw [dIs_len, if_pos (by show 0 + _ < _; omega), List.nil_append]
  exact l0_f b _ _ s D k hs hl hD hk
end Go.Proofs.YtnhgnejfagncpaaDoor.Plain
end
section
namespace Go.Proofs.YtnhgnejfagncpaaDoor.Plain
open Go.RowKit Go.Proofs.YtnhgnejfagncpaaDoorW.PrintWords Go.Proofs.YtnhgnejfagncpaaDoor.A Go.Proofs.YtnhgnejfagncpaaDoor.B Go.Proofs.YtnhgnejfagncpaaDoor.H Go.Proofs.YtnhgnejfagncpaaDoor.E
def dgn (c : UInt8) : Nat := c.toNat - 48
theorem bt_get (t : ByteArray) (i : Nat) (c : UInt8) (h : t.data.toList[i]? = some c) : bt t (i : Int) = (c.toNat : Int) := by
  have hl : i < t.data.toList.length := by
    rcases Nat.lt_or_ge i t.data.toList.length with h2 | h2
    · exact h2
    · rw [List.getElem?_eq_none h2] at h; cases h
  have hs : i < t.size := by rw [Array.length_toList] at hl; exact hl
  unfold bt
  rw [Int.toNat_natCast, dif_pos hs]
  have e : t[i] = c := by
    have h3 : t.data[i]? = some c := by rw [← Array.getElem?_toList]; exact h
    have h4 : t.data[i]? = some (t.data[i]'hs) := Array.getElem?_eq_getElem hs
    rw [h4] at h3
    exact Option.some.inj h3
  rw [e]
theorem rv_digits : ∀ (l : List UInt8), rv (l.map dgn).reverse = val l := by
  intro l
  have key : ∀ (l : List UInt8), rv (l.reverse.map dgn) = val l.reverse.reverse := by
    intro l
    induction l with
    | nil => rfl
    | cons c t ih =>
      rw [List.reverse_cons, List.map_append, rv_app]
      have e : rv (List.map dgn [c]) = dgn c := by show dgn c + 10 * 0 = dgn c; omega
      rw [e, ih, List.reverse_append, List.length_map, List.length_reverse]
      show val t.reverse.reverse + 10 ^ t.length * dgn c = val (c :: t.reverse.reverse)
      rw [List.reverse_reverse]
      have e2 : val (c :: t) = valA (0 * 10 + (c.toNat - 48)) t := rfl
      rw [e2, valA_eq]
      unfold dgn
      grind
  have h := key l
  rw [List.reverse_reverse, List.map_reverse] at h
  exact h
theorem okD_digits (l : List UInt8) (h : allDig l) : okD (l.map dgn).reverse := fun d hd => by
  obtain ⟨c, hc, rfl⟩ := List.mem_map.1 (List.mem_reverse.1 hd)
  have := h c hc
  unfold isDig at this
  unfold dgn
  omega
theorem turn_f (b : Bool) (X : List Nat) (hX : okD X) (hl : X.length ≤ 500) (s : Nat) (hs : s ≤ 500) : ∀ (i : Nat) (acc : List Nat) (k : Nat), i ≤ X.length → acc.length + i ≤ 600 → acc ++ (X.take i).reverse = X.reverse → i + 1700 ≤ k →
    erasureref01_Parse.l1 k (dIs X) ((i : Int) - 1) b (dIs acc) (s : Int) = some (told b (rv X.reverse) s) := by
  intro i
  induction i with
  | zero =>
    intro acc k hi ha he hk
    obtain ⟨k, rfl⟩ : ∃ q, k = q + 1 := ⟨k - 1, by omega⟩
    have he' : acc = X.reverse := by rw [← he]; show acc = acc ++ []; rw [List.append_nil]
    subst he'
    have fin3 : ∀ z : Int × Int × Int, some (z.1, z.2.1, z.2.2) = some z := fun z => rfl
    rw [erasureref01_Parse.l1, if_neg (by omega), told_ref b s X.reverse k (by omega) (by rw [List.length_reverse]; omega) (fun d hd => hX d (List.mem_reverse.1 hd)) (by rw [List.length_reverse]; omega), Option.bind_some, fin3]
  | succ i ih =>
    intro acc k hi ha he hk
    obtain ⟨k, rfl⟩ : ∃ q, k = q + 1 := ⟨k - 1, by omega⟩
    obtain ⟨d, hd⟩ : ∃ d, X[i]? = some d := ⟨X[i]'(by omega), List.getElem?_eq_getElem (by omega)⟩
    have ht : X.take (i + 1) = X.take i ++ [d] := by rw [List.take_add_one, hd]; rfl
    rw [erasureref01_Parse.l1, if_pos (by omega), if_pos (by omega), dIs_len, if_pos (by omega), dIs_len, if_pos (by omega), show ((i + 1 : Nat) : Int) - 1 = (i : Int) from by omega, dIs_rd X i d hd, wsm _ (by omega) (by omega)]
    have := ih (acc ++ [d]) k (by omega) (by rw [List.length_append]; show _ + 1 + _ ≤ _; omega) (by rw [List.append_assoc, ← List.singleton_append, ← List.append_assoc] at *; rw [← he, ht, List.reverse_append]; simp) (by omega)
    rw [dIs_app] at this
    exact this
def doneR (len : Nat) (b : Bool) (l : List UInt8) (s : Nat) : Int × Int × Int := if l = [] ∨ len > 40 then (0, 0, 4) else told b (val l) s
theorem done_f (t : ByteArray) (ht : t.size ≤ 500) (b pt : Bool) (l : List UInt8) (hd : allDig l) (hl : l.length ≤ t.size) (s : Nat) (hs : s ≤ l.length) (k : Nat) (hk : 2300 ≤ k) :
    erasureref01_Parse.l0 k t (t.size : Int) (dIs (l.map dgn)) pt b (s : Int) = some (doneR t.size b l s) := by
  obtain ⟨k, rfl⟩ : ∃ q, k = q + 2 := ⟨k - 2, by omega⟩
  have hokm : okD (l.map dgn) := fun d hd' => okD_digits l hd d (List.mem_reverse.2 hd')
  unfold doneR
  rw [erasureref01_Parse.l0, if_neg (by omega), dIs_len, List.length_map]
  by_cases h0 : l = []
  · rw [if_pos (by rw [h0]; rfl), erasureref01_Parse.j5, if_pos rfl, if_pos (Or.inl h0)]
  · have hne : l.length ≠ 0 := fun h => h0 (List.length_eq_zero_iff.1 h)
    rw [if_neg (by omega), erasureref01_Parse.j5]
    by_cases h40 : t.size > 40
    · rw [if_pos (by rw [decide_eq_true_iff]; omega), if_pos (Or.inr h40)]
    · rw [if_neg (by rw [decide_eq_true_iff]; omega), if_neg (by intro h; exact h.elim h0 h40), dIs_len, List.length_map, wsm _ (by omega) (by omega)]
      have h := turn_f b (l.map dgn) hokm (by rw [List.length_map]; omega) s (by omega) l.length [] k (by rw [List.length_map]; exact Nat.le_refl _) (by show 0 + _ ≤ _; omega) (by rw [List.nil_append, ← List.length_map (f := dgn), List.take_length]) (by omega)
      rw [rv_digits] at h
      exact h
theorem scanT (t : ByteArray) (ht : t.size ≤ 500) (b : Bool) : ∀ (rest : List UInt8) (i : Nat) (l : List UInt8) (s k : Nat), t.data.toList.drop i = rest → i ≤ t.size → allDig l → l.length ≤ i → s ≤ l.length → 3 * rest.length + 2300 ≤ k →
    erasureref01_Parse.l0 k t (i : Int) (dIs (l.map dgn)) true b (s : Int) = some (if allDig rest then doneR t.size b (l ++ rest) (s + rest.length) else (0, 0, 4)) := by
  intro rest
  have hsz : t.data.toList.length = t.size := Array.length_toList
  induction rest with
  | nil =>
    intro i l s k hr hi hd hl hs hk
    have hi2 : i = t.size := by
      have := List.drop_eq_nil_iff.1 hr
      omega
    subst hi2
    rw [if_pos (show allDig [] from fun c hc => by cases hc), List.append_nil]
    exact done_f t ht b true l hd hl s hs k (by omega)
  | cons c r ih =>
    intro i l s k hr hi hd hl hs hk
    obtain ⟨k, rfl⟩ : ∃ q, k = q + 3 := ⟨k - 3, by omega⟩
    rw [List.length_cons] at hk
    have hlt : i < t.size := by
      rcases Nat.lt_or_ge i t.size with h | h
      · exact h
      · rw [List.drop_eq_nil_iff.2 (by omega)] at hr; cases hr
    have hc : t.data.toList[i]? = some c := by
      have := congrArg (·[0]?) hr
      simpa using this
    have hr2 : t.data.toList.drop (i + 1) = r := by rw [← List.drop_drop, hr]; rfl
    have hb := bt_get t i c hc
    have e0 : erasureref01_Parse.l0 (k + 3) t (i : Int) (dIs (l.map dgn)) true b (s : Int) = erasureref01_Parse.j3 (k + 2) t (i : Int) (dIs (l.map dgn)) true false b (s : Int) := by
      rw [erasureref01_Parse.l0, if_pos (by omega), if_pos (by omega)]
      split <;> rfl
    rw [e0, erasureref01_Parse.j3, if_neg (by decide), if_pos (by omega), if_pos (by omega), hb]
    by_cases hdig : isDig c
    · obtain ⟨g1, g2⟩ := id hdig
      rw [if_neg (by omega), erasureref01_Parse.j4, if_neg (by rw [decide_eq_true_iff]; omega), if_pos (by omega), if_pos (by omega), dIs_len, List.length_map, if_pos (by omega), Option.bind_some, if_pos rfl, hb, wsm _ (by omega) (by omega), wsm _ (by omega) (by omega)]
      have e1 : dIs (l.map dgn) ++ [((c.toNat : Int) - 48) % 256] = dIs ((l ++ [c]).map dgn) := by
        rw [List.map_append, dIs_app]
        congr 1
        show [_] = [((dgn c : Nat) : Int)]
        unfold dgn
        congr 1
        omega
      rw [e1]
      have := ih (i + 1) (l ++ [c]) (s + 1) k hr2 (by omega) ((allDig_append _ _).2 ⟨hd, fun x hx => by rw [List.mem_singleton.1 hx]; exact hdig⟩) (by rw [List.length_append]; show _ + 1 ≤ _; omega) (by rw [List.length_append]; show _ ≤ _ + 1; omega) (by omega)
      refine this.trans ?_
      have hiff : allDig (c :: r) ↔ allDig r := by rw [allDig_cons]; exact ⟨fun h => h.2, fun h => ⟨hdig, h⟩⟩
      rw [List.append_assoc, List.singleton_append, List.length_cons, show s + 1 + r.length = s + (r.length + 1) from by omega]
      by_cases hr3 : allDig r
      · rw [if_pos hr3, if_pos (hiff.2 hr3)]
      · rw [if_neg hr3, if_neg (fun h => hr3 (hiff.1 h))]
    · have hn : ¬ allDig (c :: r) := fun h => hdig ((allDig_cons c r).1 h).1
      rw [if_neg hn]
      by_cases h48 : (c.toNat : Int) < 48
      · rw [if_pos h48, erasureref01_Parse.j4, if_pos rfl]
      · rw [if_neg h48, erasureref01_Parse.j4, if_pos (by rw [decide_eq_true_iff]; unfold isDig at hdig; omega)]
theorem cut_cons (c : UInt8) (t : List UInt8) (h : c ≠ 46) : (cutAt (c :: t) 46).1 = c :: (cutAt t 46).1 ∧ (cutAt (c :: t) 46).2.1 = (cutAt t 46).2.1 := by
  have hr := indexByte_range t 46
  have e : Lib.indexByte (c :: t) 46 = if Lib.indexByte t 46 == -1 then -1 else Lib.indexByte t 46 + 1 := by
    rw [Lib.indexByte, if_neg (by rw [beq_iff_eq]; exact h)]
  by_cases h1 : Lib.indexByte t 46 = -1
  · have e1 : Lib.indexByte (c :: t) 46 = -1 := by rw [e, if_pos (by rw [beq_iff_eq]; exact h1)]
    unfold cutAt
    rw [if_neg (by omega), if_neg (by omega)]
    exact ⟨rfl, rfl⟩
  · have e1 : Lib.indexByte (c :: t) 46 = Lib.indexByte t 46 + 1 := by rw [e, if_neg (by rw [beq_iff_eq]; exact h1)]
    have e2 : (Lib.indexByte (c :: t) 46).toNat = (Lib.indexByte t 46).toNat + 1 := by omega
    unfold cutAt
    rw [if_pos (by omega), if_pos (by omega), e2]
    exact ⟨rfl, rfl⟩
theorem cut_first (t : List UInt8) : cutAt (46 :: t) 46 = ([], t, true) := rfl
theorem cut_nil : cutAt [] 46 = ([], [], false) := rfl
theorem scanF (t : ByteArray) (ht : t.size ≤ 500) (b : Bool) : ∀ (rest : List UInt8) (i : Nat) (l : List UInt8) (k : Nat), t.data.toList.drop i = rest → i ≤ t.size → allDig l → l.length ≤ i → 3 * rest.length + 2400 ≤ k →
    erasureref01_Parse.l0 k t (i : Int) (dIs (l.map dgn)) false b 0 = some (if allDig ((cutAt rest 46).1 ++ (cutAt rest 46).2.1) then doneR t.size b (l ++ ((cutAt rest 46).1 ++ (cutAt rest 46).2.1)) (cutAt rest 46).2.1.length else (0, 0, 4)) := by
  intro rest
  have hsz : t.data.toList.length = t.size := Array.length_toList
  induction rest with
  | nil =>
    intro i l k hr hi hd hl hk
    have hi2 : i = t.size := by
      have := List.drop_eq_nil_iff.1 hr
      omega
    subst hi2
    rw [cut_nil]
    dsimp only
    rw [List.append_nil, List.append_nil, if_pos (show allDig [] from fun c hc => by cases hc)]
    exact done_f t ht b false l hd hl 0 (Nat.zero_le _) k (by omega)
  | cons c r ih =>
    intro i l k hr hi hd hl hk
    obtain ⟨k, rfl⟩ : ∃ q, k = q + 3 := ⟨k - 3, by omega⟩
    rw [List.length_cons] at hk
    have hlt : i < t.size := by
      rcases Nat.lt_or_ge i t.size with h | h
      · exact h
      · rw [List.drop_eq_nil_iff.2 (by omega)] at hr; cases hr
    have hc : t.data.toList[i]? = some c := by
      have := congrArg (·[0]?) hr
      simpa using this
    have hr2 : t.data.toList.drop (i + 1) = r := by rw [← List.drop_drop, hr]; rfl
    have hb := bt_get t i c hc
    by_cases hdot : c = 46
    · subst hdot
      rw [erasureref01_Parse.l0, if_pos (by omega), if_pos (by omega), if_pos (by rw [hb]; rfl), erasureref01_Parse.j3, if_pos (show (!false) = true from rfl), wsm _ (by omega) (by omega), cut_first]
      dsimp only
      have := scanT t ht b r (i + 1) l 0 (k + 1) hr2 (by omega) hd (by omega) (Nat.zero_le _) (by omega)
      rw [Nat.zero_add] at this
      exact this
    · obtain ⟨c1, c2⟩ := cut_cons c r hdot
      have hne : (c.toNat : Int) ≠ 46 := fun h => hdot (UInt8.toNat_inj.1 (by show c.toNat = 46; omega))
      rw [c1, c2, List.cons_append]
      rw [erasureref01_Parse.l0, if_pos (by omega), if_pos (by omega), if_neg (by rw [hb]; exact hne), erasureref01_Parse.j3, if_neg (by decide), if_pos (by omega), if_pos (by omega), hb]
      by_cases hdig : isDig c
      · obtain ⟨g1, g2⟩ := id hdig
        rw [if_neg (by omega), erasureref01_Parse.j4, if_neg (by rw [decide_eq_true_iff]; omega), if_pos (by omega), if_pos (by omega), dIs_len, List.length_map, if_pos (by omega), Option.bind_some, if_neg (by decide), hb, wsm _ (by omega) (by omega)]
        have e1 : dIs (l.map dgn) ++ [((c.toNat : Int) - 48) % 256] = dIs ((l ++ [c]).map dgn) := by
          rw [List.map_append, dIs_app]
          congr 1
          show [_] = [((dgn c : Nat) : Int)]
          unfold dgn
          congr 1
          omega
        rw [e1]
        have := ih (i + 1) (l ++ [c]) k hr2 (by omega) ((allDig_append _ _).2 ⟨hd, fun x hx => by rw [List.mem_singleton.1 hx]; exact hdig⟩) (by rw [List.length_append]; show _ + 1 ≤ _; omega) (by omega)
        refine this.trans ?_
        have hiff : allDig (c :: ((cutAt r 46).1 ++ (cutAt r 46).2.1)) ↔ allDig ((cutAt r 46).1 ++ (cutAt r 46).2.1) := by rw [allDig_cons]; exact ⟨fun h => h.2, fun h => ⟨hdig, h⟩⟩
        rw [List.append_assoc l, List.singleton_append]
        by_cases hr3 : allDig ((cutAt r 46).1 ++ (cutAt r 46).2.1)
        · rw [if_pos hr3, if_pos (hiff.2 hr3)]
        · rw [if_neg hr3, if_neg (fun h => hr3 (hiff.1 h))]
      · have hn : ¬ allDig (c :: ((cutAt r 46).1 ++ (cutAt r 46).2.1)) := fun h => hdig ((allDig_cons c _).1 h).1
        rw [if_neg hn]
        by_cases h48 : (c.toNat : Int) < 48
        · rw [if_pos h48, erasureref01_Parse.j4, if_pos rfl]
        · rw [if_neg h48, erasureref01_Parse.j4, if_pos (by rw [decide_eq_true_iff]; unfold isDig at hdig; omega)]
theorem done_parse (l : List UInt8) (n : Nat) (hn : l.length = n) :
    (if allDig ((cutAt (headB l).2 46).1 ++ (cutAt (headB l).2 46).2.1) then doneR n (headB l).1 ([] ++ ((cutAt (headB l).2 46).1 ++ (cutAt (headB l).2 46).2.1)) (cutAt (headB l).2 46).2.1.length else (0, 0, 4)) = parseL l := by
  unfold parseL doneR
  rw [List.nil_append, hn]
  by_cases h1 : allDig ((cutAt (headB l).2 46).1 ++ (cutAt (headB l).2 46).2.1)
  · rw [if_pos h1]
    by_cases h2 : (cutAt (headB l).2 46).1 ++ (cutAt (headB l).2 46).2.1 = [] ∨ n > 40
    · rw [if_pos h2, if_pos (by rcases h2 with h2 | h2; exact Or.inr (Or.inl h2); exact Or.inl h2)]
    · rw [if_neg h2, if_neg (by intro h; rcases h with h | h | h; exact h2 (Or.inr h); exact h2 (Or.inl h); exact h h1)]
  · rw [if_neg h1, if_pos (Or.inr (Or.inr h1))]
theorem parse_ref (t : ByteArray) (ht : t.size ≤ 500) (k : Nat) (hk : 5000 ≤ k) : erasureref01_Parse.f k t = some (parseL t.data.toList) := by
  obtain ⟨k, rfl⟩ : ∃ q, k = q + 2 := ⟨k - 2, by omega⟩
  have hsz : t.data.toList.length = t.size := Array.length_toList
  have hfin := done_parse t.data.toList t.size hsz
  have hlist : t.toList = t.data.toList := ByteArray.toList_eq t
  unfold erasureref01_Parse.f
  rw [hlist]
  cases hq : t.data.toList with
  | nil =>
    rw [hq] at hfin
    have hs0 : t.size = 0 := by rw [← hsz, hq]; rfl
    rw [if_pos rfl, erasureref01_Parse.j0, if_neg (by decide), erasureref01_Parse.j1]
    have := scanF t ht false [] 0 [] k (by rw [hq]; rfl) (Nat.zero_le _) (fun c hc => by cases hc) (Nat.zero_le _) (by show 3 * 0 + 2400 ≤ k; omega)
    exact this.trans (congrArg some hfin)
  | cons c r =>
    rw [hq] at hfin
    have hl1 : r.length + 1 = t.size := by rw [← hsz, hq]; rfl
    have hb := bt_get t 0 c (by rw [hq]; rfl)
    rw [show ((0 : Nat) : Int) = 0 from rfl] at hb
    rw [if_neg (by intro h; cases h), if_pos (by omega), hb]
    have hh : headB (c :: r) = if c = 43 ∨ c = 45 then (decide (c = 45), r) else (false, c :: r) := rfl
    have n43 : (c.toNat : Int) = 43 ↔ c = 43 := ⟨fun h => UInt8.toNat_inj.1 (by show c.toNat = 43; omega), fun h => by rw [h]; rfl⟩
    have n45 : (c.toNat : Int) = 45 ↔ c = 45 := ⟨fun h => UInt8.toNat_inj.1 (by show c.toNat = 45; omega), fun h => by rw [h]; rfl⟩
    have hbeq : ((c.toNat : Int) == 45) = decide (c = 45) := by
      by_cases h : c = 45
      · rw [decide_eq_true h, beq_iff_eq]; exact n45.2 h
      · rw [decide_eq_false h, beq_eq_false_iff_ne]; exact fun h2 => h (n45.1 h2)
    have hsign : ∀ x21, (c = 43 ∨ c = 45) → x21 = true → erasureref01_Parse.j0 (k + 2) t 0 x21 false 0 = some (parseL (c :: r)) := fun x21 hs hx => by
      subst hx
      rw [hh, if_pos hs] at hfin
      rw [erasureref01_Parse.j0, if_pos rfl, if_pos (by omega), hb, hbeq, erasureref01_Parse.j1]
      have := scanF t ht (decide (c = 45)) r 1 [] k (by rw [hq]; rfl) (by omega) (fun c hc => by cases hc) (Nat.zero_le _) (by omega)
      exact this.trans (congrArg some hfin)
    by_cases h43 : c = 43
    · rw [if_pos (n43.2 h43)]
      exact hsign true (Or.inl h43) rfl
    · rw [if_neg (fun h => h43 (n43.1 h)), hbeq]
      by_cases h45 : c = 45
      · rw [decide_eq_true h45]
        exact hsign true (Or.inr h45) rfl
      · rw [decide_eq_false h45, erasureref01_Parse.j0, if_neg (by decide), erasureref01_Parse.j1]
        have hh2 : headB (c :: r) = (false, c :: r) := by rw [hh, if_neg (fun h => Or.elim h h43 h45)]
        rw [hh2] at hfin
        have := scanF t ht false (c :: r) 0 [] k (by rw [hq]; rfl) (Nat.zero_le _) (fun c hc => by cases hc) (Nat.zero_le _) (by rw [List.length_cons]; omega)
        exact this.trans (congrArg some hfin)
end Go.Proofs.YtnhgnejfagncpaaDoor.Plain
end
section
namespace Go.Proofs.YtnhgnejfagncpaaDoor.Plain
open Go.RowKit Go.Proofs.YtnhgnejfagncpaaDoorW.PrintWords Go.Proofs.YtnhgnejfagncpaaDoor.A Go.Proofs.YtnhgnejfagncpaaDoor.B Go.Proofs.YtnhgnejfagncpaaDoor.H Go.Proofs.YtnhgnejfagncpaaDoor.E
set_option linter.unusedVariables false
theorem val_cons (c : UInt8) (t : List UInt8) : val (c :: t) = (c.toNat - 48) * 10 ^ t.length + val t := by
  show valA (0 * 10 + (c.toNat - 48)) t = _
  rw [valA_eq, Nat.zero_mul, Nat.zero_add]
theorem uniq : ∀ (P Q : List UInt8), P.length = Q.length → allDig P → allDig Q → val P = val Q → P = Q
  | [], [], _, _, _, _ => rfl
  | [], _ :: _, h, _, _, _ => by simp at h
  | _ :: _, [], h, _, _, _ => by simp at h
  | a :: P, b :: Q, hl, hP, hQ, hv => by
    obtain ⟨pa, pP⟩ := (allDig_cons _ _).1 hP
    obtain ⟨qb, qQ⟩ := (allDig_cons _ _).1 hQ
    have hl' : P.length = Q.length := by simpa using hl
    rw [val_cons, val_cons, hl'] at hv
    have l1 := val_lt P pP
    have l2 := val_lt Q qQ
    rw [hl'] at l1
    unfold isDig at pa qb
    have e : a.toNat - 48 = b.toNat - 48 := by
      generalize 10 ^ Q.length = p at *
      generalize a.toNat - 48 = x at *
      generalize b.toNat - 48 = y at *
      rcases Nat.lt_trichotomy x y with h | h | h
      · exfalso
        have : (x + 1) * p ≤ y * p := Nat.mul_le_mul_right _ h
        rw [Nat.add_mul, Nat.one_mul] at this
        omega
      · exact h
      · exfalso
        have : (y + 1) * p ≤ x * p := Nat.mul_le_mul_right _ h
        rw [Nat.add_mul, Nat.one_mul] at this
        omega
    have e2 : a = b := UInt8.toNat_inj.1 (by omega)
    subst e2
    rw [uniq P Q hl' pP qQ (by omega)]
end Go.Proofs.YtnhgnejfagncpaaDoor.Plain
end
section
namespace Go.Proofs.YtnhgnejfagncpaaDoor.Plain
open Go Go.RowKit Go.Proofs.YtnhgnejfagncpaaDoorW.PrintWords Go.Proofs.YtnhgnejfagncpaaDoor.H Go.Proofs.YtnhgnejfagncpaaDoor.A Go.Proofs.YtnhgnejfagncpaaDoor.B Go.Proofs.YtnhgnejfagncpaaDoor.E Go.Proofs.YtnhgnejfagncpaaDoor.L Go.Proofs.YtnhgnejfagncpaaDoor.M Go.Proofs.YtnhgnejfagncpaaDoor.P
set_option linter.unusedVariables false
def whiteB (c : Int) : Bool := c == 0 || c == 9 || c == 10 || c == 12 || c == 13 || c == 32
def markB (c : Int) : Bool := c == 40 || c == 41 || c == 60 || c == 62 || c == 91 || c == 93 || c == 123 || c == 125 || c == 47 || c == 37
def otherB (c : Int) : Bool := !markB c && !whiteB c
theorem white_f (c : Int) : erasureref10_White.f c = some (whiteB c) := by
  unfold erasureref10_White.f
  by_cases h0 : c = 0
  · subst h0; rfl
  by_cases h1 : c = 9
  · subst h1; rfl
  by_cases h2 : c = 10
  · subst h2; rfl
  by_cases h3 : c = 12
  · subst h3; rfl
  by_cases h4 : c = 13
  · subst h4; rfl
  rw [if_neg h0, if_neg h1, if_neg h2, if_neg h3, if_neg h4]
  unfold whiteB
  rw [beq_eq_false_iff_ne.mpr h0, beq_eq_false_iff_ne.mpr h1, beq_eq_false_iff_ne.mpr h2, beq_eq_false_iff_ne.mpr h3, beq_eq_false_iff_ne.mpr h4]
  rfl
theorem mark_f (c : Int) : erasureref14_mark.f c = some (markB c) := by
  unfold erasureref14_mark.f
  by_cases h0 : c = 40
  · subst h0; rfl
  by_cases h1 : c = 41
  · subst h1; rfl
  by_cases h2 : c = 60
  · subst h2; rfl
  by_cases h3 : c = 62
  · subst h3; rfl
  by_cases h4 : c = 91
  · subst h4; rfl
  by_cases h5 : c = 93
  · subst h5; rfl
  by_cases h6 : c = 123
  · subst h6; rfl
  by_cases h7 : c = 125
  · subst h7; rfl
  by_cases h8 : c = 47
  · subst h8; rfl
  rw [if_neg h0, if_neg h1, if_neg h2, if_neg h3, if_neg h4, if_neg h5, if_neg h6, if_neg h7, if_neg h8]
  unfold markB
  rw [beq_eq_false_iff_ne.mpr h0, beq_eq_false_iff_ne.mpr h1, beq_eq_false_iff_ne.mpr h2, beq_eq_false_iff_ne.mpr h3, beq_eq_false_iff_ne.mpr h4, beq_eq_false_iff_ne.mpr h5, beq_eq_false_iff_ne.mpr h6, beq_eq_false_iff_ne.mpr h7, beq_eq_false_iff_ne.mpr h8]
  rfl
theorem other_f (c : Int) : erasureref14_other.f c = some (otherB c) := by
  unfold erasureref14_other.f otherB
  rw [mark_f, Option.bind_some]
  cases h : markB c with
  | true => rfl
  | false => rw [if_neg (by decide), white_f, Option.bind_some]; rfl
theorem of_f14 (c : Int) (k : Nat) (hk : 1 ≤ k) : lex_of.f k c = some (if whiteB c = true then 0 else if markB c = true then 1 else 2) := by
  obtain ⟨k, rfl⟩ : ∃ q, k = q + 1 := ⟨k - 1, by omega⟩
  unfold lex_of.f
  by_cases h0 : c = 0
  · subst h0; rfl
  by_cases h1 : c = 9
  · subst h1; rfl
  by_cases h2 : c = 10
  · subst h2; rfl
  by_cases h3 : c = 12
  · subst h3; rfl
  by_cases h4 : c = 13
  · subst h4; rfl
  by_cases h5 : c = 32
  · subst h5; rfl
  rw [if_neg h0, if_neg h1, if_neg h2, if_neg h3, if_neg h4, beq_eq_false_iff_ne.mpr h5, lex_of.j0, if_neg (by decide)]
  have hw : whiteB c = false := by
    unfold whiteB
    rw [beq_eq_false_iff_ne.mpr h0, beq_eq_false_iff_ne.mpr h1, beq_eq_false_iff_ne.mpr h2, beq_eq_false_iff_ne.mpr h3, beq_eq_false_iff_ne.mpr h4, beq_eq_false_iff_ne.mpr h5]
    rfl
  rw [hw]
  simp only [Bool.false_eq_true, if_false]
  by_cases g0 : c = 40
  · subst g0; rfl
  by_cases g1 : c = 41
  · subst g1; rfl
  by_cases g2 : c = 60
  · subst g2; rfl
  by_cases g3 : c = 62
  · subst g3; rfl
  by_cases g4 : c = 91
  · subst g4; rfl
  by_cases g5 : c = 93
  · subst g5; rfl
  by_cases g6 : c = 123
  · subst g6; rfl
  by_cases g7 : c = 125
  · subst g7; rfl
  by_cases g8 : c = 47
  · subst g8; rfl
  by_cases g9 : c = 37
  · subst g9; rfl
  rw [if_neg g0, if_neg g1, if_neg g2, if_neg g3, if_neg g4, if_neg g5, if_neg g6, if_neg g7, if_neg g8, if_neg g9]
  have hm : markB c = false := by
    unfold markB
    rw [beq_eq_false_iff_ne.mpr g0, beq_eq_false_iff_ne.mpr g1, beq_eq_false_iff_ne.mpr g2, beq_eq_false_iff_ne.mpr g3, beq_eq_false_iff_ne.mpr g4, beq_eq_false_iff_ne.mpr g5, beq_eq_false_iff_ne.mpr g6, beq_eq_false_iff_ne.mpr g7, beq_eq_false_iff_ne.mpr g8, beq_eq_false_iff_ne.mpr g9]
    rfl
  rw [hm]
  rfl
theorem of_two (c : Int) (k : Nat) (hk : 1 ≤ k) : ∃ t, lex_of.f k c = some t ∧ (t = 2 ↔ otherB c = true) := by
  refine ⟨_, of_f14 c k hk, ?_⟩
  unfold otherB
  cases whiteB c <;> cases markB c <;> decide
end Go.Proofs.YtnhgnejfagncpaaDoor.Plain
end
section
namespace Go.Proofs.YtnhgnejfagncpaaDoor.Plain
open Go Go.RowKit Go.Proofs.YtnhgnejfagncpaaDoorW.PrintWords
set_option linter.unusedVariables false
def skipL : Bool → List Int → List Int
  | _, [] => []
  | cm, c :: t => if c = 10 ∨ c = 13 then skipL false t else if cm = true ∨ whiteB c = true then skipL cm t else if c = 37 then skipL true t else c :: t
def rowA : List Int → List Int
  | [] => []
  | c :: t => if otherB c = true then c :: rowA t else []
def rowZ : List Int → List Int
  | [] => []
  | c :: t => if otherB c = true then rowZ t else c :: t
def dgI (c : Int) : Int := if 48 ≤ c ∧ c ≤ 57 then c - 48 else if 65 ≤ c ∧ c ≤ 70 then c - 55 else if 97 ≤ c ∧ c ≤ 102 then c - 87 else -1
def nameL : Nat → List Int → Option (List Int)
  | 0, _ => none
  | _ + 1, [] => some []
  | k + 1, c :: t => if c = 35 then match t with
      | a :: b :: r => if dgI a < 0 ∨ dgI b < 0 then none else if 16 * dgI a + dgI b = 0 then none else (nameL k r).map (fun o => (16 * dgI a + dgI b) :: o)
      | _ => none
    else (nameL k t).map (fun o => c :: o)
def octL : Nat → Int → List Int → List Int × List Int
  | 0, n, t => ([n % 256], t)
  | _ + 1, n, [] => ([n % 256], [])
  | k + 1, n, d :: t => if 48 ≤ d ∧ d ≤ 55 then octL k (8 * n + (d - 48)) t else ([n % 256], d :: t)
def escL (c : Int) (t : List Int) : List Int × List Int :=
  if c = 110 then ([10], t) else if c = 114 then ([13], t) else if c = 116 then ([9], t) else if c = 98 then ([8], t) else if c = 102 then ([12], t)
  else if c = 13 then (match t with
    | [] => ([], [])
    | d :: r => if d = 10 then ([], r) else ([], d :: r))
  else if c = 10 then ([], t) else if c < 48 ∨ 55 < c then ([c], t) else octL 2 (c - 48) t
def textL : Nat → Int → List Int → List Int → Option (List Int × List Int)
  | 0, _, _, _ => none
  | _ + 1, _, _, [] => none
  | k + 1, deep, out, c :: t => if c = 92 then (match t with
      | [] => none
      | d :: r => textL k deep (out ++ (escL d r).1) (escL d r).2)
    else if c = 40 then textL k (deep + 1) (out ++ [40]) t
    else if c = 41 then (if deep = 1 then some (out, t) else textL k (deep - 1) (out ++ [41]) t)
    else if c = 13 then (match t with
      | [] => textL k deep (out ++ [10]) []
      | d :: r => if d = 10 then textL k deep (out ++ [10]) r else textL k deep (out ++ [10]) (d :: r))
    else textL k deep (out ++ [c]) t
def packs : List Int → List Int
  | [] => []
  | [a] => [16 * a]
  | a :: b :: t => (16 * a + b) :: packs t
def hexL : List Int → List Int → Option (List Int × List Int)
  | _, [] => none
  | ds, c :: t => if c = 62 then some (packs ds, t) else if whiteB c = true then hexL ds t else if dgI c < 0 then none else hexL (ds ++ [dgI c]) t
inductive TokR where
  | tok (kind M S : Int) (s : List Int) (rest : List Int)
  | err (e : Int)
def wholeL (kind : Int) : Option (List Int × List Int) → TokR
  | none => .err 4
  | some (s, r) => .tok kind 0 0 s r
def u8L (l : List Int) : List UInt8 := l.map fun n => UInt8.ofNat n.toNat
def wordL (s r : List Int) : TokR :=
  if (parseL (u8L s)).2.2 = 0 then .tok 1 (parseL (u8L s)).1 (parseL (u8L s)).2.1 [] r
  else if (parseL (u8L s)).2.2 = 5 then .err 5
  else if 127 < s.length then .err 2 else .tok 4 0 0 s r
def markL (c : Int) (t : List Int) : TokR :=
  if c = 91 then .tok 5 0 0 [] t else if c = 93 then .tok 6 0 0 [] t
  else if c = 60 then (match t with
    | [] => wholeL 3 (hexL [] [])
    | d :: r => if d = 60 then .tok 7 0 0 [] r else wholeL 3 (hexL [] (d :: r)))
  else if c = 62 then (match t with
    | [] => .err 4
    | d :: r => if d = 62 then .tok 8 0 0 [] r else .err 4)
  else if c = 40 then wholeL 3 (textL (t.length + 1) 1 [] t)
  else if c = 47 then wholeL 2 ((nameL ((rowA t).length + 1) (rowA t)).map fun s => (s, rowZ t))
  else .err 4
def nextL (r : List Int) : TokR := match skipL false r with
  | [] => .tok 0 0 0 [] []
  | c :: t => if otherB c = true then wordL (c :: rowA t) (rowZ t) else markL c t
theorem row_eq : ∀ l, rowA l ++ rowZ l = l
  | [] => rfl
  | c :: t => by
    unfold rowA rowZ
    by_cases h : otherB c = true
    · rw [if_pos h, if_pos h, List.cons_append, row_eq t]
    · rw [if_neg h, if_neg h, List.nil_append]
theorem skip_suf : ∀ (l : List Int) (cm : Bool), skipL cm l <:+ l
  | [], _ => List.suffix_refl _
  | c :: t, cm => by
    unfold skipL
    split
    · exact (skip_suf t _).trans (List.suffix_cons ..)
    · split
      · exact (skip_suf t _).trans (List.suffix_cons ..)
      · split
        · exact (skip_suf t _).trans (List.suffix_cons ..)
        · exact List.suffix_refl _
theorem oct_suf : ∀ (k : Nat) (n : Int) (t : List Int), (octL k n t).2 <:+ t
  | 0, n, t => List.suffix_refl _
  | _ + 1, n, [] => List.suffix_refl _
  | k + 1, n, d :: t => by
    unfold octL
    split
    · exact (oct_suf k _ t).trans (List.suffix_cons ..)
    · exact List.suffix_refl _
theorem esc_suf (c : Int) (t : List Int) : (escL c t).2 <:+ t := by
  unfold escL
  split; exact List.suffix_refl _
  split; exact List.suffix_refl _
  split; exact List.suffix_refl _
  split; exact List.suffix_refl _
  split; exact List.suffix_refl _
  split
  · cases t with
    | nil => exact List.suffix_refl _
    | cons d r =>
      dsimp only
      split
      · exact List.suffix_cons ..
      · exact List.suffix_refl _
  split; exact List.suffix_refl _
  split; exact List.suffix_refl _
  exact oct_suf _ _ _
theorem text_suf : ∀ (k : Nat) (deep : Int) (out l s r : List Int), textL k deep out l = some (s, r) → r <:+ l ∧ r.length < l.length
  | 0, _, _, _, _, _ => fun h => by cases h
  | _ + 1, _, _, [], _, _ => fun h => by cases h
  | k + 1, deep, out, c :: t, s, r => fun h => by
    have go : ∀ (d : Int) (o l : List Int), l <:+ t → textL k d o l = some (s, r) → r <:+ c :: t ∧ r.length < (c :: t).length := fun d o l hl hh => by
      obtain ⟨a, b⟩ := text_suf k d o l s r hh
      have := hl.length_le
      exact ⟨(a.trans hl).trans (List.suffix_cons ..), by rw [List.length_cons]; omega⟩
    unfold textL at h
    split at h
    · cases t with
      | nil => cases h
      | cons d r' => exact go _ _ _ ((esc_suf d r').trans (List.suffix_cons ..)) h
    split at h
    · exact go _ _ _ (List.suffix_refl _) h
    split at h
    · split at h
      · cases h
        exact ⟨List.suffix_cons .., by rw [List.length_cons]; omega⟩
      · exact go _ _ _ (List.suffix_refl _) h
    split at h
    · cases t with
      | nil => exact go _ _ _ (List.suffix_refl _) h
      | cons d r' =>
        dsimp only at h
        split at h
        · exact go _ _ _ (List.suffix_cons ..) h
        · exact go _ _ _ (List.suffix_refl _) h
    · exact go _ _ _ (List.suffix_refl _) h
theorem hex_suf : ∀ (l ds s r : List Int), hexL ds l = some (s, r) → r <:+ l ∧ r.length < l.length
  | [], _, _, _ => fun h => by cases h
  | c :: t, ds, s, r => fun h => by
    have go : ∀ o, hexL o t = some (s, r) → r <:+ c :: t ∧ r.length < (c :: t).length := fun o hh => by
      obtain ⟨a, b⟩ := hex_suf t o s r hh
      exact ⟨a.trans (List.suffix_cons ..), by rw [List.length_cons]; omega⟩
    unfold hexL at h
    split at h
    · cases h
      exact ⟨List.suffix_cons .., by rw [List.length_cons]; omega⟩
    split at h
    · exact go _ h
    split at h
    · cases h
    · exact go _ h
theorem rowZ_suf (l : List Int) : rowZ l <:+ l := ⟨rowA l, row_eq l⟩
theorem whole_tok (k : Int) (x : Option (List Int × List Int)) (l : List Int) (hx : ∀ s r, x = some (s, r) → r <:+ l ∧ r.length ≤ l.length) (kind M S : Int) (s r : List Int) (h : wholeL k x = .tok kind M S s r) : kind = k ∧ M = 0 ∧ S = 0 ∧ x = some (s, r) ∧ r <:+ l := by
  cases x with
  | none => cases h
  | some p =>
    obtain ⟨p1, p2⟩ := p
    unfold wholeL at h
    cases h
    exact ⟨rfl, rfl, rfl, rfl, (hx _ _ rfl).1⟩
theorem mark_tok (c : Int) (t : List Int) (kind M S : Int) (s r : List Int) (h : markL c t = .tok kind M S s r) : r <:+ t ∧ kind ≠ 0 := by
  unfold markL at h
  split at h
  · cases h; exact ⟨List.suffix_refl _, by decide⟩
  split at h
  · cases h; exact ⟨List.suffix_refl _, by decide⟩
  split at h
  · cases t with
    | nil => cases h
    | cons d r' =>
      dsimp only at h
      split at h
      · cases h; exact ⟨List.suffix_cons .., by decide⟩
      · obtain ⟨rfl, _, _, h2, _⟩ := whole_tok 3 _ (d :: r') (fun s r hh => ⟨(hex_suf _ _ s r hh).1, by have := (hex_suf _ _ s r hh).2; omega⟩) _ _ _ _ _ h
        exact ⟨(hex_suf _ _ _ _ h2).1, by decide⟩
  split at h
  · cases t with
    | nil => cases h
    | cons d r' =>
      dsimp only at h
      split at h
      · cases h; exact ⟨List.suffix_cons .., by decide⟩
      · cases h
  split at h
  · obtain ⟨rfl, _, _, h2, _⟩ := whole_tok 3 _ t (fun s r hh => ⟨(text_suf _ _ _ _ s r hh).1, by have := (text_suf _ _ _ _ s r hh).2; omega⟩) _ _ _ _ _ h
    exact ⟨(text_suf _ _ _ _ _ _ h2).1, by decide⟩
  split at h
  · cases hn : nameL ((rowA t).length + 1) (rowA t) with
    | none => rw [hn] at h; cases h
    | some o =>
      rw [hn] at h
      cases h
      exact ⟨rowZ_suf t, by decide⟩
  · cases h
theorem next_tok (l : List Int) (kind M S : Int) (s r : List Int) (h : nextL l = .tok kind M S s r) : r <:+ l ∧ (kind ≠ 0 → r.length < l.length) ∧ (kind = 0 → r = []) := by
  have hs := skip_suf l false
  unfold nextL at h
  cases hq : skipL false l with
  | nil =>
    rw [hq] at h
    cases h
    exact ⟨List.nil_suffix, fun h => absurd rfl h, fun _ => rfl⟩
  | cons c t =>
    rw [hq] at h hs
    have hl := hs.length_le
    rw [List.length_cons] at hl
    have key : r <:+ t ∧ kind ≠ 0 := by
      dsimp only at h
      split at h
      · unfold wordL at h
        split at h
        · cases h; exact ⟨rowZ_suf t, by decide⟩
        split at h
        · cases h
        split at h
        · cases h
        · cases h; exact ⟨rowZ_suf t, by decide⟩
      · exact mark_tok c t _ _ _ _ _ h
    have := key.1.length_le
    exact ⟨(key.1.trans (List.suffix_cons ..)).trans hs, fun _ => by omega, fun h => absurd h key.2⟩
end Go.Proofs.YtnhgnejfagncpaaDoor.Plain
end
section
namespace Go.Proofs.YtnhgnejfagncpaaDoor.Plain
open Go Go.RowKit Go.Proofs.YtnhgnejfagncpaaDoorW.PrintWords
set_option linter.unusedVariables false
def okB (l : List Int) : Prop := ∀ c ∈ l, 0 ≤ c ∧ c ≤ 255
def I8 (l : List UInt8) : List Int := l.map fun c => (c.toNat : Int)
theorem u8_i8 (l : List UInt8) : u8L (I8 l) = l := by
  unfold u8L I8
  rw [List.map_map]
  conv => rhs; rw [← List.map_id l]
  refine List.map_congr_left fun c _ => ?_
  show UInt8.ofNat ((c.toNat : Int).toNat) = c
  rw [Int.toNat_natCast]
  exact UInt8.ofNat_toNat
theorem i8_ok (l : List UInt8) : okB (I8 l) := fun c hc => by
  obtain ⟨d, _, rfl⟩ := List.mem_map.1 hc
  have := d.toNat_lt
  exact ⟨Int.natCast_nonneg _, by omega⟩
theorem i8_u8 (l : List Int) (h : okB l) : I8 (u8L l) = l := by
  unfold u8L I8
  rw [List.map_map]
  conv => rhs; rw [← List.map_id l]
  refine List.map_congr_left fun c hc => ?_
  obtain ⟨h0, h1⟩ := h c hc
  show ((UInt8.ofNat c.toNat).toNat : Int) = c
  rw [UInt8.toNat_ofNat', Nat.mod_eq_of_lt (by omega)]
  omega
def hx (n : Int) : Int := if n < 10 then 48 + n else 87 + n
def RightT (kind M S : Int) (s : List Int) : Prop :=
  if kind = 1 then Good M S ∧ s = [] else M = 0 ∧ S = 0 ∧
  (if kind = 2 then (∀ c ∈ s, c ≠ 0) else if kind = 3 then True else if kind = 4 then s ≠ [] ∧ s.length ≤ 127 ∧ (∀ c ∈ s, otherB c = true) ∧ (parseL (u8L s)).2.2 = 4 else 0 ≤ kind ∧ kind ≤ 8 ∧ s = [])
instance (kind M S : Int) (s : List Int) : Decidable (RightT kind M S s) := by unfold RightT; infer_instance
end Go.Proofs.YtnhgnejfagncpaaDoor.Plain
end
section
namespace Go.Proofs.YtnhgnejfagncpaaDoor.Plain
open Go Go.RowKit Go.Proofs.YtnhgnejfagncpaaDoorW.PrintWords Go.Proofs.YtnhgnejfagncpaaDoor.H Go.Proofs.YtnhgnejfagncpaaDoor.A Go.Proofs.YtnhgnejfagncpaaDoor.B Go.Proofs.YtnhgnejfagncpaaDoor.E Go.Proofs.YtnhgnejfagncpaaDoor.L Go.Proofs.YtnhgnejfagncpaaDoor.M Go.Proofs.YtnhgnejfagncpaaDoor.P
set_option linter.unusedVariables false
def nb (s : ByteArray) : List Int := I8 s.data.toList
def bs (l : List Int) : ByteArray := ⟨(u8L l).toArray⟩
theorem nb_bs (l : List Int) (h : okB l) : nb (bs l) = l := by unfold bs nb; exact i8_u8 l h
theorem nb_len (s : ByteArray) : (nb s).length = s.size := by unfold nb I8; rw [List.length_map]; exact Array.length_toList
theorem u8_app (a b : List Int) : u8L (a ++ b) = u8L a ++ u8L b := List.map_append ..
theorem bs_app (a b : List Int) : bs a ++ bs b = bs (a ++ b) := by unfold bs; rw [bytes_app, u8_app]
theorem bs_len (l : List Int) : (bs l).size = l.length := by unfold bs; rw [bytes_size]; exact List.length_map ..
theorem drop_at (s : ByteArray) (i : Nat) (c : UInt8) (r : List UInt8) (h : s.data.toList.drop i = c :: r) : bt s (i : Int) = (c.toNat : Int) ∧ i < s.size ∧ s.data.toList.drop (i + 1) = r := by
  have hsz : s.data.toList.length = s.size := Array.length_toList
  have hlt : i < s.size := by
    rcases Nat.lt_or_ge i s.size with h2 | h2
    · exact h2
    · rw [List.drop_eq_nil_iff.2 (by omega)] at h; cases h
  have hc : s.data.toList[i]? = some c := by
    have := congrArg (·[0]?) h
    simpa using this
  exact ⟨bt_get s i c hc, hlt, by rw [← List.drop_drop, h]; rfl⟩
theorem u8_one (c : UInt8) : u8L [(c.toNat : Int)] = [c] := by
  have := u8_i8 [c]
  exact this
end Go.Proofs.YtnhgnejfagncpaaDoor.Plain
end
