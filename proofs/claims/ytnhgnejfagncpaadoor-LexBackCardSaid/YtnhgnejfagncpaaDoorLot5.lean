/- Put together: H4, B1, L1 (each in a section of its own). -/
import Derived.Test.YtnhgnejfagncpaaDoorLot2
import Derived.Test.YtnhgnejfagncpaaDoorM2
section
namespace Go.Proofs.YtnhgnejfagncpaaDoor.M
open Go.RowKit Go.Proofs.YtnhgnejfagncpaaDoorW.PrintWords Go.Proofs.YtnhgnejfagncpaaDoorW.PrintLast Go.Proofs.YtnhgnejfagncpaaDoorW.PrintMore Go.Proofs.YtnhgnejfagncpaaDoor.H Go.Proofs.YtnhgnejfagncpaaDoor.A Go.Proofs.YtnhgnejfagncpaaDoor.B Go.Proofs.YtnhgnejfagncpaaDoor.E Go.Proofs.YtnhgnejfagncpaaDoor.L
attribute [local go_sem] max2_int min2_int max_two min_two max_three min_three max_four min_four
set_option linter.unusedVariables false
set_option linter.unusedSimpArgs false
def textPut (rest : List Int → Int → Int → Option (ByteArray × Int × Int)) (out : List Int) (c deep at_ : Int) : Option (ByteArray × Int × Int) := if out.length < 140737488355328 then rest (out ++ [c]) deep at_ else none
def lex_reader_text.l0 : Nat → List Int → Int → List Int → Int → Option (ByteArray × Int × Int)
  | 0, _, _, _, _ => none
  | k + 1, out, deep, l, at_ => (lex_reader_peek.f l at_ 0).bind fun p => if p.2.1 = true then
      (if p.1 = 92 then (lex_reader_escape.f k l (wrap64 (p.2.2 + 1)) out).bind fun q => if q.2.1 = true then lex_reader_text.l0 k q.1 deep l q.2.2 else some (⟨#[]⟩, 4, q.2.2)
      else if p.1 = 40 then textPut (fun o d a => lex_reader_text.l0 k o d l a) out 40 (wrap64 (deep + 1)) (wrap64 (p.2.2 + 1))
      else if p.1 = 41 then (if wrap64 (deep - 1) = 0 then some (strOfNums out, 0, wrap64 (p.2.2 + 1)) else textPut (fun o d a => lex_reader_text.l0 k o d l a) out 41 (wrap64 (deep - 1)) (wrap64 (p.2.2 + 1)))
      else if p.1 = 13 then (lex_reader_peek.f l (wrap64 (p.2.2 + 1)) 0).bind fun q => if q.2.1 = true then (if q.1 = 10 then textPut (fun o d a => lex_reader_text.l0 k o d l a) out 10 deep (wrap64 (q.2.2 + 1)) else textPut (fun o d a => lex_reader_text.l0 k o d l a) out 10 deep q.2.2) else textPut (fun o d a => lex_reader_text.l0 k o d l a) out 10 deep q.2.2
      else textPut (fun o d a => lex_reader_text.l0 k o d l a) out p.1 deep (wrap64 (p.2.2 + 1)))
    else some (⟨#[]⟩, 4, p.2.2)
def lex_reader_text.f (k : Nat) (l : List Int) (at_ : Int) : Option (ByteArray × Int × Int) := lex_reader_text.l0 k [] 1 l at_
theorem textPut.mono {r1 r2 : List Int → Int → Int → Option (ByteArray × Int × Int)} (h : ∀ o d a, LeO (r1 o d a) (r2 o d a)) (out : List Int) (c d a : Int) : LeO (textPut r1 out c d a) (textPut r2 out c d a) := LeO.ite (h _ _ _) (LeO.refl _)
theorem own_base {w : World} {base : Nat} {v : Value} {xs : List Int} {P : Nat → Prop} {n : Nat} (h : Kd.R (Kd.int .u8) 5 w base P v xs) (hp : ∀ k, P k → n ≤ k) : v.ownBlock = none ∨ ∃ b, v.ownBlock = some b ∧ n ≤ b := by
  cases hv : v.ownBlock with
  | none => exact Or.inl rfl
  | some b => exact Or.inr ⟨b, rfl, hp b (h.1 b hv)⟩
set_option maxHeartbeats 16000000 in
set_option maxRecDepth 100000 in
theorem lex_reader_text.calls (k : Nat) (g : Nat) (s0_0 : List Int) (s0_1 : Int) (r1 : ByteArray) (r2 : Int) (r3 : Int) (w0 w : World) (hI : IsS44 w0 w g s0_0 s0_1) (hB : Below w0.heap.size w0 w) (h : lex_reader_text.f k s0_0 s0_1 = some (r1, r2, r3)) :
    Calls Tryd.prog 50 #[.pointer (some ⟨g, 0, none⟩)] w fun e w' => e = .returned (.tuple #[.string r1, .int .i64 r2]) ∧ IsS44 w0 w' g s0_0 r3 ∧ Below w0.heap.size w0 w' ∧ KeepBut w w' g none := by
  have HI0 := Aside0.mk hI
  have GL := Aside0.mk (IsS44.lt hI)
  have WL := Aside0.mk hB.size
  have HK := Aside0.mk (KeepBut.refl w g none)
  have HB := Aside0.mk hB
  clear hB hI
  unfold lex_reader_text.f at h
  have H' := Aside0.mk h
  clear h
  have far : ∀ k, w.heap.size ≤ k → k ≠ g := fun k hk => by have := GL.out; omega
  have FAR := Aside0.mk far
  clear far
  go_enter Tryd.func50, Tryd.ntmps50
  go_wp2_with fail
  go_step3
  go_wp2_with fail
  go_step3
  go_wp2_with fail
  go_loopg [4, 5] k (fun kq v4 v5 w' => ∃ (out : List Int) (deep at_ : Int), v5 = .int .i64 deep ∧ Aside0 (lex_reader_text.l0 kq out deep s0_0 at_ = some (r1, r2, r3)) ∧ Aside0 (Kd.R (Kd.int .u8) 5 w' w0.heap.size (fun k_ => w.heap.size ≤ k_) v4 out) ∧ Aside0 (IsS44 w0 w' g s0_0 at_) ∧ Aside0 (KeepBut w w' g none) ∧ Aside0 (Below w0.heap.size w0 w'))
  case atStart => exact ⟨[], 1, s0_1, rfl, H', ⟨Kd.R_nil _ _ _ _ _⟩, HI0, HK, HB⟩
  case round =>
    clear H' HI0 HK HB
    obtain ⟨out, deep, at_, rfl, HA, HO, HI0, HK, HB⟩ := hrel
    cases gk with
    | zero => exact absurd HA.out (by simp [lex_reader_text.l0])
    | succ k1 =>
      have H := HA.out
      clear HA
      rw [lex_reader_text.l0] at H
      replace H := Option.bind_eq_some_iff.mp H
      obtain ⟨⟨c, is, at1⟩, A40, H⟩ := H
      have A4 := Aside0.mk A40
      have HH := Aside0.mk H
      clear A40 H
      go_wp2_with fail
      refine (lex_reader_peek.calls g s0_0 at_ 0 c is at1 w0 _ HI0.out HB.out A4.out).mono ?_
      rintro e w3 ⟨rfl, hi, hb, hk⟩
      replace HO := Aside0.mk (Kd.R_keep HO.out hk FAR.out)
      replace HK := Aside0.mk (KeepBut.trans HK.out hk (Or.inl rfl))
      replace HI0 := Aside0.mk hi
      replace HB := Aside0.mk hb
      clear hi hb hk
      have H := HH.out
      clear HH A4
      cases is with
      | false =>
        rw [if_neg (by decide)] at H
        simp only [Option.some.injEq, Prod.mk.injEq] at H
        obtain ⟨rfl, rfl, rfl⟩ := H
        go_wp2_with fail
        (try rw [Exit.noGoto_ret])
        go_ret2
        exact ⟨rfl, HI0.out, HB.out, HK.out⟩
      | true =>
        rw [if_pos rfl] at H
        (try dsimp only at H)
        obtain ⟨A0, c0, hbk, hge, hC⟩ := id HI0.out
        have q1 : w3.cell? ⟨g, 1, none⟩ = some (.int .i64 at1) := (blk_cell hbk 1).trans rfl
        have q2 : w3.frozen? ⟨g, 1, none⟩ = false := blk_frozen hbk 1
        have HGE := Aside0.mk hge
        clear hC hge hbk
        obtain ⟨at2, hat2⟩ : ∃ x, x = wrap64 (at1 + 1) := ⟨_, rfl⟩
        have HI1 : Aside0 (IsS44 w0 (w3.setCell ⟨g, 1, none⟩ (.int .i64 (wrap64 (at1 + 1)))) g s0_0 (wrap64 (at1 + 1))) := Aside0.mk (IsS44.set_1 HI0.out _)
        have HB1 : Aside0 (Below w0.heap.size w0 (w3.setCell ⟨g, 1, none⟩ (.int .i64 (wrap64 (at1 + 1))))) := Aside0.mk (below_set HB.out HGE.out)
        have HK1 : Aside0 (KeepBut w (w3.setCell ⟨g, 1, none⟩ (.int .i64 (wrap64 (at1 + 1)))) g none) := Aside0.mk (KeepBut.set_ HK.out 1 _)
        have HO1 : Aside0 (Kd.R (Kd.int .u8) 5 (w3.setCell ⟨g, 1, none⟩ (.int .i64 (wrap64 (at1 + 1)))) w0.heap.size (fun k_ => w.heap.size ≤ k_) u4 out) := Aside0.mk (Kd.R_far HO.out FAR.out _)
        clear HI0 HB HK HO hat2 at2
        have HH := Aside0.mk H
        clear H
        have H := HH.out
        clear HH
        by_cases c92 : c = 92
        · subst c92
          rw [if_pos rfl] at H
          replace H := Option.bind_eq_some_iff.mp H
          obtain ⟨⟨o2, ok2, at3⟩, A50, H⟩ := H
          have A5 := Aside0.mk A50
          have HH := Aside0.mk H
          clear A50 H
          go_wp2_with fail
          refine (lex_reader_escape.calls k1 g s0_0 (wrap64 (at1 + 1)) (fun k_ => w.heap.size ≤ k_) u4 out o2 ok2 at3 w0 _ HI1.out HB1.out HO1.out A5.out).mono ?_
          rintro e w5 ⟨v0, rfl, ho, hi, hb, hk⟩
          have HO2 := Aside0.mk (Kd.R_mono ho (fun k hk => hk.elim id (fun h => Nat.le_trans HK1.out.1 h)))
          have HK2 := Aside0.mk (Kept.keepG HK1.out hk (fun k hk => hk.elim Or.inr Or.inl))
          have HI2 := Aside0.mk hi
          have HB2 := Aside0.mk hb
          clear ho hi hb hk
          have H := HH.out
          clear HH
          cases ok2 with
          | true =>
            rw [if_pos rfl] at H
            have H' := Aside0.mk H
            clear H
            go_wp2_with fail
            go_roundg k1
            case measure => omega
            case rel => exact ⟨o2, deep, at3, rfl, H', HO2, HI2, HK2, HB2⟩
          | false =>
            rw [if_neg (by decide)] at H
            simp only [Option.some.injEq, Prod.mk.injEq] at H
            obtain ⟨rfl, rfl, rfl⟩ := H
            go_wp2_with fail
            (try rw [Exit.noGoto_ret])
            go_ret2
            exact ⟨rfl, HI2.out, HB2.out, HK2.out⟩
        rw [if_neg c92] at H
        have n92 : (c == 92) = false := beq_eq_false_iff_ne.mpr c92
        clear c92
        by_cases c40 : c = 40
        · subst c40
          rw [if_pos rfl] at H
          unfold textPut at H
          have hlm : out.length < 140737488355328 := by
            by_cases hlm : out.length < 140737488355328
            · exact hlm
            · rw [if_neg hlm] at H; cases H
          rw [if_pos hlm] at H
          have LM := Aside0.mk hlm
          have H' := Aside0.mk H
          clear H hlm
          go_upto_region 22 with (fail)
          generalize w3.setCell ⟨g, 1, none⟩ (.int .i64 (wrap64 (at1 + 1))) = WG at HI1 HB1 HK1 HO1 ⊢
          go_wp2_with (first | ((with_reducible refine gate_builtin (b := .append) (xs := #[.tmp 65, .tmp 67]) rfl ?_); at_builtin; refine Kd.R_append (Kd.int .u8) (w0 := w0) w0.heap.size rfl (.tmp 65) (.tmp 67) 22 5 (.int .u8 0) 1 rfl Tryd.underlying22 info5 rfl (by decide) (by omega) u4 out (40) [.int .u8 (40)] (fun k_ => w.heap.size ≤ k_) (fun _ => False) rfl rfl ?aP (fun _ hk => hk.elim) ?aF ?aO ?aB ?aS ?aL ?_; (case aP => exact rfl); (case aF => exact (fun k_ hk => Nat.le_trans HK1.out.1 hk)); (case aO => exact HO1.out); (case aB => exact HB1.out); (case aS => exact HB1.out.size); (case aL => have := LM.out; omega); intro v' wz ho hb hg hat; have HIz := Aside0.mk (IsS44.grown HI1.out hg (IsS44.own_ne HI1.out HO1.out (by decide))); have HKz := Aside0.mk (KeepBut.trans HK1.out (KeepBut.of_grown hg g) (own_base HO1.out (fun _ h => h))); have HBz := Aside0.mk hb; have HOz := Aside0.mk ho; clear ho hb hg hat))
          go_roundg k1
          case measure => omega
          case rel => exact ⟨out ++ [40], wrap64 (deep + 1), wrap64 (at1 + 1), rfl, H', HOz, HIz, HKz, HBz⟩
        rw [if_neg c40] at H
        have n40 : (c == 40) = false := beq_eq_false_iff_ne.mpr c40
        clear c40
        by_cases c41 : c = 41
        · subst c41
          rw [if_pos rfl] at H
          by_cases cd : wrap64 (deep - 1) = 0
          · rw [if_pos cd] at H
            have nd : (wrap64 (deep - 1) == 0) = true := beq_iff_eq.mpr cd
            clear cd
            simp only [Option.some.injEq, Prod.mk.injEq] at H
            obtain ⟨rfl, rfl, rfl⟩ := H
            have hcv := own_string (P := Tryd.prog) Tryd.underlying22 Tryd.underlying5 Tryd.underlying9 (Kd.own_of_R HO1.out)
            go_wp2_with fail
            (try rw [Exit.noGoto_ret])
            go_ret2
            exact ⟨rfl, HI1.out, HB1.out, HK1.out⟩
          · rw [if_neg cd] at H
            have nd : (wrap64 (deep - 1) == 0) = false := beq_eq_false_iff_ne.mpr cd
            clear cd
            unfold textPut at H
            have hlm : out.length < 140737488355328 := by
              by_cases hlm : out.length < 140737488355328
              · exact hlm
              · rw [if_neg hlm] at H; cases H
            rw [if_pos hlm] at H
            have LM := Aside0.mk hlm
            have H' := Aside0.mk H
            clear H hlm
            go_upto_region 22 with (fail)
            generalize w3.setCell ⟨g, 1, none⟩ (.int .i64 (wrap64 (at1 + 1))) = WG at HI1 HB1 HK1 HO1 ⊢
            go_wp2_with (first | ((with_reducible refine gate_builtin (b := .append) (xs := #[.tmp 65, .tmp 67]) rfl ?_); at_builtin; refine Kd.R_append (Kd.int .u8) (w0 := w0) w0.heap.size rfl (.tmp 65) (.tmp 67) 22 5 (.int .u8 0) 1 rfl Tryd.underlying22 info5 rfl (by decide) (by omega) u4 out (41) [.int .u8 (41)] (fun k_ => w.heap.size ≤ k_) (fun _ => False) rfl rfl ?aP (fun _ hk => hk.elim) ?aF ?aO ?aB ?aS ?aL ?_; (case aP => exact rfl); (case aF => exact (fun k_ hk => Nat.le_trans HK1.out.1 hk)); (case aO => exact HO1.out); (case aB => exact HB1.out); (case aS => exact HB1.out.size); (case aL => have := LM.out; omega); intro v' wz ho hb hg hat; have HIz := Aside0.mk (IsS44.grown HI1.out hg (IsS44.own_ne HI1.out HO1.out (by decide))); have HKz := Aside0.mk (KeepBut.trans HK1.out (KeepBut.of_grown hg g) (own_base HO1.out (fun _ h => h))); have HBz := Aside0.mk hb; have HOz := Aside0.mk ho; clear ho hb hg hat))
            go_roundg k1
            case measure => omega
            case rel => exact ⟨out ++ [41], wrap64 (deep - 1), wrap64 (at1 + 1), rfl, H', HOz, HIz, HKz, HBz⟩
        rw [if_neg c41] at H
        have n41 : (c == 41) = false := beq_eq_false_iff_ne.mpr c41
        clear c41
        by_cases c13 : c = 13
        · subst c13
          rw [if_pos rfl] at H
          replace H := Option.bind_eq_some_iff.mp H
          obtain ⟨⟨d, is2, at3⟩, A50, H⟩ := H
          have A5 := Aside0.mk A50
          have HH := Aside0.mk H
          clear A50 H
          go_wp2_with fail
          refine (lex_reader_peek.calls g s0_0 (wrap64 (at1 + 1)) 0 d is2 at3 w0 _ HI1.out HB1.out A5.out).mono ?_
          rintro e w5 ⟨rfl, hi, hb, hk⟩
          have HO2 := Aside0.mk (Kd.R_keep HO1.out hk FAR.out)
          have HK2 := Aside0.mk (KeepBut.trans HK1.out hk (Or.inl rfl))
          have HI2 := Aside0.mk hi
          have HB2 := Aside0.mk hb
          clear hi hb hk
          have H := HH.out
          clear HH
          cases is2 with
          | true =>
            rw [if_pos rfl] at H
            (try dsimp only at H)
            by_cases c10 : d = 10
            · subst c10
              rw [if_pos rfl] at H
              obtain ⟨A0, c0, hbk, hge, hC⟩ := id HI2.out
              have q1 : w5.cell? ⟨g, 1, none⟩ = some (.int .i64 at3) := (blk_cell hbk 1).trans rfl
              have q2 : w5.frozen? ⟨g, 1, none⟩ = false := blk_frozen hbk 1
              have HI3 : Aside0 (IsS44 w0 (w5.setCell ⟨g, 1, none⟩ (.int .i64 (wrap64 (at3 + 1)))) g s0_0 (wrap64 (at3 + 1))) := Aside0.mk (IsS44.set_1 HI2.out _)
              have HB3 : Aside0 (Below w0.heap.size w0 (w5.setCell ⟨g, 1, none⟩ (.int .i64 (wrap64 (at3 + 1))))) := Aside0.mk (below_set HB2.out HGE.out)
              have HK3 : Aside0 (KeepBut w (w5.setCell ⟨g, 1, none⟩ (.int .i64 (wrap64 (at3 + 1)))) g none) := Aside0.mk (KeepBut.set_ HK2.out 1 _)
              have HO3 : Aside0 (Kd.R (Kd.int .u8) 5 (w5.setCell ⟨g, 1, none⟩ (.int .i64 (wrap64 (at3 + 1)))) w0.heap.size (fun k_ => w.heap.size ≤ k_) u4 out) := Aside0.mk (Kd.R_far HO2.out FAR.out _)
              clear hC hge hbk
              unfold textPut at H
              have hlm : out.length < 140737488355328 := by
                by_cases hlm : out.length < 140737488355328
                · exact hlm
                · rw [if_neg hlm] at H; cases H
              rw [if_pos hlm] at H
              have LM := Aside0.mk hlm
              have H' := Aside0.mk H
              clear H hlm
              go_upto_region 22 with (fail)
              generalize w5.setCell ⟨g, 1, none⟩ (.int .i64 (wrap64 (at3 + 1))) = WG at HI3 HB3 HK3 HO3 ⊢
              go_wp2_with (first | ((with_reducible refine gate_builtin (b := .append) (xs := #[.tmp 65, .tmp 67]) rfl ?_); at_builtin; refine Kd.R_append (Kd.int .u8) (w0 := w0) w0.heap.size rfl (.tmp 65) (.tmp 67) 22 5 (.int .u8 0) 1 rfl Tryd.underlying22 info5 rfl (by decide) (by omega) u4 out (10) [.int .u8 (10)] (fun k_ => w.heap.size ≤ k_) (fun _ => False) rfl rfl ?aP (fun _ hk => hk.elim) ?aF ?aO ?aB ?aS ?aL ?_; (case aP => exact rfl); (case aF => exact (fun k_ hk => Nat.le_trans HK3.out.1 hk)); (case aO => exact HO3.out); (case aB => exact HB3.out); (case aS => exact HB3.out.size); (case aL => have := LM.out; omega); intro v' wz ho hb hg hat; have HIz := Aside0.mk (IsS44.grown HI3.out hg (IsS44.own_ne HI3.out HO3.out (by decide))); have HKz := Aside0.mk (KeepBut.trans HK3.out (KeepBut.of_grown hg g) (own_base HO3.out (fun _ h => h))); have HBz := Aside0.mk hb; have HOz := Aside0.mk ho; clear ho hb hg hat))
              go_roundg k1
              case measure => omega
              case rel => exact ⟨out ++ [10], deep, wrap64 (at3 + 1), rfl, H', HOz, HIz, HKz, HBz⟩
            · rw [if_neg c10] at H
              have n10 : (d == 10) = false := beq_eq_false_iff_ne.mpr c10
              clear c10
              unfold textPut at H
              have hlm : out.length < 140737488355328 := by
                by_cases hlm : out.length < 140737488355328
                · exact hlm
                · rw [if_neg hlm] at H; cases H
              rw [if_pos hlm] at H
              have LM := Aside0.mk hlm
              have H' := Aside0.mk H
              clear H hlm
              go_wp2_with (first | ((with_reducible refine gate_builtin (b := .append) (xs := #[.tmp 65, .tmp 67]) rfl ?_); at_builtin; refine Kd.R_append (Kd.int .u8) (w0 := w0) w0.heap.size rfl (.tmp 65) (.tmp 67) 22 5 (.int .u8 0) 1 rfl Tryd.underlying22 info5 rfl (by decide) (by omega) u4 out (10) [.int .u8 (10)] (fun k_ => w.heap.size ≤ k_) (fun _ => False) rfl rfl ?aP (fun _ hk => hk.elim) ?aF ?aO ?aB ?aS ?aL ?_; (case aP => exact rfl); (case aF => exact (fun k_ hk => Nat.le_trans HK2.out.1 hk)); (case aO => exact HO2.out); (case aB => exact HB2.out); (case aS => exact HB2.out.size); (case aL => have := LM.out; omega); intro v' wz ho hb hg hat; have HIz := Aside0.mk (IsS44.grown HI2.out hg (IsS44.own_ne HI2.out HO2.out (by decide))); have HKz := Aside0.mk (KeepBut.trans HK2.out (KeepBut.of_grown hg g) (own_base HO2.out (fun _ h => h))); have HBz := Aside0.mk hb; have HOz := Aside0.mk ho; clear ho hb hg hat))
              go_roundg k1
              case measure => omega
              case rel => exact ⟨out ++ [10], deep, at3, rfl, H', HOz, HIz, HKz, HBz⟩
          | false =>
            rw [if_neg (by decide)] at H
            (try dsimp only at H)
            unfold textPut at H
            have hlm : out.length < 140737488355328 := by
              by_cases hlm : out.length < 140737488355328
              · exact hlm
              · rw [if_neg hlm] at H; cases H
            rw [if_pos hlm] at H
            have LM := Aside0.mk hlm
            have H' := Aside0.mk H
            clear H hlm
            go_wp2_with (first | ((with_reducible refine gate_builtin (b := .append) (xs := #[.tmp 65, .tmp 67]) rfl ?_); at_builtin; refine Kd.R_append (Kd.int .u8) (w0 := w0) w0.heap.size rfl (.tmp 65) (.tmp 67) 22 5 (.int .u8 0) 1 rfl Tryd.underlying22 info5 rfl (by decide) (by omega) u4 out (10) [.int .u8 (10)] (fun k_ => w.heap.size ≤ k_) (fun _ => False) rfl rfl ?aP (fun _ hk => hk.elim) ?aF ?aO ?aB ?aS ?aL ?_; (case aP => exact rfl); (case aF => exact (fun k_ hk => Nat.le_trans HK2.out.1 hk)); (case aO => exact HO2.out); (case aB => exact HB2.out); (case aS => exact HB2.out.size); (case aL => have := LM.out; omega); intro v' wz ho hb hg hat; have HIz := Aside0.mk (IsS44.grown HI2.out hg (IsS44.own_ne HI2.out HO2.out (by decide))); have HKz := Aside0.mk (KeepBut.trans HK2.out (KeepBut.of_grown hg g) (own_base HO2.out (fun _ h => h))); have HBz := Aside0.mk hb; have HOz := Aside0.mk ho; clear ho hb hg hat))
            go_roundg k1
            case measure => omega
            case rel => exact ⟨out ++ [10], deep, at3, rfl, H', HOz, HIz, HKz, HBz⟩
        rw [if_neg c13] at H
        have n13 : (c == 13) = false := beq_eq_false_iff_ne.mpr c13
        clear c13
        unfold textPut at H
        have hlm : out.length < 140737488355328 := by
          by_cases hlm : out.length < 140737488355328
          · exact hlm
          · rw [if_neg hlm] at H; cases H
        rw [if_pos hlm] at H
        have LM := Aside0.mk hlm
        have H' := Aside0.mk H
        clear H hlm
        go_upto_region 22 with (fail)
        generalize w3.setCell ⟨g, 1, none⟩ (.int .i64 (wrap64 (at1 + 1))) = WG at HI1 HB1 HK1 HO1 ⊢
        go_wp2_with (first | ((with_reducible refine gate_builtin (b := .append) (xs := #[.tmp 65, .tmp 67]) rfl ?_); at_builtin; refine Kd.R_append (Kd.int .u8) (w0 := w0) w0.heap.size rfl (.tmp 65) (.tmp 67) 22 5 (.int .u8 0) 1 rfl Tryd.underlying22 info5 rfl (by decide) (by omega) u4 out (c) [.int .u8 (c)] (fun k_ => w.heap.size ≤ k_) (fun _ => False) rfl rfl ?aP (fun _ hk => hk.elim) ?aF ?aO ?aB ?aS ?aL ?_; (case aP => exact rfl); (case aF => exact (fun k_ hk => Nat.le_trans HK1.out.1 hk)); (case aO => exact HO1.out); (case aB => exact HB1.out); (case aS => exact HB1.out.size); (case aL => have := LM.out; omega); intro v' wz ho hb hg hat; have HIz := Aside0.mk (IsS44.grown HI1.out hg (IsS44.own_ne HI1.out HO1.out (by decide))); have HKz := Aside0.mk (KeepBut.trans HK1.out (KeepBut.of_grown hg g) (own_base HO1.out (fun _ h => h))); have HBz := Aside0.mk hb; have HOz := Aside0.mk ho; clear ho hb hg hat))
        go_roundg k1
        case measure => omega
        case rel => exact ⟨out ++ [c], deep, wrap64 (at1 + 1), rfl, H', HOz, HIz, HKz, HBz⟩
end Go.Proofs.YtnhgnejfagncpaaDoor.M
end
section
namespace Go.Proofs.YtnhgnejfagncpaaDoor.B
open Go.RowKit Go.Proofs.YtnhgnejfagncpaaDoorW.PrintWords Go.Proofs.YtnhgnejfagncpaaDoorW.PrintLast Go.Proofs.YtnhgnejfagncpaaDoorW.PrintMore Go.Proofs.YtnhgnejfagncpaaDoor.H Go.Proofs.YtnhgnejfagncpaaDoor.A
attribute [local go_sem] max2_int min2_int max_two min_two max_three min_three max_four min_four   -- for this text's walks alone
set_option linter.unusedVariables false
set_option linter.unusedSimpArgs false
def dec_Check.f (a0_0 : Int) (a0_1 : Int) : Option (Int) := if a0_0 < (-999999999999999999) then (some 1) else (if a0_0 > 999999999999999999 then (some 1) else (if a0_1 < 0 then (some 1) else (if a0_1 > 9 then (some 1) else (if a0_1 > 0 then (if (Int.tmod a0_0 10) = 0 then (some 1) else (some 0)) else (some 0)))))
theorem lf_B1_1 {p_ : Prop} (h_ : p_ := by
  go_wp2_with (first | ((with_reducible refine gate_dst (N := 1) rfl ?_); refine box_event ?hg (N := 1) ?hd (cs := #[.int .i64 a0_0, .int .i64 a0_1]) (t := 25) ?hr ?_; (case hd => rfl); (case hg => rfl); (case hr => first | (go_simp; done) | (go_simp; rfl)); intro gb101 hg wq0 hbox hb; have n0_ := Aside0.mk (below_step bel hb); have n1_ := Aside0.mk (hbox); have n2_ := Aside0.mk ((by rw [hg]; exact (below_size bel) : w.heap.size ≤ gb101)); have n3_ := Aside0.mk ((by rw [hg]; exact (below_size bel) : w.heap.size ≤ gb101)); clear HB; have HB := n0_; have BK101 := n1_; have GW101 := n2_; have GE101 := n3_; clear n0_ n1_ n2_ n3_; clear hb hbox hg; have hczq0 : wq0.cell? ⟨gb101, 0, none⟩ = some (.int .i64 a0_0) := (blk_cell BK101.out 0).trans rfl; have hczq1 : wq0.cell? ⟨gb101, 1, none⟩ = some (.int .i64 a0_1) := (blk_cell BK101.out 1).trans rfl; have hfzq0 := blk_frozen BK101.out 0; have hfzq1 := blk_frozen BK101.out 1))
  go_ret
  exact ⟨ee_, bel⟩) : p_ := h_
set_option maxHeartbeats 8000000 in
set_option maxRecDepth 100000 in
theorem dec_Check.calls (a0_0 : Int) (a0_1 : Int) (r : Int) (w : World) (h : dec_Check.f a0_0 a0_1 = some r) :
  Calls Tryd.prog 57 #[.agg #[.int .i64 a0_0, .int .i64 a0_1]] w fun e w' => e = .returned (.int .i64 r) ∧ Below w.heap.size w w' := by
 have hu25 := Tryd.underlying25
 have HB := Aside0.mk (Below.refl w.heap.size w)
 have H : (if a0_0 < (-999999999999999999) then (some 1) else (if a0_0 > 999999999999999999 then (some 1) else (if a0_1 < 0 then (some 1) else (if a0_1 > 9 then (some 1) else (if a0_1 > 0 then (if (Int.tmod a0_0 10) = 0 then (some 1) else (some 0)) else (some 0)))))) = some r := h
 clear h
 by_cases c2 : a0_0 < (-999999999999999999)
 ·rw [if_pos c2] at H
  have c2b0 : decide (a0_0 < (-999999999999999999)) = true := decide_eq_true c2
  clear c2
  obtain rfl := Option.some.inj H
  go_enter Tryd.func57, Tryd.ntmps57
  exact lf_B1_1
 ·rw [if_neg c2] at H
  have c2b0 : decide (a0_0 < (-999999999999999999)) = false := decide_eq_false c2
  clear c2
  by_cases c5 : a0_0 > 999999999999999999
  ·rw [if_pos c5] at H
   have c5b0 : decide (999999999999999999 < a0_0) = true := decide_eq_true c5
   clear c5
   obtain rfl := Option.some.inj H
   go_enter Tryd.func57, Tryd.ntmps57
   exact lf_B1_1
  ·rw [if_neg c5] at H
   have c5b0 : decide (999999999999999999 < a0_0) = false := decide_eq_false c5
   clear c5
   by_cases c8 : a0_1 < 0
   ·rw [if_pos c8] at H
    have c8b0 : decide (a0_1 < 0) = true := decide_eq_true c8
    clear c8
    obtain rfl := Option.some.inj H
    go_enter Tryd.func57, Tryd.ntmps57
    exact lf_B1_1
   ·rw [if_neg c8] at H
    have c8b0 : decide (a0_1 < 0) = false := decide_eq_false c8
    clear c8
    by_cases c11 : a0_1 > 9
    ·rw [if_pos c11] at H
     have c11b0 : decide (9 < a0_1) = true := decide_eq_true c11
     clear c11
     obtain rfl := Option.some.inj H
     go_enter Tryd.func57, Tryd.ntmps57
     exact lf_B1_1
    ·rw [if_neg c11] at H
     have c11b0 : decide (9 < a0_1) = false := decide_eq_false c11
     clear c11
     by_cases c14 : a0_1 > 0
     ·rw [if_pos c14] at H
      have c14b0 : decide (0 < a0_1) = true := decide_eq_true c14
      clear c14
      by_cases c15 : (Int.tmod a0_0 10) = 0
      ·rw [if_pos c15] at H
       have c15b0 : ((Int.tmod a0_0 10) == 0) = true := beq_iff_eq.mpr c15
       have c15b1 : ((Int.tmod a0_0 10) != 0) = false := bne_eq_false_iff_eq.mpr c15
       clear c15
       obtain rfl := Option.some.inj H
       go_enter Tryd.func57, Tryd.ntmps57
       exact lf_B1_1
      ·rw [if_neg c15] at H
       have c15b0 : ((Int.tmod a0_0 10) == 0) = false := beq_eq_false_iff_ne.mpr c15
       have c15b1 : ((Int.tmod a0_0 10) != 0) = true := bne_iff_ne.mpr c15
       obtain rfl := Option.some.inj H
       go_enter Tryd.func57, Tryd.ntmps57
       exact lf_B1_1
     ·rw [if_neg c14] at H
      have c14b0 : decide (0 < a0_1) = false := decide_eq_false c14
      clear c14
      obtain rfl := Option.some.inj H
      go_enter Tryd.func57, Tryd.ntmps57
      exact lf_B1_1
def dec_size.f (a0 : Int) : Option (Int) := some (IntKind.u64.wrap (mx a0 (wrap64 (-a0))))
set_option maxHeartbeats 8000000 in
set_option maxRecDepth 100000 in
theorem dec_size.calls (a0 : Int) (r : Int) (w : World) (h : dec_size.f a0 = some r) :
  Calls Tryd.prog 61 #[.int .i64 a0] w fun e w' => e = .returned (.int .u64 r) ∧ Below w.heap.size w w' := by
 have HB := Aside0.mk (Below.refl w.heap.size w)
 have H : (some (IntKind.u64.wrap (mx a0 (wrap64 (-a0))))) = some r := h
 clear h
 obtain ⟨ji2, hji2⟩ : ∃ j_ : Int, (mx a0 (wrap64 (-a0))) = j_ := ⟨_, rfl⟩
 replace H : (some (IntKind.u64.wrap (ji2))) = some r := by first | (rw [hji2] at H; exact H) | (simp only [hji2] at H ⊢; exact H)
 have hji2_ : (if a0 < (wrap64 (-a0)) then (wrap64 (-a0)) else a0) = ji2 := hji2
 obtain rfl := Option.some.inj H
 go_enter Tryd.func61, Tryd.ntmps61
 go_wp2
 go_ret
 exact ⟨by first | rfl | (simp [errW_none, errW_some] <;> rfl) | (simp only [← hji2]; first | rfl | (simp [errW_none, errW_some] <;> rfl)) | (simp [*, errW_none, errW_some] <;> rfl), bel⟩
def dec_Print.j0 : Nat → ByteArray → Int → Int → Option (ByteArray × Int)
 | 0, _, _, _ => none
 | k + 1, x5, x103000, x103001 => if x103001 > 0 then (if 0 ≤ (wrap64 ((x5.size : Int) - x103001)) then (if (wrap64 ((x5.size : Int) - x103001)) ≤ (x5.size : Int) then (if (x5.extract 0 ((wrap64 ((x5.size : Int) - x103001)) : Int).toNat).size + 1 ≤ 9223372036854775807 then (if ((x5.extract 0 ((wrap64 ((x5.size : Int) - x103001)) : Int).toNat) ++ (⟨#[46]⟩ : ByteArray)).size + (x5.extract ((wrap64 ((x5.size : Int) - x103001)) : Int).toNat x5.size).size ≤ 9223372036854775807 then (if x103000 < 0 then (if 1 + (((x5.extract 0 ((wrap64 ((x5.size : Int) - x103001)) : Int).toNat) ++ (⟨#[46]⟩ : ByteArray)) ++ (x5.extract ((wrap64 ((x5.size : Int) - x103001)) : Int).toNat x5.size)).size ≤ 9223372036854775807 then (some ((⟨#[45]⟩ : ByteArray) ++ (((x5.extract 0 ((wrap64 ((x5.size : Int) - x103001)) : Int).toNat) ++ (⟨#[46]⟩ : ByteArray)) ++ (x5.extract ((wrap64 ((x5.size : Int) - x103001)) : Int).toNat x5.size)), 0)) else (none)) else (some (((x5.extract 0 ((wrap64 ((x5.size : Int) - x103001)) : Int).toNat) ++ (⟨#[46]⟩ : ByteArray)) ++ (x5.extract ((wrap64 ((x5.size : Int) - x103001)) : Int).toNat x5.size), 0))) else (none)) else (none)) else (none)) else (none)) else (if x103000 < 0 then (if 1 + x5.size ≤ 9223372036854775807 then (some ((⟨#[45]⟩ : ByteArray) ++ x5, 0)) else (none)) else (some (x5, 0)))
def dec_Print.f (k : Nat) (a0_0 : Int) (a0_1 : Int) : Option (ByteArray × Int) := (dec_Check.f a0_0 a0_1).bind fun t103 => (if t103 = 0 then ((dec_size.f a0_0).bind fun t104 => ((strconv_FormatUint.f t104 10).bind fun t105 => (if (t105.size : Int) ≤ a0_1 then ((strings_Repeat.f (⟨#[48]⟩ : ByteArray) (wrap64 ((wrap64 (a0_1 - (t105.size : Int))) + 1))).bind fun t106 => (if t106.size + t105.size ≤ 9223372036854775807 then (dec_Print.j0 k (t106 ++ t105) a0_0 a0_1) else (none))) else (dec_Print.j0 k t105 a0_0 a0_1)))) else (some ((⟨#[]⟩ : ByteArray), t103)))
theorem lf_B1_2 {p_ : Prop} (h_ : p_ := by
  go_wp2
  repeat (go_quiet (fail); try go_wp2)
  go_ret2
  first
    | (exact ⟨by first | rfl | (simp [errW_none, errW_some] <;> rfl) | (simp only [← hji20]; first | rfl | (simp [errW_none, errW_some] <;> rfl)) | (simp [*, errW_none, errW_some] <;> rfl), bel⟩)
    | (exact ⟨ee_, bel⟩)) : p_ := h_
set_option maxHeartbeats 8000000 in
set_option maxRecDepth 100000 in
theorem dec_Print.calls (k : Nat) (a0_0 : Int) (a0_1 : Int) (r1 : ByteArray) (r2 : Int) (w : World) (hT : Tab w) (h : dec_Print.f k a0_0 a0_1 = some (r1, r2)) :
  Calls Tryd.prog 28 #[.agg #[.int .i64 a0_0, .int .i64 a0_1]] w fun e w' => e = .returned (.tuple #[.string r1, .int .i64 r2]) ∧ Below w.heap.size w w' := by
 have hu25 := Tryd.underlying25
 have HB := Aside0.mk (Below.refl w.heap.size w)
 have HT := Aside0.mk hT
 clear hT
 have H : ((dec_Check.f a0_0 a0_1).bind fun t103 => (if t103 = 0 then ((dec_size.f a0_0).bind fun t104 => ((strconv_FormatUint.f t104 10).bind fun t105 => (if (t105.size : Int) ≤ a0_1 then ((strings_Repeat.f (⟨#[48]⟩ : ByteArray) (wrap64 ((wrap64 (a0_1 - (t105.size : Int))) + 1))).bind fun t106 => (if t106.size + t105.size ≤ 9223372036854775807 then (dec_Print.j0 k (t106 ++ t105) a0_0 a0_1) else (none))) else (dec_Print.j0 k t105 a0_0 a0_1)))) else (some ((⟨#[]⟩ : ByteArray), t103)))) = some (r1, r2) := h
 clear h
 replace H := Option.bind_eq_some_iff.mp H
 obtain ⟨t103, A20, H⟩ := H
 replace H : (if t103 = 0 then ((dec_size.f a0_0).bind fun t104 => ((strconv_FormatUint.f t104 10).bind fun t105 => (if (t105.size : Int) ≤ a0_1 then ((strings_Repeat.f (⟨#[48]⟩ : ByteArray) (wrap64 ((wrap64 (a0_1 - (t105.size : Int))) + 1))).bind fun t106 => (if t106.size + t105.size ≤ 9223372036854775807 then (dec_Print.j0 k (t106 ++ t105) a0_0 a0_1) else (none))) else (dec_Print.j0 k t105 a0_0 a0_1)))) else (some ((⟨#[]⟩ : ByteArray), t103))) = some (r1, r2) := H
 have A2 := Aside0.mk A20
 clear A20
 by_cases c3 : t103 = 0
 ·rw [if_pos c3] at H
  have c3b0 : (t103 == 0) = true := beq_iff_eq.mpr c3
  have c3b1 : (t103 != 0) = false := bne_eq_false_iff_eq.mpr c3
  clear c3
  replace H := Option.bind_eq_some_iff.mp H
  obtain ⟨t104, A40, H⟩ := H
  replace H : ((strconv_FormatUint.f t104 10).bind fun t105 => (if (t105.size : Int) ≤ a0_1 then ((strings_Repeat.f (⟨#[48]⟩ : ByteArray) (wrap64 ((wrap64 (a0_1 - (t105.size : Int))) + 1))).bind fun t106 => (if t106.size + t105.size ≤ 9223372036854775807 then (dec_Print.j0 k (t106 ++ t105) a0_0 a0_1) else (none))) else (dec_Print.j0 k t105 a0_0 a0_1))) = some (r1, r2) := H
  have A4 := Aside0.mk A40
  clear A40
  replace H := Option.bind_eq_some_iff.mp H
  obtain ⟨t105, A50, H⟩ := H
  replace H : (if (t105.size : Int) ≤ a0_1 then ((strings_Repeat.f (⟨#[48]⟩ : ByteArray) (wrap64 ((wrap64 (a0_1 - (t105.size : Int))) + 1))).bind fun t106 => (if t106.size + t105.size ≤ 9223372036854775807 then (dec_Print.j0 k (t106 ++ t105) a0_0 a0_1) else (none))) else (dec_Print.j0 k t105 a0_0 a0_1)) = some (r1, r2) := H
  have A5 := Aside0.mk A50
  clear A50
  have HC6 := Aside0.mk H
  clear H
  go_enter Tryd.func28, Tryd.ntmps28
  go_upto_if 19 with (first | ((with_reducible refine gate_dst (N := 1) rfl ?_); refine box_event ?hg (N := 1) ?hd (cs := #[.int .i64 a0_0, .int .i64 a0_1]) (t := 25) ?hr ?_; (case hd => rfl); (case hg => rfl); (case hr => first | (go_simp; done) | (go_simp; rfl)); intro gb102 hg w7 hbox hb; have n0_ := Aside0.mk (below_step bel hb); have n1_ := Aside0.mk (hbox); have n2_ := Aside0.mk ((by rw [hg]; exact (below_size bel) : w.heap.size ≤ gb102)); have n3_ := Aside0.mk ((by rw [hg]; exact (below_size bel) : w.heap.size ≤ gb102)); clear HB; have HB := n0_; have BK102 := n1_; have GW102 := n2_; have GE102 := n3_; clear n0_ n1_ n2_ n3_; clear hb hbox hg; have hcz8_0 : w7.cell? ⟨gb102, 0, none⟩ = some (.int .i64 a0_0) := (blk_cell BK102.out 0).trans rfl; have hcz8_1 : w7.cell? ⟨gb102, 1, none⟩ = some (.int .i64 a0_1) := (blk_cell BK102.out 1).trans rfl; have hfz8_0 := blk_frozen BK102.out 0; have hfz8_1 := blk_frozen BK102.out 1) | (go_at_call 57; (with_reducible refine (dec_Check.calls a0_0 a0_1 t103 _ A2.out).mono ?_); rintro e w9 ⟨rfl, hb⟩; have n0_ := Aside0.mk (blk_below (bkk BK102.out) hb); have n1_ := Aside0.mk (below_step bel hb); clear BK102; clear HB; have BK102 := n0_; have HB := n1_; clear n0_ n1_; (try clear hb); (try clear hb2); (try clear hk); (try clear hi); have hcz10_0 : w9.cell? ⟨gb102, 0, none⟩ = some (.int .i64 a0_0) := (blk_cell BK102.out 0).trans rfl; have hcz10_1 : w9.cell? ⟨gb102, 1, none⟩ = some (.int .i64 a0_1) := (blk_cell BK102.out 1).trans rfl; have hfz10_0 := blk_frozen BK102.out 0; have hfz10_1 := blk_frozen BK102.out 1) | (go_at_call 61; (with_reducible refine (dec_size.calls a0_0 t104 _ A4.out).mono ?_); rintro e w11 ⟨rfl, hb⟩; have n0_ := Aside0.mk (blk_below (bkk BK102.out) hb); have n1_ := Aside0.mk (below_step bel hb); clear BK102; clear HB; have BK102 := n0_; have HB := n1_; clear n0_ n1_; (try clear hb); (try clear hb2); (try clear hk); (try clear hi)) | (go_at_call 60; (with_reducible refine (strconv_FormatUint.calls t104 10 t105 _ (Tab.below HT.out bel) A5.out).mono ?_); rintro e w12 ⟨rfl, hb⟩; have n0_ := Aside0.mk (blk_below (bkk BK102.out) hb); have n1_ := Aside0.mk (below_step bel hb); clear BK102; clear HB; have BK102 := n0_; have HB := n1_; clear n0_ n1_; (try clear hb); (try clear hb2); (try clear hk); (try clear hi); have hcz13_0 : w12.cell? ⟨gb102, 0, none⟩ = some (.int .i64 a0_0) := (blk_cell BK102.out 0).trans rfl; have hcz13_1 : w12.cell? ⟨gb102, 1, none⟩ = some (.int .i64 a0_1) := (blk_cell BK102.out 1).trans rfl; have hfz13_0 := blk_frozen BK102.out 0; have hfz13_1 := blk_frozen BK102.out 1))
  repeat (go_quiet (first | ((with_reducible refine gate_dst (N := 1) rfl ?_); refine box_event ?hg (N := 1) ?hd (cs := #[.int .i64 a0_0, .int .i64 a0_1]) (t := 25) ?hr ?_; (case hd => rfl); (case hg => rfl); (case hr => first | (go_simp; done) | (go_simp; rfl)); intro gb102 hg w7 hbox hb; have n0_ := Aside0.mk (below_step bel hb); have n1_ := Aside0.mk (hbox); have n2_ := Aside0.mk ((by rw [hg]; exact (below_size bel) : w.heap.size ≤ gb102)); have n3_ := Aside0.mk ((by rw [hg]; exact (below_size bel) : w.heap.size ≤ gb102)); clear HB; have HB := n0_; have BK102 := n1_; have GW102 := n2_; have GE102 := n3_; clear n0_ n1_ n2_ n3_; clear hb hbox hg; have hcz8_0 : w7.cell? ⟨gb102, 0, none⟩ = some (.int .i64 a0_0) := (blk_cell BK102.out 0).trans rfl; have hcz8_1 : w7.cell? ⟨gb102, 1, none⟩ = some (.int .i64 a0_1) := (blk_cell BK102.out 1).trans rfl; have hfz8_0 := blk_frozen BK102.out 0; have hfz8_1 := blk_frozen BK102.out 1) | (go_at_call 57; (with_reducible refine (dec_Check.calls a0_0 a0_1 t103 _ A2.out).mono ?_); rintro e w9 ⟨rfl, hb⟩; have n0_ := Aside0.mk (blk_below (bkk BK102.out) hb); have n1_ := Aside0.mk (below_step bel hb); clear BK102; clear HB; have BK102 := n0_; have HB := n1_; clear n0_ n1_; (try clear hb); (try clear hb2); (try clear hk); (try clear hi); have hcz10_0 : w9.cell? ⟨gb102, 0, none⟩ = some (.int .i64 a0_0) := (blk_cell BK102.out 0).trans rfl; have hcz10_1 : w9.cell? ⟨gb102, 1, none⟩ = some (.int .i64 a0_1) := (blk_cell BK102.out 1).trans rfl; have hfz10_0 := blk_frozen BK102.out 0; have hfz10_1 := blk_frozen BK102.out 1) | (go_at_call 61; (with_reducible refine (dec_size.calls a0_0 t104 _ A4.out).mono ?_); rintro e w11 ⟨rfl, hb⟩; have n0_ := Aside0.mk (blk_below (bkk BK102.out) hb); have n1_ := Aside0.mk (below_step bel hb); clear BK102; clear HB; have BK102 := n0_; have HB := n1_; clear n0_ n1_; (try clear hb); (try clear hb2); (try clear hk); (try clear hi)) | (go_at_call 60; (with_reducible refine (strconv_FormatUint.calls t104 10 t105 _ (Tab.below HT.out bel) A5.out).mono ?_); rintro e w12 ⟨rfl, hb⟩; have n0_ := Aside0.mk (blk_below (bkk BK102.out) hb); have n1_ := Aside0.mk (below_step bel hb); clear BK102; clear HB; have BK102 := n0_; have HB := n1_; clear n0_ n1_; (try clear hb); (try clear hb2); (try clear hk); (try clear hi); have hcz13_0 : w12.cell? ⟨gb102, 0, none⟩ = some (.int .i64 a0_0) := (blk_cell BK102.out 0).trans rfl; have hcz13_1 : w12.cell? ⟨gb102, 1, none⟩ = some (.int .i64 a0_1) := (blk_cell BK102.out 1).trans rfl; have hfz13_0 := blk_frozen BK102.out 0; have hfz13_1 := blk_frozen BK102.out 1)); go_upto_if 19 with (first | ((with_reducible refine gate_dst (N := 1) rfl ?_); refine box_event ?hg (N := 1) ?hd (cs := #[.int .i64 a0_0, .int .i64 a0_1]) (t := 25) ?hr ?_; (case hd => rfl); (case hg => rfl); (case hr => first | (go_simp; done) | (go_simp; rfl)); intro gb102 hg w7 hbox hb; have n0_ := Aside0.mk (below_step bel hb); have n1_ := Aside0.mk (hbox); have n2_ := Aside0.mk ((by rw [hg]; exact (below_size bel) : w.heap.size ≤ gb102)); have n3_ := Aside0.mk ((by rw [hg]; exact (below_size bel) : w.heap.size ≤ gb102)); clear HB; have HB := n0_; have BK102 := n1_; have GW102 := n2_; have GE102 := n3_; clear n0_ n1_ n2_ n3_; clear hb hbox hg; have hcz8_0 : w7.cell? ⟨gb102, 0, none⟩ = some (.int .i64 a0_0) := (blk_cell BK102.out 0).trans rfl; have hcz8_1 : w7.cell? ⟨gb102, 1, none⟩ = some (.int .i64 a0_1) := (blk_cell BK102.out 1).trans rfl; have hfz8_0 := blk_frozen BK102.out 0; have hfz8_1 := blk_frozen BK102.out 1) | (go_at_call 57; (with_reducible refine (dec_Check.calls a0_0 a0_1 t103 _ A2.out).mono ?_); rintro e w9 ⟨rfl, hb⟩; have n0_ := Aside0.mk (blk_below (bkk BK102.out) hb); have n1_ := Aside0.mk (below_step bel hb); clear BK102; clear HB; have BK102 := n0_; have HB := n1_; clear n0_ n1_; (try clear hb); (try clear hb2); (try clear hk); (try clear hi); have hcz10_0 : w9.cell? ⟨gb102, 0, none⟩ = some (.int .i64 a0_0) := (blk_cell BK102.out 0).trans rfl; have hcz10_1 : w9.cell? ⟨gb102, 1, none⟩ = some (.int .i64 a0_1) := (blk_cell BK102.out 1).trans rfl; have hfz10_0 := blk_frozen BK102.out 0; have hfz10_1 := blk_frozen BK102.out 1) | (go_at_call 61; (with_reducible refine (dec_size.calls a0_0 t104 _ A4.out).mono ?_); rintro e w11 ⟨rfl, hb⟩; have n0_ := Aside0.mk (blk_below (bkk BK102.out) hb); have n1_ := Aside0.mk (below_step bel hb); clear BK102; clear HB; have BK102 := n0_; have HB := n1_; clear n0_ n1_; (try clear hb); (try clear hb2); (try clear hk); (try clear hi)) | (go_at_call 60; (with_reducible refine (strconv_FormatUint.calls t104 10 t105 _ (Tab.below HT.out bel) A5.out).mono ?_); rintro e w12 ⟨rfl, hb⟩; have n0_ := Aside0.mk (blk_below (bkk BK102.out) hb); have n1_ := Aside0.mk (below_step bel hb); clear BK102; clear HB; have BK102 := n0_; have HB := n1_; clear n0_ n1_; (try clear hb); (try clear hb2); (try clear hk); (try clear hi); have hcz13_0 : w12.cell? ⟨gb102, 0, none⟩ = some (.int .i64 a0_0) := (blk_cell BK102.out 0).trans rfl; have hcz13_1 : w12.cell? ⟨gb102, 1, none⟩ = some (.int .i64 a0_1) := (blk_cell BK102.out 1).trans rfl; have hfz13_0 := blk_frozen BK102.out 0; have hfz13_1 := blk_frozen BK102.out 1)))
  (try simp only [Act.put, List.setIfInBounds_toArray, List.set_cons_zero, List.set_cons_succ])
  go_cut [5] (fun v5 wc => ∃ (kq : Nat) (x5_5 : ByteArray), v5 = .string x5_5 ∧ Aside0 (dec_Print.j0 kq x5_5 a0_0 a0_1 = some (r1, r2)) ∧ Aside0 (kq ≤ k) ∧ Aside0 (wc.heap[gb102]? = some (.cells #[.int .i64 a0_0, .int .i64 a0_1] 25 (0, 0))) ∧ Aside0 (Below w.heap.size w wc))
  case first =>
   have H := HC6.out
   clear HC6
   by_cases c14 : (t105.size : Int) ≤ a0_1
   ·rw [if_pos c14] at H
    have c14b0 : decide ((t105.size : Int) ≤ a0_1) = true := decide_eq_true c14
    clear c14
    (first | rw [c14b0] | (simp only [i64_w, i32_w]; rw [c14b0]) | skip)
    replace H := Option.bind_eq_some_iff.mp H
    obtain ⟨t106, A150, H⟩ := H
    replace H : (if t106.size + t105.size ≤ 9223372036854775807 then (dec_Print.j0 k (t106 ++ t105) a0_0 a0_1) else (none)) = some (r1, r2) := H
    have A15 := Aside0.mk A150
    clear A150
    by_cases c16 : t106.size + t105.size ≤ 9223372036854775807
    ·rw [if_pos c16] at H
     have c16b0 := eq_true c16
     have c16b1 : decide (t106.size + t105.size ≤ 9223372036854775807) = true := decide_eq_true c16
     try have c16b2 : (9223372036854775807 < t106.size + t105.size) = False := eq_false (Nat.not_lt.2 c16)
     try (have c16b3 := of_eq_false c16b2; simp only [ByteArray.size_append, ByteArray.size_extract, hmn, Nat.sub_zero, Nat.min_self, show (⟨#[46]⟩ : ByteArray).size = 1 from rfl, show (⟨#[45]⟩ : ByteArray).size = 1 from rfl] at c16b3; have c16b4 := eq_false c16b3; clear c16b3)
     have H' := Aside0.mk H
     clear H
     have hcz17_0 : w12.cell? ⟨gb102, 0, none⟩ = some (.int .i64 a0_0) := (blk_cell BK102.out 0).trans rfl
     have hcz17_1 : w12.cell? ⟨gb102, 1, none⟩ = some (.int .i64 a0_1) := (blk_cell BK102.out 1).trans rfl
     have hfz17_0 := blk_frozen BK102.out 0
     have hfz17_1 := blk_frozen BK102.out 1
     go_wp2_with (first | (go_at_call 62; (with_reducible refine (strings_Repeat.calls (⟨#[48]⟩ : ByteArray) (wrap64 ((wrap64 (a0_1 - (t105.size : Int))) + 1)) t106 _ A15.out).mono ?_); rintro e w18 ⟨rfl, hb⟩; have n0_ := Aside0.mk (blk_below (bkk BK102.out) hb); have n1_ := Aside0.mk (below_step bel hb); clear BK102; clear HB; have BK102 := n0_; have HB := n1_; clear n0_ n1_; (try clear hb); (try clear hb2); (try clear hk); (try clear hi)))
     repeat (go_quiet (first | (go_at_call 62; (with_reducible refine (strings_Repeat.calls (⟨#[48]⟩ : ByteArray) (wrap64 ((wrap64 (a0_1 - (t105.size : Int))) + 1)) t106 _ A15.out).mono ?_); rintro e w18 ⟨rfl, hb⟩; have n0_ := Aside0.mk (blk_below (bkk BK102.out) hb); have n1_ := Aside0.mk (below_step bel hb); clear BK102; clear HB; have BK102 := n0_; have HB := n1_; clear n0_ n1_; (try clear hb); (try clear hb2); (try clear hk); (try clear hi))); try go_wp2_with (first | (go_at_call 62; (with_reducible refine (strings_Repeat.calls (⟨#[48]⟩ : ByteArray) (wrap64 ((wrap64 (a0_1 - (t105.size : Int))) + 1)) t106 _ A15.out).mono ?_); rintro e w18 ⟨rfl, hb⟩; have n0_ := Aside0.mk (blk_below (bkk BK102.out) hb); have n1_ := Aside0.mk (below_step bel hb); clear BK102; clear HB; have BK102 := n0_; have HB := n1_; clear n0_ n1_; (try clear hb); (try clear hb2); (try clear hk); (try clear hi))))
     go_meet
     case rel => exact ⟨_, (t106 ++ t105), ea_, H', ⟨by first | omega | exact Nat.le_refl _⟩, ⟨bkk BK102.out⟩, ⟨bel⟩⟩
    ·rw [if_neg c16] at H
     exact absurd H (by simp)
   ·rw [if_neg c14] at H
    have c14b0 : decide ((t105.size : Int) ≤ a0_1) = false := decide_eq_false c14
    clear c14
    (first | rw [c14b0] | (simp only [i64_w, i32_w]; rw [c14b0]) | skip)
    have H' := Aside0.mk H
    clear H
    go_wp2
    repeat (go_quiet (fail); try go_wp2)
    go_meet
    case rel => exact ⟨_, (t105), ea_, H', ⟨by first | omega | exact Nat.le_refl _⟩, ⟨bkk BK102.out⟩, ⟨bel⟩⟩
  case rest =>
   clear HC6
   try clear c1
   try clear c2
   try clear p2
   try clear c3
   try clear c3b0
   try clear c3b1
   try clear p6
   try clear c14
   try clear c14b0
   try clear c16
   try clear c16b0
   try clear c16b1
   try clear c16b2
   try clear hcz10_0
   try clear hcz10_1
   try clear hcz13_0
   try clear hcz13_1
   try clear hcz17_0
   try clear hcz17_1
   try clear hcz8_0
   try clear hcz8_1
   try clear hfz10_0
   try clear hfz10_1
   try clear hfz13_0
   try clear hfz13_1
   try clear hfz17_0
   try clear hfz17_1
   try clear hfz8_0
   try clear hfz8_1
   obtain ⟨kq, x5_5, rfl, HA, HJ5, BK102, HB⟩ := hcut
   cases kq with
   | zero => exact absurd HA.out (by simp [dec_Print.j0])
   | succ kj5 =>
    have H := HA.out
    clear HA
    simp only [dec_Print.j0] at H
    by_cases c19 : a0_1 > 0
    ·rw [if_pos c19] at H
     have c19b0 : decide (0 < a0_1) = true := decide_eq_true c19
     clear c19
     obtain ⟨ji20, hji20⟩ : ∃ j_ : Int, (wrap64 ((x5_5.size : Int) - a0_1)) = j_ := ⟨_, rfl⟩
     replace H : (if 0 ≤ (ji20) then (if (ji20) ≤ (x5_5.size : Int) then (if (x5_5.extract 0 ((ji20) : Int).toNat).size + 1 ≤ 9223372036854775807 then (if ((x5_5.extract 0 ((ji20) : Int).toNat) ++ (⟨#[46]⟩ : ByteArray)).size + (x5_5.extract ((ji20) : Int).toNat x5_5.size).size ≤ 9223372036854775807 then (if a0_0 < 0 then (if 1 + (((x5_5.extract 0 ((ji20) : Int).toNat) ++ (⟨#[46]⟩ : ByteArray)) ++ (x5_5.extract ((ji20) : Int).toNat x5_5.size)).size ≤ 9223372036854775807 then (some ((⟨#[45]⟩ : ByteArray) ++ (((x5_5.extract 0 ((ji20) : Int).toNat) ++ (⟨#[46]⟩ : ByteArray)) ++ (x5_5.extract ((ji20) : Int).toNat x5_5.size)), 0)) else (none)) else (some (((x5_5.extract 0 ((ji20) : Int).toNat) ++ (⟨#[46]⟩ : ByteArray)) ++ (x5_5.extract ((ji20) : Int).toNat x5_5.size), 0))) else (none)) else (none)) else (none)) else (none)) = some (r1, r2) := by first | (rw [hji20] at H; exact H) | (simp only [hji20] at H ⊢; exact H)
     have hji20w : (IntKind.i64.wrap ((x5_5.size : Int) - a0_1)) = ji20 := (i64_w _).trans hji20
     by_cases c21 : 0 ≤ (ji20)
     ·rw [if_pos c21] at H
      have c21b0 := eq_true c21
      have c21b1 : decide (0 ≤ (ji20)) = true := decide_eq_true c21
      clear c21
      by_cases c22 : (ji20) ≤ (x5_5.size : Int)
      ·rw [if_pos c22] at H
       have c22b0 := eq_true c22
       have c22b1 : decide ((ji20) ≤ (x5_5.size : Int)) = true := decide_eq_true c22
       have hmn : min ji20.toNat x5_5.size = ji20.toNat := Nat.min_eq_left (by have := c22; omega)
       clear c22
       by_cases c23 : (x5_5.extract 0 ((ji20) : Int).toNat).size + 1 ≤ 9223372036854775807
       ·rw [if_pos c23] at H
        have c23b0 := eq_true c23
        have c23b1 : decide ((x5_5.extract 0 ((ji20) : Int).toNat).size + 1 ≤ 9223372036854775807) = true := decide_eq_true c23
        try have c23b2 : (9223372036854775807 < (x5_5.extract 0 ((ji20) : Int).toNat).size + 1) = False := eq_false (Nat.not_lt.2 c23)
        try (have c23b3 := of_eq_false c23b2; simp only [ByteArray.size_append, ByteArray.size_extract, hmn, Nat.sub_zero, Nat.min_self, show (⟨#[46]⟩ : ByteArray).size = 1 from rfl, show (⟨#[45]⟩ : ByteArray).size = 1 from rfl] at c23b3; have c23b4 := eq_false c23b3; clear c23b3)
        have c24b0 := eq_true (of_decide_eq_true (by first | (with_reducible assumption) | assumption) : 0 ≤ (ji20))
        have c25b0 := eq_true (of_decide_eq_true (by first | (with_reducible assumption) | assumption) : (ji20) ≤ (x5_5.size : Int))
        by_cases c26 : ((x5_5.extract 0 ((ji20) : Int).toNat) ++ (⟨#[46]⟩ : ByteArray)).size + (x5_5.extract ((ji20) : Int).toNat x5_5.size).size ≤ 9223372036854775807
        ·rw [if_pos c26] at H
         have c26b0 := eq_true c26
         have c26b1 : decide (((x5_5.extract 0 ((ji20) : Int).toNat) ++ (⟨#[46]⟩ : ByteArray)).size + (x5_5.extract ((ji20) : Int).toNat x5_5.size).size ≤ 9223372036854775807) = true := decide_eq_true c26
         try have c26b2 : (9223372036854775807 < ((x5_5.extract 0 ((ji20) : Int).toNat) ++ (⟨#[46]⟩ : ByteArray)).size + (x5_5.extract ((ji20) : Int).toNat x5_5.size).size) = False := eq_false (Nat.not_lt.2 c26)
         try (have c26b3 := of_eq_false c26b2; simp only [ByteArray.size_append, ByteArray.size_extract, hmn, Nat.sub_zero, Nat.min_self, show (⟨#[46]⟩ : ByteArray).size = 1 from rfl, show (⟨#[45]⟩ : ByteArray).size = 1 from rfl] at c26b3; have c26b4 := eq_false c26b3; clear c26b3)
         by_cases c27 : a0_0 < 0
         ·rw [if_pos c27] at H
          have c27b0 : decide (a0_0 < 0) = true := decide_eq_true c27
          clear c27
          by_cases c28 : 1 + (((x5_5.extract 0 ((ji20) : Int).toNat) ++ (⟨#[46]⟩ : ByteArray)) ++ (x5_5.extract ((ji20) : Int).toNat x5_5.size)).size ≤ 9223372036854775807
          ·rw [if_pos c28] at H
           have cq0 := eq_true c28
           have cq1 : decide (1 + (((x5_5.extract 0 ((ji20) : Int).toNat) ++ (⟨#[46]⟩ : ByteArray)) ++ (x5_5.extract ((ji20) : Int).toNat x5_5.size)).size ≤ 9223372036854775807) = true := decide_eq_true c28
           try have cq2 : (9223372036854775807 < 1 + (((x5_5.extract 0 ((ji20) : Int).toNat) ++ (⟨#[46]⟩ : ByteArray)) ++ (x5_5.extract ((ji20) : Int).toNat x5_5.size)).size) = False := eq_false (Nat.not_lt.2 c28)
           try (have cq3 := of_eq_false cq2; simp only [ByteArray.size_append, ByteArray.size_extract, hmn, Nat.sub_zero, Nat.min_self, show (⟨#[46]⟩ : ByteArray).size = 1 from rfl, show (⟨#[45]⟩ : ByteArray).size = 1 from rfl] at cq3; have cq4 := eq_false cq3; clear cq3)
           simp only [Option.some.injEq, Prod.mk.injEq] at H
           obtain ⟨rfl, rfl⟩ := H
           have hczq0 : wc.cell? ⟨gb102, 0, none⟩ = some (.int .i64 a0_0) := (blk_cell BK102.out 0).trans rfl
           have hczq1 : wc.cell? ⟨gb102, 1, none⟩ = some (.int .i64 a0_1) := (blk_cell BK102.out 1).trans rfl
           have hfzq0 := blk_frozen BK102.out 0
           have hfzq1 := blk_frozen BK102.out 1
           exact lf_B1_2
          ·rw [if_neg c28] at H
           exact absurd H (by simp)
         ·rw [if_neg c27] at H
          have c27b0 : decide (a0_0 < 0) = false := decide_eq_false c27
          clear c27
          simp only [Option.some.injEq, Prod.mk.injEq] at H
          obtain ⟨rfl, rfl⟩ := H
          have hczq0 : wc.cell? ⟨gb102, 0, none⟩ = some (.int .i64 a0_0) := (blk_cell BK102.out 0).trans rfl
          have hczq1 : wc.cell? ⟨gb102, 1, none⟩ = some (.int .i64 a0_1) := (blk_cell BK102.out 1).trans rfl
          have hfzq0 := blk_frozen BK102.out 0
          have hfzq1 := blk_frozen BK102.out 1
          exact lf_B1_2
        ·rw [if_neg c26] at H
         exact absurd H (by simp)
       ·rw [if_neg c23] at H
        exact absurd H (by simp)
      ·rw [if_neg c22] at H
       exact absurd H (by simp)
     ·rw [if_neg c21] at H
      exact absurd H (by simp)
    ·rw [if_neg c19] at H
     have c19b0 : decide (0 < a0_1) = false := decide_eq_false c19
     clear c19
     by_cases c31 : a0_0 < 0
     ·rw [if_pos c31] at H
      have c31b0 : decide (a0_0 < 0) = true := decide_eq_true c31
      clear c31
      by_cases c32 : 1 + x5_5.size ≤ 9223372036854775807
      ·rw [if_pos c32] at H
       have cq0 := eq_true c32
       have cq1 : decide (1 + x5_5.size ≤ 9223372036854775807) = true := decide_eq_true c32
       try have cq2 : (9223372036854775807 < 1 + x5_5.size) = False := eq_false (Nat.not_lt.2 c32)
       try (have cq3 := of_eq_false cq2; simp only [ByteArray.size_append, ByteArray.size_extract, hmn, Nat.sub_zero, Nat.min_self, show (⟨#[46]⟩ : ByteArray).size = 1 from rfl, show (⟨#[45]⟩ : ByteArray).size = 1 from rfl] at cq3; have cq4 := eq_false cq3; clear cq3)
       simp only [Option.some.injEq, Prod.mk.injEq] at H
       obtain ⟨rfl, rfl⟩ := H
       have hczq0 : wc.cell? ⟨gb102, 0, none⟩ = some (.int .i64 a0_0) := (blk_cell BK102.out 0).trans rfl
       have hczq1 : wc.cell? ⟨gb102, 1, none⟩ = some (.int .i64 a0_1) := (blk_cell BK102.out 1).trans rfl
       have hfzq0 := blk_frozen BK102.out 0
       have hfzq1 := blk_frozen BK102.out 1
       exact lf_B1_2
      ·rw [if_neg c32] at H
       exact absurd H (by simp)
     ·rw [if_neg c31] at H
      have c31b0 : decide (a0_0 < 0) = false := decide_eq_false c31
      clear c31
      simp only [Option.some.injEq, Prod.mk.injEq] at H
      obtain ⟨rfl, rfl⟩ := H
      have hczq0 : wc.cell? ⟨gb102, 0, none⟩ = some (.int .i64 a0_0) := (blk_cell BK102.out 0).trans rfl
      have hczq1 : wc.cell? ⟨gb102, 1, none⟩ = some (.int .i64 a0_1) := (blk_cell BK102.out 1).trans rfl
      have hfzq0 := blk_frozen BK102.out 0
      have hfzq1 := blk_frozen BK102.out 1
      exact lf_B1_2
 ·rw [if_neg c3] at H
  have c3b0 : (t103 == 0) = false := beq_eq_false_iff_ne.mpr c3
  have c3b1 : (t103 != 0) = true := bne_iff_ne.mpr c3
  simp only [Option.some.injEq, Prod.mk.injEq] at H
  obtain ⟨rfl, rfl⟩ := H
  go_enter Tryd.func28, Tryd.ntmps28
  go_wp2_with (first | ((with_reducible refine gate_dst (N := 1) rfl ?_); refine box_event ?hg (N := 1) ?hd (cs := #[.int .i64 a0_0, .int .i64 a0_1]) (t := 25) ?hr ?_; (case hd => rfl); (case hg => rfl); (case hr => first | (go_simp; done) | (go_simp; rfl)); intro gb102 hg wq0 hbox hb; have n0_ := Aside0.mk (below_step bel hb); have n1_ := Aside0.mk (hbox); have n2_ := Aside0.mk ((by rw [hg]; exact (below_size bel) : w.heap.size ≤ gb102)); have n3_ := Aside0.mk ((by rw [hg]; exact (below_size bel) : w.heap.size ≤ gb102)); clear HB; have HB := n0_; have BK102 := n1_; have GW102 := n2_; have GE102 := n3_; clear n0_ n1_ n2_ n3_; clear hb hbox hg; have hczq0 : wq0.cell? ⟨gb102, 0, none⟩ = some (.int .i64 a0_0) := (blk_cell BK102.out 0).trans rfl; have hczq1 : wq0.cell? ⟨gb102, 1, none⟩ = some (.int .i64 a0_1) := (blk_cell BK102.out 1).trans rfl; have hfzq0 := blk_frozen BK102.out 0; have hfzq1 := blk_frozen BK102.out 1) | (go_at_call 57; (with_reducible refine (dec_Check.calls a0_0 a0_1 t103 _ A2.out).mono ?_); rintro e wq1 ⟨rfl, hb⟩; have n0_ := Aside0.mk (blk_below (bkk BK102.out) hb); have n1_ := Aside0.mk (below_step bel hb); clear BK102; clear HB; have BK102 := n0_; have HB := n1_; clear n0_ n1_; (try clear hb); (try clear hb2); (try clear hk); (try clear hi)))
  repeat (go_quiet (first | ((with_reducible refine gate_dst (N := 1) rfl ?_); refine box_event ?hg (N := 1) ?hd (cs := #[.int .i64 a0_0, .int .i64 a0_1]) (t := 25) ?hr ?_; (case hd => rfl); (case hg => rfl); (case hr => first | (go_simp; done) | (go_simp; rfl)); intro gb102 hg wq0 hbox hb; have n0_ := Aside0.mk (below_step bel hb); have n1_ := Aside0.mk (hbox); have n2_ := Aside0.mk ((by rw [hg]; exact (below_size bel) : w.heap.size ≤ gb102)); have n3_ := Aside0.mk ((by rw [hg]; exact (below_size bel) : w.heap.size ≤ gb102)); clear HB; have HB := n0_; have BK102 := n1_; have GW102 := n2_; have GE102 := n3_; clear n0_ n1_ n2_ n3_; clear hb hbox hg; have hczq0 : wq0.cell? ⟨gb102, 0, none⟩ = some (.int .i64 a0_0) := (blk_cell BK102.out 0).trans rfl; have hczq1 : wq0.cell? ⟨gb102, 1, none⟩ = some (.int .i64 a0_1) := (blk_cell BK102.out 1).trans rfl; have hfzq0 := blk_frozen BK102.out 0; have hfzq1 := blk_frozen BK102.out 1) | (go_at_call 57; (with_reducible refine (dec_Check.calls a0_0 a0_1 t103 _ A2.out).mono ?_); rintro e wq1 ⟨rfl, hb⟩; have n0_ := Aside0.mk (blk_below (bkk BK102.out) hb); have n1_ := Aside0.mk (below_step bel hb); clear BK102; clear HB; have BK102 := n0_; have HB := n1_; clear n0_ n1_; (try clear hb); (try clear hb2); (try clear hk); (try clear hi))); try go_wp2_with (first | ((with_reducible refine gate_dst (N := 1) rfl ?_); refine box_event ?hg (N := 1) ?hd (cs := #[.int .i64 a0_0, .int .i64 a0_1]) (t := 25) ?hr ?_; (case hd => rfl); (case hg => rfl); (case hr => first | (go_simp; done) | (go_simp; rfl)); intro gb102 hg wq0 hbox hb; have n0_ := Aside0.mk (below_step bel hb); have n1_ := Aside0.mk (hbox); have n2_ := Aside0.mk ((by rw [hg]; exact (below_size bel) : w.heap.size ≤ gb102)); have n3_ := Aside0.mk ((by rw [hg]; exact (below_size bel) : w.heap.size ≤ gb102)); clear HB; have HB := n0_; have BK102 := n1_; have GW102 := n2_; have GE102 := n3_; clear n0_ n1_ n2_ n3_; clear hb hbox hg; have hczq0 : wq0.cell? ⟨gb102, 0, none⟩ = some (.int .i64 a0_0) := (blk_cell BK102.out 0).trans rfl; have hczq1 : wq0.cell? ⟨gb102, 1, none⟩ = some (.int .i64 a0_1) := (blk_cell BK102.out 1).trans rfl; have hfzq0 := blk_frozen BK102.out 0; have hfzq1 := blk_frozen BK102.out 1) | (go_at_call 57; (with_reducible refine (dec_Check.calls a0_0 a0_1 t103 _ A2.out).mono ?_); rintro e wq1 ⟨rfl, hb⟩; have n0_ := Aside0.mk (blk_below (bkk BK102.out) hb); have n1_ := Aside0.mk (below_step bel hb); clear BK102; clear HB; have BK102 := n0_; have HB := n1_; clear n0_ n1_; (try clear hb); (try clear hb2); (try clear hk); (try clear hi))))
  go_ret2
  exact ⟨ee_, bel⟩
end Go.Proofs.YtnhgnejfagncpaaDoor.B
end
section
namespace Go.Proofs.YtnhgnejfagncpaaDoor.L
open Go.RowKit Go.Proofs.YtnhgnejfagncpaaDoorW.PrintWords Go.Proofs.YtnhgnejfagncpaaDoorW.PrintLast Go.Proofs.YtnhgnejfagncpaaDoorW.PrintMore Go.Proofs.YtnhgnejfagncpaaDoor.H Go.Proofs.YtnhgnejfagncpaaDoor.A Go.Proofs.YtnhgnejfagncpaaDoor.B Go.Proofs.YtnhgnejfagncpaaDoor.E
attribute [local go_sem] max2_int min2_int max_two min_two max_three min_three max_four min_four   -- for this text's walks alone
set_option linter.unusedVariables false
set_option linter.unusedSimpArgs false
theorem eqA25 (d : Nat) (w : World) (x0 y0 : Int) (x1 y1 : Int) :
    (Op.equalIn (d + 2) 25 (.agg #[.int .i64 x0, .int .i64 x1]) (.agg #[.int .i64 y0, .int .i64 y1])).run Tryd.prog w = .ok (x0 == y0 && (x1 == y1)) w := by
  refine eqA_of Tryd.underlying25 (by kernel_rfl) ?_
  refine eqf_cons (by rfl) (by go_simp; rfl) (by go_simp; rfl) (by go_simp) ?_
  exact eqf_last (by rfl) (by go_simp; rfl) (by go_simp; rfl) (by go_simp)
end Go.Proofs.YtnhgnejfagncpaaDoor.L
end
