/- font.have. -/
import Derived.Test.YtjhpcfpccnfniaaH1
import Derived.Test.YtjhpcfpccnfniaaA3
namespace Go.Proofs.Ytjhpcfpccnfniaa.A
open Go.RowKit Go.Proofs.YtjhpcfpccnfniaaW.PrintWords Go.Proofs.YtjhpcfpccnfniaaW.PrintLast Go.Proofs.YtjhpcfpccnfniaaW.PrintMore
attribute [local go_sem] max2_int min2_int max_two min_two max_three min_three max_four min_four
set_option linter.unusedVariables false
set_option linter.unusedSimpArgs false
set_option maxHeartbeats 4000000 in
theorem indexFuncI (g : Nat) (lb : Array Value) (p : Int → Bool) (eg : ∀ args w, (callFunc g args).run Try.prog w = .ok (.enter g args) w) (A : Option Addr) (c : Nat) (l : List Int) (w : World)
    (hp : PredB g lb (fun x => Value.int .i64 x) p w) (hr : Kd.C (Kd.int .i64) w A l.length l) :
    Calls Try.prog 57 #[.slice A l.length c, .func (.func g) #[] lb] w fun e w' => e = .returned (.int .i64 (ixOf p l 0)) ∧ Below w.heap.size w w' := by
  have hbig : l.length ≤ 9223372036854775807 := hr.2.1
  have HR := Aside0.mk hr
  clear hr
  have HP := Aside0.mk hp
  clear hp
  go_enter Try.func57, Try.ntmps57
  go_wp2
  go_loopg [5, 8] l.length (fun gg _ s8 wr => ∃ kk : Nat, kk ≤ l.length ∧ l.length - kk ≤ gg ∧ s8 = .int .i64 kk ∧ Aside (Below w.heap.size w wr) ∧ Aside (ixOf p (l.drop kk) kk = ixOf p l 0))
  case atStart => exact ⟨0, Nat.zero_le _, by omega, rfl, Below.refl _ w, rfl⟩
  case round =>
    obtain ⟨kk, hkk, hg, rfl, BW, IX⟩ := hrel
    by_cases hlt : kk < l.length
    · have hltz : (kk : Int) < (l.length : Int) := by omega
      have hltb : decide ((kk : Int) < (l.length : Int)) = true := decide_eq_true hltz
      obtain ⟨ad, e, h0⟩ := Kd.at_int HR.out (kk : Int) (by omega) hltz
      cases e
      replace h0 := (BW.out.cell (World.block_lt_of_cell? w _ h0)).trans h0
      simp only [Int.toNat_natCast] at h0
      have hst := ixOf_step p l 0 kk hlt
      have hy0 : l.getD kk 0 = rd l (kk : Int) := rfl
      rw [hy0, IX.out] at hst
      have hcall := HP.out wr (rd l (kk : Int)) BW.out
      generalize rd l (kk : Int) = y at h0 hst hcall
      clear hy0
      cases hq : p y with
      | true =>
        rw [hq] at hcall
        go_wp2_with (go_at_fn g; refine hcall.mono ?_; rintro e w' ⟨rfl, hb'⟩)
        go_ret
        rw [hq, if_pos rfl] at hst
        exact ⟨by rw [hst]; rfl, hb'⟩
      | false =>
        rw [hq] at hcall
        rw [hq, if_neg Bool.false_ne_true] at hst
        go_wp2_with (go_at_fn g; refine hcall.mono ?_; rintro e w' ⟨rfl, hb'⟩)
        go_roundg (l.length - (kk + 1))
        case measure => omega
        case rel => exact ⟨kk + 1, by omega, by omega, by go_num, hb', (show Aside _ from hst.symm)⟩
    · have hltz : ¬ (kk : Int) < (l.length : Int) := by omega
      have hltb : decide ((kk : Int) < (l.length : Int)) = false := decide_eq_false hltz
      have hend := ixOf_end p l kk (by omega)
      rw [IX.out] at hend
      go_wp2
      go_ret
      exact ⟨by rw [← hend]; rfl, BW.out⟩
theorem ixOf_any {α : Type} (p : α → Bool) : ∀ (l : List α) (i : Nat), decide (ixOf p l i ≥ 0) = l.any p
  | [], i => by simp [ixOf]
  | x :: t, i => by
    rw [ixOf, List.any_cons]
    cases hq : p x with
    | true => rw [if_pos rfl]; simp
    | false => rw [if_neg Bool.false_ne_true, ixOf_any p t (i + 1), Bool.false_or]
theorem containsFuncI (g : Nat) (lb : Array Value) (p : Int → Bool) (eg : ∀ args w, (callFunc g args).run Try.prog w = .ok (.enter g args) w) (A : Option Addr) (c : Nat) (l : List Int) (w : World)
    (hp : PredB g lb (fun x => Value.int .i64 x) p w) (hr : Kd.C (Kd.int .i64) w A l.length l) :
    Calls Try.prog 42 #[.slice A l.length c, .func (.func g) #[] lb] w fun e w' => e = .returned (.bool (l.any p)) ∧ Below w.heap.size w w' := by
  rw [← ixOf_any p l 0]
  go_enter Try.func42, Try.ntmps42
  go_wp2_with fail
  refine (indexFuncI g lb p eg A c l w hp hr).mono ?_
  rintro e w' ⟨rfl, hB⟩
  go_wp2_with fail
  go_ret
  exact ⟨rfl, hB⟩
def inTop (wide : Bool) (c : Int) : Bool := decide (0 ≤ c) && decide (c ≤ if wide = true then 65535 else 255)
theorem have1_calls (b : Nat) (wide : Bool) (c : Int) (w : World) (hc : w.cell? ⟨b, 0, none⟩ = some (.bool wide)) :
    Calls Try.prog 43 #[.int .i64 c, .pointer (some ⟨b, 0, none⟩)] w fun e w' => e = .returned (.bool (!inTop wide c)) ∧ Below w.heap.size w w' := by
  have hb : b < w.heap.size := World.block_lt_of_cell? w _ hc
  have ht : font_top.f wide = some (if wide = true then 65535 else 255) := by
    unfold font_top.f
    cases wide <;> rfl
  obtain ⟨tp, htp⟩ : ∃ tp : Int, (if wide = true then 65535 else 255) = tp := ⟨_, rfl⟩
  have hin : inTop wide c = (decide (0 ≤ c) && decide (c ≤ tp)) := by unfold inTop; rw [htp]
  rw [htp] at ht
  have hw : font_within_int.f 0 c tp = some (inTop wide c) := by
    rw [hin]
    unfold font_within_int.f
    by_cases h : 0 ≤ c
    · rw [if_pos h, decide_eq_true h]; rfl
    · rw [if_neg h, decide_eq_false h]; rfl
  generalize inTop wide c = z at hw
  clear hin htp
  go_enter Try.func43, Try.ntmps43
  go_wp2_with fail
  refine (font_top.calls wide tp _ ht).mono ?_
  rintro e w' ⟨rfl, ⟨m, rfl⟩⟩
  go_wp2_with fail
  refine (font_within_int.calls 0 c tp z _ hw).mono ?_
  rintro e w' ⟨rfl, ⟨m2, rfl⟩⟩
  go_wp2_with fail
  go_ret
  exact ⟨rfl, pw_below_drewN (Below.refl _ _) _⟩
def font_have.f (k : Nat) (a0_0 : Bool) (l0_1 : List S37) (a0_2 : Int) (l1 : List Int) : Option Bool := (font_Check.f k a0_0 l0_1 a0_2).bind fun t => some (t == 0 && !(l1.any fun c => !inTop a0_0 c))
theorem font_have.mono : ∀ a0 a1 a2 a3 k, LeO (font_have.f k a0 a1 a2 a3) (font_have.f (k + 1) a0 a1 a2 a3) := by
  intro a0 a1 a2 a3 k
  unfold font_have.f
  exact LeO.bind (font_Check.mono _ _ _ _) (fun _ => LeO.refl _)
set_option maxRecDepth 100000 in
set_option maxHeartbeats 4000000 in
theorem font_have.calls (k : Nat) (a0_0 : Bool) (A0_1 : Option Addr) (c0_1 : Nat) (l0_1 : List (S37)) (a0_2 : Int) (A1 : Option Addr) (c1 : Nat) (l1 : List Int) (r : Bool) (w : World) (hr0_1 : Kd.C k37 w A0_1 l0_1.length l0_1) (hc0_1 : l0_1.length ≤ c0_1) (hr1 : Kd.C (Kd.int .i64) w A1 l1.length l1) (hc1 : l1.length ≤ c1) (h : font_have.f k a0_0 l0_1 a0_2 l1 = some r) :
    Calls Try.prog 24 #[.agg #[.bool a0_0, .slice A0_1 l0_1.length c0_1, .int .i64 a0_2], .slice A1 l1.length c1] w fun e w' => e = .returned (.bool r) ∧ Below w.heap.size w w' := by
  obtain ⟨t, ht, hr⟩ := Option.bind_eq_some_iff.mp h
  have hz : (t == 0 && !(l1.any fun c => !inTop a0_0 c)) = r := Option.some.inj hr
  clear h hr
  have hB0 : Below w.heap.size w (w.alloc (.cells #[.bool a0_0, .slice A0_1 l0_1.length c0_1, .int .i64 a0_2] 24)) := below_alloc (Below.refl _ _) _
  have hcell : (w.alloc (.cells #[.bool a0_0, .slice A0_1 l0_1.length c0_1, .int .i64 a0_2] 24)).cell? ⟨w.heap.size, 0, none⟩ = some (.bool a0_0) := World.cell?_alloc_mark w #[.bool a0_0, .slice A0_1 l0_1.length c0_1, .int .i64 a0_2] 24 (0, 0) 0
  go_enter Try.func24, Try.ntmps24
  go_wp2_with fail
  refine (font_Check.calls k a0_0 A0_1 c0_1 l0_1 a0_2 t _ (Kd.C_alloc hr0_1 _) hc0_1 ht).mono ?_
  rintro e w1 ⟨rfl, hB1⟩
  have hB : Below w.heap.size w w1 := below_step hB0 hB1
  have hcell1 : w1.cell? ⟨w.heap.size, 0, none⟩ = some (.bool a0_0) := (hB1.cell (World.block_lt_of_cell? _ _ hcell)).trans hcell
  have hp : PredB 43 #[.pointer (some ⟨w.heap.size, 0, none⟩)] (fun x => Value.int .i64 x) (fun c => !inTop a0_0 c) w1 := fun W x hBW =>
    have1_calls w.heap.size a0_0 x W ((hBW.cell (World.block_lt_of_cell? _ _ hcell1)).trans hcell1) |>.mono fun e w' h => ⟨h.1, below_step hBW h.2⟩
  have hr2 := Kd.C_below hr1 hB
  by_cases h0 : t = 0
  · have hb0 : (t == 0) = true := beq_iff_eq.mpr h0
    rw [hb0, Bool.true_and] at hz
    replace hz := Aside0.mk hz
    go_wp2_with fail
    refine (containsFuncI 43 _ _ (fun args w => enters_ Try.func43 (by kernel_rfl) rfl args w) A1 c1 l1 w1 hp hr2).mono ?_
    rintro e w2 ⟨rfl, hB2⟩
    go_wp2_with fail
    go_ret
    exact ⟨by rw [← hz.out]; rfl, below_step hB hB2⟩
  · have hb0 : (t == 0) = false := beq_eq_false_iff_ne.mpr h0
    clear h0
    rw [hb0, Bool.false_and] at hz
    replace hz := Aside0.mk hz
    go_wp2_with fail
    go_ret
    exact ⟨by rw [← hz.out]; rfl, hB⟩
end Go.Proofs.Ytjhpcfpccnfniaa.A
