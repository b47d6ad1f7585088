/- Put together: A1, A2, H1 (each in a section of its own). -/
import Derived.Test.YtnhgnejfagncpaaDoorLot2
import Derived.Deep.DeepCutAuto
import Derived.WalkMore
import Derived.RangeFuncRecord
section
namespace Go.Proofs.YtnhgnejfagncpaaDoor.A
open Go.RowKit Go.Proofs.YtnhgnejfagncpaaDoorW.PrintWords Go.Proofs.YtnhgnejfagncpaaDoorW.PrintLast Go.Proofs.YtnhgnejfagncpaaDoorW.PrintMore Go.Proofs.YtnhgnejfagncpaaDoor.H
attribute [local go_sem] max2_int min2_int max_two min_two max_three min_three max_four min_four   -- for this text's walks alone
set_option linter.unusedVariables false
set_option linter.unusedSimpArgs false
mutual
def bits_Div64.j2 : Nat → Int → Int → Int → Int → Int → Int → Int → Int → Option (Int × Int)
 | 0, _, _, _, _, _, _, _, _ => none
 | k + 1, x2, x8, x9, x10, x11, x13, x14, x15 => if x9 = 0 then (none) else (bits_Div64.l1 k x2 x8 x9 x10 x14 x15 (IntKind.u64.wrap ((IntKind.u64.wrap ((IntKind.u64.wrap ((IntKind.u64.wrap (x11 * 4294967296)) + x13)) - (IntKind.u64.wrap (x15 * x2)))) - (IntKind.u64.wrap ((IntKind.u64.wrap (Int.tdiv (IntKind.u64.wrap ((IntKind.u64.wrap ((IntKind.u64.wrap (x11 * 4294967296)) + x13)) - (IntKind.u64.wrap (x15 * x2)))) x9)) * x9)))) (IntKind.u64.wrap ((IntKind.u64.wrap ((IntKind.u64.wrap (x11 * 4294967296)) + x13)) - (IntKind.u64.wrap (x15 * x2)))) (IntKind.u64.wrap (Int.tdiv (IntKind.u64.wrap ((IntKind.u64.wrap ((IntKind.u64.wrap (x11 * 4294967296)) + x13)) - (IntKind.u64.wrap (x15 * x2)))) x9)))
def bits_Div64.l1 : Nat → Int → Int → Int → Int → Int → Int → Int → Int → Int → Option (Int × Int)
 | 0, _, _, _, _, _, _, _, _, _ => none
 | k + 1, x2, x8, x9, x10, x14, x15, x16, x17, x18 => if x18 ≥ 4294967296 then (bits_Div64.j4 k x2 x8 x9 x10 x14 x15 x16 x17 x18 true) else (bits_Div64.j4 k x2 x8 x9 x10 x14 x15 x16 x17 x18 (decide ((IntKind.u64.wrap (x18 * x10)) > (IntKind.u64.wrap ((IntKind.u64.wrap (4294967296 * x16)) + x14)))))
def bits_Div64.j4 : Nat → Int → Int → Int → Int → Int → Int → Int → Int → Int → Bool → Option (Int × Int)
 | 0, _, _, _, _, _, _, _, _, _, _ => none
 | k + 1, x2, x8, x9, x10, x14, x15, x16, x17, x18, x113 => if x113 = true then (if (IntKind.u64.wrap (x16 + x9)) ≥ 4294967296 then (if 0 ≤ x8 then (some (IntKind.u64.wrap ((IntKind.u64.wrap (x15 * 4294967296)) + (IntKind.u64.wrap (x18 - 1))), shr .u64 (IntKind.u64.wrap ((IntKind.u64.wrap ((IntKind.u64.wrap (x17 * 4294967296)) + x14)) - (IntKind.u64.wrap ((IntKind.u64.wrap (x18 - 1)) * x2)))) x8)) else (none)) else (bits_Div64.l1 k x2 x8 x9 x10 x14 x15 (IntKind.u64.wrap (x16 + x9)) x17 (IntKind.u64.wrap (x18 - 1)))) else (if 0 ≤ x8 then (some (IntKind.u64.wrap ((IntKind.u64.wrap (x15 * 4294967296)) + x18), shr .u64 (IntKind.u64.wrap ((IntKind.u64.wrap ((IntKind.u64.wrap (x17 * 4294967296)) + x14)) - (IntKind.u64.wrap (x18 * x2)))) x8)) else (none))
def bits_Div64.l0 : Nat → Int → Int → Int → Int → Int → Int → Int → Int → Int → Option (Int × Int)
 | 0, _, _, _, _, _, _, _, _, _ => none
 | k + 1, x2, x8, x9, x10, x11, x13, x14, x15, x16 => if x15 ≥ 4294967296 then (bits_Div64.j1 k x2 x8 x9 x10 x11 x13 x14 x15 x16 true) else (bits_Div64.j1 k x2 x8 x9 x10 x11 x13 x14 x15 x16 (decide ((IntKind.u64.wrap (x15 * x10)) > (IntKind.u64.wrap ((IntKind.u64.wrap (4294967296 * x16)) + x13)))))
def bits_Div64.j1 : Nat → Int → Int → Int → Int → Int → Int → Int → Int → Int → Bool → Option (Int × Int)
 | 0, _, _, _, _, _, _, _, _, _, _ => none
 | k + 1, x2, x8, x9, x10, x11, x13, x14, x15, x16, x78 => if x78 = true then (if (IntKind.u64.wrap (x16 + x9)) ≥ 4294967296 then (bits_Div64.j2 k x2 x8 x9 x10 x11 x13 x14 (IntKind.u64.wrap (x15 - 1))) else (bits_Div64.l0 k x2 x8 x9 x10 x11 x13 x14 (IntKind.u64.wrap (x15 - 1)) (IntKind.u64.wrap (x16 + x9)))) else (bits_Div64.j2 k x2 x8 x9 x10 x11 x13 x14 x15)
end
def bits_Div64.f (k : Nat) (a0 : Int) (a1 : Int) (a2 : Int) : Option (Int × Int) := if a2 = 0 then (none) else (if a2 ≤ a0 then (none) else (if a0 = 0 then (some (IntKind.u64.wrap (Int.tdiv a1 a2), Int.tmod a1 a2)) else ((bits_LeadingZeros64.f a2).bind fun t101 => (if 0 ≤ (IntKind.u64.wrap (t101)) then (if 0 ≤ (IntKind.u64.wrap (64 - (IntKind.u64.wrap (t101)))) then (if ((shl .u64 a2 (IntKind.u64.wrap (t101))) / 4294967296) = 0 then (none) else (bits_Div64.l0 k (shl .u64 a2 (IntKind.u64.wrap (t101))) (IntKind.u64.wrap (t101)) ((shl .u64 a2 (IntKind.u64.wrap (t101))) / 4294967296) (Go.bits .and .u64 (shl .u64 a2 (IntKind.u64.wrap (t101))) 4294967295) (Go.bits .or .u64 (shl .u64 a0 (IntKind.u64.wrap (t101))) (shr .u64 a1 (IntKind.u64.wrap (64 - (IntKind.u64.wrap (t101)))))) ((shl .u64 a1 (IntKind.u64.wrap (t101))) / 4294967296) (Go.bits .and .u64 (shl .u64 a1 (IntKind.u64.wrap (t101))) 4294967295) (IntKind.u64.wrap (Int.tdiv (Go.bits .or .u64 (shl .u64 a0 (IntKind.u64.wrap (t101))) (shr .u64 a1 (IntKind.u64.wrap (64 - (IntKind.u64.wrap (t101)))))) ((shl .u64 a2 (IntKind.u64.wrap (t101))) / 4294967296))) (IntKind.u64.wrap ((Go.bits .or .u64 (shl .u64 a0 (IntKind.u64.wrap (t101))) (shr .u64 a1 (IntKind.u64.wrap (64 - (IntKind.u64.wrap (t101)))))) - (IntKind.u64.wrap ((IntKind.u64.wrap (Int.tdiv (Go.bits .or .u64 (shl .u64 a0 (IntKind.u64.wrap (t101))) (shr .u64 a1 (IntKind.u64.wrap (64 - (IntKind.u64.wrap (t101)))))) ((shl .u64 a2 (IntKind.u64.wrap (t101))) / 4294967296))) * ((shl .u64 a2 (IntKind.u64.wrap (t101))) / 4294967296))))))) else (none)) else (none)))))
set_option maxHeartbeats 8000000 in
set_option maxRecDepth 100000 in
theorem bits_Div64.calls (k : Nat) (a0 : Int) (a1 : Int) (a2 : Int) (r1 : Int) (r2 : Int) (w : World) (h : bits_Div64.f k a0 a1 a2 = some (r1, r2)) :
  Calls Tryd.prog 97 #[.int .u64 a0, .int .u64 a1, .int .u64 a2] w fun e w' => e = .returned (.tuple #[.int .u64 r1, .int .u64 r2]) ∧ Below w.heap.size w w' := by
 have HB := Aside0.mk (Below.refl w.heap.size w)
 have H : (if a2 = 0 then (none) else (if a2 ≤ a0 then (none) else (if a0 = 0 then (some (IntKind.u64.wrap (Int.tdiv a1 a2), Int.tmod a1 a2)) else ((bits_LeadingZeros64.f a2).bind fun t101 => (if 0 ≤ (IntKind.u64.wrap (t101)) then (if 0 ≤ (IntKind.u64.wrap (64 - (IntKind.u64.wrap (t101)))) then (if ((shl .u64 a2 (IntKind.u64.wrap (t101))) / 4294967296) = 0 then (none) else (bits_Div64.l0 k (shl .u64 a2 (IntKind.u64.wrap (t101))) (IntKind.u64.wrap (t101)) ((shl .u64 a2 (IntKind.u64.wrap (t101))) / 4294967296) (Go.bits .and .u64 (shl .u64 a2 (IntKind.u64.wrap (t101))) 4294967295) (Go.bits .or .u64 (shl .u64 a0 (IntKind.u64.wrap (t101))) (shr .u64 a1 (IntKind.u64.wrap (64 - (IntKind.u64.wrap (t101)))))) ((shl .u64 a1 (IntKind.u64.wrap (t101))) / 4294967296) (Go.bits .and .u64 (shl .u64 a1 (IntKind.u64.wrap (t101))) 4294967295) (IntKind.u64.wrap (Int.tdiv (Go.bits .or .u64 (shl .u64 a0 (IntKind.u64.wrap (t101))) (shr .u64 a1 (IntKind.u64.wrap (64 - (IntKind.u64.wrap (t101)))))) ((shl .u64 a2 (IntKind.u64.wrap (t101))) / 4294967296))) (IntKind.u64.wrap ((Go.bits .or .u64 (shl .u64 a0 (IntKind.u64.wrap (t101))) (shr .u64 a1 (IntKind.u64.wrap (64 - (IntKind.u64.wrap (t101)))))) - (IntKind.u64.wrap ((IntKind.u64.wrap (Int.tdiv (Go.bits .or .u64 (shl .u64 a0 (IntKind.u64.wrap (t101))) (shr .u64 a1 (IntKind.u64.wrap (64 - (IntKind.u64.wrap (t101)))))) ((shl .u64 a2 (IntKind.u64.wrap (t101))) / 4294967296))) * ((shl .u64 a2 (IntKind.u64.wrap (t101))) / 4294967296))))))) else (none)) else (none)))))) = some (r1, r2) := h
 clear h
 by_cases c4 : a2 = 0
 ·rw [if_pos c4] at H
  exact absurd H (by simp)
 ·rw [if_neg c4] at H
  have c4b0 : (a2 == 0) = false := beq_eq_false_iff_ne.mpr c4
  have c4b1 : (a2 != 0) = true := bne_iff_ne.mpr c4
  by_cases c5 : a2 ≤ a0
  ·rw [if_pos c5] at H
   exact absurd H (by simp)
  ·rw [if_neg c5] at H
   have c5b0 : decide (a2 ≤ a0) = false := decide_eq_false c5
   clear c5
   by_cases c6 : a0 = 0
   ·rw [if_pos c6] at H
    have c6b0 : (a0 == 0) = true := beq_iff_eq.mpr c6
    have c6b1 : (a0 != 0) = false := bne_eq_false_iff_eq.mpr c6
    clear c6
    simp only [Option.some.injEq, Prod.mk.injEq] at H
    obtain ⟨rfl, rfl⟩ := H
    go_enter Tryd.func97, Tryd.ntmps97
    go_wp2
    repeat (go_quiet (fail); try go_wp2)
    go_ret2
    exact ⟨ee_, bel⟩
   ·rw [if_neg c6] at H
    have c6b0 : (a0 == 0) = false := beq_eq_false_iff_ne.mpr c6
    have c6b1 : (a0 != 0) = true := bne_iff_ne.mpr c6
    replace H := Option.bind_eq_some_iff.mp H
    obtain ⟨t101, A70, H⟩ := H
    replace H : (if 0 ≤ (IntKind.u64.wrap (t101)) then (if 0 ≤ (IntKind.u64.wrap (64 - (IntKind.u64.wrap (t101)))) then (if ((shl .u64 a2 (IntKind.u64.wrap (t101))) / 4294967296) = 0 then (none) else (bits_Div64.l0 k (shl .u64 a2 (IntKind.u64.wrap (t101))) (IntKind.u64.wrap (t101)) ((shl .u64 a2 (IntKind.u64.wrap (t101))) / 4294967296) (Go.bits .and .u64 (shl .u64 a2 (IntKind.u64.wrap (t101))) 4294967295) (Go.bits .or .u64 (shl .u64 a0 (IntKind.u64.wrap (t101))) (shr .u64 a1 (IntKind.u64.wrap (64 - (IntKind.u64.wrap (t101)))))) ((shl .u64 a1 (IntKind.u64.wrap (t101))) / 4294967296) (Go.bits .and .u64 (shl .u64 a1 (IntKind.u64.wrap (t101))) 4294967295) (IntKind.u64.wrap (Int.tdiv (Go.bits .or .u64 (shl .u64 a0 (IntKind.u64.wrap (t101))) (shr .u64 a1 (IntKind.u64.wrap (64 - (IntKind.u64.wrap (t101)))))) ((shl .u64 a2 (IntKind.u64.wrap (t101))) / 4294967296))) (IntKind.u64.wrap ((Go.bits .or .u64 (shl .u64 a0 (IntKind.u64.wrap (t101))) (shr .u64 a1 (IntKind.u64.wrap (64 - (IntKind.u64.wrap (t101)))))) - (IntKind.u64.wrap ((IntKind.u64.wrap (Int.tdiv (Go.bits .or .u64 (shl .u64 a0 (IntKind.u64.wrap (t101))) (shr .u64 a1 (IntKind.u64.wrap (64 - (IntKind.u64.wrap (t101)))))) ((shl .u64 a2 (IntKind.u64.wrap (t101))) / 4294967296))) * ((shl .u64 a2 (IntKind.u64.wrap (t101))) / 4294967296))))))) else (none)) else (none)) = some (r1, r2) := H
    have A7 := Aside0.mk A70
    clear A70
    obtain ⟨ji8, hji8⟩ : ∃ j_ : Int, (IntKind.u64.wrap (t101)) = j_ := ⟨_, rfl⟩
    replace H : (if 0 ≤ (ji8) then (if 0 ≤ (IntKind.u64.wrap (64 - (ji8))) then (if ((shl .u64 a2 (ji8)) / 4294967296) = 0 then (none) else (bits_Div64.l0 k (shl .u64 a2 (ji8)) ji8 ((shl .u64 a2 (ji8)) / 4294967296) (Go.bits .and .u64 (shl .u64 a2 (ji8)) 4294967295) (Go.bits .or .u64 (shl .u64 a0 (ji8)) (shr .u64 a1 (IntKind.u64.wrap (64 - (ji8))))) ((shl .u64 a1 (ji8)) / 4294967296) (Go.bits .and .u64 (shl .u64 a1 (ji8)) 4294967295) (IntKind.u64.wrap (Int.tdiv (Go.bits .or .u64 (shl .u64 a0 (ji8)) (shr .u64 a1 (IntKind.u64.wrap (64 - (ji8))))) ((shl .u64 a2 (ji8)) / 4294967296))) (IntKind.u64.wrap ((Go.bits .or .u64 (shl .u64 a0 (ji8)) (shr .u64 a1 (IntKind.u64.wrap (64 - (ji8))))) - (IntKind.u64.wrap ((IntKind.u64.wrap (Int.tdiv (Go.bits .or .u64 (shl .u64 a0 (ji8)) (shr .u64 a1 (IntKind.u64.wrap (64 - (ji8))))) ((shl .u64 a2 (ji8)) / 4294967296))) * ((shl .u64 a2 (ji8)) / 4294967296))))))) else (none)) else (none)) = some (r1, r2) := by first | (rw [hji8] at H; exact H) | (simp only [hji8] at H ⊢; exact H)
    (try rw [hji8] at A7)
    by_cases c9 : 0 ≤ (ji8)
    ·rw [if_pos c9] at H
     have c9b0 := eq_true c9
     have c9b1 : decide (0 ≤ (ji8)) = true := decide_eq_true c9
     clear c9
     obtain ⟨ji10, hji10⟩ : ∃ j_ : Int, (shl .u64 a2 (ji8)) = j_ := ⟨_, rfl⟩
     replace H : (if 0 ≤ (IntKind.u64.wrap (64 - (ji8))) then (if ((ji10) / 4294967296) = 0 then (none) else (bits_Div64.l0 k ji10 ji8 ((ji10) / 4294967296) (Go.bits .and .u64 (ji10) 4294967295) (Go.bits .or .u64 (shl .u64 a0 (ji8)) (shr .u64 a1 (IntKind.u64.wrap (64 - (ji8))))) ((shl .u64 a1 (ji8)) / 4294967296) (Go.bits .and .u64 (shl .u64 a1 (ji8)) 4294967295) (IntKind.u64.wrap (Int.tdiv (Go.bits .or .u64 (shl .u64 a0 (ji8)) (shr .u64 a1 (IntKind.u64.wrap (64 - (ji8))))) ((ji10) / 4294967296))) (IntKind.u64.wrap ((Go.bits .or .u64 (shl .u64 a0 (ji8)) (shr .u64 a1 (IntKind.u64.wrap (64 - (ji8))))) - (IntKind.u64.wrap ((IntKind.u64.wrap (Int.tdiv (Go.bits .or .u64 (shl .u64 a0 (ji8)) (shr .u64 a1 (IntKind.u64.wrap (64 - (ji8))))) ((ji10) / 4294967296))) * ((ji10) / 4294967296))))))) else (none)) = some (r1, r2) := by first | (rw [hji10] at H; exact H) | (simp only [hji10] at H ⊢; exact H)
     (try rw [hji10] at A7)
     have hji10_ : (IntKind.u64.wrap (a2 * 2 ^ min (ji8).toNat 64)) = ji10 := hji10
     have hji10z : (ji8) ≤ 64 → (IntKind.u64.wrap (a2 * 2 ^ (ji8).toNat)) = ji10 := shl_small hji10
     have c11b0 := eq_true (of_decide_eq_true (by first | (with_reducible assumption) | assumption) : 0 ≤ (ji8))
     obtain ⟨ji12, hji12⟩ : ∃ j_ : Int, (shl .u64 a0 (ji8)) = j_ := ⟨_, rfl⟩
     replace H : (if 0 ≤ (IntKind.u64.wrap (64 - (ji8))) then (if ((ji10) / 4294967296) = 0 then (none) else (bits_Div64.l0 k ji10 ji8 ((ji10) / 4294967296) (Go.bits .and .u64 (ji10) 4294967295) (Go.bits .or .u64 (ji12) (shr .u64 a1 (IntKind.u64.wrap (64 - (ji8))))) ((shl .u64 a1 (ji8)) / 4294967296) (Go.bits .and .u64 (shl .u64 a1 (ji8)) 4294967295) (IntKind.u64.wrap (Int.tdiv (Go.bits .or .u64 (ji12) (shr .u64 a1 (IntKind.u64.wrap (64 - (ji8))))) ((ji10) / 4294967296))) (IntKind.u64.wrap ((Go.bits .or .u64 (ji12) (shr .u64 a1 (IntKind.u64.wrap (64 - (ji8))))) - (IntKind.u64.wrap ((IntKind.u64.wrap (Int.tdiv (Go.bits .or .u64 (ji12) (shr .u64 a1 (IntKind.u64.wrap (64 - (ji8))))) ((ji10) / 4294967296))) * ((ji10) / 4294967296))))))) else (none)) = some (r1, r2) := by first | (rw [hji12] at H; exact H) | (simp only [hji12] at H ⊢; exact H)
     (try rw [hji12] at A7)
     have hji12_ : (IntKind.u64.wrap (a0 * 2 ^ min (ji8).toNat 64)) = ji12 := hji12
     have hji12z : (ji8) ≤ 64 → (IntKind.u64.wrap (a0 * 2 ^ (ji8).toNat)) = ji12 := shl_small hji12
     obtain ⟨ji13, hji13⟩ : ∃ j_ : Int, (IntKind.u64.wrap (64 - (ji8))) = j_ := ⟨_, rfl⟩
     replace H : (if 0 ≤ (ji13) then (if ((ji10) / 4294967296) = 0 then (none) else (bits_Div64.l0 k ji10 ji8 ((ji10) / 4294967296) (Go.bits .and .u64 (ji10) 4294967295) (Go.bits .or .u64 (ji12) (shr .u64 a1 (ji13))) ((shl .u64 a1 (ji8)) / 4294967296) (Go.bits .and .u64 (shl .u64 a1 (ji8)) 4294967295) (IntKind.u64.wrap (Int.tdiv (Go.bits .or .u64 (ji12) (shr .u64 a1 (ji13))) ((ji10) / 4294967296))) (IntKind.u64.wrap ((Go.bits .or .u64 (ji12) (shr .u64 a1 (ji13))) - (IntKind.u64.wrap ((IntKind.u64.wrap (Int.tdiv (Go.bits .or .u64 (ji12) (shr .u64 a1 (ji13))) ((ji10) / 4294967296))) * ((ji10) / 4294967296))))))) else (none)) = some (r1, r2) := by first | (rw [hji13] at H; exact H) | (simp only [hji13] at H ⊢; exact H)
     (try rw [hji13] at A7)
     by_cases c14 : 0 ≤ (ji13)
     ·rw [if_pos c14] at H
      have c14b0 := eq_true c14
      have c14b1 : decide (0 ≤ (ji13)) = true := decide_eq_true c14
      clear c14
      obtain ⟨ji15, hji15⟩ : ∃ j_ : Int, (shr .u64 a1 (ji13)) = j_ := ⟨_, rfl⟩
      replace H : (if ((ji10) / 4294967296) = 0 then (none) else (bits_Div64.l0 k ji10 ji8 ((ji10) / 4294967296) (Go.bits .and .u64 (ji10) 4294967295) (Go.bits .or .u64 (ji12) (ji15)) ((shl .u64 a1 (ji8)) / 4294967296) (Go.bits .and .u64 (shl .u64 a1 (ji8)) 4294967295) (IntKind.u64.wrap (Int.tdiv (Go.bits .or .u64 (ji12) (ji15)) ((ji10) / 4294967296))) (IntKind.u64.wrap ((Go.bits .or .u64 (ji12) (ji15)) - (IntKind.u64.wrap ((IntKind.u64.wrap (Int.tdiv (Go.bits .or .u64 (ji12) (ji15)) ((ji10) / 4294967296))) * ((ji10) / 4294967296))))))) = some (r1, r2) := by first | (rw [hji15] at H; exact H) | (simp only [hji15] at H ⊢; exact H)
      (try rw [hji15] at A7)
      have hji15_ : (a1 / 2 ^ min (ji13).toNat 64) = ji15 := hji15
      have hji15z : (ji13) ≤ 64 → (a1 / 2 ^ (ji13).toNat) = ji15 := shr_small hji15
      have c16b0 := eq_true (of_decide_eq_true (by first | (with_reducible assumption) | assumption) : 0 ≤ (ji8))
      obtain ⟨ji17, hji17⟩ : ∃ j_ : Int, (shl .u64 a1 (ji8)) = j_ := ⟨_, rfl⟩
      replace H : (if ((ji10) / 4294967296) = 0 then (none) else (bits_Div64.l0 k ji10 ji8 ((ji10) / 4294967296) (Go.bits .and .u64 (ji10) 4294967295) (Go.bits .or .u64 (ji12) (ji15)) ((ji17) / 4294967296) (Go.bits .and .u64 (ji17) 4294967295) (IntKind.u64.wrap (Int.tdiv (Go.bits .or .u64 (ji12) (ji15)) ((ji10) / 4294967296))) (IntKind.u64.wrap ((Go.bits .or .u64 (ji12) (ji15)) - (IntKind.u64.wrap ((IntKind.u64.wrap (Int.tdiv (Go.bits .or .u64 (ji12) (ji15)) ((ji10) / 4294967296))) * ((ji10) / 4294967296))))))) = some (r1, r2) := by first | (rw [hji17] at H; exact H) | (simp only [hji17] at H ⊢; exact H)
      (try rw [hji17] at A7)
      have hji17_ : (IntKind.u64.wrap (a1 * 2 ^ min (ji8).toNat 64)) = ji17 := hji17
      have hji17z : (ji8) ≤ 64 → (IntKind.u64.wrap (a1 * 2 ^ (ji8).toNat)) = ji17 := shl_small hji17
      by_cases c18 : ((ji10) / 4294967296) = 0
      ·rw [if_pos c18] at H
       exact absurd H (by simp)
      ·rw [if_neg c18] at H
       have c18b0 : (((ji10) / 4294967296) == 0) = false := beq_eq_false_iff_ne.mpr c18
       have c18b1 : (((ji10) / 4294967296) != 0) = true := bne_iff_ne.mpr c18
       have HC19 := Aside0.mk H
       clear H
       go_enter Tryd.func97, Tryd.ntmps97
       go_upto_block 0 with (first | (go_at_call 118; (with_reducible refine (bits_LeadingZeros64.calls a2 t101 _ A7.out).mono ?_); rintro e w20 ⟨rfl, hb⟩; have n0_ := Aside0.mk (below_step bel hb); clear HB; have HB := n0_; clear n0_; (try clear hb); (try clear hb2); (try clear hk); (try clear hi)))
       repeat (go_quiet (first | (go_at_call 118; (with_reducible refine (bits_LeadingZeros64.calls a2 t101 _ A7.out).mono ?_); rintro e w20 ⟨rfl, hb⟩; have n0_ := Aside0.mk (below_step bel hb); clear HB; have HB := n0_; clear n0_; (try clear hb); (try clear hb2); (try clear hk); (try clear hi))); go_upto_block 0 with (first | (go_at_call 118; (with_reducible refine (bits_LeadingZeros64.calls a2 t101 _ A7.out).mono ?_); rintro e w20 ⟨rfl, hb⟩; have n0_ := Aside0.mk (below_step bel hb); clear HB; have HB := n0_; clear n0_; (try clear hb); (try clear hb2); (try clear hk); (try clear hi))))
       (try simp only [Act.put, List.setIfInBounds_toArray, List.set_cons_zero, List.set_cons_succ])
       go_cut [15] (fun v15 wc => ∃ (kq : Nat) (x15_18 : Int), v15 = .int .u64 x15_18 ∧ Aside0 (bits_Div64.j2 kq ji10 ji8 ((ji10) / 4294967296) (Go.bits .and .u64 (ji10) 4294967295) (Go.bits .or .u64 (ji12) (ji15)) ((ji17) / 4294967296) (Go.bits .and .u64 (ji17) 4294967295) x15_18 = some (r1, r2)) ∧ Aside0 (kq ≤ k) ∧ Aside0 (Below w.heap.size w wc))
       case first =>
        have H := HC19.out
        clear HC19
        have H' := Aside0.mk H
        clear H
        go_wp2
        repeat (go_quiet (fail); try go_wp2)
        go_loopg [15, 16] k (fun kq v15 v16 w' => ∃ (x15_1 : Int) (x16_1 : Int), v15 = .int .u64 x15_1 ∧ v16 = .int .u64 x16_1 ∧ Aside0 (bits_Div64.l0 kq ji10 ji8 ((ji10) / 4294967296) (Go.bits .and .u64 (ji10) 4294967295) (Go.bits .or .u64 (ji12) (ji15)) ((ji17) / 4294967296) (Go.bits .and .u64 (ji17) 4294967295) x15_1 x16_1 = some (r1, r2)) ∧ Aside0 (kq ≤ k) ∧ Aside0 (Below w.heap.size w w'))
        case atStart => exact ⟨(IntKind.u64.wrap (Int.tdiv (Go.bits .or .u64 (ji12) (ji15)) ((ji10) / 4294967296))), (IntKind.u64.wrap ((Go.bits .or .u64 (ji12) (ji15)) - (IntKind.u64.wrap ((IntKind.u64.wrap (Int.tdiv (Go.bits .or .u64 (ji12) (ji15)) ((ji10) / 4294967296))) * ((ji10) / 4294967296))))), (by first | rfl | (simp; done) | (simp only [← hji10, ← hji12, ← hji15] <;> (first | rfl | simp)) | (simp [*]; done)), (by first | rfl | (simp; done) | (simp only [← hji10, ← hji12, ← hji15] <;> (first | rfl | simp)) | (simp [*]; done)), H', ⟨Nat.le_refl _⟩, ⟨bel⟩⟩
        case round =>
         clear H'
         try clear c1
         try clear p2
         try clear c4
         try clear c4b0
         try clear c4b1
         try clear c5
         try clear c5b0
         try clear c6
         try clear c6b0
         try clear c6b1
         try clear c9
         try clear c9b0
         try clear c9b1
         try clear c11
         try clear c11b0
         try clear c14
         try clear c14b0
         try clear c14b1
         try clear c16
         try clear c16b0
         try clear c18
         try clear c18b0
         try clear c18b1
         obtain ⟨x15_1, x16_1, rfl, rfl, HA, HK1, HB⟩ := hrel
         cases gk with
         | zero => exact absurd HA.out (by simp [bits_Div64.l0])
         | succ k1 =>
          have H := HA.out
          clear HA
          simp only [bits_Div64.l0] at H
          have HC21 := Aside0.mk H
          clear H
          go_upto_region 17 with (fail)
          repeat (go_quiet (fail); go_upto_region 17 with (fail))
          go_cut [78] (fun v78 wc => ∃ (kq : Nat) (x78_20 : Bool), v78 = .bool x78_20 ∧ Aside0 (bits_Div64.j1 kq ji10 ji8 ((ji10) / 4294967296) (Go.bits .and .u64 (ji10) 4294967295) (Go.bits .or .u64 (ji12) (ji15)) ((ji17) / 4294967296) (Go.bits .and .u64 (ji17) 4294967295) x15_1 x16_1 x78_20 = some (r1, r2)) ∧ Aside0 (kq ≤ k1) ∧ Aside0 (Below w.heap.size w wc))
          case first =>
           have H := HC21.out
           clear HC21
           by_cases c22 : x15_1 ≥ 4294967296
           ·rw [if_pos c22] at H
            have c22b0 : decide (4294967296 ≤ x15_1) = true := decide_eq_true c22
            clear c22
            (first | rw [c22b0] | (simp only [i64_w, i32_w]; rw [c22b0]) | skip)
            have H' := Aside0.mk H
            clear H
            go_wp2
            repeat (go_quiet (fail); try go_wp2)
            go_meet
            case rel => exact ⟨_, (true), ea_, H', ⟨by have := HK1.out; first | omega | exact Nat.le_refl _⟩, ⟨bel⟩⟩
           ·rw [if_neg c22] at H
            have c22b0 : decide (4294967296 ≤ x15_1) = false := decide_eq_false c22
            clear c22
            (first | rw [c22b0] | (simp only [i64_w, i32_w]; rw [c22b0]) | skip)
            have H' := Aside0.mk H
            clear H
            go_wp2
            repeat (go_quiet (fail); try go_wp2)
            go_meet
            case rel => exact ⟨_, (decide ((IntKind.u64.wrap (x15_1 * (Go.bits .and .u64 (ji10) 4294967295))) > (IntKind.u64.wrap ((IntKind.u64.wrap (4294967296 * x16_1)) + ((ji17) / 4294967296))))), (by first | rfl | (simp; done) | (simp only [← hji10, ← hji17] <;> (first | rfl | simp)) | (simp [*]; done)), H', ⟨by have := HK1.out; first | omega | exact Nat.le_refl _⟩, ⟨bel⟩⟩
          case rest =>
           clear HC21
           try clear c1
           try clear c2
           try clear p2
           try clear c4
           try clear c4b0
           try clear c4b1
           try clear c5
           try clear c5b0
           try clear c6
           try clear c6b0
           try clear c6b1
           try clear c9
           try clear c9b0
           try clear c9b1
           try clear c11
           try clear c11b0
           try clear c14
           try clear c14b0
           try clear c14b1
           try clear c16
           try clear c16b0
           try clear c18
           try clear c18b0
           try clear c18b1
           try clear c22
           try clear c22b0
           try clear p2
           obtain ⟨kq, x78_20, rfl, HA, HJ20, HB⟩ := hcut
           cases kq with
           | zero => exact absurd HA.out (by simp [bits_Div64.j1])
           | succ kj20 =>
            have H := HA.out
            clear HA
            simp only [bits_Div64.j1] at H
            by_cases c23 : x78_20 = true
            ·subst c23
             have H1 : (if (IntKind.u64.wrap (x16_1 + ((ji10) / 4294967296))) ≥ 4294967296 then (bits_Div64.j2 kj20 ji10 ji8 ((ji10) / 4294967296) (Go.bits .and .u64 (ji10) 4294967295) (Go.bits .or .u64 (ji12) (ji15)) ((ji17) / 4294967296) (Go.bits .and .u64 (ji17) 4294967295) (IntKind.u64.wrap (x15_1 - 1))) else (bits_Div64.l0 kj20 ji10 ji8 ((ji10) / 4294967296) (Go.bits .and .u64 (ji10) 4294967295) (Go.bits .or .u64 (ji12) (ji15)) ((ji17) / 4294967296) (Go.bits .and .u64 (ji17) 4294967295) (IntKind.u64.wrap (x15_1 - 1)) (IntKind.u64.wrap (x16_1 + ((ji10) / 4294967296))))) = some (r1, r2) := by rw [if_pos rfl] at H; exact H
             clear H
             have H := H1
             clear H1
             by_cases c24 : (IntKind.u64.wrap (x16_1 + ((ji10) / 4294967296))) ≥ 4294967296
             ·rw [if_pos c24] at H
              have c24b0 : decide (4294967296 ≤ (IntKind.u64.wrap (x16_1 + ((ji10) / 4294967296)))) = true := decide_eq_true c24
              clear c24
              have H' := Aside0.mk H
              clear H
              go_wp2
              repeat (go_quiet (fail); try go_wp2)
              go_meet
              case rel => exact ⟨_, (IntKind.u64.wrap (x15_1 - 1)), ea_, H', ⟨by have := HK1.out; have := HJ20.out; first | omega | exact Nat.le_refl _⟩, ⟨bel⟩⟩
             ·rw [if_neg c24] at H
              have c24b0 : decide (4294967296 ≤ (IntKind.u64.wrap (x16_1 + ((ji10) / 4294967296)))) = false := decide_eq_false c24
              clear c24
              have H' := Aside0.mk H
              clear H
              go_wp2
              repeat (go_quiet (fail); try go_wp2)
              go_roundg kj20
              case measure => have := HK1.out; have := HJ20.out; omega
              case rel => exact ⟨(IntKind.u64.wrap (x15_1 - 1)), (IntKind.u64.wrap (x16_1 + ((ji10) / 4294967296))), ea_, (by first | rfl | (simp; done) | (simp only [← hji10] <;> (first | rfl | simp)) | (simp [*]; done)), H', ⟨by have := HK1.out; have := HJ20.out; omega⟩, ⟨bel⟩⟩
            ·replace c23 := Bool.eq_false_iff.mpr c23
             subst c23
             have H1 : (bits_Div64.j2 kj20 ji10 ji8 ((ji10) / 4294967296) (Go.bits .and .u64 (ji10) 4294967295) (Go.bits .or .u64 (ji12) (ji15)) ((ji17) / 4294967296) (Go.bits .and .u64 (ji17) 4294967295) x15_1) = some (r1, r2) := by rw [if_neg (show ¬ (false = true) by decide)] at H; exact H
             clear H
             have H := H1
             clear H1
             have H' := Aside0.mk H
             clear H
             go_wp2
             repeat (go_quiet (fail); try go_wp2)
             go_meet
             case rel => exact ⟨_, (x15_1), ea_, H', ⟨by have := HK1.out; have := HJ20.out; first | omega | exact Nat.le_refl _⟩, ⟨bel⟩⟩
       case rest =>
        clear HC19
        try clear c1
        try clear c2
        try clear p2
        try clear c4
        try clear c4b0
        try clear c4b1
        try clear c5
        try clear c5b0
        try clear c6
        try clear c6b0
        try clear c6b1
        try clear c9
        try clear c9b0
        try clear c9b1
        try clear c11
        try clear c11b0
        try clear c14
        try clear c14b0
        try clear c14b1
        try clear c16
        try clear c16b0
        try clear c18
        try clear c18b0
        try clear c18b1
        try clear c22
        try clear c22b0
        try clear c23
        try clear c24
        try clear c24b0
        try clear p2
        obtain ⟨kq, x15_18, rfl, HA, HJ18, HB⟩ := hcut
        cases kq with
        | zero => exact absurd HA.out (by simp [bits_Div64.j2])
        | succ kj18 =>
         have H := HA.out
         clear HA
         simp only [bits_Div64.j2] at H
         by_cases c25 : ((ji10) / 4294967296) = 0
         ·rw [if_pos c25] at H
          exact absurd H (by simp)
         ·rw [if_neg c25] at H
          have c25b0 : (((ji10) / 4294967296) == 0) = false := beq_eq_false_iff_ne.mpr c25
          have c25b1 : (((ji10) / 4294967296) != 0) = true := bne_iff_ne.mpr c25
          have H' := Aside0.mk H
          clear H
          go_wp2
          repeat (go_quiet (fail); try go_wp2)
          go_loopg [16, 18] kj18 (fun kq v16 v18 w' => ∃ (x16_2 : Int) (x18_2 : Int), v16 = .int .u64 x16_2 ∧ v18 = .int .u64 x18_2 ∧ Aside0 (bits_Div64.l1 kq ji10 ji8 ((ji10) / 4294967296) (Go.bits .and .u64 (ji10) 4294967295) (Go.bits .and .u64 (ji17) 4294967295) x15_18 x16_2 (IntKind.u64.wrap ((IntKind.u64.wrap ((IntKind.u64.wrap ((Go.bits .or .u64 (ji12) (ji15)) * 4294967296)) + ((ji17) / 4294967296))) - (IntKind.u64.wrap (x15_18 * ji10)))) x18_2 = some (r1, r2)) ∧ Aside0 (kq ≤ kj18) ∧ Aside0 (Below w.heap.size w w'))
          case atStart => exact ⟨(IntKind.u64.wrap ((IntKind.u64.wrap ((IntKind.u64.wrap ((IntKind.u64.wrap ((Go.bits .or .u64 (ji12) (ji15)) * 4294967296)) + ((ji17) / 4294967296))) - (IntKind.u64.wrap (x15_18 * ji10)))) - (IntKind.u64.wrap ((IntKind.u64.wrap (Int.tdiv (IntKind.u64.wrap ((IntKind.u64.wrap ((IntKind.u64.wrap ((Go.bits .or .u64 (ji12) (ji15)) * 4294967296)) + ((ji17) / 4294967296))) - (IntKind.u64.wrap (x15_18 * ji10)))) ((ji10) / 4294967296))) * ((ji10) / 4294967296))))), (IntKind.u64.wrap (Int.tdiv (IntKind.u64.wrap ((IntKind.u64.wrap ((IntKind.u64.wrap ((Go.bits .or .u64 (ji12) (ji15)) * 4294967296)) + ((ji17) / 4294967296))) - (IntKind.u64.wrap (x15_18 * ji10)))) ((ji10) / 4294967296))), (by first | rfl | (simp; done) | (simp only [← hji10, ← hji12, ← hji15, ← hji17] <;> (first | rfl | simp)) | (simp [*]; done)), (by first | rfl | (simp; done) | (simp only [← hji10, ← hji12, ← hji15, ← hji17] <;> (first | rfl | simp)) | (simp [*]; done)), H', ⟨Nat.le_refl _⟩, ⟨bel⟩⟩
          case round =>
           clear H'
           try clear c1
           try clear c2
           try clear p2
           try clear c4
           try clear c4b0
           try clear c4b1
           try clear c5
           try clear c5b0
           try clear c6
           try clear c6b0
           try clear c6b1
           try clear c9
           try clear c9b0
           try clear c9b1
           try clear c11
           try clear c11b0
           try clear c14
           try clear c14b0
           try clear c14b1
           try clear c16
           try clear c16b0
           try clear c18
           try clear c18b0
           try clear c18b1
           try clear c22
           try clear c22b0
           try clear c23
           try clear c24
           try clear c24b0
           try clear c25
           try clear c25b0
           try clear c25b1
           try clear p2
           obtain ⟨x16_2, x18_2, rfl, rfl, HA, HK2, HB⟩ := hrel
           cases gk with
           | zero => exact absurd HA.out (by simp [bits_Div64.l1])
           | succ k2 =>
            have H := HA.out
            clear HA
            simp only [bits_Div64.l1] at H
            have HC26 := Aside0.mk H
            clear H
            go_upto_region 24 with (fail)
            repeat (go_quiet (fail); go_upto_region 24 with (fail))
            go_cut [113] (fun v113 wc => ∃ (kq : Nat) (x113_25 : Bool), v113 = .bool x113_25 ∧ Aside0 (bits_Div64.j4 kq ji10 ji8 ((ji10) / 4294967296) (Go.bits .and .u64 (ji10) 4294967295) (Go.bits .and .u64 (ji17) 4294967295) x15_18 x16_2 (IntKind.u64.wrap ((IntKind.u64.wrap ((IntKind.u64.wrap ((Go.bits .or .u64 (ji12) (ji15)) * 4294967296)) + ((ji17) / 4294967296))) - (IntKind.u64.wrap (x15_18 * ji10)))) x18_2 x113_25 = some (r1, r2)) ∧ Aside0 (kq ≤ k2) ∧ Aside0 (Below w.heap.size w wc))
            case first =>
             have H := HC26.out
             clear HC26
             by_cases c27 : x18_2 ≥ 4294967296
             ·rw [if_pos c27] at H
              have c27b0 : decide (4294967296 ≤ x18_2) = true := decide_eq_true c27
              clear c27
              (first | rw [c27b0] | (simp only [i64_w, i32_w]; rw [c27b0]) | skip)
              have H' := Aside0.mk H
              clear H
              go_wp2
              repeat (go_quiet (fail); try go_wp2)
              go_meet
              case rel => exact ⟨_, (true), ea_, H', ⟨by have := HJ18.out; have := HK2.out; first | omega | exact Nat.le_refl _⟩, ⟨bel⟩⟩
             ·rw [if_neg c27] at H
              have c27b0 : decide (4294967296 ≤ x18_2) = false := decide_eq_false c27
              clear c27
              (first | rw [c27b0] | (simp only [i64_w, i32_w]; rw [c27b0]) | skip)
              have H' := Aside0.mk H
              clear H
              go_wp2
              repeat (go_quiet (fail); try go_wp2)
              go_meet
              case rel => exact ⟨_, (decide ((IntKind.u64.wrap (x18_2 * (Go.bits .and .u64 (ji10) 4294967295))) > (IntKind.u64.wrap ((IntKind.u64.wrap (4294967296 * x16_2)) + (Go.bits .and .u64 (ji17) 4294967295))))), (by first | rfl | (simp; done) | (simp only [← hji10, ← hji17] <;> (first | rfl | simp)) | (simp [*]; done)), H', ⟨by have := HJ18.out; have := HK2.out; first | omega | exact Nat.le_refl _⟩, ⟨bel⟩⟩
            case rest =>
             clear HC26
             try clear c1
             try clear c2
             try clear p2
             try clear c4
             try clear c4b0
             try clear c4b1
             try clear c5
             try clear c5b0
             try clear c6
             try clear c6b0
             try clear c6b1
             try clear c9
             try clear c9b0
             try clear c9b1
             try clear c11
             try clear c11b0
             try clear c14
             try clear c14b0
             try clear c14b1
             try clear c16
             try clear c16b0
             try clear c18
             try clear c18b0
             try clear c18b1
             try clear c22
             try clear c22b0
             try clear c23
             try clear c24
             try clear c24b0
             try clear c25
             try clear c25b0
             try clear c25b1
             try clear c27
             try clear c27b0
             try clear p2
             obtain ⟨kq, x113_25, rfl, HA, HJ25, HB⟩ := hcut
             cases kq with
             | zero => exact absurd HA.out (by simp [bits_Div64.j4])
             | succ kj25 =>
              have H := HA.out
              clear HA
              simp only [bits_Div64.j4] at H
              by_cases c28 : x113_25 = true
              ·subst c28
               have H1 : (if (IntKind.u64.wrap (x16_2 + ((ji10) / 4294967296))) ≥ 4294967296 then (if 0 ≤ ji8 then (some (IntKind.u64.wrap ((IntKind.u64.wrap (x15_18 * 4294967296)) + (IntKind.u64.wrap (x18_2 - 1))), shr .u64 (IntKind.u64.wrap ((IntKind.u64.wrap ((IntKind.u64.wrap ((IntKind.u64.wrap ((IntKind.u64.wrap ((IntKind.u64.wrap ((Go.bits .or .u64 (ji12) (ji15)) * 4294967296)) + ((ji17) / 4294967296))) - (IntKind.u64.wrap (x15_18 * ji10)))) * 4294967296)) + (Go.bits .and .u64 (ji17) 4294967295))) - (IntKind.u64.wrap ((IntKind.u64.wrap (x18_2 - 1)) * ji10)))) ji8)) else (none)) else (bits_Div64.l1 kj25 ji10 ji8 ((ji10) / 4294967296) (Go.bits .and .u64 (ji10) 4294967295) (Go.bits .and .u64 (ji17) 4294967295) x15_18 (IntKind.u64.wrap (x16_2 + ((ji10) / 4294967296))) (IntKind.u64.wrap ((IntKind.u64.wrap ((IntKind.u64.wrap ((Go.bits .or .u64 (ji12) (ji15)) * 4294967296)) + ((ji17) / 4294967296))) - (IntKind.u64.wrap (x15_18 * ji10)))) (IntKind.u64.wrap (x18_2 - 1)))) = some (r1, r2) := by rw [if_pos rfl] at H; exact H
               clear H
               have H := H1
               clear H1
               by_cases c29 : (IntKind.u64.wrap (x16_2 + ((ji10) / 4294967296))) ≥ 4294967296
               ·rw [if_pos c29] at H
                have c29b0 : decide (4294967296 ≤ (IntKind.u64.wrap (x16_2 + ((ji10) / 4294967296)))) = true := decide_eq_true c29
                clear c29
                by_cases c30 : 0 ≤ ji8
                ·rw [if_pos c30] at H
                 have cq0 := eq_true c30
                 have cq1 : decide (0 ≤ ji8) = true := decide_eq_true c30
                 clear c30
                 obtain ⟨jiq0, hji31⟩ : ∃ j_ : Int, (shr .u64 (IntKind.u64.wrap ((IntKind.u64.wrap ((IntKind.u64.wrap ((IntKind.u64.wrap ((IntKind.u64.wrap ((IntKind.u64.wrap ((Go.bits .or .u64 (ji12) (ji15)) * 4294967296)) + ((ji17) / 4294967296))) - (IntKind.u64.wrap (x15_18 * ji10)))) * 4294967296)) + (Go.bits .and .u64 (ji17) 4294967295))) - (IntKind.u64.wrap ((IntKind.u64.wrap (x18_2 - 1)) * ji10)))) ji8) = j_ := ⟨_, rfl⟩
                 replace H : (some (IntKind.u64.wrap ((IntKind.u64.wrap (x15_18 * 4294967296)) + (IntKind.u64.wrap (x18_2 - 1))), jiq0)) = some (r1, r2) := by first | (rw [hji31] at H; exact H) | (simp only [hji31] at H ⊢; exact H)
                 have hji31_ : ((IntKind.u64.wrap ((IntKind.u64.wrap ((IntKind.u64.wrap ((IntKind.u64.wrap ((IntKind.u64.wrap ((IntKind.u64.wrap ((Go.bits .or .u64 (ji12) (ji15)) * 4294967296)) + ((ji17) / 4294967296))) - (IntKind.u64.wrap (x15_18 * ji10)))) * 4294967296)) + (Go.bits .and .u64 (ji17) 4294967295))) - (IntKind.u64.wrap ((IntKind.u64.wrap (x18_2 - 1)) * ji10)))) / 2 ^ min ji8.toNat 64) = jiq0 := hji31
                 have hji31z : ji8 ≤ 64 → ((IntKind.u64.wrap ((IntKind.u64.wrap ((IntKind.u64.wrap ((IntKind.u64.wrap ((IntKind.u64.wrap ((IntKind.u64.wrap ((Go.bits .or .u64 (ji12) (ji15)) * 4294967296)) + ((ji17) / 4294967296))) - (IntKind.u64.wrap (x15_18 * ji10)))) * 4294967296)) + (Go.bits .and .u64 (ji17) 4294967295))) - (IntKind.u64.wrap ((IntKind.u64.wrap (x18_2 - 1)) * ji10)))) / 2 ^ ji8.toNat) = jiq0 := shr_small hji31
                 simp only [Option.some.injEq, Prod.mk.injEq] at H
                 obtain ⟨rfl, rfl⟩ := H
                 go_wp2
                 repeat (go_quiet (fail); try go_wp2)
                 go_ret2
                 exact ⟨by first | rfl | (simp [errW_none, errW_some] <;> rfl) | (simp only [← hji8, ← hji10, ← hji12, ← hji13, ← hji15, ← hji17, ← hji31]; first | rfl | (simp [errW_none, errW_some] <;> rfl)) | (simp [*, errW_none, errW_some] <;> rfl), bel⟩
                ·rw [if_neg c30] at H
                 exact absurd H (by simp)
               ·rw [if_neg c29] at H
                have c29b0 : decide (4294967296 ≤ (IntKind.u64.wrap (x16_2 + ((ji10) / 4294967296)))) = false := decide_eq_false c29
                clear c29
                have H' := Aside0.mk H
                clear H
                go_wp2
                repeat (go_quiet (fail); try go_wp2)
                go_roundg kj25
                case measure => have := HJ18.out; have := HK2.out; have := HJ25.out; omega
                case rel => exact ⟨(IntKind.u64.wrap (x16_2 + ((ji10) / 4294967296))), (IntKind.u64.wrap (x18_2 - 1)), (by first | rfl | (simp; done) | (simp only [← hji10] <;> (first | rfl | simp)) | (simp [*]; done)), ea_, H', ⟨by have := HJ18.out; have := HK2.out; have := HJ25.out; omega⟩, ⟨bel⟩⟩
              ·replace c28 := Bool.eq_false_iff.mpr c28
               subst c28
               have H1 : (if 0 ≤ ji8 then (some (IntKind.u64.wrap ((IntKind.u64.wrap (x15_18 * 4294967296)) + x18_2), shr .u64 (IntKind.u64.wrap ((IntKind.u64.wrap ((IntKind.u64.wrap ((IntKind.u64.wrap ((IntKind.u64.wrap ((IntKind.u64.wrap ((Go.bits .or .u64 (ji12) (ji15)) * 4294967296)) + ((ji17) / 4294967296))) - (IntKind.u64.wrap (x15_18 * ji10)))) * 4294967296)) + (Go.bits .and .u64 (ji17) 4294967295))) - (IntKind.u64.wrap (x18_2 * ji10)))) ji8)) else (none)) = some (r1, r2) := by rw [if_neg (show ¬ (false = true) by decide)] at H; exact H
               clear H
               have H := H1
               clear H1
               by_cases c32 : 0 ≤ ji8
               ·rw [if_pos c32] at H
                have cq0 := eq_true c32
                have cq1 : decide (0 ≤ ji8) = true := decide_eq_true c32
                clear c32
                obtain ⟨jiq0, hji33⟩ : ∃ j_ : Int, (shr .u64 (IntKind.u64.wrap ((IntKind.u64.wrap ((IntKind.u64.wrap ((IntKind.u64.wrap ((IntKind.u64.wrap ((IntKind.u64.wrap ((Go.bits .or .u64 (ji12) (ji15)) * 4294967296)) + ((ji17) / 4294967296))) - (IntKind.u64.wrap (x15_18 * ji10)))) * 4294967296)) + (Go.bits .and .u64 (ji17) 4294967295))) - (IntKind.u64.wrap (x18_2 * ji10)))) ji8) = j_ := ⟨_, rfl⟩
                replace H : (some (IntKind.u64.wrap ((IntKind.u64.wrap (x15_18 * 4294967296)) + x18_2), jiq0)) = some (r1, r2) := by first | (rw [hji33] at H; exact H) | (simp only [hji33] at H ⊢; exact H)
                have hji33_ : ((IntKind.u64.wrap ((IntKind.u64.wrap ((IntKind.u64.wrap ((IntKind.u64.wrap ((IntKind.u64.wrap ((IntKind.u64.wrap ((Go.bits .or .u64 (ji12) (ji15)) * 4294967296)) + ((ji17) / 4294967296))) - (IntKind.u64.wrap (x15_18 * ji10)))) * 4294967296)) + (Go.bits .and .u64 (ji17) 4294967295))) - (IntKind.u64.wrap (x18_2 * ji10)))) / 2 ^ min ji8.toNat 64) = jiq0 := hji33
                have hji33z : ji8 ≤ 64 → ((IntKind.u64.wrap ((IntKind.u64.wrap ((IntKind.u64.wrap ((IntKind.u64.wrap ((IntKind.u64.wrap ((IntKind.u64.wrap ((Go.bits .or .u64 (ji12) (ji15)) * 4294967296)) + ((ji17) / 4294967296))) - (IntKind.u64.wrap (x15_18 * ji10)))) * 4294967296)) + (Go.bits .and .u64 (ji17) 4294967295))) - (IntKind.u64.wrap (x18_2 * ji10)))) / 2 ^ ji8.toNat) = jiq0 := shr_small hji33
                simp only [Option.some.injEq, Prod.mk.injEq] at H
                obtain ⟨rfl, rfl⟩ := H
                go_wp2
                repeat (go_quiet (fail); try go_wp2)
                go_ret2
                exact ⟨by first | rfl | (simp [errW_none, errW_some] <;> rfl) | (simp only [← hji8, ← hji10, ← hji12, ← hji13, ← hji15, ← hji17, ← hji33]; first | rfl | (simp [errW_none, errW_some] <;> rfl)) | (simp [*, errW_none, errW_some] <;> rfl), bel⟩
               ·rw [if_neg c32] at H
                exact absurd H (by simp)
     ·rw [if_neg c14] at H
      exact absurd H (by simp)
    ·rw [if_neg c9] at H
     exact absurd H (by simp)
def dec_wide_by.f (k : Nat) (a0_0 : Int) (a0_1 : Int) : Option (Int × Int × Int) := (bits_Div64.f k (Int.tmod a0_0 10) a0_1 10).bind fun bt104 => (some (IntKind.u64.wrap (Int.tdiv a0_0 10), bt104.1, bt104.2))
set_option maxHeartbeats 8000000 in
set_option maxRecDepth 100000 in
theorem dec_wide_by.calls (k : Nat) (a0_0 : Int) (a0_1 : Int) (r1 : Int) (r2 : Int) (r3 : Int) (w : World) (h : dec_wide_by.f k a0_0 a0_1 = some (r1, r2, r3)) :
  Calls Tryd.prog 77 #[.agg #[.int .u64 a0_0, .int .u64 a0_1]] w fun e w' => e = .returned (.tuple #[.agg #[.int .u64 r1, .int .u64 r2], .int .u64 r3]) ∧ Below w.heap.size w w' := by
 have hu77 := Tryd.underlying77
 have HB := Aside0.mk (Below.refl w.heap.size w)
 have H : ((bits_Div64.f k (Int.tmod a0_0 10) a0_1 10).bind fun bt104 => (some (IntKind.u64.wrap (Int.tdiv a0_0 10), bt104.1, bt104.2))) = some (r1, r2, r3) := h
 clear h
 replace H := Option.bind_eq_some_iff.mp H
 obtain ⟨⟨t104, t105⟩, A20, H⟩ := H
 replace H : (some (IntKind.u64.wrap (Int.tdiv a0_0 10), t104, t105)) = some (r1, r2, r3) := H
 have A2 := Aside0.mk A20
 clear A20
 simp only [Option.some.injEq, Prod.mk.injEq] at H
 obtain ⟨rfl, rfl, rfl⟩ := H
 go_enter Tryd.func77, Tryd.ntmps77
 go_wp2_with (first | ((with_reducible refine gate_dst (N := 1) rfl ?_); refine box_event ?hg (N := 1) ?hd (cs := #[.int .u64 a0_0, .int .u64 a0_1]) (t := 77) ?hr ?_; (case hd => rfl); (case hg => rfl); (case hr => first | (go_simp; done) | (go_simp; rfl)); intro gbq0 hg wq0 hbox hb; have n0_ := Aside0.mk (below_step bel hb); have n1_ := Aside0.mk (hbox); have n2_ := Aside0.mk ((by rw [hg]; exact (below_size bel) : w.heap.size ≤ gbq0)); have n3_ := Aside0.mk ((by rw [hg]; exact (below_size bel) : w.heap.size ≤ gbq0)); clear HB; have HB := n0_; have BKq0 := n1_; have GWq0 := n2_; have GEq0 := n3_; clear n0_ n1_ n2_ n3_; clear hb hbox hg) | ((with_reducible refine gate_dst (N := 2) rfl ?_); refine box_event ?hg (N := 2) ?hd (cs := #[.int .u64 0, .int .u64 0]) (t := 77) ?hr ?_; (case hd => rfl); (case hg => rfl); (case hr => first | (go_simp; done) | (go_simp; rfl)); intro gbq1 hg wq1 hbox hb; have n0_ := Aside0.mk (blk_below (bkk BKq0.out) hb); have n1_ := Aside0.mk (below_step bel hb); have n2_ := Aside0.mk (hbox); have n3_ := Aside0.mk ((by rw [hg]; exact (below_size bel) : w.heap.size ≤ gbq1)); have n4_ := Aside0.mk ((by rw [hg]; exact (below_size bel) : w.heap.size ≤ gbq1)); have n5_ := Aside0.mk ((by rw [hg]; exact Nat.ne_of_lt (blk_lt (bkk BKq0.out)) : gbq0 ≠ gbq1)); have n6_ := Aside0.mk ((by rw [hg]; exact Nat.ne_of_gt (blk_lt (bkk BKq0.out)) : gbq1 ≠ gbq0)); clear BKq0; clear HB; have BKq0 := n0_; have HB := n1_; have BKq1 := n2_; have GWq1 := n3_; have GEq1 := n4_; have NBq0 := n5_; have NBq1 := n6_; clear n0_ n1_ n2_ n3_ n4_ n5_ n6_; clear hb hbox hg; have hnbq0 := NBq0.out; have hncq0 := NBq1.out; have hczq0 : wq1.cell? ⟨gbq0, 0, none⟩ = some (.int .u64 a0_0) := (blk_cell BKq0.out 0).trans rfl; have hczq1 : wq1.cell? ⟨gbq0, 1, none⟩ = some (.int .u64 a0_1) := (blk_cell BKq0.out 1).trans rfl; have hfzq0 := blk_frozen BKq0.out 0; have hfzq1 := blk_frozen BKq0.out 1) | (go_at_call 97; (with_reducible refine (bits_Div64.calls k (Int.tmod a0_0 10) a0_1 10 t104 t105 _ A2.out).mono ?_); rintro e wq2 ⟨rfl, hb⟩; have n0_ := Aside0.mk (blk_below (bkk BKq0.out) hb); have n1_ := Aside0.mk (blk_below (bkk BKq1.out) hb); have n2_ := Aside0.mk (below_step bel hb); clear BKq0; clear BKq1; clear HB; have BKq0 := n0_; have BKq1 := n1_; have HB := n2_; clear n0_ n1_ n2_; (try clear hb); (try clear hb2); (try clear hk); (try clear hi); have hczq2 : wq2.cell? ⟨gbq1, 0, none⟩ = some (.int .u64 0) := (blk_cell BKq1.out 0).trans rfl; have hczq3 : wq2.cell? ⟨gbq1, 1, none⟩ = some (.int .u64 0) := (blk_cell BKq1.out 1).trans rfl; have hfzq2 := blk_frozen BKq1.out 0; have hfzq3 := blk_frozen BKq1.out 1))
 repeat (go_quiet (first | ((with_reducible refine gate_dst (N := 1) rfl ?_); refine box_event ?hg (N := 1) ?hd (cs := #[.int .u64 a0_0, .int .u64 a0_1]) (t := 77) ?hr ?_; (case hd => rfl); (case hg => rfl); (case hr => first | (go_simp; done) | (go_simp; rfl)); intro gbq0 hg wq0 hbox hb; have n0_ := Aside0.mk (below_step bel hb); have n1_ := Aside0.mk (hbox); have n2_ := Aside0.mk ((by rw [hg]; exact (below_size bel) : w.heap.size ≤ gbq0)); have n3_ := Aside0.mk ((by rw [hg]; exact (below_size bel) : w.heap.size ≤ gbq0)); clear HB; have HB := n0_; have BKq0 := n1_; have GWq0 := n2_; have GEq0 := n3_; clear n0_ n1_ n2_ n3_; clear hb hbox hg) | ((with_reducible refine gate_dst (N := 2) rfl ?_); refine box_event ?hg (N := 2) ?hd (cs := #[.int .u64 0, .int .u64 0]) (t := 77) ?hr ?_; (case hd => rfl); (case hg => rfl); (case hr => first | (go_simp; done) | (go_simp; rfl)); intro gbq1 hg wq1 hbox hb; have n0_ := Aside0.mk (blk_below (bkk BKq0.out) hb); have n1_ := Aside0.mk (below_step bel hb); have n2_ := Aside0.mk (hbox); have n3_ := Aside0.mk ((by rw [hg]; exact (below_size bel) : w.heap.size ≤ gbq1)); have n4_ := Aside0.mk ((by rw [hg]; exact (below_size bel) : w.heap.size ≤ gbq1)); have n5_ := Aside0.mk ((by rw [hg]; exact Nat.ne_of_lt (blk_lt (bkk BKq0.out)) : gbq0 ≠ gbq1)); have n6_ := Aside0.mk ((by rw [hg]; exact Nat.ne_of_gt (blk_lt (bkk BKq0.out)) : gbq1 ≠ gbq0)); clear BKq0; clear HB; have BKq0 := n0_; have HB := n1_; have BKq1 := n2_; have GWq1 := n3_; have GEq1 := n4_; have NBq0 := n5_; have NBq1 := n6_; clear n0_ n1_ n2_ n3_ n4_ n5_ n6_; clear hb hbox hg; have hnbq0 := NBq0.out; have hncq0 := NBq1.out; have hczq0 : wq1.cell? ⟨gbq0, 0, none⟩ = some (.int .u64 a0_0) := (blk_cell BKq0.out 0).trans rfl; have hczq1 : wq1.cell? ⟨gbq0, 1, none⟩ = some (.int .u64 a0_1) := (blk_cell BKq0.out 1).trans rfl; have hfzq0 := blk_frozen BKq0.out 0; have hfzq1 := blk_frozen BKq0.out 1) | (go_at_call 97; (with_reducible refine (bits_Div64.calls k (Int.tmod a0_0 10) a0_1 10 t104 t105 _ A2.out).mono ?_); rintro e wq2 ⟨rfl, hb⟩; have n0_ := Aside0.mk (blk_below (bkk BKq0.out) hb); have n1_ := Aside0.mk (blk_below (bkk BKq1.out) hb); have n2_ := Aside0.mk (below_step bel hb); clear BKq0; clear BKq1; clear HB; have BKq0 := n0_; have BKq1 := n1_; have HB := n2_; clear n0_ n1_ n2_; (try clear hb); (try clear hb2); (try clear hk); (try clear hi); have hczq2 : wq2.cell? ⟨gbq1, 0, none⟩ = some (.int .u64 0) := (blk_cell BKq1.out 0).trans rfl; have hczq3 : wq2.cell? ⟨gbq1, 1, none⟩ = some (.int .u64 0) := (blk_cell BKq1.out 1).trans rfl; have hfzq2 := blk_frozen BKq1.out 0; have hfzq3 := blk_frozen BKq1.out 1)); try go_wp2_with (first | ((with_reducible refine gate_dst (N := 1) rfl ?_); refine box_event ?hg (N := 1) ?hd (cs := #[.int .u64 a0_0, .int .u64 a0_1]) (t := 77) ?hr ?_; (case hd => rfl); (case hg => rfl); (case hr => first | (go_simp; done) | (go_simp; rfl)); intro gbq0 hg wq0 hbox hb; have n0_ := Aside0.mk (below_step bel hb); have n1_ := Aside0.mk (hbox); have n2_ := Aside0.mk ((by rw [hg]; exact (below_size bel) : w.heap.size ≤ gbq0)); have n3_ := Aside0.mk ((by rw [hg]; exact (below_size bel) : w.heap.size ≤ gbq0)); clear HB; have HB := n0_; have BKq0 := n1_; have GWq0 := n2_; have GEq0 := n3_; clear n0_ n1_ n2_ n3_; clear hb hbox hg) | ((with_reducible refine gate_dst (N := 2) rfl ?_); refine box_event ?hg (N := 2) ?hd (cs := #[.int .u64 0, .int .u64 0]) (t := 77) ?hr ?_; (case hd => rfl); (case hg => rfl); (case hr => first | (go_simp; done) | (go_simp; rfl)); intro gbq1 hg wq1 hbox hb; have n0_ := Aside0.mk (blk_below (bkk BKq0.out) hb); have n1_ := Aside0.mk (below_step bel hb); have n2_ := Aside0.mk (hbox); have n3_ := Aside0.mk ((by rw [hg]; exact (below_size bel) : w.heap.size ≤ gbq1)); have n4_ := Aside0.mk ((by rw [hg]; exact (below_size bel) : w.heap.size ≤ gbq1)); have n5_ := Aside0.mk ((by rw [hg]; exact Nat.ne_of_lt (blk_lt (bkk BKq0.out)) : gbq0 ≠ gbq1)); have n6_ := Aside0.mk ((by rw [hg]; exact Nat.ne_of_gt (blk_lt (bkk BKq0.out)) : gbq1 ≠ gbq0)); clear BKq0; clear HB; have BKq0 := n0_; have HB := n1_; have BKq1 := n2_; have GWq1 := n3_; have GEq1 := n4_; have NBq0 := n5_; have NBq1 := n6_; clear n0_ n1_ n2_ n3_ n4_ n5_ n6_; clear hb hbox hg; have hnbq0 := NBq0.out; have hncq0 := NBq1.out; have hczq0 : wq1.cell? ⟨gbq0, 0, none⟩ = some (.int .u64 a0_0) := (blk_cell BKq0.out 0).trans rfl; have hczq1 : wq1.cell? ⟨gbq0, 1, none⟩ = some (.int .u64 a0_1) := (blk_cell BKq0.out 1).trans rfl; have hfzq0 := blk_frozen BKq0.out 0; have hfzq1 := blk_frozen BKq0.out 1) | (go_at_call 97; (with_reducible refine (bits_Div64.calls k (Int.tmod a0_0 10) a0_1 10 t104 t105 _ A2.out).mono ?_); rintro e wq2 ⟨rfl, hb⟩; have n0_ := Aside0.mk (blk_below (bkk BKq0.out) hb); have n1_ := Aside0.mk (blk_below (bkk BKq1.out) hb); have n2_ := Aside0.mk (below_step bel hb); clear BKq0; clear BKq1; clear HB; have BKq0 := n0_; have BKq1 := n1_; have HB := n2_; clear n0_ n1_ n2_; (try clear hb); (try clear hb2); (try clear hk); (try clear hi); have hczq2 : wq2.cell? ⟨gbq1, 0, none⟩ = some (.int .u64 0) := (blk_cell BKq1.out 0).trans rfl; have hczq3 : wq2.cell? ⟨gbq1, 1, none⟩ = some (.int .u64 0) := (blk_cell BKq1.out 1).trans rfl; have hfzq2 := blk_frozen BKq1.out 0; have hfzq3 := blk_frozen BKq1.out 1)))
 refine bodyPost_ret (results_ct rfl _ _ gbq1 77 #[.int .u64 (IntKind.u64.wrap (Int.tdiv a0_0 10)), .int .u64 t104] (0, 0) _ rfl (by (with_reducible repeat (first | refine blk_drewN ?_ _ | refine blk_drew ?_ | refine blk_alloc ?_ _)); refine blk_put (cs := #[.int .u64 (IntKind.u64.wrap (Int.tdiv a0_0 10)), .int .u64 0]) ?_ 1 _ rfl; (with_reducible repeat (first | refine blk_drewN ?_ _ | refine blk_drew ?_ | refine blk_alloc ?_ _)); refine blk_put (cs := #[.int .u64 0, .int .u64 0]) ?_ 0 _ rfl; (with_reducible repeat (first | refine blk_drewN ?_ _ | refine blk_drew ?_ | refine blk_alloc ?_ _)); exact BKq1.out) Tryd.underlying77 rfl (by kernel_rfl)) rfl ?_
 exact ⟨ee_, bel⟩
end Go.Proofs.YtnhgnejfagncpaaDoor.A
end
section
namespace Go.Proofs.YtnhgnejfagncpaaDoor.A
open Go.RowKit Go.Proofs.YtnhgnejfagncpaaDoorW.PrintWords Go.Proofs.YtnhgnejfagncpaaDoorW.PrintLast Go.Proofs.YtnhgnejfagncpaaDoorW.PrintMore Go.Proofs.YtnhgnejfagncpaaDoor.H
attribute [local go_sem] max2_int min2_int max_two min_two max_three min_three max_four min_four   -- for this text's walks alone
set_option linter.unusedVariables false
set_option linter.unusedSimpArgs false
mutual
def dec_tell.j1 : Nat → Bool → Int → Int → Int → Option (Int × Int × Int)
 | 0, _, _, _, _ => none
 | k + 1, x0, x2, x107000, x107001 => if x107000 = 0 then (if x107001 > 999999999999999999 then (dec_tell.j2 k x0 x2 true x107000 x107001) else (dec_tell.j2 k x0 x2 (decide (x2 > 9)) x107000 x107001)) else (dec_tell.j2 k x0 x2 true x107000 x107001)
def dec_tell.j2 : Nat → Bool → Int → Bool → Int → Int → Option (Int × Int × Int)
 | 0, _, _, _, _, _ => none
 | k + 1, x0, x2, x34, x107000, x107001 => if x34 = true then (some (0, 0, 5)) else (if x0 = true then (some (wrap64 (-(wrap64 (x107001))), x2, 0)) else (some (wrap64 (x107001), x2, 0)))
def dec_tell.l0 : Nat → Bool → Int → Int → Int → Option (Int × Int × Int)
 | 0, _, _, _, _ => none
 | k + 1, x0, x2, x107000, x107001 => if x2 > 0 then ((dec_wide_by.f k x107000 x107001).bind fun bt108 => (if bt108.2.2 = 0 then (dec_tell.l0 k x0 (wrap64 (x2 - 1)) bt108.1 bt108.2.1) else (dec_tell.j1 k x0 x2 x107000 x107001))) else (dec_tell.j1 k x0 x2 x107000 x107001)
end
def dec_tell.f (k : Nat) (a0 : Bool) (a1_0 : Int) (a1_1 : Int) (a2 : Int) : Option (Int × Int × Int) := dec_tell.l0 k a0 a2 a1_0 a1_1
set_option maxHeartbeats 8000000 in
set_option maxRecDepth 100000 in
theorem dec_tell.calls (k : Nat) (a0 : Bool) (a1_0 : Int) (a1_1 : Int) (a2 : Int) (r1 : Int) (r2 : Int) (r3 : Int) (w : World) (h : dec_tell.f k a0 a1_0 a1_1 a2 = some (r1, r2, r3)) :
  Calls Tryd.prog 41 #[.bool a0, .agg #[.int .u64 a1_0, .int .u64 a1_1], .int .i64 a2] w fun e w' => e = .returned (.tuple #[.agg #[.int .i64 r1, .int .i64 r2], .int .i64 r3]) ∧ Below w.heap.size w w' := by
 have hu77 := Tryd.underlying77
 have hu25 := Tryd.underlying25
 have HB := Aside0.mk (Below.refl w.heap.size w)
 have H : (dec_tell.l0 k a0 a2 a1_0 a1_1) = some (r1, r2, r3) := h
 clear h
 have HC4 := Aside0.mk H
 clear H
 go_enter Tryd.func41, Tryd.ntmps41
 go_upto_block 0 with (first | ((with_reducible refine gate_dst (N := 4) rfl ?_); refine box_event ?hg (N := 4) ?hd (cs := #[.int .u64 a1_0, .int .u64 a1_1]) (t := 77) ?hr ?_; (case hd => rfl); (case hg => rfl); (case hr => first | (go_simp; done) | (go_simp; rfl)); intro gb106 hg w5 hbox hb; have n0_ := Aside0.mk (below_step bel hb); have n1_ := Aside0.mk (hbox); have n2_ := Aside0.mk ((by rw [hg]; exact (below_size bel) : w.heap.size ≤ gb106)); have n3_ := Aside0.mk ((by rw [hg]; exact (below_size bel) : w.heap.size ≤ gb106)); clear HB; have HB := n0_; have BK106 := n1_; have GW106 := n2_; have GE106 := n3_; clear n0_ n1_ n2_ n3_; clear hb hbox hg) | ((with_reducible refine gate_dst (N := 6) rfl ?_); refine box_event ?hg (N := 6) ?hd (cs := #[.int .i64 0, .int .i64 0]) (t := 25) ?hr ?_; (case hd => rfl); (case hg => rfl); (case hr => first | (go_simp; done) | (go_simp; rfl)); intro gb107 hg w6 hbox hb; have n0_ := Aside0.mk (blk_below (bkk BK106.out) hb); have n1_ := Aside0.mk (below_step bel hb); have n2_ := Aside0.mk (hbox); have n3_ := Aside0.mk ((by rw [hg]; exact (below_size bel) : w.heap.size ≤ gb107)); have n4_ := Aside0.mk ((by rw [hg]; exact (below_size bel) : w.heap.size ≤ gb107)); have n5_ := Aside0.mk ((by rw [hg]; exact Nat.ne_of_lt (blk_lt (bkk BK106.out)) : gb106 ≠ gb107)); have n6_ := Aside0.mk ((by rw [hg]; exact Nat.ne_of_gt (blk_lt (bkk BK106.out)) : gb107 ≠ gb106)); clear BK106; clear HB; have BK106 := n0_; have HB := n1_; have BK107 := n2_; have GW107 := n3_; have GE107 := n4_; have NB106_107 := n5_; have NB107_106 := n6_; clear n0_ n1_ n2_ n3_ n4_ n5_ n6_; clear hb hbox hg))
 (try simp only [Act.put, List.setIfInBounds_toArray, List.set_cons_zero, List.set_cons_succ])
 go_cut [2] (fun v2 wc => ∃ (kq : Nat) (x2_3 : Int) (x107000_3 : Int) (x107001_3 : Int), v2 = .int .i64 x2_3 ∧ Aside0 (dec_tell.j1 kq a0 x2_3 x107000_3 x107001_3 = some (r1, r2, r3)) ∧ Aside0 (kq ≤ k) ∧ Aside0 (wc.heap[gb106]? = some (.cells #[.int .u64 x107000_3, .int .u64 x107001_3] 77 (0, 0))) ∧ Aside0 (wc.heap[gb107]? = some (.cells #[.int .i64 0, .int .i64 0] 25 (0, 0))) ∧ Aside0 (Below w.heap.size w wc))
 case first =>
  have H := HC4.out
  clear HC4
  have H' := Aside0.mk H
  clear H
  go_wp2
  go_loopg [2] k (fun kq v2 w' => ∃ (x2_1 : Int) (x107000_1 : Int) (x107001_1 : Int), v2 = .int .i64 x2_1 ∧ Aside0 (dec_tell.l0 kq a0 x2_1 x107000_1 x107001_1 = some (r1, r2, r3)) ∧ Aside0 (kq ≤ k) ∧ Aside0 (w'.heap[gb106]? = some (.cells #[.int .u64 x107000_1, .int .u64 x107001_1] 77 (0, 0))) ∧ Aside0 (w'.heap[gb107]? = some (.cells #[.int .i64 0, .int .i64 0] 25 (0, 0))) ∧ Aside0 (Below w.heap.size w w'))
  case atStart => exact ⟨(a2), (a1_0), (a1_1), ea_, H', ⟨Nat.le_refl _⟩, ⟨bkk BK106.out⟩, ⟨bkk BK107.out⟩, ⟨bel⟩⟩
  case round =>
   clear H'
   try clear p2
   try clear c4
   obtain ⟨x2_1, x107000_1, x107001_1, rfl, HA, HK1, BK106, BK107, HB⟩ := hrel
   cases gk with
   | zero => exact absurd HA.out (by simp [dec_tell.l0])
   | succ k1 =>
    have H := HA.out
    clear HA
    simp only [dec_tell.l0] at H
    by_cases c7 : x2_1 > 0
    ·rw [if_pos c7] at H
     have c7b0 : decide (0 < x2_1) = true := decide_eq_true c7
     clear c7
     (first | rw [c7b0] | (simp only [i64_w, i32_w]; rw [c7b0]) | skip)
     replace H := Option.bind_eq_some_iff.mp H
     obtain ⟨⟨t108, t109, t110⟩, A80, H⟩ := H
     replace H : (if t110 = 0 then (dec_tell.l0 k1 a0 (wrap64 (x2_1 - 1)) t108 t109) else (dec_tell.j1 k1 a0 x2_1 x107000_1 x107001_1)) = some (r1, r2, r3) := H
     have A8 := Aside0.mk A80
     clear A80
     by_cases c9 : t110 = 0
     ·rw [if_pos c9] at H
      have c9b0 : (t110 == 0) = true := beq_iff_eq.mpr c9
      have c9b1 : (t110 != 0) = false := bne_eq_false_iff_eq.mpr c9
      clear c9
      have H' := Aside0.mk H
      clear H
      have hnb10 := NB106_107.out
      have hnc10 := NB107_106.out
      have hcz11_0 : wr.cell? ⟨gb106, 0, none⟩ = some (.int .u64 x107000_1) := (blk_cell BK106.out 0).trans rfl
      have hcz11_1 : wr.cell? ⟨gb106, 1, none⟩ = some (.int .u64 x107001_1) := (blk_cell BK106.out 1).trans rfl
      have hfz11_0 := blk_frozen BK106.out 0
      have hfz11_1 := blk_frozen BK106.out 1
      go_wp2_with (first | ((with_reducible refine gate_callee (f := 77) rfl ?_); refine goesL_ (some 15) rfl rfl Tryd.func77 (by kernel_rfl) rfl #[.agg #[.int .u64 x107000_1, .int .u64 x107001_1]] rfl gl_ ?_; (with_reducible refine (dec_wide_by.calls k1 x107000_1 x107001_1 t108 t109 t110 _ A8.out).mono ?_); rintro e w12 ⟨rfl, hb⟩; refine ⟨_, rfl, ?_⟩; have n0_ := Aside0.mk (blk_below (bkk BK106.out) hb); have n1_ := Aside0.mk (blk_below (bkk BK107.out) hb); have n2_ := Aside0.mk (below_step bel hb); clear BK106; clear BK107; clear HB; have BK106 := n0_; have BK107 := n1_; have HB := n2_; clear n0_ n1_ n2_; (try clear hb); (try clear hb2); (try clear hk); (try clear hi)) | ((with_reducible refine gate_dst (N := 8) rfl ?_); refine box_event ?hg (N := 8) ?hd (cs := #[.int .u64 0, .int .u64 0]) (t := 77) ?hr ?_; (case hd => rfl); (case hg => rfl); (case hr => first | (go_simp; done) | (go_simp; rfl)); intro gb111 hg w13 hbox hb; have n0_ := Aside0.mk (blk_below (bkk BK106.out) hb); have n1_ := Aside0.mk (blk_below (bkk BK107.out) hb); have n2_ := Aside0.mk (below_step bel hb); have n3_ := Aside0.mk (hbox); have n4_ := Aside0.mk ((by rw [hg]; exact (below_size bel) : w.heap.size ≤ gb111)); have n5_ := Aside0.mk ((by rw [hg]; exact (below_size bel) : w.heap.size ≤ gb111)); have n6_ := Aside0.mk ((by rw [hg]; exact Nat.ne_of_lt (blk_lt (bkk BK106.out)) : gb106 ≠ gb111)); have n7_ := Aside0.mk ((by rw [hg]; exact Nat.ne_of_gt (blk_lt (bkk BK106.out)) : gb111 ≠ gb106)); have n8_ := Aside0.mk ((by rw [hg]; exact Nat.ne_of_lt (blk_lt (bkk BK107.out)) : gb107 ≠ gb111)); have n9_ := Aside0.mk ((by rw [hg]; exact Nat.ne_of_gt (blk_lt (bkk BK107.out)) : gb111 ≠ gb107)); clear BK106; clear BK107; clear HB; have BK106 := n0_; have BK107 := n1_; have HB := n2_; have BK111 := n3_; have GW111 := n4_; have GE111 := n5_; have NB106_111 := n6_; have NB111_106 := n7_; have NB107_111 := n8_; have NB111_107 := n9_; clear n0_ n1_ n2_ n3_ n4_ n5_ n6_ n7_ n8_ n9_; clear hb hbox hg; have hnb14 := NB111_106.out; have hnc14 := NB106_111.out; have hnb15 := NB111_107.out; have hnc15 := NB107_111.out; have hcz16_0 : w13.cell? ⟨gb111, 0, none⟩ = some (.int .u64 0) := (blk_cell BK111.out 0).trans rfl; have hcz16_1 : w13.cell? ⟨gb111, 1, none⟩ = some (.int .u64 0) := (blk_cell BK111.out 1).trans rfl; have hfz16_0 := blk_frozen BK111.out 0; have hfz16_1 := blk_frozen BK111.out 1; have hcz17_0 : w13.cell? ⟨gb106, 0, none⟩ = some (.int .u64 x107000_1) := (blk_cell BK106.out 0).trans rfl; have hcz17_1 : w13.cell? ⟨gb106, 1, none⟩ = some (.int .u64 x107001_1) := (blk_cell BK106.out 1).trans rfl; have hfz17_0 := blk_frozen BK106.out 0; have hfz17_1 := blk_frozen BK106.out 1))
      go_roundg k1
      case measure => have := HK1.out; omega
      case rel => exact ⟨(wrap64 (x2_1 - 1)), (t108), (t109), ea_, H', ⟨by have := HK1.out; omega⟩, ⟨by (with_reducible repeat (first | refine blk_drewN ?_ _ | refine blk_drew ?_ | refine blk_alloc ?_ _)); refine blk_put (cs := #[.int .u64 t108, .int .u64 x107001_1]) ?_ 1 _ rfl; (with_reducible repeat (first | refine blk_drewN ?_ _ | refine blk_drew ?_ | refine blk_alloc ?_ _)); refine blk_put (cs := #[.int .u64 x107000_1, .int .u64 x107001_1]) ?_ 0 _ rfl; (with_reducible repeat (first | refine blk_drewN ?_ _ | refine blk_drew ?_ | refine blk_alloc ?_ _)); refine blk_far ?_ NB106_111.out _; (with_reducible repeat (first | refine blk_drewN ?_ _ | refine blk_drew ?_ | refine blk_alloc ?_ _)); refine blk_far ?_ NB106_111.out _; (with_reducible repeat (first | refine blk_drewN ?_ _ | refine blk_drew ?_ | refine blk_alloc ?_ _)); exact BK106.out⟩, ⟨blks⟩, ⟨bel⟩⟩
     ·rw [if_neg c9] at H
      have c9b0 : (t110 == 0) = false := beq_eq_false_iff_ne.mpr c9
      have c9b1 : (t110 != 0) = true := bne_iff_ne.mpr c9
      have H' := Aside0.mk H
      clear H
      have hnb18 := NB106_107.out
      have hnc18 := NB107_106.out
      have hcz19_0 : wr.cell? ⟨gb106, 0, none⟩ = some (.int .u64 x107000_1) := (blk_cell BK106.out 0).trans rfl
      have hcz19_1 : wr.cell? ⟨gb106, 1, none⟩ = some (.int .u64 x107001_1) := (blk_cell BK106.out 1).trans rfl
      have hfz19_0 := blk_frozen BK106.out 0
      have hfz19_1 := blk_frozen BK106.out 1
      go_wp2_with (first | ((with_reducible refine gate_callee (f := 77) rfl ?_); refine goesL_ (some 15) rfl rfl Tryd.func77 (by kernel_rfl) rfl #[.agg #[.int .u64 x107000_1, .int .u64 x107001_1]] rfl gl_ ?_; (with_reducible refine (dec_wide_by.calls k1 x107000_1 x107001_1 t108 t109 t110 _ A8.out).mono ?_); rintro e w20 ⟨rfl, hb⟩; refine ⟨_, rfl, ?_⟩; have n0_ := Aside0.mk (blk_below (bkk BK106.out) hb); have n1_ := Aside0.mk (blk_below (bkk BK107.out) hb); have n2_ := Aside0.mk (below_step bel hb); clear BK106; clear BK107; clear HB; have BK106 := n0_; have BK107 := n1_; have HB := n2_; clear n0_ n1_ n2_; (try clear hb); (try clear hb2); (try clear hk); (try clear hi)) | ((with_reducible refine gate_dst (N := 8) rfl ?_); refine box_event ?hg (N := 8) ?hd (cs := #[.int .u64 0, .int .u64 0]) (t := 77) ?hr ?_; (case hd => rfl); (case hg => rfl); (case hr => first | (go_simp; done) | (go_simp; rfl)); intro gb111 hg w21 hbox hb; have n0_ := Aside0.mk (blk_below (bkk BK106.out) hb); have n1_ := Aside0.mk (blk_below (bkk BK107.out) hb); have n2_ := Aside0.mk (below_step bel hb); have n3_ := Aside0.mk (hbox); have n4_ := Aside0.mk ((by rw [hg]; exact (below_size bel) : w.heap.size ≤ gb111)); have n5_ := Aside0.mk ((by rw [hg]; exact (below_size bel) : w.heap.size ≤ gb111)); have n6_ := Aside0.mk ((by rw [hg]; exact Nat.ne_of_lt (blk_lt (bkk BK106.out)) : gb106 ≠ gb111)); have n7_ := Aside0.mk ((by rw [hg]; exact Nat.ne_of_gt (blk_lt (bkk BK106.out)) : gb111 ≠ gb106)); have n8_ := Aside0.mk ((by rw [hg]; exact Nat.ne_of_lt (blk_lt (bkk BK107.out)) : gb107 ≠ gb111)); have n9_ := Aside0.mk ((by rw [hg]; exact Nat.ne_of_gt (blk_lt (bkk BK107.out)) : gb111 ≠ gb107)); clear BK106; clear BK107; clear HB; have BK106 := n0_; have BK107 := n1_; have HB := n2_; have BK111 := n3_; have GW111 := n4_; have GE111 := n5_; have NB106_111 := n6_; have NB111_106 := n7_; have NB107_111 := n8_; have NB111_107 := n9_; clear n0_ n1_ n2_ n3_ n4_ n5_ n6_ n7_ n8_ n9_; clear hb hbox hg; have hnb22 := NB111_106.out; have hnc22 := NB106_111.out; have hnb23 := NB111_107.out; have hnc23 := NB107_111.out; have hcz24_0 : w21.cell? ⟨gb111, 0, none⟩ = some (.int .u64 0) := (blk_cell BK111.out 0).trans rfl; have hcz24_1 : w21.cell? ⟨gb111, 1, none⟩ = some (.int .u64 0) := (blk_cell BK111.out 1).trans rfl; have hfz24_0 := blk_frozen BK111.out 0; have hfz24_1 := blk_frozen BK111.out 1))
      go_meet
      case rel => exact ⟨_, (x2_1), (x107000_1), (x107001_1), ea_, H', ⟨by have := HK1.out; first | omega | exact Nat.le_refl _⟩, ⟨blks⟩, ⟨blks⟩, ⟨bel⟩⟩
    ·rw [if_neg c7] at H
     have c7b0 : decide (0 < x2_1) = false := decide_eq_false c7
     clear c7
     (first | rw [c7b0] | (simp only [i64_w, i32_w]; rw [c7b0]) | skip)
     have H' := Aside0.mk H
     clear H
     go_wp2
     go_meet
     case rel => exact ⟨_, (x2_1), (x107000_1), (x107001_1), ea_, H', ⟨by have := HK1.out; first | omega | exact Nat.le_refl _⟩, ⟨bkk BK106.out⟩, ⟨bkk BK107.out⟩, ⟨bel⟩⟩
 case rest =>
  clear HC4
  try clear c1
  try clear c2
  try clear p2
  try clear c4
  try clear p6
  try clear c7
  try clear c7b0
  try clear c9
  try clear c9b0
  try clear c9b1
  try clear c10
  try clear c14
  try clear c15
  try clear c18
  try clear c22
  try clear c23
  try clear hcz11_0
  try clear hcz11_1
  try clear hcz16_0
  try clear hcz16_1
  try clear hcz17_0
  try clear hcz17_1
  try clear hcz19_0
  try clear hcz19_1
  try clear hcz24_0
  try clear hcz24_1
  try clear hfz11_0
  try clear hfz11_1
  try clear hfz16_0
  try clear hfz16_1
  try clear hfz17_0
  try clear hfz17_1
  try clear hfz19_0
  try clear hfz19_1
  try clear hfz24_0
  try clear hfz24_1
  try clear p2
  obtain ⟨kq, x2_3, x107000_3, x107001_3, rfl, HA, HJ3, BK106, BK107, HB⟩ := hcut
  cases kq with
  | zero => exact absurd HA.out (by simp [dec_tell.j1])
  | succ kj3 =>
   have H := HA.out
   clear HA
   simp only [dec_tell.j1] at H
   have HC25 := Aside0.mk H
   clear H
   go_upto_region 5 with (fail)
   go_cut [34] (fun v34 wc => ∃ (kq : Nat) (x34_24 : Bool), v34 = .bool x34_24 ∧ Aside0 (dec_tell.j2 kq a0 x2_3 x34_24 x107000_3 x107001_3 = some (r1, r2, r3)) ∧ Aside0 (kq ≤ kj3) ∧ Aside0 (wc.heap[gb106]? = some (.cells #[.int .u64 x107000_3, .int .u64 x107001_3] 77 (0, 0))) ∧ Aside0 (wc.heap[gb107]? = some (.cells #[.int .i64 0, .int .i64 0] 25 (0, 0))) ∧ Aside0 (Below w.heap.size w wc))
   case first =>
    have H := HC25.out
    clear HC25
    by_cases c26 : x107000_3 = 0
    ·rw [if_pos c26] at H
     have c26b0 : (x107000_3 == 0) = true := beq_iff_eq.mpr c26
     have c26b1 : (x107000_3 != 0) = false := bne_eq_false_iff_eq.mpr c26
     clear c26
     (first | rw [c26b0] | (simp only [i64_w, i32_w]; rw [c26b0]) | skip)
     by_cases c27 : x107001_3 > 999999999999999999
     ·rw [if_pos c27] at H
      have c27b0 : decide (999999999999999999 < x107001_3) = true := decide_eq_true c27
      clear c27
      have H' := Aside0.mk H
      clear H
      have hnb28 := NB106_107.out
      have hnc28 := NB107_106.out
      have hcz29_0 : wc.cell? ⟨gb106, 0, none⟩ = some (.int .u64 x107000_3) := (blk_cell BK106.out 0).trans rfl
      have hcz29_1 : wc.cell? ⟨gb106, 1, none⟩ = some (.int .u64 x107001_3) := (blk_cell BK106.out 1).trans rfl
      have hfz29_0 := blk_frozen BK106.out 0
      have hfz29_1 := blk_frozen BK106.out 1
      go_wp2
      go_meet
      case rel => exact ⟨_, (true), ea_, H', ⟨by have := HJ3.out; first | omega | exact Nat.le_refl _⟩, ⟨bkk BK106.out⟩, ⟨bkk BK107.out⟩, ⟨bel⟩⟩
     ·rw [if_neg c27] at H
      have c27b0 : decide (999999999999999999 < x107001_3) = false := decide_eq_false c27
      clear c27
      have H' := Aside0.mk H
      clear H
      have hnb30 := NB106_107.out
      have hnc30 := NB107_106.out
      have hcz31_0 : wc.cell? ⟨gb106, 0, none⟩ = some (.int .u64 x107000_3) := (blk_cell BK106.out 0).trans rfl
      have hcz31_1 : wc.cell? ⟨gb106, 1, none⟩ = some (.int .u64 x107001_3) := (blk_cell BK106.out 1).trans rfl
      have hfz31_0 := blk_frozen BK106.out 0
      have hfz31_1 := blk_frozen BK106.out 1
      go_wp2
      go_meet
      case rel => exact ⟨_, (decide (x2_3 > 9)), ea_, H', ⟨by have := HJ3.out; first | omega | exact Nat.le_refl _⟩, ⟨bkk BK106.out⟩, ⟨bkk BK107.out⟩, ⟨bel⟩⟩
    ·rw [if_neg c26] at H
     have c26b0 : (x107000_3 == 0) = false := beq_eq_false_iff_ne.mpr c26
     have c26b1 : (x107000_3 != 0) = true := bne_iff_ne.mpr c26
     (first | rw [c26b0] | (simp only [i64_w, i32_w]; rw [c26b0]) | skip)
     have H' := Aside0.mk H
     clear H
     have hnb32 := NB106_107.out
     have hnc32 := NB107_106.out
     have hcz33_0 : wc.cell? ⟨gb106, 0, none⟩ = some (.int .u64 x107000_3) := (blk_cell BK106.out 0).trans rfl
     have hcz33_1 : wc.cell? ⟨gb106, 1, none⟩ = some (.int .u64 x107001_3) := (blk_cell BK106.out 1).trans rfl
     have hfz33_0 := blk_frozen BK106.out 0
     have hfz33_1 := blk_frozen BK106.out 1
     go_wp2
     go_meet
     case rel => exact ⟨_, (true), ea_, H', ⟨by have := HJ3.out; first | omega | exact Nat.le_refl _⟩, ⟨bkk BK106.out⟩, ⟨bkk BK107.out⟩, ⟨bel⟩⟩
   case rest =>
    clear HC25
    try clear c1
    try clear c2
    try clear p2
    try clear c3
    try clear c4
    try clear p6
    try clear c7
    try clear c7b0
    try clear c9
    try clear c9b0
    try clear c9b1
    try clear c10
    try clear c14
    try clear c15
    try clear c18
    try clear c22
    try clear c23
    try clear c26
    try clear c26b0
    try clear c26b1
    try clear c27
    try clear c27b0
    try clear c28
    try clear c30
    try clear c32
    try clear hcz11_0
    try clear hcz11_1
    try clear hcz16_0
    try clear hcz16_1
    try clear hcz17_0
    try clear hcz17_1
    try clear hcz19_0
    try clear hcz19_1
    try clear hcz24_0
    try clear hcz24_1
    try clear hcz29_0
    try clear hcz29_1
    try clear hcz31_0
    try clear hcz31_1
    try clear hcz33_0
    try clear hcz33_1
    try clear hfz11_0
    try clear hfz11_1
    try clear hfz16_0
    try clear hfz16_1
    try clear hfz17_0
    try clear hfz17_1
    try clear hfz19_0
    try clear hfz19_1
    try clear hfz24_0
    try clear hfz24_1
    try clear hfz29_0
    try clear hfz29_1
    try clear hfz31_0
    try clear hfz31_1
    try clear hfz33_0
    try clear hfz33_1
    try clear p2
    try clear p6
    obtain ⟨kq, x34_24, rfl, HA, HJ24, BK106, BK107, HB⟩ := hcut
    cases kq with
    | zero => exact absurd HA.out (by simp [dec_tell.j2])
    | succ kj24 =>
     have H := HA.out
     clear HA
     simp only [dec_tell.j2] at H
     by_cases c34 : x34_24 = true
     ·subst c34
      have H1 : (some (0, 0, 5)) = some (r1, r2, r3) := by rw [if_pos rfl] at H; exact H
      clear H
      have H := H1
      clear H1
      simp only [Option.some.injEq, Prod.mk.injEq] at H
      obtain ⟨rfl, rfl, rfl⟩ := H
      have hnbq0 := NB107_106.out
      have hncq0 := NB106_107.out
      have hczq0 : wc.cell? ⟨gb107, 0, none⟩ = some (.int .i64 0) := (blk_cell BK107.out 0).trans rfl
      have hczq1 : wc.cell? ⟨gb107, 1, none⟩ = some (.int .i64 0) := (blk_cell BK107.out 1).trans rfl
      have hfzq0 := blk_frozen BK107.out 0
      have hfzq1 := blk_frozen BK107.out 1
      go_wp2
      refine bodyPost_ret (results_ct rfl _ _ gb107 25 #[.int .i64 0, .int .i64 0] (0, 0) _ rfl (by (with_reducible repeat (first | refine blk_drewN ?_ _ | refine blk_drew ?_ | refine blk_alloc ?_ _)); refine blk_put (cs := #[.int .i64 0, .int .i64 0]) ?_ 1 _ rfl; (with_reducible repeat (first | refine blk_drewN ?_ _ | refine blk_drew ?_ | refine blk_alloc ?_ _)); refine blk_put (cs := #[.int .i64 0, .int .i64 0]) ?_ 0 _ rfl; (with_reducible repeat (first | refine blk_drewN ?_ _ | refine blk_drew ?_ | refine blk_alloc ?_ _)); exact BK107.out) Tryd.underlying25 rfl (by kernel_rfl)) rfl ?_
      exact ⟨ee_, bel⟩
     ·replace c34 := Bool.eq_false_iff.mpr c34
      subst c34
      have H1 : (if a0 = true then (some (wrap64 (-(wrap64 (x107001_3))), x2_3, 0)) else (some (wrap64 (x107001_3), x2_3, 0))) = some (r1, r2, r3) := by rw [if_neg (show ¬ (false = true) by decide)] at H; exact H
      clear H
      have H := H1
      clear H1
      by_cases c37 : a0 = true
      ·subst c37
       have H1 : (some (wrap64 (-(wrap64 (x107001_3))), x2_3, 0)) = some (r1, r2, r3) := by rw [if_pos rfl] at H; exact H
       clear H
       have H := H1
       clear H1
       simp only [Option.some.injEq, Prod.mk.injEq] at H
       obtain ⟨rfl, rfl, rfl⟩ := H
       have hnbq0 := NB106_107.out
       have hncq0 := NB107_106.out
       have hczq0 : wc.cell? ⟨gb106, 0, none⟩ = some (.int .u64 x107000_3) := (blk_cell BK106.out 0).trans rfl
       have hczq1 : wc.cell? ⟨gb106, 1, none⟩ = some (.int .u64 x107001_3) := (blk_cell BK106.out 1).trans rfl
       have hfzq0 := blk_frozen BK106.out 0
       have hfzq1 := blk_frozen BK106.out 1
       have hczq2 : wc.cell? ⟨gb107, 0, none⟩ = some (.int .i64 0) := (blk_cell BK107.out 0).trans rfl
       have hczq3 : wc.cell? ⟨gb107, 1, none⟩ = some (.int .i64 0) := (blk_cell BK107.out 1).trans rfl
       have hfzq2 := blk_frozen BK107.out 0
       have hfzq3 := blk_frozen BK107.out 1
       go_wp2
       refine bodyPost_ret (results_ct rfl _ _ gb107 25 #[.int .i64 (wrap64 (-(wrap64 (x107001_3)))), .int .i64 x2_3] (0, 0) _ rfl (by (with_reducible repeat (first | refine blk_drewN ?_ _ | refine blk_drew ?_ | refine blk_alloc ?_ _)); refine blk_put (cs := #[.int .i64 (wrap64 (-(wrap64 (x107001_3)))), .int .i64 0]) ?_ 1 _ rfl; (with_reducible repeat (first | refine blk_drewN ?_ _ | refine blk_drew ?_ | refine blk_alloc ?_ _)); refine blk_put (cs := #[.int .i64 0, .int .i64 0]) ?_ 0 _ rfl; (with_reducible repeat (first | refine blk_drewN ?_ _ | refine blk_drew ?_ | refine blk_alloc ?_ _)); exact BK107.out) Tryd.underlying25 rfl (by kernel_rfl)) rfl ?_
       exact ⟨ee_, bel⟩
      ·replace c37 := Bool.eq_false_iff.mpr c37
       subst c37
       have H1 : (some (wrap64 (x107001_3), x2_3, 0)) = some (r1, r2, r3) := by rw [if_neg (show ¬ (false = true) by decide)] at H; exact H
       clear H
       have H := H1
       clear H1
       simp only [Option.some.injEq, Prod.mk.injEq] at H
       obtain ⟨rfl, rfl, rfl⟩ := H
       have hnbq0 := NB106_107.out
       have hncq0 := NB107_106.out
       have hczq0 : wc.cell? ⟨gb106, 0, none⟩ = some (.int .u64 x107000_3) := (blk_cell BK106.out 0).trans rfl
       have hczq1 : wc.cell? ⟨gb106, 1, none⟩ = some (.int .u64 x107001_3) := (blk_cell BK106.out 1).trans rfl
       have hfzq0 := blk_frozen BK106.out 0
       have hfzq1 := blk_frozen BK106.out 1
       have hczq2 : wc.cell? ⟨gb107, 0, none⟩ = some (.int .i64 0) := (blk_cell BK107.out 0).trans rfl
       have hczq3 : wc.cell? ⟨gb107, 1, none⟩ = some (.int .i64 0) := (blk_cell BK107.out 1).trans rfl
       have hfzq2 := blk_frozen BK107.out 0
       have hfzq3 := blk_frozen BK107.out 1
       go_wp2
       refine bodyPost_ret (results_ct rfl _ _ gb107 25 #[.int .i64 (wrap64 (x107001_3)), .int .i64 x2_3] (0, 0) _ rfl (by (with_reducible repeat (first | refine blk_drewN ?_ _ | refine blk_drew ?_ | refine blk_alloc ?_ _)); refine blk_put (cs := #[.int .i64 (wrap64 (x107001_3)), .int .i64 0]) ?_ 1 _ rfl; (with_reducible repeat (first | refine blk_drewN ?_ _ | refine blk_drew ?_ | refine blk_alloc ?_ _)); refine blk_put (cs := #[.int .i64 0, .int .i64 0]) ?_ 0 _ rfl; (with_reducible repeat (first | refine blk_drewN ?_ _ | refine blk_drew ?_ | refine blk_alloc ?_ _)); exact BK107.out) Tryd.underlying25 rfl (by kernel_rfl)) rfl ?_
       exact ⟨ee_, bel⟩
end Go.Proofs.YtnhgnejfagncpaaDoor.A
end
section
namespace Go.Proofs.YtnhgnejfagncpaaDoor.H
open Go.RowKit Go.Proofs.YtnhgnejfagncpaaDoorW.PrintWords Go.Proofs.YtnhgnejfagncpaaDoorW.PrintLast Go.Proofs.YtnhgnejfagncpaaDoorW.PrintMore Go.Proofs.YtnhgnejfagncpaaDoor.A
attribute [local go_sem] max2_int min2_int max_two min_two max_three min_three max_four min_four
set_option linter.unusedVariables false
set_option linter.unusedSimpArgs false
def headB : List UInt8 → Bool × List UInt8
  | [] => (false, [])
  | c :: t => if c = 43 ∨ c = 45 then (decide (c = 45), t) else (false, c :: t)
def hasSign : List UInt8 → Bool
  | [] => false
  | c :: _ => c == 43 || c == 45
def digs : List UInt8 → Int → Int → Int → Option (Int × Int × Int)
  | [], m, many, e => some (m, many, e)
  | c :: t, m, many, e =>
    if (c.toNat : Int) < 48 ∨ 57 < (c.toNat : Int) then none
    else
      let many' := if many > 0 ∨ 48 < (c.toNat : Int) then many + 1 else many
      if many' > 18 then digs t m many' 5 else digs t (m * 10 + ((c.toNat : Int) - 48)) many' e
def parseDigs (k : Nat) (below : Bool) (front back : List UInt8) : Option (Int × Int × Int) :=
  match digs (front ++ back) 0 0 0 with
  | none => some (0, 0, 4)
  | some (m, _, e) => if e ≠ 0 ∨ back.length > 9 then some (0, 0, 5) else dec_tell.f k below 0 m back.length
def dec_Parse.f (k : Nat) (a0 : ByteArray) : Option (Int × Int × Int) :=
  if a0.size > 40 then some (0, 0, 4)
  else
    let h := headB a0.data.toList
    let c := cutAt h.2 46
    if c.1 ++ c.2.1 = [] then some (0, 0, 4) else parseDigs k h.1 (Lib.trimLeftB c.1 48) (Lib.trimRightB c.2.1 48)
theorem headB_len (l : List UInt8) : (headB l).2.length ≤ l.length := by
  cases l with
  | nil => exact Nat.le_refl _
  | cons c t =>
    show (if c = 43 ∨ c = 45 then (decide (c = 45), t) else (false, c :: t)).2.length ≤ _
    split <;> simp
theorem cutAt_len (l : List UInt8) (c : UInt8) : (cutAt l c).1.length ≤ l.length ∧ (cutAt l c).2.1.length ≤ l.length := by
  unfold cutAt
  split
  · exact ⟨by rw [List.length_take]; omega, by rw [List.length_drop]; omega⟩
  · exact ⟨Nat.le_refl _, Nat.zero_le _⟩
set_option maxRecDepth 100000 in
set_option maxHeartbeats 4000000 in
theorem parse_long (a0 : ByteArray) (hs : a0.size > 40) (w : World) :
    Calls Tryd.prog 15 #[.string a0] w fun e w' => e = .returned (.tuple #[.agg #[.int .i64 0, .int .i64 0], .int .i64 4]) ∧ Below w.heap.size w w' := by
  have hb : decide (40 < (a0.size : Int)) = true := by simp; omega
  have hb2 : decide (40 < a0.size) = true := by simp; omega
  clear hs
  go_enter Tryd.func15, Tryd.ntmps15
  go_wp2
  go_step3
  go_wp2
  rw [Exit.noGoto_ret]
  refine bodyPost_ret (results_ct rfl _ _ w.heap.size 25 #[.int .i64 0, .int .i64 0] (0, 0) _ rfl ?_ Tryd.underlying25 rfl (by kernel_rfl)) rfl ?_
  · exact World.alloc_heap_new w _
  · exact ⟨rfl, below_alloc (Below.refl _ _) _⟩
set_option maxRecDepth 100000 in
set_option maxHeartbeats 4000000 in
theorem parse_short (k : Nat) (a0 : ByteArray) (hs : ¬ a0.size > 40) (r1 r2 r3 : Int) (w : World) (h : dec_Parse.f k a0 = some (r1, r2, r3)) :
    Calls Tryd.prog 15 #[.string a0] w fun e w' => e = .returned (.tuple #[.agg #[.int .i64 r1, .int .i64 r2], .int .i64 r3]) ∧ Below w.heap.size w w' := by
  have hb : decide (40 < (a0.size : Int)) = false := by simp; omega
  have hb2 : decide (40 < a0.size) = false := by simp; omega
  have HLONG := Aside0.mk hs
  clear hs
  go_enter Tryd.func15, Tryd.ntmps15
  go_wp2
  go_step3
  go_upto_region 5 with (fail)
  have hs0 : a0.toList = a0.data.toList := ByteArray.toList_eq a0
  have hz0 : a0.size = a0.data.toList.length := by rw [Array.length_toList]; rfl
  obtain ⟨l, hl⟩ : ∃ l, a0.data.toList = l := ⟨_, rfl⟩
  have h' := Aside0.mk h
  have HL := Aside0.mk hl
  have HS := Aside0.mk hs0
  have HZ := Aside0.mk hz0
  clear h hl hs0 hz0
  go_cut [30] (fun v30 wc => v30 = .bool (hasSign l) ∧ wc = w.alloc (.cells #[.int .i64 0, .int .i64 0] 25))
  case first =>
    cases l with
    | nil =>
      have e1 : a0.toList = [] := by rw [HS.out, HL.out]
      have e2 : (!a0.toList.isEmpty) = false := by rw [e1]; rfl
      go_wp2
      go_meet
      case rel => exact ⟨rfl, rfl⟩
    | cons c t =>
      have e3 : 0 < a0.size := by rw [HZ.out, HL.out]; exact Nat.succ_pos _
      have e1 : a0.toList ≠ [] := by rw [HS.out, HL.out]; exact List.cons_ne_nil _ _
      have e2 : (!a0.toList.isEmpty) = true := by rw [HS.out, HL.out]; rfl
      have hc : a0[0]'e3 = c := by
        have : a0[0]'e3 = a0.data.toList[0]'(by rw [← HZ.out]; exact e3) := rfl
        rw [this]
        simp [HL.out]
      by_cases h43 : c = 43
      · have hn : ((a0[0]'e3).toNat : Int) = 43 := by rw [hc, h43]; rfl
        clear hc
        have hr : hasSign (c :: t) = true := by rw [h43]; rfl
        have HR := Aside0.mk hr
        clear hr
        go_wp2
        go_meet
        case rel => exact ⟨by rw [HR.out], rfl⟩
      · by_cases h45 : c = 45
        · have hn : ((a0[0]'e3).toNat : Int) = 45 := by rw [hc, h45]; rfl
          clear hc
          have hr : hasSign (c :: t) = true := by rw [h45]; rfl
          have HR := Aside0.mk hr
          clear hr
          go_wp2
          go_meet
          case rel => exact ⟨by rw [HR.out], rfl⟩
        · have hn1 : (((a0[0]'e3).toNat : Int) == 43) = false := by
            rw [hc]
            exact beq_eq_false_iff_ne.mpr (fun e => h43 (UInt8.toNat_inj.1 (show c.toNat = 43 by omega)))
          have hn2 : (((a0[0]'e3).toNat : Int) == 45) = false := by
            rw [hc]
            exact beq_eq_false_iff_ne.mpr (fun e => h45 (UInt8.toNat_inj.1 (show c.toNat = 45 by omega)))
          clear hc
          have hr : hasSign (c :: t) = false := by
            show (c == 43 || c == 45) = false
            rw [Bool.or_eq_false_iff]
            exact ⟨beq_eq_false_iff_ne.mpr h43, beq_eq_false_iff_ne.mpr h45⟩
          have HR := Aside0.mk hr
          clear hr
          go_wp2
          go_meet
          case rel => exact ⟨by rw [HR.out], rfl⟩
  case rest =>
    obtain ⟨rfl, rfl⟩ := hcut
    obtain ⟨sg, hsg⟩ : ∃ sg, hasSign l = sg := ⟨_, rfl⟩
    rw [hsg]
    have HSG := Aside0.mk hsg
    clear hsg
    go_upto_if 30 with (fail)
    go_cut [4, 5] (fun v4 v5 wc => v4 = .string ⟨(headB l).2.toArray⟩ ∧ v5 = .bool (headB l).1 ∧ ∃ n, wc = (w.alloc (.cells #[.int .i64 0, .int .i64 0] 25)).drewN n)
    case first =>
      have hself : (⟨l.toArray⟩ : ByteArray) = a0 := by rw [← HL.out]
      cases sg with
      | true =>
        have hsg := HSG.out
        cases l with
        | nil => cases hsg
        | cons c t =>
          have e3 : 0 < a0.size := by rw [HZ.out, HL.out]; exact Nat.succ_pos _
          have e4 : (1 : Int) ≤ (a0.size : Int) := by omega
          have hc : a0[0]'e3 = c := by
            have : a0[0]'e3 = a0.data.toList[0]'(by rw [← HZ.out]; exact e3) := rfl
            rw [this]
            simp [HL.out]
          have hx : a0.extract 1 a0.size = ⟨t.toArray⟩ := by
            rw [Lib.extract_eq, HL.out]
            congr 2
            rw [List.drop_succ_cons, List.drop_zero, List.take_of_length_le (by rw [HZ.out, HL.out]; simp)]
          have hor : c = 43 ∨ c = 45 := by
            have : (c == 43 || c == 45) = true := hsg
            rw [Bool.or_eq_true, beq_iff_eq, beq_iff_eq] at this
            exact this
          have hh : headB (c :: t) = (decide (c = 45), t) := by
            show (if c = 43 ∨ c = 45 then (decide (c = 45), t) else (false, c :: t)) = _
            rw [if_pos hor]
          have hb45 : (((a0[0]'e3).toNat : Int) == 45) = decide (c = 45) := by
            rw [hc, Bool.eq_iff_iff, beq_iff_eq, decide_eq_true_iff]
            constructor
            · intro e
              exact UInt8.toNat_inj.1 (show c.toNat = 45 by omega)
            · intro e
              rw [e]
              rfl
          have HH := Aside0.mk hh
          clear hc hor hh hself hsg
          go_wp2
          go_quiet (fail)
          go_wp2
          go_meet
          case rel => exact ⟨by rw [HH.out], by rw [HH.out], nq, rfl⟩
      | false =>
        have hsf := HSG.out
        have hh : headB l = (false, l) := by
          cases l with
          | nil => rfl
          | cons c t =>
            show (if c = 43 ∨ c = 45 then (decide (c = 45), t) else (false, c :: t)) = _
            rw [if_neg]
            intro e
            have h2 : (c == 43 || c == 45) = false := hsf
            rw [Bool.or_eq_false_iff, beq_eq_false_iff_ne, beq_eq_false_iff_ne] at h2
            exact e.elim h2.1 h2.2
        have HH := Aside0.mk hh
        have HSE := Aside0.mk hself
        clear hh hself hsf
        go_wp2
        go_meet
        case rel => exact ⟨by rw [HH.out, HSE.out], by rw [HH.out], 0, by simp [World.drewN_zero]⟩
    case rest =>
      obtain ⟨rfl, rfl, n0, rfl⟩ := hcut
      have hb0 : Below w.heap.size w ((w.alloc (.cells #[.int .i64 0, .int .i64 0] 25)).drewN n0) := pw_below_drewN (below_alloc (Below.refl _ _) _) _
      have hk0 : ((w.alloc (.cells #[.int .i64 0, .int .i64 0] 25)).drewN n0).heap[w.heap.size]? = some (.cells #[.int .i64 0, .int .i64 0] 25 (0, 0)) := by
        exact blk_drewN (World.alloc_heap_new w _) _
      obtain ⟨W1, hW1⟩ : ∃ W1, (w.alloc (.cells #[.int .i64 0, .int .i64 0] 25)).drewN n0 = W1 := ⟨_, rfl⟩
      rw [hW1] at hb0 hk0 ⊢
      clear hW1
      have hlen : (headB l).2.length ≤ 40 := by
        have h1 := headB_len l
        have h2 : l.length ≤ 40 := by rw [← HL.out, ← HZ.out]; have := HLONG.out; omega
        omega
      have hcut := cut_any ⟨(headB l).2.toArray⟩ 46 (by show (headB l).2.toArray.size ≤ _; simp; omega) W1
      rw [show (⟨(headB l).2.toArray⟩ : ByteArray).data.toList = (headB l).2 from by simp] at hcut
      have h := h'.out
      have h2 : (if (cutAt (headB l).2 46).1 ++ (cutAt (headB l).2 46).2.1 = [] then some (0, 0, 4) else parseDigs k (headB l).1 (Lib.trimLeftB (cutAt (headB l).2 46).1 48) (Lib.trimRightB (cutAt (headB l).2 46).2.1 48)) = some (r1, r2, r3) := by
        unfold dec_Parse.f at h
        rw [HL.out] at h
        rw [if_neg HLONG.out] at h
        exact h
      have hcl : (cutAt (headB l).2 46).1.length ≤ 40 ∧ (cutAt (headB l).2 46).2.1.length ≤ 40 := by
        have := cutAt_len (headB l).2 46
        omega
      clear h h' HL HS HZ HSG
      generalize cutAt (headB l).2 46 = q at hcut h2 hcl
      generalize (headB l).1 = below at h2 ⊢
      generalize (⟨(headB l).2.toArray⟩ : ByteArray) = rs at hcut ⊢
      obtain ⟨f0, b0, fd⟩ := q
      dsimp only at hcut h2 hcl
      have H2 := Aside0.mk h2
      clear h2
      obtain ⟨F0, hF0⟩ : ∃ F0 : ByteArray, ⟨f0.toArray⟩ = F0 := ⟨_, rfl⟩
      obtain ⟨B0, hB0⟩ : ∃ B0 : ByteArray, ⟨b0.toArray⟩ = B0 := ⟨_, rfl⟩
      rw [hF0, hB0] at hcut
      have hFs : F0.size ≤ 40 := by rw [← hF0]; show f0.toArray.size ≤ _; simpa using hcl.1
      have hBs : B0.size ≤ 40 := by rw [← hB0]; show b0.toArray.size ≤ _; simpa using hcl.2
      have HF0 := Aside0.mk hF0
      have HB0 := Aside0.mk hB0
      clear hF0 hB0 hlen
      go_wp2_with fail
      refine hcut.mono ?_
      rintro e w' ⟨rfl, n1, rfl⟩
      clear hcut
      have hk1 : (W1.drewN n1).heap[w.heap.size]? = some (.cells #[.int .i64 0, .int .i64 0] 25 (0, 0)) := blk_drewN hk0 _
      have hb1 : Below w.heap.size w (W1.drewN n1) := pw_below_drewN hb0 _
      generalize W1.drewN n1 = W2 at hk1 hb1 ⊢
      clear hk0 hb0
      have z0 := blk_cell hk1 0
      have z1 := blk_cell hk1 1
      have zf0 := blk_frozen hk1 0
      have zf1 := blk_frozen hk1 1
      have happ : (F0 ++ B0).toList = f0 ++ b0 := by
        rw [ByteArray.toList_eq, ByteArray.data_append, ← HF0.out, ← HB0.out]
        simp
      by_cases hemp : f0 ++ b0 = []
      · have he : (F0 ++ B0).toList.isEmpty = true := by rw [happ, hemp]; rfl
        have h3 := H2.out
        rw [if_pos hemp] at h3
        have h4 := Option.some.inj h3
        simp only [Prod.mk.injEq] at h4
        obtain ⟨rfl, rfl, rfl⟩ := h4
        clear happ hemp h3
        go_wp2_with fail
        rw [Exit.noGoto_ret]
        refine bodyPost_ret (results_ct rfl _ _ w.heap.size 25 #[.int .i64 0, .int .i64 0] (0, 0) _ rfl (blk_set (blk_set hk1 0 (.int .i64 0)) 1 (.int .i64 0)) Tryd.underlying25 rfl (by kernel_rfl)) rfl ?_
        exact ⟨rfl, (hb1.setCell (p := ⟨w.heap.size, 0, none⟩) (Nat.le_refl _) _).setCell (p := ⟨w.heap.size, 1, none⟩) (Nat.le_refl _) _⟩
      · have he : (F0 ++ B0).toList.isEmpty = false := by
          rw [happ]
          cases hq : f0 ++ b0 with
          | nil => exact absurd hq hemp
          | cons x t => rfl
        have h3 := H2.out
        rw [if_neg hemp] at h3
        have H3 := Aside0.mk h3
        have htl := strings_TrimLeft.calls F0 ⟨#[48]⟩ ⟨(Lib.trimLeftB f0 48).toArray⟩ W2 (by unfold strings_TrimLeft.f; rw [if_pos rfl, ← HF0.out])
        have htr : ∀ W, Calls Tryd.prog 40 #[.string B0, .string ⟨#[48]⟩] W fun e w' => e = .returned (.string ⟨(Lib.trimRightB b0 48).toArray⟩) ∧ Below W.heap.size W w' := fun W => strings_TrimRight.calls B0 ⟨#[48]⟩ ⟨(Lib.trimRightB b0 48).toArray⟩ W (by unfold strings_TrimRight.f; rw [if_pos ⟨rfl, by omega⟩, ← HB0.out])
        have htl1 : (Lib.trimLeftB f0 48).length ≤ 40 := Nat.le_trans (by unfold Lib.trimLeftB; exact (List.dropWhile_sublist _).length_le) hcl.1
        have htr1 : (Lib.trimRightB b0 48).length ≤ 40 := Nat.le_trans (by unfold Lib.trimRightB; rw [List.length_reverse]; exact Nat.le_trans (List.dropWhile_sublist _).length_le (by rw [List.length_reverse]; exact Nat.le_refl _)) hcl.2
        clear H2 hemp h3 happ hcl
        generalize Lib.trimLeftB f0 48 = f1 at htl H3 htl1
        generalize Lib.trimRightB b0 48 = b1 at htr H3 htr1
        obtain ⟨F1, hF1⟩ : ∃ F1 : ByteArray, ⟨f1.toArray⟩ = F1 := ⟨_, rfl⟩
        obtain ⟨B1, hB1⟩ : ∃ B1 : ByteArray, ⟨b1.toArray⟩ = B1 := ⟨_, rfl⟩
        have hF1s : F1.size ≤ 40 := by rw [← hF1]; show f1.toArray.size ≤ _; simpa using htl1
        have hB1s : B1.size ≤ 40 := by rw [← hB1]; show b1.toArray.size ≤ _; simpa using htr1
        have hB1z : B1.size = b1.length := by rw [← hB1]; show b1.toArray.size = _; simp
        have happ : (F1 ++ B1).data.toList = f1 ++ b1 := by
          rw [ByteArray.data_append, ← hF1, ← hB1]
          simp
        rw [hF1] at htl
        simp only [hB1] at htr
        have HAPP := Aside0.mk happ
        have HB1Z := Aside0.mk hB1z
        have HTR := Aside0.mk htr
        clear happ hF1 hB1 htl1 htr1 hB1z htr
        go_wp2_with fail
        refine htl.mono ?_
        rintro e w3 ⟨rfl, hB3⟩
        have hk3 := blk_below hk1 hB3
        have hb3 : Below w.heap.size w w3 := below_step hb1 hB3
        clear hk1 hb1 htl hB3 z0 z1 zf0 zf1 he
        go_wp2_with fail
        refine (HTR.out _).mono ?_
        rintro e w4 ⟨rfl, hB4⟩
        have hk4 := blk_below hk3 hB4
        have hb4 : Below w.heap.size w w4 := below_step hb3 hB4
        clear hk3 hb3 hB4 HTR
        have kb := fun W => print_bytes (P := Tryd.prog) 9 22 5 Tryd.underlying9 Tryd.underlying22 Tryd.underlying5 (F1 ++ B1) W
        go_wp2_with fail
        go_step3
        go_wp2_with fail
        clear kb
        have hgW : ∀ j, j < w4.heap.size → (Lib.bytesWorld w4 5 (F1 ++ B1)).heap[j]? = w4.heap[j]? := Lib.bytesWorld_at_old w4 5 (F1 ++ B1)
        have hcell : ∀ j, j < (F1 ++ B1).size → (Lib.bytesWorld w4 5 (F1 ++ B1)).cell? ⟨w4.heap.size, j, none⟩ = some (.int .u8 ((f1 ++ b1).getD j 0).toNat) := fun j hj => by
          rw [Lib.bytesWorld_cell w4 5 (F1 ++ B1) j hj, HAPP.out]
        have hkL : (Lib.bytesWorld w4 5 (F1 ++ B1)).heap[w.heap.size]? = some (.cells #[.int .i64 0, .int .i64 0] 25 (0, 0)) := by
          rw [hgW _ (blk_lt hk4)]
          exact hk4
        have hbL : Below w.heap.size w (Lib.bytesWorld w4 5 (F1 ++ B1)) := bytes_below hb4 hb4.size 5 _
        have hsz : (F1 ++ B1).size = (f1 ++ b1).length := by rw [← HAPP.out, Array.length_toList]; rfl
        have hsz2 : (f1 ++ b1).length ≤ 80 := by
          rw [← hsz]
          have : (F1 ++ B1).size = F1.size + B1.size := by simp [ByteArray.size_append]
          omega
        generalize Lib.bytesWorld w4 5 (F1 ++ B1) = WL at hcell hkL hbL ⊢
        clear hgW hk4 hb4
        have H3' := H3.out
        unfold parseDigs at H3'
        have H4 := Aside0.mk H3'
        clear H3 H3'
        generalize hcsq : f1 ++ b1 = cs at hcell hsz hsz2 H4
        clear hcsq
        rw [hsz] at hcell
        have hszS : F1.size + B1.size = cs.length := by rw [← hsz]; simp [ByteArray.size_append]
        have HSZS := Aside0.mk hszS
        clear hszS
        have HSZ := Aside0.mk hsz
        have HCELL := Aside0.mk hcell
        clear hsz hcell
        have z0 := blk_cell hkL 0
        have z1 := blk_cell hkL 1
        have zf0 := blk_frozen hkL 0
        have zf1 := blk_frozen hkL 1
        go_loop [9, 10, 11, 56] (fun v9 v10 v11 v56 => ∃ (kk : Nat) (m many ee : Int), kk ≤ cs.length ∧ v56 = .int .i64 kk ∧ v9 = .int .i64 m ∧ v10 = .int .i64 many ∧ v11 = .int .i64 ee ∧ 0 ≤ many ∧ many ≤ kk ∧ 0 ≤ m ∧ Aside0 (m < 10 ^ 18 ∧ (many ≤ 18 → m < 10 ^ many.toNat)) ∧ Aside0 (digs (cs.drop kk) m many ee = digs cs 0 0 0)) (fun _ _ _ i => cs.length - (Lib.intOf i).toNat)
        case atStart => exact ⟨0, 0, 0, 0, Nat.zero_le _, rfl, rfl, rfl, rfl, by omega, by omega, by omega, ⟨by decide, fun _ => by decide⟩, ⟨rfl⟩⟩
        case round =>
          obtain ⟨kk, m, many, ee, hkk, rfl, rfl, rfl, rfl, hmn0, hmn1, hm0, HM, HD⟩ := hrel
          by_cases hlt : kk < cs.length
          · have c1b : decide ((kk : Int) < (F1.size : Int) + (B1.size : Int)) = true := by have := HSZS.out; simp; omega
            have hki : (kk : Int) < (F1.size : Int) + (B1.size : Int) := by have := HSZS.out; omega
            have hcl := HCELL.out kk hlt
            have hget : cs.getD kk 0 = cs[kk] := by rw [List.getD_eq_getElem?_getD, List.getElem?_eq_getElem hlt]; rfl
            rw [hget] at hcl
            have hd := HD.out
            rw [List.drop_eq_getElem_cons hlt, digs] at hd
            have hb := (cs[kk]).toNat_lt
            generalize cs[kk] = c at hcl hd hb
            have hbz : (c.toNat : Int) < 256 := by omega
            have hb0 : 0 ≤ (c.toNat : Int) := by omega
            clear hget hb
            generalize (c.toNat : Int) = n at hcl hd hbz hb0
            by_cases hbad : n < 48 ∨ 57 < n
            · rw [if_pos hbad] at hd
              have h5 := H4.out
              rw [← hd] at h5
              have h6 := Option.some.inj h5
              simp only [Prod.mk.injEq] at h6
              obtain ⟨rfl, rfl, rfl⟩ := h6
              clear h5 hd
              have hbb : (decide (n < 48) || decide (57 < n)) = true := by simpa using hbad
              by_cases hq : n < 48
              · go_wp2
                refine bodyPost_ret (results_ct rfl _ _ w.heap.size 25 #[.int .i64 0, .int .i64 0] (0, 0) _ rfl (blk_set (blk_set hkL 0 (.int .i64 0)) 1 (.int .i64 0)) Tryd.underlying25 rfl (by kernel_rfl)) rfl ?_
                exact ⟨rfl, (hbL.setCell (p := ⟨w.heap.size, 0, none⟩) (Nat.le_refl _) _).setCell (p := ⟨w.heap.size, 1, none⟩) (Nat.le_refl _) _⟩
              · have hq2 : 57 < n := by omega
                go_wp2
                refine bodyPost_ret (results_ct rfl _ _ w.heap.size 25 #[.int .i64 0, .int .i64 0] (0, 0) _ rfl (blk_set (blk_set hkL 0 (.int .i64 0)) 1 (.int .i64 0)) Tryd.underlying25 rfl (by kernel_rfl)) rfl ?_
                exact ⟨rfl, (hbL.setCell (p := ⟨w.heap.size, 0, none⟩) (Nat.le_refl _) _).setCell (p := ⟨w.heap.size, 1, none⟩) (Nat.le_refl _) _⟩
            · have hn0 : 48 ≤ n := by omega
              have hn1 : n ≤ 57 := by omega
              rw [if_neg hbad] at hd
              clear hbad hb0 hbz
              obtain ⟨hM1, hM2⟩ := HM.out
              by_cases hc : many > 0 ∨ 48 < n
              · rw [if_pos hc] at hd
                dsimp only at hd
                by_cases h18 : many + 1 > 18
                · rw [if_pos h18] at hd
                  have HD2 := Aside0.mk hd
                  have HM2 : Aside0 (m < 10 ^ 18 ∧ (many + 1 ≤ 18 → m < 10 ^ (many + 1).toNat)) := ⟨hM1, fun h => by omega⟩
                  clear hd hM1 hM2 HM HD
                  have hfin : ∀ (x : Int), x = many + 1 → True := fun _ _ => trivial
                  have hmp : 0 < many := by omega
                  go_wp2
                  go_round
                  case rel => exact ⟨kk + 1, m, many + 1, 5, by omega, by go_num, rfl, rfl, rfl, by omega, by omega, hm0, HM2, HD2⟩
                  case measure => simp [Lib.intOf]; omega
                · rw [if_neg h18] at hd
                  have h10 : m < 10 ^ 17 := by
                    have := hM2 (by omega)
                    have h2 : (10 : Int) ^ many.toNat ≤ 10 ^ 17 := by
                      have h3 : many.toNat ≤ 17 := by omega
                      exact_mod_cast Nat.pow_le_pow_right (by decide : 0 < 10) h3
                    omega
                  have h10' : m < 100000000000000000 := by omega
                  have HM2 : Aside0 (m * 10 + (n - 48) < 10 ^ 18 ∧ (many + 1 ≤ 18 → m * 10 + (n - 48) < 10 ^ (many + 1).toNat)) := by
                    refine ⟨by omega, fun h => ?_⟩
                    have h3 := hM2 (by omega)
                    have h4 : (many + 1).toNat = many.toNat + 1 := by omega
                    rw [h4, Int.pow_succ]
                    omega
                  have HD2 := Aside0.mk hd
                  have hm1 : 0 ≤ m * 10 + (n - 48) := by omega
                  clear hd hM1 hM2 HM HD h10
                  by_cases hmp : 0 < many
                  · go_wp2
                    go_round
                    case rel => exact ⟨kk + 1, m * 10 + (n - 48), many + 1, ee, by omega, by go_num, by first | rfl | go_num | (congr 1; omega), rfl, rfl, by omega, by omega, hm1, HM2, HD2⟩
                    case measure => simp [Lib.intOf]; omega
                  · have h48 : 48 < n := by omega
                    obtain rfl : many = 0 := by omega
                    go_wp2
                    go_round
                    case rel => exact ⟨kk + 1, m * 10 + (n - 48), 0 + 1, ee, by omega, by go_num, by first | rfl | go_num | (congr 1; omega), by first | rfl | go_num, rfl, by omega, by omega, hm1, HM2, HD2⟩
                    case measure => simp [Lib.intOf]; omega
              · rw [if_neg hc] at hd
                dsimp only at hd
                obtain rfl : many = 0 := by omega
                obtain rfl : n = 48 := by omega
                rw [if_neg (by decide)] at hd
                have hmz : m = 0 := by
                  have := hM2 (by omega)
                  simp at this
                  omega
                subst hmz
                have HD2 := Aside0.mk hd
                clear hd hM1 hM2
                go_wp2
                go_round
                case rel => exact ⟨kk + 1, 0, 0, ee, by omega, by go_num, by first | rfl | go_num, rfl, rfl, by omega, by omega, by omega, HM, HD2⟩
                case measure => simp [Lib.intOf]; omega
          · have c1b : decide ((kk : Int) < (F1.size : Int) + (B1.size : Int)) = false := by have := HSZS.out; simp; omega
            have hki : (F1.size : Int) + (B1.size : Int) ≤ (kk : Int) := by have := HSZS.out; omega
            have hd := HD.out
            rw [List.drop_eq_nil_of_le (by omega), digs] at hd
            have h5 := H4.out
            rw [← hd] at h5
            dsimp only at h5
            obtain ⟨hM1, _⟩ := HM.out
            have hM1' : m < 1000000000000000000 := by omega
            have hwm : IntKind.u64.wrap m = m := by rw [IntKind.wrap_u64]; omega
            clear hd HD HM hM1 H4
            have hbz := HB1Z.out
            rw [← hbz] at h5
            clear hbz
            by_cases hee : ee = 0
            · subst hee
              by_cases h9 : B1.size > 9
              · rw [if_pos (.inr h9)] at h5
                have h6 := Option.some.inj h5
                simp only [Prod.mk.injEq] at h6
                obtain ⟨rfl, rfl, rfl⟩ := h6
                have hq : 9 < (B1.size : Int) := by omega
                clear h5
                go_wp2_with fail
                refine bodyPost_ret (results_ct rfl _ _ w.heap.size 25 #[.int .i64 0, .int .i64 0] (0, 0) _ rfl (blk_set (blk_set hkL 0 (.int .i64 0)) 1 (.int .i64 0)) Tryd.underlying25 rfl (by kernel_rfl)) rfl ?_
                exact ⟨rfl, (hbL.setCell (p := ⟨w.heap.size, 0, none⟩) (Nat.le_refl _) _).setCell (p := ⟨w.heap.size, 1, none⟩) (Nat.le_refl _) _⟩
              · rw [if_neg (by intro e; exact e.elim (fun h => h rfl) h9)] at h5
                have hq : (B1.size : Int) ≤ 9 := by omega
                have HT := Aside0.mk h5
                clear h5 h9
                go_wp2_with fail
                refine (dec_tell.calls k below 0 m (B1.size : Int) r1 r2 r3 WL HT.out).mono ?_
                rintro e w5 ⟨rfl, hB5⟩
                have hk5 := blk_below hkL hB5
                have hb5 : Below w.heap.size w w5 := below_step hbL hB5
                clear hkL hbL z0 z1 zf0 zf1
                have z0 := blk_cell hk5 0
                have z1 := blk_cell hk5 1
                have zf0 := blk_frozen hk5 0
                have zf1 := blk_frozen hk5 1
                go_wp2_with fail
                rw [Exit.noGoto_ret]
                refine bodyPost_ret (results_ct rfl _ _ w.heap.size 25 #[.int .i64 r1, .int .i64 r2] (0, 0) _ rfl (blk_set (blk_set hk5 0 (.int .i64 r1)) 1 (.int .i64 r2)) Tryd.underlying25 rfl (by kernel_rfl)) rfl ?_
                exact ⟨rfl, (hb5.setCell (p := ⟨w.heap.size, 0, none⟩) (Nat.le_refl _) _).setCell (p := ⟨w.heap.size, 1, none⟩) (Nat.le_refl _) _⟩
            · rw [if_pos (.inl hee)] at h5
              have h6 := Option.some.inj h5
              simp only [Prod.mk.injEq] at h6
              obtain ⟨rfl, rfl, rfl⟩ := h6
              have hq : (ee == 0) = false := beq_eq_false_iff_ne.mpr hee
              have hq2 : (ee != 0) = true := bne_iff_ne.mpr hee
              clear h5
              go_wp2_with fail
              all_goals
                refine bodyPost_ret (results_ct rfl _ _ w.heap.size 25 #[.int .i64 0, .int .i64 0] (0, 0) _ rfl (blk_set (blk_set hkL 0 (.int .i64 0)) 1 (.int .i64 0)) Tryd.underlying25 rfl (by kernel_rfl)) rfl ?_
                exact ⟨rfl, (hbL.setCell (p := ⟨w.heap.size, 0, none⟩) (Nat.le_refl _) _).setCell (p := ⟨w.heap.size, 1, none⟩) (Nat.le_refl _) _⟩
theorem dec_Parse.calls (k : Nat) (a0 : ByteArray) (r1 : Int) (r2 : Int) (r3 : Int) (w : World) (h : dec_Parse.f k a0 = some (r1, r2, r3)) :
    Calls Tryd.prog 15 #[.string a0] w fun e w' => e = .returned (.tuple #[.agg #[.int .i64 r1, .int .i64 r2], .int .i64 r3]) ∧ Below w.heap.size w w' := by
  by_cases hs : a0.size > 40
  · unfold dec_Parse.f at h
    rw [if_pos hs] at h
    have h6 := Option.some.inj h
    simp only [Prod.mk.injEq] at h6
    obtain ⟨rfl, rfl, rfl⟩ := h6
    exact parse_long a0 hs w
  · exact parse_short k a0 hs r1 r2 r3 w h
end Go.Proofs.YtnhgnejfagncpaaDoor.H
end
