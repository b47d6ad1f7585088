import Derived.Test.YtdkckjiccpdkbaaDoorC3
import Derived.Test.YtdkckjiccpdkbaaDoorPlainMath
namespace Go.Proofs.YtdkckjiccpdkbaaDoor.Plain
open Go.RowKit Go.Proofs.YtdkckjiccpdkbaaDoor.A Go.Proofs.YtdkckjiccpdkbaaDoor.B Go.Proofs.YtdkckjiccpdkbaaDoor.H Go.Proofs.YtdkckjiccpdkbaaDoor.C
theorem good_neg {M : Int} {t : Nat} (h : Good M t) : Good (-M) t := by
  obtain ⟨h1, h2, h3, h4, h5⟩ := h
  exact ⟨by omega, by omega, h3, h4, by omega⟩
theorem addD_neg (M : Int) (t : Nat) : addD M t (-M) t = (0, 0, 0) := by
  unfold addD
  rw [up_neg, Int.add_right_neg, tellZ_zero]
theorem good_zero : Good 0 0 := by decide
end Go.Proofs.YtdkckjiccpdkbaaDoor.Plain
namespace Go.Proofs.YtdkckjiccpdkbaaDoor.Pure
open Go.RowKit Go.Proofs.YtdkckjiccpdkbaaDoor.A Go.Proofs.YtdkckjiccpdkbaaDoor.B Go.Proofs.YtdkckjiccpdkbaaDoor.H Go.Proofs.YtdkckjiccpdkbaaDoor.C Go.Proofs.YtdkckjiccpdkbaaDoor.Plain
theorem DecScale (a0 a1 : Int) (w0 : (Lit.int .i64 a0).wf = true) (w1 : (Lit.int .i64 a1).wf = true) : ∃ k, erasurelaw01_DecScale.f k a0 a1 = some true := by
  refine ⟨101, ?_⟩
  unfold erasurelaw01_DecScale.f
  have hb : erasurelaw01_DecScale.j0 101 a0 a1 true = some true := rfl
  by_cases h1 : a0 < (-99999999999999999)
  · rw [if_pos h1]; exact hb
  rw [if_neg h1]
  by_cases h2 : a0 > 99999999999999999
  · rw [if_pos h2]; exact hb
  rw [if_neg h2]
  by_cases h3 : a1 < 0
  · rw [if_pos h3]; exact hb
  rw [if_neg h3]
  by_cases h4 : a1 > 17
  · rw [decide_eq_true h4]; exact hb
  rw [decide_eq_false h4, erasurelaw01_DecScale.j0, if_neg (by decide)]
  obtain ⟨s, rfl⟩ : ∃ s : Nat, a1 = s := ⟨a1.toNat, by omega⟩
  have e1 : dec_Make.f 100 a0 (s : Int) = some (tellZ a0 s) := by
    rw [make_f _ _ _ (by decide), if_neg (by omega), Int.toNat_natCast]
  have e2 : dec_Make.f 100 (wrap64 (10 * a0)) (wrap64 ((s : Int) + 1)) = some (tellZ a0 s) := by
    rw [Go.Proofs.YtdkckjiccpdkbaaDoor.Plain.wrap_small (10 * a0) (by omega) (by omega), Go.Proofs.YtdkckjiccpdkbaaDoor.Plain.wrap_small ((s : Int) + 1) (by omega) (by omega), make_f _ _ _ (by decide), if_neg (by omega), show ((s : Int) + 1).toNat = s + 1 from by omega, ← up_one, tellZ_up]
  rw [e1, Option.bind_some, e2, Option.bind_some]
  have ha : erasurelaw01_awake.f = some true := rfl
  rcases tellZ_cases a0 s with h | ⟨M, t, h, hg, _⟩
  · have e4 := add_f 0 0 0 0 good_zero good_zero 100 (by decide)
    have e5 : addD 0 0 0 0 = (0, 0, 0) := addD_neg 0 0
    rw [e5] at e4
    rw [h]
    dsimp only
    rw [neg_f, if_pos good_zero, Option.bind_some]
    dsimp only
    rw [show (-0 : Int) = 0 from rfl]
    refine (congrArg (fun x => Option.bind x _) e4).trans ?_
    rfl
  · have hn := good_neg hg
    have e4 := add_f M (-M) t t hg hn 100 (by decide)
    rw [addD_neg] at e4
    rw [h]
    dsimp only
    rw [neg_f, if_pos hg, Option.bind_some]
    dsimp only
    rw [e4, Option.bind_some, ha, Option.bind_some, if_pos rfl, if_pos (by simp), if_pos rfl, if_pos rfl, if_pos rfl, if_pos rfl]
    rfl
end Go.Proofs.YtdkckjiccpdkbaaDoor.Pure
