/- RunBack. -/
import Derived.Test.YtdopkepaandoeaaRunBackPlain
import Derived.Test.YtdopkepaandoeaaR3
namespace Go.Proofs.Ytdopkepaandoeaa.Pure
open Go.RowKit Go.Proofs.Ytdopkepaandoeaa.R Go.Proofs.YtdopkepaandoeaaW.PrintWords Go.Proofs.YtdopkepaandoeaaW.PrintLast
open Go.Proofs.Ytdopkepaandoeaa.Run (Byte get_f getS dec dec_put dec_end dec_nil putAll partsFrom putAll_le putAll_byte )

theorem back_j1 (l0 l1 : List Int) (a2 : Int) (h0 : l0.length ≤ 2000) (h1 : l1.length ≤ 300) (h2 : 0 ≤ a2 ∧ a2 ≤ 3000) (b0 : Byte l0) (b1 : Byte l1) (K : Nat) (hK : 1400000 ≤ K) :
    erasurelaw11_RunBack.j1 (K + 1) l0 l1 a2 (putAll l0 (partsFrom l0 0) ++ [128]) false = some true := by
  obtain ⟨p, hp⟩ : ∃ p, putAll l0 (partsFrom l0 0) = p := ⟨_, rfl⟩
  have hpl : p.length ≤ 4000 := by
    have := putAll_le l0 l0.length 0 (by omega)
    rw [hp] at this
    omega
  have hpb : Byte p := by rw [← hp]; exact putAll_byte l0 b0 _
  rw [hp]
  obtain ⟨c, hc⟩ : ∃ c, p ++ [128] = c := ⟨_, rfl⟩
  have hcl : c.length = p.length + 1 := by rw [← hc, List.length_append]; rfl
  have hcb : Byte c := by rw [← hc]; exact Byte.app hpb (Byte.one (by decide))
  have hx : ([] : List Int) ++ c ++ l1 = p ++ (128 :: l1) := by rw [← hc]; simp
  have hg1 : run_Get.f K (([] : List Int) ++ c ++ l1) a2 = some (if a2 < (l0.length : Int) then ([], 2) else (l0, 0)) := by
    have hb : Byte (([] : List Int) ++ c ++ l1) := Byte.app (Byte.app Byte.none hcb) b1
    have hl : (([] : List Int) ++ c ++ l1).length ≤ 4301 := by rw [List.length_append, List.nil_append]; omega
    have := get_f (([] : List Int) ++ c ++ l1) a2 hb (by omega) K (by omega)
    show G.run_Get.f K _ a2 = _
    rw [this, hx]
    unfold getS
    rw [if_neg (by omega), ← hp, dec_put l0 a2 h2.1, dec_end]
  have e1 : wrap64 ((c.length : Int) - 1) = (p.length : Int) := by rw [hcl, Run.wrap_small _ (by omega) (by omega)]; omega
  have ht : c.take (p.length : Int).toNat = p := by rw [← hc, Int.toNat_natCast, List.take_left']; rfl
  have hg2 : run_Get.f K p 3000 = some (([] : List Int), 6) := by
    have := get_f p 3000 hpb (by omega) K (by omega)
    show G.run_Get.f K p 3000 = _
    rw [this]
    unfold getS
    have hd := dec_put l0 3000 (by decide) []
    rw [hp, List.append_nil] at hd
    rw [if_neg (by decide), hd, if_neg (by omega), dec_nil]
  have ha : erasurelaw11_awake.f = some true := rfl
  have q1 : ([] : List Int).length + c.length < 140737488355328 := by show 0 + _ < _; omega
  have q2 : (([] : List Int) ++ c).length + l1.length < 140737488355328 := by rw [List.nil_append]; omega
  have q3 : (0 : Int) ≤ (p.length : Int) := by omega
  have q4 : (p.length : Int) ≤ (c.length : Int) := by omega
  rw [hc, erasurelaw11_RunBack.j1, if_neg (by decide), Option.bind_some, if_pos q1, Option.bind_some, if_pos q2, hg1, Option.bind_some, e1, if_pos q3, if_pos q4, ht, hg2, Option.bind_some]
  by_cases hm : a2 < (l0.length : Int)
  · rw [if_pos hm, if_pos hm, ha, Option.bind_some, if_pos rfl, if_pos rfl]
    rfl
  · rw [if_neg hm, if_neg hm, ha, Option.bind_some, if_pos rfl, if_pos rfl, if_pos rfl]
    rfl

theorem back_j0 (l0 l1 : List Int) (a2 : Int) (h0 : l0.length ≤ 2000) (h1 : l1.length ≤ 300) (h2 : 0 ≤ a2 ∧ a2 ≤ 3000) (b0 : Byte l0) (b1 : Byte l1) (K : Nat) (hK : 1400000 ≤ K) :
    erasurelaw11_RunBack.j0 (K + 1 + 1) l0 l1 a2 false = some true := by
  have hj := back_j1 l0 l1 a2 h0 h1 h2 b0 b1 K hK
  have hp : run_Put.f l0 = some (putAll l0 (partsFrom l0 0) ++ [128], 0) := by
    show Run.run_Put.f l0 = _
    unfold Run.run_Put.f
    rw [if_neg (by omega)]
  have hpl := putAll_le l0 l0.length 0 (by omega)
  have hcl : (putAll l0 (partsFrom l0 0) ++ [128]).length = (putAll l0 (partsFrom l0 0)).length + 1 := by rw [List.length_append]; rfl
  have q1 : ¬ ((putAll l0 (partsFrom l0 0) ++ [128]).length : Int) < 1 := by rw [hcl]; omega
  have q2 : ¬ (((putAll l0 (partsFrom l0 0) ++ [128]).length : Int) > wrap64 (wrap64 (2 * (l0.length : Int)) + 1)) := by
    rw [hcl, Run.wrap_small (2 * (l0.length : Int)) (by omega) (by omega), Run.wrap_small _ (by omega) (by omega)]
    omega
  rw [erasurelaw11_RunBack.j0, if_neg (by decide), hp, Option.bind_some, if_pos rfl, if_neg q1, decide_eq_false q2]
  exact hj

theorem RunBack : erasurelaw11_RunBack.Pure := by
  intro l0 l1 a2 hm0 hy0 hw0 hm1 hy1 hw1 hw2
  refine ⟨1400000 + 1 + 1, ?_⟩
  unfold erasurelaw11_RunBack.f
  have ht : ∀ K, erasurelaw11_RunBack.j0 (K + 1) l0 l1 a2 true = some true := fun K => by rw [erasurelaw11_RunBack.j0, if_pos rfl]
  by_cases c0 : (l0.length : Int) > 2000
  · rw [if_pos c0]; exact ht _
  · by_cases c1 : (l1.length : Int) > 300
    · rw [if_neg c0, if_pos c1]; exact ht _
    · by_cases c2 : a2 < 0
      · rw [if_neg c0, if_neg c1, if_pos c2]; exact ht _
      · by_cases c3 : a2 > 3000
        · rw [if_neg c0, if_neg c1, if_neg c2, decide_eq_true c3]; exact ht _
        · rw [if_neg c0, if_neg c1, if_neg c2, decide_eq_false c3]
          exact back_j0 l0 l1 a2 (by omega) (by omega) ⟨by omega, by omega⟩ (Byte.of_wf hw0) (Byte.of_wf hw1) 1400000 (Nat.le_refl _)

end Go.Proofs.Ytdopkepaandoeaa.Pure
