/- RunDoes. -/
import Derived.Test.YtdopkepaandoeaaRunPutPlain
namespace Go.Proofs.Ytdopkepaandoeaa.Pure
open Go.RowKit Go.Proofs.Ytdopkepaandoeaa.R Go.Proofs.YtdopkepaandoeaaW.PrintWords Go.Proofs.YtdopkepaandoeaaW.PrintLast
open Go.Proofs.Ytdopkepaandoeaa.Run (Byte get_f ref_get_f ref_put_f getS)

theorem RunDoes : erasurelaw11_RunDoes.Pure := by
  intro l0 a1 hm hy hw h1
  refine ⟨300 * l0.length + 3, ?_⟩
  have hb := Byte.of_wf hw
  unfold erasurelaw11_RunDoes.f
  by_cases hl : (l0.length : Int) > 1000
  · rw [if_pos hl]
  · rw [if_neg hl]
    have hle : l0.length ≤ 1000 := by omega
    have ho : erasureref04_Own.f l0 = some l0 := by
      unfold erasureref04_Own.f
      rw [if_pos (by show 0 + _ < _; omega)]
      rfl
    have hg : run_Get.f (300 * l0.length + 3) l0 a1 = some (getS l0 a1) := get_f l0 a1 hb (by omega) _ (Nat.le_refl _)
    have hg2 : erasureref11_Get.f (300 * l0.length + 3) l0 a1 = some (getS l0 a1) := ref_get_f l0 a1 hb (by omega) _ (Nat.le_refl _)
    have hp : run_Put.f l0 = some (Run.putAll l0 (Run.partsFrom l0 0) ++ [128], 0) := by
      show Run.run_Put.f l0 = _
      unfold Run.run_Put.f
      rw [if_neg (by omega)]
    have hp2 : erasureref11_Put.f (300 * l0.length + 3) l0 = some (Run.putAll l0 (Run.partsFrom l0 0) ++ [128], 0) := by
      rw [ref_put_f l0 _ (Nat.le_refl _)]
      exact hp
    have ha : erasurelaw11_awake.f = some true := rfl
    rw [ho, Option.bind_some, hp, Option.bind_some, hp2, Option.bind_some, hg, Option.bind_some, hg2, Option.bind_some, ha, Option.bind_some]
    rw [if_pos rfl, if_pos rfl, if_pos rfl, if_pos rfl, if_pos rfl]
    exact congrArg some (beq_self_eq_true _)

end Go.Proofs.Ytdopkepaandoeaa.Pure
