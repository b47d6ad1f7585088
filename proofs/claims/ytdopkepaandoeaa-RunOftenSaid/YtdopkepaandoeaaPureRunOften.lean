/- RunOften. -/
import Derived.Test.YtdopkepaandoeaaRunBackPlain
import Derived.Test.YtdopkepaandoeaaR3
namespace Go.Proofs.Ytdopkepaandoeaa.Pure
open Go.RowKit Go.Proofs.Ytdopkepaandoeaa.R Go.Proofs.YtdopkepaandoeaaW.PrintWords Go.Proofs.YtdopkepaandoeaaW.PrintLast
open Go.Proofs.Ytdopkepaandoeaa.Run (Byte get_f getS dec dec_put dec_end dec_nil putAll partsFrom putAll_le putAll_byte)

theorem rd_rep (c : Int) (n a : Nat) (h : a < n) : rd (List.replicate n c) (a : Int) = c := by
  unfold rd
  rw [List.getD_eq_getElem?_getD, Int.toNat_natCast, List.getElem?_replicate, if_pos h]
  rfl

theorem sm_rep (c : Int) (n a : Nat) (h : a < n) : ∀ f m, m + f = 128 → a + m ≤ n → Run.smGo (List.replicate n c) a f m = if n - a < 128 then n - a else 128
  | 0, m, hm, hb => by
    unfold Run.smGo
    split <;> omega
  | f + 1, m, hm, hb => by
    unfold Run.smGo
    by_cases hlt : a + m < n
    · rw [if_pos ⟨by rw [List.length_replicate]; exact hlt, by rw [rd_rep c n (a + m) hlt, rd_rep c n a h]⟩]
      exact sm_rep c n a h f (m + 1) (by omega) (by omega)
    · rw [if_neg (fun hx => hlt (by have := hx.1; rw [List.length_replicate] at this; exact this))]
      split <;> omega

theorem often_len (c : Int) (n : Nat) : ∀ (N a : Nat), n ≤ a + N → (putAll (List.replicate n c) (partsFrom (List.replicate n c) a)).length = 2 * ((n - a + 127) / 128) := by
  intro N
  induction N with
  | zero =>
    intro a hN
    rw [Run.partsFrom_end _ a (by rw [List.length_replicate]; omega)]
    show 0 = _
    omega
  | succ N ih =>
    intro a hN
    by_cases he : a < n
    · have hel : a < (List.replicate n c).length := by rw [List.length_replicate]; exact he
      have hst := Run.stp_bound _ a hel
      rw [List.length_replicate] at hst
      have hcons : putAll (List.replicate n c) (Run.partAt (List.replicate n c) a hel :: partsFrom (List.replicate n c) (a + Run.stp (List.replicate n c) a)) = Run.putPart (List.replicate n c) (Run.partAt (List.replicate n c) a hel) ++ putAll (List.replicate n c) (partsFrom (List.replicate n c) (a + Run.stp (List.replicate n c) a)) := by simp [Run.putAll]
      have hsm : Run.sm (List.replicate n c) a = if n - a < 128 then n - a else 128 := sm_rep c n a he 127 1 (by omega) (by omega)
      have hx := ih (a + Run.stp (List.replicate n c) a) (by omega)
      have hl : Run.stp (List.replicate n c) a = (if n - a < 128 then n - a else 128) ∧ (Run.putPart (List.replicate n c) (Run.partAt (List.replicate n c) a hel)).length = 2 := by
        by_cases hs : 1 < Run.sm (List.replicate n c) a
        · obtain ⟨hp, hq⟩ := Run.put_often _ a hel hs
          exact ⟨hq.trans hsm, by rw [hp]; rfl⟩
        · obtain ⟨hp, hq⟩ := Run.put_row _ a hel hs
          have h1 : n - a = 1 := by
            rw [hsm] at hs
            split at hs <;> omega
          have hq2 : Run.stp (List.replicate n c) a = 1 := by omega
          refine ⟨by rw [hq2, if_pos (by omega)]; omega, ?_⟩
          rw [hp, hq2, List.length_cons, List.length_take, List.length_drop, List.length_replicate, h1]
          rfl
      rw [Run.partsFrom_step _ a hel, hcons, List.length_append, hl.2, hx, hl.1]
      split <;> omega
    · rw [Run.partsFrom_end _ a (by rw [List.length_replicate]; exact he)]
      show 0 = _
      omega

theorem set_rep (c : Int) (n i : Nat) (h : i < n) : (List.replicate i c ++ List.replicate (n - i) 0).set i c = List.replicate (i + 1) c ++ List.replicate (n - (i + 1)) 0 := by
  obtain ⟨d, hd⟩ : ∃ d, n - i = d + 1 := ⟨n - i - 1, by omega⟩
  rw [hd, show n - (i + 1) = d from by omega, List.set_append_right _ _ (by rw [List.length_replicate]; exact Nat.le_refl _), List.length_replicate, Nat.sub_self, List.replicate_succ, List.set_cons_zero, List.replicate_succ']
  simp

theorem often_want (i : Nat) (h : i ≤ 5000) : wrap64 ((wrap64 (2 * (wrap64 (Int.tdiv (wrap64 ((i : Int) + 127)) 128)))) + 1) = 2 * (((i + 127) / 128 : Nat) : Int) + 1 := by
  have q : (i + 127) / 128 ≤ 5000 := by omega
  have e2 : Int.tdiv ((i + 127 : Nat) : Int) 128 = (((i + 127) / 128 : Nat) : Int) := rfl
  obtain ⟨z, hz⟩ : ∃ z, (i + 127) / 128 = z := ⟨_, rfl⟩
  rw [hz] at q e2
  rw [hz, Run.wrap_small ((i : Int) + 127) (by omega) (by omega), show (i : Int) + 127 = ((i + 127 : Nat) : Int) from rfl, e2, Run.wrap_small (z : Int) (by omega) (by omega), Run.wrap_small (2 * (z : Int)) (by omega) (by omega), Run.wrap_small _ (by omega) (by omega)]
theorem often_l0 (c : Int) (hc : 0 ≤ c ∧ c ≤ 255) (n : Nat) (hn : n ≤ 5000) : ∀ (d i k : Nat), n = i + d → 1600000 + d < k →
    erasurelaw11_RunOften.l0 k c (n : Int) (List.replicate i c ++ List.replicate (n - i) 0) (i : Int) = some true := by
  intro d
  induction d with
  | zero =>
    intro i k hd hk
    obtain ⟨k, rfl⟩ : ∃ m, k = m + 1 := ⟨k - 1, by omega⟩
    have hi : i = n := by omega
    subst hi
    rw [Nat.sub_self, List.replicate_zero, List.append_nil]
    obtain ⟨b, hb⟩ : ∃ b, List.replicate i c = b := ⟨_, rfl⟩
    have hbl : b.length = i := by rw [← hb, List.length_replicate]
    have hbb : Byte b := fun x hx => by
      rw [← hb] at hx
      rw [List.eq_of_mem_replicate hx]
      exact hc
    have hln := often_len c i i 0 (by omega)
    rw [hb] at hln
    have hp : run_Put.f b = some (putAll b (partsFrom b 0) ++ [128], 0) := by
      show Run.run_Put.f b = _
      unfold Run.run_Put.f
      rw [if_neg (by omega)]
    have hcl : (putAll b (partsFrom b 0) ++ [128]).length = (putAll b (partsFrom b 0)).length + 1 := by rw [List.length_append]; rfl
    have hg : run_Get.f k (putAll b (partsFrom b 0) ++ [128]) (i : Int) = some (b, 0) := by
      have := get_f (putAll b (partsFrom b 0) ++ [128]) (i : Int) (Byte.app (putAll_byte b hbb _) (Byte.one (by decide))) (by omega) k (by omega)
      show G.run_Get.f k _ _ = _
      rw [this]
      unfold getS
      rw [if_neg (by omega), dec_put b (i : Int) (by omega), if_neg (by omega), dec_end]
    have hfin : ((putAll b (partsFrom b 0) ++ [128]).length : Int) = 2 * (((i + 127) / 128 : Nat) : Int) + 1 := by
      rw [hcl, hln]
      omega
    have hneg : ¬ (i : Int) < (i : Int) := by omega
    have hw := often_want i (by omega)
    have ha : erasurelaw11_awake.f = some true := rfl
    rw [hb, erasurelaw11_RunOften.l0, if_neg hneg, hp, Option.bind_some, hg, Option.bind_some, ha, Option.bind_some, if_pos rfl, if_pos rfl, if_pos rfl, if_pos rfl, hw, hfin]
    exact congrArg some (beq_self_eq_true _)
  | succ d ih =>
    intro i k hd hk
    obtain ⟨k, rfl⟩ : ∃ m, k = m + 1 := ⟨k - 1, by omega⟩
    have hx := ih (i + 1) k (by omega) (by omega)
    have e2 : wrap64 ((i : Int) + 1) = ((i + 1 : Nat) : Int) := by rw [Run.wrap_small _ (by omega) (by omega)]; rfl
    have q : (i : Int) < ((List.replicate i c ++ List.replicate (n - i) 0).length : Int) := by rw [List.length_append, List.length_replicate, List.length_replicate]; clear e2; omega
    have q1 : (i : Int) < (n : Int) := by clear e2; omega
    have q0 : (0 : Int) ≤ (i : Int) := by clear e2; omega
    rw [erasurelaw11_RunOften.l0, if_pos q1, if_pos q0, if_pos q, Int.toNat_natCast, set_rep c n i (by clear e2; omega), e2]
    exact hx

theorem RunOften : erasurelaw11_RunOften.Pure := by
  intro a0 a1 h0 h1
  refine ⟨1700000 + 1, ?_⟩
  have hc : 0 ≤ a0 ∧ a0 ≤ 255 := by
    have := Byte.of_wf (l := [a0]) (fun x hx => by rw [List.mem_singleton] at hx; rw [hx]; exact h0)
    exact this a0 (List.mem_singleton_self _)
  unfold erasurelaw11_RunOften.f
  have ht : ∀ K, erasurelaw11_RunOften.j0 (K + 1) a0 a1 true = some true := fun K => by rw [erasurelaw11_RunOften.j0, if_pos rfl]
  by_cases c2 : a1 < 0
  · rw [if_pos c2]; exact ht _
  · by_cases c3 : a1 > 5000
    · rw [if_neg c2, decide_eq_true c3]; exact ht _
    · rw [if_neg c2, decide_eq_false c3, erasurelaw11_RunOften.j0, if_neg (by decide), if_pos (by omega), if_pos (by omega)]
      have := often_l0 a0 hc a1.toNat (by omega) a1.toNat 0 1700000 (by omega) (by omega)
      rw [Int.toNat_of_nonneg (by omega)] at this
      exact this

end Go.Proofs.Ytdopkepaandoeaa.Pure
