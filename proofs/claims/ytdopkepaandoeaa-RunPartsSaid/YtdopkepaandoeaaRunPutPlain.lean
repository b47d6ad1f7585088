/- The document's Put is putAll; what was put is got. -/
import Derived.Test.YtdopkepaandoeaaRunGetPlain
namespace Go.Proofs.Ytdopkepaandoeaa.Run
open Go.RowKit Go.Proofs.YtdopkepaandoeaaW.PrintWords Go.Proofs.YtdopkepaandoeaaW.PrintLast Go.Proofs.YtdopkepaandoeaaW.PrintMore
set_option linter.unusedVariables false
set_option linter.unusedSimpArgs false

open R in
theorem rsame_l0 (l : List Int) (hl : l.length ≤ 140737488355328) (a : Nat) (ha : a < l.length) : ∀ (f n k : Nat), n + f = 128 → f < k → erasureref11_same.l0 k l (a : Int) (n : Int) = some ((smGo l a f n : Nat) : Int)
  | 0, n, k, hn, hk => by
    obtain ⟨k, rfl⟩ : ∃ m, k = m + 1 := ⟨k - 1, by omega⟩
    simp only [erasureref11_same.l0, smGo]
    rw [if_neg (by omega)]
  | f + 1, n, k, hn, hk => by
    obtain ⟨k, rfl⟩ : ∃ m, k = m + 1 := ⟨k - 1, by omega⟩
    have hx := rsame_l0 l hl a ha f (n + 1) k (by omega) (by omega)
    simp only [erasureref11_same.l0]
    rw [if_pos (by omega)]
    have e1 : wrap64 ((a : Int) + (n : Int)) = ((a + n : Nat) : Int) := by rw [wrap_small _ (by omega) (by omega)]; omega
    have e2 : wrap64 ((n : Int) + 1) = ((n + 1 : Nat) : Int) := by rw [wrap_small _ (by omega) (by omega)]; omega
    rw [e1, e2]
    clear e1 e2
    by_cases hlt : a + n < l.length
    · rw [if_pos (by omega), if_pos (by omega), if_pos (by omega), if_pos (by omega)]
      by_cases he : rd l ((a + n : Nat) : Int) = rd l (a : Int)
      · rw [if_pos he, hx, smGo, if_pos ⟨hlt, he⟩]
      · rw [if_neg he, smGo, if_neg (fun h => he h.2)]
    · rw [if_neg (by omega), smGo, if_neg (fun h => hlt h.1)]
open R in
theorem rsame_f (l : List Int) (hl : l.length ≤ 140737488355328) (a : Nat) (ha : a < l.length) (k : Nat) (hk : 129 ≤ k) : erasureref11_same.f k l (a : Int) = some ((sm l a : Nat) : Int) := by
  obtain ⟨k, rfl⟩ : ∃ m, k = m + 1 := ⟨k - 1, by omega⟩
  have hx := rsame_l0 l hl a ha 127 1 k (by omega) (by omega)
  unfold erasureref11_same.f
  simp only [erasureref11_same.l0]
  have e1 : wrap64 ((a : Int) + 0) = (a : Int) := by rw [wrap_small _ (by omega) (by omega)]; omega
  have e2 : wrap64 (0 + 1) = ((1 : Nat) : Int) := wrap_small 1 (by omega) (by omega)
  rw [if_pos (by omega), e1, e2, if_pos (by omega), if_pos (by omega), if_pos (by omega), if_pos (by omega), if_pos rfl, hx]
  rfl

theorem sm_ge (l : List Int) (a : Nat) (h : a < l.length) : (sm l a : Int) ≥ 1 := by have := sm_bound l a h; omega

/-- A row that is laid behind. -/
theorem row_cut (l : List Int) (a n : Nat) (h : a + n ≤ l.length) : (l.take (((a + n : Nat) : Int)).toNat).drop ((a : Int)).toNat = (l.drop a).take n := by
  rw [List.drop_take]
  simp only [Int.toNat_natCast]
  congr 1
  omega

theorem mod_small (n : Nat) (h : 1 ≤ n ∧ n ≤ 128) : wrap64 ((n : Int) - 1) % 256 = (n : Int) - 1 := by rw [wrap_small _ (by omega) (by omega)]; omega
theorem mod_often (n : Nat) (h : 2 ≤ n ∧ n ≤ 128) : wrap64 (257 - (n : Int)) % 256 = 257 - (n : Int) := by rw [wrap_small _ (by omega) (by omega)]; omega
theorem wrap_at (a n : Nat) (h : a + n ≤ 281474976700000) : wrap64 ((a : Int) + (n : Int)) = ((a + n : Nat) : Int) := by rw [wrap_small _ (by omega) (by omega)]; omega

open R in
/-- The end of a row: it is laid behind, and it goes on. -/
theorem ref_row (l : List Int) (hl : l.length ≤ 1048576) (a n : Nat) (hn : 1 ≤ n ∧ n ≤ 128) (h : a + n ≤ l.length) (out : List Int) (ho : out.length ≤ 140000000000000) (k : Nat) :
    (if out.length < 140737488355328 then ((some (out ++ [(wrap64 ((n : Int) - 1)) % 256] : List Int)).bind fun y118 => (if 0 ≤ (a : Int) then (if (a : Int) ≤ (wrap64 ((a : Int) + (n : Int))) then (if (wrap64 ((a : Int) + (n : Int))) ≤ (l.length : Int) then (if y118.length + ((l.take ((wrap64 ((a : Int) + (n : Int))) : Int).toNat).drop ((a : Int) : Int).toNat).length < 140737488355328 then (erasureref11_Put.l0 k l (y118 ++ ((l.take ((wrap64 ((a : Int) + (n : Int))) : Int).toNat).drop ((a : Int) : Int).toNat)) (wrap64 ((a : Int) + (n : Int)))) else (none)) else (none)) else (none)) else (none))) else (none))
    = erasureref11_Put.l0 k l (out ++ ((n : Int) - 1) :: (l.drop a).take n) ((a + n : Nat) : Int) := by
  have hlen : ((l.drop a).take n).length = n := by rw [List.length_take, List.length_drop]; omega
  have hb : (out ++ [(n : Int) - 1]).length + ((l.drop a).take n).length < 140737488355328 := by rw [List.length_append, hlen, List.length_singleton]; clear hlen; omega
  rw [wrap_at a n (by omega), mod_small n hn, row_cut l a n h]
  rw [if_pos (by omega)]
  simp only [Option.bind_some]
  rw [if_pos (by omega), if_pos (by omega), if_pos (by omega), if_pos hb]
  simp

open R in
/-- The row's loop, and what follows: G tells of the loop behind. -/
theorem putref_l1 (l : List Int) (hl : l.length ≤ 1048576) (a : Nat) (ha : a < l.length) (out : List Int) (ho : out.length ≤ 140000000000000) : ∀ (f n k : Nat), 1 ≤ n → n + f = 128 → a + n ≤ l.length → 130 + f ≤ k →
    ∃ k', k ≤ k' + 1 + f ∧ erasureref11_Put.l1 k l out (a : Int) (n : Int) = erasureref11_Put.l0 k' l (out ++ ((liGo l a f n : Int) - 1) :: (l.drop a).take (liGo l a f n)) ((a + liGo l a f n : Nat) : Int)
  | 0, n, k, h1, hn, hb, hk => by
    obtain ⟨k, rfl⟩ : ∃ m, k = m + 1 := ⟨k - 1, by omega⟩
    refine ⟨k, by omega, ?_⟩
    simp only [erasureref11_Put.l1, liGo]
    rw [if_neg (by omega)]
    exact ref_row l hl a n ⟨h1, by omega⟩ hb out ho k
  | f + 1, n, k, h1, hn, hb, hk => by
    obtain ⟨k, rfl⟩ : ∃ m, k = m + 1 := ⟨k - 1, by omega⟩
    simp only [erasureref11_Put.l1]
    rw [if_pos (by omega)]
    have hr := ref_row l hl a n ⟨h1, by omega⟩ hb out ho k
    have e2 : wrap64 ((n : Int) + 1) = ((n + 1 : Nat) : Int) := wrap_at n 1 (by omega)
    have e3 := wrap_at a n (by omega)
    by_cases hlt : a + n < l.length
    · have hs0 := rsame_f l (by omega) (a + n) hlt k (by clear e2 e3 hr; omega)
      have hs : erasureref11_same.f k l (wrap64 ((a : Int) + (n : Int))) = some ((sm l (a + n) : Nat) : Int) := (congrArg (erasureref11_same.f k l) e3).trans hs0
      clear hs0
      have hc1 : wrap64 ((a : Int) + (n : Int)) < (l.length : Int) := by rw [e3]; clear e2 e3 hr hs; omega
      have hge := sm_bound l (a + n) hlt
      by_cases he : sm l (a + n) = 1
      · obtain ⟨k', hk', hx⟩ := putref_l1 l hl a ha out ho f (n + 1) k (by clear e2 e3 hr hs; omega) (by clear e2 e3 hr hs; omega) (by clear e2 e3 hr hs; omega) (by clear e2 e3 hr hs; omega)
        refine ⟨k', by clear e2 e3 hs hr; omega, ?_⟩
        have hc2 : ((sm l (a + n) : Nat) : Int) < 2 := by clear hs e2 e3 hr; omega
        have hli : liGo l a (f + 1) n = liGo l a f (n + 1) := by simp only [liGo]; rw [if_pos ⟨hlt, he⟩]
        rw [if_pos hc1, hs, Option.bind_some, if_pos hc2, e2, hx, hli]
      · refine ⟨k, by clear e2 e3 hs hr; omega, ?_⟩
        have hc2 : ¬ ((sm l (a + n) : Nat) : Int) < 2 := by clear e2 e3 hs hr; omega
        have hli : liGo l a (f + 1) n = n := by simp only [liGo]; rw [if_neg (fun h => he h.2)]
        rw [if_pos hc1, hs, Option.bind_some, if_neg hc2, hli]
        exact hr
    · refine ⟨k, by clear e2 e3 hr; omega, ?_⟩
      have hli : liGo l a (f + 1) n = n := by simp only [liGo]; rw [if_neg (fun h => hlt h.1)]
      have hc1 : ¬ wrap64 ((a : Int) + (n : Int)) < (l.length : Int) := by rw [e3]; clear e2 e3 hr; omega
      rw [if_neg hc1, hli]
      exact hr

theorem put_often (l : List Int) (a : Nat) (h : a < l.length) (hs : 1 < sm l a) : putPart l (partAt l a h) = [257 - (sm l a : Int), rd l (a : Int)] ∧ stp l a = sm l a := by
  constructor
  · have e : stp l a = sm l a := if_pos hs
    simp [putPart, partAt, hs, e]
  · exact if_pos hs
theorem put_row (l : List Int) (a : Nat) (h : a < l.length) (hs : ¬ 1 < sm l a) : putPart l (partAt l a h) = ((stp l a : Int) - 1) :: (l.drop a).take (stp l a) ∧ stp l a = liGo l a 127 1 := by
  constructor
  · simp [putPart, partAt, hs]
  · exact if_neg hs

open R in
theorem ref_put_l0 (l : List Int) (hl : l.length ≤ 1048576) : ∀ (N : Nat) (a : Nat) (out : List Int) (k : Nat), l.length ≤ a + N → out.length + 129 * N ≤ 140000000000000 → 300 * N + 2 ≤ k → erasureref11_Put.l0 k l out (a : Int) = some (out ++ putAll l (partsFrom l a) ++ [128], 0) := by
  intro N
  induction N with
  | zero =>
    intro a out k hN ho hk
    obtain ⟨k, rfl⟩ : ∃ m, k = m + 1 := ⟨k - 1, by omega⟩
    simp only [erasureref11_Put.l0]
    rw [if_neg (by omega), if_pos (by omega), partsFrom_end l a (by omega)]
    simp [putAll]
  | succ N ih =>
    intro a out k hN ho hk
    obtain ⟨k, rfl⟩ : ∃ m, k = m + 1 := ⟨k - 1, by omega⟩
    simp only [erasureref11_Put.l0]
    by_cases he : a < l.length
    · rw [if_pos (by omega), rsame_f l (by omega) a he k (by omega), partsFrom_step l a he]
      simp only [Option.bind_some]
      have hst := stp_bound l a he
      have hsb := sm_bound l a he
      have hcons : putAll l (partAt l a he :: partsFrom l (a + stp l a)) = putPart l (partAt l a he) ++ putAll l (partsFrom l (a + stp l a)) := by simp [putAll]
      rw [hcons]
      by_cases hs : 1 < sm l a
      · obtain ⟨hp, hq⟩ := put_often l a he hs
        rw [if_pos (by omega), if_pos (by omega), hp, hq, mod_often _ (by omega), wrap_at a _ (by omega)]
        have hb : out.length + ([257 - (sm l a : Int), rd l (a : Int)] : List Int).length < 140737488355328 := by show out.length + 2 < _; omega
        rw [if_pos hb]
        have hx := ih (a + sm l a) (out ++ [257 - (sm l a : Int), rd l (a : Int)]) k (by omega) (by rw [List.length_append]; show out.length + 2 + _ ≤ _; omega) (by omega)
        rw [hx]
        simp
      · obtain ⟨hp, hq⟩ := put_row l a he hs
        have hz : ¬ ((sm l a : Nat) : Int) ≥ 2 := by omega
        rw [if_neg hz, hp]
        obtain ⟨k', hk', hx⟩ := putref_l1 l hl a he out (by omega) 127 1 k (by omega) (by omega) (by omega) (by omega)
        have hx2 : erasureref11_Put.l1 k l out (a : Int) 1 = _ := hx
        have hlen : ((l.drop a).take (stp l a)).length = stp l a := by rw [List.length_take, List.length_drop]; omega
        rw [← hq] at hx2
        have hy := ih (a + stp l a) (out ++ ((stp l a : Int) - 1) :: (l.drop a).take (stp l a)) k' (by omega) (by rw [List.length_append, List.length_cons, hlen]; omega) (by omega)
        rw [hx2, hy]
        simp
    · rw [if_neg (by omega), if_pos (by omega), partsFrom_end l a he]
      simp [putAll]

open R in
theorem ref_put_f (l : List Int) (k : Nat) (hk : 300 * l.length + 3 ≤ k) : erasureref11_Put.f k l = run_Put.f l := by
  unfold erasureref11_Put.f Run.run_Put.f
  by_cases h : 1048576 < (l.length : Int)
  · rw [if_pos h, if_pos h]
  · rw [if_neg h, if_neg h]
    have := ref_put_l0 l (by omega) l.length 0 [] k (by omega) (by show 0 + _ ≤ _; omega) (by omega)
    rw [show ((0 : Nat) : Int) = 0 from rfl] at this
    rw [this]
    simp
end Go.Proofs.Ytdopkepaandoeaa.Run
