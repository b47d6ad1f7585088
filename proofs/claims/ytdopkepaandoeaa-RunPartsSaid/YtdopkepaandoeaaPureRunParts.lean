/- RunParts. -/
import Derived.Test.YtdopkepaandoeaaRunBackPlain
import Derived.Test.YtdopkepaandoeaaR4
namespace Go.Proofs.Ytdopkepaandoeaa.Pure
open Go.RowKit Go.Proofs.Ytdopkepaandoeaa.R Go.Proofs.YtdopkepaandoeaaW.PrintWords Go.Proofs.YtdopkepaandoeaaW.PrintLast
open Go.Proofs.Ytdopkepaandoeaa.Run (Byte get_f getS dec dec_end dec_nil)

/-- Parts as they are, one behind the other. -/
def encR (ps : List (List Int)) : List Int := (ps.map fun r => ((r.length : Int) - 1) :: r).flatten
def Fine (ps : List (List Int)) : Prop := ∀ r ∈ ps, 1 ≤ r.length ∧ r.length ≤ 128 ∧ Byte r

theorem dec_rows (m : Int) (t : List Int) : ∀ (ps : List (List Int)) (out : List Int), Fine ps → (out.length : Int) + 128 * (ps.length : Int) ≤ m → dec (encR ps ++ t) m out = dec t m (out ++ ps.flatten)
  | [], out, _, _ => by simp [encR]
  | r :: ps, out, hf, hm => by
    have hr := hf r (List.mem_cons_self ..)
    rw [List.length_cons] at hm
    have hx := dec_rows m t ps (out ++ r) (fun x hx => hf x (List.mem_cons_of_mem _ hx)) (by rw [List.length_append]; omega)
    have hcons : encR (r :: ps) ++ t = ((r.length : Int) - 1) :: (r ++ (encR ps ++ t)) := by simp [encR]
    have hl2 : (r ++ (encR ps ++ t)).length = r.length + (encR ps ++ t).length := List.length_append
    have e : ((r.length : Int) - 1 + 1).toNat = r.length := by omega
    rw [hcons, dec, if_neg (by omega), if_pos (by omega), if_neg (by rw [hl2]; omega), if_neg (by omega), e, List.drop_append_of_le_length (Nat.le_refl _), List.take_append_of_le_length (Nat.le_refl _), List.drop_length, List.take_length, List.nil_append, hx]
    simp

theorem encR_len : ∀ (ps : List (List Int)), Fine ps → (encR ps).length ≤ 129 * ps.length
  | [], _ => Nat.zero_le _
  | r :: ps, hf => by
    have hr := hf r (List.mem_cons_self ..)
    have hx := encR_len ps (fun x hx => hf x (List.mem_cons_of_mem _ hx))
    have hcons : encR (r :: ps) = (((r.length : Int) - 1) :: r) ++ encR ps := by simp [encR]
    rw [hcons, List.length_append, List.length_cons, List.length_cons]
    omega
theorem flat_len : ∀ (ps : List (List Int)), Fine ps → ps.flatten.length ≤ 128 * ps.length
  | [], _ => Nat.zero_le _
  | r :: ps, hf => by
    have hr := hf r (List.mem_cons_self ..)
    have hx := flat_len ps (fun x hx => hf x (List.mem_cons_of_mem _ hx))
    rw [List.flatten_cons, List.length_append, List.length_cons]
    omega
theorem encR_byte : ∀ (ps : List (List Int)), Fine ps → Byte (encR ps)
  | [], _ => Byte.none
  | r :: ps, hf => by
    have hr := hf r (List.mem_cons_self ..)
    have hx := encR_byte ps (fun x hx => hf x (List.mem_cons_of_mem _ hx))
    have hcons : encR (r :: ps) = ([(r.length : Int) - 1] ++ r) ++ encR ps := by simp [encR]
    rw [hcons]
    exact Byte.app (Byte.app (Byte.one (by omega)) hr.2.2) hx

theorem parts_end (x0 : List (List Int)) (l1 : List Int) (h0 : x0.length ≤ 20) (h1 : l1.length ≤ 100) (hf : Fine x0) (b1 : Byte l1) (k : Nat) (hk : 1000000 ≤ k) :
    erasurelaw11_RunParts.l0 (k + 1) x0 l1 (encR x0) x0.flatten (x0.length : Int) = some true := by
  have hl := encR_len x0 hf
  have hb := encR_byte x0 hf
  have hg1 : run_Get.f k (encR x0) 5000 = some (([] : List Int), 6) := by
    have := get_f (encR x0) 5000 hb (by omega) k (by omega)
    show G.run_Get.f k _ _ = _
    have hd := dec_rows 5000 [] x0 [] hf (by show ((0 : Nat) : Int) + _ ≤ _; omega)
    rw [List.append_nil] at hd
    rw [this]
    unfold getS
    rw [if_neg (by decide), hd, dec_nil]
  have hx : ([] : List Int) ++ encR x0 ++ [128] ++ l1 = encR x0 ++ (128 :: l1) := by simp
  have hlen2 : (([] : List Int) ++ encR x0 ++ [128] ++ l1).length ≤ 3000 := by
    rw [hx, List.length_append, List.length_cons]
    omega
  have hg2 : run_Get.f k (([] : List Int) ++ encR x0 ++ [128] ++ l1) 5000 = some (x0.flatten, 0) := by
    have hb2 : Byte (([] : List Int) ++ encR x0 ++ [128] ++ l1) := Byte.app (Byte.app (Byte.app Byte.none hb) (Byte.one (by decide))) b1
    have := get_f (([] : List Int) ++ encR x0 ++ [128] ++ l1) 5000 hb2 (by omega) k (by omega)
    show G.run_Get.f k _ _ = _
    have hd := dec_rows 5000 (128 :: l1) x0 [] hf (by show ((0 : Nat) : Int) + _ ≤ _; omega)
    rw [this]
    unfold getS
    rw [if_neg (by decide), hx, hd, dec_end, List.nil_append]
  have ha : erasurelaw11_awake.f = some true := rfl
  have q0 : ¬ (x0.length : Int) < (x0.length : Int) := by omega
  have q1 : ([] : List Int).length + (encR x0).length < 140737488355328 := by show 0 + _ < _; omega
  have q2 : (([] : List Int) ++ encR x0).length < 140737488355328 := by rw [List.nil_append]; omega
  have q3 : (([] : List Int) ++ encR x0 ++ [128]).length + l1.length < 140737488355328 := by rw [← List.length_append]; omega
  rw [erasurelaw11_RunParts.l0, if_neg q0, hg1, Option.bind_some, Option.bind_some, if_pos q1, Option.bind_some, if_pos q2, Option.bind_some, if_pos q3, hg2, Option.bind_some, ha, Option.bind_some, if_pos rfl, if_pos rfl, if_pos rfl]
  exact congrArg some (beq_self_eq_true _)

theorem rd_L1_at (x0 : List (List Int)) (i : Nat) (h : i < x0.length) : rd_L1 x0 (i : Int) = x0[i] := by
  unfold rd_L1
  rw [List.getD_eq_getElem?_getD, Int.toNat_natCast, List.getElem?_eq_getElem h]
  rfl
theorem encR_snoc (ps : List (List Int)) (r : List Int) : encR (ps ++ [r]) = encR ps ++ [(r.length : Int) - 1] ++ r := by simp [encR]

theorem parts_l0 (x0 : List (List Int)) (l1 : List Int) (h0 : x0.length ≤ 20) (h1 : l1.length ≤ 100) (hb : ∀ r ∈ x0, Byte r) (b1 : Byte l1) : ∀ (d i k : Nat), x0.length = i + d → 1000000 + d < k → Fine (x0.take i) →
    erasurelaw11_RunParts.l0 k x0 l1 (encR (x0.take i)) (x0.take i).flatten (i : Int) = some true := by
  intro d
  induction d with
  | zero =>
    intro i k hd hk hf
    obtain ⟨k, rfl⟩ : ∃ m, k = m + 1 := ⟨k - 1, by omega⟩
    have hi : i = x0.length := by omega
    subst hi
    rw [List.take_length] at hf ⊢
    exact parts_end x0 l1 h0 h1 hf b1 k (by omega)
  | succ d ih =>
    intro i k hd hk hf
    obtain ⟨k, rfl⟩ : ∃ m, k = m + 1 := ⟨k - 1, by omega⟩
    have hlt : i < x0.length := by omega
    have q0 : (i : Int) < (x0.length : Int) := by omega
    have q1 : (0 : Int) ≤ (i : Int) := by omega
    have htl : (x0.take i).length = i := by rw [List.length_take]; omega
    have hl := encR_len _ hf
    have hl2 := flat_len _ hf
    rw [htl] at hl hl2
    obtain ⟨r, hr⟩ : ∃ r, x0[i] = r := ⟨_, rfl⟩
    have hrb : Byte r := by rw [← hr]; exact hb _ (List.getElem_mem hlt)
    have hrd : rd_L1 x0 (i : Int) = r := (rd_L1_at x0 i hlt).trans hr
    have htk : x0.take (i + 1) = x0.take i ++ [r] := by rw [List.take_succ_eq_append_getElem hlt, hr]
    rw [erasurelaw11_RunParts.l0, if_pos q0, if_pos q1, hrd]
    by_cases c1 : (r.length : Int) < 1
    · rw [if_pos c1]
    · rw [if_neg c1]
      by_cases c2 : (r.length : Int) > 128
      · rw [if_pos c2]
      · rw [if_neg c2]
        have hf2 : Fine (x0.take (i + 1)) := by
          rw [htk]
          intro y hy
          rcases List.mem_append.mp hy with hy | hy
          · exact hf y hy
          · rw [List.mem_singleton] at hy
            subst hy
            exact ⟨by omega, by omega, hrb⟩
        have hx := ih (i + 1) k (by omega) (by omega) hf2
        rw [htk, encR_snoc, List.flatten_append, List.flatten_singleton] at hx
        have w1 : (encR (x0.take i)).length < 140737488355328 := by omega
        have w2 : (encR (x0.take i) ++ [(r.length : Int) - 1]).length + r.length < 140737488355328 := by rw [List.length_append, List.length_singleton]; omega
        have w3 : (x0.take i).flatten.length + r.length < 140737488355328 := by omega
        have e1 : wrap64 ((r.length : Int) - 1) % 256 = (r.length : Int) - 1 := Run.mod_small r.length ⟨by omega, by omega⟩
        have e2 : wrap64 ((i : Int) + 1) = ((i + 1 : Nat) : Int) := Run.wrap_at i 1 (by omega)
        rw [if_pos w1, e1, Option.bind_some, if_pos w2, if_pos w3, e2]
        exact hx

theorem RunParts (l0 : List (List Int)) (l1 : List Int) (h0 : ∀ r ∈ l0, Byte r) (h1 : Byte l1) : ∃ k, erasurelaw11_RunParts.f k l0 l1 = some true := by
  refine ⟨1000100 + 1, ?_⟩
  unfold erasurelaw11_RunParts.f
  have ht : ∀ K, erasurelaw11_RunParts.j0 (K + 1) l0 l1 true = some true := fun K => by rw [erasurelaw11_RunParts.j0, if_pos rfl]
  by_cases c2 : (l0.length : Int) > 20
  · rw [if_pos c2]; exact ht _
  · by_cases c3 : (l1.length : Int) > 100
    · rw [if_neg c2, decide_eq_true c3]; exact ht _
    · rw [if_neg c2, decide_eq_false c3, erasurelaw11_RunParts.j0, if_neg (by decide)]
      have := parts_l0 l0 l1 (by omega) (by omega) h0 h1 l0.length 0 1000100 (by omega) (by omega) (fun r hr => absurd hr (List.not_mem_nil))
      exact this

end Go.Proofs.Ytdopkepaandoeaa.Pure
