/- What run.Get and the document's Get compute: one plain decoder; both printed loops are it. -/
import Derived.Test.YtdopkepaandoeaaR2
namespace Go.Proofs.Ytdopkepaandoeaa.Run
open Go.RowKit Go.Proofs.YtdopkepaandoeaaW.PrintWords Go.Proofs.YtdopkepaandoeaaW.PrintLast Go.Proofs.YtdopkepaandoeaaW.PrintMore
set_option linter.unusedVariables false
set_option linter.unusedSimpArgs false

/-- The bytes still to read; the most that may be got; what is got. -/
def dec (l : List Int) (m : Int) (out : List Int) : List Int × Int :=
  match l with
  | [] => ([], 6)
  | n :: t =>
    if n = 128 then (out, 0)
    else if n < 128 then
      (if (t.length : Int) < n + 1 then ([], 6)
       else if m < (out.length : Int) + n + 1 then ([], 2)
       else dec (t.drop (n + 1).toNat) m (out ++ t.take (n + 1).toNat))
    else
      (if t.length = 0 then ([], 6)
       else if m < (out.length : Int) + 257 - n then ([], 2)
       else dec (t.drop 1) m (out ++ List.replicate (257 - n).toNat (rd t 0)))
termination_by l.length
decreasing_by
  all_goals simp only [List.length_drop, List.length_cons]; omega

def Byte (l : List Int) : Prop := ∀ x ∈ l, 0 ≤ x ∧ x ≤ 255
theorem Byte.of_wf {l : List Int} (h : ∀ x ∈ l, (Lit.int .u8 x).wf = true) : Byte l := fun x hx => by
  have := h x hx
  simp only [Lit.wf, IntKind.min, IntKind.max, IntKind.signed, IntKind.bits, Bool.and_eq_true, decide_eq_true_eq] at this
  simp at this
  omega
theorem Byte.drop {l : List Int} (h : Byte l) (n : Nat) : Byte (l.drop n) := fun x hx => h x (List.mem_of_mem_drop hx)
theorem rd_cons (n : Int) (t : List Int) : rd (n :: t) 0 = n := rfl

/-! ### the program's -/

theorem get_l1 (x0 : List Int) (m : Int) (hm : m ≤ 1048576) (c : Nat) (hc : c ≤ x0.length) : ∀ (d i often : Nat) (out : List Int) (k : Nat), often = i + d → often ≤ 1048576 → d < k → (out.length : Int) + ((d * c : Nat) : Int) ≤ m →
    G.run_Get.l1 k x0 m out (c : Int) (often : Int) (i : Int) = G.run_Get.l0 (k - 1 - d) (x0.drop c) m (out ++ (List.replicate d (x0.take c)).flatten) := by
  intro d
  induction d with
  | zero =>
    intro i often out k hd ho hk hb
    obtain ⟨k, rfl⟩ : ∃ j, k = j + 1 := ⟨k - 1, by omega⟩
    simp only [G.run_Get.l1]
    rw [if_neg (by omega), if_pos (by omega), if_pos (by omega)]
    simp
  | succ d ih =>
    intro i often out k hd ho hk hb
    obtain ⟨k, rfl⟩ : ∃ j, k = j + 1 := ⟨k - 1, by omega⟩
    have e2 : wrap64 ((i : Int) + 1) = ((i + 1 : Nat) : Int) := by rw [wrap_small _ (by omega) (by omega)]; omega
    rw [Nat.succ_mul] at hb
    have hlt : (x0.take c).length = c := by rw [List.length_take]; omega
    have hb2 : ((out ++ x0.take c).length : Int) + ((d * c : Nat) : Int) ≤ m := by rw [List.length_append, hlt]; omega
    have hb3 : out.length + (x0.take c).length < 140737488355328 := by rw [hlt]; omega
    have hx := ih (i + 1) often (out ++ x0.take c) k (by omega) ho (by omega) hb2
    simp only [G.run_Get.l1]
    rw [if_pos (by omega), if_pos (by omega), if_pos (by omega)]
    simp only [Option.bind_some, Int.toNat_natCast]
    rw [if_pos hb3, e2, hx]
    have e3 : k + 1 - 1 - (d + 1) = k - 1 - d := by omega
    rw [e3]
    simp [List.replicate_succ]

set_option maxHeartbeats 400000 in
theorem get_l0 (m : Int) (hm0 : 0 ≤ m) (hm : m ≤ 1048576) : ∀ (N : Nat) (x0 : List Int) (out : List Int) (k : Nat), x0.length ≤ N → Byte x0 → x0.length ≤ 281474976710000 → (out.length : Int) ≤ m → 300 * N + 2 ≤ k → G.run_Get.l0 k x0 m out = some (dec x0 m out) := by
  intro N
  induction N with
  | zero =>
    intro x0 out k hN hb hl ho hk
    obtain ⟨k, rfl⟩ : ∃ j, k = j + 1 := ⟨k - 1, by omega⟩
    have : x0 = [] := List.length_eq_zero_iff.mp (by omega)
    subst this
    simp only [G.run_Get.l0]
    rw [if_neg (by simp), dec]
  | succ N ih =>
    intro x0 out k hN hb hl ho hk
    obtain ⟨k, rfl⟩ : ∃ j, k = j + 1 := ⟨k - 1, by omega⟩
    match x0, hN, hb, hl with
    | [], _, _, _ =>
      simp only [G.run_Get.l0]
      rw [if_neg (by simp), dec]
    | n :: t, hN, hb, hl =>
      have hn := hb n (List.mem_cons_self ..)
      have hbt : Byte t := fun x hx => hb x (List.mem_cons_of_mem _ hx)
      have hlt : t.length + 1 = (n :: t).length := rfl
      simp only [List.length_cons] at hN hl
      have e1 : wrap64 (rd (n :: t) 0) = n := by rw [rd_cons, wrap_small _ (by omega) (by omega)]
      have e2 : wrap64 (n + 1) = n + 1 := wrap_small _ (by omega) (by omega)
      have e3 : wrap64 (n + 1 - 1) = n := by rw [wrap_small _ (by omega) (by omega)]; omega
      simp only [G.run_Get.l0]
      rw [e1, e2, e3, if_pos (by simp only [List.length_cons]; omega), if_pos (by simp only [List.length_cons]; omega), if_pos (by simp only [List.length_cons]; omega)]
      simp only [Option.bind_some, List.drop_succ_cons, List.drop_zero]
      rw [dec]
      by_cases h1 : n = 128
      · rw [if_pos h1, if_pos h1]
      · rw [if_neg h1, if_neg h1]
        obtain ⟨k, rfl⟩ : ∃ j, k = j + 1 := ⟨k - 1, by omega⟩
        by_cases h2 : n < 128
        · rw [if_neg (by omega), if_pos h2]
          simp only [G.run_Get.j2]
          have e4 : wrap64 ((n + 1) * 1) = n + 1 := by rw [wrap_small _ (by omega) (by omega)]; omega
          have e5 : wrap64 ((out.length : Int) + (n + 1)) = (out.length : Int) + (n + 1) := wrap_small _ (by omega) (by omega)
          rw [e4, e5]
          by_cases h3 : (t.length : Int) < n + 1
          · rw [if_pos (by omega), if_pos h3]
          · rw [if_neg (by omega), if_neg h3]
            by_cases h4 : m < (out.length : Int) + n + 1
            · rw [if_pos (by omega), if_pos h4]
            · rw [if_neg (by omega), if_neg h4]
              have e6 : n + 1 = ((n + 1).toNat : Int) := by omega
              have hlx := get_l1 t m hm (n + 1).toNat (by omega) 1 0 1 out k rfl (by omega) (by omega) (by omega)
              rw [← e6] at hlx
              have hlx2 : G.run_Get.l1 k t m out (n + 1) 1 0 = _ := hlx
              rw [hlx2]
              simp only [List.replicate_succ, List.replicate_zero, List.flatten_cons, List.flatten_nil, List.append_nil]
              exact ih _ _ _ (by rw [List.length_drop]; omega) (hbt.drop _) (by rw [List.length_drop]; omega) (by rw [List.length_append, List.length_take]; omega) (by omega)
        · rw [if_pos (by omega), if_neg h2]
          simp only [G.run_Get.j2]
          have e4 : wrap64 (wrap64 (257 - (n + 1)) + 1) = 257 - n := by rw [wrap_small (257 - (n + 1)) (by omega) (by omega), wrap_small _ (by omega) (by omega)]; omega
          have e5 : wrap64 (1 * (257 - n)) = 257 - n := by rw [wrap_small _ (by omega) (by omega)]; omega
          have e6 : wrap64 ((out.length : Int) + (257 - n)) = (out.length : Int) + (257 - n) := wrap_small _ (by omega) (by omega)
          rw [e4, e5, e6]
          by_cases h3 : t.length = 0
          · rw [if_pos (by omega), if_pos h3]
          · rw [if_neg (by omega), if_neg h3]
            by_cases h4 : m < (out.length : Int) + 257 - n
            · rw [if_pos (by omega), if_pos h4]
            · rw [if_neg (by omega), if_neg h4]
              have e7 : 257 - n = ((257 - n).toNat : Int) := by omega
              have hlx := get_l1 t m hm 1 (by omega) (257 - n).toNat 0 (257 - n).toNat out k (by omega) (by omega) (by omega) (by omega)
              rw [← e7] at hlx
              have hlx2 : G.run_Get.l1 k t m out 1 (257 - n) 0 = _ := hlx
              rw [hlx2]
              have e8 : (List.replicate (257 - n).toNat (t.take 1)).flatten = List.replicate (257 - n).toNat (rd t 0) := by
                match t, h3 with
                | [], h3 => simp at h3
                | y :: t, _ => simp [rd]
              rw [e8]
              exact ih _ _ _ (by rw [List.length_drop]; omega) (hbt.drop _) (by rw [List.length_drop]; omega) (by rw [List.length_append, List.length_replicate]; omega) (by omega)

/-- Both: what a call answers. -/
def getS (l : List Int) (m : Int) : List Int × Int := if m < 0 ∨ m > 1048576 then ([], 1) else dec l m []
theorem get_f (l : List Int) (m : Int) (hb : Byte l) (hl : l.length ≤ 281474976710000) (k : Nat) (hk : 300 * l.length + 3 ≤ k) : G.run_Get.f k l m = some (getS l m) := by
  obtain ⟨k, rfl⟩ : ∃ j, k = j + 1 := ⟨k - 1, by omega⟩
  unfold G.run_Get.f getS
  by_cases h1 : m < 0
  · rw [if_pos h1, if_pos (.inl h1)]; simp [G.run_Get.j0]
  · rw [if_neg h1]
    by_cases h2 : m > 1048576
    · rw [if_pos (.inr h2)]; simp [G.run_Get.j0, h2]
    · rw [if_neg (by omega), decide_eq_false h2]
      simp only [G.run_Get.j0]
      rw [if_neg (by simp)]
      exact get_l0 m (by omega) (by omega) l.length l [] k (Nat.le_refl _) hb hl (by show ((0 : Nat) : Int) ≤ m; omega) (by omega)

/-! ### the document's -/
open R in
theorem ref_l1 (x0 : List Int) (m : Int) (hm : m ≤ 1048576) (at' : Nat) (ha : at' < x0.length) (n : Int) (hn : 129 ≤ n ∧ n ≤ 255) : ∀ (d i : Nat) (out : List Int) (k : Nat), 257 - n = (i : Int) + (d : Int) → d < k → (out.length : Int) + (d : Int) ≤ m →
    erasureref11_Get.l1 k x0 m out (at' : Int) n (i : Int) = erasureref11_Get.l0 (k - 1 - d) x0 m (out ++ List.replicate d (rd x0 at')) (wrap64 (at' + 1)) := by
  have e0 : wrap64 (257 - n) = 257 - n := wrap_small _ (by omega) (by omega)
  intro d
  induction d with
  | zero =>
    intro i out k hd hk hb
    obtain ⟨k, rfl⟩ : ∃ j, k = j + 1 := ⟨k - 1, by omega⟩
    simp only [erasureref11_Get.l1]
    rw [e0, if_neg (by omega)]
    simp
  | succ d ih =>
    intro i out k hd hk hb
    obtain ⟨k, rfl⟩ : ∃ j, k = j + 1 := ⟨k - 1, by omega⟩
    have e2 : wrap64 ((i : Int) + 1) = ((i + 1 : Nat) : Int) := by rw [wrap_small _ (by omega) (by omega)]; omega
    have hb2 : ((out ++ [rd x0 at']).length : Int) + (d : Int) ≤ m := by rw [List.length_append, List.length_singleton]; omega
    have hx := ih (i + 1) (out ++ [rd x0 at']) k (by omega) (by omega) hb2
    simp only [erasureref11_Get.l1]
    rw [e0, if_pos (by omega), if_pos (by omega), if_pos (by omega), if_pos (by omega), e2, hx]
    have e3 : k + 1 - 1 - (d + 1) = k - 1 - d := by omega
    rw [e3]
    simp [List.replicate_succ]

theorem rd_drop (l : List Int) (a b : Nat) : rd (l.drop a) (b : Int) = rd l ((a + b : Nat) : Int) := by
  simp only [rd, List.getD_eq_getElem?_getD, List.getElem?_drop, Int.toNat_natCast]
theorem drop_cons_rd (l : List Int) (a : Nat) (h : a < l.length) : l.drop a = rd l (a : Int) :: l.drop (a + 1) := by
  rw [List.drop_eq_getElem_cons h]
  simp [rd, List.getD_eq_getElem?_getD, List.getElem?_eq_getElem h]

theorem q_out (o : Nat) (n m : Int) (h : (o : Int) ≤ m) (hm : m ≤ 1048576) (hn : 0 ≤ n ∧ n ≤ 255) : wrap64 ((o : Int) + 257) = (o : Int) + 257 ∧ wrap64 ((o : Int) + 257 - n) = (o : Int) + 257 - n :=
  ⟨wrap_small _ (by omega) (by omega), wrap_small _ (by omega) (by omega)⟩
theorem q_at (a : Nat) (h : a ≤ 281474976700000) : wrap64 ((a : Int) + 1) = ((a + 1 : Nat) : Int) := by rw [wrap_small _ (by omega) (by omega)]; rfl
open R in
theorem ref_l0 (x0 : List Int) (hb : Byte x0) (hl : x0.length ≤ 281474976700000) (m : Int) (hm0 : 0 ≤ m) (hm : m ≤ 1048576) : ∀ (N : Nat) (at' : Nat) (out : List Int) (k : Nat), x0.length ≤ at' + N → at' ≤ x0.length → (out.length : Int) ≤ m → 300 * N + 2 ≤ k → erasureref11_Get.l0 k x0 m out (at' : Int) = some (dec (x0.drop at') m out) := by
  intro N
  induction N with
  | zero =>
    intro at' out k hN ha ho hk
    obtain ⟨k, rfl⟩ : ∃ j, k = j + 1 := ⟨k - 1, by omega⟩
    simp only [erasureref11_Get.l0]
    rw [if_pos (by omega), List.drop_eq_nil_of_le (by omega), dec]
  | succ N ih =>
    intro at' out k hN ha ho hk
    obtain ⟨k, rfl⟩ : ∃ j, k = j + 1 := ⟨k - 1, by omega⟩
    simp only [erasureref11_Get.l0]
    by_cases he : at' < x0.length
    · rw [if_neg (by omega), if_pos (by omega), if_pos (by omega), drop_cons_rd x0 at' he, dec]
      obtain ⟨n, hn⟩ : ∃ n, rd x0 (at' : Int) = n := ⟨_, rfl⟩
      have hnb : 0 ≤ n ∧ n ≤ 255 := by
        have : rd x0 (at' : Int) ∈ x0 := by simp [rd, List.getD_eq_getElem?_getD, List.getElem?_eq_getElem he]
        rw [hn] at this
        exact hb n this
      have e1 : wrap64 n = n := wrap_small _ (by omega) (by omega)
      have e2 : wrap64 ((at' : Int) + 1) = ((at' + 1 : Nat) : Int) := by rw [wrap_small _ (by omega) (by omega)]; omega
      rw [hn, e1, e2]
      by_cases h1 : n = 128
      · rw [if_pos h1, if_pos h1]
      · rw [if_neg h1, if_neg h1]
        by_cases h2 : n < 128
        · rw [if_pos h2, if_pos h2]
          have e3 : wrap64 (((at' + 1 : Nat) : Int) + n) = ((at' + 1 : Nat) : Int) + n := wrap_small _ (by omega) (by omega)
          have e4 : wrap64 (((at' + 1 : Nat) : Int) + n + 1) = ((at' + 1 + (n + 1).toNat : Nat) : Int) := by rw [wrap_small _ (by omega) (by omega)]; omega
          have e5 : wrap64 ((out.length : Int) + n) = (out.length : Int) + n := wrap_small _ (by omega) (by omega)
          have e6 : wrap64 ((out.length : Int) + n + 1) = (out.length : Int) + n + 1 := wrap_small _ (by omega) (by omega)
          rw [e3, e4, e5, e6]
          have el : (x0.drop (at' + 1)).length = x0.length - (at' + 1) := List.length_drop
          simp only [el]
          by_cases h3 : ((x0.length - (at' + 1) : Nat) : Int) < n + 1
          · rw [if_pos (by omega), if_pos h3]
          · rw [if_neg (by omega), if_neg h3]
            by_cases h4 : m < (out.length : Int) + n + 1
            · rw [if_pos (by omega), if_pos h4]
            · rw [if_neg (by omega), if_neg h4, if_pos (by omega), if_pos (by omega), if_pos (by omega)]
              have e7 : ((x0.take (((at' + 1 + (n + 1).toNat : Nat) : Int)).toNat).drop (((at' + 1 : Nat) : Int)).toNat) = (x0.drop (at' + 1)).take (n + 1).toNat := by
                rw [List.drop_take]
                simp only [Int.toNat_natCast]
                congr 1
                omega
              have e8 : ((x0.drop (at' + 1)).take (n + 1).toNat).length = (n + 1).toNat := by simp only [List.length_take, List.length_drop]; omega
              have e9 : out.length + ((x0.drop (at' + 1)).take (n + 1).toNat).length < 140737488355328 := by omega
              have hx := ih (at' + 1 + (n + 1).toNat) (out ++ (x0.drop (at' + 1)).take (n + 1).toNat) k (by omega) (by omega) (by rw [List.length_append]; omega) (by omega)
              rw [e7, if_pos e9, hx, List.drop_drop]
        · rw [if_neg h2, if_neg h2]
          have el : (x0.drop (at' + 1)).length = x0.length - (at' + 1) := List.length_drop
          simp only [el]
          rw [(q_out out.length n m ho hm hnb).1, (q_out out.length n m ho hm hnb).2]
          by_cases h3 : x0.length - (at' + 1) = 0
          · rw [if_pos (by omega), if_pos h3]
          · rw [if_neg (by omega), if_neg h3]
            by_cases h4 : m < (out.length : Int) + 257 - n
            · rw [if_pos (by omega), if_pos h4]
            · rw [if_neg (by omega), if_neg h4]
              have hlx := ref_l1 x0 m hm (at' + 1) (by omega) n (by omega) (257 - n).toNat 0 out k (by omega) (by omega) (by omega)
              have hlx2 : erasureref11_Get.l1 k x0 m out ((at' + 1 : Nat) : Int) n 0 = _ := hlx
              rw [hlx2]
              have w1 : x0.length ≤ at' + 1 + 1 + N := by clear e1 e2 hlx hlx2 hk; omega
              have w2 : at' + 1 + 1 ≤ x0.length := by clear e1 e2 hlx hlx2 hk; omega
              have w3 : 300 * N + 2 ≤ k - 1 - (257 - n).toNat := by clear e1 e2 hlx hlx2 hN h3 el w1 w2 hl ho h4; omega
              have w4 : ((out ++ List.replicate (257 - n).toNat (rd x0 ((at' + 1 : Nat) : Int))).length : Int) ≤ m := by
                rw [List.length_append, List.length_replicate]
                clear e1 e2 hlx hlx2 hk hN w1 w2 w3 h3 el hl
                omega
              have hx := ih (at' + 1 + 1) (out ++ List.replicate (257 - n).toNat (rd x0 ((at' + 1 : Nat) : Int))) (k - 1 - (257 - n).toNat) w1 w2 w4 w3
              have e5 : wrap64 (((at' + 1 : Nat) : Int) + 1) = ((at' + 1 + 1 : Nat) : Int) := q_at (at' + 1) (by clear hk hN ho; omega)
              rw [e5, hx, List.drop_drop]
              rw [show rd (x0.drop (at' + 1)) 0 = rd x0 ((at' + 1 : Nat) : Int) from rd_drop x0 (at' + 1) 0]
    · rw [if_pos (by omega), List.drop_eq_nil_of_le (by omega), dec]

open R in
theorem ref_get_f (l : List Int) (m : Int) (hb : Byte l) (hl : l.length ≤ 281474976700000) (k : Nat) (hk : 300 * l.length + 3 ≤ k) : erasureref11_Get.f k l m = some (getS l m) := by
  obtain ⟨k, rfl⟩ : ∃ j, k = j + 1 := ⟨k - 1, by omega⟩
  unfold erasureref11_Get.f getS
  by_cases h1 : m < 0
  · rw [if_pos h1, if_pos (.inl h1)]; simp [erasureref11_Get.j0]
  · rw [if_neg h1]
    by_cases h2 : m > 1048576
    · rw [if_pos (.inr h2)]; simp [erasureref11_Get.j0, h2]
    · rw [if_neg (by omega), decide_eq_false h2]
      simp only [erasureref11_Get.j0]
      rw [if_neg (by simp)]
      have := ref_l0 l hb hl m (by omega) (by omega) l.length 0 [] k (by omega) (by omega) (by show ((0 : Nat) : Int) ≤ m; omega) (by omega)
      rw [List.drop_zero] at this
      exact this
end Go.Proofs.Ytdopkepaandoeaa.Run
