/- The document's answer for texts and whole numbers, in plain words. -/
import Derived.Test.YtdkckjiccpdkbaaDoorE3
import Derived.Test.YtdkckjiccpdkbaaDoorPlainText
namespace Go.Proofs.YtdkckjiccpdkbaaDoor.Plain
open Go.RowKit Go.Proofs.YtdkckjiccpdkbaaDoorW.PrintWords Go.Proofs.YtdkckjiccpdkbaaDoor.A Go.Proofs.YtdkckjiccpdkbaaDoor.B Go.Proofs.YtdkckjiccpdkbaaDoor.H Go.Proofs.YtdkckjiccpdkbaaDoor.E
theorem wsm (n : Int) (h0 : -9223372036854775808 ≤ n) (h1 : n < 9223372036854775808) : wrap64 n = n := by
  unfold wrap64
  omega
def rv : List Nat → Nat
  | [] => 0
  | d :: t => d + 10 * rv t
def okD (D : List Nat) : Prop := ∀ d ∈ D, d ≤ 9
def dIs (D : List Nat) : List Int := D.map (fun d : Nat => (d : Int))
theorem dIs_len (D : List Nat) : (dIs D).length = D.length := List.length_map ..
theorem dIs_app (D E : List Nat) : dIs (D ++ E) = dIs D ++ dIs E := List.map_append ..
theorem dIs_rd (D : List Nat) (i d : Nat) (h : D[i]? = some d) : rd (dIs D) (i : Int) = (d : Int) := by
  unfold rd dIs
  rw [Int.toNat_natCast, List.getD_eq_getElem?_getD, List.getElem?_map, h]
  rfl
theorem rv_app : ∀ (D E : List Nat), rv (D ++ E) = rv D + 10 ^ D.length * rv E
  | [], E => by show rv E = 0 + 10 ^ 0 * rv E; omega
  | d :: t, E => by
    show d + 10 * rv (t ++ E) = d + 10 * rv t + 10 ^ (t.length + 1) * rv E
    rw [rv_app t E, Nat.pow_succ]
    grind
theorem rv_lt : ∀ (D : List Nat), okD D → rv D < 10 ^ D.length
  | [], _ => by decide
  | d :: t, h => by
    have ih := rv_lt t (fun x hx => h x (List.mem_cons_of_mem _ hx))
    have hd := h d (List.mem_cons_self ..)
    show d + 10 * rv t < 10 ^ (t.length + 1)
    rw [Nat.pow_succ]
    omega
def fin (b : Bool) (N s : Nat) : Int × Int × Int := if N > 999999999999999999 ∨ s > 9 then (0, 0, 5) else (if b then -(N : Int) else (N : Int), (s : Int), 0)
theorem p18 : (10 : Nat) ^ 18 = 1000000000000000000 := by decide
theorem l2_f (b : Bool) (D : List Nat) (hD : okD D) (hl : D.length ≤ 18) (s : Int) (x1 : List Int) (x2 : Int) : ∀ (i m k : Nat), i ≤ D.length → m * 10 ^ i + rv (D.take i) ≤ 999999999999999999 → i + 1 ≤ k →
    erasureref01_told.l2 k (dIs D) s (m : Int) ((i : Int) - 1) b x1 x2 = some (if b then -((m * 10 ^ i + rv (D.take i) : Nat) : Int) else ((m * 10 ^ i + rv (D.take i) : Nat) : Int), s, 0) := by
  intro i
  induction i with
  | zero =>
    intro m k hi hN hk
    obtain ⟨k, rfl⟩ : ∃ q, k = q + 1 := ⟨k - 1, by omega⟩
    have e : m * 10 ^ 0 + rv (D.take 0) = m := by show m * 1 + 0 = m; omega
    rw [e] at hN
    rw [e, erasureref01_told.l2, if_neg (by omega)]
    cases b
    · rfl
    · rw [if_pos rfl, if_pos rfl, wsm _ (by omega) (by omega)]
  | succ i ih =>
    intro m k hi hN hk
    obtain ⟨k, rfl⟩ : ∃ q, k = q + 1 := ⟨k - 1, by omega⟩
    obtain ⟨d, hd⟩ : ∃ d, D[i]? = some d := ⟨D[i]'(by omega), List.getElem?_eq_getElem (by omega)⟩
    have hd9 : d ≤ 9 := hD d (List.mem_of_getElem? hd)
    have ht : D.take (i + 1) = D.take i ++ [d] := by rw [List.take_add_one, hd]; rfl
    have hr : rv (D.take (i + 1)) = rv (D.take i) + 10 ^ i * d := by
      rw [ht, rv_app, List.length_take, Nat.min_eq_left (by omega)]
      show _ + 10 ^ i * (d + 10 * 0) = _
      rw [Nat.mul_zero, Nat.add_zero]
    have hv : m * 10 ^ (i + 1) + rv (D.take (i + 1)) = (m * 10 + d) * 10 ^ i + rv (D.take i) := by
      rw [hr, Nat.pow_succ]
      grind
    rw [hv] at hN
    have hp : 1 ≤ 10 ^ i := Nat.one_le_pow _ _ (by decide)
    have hb : (m * 10 + d) * 1 ≤ (m * 10 + d) * 10 ^ i := Nat.mul_le_mul_left _ hp
    rw [hv, erasureref01_told.l2, if_pos (by omega), if_pos (by omega), dIs_len, if_pos (by omega), show ((i + 1 : Nat) : Int) - 1 = (i : Int) from by omega, dIs_rd D i d hd, wsm (10 * (m : Int)) (by omega) (by omega), wsm (10 * (m : Int) + (d : Int)) (by omega) (by omega), wsm ((i : Int) - 1) (by omega) (by omega), show 10 * (m : Int) + (d : Int) = ((m * 10 + d : Nat) : Int) from by omega]
    exact ih (m * 10 + d) k (by omega) hN (by omega)
theorem j3_f (b : Bool) (D : List Nat) (hD : okD D) (s : Nat) (hbig : D.length > 18 → rv D > 999999999999999999) (hs : s ≤ 1000) (x1 : List Int) (x2 : Int) (k : Nat) (hk : 24 ≤ k) (hl : D.length ≤ 1000) :
    erasureref01_told.j3 k (dIs D) (s : Int) b x1 x2 = some (fin b (rv D) s) := by
  obtain ⟨k, rfl⟩ : ∃ q, k = q + 2 := ⟨k - 2, by omega⟩
  unfold fin
  rw [erasureref01_told.j3, dIs_len]
  by_cases h18 : D.length > 18
  · rw [if_pos (by omega), erasureref01_told.j4, if_pos rfl, if_pos (Or.inl (hbig h18))]
  · rw [if_neg (by omega), erasureref01_told.j4]
    have hlt := rv_lt D hD
    have hpw : 10 ^ D.length ≤ 10 ^ 18 := Nat.pow_le_pow_right (by decide) (by omega)
    rw [p18] at hpw
    by_cases h9 : s > 9
    · rw [if_pos (by rw [decide_eq_true_iff]; omega), if_pos (Or.inr h9)]
    · rw [if_neg (by rw [decide_eq_true_iff]; omega), if_neg (by omega), dIs_len, wsm _ (by omega) (by omega)]
      have h := l2_f b D hD (by omega) s x1 x2 D.length 0 k (Nat.le_refl _) (by rw [List.take_length, Nat.zero_mul]; omega) (by omega)
      rw [List.take_length, Nat.zero_mul, Nat.zero_add] at h
      exact h
theorem l1_f (b : Bool) (s : Nat) (hs : s ≤ 1000) (x1 : List Int) (x2 : Int) : ∀ (n : Nat) (D : List Nat) (k : Nat), D.length = n → okD D → n ≤ 1000 → n + 25 ≤ k →
    erasureref01_told.l1 k (dIs D) (s : Int) b x1 x2 = some (fin b (rv D) s) := by
  intro n
  induction n with
  | zero =>
    intro D k hn hD hl hk
    obtain ⟨k, rfl⟩ : ∃ q, k = q + 1 := ⟨k - 1, by omega⟩
    rw [erasureref01_told.l1, dIs_len, if_neg (by omega)]
    exact j3_f b D hD s (by omega) hs x1 x2 k (by omega) (by omega)
  | succ n ih =>
    intro D k hn hD hl hk
    obtain ⟨k, rfl⟩ : ∃ q, k = q + 1 := ⟨k - 1, by omega⟩
    rcases List.eq_nil_or_concat D with rfl | ⟨E, d, rfl⟩
    · exact absurd hn (by show ¬ 0 = _; omega)
    · rw [List.concat_eq_append] at hn hD ⊢
      rw [List.length_append] at hn
      have hE : E.length = n := by simp at hn; exact hn
      have hat : (E ++ [d])[n]? = some d := by rw [← hE]; simp
      have hrd := dIs_rd (E ++ [d]) n d hat
      have hlen : (E ++ [d]).length = n + 1 := by rw [List.length_append, hE]; rfl
      rw [erasureref01_told.l1, dIs_len, hlen, if_pos (by omega), wsm _ (by omega) (by omega), if_pos (by omega), if_pos (by omega), show ((n + 1 : Nat) : Int) - 1 = (n : Int) from by omega, hrd]
      by_cases h0 : d = 0
      · have ht : (dIs (E ++ [d])).take (n : Int).toNat = dIs E := by
          rw [Int.toNat_natCast, dIs_app, ← hE, ← dIs_len E, List.take_left]
        have hv : rv (E ++ [d]) = rv E := by rw [rv_app, h0]; show rv E + 10 ^ E.length * (0 + 10 * 0) = rv E; omega
        rw [if_pos (by omega), if_pos (by omega), ht, hv]
        exact ih E k hE (fun x hx => hD x (List.mem_append_left _ hx)) (by omega) (by omega)
      · rw [if_neg (by omega)]
        refine j3_f b (E ++ [d]) hD s (fun h18 => ?_) hs x1 x2 k (by omega) (by omega)
        rw [rv_app]
        have hp : 10 ^ 18 ≤ 10 ^ E.length := Nat.pow_le_pow_right (by decide) (by omega)
        rw [p18] at hp
        show rv E + 10 ^ E.length * (d + 10 * 0) > _
        have h1 : 10 ^ E.length * 1 ≤ 10 ^ E.length * (d + 10 * 0) := Nat.mul_le_mul_left _ (by omega)
        omega
theorem told_fin (b : Bool) (N s : Nat) (h : s = 0 ∨ N % 10 ≠ 0) : told b N s = fin b N s := by
  unfold told fin
  rw [strip_good N s h]
theorem l0_f (b : Bool) (x1 : List Int) (x2 : Int) : ∀ (s : Nat) (D : List Nat) (k : Nat), s ≤ 1000 → D.length ≤ 1000 → okD D → 2 * s + D.length + 40 ≤ k →
    erasureref01_told.l0 k (dIs D) (s : Int) b x1 x2 = some (told b (rv D) s) := by
  intro s
  induction s with
  | zero =>
    intro D k hs hl hD hk
    obtain ⟨k, rfl⟩ : ∃ q, k = q + 2 := ⟨k - 2, by omega⟩
    rw [erasureref01_told.l0, if_neg (by decide), erasureref01_told.j1, if_neg (by decide), told_fin b _ 0 (Or.inl rfl)]
    exact l1_f b 0 (by decide) x1 x2 D.length D k rfl hD hl (by omega)
  | succ s ih =>
    intro D k hs hl hD hk
    obtain ⟨k, rfl⟩ : ∃ q, k = q + 2 := ⟨k - 2, by omega⟩
    rw [erasureref01_told.l0, if_pos (by omega)]
    cases D with
    | nil =>
      have hd : erasureref01_digit.f (dIs []) 0 = some 0 := rfl
      rw [hd, Option.bind_some, erasureref01_told.j1, if_pos (by decide), if_neg (by decide), wsm _ (by omega) (by omega), show ((s + 1 : Nat) : Int) - 1 = (s : Int) from by omega, ih [] k (by omega) hl hD (by omega)]
      unfold told
      rw [show rv [] = 0 from rfl, strip_zero, strip_zero]
    | cons d t =>
      have hd : erasureref01_digit.f (dIs (d :: t)) 0 = some (d : Int) := by
        unfold erasureref01_digit.f
        rw [if_neg (by decide), dIs_len, if_neg (by rw [List.length_cons]; omega), if_pos (by decide), if_pos (by rw [List.length_cons]; omega), show (0 : Int) = ((0 : Nat) : Int) from rfl, dIs_rd (d :: t) 0 d rfl]
      have hd9 := hD d (List.mem_cons_self ..)
      have ht : okD t := fun x hx => hD x (List.mem_cons_of_mem _ hx)
      rw [List.length_cons] at hl hk
      rw [hd, Option.bind_some, erasureref01_told.j1]
      by_cases h0 : d = 0
      · subst h0
        rw [if_pos (by rw [beq_iff_eq]; rfl), dIs_len, if_pos (by rw [List.length_cons]; omega), if_pos (by rw [List.length_cons]; omega), wsm _ (by omega) (by omega), show ((s + 1 : Nat) : Int) - 1 = (s : Int) from by omega]
        have e : (dIs (0 :: t)).drop (1 : Int).toNat = dIs t := rfl
        rw [e, ih t k (by omega) (by omega) ht (by omega)]
        unfold told
        have e2 : rv (0 :: t) = 10 * rv t := by show 0 + 10 * rv t = _; omega
        rw [e2, show strip (10 * rv t) (s + 1) = strip (rv t) s from by rw [strip, if_pos (by omega), Nat.mul_div_cancel_left _ (by decide)]]
      · rw [if_neg (by rw [beq_iff_eq]; omega), told_fin b _ (s + 1) (Or.inr (by show (d + 10 * rv t) % 10 ≠ 0; omega))]
        exact l1_f b (s + 1) (by omega) x1 x2 (d :: t).length (d :: t) k rfl hD (by rw [List.length_cons]; omega) (by rw [List.length_cons]; omega)
theorem told_ref (b : Bool) (s : Nat) (D : List Nat) (k : Nat) (hs : s ≤ 1000) (hl : D.length ≤ 1000) (hD : okD D) (hk : 2 * s + D.length + 40 ≤ k) : erasureref01_told.f k b (dIs D) (s : Int) = some (told b (rv D) s) := by
  unfold erasureref01_told.f
  rw [dIs_len, if_pos (by show 0 + _ < _; omega), List.nil_append]
  exact l0_f b _ _ s D k hs hl hD hk
end Go.Proofs.YtdkckjiccpdkbaaDoor.Plain
