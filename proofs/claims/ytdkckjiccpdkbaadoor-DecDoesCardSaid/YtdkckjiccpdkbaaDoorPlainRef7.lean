/- The document's Print, in plain words (for DecDoes). -/
import Derived.Test.YtdkckjiccpdkbaaDoorPlainRef5
namespace Go.Proofs.YtdkckjiccpdkbaaDoor.Plain
open Go.RowKit Go.Proofs.YtdkckjiccpdkbaaDoorW.PrintWords Go.Proofs.YtdkckjiccpdkbaaDoor.A Go.Proofs.YtdkckjiccpdkbaaDoor.B Go.Proofs.YtdkckjiccpdkbaaDoor.H Go.Proofs.YtdkckjiccpdkbaaDoor.E Go.Proofs.YtdkckjiccpdkbaaDoor.G
set_option linter.unusedVariables false
theorem of_l0t (b : Bool) (S : Int) : ∀ (n N : Nat), N < 10 ^ n → n ≤ 18 → ∀ (acc : List Nat) (k : Nat), acc.length ≤ 100 - n → n + 1 ≤ k →
    ∃ D, okD D ∧ rv D = N ∧ D.length ≤ n ∧ (0 < D.length → 10 ^ (D.length - 1) ≤ N) ∧ erasureref01_of.l0 k (N : Int) b (dIs acc) S = some (b, dIs (acc ++ D), S) := by
  intro n
  induction n with
  | zero =>
    intro N h hn acc k ha hk
    obtain ⟨k, rfl⟩ : ∃ q, k = q + 1 := ⟨k - 1, by omega⟩
    have h0 : N = 0 := by simpa using h
    subst h0
    refine ⟨[], okD_nil, rfl, Nat.le_refl _, fun h => absurd h (Nat.lt_irrefl _), ?_⟩
    rw [erasureref01_of.l0, if_neg (by decide), List.append_nil]
  | succ n ih =>
    intro N h hn acc k ha hk
    obtain ⟨k, rfl⟩ : ∃ q, k = q + 1 := ⟨k - 1, by omega⟩
    by_cases h0 : N = 0
    · subst h0
      refine ⟨[], okD_nil, rfl, Nat.zero_le _, fun h => absurd h (Nat.lt_irrefl _), ?_⟩
      rw [erasureref01_of.l0, if_neg (by decide), List.append_nil]
    · have hb : N < 10 ^ 18 := Nat.lt_of_lt_of_le h (Nat.pow_le_pow_right (by decide) hn)
      rw [p18] at hb
      obtain ⟨D, h1, h2, h3, h5, h4⟩ := ih (N / 10) (by rw [Nat.pow_succ] at h; omega) (by omega) (acc ++ [N % 10]) k (by rw [List.length_append]; show _ + 1 ≤ _; omega) (by omega)
      refine ⟨N % 10 :: D, fun d hd => ?_, ?_, by rw [List.length_cons]; omega, ?_, ?_⟩
      · rcases List.mem_cons.1 hd with rfl | hd
        · omega
        · exact h1 d hd
      · show N % 10 + 10 * rv D = N
        omega
      · intro _
        rw [List.length_cons, Nat.add_sub_cancel]
        rcases Nat.eq_zero_or_pos D.length with e | e
        · rw [e, Nat.pow_zero]; omega
        · have h6 := h5 e
          obtain ⟨m, hm⟩ : ∃ m, D.length = m + 1 := ⟨D.length - 1, by omega⟩
          rw [hm, Nat.add_sub_cancel] at h6
          rw [hm, Nat.pow_succ]
          omega
      · rw [erasureref01_of.l0, if_pos (by omega), dIs_len, if_pos (by omega), td10, tm10, wsm _ (by omega) (by omega)]
        rw [dIs_app, List.append_assoc, List.singleton_append] at h4
        exact h4
theorem of_ft (M S : Int) (h0 : -999999999999999999 ≤ M) (h1 : M ≤ 999999999999999999) (k : Nat) (hk : 25 ≤ k) : ∃ D, okD D ∧ rv D = M.natAbs ∧ D.length ≤ 18 ∧ (0 < D.length → 10 ^ (D.length - 1) ≤ M.natAbs) ∧ erasureref01_of.f k M S = some (decide (M < 0), dIs D, S) := by
  obtain ⟨k, rfl⟩ : ∃ q, k = q + 1 := ⟨k - 1, by omega⟩
  obtain ⟨D, d1, d2, d3, d5, d4⟩ := of_l0t (decide (M < 0)) S 18 M.natAbs (by rw [p18]; omega) (Nat.le_refl _) [] k (by show 0 ≤ _; omega) (by omega)
  refine ⟨D, d1, d2, d3, d5, ?_⟩
  unfold erasureref01_of.f
  by_cases hm : M < 0
  · rw [if_pos hm, erasureref01_of.j0, wsm _ (by omega) (by omega), show -M = ((M.natAbs : Nat) : Int) from by omega]
    exact d4
  · rw [if_neg hm, erasureref01_of.j0]
    have e : (M.natAbs : Int) = M := by omega
    rw [e] at d4
    exact d4
def ch (d : Nat) : UInt8 := UInt8.ofNat (48 + d)
def digD (D : List Nat) : Nat → List UInt8
  | 0 => []
  | i + 1 => ch (atD D i) :: digD D i
def tailD (D : List Nat) (s : Nat) : Nat → List UInt8
  | 0 => []
  | i + 1 => if i + 1 = s then 46 :: ch (atD D i) :: tailD D s i else ch (atD D i) :: tailD D s i
theorem dig_len (D : List Nat) : ∀ i, (digD D i).length = i
  | 0 => rfl
  | i + 1 => by show (digD D i).length + 1 = i + 1; rw [dig_len D i]
theorem dig_all (D : List Nat) (h : okD D) : ∀ i, allDig (digD D i)
  | 0 => fun c hc => by cases hc
  | i + 1 => by
    refine (allDig_cons _ _).2 ⟨?_, dig_all D h i⟩
    have := atD_le D h i
    unfold isDig ch
    rw [toNat_dig _ (by omega)]
    omega
theorem val_cons (c : UInt8) (t : List UInt8) : val (c :: t) = (c.toNat - 48) * 10 ^ t.length + val t := by
  show valA (0 * 10 + (c.toNat - 48)) t = _
  rw [valA_eq, Nat.zero_mul, Nat.zero_add]
theorem dig_val (D : List Nat) (h : okD D) : ∀ i, val (digD D i) = rv (D.take i)
  | 0 => rfl
  | i + 1 => by
    have := atD_le D h i
    show val (ch (atD D i) :: digD D i) = _
    rw [val_cons, dig_len, dig_val D h i, take_step]
    unfold ch
    rw [toNat_dig _ (by omega), Nat.add_sub_cancel_left, Nat.mul_comm, Nat.add_comm]
theorem uniq : ∀ (P Q : List UInt8), P.length = Q.length → allDig P → allDig Q → val P = val Q → P = Q
  | [], [], _, _, _, _ => rfl
  | [], _ :: _, h, _, _, _ => by simp at h
  | _ :: _, [], h, _, _, _ => by simp at h
  | a :: P, b :: Q, hl, hP, hQ, hv => by
    obtain ⟨pa, pP⟩ := (allDig_cons _ _).1 hP
    obtain ⟨qb, qQ⟩ := (allDig_cons _ _).1 hQ
    have hl' : P.length = Q.length := by simpa using hl
    rw [val_cons, val_cons, hl'] at hv
    have l1 := val_lt P pP
    have l2 := val_lt Q qQ
    rw [hl'] at l1
    unfold isDig at pa qb
    have e : a.toNat - 48 = b.toNat - 48 := by
      generalize 10 ^ Q.length = p at *
      generalize a.toNat - 48 = x at *
      generalize b.toNat - 48 = y at *
      rcases Nat.lt_trichotomy x y with h | h | h
      · exfalso
        have : (x + 1) * p ≤ y * p := Nat.mul_le_mul_right _ h
        rw [Nat.add_mul, Nat.one_mul] at this
        omega
      · exact h
      · exfalso
        have : (y + 1) * p ≤ x * p := Nat.mul_le_mul_right _ h
        rw [Nat.add_mul, Nat.one_mul] at this
        omega
    have e2 : a = b := UInt8.toNat_inj.1 (by omega)
    subst e2
    rw [uniq P Q hl' pP qQ (by omega)]
theorem tail_none (D : List Nat) (s : Nat) : ∀ i, (s = 0 ∨ i < s) → tailD D s i = digD D i
  | 0, _ => rfl
  | i + 1, h => by
    show (if i + 1 = s then _ else _) = _
    rw [if_neg (by omega), tail_none D s i (by omega)]
    rfl
theorem tail_point (D : List Nat) (s : Nat) (hs : 0 < s) : ∀ i, s ≤ i → tailD D s i = (digD D i).take (i - s) ++ 46 :: (digD D i).drop (i - s)
  | 0, h => absurd h (by omega)
  | i + 1, h => by
    show (if i + 1 = s then _ else _) = _
    by_cases e : i + 1 = s
    · rw [if_pos e, tail_none D s i (Or.inr (by omega)), show i + 1 - s = 0 from by omega]
      rfl
    · rw [if_neg e, tail_point D s hs i (by omega), show i + 1 - s = (i - s) + 1 from by omega]
      rfl
theorem num_ch (d : Nat) (h : d ≤ 9) : strOfNums [(wrap64 (48 + (d : Int))) % 256] = ⟨[ch d].toArray⟩ := by
  rw [wsm _ (by omega) (by omega), show (48 + (d : Int)) % 256 = ((48 + d : Nat) : Int) from by omega]
  rfl
theorem print_l0r (D : List Nat) (hD : okD D) (s : Nat) (hs : s ≤ 9) (b : Bool) : ∀ (i k : Nat) (L : List UInt8), L.length + 2 * i ≤ 1000 → i + 1 ≤ k →
    erasureref01_Print.l0 k (⟨L.toArray⟩ : ByteArray) ((i : Int) - 1) b (dIs D) (s : Int) = some (⟨(L ++ tailD D s i).toArray⟩, 0) := by
  intro i
  induction i with
  | zero =>
    intro k L hl hk
    obtain ⟨k, rfl⟩ : ∃ q, k = q + 1 := ⟨k - 1, by omega⟩
    rw [erasureref01_Print.l0, if_neg (by decide)]
    show some _ = some ((⟨(L ++ []).toArray⟩ : ByteArray), (0 : Int))
    rw [List.append_nil]
  | succ i ih =>
    intro k L hl hk
    obtain ⟨k, rfl⟩ : ∃ q, k = q + 1 := ⟨k - 1, by omega⟩
    have h9 := atD_le D hD i
    have e0 : ((i + 1 : Nat) : Int) - 1 = (i : Int) := by omega
    have f0 : (i : Int) ≥ 0 := by omega
    have e46 : (⟨L.toArray⟩ : ByteArray) ++ (⟨#[46]⟩ : ByteArray) = ⟨(L ++ [46]).toArray⟩ := bytes_app L [46]
    have z1 : (⟨L.toArray⟩ : ByteArray).size + 1 ≤ 9223372036854775807 := by rw [bytes_size]; omega
    have z2 : (⟨(L ++ [46]).toArray⟩ : ByteArray).size + (⟨[ch (atD D i)].toArray⟩ : ByteArray).size ≤ 9223372036854775807 := by rw [bytes_size, bytes_size, List.length_append]; show L.length + 1 + 1 ≤ _; omega
    have z3 : (⟨L.toArray⟩ : ByteArray).size + (⟨[ch (atD D i)].toArray⟩ : ByteArray).size ≤ 9223372036854775807 := by rw [bytes_size, bytes_size]; show L.length + 1 ≤ _; omega
    have l1 : ((L ++ [46]) ++ [ch (atD D i)]).length + 2 * i ≤ 1000 := by rw [List.length_append, List.length_append]; show L.length + 1 + 1 + _ ≤ _; omega
    have l2 : (L ++ [ch (atD D i)]).length + 2 * i ≤ 1000 := by rw [List.length_append]; show L.length + 1 + _ ≤ _; omega
    have hk' : i + 1 ≤ k := by omega
    have w1 : -9223372036854775808 ≤ (s : Int) - 1 := by omega
    have w2 : (s : Int) - 1 < 9223372036854775808 := by omega
    have w3 : -9223372036854775808 ≤ (i : Int) - 1 := by omega
    have w4 : (i : Int) - 1 < 9223372036854775808 := by omega
    by_cases hp : i + 1 = s
    · have f1 : (i : Int) = (s : Int) - 1 := by omega
      have r := ih k ((L ++ [46]) ++ [ch (atD D i)]) l1 hk'
      have et : tailD D s (i + 1) = 46 :: ch (atD D i) :: tailD D s i := if_pos hp
      rw [et, erasureref01_Print.l0, e0, if_pos f0, wsm ((s : Int) - 1) w1 w2, if_pos f1, if_pos z1, digit_f, Option.bind_some, Option.bind_some, num_ch _ h9, e46, if_pos z2, bytes_app, wsm ((i : Int) - 1) w3 w4, r]
      simp
    · have f1 : ¬ (i : Int) = (s : Int) - 1 := by omega
      have r := ih k (L ++ [ch (atD D i)]) l2 hk'
      have et : tailD D s (i + 1) = ch (atD D i) :: tailD D s i := if_neg hp
      rw [et, erasureref01_Print.l0, e0, if_pos f0, wsm ((s : Int) - 1) w1 w2, if_neg f1, digit_f, Option.bind_some, Option.bind_some, num_ch _ h9, if_pos z3, bytes_app, wsm ((i : Int) - 1) w3 w4, r]
      simp
theorem print_ref (M : Int) (s : Nat) (hg : Good M s) (k : Nat) (hk : 100 ≤ k) : erasureref01_Print.f k M (s : Int) = some (⟨(printL M s).toArray⟩, 0) := by
  obtain ⟨a1, a2, a3, a4, _⟩ := id hg
  obtain ⟨D, d1, d2, d3, d5, d4⟩ := of_ft M (s : Int) a1 a2 k (by omega)
  obtain ⟨N, hN⟩ : ∃ N, N = M.natAbs := ⟨_, rfl⟩
  rw [← hN] at d2 d5
  obtain ⟨T, hT⟩ : ∃ T, T = max D.length (s + 1) := ⟨_, rfl⟩
  obtain ⟨p1, p2, p3⟩ := pad_facts N s
  have hlen : (padD N s).length = T := by
    rw [p3, hT]
    rcases Nat.eq_zero_or_pos D.length with e | e
    · have : D = [] := List.eq_nil_of_length_eq_zero e
      subst this
      obtain rfl : 0 = N := d2
      rw [Lib.nDigits_small (by decide)]
      show max 1 (s + 1) = max 0 (s + 1)
      omega
    · have h1 := d5 e
      have h2 := rv_lt D d1
      rw [d2] at h2
      obtain ⟨m, hm⟩ : ∃ m, D.length = m + 1 := ⟨D.length - 1, by omega⟩
      rw [hm, Nat.add_sub_cancel] at h1
      rw [hm] at h2
      rw [Lib.nDigits_unique m N h1 h2, hm]
  have hpad : digD D T = padD N s := by
    refine uniq _ _ (by rw [dig_len, hlen]) (dig_all D d1 T) p1 ?_
    rw [dig_val D d1, List.take_of_length_le (by omega), d2, p2]
  have hbody : tailD D s T = bodyL N s := by
    unfold bodyL
    by_cases h : s > 0
    · rw [if_pos h, tail_point D s h T (by omega), hpad, hlen]
    · rw [if_neg h, tail_none D s T (Or.inl (by omega)), hpad]
  have hj : ∀ L : List UInt8, L.length ≤ 1 → erasureref01_Print.j0 k (⟨L.toArray⟩ : ByteArray) (decide (M < 0)) (dIs D) (s : Int) = some (⟨(L ++ bodyL N s).toArray⟩, 0) := by
    intro L hL
    obtain ⟨k, rfl⟩ : ∃ q, k = q + 1 := ⟨k - 1, by omega⟩
    have g1 : s < 1000000 := by omega
    have g2 : -9223372036854775808 ≤ (T : Int) - 1 := by omega
    have g3 : (T : Int) - 1 < 9223372036854775808 := by omega
    have g4 : s ≤ 9 := by omega
    have g5 : L.length + 2 * T ≤ 1000 := by omega
    have g6 : T + 1 ≤ k := by omega
    rw [erasureref01_Print.j0, dIs_len, wone s g1, mx_nat, ← hT, wsm ((T : Int) - 1) g2 g3, print_l0r D d1 s g4 _ T k L g5 g6, hbody]
  unfold erasureref01_Print.f
  rw [right_ref, Option.bind_some, decide_eq_true hg, if_pos rfl, d4, Option.bind_some]
  dsimp only
  unfold printL
  rw [← hN]
  by_cases h : M < 0
  · rw [decide_eq_true h] at hj ⊢
    rw [if_pos rfl, if_pos h]
    exact hj [45] (Nat.le_refl _)
  · rw [decide_eq_false h] at hj ⊢
    rw [if_neg (by decide), if_neg h]
    exact hj [] (Nat.zero_le _)
theorem print_ref_bad (M s : Int) (hg : ¬ Good M s) (k : Nat) : erasureref01_Print.f k M s = some (⟨#[]⟩, 1) := by
  unfold erasureref01_Print.f
  rw [right_ref, Option.bind_some, decide_eq_false hg, if_neg (by decide)]
end Go.Proofs.YtdkckjiccpdkbaaDoor.Plain
