/- The document's Mul, in plain words (for DecDoes). -/
import Derived.Test.YtdkckjiccpdkbaaDoorG5
import Derived.Test.YtdkckjiccpdkbaaDoorPlainRef5
namespace Go.Proofs.YtdkckjiccpdkbaaDoor.Plain
open Go.RowKit Go.Proofs.YtdkckjiccpdkbaaDoorW.PrintWords Go.Proofs.YtdkckjiccpdkbaaDoor.A Go.Proofs.YtdkckjiccpdkbaaDoor.B Go.Proofs.YtdkckjiccpdkbaaDoor.H Go.Proofs.YtdkckjiccpdkbaaDoor.E Go.Proofs.YtdkckjiccpdkbaaDoor.G
set_option linter.unusedVariables false
theorem dIs_at (L : List Nat) (i : Nat) : rd (dIs L) (i : Int) = (atD L i : Int) := by
  unfold rd dIs atD
  rw [Int.toNat_natCast, List.getD_eq_getElem?_getD, List.getD_eq_getElem?_getD, List.getElem?_map]
  cases L[i]? <;> rfl
theorem dIs_set (L : List Nat) (i v : Nat) : (dIs L).set i (v : Int) = dIs (L.set i v) := by
  unfold dIs
  rw [List.map_set]
theorem dIs_rep : ∀ n, List.replicate n (0 : Int) = dIs (List.replicate n 0)
  | 0 => rfl
  | n + 1 => by rw [List.replicate_succ, dIs_rep n]; rfl
theorem atD_zeros (n j : Nat) : atD (List.replicate n 0) j = 0 := by
  unfold atD
  rw [List.getD_eq_getElem?_getD, List.getElem?_replicate]
  split <;> rfl
theorem tdiv10 (a : Nat) : Int.tdiv (a : Int) 10 = ((a / 10 : Nat) : Int) := rfl
theorem tmod10 (a : Nat) : Int.tmod (a : Int) 10 = ((a % 10 : Nat) : Int) := rfl
theorem mul_l2 (b : Bool) (S : Nat) (hS : S ≤ 18) (n : Nat) (hn : n ≤ 100) (V : Nat) (hV : V < 10 ^ (n - 1)) (h1 : 1 ≤ n) : ∀ (d i : Nat) (L : List Nat) (k : Nat), i + d + 1 = n → L.length = n → rv L = V →
    (∀ j, j < i → atD L j ≤ 9) → (∀ j, atD L j ≤ 30000) → (∀ j, i < j → atD L j ≤ 26300) → d + 300 ≤ k →
    erasureref01_Mul.l2 k (dIs L) (i : Int) b (S : Int) = some (told b V S) := by
  intro d
  induction d with
  | zero =>
    intro i L k hi hl hv h9 hc hc2 hk
    obtain ⟨k, rfl⟩ : ∃ q, k = q + 1 := ⟨k - 1, by omega⟩
    have ok : okD L := by
      intro x hx
      obtain ⟨j, hj, rfl⟩ := List.getElem_of_mem hx
      have e : atD L j = L[j] := by unfold atD; rw [List.getD_eq_getElem?_getD, List.getElem?_eq_getElem hj]; rfl
      rw [← e]
      rcases Nat.lt_or_ge j i with h | h
      · exact h9 j h
      · obtain rfl : j = n - 1 := by omega
        rw [top_zero L (n - 1) (by rw [hv]; exact hV)]
        omega
    rw [erasureref01_Mul.l2, wsm _ (by omega) (by omega), dIs_len, if_neg (by omega), told_ref b S L k (by omega) (by omega) ok (by omega), Option.bind_some, hv]
  | succ d ih =>
    intro i L k hi hl hv h9 hc hc2 hk
    obtain ⟨k, rfl⟩ : ∃ q, k = q + 1 := ⟨k - 1, by omega⟩
    have ca := hc i
    have cb := hc2 (i + 1) (by omega)
    have f1 : ((i + 1 : Nat) : Int) < (L.length : Int) := by omega
    have f2 : (0 : Int) ≤ ((i + 1 : Nat) : Int) := by omega
    have f3 : (0 : Int) ≤ (i : Int) := by omega
    have f4 : (i : Int) < (L.length : Int) := by omega
    have f5 : i + 1 < L.length := by omega
    have f6 : ¬ i + 1 = i := by omega
    have g1 : i < 1000000 := by omega
    have g2 : atD L i / 10 < 1000000 := by omega
    have g3 : atD L (i + 1) + atD L i / 10 < 1000000 := by omega
    rw [erasureref01_Mul.l2, wone i g1, dIs_len, if_pos f1, if_pos f2, if_pos f3, if_pos f4, Option.bind_some, dIs_at, dIs_at, tdiv10, wnat _ g2, wadd _ _ g3, Int.toNat_natCast, Int.toNat_natCast, dIs_set, dIs_at, atD_set L (i + 1) i _ f5, if_neg f6, tmod10, dIs_set]
    have at2 : ∀ j, atD ((L.set (i + 1) (atD L (i + 1) + atD L i / 10)).set i (atD L i % 10)) j = if i = j then atD L i % 10 else if i + 1 = j then atD L (i + 1) + atD L i / 10 else atD L j := fun j => by
      rw [atD_set _ i j _ (by rw [List.length_set]; omega), atD_set L (i + 1) j _ (by omega)]
    refine ih (i + 1) _ k (by omega) (by rw [List.length_set, List.length_set]; exact hl) (by rw [carry_step L i (by omega)]; exact hv) ?_ ?_ ?_ (by omega)
    · intro j hj
      rw [at2]
      by_cases q : i = j
      · rw [if_pos q]; omega
      · rw [if_neg q, if_neg (by omega)]
        exact h9 j (by omega)
    · intro j
      have := hc j
      rw [at2]
      split
      · omega
      · split <;> omega
    · intro j hj
      have := hc2 j (by omega)
      rw [at2, if_neg (by omega), if_neg (by omega)]
      omega
theorem mul_l1 (X Y : List Nat) (hX : okD X) (hY : okD Y) (lx : X.length ≤ 18) (ly : Y.length ≤ 18) (n : Nat) (hn : n = X.length + Y.length + 1) (bx bY b : Bool) (sx sy S : Int) (i : Nat) (hi : i < X.length) : ∀ (d j : Nat) (L : List Nat) (k : Nat),
    j + d = Y.length → L.length = n → rv L = rv (X.take i) * rv Y + 10 ^ i * (atD X i * rv (Y.take j)) → (∀ q, atD L q ≤ 81 * (i * Y.length + j)) → d + 1 ≤ k →
    ∃ L', L'.length = n ∧ rv L' = rv (X.take (i + 1)) * rv Y ∧ (∀ q, atD L' q ≤ 81 * ((i + 1) * Y.length)) ∧
      erasureref01_Mul.l1 k (dIs L) (i : Int) (j : Int) bx (dIs X) sx bY (dIs Y) sy b S = erasureref01_Mul.l0 (k - d - 1) (dIs L') ((i + 1 : Nat) : Int) bx (dIs X) sx bY (dIs Y) sy b S := by
  intro d
  induction d with
  | zero =>
    intro j L k hj hl hv hc hk
    obtain ⟨k, rfl⟩ : ∃ q, k = q + 1 := ⟨k - 1, by omega⟩
    obtain rfl : j = Y.length := by omega
    refine ⟨L, hl, ?_, ?_, ?_⟩
    · rw [mul_row, hv, List.take_length]
    · intro q
      have := hc q
      rw [Nat.add_mul, Nat.one_mul]
      exact this
    · rw [erasureref01_Mul.l1, dIs_len, if_neg (by omega), wsm _ (by omega) (by omega)]
      rfl
  | succ d ih =>
    intro j L k hj hl hv hc hk
    obtain ⟨k, rfl⟩ : ∃ q, k = q + 1 := ⟨k - 1, by omega⟩
    have hx9 := atD_le X hX i
    have hy9 := atD_le Y hY j
    have hp : atD X i * atD Y j ≤ 9 * 9 := Nat.mul_le_mul hx9 hy9
    have hq := hc (i + j)
    have hiy : i * Y.length ≤ 17 * 18 := Nat.mul_le_mul (by omega) (by omega)
    have g1 : i + j < 1000000 := by omega
    have g2 : j < 1000000 := by omega
    have g3 : atD X i * atD Y j < 1000000 := by omega
    have g4 : atD L (i + j) + atD X i * atD Y j < 1000000 := by omega
    have f0 : (j : Int) < (Y.length : Int) := by omega
    have f1 : (0 : Int) ≤ ((i + j : Nat) : Int) := by omega
    have f2 : ((i + j : Nat) : Int) < (L.length : Int) := by omega
    have f3 : (0 : Int) ≤ (i : Int) := by omega
    have f4 : (i : Int) < (X.length : Int) := by omega
    have f5 : (0 : Int) ≤ (j : Int) := by omega
    have f6 : k + 1 - (d + 1) - 1 = k - d - 1 := by omega
    have f7 : i + j < L.length := by omega
    have at2 : ∀ q, atD (L.set (i + j) (atD L (i + j) + atD X i * atD Y j)) q = if i + j = q then atD L (i + j) + atD X i * atD Y j else atD L q := fun q => atD_set L (i + j) q _ f7
    have h1 : j + 1 + d = Y.length := by omega
    have h2 : (L.set (i + j) (atD L (i + j) + atD X i * atD Y j)).length = n := by rw [List.length_set]; exact hl
    have h3 : d + 1 ≤ k := by omega
    have h4 : ∀ q, atD (L.set (i + j) (atD L (i + j) + atD X i * atD Y j)) q ≤ 81 * (i * Y.length + (j + 1)) := by
      intro q
      rw [at2]
      have := hc q
      clear at2 ih hv
      generalize atD X i * atD Y j = p at *
      generalize i * Y.length = z at *
      split <;> omega
    clear hp hq hiy
    obtain ⟨L', a1, a2, a3, a4⟩ := ih (j + 1) (L.set (i + j) (atD L (i + j) + atD X i * atD Y j)) k h1 h2 (by
      rw [mul_step L (i + j) (atD X i) (atD Y j) f7, hv, mul_cell, Nat.mul_add, Nat.pow_add, Nat.add_assoc, Nat.mul_assoc]) h4 h3
    refine ⟨L', a1, a2, a3, ?_⟩
    rw [erasureref01_Mul.l1, dIs_len, dIs_len, dIs_len, if_pos f0, wadd i j g1, if_pos f1, if_pos f2, if_pos f3, if_pos f4, if_pos f5, dIs_at, dIs_at, dIs_at, wmul _ _ g3, wadd _ _ g4, wone j g2, Int.toNat_natCast, dIs_set, a4, f6]
theorem mul_l0 (X Y : List Nat) (hX : okD X) (hY : okD Y) (lx : X.length ≤ 18) (ly : Y.length ≤ 18) (n : Nat) (hn : n = X.length + Y.length + 1) (bx bY b : Bool) (sx sy : Int) (S : Nat) (hS : S ≤ 18) : ∀ (d i : Nat) (L : List Nat) (k : Nat),
    i + d = X.length → L.length = n → rv L = rv (X.take i) * rv Y → (∀ q, atD L q ≤ 81 * (i * Y.length)) → 40 * d + 500 ≤ k →
    erasureref01_Mul.l0 k (dIs L) (i : Int) bx (dIs X) sx bY (dIs Y) sy b (S : Int) = some (told b (rv X * rv Y) S) := by
  intro d
  induction d with
  | zero =>
    intro i L k hi hl hv hc hk
    obtain ⟨k, rfl⟩ : ∃ q, k = q + 1 := ⟨k - 1, by omega⟩
    obtain rfl : i = X.length := by omega
    rw [List.take_length] at hv
    have hxy : X.length * Y.length ≤ 18 * 18 := Nat.mul_le_mul lx ly
    have hb : ∀ q, atD L q ≤ 26300 := fun q => by have := hc q; omega
    have hV : rv X * rv Y < 10 ^ (n - 1) := by
      rw [hn, Nat.add_sub_cancel, Nat.pow_add]
      exact Nat.mul_lt_mul'' (rv_lt X hX) (rv_lt Y hY)
    rw [erasureref01_Mul.l0, dIs_len, if_neg (by omega)]
    exact mul_l2 b S hS n (by omega) (rv X * rv Y) hV (by omega) (n - 1) 0 L k (by omega) hl hv (fun j hj => absurd hj (Nat.not_lt_zero _)) (fun j => by have := hb j; omega) (fun j _ => hb j) (by omega)
  | succ d ih =>
    intro i L k hi hl hv hc hk
    obtain ⟨k, rfl⟩ : ∃ q, k = q + 1 := ⟨k - 1, by omega⟩
    rw [erasureref01_Mul.l0, dIs_len, if_pos (by omega)]
    obtain ⟨L', a1, a2, a3, a4⟩ := mul_l1 X Y hX hY lx ly n hn bx bY b sx sy (S : Int) i (by omega) Y.length 0 L k (by omega) hl (by rw [hv]; show _ = _ + 10 ^ i * (atD X i * rv []); show _ = _ + 10 ^ i * (atD X i * 0); omega) hc (by omega)
    rw [show ((0 : Int)) = ((0 : Nat) : Int) from rfl, a4]
    exact ih (i + 1) L' _ (by omega) a1 a2 a3 (by omega)
theorem mul_ref (a b : Int) (s t : Nat) (ha : Good a s) (hb : Good b t) (k : Nat) (hk : 1300 ≤ k) :
    erasureref01_Mul.f k a (s : Int) b (t : Int) = some (tellZ (a * b) (s + t)) := by
  obtain ⟨a1, a2, a3, a4, _⟩ := id ha
  obtain ⟨b1, b2, b3, b4, _⟩ := id hb
  obtain ⟨k, rfl⟩ : ∃ q, k = q + 1 := ⟨k - 1, by omega⟩
  obtain ⟨X, p1, p2, p3, p4⟩ := of_f a (s : Int) a1 a2 k (by omega)
  obtain ⟨Y, q1, q2, q3, q4⟩ := of_f b (t : Int) b1 b2 k (by omega)
  have g1 : X.length + Y.length < 1000000 := by omega
  have g2 : s + t < 1000000 := by omega
  have f1 : (0 : Int) ≤ ((X.length + Y.length + 1 : Nat) : Int) := by omega
  have f2 : X.length + Y.length + 1 ≤ 35184372088832 := by omega
  have h := mul_l0 X Y p1 q1 p3 q3 (X.length + Y.length + 1) rfl (decide (a < 0)) (decide (b < 0)) (decide (a < 0) != decide (b < 0)) (s : Int) (t : Int) (s + t) (by omega) X.length 0 (List.replicate (X.length + Y.length + 1) 0) k (by omega) (List.length_replicate ..) (by rw [rv_zeros]; show 0 = 0 * rv Y; rw [Nat.zero_mul]) (fun q => by rw [atD_zeros]; exact Nat.zero_le _) (by omega)
  rw [show ((0 : Nat) : Int) = 0 from rfl] at h
  unfold erasureref01_Mul.f
  rw [right_ref, Option.bind_some, decide_eq_true ha, if_pos rfl, right_ref, Option.bind_some, decide_eq_true hb, show (!true) = false from rfl, erasureref01_Mul.j0, if_neg (by decide), p4, Option.bind_some, q4, Option.bind_some]
  dsimp only
  rw [dIs_len, dIs_len, wadd _ _ g1, wone _ g1, wadd _ _ g2, if_pos f1, Int.toNat_natCast, if_pos f2, dIs_rep, h, p2, q2]
  congr 1
  refine tellZ_pos _ _ _ _ ?_
  have hm : ((a.natAbs * b.natAbs : Nat) : Int) = (a.natAbs : Int) * (b.natAbs : Int) := Int.natCast_mul ..
  by_cases h1 : a < 0
  · have ea : (a.natAbs : Int) = -a := by omega
    by_cases h2 : b < 0
    · have eb : (b.natAbs : Int) = -b := by omega
      rw [decide_eq_true h1, decide_eq_true h2, if_neg (by decide), hm, ea, eb, Int.neg_mul_neg]
    · have eb : (b.natAbs : Int) = b := by omega
      rw [decide_eq_true h1, decide_eq_false h2, if_pos (by decide), hm, ea, eb, Int.neg_mul, Int.neg_neg]
  · have ea : (a.natAbs : Int) = a := by omega
    by_cases h2 : b < 0
    · have eb : (b.natAbs : Int) = -b := by omega
      rw [decide_eq_false h1, decide_eq_true h2, if_pos (by decide), hm, ea, eb, Int.mul_neg, Int.neg_neg]
    · have eb : (b.natAbs : Int) = b := by omega
      rw [decide_eq_false h1, decide_eq_false h2, if_neg (by decide), hm, ea, eb]
theorem mul_ref_bad (a b s t : Int) (h : ¬ (Good a s ∧ Good b t)) (k : Nat) (hk : 12 ≤ k) : erasureref01_Mul.f k a s b t = some (0, 0, 1) := by
  obtain ⟨k, rfl⟩ : ∃ q, k = q + 1 := ⟨k - 1, by omega⟩
  unfold erasureref01_Mul.f
  rw [right_ref, Option.bind_some]
  by_cases ha : Good a s
  · have hb : ¬ Good b t := fun hb => h ⟨ha, hb⟩
    rw [decide_eq_true ha, if_pos rfl, right_ref, Option.bind_some, decide_eq_false hb, show (!false) = true from rfl, erasureref01_Mul.j0, if_pos rfl]
  · rw [decide_eq_false ha, if_neg (by decide), erasureref01_Mul.j0, if_pos rfl]
end Go.Proofs.YtdkckjiccpdkbaaDoor.Plain
