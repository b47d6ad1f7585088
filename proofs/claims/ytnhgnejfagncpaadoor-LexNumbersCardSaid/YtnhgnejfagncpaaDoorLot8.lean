/- Put together: PlainRead2, PlainRead3, PlainTok4, U2, PureLexNumbers, Open, Laid (each in a section of its own). -/
import Derived.Test.YtnhgnejfagncpaaDoorLot7
import Derived.ChangeSlices
import Derived.ChangeArms
import Derived.Deep.Slices
import Derived.DataReads
import Derived.WideShapes
import Derived.Test.YtnhgnejfagncpaaDoorLot0
import Derived.Test.YtnhgnejfagncpaaDoorRows
import Derived.Test.YtnhgnejfagncpaaDoorLot1
import Derived.LaidSub
import Derived.LaidMore
import Derived.Lib.LaidTab
section
namespace Go.Proofs.YtnhgnejfagncpaaDoor.Plain
open Go Go.RowKit Go.Proofs.YtnhgnejfagncpaaDoorW.PrintWords Go.Proofs.YtnhgnejfagncpaaDoor.H Go.Proofs.YtnhgnejfagncpaaDoor.A Go.Proofs.YtnhgnejfagncpaaDoor.B Go.Proofs.YtnhgnejfagncpaaDoor.E Go.Proofs.YtnhgnejfagncpaaDoor.L Go.Proofs.YtnhgnejfagncpaaDoor.M Go.Proofs.YtnhgnejfagncpaaDoor.P
set_option linter.unusedVariables false
def Rd (l : List Int) (x : Option (ByteArray × Int × Int)) (o : Option (List Int × List Int)) : Prop := match o with
  | none => ∃ q, x = some (⟨#[]⟩, 4, q)
  | some (s, r) => ∃ p' : Nat, At l p' r ∧ x = some (bs s, 0, (p' : Int))
theorem of_white (c : Int) (k : Nat) (hk : 1 ≤ k) : ∃ t, lex_of.f k c = some t ∧ (t = 0 ↔ whiteB c = true) := by
  refine ⟨_, of_f14 c k hk, ?_⟩
  cases whiteB c <;> cases markB c <;> decide
def ok16 (l : List Int) : Prop := ∀ c ∈ l, 0 ≤ c ∧ c < 16
theorem packs_len : ∀ ds : List Int, (packs ds).length = (ds.length + 1) / 2
  | [] => rfl
  | [a] => by simp [packs]
  | a :: b :: t => by
    show (packs t).length + 1 = (t.length + 1 + 1 + 1) / 2
    rw [packs_len t]
    omega
theorem packs_even : ∀ (ds : List Int) (d : Int), ds.length % 2 = 0 → packs (ds ++ [d]) = packs ds ++ [16 * d]
  | [], d, _ => rfl
  | [a], d, h => by cases h
  | a :: b :: t, d, h => by
    show (16 * a + b) :: packs (t ++ [d]) = (16 * a + b) :: (packs t ++ [16 * d])
    rw [packs_even t d (by rw [List.length_cons, List.length_cons] at h; omega)]
theorem packs_odd : ∀ (ds : List Int) (d : Int), ds.length % 2 = 1 → ∃ a ∈ ds, (packs ds)[ds.length / 2]? = some (16 * a) ∧ packs (ds ++ [d]) = (packs ds).set (ds.length / 2) (16 * a + d)
  | [], d, h => by cases h
  | [a], d, h => ⟨a, List.mem_cons_self .., by simp [packs], by simp [packs]⟩
  | a :: b :: t, d, h => by
    obtain ⟨x, h1, h2, h3⟩ := packs_odd t d (by rw [List.length_cons, List.length_cons] at h; omega)
    have e : (a :: b :: t).length / 2 = t.length / 2 + 1 := by rw [List.length_cons, List.length_cons]; omega
    refine ⟨x, List.mem_cons_of_mem _ (List.mem_cons_of_mem _ h1), ?_, ?_⟩
    · rw [e]
      exact h2
    · rw [e]
      show (16 * a + b) :: packs (t ++ [d]) = (16 * a + b) :: (packs t).set (t.length / 2) (16 * x + d)
      rw [h3]
theorem rd_get (L : List Int) (i : Nat) (x : Int) (h : L[i]? = some x) : rd L (i : Int) = x := by
  unfold rd
  rw [Int.toNat_natCast, List.getD_eq_getElem?_getD, h]
  rfl
theorem hexa_p (l : List Int) (hl : l.length ≤ 4000) (hok : okB l) : ∀ (r : List Int) (p : Nat) (ds : List Int) (k : Nat), At l p r → ok16 ds → ds.length ≤ p → r.length + 3 ≤ k →
    Rd l (lex_reader_hexa.l0 k (packs ds) (ds.length : Int) l (p : Int)) (hexL ds r)
  | [], p, ds, k => fun h hd hn hk => by
    obtain ⟨k, rfl⟩ : ∃ q, k = q + 1 := ⟨k - 1, by omega⟩
    refine ⟨p, ?_⟩
    rw [lex_reader_hexa.l0, peek_at l hl h, Option.bind_some]
    exact if_neg Bool.false_ne_true
  | c :: t, p, ds, k => fun h hd hn hk => by
    have hcok := h.ok hok
    rw [List.length_cons] at hk
    obtain ⟨k, rfl⟩ : ∃ q, k = q + 1 := ⟨k - 1, by omega⟩
    obtain ⟨h1, h2, h3⟩ := h.cons
    obtain ⟨c0, c1⟩ := hcok c (List.mem_cons_self ..)
    obtain ⟨q, hq, hw⟩ := of_white c k (by omega)
    have hdg := dg_lt c
    rw [lex_reader_hexa.l0, peek_at l hl h, Option.bind_some]
    show Rd l (if true = true then _ else _) _
    rw [if_pos rfl]
    show Rd l ((lex_digit.f c).bind _) _
    rw [digit_p c c0 c1, Option.bind_some]
    show Rd l (if c = 62 then _ else _) _
    unfold hexL
    by_cases h62 : c = 62
    · rw [if_pos h62, if_pos h62]
      refine ⟨p + 1, h3, ?_⟩
      show some (strOfNums (packs ds), (0 : Int), wrap64 ((p : Int) + 1)) = _
      rw [w1n p (by omega)]
      rfl
    rw [if_neg h62, if_neg h62]
    show Rd l ((lex_of.f k c).bind _) _
    rw [hq, Option.bind_some]
    have hp1 : (fun X : Int => lex_reader_hexa.l0 k (packs ds) (ds.length : Int) l X) (wrap64 ((p : Int) + 1)) = lex_reader_hexa.l0 k (packs ds) (ds.length : Int) l ((p + 1 : Nat) : Int) := by rw [w1n p (by omega)]
    by_cases hwt : whiteB c = true
    · rw [if_pos (hw.2 hwt), if_pos hwt]
      show Rd l (lex_reader_hexa.l0 k (packs ds) (ds.length : Int) l (wrap64 ((p : Int) + 1))) _
      rw [w1n p (by omega)]
      exact hexa_p l hl hok t (p + 1) ds k h3 hd (by omega) (by omega)
    rw [if_neg (fun e => hwt (hw.1 e)), if_neg hwt]
    by_cases hneg : dgI c < 0
    · rw [if_pos hneg, if_pos hneg]
      exact ⟨_, rfl⟩
    rw [if_neg hneg, if_neg hneg, and64 _ (by omega) (by omega)]
    have hd2 : ok16 (ds ++ [dgI c]) := fun x hx => by
      rcases List.mem_append.1 hx with hx | hx
      · exact hd x hx
      · rw [List.mem_singleton.1 hx]; omega
    have hn2 : ((ds ++ [dgI c]).length : Int) = (ds.length : Int) + 1 := by rw [List.length_append]; rfl
    have ih := hexa_p l hl hok t (p + 1) (ds ++ [dgI c]) k h3 hd2 (by rw [List.length_append]; show _ + 1 ≤ _; omega) (by omega)
    have hlen := packs_len ds
    rw [hn2] at ih
    by_cases he : ds.length % 2 = 0
    · rw [if_pos (by omega), if_pos (by omega)]
      rw [packs_even ds _ he] at ih
      show Rd l (lex_reader_hexa.l0 k (packs ds ++ [(wrap64 (dgI c * 16)) % 256]) (wrap64 ((ds.length : Int) + 1)) l (wrap64 ((p : Int) + 1))) _
      rw [w1n p (by omega), w1n ds.length (by omega), wsm (dgI c * 16) (by omega) (by omega), show (dgI c * 16) % 256 = 16 * dgI c from by omega]
      exact ih
    · obtain ⟨a, ha, hg, hs⟩ := packs_odd ds (dgI c) (by omega)
      obtain ⟨a0, a1⟩ := hd a ha
      have e2 : (ds.length : Int) / 2 = ((ds.length / 2 : Nat) : Int) := by omega
      rw [if_neg (by omega), if_pos (by omega), if_pos (by omega), e2]
      rw [hs] at ih
      show Rd l (lex_reader_hexa.l0 k ((packs ds).set (((ds.length / 2 : Nat) : Int)).toNat (Go.bits .or .u8 (rd (packs ds) ((ds.length / 2 : Nat) : Int)) (dgI c % 256))) (wrap64 ((ds.length : Int) + 1)) l (wrap64 ((p : Int) + 1))) _
      rw [w1n p (by omega), w1n ds.length (by omega), rd_get _ _ _ hg, show dgI c % 256 = dgI c from by omega, or8 4 (16 * a) (dgI c) (by omega) (by omega) (by omega) (by omega) (by omega) (by omega), Int.toNat_natCast]
      exact ih
theorem oct_p (l : List Int) (hl : l.length ≤ 4000) (hok : okB l) : ∀ (j : Nat) (r : List Int) (p : Nat) (n : Int) (out : List Int) (k : Nat), At l p r → 0 ≤ n → (j = 0 ∧ n ≤ 4095 ∨ j = 1 ∧ n ≤ 511 ∨ j = 2 ∧ n ≤ 63) → out.length ≤ 5000 → j + 2 ≤ k →
    ∃ p', At l p' (octL j n r).2 ∧ lex_reader_escape.l0 k out n (2 - (j : Int)) l (p : Int) = some (out ++ (octL j n r).1, true, (p' : Int))
  | 0, r, p, n, out, k => fun h hn hb ho hk => by
    obtain ⟨k, rfl⟩ : ∃ q, k = q + 1 := ⟨k - 1, by omega⟩
    refine ⟨p, h, ?_⟩
    rw [lex_reader_escape.l0, if_neg (by omega), if_pos (by omega)]
    rfl
  | j + 1, [], p, n, out, k => fun h hn hb ho hk => by
    obtain ⟨k, rfl⟩ : ∃ q, k = q + 1 := ⟨k - 1, by omega⟩
    refine ⟨p, h, ?_⟩
    rw [lex_reader_escape.l0, if_pos (by omega), peek_at l hl h, Option.bind_some]
    show (if false = true then _ else _) = _
    rw [if_neg (by decide), if_pos (by omega)]
    rfl
  | j + 1, d :: t, p, n, out, k => fun h hn hb ho hk => by
    obtain ⟨k, rfl⟩ : ∃ q, k = q + 1 := ⟨k - 1, by omega⟩
    obtain ⟨h1, h2, h3⟩ := h.cons
    rw [lex_reader_escape.l0, if_pos (by omega), peek_at l hl h, Option.bind_some]
    show ∃ p', _ ∧ (if true = true then (if d < 48 then _ else (if d > 55 then _ else lex_reader_escape.l0 k out (Go.bits .or .i64 (wrap64 (n * 8)) ((d - 48) % 256)) (wrap64 (2 - ((j + 1 : Nat) : Int) + 1)) l (wrap64 ((p : Int) + 1)))) else _) = _
    rw [if_pos rfl]
    unfold octL
    by_cases h48 : d < 48
    · rw [if_pos h48, if_neg (by omega), if_pos (by omega)]
      exact ⟨p, h, rfl⟩
    rw [if_neg h48]
    by_cases h55 : d > 55
    · rw [if_pos h55, if_neg (by omega), if_pos (by omega)]
      exact ⟨p, h, rfl⟩
    rw [if_neg h55, if_pos (by omega), w1n p (by omega), wsm (n * 8) (by omega) (by omega), wsm (2 - ((j + 1 : Nat) : Int) + 1) (by omega) (by omega), show (d - 48) % 256 = d - 48 from by omega, or64 3 (n * 8) (d - 48) (by omega) (by omega) (by omega) (by omega) (by omega) (by omega), show 2 - ((j + 1 : Nat) : Int) + 1 = 2 - (j : Int) from by omega, show n * 8 + (d - 48) = 8 * n + (d - 48) from by omega]
    exact oct_p l hl hok j t (p + 1) (8 * n + (d - 48)) out k h3 (by omega) (by omega) ho (by omega)
def escD : List UInt8 := [110, 114, 116, 98, 102]
theorem esc_none (c : Int) (h0 : 0 ≤ c) (h1 : c ≤ 255) (n1 : c ≠ 110) (n2 : c ≠ 114) (n3 : c ≠ 116) (n4 : c ≠ 98) (n5 : c ≠ 102) : Lib.indexByte escD c.toNat.toUInt8 = -1 := by
  obtain ⟨n, rfl⟩ := Int.eq_ofNat_of_zero_le h0
  refine index_not _ _ fun x hx e => ?_
  have hm : x.toNat ∈ escD.map (·.toNat) := List.mem_map_of_mem hx
  have en : n.toUInt8.toNat = n := by
    show (UInt8.ofNat n).toNat = n
    rw [UInt8.toNat_ofNat', Nat.mod_eq_of_lt (by omega)]
  rw [e, Int.toNat_natCast, en, show escD.map (·.toNat) = [110, 114, 116, 98, 102] from by decide] at hm
  simp only [List.mem_cons, List.not_mem_nil, or_false] at hm
  omega
theorem esc_end (l : List Int) (hl : l.length ≤ 4000) {p : Nat} (h : At l p []) (out : List Int) (k : Nat) : lex_reader_escape.f k l (p : Int) out = some ([], false, (p : Int)) := by
  unfold lex_reader_escape.f
  rw [peek_at l hl h, Option.bind_some]
  exact if_neg Bool.false_ne_true
theorem esc_p (l : List Int) (hl : l.length ≤ 4000) (hok : okB l) (c : Int) (t : List Int) (p : Nat) (out : List Int) (k : Nat) (h : At l p (c :: t)) (ho : out.length ≤ 5000) (hk : 5 ≤ k) :
    ∃ p', At l p' (escL c t).2 ∧ lex_reader_escape.f k l (p : Int) out = some (out ++ (escL c t).1, true, (p' : Int)) := by
  obtain ⟨h1, h2, h3⟩ := h.cons
  obtain ⟨c0, c1⟩ := h.ok hok c (List.mem_cons_self ..)
  have hix : ∀ d, strings_IndexByte.f (⟨#[110, 114, 116, 98, 102]⟩ : ByteArray) d = some (Lib.indexByte escD d.toNat.toUInt8) := fun d => rfl
  unfold lex_reader_escape.f
  rw [peek_at l hl h, Option.bind_some]
  show ∃ p', _ ∧ (if true = true then _ else _) = _
  rw [if_pos rfl]
  show ∃ p', _ ∧ ((strings_IndexByte.f (⟨#[110, 114, 116, 98, 102]⟩ : ByteArray) c).bind _) = _
  rw [hix, Option.bind_some]
  show ∃ p', _ ∧ (if Lib.indexByte escD c.toNat.toUInt8 ≥ 0 then (if 0 ≤ Lib.indexByte escD c.toNat.toUInt8 then (if Lib.indexByte escD c.toNat.toUInt8 < 5 then (if out.length < 140737488355328 then (some ((out ++ [bt (⟨#[10, 13, 9, 8, 12]⟩ : ByteArray) (Lib.indexByte escD c.toNat.toUInt8)]), true, wrap64 ((p : Int) + 1))) else (none)) else (none)) else (none)) else (if c = 13 then ((lex_reader_peek.f l (wrap64 ((p : Int) + 1)) 0).bind fun bt142 => (if bt142.2.1 = true then (if bt142.1 = 10 then (some (out, true, wrap64 (bt142.2.2 + 1))) else (some (out, true, bt142.2.2))) else (some (out, true, bt142.2.2)))) else (if c = 10 then (some (out, true, wrap64 ((p : Int) + 1))) else (if c < 48 then (if out.length < 140737488355328 then (some ((out ++ [c]), true, wrap64 ((p : Int) + 1))) else (none)) else (if c > 55 then (if out.length < 140737488355328 then (some ((out ++ [c]), true, wrap64 ((p : Int) + 1))) else (none)) else (lex_reader_escape.l0 k out ((c - 48) % 256) 0 l (wrap64 ((p : Int) + 1)))))))) = _
  rw [w1n p (by omega)]
  have hit : ∀ (i v : Int), Lib.indexByte escD c.toNat.toUInt8 = i → 0 ≤ i → i < 5 → bt (⟨#[10, 13, 9, 8, 12]⟩ : ByteArray) i = v → (escL c t) = ([v], t) →
      ∃ p' : Nat, At l p' (escL c t).2 ∧ (if Lib.indexByte escD c.toNat.toUInt8 ≥ 0 then (if 0 ≤ Lib.indexByte escD c.toNat.toUInt8 then (if Lib.indexByte escD c.toNat.toUInt8 < 5 then (if out.length < 140737488355328 then (some ((out ++ [bt (⟨#[10, 13, 9, 8, 12]⟩ : ByteArray) (Lib.indexByte escD c.toNat.toUInt8)]), true, ((p + 1 : Nat) : Int))) else (none)) else (none)) else (none)) else (if c = 13 then ((lex_reader_peek.f l ((p + 1 : Nat) : Int) 0).bind fun bt142 => (if bt142.2.1 = true then (if bt142.1 = 10 then (some (out, true, wrap64 (bt142.2.2 + 1))) else (some (out, true, bt142.2.2))) else (some (out, true, bt142.2.2)))) else (if c = 10 then (some (out, true, ((p + 1 : Nat) : Int))) else (if c < 48 then (if out.length < 140737488355328 then (some ((out ++ [c]), true, ((p + 1 : Nat) : Int))) else (none)) else (if c > 55 then (if out.length < 140737488355328 then (some ((out ++ [c]), true, ((p + 1 : Nat) : Int))) else (none)) else (lex_reader_escape.l0 k out ((c - 48) % 256) 0 l ((p + 1 : Nat) : Int))))))) = some (out ++ (escL c t).1, true, (p' : Int)) := fun i v hi i0 i5 hv he => by
    rw [hi, if_pos i0, if_pos i0, if_pos i5, if_pos (by omega), hv, he]
    exact ⟨p + 1, h3, rfl⟩
  by_cases e1 : c = 110
  · exact hit 0 10 (by rw [e1]; decide) (by decide) (by decide) (by decide) (by unfold escL; rw [if_pos e1])
  by_cases e2 : c = 114
  · exact hit 1 13 (by rw [e2]; decide) (by decide) (by decide) (by decide) (by unfold escL; rw [if_neg e1, if_pos e2])
  by_cases e3 : c = 116
  · exact hit 2 9 (by rw [e3]; decide) (by decide) (by decide) (by decide) (by unfold escL; rw [if_neg e1, if_neg e2, if_pos e3])
  by_cases e4 : c = 98
  · exact hit 3 8 (by rw [e4]; decide) (by decide) (by decide) (by decide) (by unfold escL; rw [if_neg e1, if_neg e2, if_neg e3, if_pos e4])
  by_cases e5 : c = 102
  · exact hit 4 12 (by rw [e5]; decide) (by decide) (by decide) (by decide) (by unfold escL; rw [if_neg e1, if_neg e2, if_neg e3, if_neg e4, if_pos e5])
  clear hit hix
  rw [esc_none c c0 c1 e1 e2 e3 e4 e5, if_neg (by decide)]
  unfold escL
  rw [if_neg e1, if_neg e2, if_neg e3, if_neg e4, if_neg e5]
  by_cases e13 : c = 13
  · rw [if_pos e13, if_pos e13, peek_at l hl h3, Option.bind_some]
    cases t with
    | nil =>
      refine ⟨p + 1, h3, ?_⟩
      show (if false = true then _ else _) = some (out ++ [], true, ((p + 1 : Nat) : Int))
      rw [if_neg (by decide), List.append_nil]
    | cons d r =>
      obtain ⟨_, _, h4⟩ := h3.cons
      have hn4 := h4.len
      show ∃ p', At l p' (if d = 10 then ([], r) else ([], d :: r) : List Int × List Int).2 ∧ (if true = true then (if d = 10 then (some (out, true, wrap64 (((p + 1 : Nat) : Int) + 1))) else (some (out, true, ((p + 1 : Nat) : Int)))) else _) = some (out ++ (if d = 10 then ([], r) else ([], d :: r) : List Int × List Int).1, true, (p' : Int))
      rw [if_pos rfl]
      by_cases h10 : d = 10
      · rw [if_pos h10, if_pos h10, w1n (p + 1) (by omega)]
        exact ⟨p + 1 + 1, h4, by rw [List.append_nil]⟩
      · rw [if_neg h10, if_neg h10]
        exact ⟨p + 1, h3, by rw [List.append_nil]⟩
  rw [if_neg e13, if_neg e13]
  by_cases e10 : c = 10
  · rw [if_pos e10, if_pos e10]
    exact ⟨p + 1, h3, by rw [List.append_nil]⟩
  rw [if_neg e10, if_neg e10]
  by_cases h48 : c < 48
  · rw [if_pos h48, if_pos (Or.inl h48), if_pos (by omega)]
    exact ⟨p + 1, h3, rfl⟩
  rw [if_neg h48]
  by_cases h55 : c > 55
  · rw [if_pos h55, if_pos (Or.inr h55), if_pos (by omega)]
    exact ⟨p + 1, h3, rfl⟩
  rw [if_neg h55, if_neg (by omega), show (c - 48) % 256 = c - 48 from by omega]
  exact oct_p l hl hok 2 t (p + 1) (c - 48) out k h3 (by omega) (by omega) ho (by omega)
theorem oct_one : ∀ (k : Nat) (n : Int) (t : List Int), (octL k n t).1.length = 1
  | 0, n, t => rfl
  | _ + 1, n, [] => rfl
  | k + 1, n, d :: t => by
    unfold octL
    split
    · exact oct_one k _ t
    · rfl
theorem esc_one (c : Int) (t : List Int) : (escL c t).1.length ≤ 1 := by
  unfold escL
  split; exact Nat.le_refl _
  split; exact Nat.le_refl _
  split; exact Nat.le_refl _
  split; exact Nat.le_refl _
  split; exact Nat.le_refl _
  split
  · cases t with
    | nil => exact Nat.zero_le _
    | cons d r => dsimp only; split <;> exact Nat.zero_le _
  split; exact Nat.zero_le _
  split; exact Nat.le_refl _
  rw [oct_one]
  exact Nat.le_refl _
theorem put_f (rest : List Int → Int → Int → Option (ByteArray × Int × Int)) (out : List Int) (c d a : Int) (h : out.length ≤ 5000) : textPut rest out c d a = rest (out ++ [c]) d a := by
  unfold textPut
  rw [if_pos (by omega)]
theorem wdn (d : Nat) (h : d ≤ 5000) (h1 : 1 ≤ d) : wrap64 ((d : Int) - 1) = ((d - 1 : Nat) : Int) := by rw [wsm _ (by omega) (by omega)]; omega
theorem text_p (l : List Int) (hl : l.length ≤ 4000) (hok : okB l) : ∀ (n : Nat) (r : List Int) (p : Nat) (out : List Int) (deep : Nat) (k f : Nat), r.length ≤ n → At l p r → out.length ≤ p → 1 ≤ deep → deep ≤ p + 1 → r.length + 7 ≤ k → r.length + 1 ≤ f →
    Rd l (lex_reader_text.l0 k out (deep : Int) l (p : Int)) (textL f (deep : Int) out r)
  | n, [], p, out, deep, k, f => fun hn h ho d1 d2 hk hf => by
    obtain ⟨k, rfl⟩ : ∃ q, k = q + 1 := ⟨k - 1, by omega⟩
    obtain ⟨f, rfl⟩ : ∃ q, f = q + 1 := ⟨f - 1, by omega⟩
    refine ⟨p, ?_⟩
    rw [lex_reader_text.l0, peek_at l hl h, Option.bind_some]
    exact if_neg Bool.false_ne_true
  | 0, c :: t, p, out, deep, k, f => fun hn h ho d1 d2 hk hf => by rw [List.length_cons] at hn; omega
  | n + 1, c :: t, p, out, deep, k, f => fun hn h ho d1 d2 hk hf => by
    rw [List.length_cons] at hn hk hf
    obtain ⟨k, rfl⟩ : ∃ q, k = q + 1 := ⟨k - 1, by omega⟩
    obtain ⟨f, rfl⟩ : ∃ q, f = q + 1 := ⟨f - 1, by omega⟩
    obtain ⟨h1, h2, h3⟩ := h.cons
    have hn3 := h3.len
    have go : ∀ (r' : List Int) (p' : Nat) (o : List Int) (d' : Nat), r'.length ≤ t.length → At l p' r' → o.length ≤ p' → 1 ≤ d' → d' ≤ p' + 1 → Rd l (lex_reader_text.l0 k o (d' : Int) l (p' : Int)) (textL f (d' : Int) o r') := fun r' p' o d' a b c d e => text_p l hl hok n r' p' o d' k f (by omega) b c d e (by omega) (by omega)
    rw [lex_reader_text.l0, peek_at l hl h, Option.bind_some]
    show Rd l (if true = true then (if c = 92 then (lex_reader_escape.f k l (wrap64 ((p : Int) + 1)) out).bind fun q => if q.2.1 = true then lex_reader_text.l0 k q.1 (deep : Int) l q.2.2 else some (⟨#[]⟩, 4, q.2.2)
      else if c = 40 then textPut (fun o d a => lex_reader_text.l0 k o d l a) out 40 (wrap64 ((deep : Int) + 1)) (wrap64 ((p : Int) + 1))
      else if c = 41 then (if wrap64 ((deep : Int) - 1) = 0 then some (strOfNums out, 0, wrap64 ((p : Int) + 1)) else textPut (fun o d a => lex_reader_text.l0 k o d l a) out 41 (wrap64 ((deep : Int) - 1)) (wrap64 ((p : Int) + 1)))
      else if c = 13 then (lex_reader_peek.f l (wrap64 ((p : Int) + 1)) 0).bind fun q => if q.2.1 = true then (if q.1 = 10 then textPut (fun o d a => lex_reader_text.l0 k o d l a) out 10 (deep : Int) (wrap64 (q.2.2 + 1)) else textPut (fun o d a => lex_reader_text.l0 k o d l a) out 10 (deep : Int) q.2.2) else textPut (fun o d a => lex_reader_text.l0 k o d l a) out 10 (deep : Int) q.2.2
      else textPut (fun o d a => lex_reader_text.l0 k o d l a) out c (deep : Int) (wrap64 ((p : Int) + 1))) else _) _
    rw [if_pos rfl, w1n p (by omega), put_f _ _ _ _ _ (by omega), put_f _ _ _ _ _ (by omega), put_f _ _ _ _ _ (by omega)]
    unfold textL
    have ho1 : ∀ x : Int, (out ++ [x]).length ≤ p + 1 := fun x => by rw [List.length_append]; show _ + 1 ≤ _; omega
    by_cases e92 : c = 92
    · rw [if_pos e92, if_pos e92]
      cases t with
      | nil =>
        rw [esc_end l hl h3, Option.bind_some]
        exact ⟨_, if_neg Bool.false_ne_true⟩
      | cons d r =>
        obtain ⟨p', hp', he⟩ := esc_p l hl hok d r (p + 1) out k h3 (by omega) (by omega)
        rw [he, Option.bind_some]
        show Rd l (if true = true then lex_reader_text.l0 k (out ++ (escL d r).1) (deep : Int) l (p' : Int) else _) (textL f (deep : Int) (out ++ (escL d r).1) (escL d r).2)
        rw [if_pos rfl]
        have hs := (esc_suf d r).length_le
        have h1' := esc_one d r
        have hl' := hp'.len
        rw [List.length_cons] at hn3
        exact go _ p' _ deep (by rw [List.length_cons]; omega) hp' (by rw [List.length_append]; omega) d1 (by omega)
    rw [if_neg e92, if_neg e92]
    by_cases e40 : c = 40
    · rw [if_pos e40, if_pos e40, w1n deep (by omega)]
      exact go t (p + 1) _ (deep + 1) (Nat.le_refl _) h3 (ho1 _) (by omega) (by omega)
    rw [if_neg e40, if_neg e40]
    by_cases e41 : c = 41
    · rw [if_pos e41, if_pos e41, wdn deep (by omega) d1]
      by_cases hd : deep = 1
      · rw [if_pos (by omega), if_pos (by omega)]
        exact ⟨p + 1, h3, rfl⟩
      · rw [if_neg (by omega), if_neg (by omega), show ((deep : Int) - 1) = ((deep - 1 : Nat) : Int) from by omega]
        exact go t (p + 1) _ (deep - 1) (Nat.le_refl _) h3 (ho1 _) (by omega) (by omega)
    rw [if_neg e41, if_neg e41]
    by_cases e13 : c = 13
    · rw [if_pos e13, if_pos e13, peek_at l hl h3, Option.bind_some]
      cases t with
      | nil =>
        show Rd l (if false = true then _ else textPut (fun o d a => lex_reader_text.l0 k o d l a) out 10 (deep : Int) ((p + 1 : Nat) : Int)) (textL f (deep : Int) (out ++ [10]) [])
        rw [if_neg (by decide), put_f _ _ _ _ _ (by omega)]
        exact go [] (p + 1) _ deep (Nat.le_refl _) h3 (ho1 _) d1 (by omega)
      | cons d r =>
        obtain ⟨_, _, h4⟩ := h3.cons
        have hn4 := h4.len
        show Rd l (if true = true then (if d = 10 then textPut (fun o d a => lex_reader_text.l0 k o d l a) out 10 (deep : Int) (wrap64 (((p + 1 : Nat) : Int) + 1)) else textPut (fun o d a => lex_reader_text.l0 k o d l a) out 10 (deep : Int) ((p + 1 : Nat) : Int)) else _) (if d = 10 then textL f (deep : Int) (out ++ [10]) r else textL f (deep : Int) (out ++ [10]) (d :: r))
        rw [if_pos rfl, put_f _ _ _ _ _ (by omega), put_f _ _ _ _ _ (by omega), w1n (p + 1) (by omega)]
        by_cases h10 : d = 10
        · rw [if_pos h10, if_pos h10]
          exact go r (p + 1 + 1) _ deep (by rw [List.length_cons]; omega) h4 (by have := ho1 10; omega) d1 (by omega)
        · rw [if_neg h10, if_neg h10]
          exact go (d :: r) (p + 1) _ deep (Nat.le_refl _) h3 (ho1 _) d1 (by omega)
    rw [if_neg e13, if_neg e13]
    exact go t (p + 1) _ deep (Nat.le_refl _) h3 (ho1 _) d1 (by omega)
end Go.Proofs.YtnhgnejfagncpaaDoor.Plain
end
section
namespace Go.Proofs.YtnhgnejfagncpaaDoor.Plain
open Go Go.RowKit Go.Proofs.YtnhgnejfagncpaaDoorW.PrintWords Go.Proofs.YtnhgnejfagncpaaDoor.H Go.Proofs.YtnhgnejfagncpaaDoor.A Go.Proofs.YtnhgnejfagncpaaDoor.B Go.Proofs.YtnhgnejfagncpaaDoor.E Go.Proofs.YtnhgnejfagncpaaDoor.L Go.Proofs.YtnhgnejfagncpaaDoor.M Go.Proofs.YtnhgnejfagncpaaDoor.P
set_option linter.unusedVariables false
theorem hex_len : ∀ (r ds s r' : List Int), hexL ds r = some (s, r') → s.length ≤ ds.length + r.length
  | [], _, _, _ => fun h => by cases h
  | c :: t, ds, s, r' => fun h => by
    unfold hexL at h
    rw [List.length_cons]
    split at h
    · obtain ⟨rfl, _⟩ := Prod.mk.inj (Option.some.inj h)
      rw [packs_len]
      omega
    split at h
    · have := hex_len t ds s r' h; omega
    split at h
    · cases h
    · have := hex_len t _ s r' h
      rw [List.length_append] at this
      have e : [dgI c].length = 1 := rfl
      omega
theorem text_len : ∀ (k : Nat) (deep : Int) (out r s r' : List Int), textL k deep out r = some (s, r') → s.length ≤ out.length + r.length
  | 0, _, _, _, _, _ => fun h => by cases h
  | _ + 1, _, _, [], _, _ => fun h => by cases h
  | k + 1, deep, out, c :: t, s, r' => fun h => by
    have go : ∀ (d : Int) (o q : List Int), o.length + q.length ≤ out.length + (c :: t).length → textL k d o q = some (s, r') → s.length ≤ out.length + (c :: t).length := fun d o q hl hh => by
      have := text_len k d o q s r' hh
      omega
    have one : ∀ x : Int, (out ++ [x]).length + t.length ≤ out.length + (c :: t).length := fun x => by rw [List.length_append, List.length_cons]; show out.length + 1 + t.length ≤ out.length + (t.length + 1); omega
    unfold textL at h
    split at h
    · cases t with
      | nil => cases h
      | cons d q =>
        dsimp only at h
        refine go _ _ _ ?_ h
        have h1 := esc_one d q
        have h2 := (esc_suf d q).length_le
        rw [List.length_append, List.length_cons, List.length_cons]
        omega
    split at h
    · exact go _ _ _ (one _) h
    split at h
    · split at h
      · obtain ⟨rfl, _⟩ := Prod.mk.inj (Option.some.inj h)
        omega
      · exact go _ _ _ (one _) h
    split at h
    · cases t with
      | nil => exact go _ _ _ (one _) h
      | cons d q =>
        dsimp only at h
        split at h
        · refine go _ _ _ ?_ h
          have := one 10
          rw [List.length_cons] at this
          omega
        · exact go _ _ _ (one _) h
    · exact go _ _ _ (one _) h
theorem name_len : ∀ (k : Nat) (r o : List Int), nameL k r = some o → o.length ≤ r.length
  | 0, _, _ => fun h => by cases h
  | _ + 1, [], _ => fun h => by cases h; exact Nat.le_refl _
  | k + 1, c :: t, o => fun h => by
    unfold nameL at h
    rw [List.length_cons]
    split at h
    · cases t with
      | nil => cases h
      | cons a t =>
        cases t with
        | nil => cases h
        | cons b q =>
          dsimp only at h
          split at h
          · cases h
          split at h
          · cases h
          · obtain ⟨x, hx, rfl⟩ := Option.map_eq_some_iff.1 h
            have := name_len k q x hx
            rw [List.length_cons, List.length_cons, List.length_cons]
            omega
    · obtain ⟨x, hx, rfl⟩ := Option.map_eq_some_iff.1 h
      have := name_len k t x hx
      rw [List.length_cons]
      omega
theorem row_len (r : List Int) : (rowA r).length ≤ r.length := by
  have := congrArg List.length (row_eq r)
  rw [List.length_append] at this
  omega
def TkR (l : List Int) (x : Option (Int × Int × Int × ByteArray × Int × Int)) (o : TokR) : Prop := match o with
  | .err e => e ≠ 0 ∧ ∃ q, x = some (0, 0, 0, ⟨#[]⟩, e, q)
  | .tok kind M S s r => ∃ p' : Nat, At l p' r ∧ x = some (kind, M, S, bs s, 0, (p' : Int))
theorem whole_p (l : List Int) (kind : Int) (X : Option (ByteArray × Int × Int)) (o : Option (List Int × List Int)) (k : Nat) (hk : 1 ≤ k) (ho : ∀ s r, o = some (s, r) → s.length ≤ 65535) (h : Rd l X o) :
    TkR l (X.bind fun bt => lex_reader_token.j2 k kind bt.1 bt.2.1 l bt.2.2) (wholeL kind o) := by
  obtain ⟨k, rfl⟩ : ∃ q, k = q + 1 := ⟨k - 1, by omega⟩
  cases o with
  | none =>
    obtain ⟨q, rfl⟩ := h
    refine ⟨by decide, q, ?_⟩
    rw [Option.bind_some, lex_reader_token.j2]
    exact if_neg (show ¬ ((4 : Int) = 0) from by decide)
  | some p =>
    obtain ⟨s, r⟩ := p
    obtain ⟨p', hp, rfl⟩ := h
    have := ho s r rfl
    refine ⟨p', hp, ?_⟩
    rw [Option.bind_some, lex_reader_token.j2]
    show (if (0 : Int) = 0 then (if ((bs s).size : Int) > 65535 then _ else _) else _) = _
    rw [if_pos rfl, bs_len, if_neg (by omega)]
theorem word_p (l : List Int) (hl : l.length ≤ 4000) (c : Int) (t : List Int) (p k : Nat) (h : At l p (c :: t)) (hc : otherB c = true) (hk : 9000 ≤ k) :
    TkR l (lex_reader_word.f k l (p : Int)) (wordL (c :: rowA t) (rowZ t)) := by
  have hn := h.len
  obtain ⟨p', hp, hr⟩ := row_pf l hl (c :: t) p k h (by omega)
  have ea : rowA (c :: t) = c :: rowA t := by show (if _ then _ else _) = _; rw [if_pos hc]
  have ez : rowZ (c :: t) = rowZ t := by show (if _ then _ else _) = _; rw [if_pos hc]
  rw [ea] at hr
  rw [ez] at hp
  unfold lex_reader_word.f
  rw [hr, Option.bind_some]
  show TkR l ((dec_Parse.f k (bs (c :: rowA t))).bind _) _
  rw [parse_f _ k (by omega), Option.bind_some, show (bs (c :: rowA t)).data.toList = u8L (c :: rowA t) from rfl]
  unfold wordL
  by_cases h0 : (parseL (u8L (c :: rowA t))).2.2 = 0
  · rw [if_pos h0, if_pos h0]
    refine ⟨p', hp, ?_⟩
    rw [h0]
    rfl
  rw [if_neg h0, if_neg h0]
  by_cases h5 : (parseL (u8L (c :: rowA t))).2.2 = 5
  · rw [if_pos h5, if_pos h5]
    refine ⟨by decide, (p' : Int), ?_⟩
    rw [h5]
  rw [if_neg h5, if_neg h5]
  by_cases h127 : 127 < (c :: rowA t).length
  · rw [if_pos (by rw [bs_len]; omega), if_pos h127]
    exact ⟨by decide, _, rfl⟩
  · rw [if_neg (by rw [bs_len]; omega), if_neg h127]
    exact ⟨p', hp, rfl⟩
theorem j2_tok (l : List Int) (kind : Int) (k : Nat) (hk : 1 ≤ k) (p : Nat) (r : List Int) (h : At l p r) : TkR l (lex_reader_token.j2 k kind (⟨#[]⟩ : ByteArray) 0 l (p : Int)) (.tok kind 0 0 [] r) := by
  obtain ⟨k, rfl⟩ : ∃ q, k = q + 1 := ⟨k - 1, by omega⟩
  refine ⟨p, h, ?_⟩
  rw [lex_reader_token.j2, if_pos rfl, if_neg (by decide)]
  rfl
theorem j2_bad (l : List Int) (kind : Int) (k : Nat) (hk : 1 ≤ k) (p : Int) : TkR l (lex_reader_token.j2 k kind (⟨#[]⟩ : ByteArray) 4 l p) (.err 4) := by
  obtain ⟨k, rfl⟩ : ∃ q, k = q + 1 := ⟨k - 1, by omega⟩
  refine ⟨by decide, p, ?_⟩
  rw [lex_reader_token.j2, if_neg (by decide)]
theorem mark_p (l : List Int) (hl : l.length ≤ 4000) (hok : okB l) (c : Int) (t : List Int) (p k : Nat) (h : At l p (c :: t)) (hk : 13000 ≤ k) :
    TkR l (if c = 91 then (lex_reader_token.j2 k 5 (⟨#[]⟩ : ByteArray) 0 l (wrap64 ((p : Int) + 1))) else (if c = 93 then (lex_reader_token.j2 k 6 (⟨#[]⟩ : ByteArray) 0 l (wrap64 ((p : Int) + 1))) else (if c = 60 then (if (pk t).2 = true then (lex_reader_token.j0 k c (pk t).2 (pk t).1 3 (⟨#[]⟩ : ByteArray) 0 ((pk t).1 == c) l (wrap64 ((p : Int) + 1))) else (lex_reader_token.j0 k c (pk t).2 (pk t).1 3 (⟨#[]⟩ : ByteArray) 0 false l (wrap64 ((p : Int) + 1)))) else (lex_reader_token.j0 k c (pk t).2 (pk t).1 3 (⟨#[]⟩ : ByteArray) 0 false l (wrap64 ((p : Int) + 1)))))) (markL c t) := by
  obtain ⟨k, rfl⟩ : ∃ q, k = q + 2 := ⟨k - 2, by omega⟩
  obtain ⟨h1, h2, h3⟩ := h.cons
  have hn3 := h3.len
  rw [w1n p (by omega)]
  have hhex : TkR l ((lex_reader_hexa.f k l ((p + 1 : Nat) : Int)).bind fun bt160 => (lex_reader_token.j2 k 3 bt160.1 bt160.2.1 l bt160.2.2)) (wholeL 3 (hexL [] t)) := by
    refine whole_p l 3 _ _ k (by omega) (fun s r hs => ?_) ?_
    · have := hex_len t [] s r hs
      rw [List.length_nil] at this
      omega
    · unfold lex_reader_hexa.f
      exact hexa_p l hl hok t (p + 1) [] k h3 (fun c hc => by cases hc) (Nat.zero_le _) (by omega)
  have j1no : ∀ q : Int × Bool, lex_reader_token.j0 (k + 2) c q.2 q.1 3 (⟨#[]⟩ : ByteArray) 0 false l ((p + 1 : Nat) : Int) = (if c = 62 then (if q.2 = true then (lex_reader_token.j1 (k + 1) c 3 (⟨#[]⟩ : ByteArray) 0 (q.1 == c) l ((p + 1 : Nat) : Int)) else (lex_reader_token.j1 (k + 1) c 3 (⟨#[]⟩ : ByteArray) 0 false l ((p + 1 : Nat) : Int))) else (lex_reader_token.j1 (k + 1) c 3 (⟨#[]⟩ : ByteArray) 0 false l ((p + 1 : Nat) : Int))) := fun q => by
    rw [lex_reader_token.j0, if_neg (by decide)]
  have j1f : lex_reader_token.j1 (k + 1) c 3 (⟨#[]⟩ : ByteArray) 0 false l ((p + 1 : Nat) : Int) = (if c = 60 then ((lex_reader_hexa.f k l ((p + 1 : Nat) : Int)).bind fun bt160 => (lex_reader_token.j2 k 3 bt160.1 bt160.2.1 l bt160.2.2)) else (if c = 40 then ((lex_reader_text.f k l ((p + 1 : Nat) : Int)).bind fun bt163 => (lex_reader_token.j2 k 3 bt163.1 bt163.2.1 l bt163.2.2)) else (if c = 47 then ((lex_reader_row.f k l ((p + 1 : Nat) : Int)).bind fun bt166 => ((lex_name.f k bt166.1).bind fun bt168 => (lex_reader_token.j2 k 2 bt168.1 bt168.2 l bt166.2))) else (lex_reader_token.j2 k 3 (⟨#[]⟩ : ByteArray) 4 l ((p + 1 : Nat) : Int))))) := by
    rw [lex_reader_token.j1, if_neg (by decide)]
  unfold markL
  by_cases e1 : c = 91
  · rw [if_pos e1, if_pos e1]
    exact j2_tok l 5 _ (by omega) (p + 1) t h3
  rw [if_neg e1, if_neg e1]
  by_cases e2 : c = 93
  · rw [if_pos e2, if_pos e2]
    exact j2_tok l 6 _ (by omega) (p + 1) t h3
  rw [if_neg e2, if_neg e2]
  by_cases e3 : c = 60
  · rw [if_pos e3, if_pos e3]
    have n62 : ¬ c = 62 := by omega
    have plain : TkR l (lex_reader_token.j0 (k + 2) c (pk t).2 (pk t).1 3 (⟨#[]⟩ : ByteArray) 0 false l ((p + 1 : Nat) : Int)) (wholeL 3 (hexL [] t)) := by
      rw [j1no, if_neg n62, j1f, if_pos e3]
      exact hhex
    cases t with
    | nil =>
      rw [show (pk []).2 = false from rfl, if_neg Bool.false_ne_true]
      exact plain
    | cons d r =>
      obtain ⟨_, _, h4⟩ := h3.cons
      have hn4 := h4.len
      rw [show (pk (d :: r)).2 = true from rfl, if_pos rfl, show (pk (d :: r)).1 = d from rfl]
      dsimp only
      by_cases hd : d = 60
      · rw [if_pos hd, beq_iff_eq.2 (hd.trans e3.symm), lex_reader_token.j0, if_pos rfl, w1n (p + 1) (by omega)]
        exact j2_tok l 7 _ (by omega) (p + 1 + 1) r h4
      · rw [if_neg hd, beq_eq_false_iff_ne.2 (fun e => hd (e.trans e3))]
        exact plain
  rw [if_neg e3, if_neg e3, j1no]
  by_cases e4 : c = 62
  · rw [if_pos e4, if_pos e4]
    have bad : TkR l (lex_reader_token.j1 (k + 1) c 3 (⟨#[]⟩ : ByteArray) 0 false l ((p + 1 : Nat) : Int)) (.err 4) := by
      rw [j1f, if_neg e3, if_neg (by omega), if_neg (by omega)]
      exact j2_bad l 3 k (by omega) _
    cases t with
    | nil =>
      rw [show (pk []).2 = false from rfl, if_neg Bool.false_ne_true]
      exact bad
    | cons d r =>
      obtain ⟨_, _, h4⟩ := h3.cons
      have hn4 := h4.len
      rw [show (pk (d :: r)).2 = true from rfl, if_pos rfl, show (pk (d :: r)).1 = d from rfl]
      dsimp only
      by_cases hd : d = 62
      · rw [if_pos hd, beq_iff_eq.2 (hd.trans e4.symm), lex_reader_token.j1, if_pos rfl, w1n (p + 1) (by omega)]
        exact j2_tok l 8 _ (by omega) (p + 1 + 1) r h4
      · rw [if_neg hd, beq_eq_false_iff_ne.2 (fun e => hd (e.trans e4))]
        exact bad
  rw [if_neg e4, if_neg e4, j1f, if_neg e3]
  by_cases e5 : c = 40
  · rw [if_pos e5, if_pos e5]
    refine whole_p l 3 _ _ k (by omega) (fun s r hs => ?_) ?_
    · have := text_len _ _ _ _ s r hs
      rw [List.length_nil] at this
      omega
    · unfold lex_reader_text.f
      exact text_p l hl hok t.length t (p + 1) [] 1 k (t.length + 1) (Nat.le_refl _) h3 (Nat.zero_le _) (Nat.le_refl _) (by omega) (by omega) (Nat.le_refl _)
  rw [if_neg e5, if_neg e5]
  by_cases e6 : c = 47
  · rw [if_pos e6, if_pos e6]
    obtain ⟨p', hp, hr⟩ := row_pf l hl t (p + 1) k h3 (by omega)
    have hrl := row_len t
    have hra : okB (rowA t) := fun x hx => (h3.ok hok) x (by rw [← row_eq t]; exact List.mem_append_left _ hx)
    rw [hr, Option.bind_some]
    show TkR l ((lex_name.f k (bs (rowA t))).bind _) _
    rw [name_pf (rowA t) hra (by omega) k ((rowA t).length + 1) (by omega) (Nat.le_refl _), Option.bind_some]
    obtain ⟨k, rfl⟩ : ∃ q, k = q + 1 := ⟨k - 1, by omega⟩
    cases hnm : nameL ((rowA t).length + 1) (rowA t) with
    | none =>
      refine ⟨by decide, (p' : Int), ?_⟩
      show lex_reader_token.j2 (k + 1) 2 (⟨#[]⟩ : ByteArray) 4 l (p' : Int) = _
      rw [lex_reader_token.j2, if_neg (by decide)]
    | some o =>
      have hol := name_len _ _ o hnm
      refine ⟨p', hp, ?_⟩
      show lex_reader_token.j2 (k + 1) 2 (bs ([] ++ o)) 0 l (p' : Int) = _
      rw [lex_reader_token.j2, if_pos rfl, bs_len, List.nil_append, if_neg (by omega)]
  · rw [if_neg e6, if_neg e6]
    exact j2_bad l 3 k (by omega) _
theorem token_p (l : List Int) (hl : l.length ≤ 4000) (hok : okB l) (r : List Int) (p k : Nat) (h : At l p r) (hk : 20000 ≤ k) : TkR l (lex_reader_token.f k l (p : Int)) (nextL r) := by
  have hn := h.len
  obtain ⟨q, hq, hs⟩ := skip_pf l hl r p k h (by omega)
  unfold lex_reader_token.f nextL
  rw [hs, Option.bind_some, peek_at l hl hq, Option.bind_some]
  cases hr : skipL false r with
  | nil =>
    rw [hr] at hq
    refine ⟨q, hq, ?_⟩
    show (if false = true then _ else _) = _
    rw [if_neg Bool.false_ne_true]
    rfl
  | cons c t =>
    rw [hr] at hq
    obtain ⟨y, hy, hiff⟩ := of_two c k (by omega)
    show TkR l (if true = true then ((lex_of.f k c).bind fun t150 => (if t150 = 2 then ((lex_reader_word.f k l (q : Int)).bind fun bt151 => (some (bt151.1, bt151.2.1, bt151.2.2.1, bt151.2.2.2.1, bt151.2.2.2.2.1, bt151.2.2.2.2.2))) else ((lex_reader_peek.f l (q : Int) 1).bind fun bt157 => (if c = 91 then (lex_reader_token.j2 k 5 (⟨#[]⟩ : ByteArray) 0 l (wrap64 (bt157.2.2 + 1))) else (if c = 93 then (lex_reader_token.j2 k 6 (⟨#[]⟩ : ByteArray) 0 l (wrap64 (bt157.2.2 + 1))) else (if c = 60 then (if bt157.2.1 = true then (lex_reader_token.j0 k c bt157.2.1 bt157.1 3 (⟨#[]⟩ : ByteArray) 0 (bt157.1 == c) l (wrap64 (bt157.2.2 + 1))) else (lex_reader_token.j0 k c bt157.2.1 bt157.1 3 (⟨#[]⟩ : ByteArray) 0 false l (wrap64 (bt157.2.2 + 1)))) else (lex_reader_token.j0 k c bt157.2.1 bt157.1 3 (⟨#[]⟩ : ByteArray) 0 false l (wrap64 (bt157.2.2 + 1))))))))) else _) (if otherB c = true then wordL (c :: rowA t) (rowZ t) else markL c t)
    rw [if_pos rfl, hy, Option.bind_some]
    by_cases ho : otherB c = true
    · rw [if_pos (hiff.2 ho), if_pos ho]
      have := word_p l hl c t q k hq ho (by omega)
      cases hx : lex_reader_word.f k l (q : Int) with
      | none =>
        rw [hx] at this
        unfold TkR at this
        split at this
        · obtain ⟨_, _, h⟩ := this; cases h
        · obtain ⟨_, _, h⟩ := this; cases h
      | some v =>
        rw [hx] at this
        exact this
    · rw [if_neg (fun e => ho (hiff.1 e)), if_neg ho, peek1_at l hl hq, Option.bind_some]
      exact mark_p l hl hok c t q k hq (by omega)
def NxR (l : List Int) (x : Option (Int × Int × Int × ByteArray × Int × Int)) (o : TokR) : Prop := match o with
  | .err e => e ≠ 0 ∧ x = some (0, 0, 0, ⟨#[]⟩, 0, e)
  | .tok kind M S s r => ∃ p' : Nat, At l p' r ∧ x = some (kind, M, S, bs s, (p' : Int), 0)
theorem next_p (l : List Int) (hl : l.length ≤ 4000) (hok : okB l) (r : List Int) (p k : Nat) (h : At l p r) (hk : 20000 ≤ k) : NxR l (lex_Next.f k l (p : Int)) (nextL r) := by
  have hn := h.len
  have := token_p l hl hok r p k h hk
  unfold lex_Next.f
  rw [if_neg (by omega)]
  cases ho : nextL r with
  | err e =>
    rw [ho] at this
    obtain ⟨he, q, hx⟩ := this
    refine ⟨he, ?_⟩
    rw [hx, Option.bind_some]
    exact if_neg he
  | tok kind M S s r' =>
    rw [ho] at this
    obtain ⟨p', hp, hx⟩ := this
    refine ⟨p', hp, ?_⟩
    rw [hx, Option.bind_some]
    exact if_pos rfl
theorem next_bad (l : List Int) (a k : Int) (kk : Nat) (h : a < 0 ∨ (l.length : Int) < a) : lex_Next.f kk l a = some (0, 0, 0, ⟨#[]⟩, 0, 1) := by
  unfold lex_Next.f
  rw [if_pos h]
end Go.Proofs.YtnhgnejfagncpaaDoor.Plain
end
section
namespace Go.Proofs.YtnhgnejfagncpaaDoor.Plain
open Go Go.RowKit Go.Proofs.YtnhgnejfagncpaaDoorW.PrintWords
set_option linter.unusedVariables false
theorem okB_app {a b : List Int} (ha : okB a) (hb : okB b) : okB (a ++ b) := fun c hc => (List.mem_append.1 hc).elim (ha c) (hb c)
theorem okB_one {x : Int} (h0 : 0 ≤ x) (h1 : x ≤ 255) : okB [x] := fun c hc => by rw [List.mem_singleton.1 hc]; exact ⟨h0, h1⟩
end Go.Proofs.YtnhgnejfagncpaaDoor.Plain
end
section
namespace Go.Proofs.YtnhgnejfagncpaaDoor.U
open Go
open Go.RowKit Go.Proofs.YtnhgnejfagncpaaDoorW.PrintWords Go.Proofs.YtnhgnejfagncpaaDoorW.PrintLast Go.Proofs.YtnhgnejfagncpaaDoorW.PrintMore Go.Proofs.YtnhgnejfagncpaaDoor.H Go.Proofs.YtnhgnejfagncpaaDoor.A Go.Proofs.YtnhgnejfagncpaaDoor.B Go.Proofs.YtnhgnejfagncpaaDoor.E Go.Proofs.YtnhgnejfagncpaaDoor.L Go.Proofs.YtnhgnejfagncpaaDoor.M Go.Proofs.YtnhgnejfagncpaaDoor.P
set_option linter.unusedVariables false
set_option linter.unusedSimpArgs false
theorem C_bytes (w : World) (s : ByteArray) (c : Nat) (fr : Nat × Nat) (h : s.size ≤ 9223372036854775807) : Kd.C (Kd.int .u8) (w.alloc (.cells (bytesRow s c) 5 fr)) (some ⟨w.heap.size, 0, none⟩) (Plain.nb s).length (Plain.nb s) := by
  refine ⟨rfl, by rw [Plain.nb_len]; exact h, fun hn => ⟨_, rfl, fun j p hj => ⟨[.int .u8 p], rfl, rfl, fun i u hi => ?_⟩⟩⟩
  have hi0 : i = 0 := by
    rcases i with _ | i
    · rfl
    · simp at hi
  subst hi0
  simp at hi
  subst hi
  have := World.cell?_alloc_mark w (bytesRow s c) 5 fr j
  have e : ((⟨w.heap.size, 0, none⟩ : Addr).add (j * (Kd.int .u8).sz + 0)) = ⟨w.heap.size, j, none⟩ := by
    have : (Kd.int .u8).sz = 1 := rfl
    rw [this]
    rcases j with _ | j <;> simp [Addr.add]
  rw [e, this]
  have hj2 : (Plain.nb s)[j]? = some p := hj
  have hjl : j < s.size := by
    rcases Nat.lt_or_ge j s.size with h2 | h2
    · exact h2
    · rw [List.getElem?_eq_none (by rw [Plain.nb_len]; exact h2)] at hj2; cases hj2
  unfold bytesRow
  rw [Array.getElem?_append_left (by rw [Array.size_map]; exact hjl), Array.getElem?_map]
  unfold Plain.nb Plain.I8 at hj2
  rw [List.getElem?_map, Array.getElem?_toList] at hj2
  cases hq : s.data[j]? with
  | none => rw [hq] at hj2; cases hj2
  | some b => rw [hq] at hj2; cases hj2; rfl
theorem cap_ge (w : World) (s : ByteArray) : (Plain.nb s).length ≤ grownCap w s.size 0 5 := by rw [Plain.nb_len]; exact grownCap_ge ..
set_option maxHeartbeats 16000000 in
set_option maxRecDepth 100000 in
theorem numbers_out (s : ByteArray) (w : World) (hT : Tab w) (h : s.size < 1 ∨ 127 < s.size) : Calls Tryd.prog 7 #[.string s] w fun e w' => e = .returned (.bool true) ∧ Below w.heap.size w w' := by
  have HT := Aside0.mk hT
  clear hT
  by_cases h0 : s.size < 1
  · have a0 : decide ((s.size : Int) < 1) = true := decide_eq_true (by omega)
    have a1 : decide (s.size < 1) = true := decide_eq_true h0
    have a2 : s.size = 0 := by omega
    clear h h0
    go_enter Tryd.func7, Tryd.ntmps7
    go_wp2_with fail
    refine (awake14 _ HT.out).mono ?_
    rintro e w2 ⟨rfl, hb⟩
    go_wp2
    go_ret
    exact ⟨rfl, hb⟩
  · have h1 : 127 < s.size := by omega
    have a0 : decide ((s.size : Int) < 1) = false := decide_eq_false (by omega)
    have a1 : decide (s.size < 1) = false := decide_eq_false h0
    have a3 : decide (127 < (s.size : Int)) = true := decide_eq_true (by omega)
    have a4 : decide (127 < s.size) = true := decide_eq_true h1
    have a2 : ¬ s.size = 0 := by omega
    clear h h0 h1
    go_enter Tryd.func7, Tryd.ntmps7
    go_wp2_with fail
    refine (awake14 _ HT.out).mono ?_
    rintro e w2 ⟨rfl, hb⟩
    go_wp2
    go_ret
    exact ⟨rfl, hb⟩
def capB (X : ByteArray) (W : World) : Nat := grownCap W X.size 0 5
def layB (X : ByteArray) (W : World) : World := W.drew.alloc (.cells (bytesRow X (capB X W)) 5 ((bytesRow X (capB X W)).size, (bytesRow X (capB X W)).size + 1))
theorem run_lay (X Y : ByteArray) (h : X = Y) (W : World) : (convert 9 22 (.string Y)).run Tryd.prog W = .ok (.slice (some ⟨W.heap.size, 0, none⟩) (Plain.nb X).length (capB X W)) (layB X W) := by
  subst h
  rw [Plain.nb_len]
  exact run_bytes_of_string W 9 22 5 X Tryd.underlying9 Tryd.underlying22 Tryd.underlying5
theorem C_lay (X : ByteArray) (W : World) (h : X.size ≤ 9223372036854775807) : Kd.C (Kd.int .u8) (layB X W) (some ⟨W.heap.size, 0, none⟩) (Plain.nb X).length (Plain.nb X) := C_bytes W.drew X _ _ h
theorem cap_lay (X : ByteArray) (W : World) : (Plain.nb X).length ≤ capB X W := cap_ge W X
theorem blk_lay (X : ByteArray) {W : World} {g : Nat} {o : Obj} (h : W.heap[g]? = some o) : (layB X W).heap[g]? = some o := blk_alloc (blk_drew h) _
theorem below_lay (X : ByteArray) {w W : World} (h : Below w.heap.size w W) : Below w.heap.size w (layB X W) := below_alloc (pw_below_drewN h 1) _
def numC (c : Int) : Prop := 48 ≤ c ∧ c ≤ 57 ∨ 97 ≤ c ∧ c ≤ 122 ∨ c = 46 ∨ c = 45 ∨ c = 43
theorem numC_other (c : Int) (h : numC c) : Plain.otherB c = true := by
  unfold numC at h
  unfold Plain.otherB Plain.markB Plain.whiteB
  simp only [Bool.and_eq_true, Bool.not_eq_true', Bool.or_eq_false_iff, beq_eq_false_iff_ne]
  omega
theorem num_next (s X : ByteArray) (hX : X = s ++ ⟨#[32]⟩) (h1 : 1 ≤ s.size) (h127 : s.size ≤ 127) (hpl : ∀ j : Nat, j < s.size → numC (bt s (j : Int))) :
    lex_Next.f 20000 (Plain.nb X) 0 = some (if (Plain.parseL s.data.toList).2.2 = 0 then (1, (Plain.parseL s.data.toList).1, (Plain.parseL s.data.toList).2.1, ⟨#[]⟩, (s.size : Int), 0) else if (Plain.parseL s.data.toList).2.2 = 5 then (0, 0, 0, ⟨#[]⟩, 0, 5) else (4, 0, 0, s, (s.size : Int), 0)) := by
  have hnb : Plain.nb X = Plain.nb s ++ [32] := by
    have e : X = Plain.bs (Plain.nb s ++ [32]) := by
      rw [← Plain.bs_app, Plain.bs_nb, hX]
      rfl
    rw [e, Plain.nb_bs]
    exact Plain.okB_app (Plain.i8_ok _) (Plain.okB_one (by decide) (by decide))
  have hlen : (Plain.nb X).length = s.size + 1 := by rw [hnb, List.length_append, Plain.nb_len]; rfl
  have hok : Plain.okB (Plain.nb X) := Plain.i8_ok _
  have hne : Plain.nb s ≠ [] := fun e => by
    have := congrArg List.length e
    rw [Plain.nb_len, List.length_nil] at this
    omega
  have hoth : ∀ c ∈ Plain.nb s, Plain.otherB c = true := fun c hc => by
    obtain ⟨j, hj⟩ := List.getElem?_of_mem hc
    have hjl : j < (Plain.nb s).length := by
      rcases Nat.lt_or_ge j (Plain.nb s).length with h | h
      · exact h
      · rw [List.getElem?_eq_none h] at hj; cases hj
    have hat : Plain.At (Plain.nb s) j (c :: (Plain.nb s).drop (j + 1)) := by
      refine ⟨by omega, ?_⟩
      rw [List.drop_eq_getElem_cons hjl]
      congr 1
      rw [List.getElem?_eq_getElem hjl] at hj
      exact Option.some.inj hj
    have := (Plain.bt_at s hat).1
    rw [← this]
    exact numC_other _ (hpl j (by rw [← Plain.nb_len]; exact hjl))
  have hn := Plain.next_p (Plain.nb X) (by omega) hok (Plain.nb s ++ [32]) 0 20000 ⟨Nat.zero_le _, hnb⟩ (Nat.le_refl _)
  rw [Plain.word_next (Plain.nb s) hne hoth 32 [] rfl] at hn
  unfold Plain.wordL at hn
  rw [show Plain.u8L (Plain.nb s) = s.data.toList from Plain.u8_i8 _] at hn
  have pos : ∀ p' : Nat, Plain.At (Plain.nb X) p' [32] → (p' : Int) = (s.size : Int) := fun p' h => by
    have := h.len
    rw [hlen] at this
    have e1 : [(32 : Int)].length = 1 := rfl
    omega
  have z : ((0 : Nat) : Int) = 0 := rfl
  rw [z] at hn
  by_cases g0 : (Plain.parseL s.data.toList).2.2 = 0
  · rw [if_pos g0] at hn ⊢
    obtain ⟨p', hp, hv⟩ := hn
    rw [hv, pos p' hp]
    rfl
  rw [if_neg g0] at hn ⊢
  by_cases g5 : (Plain.parseL s.data.toList).2.2 = 5
  · rw [if_pos g5] at hn ⊢
    exact hn.2
  rw [if_neg g5, if_neg (by rw [Plain.nb_len]; omega)] at hn
  rw [if_neg g5]
  obtain ⟨p', hp, hv⟩ := hn
  rw [hv, pos p' hp, Plain.bs_nb]
set_option maxHeartbeats 16000000 in
set_option maxRecDepth 100000 in
theorem numbers_in (s : ByteArray) (w : World) (hT : Tab w) (h1 : 1 ≤ s.size) (h127 : s.size ≤ 127) : Calls Tryd.prog 7 #[.string s] w fun e w' => e = .returned (.bool true) ∧ Below w.heap.size w w' := by
  have HT := Aside0.mk hT
  have HB := Aside0.mk (Below.refl w.heap.size w)
  clear hT
  have H127 := Aside0.mk h127
  have a0 : decide ((s.size : Int) < 1) = false := decide_eq_false (by omega)
  have a1 : decide (s.size < 1) = false := decide_eq_false (by omega)
  have a3 : decide (127 < (s.size : Int)) = false := decide_eq_false (by omega)
  have a4 : decide (127 < s.size) = false := decide_eq_false (by omega)
  have a2 : ¬ s.size = 0 := by omega
  go_enter Tryd.func7, Tryd.ntmps7
  go_wp2_with fail
  go_loopg [3] (s.size + 1) (fun kq v3 w' => ∃ i : Nat, i + kq = s.size + 1 ∧ i ≤ s.size ∧ v3 = .int .i64 (i : Int) ∧ Aside0 (∀ j : Nat, j < i → numC (bt s (j : Int))) ∧ Aside0 (Below w.heap.size w w'))
  case atStart => exact ⟨0, by omega, by omega, rfl, ⟨fun j hj => absurd hj (Nat.not_lt_zero _)⟩, HB⟩
  case round =>
    clear HB
    obtain ⟨i, hik, hi, rfl, HN, HB⟩ := hrel
    by_cases hlt : i < s.size
    · have b0 : decide ((i : Int) < (s.size : Int)) = true := decide_eq_true (by omega)
      have b1 : decide (i < s.size) = true := decide_eq_true hlt
      have p0 : (0 ≤ (i : Int)) = True := eq_true (by omega)
      have q0 : ((i : Int) < (s.size : Int)) = True := eq_true (by omega)
      have hb : bt s (i : Int) = ((s[i]'hlt).toNat : Int) := by unfold bt; rw [Int.toNat_natCast, dif_pos hlt]
      have hcase : ((s[i]'hlt).toNat : Int) < 43 ∨ ((s[i]'hlt).toNat : Int) = 43 ∨ ((s[i]'hlt).toNat : Int) = 44 ∨ ((s[i]'hlt).toNat : Int) = 45 ∨ ((s[i]'hlt).toNat : Int) = 46 ∨ ((s[i]'hlt).toNat : Int) = 47 ∨ (48 ≤ ((s[i]'hlt).toNat : Int) ∧ ((s[i]'hlt).toNat : Int) ≤ 57) ∨ (58 ≤ ((s[i]'hlt).toNat : Int) ∧ ((s[i]'hlt).toNat : Int) ≤ 96) ∨ (97 ≤ ((s[i]'hlt).toNat : Int) ∧ ((s[i]'hlt).toNat : Int) ≤ 122) ∨ 123 ≤ ((s[i]'hlt).toNat : Int) := by omega
      rcases hcase with hc | hc | hc | hc | hc | hc | hc | hc | hc | hc
      all_goals
        first | (have f43 : (((s[i]'hlt).toNat : Int) == 43) = true := beq_iff_eq.2 (by omega)) | (have f43 : (((s[i]'hlt).toNat : Int) == 43) = false := beq_eq_false_iff_ne.2 (by omega))
        first | (have f45 : (((s[i]'hlt).toNat : Int) == 45) = true := beq_iff_eq.2 (by omega)) | (have f45 : (((s[i]'hlt).toNat : Int) == 45) = false := beq_eq_false_iff_ne.2 (by omega))
        first | (have f46 : (((s[i]'hlt).toNat : Int) == 46) = true := beq_iff_eq.2 (by omega)) | (have f46 : (((s[i]'hlt).toNat : Int) == 46) = false := beq_eq_false_iff_ne.2 (by omega))
        first | (have f48 : decide (48 ≤ ((s[i]'hlt).toNat : Int)) = true := decide_eq_true (by omega)) | (have f48 : decide (48 ≤ ((s[i]'hlt).toNat : Int)) = false := decide_eq_false (by omega))
        first | (have f57 : decide (((s[i]'hlt).toNat : Int) ≤ 57) = true := decide_eq_true (by omega)) | (have f57 : decide (((s[i]'hlt).toNat : Int) ≤ 57) = false := decide_eq_false (by omega))
        first | (have f97 : decide (97 ≤ ((s[i]'hlt).toNat : Int)) = true := decide_eq_true (by omega)) | (have f97 : decide (97 ≤ ((s[i]'hlt).toNat : Int)) = false := decide_eq_false (by omega))
        first | (have f122 : decide (((s[i]'hlt).toNat : Int) ≤ 122) = true := decide_eq_true (by omega)) | (have f122 : decide (((s[i]'hlt).toNat : Int) ≤ 122) = false := decide_eq_false (by omega))
        have HI := Aside0.mk (show i + gk = s.size + 1 ∧ i ≤ s.size ∧ i < s.size from ⟨hik, hi, hlt⟩)
        clear hik hi a0 a1 a2 a3 a4 h1 h127
        first
        | (have hn : Aside0 (numC (bt s (i : Int))) := ⟨by rw [hb]; unfold numC; omega⟩
           clear hc hb
           go_wp2_with fail
           go_roundg (s.size - i)
           case measure => have := HI.out; omega
           case rel => exact ⟨i + 1, by have := HI.out; omega, by have := HI.out; omega, congrArg (Value.int .i64) (Plain.w1n i (by have := HI.out; have := H127.out; omega)), ⟨fun j hj => by
             rcases Nat.lt_or_ge j i with h | h
             · exact HN.out j h
             · obtain rfl : j = i := by omega
               exact hn.out⟩, by first | exact HB | exact ⟨pw_below_drewN HB.out _⟩⟩)
        | (clear hc hb
           go_wp2_with fail
           refine (awake14 _ (Tab.below HT.out (by first | exact HB.out | exact pw_below_drewN HB.out _))).mono ?_
           rintro e2 w2 ⟨rfl, hb⟩
           go_wp2
           go_ret
           exact ⟨rfl, below_step (by first | exact HB.out | exact pw_below_drewN HB.out _) hb⟩)
    · obtain rfl : i = s.size := by omega
      have b0 : decide ((s.size : Int) < (s.size : Int)) = false := decide_eq_false (by omega)
      have b1 : decide (s.size < s.size) = false := decide_eq_false (by omega)
      obtain ⟨X, hX⟩ : ∃ X : ByteArray, X = s ++ ⟨#[32]⟩ := ⟨_, rfl⟩
      have hxs : X.size = s.size + 1 := by rw [hX, ByteArray.size_append]; rfl
      have hnx := num_next s X hX h1 h127 HN.out
      have hps := Plain.parse_f s 20000 (by decide)
      have hcv := run_lay X _ hX
      have HS := Aside0.mk (show X.size ≤ 9223372036854775807 from by omega)
      clear hX hxs HN
      obtain ⟨⟨M, S, e⟩, hq⟩ : ∃ q, Plain.parseL s.data.toList = q := ⟨_, rfl⟩
      have hcode : e = 0 ∨ e = 4 ∨ e = 5 := by
        have := Plain.parse_code s.data.toList
        rw [hq] at this
        exact this
      rw [hq] at hnx hps
      dsimp only at hnx
      clear hq
      have HP := Aside0.mk hps
      clear hps
      have hsz : s.size + 1 ≤ 9223372036854775807 := by omega
      have hsz2 : (9223372036854775807 < s.size + 1) = False := eq_false (by omega)
      rcases hcode with rfl | rfl | rfl
      · rw [if_pos rfl] at hnx
        have HX := Aside0.mk hnx
        clear hnx
        go_wp2_with fail
        refine (dec_Parse.calls 20000 s M S 0 _ HP.out).mono ?_
        rintro e2 w2 ⟨rfl, hb⟩
        have HB2 := Aside0.mk (below_step (by first | exact HB.out | exact pw_below_drewN HB.out _) hb)
        clear HB hb
        go_wp2_with fail
        refine (lex_Next.calls 20000 (some ⟨w2.heap.size + 1, 0, none⟩) _ (Plain.nb X) 0 1 M S ⟨#[]⟩ (s.size : Int) 0 _ (by have h := C_lay X (w2.alloc (.cells #[.int .i64 M, .int .i64 S] 25)) HS.out; rw [World.size_alloc] at h; exact h) (cap_lay X _) HX.out).mono ?_
        rintro e3 w3 ⟨rfl, hb3⟩
        have BK6 := blk_below (blk_lay X (blk_new w2 (.cells #[.int .i64 M, .int .i64 S] 25))) hb3
        have HB3 := Aside0.mk (below_step (below_lay X (below_alloc HB2.out (.cells #[.int .i64 M, .int .i64 S] 25))) hb3)
        clear HB2 hb3
        go_wp2_with fail
        refine (awake14 _ (Tab.below HT.out (below_alloc HB3.out _))).mono ?_
        rintro e4 w4 ⟨rfl, hb4⟩
        have BK8 := blk_below (blk_new w3 (.cells #[.int .i64 1, .int .i64 M, .int .i64 S, .string ⟨#[]⟩] 27)) hb4
        have BK6 := blk_below (blk_alloc BK6 (.cells #[.int .i64 1, .int .i64 M, .int .i64 S, .string ⟨#[]⟩] 27)) hb4
        have HB4 := Aside0.mk (below_step (below_alloc HB3.out (.cells #[.int .i64 1, .int .i64 M, .int .i64 S, .string ⟨#[]⟩] 27)) hb4)
        clear HB3 hb4
        have x0 : w4.cell? ⟨w3.heap.size, 0, none⟩ = some (.int .i64 1) := (blk_cell BK8 0).trans rfl
        have x1 : w4.cell? ⟨w3.heap.size, 1, none⟩ = some (.int .i64 M) := (blk_cell BK8 1).trans rfl
        have x2 : w4.cell? ⟨w3.heap.size, 2, none⟩ = some (.int .i64 S) := (blk_cell BK8 2).trans rfl
        have x3 : w4.cell? ⟨w3.heap.size, 3, none⟩ = some (.string ⟨#[]⟩) := (blk_cell BK8 3).trans rfl
        have y0 : w4.cell? ⟨w2.heap.size, 0, none⟩ = some (.int .i64 M) := (blk_cell BK6 0).trans rfl
        have y1 : w4.cell? ⟨w2.heap.size, 1, none⟩ = some (.int .i64 S) := (blk_cell BK6 1).trans rfl
        clear BK6 BK8
        go_wp2_with fail
        go_ret
        exact ⟨ea_, by first | exact HB4.out | exact pw_below_drewN HB4.out _⟩
      · rw [if_neg (by decide), if_neg (by decide)] at hnx
        have HX := Aside0.mk hnx
        clear hnx
        go_wp2_with fail
        refine (dec_Parse.calls 20000 s M S 4 _ HP.out).mono ?_
        rintro e2 w2 ⟨rfl, hb⟩
        have HB2 := Aside0.mk (below_step (by first | exact HB.out | exact pw_below_drewN HB.out _) hb)
        clear HB hb
        go_wp2_with fail
        refine (lex_Next.calls 20000 (some ⟨w2.heap.size + 1, 0, none⟩) _ (Plain.nb X) 0 4 0 0 s (s.size : Int) 0 _ (by have h := C_lay X (w2.alloc (.cells #[.int .i64 M, .int .i64 S] 25)) HS.out; rw [World.size_alloc] at h; exact h) (cap_lay X _) HX.out).mono ?_
        rintro e3 w3 ⟨rfl, hb3⟩
        have BK6 := blk_below (blk_lay X (blk_new w2 (.cells #[.int .i64 M, .int .i64 S] 25))) hb3
        have HB3 := Aside0.mk (below_step (below_lay X (below_alloc HB2.out (.cells #[.int .i64 M, .int .i64 S] 25))) hb3)
        clear HB2 hb3
        go_wp2_with fail
        refine (awake14 _ (Tab.below HT.out (below_alloc HB3.out _))).mono ?_
        rintro e4 w4 ⟨rfl, hb4⟩
        have BK8 := blk_below (blk_new w3 (.cells #[.int .i64 4, .int .i64 0, .int .i64 0, .string s] 27)) hb4
        have BK6 := blk_below (blk_alloc BK6 (.cells #[.int .i64 4, .int .i64 0, .int .i64 0, .string s] 27)) hb4
        have HB4 := Aside0.mk (below_step (below_alloc HB3.out (.cells #[.int .i64 4, .int .i64 0, .int .i64 0, .string s] 27)) hb4)
        clear HB3 hb4
        have x0 : w4.cell? ⟨w3.heap.size, 0, none⟩ = some (.int .i64 4) := (blk_cell BK8 0).trans rfl
        have x1 : w4.cell? ⟨w3.heap.size, 1, none⟩ = some (.int .i64 0) := (blk_cell BK8 1).trans rfl
        have x2 : w4.cell? ⟨w3.heap.size, 2, none⟩ = some (.int .i64 0) := (blk_cell BK8 2).trans rfl
        have x3 : w4.cell? ⟨w3.heap.size, 3, none⟩ = some (.string s) := (blk_cell BK8 3).trans rfl
        have y0 : w4.cell? ⟨w2.heap.size, 0, none⟩ = some (.int .i64 M) := (blk_cell BK6 0).trans rfl
        have y1 : w4.cell? ⟨w2.heap.size, 1, none⟩ = some (.int .i64 S) := (blk_cell BK6 1).trans rfl
        clear BK6 BK8
        go_wp2_with fail
        go_ret
        exact ⟨ea_, by first | exact HB4.out | exact pw_below_drewN HB4.out _⟩
      · rw [if_neg (by decide), if_pos rfl] at hnx
        have HX := Aside0.mk hnx
        clear hnx
        go_wp2_with fail
        refine (dec_Parse.calls 20000 s M S 5 _ HP.out).mono ?_
        rintro e2 w2 ⟨rfl, hb⟩
        have HB2 := Aside0.mk (below_step (by first | exact HB.out | exact pw_below_drewN HB.out _) hb)
        clear HB hb
        go_wp2_with fail
        refine (lex_Next.calls 20000 (some ⟨w2.heap.size + 1, 0, none⟩) _ (Plain.nb X) 0 0 0 0 ⟨#[]⟩ 0 5 _ (by have h := C_lay X (w2.alloc (.cells #[.int .i64 M, .int .i64 S] 25)) HS.out; rw [World.size_alloc] at h; exact h) (cap_lay X _) HX.out).mono ?_
        rintro e3 w3 ⟨rfl, hb3⟩
        have BK6 := blk_below (blk_lay X (blk_new w2 (.cells #[.int .i64 M, .int .i64 S] 25))) hb3
        have HB3 := Aside0.mk (below_step (below_lay X (below_alloc HB2.out (.cells #[.int .i64 M, .int .i64 S] 25))) hb3)
        clear HB2 hb3
        go_wp2_with fail
        refine (awake14 _ (Tab.below HT.out (below_alloc HB3.out _))).mono ?_
        rintro e4 w4 ⟨rfl, hb4⟩
        have BK8 := blk_below (blk_new w3 (.cells #[.int .i64 0, .int .i64 0, .int .i64 0, .string ⟨#[]⟩] 27)) hb4
        have BK6 := blk_below (blk_alloc BK6 (.cells #[.int .i64 0, .int .i64 0, .int .i64 0, .string ⟨#[]⟩] 27)) hb4
        have HB4 := Aside0.mk (below_step (below_alloc HB3.out (.cells #[.int .i64 0, .int .i64 0, .int .i64 0, .string ⟨#[]⟩] 27)) hb4)
        clear HB3 hb4
        have x0 : w4.cell? ⟨w3.heap.size, 0, none⟩ = some (.int .i64 0) := (blk_cell BK8 0).trans rfl
        have x1 : w4.cell? ⟨w3.heap.size, 1, none⟩ = some (.int .i64 0) := (blk_cell BK8 1).trans rfl
        have x2 : w4.cell? ⟨w3.heap.size, 2, none⟩ = some (.int .i64 0) := (blk_cell BK8 2).trans rfl
        have x3 : w4.cell? ⟨w3.heap.size, 3, none⟩ = some (.string ⟨#[]⟩) := (blk_cell BK8 3).trans rfl
        have y0 : w4.cell? ⟨w2.heap.size, 0, none⟩ = some (.int .i64 M) := (blk_cell BK6 0).trans rfl
        have y1 : w4.cell? ⟨w2.heap.size, 1, none⟩ = some (.int .i64 S) := (blk_cell BK6 1).trans rfl
        clear BK6 BK8
        go_wp2_with fail
        go_ret
        exact ⟨ea_, by first | exact HB4.out | exact pw_below_drewN HB4.out _⟩
def erasurelaw14_LexNumbers.f (a0 : ByteArray) : Option Bool := some true
theorem erasurelaw14_LexNumbers.calls (a0 : ByteArray) (r : Bool) (w : World) (hT : Tab w) (h : erasurelaw14_LexNumbers.f a0 = some r) :
    Calls Tryd.prog 7 #[.string a0] w fun e w' => e = .returned (.bool r) ∧ Below w.heap.size w w' := by
  obtain rfl := Option.some.inj h
  by_cases hs : a0.size < 1 ∨ 127 < a0.size
  · exact numbers_out a0 w hT hs
  · exact numbers_in a0 w hT (by omega) (by omega)
end Go.Proofs.YtnhgnejfagncpaaDoor.U
end
section
namespace Go.Proofs.YtnhgnejfagncpaaDoor.Pure
open Go.RowKit
theorem LexNumbers (a0 : ByteArray) : a0.size ≤ 140737488351232 → ∃ k : Nat, U.erasurelaw14_LexNumbers.f a0 = some true := fun _ => ⟨0, rfl⟩
end Go.Proofs.YtnhgnejfagncpaaDoor.Pure
end
section
namespace Go.Proofs.YtnhgnejfagncpaaDoor.Opened
open Go.ChangeShapes Go.WideShapes Go.RowKit Go.Deep
open Go.Proofs.YtnhgnejfagncpaaDoorW.PrintWords
set_option linter.unusedVariables false
section
variable {H : Type} {enc : TypeId × Value → H} {P : Program} {w : World} {base : Nat} {spare : Nat → Bool} {held : Bool}
def Rd {α : Type} (enc : TypeId × Value → H) (P : Program) (w : World) (base : Nat) (spare : Nat → Bool) (held : Bool) (n : Nat) (t : TypeId) (K : Kd α) (Wf : α → Prop) : Prop :=
  ∀ m, m ≤ n → ∀ cs x, DataW.trod enc P w base spare held m t cs = some x → ∃ p, K.K w p cs ∧ Wf p
theorem Rd.mono {α : Type} {n n' : Nat} {t : TypeId} {K : Kd α} {Wf : α → Prop} (h : Rd enc P w base spare held n t K Wf) (hn : n' ≤ n) : Rd enc P w base spare held n' t K Wf := fun m hm => h m (Nat.le_trans hm hn)
theorem Rd.zero {α : Type} {t : TypeId} {K : Kd α} {Wf : α → Prop} : Rd enc P w base spare held 0 t K Wf := fun m hm cs x h => by
  obtain rfl : m = 0 := by omega
  simp [DataW.trod] at h
theorem Rd.all {α : Type} {n : Nat} {t : TypeId} {K : Kd α} {Wf : α → Prop} (h : Rd enc P w base spare held (n + 1) t K Wf) : Rd enc P w base spare held n t K Wf := h.mono (Nat.le_succ _)
end
end Go.Proofs.YtnhgnejfagncpaaDoor.Opened
end
section
namespace Go.Proofs.YtnhgnejfagncpaaDoor.H
open Go.RowKit
theorem pow10_data : (Rows.laid_internal_strconv_uint64pow10 : DataW Unit) = Lib.tabData .u64 Lib.pow10Tab := by kernel_rfl
theorem tab_of_laid {W : World} (h : laidMetH Tryd.prog [("math/bits.deBruijn32tab", Rows.laid_math_bits_deBruijn32tab), ("math/bits.deBruijn64tab", Rows.laid_math_bits_deBruijn64tab), ("internal/strconv.uint64pow10", Rows.laid_internal_strconv_uint64pow10), ("unicode/utf8.acceptRanges", Rows.laid_unicode_utf8_acceptRanges), ("unicode/utf8.first", Rows.laid_unicode_utf8_first)] W) : Tab W := by
  have h1 := laidMetH.filter (fun x => x.1 == "internal/strconv.uint64pow10") h
  have h2 : laidMetH Tryd.prog [("internal/strconv.uint64pow10", Rows.laid_internal_strconv_uint64pow10)] W := h1
  rw [MakeChecks.laidMetH_plain _ _ _ (by kernel_rfl), pow10_data] at h2
  exact Lib.tabIs_of_head (g := 3) (t := 157) (by kernel_rfl) (by kernel_rfl) Tryd.underlying157 Tryd.underlying75 (by kernel_rfl) (by kernel_rfl) h2
end Go.Proofs.YtnhgnejfagncpaaDoor.H
end
