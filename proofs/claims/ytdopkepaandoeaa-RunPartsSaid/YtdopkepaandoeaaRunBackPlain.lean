/- What was put is got, whatever stands behind; without its end it is refused. -/
import Derived.Test.YtdopkepaandoeaaRunPutPlain
namespace Go.Proofs.Ytdopkepaandoeaa.Run
open Go.RowKit Go.Proofs.YtdopkepaandoeaaW.PrintWords Go.Proofs.YtdopkepaandoeaaW.PrintLast Go.Proofs.YtdopkepaandoeaaW.PrintMore
set_option linter.unusedVariables false
set_option linter.unusedSimpArgs false

theorem smGo_same (l : List Int) (a : Nat) : ∀ f n, (∀ j, j < n → rd l ((a + j : Nat) : Int) = rd l (a : Int)) → ∀ j, j < smGo l a f n → rd l ((a + j : Nat) : Int) = rd l (a : Int)
  | 0, n, h => h
  | f + 1, n, h => by
    unfold smGo
    split
    · rename_i hc
      refine smGo_same l a f (n + 1) fun j hj => ?_
      by_cases hjn : j = n
      · subst hjn; exact hc.2
      · exact h j (by omega)
    · exact h
theorem sm_same (l : List Int) (a : Nat) : ∀ j, j < sm l a → rd l ((a + j : Nat) : Int) = rd l (a : Int) :=
  smGo_same l a 127 1 fun j hj => by
    have : j = 0 := by omega
    subst this; rfl

/-- The bytes of a part. -/
theorem part_often (l : List Int) (a n : Nat) (h : a + n ≤ l.length) (hs : ∀ j, j < n → rd l ((a + j : Nat) : Int) = rd l (a : Int)) : List.replicate n (rd l (a : Int)) = (l.drop a).take n := by
  apply List.ext_getElem
  · rw [List.length_replicate, List.length_take, List.length_drop]; omega
  · intro j h1 h2
    rw [List.length_replicate] at h1
    have hx := hs j h1
    rw [List.getElem_replicate, List.getElem_take, List.getElem_drop, ← hx]
    simp only [rd, Int.toNat_natCast, List.getD_eq_getElem?_getD]
    rw [List.getElem?_eq_getElem (by omega)]
    rfl

/-- One part, read. -/
theorem dec_part (l : List Int) (a : Nat) (h : a < l.length) (t : List Int) (m : Int) (out : List Int) :
    dec (putPart l (partAt l a h) ++ t) m out = if m < ((out.length + stp l a : Nat) : Int) then ([], 2) else dec t m (out ++ (l.drop a).take (stp l a)) := by
  have hst := stp_bound l a h
  have hsb := sm_bound l a h
  have hlen : ((l.drop a).take (stp l a)).length = stp l a := by rw [List.length_take, List.length_drop]; omega
  by_cases hs : 1 < sm l a
  · obtain ⟨hp, hq⟩ := put_often l a h hs
    have hrep := part_often l a (sm l a) hsb.2.2 (sm_same l a)
    rw [hp, hq, ← hrep]
    show dec ((257 - (sm l a : Int)) :: rd l (a : Int) :: t) m out = _
    rw [dec, if_neg (by omega), if_neg (by omega), if_neg (by rw [List.length_cons]; omega)]
    by_cases hm : m < ((out.length + sm l a : Nat) : Int)
    · rw [if_pos hm, if_pos (by omega)]
    · rw [if_neg hm, if_neg (by omega)]
      have e : (257 - (257 - (sm l a : Int))).toNat = sm l a := by omega
      rw [e]
      rfl
  · obtain ⟨hp, hq⟩ := put_row l a h hs
    rw [hp]
    show dec (((stp l a : Int) - 1) :: ((l.drop a).take (stp l a) ++ t)) m out = _
    have hl2 : ((l.drop a).take (stp l a) ++ t).length = stp l a + t.length := by rw [List.length_append, hlen]
    rw [dec, if_neg (by omega), if_pos (by omega), if_neg (by rw [hl2]; omega)]
    by_cases hm : m < ((out.length + stp l a : Nat) : Int)
    · rw [if_pos hm, if_pos (by omega)]
    · rw [if_neg hm, if_neg (by omega)]
      have e : ((stp l a : Int) - 1 + 1).toNat = stp l a := by omega
      rw [e, List.drop_append_of_le_length (by omega), List.take_append_of_le_length (by omega), List.drop_of_length_le (by omega), List.take_of_length_le (by omega), List.nil_append]

theorem take_step (l : List Int) (a n : Nat) : l.take a ++ (l.drop a).take n = l.take (a + n) := by
  rw [List.take_add]

/-- All of it. -/
theorem dec_all (l : List Int) (m : Int) (t : List Int) : ∀ (N a : Nat), l.length ≤ a + N → a ≤ l.length → (a : Int) ≤ m →
    dec (putAll l (partsFrom l a) ++ t) m (l.take a) = if m < (l.length : Int) then ([], 2) else dec t m l := by
  intro N
  induction N with
  | zero =>
    intro a hN ha hm
    rw [partsFrom_end l a (by omega), if_neg (by omega), List.take_of_length_le (by omega)]
    rfl
  | succ N ih =>
    intro a hN ha hm
    by_cases he : a < l.length
    · have hst := stp_bound l a he
      have hcons : putAll l (partAt l a he :: partsFrom l (a + stp l a)) ++ t = putPart l (partAt l a he) ++ (putAll l (partsFrom l (a + stp l a)) ++ t) := by simp [putAll]
      rw [partsFrom_step l a he, hcons, dec_part, take_step]
      have hlt : (l.take a).length = a := by rw [List.length_take]; omega
      rw [hlt]
      by_cases hm2 : m < ((a + stp l a : Nat) : Int)
      · rw [if_pos hm2, if_pos (by omega)]
      · rw [if_neg hm2, ih (a + stp l a) (by omega) (by omega) (by omega)]
    · rw [partsFrom_end l a he, if_neg (by omega), List.take_of_length_le (by omega)]
      rfl

theorem dec_put (l : List Int) (m : Int) (hm : 0 ≤ m) (t : List Int) : dec (putAll l (partsFrom l 0) ++ t) m [] = if m < (l.length : Int) then ([], 2) else dec t m l :=
  dec_all l m t l.length 0 (by omega) (by omega) hm

theorem dec_end (t : List Int) (m : Int) (out : List Int) : dec (128 :: t) m out = (out, 0) := by rw [dec, if_pos rfl]
theorem dec_nil (m : Int) (out : List Int) : dec [] m out = ([], 6) := by rw [dec]

/-- How long what is put is. -/
theorem putPart_le (l : List Int) (a : Nat) (h : a < l.length) : (putPart l (partAt l a h)).length ≤ 2 * stp l a := by
  have hst := stp_bound l a h
  have hsb := sm_bound l a h
  by_cases hs : 1 < sm l a
  · obtain ⟨hp, hq⟩ := put_often l a h hs
    rw [hp, hq]
    show 2 ≤ _
    omega
  · obtain ⟨hp, hq⟩ := put_row l a h hs
    rw [hp, List.length_cons, List.length_take, List.length_drop]
    omega
theorem putAll_le (l : List Int) : ∀ (N a : Nat), l.length ≤ a + N → (putAll l (partsFrom l a)).length ≤ 2 * (l.length - a) := by
  intro N
  induction N with
  | zero =>
    intro a hN
    rw [partsFrom_end l a (by omega)]
    exact Nat.zero_le _
  | succ N ih =>
    intro a hN
    by_cases he : a < l.length
    · have hst := stp_bound l a he
      have hcons : putAll l (partAt l a he :: partsFrom l (a + stp l a)) = putPart l (partAt l a he) ++ putAll l (partsFrom l (a + stp l a)) := by simp [putAll]
      have h1 := putPart_le l a he
      have h2 := ih (a + stp l a) (by omega)
      rw [partsFrom_step l a he, hcons, List.length_append]
      omega
    · rw [partsFrom_end l a he]
      exact Nat.zero_le _

theorem rd_byte (l : List Int) (hb : Byte l) (i : Int) : 0 ≤ rd l i ∧ rd l i ≤ 255 := by
  unfold rd
  rw [List.getD_eq_getElem?_getD]
  rcases hx : l[i.toNat]? with _ | y
  · exact ⟨by decide, by decide⟩
  · exact hb y (List.mem_of_getElem? hx)
theorem putPart_byte (l : List Int) (hb : Byte l) (x : Part l) : Byte (putPart l x) := by
  intro y hy
  have hx := x.2
  unfold putPart at hy
  split at hy
  · rename_i hc
    have := hx.2.2.2.2 hc
    simp only [List.mem_cons, List.not_mem_nil, or_false] at hy
    rcases hy with rfl | rfl
    · omega
    · exact rd_byte l hb _
  · simp only [List.mem_cons] at hy
    rcases hy with rfl | hy
    · omega
    · exact hb y (List.mem_of_mem_drop (List.mem_of_mem_take hy))
theorem putAll_byte (l : List Int) (hb : Byte l) (ps : List (Part l)) : Byte (putAll l ps) := by
  intro y hy
  simp only [putAll, List.mem_flatten, List.mem_map] at hy
  obtain ⟨_, ⟨x, _, rfl⟩, hy⟩ := hy
  exact putPart_byte l hb x y hy
theorem Byte.app {a b : List Int} (ha : Byte a) (hb : Byte b) : Byte (a ++ b) := fun x hx => (List.mem_append.mp hx).elim (ha x) (hb x)
theorem Byte.one {x : Int} (h : 0 ≤ x ∧ x ≤ 255) : Byte [x] := fun y hy => by
  rw [List.mem_singleton] at hy
  subst hy
  exact h
theorem Byte.none : Byte [] := fun y hy => absurd hy (List.not_mem_nil)
end Go.Proofs.Ytdopkepaandoeaa.Run
