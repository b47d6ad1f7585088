/- What run.parts and run.Put compute, in plain Lean: numbers and lists alone; and that the printed 'run.same' computes 'sm'. -/
import Derived.Test.YtdopkepaandoeaaPsamex1
namespace Go.Proofs.Ytdopkepaandoeaa.Run
open Go.RowKit Go.Proofs.YtdopkepaandoeaaW.PrintWords Go.Proofs.YtdopkepaandoeaaW.PrintLast Go.Proofs.YtdopkepaandoeaaW.PrintMore
open Go.Proofs.Ytdopkepaandoeaa.Psame

/-- From n equal bytes on: how many at most 128 are equal, f more being looked at. -/
def smGo (l : List Int) (a : Nat) : Nat → Nat → Nat
  | 0, n => n
  | f + 1, n => if a + n < l.length ∧ rd l ((a + n : Nat) : Int) = rd l (a : Int) then smGo l a f (n + 1) else n
def sm (l : List Int) (a : Nat) : Nat := smGo l a 127 1
/-- From n single bytes on. -/
def liGo (l : List Int) (a : Nat) : Nat → Nat → Nat
  | 0, n => n
  | f + 1, n => if a + n < l.length ∧ sm l (a + n) = 1 then liGo l a f (n + 1) else n
/-- How long the part at a is. -/
def stp (l : List Int) (a : Nat) : Nat := if 1 < sm l a then sm l a else liGo l a 127 1

theorem smGo_bound (l : List Int) (a : Nat) : ∀ f n, a + n ≤ l.length → n ≤ smGo l a f n ∧ smGo l a f n ≤ n + f ∧ a + smGo l a f n ≤ l.length
  | 0, n, h => ⟨Nat.le_refl _, Nat.le_refl _, h⟩
  | f + 1, n, h => by
    unfold smGo
    split
    · rename_i hc
      obtain ⟨h1, h2, h3⟩ := smGo_bound l a f (n + 1) (by omega)
      exact ⟨by omega, by omega, h3⟩
    · exact ⟨Nat.le_refl _, by omega, h⟩
theorem sm_bound (l : List Int) (a : Nat) (h : a < l.length) : 1 ≤ sm l a ∧ sm l a ≤ 128 ∧ a + sm l a ≤ l.length := by
  obtain ⟨h1, h2, h3⟩ := smGo_bound l a 127 1 (by omega)
  exact ⟨h1, h2, h3⟩
theorem liGo_bound (l : List Int) (a : Nat) : ∀ f n, a + n ≤ l.length → n ≤ liGo l a f n ∧ liGo l a f n ≤ n + f ∧ a + liGo l a f n ≤ l.length
  | 0, n, h => ⟨Nat.le_refl _, Nat.le_refl _, h⟩
  | f + 1, n, h => by
    unfold liGo
    split
    · rename_i hc
      obtain ⟨h1, h2, h3⟩ := liGo_bound l a f (n + 1) (by omega)
      exact ⟨by omega, by omega, h3⟩
    · exact ⟨Nat.le_refl _, by omega, h⟩
theorem stp_bound (l : List Int) (a : Nat) (h : a < l.length) : 1 ≤ stp l a ∧ stp l a ≤ 128 ∧ a + stp l a ≤ l.length := by
  unfold stp
  split
  · exact sm_bound l a h
  · obtain ⟨h1, h2, h3⟩ := liGo_bound l a 127 1 (by omega)
    exact ⟨h1, h2, h3⟩

/-- A part: where it begins, how long it is, and whether it is one byte often. -/
abbrev Part (l : List Int) := { x : Nat × Nat × Bool // x.1 + x.2.1 ≤ l.length ∧ 1 ≤ x.2.1 ∧ x.2.1 ≤ 128 ∧ x.1 < l.length ∧ (x.2.2 = true → 2 ≤ x.2.1) }
def partAt (l : List Int) (a : Nat) (h : a < l.length) : Part l := ⟨(a, stp l a, decide (1 < sm l a)), by
  obtain ⟨h1, h2, h3⟩ := stp_bound l a h
  exact ⟨h3, h1, h2, h, fun hd => by have h4 := of_decide_eq_true hd; have h5 : stp l a = sm l a := if_pos h4; show 2 ≤ stp l a; omega⟩⟩
/-- The parts from a on. -/
def partsFrom (l : List Int) (a : Nat) : List (Part l) :=
  if h : a < l.length then partAt l a h :: partsFrom l (a + stp l a) else []
termination_by l.length - a
decreasing_by
  have := stp_bound l a h
  omega
theorem partsFrom_step (l : List Int) (a : Nat) (h : a < l.length) : partsFrom l a = partAt l a h :: partsFrom l (a + stp l a) := by
  rw [partsFrom, dif_pos h]
theorem partsFrom_end (l : List Int) (a : Nat) (h : ¬ a < l.length) : partsFrom l a = [] := by
  rw [partsFrom, dif_neg h]
theorem partsFrom_length (l : List Int) (a : Nat) : (partsFrom l a).length ≤ l.length - a := by
  by_cases h : a < l.length
  · rw [partsFrom_step l a h]
    have := partsFrom_length l (a + stp l a)
    have := stp_bound l a h
    rw [List.length_cons]
    omega
  · rw [partsFrom_end l a h]
    exact Nat.zero_le _
termination_by l.length - a
decreasing_by
  have := stp_bound l a h
  omega

/-- What is put for a part. -/
def putPart (l : List Int) (x : Part l) : List Int :=
  if x.1.2.2 then [257 - (x.1.2.1 : Int), rd l (x.1.1 : Int)] else ((x.1.2.1 : Int) - 1) :: (l.drop x.1.1).take x.1.2.1
def putAll (l : List Int) (ps : List (Part l)) : List Int := (ps.map (putPart l)).flatten
theorem putAll_snoc (l : List Int) (ps : List (Part l)) (x : Part l) : putAll l (ps ++ [x]) = putAll l ps ++ putPart l x := by simp [putAll]
theorem putPart_length (l : List Int) (x : Part l) : (putPart l x).length ≤ 129 := by
  unfold putPart
  have := x.2
  split <;> simp [List.length_take] <;> omega
theorem putAll_length (l : List Int) (ps : List (Part l)) : (putAll l ps).length ≤ 129 * ps.length := by
  induction ps with
  | nil => simp [putAll]
  | cons x ps ih =>
    have := putPart_length l x
    simp only [putAll, List.map_cons, List.flatten_cons, List.length_append, List.length_cons] at ih ⊢
    omega

/-- run.Put. -/
def run_Put.f (l : List Int) : Option (List Int × Int) := if 1048576 < (l.length : Int) then some ([], 2) else some (putAll l (partsFrom l 0) ++ [128], 0)

theorem wrap_small (i : Int) (h0 : 0 ≤ i) (h1 : i ≤ 281474976710656) : wrap64 i = i := by unfold wrap64; omega

/-- The printed loop of run.same. -/
theorem same_l0 (l : List Int) (hl : l.length ≤ 140737488355328) (a : Nat) (ha : a < l.length) : ∀ (f n k : Nat), n + f = 128 → f < k → 1 ≤ n → run_same.l0 k l (a : Int) (n : Int) = some ((smGo l a f n : Nat) : Int)
  | 0, n, k, hn, hk, h1 => by
    obtain ⟨k, rfl⟩ : ∃ m, k = m + 1 := ⟨k - 1, by omega⟩
    simp only [run_same.l0, smGo]
    rw [if_neg (by omega)]
  | f + 1, n, k, hn, hk, h1 => by
    obtain ⟨k, rfl⟩ : ∃ m, k = m + 1 := ⟨k - 1, by omega⟩
    simp only [run_same.l0]
    rw [if_pos (by omega)]
    have e1 : wrap64 ((a : Int) + (n : Int)) = ((a + n : Nat) : Int) := by rw [wrap_small _ (by omega) (by omega)]; omega
    have e2 : wrap64 ((n : Int) + 1) = ((n + 1 : Nat) : Int) := by rw [wrap_small _ (by omega) (by omega)]; omega
    rw [e1, e2]
    by_cases hlt : a + n < l.length
    · rw [if_pos (by omega), if_pos (by omega), if_pos (by omega), if_pos (by omega)]
      by_cases he : rd l ((a + n : Nat) : Int) = rd l (a : Int)
      · rw [if_pos he, same_l0 l hl a ha f (n + 1) k (by omega) (by omega) (by omega), smGo, if_pos ⟨hlt, he⟩]
      · rw [if_neg he, smGo, if_neg (fun h => he h.2)]
    · rw [if_neg (by omega), smGo, if_neg (fun h => hlt h.1)]
theorem same_f (l : List Int) (hl : l.length ≤ 140737488355328) (a : Nat) (ha : a < l.length) : run_same.f 128 l (a : Int) = some ((sm l a : Nat) : Int) := by
  unfold run_same.f
  exact same_l0 l hl a ha 127 1 128 (by omega) (by omega) (by omega)

end Go.Proofs.Ytdopkepaandoeaa.Run
