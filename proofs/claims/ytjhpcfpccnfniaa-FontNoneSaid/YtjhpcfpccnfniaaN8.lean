/- FontNone: of no codes nothing is kept; of all its glyphs' codes all of them; a font that is not right is refused by each. -/
import Derived.Test.YtjhpcfpccnfniaaN9
namespace Go.Proofs.Ytjhpcfpccnfniaa.N
open Go.RowKit Go.Proofs.Ytjhpcfpccnfniaa.A Go.Proofs.Ytjhpcfpccnfniaa.F Go.Proofs.YtjhpcfpccnfniaaW.PrintWords Go.Proofs.YtjhpcfpccnfniaaW.PrintLast Go.Proofs.Ytjhpcfpccnfniaa.Plain
set_option linter.unusedVariables false

theorem inTop_top (w : Bool) (c : Int) : inTop w c = (decide (0 ≤ c) && decide (c ≤ top w)) := rfl
theorem ixOf_any' (l : List S37) (c : Int) : decide (0 ≤ ixOf (fun x : S37 => x.f0 == c) l 0) = l.any (fun x => x.f0 == c) := ixOf_any _ l 0
/-- Two rows that rise and hold the same are one. -/
theorem rise_ext : ∀ (a b : List S37), Rise a → Rise b → (∀ x, x ∈ a ↔ x ∈ b) → a = b
  | [], [], _, _, _ => rfl
  | [], y :: b, _, _, h => absurd ((h y).2 List.mem_cons_self) (List.not_mem_nil)
  | x :: a, [], _, _, h => absurd ((h x).1 List.mem_cons_self) (List.not_mem_nil)
  | x :: a, y :: b, ha, hb, h => by
    have ha' := List.pairwise_cons.1 ha
    have hb' := List.pairwise_cons.1 hb
    have hxy : x = y := by
      rcases List.mem_cons.1 ((h x).1 List.mem_cons_self) with e | e
      · exact e
      · rcases List.mem_cons.1 ((h y).2 List.mem_cons_self) with e2 | e2
        · exact e2.symm
        · have h1 := hb'.1 x e
          have h2 := ha'.1 y e2
          omega
    subst hxy
    congr 1
    refine rise_ext a b ha'.2 hb'.2 fun z => ⟨fun hz => ?_, fun hz => ?_⟩
    · rcases List.mem_cons.1 ((h z).1 (List.mem_cons_of_mem _ hz)) with e | e
      · have := ha'.1 z hz
        rw [e] at this
        omega
      · exact e
    · rcases List.mem_cons.1 ((h z).2 (List.mem_cons_of_mem _ hz)) with e | e
      · have := hb'.1 z hz
        rw [e] at this
        omega
      · exact e
theorem mem_insG (out : List S37) (g x : S37) : x ∈ insG out g ↔ x = g ∨ x ∈ out := by
  unfold insG
  have h := List.takeWhile_append_dropWhile (p := fun x : S37 => decide (x.f0 < g.f0)) (l := out)
  constructor
  · intro hx
    rcases List.mem_append.1 hx with hx | hx
    · exact .inr (by rw [← h]; exact List.mem_append_left _ hx)
    · rcases List.mem_append.1 hx with hx | hx
      · exact .inl (List.mem_singleton.1 hx)
      · exact .inr (by rw [← h]; exact List.mem_append_right _ hx)
  · rintro (rfl | hx)
    · exact List.mem_append_right _ (List.mem_append_left _ (List.mem_singleton.2 rfl))
    · rw [← h] at hx
      rcases List.mem_append.1 hx with hx | hx
      · exact List.mem_append_left _ hx
      · exact List.mem_append_right _ (List.mem_append_right _ hx)
/-- What a glyph among what is cut is. -/
def Is (w : Bool) (l : List S37) (o : Int) (x : S37) : Prop := tells w l o x.f0 = true ∧ x = glyphOf l o x.f0
theorem mem_cutStep (w : Bool) (l : List S37) (o : Int) (out : List S37) (c : Int) (hout : ∀ x ∈ out, Is w l o x) (x : S37) : x ∈ cutStep w l o out c ↔ x ∈ out ∨ (x.f0 = c ∧ Is w l o x) := by
  unfold cutStep
  by_cases ht : tells w l o c = true
  · rw [if_pos ht]
    by_cases ha : out.any (fun x => x.f0 == c) = true
    · rw [if_pos ha]
      refine ⟨.inl, fun h => h.elim id fun ⟨e, hi⟩ => ?_⟩
      obtain ⟨y, hy, hyc⟩ := List.any_eq_true.1 ha
      have hyc' : y.f0 = c := beq_iff_eq.1 hyc
      have h1 := (hout y hy).2
      rw [hyc'] at h1
      have h2 := hi.2
      rw [e] at h2
      rw [h2, ← h1]
      exact hy
    · rw [if_neg ha, mem_insG]
      constructor
      · rintro (e | h)
        · have hc : x.f0 = c := by rw [e, glyphOf_code]
          exact .inr ⟨hc, by unfold Is; rw [hc]; exact ⟨ht, e⟩⟩
        · exact .inl h
      · rintro (h | ⟨e, hi⟩)
        · exact .inr h
        · have h2 := hi.2
          rw [e] at h2
          exact .inl h2
  · rw [if_neg ht]
    refine ⟨.inl, fun h => h.elim id fun ⟨e, hi⟩ => ?_⟩
    have h1 := hi.1
    rw [e] at h1
    exact absurd h1 ht
theorem mem_fold (w : Bool) (l : List S37) (o : Int) : ∀ (keep : List Int) (out : List S37), (∀ x ∈ out, Is w l o x) → ∀ x, x ∈ keep.foldl (cutStep w l o) out ↔ x ∈ out ∨ (x.f0 ∈ keep ∧ Is w l o x)
  | [], out, _, x => by simp
  | c :: t, out, hout, x => by
    have h1 := mem_cutStep w l o out c hout
    rw [List.foldl_cons, mem_fold w l o t _ (fun y hy => ((h1 y).1 hy).elim (hout y) (fun h => h.2)) x, h1 x, List.mem_cons]
    constructor
    · rintro ((h | h) | h)
      · exact .inl h
      · exact .inr ⟨.inl h.1, h.2⟩
      · exact .inr ⟨.inr h.1, h.2⟩
    · rintro (h | ⟨h | h, hi⟩)
      · exact .inl (.inl h)
      · exact .inl (.inr ⟨h, hi⟩)
      · exact .inr ⟨h, hi⟩
theorem mem_cutL (w : Bool) (l : List S37) (o : Int) (keep : List Int) (x : S37) : x ∈ cutL w l o keep ↔ x.f0 ∈ keep ∧ Is w l o x := by
  unfold cutL
  rw [mem_fold w l o keep [] (fun x hx => absurd hx (List.not_mem_nil)) x]
  simp
theorem cutL_rises (w : Bool) (l : List S37) (o : Int) (keep : List Int) : Rise (cutL w l o keep) := cutL_rise w l o keep [] List.Pairwise.nil
theorem cutL_order (w : Bool) (l : List S37) (o : Int) (a b : List Int) (h : ∀ c, c ∈ a ↔ c ∈ b) : cutL w l o a = cutL w l o b :=
  rise_ext _ _ (cutL_rises w l o a) (cutL_rises w l o b) fun x => by rw [mem_cutL, mem_cutL, h]

/-- The first glyph of a code. -/
theorem glyphOf_mem (l : List S37) (o c : Int) (h : 0 ≤ ixOf (fun x : S37 => x.f0 == c) l 0) : glyphOf l o c ∈ l := by
  unfold glyphOf
  rw [if_pos h]
  obtain ⟨h1, h2, _⟩ := ixOf_at (fun x : S37 => x.f0 == c) z37 l 0 h
  have hl : (ixOf (fun x : S37 => x.f0 == c) l 0).toNat < l.length := by omega
  have : rd_T37 l (ixOf (fun x : S37 => x.f0 == c) l 0) = l[(ixOf (fun x : S37 => x.f0 == c) l 0).toNat] := by
    unfold rd_T37
    rw [List.getD_eq_getElem?_getD, List.getElem?_eq_getElem hl]
    rfl
  rw [this]
  exact List.getElem_mem hl
theorem rise_inj (l : List S37) (h : Rise l) (a b : S37) (ha : a ∈ l) (hb : b ∈ l) (e : a.f0 = b.f0) : a = b := by
  obtain ⟨i, hi, rfl⟩ := List.getElem_of_mem ha
  obtain ⟨j, hj, rfl⟩ := List.getElem_of_mem hb
  rcases Nat.lt_trichotomy i j with hij | hij | hij
  · have := List.pairwise_iff_getElem.1 h i j hi hj hij
    omega
  · subst hij; rfl
  · have := List.pairwise_iff_getElem.1 h j i hj hi hij
    omega
theorem has_ix (l : List S37) (c : Int) (x : S37) (hx : x ∈ l) (e : x.f0 = c) : 0 ≤ ixOf (fun x : S37 => x.f0 == c) l 0 := by
  have h := ixOf_any' l c
  have h3 : l.any (fun x => x.f0 == c) = true := List.any_eq_true.2 ⟨x, hx, beq_iff_eq.2 e⟩
  rw [h3] at h
  exact of_decide_eq_true h
theorem ix_has (l : List S37) (c : Int) (h : 0 ≤ ixOf (fun x : S37 => x.f0 == c) l 0) : ∃ x ∈ l, x.f0 = c := by
  have h2 := ixOf_any' l c
  rw [decide_eq_true h] at h2
  obtain ⟨x, hx, e⟩ := List.any_eq_true.1 h2.symm
  exact ⟨x, hx, beq_iff_eq.1 e⟩

theorem rise_right (w : Bool) (l : List S37) (o : Int) (hR : Right w l o) : Rise l := by
  unfold Rise
  rw [List.pairwise_iff_getElem]
  have key : ∀ (d i : Nat) (hi : i < l.length) (hj : i + d + 1 < l.length), l[i].f0 < l[i + d + 1].f0 := by
    intro d
    induction d with
    | zero =>
      intro i hi hj
      have := (hR.1 (i + 1) (Nat.zero_le _) hj).2 (by omega)
      rw [Nat.add_sub_cancel, List.getD_eq_getElem?_getD, List.getD_eq_getElem?_getD, List.getElem?_eq_getElem hi, List.getElem?_eq_getElem (show i + 1 < l.length by omega)] at this
      exact this
    | succ d ih =>
      intro i hi hj
      have h1 := ih i hi (by omega)
      have := (hR.1 (i + d + 2) (Nat.zero_le _) hj).2 (by omega)
      rw [show i + d + 2 - 1 = i + d + 1 by omega, List.getD_eq_getElem?_getD, List.getD_eq_getElem?_getD, List.getElem?_eq_getElem (show i + d + 1 < l.length by omega), List.getElem?_eq_getElem (show i + d + 2 < l.length by omega)] at this
      have h2 : l[i + d + 1].f0 < l[i + d + 2].f0 := this
      exact Int.lt_trans h1 h2
  intro i j hi hj hij
  have h := key (j - i - 1) i hi (by omega)
  have e : i + (j - i - 1) + 1 = j := by omega
  simp only [e] at h
  exact h
theorem mem_codes (l : List S37) (c : Int) : c ∈ codes l ↔ ∃ x ∈ l, x.f0 = c := List.mem_map
theorem cutL_all (w : Bool) (l : List S37) (o : Int) (hR : Right w l o) : cutL w l o (codes l) = l := by
  have hrise := rise_right w l o hR
  refine rise_ext _ _ (cutL_rises _ _ _ _) hrise fun x => ?_
  rw [mem_cutL]
  constructor
  · rintro ⟨hc, _, hx⟩
    obtain ⟨y, hy, e⟩ := (mem_codes l x.f0).1 hc
    rw [hx]
    exact glyphOf_mem l o x.f0 (has_ix l x.f0 y hy e)
  · intro hx
    have hix := has_ix l x.f0 x hx rfl
    have hg : x = glyphOf l o x.f0 := rise_inj l hrise _ _ hx (glyphOf_mem l o x.f0 hix) (by rw [glyphOf_code])
    obtain ⟨i, hi, e⟩ := List.getElem_of_mem hx
    have hok := (hR.1 i (Nat.zero_le _) hi).1
    rw [List.getD_eq_getElem?_getD, List.getElem?_eq_getElem hi, Option.getD_some, e] at hok
    exact ⟨(mem_codes l x.f0).2 ⟨x, hx, rfl⟩, tells_of w l o x.f0 (by rw [inTop_top, decide_eq_true hok.c0, decide_eq_true hok.c1]; rfl) (.inl hix), hg⟩

def erasurelaw19_FontNone.f (k : Nat) (a0_0 : Bool) (l0_1 : List S37) (a0_2 : Int) : Option Bool := some true
open Classical in
theorem erasurelaw19_FontNone.calls (k : Nat) (a0_0 : Bool) (A0_1 : Option Addr) (c0_1 : Nat) (l0_1 : List (S37)) (a0_2 : Int) (r : Bool) (w : World) (hr0_1 : Kd.C k37 w A0_1 l0_1.length l0_1) (hc0_1 : l0_1.length ≤ c0_1) (h : erasurelaw19_FontNone.f k a0_0 l0_1 a0_2 = some r) :
    Calls Try.prog 7 #[.agg #[.bool a0_0, .slice A0_1 l0_1.length c0_1, .int .i64 a0_2]] w fun e w' => e = .returned (.bool r) ∧ Below w.heap.size w w' := by
  obtain rfl : true = r := Option.some.inj h
  by_cases hl : l0_1.length ≤ 150
  · have hcl : (codes l0_1).length ≤ 1000000 := by unfold codes; rw [List.length_map]; omega
    have hck := check_f a0_0 l0_1 a0_2 (by omega) 1000 (by omega)
    have hcut : ∀ keep : List Int, keep.length ≤ 1000000 → font_Cut.f 1000 a0_0 l0_1 a0_2 keep = (font_Check.f 1000 a0_0 l0_1 a0_2).bind fun t => if t = 0 then some (a0_0, cutL a0_0 l0_1 a0_2 keep, 0, 0) else some (false, [], 0, t) := fun keep hk => by
      unfold font_Cut.f
      rw [if_pos hk]
    by_cases hR : Right a0_0 l0_1 a0_2
    · rw [if_pos hR] at hck
      refine none_walk 1000 a0_0 A0_1 c0_1 l0_1 a0_2 w hl hr0_1 hc0_1 a0_0 l0_1 0 ?_ ?_ hck (.inr ⟨rfl, rfl, rfl⟩)
      · rw [hcut [] (by simp), hck, Option.bind_some, if_pos rfl]
        rfl
      · rw [hcut _ hcl, hck, Option.bind_some, if_pos rfl, cutL_all a0_0 l0_1 a0_2 hR]
    · rw [if_neg hR] at hck
      refine none_walk 1000 a0_0 A0_1 c0_1 l0_1 a0_2 w hl hr0_1 hc0_1 false [] 1 ?_ ?_ hck (.inl ⟨rfl, ?_, ?_⟩)
      · rw [hcut [] (by simp), hck, Option.bind_some, if_neg (by decide)]
      · rw [hcut _ hcl, hck, Option.bind_some, if_neg (by decide)]
      · rw [codes_f a0_0 l0_1 a0_2 ⟨#[]⟩ (by omega) (by decide) 1000 (by omega), if_neg hR]
      · rw [bytes_f a0_0 l0_1 a0_2 [] (by omega) (by decide) 1000 (by omega), if_neg (fun e => hR e.1)]
  · exact none_big a0_0 A0_1 c0_1 l0_1 a0_2 w (by omega)
end Go.Proofs.Ytjhpcfpccnfniaa.N
