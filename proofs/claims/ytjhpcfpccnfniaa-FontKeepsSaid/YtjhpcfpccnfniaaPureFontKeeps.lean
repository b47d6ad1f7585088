/- FontKeeps: what is cut tells of codes that are kept what it told, and nothing of others; cut twice it is cut once; the order of codes turns nothing. -/
import Derived.Test.YtjhpcfpccnfniaaPlainSame
import Derived.Test.YtjhpcfpccnfniaaC5
namespace Go.Proofs.Ytjhpcfpccnfniaa.Pure
open Go.RowKit Go.Proofs.Ytjhpcfpccnfniaa.A Go.Proofs.Ytjhpcfpccnfniaa.C Go.Proofs.Ytjhpcfpccnfniaa.F Go.Proofs.YtjhpcfpccnfniaaW.PrintWords Go.Proofs.YtjhpcfpccnfniaaW.PrintLast Go.Proofs.Ytjhpcfpccnfniaa.Plain
set_option linter.unusedVariables false
theorem rise_ext : ∀ (a b : List S37), Rise a → Rise b → (∀ x, x ∈ a ↔ x ∈ b) → a = b
  | [], [], _, _, _ => rfl
  | [], y :: b, _, _, h => absurd ((h y).2 List.mem_cons_self) (List.not_mem_nil)
  | x :: a, [], _, _, h => absurd ((h x).1 List.mem_cons_self) (List.not_mem_nil)
  | x :: a, y :: b, ha, hb, h => by
    have ha' := List.pairwise_cons.1 ha
    have hb' := List.pairwise_cons.1 hb
    have hxy : x = y := by
      rcases List.mem_cons.1 ((h x).1 List.mem_cons_self) with e | e
      · exact e
      · rcases List.mem_cons.1 ((h y).2 List.mem_cons_self) with e2 | e2
        · exact e2.symm
        · have h1 := hb'.1 x e
          have h2 := ha'.1 y e2
          omega
    subst hxy
    congr 1
    refine rise_ext a b ha'.2 hb'.2 fun z => ⟨fun hz => ?_, fun hz => ?_⟩
    · rcases List.mem_cons.1 ((h z).1 (List.mem_cons_of_mem _ hz)) with e | e
      · have := ha'.1 z hz
        rw [e] at this
        omega
      · exact e
    · rcases List.mem_cons.1 ((h z).2 (List.mem_cons_of_mem _ hz)) with e | e
      · have := hb'.1 z hz
        rw [e] at this
        omega
      · exact e
theorem mem_insG (out : List S37) (g x : S37) : x ∈ insG out g ↔ x = g ∨ x ∈ out := by
  unfold insG
  have h := List.takeWhile_append_dropWhile (p := fun x : S37 => decide (x.f0 < g.f0)) (l := out)
  constructor
  · intro hx
    rcases List.mem_append.1 hx with hx | hx
    · exact .inr (by rw [← h]; exact List.mem_append_left _ hx)
    · rcases List.mem_append.1 hx with hx | hx
      · exact .inl (List.mem_singleton.1 hx)
      · exact .inr (by rw [← h]; exact List.mem_append_right _ hx)
  · rintro (rfl | hx)
    · exact List.mem_append_right _ (List.mem_append_left _ (List.mem_singleton.2 rfl))
    · rw [← h] at hx
      rcases List.mem_append.1 hx with hx | hx
      · exact List.mem_append_left _ hx
      · exact List.mem_append_right _ (List.mem_append_right _ hx)
def Is (w : Bool) (l : List S37) (o : Int) (x : S37) : Prop := tells w l o x.f0 = true ∧ x = glyphOf l o x.f0
theorem mem_cutStep (w : Bool) (l : List S37) (o : Int) (out : List S37) (c : Int) (hout : ∀ x ∈ out, Is w l o x) (x : S37) : x ∈ cutStep w l o out c ↔ x ∈ out ∨ (x.f0 = c ∧ Is w l o x) := by
  unfold cutStep
  by_cases ht : tells w l o c = true
  · rw [if_pos ht]
    by_cases ha : out.any (fun x => x.f0 == c) = true
    · rw [if_pos ha]
      refine ⟨.inl, fun h => h.elim id fun ⟨e, hi⟩ => ?_⟩
      obtain ⟨y, hy, hyc⟩ := List.any_eq_true.1 ha
      have hyc' : y.f0 = c := beq_iff_eq.1 hyc
      have h1 := (hout y hy).2
      rw [hyc'] at h1
      have h2 := hi.2
      rw [e] at h2
      rw [h2, ← h1]
      exact hy
    · rw [if_neg ha, mem_insG]
      constructor
      · rintro (e | h)
        · have hc : x.f0 = c := by rw [e, glyphOf_code]
          exact .inr ⟨hc, by unfold Is; rw [hc]; exact ⟨ht, e⟩⟩
        · exact .inl h
      · rintro (h | ⟨e, hi⟩)
        · exact .inr h
        · have h2 := hi.2
          rw [e] at h2
          exact .inl h2
  · rw [if_neg ht]
    refine ⟨.inl, fun h => h.elim id fun ⟨e, hi⟩ => ?_⟩
    have h1 := hi.1
    rw [e] at h1
    exact absurd h1 ht
theorem mem_fold (w : Bool) (l : List S37) (o : Int) : ∀ (keep : List Int) (out : List S37), (∀ x ∈ out, Is w l o x) → ∀ x, x ∈ keep.foldl (cutStep w l o) out ↔ x ∈ out ∨ (x.f0 ∈ keep ∧ Is w l o x)
  | [], out, _, x => by simp
  | c :: t, out, hout, x => by
    have h1 := mem_cutStep w l o out c hout
    rw [List.foldl_cons, mem_fold w l o t _ (fun y hy => ((h1 y).1 hy).elim (hout y) (fun h => h.2)) x, h1 x, List.mem_cons]
    constructor
    · rintro ((h | h) | h)
      · exact .inl h
      · exact .inr ⟨.inl h.1, h.2⟩
      · exact .inr ⟨.inr h.1, h.2⟩
    · rintro (h | ⟨h | h, hi⟩)
      · exact .inl (.inl h)
      · exact .inl (.inr ⟨h, hi⟩)
      · exact .inr ⟨h, hi⟩
theorem mem_cutL (w : Bool) (l : List S37) (o : Int) (keep : List Int) (x : S37) : x ∈ cutL w l o keep ↔ x.f0 ∈ keep ∧ Is w l o x := by
  unfold cutL
  rw [mem_fold w l o keep [] (fun x hx => absurd hx (List.not_mem_nil)) x]
  simp
theorem cutL_rises (w : Bool) (l : List S37) (o : Int) (keep : List Int) : Rise (cutL w l o keep) := cutL_rise w l o keep [] List.Pairwise.nil
theorem cutL_order (w : Bool) (l : List S37) (o : Int) (a b : List Int) (h : ∀ c, c ∈ a ↔ c ∈ b) : cutL w l o a = cutL w l o b :=
  rise_ext _ _ (cutL_rises w l o a) (cutL_rises w l o b) fun x => by rw [mem_cutL, mem_cutL, h]
theorem glyphOf_mem (l : List S37) (o c : Int) (h : 0 ≤ ixOf (fun x : S37 => x.f0 == c) l 0) : glyphOf l o c ∈ l := by
  unfold glyphOf
  rw [if_pos h]
  obtain ⟨h1, h2, _⟩ := ixOf_at (fun x : S37 => x.f0 == c) z37 l 0 h
  have hl : (ixOf (fun x : S37 => x.f0 == c) l 0).toNat < l.length := by omega
  have : rd_T37 l (ixOf (fun x : S37 => x.f0 == c) l 0) = l[(ixOf (fun x : S37 => x.f0 == c) l 0).toNat] := by
    unfold rd_T37
    rw [List.getD_eq_getElem?_getD, List.getElem?_eq_getElem hl]
    rfl
  rw [this]
  exact List.getElem_mem hl
theorem rise_inj (l : List S37) (h : Rise l) (a b : S37) (ha : a ∈ l) (hb : b ∈ l) (e : a.f0 = b.f0) : a = b := by
  obtain ⟨i, hi, rfl⟩ := List.getElem_of_mem ha
  obtain ⟨j, hj, rfl⟩ := List.getElem_of_mem hb
  rcases Nat.lt_trichotomy i j with hij | hij | hij
  · have := List.pairwise_iff_getElem.1 h i j hi hj hij
    omega
  · subst hij; rfl
  · have := List.pairwise_iff_getElem.1 h j i hj hi hij
    omega
theorem has_ix (l : List S37) (c : Int) (x : S37) (hx : x ∈ l) (e : x.f0 = c) : 0 ≤ ixOf (fun x : S37 => x.f0 == c) l 0 := by
  have h := ixOf_any' l c
  have h3 : l.any (fun x => x.f0 == c) = true := List.any_eq_true.2 ⟨x, hx, beq_iff_eq.2 e⟩
  rw [h3] at h
  exact of_decide_eq_true h
theorem ix_has (l : List S37) (c : Int) (h : 0 ≤ ixOf (fun x : S37 => x.f0 == c) l 0) : ∃ x ∈ l, x.f0 = c := by
  have h2 := ixOf_any' l c
  rw [decide_eq_true h] at h2
  obtain ⟨x, hx, e⟩ := List.any_eq_true.1 h2.symm
  exact ⟨x, hx, beq_iff_eq.1 e⟩
theorem glyph_cut (w : Bool) (l : List S37) (o : Int) (keep : List Int) (c : Int) (hc : c ∈ keep) (ht : tells w l o c = true) (o' : Int) : glyphOf (cutL w l o keep) o' c = glyphOf l o c := by
  have hm : glyphOf l o c ∈ cutL w l o keep := (mem_cutL w l o keep _).2 ⟨by rw [glyphOf_code]; exact hc, by unfold Is; rw [glyphOf_code]; exact ⟨ht, rfl⟩⟩
  have hix := has_ix _ c _ hm (glyphOf_code l o c)
  exact rise_inj _ (cutL_rises w l o keep) _ _ (glyphOf_mem _ o' c hix) hm (by rw [glyphOf_code, glyphOf_code])
theorem glyph_none (l : List S37) (o c : Int) (h : ¬ ∃ x ∈ l, x.f0 = c) : glyphOf l o c = ⟨c, o, ⟨#[]⟩⟩ := by
  unfold glyphOf
  rw [if_neg (fun e => h (ix_has l c e))]
theorem tells_cut (w : Bool) (l : List S37) (o : Int) (keep : List Int) (c : Int) : tells w (cutL w l o keep) 0 c = true ↔ c ∈ keep ∧ tells w l o c = true := by
  constructor
  · intro h
    unfold tells at h
    rw [Bool.and_eq_true, Bool.or_eq_true] at h
    rcases h.2 with h2 | h2
    · obtain ⟨x, hx, rfl⟩ := ix_has _ c (of_decide_eq_true h2)
      obtain ⟨h3, h4⟩ := (mem_cutL w l o keep x).1 hx
      exact ⟨h3, h4.1⟩
    · simp at h2
  · rintro ⟨hc, ht⟩
    have hm : glyphOf l o c ∈ cutL w l o keep := (mem_cutL w l o keep _).2 ⟨by rw [glyphOf_code]; exact hc, by unfold Is; rw [glyphOf_code]; exact ⟨ht, rfl⟩⟩
    have hix := has_ix _ c _ hm (glyphOf_code l o c)
    have hz : inTop w c = true := by
      unfold tells at ht
      rw [Bool.and_eq_true] at ht
      exact ht.1
    exact tells_of w _ 0 c hz (.inl hix)
theorem cutL_twice (w : Bool) (l : List S37) (o : Int) (keep : List Int) : cutL w (cutL w l o keep) 0 keep = cutL w l o keep := by
  refine rise_ext _ _ (cutL_rises _ _ _ _) (cutL_rises _ _ _ _) fun x => ?_
  rw [mem_cutL, mem_cutL]
  constructor
  · rintro ⟨hk, ht, hx⟩
    have h1 := ((tells_cut w l o keep x.f0).1 ht).2
    rw [glyph_cut w l o keep x.f0 hk h1 0] at hx
    exact ⟨hk, h1, hx⟩
  · rintro ⟨hk, ht, hx⟩
    exact ⟨hk, (tells_cut w l o keep x.f0).2 ⟨hk, ht⟩, by rw [glyph_cut w l o keep x.f0 hk ht 0]; exact hx⟩
theorem right_cut (w : Bool) (l : List S37) (o : Int) (hR : Right w l o) (keep : List Int) (hk : keep.length ≤ 4096) : Right w (cutL w l o keep) 0 := by
  have hlen : (cutL w l o keep).length ≤ keep.length := by
    have := cutL_len w l o keep []
    unfold cutL
    simpa using this
  refine ⟨fun j _ hj => ⟨?_, fun h0 => ?_⟩, by omega, by omega, by omega⟩
  · have hx : (cutL w l o keep).getD j z37 ∈ cutL w l o keep := by
      rw [List.getD_eq_getElem?_getD, List.getElem?_eq_getElem hj]
      exact List.getElem_mem hj
    generalize (cutL w l o keep).getD j z37 = x at hx
    obtain ⟨_, ht, hx2⟩ := (mem_cutL w l o keep x).1 hx
    have hz : inTop w x.f0 = true := by
      unfold tells at ht
      rw [Bool.and_eq_true] at ht
      exact ht.1
    rw [inTop_top, Bool.and_eq_true] at hz
    by_cases hix : 0 ≤ ixOf (fun y : S37 => y.f0 == x.f0) l 0
    · have hm := glyphOf_mem l o x.f0 hix
      rw [← hx2] at hm
      obtain ⟨i, hi, e⟩ := List.getElem_of_mem hm
      have := (hR.1 i (Nat.zero_le _) hi).1
      rw [List.getD_eq_getElem?_getD, List.getElem?_eq_getElem hi, Option.getD_some, e] at this
      exact this
    · unfold glyphOf at hx2
      rw [if_neg hix] at hx2
      rw [hx2]
      exact ⟨of_decide_eq_true hz.1, of_decide_eq_true hz.2, hR.2.1, hR.2.2.1, .inl rfl⟩
  · have h := List.pairwise_iff_getElem.1 (cutL_rises w l o keep) (j - 1) j (by omega) hj (by omega)
    rw [List.getD_eq_getElem?_getD, List.getD_eq_getElem?_getD, List.getElem?_eq_getElem hj, List.getElem?_eq_getElem (show j - 1 < (cutL w l o keep).length by omega)]
    exact h
theorem glyph_keep (w : Bool) (l : List S37) (o : Int) (keep : List Int) (c : Int) (hc : c ∈ keep) (hz : inTop w c = true) : glyphOf (cutL w l o keep) 0 c = glyphOf l o c := by
  by_cases ht : tells w l o c = true
  · exact glyph_cut w l o keep c hc ht 0
  · have h1 : ¬ ∃ x ∈ cutL w l o keep, x.f0 = c := by
      rintro ⟨x, hx, rfl⟩
      exact ht ((mem_cutL w l o keep x).1 hx).2.1
    have h2 : ¬ (0 ≤ ixOf (fun x : S37 => x.f0 == c) l 0 ∨ o ≠ 0) := fun h => ht (tells_of w l o c hz h)
    have ho : o = 0 := by
      rcases Int.lt_trichotomy o 0 with h | h | h
      · exact absurd (.inr (by omega)) h2
      · exact h
      · exact absurd (.inr (by omega)) h2
    rw [glyph_none _ _ _ h1]
    unfold glyphOf
    rw [if_neg (fun e => h2 (.inl e)), ho]
open Classical in
theorem j3_end (w : Bool) (A : List S37) (hA : Right w A 0) (hl : A.length ≤ 1000) (k : Nat) (hk : 10000 < k) : erasurelaw19_FontKeeps.j3 (k + 1) 0 0 false w A 0 w A 0 w A 0 = some true := by
  rw [erasurelaw19_FontKeeps.j3, if_neg Bool.false_ne_true, show erasurelaw19_awake.f = some true from rfl, Option.bind_some, if_pos rfl, if_pos rfl, if_pos rfl, same_refl w A 0 (by omega) k (by omega), Option.bind_some, if_pos rfl,
    Option.bind_some, if_pos rfl, check_f w A 0 (by omega) k (by omega), Option.bind_some, if_pos hA]
  rfl
theorem s37_same (a : S37) : ¬ (!(a.f0 == a.f0) || (!(a.f1 == a.f1) || (!(a.f2.toList == a.f2.toList)))) = true := fun h => (s37_eq a a).1 h rfl
open Classical in
theorem j2_end (w : Bool) (l : List S37) (o : Int) (keep : List Int) (code : Int) (hR : Right w l o) (hk1 : keep.length ≤ 1000) (k : Nat) (hk : 10001 < k) :
    erasurelaw19_FontKeeps.j2 (k + 1) code 0 (keep.any (fun c => c == code)) 0 (top w) w l o w (cutL w l o keep) 0 w (cutL w l o keep) 0 w (cutL w l o keep) 0 = some true := by
  obtain ⟨k, rfl⟩ : ∃ m, k = m + 1 := ⟨k - 1, by omega⟩
  have hlen : (cutL w l o keep).length ≤ 1000 := by
    have := cutL_len w l o keep []
    unfold cutL
    simp at this ⊢
    omega
  have hend := j3_end w (cutL w l o keep) (right_cut w l o hR keep (by omega)) hlen k (by omega)
  rw [erasurelaw19_FontKeeps.j2, find_f, Option.bind_some]
  cases hin : keep.any (fun c => c == code) with
  | true =>
    obtain ⟨c, hc, e⟩ := List.any_eq_true.1 hin
    obtain rfl : c = code := beq_iff_eq.1 e
    rw [if_pos rfl]
    by_cases h0 : c ≥ 0
    · rw [if_pos h0]
      by_cases h1 : c ≤ top w
      · have hz : inTop w c = true := by rw [inTop_top, decide_eq_true h0, decide_eq_true h1]; rfl
        rw [if_pos h1, find_f, Option.bind_some]
        dsimp only
        rw [glyph_keep w l o keep c hc hz, if_neg (s37_same _)]
        exact hend
      · rw [if_neg h1]
        exact hend
    · rw [if_neg h0]
      exact hend
  | false =>
    have h1 : ¬ ∃ x ∈ cutL w l o keep, x.f0 = code := by
      rintro ⟨x, hx, rfl⟩
      have := ((mem_cutL w l o keep x).1 hx).1
      exact List.any_eq_false.1 hin x.f0 this (beq_iff_eq.2 rfl)
    rw [if_neg Bool.false_ne_true]
    dsimp only
    rw [glyph_none _ _ _ h1, if_pos rfl]
    have e : ((⟨#[]⟩ : ByteArray).toList != ([] : List UInt8)) = false := by rw [ByteArray.toList_eq]; rfl
    rw [e]
    exact hend
open Classical in
theorem l0_end (w : Bool) (l : List S37) (o : Int) (keep : List Int) (code : Int) (hR : Right w l o) (hl : l.length ≤ 1000) (hk1 : keep.length ≤ 1000) :
    ∀ (d k : Nat), d ≤ keep.length → d + 3000005 < k → erasurelaw19_FontKeeps.l0 k keep code 0 ((keep.drop d).reverse) ((keep.drop d).any (fun c => c == code)) ((d : Int) - 1) w l o w (cutL w l o keep) 0 w (cutL w l o keep) 0 = some true := by
  intro d
  induction d with
  | zero =>
    intro k hd hk
    obtain ⟨k, rfl⟩ : ∃ m, k = m + 2 := ⟨k - 2, by omega⟩
    have h1 : ¬ ((((0 : Nat) : Int) - 1) ≥ 0) := by omega
    rw [erasurelaw19_FontKeeps.l0, if_neg h1, List.drop_zero, cut_f w l o hl keep.reverse (by simp; omega) (k + 1) (by omega), Option.bind_some, if_pos hR]
    have hord : cutL w l o keep.reverse = cutL w l o keep := cutL_order w l o _ _ fun c => List.mem_reverse
    have h2 := j2_end w l o keep code hR hk1 k (by omega)
    rw [hord]
    dsimp only
    unfold top at h2
    cases w with
    | true => rw [if_pos rfl] at h2; rw [if_pos rfl]; exact h2
    | false => rw [if_neg Bool.false_ne_true] at h2; rw [if_neg Bool.false_ne_true]; exact h2
  | succ d ih =>
    intro k hd hk
    obtain ⟨k, rfl⟩ : ∃ m, k = m + 1 := ⟨k - 1, by omega⟩
    have e1 : (((d + 1 : Nat) : Int) - 1) = (d : Int) := by omega
    have h1 : (d : Int) ≥ 0 := by omega
    have h2 : (0 : Int) ≤ (d : Int) := by omega
    have h3 : (d : Int) < (keep.length : Int) := by omega
    have hw : wrap64 ((d : Int) - 1) = (d : Int) - 1 := by unfold wrap64; omega
    have hdl : d < keep.length := by omega
    have hih := ih k (by omega) (by omega)
    rw [List.drop_eq_getElem_cons hdl, List.reverse_cons, List.any_cons] at hih
    rw [erasurelaw19_FontKeeps.l0, e1, if_pos h1, if_pos h2, if_pos h3, if_pos (by simp; omega), Option.bind_some, hw, rd_int keep d hdl]
    cases hb : (keep.drop (d + 1)).any (fun c => c == code) with
    | true =>
      rw [hb, Bool.or_true] at hih
      rw [if_pos rfl]
      exact hih
    | false =>
      rw [hb, Bool.or_false] at hih
      rw [if_neg Bool.false_ne_true]
      exact hih
open Classical in
theorem FontKeeps (a0_0 : Bool) (l0_1 : List S37) (a0_2 : Int) (l1 : List Int) (a2 : Int) : (Lit.int .i64 a0_2).wf = true → l1.length * 8 ≤ 140737488351232 → (∀ x ∈ l1, (Lit.int .i64 x).wf = true) → (Lit.int .i64 a2).wf = true → ∃ k, C.erasurelaw19_FontKeeps.f k a0_0 l0_1 a0_2 l1 a2 = some true := by
  intro _ _ _ _
  refine ⟨4000000 + 1, ?_⟩
  unfold erasurelaw19_FontKeeps.f
  have hskip : erasurelaw19_FontKeeps.j0 (4000000 + 1) l1 a2 true a0_0 l0_1 a0_2 = some true := by rw [erasurelaw19_FontKeeps.j0, if_pos rfl]
  by_cases h1 : (l0_1.length : Int) > 150
  · rw [if_pos h1]; exact hskip
  · rw [if_neg h1]
    by_cases h2 : (l1.length : Int) > 100
    · rw [decide_eq_true h2]; exact hskip
    · rw [decide_eq_false h2, erasurelaw19_FontKeeps.j0, if_neg Bool.false_ne_true, cut_f a0_0 l0_1 a0_2 (by omega) l1 (by omega) 4000000 (by omega), Option.bind_some]
      by_cases hR : Right a0_0 l0_1 a0_2
      · rw [if_pos hR]
        dsimp only
        have hlen : (cutL a0_0 l0_1 a0_2 l1).length ≤ 1000 := by
          have := cutL_len a0_0 l0_1 a0_2 l1 []
          unfold cutL
          simp at this ⊢
          omega
        rw [if_pos rfl, cut_f a0_0 (cutL a0_0 l0_1 a0_2 l1) 0 hlen l1 (by omega) 4000000 (by omega), Option.bind_some, if_pos (right_cut a0_0 l0_1 a0_2 hR l1 (by omega)), cutL_twice]
        have h3 := l0_end a0_0 l0_1 a0_2 l1 a2 hR (by omega) (by omega) l1.length 4000000 (Nat.le_refl _) (by omega)
        rw [List.drop_length, List.reverse_nil, List.any_nil] at h3
        have hw : wrap64 ((l1.length : Int) - 1) = (l1.length : Int) - 1 := by unfold wrap64; omega
        rw [hw]
        exact h3
      · rw [if_neg hR]
        dsimp only
        rw [if_neg (by decide), show erasurelaw19_awake.f = some true from rfl, Option.bind_some, if_pos rfl, check_f a0_0 l0_1 a0_2 (by omega) 4000000 (by omega), Option.bind_some, if_neg hR]
        rfl
end Go.Proofs.Ytjhpcfpccnfniaa.Pure
