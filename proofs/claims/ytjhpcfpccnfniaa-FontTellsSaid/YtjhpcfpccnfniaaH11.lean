/- font.Cut: what it leaves, and its walk. -/
import Derived.Test.YtjhpcfpccnfniaaH2
import Derived.Test.YtjhpcfpccnfniaaF1
import Derived.Test.YtjhpcfpccnfniaaH9
import Derived.Deep.RegionWith
namespace Go.Proofs.Ytjhpcfpccnfniaa.A
open Go Go.RowKit Go.Proofs.YtjhpcfpccnfniaaW.PrintWords Go.Proofs.YtjhpcfpccnfniaaW.PrintLast Go.Proofs.YtjhpcfpccnfniaaW.PrintMore Go.Proofs.Ytjhpcfpccnfniaa.F
attribute [local go_sem] max2_int min2_int max_two min_two max_three min_three max_four min_four
set_option linter.unusedVariables false
set_option linter.unusedSimpArgs false
def glyphOf (l : List S37) (o c : Int) : S37 := if 0 ≤ ixOf (fun x : S37 => x.f0 == c) l 0 then rd_T37 l (ixOf (fun x : S37 => x.f0 == c) l 0) else ⟨c, o, ⟨#[]⟩⟩
def tells (w : Bool) (l : List S37) (o c : Int) : Bool := inTop w c && (decide (0 ≤ ixOf (fun x : S37 => x.f0 == c) l 0) || decide (o ≠ 0))
def insG (out : List S37) (g : S37) : List S37 := out.takeWhile (fun x => decide (x.f0 < g.f0)) ++ ([g] ++ out.dropWhile (fun x => decide (x.f0 < g.f0)))
def cutStep (w : Bool) (l : List S37) (o : Int) (out : List S37) (c : Int) : List S37 :=
  if tells w l o c = true then if out.any (fun x => x.f0 == c) = true then out else insG out (glyphOf l o c) else out
def cutL (w : Bool) (l : List S37) (o : Int) (keep : List Int) : List S37 := keep.foldl (cutStep w l o) []
def Rise (l : List S37) : Prop := l.Pairwise fun a b => a.f0 < b.f0
theorem ixOf_at {α : Type} (p : α → Bool) (d : α) : ∀ (l : List α) (i : Nat), 0 ≤ ixOf p l i → (i : Int) ≤ ixOf p l i ∧ ixOf p l i < i + l.length ∧ p (l.getD (ixOf p l i - i).toNat d) = true
  | [], i, h => by simp [ixOf] at h
  | x :: t, i, h => by
    rw [ixOf] at h ⊢
    by_cases hp : p x = true
    · rw [if_pos hp]
      refine ⟨by omega, by simp; omega, ?_⟩
      simpa using hp
    · rw [if_neg hp] at h ⊢
      obtain ⟨h1, h2, h3⟩ := ixOf_at p d t (i + 1) h
      refine ⟨by omega, by simp; omega, ?_⟩
      have e : (ixOf p t (i + 1) - (i : Int)).toNat = (ixOf p t (i + 1) - ((i + 1 : Nat) : Int)).toNat + 1 := by omega
      rw [e]
      simpa using h3
theorem glyphOf_code (l : List S37) (o c : Int) : (glyphOf l o c).f0 = c := by
  unfold glyphOf
  by_cases h : 0 ≤ ixOf (fun x : S37 => x.f0 == c) l 0
  · rw [if_pos h]
    obtain ⟨_, _, h3⟩ := ixOf_at (fun x : S37 => x.f0 == c) z37 l 0 h
    have := beq_iff_eq.1 h3
    simpa [rd_T37] using this
  · rw [if_neg h]
theorem find_f (w : Bool) (l : List S37) (o c : Int) : font_Find.f w l o c = some ((glyphOf l o c).f0, (glyphOf l o c).f1, (glyphOf l o c).f2) := by
  unfold font_Find.f font_index.f
  rw [Option.bind_some]
  unfold glyphOf
  by_cases h : 0 ≤ ixOf (fun x : S37 => x.f0 == c) l 0
  · obtain ⟨_, h2, _⟩ := ixOf_at (fun x : S37 => x.f0 == c) z37 l 0 h
    rw [if_pos (show ixOf (fun x : S37 => x.f0 == c) l 0 ≥ 0 from h), if_pos h, if_pos (by simpa using h2), if_pos h]
  · rw [if_neg (show ¬ ixOf (fun x : S37 => x.f0 == c) l 0 ≥ 0 from h), if_neg h]
theorem takeWhile_at {α : Type} (p : α → Bool) (d : α) : ∀ (l : List α) (i : Nat), i ≤ l.length → (∀ k, k < i → p (l.getD k d) = true) → (∀ k, i ≤ k → k < l.length → p (l.getD k d) = false) → l.takeWhile p = l.take i ∧ l.dropWhile p = l.drop i
  | [], i, hi, _, _ => by simp
  | a :: t, 0, _, _, h2 => by
    have ha : p a = false := by simpa using h2 0 (Nat.le_refl _) (by simp)
    simp [List.takeWhile_cons, List.dropWhile_cons, ha]
  | a :: t, i + 1, hi, h1, h2 => by
    have ha : p a = true := by simpa using h1 0 (by omega)
    obtain ⟨e1, e2⟩ := takeWhile_at p d t i (by simpa using hi) (fun k hk => by simpa using h1 (k + 1) (by omega)) (fun k hk hk2 => by simpa using h2 (k + 1) (by omega) (by simpa using hk2))
    simp [List.takeWhile_cons, List.dropWhile_cons, ha, e1, e2]
theorem insG_at (out : List S37) (g : S37) (i : Nat) (hi : i ≤ out.length) (h1 : ∀ k : Nat, k < i → (rd_T37 out k).f0 < g.f0) (h2 : ∀ k : Nat, i ≤ k → k < out.length → g.f0 ≤ (rd_T37 out k).f0) : insG out g = out.take i ++ ([g] ++ out.drop i) := by
  obtain ⟨e1, e2⟩ := takeWhile_at (fun x : S37 => decide (x.f0 < g.f0)) z37 out i hi
    (fun k hk => decide_eq_true (by simpa [rd_T37] using h1 k hk))
    (fun k hk hk2 => decide_eq_false (by have := h2 k hk hk2; simp only [rd_T37, Int.toNat_natCast] at this; omega))
  unfold insG
  rw [e1, e2]
theorem rise_lt (l : List S37) (h : Rise l) (a b : Nat) (hab : a < b) (hb : b < l.length) : (rd_T37 l a).f0 < (rd_T37 l b).f0 := by
  have := List.pairwise_iff_getElem.1 h a b (by omega) hb hab
  simpa [rd_T37, List.getD_eq_getElem?_getD, List.getElem?_eq_getElem hb, List.getElem?_eq_getElem (show a < l.length by omega)] using this
theorem rise_mono (l : List S37) (h : Rise l) (x : Int) : ∀ a b : Nat, a ≤ b → b < l.length → (rd_T37 l b).f0 < x → (rd_T37 l a).f0 < x := fun a b hab hb hx => by
  rcases Nat.lt_or_ge a b with hlt | hge
  · have := rise_lt l h a b hlt hb
    omega
  · obtain rfl : a = b := by omega
    exact hx
theorem rise_insG (out : List S37) (g : S37) (h : Rise out) (hn : out.any (fun x => x.f0 == g.f0) = false) : Rise (insG out g) := by
  unfold Rise insG at *
  have hn' : ∀ x ∈ out, x.f0 ≠ g.f0 := fun x hx e => by
    have := List.any_eq_false.1 hn x hx
    exact this (beq_iff_eq.2 e)
  rw [List.pairwise_append]
  refine ⟨h.sublist (List.takeWhile_sublist _), ?_, fun a ha b hb => ?_⟩
  · rw [List.singleton_append, List.pairwise_cons]
    refine ⟨fun b hb => ?_, h.sublist (List.dropWhile_sublist _)⟩
    have key : ∀ (t : List S37), t.Pairwise (fun a b => a.f0 < b.f0) → ∀ b ∈ t.dropWhile (fun x => decide (x.f0 < g.f0)), g.f0 ≤ b.f0 := by
      intro t
      induction t with
      | nil => intro _ b hb; simp at hb
      | cons a t ih =>
        intro hp b hb
        rw [List.pairwise_cons] at hp
        by_cases ha : a.f0 < g.f0
        · rw [List.dropWhile_cons, if_pos (decide_eq_true ha)] at hb
          exact ih hp.2 b hb
        · rw [List.dropWhile_cons, if_neg (by simpa using ha)] at hb
          rcases List.mem_cons.1 hb with rfl | hb
          · omega
          · have := hp.1 b hb
            omega
    have h1 := key out h b hb
    have h2 := hn' b ((List.dropWhile_sublist _).subset hb)
    omega
  · have h1 : a.f0 < g.f0 := by
      have key : ∀ t : List S37, a ∈ t.takeWhile (fun x => decide (x.f0 < g.f0)) → a.f0 < g.f0 := by
        intro t
        induction t with
        | nil => intro h; simp at h
        | cons b t ih =>
          intro h
          by_cases hb : b.f0 < g.f0
          · rw [List.takeWhile_cons, if_pos (decide_eq_true hb)] at h
            rcases List.mem_cons.1 h with rfl | h
            · exact hb
            · exact ih h
          · rw [List.takeWhile_cons, if_neg (by simpa using hb)] at h
            simp at h
      exact key out ha
    rcases List.mem_append.1 hb with hb | hb
    · rw [List.mem_singleton.1 hb]; exact h1
    · have key : ∀ (t : List S37), t.Pairwise (fun a b => a.f0 < b.f0) → ∀ b ∈ t.dropWhile (fun x => decide (x.f0 < g.f0)), g.f0 ≤ b.f0 := by
        intro t
        induction t with
        | nil => intro _ b hb; simp at hb
        | cons a t ih =>
          intro hp b hb
          rw [List.pairwise_cons] at hp
          by_cases ha : a.f0 < g.f0
          · rw [List.dropWhile_cons, if_pos (decide_eq_true ha)] at hb
            exact ih hp.2 b hb
          · rw [List.dropWhile_cons, if_neg (by simpa using ha)] at hb
            rcases List.mem_cons.1 hb with rfl | hb
            · omega
            · have := hp.1 b hb
              omega
      have h2 := key out h b hb
      omega
theorem rise_cutStep (w : Bool) (l : List S37) (o : Int) (out : List S37) (c : Int) (h : Rise out) : Rise (cutStep w l o out c) := by
  unfold cutStep
  split
  · split
    · exact h
    · rename_i hn
      exact rise_insG out _ h (by rw [glyphOf_code]; simpa using hn)
  · exact h
theorem len_insG (out : List S37) (g : S37) : (insG out g).length = out.length + 1 := by
  unfold insG
  have := congrArg List.length (List.takeWhile_append_dropWhile (p := fun x : S37 => decide (x.f0 < g.f0)) (l := out))
  rw [List.length_append] at this
  simp only [List.length_append, List.length_singleton]
  omega
theorem len_cutStep (w : Bool) (l : List S37) (o : Int) (out : List S37) (c : Int) : (cutStep w l o out c).length ≤ out.length + 1 := by
  unfold cutStep
  split
  · split
    · omega
    · rw [len_insG]; omega
  · omega
theorem cutL_snoc (w : Bool) (l : List S37) (o : Int) (keep : List Int) (k : Nat) (h : k < keep.length) : cutL w l o (keep.take (k + 1)) = cutStep w l o (cutL w l o (keep.take k)) (rd keep (k : Int)) := by
  have e : keep.take (k + 1) = keep.take k ++ [rd keep (k : Int)] := by
    rw [List.take_succ_eq_append_getElem h]
    simp [rd, List.getD_eq_getElem?_getD, List.getElem?_eq_getElem h]
  unfold cutL
  rw [e, List.foldl_append]
  rfl
theorem cutL_len (w : Bool) (l : List S37) (o : Int) : ∀ (keep : List Int) (out : List S37), (keep.foldl (cutStep w l o) out).length ≤ out.length + keep.length
  | [], out => by simp
  | c :: t, out => by
    have h1 := cutL_len w l o t (cutStep w l o out c)
    have h2 := len_cutStep w l o out c
    simp
    omega
theorem cutL_rise (w : Bool) (l : List S37) (o : Int) : ∀ (keep : List Int) (out : List S37), Rise out → Rise (keep.foldl (cutStep w l o) out)
  | [], out, h => h
  | c :: t, out, h => cutL_rise w l o t _ (rise_cutStep w l o out c h)
theorem tells_of (w : Bool) (l : List S37) (o c : Int) (hz : inTop w c = true) (h : 0 ≤ ixOf (fun x : S37 => x.f0 == c) l 0 ∨ o ≠ 0) : tells w l o c = true := by
  unfold tells
  rw [hz, Bool.true_and, Bool.or_eq_true]
  exact h.imp decide_eq_true decide_eq_true
theorem tells_not (w : Bool) (l : List S37) (o c : Int) (h : ixOf (fun x : S37 => x.f0 == c) l 0 < 0) (ho : o = 0) : tells w l o c = false := by
  unfold tells
  rw [decide_eq_false (by omega), decide_eq_false (by simp [ho]), Bool.or_false, Bool.and_false]
theorem cutStep_not (w : Bool) (l : List S37) (o : Int) (out : List S37) (c : Int) (h : tells w l o c = false) : cutStep w l o out c = out := by
  unfold cutStep
  rw [h, if_neg Bool.false_ne_true]
theorem cutStep_has (w : Bool) (l : List S37) (o : Int) (out : List S37) (c : Int) (i : Nat) (hi : i < out.length) (hc : (rd_T37 out i).f0 = c) : cutStep w l o out c = out := by
  have : out.any (fun x => x.f0 == c) = true := List.any_eq_true.2 ⟨rd_T37 out i, by simp [rd_T37, List.getD_eq_getElem?_getD, List.getElem?_eq_getElem hi], beq_iff_eq.2 hc⟩
  unfold cutStep
  rw [if_pos this]
  split <;> rfl
theorem cutStep_new (w : Bool) (l : List S37) (o : Int) (out : List S37) (c : Int) (i : Nat) (hR : Rise out) (ht : tells w l o c = true) (hi : i ≤ out.length) (h1 : ∀ k : Nat, k < i → (rd_T37 out k).f0 < c) (h2 : ∀ k : Nat, i ≤ k → k < out.length → c ≤ (rd_T37 out k).f0)
    (hq : (decide (i < out.length) && decide ((rd_T37 out i).f0 = c)) = false) : cutStep w l o out c = out.take i ++ ([glyphOf l o c] ++ out.drop i) := by
  have hn : out.any (fun x => x.f0 == c) = false := by
    rw [List.any_eq_false]
    intro x hx e
    obtain ⟨j, hj, rfl⟩ := List.getElem_of_mem hx
    have ej : (rd_T37 out j).f0 = c := by simpa [rd_T37, List.getD_eq_getElem?_getD, List.getElem?_eq_getElem hj] using e
    rcases Nat.lt_or_ge j i with hlt | hge
    · have := h1 j hlt
      omega
    · rcases Nat.lt_or_ge i j with hij | hij
      · have a1 := rise_lt out hR i j hij hj
        have a2 := h2 i (Nat.le_refl _) (by omega)
        omega
      · obtain rfl : i = j := by omega
        rw [decide_eq_true hj, decide_eq_true ej] at hq
        simp at hq
  unfold cutStep
  rw [if_pos ht, if_neg (by rw [hn]; exact Bool.false_ne_true)]
  exact insG_at out _ i hi (by rw [glyphOf_code]; exact h1) (by rw [glyphOf_code]; exact h2)
end Go.Proofs.Ytjhpcfpccnfniaa.A
namespace Go.Proofs.Ytjhpcfpccnfniaa.A
open Go Go.RowKit Go.Proofs.YtjhpcfpccnfniaaW.PrintWords Go.Proofs.YtjhpcfpccnfniaaW.PrintLast Go.Proofs.YtjhpcfpccnfniaaW.PrintMore Go.Proofs.Ytjhpcfpccnfniaa.F
attribute [local go_sem] max2_int min2_int max_two min_two max_three min_three max_four min_four
set_option linter.unusedVariables false
set_option linter.unusedSimpArgs false
theorem reps37_one {w : World} {base : Nat} {ok : Nat → Prop} (p : S37) : Reps (k37.M w base ok) 3 [p] [.int .i64 p.f0, .int .i64 p.f1, .string p.f2] := by
  have h := (Reps.none (k37.M w base ok) 3).snoc (k37_mkM w base ok p) rfl
  simpa using h
theorem M37_any {w w' : World} {base base' : Nat} {ok ok' : Nat → Prop} {p : S37} {cs : List Value} (h : k37.M w base ok p cs) : k37.M w' base' ok' p cs := by
  obtain rfl := k37_openM h
  exact k37_mkM w' base' ok' p
theorem one37 {w : World} {base : Nat} {ok : Nat → Prop} {ps : List S37} {cs : List Value} (h : Reps (k37.M w base ok) 3 ps cs) : ∀ u ∈ cs, u.oneCell' = true := by
  intro u hu
  obtain ⟨j, hj, rfl⟩ := List.getElem_of_mem hu
  have hl := h.1
  have hq : j / 3 < ps.length := by omega
  have h2 := k37_openM (h.2 (j / 3) _ (List.getElem?_eq_getElem hq))
  have h3 : ((cs.drop (j / 3 * 3)).take 3)[j % 3]? = some cs[j] := by
    rw [List.getElem?_take_of_lt (by omega), List.getElem?_drop, show j / 3 * 3 + j % 3 = j by omega, List.getElem?_eq_getElem hj]
  rw [h2] at h3
  have hm := List.mem_of_getElem? h3
  simp only [List.mem_cons, List.not_mem_nil, or_false] at hm
  rcases hm with e | e | e <;> rw [e] <;> rfl
structure Ins (G : Nat) (wide : Bool) (w1 w4 : World) (v : Value) (xs : List S37) (W : World) : Prop where
  bel : Below w1.heap.size w1 W
  blk : W.heap[G]? = some (.cells #[.bool wide, v, .int .i64 0] 24 (0, 0))
  row : Kd.R k37 37 W (G + 1) (fun _ => True) v xs
theorem Ins.keep {G : Nat} {wide : Bool} {w1 w4 : World} {v : Value} {xs : List S37} {W W' : World} (h : Ins G wide w1 w4 v xs W) (hb : Below W.heap.size W W') : Ins G wide w1 w4 v xs W' :=
  ⟨below_step h.bel hb, blk_below h.blk hb, Kd.R_below h.row hb⟩
theorem Ins.cell {G : Nat} {wide : Bool} {w1 w4 : World} {v : Value} {xs : List S37} {W : World} (h : Ins G wide w1 w4 v xs W) : W.cell? ⟨G, 1, none⟩ = some v := (blk_cell h.blk 1).trans rfl
theorem Ins.frozen {G : Nat} {wide : Bool} {w1 w4 : World} {v : Value} {xs : List S37} {W : World} (h : Ins G wide w1 w4 v xs W) : W.frozen? ⟨G, 1, none⟩ = false := blk_frozen h.blk 1
theorem ins_store {G : Nat} {wide : Bool} {w1 : World} {v v' : Value} {xs : List S37} {W : World} (hG : w1.heap.size ≤ G) (hb : Below w1.heap.size w1 W) (hk : W.heap[G]? = some (.cells #[.bool wide, v, .int .i64 0] 24 (0, 0))) (hR : Kd.R k37 37 W (G + 1) (fun _ => True) v' xs) : Ins G wide w1 w1 v' xs (W.setCell ⟨G, 1, none⟩ v') :=
  ⟨below_set hb hG, blk_put (cs := #[.bool wide, v, .int .i64 0]) hk 1 _ rfl,
    Kd.R_mono (Kd.R_far (p := ⟨G, 1, none⟩) (Kd.R_bound hR) (fun k hk => by have := hk.2.1; show k ≠ G; omega) _) (fun _ _ => trivial)⟩
structure InsAt (G : Nat) (wide : Bool) (w1 : World) (v v' : Value) (xs : List S37) (W : World) : Prop where
  bel : Below w1.heap.size w1 W
  blk : W.heap[G]? = some (.cells #[.bool wide, v, .int .i64 0] 24 (0, 0))
  row : Kd.R k37 37 W (G + 1) (fun _ => True) v' xs
theorem InsAt.cell {G : Nat} {wide : Bool} {w1 : World} {v v' : Value} {xs : List S37} {W : World} (h : InsAt G wide w1 v v' xs W) : W.cell? ⟨G, 1, none⟩ = some v := (blk_cell h.blk 1).trans rfl
theorem InsAt.frozen {G : Nat} {wide : Bool} {w1 : World} {v v' : Value} {xs : List S37} {W : World} (h : InsAt G wide w1 v v' xs W) : W.frozen? ⟨G, 1, none⟩ = false := blk_frozen h.blk 1
theorem insAt_of {wide : Bool} {w1 w4 : World} {v v' : Value} {xs ys : List S37} {W W' : World} {o : Obj} (h : Ins w1.heap.size wide w1 w4 v xs W) (hR : Kd.R k37 37 W' (w1.heap.size + 1) (fun _ => True) v' ys) (hg : (W.alloc o).grownBy W' v.ownBlock) : InsAt w1.heap.size wide w1 v v' ys W' :=
  have hb : ∀ k, v.ownBlock = some k → w1.heap.size + 1 ≤ k := fun k hk => Kd.R_base h.row k hk
  ⟨(below_alloc h.bel o).grown hg (below_alloc h.bel o).size (fun k hk => by have := hb k hk; omega),
    blk_grown (blk_alloc h.blk o) hg (fun e => by have := hb _ e.symm; omega), hR⟩
theorem InsAt.store {wide : Bool} {w1 : World} {v v' : Value} {xs : List S37} {W : World} (h : InsAt w1.heap.size wide w1 v v' xs W) : Ins w1.heap.size wide w1 w1 v' xs (W.setCell ⟨w1.heap.size, 1, none⟩ v') := ins_store (Nat.le_refl _) h.bel h.blk h.row
theorem insert37 (base i vb : Nat) (v : Value) (xs : List S37) (p : S37) (w : World) (hR : Kd.R k37 37 w base (fun _ => True) v xs)
    (hv : w.heap[vb]? = some (.cells #[.int .i64 p.f0, .int .i64 p.f1, .string p.f2] 37 (0, 0))) (hne : v.ownBlock ≠ some vb) (hi : i ≤ xs.length) (hn : xs.length ≤ 1000000) (hb : base ≤ w.heap.size) :
    Calls Try.prog 38 #[v, .int .i64 i, .slice (some ⟨vb, 0, none⟩) 1 1] w fun e w' => ∃ v', e = .returned v' ∧ Kd.R k37 37 w' base (fun _ => True) v' (xs.take i ++ ([p] ++ xs.drop i)) ∧ w.grownBy w' v.ownBlock := by
  obtain ⟨_, inner, ho, hr⟩ := hR
  refine (insert_calls base xs.length i vb v inner [.int .i64 p.f0, .int .i64 p.f1, .string p.f2] w rfl (by simp [Value.oneCell']) (one37 hr) (by simpa using hv) ho hne hi hn hb).mono ?_
  rintro e w' ⟨v', rfl, ho', hg⟩
  refine ⟨v', rfl, ⟨fun _ _ => trivial, insAt inner (3 * i) [.int .i64 p.f0, .int .i64 p.f1, .string p.f2], ?_, ?_⟩, hg⟩
  · have : (xs.take i ++ ([p] ++ xs.drop i)).length = xs.length + 1 := by simp; omega
    rw [this]
    exact ho'
  · unfold insAt
    rw [Nat.mul_comm]
    have hr' : Reps (k37.M w' base (fun k => True ∧ some k ≠ v'.ownBlock)) 3 xs inner := hr.imp_ (fun _ _ h => M37_any h)
    exact Kd.reps_append (Kd.reps_take hr' hi) (Kd.reps_append (reps37_one p) (Kd.reps_drop hr'))
structure CutI (G : Nat) (wide : Bool) (l : List S37) (o : Int) (keep : List Int) (w1 : World) (kk : Nat) (W : World) : Prop where
  bel : Below w1.heap.size w1 W
  row : ∃ v, W.heap[G]? = some (.cells #[.bool wide, v, .int .i64 0] 24 (0, 0)) ∧ Kd.R k37 37 W (G + 1) (fun _ => True) v (cutL wide l o (keep.take kk))
theorem insert_step (i : Nat) (wide : Bool) (w1 w5 : World) (v : Value) (out : List S37) (gl : S37) (h : Ins w1.heap.size wide w1 w1 v out w5) (hi : i ≤ out.length) (hn : out.length ≤ 1000000) :
    Calls Try.prog 38 #[v, .int .i64 i, .slice (some ⟨w5.heap.size, 0, none⟩) 1 1] (w5.alloc (.cells #[.int .i64 gl.f0, .int .i64 gl.f1, .string gl.f2] 37)) fun e w' => ∃ A n c, e = .returned (.slice A n c) ∧ InsAt w1.heap.size wide w1 v (.slice A n c) (out.take i ++ ([gl] ++ out.drop i)) w' := by
  have z5 := blk_lt h.blk
  have hbs : w1.heap.size + 1 ≤ (w5.alloc (.cells #[.int .i64 gl.f0, .int .i64 gl.f1, .string gl.f2] 37)).heap.size := by
    rw [World.size_alloc]
    exact Nat.succ_le_succ (Nat.le_of_lt z5)
  refine (insert37 (w1.heap.size + 1) i w5.heap.size v out gl _ (Kd.R_alloc h.row _) (blk_new w5 _) (fun e => Nat.lt_irrefl _ (Kd.R_lt h.row _ e)) hi hn hbs).mono ?_
  rintro e w6 ⟨v', rfl, hR6, hgr6⟩
  obtain ⟨A6, c6, rfl⟩ := Kd.R_slice hR6
  exact ⟨_, _, _, rfl, insAt_of h hR6 hgr6⟩
def font_Cut.f (k : Nat) (a0_0 : Bool) (l0_1 : List S37) (a0_2 : Int) (l1 : List Int) : Option (Bool × List S37 × Int × Int) :=
  if l1.length ≤ 1000000 then (font_Check.f k a0_0 l0_1 a0_2).bind fun t => if t = 0 then some (a0_0, cutL a0_0 l0_1 a0_2 l1, 0, 0) else some (false, [], 0, t) else none
theorem font_Cut.mono : ∀ a0 a1 a2 a3 k, LeO (font_Cut.f k a0 a1 a2 a3) (font_Cut.f (k + 1) a0 a1 a2 a3) := by
  intro a0 a1 a2 a3 k
  unfold font_Cut.f
  exact LeO.ite (LeO.bind (font_Check.mono _ _ _ _) (fun _ => LeO.refl _)) (LeO.refl _)
set_option maxRecDepth 100000 in
set_option maxHeartbeats 4000000 in
theorem cut_bad (k : Nat) (a0_0 : Bool) (A0_1 : Option Addr) (c0_1 : Nat) (l0_1 : List S37) (a0_2 : Int) (A1 : Option Addr) (c1 : Nat) (l1 : List Int) (t : Int) (w : World) (hr0_1 : Kd.C k37 w A0_1 l0_1.length l0_1) (hc0_1 : l0_1.length ≤ c0_1) (ht : font_Check.f k a0_0 l0_1 a0_2 = some t) (ht0 : t ≠ 0) :
    Calls Try.prog 20 #[.agg #[.bool a0_0, .slice A0_1 l0_1.length c0_1, .int .i64 a0_2], .slice A1 l1.length c1] w fun e w' => ∃ v1_ : Value, e = .returned (.tuple #[.agg #[.bool false, v1_, .int .i64 0], .int .i64 t]) ∧ Kd.R k37 37 w' w.heap.size (fun _ => True) v1_ [] ∧ Below w.heap.size w w' := by
  have hne : (t != 0) = true := by simpa using ht0
  have hu24 := Try.underlying24
  have hB0 : Below w.heap.size w ((w.alloc (.cells #[.bool a0_0, .slice A0_1 l0_1.length c0_1, .int .i64 a0_2] 24)).alloc (.cells #[.bool false, .slice none 0 0, .int .i64 0] 24)) := below_alloc (below_alloc (Below.refl _ _) _) _
  have bk0 := blk_alloc (blk_new w (.cells #[.bool a0_0, .slice A0_1 l0_1.length c0_1, .int .i64 a0_2] 24)) (.cells #[.bool false, .slice none 0 0, .int .i64 0] 24)
  have bk1 := blk_new (w.alloc (.cells #[.bool a0_0, .slice A0_1 l0_1.length c0_1, .int .i64 a0_2] 24)) (.cells #[.bool false, .slice none 0 0, .int .i64 0] 24)
  rw [World.size_alloc] at bk1
  go_enter Try.func20, Try.ntmps20
  go_wp2_with fail
  refine (font_Check.calls k a0_0 A0_1 c0_1 l0_1 a0_2 t _ (Kd.C_alloc (Kd.C_alloc hr0_1 _) _) hc0_1 ht).mono ?_
  rintro e w1 ⟨rfl, hB1⟩
  replace bk0 := blk_below bk0 hB1
  replace bk1 := blk_below bk1 hB1
  have hB : Below w.heap.size w w1 := below_step hB0 hB1
  clear hB0 hB1
  have d0 : w1.cell? ⟨w.heap.size + 1, 0, none⟩ = some (.bool false) := (blk_cell bk1 0).trans rfl
  have d1 : w1.cell? ⟨w.heap.size + 1, 1, none⟩ = some (.slice none 0 0) := (blk_cell bk1 1).trans rfl
  have d2 : w1.cell? ⟨w.heap.size + 1, 2, none⟩ = some (.int .i64 0) := (blk_cell bk1 2).trans rfl
  have f0 := blk_frozen bk1 0
  have f1 := blk_frozen bk1 1
  have f2 := blk_frozen bk1 2
  replace bk1 := Aside0.mk bk1
  replace bk0 := Aside0.mk bk0
  go_wp2_with fail
  refine bodyPost_ret (results_ct rfl _ _ (w.heap.size + 1) 24 #[.bool false, .slice none 0 0, .int .i64 0] (0, 0) _ rfl (by refine blk_put (cs := #[.bool false, .slice none 0 0, .int .i64 0]) ?_ 2 _ rfl; refine blk_put (cs := #[.bool false, .slice none 0 0, .int .i64 0]) ?_ 1 _ rfl; refine blk_put (cs := #[.bool false, .slice none 0 0, .int .i64 0]) ?_ 0 _ rfl; exact bk1.out) Try.underlying24 rfl (by kernel_rfl)) rfl ?_
  exact ⟨_, rfl, Kd.R_nil _ _ _ _ _, below_set (below_set (below_set hB (by omega)) (by omega)) (by omega)⟩
set_option maxRecDepth 100000 in
set_option maxHeartbeats 4000000 in
theorem cut_good (k : Nat) (a0_0 : Bool) (A0_1 : Option Addr) (c0_1 : Nat) (l0_1 : List S37) (a0_2 : Int) (A1 : Option Addr) (c1 : Nat) (l1 : List Int) (w : World) (hlen : l1.length ≤ 1000000) (hr0_1 : Kd.C k37 w A0_1 l0_1.length l0_1) (hc0_1 : l0_1.length ≤ c0_1) (hr1 : Kd.C (Kd.int .i64) w A1 l1.length l1) (hc1 : l1.length ≤ c1) (ht : font_Check.f k a0_0 l0_1 a0_2 = some 0) :
    Calls Try.prog 20 #[.agg #[.bool a0_0, .slice A0_1 l0_1.length c0_1, .int .i64 a0_2], .slice A1 l1.length c1] w fun e w' => ∃ v1_ : Value, e = .returned (.tuple #[.agg #[.bool a0_0, v1_, .int .i64 0], .int .i64 0]) ∧ Kd.R k37 37 w' w.heap.size (fun _ => True) v1_ (cutL a0_0 l0_1 a0_2 l1) ∧ Below w.heap.size w w' := by
  have hu24 := Try.underlying24
  have hB0 : Below w.heap.size w ((w.alloc (.cells #[.bool a0_0, .slice A0_1 l0_1.length c0_1, .int .i64 a0_2] 24)).alloc (.cells #[.bool false, .slice none 0 0, .int .i64 0] 24)) := below_alloc (below_alloc (Below.refl _ _) _) _
  have bk0 := blk_alloc (blk_new w (.cells #[.bool a0_0, .slice A0_1 l0_1.length c0_1, .int .i64 a0_2] 24)) (.cells #[.bool false, .slice none 0 0, .int .i64 0] 24)
  have bk1 := blk_new (w.alloc (.cells #[.bool a0_0, .slice A0_1 l0_1.length c0_1, .int .i64 a0_2] 24)) (.cells #[.bool false, .slice none 0 0, .int .i64 0] 24)
  rw [World.size_alloc] at bk1
  go_enter Try.func20, Try.ntmps20
  go_wp2_with fail
  refine (font_Check.calls k a0_0 A0_1 c0_1 l0_1 a0_2 0 _ (Kd.C_alloc (Kd.C_alloc hr0_1 _) _) hc0_1 ht).mono ?_
  rintro e w1 ⟨rfl, hB1⟩
  replace bk0 := blk_below bk0 hB1
  replace bk1 := blk_below bk1 hB1
  have hB : Below w.heap.size w w1 := below_step hB0 hB1
  have hz1 : w.heap.size + 1 < w1.heap.size := blk_lt bk1
  clear hB0 hB1
  have d0 : w1.cell? ⟨w.heap.size, 0, none⟩ = some (.bool a0_0) := (blk_cell bk0 0).trans rfl
  have bkG := blk_new w1 (.cells #[.bool a0_0, .slice none 0 0, .int .i64 0] 24)
  have RG := Kd.R_nil k37 37 (w1.alloc (.cells #[.bool a0_0, .slice none 0 0, .int .i64 0] 24)) (w1.heap.size + 1) (fun _ => True)
  have I0 : CutI w1.heap.size a0_0 l0_1 a0_2 l1 w1 0 (w1.alloc (.cells #[.bool a0_0, .slice none 0 0, .int .i64 0] 24)) := ⟨below_alloc (Below.refl _ _) _, _, bkG, RG⟩
  have hC0 := Kd.C_below hr0_1 hB
  have hC1 := Kd.C_below hr1 hB
  have e0 : w1.cell? ⟨w.heap.size, 1, none⟩ = some (.slice A0_1 l0_1.length c0_1) := (blk_cell bk0 1).trans rfl
  have hu37 := Try.underlying37
  have hbig : l1.length ≤ 9223372036854775807 := by omega
  clear hr0_1 hr1 ht bkG RG
  replace bk0 := Aside0.mk bk0
  replace bk1 := Aside0.mk bk1
  replace hC0 := Aside0.mk hC0
  replace hC1 := Aside0.mk hC1
  replace hB := Aside0.mk hB
  replace I0 := Aside0.mk I0
  go_wp2_with fail
  clear d0 e0
  go_loopg [23] l1.length (fun gg s23 wr => ∃ kk : Nat, kk ≤ l1.length ∧ l1.length - kk ≤ gg ∧ s23 = .int .i64 kk ∧ Aside0 (CutI w1.heap.size a0_0 l0_1 a0_2 l1 w1 kk wr))
  case atStart => exact ⟨0, Nat.zero_le _, by omega, rfl, I0⟩
  case round =>
    obtain ⟨kk, hkk, hg, rfl, I⟩ := hrel
    by_cases hlt : kk < l1.length
    · have hltz : (kk : Int) < (l1.length : Int) := by omega
      have hltb : decide ((kk : Int) < (l1.length : Int)) = true := decide_eq_true hltz
      obtain ⟨ad, e, h0⟩ := Kd.at_int hC1.out (kk : Int) (by omega) hltz
      cases e
      replace h0 := (I.out.bel.cell (World.block_lt_of_cell? w1 _ h0)).trans h0
      simp only [Int.toNat_natCast] at h0
      have hst := cutL_snoc a0_0 l0_1 a0_2 l1 kk hlt
      obtain ⟨x, hx⟩ : ∃ x, rd l1 (kk : Int) = x := ⟨_, rfl⟩
      rw [hx] at h0 hst
      clear hx
      replace hst := Aside0.mk hst
      have bk0r := blk_below bk0.out I.out.bel
      have c0 : wr.cell? ⟨w.heap.size, 0, none⟩ = some (.bool a0_0) := (blk_cell bk0r 0).trans rfl
      replace bk0r := Aside0.mk bk0r
      have ht : font_top.f a0_0 = some (if a0_0 = true then 65535 else 255) := by
        unfold font_top.f
        cases a0_0 <;> rfl
      obtain ⟨tp, htp⟩ : ∃ tp : Int, (if a0_0 = true then 65535 else 255) = tp := ⟨_, rfl⟩
      have hin : inTop a0_0 x = (decide (0 ≤ x) && decide (x ≤ tp)) := by unfold inTop; rw [htp]
      rw [htp] at ht
      have hw : font_within_int.f 0 x tp = some (inTop a0_0 x) := by
        rw [hin]
        unfold font_within_int.f
        by_cases h : 0 ≤ x
        · rw [if_pos h, decide_eq_true h]; rfl
        · rw [if_neg h, decide_eq_false h]; rfl
      clear hin htp
      replace ht := Aside0.mk ht
      cases hz : inTop a0_0 x with
      | false =>
        rw [hz] at hw
        replace hw := Aside0.mk hw
        have hstep : cutStep a0_0 l0_1 a0_2 (cutL a0_0 l0_1 a0_2 (l1.take kk)) x = cutL a0_0 l0_1 a0_2 (l1.take kk) := by
          unfold cutStep tells
          rw [hz, Bool.false_and, if_neg Bool.false_ne_true]
        replace hstep := Aside0.mk hstep
        replace hz := Aside0.mk hz
        go_wp2_with fail
        refine (font_top.calls a0_0 tp _ ht.out).mono ?_
        rintro e w' ⟨rfl, ⟨m, rfl⟩⟩
        go_wp2_with fail
        refine (font_within_int.calls 0 x tp false _ hw.out).mono ?_
        rintro e w' ⟨rfl, ⟨m2, rfl⟩⟩
        go_wp2_with fail
        go_roundg (l1.length - (kk + 1))
        case measure => omega
        case rel =>
          obtain ⟨v, hbG, hRv⟩ := I.out.row
          exact ⟨kk + 1, by omega, by omega, by go_num, ⟨pw_below_drewN I.out.bel _, v, blk_drewN hbG _, by rw [hst.out, hstep.out]; exact Kd.R_below hRv (pw_below_drewN (Below.refl _ _) _)⟩⟩
      | true =>
        rw [hz] at hw
        replace hw := Aside0.mk hw
        replace hz := Aside0.mk hz
        have c1' : wr.cell? ⟨w.heap.size, 1, none⟩ = some (.slice A0_1 l0_1.length c0_1) := (blk_cell bk0r.out 1).trans rfl
        have c2' : wr.cell? ⟨w.heap.size, 2, none⟩ = some (.int .i64 a0_2) := (blk_cell bk0r.out 2).trans rfl
        have hC0r := Kd.C_below hC0.out I.out.bel
        replace hC0r := Aside0.mk hC0r
        obtain ⟨r, hr⟩ : ∃ r, ixOf (fun y : S37 => y.f0 == x) l0_1 0 = r := ⟨_, rfl⟩
        have hix : Aside0 (font_index.f a0_0 l0_1 a0_2 x = some r) := ⟨by rw [← hr]; rfl⟩
        replace hr := Aside0.mk hr
        go_wp2_with fail
        refine (font_top.calls a0_0 tp _ ht.out).mono ?_
        rintro e w' ⟨rfl, ⟨m, rfl⟩⟩
        go_wp2_with fail
        refine (font_within_int.calls 0 x tp true _ hw.out).mono ?_
        rintro e w' ⟨rfl, ⟨m2, rfl⟩⟩
        go_wp2_with fail
        refine (font_index.calls a0_0 A0_1 c0_1 l0_1 a0_2 x r _ (Kd.C_drewN hC0r.out _) hc0_1 hix.out).mono ?_
        rintro e w3 ⟨rfl, hB3⟩
        replace hB3 : Below wr.heap.size wr w3 := below_step (pw_below_drewN (Below.refl _ _) _) hB3
        have j2 : w3.cell? ⟨w.heap.size, 2, none⟩ = some (.int .i64 a0_2) := (hB3.cell (World.block_lt_of_cell? _ _ c2')).trans c2'
        clear c0 c1' c2' h0
        by_cases hr0 : r < 0
        · have hrb : decide (r < 0) = true := decide_eq_true hr0
          by_cases ho : a0_2 = 0
          · have hob : (a0_2 == 0) = true := beq_iff_eq.2 ho
            have hstep := cutStep_not a0_0 l0_1 a0_2 (cutL a0_0 l0_1 a0_2 (l1.take kk)) x (tells_not a0_0 l0_1 a0_2 x (by rw [hr.out]; exact hr0) ho)
            replace hstep := Aside0.mk hstep
            replace ho := Aside0.mk ho
            replace hB3 := Aside0.mk hB3
            go_wp2_with fail
            go_roundg (l1.length - (kk + 1))
            case measure => omega
            case rel =>
              obtain ⟨v, hbG, hRv⟩ := I.out.row
              exact ⟨kk + 1, by omega, by omega, by go_num, ⟨below_step I.out.bel hB3.out, v, blk_below hbG hB3.out, by rw [hst.out, hstep.out]; exact Kd.R_below hRv hB3.out⟩⟩
          · have hob : (a0_2 == 0) = false := beq_eq_false_iff_ne.2 ho
            have htell := tells_of a0_0 l0_1 a0_2 x hz.out (.inr ho)
            obtain ⟨v, hbG, hRv⟩ := I.out.row
            replace hbG := blk_below hbG hB3
            replace hRv := Kd.R_below hRv hB3
            obtain ⟨Av, cv, rfl, hlv, hCv⟩ := Kd.R_reads hRv
            have hG1 : w3.cell? ⟨w1.heap.size, 1, none⟩ = some (.slice Av (cutL a0_0 l0_1 a0_2 (l1.take kk)).length cv) := (blk_cell hbG 1).trans rfl
            have hlo : (cutL a0_0 l0_1 a0_2 (l1.take kk)).length ≤ 1000000 := by
              have := cutL_len a0_0 l0_1 a0_2 (l1.take kk) []
              unfold cutL
              simp at this ⊢
              omega
            have hrise : Rise (cutL a0_0 l0_1 a0_2 (l1.take kk)) := cutL_rise a0_0 l0_1 a0_2 (l1.take kk) [] List.Pairwise.nil
            obtain ⟨out, hout⟩ : ∃ out, cutL a0_0 l0_1 a0_2 (l1.take kk) = out := ⟨_, rfl⟩
            rw [hout] at hlo hrise hG1 hlv hCv hRv hst hbG
            replace hout := Aside0.mk hout
            have hpl := place_calls Av cv out x w3 hCv hlo (rise_mono out hrise x)
            replace hpl := Aside0.mk hpl
            replace hrise := Aside0.mk hrise
            replace hCv := Aside0.mk hCv
            replace hRv := Aside0.mk hRv
            replace hbG := Aside0.mk hbG
            have hB13 : Below w1.heap.size w1 w3 := below_step I.out.bel hB3
            replace hB13 := Aside0.mk hB13
            replace hB3 := Aside0.mk hB3
            clear I
            go_wp2_with fail
            refine hpl.out.mono ?_
            rintro e w4 ⟨i, rfl, hi1, hi2, hi3, hB4⟩
            obtain ⟨q, hq⟩ : ∃ q, (decide (i < out.length) && decide ((rd_T37 out (i : Int)).f0 = x)) = q := ⟨_, rfl⟩
            rw [hq]
            have hbG4 := blk_below hbG.out hB4
            have hRv4 := Kd.R_below hRv.out hB4
            have hB14 : Below w1.heap.size w1 w4 := below_step hB13.out hB4
            clear hG1
            cases q with
            | true =>
              have hstep : cutStep a0_0 l0_1 a0_2 out x = out := by
                rw [Bool.and_eq_true] at hq
                exact cutStep_has a0_0 l0_1 a0_2 out x i (of_decide_eq_true hq.1) (of_decide_eq_true hq.2)
              replace hq := Aside0.mk hq
              replace hstep := Aside0.mk hstep
              replace hbG4 := Aside0.mk hbG4
              replace hRv4 := Aside0.mk hRv4
              replace hB14 := Aside0.mk hB14
              replace hB4 := Aside0.mk hB4
              replace hi2 := Aside0.mk hi2
              replace hi3 := Aside0.mk hi3
              go_wp2_with fail
              go_roundg (l1.length - (kk + 1))
              case measure => omega
              case rel => exact ⟨kk + 1, by omega, by omega, by go_num, ⟨hB14.out, _, hbG4.out, by rw [hst.out, hstep.out]; exact hRv4.out⟩⟩
            | false =>
              have hstep := cutStep_new a0_0 l0_1 a0_2 out x i hrise.out htell hi1 hi2 hi3 hq
              obtain ⟨gl, hgl⟩ : ∃ gl, glyphOf l0_1 a0_2 x = gl := ⟨_, rfl⟩
              have hfind := find_f a0_0 l0_1 a0_2 x
              rw [hgl] at hstep hfind
              clear hgl
              have hC04 := Kd.C_below hC0.out hB14
              have b0 := blk_below bk0.out hB14
              have k0 : w4.cell? ⟨w.heap.size, 0, none⟩ = some (.bool a0_0) := (blk_cell b0 0).trans rfl
              have k1 : w4.cell? ⟨w.heap.size, 1, none⟩ = some (.slice A0_1 l0_1.length c0_1) := (blk_cell b0 1).trans rfl
              have k2 : w4.cell? ⟨w.heap.size, 2, none⟩ = some (.int .i64 a0_2) := (blk_cell b0 2).trans rfl
              have k3 : w4.cell? ⟨w1.heap.size, 1, none⟩ = some (.slice Av out.length cv) := (blk_cell hbG4 1).trans rfl
              have k4 := blk_frozen hbG4 1
              replace hq := Aside0.mk hq
              replace hstep := Aside0.mk hstep
              replace hbG4 := Aside0.mk hbG4
              replace hRv4 := Aside0.mk hRv4
              replace hB14 := Aside0.mk hB14
              replace hB4 := Aside0.mk hB4
              replace hi2 := Aside0.mk hi2
              replace hi3 := Aside0.mk hi3
              replace hC04 := Aside0.mk hC04
              replace b0 := Aside0.mk b0
              have hI4 : Aside0 (Ins w1.heap.size a0_0 w1 w1 (.slice Av out.length cv) out w4) := ⟨⟨hB14.out, hbG4.out, hRv4.out⟩⟩
              go_wp2_with fail
              go_region_with (first
                | (go_at_call 18; refine (font_Find.calls a0_0 A0_1 c0_1 l0_1 a0_2 x gl.f0 gl.f1 gl.f2 _ (Kd.C_drew hC04.out) hc0_1 hfind).mono ?_; rintro e w5 ⟨rfl, hB5⟩; replace hB5 := below_step (below_drew (Below.refl w4.heap.size w4)) hB5; have hI5 : Aside0 (Ins w1.heap.size a0_0 w1 w1 (.slice Av out.length cv) out w5) := ⟨hI4.out.keep hB5⟩; have g5 := hI5.out.cell; have z5 := blk_lt hI5.out.blk; clear hB5)
                | (go_at_call 38; refine (insert_step i a0_0 w1 w5 (.slice Av out.length cv) out gl hI5.out hi1 hlo).mono ?_; rintro e w6 ⟨A6, n6, c6, rfl, hJ6⟩; have g6 := hJ6.cell; have f6 := hJ6.frozen; replace hJ6 := Aside0.mk hJ6))
              all_goals
                have hK := hJ6.out.store
                replace hK := Aside0.mk hK
                clear hJ6 g6 f6
                go_wp2_with fail
                go_roundg (l1.length - (kk + 1))
                case measure => omega
                case rel => exact ⟨kk + 1, by omega, by omega, by go_num, ⟨hK.out.bel, _, hK.out.blk, by rw [hst.out, hstep.out]; exact hK.out.row⟩⟩
        · have hrb : decide (r < 0) = false := decide_eq_false hr0
          have htell := tells_of a0_0 l0_1 a0_2 x hz.out (.inl (by rw [hr.out]; omega))
          obtain ⟨v, hbG, hRv⟩ := I.out.row
          replace hbG := blk_below hbG hB3
          replace hRv := Kd.R_below hRv hB3
          obtain ⟨Av, cv, rfl, hlv, hCv⟩ := Kd.R_reads hRv
          have hG1 : w3.cell? ⟨w1.heap.size, 1, none⟩ = some (.slice Av (cutL a0_0 l0_1 a0_2 (l1.take kk)).length cv) := (blk_cell hbG 1).trans rfl
          have hlo : (cutL a0_0 l0_1 a0_2 (l1.take kk)).length ≤ 1000000 := by
            have := cutL_len a0_0 l0_1 a0_2 (l1.take kk) []
            unfold cutL
            simp at this ⊢
            omega
          have hrise : Rise (cutL a0_0 l0_1 a0_2 (l1.take kk)) := cutL_rise a0_0 l0_1 a0_2 (l1.take kk) [] List.Pairwise.nil
          obtain ⟨out, hout⟩ : ∃ out, cutL a0_0 l0_1 a0_2 (l1.take kk) = out := ⟨_, rfl⟩
          rw [hout] at hlo hrise hG1 hlv hCv hRv hst hbG
          replace hout := Aside0.mk hout
          have hpl := place_calls Av cv out x w3 hCv hlo (rise_mono out hrise x)
          replace hpl := Aside0.mk hpl
          replace hrise := Aside0.mk hrise
          replace hCv := Aside0.mk hCv
          replace hRv := Aside0.mk hRv
          replace hbG := Aside0.mk hbG
          have hB13 : Below w1.heap.size w1 w3 := below_step I.out.bel hB3
          replace hB13 := Aside0.mk hB13
          replace hB3 := Aside0.mk hB3
          clear I
          go_wp2_with fail
          refine hpl.out.mono ?_
          rintro e w4 ⟨i, rfl, hi1, hi2, hi3, hB4⟩
          obtain ⟨q, hq⟩ : ∃ q, (decide (i < out.length) && decide ((rd_T37 out (i : Int)).f0 = x)) = q := ⟨_, rfl⟩
          rw [hq]
          have hbG4 := blk_below hbG.out hB4
          have hRv4 := Kd.R_below hRv.out hB4
          have hB14 : Below w1.heap.size w1 w4 := below_step hB13.out hB4
          clear hG1
          cases q with
          | true =>
            have hstep : cutStep a0_0 l0_1 a0_2 out x = out := by
              rw [Bool.and_eq_true] at hq
              exact cutStep_has a0_0 l0_1 a0_2 out x i (of_decide_eq_true hq.1) (of_decide_eq_true hq.2)
            replace hq := Aside0.mk hq
            replace hstep := Aside0.mk hstep
            replace hbG4 := Aside0.mk hbG4
            replace hRv4 := Aside0.mk hRv4
            replace hB14 := Aside0.mk hB14
            replace hB4 := Aside0.mk hB4
            replace hi2 := Aside0.mk hi2
            replace hi3 := Aside0.mk hi3
            go_wp2_with fail
            go_roundg (l1.length - (kk + 1))
            case measure => omega
            case rel => exact ⟨kk + 1, by omega, by omega, by go_num, ⟨hB14.out, _, hbG4.out, by rw [hst.out, hstep.out]; exact hRv4.out⟩⟩
          | false =>
            have hstep := cutStep_new a0_0 l0_1 a0_2 out x i hrise.out htell hi1 hi2 hi3 hq
            obtain ⟨gl, hgl⟩ : ∃ gl, glyphOf l0_1 a0_2 x = gl := ⟨_, rfl⟩
            have hfind := find_f a0_0 l0_1 a0_2 x
            rw [hgl] at hstep hfind
            clear hgl
            have hC04 := Kd.C_below hC0.out hB14
            have b0 := blk_below bk0.out hB14
            have k0 : w4.cell? ⟨w.heap.size, 0, none⟩ = some (.bool a0_0) := (blk_cell b0 0).trans rfl
            have k1 : w4.cell? ⟨w.heap.size, 1, none⟩ = some (.slice A0_1 l0_1.length c0_1) := (blk_cell b0 1).trans rfl
            have k2 : w4.cell? ⟨w.heap.size, 2, none⟩ = some (.int .i64 a0_2) := (blk_cell b0 2).trans rfl
            have k3 : w4.cell? ⟨w1.heap.size, 1, none⟩ = some (.slice Av out.length cv) := (blk_cell hbG4 1).trans rfl
            have k4 := blk_frozen hbG4 1
            replace hq := Aside0.mk hq
            replace hstep := Aside0.mk hstep
            replace hbG4 := Aside0.mk hbG4
            replace hRv4 := Aside0.mk hRv4
            replace hB14 := Aside0.mk hB14
            replace hB4 := Aside0.mk hB4
            replace hi2 := Aside0.mk hi2
            replace hi3 := Aside0.mk hi3
            replace hC04 := Aside0.mk hC04
            replace b0 := Aside0.mk b0
            have hI4 : Aside0 (Ins w1.heap.size a0_0 w1 w1 (.slice Av out.length cv) out w4) := ⟨⟨hB14.out, hbG4.out, hRv4.out⟩⟩
            go_wp2_with fail
            go_region_with (first
              | (go_at_call 18; refine (font_Find.calls a0_0 A0_1 c0_1 l0_1 a0_2 x gl.f0 gl.f1 gl.f2 _ (Kd.C_drew hC04.out) hc0_1 hfind).mono ?_; rintro e w5 ⟨rfl, hB5⟩; replace hB5 := below_step (below_drew (Below.refl w4.heap.size w4)) hB5; have hI5 : Aside0 (Ins w1.heap.size a0_0 w1 w1 (.slice Av out.length cv) out w5) := ⟨hI4.out.keep hB5⟩; have g5 := hI5.out.cell; have z5 := blk_lt hI5.out.blk; clear hB5)
              | (go_at_call 38; refine (insert_step i a0_0 w1 w5 (.slice Av out.length cv) out gl hI5.out hi1 hlo).mono ?_; rintro e w6 ⟨A6, n6, c6, rfl, hJ6⟩; have g6 := hJ6.cell; have f6 := hJ6.frozen; replace hJ6 := Aside0.mk hJ6))
            all_goals
              have hK := hJ6.out.store
              replace hK := Aside0.mk hK
              clear hJ6 g6 f6
              go_wp2_with fail
              go_roundg (l1.length - (kk + 1))
              case measure => omega
              case rel => exact ⟨kk + 1, by omega, by omega, by go_num, ⟨hK.out.bel, _, hK.out.blk, by rw [hst.out, hstep.out]; exact hK.out.row⟩⟩
    · have hend : kk = l1.length := by omega
      have hltb : decide ((kk : Int) < (l1.length : Int)) = false := decide_eq_false (by omega)
      obtain ⟨v, hbG, hRv⟩ := I.out.row
      have hBf : Below w.heap.size w wr := below_step hB.out I.out.bel
      have hb1 := blk_below bk1.out I.out.bel
      rw [hend, List.take_length] at hRv
      replace hend := Aside0.mk hend
      obtain ⟨Av, nv, cv, rfl⟩ : ∃ A n c, v = .slice A n c := by
        obtain ⟨A, c, e⟩ := Kd.R_slice hRv
        exact ⟨A, _, c, e⟩
      have k0 : wr.cell? ⟨w1.heap.size, 0, none⟩ = some (.bool a0_0) := (blk_cell hbG 0).trans rfl
      have k1 : wr.cell? ⟨w1.heap.size, 1, none⟩ = some (.slice Av nv cv) := (blk_cell hbG 1).trans rfl
      have k2 : wr.cell? ⟨w1.heap.size, 2, none⟩ = some (.int .i64 0) := (blk_cell hbG 2).trans rfl
      have d0 : wr.cell? ⟨w.heap.size + 1, 0, none⟩ = some (.bool false) := (blk_cell hb1 0).trans rfl
      have d1 : wr.cell? ⟨w.heap.size + 1, 1, none⟩ = some (.slice none 0 0) := (blk_cell hb1 1).trans rfl
      have d2 : wr.cell? ⟨w.heap.size + 1, 2, none⟩ = some (.int .i64 0) := (blk_cell hb1 2).trans rfl
      have f0 := blk_frozen hb1 0
      have f1 := blk_frozen hb1 1
      have f2 := blk_frozen hb1 2
      have hR3 : Kd.R k37 37 (((wr.setCell ⟨w.heap.size + 1, 0, none⟩ (.bool a0_0)).setCell ⟨w.heap.size + 1, 1, none⟩ (.slice Av nv cv)).setCell ⟨w.heap.size + 1, 2, none⟩ (.int .i64 0)) (w1.heap.size + 1) (fun _ => True) (.slice Av nv cv) (cutL a0_0 l0_1 a0_2 l1) := by
        have far : ∀ (W : World) (j : Nat) (u : Value), Kd.R k37 37 W (w1.heap.size + 1) (fun _ => True) (.slice Av nv cv) (cutL a0_0 l0_1 a0_2 l1) → Kd.R k37 37 (W.setCell ⟨w.heap.size + 1, j, none⟩ u) (w1.heap.size + 1) (fun _ => True) (.slice Av nv cv) (cutL a0_0 l0_1 a0_2 l1) := fun W j u h =>
          Kd.R_mono (Kd.R_far (p := ⟨w.heap.size + 1, j, none⟩) (Kd.R_bound h) (fun k hk => by have := hk.2.1; show k ≠ w.heap.size + 1; omega) u) (fun _ _ => trivial)
        exact far _ _ _ (far _ _ _ (far _ _ _ hRv))
      replace hR3 := Aside0.mk (Kd.R_lower hR3 (show w.heap.size ≤ w1.heap.size + 1 by omega))
      replace hBf := Aside0.mk hBf
      replace hb1 := Aside0.mk hb1
      clear hRv hbG I
      go_wp2_with fail
      refine bodyPost_ret (results_ct rfl _ _ (w.heap.size + 1) 24 #[.bool a0_0, .slice Av nv cv, .int .i64 0] (0, 0) _ rfl (by refine blk_put (cs := #[.bool a0_0, .slice Av nv cv, .int .i64 0]) ?_ 2 _ rfl; refine blk_put (cs := #[.bool a0_0, .slice none 0 0, .int .i64 0]) ?_ 1 _ rfl; refine blk_put (cs := #[.bool false, .slice none 0 0, .int .i64 0]) ?_ 0 _ rfl; exact hb1.out) Try.underlying24 rfl (by kernel_rfl)) rfl ?_
      exact ⟨_, rfl, hR3.out, below_set (below_set (below_set hBf.out (by omega)) (by omega)) (by omega)⟩
theorem font_Cut.calls (k : Nat) (a0_0 : Bool) (A0_1 : Option Addr) (c0_1 : Nat) (l0_1 : List (S37)) (a0_2 : Int) (A1 : Option Addr) (c1 : Nat) (l1 : List Int) (r1 : Bool) (r2 : List (S37)) (r3 : Int) (r4 : Int) (w : World) (hr0_1 : Kd.C k37 w A0_1 l0_1.length l0_1) (hc0_1 : l0_1.length ≤ c0_1) (hr1 : Kd.C (Kd.int .i64) w A1 l1.length l1) (hc1 : l1.length ≤ c1) (h : font_Cut.f k a0_0 l0_1 a0_2 l1 = some (r1, r2, r3, r4)) :
    Calls Try.prog 20 #[.agg #[.bool a0_0, .slice A0_1 l0_1.length c0_1, .int .i64 a0_2], .slice A1 l1.length c1] w fun e w' => ∃ v1_ : Value, e = .returned (.tuple #[.agg #[.bool r1, v1_, .int .i64 r3], .int .i64 r4]) ∧ Kd.R k37 37 w' w.heap.size (fun _ => True) v1_ r2 ∧ Below w.heap.size w w' := by
  unfold font_Cut.f at h
  by_cases hlen : l1.length ≤ 1000000
  case neg => rw [if_neg hlen] at h; cases h
  rw [if_pos hlen] at h
  obtain ⟨t, ht, hr⟩ := Option.bind_eq_some_iff.mp h
  by_cases ht0 : t = 0
  · rw [if_pos ht0] at hr
    obtain ⟨rfl, rfl, rfl, rfl⟩ : a0_0 = r1 ∧ cutL a0_0 l0_1 a0_2 l1 = r2 ∧ 0 = r3 ∧ 0 = r4 := by simpa using hr
    subst ht0
    exact cut_good k a0_0 A0_1 c0_1 l0_1 a0_2 A1 c1 l1 w hlen hr0_1 hc0_1 hr1 hc1 ht
  · rw [if_neg ht0] at hr
    obtain ⟨rfl, rfl, rfl, rfl⟩ : false = r1 ∧ [] = r2 ∧ 0 = r3 ∧ t = r4 := by simpa using hr
    exact cut_bad k a0_0 A0_1 c0_1 l0_1 a0_2 A1 c1 l1 t w hr0_1 hc0_1 ht ht0
#print axioms font_Cut.calls
end Go.Proofs.Ytjhpcfpccnfniaa.A
