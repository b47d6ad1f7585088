/- erasurelaw19.awake: the document's example. -/
import Derived.Test.YtjhpcfpccnfniaaPlainCodes
import Derived.Test.YtjhpcfpccnfniaaF1
namespace Go.Proofs.Ytjhpcfpccnfniaa.A
open Go.RowKit Go.Proofs.YtjhpcfpccnfniaaW.PrintWords Go.Proofs.YtjhpcfpccnfniaaW.PrintLast Go.Proofs.YtjhpcfpccnfniaaW.PrintMore Go.Proofs.Ytjhpcfpccnfniaa.F
attribute [local go_sem] max2_int min2_int max_two min_two max_three min_three max_four min_four
set_option linter.unusedVariables false
set_option linter.unusedSimpArgs false
def erasurelaw19_awake.f : Option Bool := some true
def aw : List S37 := [⟨65, 500, ⟨#[]⟩⟩]
theorem aw_codes : font_Codes.f 5 true [] 0 (⟨#[0, 65, 1, 2]⟩ : ByteArray) = some ([65, 258], 0) := by
  have hR : Plain.Right true ([] : List S37) 0 := ⟨fun j _ h => absurd h (Nat.not_lt_zero _), by omega, by omega, by decide⟩
  rw [Plain.codes_f true [] 0 _ (by decide) (by decide) 5 (by decide), if_pos hR, if_pos (by decide)]
  rfl
theorem aw_find1 : font_Find.f false aw 0 65 = some (65, 500, ⟨#[]⟩) := by rfl
theorem aw_find2 : font_Find.f false aw 0 66 = some (66, 0, ⟨#[]⟩) := by rfl
theorem aw_ints : erasureref05_Ints.f 5 [65, 258] [65, 258] = some true := Plain.ints_f _ _ (by decide) 5 (by decide)
theorem aw_reads (W : World) (g : Nat) (h0 : W.cell? ⟨g, 0, none⟩ = some (.int .i64 65)) (h1 : W.cell? ⟨g, 1, none⟩ = some (.int .i64 500)) (h2 : W.cell? ⟨g, 2, none⟩ = some (.string ⟨#[]⟩)) : Kd.C k37 W (some ⟨g, 0, none⟩) 1 aw := by
  refine ⟨rfl, by decide, fun _ => ⟨_, rfl, fun j p hj => ?_⟩⟩
  obtain ⟨hj1, hj2⟩ := List.getElem?_eq_some_iff.1 hj
  have hj0 : j = 0 := by
    have : aw.length = 1 := rfl
    omega
  subst hj0
  have hp : p = (⟨65, 500, ⟨#[]⟩⟩ : S37) := hj2.symm
  subst hp
  refine ⟨[.int .i64 65, .int .i64 500, .string ⟨#[]⟩], rfl, k37_mk W _, fun i u hi => ?_⟩
  match i, hi with
  | 0, hi => simp at hi; subst hi; exact h0
  | 1, hi => simp at hi; subst hi; exact h1
  | 2, hi => simp at hi; subst hi; exact h2
theorem run_field37_1 (a b c : Value) (W : World) : (Instr.field 37 (.agg #[a, b, c]) 1).run Try.prog W = .ok b W := by
  simp [Instr.field, run_underlying Try.underlying37, part, asAgg, go_sem, Try.isAgg3]
set_option maxRecDepth 100000 in
set_option maxHeartbeats 4000000 in
theorem erasurelaw19_awake.calls (r : Bool) (w : World) (h : erasurelaw19_awake.f = some r) :
    Calls Try.prog 10 #[] w fun e w' => e = .returned (.bool r) ∧ Below w.heap.size w w' := by
  obtain rfl : true = r := Option.some.inj h
  clear h
  have hnil : ∀ W : World, Kd.C k37 W none 0 [] := fun W => ⟨rfl, by decide, fun hn => absurd hn (Nat.lt_irrefl _)⟩
  have hu37 := Try.underlying37
  have hf37 := run_field37_1
  go_enter Try.func10, Try.ntmps10
  go_wp2_with fail
  refine (font_Codes.calls 5 true none 0 [] 0 (⟨#[0, 65, 1, 2]⟩ : ByteArray) [65, 258] 0 _ (hnil _) (Nat.le_refl 0) aw_codes).mono ?_
  rintro e w1 ⟨v, rfl, hR, hB1⟩
  obtain ⟨A, c, rfl, hc, hC⟩ := Kd.R_reads hR
  obtain ⟨W0, hW0⟩ : ∃ W0, (w.alloc (.cells #[.int .i64 65, .int .i64 500, .string ⟨#[]⟩] 37)).alloc (.cells #[.bool false, .slice (some ⟨w.heap.size, 0, none⟩) 1 1, .int .i64 0] 24) = W0 := ⟨_, rfl⟩
  have hzW : W0.heap.size = w.heap.size + 2 := by rw [← hW0, World.size_alloc, World.size_alloc]
  have hBW : Below w.heap.size w W0 := by rw [← hW0]; exact below_alloc (below_alloc (Below.refl _ _) _) _
  have g : ∀ j v, (#[.bool false, .slice (some ⟨w.heap.size, 0, none⟩) 1 1, .int .i64 0] : Array Value)[j]? = some v → W0.cell? ⟨w.heap.size + 1, j, none⟩ = some v := fun j v hj => by
    have := World.cell?_alloc_mark (w.alloc (.cells #[.int .i64 65, .int .i64 500, .string ⟨#[]⟩] 37)) #[.bool false, .slice (some ⟨w.heap.size, 0, none⟩) 1 1, .int .i64 0] 24 (0, 0) j
    rw [World.size_alloc, hW0] at this
    exact this.trans hj
  have q : ∀ j v, (#[.int .i64 65, .int .i64 500, .string ⟨#[]⟩] : Array Value)[j]? = some v → W0.cell? ⟨w.heap.size, j, none⟩ = some v := fun j v hj => by
    have h1 := World.cell?_alloc_mark w #[.int .i64 65, .int .i64 500, .string ⟨#[]⟩] 37 (0, 0) j
    rw [← hW0, World.cell?_alloc_lt _ _ _ (by simp)]
    exact h1.trans hj
  rw [hW0] at hB1 hR
  have hC0 := aw_reads W0 w.heap.size (q 0 _ rfl) (q 1 _ rfl) (q 2 _ rfl)
  have g0 := (hB1.cell (p := ⟨w.heap.size + 1, 0, none⟩) (by show w.heap.size + 1 < _; omega)).trans (g 0 _ rfl)
  have g1 := (hB1.cell (p := ⟨w.heap.size + 1, 1, none⟩) (by show w.heap.size + 1 < _; omega)).trans (g 1 _ rfl)
  have g2 := (hB1.cell (p := ⟨w.heap.size + 1, 2, none⟩) (by show w.heap.size + 1 < _; omega)).trans (g 2 _ rfl)
  have hC1 := Kd.C_below hC0 hB1
  have hB01 : Below w.heap.size w w1 := below_step hBW hB1
  clear hC0 q g hBW hW0 hB1
  go_wp2_with fail
  refine (font_Find.calls false (some ⟨w.heap.size, 0, none⟩) 1 aw 0 65 65 500 ⟨#[]⟩ _ hC1 (Nat.le_refl 1) aw_find1).mono ?_
  rintro e w2 ⟨rfl, hB2⟩
  have hz2 := hB01.size
  replace g0 := (hB2.cell (World.block_lt_of_cell? _ _ g0)).trans g0
  replace g1 := (hB2.cell (World.block_lt_of_cell? _ _ g1)).trans g1
  replace g2 := (hB2.cell (World.block_lt_of_cell? _ _ g2)).trans g2
  have hC2 := Kd.C_below hC1 hB2
  have hB02 : Below w.heap.size w w2 := below_step hB01 hB2
  replace hC := Kd.C_below hC hB2
  clear hC1 hB2 hB01
  go_wp2_with fail
  refine (font_Find.calls false (some ⟨w.heap.size, 0, none⟩) 1 aw 0 66 66 0 ⟨#[]⟩ _ hC2 (Nat.le_refl 1) aw_find2).mono ?_
  rintro e w3 ⟨rfl, hB3⟩
  replace hC := Kd.C_below hC hB3
  have hB03 : Below w.heap.size w w3 := below_step hB02 hB3
  clear hC2 hB3 hB02
  go_wp2_with fail
  have hlit : Kd.C (Kd.int .i64) (w3.alloc (.cells #[.int .i64 65, .int .i64 258] 3)) (some ⟨w3.heap.size, 0, none⟩) 2 [65, 258] := by
    have h2 := World.ownsRow_lit (base := 0) (e := 3) (size := 1) w3 (nums .i64 [65, 258]).toArray 2 (Nat.zero_le _) (by simp [maxLen]) (by simp [nums])
    have h3 : (w3.alloc (.cells (nums .i64 [65, 258]).toArray 3)).ownsRow 0 3 1 (.slice (some ⟨w3.heap.size, 0, none⟩) 2 2) 2 (encs (Value.int .i64) [65, 258]) := by simpa [nums, encs] using h2
    exact (Kd.R_reads' (Kd.R_of_own (h1 := fun _ => rfl) (ok := fun _ => True) h3 (fun _ _ => trivial))).2.2
  refine (erasureref05_Ints.calls 5 A c [65, 258] (some ⟨w3.heap.size, 0, none⟩) 2 [65, 258] true _ (Kd.C_alloc hC _) hc hlit (Nat.le_refl 2) aw_ints).mono ?_
  rintro e w4 ⟨rfl, ⟨m, rfl⟩⟩
  go_wp2_with fail
  go_ret
  exact ⟨rfl, pw_below_drewN (below_alloc hB03 _) _⟩
end Go.Proofs.Ytjhpcfpccnfniaa.A
