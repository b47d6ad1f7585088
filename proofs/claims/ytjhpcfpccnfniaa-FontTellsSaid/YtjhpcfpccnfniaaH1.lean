/- font.index, font.have. -/
import Derived.Test.YtjhpcfpccnfniaaH0
namespace Go.Proofs.Ytjhpcfpccnfniaa.A
open Go.RowKit Go.Proofs.YtjhpcfpccnfniaaW.PrintWords Go.Proofs.YtjhpcfpccnfniaaW.PrintLast Go.Proofs.YtjhpcfpccnfniaaW.PrintMore
attribute [local go_sem] max2_int min2_int max_two min_two max_three min_three max_four min_four
set_option linter.unusedVariables false
set_option linter.unusedSimpArgs false
def font_index.f (a0_0 : Bool) (l0_1 : List S37) (a0_2 : Int) (a1 : Int) : Option Int := some (ixOf (fun x => x.f0 == a1) l0_1 0)
theorem font_index.calls (a0_0 : Bool) (A0_1 : Option Addr) (c0_1 : Nat) (l0_1 : List (S37)) (a0_2 : Int) (a1 : Int) (r : Int) (w : World) (hr0_1 : Kd.C k37 w A0_1 l0_1.length l0_1) (hc0_1 : l0_1.length ≤ c0_1) (h : font_index.f a0_0 l0_1 a0_2 a1 = some r) :
    Calls Try.prog 36 #[.agg #[.bool a0_0, .slice A0_1 l0_1.length c0_1, .int .i64 a0_2], .int .i64 a1] w fun e w' => e = .returned (.int .i64 r) ∧ Below w.heap.size w w' := by
  obtain rfl : ixOf (fun x : S37 => x.f0 == a1) l0_1 0 = r := Option.some.inj h
  clear h
  go_enter Try.func36, Try.ntmps36
  have hcell : ((w.alloc (.cells #[.bool a0_0, .slice A0_1 l0_1.length c0_1, .int .i64 a0_2] 24)).alloc (.cells #[.int .i64 a1] 3)).cell? ⟨w.heap.size + 1, 0, none⟩ = some (.int .i64 a1) := by
    have := World.cell?_alloc_mark (w.alloc (.cells #[.bool a0_0, .slice A0_1 l0_1.length c0_1, .int .i64 a0_2] 24)) #[.int .i64 a1] 3 (0, 0) 0
    rw [World.size_alloc] at this
    exact this
  have hp : PredB 51 #[.pointer (some ⟨w.heap.size + 1, 0, none⟩)] agg37 (fun x => x.f0 == a1) ((w.alloc (.cells #[.bool a0_0, .slice A0_1 l0_1.length c0_1, .int .i64 a0_2] 24)).alloc (.cells #[.int .i64 a1] 3)) := fun W x hB =>
    index1_calls (w.heap.size + 1) a1 x W ((hB.cell (World.block_lt_of_cell? _ _ hcell)).trans hcell) |>.mono fun e w' h => ⟨h.1, below_step hB h.2⟩
  go_wp2_with fail
  refine (indexFunc37 51 _ _ (fun args w => enters_ Try.func51 (by kernel_rfl) rfl args w) A0_1 c0_1 l0_1 _ hp (Kd.C_alloc (Kd.C_alloc hr0_1 _) _)).mono ?_
  rintro e w' ⟨rfl, hB⟩
  go_wp2_with fail
  go_ret
  exact ⟨rfl, below_step (below_alloc (below_alloc (Below.refl _ _) _) _) hB⟩
end Go.Proofs.Ytjhpcfpccnfniaa.A
