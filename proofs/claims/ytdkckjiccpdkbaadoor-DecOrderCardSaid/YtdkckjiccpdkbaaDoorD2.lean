/- erasurelaw01.DecLaws where one is not right (printed by gen_walks.py). -/
import Derived.Test.YtdkckjiccpdkbaaDoorB3
import Derived.Test.YtdkckjiccpdkbaaDoorH2
namespace Go.Proofs.YtdkckjiccpdkbaaDoor.D
open Go.RowKit Go.Proofs.YtdkckjiccpdkbaaDoor.A Go.Proofs.YtdkckjiccpdkbaaDoor.B Go.Proofs.YtdkckjiccpdkbaaDoor.H Go.Proofs.YtdkckjiccpdkbaaDoorW.PrintWords Go.Proofs.YtdkckjiccpdkbaaDoorW.PrintLast Go.Proofs.YtdkckjiccpdkbaaDoorW.PrintMore
attribute [local go_sem] max2_int min2_int max_two min_two max_three min_three max_four min_four
set_option linter.unusedVariables false
set_option linter.unusedSimpArgs false
set_option maxRecDepth 100000 in
set_option maxHeartbeats 16000000 in
theorem laws_bad0 (a0 a1 b0 b1 c0 c1 : Int) (w : World) (hT : Tab w) (ka : dec_Check.f a0 a1 = some 1) :
    Calls Tryd.prog 4 #[.agg #[.int .i64 a0, .int .i64 a1], .agg #[.int .i64 b0, .int .i64 b1], .agg #[.int .i64 c0, .int .i64 c1]] w fun e w' => e = .returned (.bool true) ∧ Below w.heap.size w w' := by
  have HT := Aside0.mk hT
  clear hT
  have hu23 := Tryd.underlying23
  have Aka := Aside0.mk ka
  clear ka
  go_enter Tryd.func4, Tryd.ntmps4
  go_wp2_with fail
  refine (dec_Check.calls a0 a1 1 _ Aka.out).mono ?_
  rintro e w1 ⟨rfl, hB⟩
  have BKa := blk_below (blk_alloc (blk_alloc (blk_new _ _) _) _) hB
  have BKb := blk_below (blk_alloc (blk_new _ _) _) hB
  rw [World.size_alloc] at BKb
  have BKc := blk_below (blk_new _ _) hB
  rw [World.size_alloc, World.size_alloc] at BKc
  have HB := below_step (below_alloc (below_alloc (below_alloc (Below.refl _ _) _) _) _) hB
  clear hB
  go_wp2_with fail
  refine (erasurelaw01_awake.calls true _ (Tab.below HT.out HB) rfl).mono ?_
  rintro e wz ⟨rfl, hB⟩
  go_wp2
  go_ret
  exact ⟨rfl, below_step HB hB⟩
set_option maxRecDepth 100000 in
set_option maxHeartbeats 16000000 in
theorem laws_bad1 (a0 a1 b0 b1 c0 c1 : Int) (w : World) (hT : Tab w) (ka : dec_Check.f a0 a1 = some 0) (kb : dec_Check.f b0 b1 = some 1) :
    Calls Tryd.prog 4 #[.agg #[.int .i64 a0, .int .i64 a1], .agg #[.int .i64 b0, .int .i64 b1], .agg #[.int .i64 c0, .int .i64 c1]] w fun e w' => e = .returned (.bool true) ∧ Below w.heap.size w w' := by
  have HT := Aside0.mk hT
  clear hT
  have hu23 := Tryd.underlying23
  have Aka := Aside0.mk ka
  have Akb := Aside0.mk kb
  clear ka
  clear kb
  go_enter Tryd.func4, Tryd.ntmps4
  go_wp2_with fail
  refine (dec_Check.calls a0 a1 0 _ Aka.out).mono ?_
  rintro e w1 ⟨rfl, hB⟩
  have BKa := blk_below (blk_alloc (blk_alloc (blk_new _ _) _) _) hB
  have BKb := blk_below (blk_alloc (blk_new _ _) _) hB
  rw [World.size_alloc] at BKb
  have BKc := blk_below (blk_new _ _) hB
  rw [World.size_alloc, World.size_alloc] at BKc
  have HB := below_step (below_alloc (below_alloc (below_alloc (Below.refl _ _) _) _) _) hB
  clear hB
  have hcb0 : w1.cell? ⟨w.heap.size + 1, 0, none⟩ = some (.int .i64 b0) := (blk_cell BKb 0).trans rfl
  have hcb1 : w1.cell? ⟨w.heap.size + 1, 1, none⟩ = some (.int .i64 b1) := (blk_cell BKb 1).trans rfl
  have hlb : w.heap.size + 1 < w1.heap.size := blk_lt BKb
  go_wp2_with fail
  refine (dec_Check.calls b0 b1 1 _ Akb.out).mono ?_
  rintro e w2 ⟨rfl, hB⟩
  clear hcb0 hcb1 hlb
  replace BKa := blk_below BKa hB
  replace BKb := blk_below BKb hB
  replace BKc := blk_below BKc hB
  replace HB := below_step HB hB
  clear hB
  go_wp2_with fail
  refine (erasurelaw01_awake.calls true _ (Tab.below HT.out HB) rfl).mono ?_
  rintro e wz ⟨rfl, hB⟩
  go_wp2
  go_ret
  exact ⟨rfl, below_step HB hB⟩
set_option maxRecDepth 100000 in
set_option maxHeartbeats 16000000 in
theorem laws_bad2 (a0 a1 b0 b1 c0 c1 : Int) (w : World) (hT : Tab w) (ka : dec_Check.f a0 a1 = some 0) (kb : dec_Check.f b0 b1 = some 0) (kc : dec_Check.f c0 c1 = some 1) :
    Calls Tryd.prog 4 #[.agg #[.int .i64 a0, .int .i64 a1], .agg #[.int .i64 b0, .int .i64 b1], .agg #[.int .i64 c0, .int .i64 c1]] w fun e w' => e = .returned (.bool true) ∧ Below w.heap.size w w' := by
  have HT := Aside0.mk hT
  clear hT
  have hu23 := Tryd.underlying23
  have Aka := Aside0.mk ka
  have Akb := Aside0.mk kb
  have Akc := Aside0.mk kc
  clear ka
  clear kb
  clear kc
  go_enter Tryd.func4, Tryd.ntmps4
  go_wp2_with fail
  refine (dec_Check.calls a0 a1 0 _ Aka.out).mono ?_
  rintro e w1 ⟨rfl, hB⟩
  have BKa := blk_below (blk_alloc (blk_alloc (blk_new _ _) _) _) hB
  have BKb := blk_below (blk_alloc (blk_new _ _) _) hB
  rw [World.size_alloc] at BKb
  have BKc := blk_below (blk_new _ _) hB
  rw [World.size_alloc, World.size_alloc] at BKc
  have HB := below_step (below_alloc (below_alloc (below_alloc (Below.refl _ _) _) _) _) hB
  clear hB
  have hcb0 : w1.cell? ⟨w.heap.size + 1, 0, none⟩ = some (.int .i64 b0) := (blk_cell BKb 0).trans rfl
  have hcb1 : w1.cell? ⟨w.heap.size + 1, 1, none⟩ = some (.int .i64 b1) := (blk_cell BKb 1).trans rfl
  have hlb : w.heap.size + 1 < w1.heap.size := blk_lt BKb
  go_wp2_with fail
  refine (dec_Check.calls b0 b1 0 _ Akb.out).mono ?_
  rintro e w2 ⟨rfl, hB⟩
  clear hcb0 hcb1 hlb
  replace BKa := blk_below BKa hB
  replace BKb := blk_below BKb hB
  replace BKc := blk_below BKc hB
  replace HB := below_step HB hB
  clear hB
  have hcc0 : w2.cell? ⟨w.heap.size + 1 + 1, 0, none⟩ = some (.int .i64 c0) := (blk_cell BKc 0).trans rfl
  have hcc1 : w2.cell? ⟨w.heap.size + 1 + 1, 1, none⟩ = some (.int .i64 c1) := (blk_cell BKc 1).trans rfl
  have hlc : w.heap.size + 1 + 1 < w2.heap.size := blk_lt BKc
  go_wp2_with fail
  refine (dec_Check.calls c0 c1 1 _ Akc.out).mono ?_
  rintro e w3 ⟨rfl, hB⟩
  clear hcc0 hcc1 hlc
  replace BKa := blk_below BKa hB
  replace BKb := blk_below BKb hB
  replace BKc := blk_below BKc hB
  replace HB := below_step HB hB
  clear hB
  go_wp2_with fail
  refine (erasurelaw01_awake.calls true _ (Tab.below HT.out HB) rfl).mono ?_
  rintro e wz ⟨rfl, hB⟩
  go_wp2
  go_ret
  exact ⟨rfl, below_step HB hB⟩
end Go.Proofs.YtdkckjiccpdkbaaDoor.D
