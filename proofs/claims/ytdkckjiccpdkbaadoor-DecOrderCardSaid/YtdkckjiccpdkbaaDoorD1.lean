/- erasurelaw01.DecOrder (printed by gen_walks.py). -/
import Derived.Test.YtdkckjiccpdkbaaDoorB3
import Derived.Test.YtdkckjiccpdkbaaDoorH2
namespace Go.Proofs.YtdkckjiccpdkbaaDoor.D
open Go.RowKit Go.Proofs.YtdkckjiccpdkbaaDoor.A Go.Proofs.YtdkckjiccpdkbaaDoor.B Go.Proofs.YtdkckjiccpdkbaaDoor.H Go.Proofs.YtdkckjiccpdkbaaDoorW.PrintWords Go.Proofs.YtdkckjiccpdkbaaDoorW.PrintLast Go.Proofs.YtdkckjiccpdkbaaDoorW.PrintMore
attribute [local go_sem] max2_int min2_int max_two min_two max_three min_three max_four min_four
set_option linter.unusedVariables false
set_option linter.unusedSimpArgs false
set_option maxRecDepth 100000 in
set_option maxHeartbeats 16000000 in
theorem order_walk (k : Nat) (a0 a1 b0 b1 c0 c1 x e y f z g v h ra rb rc n0 n1 ni d0 d1 j : Int) (w : World) (hT : Tab w)
    (ka : dec_Check.f a0 a1 = some ra) (kb : dec_Check.f b0 b1 = some rb) (kc : dec_Check.f c0 c1 = some rc)
    (hx : dec_Compare.f k a0 a1 b0 b1 = some (x, e)) (hy : dec_Compare.f k b0 b1 a0 a1 = some (y, f)) (hz : dec_Compare.f k b0 b1 c0 c1 = some (z, g)) (hw : dec_Compare.f k a0 a1 c0 c1 = some (v, h))
    (hn : dec_Neg.f b0 b1 = some (n0, n1, ni)) (hd : dec_Add.f k a0 a1 n0 n1 = some (d0, d1, j))
    (H : (ra = 1 ∧ e = 1) ∨ (ra = 0 ∧ rb = 1 ∧ e = 1) ∨ (ra = 0 ∧ rb = 0 ∧ rc = 1 ∧ e = 0 ∧ g = 1) ∨ (e = 0 ∧ f = 0 ∧ g = 0 ∧ h = 0 ∧ ni = 0 ∧ y = -x ∧ (x = -1 ∨ x = 0 ∨ x = 1) ∧ (z = -1 ∨ z = 0 ∨ z = 1) ∧ (v = -1 ∨ v = 0 ∨ v = 1) ∧ (x ≤ 0 → z ≤ 0 → v ≤ 0) ∧ ((decide (x = 0)) = (decide (a0 = b0) && decide (a1 = b1))) ∧ (j = 0 → (d0 < 0 ↔ x < 0) ∧ (d0 = 0 ↔ x = 0)))) :
    Calls Tryd.prog 8 #[.agg #[.int .i64 a0, .int .i64 a1], .agg #[.int .i64 b0, .int .i64 b1], .agg #[.int .i64 c0, .int .i64 c1]] w fun e w' => e = .returned (.bool true) ∧ Below w.heap.size w w' := by
  have HT := Aside0.mk hT
  clear hT
  have hu23 := Tryd.underlying23
  have HH := Aside0.mk H
  clear H
  have Ahx := Aside0.mk hx
  clear hx
  have Ahy := Aside0.mk hy
  clear hy
  have Ahz := Aside0.mk hz
  clear hz
  have Ahw := Aside0.mk hw
  clear hw
  have Ahn := Aside0.mk hn
  clear hn
  have Ahd := Aside0.mk hd
  clear hd
  have Aka := Aside0.mk ka
  clear ka
  have Akb := Aside0.mk kb
  clear kb
  have Akc := Aside0.mk kc
  clear kc
  go_enter Tryd.func8, Tryd.ntmps8
  go_wp2_with fail
  refine (dec_Compare.calls k a0 a1 b0 b1 x e _ Ahx.out).mono ?_
  rintro e w1 ⟨rfl, hB⟩
  have BKa := blk_below (blk_alloc (blk_alloc (blk_new _ _) _) _) hB
  have BKb := blk_below (blk_alloc (blk_new _ _) _) hB
  rw [World.size_alloc] at BKb
  have BKc := blk_below (blk_new _ _) hB
  rw [World.size_alloc, World.size_alloc] at BKc
  have HB := below_step (below_alloc (below_alloc (below_alloc (Below.refl _ _) _) _) _) hB
  clear hB
  have hca0 : w1.cell? ⟨w.heap.size, 0, none⟩ = some (.int .i64 a0) := (blk_cell BKa 0).trans rfl
  have hca1 : w1.cell? ⟨w.heap.size, 1, none⟩ = some (.int .i64 a1) := (blk_cell BKa 1).trans rfl
  have hla : w.heap.size < w1.heap.size := blk_lt BKa
  have hcb0 : w1.cell? ⟨w.heap.size + 1, 0, none⟩ = some (.int .i64 b0) := (blk_cell BKb 0).trans rfl
  have hcb1 : w1.cell? ⟨w.heap.size + 1, 1, none⟩ = some (.int .i64 b1) := (blk_cell BKb 1).trans rfl
  have hlb : w.heap.size + 1 < w1.heap.size := blk_lt BKb
  go_wp2_with fail
  refine (dec_Compare.calls k b0 b1 a0 a1 y f _ Ahy.out).mono ?_
  rintro e w2 ⟨rfl, hB⟩
  clear hca0 hca1 hla
  clear hcb0 hcb1 hlb
  replace BKa := blk_below BKa hB
  replace BKb := blk_below BKb hB
  replace BKc := blk_below BKc hB
  replace HB := below_step HB hB
  clear hB
  have hcb0 : w2.cell? ⟨w.heap.size + 1, 0, none⟩ = some (.int .i64 b0) := (blk_cell BKb 0).trans rfl
  have hcb1 : w2.cell? ⟨w.heap.size + 1, 1, none⟩ = some (.int .i64 b1) := (blk_cell BKb 1).trans rfl
  have hlb : w.heap.size + 1 < w2.heap.size := blk_lt BKb
  have hcc0 : w2.cell? ⟨w.heap.size + 1 + 1, 0, none⟩ = some (.int .i64 c0) := (blk_cell BKc 0).trans rfl
  have hcc1 : w2.cell? ⟨w.heap.size + 1 + 1, 1, none⟩ = some (.int .i64 c1) := (blk_cell BKc 1).trans rfl
  have hlc : w.heap.size + 1 + 1 < w2.heap.size := blk_lt BKc
  go_wp2_with fail
  refine (dec_Compare.calls k b0 b1 c0 c1 z g _ Ahz.out).mono ?_
  rintro e w3 ⟨rfl, hB⟩
  clear hcb0 hcb1 hlb
  clear hcc0 hcc1 hlc
  replace BKa := blk_below BKa hB
  replace BKb := blk_below BKb hB
  replace BKc := blk_below BKc hB
  replace HB := below_step HB hB
  clear hB
  have hca0 : w3.cell? ⟨w.heap.size, 0, none⟩ = some (.int .i64 a0) := (blk_cell BKa 0).trans rfl
  have hca1 : w3.cell? ⟨w.heap.size, 1, none⟩ = some (.int .i64 a1) := (blk_cell BKa 1).trans rfl
  have hla : w.heap.size < w3.heap.size := blk_lt BKa
  have hcc0 : w3.cell? ⟨w.heap.size + 1 + 1, 0, none⟩ = some (.int .i64 c0) := (blk_cell BKc 0).trans rfl
  have hcc1 : w3.cell? ⟨w.heap.size + 1 + 1, 1, none⟩ = some (.int .i64 c1) := (blk_cell BKc 1).trans rfl
  have hlc : w.heap.size + 1 + 1 < w3.heap.size := blk_lt BKc
  go_wp2_with fail
  refine (dec_Compare.calls k a0 a1 c0 c1 v h _ Ahw.out).mono ?_
  rintro e w4 ⟨rfl, hB⟩
  clear hca0 hca1 hla
  clear hcc0 hcc1 hlc
  replace BKa := blk_below BKa hB
  replace BKb := blk_below BKb hB
  replace BKc := blk_below BKc hB
  replace HB := below_step HB hB
  clear hB
  have hca0 : w4.cell? ⟨w.heap.size, 0, none⟩ = some (.int .i64 a0) := (blk_cell BKa 0).trans rfl
  have hca1 : w4.cell? ⟨w.heap.size, 1, none⟩ = some (.int .i64 a1) := (blk_cell BKa 1).trans rfl
  have hla : w.heap.size < w4.heap.size := blk_lt BKa
  have hcb0 : w4.cell? ⟨w.heap.size + 1, 0, none⟩ = some (.int .i64 b0) := (blk_cell BKb 0).trans rfl
  have hcb1 : w4.cell? ⟨w.heap.size + 1, 1, none⟩ = some (.int .i64 b1) := (blk_cell BKb 1).trans rfl
  have hlb : w.heap.size + 1 < w4.heap.size := blk_lt BKb
  have hcc0 : w4.cell? ⟨w.heap.size + 1 + 1, 0, none⟩ = some (.int .i64 c0) := (blk_cell BKc 0).trans rfl
  have hcc1 : w4.cell? ⟨w.heap.size + 1 + 1, 1, none⟩ = some (.int .i64 c1) := (blk_cell BKc 1).trans rfl
  have hlc : w.heap.size + 1 + 1 < w4.heap.size := blk_lt BKc
  rcases HH.out with ⟨rfl, rfl⟩ | ⟨rfl, rfl, rfl⟩ | ⟨rfl, rfl, rfl, rfl, rfl⟩ | ⟨rfl, rfl, rfl, rfl, rfl, rfl, Hx, Hz, Hv, Hxzv, Heq, Hd⟩
  · clear HH
    go_wp2_with fail
    refine (erasurelaw01_awake.calls true _ (Tab.below HT.out (by repeat (first | exact HB | apply below_alloc))) rfl).mono ?_
    rintro e w5 ⟨rfl, hB⟩
    replace BKa := blk_below BKa hB
    replace BKb := blk_below BKb hB
    replace BKc := blk_below BKc hB
    replace HB := below_step HB hB
    clear hB
    have hqa0 : w5.cell? ⟨w.heap.size, 0, none⟩ = some (.int .i64 a0) := (blk_cell BKa 0).trans rfl
    have hqa1 : w5.cell? ⟨w.heap.size, 1, none⟩ = some (.int .i64 a1) := (blk_cell BKa 1).trans rfl
    go_wp2_with fail
    refine (dec_Check.calls a0 a1 1 _ Aka.out).mono ?_
    rintro e w6 ⟨rfl, hB⟩
    replace BKa := blk_below BKa hB
    replace BKb := blk_below BKb hB
    replace BKc := blk_below BKc hB
    replace HB := below_step HB hB
    clear hB
    go_wp2
    go_ret
    exact ⟨rfl, HB⟩
  · clear HH
    go_wp2_with fail
    refine (erasurelaw01_awake.calls true _ (Tab.below HT.out (by repeat (first | exact HB | apply below_alloc))) rfl).mono ?_
    rintro e w5 ⟨rfl, hB⟩
    replace BKa := blk_below BKa hB
    replace BKb := blk_below BKb hB
    replace BKc := blk_below BKc hB
    replace HB := below_step HB hB
    clear hB
    have hqa0 : w5.cell? ⟨w.heap.size, 0, none⟩ = some (.int .i64 a0) := (blk_cell BKa 0).trans rfl
    have hqa1 : w5.cell? ⟨w.heap.size, 1, none⟩ = some (.int .i64 a1) := (blk_cell BKa 1).trans rfl
    go_wp2_with fail
    refine (dec_Check.calls a0 a1 0 _ Aka.out).mono ?_
    rintro e w6 ⟨rfl, hB⟩
    replace BKa := blk_below BKa hB
    replace BKb := blk_below BKb hB
    replace BKc := blk_below BKc hB
    replace HB := below_step HB hB
    clear hB
    have hqb0 : w6.cell? ⟨w.heap.size + 1, 0, none⟩ = some (.int .i64 b0) := (blk_cell BKb 0).trans rfl
    have hqb1 : w6.cell? ⟨w.heap.size + 1, 1, none⟩ = some (.int .i64 b1) := (blk_cell BKb 1).trans rfl
    go_wp2_with fail
    refine (dec_Check.calls b0 b1 1 _ Akb.out).mono ?_
    rintro e w7 ⟨rfl, hB⟩
    replace BKa := blk_below BKa hB
    replace BKb := blk_below BKb hB
    replace BKc := blk_below BKc hB
    replace HB := below_step HB hB
    clear hB
    go_wp2
    go_ret
    exact ⟨rfl, HB⟩
  · clear HH
    go_wp2_with fail
    refine (erasurelaw01_awake.calls true _ (Tab.below HT.out (by repeat (first | exact HB | apply below_alloc))) rfl).mono ?_
    rintro e w5 ⟨rfl, hB⟩
    replace BKa := blk_below BKa hB
    replace BKb := blk_below BKb hB
    replace BKc := blk_below BKc hB
    replace HB := below_step HB hB
    clear hB
    have hqa0 : w5.cell? ⟨w.heap.size, 0, none⟩ = some (.int .i64 a0) := (blk_cell BKa 0).trans rfl
    have hqa1 : w5.cell? ⟨w.heap.size, 1, none⟩ = some (.int .i64 a1) := (blk_cell BKa 1).trans rfl
    go_wp2_with fail
    refine (dec_Check.calls a0 a1 0 _ Aka.out).mono ?_
    rintro e w6 ⟨rfl, hB⟩
    replace BKa := blk_below BKa hB
    replace BKb := blk_below BKb hB
    replace BKc := blk_below BKc hB
    replace HB := below_step HB hB
    clear hB
    have hqb0 : w6.cell? ⟨w.heap.size + 1, 0, none⟩ = some (.int .i64 b0) := (blk_cell BKb 0).trans rfl
    have hqb1 : w6.cell? ⟨w.heap.size + 1, 1, none⟩ = some (.int .i64 b1) := (blk_cell BKb 1).trans rfl
    go_wp2_with fail
    refine (dec_Check.calls b0 b1 0 _ Akb.out).mono ?_
    rintro e w7 ⟨rfl, hB⟩
    replace BKa := blk_below BKa hB
    replace BKb := blk_below BKb hB
    replace BKc := blk_below BKc hB
    replace HB := below_step HB hB
    clear hB
    have hqc0 : w7.cell? ⟨w.heap.size + 1 + 1, 0, none⟩ = some (.int .i64 c0) := (blk_cell BKc 0).trans rfl
    have hqc1 : w7.cell? ⟨w.heap.size + 1 + 1, 1, none⟩ = some (.int .i64 c1) := (blk_cell BKc 1).trans rfl
    go_wp2_with fail
    refine (dec_Check.calls c0 c1 1 _ Akc.out).mono ?_
    rintro e w8 ⟨rfl, hB⟩
    replace BKa := blk_below BKa hB
    replace BKb := blk_below BKb hB
    replace BKc := blk_below BKc hB
    replace HB := below_step HB hB
    clear hB
    go_wp2
    go_ret
    exact ⟨rfl, HB⟩
  · clear HH
    have XHx := Aside0.mk Hx
    clear Hx
    have XHz := Aside0.mk Hz
    clear Hz
    have XHv := Aside0.mk Hv
    clear Hv
    have XHxzv := Aside0.mk Hxzv
    clear Hxzv
    have XHeq := Aside0.mk Heq
    clear Heq
    have XHd := Aside0.mk Hd
    clear Hd
    go_wp2_with fail
    refine (dec_Neg.calls b0 b1 n0 n1 0 _ Ahn.out).mono ?_
    rintro e w5 ⟨rfl, hB⟩
    clear hca0 hca1 hla
    clear hcb0 hcb1 hlb
    clear hcc0 hcc1 hlc
    replace BKa := blk_below BKa hB
    replace BKb := blk_below BKb hB
    replace BKc := blk_below BKc hB
    replace HB := below_step HB hB
    clear hB
    have hca0 : w5.cell? ⟨w.heap.size, 0, none⟩ = some (.int .i64 a0) := (blk_cell BKa 0).trans rfl
    have hca1 : w5.cell? ⟨w.heap.size, 1, none⟩ = some (.int .i64 a1) := (blk_cell BKa 1).trans rfl
    have hla : w.heap.size < w5.heap.size := blk_lt BKa
    go_wp2_with fail
    refine (dec_Add.calls k a0 a1 n0 n1 d0 d1 j _ Ahd.out).mono ?_
    rintro e w6 ⟨rfl, hB⟩
    clear hca0 hca1 hla
    replace BKa := blk_below (blk_alloc BKa _) hB
    replace BKb := blk_below (blk_alloc BKb _) hB
    replace BKc := blk_below (blk_alloc BKc _) hB
    have BKn := blk_below (blk_new w5 _) hB
    replace HB := below_step (below_alloc HB _) hB
    clear hB
    have hca0 : w6.cell? ⟨w.heap.size, 0, none⟩ = some (.int .i64 a0) := (blk_cell BKa 0).trans rfl
    have hca1 : w6.cell? ⟨w.heap.size, 1, none⟩ = some (.int .i64 a1) := (blk_cell BKa 1).trans rfl
    have hla : w.heap.size < w6.heap.size := blk_lt BKa
    have hcb0 : w6.cell? ⟨w.heap.size + 1, 0, none⟩ = some (.int .i64 b0) := (blk_cell BKb 0).trans rfl
    have hcb1 : w6.cell? ⟨w.heap.size + 1, 1, none⟩ = some (.int .i64 b1) := (blk_cell BKb 1).trans rfl
    have hlb : w.heap.size + 1 < w6.heap.size := blk_lt BKb
    have hj : (∃ q : Bool, (j == 0) = q ∧ decide (j = 0) = q) := ⟨_, rfl, rfl⟩
    rcases XHx.out with rfl | rfl | rfl
    · skip
      have HE := XHeq.out
      rw [show decide ((-1 : Int) = 0) = false from rfl] at HE
      have HE2 : (a0 == b0 && a1 == b1) = false := by simpa using HE.symm
      clear HE
      by_cases nj : j = 0
      · obtain ⟨D1, D2⟩ := XHd.out nj
        subst nj
        have q1 : decide (d0 < 0) = true := by simp [D1]
        have q2 : decide (d0 = 0) = false := by simp [D2]
        have q3 : (d0 == 0) = false := by simp [D2]
        clear D1 D2
        rcases XHz.out with rfl | rfl | rfl
        · rcases XHv.out with rfl | rfl | rfl
          · skip
            go_wp2_with fail
            refine (erasurelaw01_awake.calls true _ (Tab.below HT.out (by repeat (first | exact HB | apply below_alloc))) rfl).mono ?_
            rintro e wz ⟨rfl, hB⟩
            have hqa0 : wz.cell? ⟨w.heap.size, 0, none⟩ = some (.int .i64 a0) := (blk_cell (blk_below (blk_alloc BKa _) hB) 0).trans rfl
            have hqa1 : wz.cell? ⟨w.heap.size, 1, none⟩ = some (.int .i64 a1) := (blk_cell (blk_below (blk_alloc BKa _) hB) 1).trans rfl
            have hqb0 : wz.cell? ⟨w.heap.size + 1, 0, none⟩ = some (.int .i64 b0) := (blk_cell (blk_below (blk_alloc BKb _) hB) 0).trans rfl
            have hqb1 : wz.cell? ⟨w.heap.size + 1, 1, none⟩ = some (.int .i64 b1) := (blk_cell (blk_below (blk_alloc BKb _) hB) 1).trans rfl
            go_wp2
            all_goals first | (go_ret; exact ⟨rfl, below_step (below_alloc HB _) hB⟩) | (exfalso; revert HE2; simp [*]; done)
          · skip
            go_wp2_with fail
            refine (erasurelaw01_awake.calls true _ (Tab.below HT.out (by repeat (first | exact HB | apply below_alloc))) rfl).mono ?_
            rintro e wz ⟨rfl, hB⟩
            have hqa0 : wz.cell? ⟨w.heap.size, 0, none⟩ = some (.int .i64 a0) := (blk_cell (blk_below (blk_alloc BKa _) hB) 0).trans rfl
            have hqa1 : wz.cell? ⟨w.heap.size, 1, none⟩ = some (.int .i64 a1) := (blk_cell (blk_below (blk_alloc BKa _) hB) 1).trans rfl
            have hqb0 : wz.cell? ⟨w.heap.size + 1, 0, none⟩ = some (.int .i64 b0) := (blk_cell (blk_below (blk_alloc BKb _) hB) 0).trans rfl
            have hqb1 : wz.cell? ⟨w.heap.size + 1, 1, none⟩ = some (.int .i64 b1) := (blk_cell (blk_below (blk_alloc BKb _) hB) 1).trans rfl
            go_wp2
            all_goals first | (go_ret; exact ⟨rfl, below_step (below_alloc HB _) hB⟩) | (exfalso; revert HE2; simp [*]; done)
          · exact absurd (XHxzv.out (by decide) (by decide)) (by decide)
        · rcases XHv.out with rfl | rfl | rfl
          · skip
            go_wp2_with fail
            refine (erasurelaw01_awake.calls true _ (Tab.below HT.out (by repeat (first | exact HB | apply below_alloc))) rfl).mono ?_
            rintro e wz ⟨rfl, hB⟩
            have hqa0 : wz.cell? ⟨w.heap.size, 0, none⟩ = some (.int .i64 a0) := (blk_cell (blk_below (blk_alloc BKa _) hB) 0).trans rfl
            have hqa1 : wz.cell? ⟨w.heap.size, 1, none⟩ = some (.int .i64 a1) := (blk_cell (blk_below (blk_alloc BKa _) hB) 1).trans rfl
            have hqb0 : wz.cell? ⟨w.heap.size + 1, 0, none⟩ = some (.int .i64 b0) := (blk_cell (blk_below (blk_alloc BKb _) hB) 0).trans rfl
            have hqb1 : wz.cell? ⟨w.heap.size + 1, 1, none⟩ = some (.int .i64 b1) := (blk_cell (blk_below (blk_alloc BKb _) hB) 1).trans rfl
            go_wp2
            all_goals first | (go_ret; exact ⟨rfl, below_step (below_alloc HB _) hB⟩) | (exfalso; revert HE2; simp [*]; done)
          · skip
            go_wp2_with fail
            refine (erasurelaw01_awake.calls true _ (Tab.below HT.out (by repeat (first | exact HB | apply below_alloc))) rfl).mono ?_
            rintro e wz ⟨rfl, hB⟩
            have hqa0 : wz.cell? ⟨w.heap.size, 0, none⟩ = some (.int .i64 a0) := (blk_cell (blk_below (blk_alloc BKa _) hB) 0).trans rfl
            have hqa1 : wz.cell? ⟨w.heap.size, 1, none⟩ = some (.int .i64 a1) := (blk_cell (blk_below (blk_alloc BKa _) hB) 1).trans rfl
            have hqb0 : wz.cell? ⟨w.heap.size + 1, 0, none⟩ = some (.int .i64 b0) := (blk_cell (blk_below (blk_alloc BKb _) hB) 0).trans rfl
            have hqb1 : wz.cell? ⟨w.heap.size + 1, 1, none⟩ = some (.int .i64 b1) := (blk_cell (blk_below (blk_alloc BKb _) hB) 1).trans rfl
            go_wp2
            all_goals first | (go_ret; exact ⟨rfl, below_step (below_alloc HB _) hB⟩) | (exfalso; revert HE2; simp [*]; done)
          · exact absurd (XHxzv.out (by decide) (by decide)) (by decide)
        · skip
          go_wp2_with fail
          refine (erasurelaw01_awake.calls true _ (Tab.below HT.out (by repeat (first | exact HB | apply below_alloc))) rfl).mono ?_
          rintro e wz ⟨rfl, hB⟩
          have hqa0 : wz.cell? ⟨w.heap.size, 0, none⟩ = some (.int .i64 a0) := (blk_cell (blk_below (blk_alloc BKa _) hB) 0).trans rfl
          have hqa1 : wz.cell? ⟨w.heap.size, 1, none⟩ = some (.int .i64 a1) := (blk_cell (blk_below (blk_alloc BKa _) hB) 1).trans rfl
          have hqb0 : wz.cell? ⟨w.heap.size + 1, 0, none⟩ = some (.int .i64 b0) := (blk_cell (blk_below (blk_alloc BKb _) hB) 0).trans rfl
          have hqb1 : wz.cell? ⟨w.heap.size + 1, 1, none⟩ = some (.int .i64 b1) := (blk_cell (blk_below (blk_alloc BKb _) hB) 1).trans rfl
          go_wp2
          all_goals first | (go_ret; exact ⟨rfl, below_step (below_alloc HB _) hB⟩) | (exfalso; revert HE2; simp [*]; done)
      · have q1 : (j == 0) = false := beq_eq_false_iff_ne.mpr nj
        have q2 : decide (j = 0) = false := decide_eq_false nj
        clear nj
        rcases XHz.out with rfl | rfl | rfl
        · rcases XHv.out with rfl | rfl | rfl
          · skip
            go_wp2_with fail
            refine (erasurelaw01_awake.calls true _ (Tab.below HT.out (by repeat (first | exact HB | apply below_alloc))) rfl).mono ?_
            rintro e wz ⟨rfl, hB⟩
            have hqa0 : wz.cell? ⟨w.heap.size, 0, none⟩ = some (.int .i64 a0) := (blk_cell (blk_below (blk_alloc BKa _) hB) 0).trans rfl
            have hqa1 : wz.cell? ⟨w.heap.size, 1, none⟩ = some (.int .i64 a1) := (blk_cell (blk_below (blk_alloc BKa _) hB) 1).trans rfl
            have hqb0 : wz.cell? ⟨w.heap.size + 1, 0, none⟩ = some (.int .i64 b0) := (blk_cell (blk_below (blk_alloc BKb _) hB) 0).trans rfl
            have hqb1 : wz.cell? ⟨w.heap.size + 1, 1, none⟩ = some (.int .i64 b1) := (blk_cell (blk_below (blk_alloc BKb _) hB) 1).trans rfl
            go_wp2
            all_goals first | (go_ret; exact ⟨rfl, below_step (below_alloc HB _) hB⟩) | (exfalso; revert HE2; simp [*]; done)
          · skip
            go_wp2_with fail
            refine (erasurelaw01_awake.calls true _ (Tab.below HT.out (by repeat (first | exact HB | apply below_alloc))) rfl).mono ?_
            rintro e wz ⟨rfl, hB⟩
            have hqa0 : wz.cell? ⟨w.heap.size, 0, none⟩ = some (.int .i64 a0) := (blk_cell (blk_below (blk_alloc BKa _) hB) 0).trans rfl
            have hqa1 : wz.cell? ⟨w.heap.size, 1, none⟩ = some (.int .i64 a1) := (blk_cell (blk_below (blk_alloc BKa _) hB) 1).trans rfl
            have hqb0 : wz.cell? ⟨w.heap.size + 1, 0, none⟩ = some (.int .i64 b0) := (blk_cell (blk_below (blk_alloc BKb _) hB) 0).trans rfl
            have hqb1 : wz.cell? ⟨w.heap.size + 1, 1, none⟩ = some (.int .i64 b1) := (blk_cell (blk_below (blk_alloc BKb _) hB) 1).trans rfl
            go_wp2
            all_goals first | (go_ret; exact ⟨rfl, below_step (below_alloc HB _) hB⟩) | (exfalso; revert HE2; simp [*]; done)
          · exact absurd (XHxzv.out (by decide) (by decide)) (by decide)
        · rcases XHv.out with rfl | rfl | rfl
          · skip
            go_wp2_with fail
            refine (erasurelaw01_awake.calls true _ (Tab.below HT.out (by repeat (first | exact HB | apply below_alloc))) rfl).mono ?_
            rintro e wz ⟨rfl, hB⟩
            have hqa0 : wz.cell? ⟨w.heap.size, 0, none⟩ = some (.int .i64 a0) := (blk_cell (blk_below (blk_alloc BKa _) hB) 0).trans rfl
            have hqa1 : wz.cell? ⟨w.heap.size, 1, none⟩ = some (.int .i64 a1) := (blk_cell (blk_below (blk_alloc BKa _) hB) 1).trans rfl
            have hqb0 : wz.cell? ⟨w.heap.size + 1, 0, none⟩ = some (.int .i64 b0) := (blk_cell (blk_below (blk_alloc BKb _) hB) 0).trans rfl
            have hqb1 : wz.cell? ⟨w.heap.size + 1, 1, none⟩ = some (.int .i64 b1) := (blk_cell (blk_below (blk_alloc BKb _) hB) 1).trans rfl
            go_wp2
            all_goals first | (go_ret; exact ⟨rfl, below_step (below_alloc HB _) hB⟩) | (exfalso; revert HE2; simp [*]; done)
          · skip
            go_wp2_with fail
            refine (erasurelaw01_awake.calls true _ (Tab.below HT.out (by repeat (first | exact HB | apply below_alloc))) rfl).mono ?_
            rintro e wz ⟨rfl, hB⟩
            have hqa0 : wz.cell? ⟨w.heap.size, 0, none⟩ = some (.int .i64 a0) := (blk_cell (blk_below (blk_alloc BKa _) hB) 0).trans rfl
            have hqa1 : wz.cell? ⟨w.heap.size, 1, none⟩ = some (.int .i64 a1) := (blk_cell (blk_below (blk_alloc BKa _) hB) 1).trans rfl
            have hqb0 : wz.cell? ⟨w.heap.size + 1, 0, none⟩ = some (.int .i64 b0) := (blk_cell (blk_below (blk_alloc BKb _) hB) 0).trans rfl
            have hqb1 : wz.cell? ⟨w.heap.size + 1, 1, none⟩ = some (.int .i64 b1) := (blk_cell (blk_below (blk_alloc BKb _) hB) 1).trans rfl
            go_wp2
            all_goals first | (go_ret; exact ⟨rfl, below_step (below_alloc HB _) hB⟩) | (exfalso; revert HE2; simp [*]; done)
          · exact absurd (XHxzv.out (by decide) (by decide)) (by decide)
        · skip
          go_wp2_with fail
          refine (erasurelaw01_awake.calls true _ (Tab.below HT.out (by repeat (first | exact HB | apply below_alloc))) rfl).mono ?_
          rintro e wz ⟨rfl, hB⟩
          have hqa0 : wz.cell? ⟨w.heap.size, 0, none⟩ = some (.int .i64 a0) := (blk_cell (blk_below (blk_alloc BKa _) hB) 0).trans rfl
          have hqa1 : wz.cell? ⟨w.heap.size, 1, none⟩ = some (.int .i64 a1) := (blk_cell (blk_below (blk_alloc BKa _) hB) 1).trans rfl
          have hqb0 : wz.cell? ⟨w.heap.size + 1, 0, none⟩ = some (.int .i64 b0) := (blk_cell (blk_below (blk_alloc BKb _) hB) 0).trans rfl
          have hqb1 : wz.cell? ⟨w.heap.size + 1, 1, none⟩ = some (.int .i64 b1) := (blk_cell (blk_below (blk_alloc BKb _) hB) 1).trans rfl
          go_wp2
          all_goals first | (go_ret; exact ⟨rfl, below_step (below_alloc HB _) hB⟩) | (exfalso; revert HE2; simp [*]; done)
    · skip
      have HE := XHeq.out
      rw [show decide ((0 : Int) = 0) = true from rfl] at HE
      obtain ⟨rfl, rfl⟩ : a0 = b0 ∧ a1 = b1 := by simpa using HE.symm
      clear HE
      by_cases nj : j = 0
      · obtain ⟨D1, D2⟩ := XHd.out nj
        subst nj
        have q1 : decide (d0 < 0) = false := by simp [D1]
        have q2 : decide (d0 = 0) = true := by simp [D2]
        have q3 : (d0 == 0) = true := by simp [D2]
        clear D1 D2
        rcases XHz.out with rfl | rfl | rfl
        · rcases XHv.out with rfl | rfl | rfl
          · skip
            go_wp2_with fail
            refine (erasurelaw01_awake.calls true _ (Tab.below HT.out (by repeat (first | exact HB | apply below_alloc))) rfl).mono ?_
            rintro e wz ⟨rfl, hB⟩
            have hqa0 : wz.cell? ⟨w.heap.size, 0, none⟩ = some (.int .i64 a0) := (blk_cell (blk_below (blk_alloc BKa _) hB) 0).trans rfl
            have hqa1 : wz.cell? ⟨w.heap.size, 1, none⟩ = some (.int .i64 a1) := (blk_cell (blk_below (blk_alloc BKa _) hB) 1).trans rfl
            have hqb0 : wz.cell? ⟨w.heap.size + 1, 0, none⟩ = some (.int .i64 a0) := (blk_cell (blk_below (blk_alloc BKb _) hB) 0).trans rfl
            have hqb1 : wz.cell? ⟨w.heap.size + 1, 1, none⟩ = some (.int .i64 a1) := (blk_cell (blk_below (blk_alloc BKb _) hB) 1).trans rfl
            go_wp2
            all_goals first | (go_ret; exact ⟨rfl, below_step (below_alloc HB _) hB⟩) | (exfalso; revert HE2; simp [*]; done)
          · skip
            go_wp2_with fail
            refine (erasurelaw01_awake.calls true _ (Tab.below HT.out (by repeat (first | exact HB | apply below_alloc))) rfl).mono ?_
            rintro e wz ⟨rfl, hB⟩
            have hqa0 : wz.cell? ⟨w.heap.size, 0, none⟩ = some (.int .i64 a0) := (blk_cell (blk_below (blk_alloc BKa _) hB) 0).trans rfl
            have hqa1 : wz.cell? ⟨w.heap.size, 1, none⟩ = some (.int .i64 a1) := (blk_cell (blk_below (blk_alloc BKa _) hB) 1).trans rfl
            have hqb0 : wz.cell? ⟨w.heap.size + 1, 0, none⟩ = some (.int .i64 a0) := (blk_cell (blk_below (blk_alloc BKb _) hB) 0).trans rfl
            have hqb1 : wz.cell? ⟨w.heap.size + 1, 1, none⟩ = some (.int .i64 a1) := (blk_cell (blk_below (blk_alloc BKb _) hB) 1).trans rfl
            go_wp2
            all_goals first | (go_ret; exact ⟨rfl, below_step (below_alloc HB _) hB⟩) | (exfalso; revert HE2; simp [*]; done)
          · exact absurd (XHxzv.out (by decide) (by decide)) (by decide)
        · rcases XHv.out with rfl | rfl | rfl
          · skip
            go_wp2_with fail
            refine (erasurelaw01_awake.calls true _ (Tab.below HT.out (by repeat (first | exact HB | apply below_alloc))) rfl).mono ?_
            rintro e wz ⟨rfl, hB⟩
            have hqa0 : wz.cell? ⟨w.heap.size, 0, none⟩ = some (.int .i64 a0) := (blk_cell (blk_below (blk_alloc BKa _) hB) 0).trans rfl
            have hqa1 : wz.cell? ⟨w.heap.size, 1, none⟩ = some (.int .i64 a1) := (blk_cell (blk_below (blk_alloc BKa _) hB) 1).trans rfl
            have hqb0 : wz.cell? ⟨w.heap.size + 1, 0, none⟩ = some (.int .i64 a0) := (blk_cell (blk_below (blk_alloc BKb _) hB) 0).trans rfl
            have hqb1 : wz.cell? ⟨w.heap.size + 1, 1, none⟩ = some (.int .i64 a1) := (blk_cell (blk_below (blk_alloc BKb _) hB) 1).trans rfl
            go_wp2
            all_goals first | (go_ret; exact ⟨rfl, below_step (below_alloc HB _) hB⟩) | (exfalso; revert HE2; simp [*]; done)
          · skip
            go_wp2_with fail
            refine (erasurelaw01_awake.calls true _ (Tab.below HT.out (by repeat (first | exact HB | apply below_alloc))) rfl).mono ?_
            rintro e wz ⟨rfl, hB⟩
            have hqa0 : wz.cell? ⟨w.heap.size, 0, none⟩ = some (.int .i64 a0) := (blk_cell (blk_below (blk_alloc BKa _) hB) 0).trans rfl
            have hqa1 : wz.cell? ⟨w.heap.size, 1, none⟩ = some (.int .i64 a1) := (blk_cell (blk_below (blk_alloc BKa _) hB) 1).trans rfl
            have hqb0 : wz.cell? ⟨w.heap.size + 1, 0, none⟩ = some (.int .i64 a0) := (blk_cell (blk_below (blk_alloc BKb _) hB) 0).trans rfl
            have hqb1 : wz.cell? ⟨w.heap.size + 1, 1, none⟩ = some (.int .i64 a1) := (blk_cell (blk_below (blk_alloc BKb _) hB) 1).trans rfl
            go_wp2
            all_goals first | (go_ret; exact ⟨rfl, below_step (below_alloc HB _) hB⟩) | (exfalso; revert HE2; simp [*]; done)
          · exact absurd (XHxzv.out (by decide) (by decide)) (by decide)
        · skip
          go_wp2_with fail
          refine (erasurelaw01_awake.calls true _ (Tab.below HT.out (by repeat (first | exact HB | apply below_alloc))) rfl).mono ?_
          rintro e wz ⟨rfl, hB⟩
          have hqa0 : wz.cell? ⟨w.heap.size, 0, none⟩ = some (.int .i64 a0) := (blk_cell (blk_below (blk_alloc BKa _) hB) 0).trans rfl
          have hqa1 : wz.cell? ⟨w.heap.size, 1, none⟩ = some (.int .i64 a1) := (blk_cell (blk_below (blk_alloc BKa _) hB) 1).trans rfl
          have hqb0 : wz.cell? ⟨w.heap.size + 1, 0, none⟩ = some (.int .i64 a0) := (blk_cell (blk_below (blk_alloc BKb _) hB) 0).trans rfl
          have hqb1 : wz.cell? ⟨w.heap.size + 1, 1, none⟩ = some (.int .i64 a1) := (blk_cell (blk_below (blk_alloc BKb _) hB) 1).trans rfl
          go_wp2
          all_goals first | (go_ret; exact ⟨rfl, below_step (below_alloc HB _) hB⟩) | (exfalso; revert HE2; simp [*]; done)
      · have q1 : (j == 0) = false := beq_eq_false_iff_ne.mpr nj
        have q2 : decide (j = 0) = false := decide_eq_false nj
        clear nj
        rcases XHz.out with rfl | rfl | rfl
        · rcases XHv.out with rfl | rfl | rfl
          · skip
            go_wp2_with fail
            refine (erasurelaw01_awake.calls true _ (Tab.below HT.out (by repeat (first | exact HB | apply below_alloc))) rfl).mono ?_
            rintro e wz ⟨rfl, hB⟩
            have hqa0 : wz.cell? ⟨w.heap.size, 0, none⟩ = some (.int .i64 a0) := (blk_cell (blk_below (blk_alloc BKa _) hB) 0).trans rfl
            have hqa1 : wz.cell? ⟨w.heap.size, 1, none⟩ = some (.int .i64 a1) := (blk_cell (blk_below (blk_alloc BKa _) hB) 1).trans rfl
            have hqb0 : wz.cell? ⟨w.heap.size + 1, 0, none⟩ = some (.int .i64 a0) := (blk_cell (blk_below (blk_alloc BKb _) hB) 0).trans rfl
            have hqb1 : wz.cell? ⟨w.heap.size + 1, 1, none⟩ = some (.int .i64 a1) := (blk_cell (blk_below (blk_alloc BKb _) hB) 1).trans rfl
            go_wp2
            all_goals first | (go_ret; exact ⟨rfl, below_step (below_alloc HB _) hB⟩) | (exfalso; revert HE2; simp [*]; done)
          · skip
            go_wp2_with fail
            refine (erasurelaw01_awake.calls true _ (Tab.below HT.out (by repeat (first | exact HB | apply below_alloc))) rfl).mono ?_
            rintro e wz ⟨rfl, hB⟩
            have hqa0 : wz.cell? ⟨w.heap.size, 0, none⟩ = some (.int .i64 a0) := (blk_cell (blk_below (blk_alloc BKa _) hB) 0).trans rfl
            have hqa1 : wz.cell? ⟨w.heap.size, 1, none⟩ = some (.int .i64 a1) := (blk_cell (blk_below (blk_alloc BKa _) hB) 1).trans rfl
            have hqb0 : wz.cell? ⟨w.heap.size + 1, 0, none⟩ = some (.int .i64 a0) := (blk_cell (blk_below (blk_alloc BKb _) hB) 0).trans rfl
            have hqb1 : wz.cell? ⟨w.heap.size + 1, 1, none⟩ = some (.int .i64 a1) := (blk_cell (blk_below (blk_alloc BKb _) hB) 1).trans rfl
            go_wp2
            all_goals first | (go_ret; exact ⟨rfl, below_step (below_alloc HB _) hB⟩) | (exfalso; revert HE2; simp [*]; done)
          · exact absurd (XHxzv.out (by decide) (by decide)) (by decide)
        · rcases XHv.out with rfl | rfl | rfl
          · skip
            go_wp2_with fail
            refine (erasurelaw01_awake.calls true _ (Tab.below HT.out (by repeat (first | exact HB | apply below_alloc))) rfl).mono ?_
            rintro e wz ⟨rfl, hB⟩
            have hqa0 : wz.cell? ⟨w.heap.size, 0, none⟩ = some (.int .i64 a0) := (blk_cell (blk_below (blk_alloc BKa _) hB) 0).trans rfl
            have hqa1 : wz.cell? ⟨w.heap.size, 1, none⟩ = some (.int .i64 a1) := (blk_cell (blk_below (blk_alloc BKa _) hB) 1).trans rfl
            have hqb0 : wz.cell? ⟨w.heap.size + 1, 0, none⟩ = some (.int .i64 a0) := (blk_cell (blk_below (blk_alloc BKb _) hB) 0).trans rfl
            have hqb1 : wz.cell? ⟨w.heap.size + 1, 1, none⟩ = some (.int .i64 a1) := (blk_cell (blk_below (blk_alloc BKb _) hB) 1).trans rfl
            go_wp2
            all_goals first | (go_ret; exact ⟨rfl, below_step (below_alloc HB _) hB⟩) | (exfalso; revert HE2; simp [*]; done)
          · skip
            go_wp2_with fail
            refine (erasurelaw01_awake.calls true _ (Tab.below HT.out (by repeat (first | exact HB | apply below_alloc))) rfl).mono ?_
            rintro e wz ⟨rfl, hB⟩
            have hqa0 : wz.cell? ⟨w.heap.size, 0, none⟩ = some (.int .i64 a0) := (blk_cell (blk_below (blk_alloc BKa _) hB) 0).trans rfl
            have hqa1 : wz.cell? ⟨w.heap.size, 1, none⟩ = some (.int .i64 a1) := (blk_cell (blk_below (blk_alloc BKa _) hB) 1).trans rfl
            have hqb0 : wz.cell? ⟨w.heap.size + 1, 0, none⟩ = some (.int .i64 a0) := (blk_cell (blk_below (blk_alloc BKb _) hB) 0).trans rfl
            have hqb1 : wz.cell? ⟨w.heap.size + 1, 1, none⟩ = some (.int .i64 a1) := (blk_cell (blk_below (blk_alloc BKb _) hB) 1).trans rfl
            go_wp2
            all_goals first | (go_ret; exact ⟨rfl, below_step (below_alloc HB _) hB⟩) | (exfalso; revert HE2; simp [*]; done)
          · exact absurd (XHxzv.out (by decide) (by decide)) (by decide)
        · skip
          go_wp2_with fail
          refine (erasurelaw01_awake.calls true _ (Tab.below HT.out (by repeat (first | exact HB | apply below_alloc))) rfl).mono ?_
          rintro e wz ⟨rfl, hB⟩
          have hqa0 : wz.cell? ⟨w.heap.size, 0, none⟩ = some (.int .i64 a0) := (blk_cell (blk_below (blk_alloc BKa _) hB) 0).trans rfl
          have hqa1 : wz.cell? ⟨w.heap.size, 1, none⟩ = some (.int .i64 a1) := (blk_cell (blk_below (blk_alloc BKa _) hB) 1).trans rfl
          have hqb0 : wz.cell? ⟨w.heap.size + 1, 0, none⟩ = some (.int .i64 a0) := (blk_cell (blk_below (blk_alloc BKb _) hB) 0).trans rfl
          have hqb1 : wz.cell? ⟨w.heap.size + 1, 1, none⟩ = some (.int .i64 a1) := (blk_cell (blk_below (blk_alloc BKb _) hB) 1).trans rfl
          go_wp2
          all_goals first | (go_ret; exact ⟨rfl, below_step (below_alloc HB _) hB⟩) | (exfalso; revert HE2; simp [*]; done)
    · skip
      have HE := XHeq.out
      rw [show decide ((1 : Int) = 0) = false from rfl] at HE
      have HE2 : (a0 == b0 && a1 == b1) = false := by simpa using HE.symm
      clear HE
      by_cases nj : j = 0
      · obtain ⟨D1, D2⟩ := XHd.out nj
        subst nj
        have q1 : decide (d0 < 0) = false := by simp [D1]
        have q2 : decide (d0 = 0) = false := by simp [D2]
        have q3 : (d0 == 0) = false := by simp [D2]
        clear D1 D2
        go_wp2_with fail
        refine (erasurelaw01_awake.calls true _ (Tab.below HT.out (by repeat (first | exact HB | apply below_alloc))) rfl).mono ?_
        rintro e wz ⟨rfl, hB⟩
        have hqa0 : wz.cell? ⟨w.heap.size, 0, none⟩ = some (.int .i64 a0) := (blk_cell (blk_below (blk_alloc BKa _) hB) 0).trans rfl
        have hqa1 : wz.cell? ⟨w.heap.size, 1, none⟩ = some (.int .i64 a1) := (blk_cell (blk_below (blk_alloc BKa _) hB) 1).trans rfl
        have hqb0 : wz.cell? ⟨w.heap.size + 1, 0, none⟩ = some (.int .i64 b0) := (blk_cell (blk_below (blk_alloc BKb _) hB) 0).trans rfl
        have hqb1 : wz.cell? ⟨w.heap.size + 1, 1, none⟩ = some (.int .i64 b1) := (blk_cell (blk_below (blk_alloc BKb _) hB) 1).trans rfl
        go_wp2
        all_goals first | (go_ret; exact ⟨rfl, below_step (below_alloc HB _) hB⟩) | (exfalso; revert HE2; simp [*]; done)
      · have q1 : (j == 0) = false := beq_eq_false_iff_ne.mpr nj
        have q2 : decide (j = 0) = false := decide_eq_false nj
        clear nj
        go_wp2_with fail
        refine (erasurelaw01_awake.calls true _ (Tab.below HT.out (by repeat (first | exact HB | apply below_alloc))) rfl).mono ?_
        rintro e wz ⟨rfl, hB⟩
        have hqa0 : wz.cell? ⟨w.heap.size, 0, none⟩ = some (.int .i64 a0) := (blk_cell (blk_below (blk_alloc BKa _) hB) 0).trans rfl
        have hqa1 : wz.cell? ⟨w.heap.size, 1, none⟩ = some (.int .i64 a1) := (blk_cell (blk_below (blk_alloc BKa _) hB) 1).trans rfl
        have hqb0 : wz.cell? ⟨w.heap.size + 1, 0, none⟩ = some (.int .i64 b0) := (blk_cell (blk_below (blk_alloc BKb _) hB) 0).trans rfl
        have hqb1 : wz.cell? ⟨w.heap.size + 1, 1, none⟩ = some (.int .i64 b1) := (blk_cell (blk_below (blk_alloc BKb _) hB) 1).trans rfl
        go_wp2
        all_goals first | (go_ret; exact ⟨rfl, below_step (below_alloc HB _) hB⟩) | (exfalso; revert HE2; simp [*]; done)
end Go.Proofs.YtdkckjiccpdkbaaDoor.D
