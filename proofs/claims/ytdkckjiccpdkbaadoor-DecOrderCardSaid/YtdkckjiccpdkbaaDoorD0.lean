/- erasurelaw01.DecLaws where all three are right (printed by gen_walks.py). -/
import Derived.Test.YtdkckjiccpdkbaaDoorB3
import Derived.Test.YtdkckjiccpdkbaaDoorH2
namespace Go.Proofs.YtdkckjiccpdkbaaDoor.D
open Go.RowKit Go.Proofs.YtdkckjiccpdkbaaDoor.A Go.Proofs.YtdkckjiccpdkbaaDoor.B Go.Proofs.YtdkckjiccpdkbaaDoor.H Go.Proofs.YtdkckjiccpdkbaaDoorW.PrintWords Go.Proofs.YtdkckjiccpdkbaaDoorW.PrintLast Go.Proofs.YtdkckjiccpdkbaaDoorW.PrintMore
attribute [local go_sem] max2_int min2_int max_two min_two max_three min_three max_four min_four
set_option linter.unusedVariables false
set_option linter.unusedSimpArgs false
set_option maxRecDepth 100000 in
set_option maxHeartbeats 16000000 in
theorem laws_good (k : Nat) (a0 a1 b0 b1 c0 c1 ab0 ab1 e1 bc0 bc1 e3 x0 x1 e4 y0 y1 e5 p0 p1 f1 ac0 ac1 f3 r0 r1 f4 s0 s1 f5 : Int) (w : World) (hT : Tab w)
    (ka : dec_Check.f a0 a1 = some 0) (kb : dec_Check.f b0 b1 = some 0) (kc : dec_Check.f c0 c1 = some 0)
    (hab : dec_Add.f k a0 a1 b0 b1 = some (ab0, ab1, e1)) (hba : dec_Add.f k b0 b1 a0 a1 = some (ab0, ab1, e1)) (hbc : dec_Add.f k b0 b1 c0 c1 = some (bc0, bc1, e3)) (hx : dec_Add.f k ab0 ab1 c0 c1 = some (x0, x1, e4)) (hy : dec_Add.f k a0 a1 bc0 bc1 = some (y0, y1, e5)) (hp : dec_Mul.f k a0 a1 b0 b1 = some (p0, p1, f1)) (hq : dec_Mul.f k b0 b1 a0 a1 = some (p0, p1, f1)) (hac : dec_Mul.f k a0 a1 c0 c1 = some (ac0, ac1, f3)) (hr : dec_Mul.f k a0 a1 bc0 bc1 = some (r0, r1, f4)) (hs : dec_Add.f k p0 p1 ac0 ac1 = some (s0, s1, f5)) (hz : dec_Add.f k a0 a1 0 0 = some (a0, a1, 0)) (ho : dec_Mul.f k a0 a1 1 0 = some (a0, a1, 0))
    (H1 : e1 = 0 → e3 = 0 → e4 = e5 ∧ x0 = y0 ∧ x1 = y1) (H2 : e3 = 0 → f1 = 0 → f3 = 0 → f4 = 0 → f5 = 0 → r0 = s0 ∧ r1 = s1) :
    Calls Tryd.prog 4 #[.agg #[.int .i64 a0, .int .i64 a1], .agg #[.int .i64 b0, .int .i64 b1], .agg #[.int .i64 c0, .int .i64 c1]] w fun e w' => e = .returned (.bool true) ∧ Below w.heap.size w w' := by
  have HT := Aside0.mk hT
  clear hT
  have hu23 := Tryd.underlying23
  have X1 := Aside0.mk H1
  have X2 := Aside0.mk H2
  clear H1 H2
  have Aab := Aside0.mk hab
  clear hab
  have Aba := Aside0.mk hba
  clear hba
  have Abc := Aside0.mk hbc
  clear hbc
  have Ax := Aside0.mk hx
  clear hx
  have Ay := Aside0.mk hy
  clear hy
  have Ap := Aside0.mk hp
  clear hp
  have Aq := Aside0.mk hq
  clear hq
  have Aac := Aside0.mk hac
  clear hac
  have Ar := Aside0.mk hr
  clear hr
  have As := Aside0.mk hs
  clear hs
  have Az := Aside0.mk hz
  clear hz
  have Ao := Aside0.mk ho
  clear ho
  have Aka := Aside0.mk ka
  clear ka
  have Akb := Aside0.mk kb
  clear kb
  have Akc := Aside0.mk kc
  clear kc
  go_enter Tryd.func4, Tryd.ntmps4
  go_wp2_with fail
  refine (dec_Check.calls a0 a1 0 _ Aka.out).mono ?_
  rintro e w1 ⟨rfl, hB⟩
  have BKa := blk_below (blk_alloc (blk_alloc (blk_new _ _) _) _) hB
  have BKb := blk_below (blk_alloc (blk_new _ _) _) hB
  rw [World.size_alloc] at BKb
  have BKc := blk_below (blk_new _ _) hB
  rw [World.size_alloc, World.size_alloc] at BKc
  have HB := below_step (below_alloc (below_alloc (below_alloc (Below.refl _ _) _) _) _) hB
  clear hB
  have hcb0 : w1.cell? ⟨w.heap.size + 1, 0, none⟩ = some (.int .i64 b0) := (blk_cell BKb 0).trans rfl
  have hcb1 : w1.cell? ⟨w.heap.size + 1, 1, none⟩ = some (.int .i64 b1) := (blk_cell BKb 1).trans rfl
  have hlb : w.heap.size + 1 < w1.heap.size := blk_lt BKb
  go_wp2_with fail
  refine (dec_Check.calls b0 b1 0 _ Akb.out).mono ?_
  rintro e w2 ⟨rfl, hB⟩
  clear hcb0 hcb1 hlb
  replace BKa := blk_below BKa hB
  replace BKb := blk_below BKb hB
  replace BKc := blk_below BKc hB
  replace HB := below_step HB hB
  clear hB
  have hcc0 : w2.cell? ⟨w.heap.size + 1 + 1, 0, none⟩ = some (.int .i64 c0) := (blk_cell BKc 0).trans rfl
  have hcc1 : w2.cell? ⟨w.heap.size + 1 + 1, 1, none⟩ = some (.int .i64 c1) := (blk_cell BKc 1).trans rfl
  have hlc : w.heap.size + 1 + 1 < w2.heap.size := blk_lt BKc
  go_wp2_with fail
  refine (dec_Check.calls c0 c1 0 _ Akc.out).mono ?_
  rintro e w3 ⟨rfl, hB⟩
  clear hcc0 hcc1 hlc
  replace BKa := blk_below BKa hB
  replace BKb := blk_below BKb hB
  replace BKc := blk_below BKc hB
  replace HB := below_step HB hB
  clear hB
  have hca0 : w3.cell? ⟨w.heap.size, 0, none⟩ = some (.int .i64 a0) := (blk_cell BKa 0).trans rfl
  have hca1 : w3.cell? ⟨w.heap.size, 1, none⟩ = some (.int .i64 a1) := (blk_cell BKa 1).trans rfl
  have hla : w.heap.size < w3.heap.size := blk_lt BKa
  have hcb0 : w3.cell? ⟨w.heap.size + 1, 0, none⟩ = some (.int .i64 b0) := (blk_cell BKb 0).trans rfl
  have hcb1 : w3.cell? ⟨w.heap.size + 1, 1, none⟩ = some (.int .i64 b1) := (blk_cell BKb 1).trans rfl
  have hlb : w.heap.size + 1 < w3.heap.size := blk_lt BKb
  go_wp2_with fail
  refine (dec_Add.calls k a0 a1 b0 b1 ab0 ab1 e1 _ Aab.out).mono ?_
  rintro e w4 ⟨rfl, hB⟩
  clear hca0 hca1 hla
  clear hcb0 hcb1 hlb
  replace BKa := blk_below BKa hB
  replace BKb := blk_below BKb hB
  replace BKc := blk_below BKc hB
  replace HB := below_step HB hB
  clear hB
  have hca0 : w4.cell? ⟨w.heap.size, 0, none⟩ = some (.int .i64 a0) := (blk_cell BKa 0).trans rfl
  have hca1 : w4.cell? ⟨w.heap.size, 1, none⟩ = some (.int .i64 a1) := (blk_cell BKa 1).trans rfl
  have hla : w.heap.size < w4.heap.size := blk_lt BKa
  have hcb0 : w4.cell? ⟨w.heap.size + 1, 0, none⟩ = some (.int .i64 b0) := (blk_cell BKb 0).trans rfl
  have hcb1 : w4.cell? ⟨w.heap.size + 1, 1, none⟩ = some (.int .i64 b1) := (blk_cell BKb 1).trans rfl
  have hlb : w.heap.size + 1 < w4.heap.size := blk_lt BKb
  go_wp2_with fail
  refine (dec_Add.calls k b0 b1 a0 a1 ab0 ab1 e1 _ Aba.out).mono ?_
  rintro e w5 ⟨rfl, hB⟩
  clear hcb0 hcb1 hlb
  clear hca0 hca1 hla
  replace BKa := blk_below (blk_alloc BKa _) hB
  replace BKb := blk_below (blk_alloc BKb _) hB
  replace BKc := blk_below (blk_alloc BKc _) hB
  have BKab := blk_below (blk_new w4 _) hB
  replace HB := below_step (below_alloc HB _) hB
  clear hB
  have hcb0 : w5.cell? ⟨w.heap.size + 1, 0, none⟩ = some (.int .i64 b0) := (blk_cell BKb 0).trans rfl
  have hcb1 : w5.cell? ⟨w.heap.size + 1, 1, none⟩ = some (.int .i64 b1) := (blk_cell BKb 1).trans rfl
  have hlb : w.heap.size + 1 < w5.heap.size := blk_lt BKb
  have hcc0 : w5.cell? ⟨w.heap.size + 1 + 1, 0, none⟩ = some (.int .i64 c0) := (blk_cell BKc 0).trans rfl
  have hcc1 : w5.cell? ⟨w.heap.size + 1 + 1, 1, none⟩ = some (.int .i64 c1) := (blk_cell BKc 1).trans rfl
  have hlc : w.heap.size + 1 + 1 < w5.heap.size := blk_lt BKc
  go_wp2_with fail
  refine (dec_Add.calls k b0 b1 c0 c1 bc0 bc1 e3 _ Abc.out).mono ?_
  rintro e w6 ⟨rfl, hB⟩
  clear hcb0 hcb1 hlb
  clear hcc0 hcc1 hlc
  replace BKa := blk_below (blk_alloc BKa _) hB
  replace BKb := blk_below (blk_alloc BKb _) hB
  replace BKc := blk_below (blk_alloc BKc _) hB
  replace BKab := blk_below (blk_alloc BKab _) hB
  have BKba := blk_below (blk_new w5 _) hB
  replace HB := below_step (below_alloc HB _) hB
  clear hB
  have hcc0 : w6.cell? ⟨w.heap.size + 1 + 1, 0, none⟩ = some (.int .i64 c0) := (blk_cell BKc 0).trans rfl
  have hcc1 : w6.cell? ⟨w.heap.size + 1 + 1, 1, none⟩ = some (.int .i64 c1) := (blk_cell BKc 1).trans rfl
  have hlc : w.heap.size + 1 + 1 < w6.heap.size := blk_lt BKc
  have hcab0 : w6.cell? ⟨w4.heap.size, 0, none⟩ = some (.int .i64 ab0) := (blk_cell BKab 0).trans rfl
  have hcab1 : w6.cell? ⟨w4.heap.size, 1, none⟩ = some (.int .i64 ab1) := (blk_cell BKab 1).trans rfl
  have hlab : w4.heap.size < w6.heap.size := blk_lt BKab
  go_wp2_with fail
  refine (dec_Add.calls k ab0 ab1 c0 c1 x0 x1 e4 _ Ax.out).mono ?_
  rintro e w7 ⟨rfl, hB⟩
  clear hcab0 hcab1 hlab
  clear hcc0 hcc1 hlc
  replace BKa := blk_below (blk_alloc BKa _) hB
  replace BKb := blk_below (blk_alloc BKb _) hB
  replace BKc := blk_below (blk_alloc BKc _) hB
  replace BKab := blk_below (blk_alloc BKab _) hB
  replace BKba := blk_below (blk_alloc BKba _) hB
  have BKbc := blk_below (blk_new w6 _) hB
  replace HB := below_step (below_alloc HB _) hB
  clear hB
  have hca0 : w7.cell? ⟨w.heap.size, 0, none⟩ = some (.int .i64 a0) := (blk_cell BKa 0).trans rfl
  have hca1 : w7.cell? ⟨w.heap.size, 1, none⟩ = some (.int .i64 a1) := (blk_cell BKa 1).trans rfl
  have hla : w.heap.size < w7.heap.size := blk_lt BKa
  have hcbc0 : w7.cell? ⟨w6.heap.size, 0, none⟩ = some (.int .i64 bc0) := (blk_cell BKbc 0).trans rfl
  have hcbc1 : w7.cell? ⟨w6.heap.size, 1, none⟩ = some (.int .i64 bc1) := (blk_cell BKbc 1).trans rfl
  have hlbc : w6.heap.size < w7.heap.size := blk_lt BKbc
  go_wp2_with fail
  refine (dec_Add.calls k a0 a1 bc0 bc1 y0 y1 e5 _ Ay.out).mono ?_
  rintro e w8 ⟨rfl, hB⟩
  clear hca0 hca1 hla
  clear hcbc0 hcbc1 hlbc
  replace BKa := blk_below (blk_alloc BKa _) hB
  replace BKb := blk_below (blk_alloc BKb _) hB
  replace BKc := blk_below (blk_alloc BKc _) hB
  replace BKab := blk_below (blk_alloc BKab _) hB
  replace BKba := blk_below (blk_alloc BKba _) hB
  replace BKbc := blk_below (blk_alloc BKbc _) hB
  have BKx := blk_below (blk_new w7 _) hB
  replace HB := below_step (below_alloc HB _) hB
  clear hB
  have hca0 : w8.cell? ⟨w.heap.size, 0, none⟩ = some (.int .i64 a0) := (blk_cell BKa 0).trans rfl
  have hca1 : w8.cell? ⟨w.heap.size, 1, none⟩ = some (.int .i64 a1) := (blk_cell BKa 1).trans rfl
  have hla : w.heap.size < w8.heap.size := blk_lt BKa
  have hcb0 : w8.cell? ⟨w.heap.size + 1, 0, none⟩ = some (.int .i64 b0) := (blk_cell BKb 0).trans rfl
  have hcb1 : w8.cell? ⟨w.heap.size + 1, 1, none⟩ = some (.int .i64 b1) := (blk_cell BKb 1).trans rfl
  have hlb : w.heap.size + 1 < w8.heap.size := blk_lt BKb
  go_wp2_with fail
  refine (dec_Mul.calls k a0 a1 b0 b1 p0 p1 f1 _ Ap.out).mono ?_
  rintro e w9 ⟨rfl, hB⟩
  clear hca0 hca1 hla
  clear hcb0 hcb1 hlb
  replace BKa := blk_below (blk_alloc BKa _) hB
  replace BKb := blk_below (blk_alloc BKb _) hB
  replace BKc := blk_below (blk_alloc BKc _) hB
  replace BKab := blk_below (blk_alloc BKab _) hB
  replace BKba := blk_below (blk_alloc BKba _) hB
  replace BKbc := blk_below (blk_alloc BKbc _) hB
  replace BKx := blk_below (blk_alloc BKx _) hB
  have BKy := blk_below (blk_new w8 _) hB
  replace HB := below_step (below_alloc HB _) hB
  clear hB
  have hca0 : w9.cell? ⟨w.heap.size, 0, none⟩ = some (.int .i64 a0) := (blk_cell BKa 0).trans rfl
  have hca1 : w9.cell? ⟨w.heap.size, 1, none⟩ = some (.int .i64 a1) := (blk_cell BKa 1).trans rfl
  have hla : w.heap.size < w9.heap.size := blk_lt BKa
  have hcb0 : w9.cell? ⟨w.heap.size + 1, 0, none⟩ = some (.int .i64 b0) := (blk_cell BKb 0).trans rfl
  have hcb1 : w9.cell? ⟨w.heap.size + 1, 1, none⟩ = some (.int .i64 b1) := (blk_cell BKb 1).trans rfl
  have hlb : w.heap.size + 1 < w9.heap.size := blk_lt BKb
  go_wp2_with fail
  refine (dec_Mul.calls k b0 b1 a0 a1 p0 p1 f1 _ Aq.out).mono ?_
  rintro e w10 ⟨rfl, hB⟩
  clear hcb0 hcb1 hlb
  clear hca0 hca1 hla
  replace BKa := blk_below (blk_alloc BKa _) hB
  replace BKb := blk_below (blk_alloc BKb _) hB
  replace BKc := blk_below (blk_alloc BKc _) hB
  replace BKab := blk_below (blk_alloc BKab _) hB
  replace BKba := blk_below (blk_alloc BKba _) hB
  replace BKbc := blk_below (blk_alloc BKbc _) hB
  replace BKx := blk_below (blk_alloc BKx _) hB
  replace BKy := blk_below (blk_alloc BKy _) hB
  have BKp := blk_below (blk_new w9 _) hB
  replace HB := below_step (below_alloc HB _) hB
  clear hB
  have hca0 : w10.cell? ⟨w.heap.size, 0, none⟩ = some (.int .i64 a0) := (blk_cell BKa 0).trans rfl
  have hca1 : w10.cell? ⟨w.heap.size, 1, none⟩ = some (.int .i64 a1) := (blk_cell BKa 1).trans rfl
  have hla : w.heap.size < w10.heap.size := blk_lt BKa
  have hcc0 : w10.cell? ⟨w.heap.size + 1 + 1, 0, none⟩ = some (.int .i64 c0) := (blk_cell BKc 0).trans rfl
  have hcc1 : w10.cell? ⟨w.heap.size + 1 + 1, 1, none⟩ = some (.int .i64 c1) := (blk_cell BKc 1).trans rfl
  have hlc : w.heap.size + 1 + 1 < w10.heap.size := blk_lt BKc
  go_wp2_with fail
  refine (dec_Mul.calls k a0 a1 c0 c1 ac0 ac1 f3 _ Aac.out).mono ?_
  rintro e w11 ⟨rfl, hB⟩
  clear hca0 hca1 hla
  clear hcc0 hcc1 hlc
  replace BKa := blk_below (blk_alloc BKa _) hB
  replace BKb := blk_below (blk_alloc BKb _) hB
  replace BKc := blk_below (blk_alloc BKc _) hB
  replace BKab := blk_below (blk_alloc BKab _) hB
  replace BKba := blk_below (blk_alloc BKba _) hB
  replace BKbc := blk_below (blk_alloc BKbc _) hB
  replace BKx := blk_below (blk_alloc BKx _) hB
  replace BKy := blk_below (blk_alloc BKy _) hB
  replace BKp := blk_below (blk_alloc BKp _) hB
  have BKq := blk_below (blk_new w10 _) hB
  replace HB := below_step (below_alloc HB _) hB
  clear hB
  have hca0 : w11.cell? ⟨w.heap.size, 0, none⟩ = some (.int .i64 a0) := (blk_cell BKa 0).trans rfl
  have hca1 : w11.cell? ⟨w.heap.size, 1, none⟩ = some (.int .i64 a1) := (blk_cell BKa 1).trans rfl
  have hla : w.heap.size < w11.heap.size := blk_lt BKa
  have hcbc0 : w11.cell? ⟨w6.heap.size, 0, none⟩ = some (.int .i64 bc0) := (blk_cell BKbc 0).trans rfl
  have hcbc1 : w11.cell? ⟨w6.heap.size, 1, none⟩ = some (.int .i64 bc1) := (blk_cell BKbc 1).trans rfl
  have hlbc : w6.heap.size < w11.heap.size := blk_lt BKbc
  go_wp2_with fail
  refine (dec_Mul.calls k a0 a1 bc0 bc1 r0 r1 f4 _ Ar.out).mono ?_
  rintro e w12 ⟨rfl, hB⟩
  clear hca0 hca1 hla
  clear hcbc0 hcbc1 hlbc
  replace BKa := blk_below (blk_alloc BKa _) hB
  replace BKb := blk_below (blk_alloc BKb _) hB
  replace BKc := blk_below (blk_alloc BKc _) hB
  replace BKab := blk_below (blk_alloc BKab _) hB
  replace BKba := blk_below (blk_alloc BKba _) hB
  replace BKbc := blk_below (blk_alloc BKbc _) hB
  replace BKx := blk_below (blk_alloc BKx _) hB
  replace BKy := blk_below (blk_alloc BKy _) hB
  replace BKp := blk_below (blk_alloc BKp _) hB
  replace BKq := blk_below (blk_alloc BKq _) hB
  have BKac := blk_below (blk_new w11 _) hB
  replace HB := below_step (below_alloc HB _) hB
  clear hB
  have hcp0 : w12.cell? ⟨w9.heap.size, 0, none⟩ = some (.int .i64 p0) := (blk_cell BKp 0).trans rfl
  have hcp1 : w12.cell? ⟨w9.heap.size, 1, none⟩ = some (.int .i64 p1) := (blk_cell BKp 1).trans rfl
  have hlp : w9.heap.size < w12.heap.size := blk_lt BKp
  have hcac0 : w12.cell? ⟨w11.heap.size, 0, none⟩ = some (.int .i64 ac0) := (blk_cell BKac 0).trans rfl
  have hcac1 : w12.cell? ⟨w11.heap.size, 1, none⟩ = some (.int .i64 ac1) := (blk_cell BKac 1).trans rfl
  have hlac : w11.heap.size < w12.heap.size := blk_lt BKac
  go_wp2_with fail
  refine (dec_Add.calls k p0 p1 ac0 ac1 s0 s1 f5 _ As.out).mono ?_
  rintro e w13 ⟨rfl, hB⟩
  clear hcp0 hcp1 hlp
  clear hcac0 hcac1 hlac
  replace BKa := blk_below (blk_alloc BKa _) hB
  replace BKb := blk_below (blk_alloc BKb _) hB
  replace BKc := blk_below (blk_alloc BKc _) hB
  replace BKab := blk_below (blk_alloc BKab _) hB
  replace BKba := blk_below (blk_alloc BKba _) hB
  replace BKbc := blk_below (blk_alloc BKbc _) hB
  replace BKx := blk_below (blk_alloc BKx _) hB
  replace BKy := blk_below (blk_alloc BKy _) hB
  replace BKp := blk_below (blk_alloc BKp _) hB
  replace BKq := blk_below (blk_alloc BKq _) hB
  replace BKac := blk_below (blk_alloc BKac _) hB
  have BKr := blk_below (blk_new w12 _) hB
  replace HB := below_step (below_alloc HB _) hB
  clear hB
  have hca0 : w13.cell? ⟨w.heap.size, 0, none⟩ = some (.int .i64 a0) := (blk_cell BKa 0).trans rfl
  have hca1 : w13.cell? ⟨w.heap.size, 1, none⟩ = some (.int .i64 a1) := (blk_cell BKa 1).trans rfl
  have hla : w.heap.size < w13.heap.size := blk_lt BKa
  go_wp2_with fail
  refine (dec_Add.calls k a0 a1 0 0 a0 a1 0 _ Az.out).mono ?_
  rintro e w14 ⟨rfl, hB⟩
  clear hca0 hca1 hla
  replace BKa := blk_below (blk_alloc BKa _) hB
  replace BKb := blk_below (blk_alloc BKb _) hB
  replace BKc := blk_below (blk_alloc BKc _) hB
  replace BKab := blk_below (blk_alloc BKab _) hB
  replace BKba := blk_below (blk_alloc BKba _) hB
  replace BKbc := blk_below (blk_alloc BKbc _) hB
  replace BKx := blk_below (blk_alloc BKx _) hB
  replace BKy := blk_below (blk_alloc BKy _) hB
  replace BKp := blk_below (blk_alloc BKp _) hB
  replace BKq := blk_below (blk_alloc BKq _) hB
  replace BKac := blk_below (blk_alloc BKac _) hB
  replace BKr := blk_below (blk_alloc BKr _) hB
  have BKs := blk_below (blk_new w13 _) hB
  replace HB := below_step (below_alloc HB _) hB
  clear hB
  have hca0 : w14.cell? ⟨w.heap.size, 0, none⟩ = some (.int .i64 a0) := (blk_cell BKa 0).trans rfl
  have hca1 : w14.cell? ⟨w.heap.size, 1, none⟩ = some (.int .i64 a1) := (blk_cell BKa 1).trans rfl
  have hla : w.heap.size < w14.heap.size := blk_lt BKa
  go_wp2_with fail
  refine (dec_Mul.calls k a0 a1 1 0 a0 a1 0 _ Ao.out).mono ?_
  rintro e w15 ⟨rfl, hB⟩
  clear hca0 hca1 hla
  replace BKa := blk_below (blk_alloc BKa _) hB
  replace BKb := blk_below (blk_alloc BKb _) hB
  replace BKc := blk_below (blk_alloc BKc _) hB
  replace BKab := blk_below (blk_alloc BKab _) hB
  replace BKba := blk_below (blk_alloc BKba _) hB
  replace BKbc := blk_below (blk_alloc BKbc _) hB
  replace BKx := blk_below (blk_alloc BKx _) hB
  replace BKy := blk_below (blk_alloc BKy _) hB
  replace BKp := blk_below (blk_alloc BKp _) hB
  replace BKq := blk_below (blk_alloc BKq _) hB
  replace BKac := blk_below (blk_alloc BKac _) hB
  replace BKr := blk_below (blk_alloc BKr _) hB
  replace BKs := blk_below (blk_alloc BKs _) hB
  have BKz := blk_below (blk_new w14 _) hB
  replace HB := below_step (below_alloc HB _) hB
  clear hB
  have hca0 : w15.cell? ⟨w.heap.size, 0, none⟩ = some (.int .i64 a0) := (blk_cell BKa 0).trans rfl
  have hca1 : w15.cell? ⟨w.heap.size, 1, none⟩ = some (.int .i64 a1) := (blk_cell BKa 1).trans rfl
  have hla : w.heap.size < w15.heap.size := blk_lt BKa
  have hcab0 : w15.cell? ⟨w4.heap.size, 0, none⟩ = some (.int .i64 ab0) := (blk_cell BKab 0).trans rfl
  have hcab1 : w15.cell? ⟨w4.heap.size, 1, none⟩ = some (.int .i64 ab1) := (blk_cell BKab 1).trans rfl
  have hlab : w4.heap.size < w15.heap.size := blk_lt BKab
  have hcba0 : w15.cell? ⟨w5.heap.size, 0, none⟩ = some (.int .i64 ab0) := (blk_cell BKba 0).trans rfl
  have hcba1 : w15.cell? ⟨w5.heap.size, 1, none⟩ = some (.int .i64 ab1) := (blk_cell BKba 1).trans rfl
  have hlba : w5.heap.size < w15.heap.size := blk_lt BKba
  have hcx0 : w15.cell? ⟨w7.heap.size, 0, none⟩ = some (.int .i64 x0) := (blk_cell BKx 0).trans rfl
  have hcx1 : w15.cell? ⟨w7.heap.size, 1, none⟩ = some (.int .i64 x1) := (blk_cell BKx 1).trans rfl
  have hlx : w7.heap.size < w15.heap.size := blk_lt BKx
  have hcy0 : w15.cell? ⟨w8.heap.size, 0, none⟩ = some (.int .i64 y0) := (blk_cell BKy 0).trans rfl
  have hcy1 : w15.cell? ⟨w8.heap.size, 1, none⟩ = some (.int .i64 y1) := (blk_cell BKy 1).trans rfl
  have hly : w8.heap.size < w15.heap.size := blk_lt BKy
  have hcp0 : w15.cell? ⟨w9.heap.size, 0, none⟩ = some (.int .i64 p0) := (blk_cell BKp 0).trans rfl
  have hcp1 : w15.cell? ⟨w9.heap.size, 1, none⟩ = some (.int .i64 p1) := (blk_cell BKp 1).trans rfl
  have hlp : w9.heap.size < w15.heap.size := blk_lt BKp
  have hcq0 : w15.cell? ⟨w10.heap.size, 0, none⟩ = some (.int .i64 p0) := (blk_cell BKq 0).trans rfl
  have hcq1 : w15.cell? ⟨w10.heap.size, 1, none⟩ = some (.int .i64 p1) := (blk_cell BKq 1).trans rfl
  have hlq : w10.heap.size < w15.heap.size := blk_lt BKq
  have hcr0 : w15.cell? ⟨w12.heap.size, 0, none⟩ = some (.int .i64 r0) := (blk_cell BKr 0).trans rfl
  have hcr1 : w15.cell? ⟨w12.heap.size, 1, none⟩ = some (.int .i64 r1) := (blk_cell BKr 1).trans rfl
  have hlr : w12.heap.size < w15.heap.size := blk_lt BKr
  have hcs0 : w15.cell? ⟨w13.heap.size, 0, none⟩ = some (.int .i64 s0) := (blk_cell BKs 0).trans rfl
  have hcs1 : w15.cell? ⟨w13.heap.size, 1, none⟩ = some (.int .i64 s1) := (blk_cell BKs 1).trans rfl
  have hls : w13.heap.size < w15.heap.size := blk_lt BKs
  have hcz0 : w15.cell? ⟨w14.heap.size, 0, none⟩ = some (.int .i64 a0) := (blk_cell BKz 0).trans rfl
  have hcz1 : w15.cell? ⟨w14.heap.size, 1, none⟩ = some (.int .i64 a1) := (blk_cell BKz 1).trans rfl
  have hlz : w14.heap.size < w15.heap.size := blk_lt BKz
  by_cases ne3 : e3 ≠ 0
  · by_cases ne1 : e1 ≠ 0
    · have de10 : (e1 == 0) = false := beq_eq_false_iff_ne.mpr ne1
      have de11 : (e1 != 0) = true := bne_iff_ne.mpr ne1
      have de30 : (e3 == 0) = false := beq_eq_false_iff_ne.mpr ne3
      have de31 : (e3 != 0) = true := bne_iff_ne.mpr ne3
      go_wp2_with fail
      refine (erasurelaw01_awake.calls true _ (Tab.below HT.out (by repeat (first | exact HB | apply below_alloc))) rfl).mono ?_
      rintro e wz ⟨rfl, hB⟩
      have hcr0' : wz.cell? ⟨w12.heap.size, 0, none⟩ = some (.int .i64 r0) := (blk_cell (blk_below (blk_alloc BKr _) hB) 0).trans rfl
      have hcr1' : wz.cell? ⟨w12.heap.size, 1, none⟩ = some (.int .i64 r1) := (blk_cell (blk_below (blk_alloc BKr _) hB) 1).trans rfl
      have hcs0' : wz.cell? ⟨w13.heap.size, 0, none⟩ = some (.int .i64 s0) := (blk_cell (blk_below (blk_alloc BKs _) hB) 0).trans rfl
      have hcs1' : wz.cell? ⟨w13.heap.size, 1, none⟩ = some (.int .i64 s1) := (blk_cell (blk_below (blk_alloc BKs _) hB) 1).trans rfl
      go_wp2
      go_ret
      exact ⟨rfl, below_step (below_alloc HB _) hB⟩
    · obtain rfl : e1 = 0 := Classical.not_not.mp ne1
      have de30 : (e3 == 0) = false := beq_eq_false_iff_ne.mpr ne3
      have de31 : (e3 != 0) = true := bne_iff_ne.mpr ne3
      go_wp2_with fail
      refine (erasurelaw01_awake.calls true _ (Tab.below HT.out (by repeat (first | exact HB | apply below_alloc))) rfl).mono ?_
      rintro e wz ⟨rfl, hB⟩
      have hcr0' : wz.cell? ⟨w12.heap.size, 0, none⟩ = some (.int .i64 r0) := (blk_cell (blk_below (blk_alloc BKr _) hB) 0).trans rfl
      have hcr1' : wz.cell? ⟨w12.heap.size, 1, none⟩ = some (.int .i64 r1) := (blk_cell (blk_below (blk_alloc BKr _) hB) 1).trans rfl
      have hcs0' : wz.cell? ⟨w13.heap.size, 0, none⟩ = some (.int .i64 s0) := (blk_cell (blk_below (blk_alloc BKs _) hB) 0).trans rfl
      have hcs1' : wz.cell? ⟨w13.heap.size, 1, none⟩ = some (.int .i64 s1) := (blk_cell (blk_below (blk_alloc BKs _) hB) 1).trans rfl
      go_wp2
      go_ret
      exact ⟨rfl, below_step (below_alloc HB _) hB⟩
  · obtain rfl : e3 = 0 := Classical.not_not.mp ne3
    by_cases ne1 : e1 ≠ 0
    · have de10 : (e1 == 0) = false := beq_eq_false_iff_ne.mpr ne1
      have de11 : (e1 != 0) = true := bne_iff_ne.mpr ne1
      by_cases nf1 : f1 ≠ 0
      · have df10 : (f1 == 0) = false := beq_eq_false_iff_ne.mpr nf1
        have df11 : (f1 != 0) = true := bne_iff_ne.mpr nf1
        go_wp2_with fail
        refine (erasurelaw01_awake.calls true _ (Tab.below HT.out (by repeat (first | exact HB | apply below_alloc))) rfl).mono ?_
        rintro e wz ⟨rfl, hB⟩
        have hcr0' : wz.cell? ⟨w12.heap.size, 0, none⟩ = some (.int .i64 r0) := (blk_cell (blk_below (blk_alloc BKr _) hB) 0).trans rfl
        have hcr1' : wz.cell? ⟨w12.heap.size, 1, none⟩ = some (.int .i64 r1) := (blk_cell (blk_below (blk_alloc BKr _) hB) 1).trans rfl
        have hcs0' : wz.cell? ⟨w13.heap.size, 0, none⟩ = some (.int .i64 s0) := (blk_cell (blk_below (blk_alloc BKs _) hB) 0).trans rfl
        have hcs1' : wz.cell? ⟨w13.heap.size, 1, none⟩ = some (.int .i64 s1) := (blk_cell (blk_below (blk_alloc BKs _) hB) 1).trans rfl
        go_wp2
        go_ret
        exact ⟨rfl, below_step (below_alloc HB _) hB⟩
      obtain rfl : f1 = 0 := Classical.not_not.mp nf1
      by_cases nf3 : f3 ≠ 0
      · have df30 : (f3 == 0) = false := beq_eq_false_iff_ne.mpr nf3
        have df31 : (f3 != 0) = true := bne_iff_ne.mpr nf3
        go_wp2_with fail
        refine (erasurelaw01_awake.calls true _ (Tab.below HT.out (by repeat (first | exact HB | apply below_alloc))) rfl).mono ?_
        rintro e wz ⟨rfl, hB⟩
        have hcr0' : wz.cell? ⟨w12.heap.size, 0, none⟩ = some (.int .i64 r0) := (blk_cell (blk_below (blk_alloc BKr _) hB) 0).trans rfl
        have hcr1' : wz.cell? ⟨w12.heap.size, 1, none⟩ = some (.int .i64 r1) := (blk_cell (blk_below (blk_alloc BKr _) hB) 1).trans rfl
        have hcs0' : wz.cell? ⟨w13.heap.size, 0, none⟩ = some (.int .i64 s0) := (blk_cell (blk_below (blk_alloc BKs _) hB) 0).trans rfl
        have hcs1' : wz.cell? ⟨w13.heap.size, 1, none⟩ = some (.int .i64 s1) := (blk_cell (blk_below (blk_alloc BKs _) hB) 1).trans rfl
        go_wp2
        go_ret
        exact ⟨rfl, below_step (below_alloc HB _) hB⟩
      obtain rfl : f3 = 0 := Classical.not_not.mp nf3
      by_cases nf4 : f4 ≠ 0
      · have df40 : (f4 == 0) = false := beq_eq_false_iff_ne.mpr nf4
        have df41 : (f4 != 0) = true := bne_iff_ne.mpr nf4
        go_wp2_with fail
        refine (erasurelaw01_awake.calls true _ (Tab.below HT.out (by repeat (first | exact HB | apply below_alloc))) rfl).mono ?_
        rintro e wz ⟨rfl, hB⟩
        have hcr0' : wz.cell? ⟨w12.heap.size, 0, none⟩ = some (.int .i64 r0) := (blk_cell (blk_below (blk_alloc BKr _) hB) 0).trans rfl
        have hcr1' : wz.cell? ⟨w12.heap.size, 1, none⟩ = some (.int .i64 r1) := (blk_cell (blk_below (blk_alloc BKr _) hB) 1).trans rfl
        have hcs0' : wz.cell? ⟨w13.heap.size, 0, none⟩ = some (.int .i64 s0) := (blk_cell (blk_below (blk_alloc BKs _) hB) 0).trans rfl
        have hcs1' : wz.cell? ⟨w13.heap.size, 1, none⟩ = some (.int .i64 s1) := (blk_cell (blk_below (blk_alloc BKs _) hB) 1).trans rfl
        go_wp2
        go_ret
        exact ⟨rfl, below_step (below_alloc HB _) hB⟩
      obtain rfl : f4 = 0 := Classical.not_not.mp nf4
      by_cases nf5 : f5 ≠ 0
      · have df50 : (f5 == 0) = false := beq_eq_false_iff_ne.mpr nf5
        have df51 : (f5 != 0) = true := bne_iff_ne.mpr nf5
        go_wp2_with fail
        refine (erasurelaw01_awake.calls true _ (Tab.below HT.out (by repeat (first | exact HB | apply below_alloc))) rfl).mono ?_
        rintro e wz ⟨rfl, hB⟩
        have hcr0' : wz.cell? ⟨w12.heap.size, 0, none⟩ = some (.int .i64 r0) := (blk_cell (blk_below (blk_alloc BKr _) hB) 0).trans rfl
        have hcr1' : wz.cell? ⟨w12.heap.size, 1, none⟩ = some (.int .i64 r1) := (blk_cell (blk_below (blk_alloc BKr _) hB) 1).trans rfl
        have hcs0' : wz.cell? ⟨w13.heap.size, 0, none⟩ = some (.int .i64 s0) := (blk_cell (blk_below (blk_alloc BKs _) hB) 0).trans rfl
        have hcs1' : wz.cell? ⟨w13.heap.size, 1, none⟩ = some (.int .i64 s1) := (blk_cell (blk_below (blk_alloc BKs _) hB) 1).trans rfl
        go_wp2
        go_ret
        exact ⟨rfl, below_step (below_alloc HB _) hB⟩
      obtain rfl : f5 = 0 := Classical.not_not.mp nf5
      obtain ⟨rfl, rfl⟩ := X2.out rfl rfl rfl rfl rfl
      go_wp2_with fail
      refine (erasurelaw01_awake.calls true _ (Tab.below HT.out (by repeat (first | exact HB | apply below_alloc))) rfl).mono ?_
      rintro e wz ⟨rfl, hB⟩
      have hcr0' : wz.cell? ⟨w12.heap.size, 0, none⟩ = some (.int .i64 r0) := (blk_cell (blk_below (blk_alloc BKr _) hB) 0).trans rfl
      have hcr1' : wz.cell? ⟨w12.heap.size, 1, none⟩ = some (.int .i64 r1) := (blk_cell (blk_below (blk_alloc BKr _) hB) 1).trans rfl
      have hcs0' : wz.cell? ⟨w13.heap.size, 0, none⟩ = some (.int .i64 r0) := (blk_cell (blk_below (blk_alloc BKs _) hB) 0).trans rfl
      have hcs1' : wz.cell? ⟨w13.heap.size, 1, none⟩ = some (.int .i64 r1) := (blk_cell (blk_below (blk_alloc BKs _) hB) 1).trans rfl
      go_wp2
      go_ret
      exact ⟨rfl, below_step (below_alloc HB _) hB⟩
    · obtain rfl : e1 = 0 := Classical.not_not.mp ne1
      obtain ⟨rfl, rfl, rfl⟩ := X1.out rfl rfl
      by_cases nf1 : f1 ≠ 0
      · have df10 : (f1 == 0) = false := beq_eq_false_iff_ne.mpr nf1
        have df11 : (f1 != 0) = true := bne_iff_ne.mpr nf1
        go_wp2_with fail
        refine (erasurelaw01_awake.calls true _ (Tab.below HT.out (by repeat (first | exact HB | apply below_alloc))) rfl).mono ?_
        rintro e wz ⟨rfl, hB⟩
        have hcr0' : wz.cell? ⟨w12.heap.size, 0, none⟩ = some (.int .i64 r0) := (blk_cell (blk_below (blk_alloc BKr _) hB) 0).trans rfl
        have hcr1' : wz.cell? ⟨w12.heap.size, 1, none⟩ = some (.int .i64 r1) := (blk_cell (blk_below (blk_alloc BKr _) hB) 1).trans rfl
        have hcs0' : wz.cell? ⟨w13.heap.size, 0, none⟩ = some (.int .i64 s0) := (blk_cell (blk_below (blk_alloc BKs _) hB) 0).trans rfl
        have hcs1' : wz.cell? ⟨w13.heap.size, 1, none⟩ = some (.int .i64 s1) := (blk_cell (blk_below (blk_alloc BKs _) hB) 1).trans rfl
        go_wp2
        go_ret
        exact ⟨rfl, below_step (below_alloc HB _) hB⟩
      obtain rfl : f1 = 0 := Classical.not_not.mp nf1
      by_cases nf3 : f3 ≠ 0
      · have df30 : (f3 == 0) = false := beq_eq_false_iff_ne.mpr nf3
        have df31 : (f3 != 0) = true := bne_iff_ne.mpr nf3
        go_wp2_with fail
        refine (erasurelaw01_awake.calls true _ (Tab.below HT.out (by repeat (first | exact HB | apply below_alloc))) rfl).mono ?_
        rintro e wz ⟨rfl, hB⟩
        have hcr0' : wz.cell? ⟨w12.heap.size, 0, none⟩ = some (.int .i64 r0) := (blk_cell (blk_below (blk_alloc BKr _) hB) 0).trans rfl
        have hcr1' : wz.cell? ⟨w12.heap.size, 1, none⟩ = some (.int .i64 r1) := (blk_cell (blk_below (blk_alloc BKr _) hB) 1).trans rfl
        have hcs0' : wz.cell? ⟨w13.heap.size, 0, none⟩ = some (.int .i64 s0) := (blk_cell (blk_below (blk_alloc BKs _) hB) 0).trans rfl
        have hcs1' : wz.cell? ⟨w13.heap.size, 1, none⟩ = some (.int .i64 s1) := (blk_cell (blk_below (blk_alloc BKs _) hB) 1).trans rfl
        go_wp2
        go_ret
        exact ⟨rfl, below_step (below_alloc HB _) hB⟩
      obtain rfl : f3 = 0 := Classical.not_not.mp nf3
      by_cases nf4 : f4 ≠ 0
      · have df40 : (f4 == 0) = false := beq_eq_false_iff_ne.mpr nf4
        have df41 : (f4 != 0) = true := bne_iff_ne.mpr nf4
        go_wp2_with fail
        refine (erasurelaw01_awake.calls true _ (Tab.below HT.out (by repeat (first | exact HB | apply below_alloc))) rfl).mono ?_
        rintro e wz ⟨rfl, hB⟩
        have hcr0' : wz.cell? ⟨w12.heap.size, 0, none⟩ = some (.int .i64 r0) := (blk_cell (blk_below (blk_alloc BKr _) hB) 0).trans rfl
        have hcr1' : wz.cell? ⟨w12.heap.size, 1, none⟩ = some (.int .i64 r1) := (blk_cell (blk_below (blk_alloc BKr _) hB) 1).trans rfl
        have hcs0' : wz.cell? ⟨w13.heap.size, 0, none⟩ = some (.int .i64 s0) := (blk_cell (blk_below (blk_alloc BKs _) hB) 0).trans rfl
        have hcs1' : wz.cell? ⟨w13.heap.size, 1, none⟩ = some (.int .i64 s1) := (blk_cell (blk_below (blk_alloc BKs _) hB) 1).trans rfl
        go_wp2
        go_ret
        exact ⟨rfl, below_step (below_alloc HB _) hB⟩
      obtain rfl : f4 = 0 := Classical.not_not.mp nf4
      by_cases nf5 : f5 ≠ 0
      · have df50 : (f5 == 0) = false := beq_eq_false_iff_ne.mpr nf5
        have df51 : (f5 != 0) = true := bne_iff_ne.mpr nf5
        go_wp2_with fail
        refine (erasurelaw01_awake.calls true _ (Tab.below HT.out (by repeat (first | exact HB | apply below_alloc))) rfl).mono ?_
        rintro e wz ⟨rfl, hB⟩
        have hcr0' : wz.cell? ⟨w12.heap.size, 0, none⟩ = some (.int .i64 r0) := (blk_cell (blk_below (blk_alloc BKr _) hB) 0).trans rfl
        have hcr1' : wz.cell? ⟨w12.heap.size, 1, none⟩ = some (.int .i64 r1) := (blk_cell (blk_below (blk_alloc BKr _) hB) 1).trans rfl
        have hcs0' : wz.cell? ⟨w13.heap.size, 0, none⟩ = some (.int .i64 s0) := (blk_cell (blk_below (blk_alloc BKs _) hB) 0).trans rfl
        have hcs1' : wz.cell? ⟨w13.heap.size, 1, none⟩ = some (.int .i64 s1) := (blk_cell (blk_below (blk_alloc BKs _) hB) 1).trans rfl
        go_wp2
        go_ret
        exact ⟨rfl, below_step (below_alloc HB _) hB⟩
      obtain rfl : f5 = 0 := Classical.not_not.mp nf5
      obtain ⟨rfl, rfl⟩ := X2.out rfl rfl rfl rfl rfl
      go_wp2_with fail
      refine (erasurelaw01_awake.calls true _ (Tab.below HT.out (by repeat (first | exact HB | apply below_alloc))) rfl).mono ?_
      rintro e wz ⟨rfl, hB⟩
      have hcr0' : wz.cell? ⟨w12.heap.size, 0, none⟩ = some (.int .i64 r0) := (blk_cell (blk_below (blk_alloc BKr _) hB) 0).trans rfl
      have hcr1' : wz.cell? ⟨w12.heap.size, 1, none⟩ = some (.int .i64 r1) := (blk_cell (blk_below (blk_alloc BKr _) hB) 1).trans rfl
      have hcs0' : wz.cell? ⟨w13.heap.size, 0, none⟩ = some (.int .i64 r0) := (blk_cell (blk_below (blk_alloc BKs _) hB) 0).trans rfl
      have hcs1' : wz.cell? ⟨w13.heap.size, 1, none⟩ = some (.int .i64 r1) := (blk_cell (blk_below (blk_alloc BKs _) hB) 1).trans rfl
      go_wp2
      go_ret
      exact ⟨rfl, below_step (below_alloc HB _) hB⟩
end Go.Proofs.YtdkckjiccpdkbaaDoor.D
