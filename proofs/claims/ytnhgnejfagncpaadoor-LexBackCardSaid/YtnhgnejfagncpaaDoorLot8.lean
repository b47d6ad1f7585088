/- Put together: H6, H9, L3, L5, L6, H5, L4, L7, E1, E2, E3, L8, E4, L9, L10, PlainTell, PlainDec, PlainMath, PlainText, PlainRef, PlainRef2, PlainLex, PlainTok, PlainTok2, PlainTok3 (each in a section of its own). -/
import Derived.Test.YtnhgnejfagncpaaDoorLot7
import Derived.Lib.SmallJoins
import Derived.Test.YtnhgnejfagncpaaDoorLot2
import Derived.Test.YtnhgnejfagncpaaDoorLot5
import Derived.Test.YtnhgnejfagncpaaDoorLot3
import Derived.Laws.Bits64b
import Derived.Lib.IndexLaws
section
namespace Go.Proofs.YtnhgnejfagncpaaDoor.P
open Go.RowKit Go.Proofs.YtnhgnejfagncpaaDoorW.PrintWords Go.Proofs.YtnhgnejfagncpaaDoorW.PrintLast Go.Proofs.YtnhgnejfagncpaaDoorW.PrintMore Go.Proofs.YtnhgnejfagncpaaDoor.H Go.Proofs.YtnhgnejfagncpaaDoor.A Go.Proofs.YtnhgnejfagncpaaDoor.B Go.Proofs.YtnhgnejfagncpaaDoor.E Go.Proofs.YtnhgnejfagncpaaDoor.L Go.Proofs.YtnhgnejfagncpaaDoor.M
set_option linter.unusedVariables false
set_option linter.unusedSimpArgs false
def lex_Next.f (k : Nat) (l0 : List Int) (a1 : Int) : Option (Int × Int × Int × ByteArray × Int × Int) :=
  if a1 < 0 ∨ (l0.length : Int) < a1 then some (0, 0, 0, ⟨#[]⟩, 0, 1)
  else (lex_reader_token.f k l0 a1).bind fun q => if q.2.2.2.2.1 = 0 then some (q.1, q.2.1, q.2.2.1, q.2.2.2.1, q.2.2.2.2.2, 0) else some (0, 0, 0, ⟨#[]⟩, 0, q.2.2.2.2.1)
set_option maxHeartbeats 8000000 in
set_option maxRecDepth 100000 in
theorem next_bad (A0 : Option Addr) (c0 : Nat) (l0 : List Int) (a1 : Int) (w : World) (h : a1 < 0 ∨ (l0.length : Int) < a1) :
    Calls Tryd.prog 10 #[.slice A0 l0.length c0, .int .i64 a1] w fun e w' => e = .returned (.tuple #[.agg #[.int .i64 0, .int .i64 0, .int .i64 0, .string ⟨#[]⟩], .int .i64 0, .int .i64 1]) ∧ Below w.heap.size w w' := by
  have hu27 := Tryd.underlying27
  have hu25 := Tryd.underlying25
  have hb : (decide (a1 < 0) || decide ((l0.length : Int) < a1)) = true := by simpa using h
  by_cases h1 : a1 < 0
  · have d1 : decide (a1 < 0) = true := decide_eq_true h1
    clear h hb
    go_enter Tryd.func10, Tryd.ntmps10
    go_wp2
    refine bodyPost_ret (results_ctt rfl _ _ w.heap.size 27 #[.int .i64 0, .int .i64 0, .int .i64 0, .string ⟨#[]⟩] (0, 0) _ rfl (blk_new _ _) hu27 rfl (by kernel_rfl)) rfl ?_
    exact ⟨rfl, below_alloc (Below.refl _ _) _⟩
  · have d1 : decide (a1 < 0) = false := decide_eq_false h1
    have d2 : decide ((l0.length : Int) < a1) = true := decide_eq_true (h.resolve_left h1)
    clear h hb
    go_enter Tryd.func10, Tryd.ntmps10
    go_wp2
    refine bodyPost_ret (results_ctt rfl _ _ w.heap.size 27 #[.int .i64 0, .int .i64 0, .int .i64 0, .string ⟨#[]⟩] (0, 0) _ rfl (blk_new _ _) hu27 rfl (by kernel_rfl)) rfl ?_
    exact ⟨rfl, below_alloc (Below.refl _ _) _⟩
set_option maxHeartbeats 8000000 in
set_option maxRecDepth 100000 in
theorem next_good (k : Nat) (A0 : Option Addr) (c0 : Nat) (l0 : List Int) (a1 : Int) (q1 q2 q3 : Int) (q4 : ByteArray) (q5 q6 : Int) (w : World) (hr0 : Kd.C (Kd.int .u8) w A0 l0.length l0) (hc0 : l0.length ≤ c0) (d1 : decide (a1 < 0) = false) (d2 : decide ((l0.length : Int) < a1) = false) (hq : lex_reader_token.f k l0 a1 = some (q1, q2, q3, q4, q5, q6)) :
    Calls Tryd.prog 10 #[.slice A0 l0.length c0, .int .i64 a1] w fun e w' => (q5 = 0 → e = .returned (.tuple #[.agg #[.int .i64 q1, .int .i64 q2, .int .i64 q3, .string q4], .int .i64 q6, .int .i64 0])) ∧ (q5 ≠ 0 → e = .returned (.tuple #[.agg #[.int .i64 0, .int .i64 0, .int .i64 0, .string ⟨#[]⟩], .int .i64 0, .int .i64 q5])) ∧ Below w.heap.size w w' := by
  have hu27 := Tryd.underlying27
  have hu25 := Tryd.underlying25
  have hu44 := Tryd.underlying44
  have A2 := Aside0.mk hq
  have HR := Aside0.mk hr0
  have HC := Aside0.mk hc0
  clear hq hr0 hc0
  go_enter Tryd.func10, Tryd.ntmps10
  go_wp2_with fail
  have hI := IsS44.new w (w.alloc (.cells #[.int .i64 0, .int .i64 0, .int .i64 0, .string ⟨#[]⟩] 27)) A0 c0 l0 a1 (below_alloc (Below.refl _ _) _) HR.out HC.out
  rw [World.size_alloc] at hI
  refine (lex_reader_token.calls k (w.heap.size + 1) l0 a1 q1 q2 q3 q4 q5 q6 w _ hI (below_alloc (below_alloc (Below.refl _ _) _) _) A2.out).mono ?_
  rintro e w2 ⟨rfl, hi, hb, hk⟩
  have BK4 := KeepBut.blk hk (blk_alloc (blk_new w (.cells #[.int .i64 0, .int .i64 0, .int .i64 0, .string ⟨#[]⟩] 27)) _) (by omega) (by simp)
  have hne : w2.heap.size ≠ w.heap.size := by have := blk_lt BK4; omega
  obtain ⟨A5, c5, hbk, hge, hC⟩ := id hi
  have HI := Aside0.mk hi
  have HB := Aside0.mk hb
  have HBK := Aside0.mk hbk
  have HBK4 := Aside0.mk BK4
  clear hk hC hI hi hb hbk
  have z0 : w2.cell? ⟨w.heap.size, 0, none⟩ = some (.int .i64 0) := (blk_cell BK4 0).trans rfl
  have z1 : w2.cell? ⟨w.heap.size, 1, none⟩ = some (.int .i64 0) := (blk_cell BK4 1).trans rfl
  have z2 : w2.cell? ⟨w.heap.size, 2, none⟩ = some (.int .i64 0) := (blk_cell BK4 2).trans rfl
  have z3 : w2.cell? ⟨w.heap.size, 3, none⟩ = some (.string ⟨#[]⟩) := (blk_cell BK4 3).trans rfl
  have zf0 := blk_frozen BK4 0
  have zf1 := blk_frozen BK4 1
  have zf2 := blk_frozen BK4 2
  have zf3 := blk_frozen BK4 3
  have zl := blk_lt BK4
  have y1 : w2.cell? ⟨w.heap.size + 1, 1, none⟩ = some (.int .i64 q6) := (blk_cell HBK.out 1).trans rfl
  have yl := blk_lt HBK.out
  clear BK4
  by_cases h5 : q5 = 0
  · subst h5
    go_wp2_with fail
    have BK8 := blk_new w2 (.cells #[.int .i64 q1, .int .i64 q2, .int .i64 q3, .string q4] 27)
    have BK4 := blk_alloc HBK4.out (.cells #[.int .i64 q1, .int .i64 q2, .int .i64 q3, .string q4] 27)
    have BKr := blk_alloc HBK.out (.cells #[.int .i64 q1, .int .i64 q2, .int .i64 q3, .string q4] 27)
    have hB3 := below_alloc HB.out (.cells #[.int .i64 q1, .int .i64 q2, .int .i64 q3, .string q4] 27)
    clear z0 z1 z2 z3 zf0 zf1 zf2 zf3 y1
    generalize w2.alloc (.cells #[.int .i64 q1, .int .i64 q2, .int .i64 q3, .string q4] 27) = W3 at BK8 BK4 BKr hB3 ⊢
    generalize w2.heap.size = g8 at BK8 hne ⊢
    have x0 : W3.cell? ⟨g8, 0, none⟩ = some (.int .i64 q1) := (blk_cell BK8 0).trans rfl
    have x1 : W3.cell? ⟨g8, 1, none⟩ = some (.int .i64 q2) := (blk_cell BK8 1).trans rfl
    have x2 : W3.cell? ⟨g8, 2, none⟩ = some (.int .i64 q3) := (blk_cell BK8 2).trans rfl
    have x3 : W3.cell? ⟨g8, 3, none⟩ = some (.string q4) := (blk_cell BK8 3).trans rfl
    have z0 : W3.cell? ⟨w.heap.size, 0, none⟩ = some (.int .i64 0) := (blk_cell BK4 0).trans rfl
    have z1 : W3.cell? ⟨w.heap.size, 1, none⟩ = some (.int .i64 0) := (blk_cell BK4 1).trans rfl
    have z2 : W3.cell? ⟨w.heap.size, 2, none⟩ = some (.int .i64 0) := (blk_cell BK4 2).trans rfl
    have z3 : W3.cell? ⟨w.heap.size, 3, none⟩ = some (.string ⟨#[]⟩) := (blk_cell BK4 3).trans rfl
    have zf0 := blk_frozen BK4 0
    have zf1 := blk_frozen BK4 1
    have zf2 := blk_frozen BK4 2
    have zf3 := blk_frozen BK4 3
    have y1 : W3.cell? ⟨w.heap.size + 1, 1, none⟩ = some (.int .i64 q6) := (blk_cell BKr 1).trans rfl
    have hB3' := Aside0.mk hB3
    have BK4' := Aside0.mk BK4
    clear hB3 BK4 BK8 BKr
    go_region_with (fail)
    all_goals go_wp2
    all_goals
      refine bodyPost_ret (results_ctt rfl _ _ w.heap.size 27 #[.int .i64 q1, .int .i64 q2, .int .i64 q3, .string q4] (0, 0) _ rfl (blk_drew (blk_set (blk_set (blk_set (blk_set BK4'.out 0 (.int .i64 q1)) 1 (.int .i64 q2)) 2 (.int .i64 q3)) 3 (.string q4))) hu27 rfl (by kernel_rfl)) rfl ?_
      first | exact ⟨rfl, below_drew1 (below_set (below_set (below_set (below_set hB3'.out (Nat.le_refl _)) (Nat.le_refl _)) (Nat.le_refl _)) (Nat.le_refl _))⟩ | exact ⟨fun _ => rfl, fun h => absurd rfl h, below_drew1 (below_set (below_set (below_set (below_set hB3'.out (Nat.le_refl _)) (Nat.le_refl _)) (Nat.le_refl _)) (Nat.le_refl _))⟩
  · have n5 : (q5 != 0) = true := bne_iff_ne.mpr h5
    go_wp2_with fail
    refine bodyPost_ret (results_ctt rfl _ _ w.heap.size 27 #[.int .i64 0, .int .i64 0, .int .i64 0, .string ⟨#[]⟩] (0, 0) _ rfl (blk_alloc (blk_set (blk_set (blk_set (blk_set HBK4.out 0 (.int .i64 0)) 1 (.int .i64 0)) 2 (.int .i64 0)) 3 (.string ⟨#[]⟩)) _) hu27 rfl (by kernel_rfl)) rfl ?_
    exact ⟨fun h => absurd h h5, fun _ => rfl, below_alloc (below_set (below_set (below_set (below_set HB.out (Nat.le_refl _)) (Nat.le_refl _)) (Nat.le_refl _)) (Nat.le_refl _)) _⟩
theorem lex_Next.calls (k : Nat) (A0 : Option Addr) (c0 : Nat) (l0 : List Int) (a1 : Int) (r1 : Int) (r2 : Int) (r3 : Int) (r4 : ByteArray) (r5 : Int) (r6 : Int) (w : World) (hr0 : Kd.C (Kd.int .u8) w A0 l0.length l0) (hc0 : l0.length ≤ c0) (h : lex_Next.f k l0 a1 = some (r1, r2, r3, r4, r5, r6)) :
    Calls Tryd.prog 10 #[.slice A0 l0.length c0, .int .i64 a1] w fun e w' => e = .returned (.tuple #[.agg #[.int .i64 r1, .int .i64 r2, .int .i64 r3, .string r4], .int .i64 r5, .int .i64 r6]) ∧ Below w.heap.size w w' := by
  unfold lex_Next.f at h
  by_cases hb : a1 < 0 ∨ (l0.length : Int) < a1
  · rw [if_pos hb] at h
    simp only [Option.some.injEq, Prod.mk.injEq] at h
    obtain ⟨rfl, rfl, rfl, rfl, rfl, rfl⟩ := h
    exact next_bad A0 c0 l0 a1 w hb
  · rw [if_neg hb] at h
    replace h := Option.bind_eq_some_iff.mp h
    obtain ⟨⟨q1, q2, q3, q4, q5, q6⟩, hq, h⟩ := h
    dsimp only at h
    refine (next_good k A0 c0 l0 a1 q1 q2 q3 q4 q5 q6 w hr0 hc0 (decide_eq_false (fun h => hb (Or.inl h))) (decide_eq_false (fun h => hb (Or.inr h))) hq).mono ?_
    rintro e w' ⟨h1, h2, h3⟩
    by_cases h5 : q5 = 0
    · rw [if_pos h5] at h
      simp only [Option.some.injEq, Prod.mk.injEq] at h
      obtain ⟨rfl, rfl, rfl, rfl, rfl, rfl⟩ := h
      exact ⟨h1 h5, h3⟩
    · rw [if_neg h5] at h
      simp only [Option.some.injEq, Prod.mk.injEq] at h
      obtain ⟨rfl, rfl, rfl, rfl, rfl, rfl⟩ := h
      exact ⟨h2 h5, h3⟩
end Go.Proofs.YtnhgnejfagncpaaDoor.P
end
section
namespace Go.Proofs.YtnhgnejfagncpaaDoor.P
open Go Go.RowKit Go.Proofs.YtnhgnejfagncpaaDoorW.PrintWords Go.Proofs.YtnhgnejfagncpaaDoorW.PrintLast Go.Proofs.YtnhgnejfagncpaaDoorW.PrintMore Go.Proofs.YtnhgnejfagncpaaDoor.H Go.Proofs.YtnhgnejfagncpaaDoor.A Go.Proofs.YtnhgnejfagncpaaDoor.B Go.Proofs.YtnhgnejfagncpaaDoor.E Go.Proofs.YtnhgnejfagncpaaDoor.L Go.Proofs.YtnhgnejfagncpaaDoor.M
set_option linter.unusedVariables false
set_option linter.unusedSimpArgs false
theorem C_lit (w : World) (xs : List Int) (fr : Nat × Nat) (h : xs.length ≤ 9223372036854775807) : Kd.C (Kd.int .u8) (w.alloc (.cells (xs.map fun x => Value.int .u8 x).toArray 5 fr)) (some ⟨w.heap.size, 0, none⟩) xs.length xs := by
  refine ⟨rfl, h, fun hn => ⟨_, rfl, fun j p hj => ⟨[.int .u8 p], rfl, rfl, fun i u hi => ?_⟩⟩⟩
  have hi0 : i = 0 := by
    rcases i with _ | i
    · rfl
    · simp at hi
  subst hi0
  simp at hi
  subst hi
  have := World.cell?_alloc_mark w (xs.map fun x => Value.int .u8 x).toArray 5 fr j
  have e : ((⟨w.heap.size, 0, none⟩ : Addr).add (j * (Kd.int .u8).sz + 0)) = ⟨w.heap.size, j, none⟩ := by
    have : (Kd.int .u8).sz = 1 := rfl
    rw [this]
    rcases j with _ | j <;> simp [Addr.add]
  rw [e, this]
  simp [hj]
def exB : List Int := [49, 50, 32, 47, 65, 35, 52, 50, 32, 40, 97, 92, 40, 98, 92, 53, 49, 41, 32, 60, 52, 32, 49, 62, 32, 91, 120]
theorem ex0 : lex_Next.f 100 exB 0 = some (1, 12, 0, ⟨#[]⟩, 2, 0) := by kernel_rfl
theorem ex1 : lex_Next.f 100 exB 2 = some (2, 0, 0, ⟨#[65, 66]⟩, 8, 0) := by kernel_rfl
theorem ex2 : lex_Next.f 100 exB 8 = some (3, 0, 0, ⟨#[97, 40, 98, 41]⟩, 18, 0) := by kernel_rfl
theorem ex3 : lex_Next.f 100 exB 18 = some (3, 0, 0, ⟨#[65]⟩, 24, 0) := by kernel_rfl
theorem ex4 : lex_Next.f 100 exB 24 = some (5, 0, 0, ⟨#[]⟩, 26, 0) := by kernel_rfl
theorem ex5 : lex_Next.f 100 exB 26 = some (4, 0, 0, ⟨#[120]⟩, 27, 0) := by kernel_rfl
theorem ex6 : lex_Next.f 100 exB 27 = some (0, 0, 0, ⟨#[]⟩, 27, 0) := by kernel_rfl
theorem ex7 : lex_Print.f 100 2 0 0 ⟨#[65, 66]⟩ = some (⟨#[47, 65, 66]⟩, 0) := by kernel_rfl
set_option maxHeartbeats 16000000 in
set_option maxRecDepth 100000 in
theorem awake14 (w : World) (hT : Tab w) : Calls Tryd.prog 12 #[] w fun e w' => e = .returned (.bool true) ∧ Below w.heap.size w w' := by
  have hu27 := Tryd.underlying27
  have hu25 := Tryd.underlying25
  have HT := Aside0.mk hT
  clear hT
  have hcv1 := Go.Joins.run_convert_bytes_const_at (P := Tryd.prog) w 22 5 #[.int .u8 49, .int .u8 50, .int .u8 32, .int .u8 47, .int .u8 65, .int .u8 35, .int .u8 52, .int .u8 50, .int .u8 32, .int .u8 40, .int .u8 97, .int .u8 92, .int .u8 40, .int .u8 98, .int .u8 92, .int .u8 53, .int .u8 49, .int .u8 41, .int .u8 32, .int .u8 60, .int .u8 52, .int .u8 32, .int .u8 49, .int .u8 62, .int .u8 32, .int .u8 91, .int .u8 120] 27 27 w.heap.size rfl rfl rfl
  have hC0 : Kd.C (Kd.int .u8) (w.alloc (.cells #[.int .u8 49, .int .u8 50, .int .u8 32, .int .u8 47, .int .u8 65, .int .u8 35, .int .u8 52, .int .u8 50, .int .u8 32, .int .u8 40, .int .u8 97, .int .u8 92, .int .u8 40, .int .u8 98, .int .u8 92, .int .u8 53, .int .u8 49, .int .u8 41, .int .u8 32, .int .u8 60, .int .u8 52, .int .u8 32, .int .u8 49, .int .u8 62, .int .u8 32, .int .u8 91, .int .u8 120] 5 (27, 28))) (some ⟨w.heap.size, 0, none⟩) 27 exB := C_lit w exB (27, 28) (by decide)
  go_enter Tryd.func12, Tryd.ntmps12
  go_wp2_with fail
  have hC1 := Kd.C_alloc hC0 (.cells #[.int .i64 1, .int .i64 12, .int .i64 0, .string ⟨#[]⟩, .int .i64 2, .int .i64 0, .int .i64 0, .string ⟨#[65, 66]⟩, .int .i64 3, .int .i64 0, .int .i64 0, .string ⟨#[97, 40, 98, 41]⟩, .int .i64 3, .int .i64 0, .int .i64 0, .string ⟨#[65]⟩, .int .i64 5, .int .i64 0, .int .i64 0, .string ⟨#[]⟩, .int .i64 4, .int .i64 0, .int .i64 0, .string ⟨#[120]⟩, .int .i64 0, .int .i64 0, .int .i64 0, .string ⟨#[]⟩] 27)
  have hBK : ((w.alloc (.cells #[.int .u8 49, .int .u8 50, .int .u8 32, .int .u8 47, .int .u8 65, .int .u8 35, .int .u8 52, .int .u8 50, .int .u8 32, .int .u8 40, .int .u8 97, .int .u8 92, .int .u8 40, .int .u8 98, .int .u8 92, .int .u8 53, .int .u8 49, .int .u8 41, .int .u8 32, .int .u8 60, .int .u8 52, .int .u8 32, .int .u8 49, .int .u8 62, .int .u8 32, .int .u8 91, .int .u8 120] 5 (27, 28))).alloc (.cells #[.int .i64 1, .int .i64 12, .int .i64 0, .string ⟨#[]⟩, .int .i64 2, .int .i64 0, .int .i64 0, .string ⟨#[65, 66]⟩, .int .i64 3, .int .i64 0, .int .i64 0, .string ⟨#[97, 40, 98, 41]⟩, .int .i64 3, .int .i64 0, .int .i64 0, .string ⟨#[65]⟩, .int .i64 5, .int .i64 0, .int .i64 0, .string ⟨#[]⟩, .int .i64 4, .int .i64 0, .int .i64 0, .string ⟨#[120]⟩, .int .i64 0, .int .i64 0, .int .i64 0, .string ⟨#[]⟩] 27)).heap[w.heap.size + 1]? = some (.cells #[.int .i64 1, .int .i64 12, .int .i64 0, .string ⟨#[]⟩, .int .i64 2, .int .i64 0, .int .i64 0, .string ⟨#[65, 66]⟩, .int .i64 3, .int .i64 0, .int .i64 0, .string ⟨#[97, 40, 98, 41]⟩, .int .i64 3, .int .i64 0, .int .i64 0, .string ⟨#[65]⟩, .int .i64 5, .int .i64 0, .int .i64 0, .string ⟨#[]⟩, .int .i64 4, .int .i64 0, .int .i64 0, .string ⟨#[120]⟩, .int .i64 0, .int .i64 0, .int .i64 0, .string ⟨#[]⟩] 27 (0, 0)) := by
    have h := blk_new (w.alloc (.cells #[.int .u8 49, .int .u8 50, .int .u8 32, .int .u8 47, .int .u8 65, .int .u8 35, .int .u8 52, .int .u8 50, .int .u8 32, .int .u8 40, .int .u8 97, .int .u8 92, .int .u8 40, .int .u8 98, .int .u8 92, .int .u8 53, .int .u8 49, .int .u8 41, .int .u8 32, .int .u8 60, .int .u8 52, .int .u8 32, .int .u8 49, .int .u8 62, .int .u8 32, .int .u8 91, .int .u8 120] 5 (27, 28))) (.cells #[.int .i64 1, .int .i64 12, .int .i64 0, .string ⟨#[]⟩, .int .i64 2, .int .i64 0, .int .i64 0, .string ⟨#[65, 66]⟩, .int .i64 3, .int .i64 0, .int .i64 0, .string ⟨#[97, 40, 98, 41]⟩, .int .i64 3, .int .i64 0, .int .i64 0, .string ⟨#[65]⟩, .int .i64 5, .int .i64 0, .int .i64 0, .string ⟨#[]⟩, .int .i64 4, .int .i64 0, .int .i64 0, .string ⟨#[120]⟩, .int .i64 0, .int .i64 0, .int .i64 0, .string ⟨#[]⟩] 27)
    rw [World.size_alloc] at h
    exact h
  have hB : Below w.heap.size w ((w.alloc (.cells #[.int .u8 49, .int .u8 50, .int .u8 32, .int .u8 47, .int .u8 65, .int .u8 35, .int .u8 52, .int .u8 50, .int .u8 32, .int .u8 40, .int .u8 97, .int .u8 92, .int .u8 40, .int .u8 98, .int .u8 92, .int .u8 53, .int .u8 49, .int .u8 41, .int .u8 32, .int .u8 60, .int .u8 52, .int .u8 32, .int .u8 49, .int .u8 62, .int .u8 32, .int .u8 91, .int .u8 120] 5 (27, 28))).alloc (.cells #[.int .i64 1, .int .i64 12, .int .i64 0, .string ⟨#[]⟩, .int .i64 2, .int .i64 0, .int .i64 0, .string ⟨#[65, 66]⟩, .int .i64 3, .int .i64 0, .int .i64 0, .string ⟨#[97, 40, 98, 41]⟩, .int .i64 3, .int .i64 0, .int .i64 0, .string ⟨#[65]⟩, .int .i64 5, .int .i64 0, .int .i64 0, .string ⟨#[]⟩, .int .i64 4, .int .i64 0, .int .i64 0, .string ⟨#[120]⟩, .int .i64 0, .int .i64 0, .int .i64 0, .string ⟨#[]⟩] 27)) := below_alloc (below_alloc (Below.refl _ _) _) _
  clear hC0 hcv1
  generalize (w.alloc (.cells #[.int .u8 49, .int .u8 50, .int .u8 32, .int .u8 47, .int .u8 65, .int .u8 35, .int .u8 52, .int .u8 50, .int .u8 32, .int .u8 40, .int .u8 97, .int .u8 92, .int .u8 40, .int .u8 98, .int .u8 92, .int .u8 53, .int .u8 49, .int .u8 41, .int .u8 32, .int .u8 60, .int .u8 52, .int .u8 32, .int .u8 49, .int .u8 62, .int .u8 32, .int .u8 91, .int .u8 120] 5 (27, 28))).alloc (.cells #[.int .i64 1, .int .i64 12, .int .i64 0, .string ⟨#[]⟩, .int .i64 2, .int .i64 0, .int .i64 0, .string ⟨#[65, 66]⟩, .int .i64 3, .int .i64 0, .int .i64 0, .string ⟨#[97, 40, 98, 41]⟩, .int .i64 3, .int .i64 0, .int .i64 0, .string ⟨#[65]⟩, .int .i64 5, .int .i64 0, .int .i64 0, .string ⟨#[]⟩, .int .i64 4, .int .i64 0, .int .i64 0, .string ⟨#[120]⟩, .int .i64 0, .int .i64 0, .int .i64 0, .string ⟨#[]⟩] 27) = W0 at hC1 hBK hB ⊢
  have HC := Aside0.mk hC1
  have HBK := Aside0.mk hBK
  have HB := Aside0.mk hB
  clear hC1 hBK hB
  go_loopg [3, 4] 8 (fun kq v3 v4 w' => ∃ i : Nat, i + kq = 8 ∧ i ≤ 7 ∧ v3 = .int .i64 (([0, 2, 8, 18, 24, 26, 27, 27] : List Int).getD i 0) ∧ v4 = .int .i64 (i : Int) ∧ Aside0 (Kd.C (Kd.int .u8) w' (some ⟨w.heap.size, 0, none⟩) 27 exB) ∧ Aside0 (w'.heap[w.heap.size + 1]? = some (.cells #[.int .i64 1, .int .i64 12, .int .i64 0, .string ⟨#[]⟩, .int .i64 2, .int .i64 0, .int .i64 0, .string ⟨#[65, 66]⟩, .int .i64 3, .int .i64 0, .int .i64 0, .string ⟨#[97, 40, 98, 41]⟩, .int .i64 3, .int .i64 0, .int .i64 0, .string ⟨#[65]⟩, .int .i64 5, .int .i64 0, .int .i64 0, .string ⟨#[]⟩, .int .i64 4, .int .i64 0, .int .i64 0, .string ⟨#[120]⟩, .int .i64 0, .int .i64 0, .int .i64 0, .string ⟨#[]⟩] 27 (0, 0))) ∧ Aside0 (Below w.heap.size w w'))
  case atStart => exact ⟨0, rfl, by omega, rfl, rfl, HC, HBK, HB⟩
  case round =>
    clear HC HBK HB
    obtain ⟨i, hik, hi, rfl, rfl, HC, HBK, HB⟩ := hrel
    have hcase : i = 0 ∨ i = 1 ∨ i = 2 ∨ i = 3 ∨ i = 4 ∨ i = 5 ∨ i = 6 ∨ i = 7 := by omega
    rcases hcase with rfl | rfl | rfl | rfl | rfl | rfl | rfl | rfl
    · obtain rfl : gk = 8 := by omega
      clear hik hi
      go_wp2_with fail
      refine (lex_Next.calls 100 (some ⟨w.heap.size, 0, none⟩) 27 exB 0 1 12 0 ⟨#[]⟩ 2 0 wr HC.out (by decide) ex0).mono ?_
      rintro e w2 ⟨rfl, hb⟩
      have HC2 := Aside0.mk (Kd.C_below HC.out hb)
      have hbk2 := blk_below HBK.out hb
      have HB2 := Aside0.mk (below_step HB.out hb)
      clear HC HBK HB hb
      go_wp2_with fail
      have BK8 := blk_new w2 (.cells #[.int .i64 1, .int .i64 12, .int .i64 0, .string ⟨#[]⟩] 27)
      have BKw := blk_alloc hbk2 (.cells #[.int .i64 1, .int .i64 12, .int .i64 0, .string ⟨#[]⟩] 27)
      have HC3 := Aside0.mk (Kd.C_alloc HC2.out (.cells #[.int .i64 1, .int .i64 12, .int .i64 0, .string ⟨#[]⟩] 27))
      have HB3 := Aside0.mk (below_alloc HB2.out (.cells #[.int .i64 1, .int .i64 12, .int .i64 0, .string ⟨#[]⟩] 27))
      clear HC2 HB2 hbk2
      generalize w2.alloc (.cells #[.int .i64 1, .int .i64 12, .int .i64 0, .string ⟨#[]⟩] 27) = W3 at BK8 BKw HC3 HB3 ⊢
      generalize w2.heap.size = g8 at BK8 ⊢
      have x0 : W3.cell? ⟨g8, 0, none⟩ = some (.int .i64 1) := (blk_cell BK8 0).trans rfl
      have y0 : W3.cell? ⟨w.heap.size + 1, 0, none⟩ = some (.int .i64 1) := (blk_cell BKw 0).trans rfl
      have x1 : W3.cell? ⟨g8, 1, none⟩ = some (.int .i64 12) := (blk_cell BK8 1).trans rfl
      have y1 : W3.cell? ⟨w.heap.size + 1, 1, none⟩ = some (.int .i64 12) := (blk_cell BKw 1).trans rfl
      have x2 : W3.cell? ⟨g8, 2, none⟩ = some (.int .i64 0) := (blk_cell BK8 2).trans rfl
      have y2 : W3.cell? ⟨w.heap.size + 1, 2, none⟩ = some (.int .i64 0) := (blk_cell BKw 2).trans rfl
      have x3 : W3.cell? ⟨g8, 3, none⟩ = some (.string ⟨#[]⟩) := (blk_cell BK8 3).trans rfl
      have y3 : W3.cell? ⟨w.heap.size + 1, 3, none⟩ = some (.string ⟨#[]⟩) := (blk_cell BKw 3).trans rfl
      have HBKw := Aside0.mk BKw
      clear BK8 BKw
      go_quiet (fail)
      go_wp2_with fail
      go_roundg 7
      case measure => omega
      case rel => exact ⟨1, rfl, by omega, rfl, by first | rfl | go_num, ⟨Kd.C_drewN HC3.out _⟩, HBKw, ⟨pw_below_drewN HB3.out _⟩⟩
    · obtain rfl : gk = 7 := by omega
      clear hik hi
      go_wp2_with fail
      refine (lex_Next.calls 100 (some ⟨w.heap.size, 0, none⟩) 27 exB 2 2 0 0 ⟨#[65, 66]⟩ 8 0 wr HC.out (by decide) ex1).mono ?_
      rintro e w2 ⟨rfl, hb⟩
      have HC2 := Aside0.mk (Kd.C_below HC.out hb)
      have hbk2 := blk_below HBK.out hb
      have HB2 := Aside0.mk (below_step HB.out hb)
      clear HC HBK HB hb
      go_wp2_with fail
      have BK8 := blk_new w2 (.cells #[.int .i64 2, .int .i64 0, .int .i64 0, .string ⟨#[65, 66]⟩] 27)
      have BKw := blk_alloc hbk2 (.cells #[.int .i64 2, .int .i64 0, .int .i64 0, .string ⟨#[65, 66]⟩] 27)
      have HC3 := Aside0.mk (Kd.C_alloc HC2.out (.cells #[.int .i64 2, .int .i64 0, .int .i64 0, .string ⟨#[65, 66]⟩] 27))
      have HB3 := Aside0.mk (below_alloc HB2.out (.cells #[.int .i64 2, .int .i64 0, .int .i64 0, .string ⟨#[65, 66]⟩] 27))
      clear HC2 HB2 hbk2
      generalize w2.alloc (.cells #[.int .i64 2, .int .i64 0, .int .i64 0, .string ⟨#[65, 66]⟩] 27) = W3 at BK8 BKw HC3 HB3 ⊢
      generalize w2.heap.size = g8 at BK8 ⊢
      have x0 : W3.cell? ⟨g8, 0, none⟩ = some (.int .i64 2) := (blk_cell BK8 0).trans rfl
      have y0 : W3.cell? ⟨w.heap.size + 1, 4, none⟩ = some (.int .i64 2) := (blk_cell BKw 4).trans rfl
      have x1 : W3.cell? ⟨g8, 1, none⟩ = some (.int .i64 0) := (blk_cell BK8 1).trans rfl
      have y1 : W3.cell? ⟨w.heap.size + 1, 5, none⟩ = some (.int .i64 0) := (blk_cell BKw 5).trans rfl
      have x2 : W3.cell? ⟨g8, 2, none⟩ = some (.int .i64 0) := (blk_cell BK8 2).trans rfl
      have y2 : W3.cell? ⟨w.heap.size + 1, 6, none⟩ = some (.int .i64 0) := (blk_cell BKw 6).trans rfl
      have x3 : W3.cell? ⟨g8, 3, none⟩ = some (.string ⟨#[65, 66]⟩) := (blk_cell BK8 3).trans rfl
      have y3 : W3.cell? ⟨w.heap.size + 1, 7, none⟩ = some (.string ⟨#[65, 66]⟩) := (blk_cell BKw 7).trans rfl
      have HBKw := Aside0.mk BKw
      clear BK8 BKw
      go_quiet (fail)
      go_wp2_with fail
      go_roundg 6
      case measure => omega
      case rel => exact ⟨2, rfl, by omega, rfl, by first | rfl | go_num, ⟨Kd.C_drewN HC3.out _⟩, HBKw, ⟨pw_below_drewN HB3.out _⟩⟩
    · obtain rfl : gk = 6 := by omega
      clear hik hi
      go_wp2_with fail
      refine (lex_Next.calls 100 (some ⟨w.heap.size, 0, none⟩) 27 exB 8 3 0 0 ⟨#[97, 40, 98, 41]⟩ 18 0 wr HC.out (by decide) ex2).mono ?_
      rintro e w2 ⟨rfl, hb⟩
      have HC2 := Aside0.mk (Kd.C_below HC.out hb)
      have hbk2 := blk_below HBK.out hb
      have HB2 := Aside0.mk (below_step HB.out hb)
      clear HC HBK HB hb
      go_wp2_with fail
      have BK8 := blk_new w2 (.cells #[.int .i64 3, .int .i64 0, .int .i64 0, .string ⟨#[97, 40, 98, 41]⟩] 27)
      have BKw := blk_alloc hbk2 (.cells #[.int .i64 3, .int .i64 0, .int .i64 0, .string ⟨#[97, 40, 98, 41]⟩] 27)
      have HC3 := Aside0.mk (Kd.C_alloc HC2.out (.cells #[.int .i64 3, .int .i64 0, .int .i64 0, .string ⟨#[97, 40, 98, 41]⟩] 27))
      have HB3 := Aside0.mk (below_alloc HB2.out (.cells #[.int .i64 3, .int .i64 0, .int .i64 0, .string ⟨#[97, 40, 98, 41]⟩] 27))
      clear HC2 HB2 hbk2
      generalize w2.alloc (.cells #[.int .i64 3, .int .i64 0, .int .i64 0, .string ⟨#[97, 40, 98, 41]⟩] 27) = W3 at BK8 BKw HC3 HB3 ⊢
      generalize w2.heap.size = g8 at BK8 ⊢
      have x0 : W3.cell? ⟨g8, 0, none⟩ = some (.int .i64 3) := (blk_cell BK8 0).trans rfl
      have y0 : W3.cell? ⟨w.heap.size + 1, 8, none⟩ = some (.int .i64 3) := (blk_cell BKw 8).trans rfl
      have x1 : W3.cell? ⟨g8, 1, none⟩ = some (.int .i64 0) := (blk_cell BK8 1).trans rfl
      have y1 : W3.cell? ⟨w.heap.size + 1, 9, none⟩ = some (.int .i64 0) := (blk_cell BKw 9).trans rfl
      have x2 : W3.cell? ⟨g8, 2, none⟩ = some (.int .i64 0) := (blk_cell BK8 2).trans rfl
      have y2 : W3.cell? ⟨w.heap.size + 1, 10, none⟩ = some (.int .i64 0) := (blk_cell BKw 10).trans rfl
      have x3 : W3.cell? ⟨g8, 3, none⟩ = some (.string ⟨#[97, 40, 98, 41]⟩) := (blk_cell BK8 3).trans rfl
      have y3 : W3.cell? ⟨w.heap.size + 1, 11, none⟩ = some (.string ⟨#[97, 40, 98, 41]⟩) := (blk_cell BKw 11).trans rfl
      have HBKw := Aside0.mk BKw
      clear BK8 BKw
      go_quiet (fail)
      go_wp2_with fail
      go_roundg 5
      case measure => omega
      case rel => exact ⟨3, rfl, by omega, rfl, by first | rfl | go_num, ⟨Kd.C_drewN HC3.out _⟩, HBKw, ⟨pw_below_drewN HB3.out _⟩⟩
    · obtain rfl : gk = 5 := by omega
      clear hik hi
      go_wp2_with fail
      refine (lex_Next.calls 100 (some ⟨w.heap.size, 0, none⟩) 27 exB 18 3 0 0 ⟨#[65]⟩ 24 0 wr HC.out (by decide) ex3).mono ?_
      rintro e w2 ⟨rfl, hb⟩
      have HC2 := Aside0.mk (Kd.C_below HC.out hb)
      have hbk2 := blk_below HBK.out hb
      have HB2 := Aside0.mk (below_step HB.out hb)
      clear HC HBK HB hb
      go_wp2_with fail
      have BK8 := blk_new w2 (.cells #[.int .i64 3, .int .i64 0, .int .i64 0, .string ⟨#[65]⟩] 27)
      have BKw := blk_alloc hbk2 (.cells #[.int .i64 3, .int .i64 0, .int .i64 0, .string ⟨#[65]⟩] 27)
      have HC3 := Aside0.mk (Kd.C_alloc HC2.out (.cells #[.int .i64 3, .int .i64 0, .int .i64 0, .string ⟨#[65]⟩] 27))
      have HB3 := Aside0.mk (below_alloc HB2.out (.cells #[.int .i64 3, .int .i64 0, .int .i64 0, .string ⟨#[65]⟩] 27))
      clear HC2 HB2 hbk2
      generalize w2.alloc (.cells #[.int .i64 3, .int .i64 0, .int .i64 0, .string ⟨#[65]⟩] 27) = W3 at BK8 BKw HC3 HB3 ⊢
      generalize w2.heap.size = g8 at BK8 ⊢
      have x0 : W3.cell? ⟨g8, 0, none⟩ = some (.int .i64 3) := (blk_cell BK8 0).trans rfl
      have y0 : W3.cell? ⟨w.heap.size + 1, 12, none⟩ = some (.int .i64 3) := (blk_cell BKw 12).trans rfl
      have x1 : W3.cell? ⟨g8, 1, none⟩ = some (.int .i64 0) := (blk_cell BK8 1).trans rfl
      have y1 : W3.cell? ⟨w.heap.size + 1, 13, none⟩ = some (.int .i64 0) := (blk_cell BKw 13).trans rfl
      have x2 : W3.cell? ⟨g8, 2, none⟩ = some (.int .i64 0) := (blk_cell BK8 2).trans rfl
      have y2 : W3.cell? ⟨w.heap.size + 1, 14, none⟩ = some (.int .i64 0) := (blk_cell BKw 14).trans rfl
      have x3 : W3.cell? ⟨g8, 3, none⟩ = some (.string ⟨#[65]⟩) := (blk_cell BK8 3).trans rfl
      have y3 : W3.cell? ⟨w.heap.size + 1, 15, none⟩ = some (.string ⟨#[65]⟩) := (blk_cell BKw 15).trans rfl
      have HBKw := Aside0.mk BKw
      clear BK8 BKw
      go_quiet (fail)
      go_wp2_with fail
      go_roundg 4
      case measure => omega
      case rel => exact ⟨4, rfl, by omega, rfl, by first | rfl | go_num, ⟨Kd.C_drewN HC3.out _⟩, HBKw, ⟨pw_below_drewN HB3.out _⟩⟩
    · obtain rfl : gk = 4 := by omega
      clear hik hi
      go_wp2_with fail
      refine (lex_Next.calls 100 (some ⟨w.heap.size, 0, none⟩) 27 exB 24 5 0 0 ⟨#[]⟩ 26 0 wr HC.out (by decide) ex4).mono ?_
      rintro e w2 ⟨rfl, hb⟩
      have HC2 := Aside0.mk (Kd.C_below HC.out hb)
      have hbk2 := blk_below HBK.out hb
      have HB2 := Aside0.mk (below_step HB.out hb)
      clear HC HBK HB hb
      go_wp2_with fail
      have BK8 := blk_new w2 (.cells #[.int .i64 5, .int .i64 0, .int .i64 0, .string ⟨#[]⟩] 27)
      have BKw := blk_alloc hbk2 (.cells #[.int .i64 5, .int .i64 0, .int .i64 0, .string ⟨#[]⟩] 27)
      have HC3 := Aside0.mk (Kd.C_alloc HC2.out (.cells #[.int .i64 5, .int .i64 0, .int .i64 0, .string ⟨#[]⟩] 27))
      have HB3 := Aside0.mk (below_alloc HB2.out (.cells #[.int .i64 5, .int .i64 0, .int .i64 0, .string ⟨#[]⟩] 27))
      clear HC2 HB2 hbk2
      generalize w2.alloc (.cells #[.int .i64 5, .int .i64 0, .int .i64 0, .string ⟨#[]⟩] 27) = W3 at BK8 BKw HC3 HB3 ⊢
      generalize w2.heap.size = g8 at BK8 ⊢
      have x0 : W3.cell? ⟨g8, 0, none⟩ = some (.int .i64 5) := (blk_cell BK8 0).trans rfl
      have y0 : W3.cell? ⟨w.heap.size + 1, 16, none⟩ = some (.int .i64 5) := (blk_cell BKw 16).trans rfl
      have x1 : W3.cell? ⟨g8, 1, none⟩ = some (.int .i64 0) := (blk_cell BK8 1).trans rfl
      have y1 : W3.cell? ⟨w.heap.size + 1, 17, none⟩ = some (.int .i64 0) := (blk_cell BKw 17).trans rfl
      have x2 : W3.cell? ⟨g8, 2, none⟩ = some (.int .i64 0) := (blk_cell BK8 2).trans rfl
      have y2 : W3.cell? ⟨w.heap.size + 1, 18, none⟩ = some (.int .i64 0) := (blk_cell BKw 18).trans rfl
      have x3 : W3.cell? ⟨g8, 3, none⟩ = some (.string ⟨#[]⟩) := (blk_cell BK8 3).trans rfl
      have y3 : W3.cell? ⟨w.heap.size + 1, 19, none⟩ = some (.string ⟨#[]⟩) := (blk_cell BKw 19).trans rfl
      have HBKw := Aside0.mk BKw
      clear BK8 BKw
      go_quiet (fail)
      go_wp2_with fail
      go_roundg 3
      case measure => omega
      case rel => exact ⟨5, rfl, by omega, rfl, by first | rfl | go_num, ⟨Kd.C_drewN HC3.out _⟩, HBKw, ⟨pw_below_drewN HB3.out _⟩⟩
    · obtain rfl : gk = 3 := by omega
      clear hik hi
      go_wp2_with fail
      refine (lex_Next.calls 100 (some ⟨w.heap.size, 0, none⟩) 27 exB 26 4 0 0 ⟨#[120]⟩ 27 0 wr HC.out (by decide) ex5).mono ?_
      rintro e w2 ⟨rfl, hb⟩
      have HC2 := Aside0.mk (Kd.C_below HC.out hb)
      have hbk2 := blk_below HBK.out hb
      have HB2 := Aside0.mk (below_step HB.out hb)
      clear HC HBK HB hb
      go_wp2_with fail
      have BK8 := blk_new w2 (.cells #[.int .i64 4, .int .i64 0, .int .i64 0, .string ⟨#[120]⟩] 27)
      have BKw := blk_alloc hbk2 (.cells #[.int .i64 4, .int .i64 0, .int .i64 0, .string ⟨#[120]⟩] 27)
      have HC3 := Aside0.mk (Kd.C_alloc HC2.out (.cells #[.int .i64 4, .int .i64 0, .int .i64 0, .string ⟨#[120]⟩] 27))
      have HB3 := Aside0.mk (below_alloc HB2.out (.cells #[.int .i64 4, .int .i64 0, .int .i64 0, .string ⟨#[120]⟩] 27))
      clear HC2 HB2 hbk2
      generalize w2.alloc (.cells #[.int .i64 4, .int .i64 0, .int .i64 0, .string ⟨#[120]⟩] 27) = W3 at BK8 BKw HC3 HB3 ⊢
      generalize w2.heap.size = g8 at BK8 ⊢
      have x0 : W3.cell? ⟨g8, 0, none⟩ = some (.int .i64 4) := (blk_cell BK8 0).trans rfl
      have y0 : W3.cell? ⟨w.heap.size + 1, 20, none⟩ = some (.int .i64 4) := (blk_cell BKw 20).trans rfl
      have x1 : W3.cell? ⟨g8, 1, none⟩ = some (.int .i64 0) := (blk_cell BK8 1).trans rfl
      have y1 : W3.cell? ⟨w.heap.size + 1, 21, none⟩ = some (.int .i64 0) := (blk_cell BKw 21).trans rfl
      have x2 : W3.cell? ⟨g8, 2, none⟩ = some (.int .i64 0) := (blk_cell BK8 2).trans rfl
      have y2 : W3.cell? ⟨w.heap.size + 1, 22, none⟩ = some (.int .i64 0) := (blk_cell BKw 22).trans rfl
      have x3 : W3.cell? ⟨g8, 3, none⟩ = some (.string ⟨#[120]⟩) := (blk_cell BK8 3).trans rfl
      have y3 : W3.cell? ⟨w.heap.size + 1, 23, none⟩ = some (.string ⟨#[120]⟩) := (blk_cell BKw 23).trans rfl
      have HBKw := Aside0.mk BKw
      clear BK8 BKw
      go_quiet (fail)
      go_wp2_with fail
      go_roundg 2
      case measure => omega
      case rel => exact ⟨6, rfl, by omega, rfl, by first | rfl | go_num, ⟨Kd.C_drewN HC3.out _⟩, HBKw, ⟨pw_below_drewN HB3.out _⟩⟩
    · obtain rfl : gk = 2 := by omega
      clear hik hi
      go_wp2_with fail
      refine (lex_Next.calls 100 (some ⟨w.heap.size, 0, none⟩) 27 exB 27 0 0 0 ⟨#[]⟩ 27 0 wr HC.out (by decide) ex6).mono ?_
      rintro e w2 ⟨rfl, hb⟩
      have HC2 := Aside0.mk (Kd.C_below HC.out hb)
      have hbk2 := blk_below HBK.out hb
      have HB2 := Aside0.mk (below_step HB.out hb)
      clear HC HBK HB hb
      go_wp2_with fail
      have BK8 := blk_new w2 (.cells #[.int .i64 0, .int .i64 0, .int .i64 0, .string ⟨#[]⟩] 27)
      have BKw := blk_alloc hbk2 (.cells #[.int .i64 0, .int .i64 0, .int .i64 0, .string ⟨#[]⟩] 27)
      have HC3 := Aside0.mk (Kd.C_alloc HC2.out (.cells #[.int .i64 0, .int .i64 0, .int .i64 0, .string ⟨#[]⟩] 27))
      have HB3 := Aside0.mk (below_alloc HB2.out (.cells #[.int .i64 0, .int .i64 0, .int .i64 0, .string ⟨#[]⟩] 27))
      clear HC2 HB2 hbk2
      generalize w2.alloc (.cells #[.int .i64 0, .int .i64 0, .int .i64 0, .string ⟨#[]⟩] 27) = W3 at BK8 BKw HC3 HB3 ⊢
      generalize w2.heap.size = g8 at BK8 ⊢
      have x0 : W3.cell? ⟨g8, 0, none⟩ = some (.int .i64 0) := (blk_cell BK8 0).trans rfl
      have y0 : W3.cell? ⟨w.heap.size + 1, 24, none⟩ = some (.int .i64 0) := (blk_cell BKw 24).trans rfl
      have x1 : W3.cell? ⟨g8, 1, none⟩ = some (.int .i64 0) := (blk_cell BK8 1).trans rfl
      have y1 : W3.cell? ⟨w.heap.size + 1, 25, none⟩ = some (.int .i64 0) := (blk_cell BKw 25).trans rfl
      have x2 : W3.cell? ⟨g8, 2, none⟩ = some (.int .i64 0) := (blk_cell BK8 2).trans rfl
      have y2 : W3.cell? ⟨w.heap.size + 1, 26, none⟩ = some (.int .i64 0) := (blk_cell BKw 26).trans rfl
      have x3 : W3.cell? ⟨g8, 3, none⟩ = some (.string ⟨#[]⟩) := (blk_cell BK8 3).trans rfl
      have y3 : W3.cell? ⟨w.heap.size + 1, 27, none⟩ = some (.string ⟨#[]⟩) := (blk_cell BKw 27).trans rfl
      have HBKw := Aside0.mk BKw
      clear BK8 BKw
      go_quiet (fail)
      go_wp2_with fail
      go_roundg 1
      case measure => omega
      case rel => exact ⟨7, rfl, by omega, rfl, by first | rfl | go_num, ⟨Kd.C_drewN HC3.out _⟩, HBKw, ⟨pw_below_drewN HB3.out _⟩⟩
    · clear hik hi
      have y0 : wr.cell? ⟨w.heap.size + 1, 4, none⟩ = some (.int .i64 2) := (blk_cell HBK.out 4).trans rfl
      have y1 : wr.cell? ⟨w.heap.size + 1, 5, none⟩ = some (.int .i64 0) := (blk_cell HBK.out 5).trans rfl
      have y2 : wr.cell? ⟨w.heap.size + 1, 6, none⟩ = some (.int .i64 0) := (blk_cell HBK.out 6).trans rfl
      have y3 : wr.cell? ⟨w.heap.size + 1, 7, none⟩ = some (.string ⟨#[65, 66]⟩) := (blk_cell HBK.out 7).trans rfl
      go_wp2_with fail
      refine (lex_Print.calls 100 2 0 0 ⟨#[65, 66]⟩ ⟨#[47, 65, 66]⟩ 0 wr (Tab.below HT.out HB.out) ex7).mono ?_
      rintro e w2 ⟨rfl, hb⟩
      go_wp2_with fail
      go_ret
      exact ⟨rfl, below_step HB.out hb⟩
end Go.Proofs.YtnhgnejfagncpaaDoor.P
end
section
namespace Go.Proofs.YtnhgnejfagncpaaDoor.L
open Go.RowKit Go.Proofs.YtnhgnejfagncpaaDoorW.PrintWords Go.Proofs.YtnhgnejfagncpaaDoorW.PrintLast Go.Proofs.YtnhgnejfagncpaaDoorW.PrintMore Go.Proofs.YtnhgnejfagncpaaDoor.H Go.Proofs.YtnhgnejfagncpaaDoor.A Go.Proofs.YtnhgnejfagncpaaDoor.B Go.Proofs.YtnhgnejfagncpaaDoor.E
attribute [local go_sem] max2_int min2_int max_two min_two max_three min_three max_four min_four   -- for this text's walks alone
set_option linter.unusedVariables false
set_option linter.unusedSimpArgs false
end Go.Proofs.YtnhgnejfagncpaaDoor.L
end
section
namespace Go.Proofs.YtnhgnejfagncpaaDoor.L
open Go.RowKit Go.Proofs.YtnhgnejfagncpaaDoorW.PrintWords Go.Proofs.YtnhgnejfagncpaaDoorW.PrintLast Go.Proofs.YtnhgnejfagncpaaDoorW.PrintMore Go.Proofs.YtnhgnejfagncpaaDoor.H Go.Proofs.YtnhgnejfagncpaaDoor.A Go.Proofs.YtnhgnejfagncpaaDoor.B Go.Proofs.YtnhgnejfagncpaaDoor.E
attribute [local go_sem] max2_int min2_int max_two min_two max_three min_three max_four min_four   -- for this text's walks alone
set_option linter.unusedVariables false
set_option linter.unusedSimpArgs false
end Go.Proofs.YtnhgnejfagncpaaDoor.L
end
section
namespace Go.Proofs.YtnhgnejfagncpaaDoor.L
open Go.RowKit Go.Proofs.YtnhgnejfagncpaaDoorW.PrintWords Go.Proofs.YtnhgnejfagncpaaDoorW.PrintLast Go.Proofs.YtnhgnejfagncpaaDoorW.PrintMore Go.Proofs.YtnhgnejfagncpaaDoor.H Go.Proofs.YtnhgnejfagncpaaDoor.A Go.Proofs.YtnhgnejfagncpaaDoor.B Go.Proofs.YtnhgnejfagncpaaDoor.E
attribute [local go_sem] max2_int min2_int max_two min_two max_three min_three max_four min_four   -- for this text's walks alone
set_option linter.unusedVariables false
set_option linter.unusedSimpArgs false
end Go.Proofs.YtnhgnejfagncpaaDoor.L
end
section
namespace Go.Proofs.YtnhgnejfagncpaaDoor.L
open Go.RowKit Go.Proofs.YtnhgnejfagncpaaDoorW.PrintWords Go.Proofs.YtnhgnejfagncpaaDoorW.PrintLast Go.Proofs.YtnhgnejfagncpaaDoorW.PrintMore Go.Proofs.YtnhgnejfagncpaaDoor.H
set_option linter.unusedVariables false
set_option linter.unusedSimpArgs false
def hexS : ByteArray := ⟨#[48, 49, 50, 51, 52, 53, 54, 55, 56, 57, 97, 98, 99, 100, 101, 102]⟩
def erasureref14_two.f (a0 : Int) : Option ByteArray := if 0 ≤ a0 ∧ a0 < 256 then some (hexS.extract (a0 / 16).toNat (a0 / 16 + 1).toNat ++ hexS.extract (a0 % 16).toNat (a0 % 16 + 1).toNat) else none
end Go.Proofs.YtnhgnejfagncpaaDoor.L
end
section
namespace Go.Proofs.YtnhgnejfagncpaaDoor.L
open Go.RowKit Go.Proofs.YtnhgnejfagncpaaDoorW.PrintWords Go.Proofs.YtnhgnejfagncpaaDoorW.PrintLast Go.Proofs.YtnhgnejfagncpaaDoorW.PrintMore Go.Proofs.YtnhgnejfagncpaaDoor.H Go.Proofs.YtnhgnejfagncpaaDoor.A Go.Proofs.YtnhgnejfagncpaaDoor.B Go.Proofs.YtnhgnejfagncpaaDoor.E
attribute [local go_sem] max2_int min2_int max_two min_two max_three min_three max_four min_four   -- for this text's walks alone
set_option linter.unusedVariables false
set_option linter.unusedSimpArgs false
end Go.Proofs.YtnhgnejfagncpaaDoor.L
end
section
namespace Go.Proofs.YtnhgnejfagncpaaDoor.L
open Go.RowKit Go.Proofs.YtnhgnejfagncpaaDoorW.PrintWords Go.Proofs.YtnhgnejfagncpaaDoorW.PrintLast Go.Proofs.YtnhgnejfagncpaaDoorW.PrintMore Go.Proofs.YtnhgnejfagncpaaDoor.H Go.Proofs.YtnhgnejfagncpaaDoor.A Go.Proofs.YtnhgnejfagncpaaDoor.B Go.Proofs.YtnhgnejfagncpaaDoor.E
attribute [local go_sem] max2_int min2_int max_two min_two max_three min_three max_four min_four   -- for this text's walks alone
set_option linter.unusedVariables false
set_option linter.unusedSimpArgs false
end Go.Proofs.YtnhgnejfagncpaaDoor.L
end
section
namespace Go.Proofs.YtnhgnejfagncpaaDoor.E
open Go.RowKit Go.Proofs.YtnhgnejfagncpaaDoorW.PrintWords Go.Proofs.YtnhgnejfagncpaaDoorW.PrintLast Go.Proofs.YtnhgnejfagncpaaDoorW.PrintMore Go.Proofs.YtnhgnejfagncpaaDoor.H Go.Proofs.YtnhgnejfagncpaaDoor.A Go.Proofs.YtnhgnejfagncpaaDoor.B
attribute [local go_sem] max2_int min2_int max_two min_two max_three min_three max_four min_four   -- for this text's walks alone
set_option linter.unusedVariables false
set_option linter.unusedSimpArgs false
end Go.Proofs.YtnhgnejfagncpaaDoor.E
end
section
namespace Go.Proofs.YtnhgnejfagncpaaDoor.E
open Go.RowKit Go.Proofs.YtnhgnejfagncpaaDoorW.PrintWords Go.Proofs.YtnhgnejfagncpaaDoorW.PrintLast Go.Proofs.YtnhgnejfagncpaaDoorW.PrintMore Go.Proofs.YtnhgnejfagncpaaDoor.H Go.Proofs.YtnhgnejfagncpaaDoor.A Go.Proofs.YtnhgnejfagncpaaDoor.B
attribute [local go_sem] max2_int min2_int max_two min_two max_three min_three max_four min_four   -- for this text's walks alone
set_option linter.unusedVariables false
set_option linter.unusedSimpArgs false
end Go.Proofs.YtnhgnejfagncpaaDoor.E
end
section
namespace Go.Proofs.YtnhgnejfagncpaaDoor.E
open Go.RowKit Go.Proofs.YtnhgnejfagncpaaDoorW.PrintWords Go.Proofs.YtnhgnejfagncpaaDoorW.PrintLast Go.Proofs.YtnhgnejfagncpaaDoorW.PrintMore Go.Proofs.YtnhgnejfagncpaaDoor.H Go.Proofs.YtnhgnejfagncpaaDoor.A Go.Proofs.YtnhgnejfagncpaaDoor.B
attribute [local go_sem] max2_int min2_int max_two min_two max_three min_three max_four min_four   -- for this text's walks alone
set_option linter.unusedVariables false
set_option linter.unusedSimpArgs false
end Go.Proofs.YtnhgnejfagncpaaDoor.E
end
section
namespace Go.Proofs.YtnhgnejfagncpaaDoor.L
open Go.RowKit Go.Proofs.YtnhgnejfagncpaaDoorW.PrintWords Go.Proofs.YtnhgnejfagncpaaDoorW.PrintLast Go.Proofs.YtnhgnejfagncpaaDoorW.PrintMore Go.Proofs.YtnhgnejfagncpaaDoor.H Go.Proofs.YtnhgnejfagncpaaDoor.A Go.Proofs.YtnhgnejfagncpaaDoor.B Go.Proofs.YtnhgnejfagncpaaDoor.E
attribute [local go_sem] max2_int min2_int max_two min_two max_three min_three max_four min_four   -- for this text's walks alone
set_option linter.unusedVariables false
set_option linter.unusedSimpArgs false
end Go.Proofs.YtnhgnejfagncpaaDoor.L
end
section
namespace Go.Proofs.YtnhgnejfagncpaaDoor.E
open Go.RowKit Go.Proofs.YtnhgnejfagncpaaDoorW.PrintWords Go.Proofs.YtnhgnejfagncpaaDoorW.PrintLast Go.Proofs.YtnhgnejfagncpaaDoorW.PrintMore Go.Proofs.YtnhgnejfagncpaaDoor.H Go.Proofs.YtnhgnejfagncpaaDoor.A Go.Proofs.YtnhgnejfagncpaaDoor.B
attribute [local go_sem] max2_int min2_int max_two min_two max_three min_three max_four min_four   -- for this text's walks alone
set_option linter.unusedVariables false
set_option linter.unusedSimpArgs false
end Go.Proofs.YtnhgnejfagncpaaDoor.E
end
section
namespace Go.Proofs.YtnhgnejfagncpaaDoor.L
open Go.RowKit Go.Proofs.YtnhgnejfagncpaaDoorW.PrintWords Go.Proofs.YtnhgnejfagncpaaDoorW.PrintLast Go.Proofs.YtnhgnejfagncpaaDoorW.PrintMore Go.Proofs.YtnhgnejfagncpaaDoor.H Go.Proofs.YtnhgnejfagncpaaDoor.A Go.Proofs.YtnhgnejfagncpaaDoor.B Go.Proofs.YtnhgnejfagncpaaDoor.E
attribute [local go_sem] max2_int min2_int max_two min_two max_three min_three max_four min_four   -- for this text's walks alone
set_option linter.unusedVariables false
set_option linter.unusedSimpArgs false
attribute [local go_sem high] eqA25
end Go.Proofs.YtnhgnejfagncpaaDoor.L
end
section
namespace Go.Proofs.YtnhgnejfagncpaaDoor.L
open Go.RowKit Go.Proofs.YtnhgnejfagncpaaDoorW.PrintWords Go.Proofs.YtnhgnejfagncpaaDoorW.PrintLast Go.Proofs.YtnhgnejfagncpaaDoorW.PrintMore Go.Proofs.YtnhgnejfagncpaaDoor.H Go.Proofs.YtnhgnejfagncpaaDoor.A Go.Proofs.YtnhgnejfagncpaaDoor.B Go.Proofs.YtnhgnejfagncpaaDoor.E
attribute [local go_sem] max2_int min2_int max_two min_two max_three min_three max_four min_four   -- for this text's walks alone
set_option linter.unusedVariables false
set_option linter.unusedSimpArgs false
end Go.Proofs.YtnhgnejfagncpaaDoor.L
end
section
namespace Go.Proofs.YtnhgnejfagncpaaDoor.Plain
open Go.RowKit Go.Proofs.YtnhgnejfagncpaaDoor.A Go.Proofs.YtnhgnejfagncpaaDoor.H Go.Proofs.YtnhgnejfagncpaaDoorW.PrintWords Go.Proofs.YtnhgnejfagncpaaDoorW.PrintLast Go.Proofs.YtnhgnejfagncpaaDoorW.PrintMore
theorem wrap_small (n : Int) (h0 : -9223372036854775808 ≤ n) (h1 : n < 9223372036854775808) : wrap64 n = n := by
  unfold wrap64
  omega
theorem wu (n : Int) (h0 : 0 ≤ n) (h1 : n < 18446744073709551616) : IntKind.u64.wrap n = n := by
  rw [IntKind.wrap_u64]
  omega
theorem tm10 (n : Nat) : Int.tmod (n : Int) 10 = ((n % 10 : Nat) : Int) := rfl
theorem td10 (n : Nat) : Int.tdiv (n : Int) 10 = ((n / 10 : Nat) : Int) := rfl
theorem shl10 : shl .u64 10 60 = 11529215046068469760 := by decide
theorem lz10 : bits_LeadingZeros64.f 10 = some 60 := by decide
theorem shl60 (n : Nat) : shl .u64 (n : Int) 60 = ((n % 16 * 1152921504606846976 : Nat) : Int) := by
  unfold shl
  rw [IntKind.wrap_u64, show (2 : Int) ^ min (60 : Int).toNat IntKind.u64.bits = 1152921504606846976 from by decide]
  omega
theorem shr4 (n : Nat) : shr .u64 (n : Int) 4 = ((n / 16 : Nat) : Int) := by
  unfold shr
  rw [show (2 : Int) ^ min (4 : Int).toNat IntKind.u64.bits = 16 from by decide]
  omega
theorem shr60 (n : Nat) : shr .u64 (n : Int) 60 = ((n / 1152921504606846976 : Nat) : Int) := by
  unfold shr
  rw [show (2 : Int) ^ min (60 : Int).toNat IntKind.u64.bits = 1152921504606846976 from by decide]
  omega
theorem or60 (a b : Nat) (ha : a < 16) (hb : b < 1152921504606846976) : Go.bits .or .u64 ((a * 1152921504606846976 : Nat) : Int) (b : Int) = ((a * 1152921504606846976 + b : Nat) : Int) := by
  rw [bits_or_u64_nat _ _ (by omega) (by omega)]
  have h := Nat.two_pow_add_eq_or_of_lt (i := 60) (b := b) (by omega) a
  have h2 : (2 : Nat) ^ 60 = 1152921504606846976 := by decide
  rw [h2] at h
  rw [Nat.mul_comm a, h]
theorem and32 (n : Nat) (hn : n < 18446744073709551616) : Go.bits .and .u64 (n : Int) 4294967295 = ((n % 4294967296 : Nat) : Int) := by
  have h := bits_and_u64_nat n 4294967295 hn (by decide)
  rw [show ((4294967295 : Nat) : Int) = 4294967295 from rfl] at h
  rw [h]
  have h2 := Nat.and_two_pow_sub_one_eq_mod n 32
  rw [show (2 : Nat) ^ 32 - 1 = 4294967295 from by decide, show (2 : Nat) ^ 32 = 4294967296 from by decide] at h2
  rw [h2]
theorem wsub (X r m : Int) (h0 : 0 ≤ r + m) (h1 : r + m < 18446744073709551616) : IntKind.u64.wrap ((IntKind.u64.wrap ((IntKind.u64.wrap (X + r)) + m)) - (IntKind.u64.wrap X)) = r + m := by
  rw [IntKind.wrap_u64, IntKind.wrap_u64, IntKind.wrap_u64, IntKind.wrap_u64]
  omega
set_option maxRecDepth 100000 in
theorem key10 (N u l m q1 rh v q0 rr : Nat) (h1 : N = 16 * u + l) (h2 : l * 268435456 = m) (h3 : u = q1 * 2684354560 + rh) (h4 : v = rh * 4294967296 + m) (h5 : v = q0 * 2684354560 + rr) : N * 1152921504606846976 = 11529215046068469760 * (q1 * 4294967296 + q0) + rr * 4294967296 := by
  grind
set_option maxRecDepth 100000 in
theorem last10 (N Q rr : Nat) (hr : rr < 2684354560) (h : N * 1152921504606846976 = 11529215046068469760 * Q + rr * 4294967296) : rr * 4294967296 / 1152921504606846976 = N % 10 ∧ Q = N / 10 := by
  have h1 : N - 10 * Q = rr * 4294967296 / 1152921504606846976 := by omega
  have h2 : rr * 4294967296 / 1152921504606846976 < 10 := by omega
  omega
set_option maxHeartbeats 4000000 in
theorem div64_10 (N : Nat) (hN : N < 184467440737095516160) (k : Nat) (hk : 6 ≤ k) :
    bits_Div64.f k ((N / 18446744073709551616 : Nat) : Int) ((N % 18446744073709551616 : Nat) : Int) 10 = some (((N / 10 : Nat) : Int), ((N % 10 : Nat) : Int)) := by
  obtain ⟨k, rfl⟩ : ∃ m, k = m + 6 := ⟨k - 6, by omega⟩
  obtain ⟨hi, hhi⟩ : ∃ x, N / 18446744073709551616 = x := ⟨_, rfl⟩
  obtain ⟨lo, hlo⟩ : ∃ x, N % 18446744073709551616 = x := ⟨_, rfl⟩
  rw [hhi, hlo]
  have hhi10 : hi < 10 := by omega
  have hlo64 : lo < 18446744073709551616 := by omega
  unfold bits_Div64.f
  rw [if_neg (by decide), if_neg (by omega)]
  by_cases h0 : hi = 0
  · subst h0
    rw [if_pos (show ((0 : Nat) : Int) = 0 from rfl)]
    have h1 : N = lo := by omega
    subst h1
    rw [show Int.tdiv (N : Int) 10 = ((N / 10 : Nat) : Int) from rfl, show Int.tmod (N : Int) 10 = ((N % 10 : Nat) : Int) from rfl, wu _ (by omega) (by omega)]
  · rw [if_neg (by omega), lz10, Option.bind_some]
    have e1 : IntKind.u64.wrap (60 : Int) = 60 := by decide
    have e2 : IntKind.u64.wrap (64 - (60 : Int)) = 4 := by decide
    have e3 : (11529215046068469760 : Int) / 4294967296 = 2684354560 := by decide
    have e4 : Go.bits .and .u64 11529215046068469760 4294967295 = 0 := by decide
    rw [e1, e2, if_pos (by decide), if_pos (by decide), shl10, e3, e4, if_neg (by decide), shl60, shl60, shr4, Nat.mod_eq_of_lt (show hi < 16 by omega), or60 hi (lo / 16) (by omega) (by omega), and32 _ (by omega)]
    obtain ⟨u, hu⟩ : ∃ x, hi * 1152921504606846976 + lo / 16 = x := ⟨_, rfl⟩
    rw [hu, show Int.tdiv (u : Int) 2684354560 = ((u / 2684354560 : Nat) : Int) from rfl]
    obtain ⟨q1, hq1⟩ : ∃ x, u / 2684354560 = x := ⟨_, rfl⟩
    rw [hq1]
    have b1 : q1 < 4294967296 := by omega
    rw [wu (q1 : Int) (by omega) (by omega), wu ((q1 : Int) * 2684354560) (by omega) (by omega), wu ((u : Int) - (q1 : Int) * 2684354560) (by omega) (by omega)]
    have e5 : ((lo % 16 * 1152921504606846976 : Nat) : Int) / 4294967296 = ((lo % 16 * 268435456 : Nat) : Int) := by omega
    have e6 : ((lo % 16 * 1152921504606846976 % 4294967296 : Nat) : Int) = 0 := by omega
    have e7 : (u : Int) - (q1 : Int) * 2684354560 = ((u % 2684354560 : Nat) : Int) := by omega
    obtain ⟨rh, hrh⟩ : ∃ x, u % 2684354560 = x := ⟨_, rfl⟩
    obtain ⟨m, hm⟩ : ∃ x, lo % 16 * 268435456 = x := ⟨_, rfl⟩
    rw [e5, e6, e7, hrh, hm]
    have b2 : rh < 2684354560 := by omega
    have b3 : m < 4294967296 := by omega
    rw [bits_Div64.l0, if_neg (by omega)]
    have c1 : decide (IntKind.u64.wrap ((q1 : Int) * 0) > IntKind.u64.wrap (IntKind.u64.wrap (4294967296 * (rh : Int)) + (m : Int))) = false := by
      rw [decide_eq_false_iff_not, Int.mul_zero, wu 0 (by decide) (by decide), wu (4294967296 * (rh : Int)) (by omega) (by omega), wu _ (by omega) (by omega)]
      omega
    rw [c1, bits_Div64.j1, if_neg (by decide), bits_Div64.j2, if_neg (by decide)]
    have e8 : IntKind.u64.wrap ((IntKind.u64.wrap ((IntKind.u64.wrap ((u : Int) * 4294967296)) + (m : Int))) - (IntKind.u64.wrap ((q1 : Int) * 11529215046068469760))) = ((rh * 4294967296 + m : Nat) : Int) := by
      have h := wsub ((q1 : Int) * 11529215046068469760) ((rh : Int) * 4294967296) (m : Int) (by omega) (by omega)
      rw [show (q1 : Int) * 11529215046068469760 + (rh : Int) * 4294967296 = (u : Int) * 4294967296 from by omega] at h
      rw [h]
      omega
    rw [e8]
    obtain ⟨v, hv⟩ : ∃ x, rh * 4294967296 + m = x := ⟨_, rfl⟩
    rw [hv, show Int.tdiv (v : Int) 2684354560 = ((v / 2684354560 : Nat) : Int) from rfl]
    obtain ⟨q0, hq0⟩ : ∃ x, v / 2684354560 = x := ⟨_, rfl⟩
    rw [hq0]
    have b4 : q0 < 4294967296 := by omega
    rw [wu (q0 : Int) (by omega) (by omega), wu ((q0 : Int) * 2684354560) (by omega) (by omega), wu ((v : Int) - (q0 : Int) * 2684354560) (by omega) (by omega)]
    have e9 : (v : Int) - (q0 : Int) * 2684354560 = ((v % 2684354560 : Nat) : Int) := by omega
    obtain ⟨rr, hrr⟩ : ∃ x, v % 2684354560 = x := ⟨_, rfl⟩
    rw [e9, hrr]
    have b5 : rr < 2684354560 := by omega
    rw [bits_Div64.l1, if_neg (by omega)]
    have c2 : decide (IntKind.u64.wrap ((q0 : Int) * 0) > IntKind.u64.wrap (IntKind.u64.wrap (4294967296 * (rr : Int)) + 0)) = false := by
      rw [decide_eq_false_iff_not, Int.mul_zero, wu 0 (by decide) (by decide), wu (4294967296 * (rr : Int)) (by omega) (by omega), wu _ (by omega) (by omega)]
      omega
    rw [c2, bits_Div64.j4, if_neg (by decide), if_pos (by decide)]
    have e10 : IntKind.u64.wrap ((IntKind.u64.wrap ((IntKind.u64.wrap ((v : Int) * 4294967296)) + 0)) - (IntKind.u64.wrap ((q0 : Int) * 11529215046068469760))) = ((rr * 4294967296 : Nat) : Int) := by
      have h := wsub ((q0 : Int) * 11529215046068469760) ((rr : Int) * 4294967296) 0 (by omega) (by omega)
      rw [show (q0 : Int) * 11529215046068469760 + (rr : Int) * 4294967296 = (v : Int) * 4294967296 from by omega] at h
      rw [h]
      omega
    rw [e10, shr60, wu ((q1 : Int) * 4294967296) (by omega) (by omega), wu _ (by omega) (by omega)]
    have n1 : N = 16 * u + lo % 16 := by omega
    have key : N * 1152921504606846976 = 11529215046068469760 * (q1 * 4294967296 + q0) + rr * 4294967296 := key10 N u (lo % 16) m q1 rh v q0 rr n1 hm (by omega) hv.symm (by omega)
    clear e8 e9 e10 e7 e5 e6 c1 c2 n1
    obtain ⟨r1, r3⟩ := last10 N _ rr b5 key
    have r2 : (q1 : Int) * 4294967296 + (q0 : Int) = ((N / 10 : Nat) : Int) := by rw [← r3]; omega
    rw [r1, r2]
set_option maxRecDepth 100000 in
theorem by_f (N : Nat) (hN : N < 340282366920938463463374607431768211456) (k : Nat) (hk : 6 ≤ k) :
    dec_wide_by.f k ((N / 18446744073709551616 : Nat) : Int) ((N % 18446744073709551616 : Nat) : Int) = some (((N / 10 / 18446744073709551616 : Nat) : Int), ((N / 10 % 18446744073709551616 : Nat) : Int), ((N % 10 : Nat) : Int)) := by
  unfold dec_wide_by.f
  have h := div64_10 (N / 18446744073709551616 % 10 * 18446744073709551616 + N % 18446744073709551616) (by omega) k hk
  rw [show (N / 18446744073709551616 % 10 * 18446744073709551616 + N % 18446744073709551616) / 18446744073709551616 = N / 18446744073709551616 % 10 from by omega, show (N / 18446744073709551616 % 10 * 18446744073709551616 + N % 18446744073709551616) % 18446744073709551616 = N % 18446744073709551616 from by omega] at h
  rw [tm10, h, Option.bind_some, td10, wu _ (by omega) (by omega)]
  have h1 : N / 18446744073709551616 / 10 = N / 10 / 18446744073709551616 := by omega
  have h2 : (N / 18446744073709551616 % 10 * 18446744073709551616 + N % 18446744073709551616) / 10 = N / 10 % 18446744073709551616 := by omega
  have h3 : (N / 18446744073709551616 % 10 * 18446744073709551616 + N % 18446744073709551616) % 10 = N % 10 := by omega
  rw [h1, h2, h3]
def strip : Nat → Nat → Nat × Nat
  | N, 0 => (N, 0)
  | N, s + 1 => if N % 10 = 0 then strip (N / 10) s else (N, s + 1)
def told (below : Bool) (N s : Nat) : Int × Int × Int :=
  if (strip N s).1 > 999999999999999999 ∨ (strip N s).2 > 9 then (0, 0, 5) else (if below then -((strip N s).1 : Int) else ((strip N s).1 : Int), ((strip N s).2 : Int), 0)
theorem j1_f (below : Bool) (N s : Nat) (hs : s ≤ 1000) (k : Nat) (hk : 2 ≤ k) :
    dec_tell.j1 k below (s : Int) ((N / 18446744073709551616 : Nat) : Int) ((N % 18446744073709551616 : Nat) : Int) = some (if N > 999999999999999999 ∨ s > 9 then (0, 0, 5) else (if below then -(N : Int) else (N : Int), (s : Int), 0)) := by
  obtain ⟨k, rfl⟩ : ∃ m, k = m + 2 := ⟨k - 2, by omega⟩
  rw [dec_tell.j1]
  by_cases h1 : N ≥ 18446744073709551616
  · rw [if_neg (by omega), dec_tell.j2, if_pos rfl, if_pos (by omega)]
  · rw [if_pos (by omega)]
    have h2 : N % 18446744073709551616 = N := by omega
    rw [h2]
    by_cases h3 : N > 999999999999999999
    · rw [if_pos (by omega), dec_tell.j2, if_pos rfl, if_pos (by omega)]
    · rw [if_neg (by omega), dec_tell.j2]
      by_cases h4 : s > 9
      · rw [if_pos (by rw [decide_eq_true_iff]; omega), if_pos (by omega)]
      · rw [if_neg (by rw [decide_eq_true_iff]; omega), if_neg (show ¬ (N > 999999999999999999 ∨ s > 9) by omega), wrap_small (N : Int) (by omega) (by omega)]
        cases below
        · rfl
        · rw [if_pos rfl, wrap_small (-(N : Int)) (by omega) (by omega)]
          rfl
theorem tell_l0 (below : Bool) : ∀ (s N k : Nat), s ≤ 1000 → N < 340282366920938463463374607431768211456 → s + 7 ≤ k →
    dec_tell.l0 k below (s : Int) ((N / 18446744073709551616 : Nat) : Int) ((N % 18446744073709551616 : Nat) : Int) = some (told below N s) := by
  intro s
  induction s with
  | zero =>
    intro N k hs hN hk
    obtain ⟨k, rfl⟩ : ∃ m, k = m + 1 := ⟨k - 1, by omega⟩
    rw [dec_tell.l0, if_neg (by decide), j1_f below N 0 hs k (by omega)]
    rfl
  | succ s ih =>
    intro N k hs hN hk
    obtain ⟨k, rfl⟩ : ∃ m, k = m + 1 := ⟨k - 1, by omega⟩
    rw [dec_tell.l0, if_pos (by omega), by_f N hN k (by omega), Option.bind_some]
    by_cases h : N % 10 = 0
    · refine (if_pos (by show ((N % 10 : Nat) : Int) = 0; omega)).trans ?_
      rw [wrap_small _ (by omega) (by omega), show ((s + 1 : Nat) : Int) - 1 = (s : Int) from by omega]
      have h2 := ih (N / 10) k (by omega) (by omega) (by omega)
      refine h2.trans ?_
      unfold told
      rw [show strip N (s + 1) = strip (N / 10) s from by rw [strip, if_pos h]]
    · rw [if_neg (by show ¬ (((N % 10 : Nat) : Int) = 0); omega), j1_f below N (s + 1) hs k (by omega)]
      unfold told
      rw [show strip N (s + 1) = (N, s + 1) from by rw [strip, if_neg h]]
theorem tell_f (below : Bool) (s N k : Nat) (hs : s ≤ 1000) (hN : N < 340282366920938463463374607431768211456) (hk : s + 7 ≤ k) :
    dec_tell.f k below ((N / 18446744073709551616 : Nat) : Int) ((N % 18446744073709551616 : Nat) : Int) (s : Int) = some (told below N s) := tell_l0 below s N k hs hN hk
end Go.Proofs.YtnhgnejfagncpaaDoor.Plain
end
section
namespace Go.Proofs.YtnhgnejfagncpaaDoor.Plain
open Go.RowKit Go.Proofs.YtnhgnejfagncpaaDoor.A Go.Proofs.YtnhgnejfagncpaaDoor.B Go.Proofs.YtnhgnejfagncpaaDoor.H Go.Proofs.YtnhgnejfagncpaaDoorW.PrintWords Go.Proofs.YtnhgnejfagncpaaDoorW.PrintLast Go.Proofs.YtnhgnejfagncpaaDoorW.PrintMore
def Good (M S : Int) : Prop := -999999999999999999 ≤ M ∧ M ≤ 999999999999999999 ∧ 0 ≤ S ∧ S ≤ 9 ∧ (S = 0 ∨ M % 10 ≠ 0)
instance (M S : Int) : Decidable (Good M S) := inferInstanceAs (Decidable (_ ∧ _))
theorem tmod0 (M : Int) : (Int.tmod M 10 = 0) ↔ M % 10 = 0 := by
  rw [← Int.dvd_iff_tmod_eq_zero, Int.dvd_iff_emod_eq_zero]
theorem check_f (M S : Int) : dec_Check.f M S = some (if Good M S then 0 else 1) := by
  unfold dec_Check.f
  by_cases h1 : M < (-999999999999999999)
  · rw [if_pos h1, if_neg (fun h => by unfold Good at h; omega)]
  rw [if_neg h1]
  by_cases h2 : M > 999999999999999999
  · rw [if_pos h2, if_neg (fun h => by unfold Good at h; omega)]
  rw [if_neg h2]
  by_cases h3 : S < 0
  · rw [if_pos h3, if_neg (fun h => by unfold Good at h; omega)]
  rw [if_neg h3]
  by_cases h4 : S > 9
  · rw [if_pos h4, if_neg (fun h => by unfold Good at h; omega)]
  rw [if_neg h4]
  by_cases h5 : S > 0
  · rw [if_pos h5]
    by_cases h6 : Int.tmod M 10 = 0
    · rw [if_pos h6, if_neg (fun h => by have := (tmod0 M).1 h6; unfold Good at h; omega)]
    · rw [if_neg h6, if_pos (by have h7 : ¬ M % 10 = 0 := fun h => h6 ((tmod0 M).2 h); exact ⟨by omega, by omega, by omega, by omega, Or.inr h7⟩)]
  · rw [if_neg h5, if_pos ⟨by omega, by omega, by omega, by omega, Or.inl (by omega)⟩]
theorem size_f (M : Int) (h0 : -999999999999999999 ≤ M) (h1 : M ≤ 999999999999999999) : dec_size.f M = some (M.natAbs : Int) := by
  unfold dec_size.f mx
  rw [wrap_small (-M) (by omega) (by omega)]
  by_cases h : M < -M
  · rw [if_pos h, wu _ (by omega) (by omega)]
    congr 1
    omega
  · rw [if_neg h, wu _ (by omega) (by omega)]
    congr 1
    omega
def tellZ (Z : Int) (s : Nat) : Int × Int × Int := told (decide (Z < 0)) Z.natAbs s
def up (M : Int) (d : Nat) : Int := M * ((10 ^ d : Nat) : Int)
end Go.Proofs.YtnhgnejfagncpaaDoor.Plain
end
section
namespace Go.Proofs.YtnhgnejfagncpaaDoor.Plain
open Go.RowKit Go.Proofs.YtnhgnejfagncpaaDoor.A Go.Proofs.YtnhgnejfagncpaaDoor.B Go.Proofs.YtnhgnejfagncpaaDoor.H
theorem strip_mul : ∀ (d N s : Nat), strip (N * 10 ^ d) (s + d) = strip N s := by
  intro d
  induction d with
  | zero => intro N s; rw [Nat.pow_zero, Nat.mul_one, Nat.add_zero]
  | succ d ih =>
    intro N s
    have h : N * 10 ^ (d + 1) = N * 10 ^ d * 10 := by rw [Nat.pow_succ, Nat.mul_assoc]
    rw [h, show s + (d + 1) = s + d + 1 from rfl, strip, if_pos (by omega), Nat.mul_div_cancel _ (by decide)]
    exact ih N s
theorem strip_good (N s : Nat) (h : s = 0 ∨ N % 10 ≠ 0) : strip N s = (N, s) := by
  cases s with
  | zero => rfl
  | succ s => rw [strip, if_neg (by omega)]
theorem tellZ_good (M : Int) (s : Nat) (h : Good M s) : tellZ M s = (M, (s : Int), 0) := by
  obtain ⟨h1, h2, h3, h4, h5⟩ := h
  unfold tellZ told
  rw [strip_good M.natAbs s (by omega), if_neg (by show ¬ (M.natAbs > 999999999999999999 ∨ s > 9); omega)]
  by_cases h : M < 0
  · rw [if_pos (decide_eq_true h)]
    show (-((M.natAbs : Nat) : Int), (s : Int), (0 : Int)) = _
    rw [show -((M.natAbs : Nat) : Int) = M from by omega]
  · rw [if_neg (by rw [decide_eq_true_iff]; exact h)]
    show (((M.natAbs : Nat) : Int), (s : Int), (0 : Int)) = _
    rw [show ((M.natAbs : Nat) : Int) = M from by omega]
end Go.Proofs.YtnhgnejfagncpaaDoor.Plain
end
section
namespace Go.Proofs.YtnhgnejfagncpaaDoor.Plain
open Go.RowKit Go.Proofs.YtnhgnejfagncpaaDoor.A Go.Proofs.YtnhgnejfagncpaaDoor.B Go.Proofs.YtnhgnejfagncpaaDoor.H
def isDig (c : UInt8) : Prop := 48 ≤ c.toNat ∧ c.toNat ≤ 57
instance (c : UInt8) : Decidable (isDig c) := inferInstanceAs (Decidable (_ ∧ _))
def allDig (l : List UInt8) : Prop := ∀ c ∈ l, isDig c
instance (l : List UInt8) : Decidable (allDig l) := inferInstanceAs (Decidable (∀ c ∈ l, isDig c))
theorem allDig_append (a b : List UInt8) : allDig (a ++ b) ↔ allDig a ∧ allDig b := by
  unfold allDig
  simp only [List.mem_append]
  exact ⟨fun h => ⟨fun c hc => h c (Or.inl hc), fun c hc => h c (Or.inr hc)⟩, fun h c hc => hc.elim (h.1 c) (h.2 c)⟩
theorem allDig_cons (c : UInt8) (t : List UInt8) : allDig (c :: t) ↔ isDig c ∧ allDig t := by
  unfold allDig
  simp
def valA : Nat → List UInt8 → Nat
  | n, [] => n
  | n, c :: t => valA (n * 10 + (c.toNat - 48)) t
def val (l : List UInt8) : Nat := valA 0 l
def cnt : Nat → List UInt8 → Nat
  | n, [] => n
  | n, c :: t => cnt (if n > 0 ∨ 48 < c.toNat then n + 1 else n) t
theorem valA_append : ∀ (a b : List UInt8) (n : Nat), valA n (a ++ b) = valA (valA n a) b := by
  intro a
  induction a with
  | nil => intro b n; rfl
  | cons c t ih => intro b n; exact ih b _
theorem valA_step (n d p v : Nat) : (n * 10 + d) * p + v = n * (p * 10) + ((0 * 10 + d) * p + v) := by grind
theorem valA_eq : ∀ (l : List UInt8) (n : Nat), valA n l = n * 10 ^ l.length + val l
  | [], n => by
    show n = n * 10 ^ 0 + 0
    rw [Nat.pow_zero]
    omega
  | c :: t, n => by
    have h1 : valA n (c :: t) = valA (n * 10 + (c.toNat - 48)) t := rfl
    have h2 : val (c :: t) = valA (0 * 10 + (c.toNat - 48)) t := rfl
    rw [h1, h2, valA_eq t, valA_eq t (0 * 10 + (c.toNat - 48)), List.length_cons, Nat.pow_succ]
    exact valA_step _ _ _ _
theorem val_append (a b : List UInt8) : val (a ++ b) = val a * 10 ^ b.length + val b := by
  unfold val
  rw [valA_append, valA_eq b]
  rfl
theorem val_lt : ∀ (l : List UInt8), allDig l → val l < 10 ^ l.length
  | [], _ => by decide
  | c :: t, h => by
    obtain ⟨h1, h2⟩ := (allDig_cons c t).1 h
    have ih := val_lt t h2
    have e : val (c :: t) = (c.toNat - 48) * 10 ^ t.length + val t := by
      show valA (0 * 10 + (c.toNat - 48)) t = _
      rw [valA_eq, Nat.zero_mul, Nat.zero_add]
    have h3 : (c.toNat - 48) * 10 ^ t.length ≤ 9 * 10 ^ t.length := Nat.mul_le_mul_right _ (by unfold isDig at h1; omega)
    rw [e, List.length_cons, Nat.pow_succ]
    omega
theorem cnt_pos : ∀ (l : List UInt8) (n : Nat), 0 < n → cnt n l = n + l.length
  | [], _, _ => rfl
  | c :: t, n, h => by
    show cnt (if n > 0 ∨ 48 < c.toNat then n + 1 else n) t = _
    rw [if_pos (Or.inl h), cnt_pos t (n + 1) (by omega), List.length_cons]
    omega
theorem cnt_zero : ∀ (l : List UInt8), allDig l → val l < 10 ^ cnt 0 l ∧ (0 < cnt 0 l → 10 ^ (cnt 0 l - 1) ≤ val l)
  | [], _ => ⟨by decide, fun h => absurd h (by decide)⟩
  | c :: t, h => by
    obtain ⟨h1, h2⟩ := (allDig_cons c t).1 h
    have e : val (c :: t) = (c.toNat - 48) * 10 ^ t.length + val t := by
      show valA (0 * 10 + (c.toNat - 48)) t = _
      rw [valA_eq, Nat.zero_mul, Nat.zero_add]
    by_cases hc : 48 < c.toNat
    · have e2 : cnt 0 (c :: t) = t.length + 1 := by
        show cnt (if 0 > 0 ∨ 48 < c.toNat then 0 + 1 else 0) t = _
        rw [if_pos (Or.inr hc), cnt_pos t 1 (by decide)]
        omega
      rw [e2]
      refine ⟨val_lt (c :: t) h, fun _ => ?_⟩
      have h3 : 1 * 10 ^ t.length ≤ (c.toNat - 48) * 10 ^ t.length := Nat.mul_le_mul_right _ (by omega)
      rw [e, Nat.add_sub_cancel]
      omega
    · have e2 : cnt 0 (c :: t) = cnt 0 t := by
        show cnt (if 0 > 0 ∨ 48 < c.toNat then 0 + 1 else 0) t = _
        rw [if_neg (by omega)]
      rw [e2, e, show c.toNat - 48 = 0 from by omega, Nat.zero_mul, Nat.zero_add]
      exact cnt_zero t h2
theorem cnt_18 (l : List UInt8) (h : allDig l) : cnt 0 l ≤ 18 ↔ val l ≤ 999999999999999999 := by
  obtain ⟨h1, h2⟩ := cnt_zero l h
  constructor
  · intro hc
    have : 10 ^ cnt 0 l ≤ 10 ^ 18 := Nat.pow_le_pow_right (by decide) hc
    have e : (10 : Nat) ^ 18 = 1000000000000000000 := by decide
    omega
  · intro hv
    refine Classical.byContradiction fun hc => ?_
    have h3 := h2 (by omega)
    have : 10 ^ 18 ≤ 10 ^ (cnt 0 l - 1) := Nat.pow_le_pow_right (by decide) (by omega)
    have e : (10 : Nat) ^ 18 = 1000000000000000000 := by decide
    omega
theorem digs_none : ∀ (l : List UInt8) (m n e : Int), ¬ allDig l → digs l m n e = none
  | [], _, _, _, h => absurd (fun c hc => by cases hc) h
  | c :: t, m, n, e, h => by
    rw [digs]
    by_cases hc : (c.toNat : Int) < 48 ∨ 57 < (c.toNat : Int)
    · rw [if_pos hc]
    · rw [if_neg hc]
      have ht : ¬ allDig t := fun ht => h ((allDig_cons c t).2 ⟨⟨by omega, by omega⟩, ht⟩)
      dsimp only
      (repeat' split) <;> exact digs_none t _ _ _ ht
theorem digs_far : ∀ (l : List UInt8) (m : Int) (n : Nat), allDig l → 18 < n → digs l m (n : Int) 5 = some (m, ((n + l.length : Nat) : Int), 5)
  | [], _, _, _, _ => rfl
  | c :: t, m, n, h, hn => by
    obtain ⟨h1, h2⟩ := (allDig_cons c t).1 h
    rw [digs, if_neg (by unfold isDig at h1; omega)]
    dsimp only
    rw [if_pos (Or.inl (by omega)), if_pos (by omega)]
    have := digs_far t m (n + 1) h2 (by omega)
    rw [Int.natCast_add] at this
    refine this.trans ?_
    rw [List.length_cons, show n + 1 + t.length = n + (t.length + 1) from by omega]
theorem digs_all : ∀ (l : List UInt8) (m n : Nat), allDig l → n ≤ 18 →
    (cnt n l ≤ 18 → digs l (m : Int) (n : Int) 0 = some ((valA m l : Int), (cnt n l : Int), 0)) ∧ (18 < cnt n l → ∃ m', digs l (m : Int) (n : Int) 0 = some (m', (cnt n l : Int), 5))
  | [], m, n, _, hn => ⟨fun _ => rfl, fun h => absurd h (by show ¬ 18 < n; omega)⟩
  | c :: t, m, n, h, hn => by
    obtain ⟨h1, h2⟩ := (allDig_cons c t).1 h
    have e1 : digs (c :: t) (m : Int) (n : Int) 0 = if ((if n > 0 ∨ 48 < c.toNat then n + 1 else n : Nat) : Int) > 18 then digs t m ((if n > 0 ∨ 48 < c.toNat then n + 1 else n : Nat) : Int) 5 else digs t ((m * 10 + (c.toNat - 48) : Nat) : Int) ((if n > 0 ∨ 48 < c.toNat then n + 1 else n : Nat) : Int) 0 := by
      rw [digs, if_neg (by unfold isDig at h1; omega)]
      dsimp only
      have e2 : (if (n : Int) > 0 ∨ 48 < (c.toNat : Int) then (n : Int) + 1 else (n : Int)) = ((if n > 0 ∨ 48 < c.toNat then n + 1 else n : Nat) : Int) := by
        by_cases hq : n > 0 ∨ 48 < c.toNat
        · rw [if_pos hq, if_pos (by omega)]; rfl
        · rw [if_neg hq, if_neg (by omega)]
      rw [e2, show (m : Int) * 10 + ((c.toNat : Int) - 48) = ((m * 10 + (c.toNat - 48) : Nat) : Int) from by unfold isDig at h1; omega]
    rw [e1]
    show (cnt (if n > 0 ∨ 48 < c.toNat then n + 1 else n) t ≤ 18 → _ = some ((valA (m * 10 + (c.toNat - 48)) t : Int), (cnt (if n > 0 ∨ 48 < c.toNat then n + 1 else n) t : Int), 0)) ∧ (18 < cnt (if n > 0 ∨ 48 < c.toNat then n + 1 else n) t → ∃ m', _ = some (m', (cnt (if n > 0 ∨ 48 < c.toNat then n + 1 else n) t : Int), 5))
    obtain ⟨n', hn'⟩ : ∃ x, (if n > 0 ∨ 48 < c.toNat then n + 1 else n) = x := ⟨_, rfl⟩
    rw [hn']
    by_cases h18 : n' ≤ 18
    · rw [if_neg (by omega)]
      exact digs_all t (m * 10 + (c.toNat - 48)) n' h2 h18
    · rw [if_pos (by omega), digs_far t m n' h2 (by omega), cnt_pos t n' (by omega)]
      exact ⟨fun h => absurd h (by omega), fun _ => ⟨_, rfl⟩⟩
theorem dropZ (l : List UInt8) : ∃ j, l = List.replicate j 48 ++ l.dropWhile (· == 48) := by
  induction l with
  | nil => exact ⟨0, rfl⟩
  | cons c t ih =>
    by_cases h : (c == 48) = true
    · obtain ⟨j, hj⟩ := ih
      have h2 : c = 48 := by simpa using h
      subst h2
      refine ⟨j + 1, ?_⟩
      rw [List.dropWhile_cons_of_pos (p := (· == 48)) h, List.replicate_succ, List.cons_append, ← hj]
    · exact ⟨0, by rw [List.dropWhile_cons_of_neg (p := (· == 48)) h]; rfl⟩
theorem val_zeros : ∀ j, val (List.replicate j 48) = 0
  | 0 => rfl
  | j + 1 => by
    rw [List.replicate_succ]
    show valA (0 * 10 + ((48 : UInt8).toNat - 48)) _ = 0
    exact val_zeros j
theorem allDig_zeros (j : Nat) : allDig (List.replicate j 48) := fun c hc => by
  rw [List.eq_of_mem_replicate hc]
  decide
theorem trimL (l : List UInt8) : ∃ j, l = List.replicate j 48 ++ Lib.trimLeftB l 48 := dropZ l
theorem trimR (l : List UInt8) : ∃ j, l = Lib.trimRightB l 48 ++ List.replicate j 48 := by
  obtain ⟨j, hj⟩ := dropZ l.reverse
  refine ⟨j, ?_⟩
  have := congrArg List.reverse hj
  rw [List.reverse_reverse, List.reverse_append, List.reverse_replicate] at this
  exact this
theorem trimR_last (l : List UInt8) (h : allDig l) (a : List UInt8) : Lib.trimRightB l 48 = [] ∨ val (a ++ Lib.trimRightB l 48) % 10 ≠ 0 := by
  unfold Lib.trimRightB
  have hm : ∀ c ∈ l.reverse.dropWhile (· == 48), isDig c := fun c hc => h c (List.mem_reverse.1 ((List.dropWhile_suffix _).subset hc))
  cases hq : l.reverse.dropWhile (· == 48) with
  | nil => exact Or.inl rfl
  | cons c t =>
    refine Or.inr ?_
    have hc : ¬ (c == 48) = true := by
      have := List.head?_dropWhile_not (· == 48) l.reverse
      rw [hq] at this
      simpa using this
    rw [hq] at hm
    have hd := hm c (List.mem_cons_self ..)
    have hne : c.toNat ≠ 48 := fun e => hc (by rw [beq_iff_eq]; exact UInt8.toNat_inj.1 e)
    rw [List.reverse_cons, ← List.append_assoc, val_append]
    show (val (a ++ t.reverse) * 10 ^ 1 + valA (0 * 10 + (c.toNat - 48)) []) % 10 ≠ 0
    show (val (a ++ t.reverse) * 10 ^ 1 + (0 * 10 + (c.toNat - 48))) % 10 ≠ 0
    unfold isDig at hd
    omega
theorem told_zeros (b : Bool) (N s j : Nat) : told b (N * 10 ^ j) (s + j) = told b N s := by
  unfold told
  rw [strip_mul]
def parseL (l : List UInt8) : Int × Int × Int :=
  if l.length > 40 ∨ (cutAt (headB l).2 46).1 ++ (cutAt (headB l).2 46).2.1 = [] ∨ ¬ allDig ((cutAt (headB l).2 46).1 ++ (cutAt (headB l).2 46).2.1) then (0, 0, 4)
  else told (headB l).1 (val ((cutAt (headB l).2 46).1 ++ (cutAt (headB l).2 46).2.1)) (cutAt (headB l).2 46).2.1.length
theorem told_far (b : Bool) (v s : Nat) (h : s = 0 ∨ v % 10 ≠ 0) (hf : v > 999999999999999999 ∨ s > 9) : told b v s = (0, 0, 5) := by
  unfold told
  rw [strip_good v s h, if_pos hf]
theorem parseDigs_f (b : Bool) (F K : List UInt8) (hK : K.length ≤ 41) (k : Nat) (hk : 60 ≤ k) :
    parseDigs k b (Lib.trimLeftB F 48) (Lib.trimRightB K 48) = some (if ¬ allDig (F ++ K) then (0, 0, 4) else told b (val (F ++ K)) K.length) := by
  obtain ⟨i, hi⟩ := trimL F
  obtain ⟨j, hj⟩ := trimR K
  have hiff : allDig (F ++ K) ↔ allDig (Lib.trimLeftB F 48 ++ Lib.trimRightB K 48) := by
    rw [allDig_append, allDig_append]
    constructor
    · intro h
      rw [hi, hj] at h
      exact ⟨((allDig_append _ _).1 h.1).2, ((allDig_append _ _).1 h.2).1⟩
    · intro h
      rw [hi, hj]
      exact ⟨(allDig_append _ _).2 ⟨allDig_zeros _, h.1⟩, (allDig_append _ _).2 ⟨h.2, allDig_zeros _⟩⟩
  have hlK : K.length = (Lib.trimRightB K 48).length + j := by
    have := congrArg List.length hj
    rw [List.length_append, List.length_replicate] at this
    exact this
  have hval : val (F ++ K) = val (Lib.trimLeftB F 48 ++ Lib.trimRightB K 48) * 10 ^ j := by
    have h1 : F ++ K = List.replicate i 48 ++ ((Lib.trimLeftB F 48 ++ Lib.trimRightB K 48) ++ List.replicate j 48) := by
      rw [← List.append_assoc, ← List.append_assoc, List.append_assoc (List.replicate i 48 ++ _), ← hi, ← hj]
    rw [h1, val_append, val_zeros, Nat.zero_mul, Nat.zero_add, val_append, val_zeros, List.length_replicate, Nat.add_zero]
  unfold parseDigs
  by_cases hd : allDig (Lib.trimLeftB F 48 ++ Lib.trimRightB K 48)
  · rw [if_neg (by rw [Classical.not_not]; exact hiff.2 hd), hval, hlK, told_zeros]
    have hlast := trimR_last K ((allDig_append _ _).1 (hiff.2 hd)).2 (Lib.trimLeftB F 48)
    obtain ⟨L, hL⟩ : ∃ x, Lib.trimLeftB F 48 ++ Lib.trimRightB K 48 = x := ⟨_, rfl⟩
    have hlast' : (Lib.trimRightB K 48).length = 0 ∨ val L % 10 ≠ 0 := by
      rw [← hL]
      exact hlast.imp (fun h => by rw [h]; rfl) id
    rw [hL] at hd
    rw [hL]
    obtain ⟨d1, d2⟩ := digs_all L 0 0 hd (by decide)
    have h18 := cnt_18 L hd
    by_cases hc : cnt 0 L ≤ 18
    · have e := d1 hc
      rw [show ((0 : Nat) : Int) = 0 from rfl] at e
      rw [e]
      dsimp only
      by_cases h9 : (Lib.trimRightB K 48).length > 9
      · rw [if_pos (Or.inr h9), told_far _ _ _ hlast' (Or.inr h9)]
      · rw [if_neg (fun h => h.elim (fun h => h rfl) h9)]
        have hv := h18.1 hc
        have ht := tell_f b (Lib.trimRightB K 48).length (val L) k (by omega) (by omega) (by omega)
        rw [show val L / 18446744073709551616 = 0 from by omega, show val L % 18446744073709551616 = val L from by omega] at ht
        exact ht
    · obtain ⟨m', e⟩ := d2 (by omega)
      rw [show ((0 : Nat) : Int) = 0 from rfl] at e
      rw [e]
      dsimp only
      rw [if_pos (Or.inl (by decide)), told_far _ _ _ hlast' (Or.inl (by omega))]
  · rw [digs_none _ _ _ _ hd, if_pos (fun h => hd (hiff.1 h))]
theorem parse_f (t : ByteArray) (k : Nat) (hk : 60 ≤ k) : dec_Parse.f k t = some (parseL t.data.toList) := by
  unfold dec_Parse.f parseL
  have hs : t.size = t.data.toList.length := Array.length_toList.symm
  by_cases h1 : t.size > 40
  · rw [if_pos h1, if_pos (Or.inl (by omega))]
  · rw [if_neg h1]
    dsimp only
    have hl := headB_len t.data.toList
    have hl2 := (cutAt_len (headB t.data.toList).2 46).2
    by_cases h2 : (cutAt (headB t.data.toList).2 46).1 ++ (cutAt (headB t.data.toList).2 46).2.1 = []
    · rw [if_pos h2, if_pos (Or.inr (Or.inl h2))]
    · rw [if_neg h2, parseDigs_f _ _ _ (by omega) k hk]
      by_cases h3 : ¬ allDig ((cutAt (headB t.data.toList).2 46).1 ++ (cutAt (headB t.data.toList).2 46).2.1)
      · rw [if_pos h3, if_pos (Or.inr (Or.inr h3))]
      · rw [if_neg h3, if_neg (by intro h; rcases h with h | h | h; exact absurd h (by omega); exact h2 h; exact h3 h)]
theorem nd_le : ∀ (k N : Nat), N < 10 ^ (k + 1) → Lib.nDigits N ≤ k + 1
  | 0, N, h => by rw [Lib.nDigits_small (by simpa using h)]; omega
  | k + 1, N, h => by
    by_cases h10 : N < 10
    · rw [Lib.nDigits_small h10]; omega
    · rw [Lib.nDigits_big h10]
      have h2 : N / 10 < 10 ^ (k + 1) := by rw [Nat.pow_succ] at h; omega
      have := nd_le k (N / 10) h2
      omega
theorem toNat_dig (d : Nat) (h : d < 10) : (UInt8.ofNat (48 + d)).toNat = 48 + d := by
  rw [UInt8.toNat_ofNat']
  omega
theorem dec_dig : ∀ (n N : Nat), N ≤ n → allDig (Lib.decDigits N) ∧ val (Lib.decDigits N) = N := by
  intro n
  induction n with
  | zero =>
    intro N h
    obtain rfl : N = 0 := by omega
    rw [Lib.decDigits_one (by decide)]
    exact ⟨by decide, by decide⟩
  | succ n ih =>
    intro N h
    by_cases h10 : N < 10
    · rw [Lib.decDigits_one h10]
      have e := toNat_dig N h10
      refine ⟨fun c hc => ?_, ?_⟩
      · rw [List.mem_singleton.1 hc]
        unfold isDig
        omega
      · show 0 * 10 + ((UInt8.ofNat (48 + N)).toNat - 48) = N
        omega
    · obtain ⟨i1, i2⟩ := ih (N / 10) (by omega)
      have e := toNat_dig (N % 10) (by omega)
      rw [Lib.decDigits, dif_neg h10]
      refine ⟨(allDig_append _ _).2 ⟨i1, fun c hc => ?_⟩, ?_⟩
      · rw [List.mem_singleton.1 hc]
        unfold isDig
        omega
      · rw [val_append, i2]
        show N / 10 * 10 ^ 1 + (0 * 10 + ((UInt8.ofNat (48 + N % 10)).toNat - 48)) = N
        omega
def padD (N s : Nat) : List UInt8 := if (Lib.decDigits N).length ≤ s then Lib.repeatL [48] (s - (Lib.decDigits N).length + 1) ++ Lib.decDigits N else Lib.decDigits N
theorem repeat_zeros : ∀ n, Lib.repeatL [48] n = List.replicate n 48
  | 0 => rfl
  | n + 1 => by rw [Lib.repeatL, repeat_zeros n]; rfl
theorem pad_facts (N s : Nat) : allDig (padD N s) ∧ val (padD N s) = N ∧ (padD N s).length = max (Lib.nDigits N) (s + 1) := by
  obtain ⟨h1, h2⟩ := dec_dig N N (Nat.le_refl _)
  have h3 := Lib.decDigits_length N
  unfold padD
  by_cases h : (Lib.decDigits N).length ≤ s
  · rw [if_pos h, repeat_zeros]
    refine ⟨(allDig_append _ _).2 ⟨allDig_zeros _, h1⟩, ?_, ?_⟩
    · rw [val_append, val_zeros, h2]
      omega
    · rw [List.length_append, List.length_replicate]
      omega
  · rw [if_neg h]
    exact ⟨h1, h2, by omega⟩
def bodyL (N s : Nat) : List UInt8 := if s > 0 then (padD N s).take ((padD N s).length - s) ++ 46 :: (padD N s).drop ((padD N s).length - s) else padD N s
def printL (M : Int) (s : Nat) : List UInt8 := if M < 0 then 45 :: bodyL M.natAbs s else bodyL M.natAbs s
theorem body_len (N s : Nat) : (bodyL N s).length = max (Lib.nDigits N) (s + 1) + if s > 0 then 1 else 0 := by
  obtain ⟨_, _, h3⟩ := pad_facts N s
  unfold bodyL
  by_cases h : s > 0
  · rw [if_pos h, if_pos h, List.length_append, List.length_cons, List.length_take, List.length_drop]
    omega
  · rw [if_neg h, if_neg h, h3]
    omega
theorem bytes_take (P : List UInt8) (i : Nat) : (⟨P.toArray⟩ : ByteArray).extract 0 i = ⟨(P.take i).toArray⟩ := by
  apply ByteArray.ext
  simp
theorem bytes_drop (P : List UInt8) (i : Nat) : (⟨P.toArray⟩ : ByteArray).extract i (⟨P.toArray⟩ : ByteArray).size = ⟨(P.drop i).toArray⟩ := by
  apply ByteArray.ext
  simp only [ByteArray.data_extract, ByteArray.size, List.size_toArray, List.extract_toArray, List.extract_eq_take_drop]
  rw [List.take_of_length_le (by rw [List.length_drop]; exact Nat.le_refl _)]
theorem bytes_app (P Q : List UInt8) : (⟨P.toArray⟩ : ByteArray) ++ (⟨Q.toArray⟩ : ByteArray) = ⟨(P ++ Q).toArray⟩ := by
  apply ByteArray.ext
  simp
theorem bytes_size (P : List UInt8) : (⟨P.toArray⟩ : ByteArray).size = P.length := by simp [ByteArray.size]
theorem print_j0 (M : Int) (s : Nat) (P : List UInt8) (hP : s ≤ P.length) (hl : P.length ≤ 100) (k : Nat) (hk : 1 ≤ k) :
    dec_Print.j0 k ⟨P.toArray⟩ M (s : Int) = some (⟨(if M < 0 then 45 :: (if s > 0 then P.take (P.length - s) ++ 46 :: P.drop (P.length - s) else P) else (if s > 0 then P.take (P.length - s) ++ 46 :: P.drop (P.length - s) else P)).toArray⟩, 0) := by
  obtain ⟨k, rfl⟩ : ∃ m, k = m + 1 := ⟨k - 1, by omega⟩
  have e1 : (⟨#[46]⟩ : ByteArray) = ⟨([46] : List UInt8).toArray⟩ := rfl
  have e2 : (⟨#[45]⟩ : ByteArray) = ⟨([45] : List UInt8).toArray⟩ := rfl
  rw [dec_Print.j0, bytes_size]
  by_cases hs : s > 0
  · rw [if_pos (by omega), if_pos hs, wrap_small _ (by omega) (by omega), if_pos (by omega), if_pos (by omega), show ((P.length : Int) - (s : Int)).toNat = P.length - s from by omega]
    have e3 := bytes_drop P (P.length - s)
    rw [bytes_size] at e3
    rw [bytes_take, e3, e1, e2, bytes_app, bytes_app, bytes_app, bytes_size, bytes_size, bytes_size, bytes_size]
    have l1 : (P.take (P.length - s)).length ≤ 100 := by rw [List.length_take]; omega
    have l2 : (P.drop (P.length - s)).length ≤ 100 := by rw [List.length_drop]; omega
    have l3 : (P.take (P.length - s) ++ [46]).length ≤ 101 := by rw [List.length_append]; show _ + 1 ≤ _; omega
    have l4 : (P.take (P.length - s) ++ [46] ++ P.drop (P.length - s)).length ≤ 201 := by rw [List.length_append]; omega
    rw [if_pos (by omega), if_pos (by omega), List.append_assoc, List.singleton_append]
    rw [List.append_assoc, List.singleton_append] at l4
    by_cases hm : M < 0
    · rw [if_pos hm, if_pos hm, if_pos (by omega)]
      rfl
    · rw [if_neg hm, if_neg hm]
  · rw [if_neg (by omega), if_neg hs]
    by_cases hm : M < 0
    · rw [if_pos hm, if_pos hm, if_pos (by omega), e2, bytes_app]
      rfl
    · rw [if_neg hm, if_neg hm]
theorem print_f (M : Int) (s : Nat) (hg : Good M s) (k : Nat) (hk : 3 ≤ k) : dec_Print.f k M (s : Int) = some (⟨(printL M s).toArray⟩, 0) := by
  obtain ⟨g1, g2, g3, g4, _⟩ := id hg
  have hn : Lib.nDigits M.natAbs ≤ 18 := nd_le 17 M.natAbs (by rw [show (10 : Nat) ^ (17 + 1) = 1000000000000000000 from by decide]; omega)
  have hd := Lib.decDigits_length M.natAbs
  obtain ⟨_, _, hpl⟩ := pad_facts M.natAbs s
  have hfin := print_j0 M s (padD M.natAbs s) (by omega) (by omega) k (by omega)
  have hfmt : strconv_FormatUint.f (M.natAbs : Int) 10 = some ⟨(Lib.decDigits M.natAbs).toArray⟩ := by
    unfold strconv_FormatUint.f
    rw [if_pos ⟨rfl, by omega, by omega⟩, Int.toNat_natCast]
  unfold dec_Print.f
  rw [check_f, if_pos hg, Option.bind_some, if_pos rfl, size_f M g1 g2, Option.bind_some, hfmt, Option.bind_some, bytes_size]
  have hgoal : dec_Print.j0 k ⟨(padD M.natAbs s).toArray⟩ M (s : Int) = some (⟨(printL M s).toArray⟩, 0) := hfin
  unfold padD at hgoal
  by_cases h : (Lib.decDigits M.natAbs).length ≤ s
  · rw [if_pos (by omega)]
    rw [if_pos h] at hgoal
    have hrep : strings_Repeat.f (⟨#[48]⟩ : ByteArray) (((s - (Lib.decDigits M.natAbs).length + 1 : Nat)) : Int) = some ⟨(Lib.repeatL [48] (s - (Lib.decDigits M.natAbs).length + 1)).toArray⟩ := by
      unfold strings_Repeat.f
      rw [if_pos ⟨by omega, by omega, by decide⟩, Int.toNat_natCast]
    rw [wrap_small ((s : Int) - ((Lib.decDigits M.natAbs).length : Int)) (by omega) (by omega), wrap_small _ (by omega) (by omega), show (s : Int) - ((Lib.decDigits M.natAbs).length : Int) + 1 = ((s - (Lib.decDigits M.natAbs).length + 1 : Nat) : Int) from by omega, hrep, Option.bind_some, bytes_size, repeat_zeros, List.length_replicate, if_pos (by omega), bytes_app]
    rw [repeat_zeros] at hgoal
    exact hgoal
  · rw [if_neg (by omega)]
    rw [if_neg h] at hgoal
    exact hgoal
theorem index_none : ∀ (l : List UInt8), (∀ c ∈ l, c ≠ 46) → Lib.indexByte l 46 = -1
  | [], _ => rfl
  | b :: l, h => by
    rw [Lib.indexByte, if_neg (by rw [beq_iff_eq]; exact h b (List.mem_cons_self ..)), index_none l (fun c hc => h c (List.mem_cons_of_mem _ hc))]
    rfl
theorem index_app : ∀ (l r : List UInt8), (∀ c ∈ l, c ≠ 46) → Lib.indexByte (l ++ 46 :: r) 46 = l.length
  | [], _, _ => rfl
  | b :: l, r, h => by
    have ih := index_app l r (fun c hc => h c (List.mem_cons_of_mem _ hc))
    rw [List.cons_append, Lib.indexByte, if_neg (by rw [beq_iff_eq]; exact h b (List.mem_cons_self ..)), ih, if_neg (by rw [beq_iff_eq]; omega)]
    rfl
theorem dig_no_dot (l : List UInt8) (h : allDig l) : ∀ c ∈ l, c ≠ 46 := fun c hc e => by
  have := h c hc
  rw [e] at this
  exact absurd this (by decide)
theorem cut_dot (l r : List UInt8) (h : allDig l) : cutAt (l ++ 46 :: r) 46 = (l, r, true) := by
  unfold cutAt
  rw [index_app l r (dig_no_dot l h), if_pos (by omega), Int.toNat_natCast, List.take_left, List.drop_append]
  simp
theorem cut_none (l : List UInt8) (h : allDig l) : cutAt l 46 = (l, [], false) := by
  unfold cutAt
  rw [index_none l (dig_no_dot l h), if_neg (by decide)]
theorem head_dig (c : UInt8) (t : List UInt8) (h : isDig c) : headB (c :: t) = (false, c :: t) := by
  show (if c = 43 ∨ c = 45 then (decide (c = 45), t) else (false, c :: t)) = _
  rw [if_neg]
  rintro (e | e) <;> (rw [e] at h; exact absurd h (by decide))
theorem head_body (N s : Nat) : headB (bodyL N s) = (false, bodyL N s) := by
  obtain ⟨h1, h2, h3⟩ := pad_facts N s
  unfold bodyL
  cases hp : padD N s with
  | nil => rw [hp] at h3; exact absurd h3 (by show ¬ 0 = _; omega)
  | cons c t =>
    rw [hp] at h1 h3
    have hc := ((allDig_cons c t).1 h1).1
    split
    · have hl : (c :: t).length - s = ((c :: t).length - s - 1) + 1 := by omega
      rw [hl, List.take_succ_cons, List.cons_append]
      exact head_dig _ _ hc
    · exact head_dig _ _ hc
theorem cut_body (N s : Nat) : (cutAt (bodyL N s) 46).1 ++ (cutAt (bodyL N s) 46).2.1 = padD N s ∧ (cutAt (bodyL N s) 46).2.1.length = s := by
  obtain ⟨h1, h2, h3⟩ := pad_facts N s
  unfold bodyL
  by_cases h : s > 0
  · rw [if_pos h, cut_dot _ _ (fun c hc => h1 c (List.mem_of_mem_take hc))]
    refine ⟨List.take_append_drop _ _, ?_⟩
    show ((padD N s).drop _).length = s
    rw [List.length_drop]
    omega
  · rw [if_neg h, cut_none _ h1]
    exact ⟨List.append_nil _, by show 0 = s; omega⟩
theorem print_len (M : Int) (s : Nat) : (printL M s).length = (if M < 0 then 1 else 0) + (max (Lib.nDigits M.natAbs) (s + 1) + if s > 0 then 1 else 0) := by
  unfold printL
  split
  · rw [List.length_cons, body_len]
    omega
  · rw [body_len]
    omega
theorem parse_print (M : Int) (s : Nat) (hg : Good M s) : parseL (printL M s) = (M, (s : Int), 0) := by
  obtain ⟨g1, g2, g3, g4, _⟩ := id hg
  have hn : Lib.nDigits M.natAbs ≤ 18 := nd_le 17 M.natAbs (by rw [show (10 : Nat) ^ (17 + 1) = 1000000000000000000 from by decide]; omega)
  have hlen := print_len M s
  have hh : headB (printL M s) = (decide (M < 0), bodyL M.natAbs s) := by
    unfold printL
    by_cases hm : M < 0
    · rw [if_pos hm, decide_eq_true hm]
      rfl
    · rw [if_neg hm, decide_eq_false hm]
      exact head_body _ _
  obtain ⟨c1, c2⟩ := cut_body M.natAbs s
  obtain ⟨h1, h2, h3⟩ := pad_facts M.natAbs s
  unfold parseL
  rw [hh]
  dsimp only
  rw [c1, c2, if_neg, h2]
  · exact tellZ_good M s hg
  · rintro (h | h | h)
    · rw [hlen] at h
      (repeat' split at h) <;> omega
    · rw [h] at h3
      exact absurd h3 (by show ¬ 0 = _; omega)
    · exact h h1
end Go.Proofs.YtnhgnejfagncpaaDoor.Plain
end
section
namespace Go.Proofs.YtnhgnejfagncpaaDoor.Plain
open Go.RowKit Go.Proofs.YtnhgnejfagncpaaDoorW.PrintWords Go.Proofs.YtnhgnejfagncpaaDoor.A Go.Proofs.YtnhgnejfagncpaaDoor.B Go.Proofs.YtnhgnejfagncpaaDoor.H Go.Proofs.YtnhgnejfagncpaaDoor.E
theorem wsm (n : Int) (h0 : -9223372036854775808 ≤ n) (h1 : n < 9223372036854775808) : wrap64 n = n := by
  unfold wrap64
  omega
theorem p18 : (10 : Nat) ^ 18 = 1000000000000000000 := by decide
end Go.Proofs.YtnhgnejfagncpaaDoor.Plain
end
section
namespace Go.Proofs.YtnhgnejfagncpaaDoor.Plain
open Go.RowKit Go.Proofs.YtnhgnejfagncpaaDoorW.PrintWords Go.Proofs.YtnhgnejfagncpaaDoor.A Go.Proofs.YtnhgnejfagncpaaDoor.B Go.Proofs.YtnhgnejfagncpaaDoor.H Go.Proofs.YtnhgnejfagncpaaDoor.E
theorem bt_get (t : ByteArray) (i : Nat) (c : UInt8) (h : t.data.toList[i]? = some c) : bt t (i : Int) = (c.toNat : Int) := by
  have hl : i < t.data.toList.length := by
    rcases Nat.lt_or_ge i t.data.toList.length with h2 | h2
    · exact h2
    · rw [List.getElem?_eq_none h2] at h; cases h
  have hs : i < t.size := by rw [Array.length_toList] at hl; exact hl
  unfold bt
  rw [Int.toNat_natCast, dif_pos hs]
  have e : t[i] = c := by
    have h3 : t.data[i]? = some c := by rw [← Array.getElem?_toList]; exact h
    have h4 : t.data[i]? = some (t.data[i]'hs) := Array.getElem?_eq_getElem hs
    rw [h4] at h3
    exact Option.some.inj h3
  rw [e]
end Go.Proofs.YtnhgnejfagncpaaDoor.Plain
end
section
namespace Go.Proofs.YtnhgnejfagncpaaDoor.Plain
open Go Go.RowKit Go.Proofs.YtnhgnejfagncpaaDoorW.PrintWords Go.Proofs.YtnhgnejfagncpaaDoor.H Go.Proofs.YtnhgnejfagncpaaDoor.A Go.Proofs.YtnhgnejfagncpaaDoor.B Go.Proofs.YtnhgnejfagncpaaDoor.E Go.Proofs.YtnhgnejfagncpaaDoor.L Go.Proofs.YtnhgnejfagncpaaDoor.M Go.Proofs.YtnhgnejfagncpaaDoor.P
set_option linter.unusedVariables false
def whiteB (c : Int) : Bool := c == 0 || c == 9 || c == 10 || c == 12 || c == 13 || c == 32
def markB (c : Int) : Bool := c == 40 || c == 41 || c == 60 || c == 62 || c == 91 || c == 93 || c == 123 || c == 125 || c == 47 || c == 37
def otherB (c : Int) : Bool := !markB c && !whiteB c
theorem of_f14 (c : Int) (k : Nat) (hk : 1 ≤ k) : lex_of.f k c = some (if whiteB c = true then 0 else if markB c = true then 1 else 2) := by
  obtain ⟨k, rfl⟩ : ∃ q, k = q + 1 := ⟨k - 1, by omega⟩
  unfold lex_of.f
  by_cases h0 : c = 0
  · subst h0; rfl
  by_cases h1 : c = 9
  · subst h1; rfl
  by_cases h2 : c = 10
  · subst h2; rfl
  by_cases h3 : c = 12
  · subst h3; rfl
  by_cases h4 : c = 13
  · subst h4; rfl
  by_cases h5 : c = 32
  · subst h5; rfl
  rw [if_neg h0, if_neg h1, if_neg h2, if_neg h3, if_neg h4, beq_eq_false_iff_ne.mpr h5, lex_of.j0, if_neg (by decide)]
  have hw : whiteB c = false := by
    unfold whiteB
    rw [beq_eq_false_iff_ne.mpr h0, beq_eq_false_iff_ne.mpr h1, beq_eq_false_iff_ne.mpr h2, beq_eq_false_iff_ne.mpr h3, beq_eq_false_iff_ne.mpr h4, beq_eq_false_iff_ne.mpr h5]
    rfl
  rw [hw]
  simp only [Bool.false_eq_true, if_false]
  by_cases g0 : c = 40
  · subst g0; rfl
  by_cases g1 : c = 41
  · subst g1; rfl
  by_cases g2 : c = 60
  · subst g2; rfl
  by_cases g3 : c = 62
  · subst g3; rfl
  by_cases g4 : c = 91
  · subst g4; rfl
  by_cases g5 : c = 93
  · subst g5; rfl
  by_cases g6 : c = 123
  · subst g6; rfl
  by_cases g7 : c = 125
  · subst g7; rfl
  by_cases g8 : c = 47
  · subst g8; rfl
  by_cases g9 : c = 37
  · subst g9; rfl
  rw [if_neg g0, if_neg g1, if_neg g2, if_neg g3, if_neg g4, if_neg g5, if_neg g6, if_neg g7, if_neg g8, if_neg g9]
  have hm : markB c = false := by
    unfold markB
    rw [beq_eq_false_iff_ne.mpr g0, beq_eq_false_iff_ne.mpr g1, beq_eq_false_iff_ne.mpr g2, beq_eq_false_iff_ne.mpr g3, beq_eq_false_iff_ne.mpr g4, beq_eq_false_iff_ne.mpr g5, beq_eq_false_iff_ne.mpr g6, beq_eq_false_iff_ne.mpr g7, beq_eq_false_iff_ne.mpr g8, beq_eq_false_iff_ne.mpr g9]
    rfl
  rw [hm]
  rfl
theorem of_two (c : Int) (k : Nat) (hk : 1 ≤ k) : ∃ t, lex_of.f k c = some t ∧ (t = 2 ↔ otherB c = true) := by
  refine ⟨_, of_f14 c k hk, ?_⟩
  unfold otherB
  cases whiteB c <;> cases markB c <;> decide
def twoOk (n : Nat) : Bool := match lex_two.f (n : Int), erasureref14_two.f (n : Int) with
  | some a, some b => a.data.toList == b.data.toList && a.data.toList.length == 2
  | _, _ => false
set_option maxRecDepth 100000 in
theorem two_all : (List.range 256).all twoOk = true := by decide
theorem two_f (c : Int) (h0 : 0 ≤ c) (h1 : c ≤ 255) : ∃ z : ByteArray, lex_two.f c = some z ∧ erasureref14_two.f c = some z ∧ z.size = 2 := by
  obtain ⟨n, rfl⟩ := Int.eq_ofNat_of_zero_le h0
  have h := List.all_eq_true.1 two_all n (List.mem_range.2 (by omega))
  unfold twoOk at h
  cases ha : lex_two.f (n : Int) with
  | none => simp [ha] at h
  | some a =>
    cases hb : erasureref14_two.f (n : Int) with
    | none => simp [ha, hb] at h
    | some b =>
      rw [ha, hb] at h
      simp only [Bool.and_eq_true, beq_iff_eq] at h
      have e : a = b := by
        exact ByteArray.ext (Array.toList_inj.1 h.1)
      subst e
      refine ⟨a, rfl, rfl, ?_⟩
      rw [← h.2, Array.length_toList]
      rfl
end Go.Proofs.YtnhgnejfagncpaaDoor.Plain
end
section
namespace Go.Proofs.YtnhgnejfagncpaaDoor.Plain
open Go Go.RowKit Go.Proofs.YtnhgnejfagncpaaDoorW.PrintWords
set_option linter.unusedVariables false
def skipL : Bool → List Int → List Int
  | _, [] => []
  | cm, c :: t => if c = 10 ∨ c = 13 then skipL false t else if cm = true ∨ whiteB c = true then skipL cm t else if c = 37 then skipL true t else c :: t
def rowA : List Int → List Int
  | [] => []
  | c :: t => if otherB c = true then c :: rowA t else []
def rowZ : List Int → List Int
  | [] => []
  | c :: t => if otherB c = true then rowZ t else c :: t
def dgI (c : Int) : Int := if 48 ≤ c ∧ c ≤ 57 then c - 48 else if 65 ≤ c ∧ c ≤ 70 then c - 55 else if 97 ≤ c ∧ c ≤ 102 then c - 87 else -1
def nameL : Nat → List Int → Option (List Int)
  | 0, _ => none
  | _ + 1, [] => some []
  | k + 1, c :: t => if c = 35 then match t with
      | a :: b :: r => if dgI a < 0 ∨ dgI b < 0 then none else if 16 * dgI a + dgI b = 0 then none else (nameL k r).map (fun o => (16 * dgI a + dgI b) :: o)
      | _ => none
    else (nameL k t).map (fun o => c :: o)
def octL : Nat → Int → List Int → List Int × List Int
  | 0, n, t => ([n % 256], t)
  | _ + 1, n, [] => ([n % 256], [])
  | k + 1, n, d :: t => if 48 ≤ d ∧ d ≤ 55 then octL k (8 * n + (d - 48)) t else ([n % 256], d :: t)
def escL (c : Int) (t : List Int) : List Int × List Int :=
  if c = 110 then ([10], t) else if c = 114 then ([13], t) else if c = 116 then ([9], t) else if c = 98 then ([8], t) else if c = 102 then ([12], t)
  else if c = 13 then (match t with
    | [] => ([], [])
    | d :: r => if d = 10 then ([], r) else ([], d :: r))
  else if c = 10 then ([], t) else if c < 48 ∨ 55 < c then ([c], t) else octL 2 (c - 48) t
def textL : Nat → Int → List Int → List Int → Option (List Int × List Int)
  | 0, _, _, _ => none
  | _ + 1, _, _, [] => none
  | k + 1, deep, out, c :: t => if c = 92 then (match t with
      | [] => none
      | d :: r => textL k deep (out ++ (escL d r).1) (escL d r).2)
    else if c = 40 then textL k (deep + 1) (out ++ [40]) t
    else if c = 41 then (if deep = 1 then some (out, t) else textL k (deep - 1) (out ++ [41]) t)
    else if c = 13 then (match t with
      | [] => textL k deep (out ++ [10]) []
      | d :: r => if d = 10 then textL k deep (out ++ [10]) r else textL k deep (out ++ [10]) (d :: r))
    else textL k deep (out ++ [c]) t
def packs : List Int → List Int
  | [] => []
  | [a] => [16 * a]
  | a :: b :: t => (16 * a + b) :: packs t
def hexL : List Int → List Int → Option (List Int × List Int)
  | _, [] => none
  | ds, c :: t => if c = 62 then some (packs ds, t) else if whiteB c = true then hexL ds t else if dgI c < 0 then none else hexL (ds ++ [dgI c]) t
inductive TokR where
  | tok (kind M S : Int) (s : List Int) (rest : List Int)
  | err (e : Int)
def wholeL (kind : Int) : Option (List Int × List Int) → TokR
  | none => .err 4
  | some (s, r) => .tok kind 0 0 s r
def u8L (l : List Int) : List UInt8 := l.map fun n => UInt8.ofNat n.toNat
def wordL (s r : List Int) : TokR :=
  if (parseL (u8L s)).2.2 = 0 then .tok 1 (parseL (u8L s)).1 (parseL (u8L s)).2.1 [] r
  else if (parseL (u8L s)).2.2 = 5 then .err 5
  else if 127 < s.length then .err 2 else .tok 4 0 0 s r
def markL (c : Int) (t : List Int) : TokR :=
  if c = 91 then .tok 5 0 0 [] t else if c = 93 then .tok 6 0 0 [] t
  else if c = 60 then (match t with
    | [] => wholeL 3 (hexL [] [])
    | d :: r => if d = 60 then .tok 7 0 0 [] r else wholeL 3 (hexL [] (d :: r)))
  else if c = 62 then (match t with
    | [] => .err 4
    | d :: r => if d = 62 then .tok 8 0 0 [] r else .err 4)
  else if c = 40 then wholeL 3 (textL (t.length + 1) 1 [] t)
  else if c = 47 then wholeL 2 ((nameL ((rowA t).length + 1) (rowA t)).map fun s => (s, rowZ t))
  else .err 4
def nextL (r : List Int) : TokR := match skipL false r with
  | [] => .tok 0 0 0 [] []
  | c :: t => if otherB c = true then wordL (c :: rowA t) (rowZ t) else markL c t
theorem row_eq : ∀ l, rowA l ++ rowZ l = l
  | [] => rfl
  | c :: t => by
    unfold rowA rowZ
    by_cases h : otherB c = true
    · rw [if_pos h, if_pos h, List.cons_append, row_eq t]
    · rw [if_neg h, if_neg h, List.nil_append]
theorem oct_suf : ∀ (k : Nat) (n : Int) (t : List Int), (octL k n t).2 <:+ t
  | 0, n, t => List.suffix_refl _
  | _ + 1, n, [] => List.suffix_refl _
  | k + 1, n, d :: t => by
    unfold octL
    split
    · exact (oct_suf k _ t).trans (List.suffix_cons ..)
    · exact List.suffix_refl _
theorem esc_suf (c : Int) (t : List Int) : (escL c t).2 <:+ t := by
  unfold escL
  split; exact List.suffix_refl _
  split; exact List.suffix_refl _
  split; exact List.suffix_refl _
  split; exact List.suffix_refl _
  split; exact List.suffix_refl _
  split
  · cases t with
    | nil => exact List.suffix_refl _
    | cons d r =>
      dsimp only
      split
      · exact List.suffix_cons ..
      · exact List.suffix_refl _
  split; exact List.suffix_refl _
  split; exact List.suffix_refl _
  exact oct_suf _ _ _
end Go.Proofs.YtnhgnejfagncpaaDoor.Plain
end
section
namespace Go.Proofs.YtnhgnejfagncpaaDoor.Plain
open Go Go.RowKit Go.Proofs.YtnhgnejfagncpaaDoorW.PrintWords
set_option linter.unusedVariables false
theorem row_all : ∀ (u r : List Int), (∀ c ∈ u, otherB c = true) → rowA r = [] → rowA (u ++ r) = u ∧ rowZ (u ++ r) = r
  | [], r => fun _ hr => ⟨hr, by have := row_eq r; rw [hr] at this; exact this⟩
  | c :: u, r => fun h hr => by
    obtain ⟨a, b⟩ := row_all u r (fun x hx => h x (List.mem_cons_of_mem _ hx)) hr
    have hc := h c (List.mem_cons_self ..)
    rw [List.cons_append]
    unfold rowA rowZ
    rw [if_pos hc, if_pos hc, a, b]
    exact ⟨rfl, rfl⟩
theorem white_other (w : Int) (h : whiteB w = true) : otherB w = false := by unfold otherB; rw [h]; simp
theorem rowA_white (w : Int) (m : List Int) (h : whiteB w = true) : rowA (w :: m) = [] := by
  unfold rowA; rw [if_neg (by rw [white_other w h]; decide)]
end Go.Proofs.YtnhgnejfagncpaaDoor.Plain
end
section
namespace Go.Proofs.YtnhgnejfagncpaaDoor.Plain
open Go Go.RowKit Go.Proofs.YtnhgnejfagncpaaDoorW.PrintWords
set_option linter.unusedVariables false
def okB (l : List Int) : Prop := ∀ c ∈ l, 0 ≤ c ∧ c ≤ 255
def I8 (l : List UInt8) : List Int := l.map fun c => (c.toNat : Int)
theorem u8_i8 (l : List UInt8) : u8L (I8 l) = l := by
  unfold u8L I8
  rw [List.map_map]
  conv => rhs; rw [← List.map_id l]
  refine List.map_congr_left fun c _ => ?_
  show UInt8.ofNat ((c.toNat : Int).toNat) = c
  rw [Int.toNat_natCast]
  exact UInt8.ofNat_toNat
theorem i8_ok (l : List UInt8) : okB (I8 l) := fun c hc => by
  obtain ⟨d, _, rfl⟩ := List.mem_map.1 hc
  have := d.toNat_lt
  exact ⟨Int.natCast_nonneg _, by omega⟩
theorem i8_u8 (l : List Int) (h : okB l) : I8 (u8L l) = l := by
  unfold u8L I8
  rw [List.map_map]
  conv => rhs; rw [← List.map_id l]
  refine List.map_congr_left fun c hc => ?_
  obtain ⟨h0, h1⟩ := h c hc
  show ((UInt8.ofNat c.toNat).toNat : Int) = c
  rw [UInt8.toNat_ofNat', Nat.mod_eq_of_lt (by omega)]
  omega
def hx (n : Int) : Int := if n < 10 then 48 + n else 87 + n
theorem hx_facts : ∀ n : Nat, n < 16 → dgI (hx n) = n ∧ hx n ≠ 62 ∧ whiteB (hx n) = false ∧ otherB (hx n) = true ∧ hx n ≠ 60 ∧ hx n ≠ 35 := by decide
theorem hx_i (n : Int) (h0 : 0 ≤ n) (h1 : n < 16) : dgI (hx n) = n ∧ hx n ≠ 62 ∧ whiteB (hx n) = false ∧ otherB (hx n) = true ∧ hx n ≠ 60 ∧ hx n ≠ 35 := by
  obtain ⟨m, rfl⟩ := Int.eq_ofNat_of_zero_le h0
  exact hx_facts m (by omega)
def keepB (c : Int) : Bool := otherB c && c != 35 && decide (32 < c) && decide (c ≤ 126)
def escN : List Int → List Int
  | [] => []
  | c :: t => if keepB c = true then c :: escN t else 35 :: hx (c / 16) :: hx (c % 16) :: escN t
def hexN : List Int → List Int
  | [] => []
  | c :: t => hx (c / 16) :: hx (c % 16) :: hexN t
theorem esc_other : ∀ l : List Int, okB l → ∀ c ∈ escN l, otherB c = true
  | [], _ => fun c h => by cases h
  | d :: t, hl => fun c h => by
    have ht : okB t := fun x hx => hl x (List.mem_cons_of_mem _ hx)
    obtain ⟨d0, d1⟩ := hl d (List.mem_cons_self ..)
    unfold escN at h
    split at h
    · rename_i hk
      rcases List.mem_cons.1 h with rfl | h
      · unfold keepB at hk
        simp only [Bool.and_eq_true] at hk
        exact hk.1.1.1
      · exact esc_other t ht c h
    · rcases List.mem_cons.1 h with rfl | h
      · decide
      rcases List.mem_cons.1 h with rfl | h
      · exact (hx_i (d / 16) (by omega) (by omega)).2.2.2.1
      rcases List.mem_cons.1 h with rfl | h
      · exact (hx_i (d % 16) (by omega) (by omega)).2.2.2.1
      · exact esc_other t ht c h
theorem name_back : ∀ (l : List Int), okB l → (∀ c ∈ l, c ≠ 0) → ∀ k, (escN l).length + 1 ≤ k → nameL k (escN l) = some l
  | [], _, _ => fun k hk => by
    obtain ⟨k, rfl⟩ : ∃ q, k = q + 1 := ⟨k - 1, by omega⟩
    rfl
  | d :: t, hl, hz => fun k hk => by
    have ht : okB t := fun x hx => hl x (List.mem_cons_of_mem _ hx)
    have hz2 : ∀ c ∈ t, c ≠ 0 := fun x hx => hz x (List.mem_cons_of_mem _ hx)
    obtain ⟨d0, d1⟩ := hl d (List.mem_cons_self ..)
    have dz := hz d (List.mem_cons_self ..)
    obtain ⟨k, rfl⟩ : ∃ q, k = q + 1 := ⟨k - 1, by omega⟩
    by_cases hk2 : keepB d = true
    · have e : escN (d :: t) = d :: escN t := by show (if keepB d = true then _ else _) = _; rw [if_pos hk2]
      rw [e] at hk ⊢
      rw [List.length_cons] at hk
      have h35 : d ≠ 35 := fun h => by subst h; revert hk2; decide
      unfold nameL
      rw [if_neg h35, name_back t ht hz2 k (by omega)]
      rfl
    · have e : escN (d :: t) = 35 :: hx (d / 16) :: hx (d % 16) :: escN t := by show (if keepB d = true then _ else _) = _; rw [if_neg hk2]
      rw [e] at hk ⊢
      rw [List.length_cons, List.length_cons, List.length_cons] at hk
      obtain ⟨a, _⟩ := hx_i (d / 16) (by omega) (by omega)
      obtain ⟨b, _⟩ := hx_i (d % 16) (by omega) (by omega)
      unfold nameL
      rw [if_pos rfl]
      dsimp only
      rw [a, b, if_neg (by omega), if_neg (by omega), name_back t ht hz2 k (by omega), show 16 * (d / 16) + d % 16 = d from by omega]
      rfl
def digN : List Int → List Int
  | [] => []
  | c :: t => c / 16 :: c % 16 :: digN t
theorem packs_dig : ∀ l : List Int, packs (digN l) = l
  | [] => rfl
  | c :: t => by
    show (16 * (c / 16) + c % 16) :: packs (digN t) = c :: t
    rw [packs_dig t, show 16 * (c / 16) + c % 16 = c from by omega]
theorem hex_back (X : List Int) : ∀ (l ds : List Int), okB l → hexL ds (hexN l ++ 62 :: X) = some (packs (ds ++ digN l), X)
  | [], ds, _ => by
    show hexL ds (62 :: X) = some (packs (ds ++ []), X)
    rw [List.append_nil]
    unfold hexL
    rw [if_pos rfl]
  | c :: t, ds, hl => by
    have ht : okB t := fun x hx => hl x (List.mem_cons_of_mem _ hx)
    obtain ⟨d0, d1⟩ := hl c (List.mem_cons_self ..)
    obtain ⟨a1, a2, a3, _⟩ := hx_i (c / 16) (by omega) (by omega)
    obtain ⟨b1, b2, b3, _⟩ := hx_i (c % 16) (by omega) (by omega)
    show hexL ds (hx (c / 16) :: hx (c % 16) :: (hexN t ++ 62 :: X)) = _
    unfold hexL
    rw [if_neg a2, a3, if_neg (by decide), a1, if_neg (by omega)]
    unfold hexL
    rw [if_neg b2, b3, if_neg (by decide), b1, if_neg (by omega), hex_back X t _ ht]
    show some (packs (ds ++ [c / 16] ++ [c % 16] ++ digN t), X) = some (packs (ds ++ (c / 16 :: c % 16 :: digN t)), X)
    rw [List.append_assoc, List.append_assoc]
    rfl
def RightT (kind M S : Int) (s : List Int) : Prop :=
  if kind = 1 then Good M S ∧ s = [] else M = 0 ∧ S = 0 ∧
  (if kind = 2 then (∀ c ∈ s, c ≠ 0) else if kind = 3 then True else if kind = 4 then s ≠ [] ∧ s.length ≤ 127 ∧ (∀ c ∈ s, otherB c = true) ∧ (parseL (u8L s)).2.2 = 4 else 0 ≤ kind ∧ kind ≤ 8 ∧ s = [])
instance (kind M S : Int) (s : List Int) : Decidable (RightT kind M S s) := by unfold RightT; infer_instance
def prL (kind M S : Int) (s : List Int) : List Int :=
  if kind = 1 then I8 (printL M S.toNat) else if kind = 2 then 47 :: escN s else if kind = 3 then 60 :: (hexN s ++ [62]) else if kind = 4 then s
  else if kind = 5 then [91] else if kind = 6 then [93] else if kind = 7 then [60, 60] else if kind = 8 then [62, 62] else []
theorem skip_stay (c : Int) (t : List Int) (h1 : whiteB c = false) (h2 : c ≠ 37) : skipL false (c :: t) = c :: t := by
  have h3 : ¬ (c = 10 ∨ c = 13) := by
    rintro (rfl | rfl) <;> revert h1 <;> decide
  unfold skipL
  rw [if_neg h3, if_neg (by rw [h1]; decide), if_neg h2]
theorem other_stay (c : Int) (t : List Int) (h : otherB c = true) : skipL false (c :: t) = c :: t := by
  have h1 : whiteB c = false := by
    unfold otherB at h
    simp only [Bool.and_eq_true, Bool.not_eq_true'] at h
    exact h.2
  refine skip_stay c t h1 fun e => ?_
  subst e
  revert h
  decide
theorem print_ok (M : Int) (s : Nat) : printL M s ≠ [] ∧ ∀ c ∈ printL M s, isDig c ∨ c = 45 ∨ c = 46 := by
  obtain ⟨h1, h2, h3⟩ := pad_facts M.natAbs s
  have hb : ∀ c ∈ bodyL M.natAbs s, isDig c ∨ c = 45 ∨ c = 46 := fun c hc => by
    unfold bodyL at hc
    split at hc
    · rcases List.mem_append.1 hc with hc | hc
      · exact Or.inl (h1 c (List.mem_of_mem_take hc))
      · rcases List.mem_cons.1 hc with rfl | hc
        · exact Or.inr (Or.inr rfl)
        · exact Or.inl (h1 c (List.mem_of_mem_drop hc))
    · exact Or.inl (h1 c hc)
  constructor
  · intro h
    have := congrArg List.length h
    rw [print_len] at this
    have h0 : ([] : List UInt8).length = 0 := rfl
    omega
  · intro c hc
    unfold printL at hc
    split at hc
    · rcases List.mem_cons.1 hc with rfl | hc
      · exact Or.inr (Or.inl rfl)
      · exact hb c hc
    · exact hb c hc
theorem other_num : ∀ n : Nat, n < 58 → (48 ≤ n ∨ n = 45 ∨ n = 46) → otherB n = true := by decide
theorem num_other (M : Int) (s : Nat) : ∀ c ∈ I8 (printL M s), otherB c = true := fun c hc => by
  obtain ⟨d, hd, rfl⟩ := List.mem_map.1 hc
  rcases (print_ok M s).2 d hd with h | rfl | rfl
  · obtain ⟨a, b⟩ := h
    exact other_num d.toNat (by omega) (Or.inl a)
  · decide
  · decide
theorem word_next (s : List Int) (hs : s ≠ []) (ho : ∀ c ∈ s, otherB c = true) (w : Int) (m : List Int) (hw : whiteB w = true) : nextL (s ++ w :: m) = wordL s (w :: m) := by
  cases s with
  | nil => exact absurd rfl hs
  | cons c t =>
    have hc := ho c (List.mem_cons_self ..)
    obtain ⟨a, b⟩ := row_all t (w :: m) (fun x hx => ho x (List.mem_cons_of_mem _ hx)) (rowA_white w m hw)
    unfold nextL
    rw [List.cons_append, other_stay c _ hc]
    dsimp only
    rw [if_pos hc, a, b]
theorem next_back (kind M S : Int) (s : List Int) (hs : okB s) (h : RightT kind M S s) (hk : kind ≠ 0) (w : Int) (m : List Int) (hw : whiteB w = true) : nextL (prL kind M S s ++ w :: m) = .tok kind M S s (w :: m) := by
  unfold RightT at h
  unfold prL
  by_cases k1 : kind = 1
  · rw [if_pos k1] at h ⊢
    obtain ⟨hg, rfl⟩ := h
    obtain ⟨_, _, g3, _⟩ := id hg
    have hS : ((S.toNat : Nat) : Int) = S := Int.toNat_of_nonneg g3
    have hp := parse_print M S.toNat (by rw [hS]; exact hg)
    have hne : I8 (printL M S.toNat) ≠ [] := fun e => (print_ok M S.toNat).1 (List.map_eq_nil_iff.1 e)
    rw [word_next _ hne (num_other M S.toNat) w m hw]
    unfold wordL
    rw [u8_i8, hp]
    dsimp only
    rw [if_pos rfl, hS, k1]
  rw [if_neg k1] at h ⊢
  obtain ⟨rfl, rfl, h⟩ := h
  by_cases k2 : kind = 2
  · rw [if_pos k2] at h ⊢
    obtain ⟨a, b⟩ := row_all (escN s) (w :: m) (esc_other s hs) (rowA_white w m hw)
    unfold nextL
    rw [List.cons_append, skip_stay 47 _ (by decide) (by decide)]
    dsimp only
    rw [if_neg (by decide)]
    unfold markL
    rw [if_neg (by decide), if_neg (by decide), if_neg (by decide), if_neg (by decide), if_neg (by decide), if_pos rfl, a, b, name_back s hs h _ (Nat.le_refl _), k2]
    rfl
  rw [if_neg k2] at h ⊢
  by_cases k3 : kind = 3
  · rw [if_pos k3] at h ⊢
    have hb := hex_back (w :: m) s [] hs
    rw [List.nil_append, packs_dig] at hb
    unfold nextL
    rw [List.cons_append, List.append_assoc, skip_stay 60 _ (by decide) (by decide)]
    dsimp only
    rw [if_neg (by decide)]
    unfold markL
    rw [if_neg (by decide), if_neg (by decide), if_pos rfl, k3]
    cases s with
    | nil =>
      show (if (62 : Int) = 60 then _ else wholeL 3 (hexL [] (62 :: ([] ++ w :: m)))) = _
      rw [if_neg (by decide)]
      exact congrArg (wholeL 3) hb
    | cons c t =>
      obtain ⟨d0, d1⟩ := hs c (List.mem_cons_self ..)
      have h60 := (hx_i (c / 16) (by omega) (by omega)).2.2.2.2.1
      show (if hx (c / 16) = 60 then _ else wholeL 3 (hexL [] (hexN (c :: t) ++ ([62] ++ w :: m)))) = _
      rw [if_neg h60]
      exact congrArg (wholeL 3) hb
  rw [if_neg k3] at h ⊢
  by_cases k4 : kind = 4
  · rw [if_pos k4] at h ⊢
    obtain ⟨h1, h2, h3, h4⟩ := h
    rw [word_next s h1 h3 w m hw]
    unfold wordL
    rw [h4, if_neg (by decide), if_neg (by decide), if_neg (by omega), k4]
  rw [if_neg k4] at h ⊢
  obtain ⟨h0, h8, rfl⟩ := h
  have hm : ∀ c t, whiteB c = false → c ≠ 37 → otherB c = false → nextL (c :: t) = markL c t := fun c t a b d => by
    unfold nextL
    rw [skip_stay c t a b]
    dsimp only
    rw [if_neg (by rw [d]; decide)]
  by_cases k5 : kind = 5
  · rw [if_pos k5, k5]
    exact hm 91 _ (by decide) (by decide) (by decide)
  rw [if_neg k5]
  by_cases k6 : kind = 6
  · rw [if_pos k6, k6]
    exact hm 93 _ (by decide) (by decide) (by decide)
  rw [if_neg k6]
  by_cases k7 : kind = 7
  · rw [if_pos k7, k7]
    exact hm 60 _ (by decide) (by decide) (by decide)
  rw [if_neg k7]
  have k8 : kind = 8 := by omega
  rw [if_pos k8, k8]
  exact hm 62 _ (by decide) (by decide) (by decide)
theorem skip_front (X : List Int) : skipL false (32 :: 37 :: 120 :: 10 :: X) = skipL false X := rfl
theorem skip_between (X : List Int) : skipL false (10 :: 9 :: 37 :: 41 :: 13 :: X) = skipL false X := rfl
theorem next_skip (X Y : List Int) (h : skipL false X = skipL false Y) : nextL X = nextL Y := by unfold nextL; rw [h]
end Go.Proofs.YtnhgnejfagncpaaDoor.Plain
end
