/- FontNone's walk, by hand. -/
import Derived.Test.YtjhpcfpccnfniaaH8
import Derived.Test.YtjhpcfpccnfniaaH11
namespace Go.Proofs.Ytjhpcfpccnfniaa.N
open Go Go.RowKit Go.Proofs.YtjhpcfpccnfniaaW.PrintWords Go.Proofs.YtjhpcfpccnfniaaW.PrintLast Go.Proofs.YtjhpcfpccnfniaaW.PrintMore Go.Proofs.Ytjhpcfpccnfniaa.A Go.Proofs.Ytjhpcfpccnfniaa.F
attribute [local go_sem] max2_int min2_int max_two min_two max_three min_three max_four min_four
set_option linter.unusedVariables false
set_option linter.unusedSimpArgs false

/-- All codes. -/
def codes (l : List S37) : List Int := l.map (·.f0)
theorem codes_snoc (l : List S37) (k : Nat) (h : k < l.length) : encs (Value.int .i64) ((codes l).take (k + 1)) = encs (Value.int .i64) ((codes l).take k) ++ [.int .i64 (rd_T37 l (k : Int)).f0] := by
  have e : (codes l)[k]? = some (rd_T37 l (k : Int)).f0 := by
    unfold codes
    rw [List.getElem?_map, List.getElem?_eq_getElem h]
    unfold rd_T37
    rw [Int.toNat_natCast, List.getD_eq_getElem?_getD, List.getElem?_eq_getElem h]
    rfl
  rw [List.take_add_one, e]
  simp [encs]

set_option maxRecDepth 100000 in
set_option maxHeartbeats 4000000 in
theorem none_big (wd : Bool) (A : Option Addr) (c : Nat) (l : List S37) (o : Int) (w : World) (hl : 150 < l.length) :
    Calls Try.prog 7 #[.agg #[.bool wd, .slice A l.length c, .int .i64 o]] w fun e w' => e = .returned (.bool true) ∧ Below w.heap.size w w' := by
  have hb : decide ((150 : Int) < (l.length : Int)) = true := decide_eq_true (by omega)
  go_enter Try.func7, Try.ntmps7
  go_wp2_with fail
  go_ret
  exact ⟨rfl, below_alloc (Below.refl _ _) _⟩

theorem lit1 (w : World) (x : Value) (t : TypeId) : ∀ j u, [x][j]? = some u → (w.alloc (.cells #[x] t)).cell? ((⟨w.heap.size, 0, none⟩ : Addr).add j) = some u := fun j u hu => by
  match j, hu with
  | 0, hu =>
    have h := World.cell?_alloc_mark w #[x] t (0, 0) 0
    simp at hu
    subst hu
    exact h
  | j + 1, hu => simp at hu
theorem own_C {w : World} {base : Nat} {v : Value} {xs : List Int} (h : w.ownsRow base 3 1 v xs.length (encs (Value.int .i64) xs)) : ∃ A c, v = .slice A xs.length c ∧ xs.length ≤ c ∧ Kd.C (Kd.int .i64) w A xs.length xs := by
  obtain ⟨A, c, rfl⟩ := own_slice h
  have := Kd.R_reads' (Kd.R_of_own (h1 := fun _ => rfl) (ok := fun _ => True) h (fun _ _ => trivial))
  exact ⟨A, c, rfl, this.2.1, this.2.2⟩

set_option maxRecDepth 100000 in
set_option maxHeartbeats 4000000 in
theorem none_walk (k : Nat) (wd : Bool) (A : Option Addr) (c : Nat) (l : List S37) (o : Int) (w : World) (hl : l.length ≤ 150) (hr : Kd.C k37 w A l.length l) (hc : l.length ≤ c) (r1 : Bool) (r2 : List S37) (e4 : Int)
    (hcut1 : font_Cut.f k wd l o [] = some (r1, [], 0, e4)) (hcut2 : font_Cut.f k wd l o (codes l) = some (r1, r2, 0, e4)) (hck : font_Check.f k wd l o = some e4)
    (hcase : (e4 = 1 ∧ font_Codes.f k wd l o ⟨#[]⟩ = some ([], 1) ∧ font_Bytes.f k wd l o [] = some (⟨#[]⟩, 1)) ∨ (e4 = 0 ∧ r1 = wd ∧ r2 = l)) :
    Calls Try.prog 7 #[.agg #[.bool wd, .slice A l.length c, .int .i64 o]] w fun e w' => e = .returned (.bool true) ∧ Below w.heap.size w w' := by
  have hb : decide ((150 : Int) < (l.length : Int)) = false := decide_eq_false (by omega)
  have hnilG : ∀ W : World, Kd.C (Kd.int .i64) W none 0 [] := fun W => ⟨rfl, by decide, fun hn => absurd hn (Nat.lt_irrefl _)⟩
  have hB0 : Below w.heap.size w (w.alloc (.cells #[.bool wd, .slice A l.length c, .int .i64 o] 24)) := below_alloc (Below.refl _ _) _
  have bk0 := blk_new w (.cells #[.bool wd, .slice A l.length c, .int .i64 o] 24)
  have hu24 := Try.underlying24
  have hu37 := Try.underlying37
  replace hcut1 := Aside0.mk hcut1
  replace hcut2 := Aside0.mk hcut2
  replace hck := Aside0.mk hck
  replace hcase := Aside0.mk hcase
  replace hnilG := Aside0.mk hnilG
  replace bk0 := Aside0.mk bk0
  go_enter Try.func7, Try.ntmps7
  go_wp2_with fail
  refine (font_Cut.calls k wd A c l o none 0 [] r1 [] 0 e4 _ (Kd.C_alloc hr _) hc (hnilG.out _) (Nat.le_refl 0) hcut1.out).mono ?_
  rintro e w1 ⟨v1, rfl, hR1, hB1⟩
  obtain ⟨A1, c1, rfl⟩ := Kd.R_slice hR1
  have bk1 := blk_below bk0.out hB1
  have hB01 : Below w.heap.size w w1 := below_step hB0 hB1
  have bkA := blk_new w1 (.cells #[.bool r1, .slice A1 0 c1, .int .i64 0] 24)
  have bk2 := blk_alloc bk1 (.cells #[.bool r1, .slice A1 0 c1, .int .i64 0] 24)
  have hB2 := below_alloc hB01 (.cells #[.bool r1, .slice A1 0 c1, .int .i64 0] 24)
  have hC2 := Kd.C_below hr hB2
  clear hB0 hB1 hR1 bk1
  replace bkA := Aside0.mk bkA
  replace bk2 := Aside0.mk bk2
  replace hB2 := Aside0.mk hB2
  replace hB01 := Aside0.mk hB01
  replace hC2 := Aside0.mk hC2
  rw [List.length_nil]
  obtain ⟨W2, hW2⟩ : ∃ W2, w1.alloc (.cells #[.bool r1, .slice A1 0 c1, .int .i64 0] 24) = W2 := ⟨_, rfl⟩
  rw [hW2] at bkA bk2 hB2 hC2
  have hown0 : Aside0 (W2.ownsRow W2.heap.size 3 1 (.slice none 0 0) 0 (encs (Value.int .i64) ((codes l).take 0))) := ⟨World.ownsRow_nil _ _ _ _⟩
  obtain ⟨i0, hi, hz0, hz1, hz2⟩ := info_parts info3
  replace hW2 := Aside0.mk hW2
  have hbig : l.length ≤ 9223372036854775807 := by omega
  go_wp2_with fail
  rw [hW2.out]
  go_loopg [5, 6] l.length (fun gg s5 s6 wr => ∃ kk : Nat, kk ≤ l.length ∧ l.length - kk ≤ gg ∧ s6 = .int .i64 kk ∧ Aside0 (wr.ownsRow W2.heap.size 3 1 s5 kk (encs (Value.int .i64) ((codes l).take kk))) ∧ Aside0 (Below W2.heap.size W2 wr))
  case atStart => exact ⟨0, Nat.zero_le _, by omega, rfl, hown0, ⟨Below.refl _ _⟩⟩
  case round =>
    obtain ⟨kk, hkk, hg, rfl, OW, BW⟩ := hrel
    have bkr := blk_below bk2.out BW.out
    have e1 : wr.cell? ⟨w.heap.size, 1, none⟩ = some (.slice A l.length c) := (blk_cell bkr 1).trans rfl
    by_cases hlt : kk < l.length
    · have hltz : (kk : Int) < (l.length : Int) := by omega
      have hltb : decide ((kk : Int) < (l.length : Int)) = true := decide_eq_true hltz
      obtain ⟨ad, e, h0, _, _⟩ := at_T37 hC2.out (kk : Int) (by omega) hltz
      cases e
      replace h0 := (BW.out.cell (World.block_lt_of_cell? W2 _ h0)).trans h0
      simp only [Int.toNat_natCast] at h0
      have hsn := codes_snoc l kk hlt
      obtain ⟨x, hx⟩ : ∃ x, (rd_T37 l (kk : Int)).f0 = x := ⟨_, rfl⟩
      rw [hx] at h0 hsn
      clear hx
      replace hsn := Aside0.mk hsn
      replace bkr := Aside0.mk bkr
      have hbs : W2.heap.size ≤ (wr.alloc (.cells #[.int .i64 x] 3)).heap.size := (below_alloc BW.out _).size
      replace hbs := Aside0.mk hbs
      go_wp2_with (at_builtin; refine wpList_append_own _ rfl _ _ 25 rfl W2.heap.size 3 i0 (.int .i64 0) 1 8 Try.underlying25 hi hz0 hz1 hz2 rfl (by decide) _ kk _ rfl (OW.out.alloc _) ⟨wr.heap.size, 0, none⟩ 1 1 [.int .i64 x] rfl rfl (lit1 wr _ 3) (by simp [Value.oneCell']) (by unfold maxLen; omega) (by omega) hbs.out ?_; intro v' w3 hown' hgrow _; replace hown' := Aside0.mk hown'; replace hgrow := Aside0.mk hgrow)
      go_roundg (l.length - (kk + 1))
      case measure => omega
      case rel => exact ⟨kk + 1, by omega, by omega, by go_num, ⟨by rw [hsn.out]; exact hown'.out⟩, ⟨(below_alloc BW.out _).grown hgrow.out hbs.out (fun k hk => own_base OW.out k hk)⟩⟩
    · have hltb : decide ((kk : Int) < (l.length : Int)) = false := decide_eq_false (by omega)
      obtain rfl : kk = l.length := by omega
      have hcl : (codes l).length = l.length := List.length_map ..
      have how := OW.out
      rw [← hcl, List.take_length] at how
      obtain ⟨Ac, cc, hv, hcc, hCc⟩ := own_C how
      subst hv
      replace hCc := Aside0.mk hCc
      have d0 : wr.cell? ⟨w.heap.size, 0, none⟩ = some (.bool wd) := (blk_cell bkr 0).trans rfl
      have d2 : wr.cell? ⟨w.heap.size, 2, none⟩ = some (.int .i64 o) := (blk_cell bkr 2).trans rfl
      have hCr := Kd.C_below hC2.out BW.out
      replace hCr := Aside0.mk hCr
      replace bkr := Aside0.mk bkr
      replace hcl := Aside0.mk hcl
      clear how OW
      go_wp2_with fail
      refine (font_Cut.calls k wd A c l o Ac cc (codes l) r1 r2 0 e4 _ hCr.out hc hCc.out hcc hcut2.out).mono ?_
      rintro e w5 ⟨v2, rfl, hR5, hB5⟩
      obtain ⟨A2, c2, rfl⟩ := Kd.R_slice hR5
      obtain ⟨_, hc2, hC25⟩ := Kd.R_reads' hR5
      have bk5 := blk_below bkr.out hB5
      have bkA5 := blk_below (blk_below bkA.out BW.out) hB5
      have hC5 := Kd.C_below hCr.out hB5
      have hB05 : Below w.heap.size w w5 := below_step (below_step hB2.out BW.out) hB5
      have bkB := blk_new w5 (.cells #[.bool r1, .slice A2 r2.length c2, .int .i64 0] 24)
      replace bk5 := blk_alloc bk5 (.cells #[.bool r1, .slice A2 r2.length c2, .int .i64 0] 24)
      replace bkA5 := blk_alloc bkA5 (.cells #[.bool r1, .slice A2 r2.length c2, .int .i64 0] 24)
      replace hC5 := Kd.C_alloc hC5 (.cells #[.bool r1, .slice A2 r2.length c2, .int .i64 0] 24)
      replace hC25 := Kd.C_alloc hC25 (.cells #[.bool r1, .slice A2 r2.length c2, .int .i64 0] 24)
      replace hB05 := below_alloc hB05 (.cells #[.bool r1, .slice A2 r2.length c2, .int .i64 0] 24)
      obtain ⟨W6, hW6⟩ : ∃ W6, w5.alloc (.cells #[.bool r1, .slice A2 r2.length c2, .int .i64 0] 24) = W6 := ⟨_, rfl⟩
      rw [hW6] at bkB bk5 bkA5 hC5 hC25 hB05
      have q0 : W6.cell? ⟨w.heap.size, 0, none⟩ = some (.bool wd) := (blk_cell bk5 0).trans rfl
      have q1 : W6.cell? ⟨w.heap.size, 1, none⟩ = some (.slice A l.length c) := (blk_cell bk5 1).trans rfl
      have q2 : W6.cell? ⟨w.heap.size, 2, none⟩ = some (.int .i64 o) := (blk_cell bk5 2).trans rfl
      have hq : ∀ j v, (#[Value.bool wd, .slice A l.length c, .int .i64 o] : Array Value)[j]? = some v → (w5.alloc (.cells #[.bool r1, .slice A2 r2.length c2, .int .i64 0] 24)).cell? ⟨w.heap.size, j, none⟩ = some v := fun j v hj => by
        rw [hW6]; exact (blk_cell bk5 j).trans hj
      have p0 := hq 0 _ rfl
      have p1 := hq 1 _ rfl
      have p2 := hq 2 _ rfl
      replace hW6 := Aside0.mk hW6
      replace bkB := Aside0.mk bkB
      replace bk5 := Aside0.mk bk5
      replace bkA5 := Aside0.mk bkA5
      replace hC5 := Aside0.mk hC5
      replace hC25 := Aside0.mk hC25
      replace hB05 := Aside0.mk hB05
      clear e1 d0 d2 hq bkr BW hB5 hR5 q0 q1 q2
      go_wp2_with fail
      rw [hW6.out]
      clear p0 p1 p2
      refine (font_Check.calls k wd A c l o e4 _ hC5.out hc hck.out).mono ?_
      rintro e w7 ⟨rfl, hB7⟩
      have bk7 := blk_below bk5.out hB7
      have hB07 : Below w.heap.size w w7 := below_step hB05.out hB7
      have q0 : w7.cell? ⟨w.heap.size, 0, none⟩ = some (.bool wd) := (blk_cell bk7 0).trans rfl
      have q1 : w7.cell? ⟨w.heap.size, 1, none⟩ = some (.slice A l.length c) := (blk_cell bk7 1).trans rfl
      have q2 : w7.cell? ⟨w.heap.size, 2, none⟩ = some (.int .i64 o) := (blk_cell bk7 2).trans rfl
      have hC7 := Kd.C_below hC5.out hB7
      replace hB07 := Aside0.mk hB07
      replace hC7 := Aside0.mk hC7
      replace hB7 := Aside0.mk hB7
      replace bk7 := Aside0.mk bk7
      obtain ⟨he4, hcd, hby⟩ | ⟨he4, hr1, hr2⟩ := hcase.out
      · have ht47 : (e4 != 0) = true := by rw [he4]; rfl
        have hz1 : (e4 == 1) = true := by rw [he4]; rfl
        have hz2 : (e4 == e4) = true := beq_self_eq_true e4
        have hz3 : ((1 : Int) == e4) = true := by rw [he4]; rfl
        replace he4 := Aside0.mk he4
        replace hcd := Aside0.mk hcd
        replace hby := Aside0.mk hby
        go_wp2_with fail
        refine (font_Codes.calls k wd A c l o ⟨#[]⟩ [] 1 _ hC7.out hc hcd.out).mono ?_
        rintro e w8 ⟨v8, rfl, _, hB8⟩
        have bk8 := blk_below bk7.out hB8
        replace q0 : w8.cell? ⟨w.heap.size, 0, none⟩ = some (.bool wd) := (blk_cell bk8 0).trans rfl
        replace q1 : w8.cell? ⟨w.heap.size, 1, none⟩ = some (.slice A l.length c) := (blk_cell bk8 1).trans rfl
        replace q2 : w8.cell? ⟨w.heap.size, 2, none⟩ = some (.int .i64 o) := (blk_cell bk8 2).trans rfl
        have hC8 := Kd.C_below hC7.out hB8
        have hB08 : Below w.heap.size w w8 := below_step hB07.out hB8
        replace hB08 := Aside0.mk hB08
        replace hC8 := Aside0.mk hC8
        replace bk8 := Aside0.mk bk8
        clear hB8
        go_wp2_with fail
        refine (font_Bytes.calls k wd A c l o none 0 [] ⟨#[]⟩ 1 _ hC8.out hc (hnilG.out _) (Nat.le_refl 0) hby.out).mono ?_
        rintro e w9 ⟨rfl, hB9⟩
        have hB09 : Below w.heap.size w w9 := below_step hB08.out hB9
        replace hB09 := Aside0.mk hB09
        clear hB9 q0 q1 q2
        go_wp2_with fail
        refine (erasurelaw19_awake.calls true _ rfl).mono ?_
        rintro e w10 ⟨rfl, hB10⟩
        have hB010 : Below w.heap.size w w10 := below_step hB09.out hB10
        replace hB010 := Aside0.mk hB010
        clear hB10
        go_wp2_with fail
        go_ret
        exact ⟨rfl, hB010.out⟩
      · have ht47 : (e4 != 0) = false := by rw [he4]; rfl
        subst hr2
        replace he4 := Aside0.mk he4
        replace hr1 := Aside0.mk hr1
        have bkB7 := blk_below bkB.out hB7.out
        have bkA7 := blk_below bkA5.out hB7.out
        have hC27 := Kd.C_below hC25.out hB7.out
        replace bkB7 := Aside0.mk bkB7
        replace bkA7 := Aside0.mk bkA7
        replace hC27 := Aside0.mk hC27
        have hnn : ((r2.length : Int) != (r2.length : Int)) = false := bne_self_eq_false _
        go_wp2_with fail
        clear q0 q1 q2
        go_loopg [13] r2.length (fun gg s13 wr => ∃ kk : Nat, kk ≤ r2.length ∧ r2.length - kk ≤ gg ∧ s13 = .int .i64 kk ∧ Aside0 (Below w7.heap.size w7 wr))
        case atStart => exact ⟨0, Nat.zero_le _, by omega, rfl, ⟨Below.refl _ _⟩⟩
        case round =>
          obtain ⟨kk, hkk, hg, rfl, BW⟩ := hrel
          have bkr := blk_below bk7.out BW.out
          have bBr := blk_below bkB7.out BW.out
          have e1 : wr.cell? ⟨w.heap.size, 1, none⟩ = some (.slice A r2.length c) := (blk_cell bkr 1).trans rfl
          have e2 : wr.cell? ⟨w5.heap.size, 1, none⟩ = some (.slice A2 r2.length c2) := (blk_cell bBr 1).trans rfl
          by_cases hlt : kk < r2.length
          · have hltz : (kk : Int) < (r2.length : Int) := by omega
            have hltb : decide ((kk : Int) < (r2.length : Int)) = true := decide_eq_true hltz
            have hk0 : (0 : Int) ≤ (kk : Int) := by omega
            obtain ⟨ad, e, h0, h1, h2⟩ := at_T37 hC7.out (kk : Int) (by omega) hltz
            cases e
            obtain ⟨ad2, e, g0, g1, g2⟩ := at_T37 hC27.out (kk : Int) (by omega) hltz
            cases e
            replace h0 := (BW.out.cell (World.block_lt_of_cell? w7 _ h0)).trans h0
            replace h1 := (BW.out.cell (World.block_lt_of_cell? w7 _ h1)).trans h1
            replace h2 := (BW.out.cell (World.block_lt_of_cell? w7 _ h2)).trans h2
            replace g0 := (BW.out.cell (World.block_lt_of_cell? w7 _ g0)).trans g0
            replace g1 := (BW.out.cell (World.block_lt_of_cell? w7 _ g1)).trans g1
            replace g2 := (BW.out.cell (World.block_lt_of_cell? w7 _ g2)).trans g2
            simp only [Int.toNat_natCast] at h0 h1 h2 g0 g1 g2
            obtain ⟨y, hy⟩ : ∃ y, rd_T37 r2 (kk : Int) = y := ⟨_, rfl⟩
            rw [hy] at h0 h1 h2 g0 g1 g2
            clear hy
            replace bkr := Aside0.mk bkr
            replace bBr := Aside0.mk bBr
            go_wp2_with fail
            go_quiet (fail)
            go_wp2_with fail
            all_goals
              go_roundg (r2.length - (kk + 1))
              case measure => omega
              case rel => exact ⟨kk + 1, by omega, by omega, by go_num, ⟨below_step BW.out (pw_below_drewN (Below.refl _ _) _)⟩⟩
          · have hltb : decide ((kk : Int) < (r2.length : Int)) = false := decide_eq_false (by omega)
            have bAr := blk_below bkA7.out BW.out
            have hBr : Below w.heap.size w wr := below_step hB07.out BW.out
            replace bkr := Aside0.mk bkr
            replace bBr := Aside0.mk bBr
            replace bAr := Aside0.mk bAr
            replace hBr := Aside0.mk hBr
            go_wp2_with fail
            refine (erasurelaw19_awake.calls true _ rfl).mono ?_
            rintro e w10 ⟨rfl, hB10⟩
            have b0 := blk_below bkr.out hB10
            have b1 := blk_below bAr.out hB10
            have b2 := blk_below bBr.out hB10
            have x1 : w10.cell? ⟨w1.heap.size, 1, none⟩ = some (.slice A1 0 c1) := (blk_cell b1 1).trans rfl
            have x2 : w10.cell? ⟨w1.heap.size, 0, none⟩ = some (.bool wd) := (blk_cell b1 0).trans (by rw [hr1.out]; rfl)
            have x3 : w10.cell? ⟨w.heap.size, 0, none⟩ = some (.bool wd) := (blk_cell b0 0).trans rfl
            have x4 : w10.cell? ⟨w5.heap.size, 2, none⟩ = some (.int .i64 0) := (blk_cell b2 2).trans rfl
            have y1 : (e4 == 0) = true := by rw [he4.out]; rfl
            have y2 : (e4 == e4) = true := beq_self_eq_true e4
            have y3 : (wd == wd) = true := beq_self_eq_true wd
            have hB010 : Below w.heap.size w w10 := below_step hBr.out hB10
            replace hB010 := Aside0.mk hB010
            clear hB10 b0 b1 b2
            go_wp2_with fail
            go_ret
            exact ⟨rfl, hB010.out⟩
end Go.Proofs.Ytjhpcfpccnfniaa.N
