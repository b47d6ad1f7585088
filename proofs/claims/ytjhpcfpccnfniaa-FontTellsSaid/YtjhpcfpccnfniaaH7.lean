/- font.Codes. -/
import Derived.Test.YtjhpcfpccnfniaaH6
namespace Go.Proofs.Ytjhpcfpccnfniaa.A
open Go.RowKit Go.Shelf Go.Proofs.YtjhpcfpccnfniaaW.PrintWords Go.Proofs.YtjhpcfpccnfniaaW.PrintLast Go.Proofs.YtjhpcfpccnfniaaW.PrintMore

attribute [local go_sem] max2_int min2_int max_two min_two max_three min_three max_four min_four
attribute [local go_sem] Oper.semAt_some
set_option linter.unusedVariables false
set_option linter.unusedSimpArgs false
def codeStep (n c : Int) : Int := bits BinOp.or .i64 (wrap64 (n * 256)) (wrap64 c)
def codeAt (l : List Int) (x : Nat × Nat) : Int := ((l.drop x.1).take x.2).foldl codeStep 0
def codesOf (wide : Bool) (l : List Int) : List Int := (chunks (if wide = true then 2 else 1) l.length (by split <;> omega) (l.length + 1) 0).map fun x => codeAt l x.1
def font_Codes.f (k : Nat) (a0_0 : Bool) (l0_1 : List S37) (a0_2 : Int) (a1 : ByteArray) : Option (List Int × Int) :=
  if a1.size ≤ 1000000 then (font_Check.f k a0_0 l0_1 a0_2).bind fun t => if t = 0 then (if a1.size % (if a0_0 = true then 2 else 1) = 0 then some (codesOf a0_0 (bytesOf a1), 0) else some ([], 4)) else some ([], 1) else none
def CodesI (len : Nat) (B : Nat) (w1 W4 : World) (l : List Int) (pre : List (Chunk len)) (W : World) : Prop :=
  (∃ v, Boxed W B 25 v ∧ W.ownsRow (B + 4) 3 1 v pre.length (encs (Value.int .i64) (pre.map fun x => codeAt l x.1)) ∧ True) ∧ Below B w1 W ∧ (∀ j, 1 ≤ j → j ≤ 3 → W.heap[B + j]? = W4.heap[B + j]?)
theorem codesI_own (len B : Nat) (w1 W4 : World) (l : List Int) (hB : B ≤ w1.heap.size) (h4 : W4.heap.size = B + 4) : OwnFrom W4.heap.size (CodesI len B w1 W4 l) :=
  OwnFrom.and (Own.from (holdsRow_own (B + 4) B 25 3 1 (fun pre : List (Chunk len) => pre.length) (fun pre => encs (Value.int .i64) (pre.map fun x => codeAt l x.1)) (fun _ _ => True)) _)
    (OwnFrom.and (ownFrom_below hB (by omega)) (fun s X Y row hs hg hr j h1 h3 => by
      have hx := hs j h1 h3
      have hlt : B + j < X.heap.size := by
        rw [Array.getElem?_eq_getElem (show B + j < W4.heap.size by omega)] at hx
        exact (Array.getElem?_eq_some_iff.1 hx).1
      exact (hg.block (B + j) hlt (fun e => by have := (hr _ e.symm).1; omega)).trans hx))
theorem kpt2_b {n₀ Bs Bn : Nat} {w : World} (hn : n₀ ≤ w.heap.size) (hB : Bs < w.heap.size) (hN : Bn < w.heap.size) (W : World) (l : Nat) (o o' : Obj) (hl : w.heap.size ≤ l) (h : W.heap[l]? = some o) (h1 : o.isCells = false) (h2 : o.isWalk = false) : Kpt n₀ Bs Bn W (W.putObj l o') :=
  ⟨belowK_b hn W l o o' hl h h1 h2, World.putObj_heap_other (by omega), World.putObj_heap_other (by omega)⟩
set_option maxRecDepth 100000 in
set_option maxHeartbeats 4000000 in
theorem codes_true (k : Nat) (A0_1 : Option Addr) (c0_1 : Nat) (l0_1 : List S37) (a0_2 : Int) (a1 : ByteArray) (w : World) (hr0_1 : Kd.C k37 w A0_1 l0_1.length l0_1) (hc0_1 : l0_1.length ≤ c0_1) (hlen : a1.size ≤ 1000000) (ht : font_Check.f k true l0_1 a0_2 = some 0) (hm : a1.size % 2 = 0) :
    Calls Try.prog 8 #[.agg #[.bool true, .slice A0_1 l0_1.length c0_1, .int .i64 a0_2], .string a1] w fun e w' => ∃ v0_ : Value, e = .returned (.tuple #[v0_, .int .i64 0]) ∧ Kd.R (Kd.int .i64) 3 w' w.heap.size (fun _ => True) v0_ (codesOf true (bytesOf a1)) ∧ Below w.heap.size w w' := by
  have hB0 : Below w.heap.size w (w.alloc (.cells #[.bool true, .slice A0_1 l0_1.length c0_1, .int .i64 a0_2] 24)) := below_alloc (Below.refl _ _) _
  have hmi : ((a1.size : Int).tmod 2 != 0) = false := by
    have : (a1.size : Int).tmod 2 = ((a1.size % 2 : Nat) : Int) := rfl
    rw [this, hm]; rfl
  refine (callsIn_wide (n := 4)).1 ?_
  refine callsIn_of_wp_marks Try.func8 rfl trivial ?_ rfl
  simp only [Try.ntmps8, List.size_toArray, List.length_cons, List.length_nil, Nat.reduceAdd, Nat.reduceSub, Array.replicate_succ, Array.replicate_zero, List.push_toArray, List.append_toArray, List.nil_append, List.cons_append]
  gi_wp2_with fail
  refine ⟨trivial, ?_⟩
  refine (callsIn_wide.2 (font_Check.calls k true A0_1 c0_1 l0_1 a0_2 0 _ (Kd.C_alloc hr0_1 _) hc0_1 ht)).mono ?_
  rintro e w1 ⟨rfl, hB1⟩
  have hB01 : Below w.heap.size w w1 := below_step hB0 hB1
  clear hB0 hB1 hr0_1
  have kb := fun W => print_bytes (P := Try.prog) 9 48 5 Try.underlying9 Try.underlying48 Try.underlying5 a1 W
  gi_wp2_with fail
  clear kb
  obtain ⟨W0, hW0⟩ : ∃ W0, w1.alloc (.cells #[.slice none 0 0] 25) = W0 := ⟨_, rfl⟩
  have bO0 : Boxed W0 w1.heap.size 25 (.slice none 0 0) := by rw [← hW0]; exact Boxed.new w1 25 _
  have hz0 : W0.heap.size = w1.heap.size + 1 := by rw [← hW0]; exact World.size_alloc ..
  have hbW0 : Below w1.heap.size w1 W0 := by rw [← hW0]; exact below_alloc (Below.refl _ _) _
  rw [hW0]
  clear hW0
  obtain ⟨WB, hWB⟩ : ∃ WB, Lib.bytesWorld W0 5 a1 = WB := ⟨_, rfl⟩
  have hzB : WB.heap.size = w1.heap.size + 2 := by rw [← hWB, Lib.bytesWorld_size, hz0]
  have hbb : Below W0.heap.size W0 WB := by rw [← hWB]; exact bytes_below (Below.refl _ _) (Nat.le_refl _) 5 a1
  have bO : Boxed WB w1.heap.size 25 (.slice none 0 0) := (hbb.block _ bO0.lt).trans bO0
  have hRB : Kd.C (Kd.int .u8) WB (some ⟨w1.heap.size + 1, 0, none⟩) a1.size (bytesOf a1) := by
    have := bytes_reads W0 5 a1 (by omega)
    rw [hWB, hz0] at this
    exact Kd.C_of_reads (d := (0 : Int)) (h1 := fun _ => rfl) this
  have hbW : Below w1.heap.size w1 WB := hbW0.trans (hbb.mono (by omega))
  rw [hWB]
  clear hWB hbb bO0 hbW0
  obtain ⟨cp, hcp⟩ : ∃ cp, grownCap W0 a1.size 0 5 = cp := ⟨_, rfl⟩
  have hcl : a1.size ≤ cp := by rw [← hcp]; exact grownCap_ge _ _ _ _
  rw [hcp]
  clear hcp
  have hll : (bytesOf a1).length = a1.size := bytesOf_length a1
  obtain ⟨l, hlq⟩ : ∃ l, bytesOf a1 = l := ⟨_, rfl⟩
  obtain ⟨len, hlz⟩ : ∃ len, a1.size = len := ⟨_, rfl⟩
  rw [hlz] at hm hmi hlen hll hcl hRB ⊢
  rw [hlq] at hll hRB
  have HLQ := Aside0.mk hlq
  have HLZ := Aside0.mk hlz
  have HCP := Aside0.mk hcl
  have HLL := Aside0.mk hll
  clear hcl hll hlq hlz
  refine ⟨trivial, ?_⟩
  refine (chunk_call _ _ _ _ 2 (by omega) _).mono ?_
  rintro e w' ⟨rfl, rfl⟩
  rw [hzB]
  have bS := Boxed.new WB 48 (.slice (some ⟨w1.heap.size + 1, 0, none⟩) len cp)
  have bN := Boxed.new (WB.alloc (.cells #[.slice (some ⟨w1.heap.size + 1, 0, none⟩) len cp] 48)) 3 (.int .i64 (2 : Nat))
  rw [World.size_alloc, hzB] at bN
  have bS' := bS.alloc (.cells #[.int .i64 (2 : Nat)] 3)
  rw [hzB] at bS'
  have bO' := (bO.alloc (.cells #[.slice (some ⟨w1.heap.size + 1, 0, none⟩) len cp] 48)).alloc (.cells #[.int .i64 (2 : Nat)] 3)
  have hR4 := Kd.C_alloc (Kd.C_alloc hRB (.cells #[.slice (some ⟨w1.heap.size + 1, 0, none⟩) len cp] 48)) (.cells #[.int .i64 (2 : Nat)] 3)
  have hb4 := ((hbW.alloc (by omega) (.cells #[.slice (some ⟨w1.heap.size + 1, 0, none⟩) len cp] 48))).alloc (by simp; omega) (.cells #[.int .i64 (2 : Nat)] 3)
  have hz4 : ((WB.alloc (.cells #[.slice (some ⟨w1.heap.size + 1, 0, none⟩) len cp] 48)).alloc (.cells #[.int .i64 (2 : Nat)] 3)).heap.size = w1.heap.size + 4 := by rw [World.size_alloc, World.size_alloc, hzB]
  obtain ⟨W4, hW4⟩ : ∃ W4, (WB.alloc (.cells #[.slice (some ⟨w1.heap.size + 1, 0, none⟩) len cp] 48)).alloc (.cells #[.int .i64 (2 : Nat)] 3) = W4 := ⟨_, rfl⟩
  rw [hW4] at bN bS' bO' hR4 hb4 hz4 ⊢
  clear hW4 bO bS hRB hbW hzB hz0
  obtain ⟨B, hBq⟩ : ∃ B, w1.heap.size = B := ⟨_, rfl⟩
  have hB1w : w.heap.size ≤ B := by rw [← hBq]; exact hB01.size
  have hBB : B ≤ w1.heap.size := by omega
  rw [hBq] at bN bS' bO' hR4 hb4 hz4 ⊢
  clear hBq
  obtain ⟨i0, hi, hi1, hi2, hi3⟩ := info_parts info3
  gi_wp2
  refine wpIn_rangeFunc_ownG rfl (by omega) (gf := 41) (lb := #[.pointer (some ⟨B + 2, 0, none⟩), .pointer (some ⟨B + 3, 0, none⟩)]) rfl trivial (enters_of Try.func41 (by kernel_rfl) rfl)
    (chunk_stops 3 (by omega) (B + 2) (B + 3) B 2 len (by omega) (by omega) hlen (some ⟨B + 1, 0, none⟩) cp HCP.out W4 (by omega) bS' bN) kpt_t (kpt2_b (by omega) (by omega) (by omega)) (Below.refl _ _) (fun _ => rfl)
    (CodesI len B w1 W4 l)
    (fun _ _ _ => False)
    (codesI_own len B w1 W4 l hBB hz4)
    (fun _ _ _ _ _ hs _ _ => hs)
    ⟨⟨_, bO', World.ownsRow_nil _ _ _ _, trivial⟩, hb4, fun _ _ _ => rfl⟩
    (fun x => { tmps := #[.agg #[.bool true, .slice A0_1 l0_1.length c0_1, .int .i64 a0_2], .string a1, .pointer (some ⟨w.heap.size, 0, none⟩), undef, .slice none 0 0, .int .i64 0, .int .i64 2, .pointer (some ⟨B, 0, none⟩), .slice (some ⟨B + 1, x.1.1, none⟩) x.1.2 x.1.2, undef, undef, undef, .pointer (some ⟨w.heap.size, 0, none⟩), .bool true, .bool false, .agg #[.bool true, .slice A0_1 l0_1.length c0_1, .int .i64 a0_2], .int .i64 0, .bool false, .bool ((len : Int) % 2 != 0), .string a1, .int .i64 len, .int .i64 2, .int .i64 ((len : Int) % 2), .bool ((len : Int) % 2 != 0), .string a1, .slice (some ⟨B + 1, 0, none⟩) len cp, .int .i64 2, .func (.func 41) #[] #[.pointer (some ⟨B + 2, 0, none⟩), .pointer (some ⟨B + 3, 0, none⟩)], .slice (some ⟨B + 1, x.1.1, none⟩) x.1.2 x.1.2, undef, undef, undef, undef, undef, undef, undef, undef, undef, undef, undef, undef, undef, undef, undef, undef, undef], defers := [] }) ?assign ?body ?done ?stop
  case assign =>
    intro lb x W K hK
    dsimp only [encChunk]
    gi_wp2
    exact hK
  case body =>
    rintro lb pre ⟨⟨a, N⟩, hx1, hx2, hx3⟩ W ⟨⟨v, hv, hrow, _⟩, hB, hK3⟩ hlt
    dsimp only at hx1 hx2 hx3 ⊢
    have hc0 := hv.cell
    have hB4 : B + 4 ≤ W.heap.size := by
      have hx := hK3 3 (by omega) (by omega)
      rw [Array.getElem?_eq_getElem (show B + 3 < W4.heap.size by omega)] at hx
      exact (Array.getElem?_eq_some_iff.1 hx).1
    have hat : ∀ j : Nat, j < len → W.cell? ⟨B + 1, j, none⟩ = some (.int .u8 (rd l (j : Int))) := fun j hj => by
      obtain ⟨ad, e, hc⟩ := Kd.at_int hR4 (j : Int) (by omega) (by omega)
      cases e
      rw [show (j : Int).toNat = j from by omega] at hc
      have e2 : (⟨B + 1, 0, none⟩ : Addr).add j = ⟨B + 1, j, none⟩ := add_plain _ _
      rw [e2] at hc
      rw [← hc]
      simp only [World.cell?]
      rw [hK3 1 (by omega) (by omega)]
    replace hat := Aside0.mk hat
    replace hK3 := Aside0.mk hK3
    gi_wp2
    gi_loop [9, 31] (fun n i => ∃ kk : Nat, kk ≤ N ∧ i = .int .i64 kk ∧ n = .int .i64 (((l.drop a).take kk).foldl codeStep 0)) (fun _ i => N - (intOf i).toNat)
    case atStart => exact ⟨0, Nat.zero_le _, rfl, rfl⟩
    case round =>
      obtain ⟨kk, hkk, rfl, rfl⟩ := hrel
      by_cases hlt2 : kk < N
      · have c1b : decide ((kk : Int) < (N : Int)) = true := by simp; omega
        have hcell := hat.out (a + kk) (by omega)
        have hst : ((l.drop a).take (kk + 1)).foldl codeStep 0 = codeStep (((l.drop a).take kk).foldl codeStep 0) (rd l ((a : Int) + (kk : Int))) := by
          have hk1 : kk < (l.drop a).length := by rw [List.length_drop, HLL.out]; omega
          rw [List.take_succ_eq_append_getElem hk1, List.foldl_append]
          have e3 : ((a : Int) + (kk : Int)).toNat = a + kk := by omega
          simp [rd, List.getD_eq_getElem?_getD, e3, List.getElem?_eq_getElem (show a + kk < l.length by rw [HLL.out]; omega)]
        have HST := Aside0.mk hst
        clear hst
        gi_wp2
        exact ⟨⟨kk + 1, by omega, by go_num, by rw [HST.out]; rfl⟩, by simp [intOf]; omega⟩
      · have c1b : decide ((kk : Int) < (N : Int)) = false := by simp; omega
        obtain rfl : kk = N := by omega
        obtain ⟨cc, hcc⟩ : ∃ cc, ((l.drop a).take kk).foldl codeStep 0 = cc := ⟨_, rfl⟩
        rw [hcc]
        have HCC := Aside0.mk hcc
        clear hcc
        have hpl : pre.length < 1000000 := by omega
        have hrowB := own_weaken hrow (show B ≤ B + 4 by omega)
        gi_wp2_with (gi_at_builtin; refine wpListIn_append_own _ rfl (.tmp 41) (.tmp 43) 25 rfl (B + 4) 3 i0 (.int .i64 0) 1 8 Try.underlying25 hi hi1 hi2 hi3 rfl (by decide) v pre.length _ rfl (hrow.alloc _) ⟨W.heap.size, 0, none⟩ 1 1 [.int .i64 cc] rfl rfl (cell_one_new _ _ _) (by simp [Value.oneCell']) (by simp only [maxLen]; omega) (by omega) (by simp; omega) ?_; intro v2 w2 hown2 hgrow2 _; obtain ⟨g2, cap2, rfl⟩ := ownsRow_succ hown2; obtain ⟨hv1, hv2, hr2, hk2, hb2⟩ := hv.appended (by decide) hrowB (show B ≤ W.heap.size by omega) (Nat.le_refl _) (own_weaken hown2 (show B ≤ B + 4 by omega)) hgrow2; have hc1 := hv1.cell; have hf1 := hv1.frozen)
        have hcur : codeAt l (a, kk) = cc := HCC.out
        have hmap : (pre ++ [(⟨(a, kk), hx1, hx2, hx3⟩ : Chunk len)]).map (fun x => codeAt l x.1) = pre.map (fun x => codeAt l x.1) ++ [cc] := by simp [hcur]
        have hpl2 : (pre ++ [(⟨(a, kk), hx1, hx2, hx3⟩ : Chunk len)]).length = pre.length + 1 := by simp
        have hr4 := hown2.kept (grownBy_setCell' w2 B (.slice (some ⟨g2, 0, none⟩) (pre.length + 1) cap2)) (.inr (hv1.not_row (e := 3) (by decide) hown2).symm)
        have hne : ∀ j, 1 ≤ j → j ≤ 3 → (w2.setCell ⟨B, 0, none⟩ (.slice (some ⟨g2, 0, none⟩) (pre.length + 1) cap2)).heap[B + j]? = W.heap[B + j]? := fun j h1 h3 => by
          rw [Below.heap_setCell _ _ _ _ (show B + j ≠ B by omega)]
          rw [hgrow2.block (B + j) (by simp; omega) (fun e => by have := own_base hrow _ e.symm; omega)]
          exact Below.heap_alloc W _ _ (by omega)
        refine ⟨hk2.from _, ⟨hb2, hne 2 (by omega) (by omega), hne 3 (by omega) (by omega)⟩, ⟨_, hv2, ?_, trivial⟩, hB.trans hb2, fun j h1 h3 => (hne j h1 h3).trans (hK3.out j h1 h3)⟩
        rw [hpl2, hmap]
        simpa [encs] using hr4
  case done =>
    rintro D ys W hD hys ⟨⟨v, hv, hrow, _⟩, hB, hK3⟩ hK
    have hc0 := hv.cell
    have hl2 : (ys.map fun x => codeAt l x.1) = codesOf true (bytesOf a1) := by
      have h1 := HLQ.out
      have h2 := HLL.out
      rw [hys, h1]
      subst h2
      rfl
    replace hl2 := Aside0.mk hl2
    gi_wp2
    refine ⟨by simp, .inl ⟨_, _, rfl, run_takeDeferred hK, ?_⟩⟩
    refine ⟨.tuple #[v, .int .i64 0], by simp [results, Try.f8, go_sem], v, rfl, ?_, ?_⟩
    · rw [← hl2.out]
      refine Kd.R_of_own (own_weaken (ownsRow_putObj (xs := encs (Value.int .i64) (ys.map fun x => codeAt l x.1)) (by simpa using hrow) _ hK rfl) (by omega)) (fun _ _ => trivial)
    · exact hB01.trans ((hB.mono (by omega)).trans (belowK_b (w := w) (Nat.le_refl _) W D _ _ (by omega) hK rfl rfl))
  case stop =>
    rintro D c pre W _ _ h _
    exact h.elim
set_option maxRecDepth 100000 in
set_option maxHeartbeats 4000000 in
theorem codes_false (k : Nat) (A0_1 : Option Addr) (c0_1 : Nat) (l0_1 : List S37) (a0_2 : Int) (a1 : ByteArray) (w : World) (hr0_1 : Kd.C k37 w A0_1 l0_1.length l0_1) (hc0_1 : l0_1.length ≤ c0_1) (hlen : a1.size ≤ 1000000) (ht : font_Check.f k false l0_1 a0_2 = some 0) (hm : a1.size % 1 = 0) :
    Calls Try.prog 8 #[.agg #[.bool false, .slice A0_1 l0_1.length c0_1, .int .i64 a0_2], .string a1] w fun e w' => ∃ v0_ : Value, e = .returned (.tuple #[v0_, .int .i64 0]) ∧ Kd.R (Kd.int .i64) 3 w' w.heap.size (fun _ => True) v0_ (codesOf false (bytesOf a1)) ∧ Below w.heap.size w w' := by
  have hB0 : Below w.heap.size w (w.alloc (.cells #[.bool false, .slice A0_1 l0_1.length c0_1, .int .i64 a0_2] 24)) := below_alloc (Below.refl _ _) _
  have hmi : ((a1.size : Int).tmod 1 != 0) = false := by
    have : (a1.size : Int).tmod 1 = ((a1.size % 1 : Nat) : Int) := rfl
    rw [this, hm]; rfl
  refine (callsIn_wide (n := 4)).1 ?_
  refine callsIn_of_wp_marks Try.func8 rfl trivial ?_ rfl
  simp only [Try.ntmps8, List.size_toArray, List.length_cons, List.length_nil, Nat.reduceAdd, Nat.reduceSub, Array.replicate_succ, Array.replicate_zero, List.push_toArray, List.append_toArray, List.nil_append, List.cons_append]
  gi_wp2_with fail
  refine ⟨trivial, ?_⟩
  refine (callsIn_wide.2 (font_Check.calls k false A0_1 c0_1 l0_1 a0_2 0 _ (Kd.C_alloc hr0_1 _) hc0_1 ht)).mono ?_
  rintro e w1 ⟨rfl, hB1⟩
  have hB01 : Below w.heap.size w w1 := below_step hB0 hB1
  clear hB0 hB1 hr0_1
  have kb := fun W => print_bytes (P := Try.prog) 9 48 5 Try.underlying9 Try.underlying48 Try.underlying5 a1 W
  gi_wp2_with fail
  clear kb
  obtain ⟨W0, hW0⟩ : ∃ W0, w1.alloc (.cells #[.slice none 0 0] 25) = W0 := ⟨_, rfl⟩
  have bO0 : Boxed W0 w1.heap.size 25 (.slice none 0 0) := by rw [← hW0]; exact Boxed.new w1 25 _
  have hz0 : W0.heap.size = w1.heap.size + 1 := by rw [← hW0]; exact World.size_alloc ..
  have hbW0 : Below w1.heap.size w1 W0 := by rw [← hW0]; exact below_alloc (Below.refl _ _) _
  rw [hW0]
  clear hW0
  obtain ⟨WB, hWB⟩ : ∃ WB, Lib.bytesWorld W0 5 a1 = WB := ⟨_, rfl⟩
  have hzB : WB.heap.size = w1.heap.size + 2 := by rw [← hWB, Lib.bytesWorld_size, hz0]
  have hbb : Below W0.heap.size W0 WB := by rw [← hWB]; exact bytes_below (Below.refl _ _) (Nat.le_refl _) 5 a1
  have bO : Boxed WB w1.heap.size 25 (.slice none 0 0) := (hbb.block _ bO0.lt).trans bO0
  have hRB : Kd.C (Kd.int .u8) WB (some ⟨w1.heap.size + 1, 0, none⟩) a1.size (bytesOf a1) := by
    have := bytes_reads W0 5 a1 (by omega)
    rw [hWB, hz0] at this
    exact Kd.C_of_reads (d := (0 : Int)) (h1 := fun _ => rfl) this
  have hbW : Below w1.heap.size w1 WB := hbW0.trans (hbb.mono (by omega))
  rw [hWB]
  clear hWB hbb bO0 hbW0
  obtain ⟨cp, hcp⟩ : ∃ cp, grownCap W0 a1.size 0 5 = cp := ⟨_, rfl⟩
  have hcl : a1.size ≤ cp := by rw [← hcp]; exact grownCap_ge _ _ _ _
  rw [hcp]
  clear hcp
  have hll : (bytesOf a1).length = a1.size := bytesOf_length a1
  obtain ⟨l, hlq⟩ : ∃ l, bytesOf a1 = l := ⟨_, rfl⟩
  obtain ⟨len, hlz⟩ : ∃ len, a1.size = len := ⟨_, rfl⟩
  rw [hlz] at hm hmi hlen hll hcl hRB ⊢
  rw [hlq] at hll hRB
  have HLQ := Aside0.mk hlq
  have HLZ := Aside0.mk hlz
  have HCP := Aside0.mk hcl
  have HLL := Aside0.mk hll
  clear hcl hll hlq hlz
  refine ⟨trivial, ?_⟩
  refine (chunk_call _ _ _ _ 1 (by omega) _).mono ?_
  rintro e w' ⟨rfl, rfl⟩
  rw [hzB]
  have bS := Boxed.new WB 48 (.slice (some ⟨w1.heap.size + 1, 0, none⟩) len cp)
  have bN := Boxed.new (WB.alloc (.cells #[.slice (some ⟨w1.heap.size + 1, 0, none⟩) len cp] 48)) 3 (.int .i64 (1 : Nat))
  rw [World.size_alloc, hzB] at bN
  have bS' := bS.alloc (.cells #[.int .i64 (1 : Nat)] 3)
  rw [hzB] at bS'
  have bO' := (bO.alloc (.cells #[.slice (some ⟨w1.heap.size + 1, 0, none⟩) len cp] 48)).alloc (.cells #[.int .i64 (1 : Nat)] 3)
  have hR4 := Kd.C_alloc (Kd.C_alloc hRB (.cells #[.slice (some ⟨w1.heap.size + 1, 0, none⟩) len cp] 48)) (.cells #[.int .i64 (1 : Nat)] 3)
  have hb4 := ((hbW.alloc (by omega) (.cells #[.slice (some ⟨w1.heap.size + 1, 0, none⟩) len cp] 48))).alloc (by simp; omega) (.cells #[.int .i64 (1 : Nat)] 3)
  have hz4 : ((WB.alloc (.cells #[.slice (some ⟨w1.heap.size + 1, 0, none⟩) len cp] 48)).alloc (.cells #[.int .i64 (1 : Nat)] 3)).heap.size = w1.heap.size + 4 := by rw [World.size_alloc, World.size_alloc, hzB]
  obtain ⟨W4, hW4⟩ : ∃ W4, (WB.alloc (.cells #[.slice (some ⟨w1.heap.size + 1, 0, none⟩) len cp] 48)).alloc (.cells #[.int .i64 (1 : Nat)] 3) = W4 := ⟨_, rfl⟩
  rw [hW4] at bN bS' bO' hR4 hb4 hz4 ⊢
  clear hW4 bO bS hRB hbW hzB hz0
  obtain ⟨B, hBq⟩ : ∃ B, w1.heap.size = B := ⟨_, rfl⟩
  have hB1w : w.heap.size ≤ B := by rw [← hBq]; exact hB01.size
  have hBB : B ≤ w1.heap.size := by omega
  rw [hBq] at bN bS' bO' hR4 hb4 hz4 ⊢
  clear hBq
  obtain ⟨i0, hi, hi1, hi2, hi3⟩ := info_parts info3
  gi_wp2
  refine wpIn_rangeFunc_ownG rfl (by omega) (gf := 41) (lb := #[.pointer (some ⟨B + 2, 0, none⟩), .pointer (some ⟨B + 3, 0, none⟩)]) rfl trivial (enters_of Try.func41 (by kernel_rfl) rfl)
    (chunk_stops 3 (by omega) (B + 2) (B + 3) B 1 len (by omega) (by omega) hlen (some ⟨B + 1, 0, none⟩) cp HCP.out W4 (by omega) bS' bN) kpt_t (kpt2_b (by omega) (by omega) (by omega)) (Below.refl _ _) (fun _ => rfl)
    (CodesI len B w1 W4 l)
    (fun _ _ _ => False)
    (codesI_own len B w1 W4 l hBB hz4)
    (fun _ _ _ _ _ hs _ _ => hs)
    ⟨⟨_, bO', World.ownsRow_nil _ _ _ _, trivial⟩, hb4, fun _ _ _ => rfl⟩
    (fun x => { tmps := #[.agg #[.bool false, .slice A0_1 l0_1.length c0_1, .int .i64 a0_2], .string a1, .pointer (some ⟨w.heap.size, 0, none⟩), undef, .slice none 0 0, .int .i64 0, .int .i64 1, .pointer (some ⟨B, 0, none⟩), .slice (some ⟨B + 1, x.1.1, none⟩) x.1.2 x.1.2, undef, undef, undef, .pointer (some ⟨w.heap.size, 0, none⟩), .bool false, .bool false, .agg #[.bool false, .slice A0_1 l0_1.length c0_1, .int .i64 a0_2], .int .i64 0, .bool false, .bool false, .string a1, .int .i64 len, .int .i64 1, .int .i64 0, .bool false, .string a1, .slice (some ⟨B + 1, 0, none⟩) len cp, .int .i64 1, .func (.func 41) #[] #[.pointer (some ⟨B + 2, 0, none⟩), .pointer (some ⟨B + 3, 0, none⟩)], .slice (some ⟨B + 1, x.1.1, none⟩) x.1.2 x.1.2, undef, undef, undef, undef, undef, undef, undef, undef, undef, undef, undef, undef, undef, undef, undef, undef, undef], defers := [] }) ?assign ?body ?done ?stop
  case assign =>
    intro lb x W K hK
    dsimp only [encChunk]
    gi_wp2
    exact hK
  case body =>
    rintro lb pre ⟨⟨a, N⟩, hx1, hx2, hx3⟩ W ⟨⟨v, hv, hrow, _⟩, hB, hK3⟩ hlt
    dsimp only at hx1 hx2 hx3 ⊢
    have hc0 := hv.cell
    have hB4 : B + 4 ≤ W.heap.size := by
      have hx := hK3 3 (by omega) (by omega)
      rw [Array.getElem?_eq_getElem (show B + 3 < W4.heap.size by omega)] at hx
      exact (Array.getElem?_eq_some_iff.1 hx).1
    have hat : ∀ j : Nat, j < len → W.cell? ⟨B + 1, j, none⟩ = some (.int .u8 (rd l (j : Int))) := fun j hj => by
      obtain ⟨ad, e, hc⟩ := Kd.at_int hR4 (j : Int) (by omega) (by omega)
      cases e
      rw [show (j : Int).toNat = j from by omega] at hc
      have e2 : (⟨B + 1, 0, none⟩ : Addr).add j = ⟨B + 1, j, none⟩ := add_plain _ _
      rw [e2] at hc
      rw [← hc]
      simp only [World.cell?]
      rw [hK3 1 (by omega) (by omega)]
    replace hat := Aside0.mk hat
    replace hK3 := Aside0.mk hK3
    gi_wp2
    gi_loop [9, 31] (fun n i => ∃ kk : Nat, kk ≤ N ∧ i = .int .i64 kk ∧ n = .int .i64 (((l.drop a).take kk).foldl codeStep 0)) (fun _ i => N - (intOf i).toNat)
    case atStart => exact ⟨0, Nat.zero_le _, rfl, rfl⟩
    case round =>
      obtain ⟨kk, hkk, rfl, rfl⟩ := hrel
      by_cases hlt2 : kk < N
      · have c1b : decide ((kk : Int) < (N : Int)) = true := by simp; omega
        have hcell := hat.out (a + kk) (by omega)
        have hst : ((l.drop a).take (kk + 1)).foldl codeStep 0 = codeStep (((l.drop a).take kk).foldl codeStep 0) (rd l ((a : Int) + (kk : Int))) := by
          have hk1 : kk < (l.drop a).length := by rw [List.length_drop, HLL.out]; omega
          rw [List.take_succ_eq_append_getElem hk1, List.foldl_append]
          have e3 : ((a : Int) + (kk : Int)).toNat = a + kk := by omega
          simp [rd, List.getD_eq_getElem?_getD, e3, List.getElem?_eq_getElem (show a + kk < l.length by rw [HLL.out]; omega)]
        have HST := Aside0.mk hst
        clear hst
        gi_wp2
        exact ⟨⟨kk + 1, by omega, by go_num, by rw [HST.out]; rfl⟩, by simp [intOf]; omega⟩
      · have c1b : decide ((kk : Int) < (N : Int)) = false := by simp; omega
        obtain rfl : kk = N := by omega
        obtain ⟨cc, hcc⟩ : ∃ cc, ((l.drop a).take kk).foldl codeStep 0 = cc := ⟨_, rfl⟩
        rw [hcc]
        have HCC := Aside0.mk hcc
        clear hcc
        have hpl : pre.length < 1000000 := by omega
        have hrowB := own_weaken hrow (show B ≤ B + 4 by omega)
        gi_wp2_with (gi_at_builtin; refine wpListIn_append_own _ rfl (.tmp 41) (.tmp 43) 25 rfl (B + 4) 3 i0 (.int .i64 0) 1 8 Try.underlying25 hi hi1 hi2 hi3 rfl (by decide) v pre.length _ rfl (hrow.alloc _) ⟨W.heap.size, 0, none⟩ 1 1 [.int .i64 cc] rfl rfl (cell_one_new _ _ _) (by simp [Value.oneCell']) (by simp only [maxLen]; omega) (by omega) (by simp; omega) ?_; intro v2 w2 hown2 hgrow2 _; obtain ⟨g2, cap2, rfl⟩ := ownsRow_succ hown2; obtain ⟨hv1, hv2, hr2, hk2, hb2⟩ := hv.appended (by decide) hrowB (show B ≤ W.heap.size by omega) (Nat.le_refl _) (own_weaken hown2 (show B ≤ B + 4 by omega)) hgrow2; have hc1 := hv1.cell; have hf1 := hv1.frozen)
        have hcur : codeAt l (a, kk) = cc := HCC.out
        have hmap : (pre ++ [(⟨(a, kk), hx1, hx2, hx3⟩ : Chunk len)]).map (fun x => codeAt l x.1) = pre.map (fun x => codeAt l x.1) ++ [cc] := by simp [hcur]
        have hpl2 : (pre ++ [(⟨(a, kk), hx1, hx2, hx3⟩ : Chunk len)]).length = pre.length + 1 := by simp
        have hr4 := hown2.kept (grownBy_setCell' w2 B (.slice (some ⟨g2, 0, none⟩) (pre.length + 1) cap2)) (.inr (hv1.not_row (e := 3) (by decide) hown2).symm)
        have hne : ∀ j, 1 ≤ j → j ≤ 3 → (w2.setCell ⟨B, 0, none⟩ (.slice (some ⟨g2, 0, none⟩) (pre.length + 1) cap2)).heap[B + j]? = W.heap[B + j]? := fun j h1 h3 => by
          rw [Below.heap_setCell _ _ _ _ (show B + j ≠ B by omega)]
          rw [hgrow2.block (B + j) (by simp; omega) (fun e => by have := own_base hrow _ e.symm; omega)]
          exact Below.heap_alloc W _ _ (by omega)
        refine ⟨hk2.from _, ⟨hb2, hne 2 (by omega) (by omega), hne 3 (by omega) (by omega)⟩, ⟨_, hv2, ?_, trivial⟩, hB.trans hb2, fun j h1 h3 => (hne j h1 h3).trans (hK3.out j h1 h3)⟩
        rw [hpl2, hmap]
        simpa [encs] using hr4
  case done =>
    rintro D ys W hD hys ⟨⟨v, hv, hrow, _⟩, hB, hK3⟩ hK
    have hc0 := hv.cell
    have hl2 : (ys.map fun x => codeAt l x.1) = codesOf false (bytesOf a1) := by
      have h1 := HLQ.out
      have h2 := HLL.out
      rw [hys, h1]
      subst h2
      rfl
    replace hl2 := Aside0.mk hl2
    gi_wp2
    refine ⟨by simp, .inl ⟨_, _, rfl, run_takeDeferred hK, ?_⟩⟩
    refine ⟨.tuple #[v, .int .i64 0], by simp [results, Try.f8, go_sem], v, rfl, ?_, ?_⟩
    · rw [← hl2.out]
      refine Kd.R_of_own (own_weaken (ownsRow_putObj (xs := encs (Value.int .i64) (ys.map fun x => codeAt l x.1)) (by simpa using hrow) _ hK rfl) (by omega)) (fun _ _ => trivial)
    · exact hB01.trans ((hB.mono (by omega)).trans (belowK_b (w := w) (Nat.le_refl _) W D _ _ (by omega) hK rfl rfl))
  case stop =>
    rintro D c pre W _ _ h _
    exact h.elim
theorem font_Codes.mono : ∀ a0 a1 a2 a3 k, LeO (font_Codes.f k a0 a1 a2 a3) (font_Codes.f (k + 1) a0 a1 a2 a3) := by
  intro a0 a1 a2 a3 k
  unfold font_Codes.f
  exact LeO.ite (LeO.bind (font_Check.mono _ _ _ _) (fun _ => LeO.refl _)) (LeO.refl _)
set_option maxRecDepth 100000 in
set_option maxHeartbeats 4000000 in
theorem font_Codes.calls (k : Nat) (a0_0 : Bool) (A0_1 : Option Addr) (c0_1 : Nat) (l0_1 : List (S37)) (a0_2 : Int) (a1 : ByteArray) (r1 : List Int) (r2 : Int) (w : World) (hr0_1 : Kd.C k37 w A0_1 l0_1.length l0_1) (hc0_1 : l0_1.length ≤ c0_1) (h : font_Codes.f k a0_0 l0_1 a0_2 a1 = some (r1, r2)) :
    Calls Try.prog 8 #[.agg #[.bool a0_0, .slice A0_1 l0_1.length c0_1, .int .i64 a0_2], .string a1] w fun e w' => ∃ v0_ : Value, e = .returned (.tuple #[v0_, .int .i64 r2]) ∧ Kd.R (Kd.int .i64) 3 w' w.heap.size (fun _ => True) v0_ r1 ∧ Below w.heap.size w w' := by
  unfold font_Codes.f at h
  by_cases hlen : a1.size ≤ 1000000
  case neg => rw [if_neg hlen] at h; cases h
  rw [if_pos hlen] at h
  obtain ⟨t, ht, hr⟩ := Option.bind_eq_some_iff.mp h
  clear h
  have hB0 : Below w.heap.size w (w.alloc (.cells #[.bool a0_0, .slice A0_1 l0_1.length c0_1, .int .i64 a0_2] 24)) := below_alloc (Below.refl _ _) _
  by_cases ht0 : t = 0
  · rw [if_pos ht0] at hr
    subst ht0
    rcases Bool.eq_false_or_eq_true a0_0 with hw | hw
    · subst hw
      by_cases hm : a1.size % 2 = 0
      · rw [if_pos (by simpa using hm)] at hr
        obtain ⟨rfl, rfl⟩ := Prod.mk.inj (Option.some.inj hr)
        exact codes_true k A0_1 c0_1 l0_1 a0_2 a1 w hr0_1 hc0_1 hlen ht hm
      · rw [if_neg (by simpa using hm)] at hr
        obtain ⟨rfl, rfl⟩ := Prod.mk.inj (Option.some.inj hr)
        have hmi : ((a1.size : Int) % 2 != 0) = true := by
          have : ((a1.size : Int) % 2) = ((a1.size % 2 : Nat) : Int) := rfl
          rw [this]
          exact bne_iff_ne.mpr (by omega)
        clear hm hr
        go_enter Try.func8, Try.ntmps8
        go_wp2_with fail
        refine (font_Check.calls k true A0_1 c0_1 l0_1 a0_2 0 _ (Kd.C_alloc hr0_1 _) hc0_1 ht).mono ?_
        rintro e w1 ⟨rfl, hB1⟩
        go_wp2_with fail
        go_ret2
        exact ⟨_, rfl, Kd.R_nil _ _ _ _ _, below_step hB0 hB1⟩
    · subst hw
      have hm : a1.size % 1 = 0 := Nat.mod_one _
      rw [if_pos (by simpa using hm)] at hr
      obtain ⟨rfl, rfl⟩ := Prod.mk.inj (Option.some.inj hr)
      exact codes_false k A0_1 c0_1 l0_1 a0_2 a1 w hr0_1 hc0_1 hlen ht hm
  · rw [if_neg ht0] at hr
    obtain ⟨rfl, rfl⟩ := Prod.mk.inj (Option.some.inj hr)
    clear hr
    have hb : (t == 0) = false := beq_eq_false_iff_ne.mpr ht0
    have hb2 : (t != 0) = true := bne_iff_ne.mpr ht0
    clear ht0
    rcases Bool.eq_false_or_eq_true a0_0 with hw | hw
    · subst hw
      go_enter Try.func8, Try.ntmps8
      go_wp2_with fail
      refine (font_Check.calls k true A0_1 c0_1 l0_1 a0_2 t _ (Kd.C_alloc hr0_1 _) hc0_1 ht).mono ?_
      rintro e w1 ⟨rfl, hB1⟩
      go_wp2_with fail
      go_ret2
      exact ⟨_, rfl, Kd.R_nil _ _ _ _ _, below_step hB0 hB1⟩
    · subst hw
      go_enter Try.func8, Try.ntmps8
      go_wp2_with fail
      refine (font_Check.calls k false A0_1 c0_1 l0_1 a0_2 t _ (Kd.C_alloc hr0_1 _) hc0_1 ht).mono ?_
      rintro e w1 ⟨rfl, hB1⟩
      go_wp2_with fail
      go_ret2
      exact ⟨_, rfl, Kd.R_nil _ _ _ _ _, below_step hB0 hB1⟩
end Go.Proofs.Ytjhpcfpccnfniaa.A
