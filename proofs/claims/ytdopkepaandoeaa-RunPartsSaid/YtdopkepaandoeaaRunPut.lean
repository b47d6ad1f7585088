/- run.parts and run.Put. -/
import Derived.Test.YtdopkepaandoeaaRunIter
import Derived.Test.YtdopkepaandoeaaRoundPlain
namespace Go.Proofs.Ytdopkepaandoeaa.Run
open Go.RowKit Go.Shelf Go.Proofs.YtdopkepaandoeaaW.PrintWords Go.Proofs.YtdopkepaandoeaaW.PrintLast Go.Proofs.YtdopkepaandoeaaW.PrintMore
open Go.Proofs.Ytdopkepaandoeaa.Psame Go.Proofs.Ytdopkepaandoeaa.Round
attribute [local go_sem] Oper.semAt_some
set_option linter.unusedVariables false
set_option linter.unusedSimpArgs false

set_option maxHeartbeats 1000000 in
theorem parts_in (n : Nat) (a : Option Addr) (len cap : Nat) (w : World) :
    CallsIn Fence.wide n Try.prog 13 #[.slice a len cap] w fun e w' => e = .returned (.func (.func 15) #[] #[.pointer (some ⟨w.heap.size, 0, none⟩)]) ∧ w' = w.alloc (.cells #[.slice a len cap] 22) := by
  refine callsIn_of_wp Try.func13 rfl trivial ?_ rfl
  simp only [Try.ntmps13, List.size_toArray, List.length_cons, List.length_nil, Nat.reduceAdd, Nat.reduceSub, Array.replicate_succ, Array.replicate_zero, List.push_toArray, List.append_toArray, List.nil_append, List.cons_append]
  gi_wp2
  go_ret
  exact ⟨rfl, rfl⟩

theorem parts_stops (n : Nat) (hn : 2 ≤ n) (Bs n₀ : Nat) (l : List Int) (hl : l.length ≤ 1048576) (A : Option Addr) (c : Nat) (hc : l.length ≤ c) (w : World)
    (hn₀ : n₀ ≤ w.heap.size) (hb : Boxed w Bs 22 (.slice A l.length c)) (hr : ∀ W1, Below n₀ w W1 → Kd.C (Kd.int .u8) W1 A l.length l) :
    SeqStopsK Fence.wide n Try.prog 15 #[.pointer (some ⟨Bs, 0, none⟩)] (encPart l A c) (Kpt n₀ Bs) (fun ys => ys = partsFrom l 0) (fun _ => True) l.length w := fun lb J Jx W hW hJa _ hY h0 => by
  have hW' := hW.mono hn₀
  exact (iter_in n hn lb Bs n₀ l hl A c hc J Jx W hJa hY ((hW.block Bs hb.lt).trans hb) (fun W1 h1 => hr W1 (hW'.trans h1)) h0).mono fun e W' ⟨h1, h2⟩ => ⟨h1, h2.elim .inl (fun ⟨pre, h⟩ => .inr ⟨pre, trivial, h⟩)⟩

theorem wrap_u8 (i : Int) (h0 : 0 ≤ i) (h1 : i ≤ 255) : IntKind.u8.wrap i = i := by
  simp only [IntKind.wrap, IntKind.bits, IntKind.signed, Bool.false_and, Bool.false_eq_true, if_false]
  omega
theorem ownsRow_succ' {W : World} {base : Nat} {e : TypeId} {size : Nat} {v : Value} {k : Nat} {xs : List Value} (h : W.ownsRow base e size v k xs) (hk : 0 < k) : ∃ g cap, v = .slice (some ⟨g, 0, none⟩) k cap := by
  obtain ⟨k, rfl⟩ : ∃ m, k = m + 1 := ⟨k - 1, by omega⟩
  exact ownsRow_succ h
theorem one_encs (xs : List Int) : ∀ u ∈ encs (Value.int .u8) xs, u.oneCell' = true := by
  intro u hu
  obtain ⟨q, _, rfl⟩ := List.mem_map.1 hu
  rfl
theorem part_cells {W : World} {ad : Addr} {l : List Int} {a N : Nat} (h : Kd.C (Kd.int .u8) W (some ad) l.length l) (hN : a + N ≤ l.length) : ∀ (j : Nat) (u : Value), (encs (Value.int .u8) ((l.drop a).take N))[j]? = some u → W.cell? ((ad.add a).add j) = some u := by
  intro j u hu
  obtain ⟨hj, hu'⟩ := List.getElem?_eq_some_iff.1 hu
  have hj2 : j < N := by rw [encs_length, List.length_take] at hj; omega
  obtain ⟨ad', e', hc⟩ := Kd.at_int h ((a + j : Nat) : Int) (by omega) (by omega)
  cases e'
  rw [show ((a + j : Nat) : Int).toNat = a + j from by omega] at hc
  rw [add_add, hc, ← hu']
  have e3 : ((a : Int) + (j : Int)).toNat = a + j := by omega
  simp [encs, rd, List.getD_eq_getElem?_getD, e3, List.getElem?_eq_getElem (show a + j < l.length by omega)]
/-- What is written is the row of u, or nothing: the box lives on. -/
theorem grown_step {W w1 : World} {n₀ B : Nat} {t e : TypeId} {size : Nat} {v u : Value} {k : Nat} {xs : List Value} (hv : Boxed W B t v) (hte : t ≠ e) (hrow : W.ownsRow n₀ e size u k xs) (hn₀ : n₀ ≤ W.heap.size) (hg : W.grownBy w1 u.ownBlock) :
    Boxed w1 B t v ∧ KeepsOthers W w1 ∧ Below n₀ W w1 := by
  refine ⟨hv.kept hg (hv.not_row hte hrow), KeepsOthers.of_grownBy hg fun j o ej hj => ?_, (Below.refl n₀ W).grown hg hn₀ fun j ej => own_base hrow j ej⟩
  rcases hrow.2 with ⟨rfl, _⟩ | ⟨g, cap, cur, rfl, _, hgb, _⟩
  · simp [Value.ownBlock] at ej
  · obtain rfl : g = j := by simpa [Value.ownBlock] using ej
    rw [hgb] at hj; cases hj; rfl
/-- What holds between two rounds. -/
def PutI (w : World) (A : Option Addr) (c : Nat) (l : List Int) (pre : List (Part l)) (W : World) : Prop :=
  (∃ v, Boxed W w.heap.size 22 v ∧ W.ownsRow w.heap.size 5 1 v (putAll l pre).length (encs (Value.int .u8) (putAll l pre)) ∧ True) ∧ Below w.heap.size w W ∧ W.heap[w.heap.size + 1]? = some (.cells #[.slice A l.length c] 22 (0, 0))

/-- A new block of bytes, read. -/
theorem lit_reads (W : World) (xs : List Int) (hx : xs.length ≤ 9223372036854775807) : Kd.C (Kd.int .u8) (W.alloc (.cells (nums .u8 xs).toArray 5)) (some ⟨W.heap.size, 0, none⟩) xs.length xs := by
  have h2 := World.ownsRow_lit (base := 0) (e := 5) (size := 1) W (nums .u8 xs).toArray xs.length (Nat.zero_le _) (by simpa [maxLen] using hx) (by simp [nums])
  have h3 : (W.alloc (.cells (nums .u8 xs).toArray 5)).ownsRow 0 5 1 (.slice (some ⟨W.heap.size, 0, none⟩) xs.length xs.length) xs.length (encs (Value.int .u8) xs) := by simpa [nums, encs] using h2
  exact (Kd.R_reads' (Kd.R_of_own (h1 := fun _ => rfl) (ok := fun _ => True) h3 (fun _ _ => trivial))).2.2

set_option maxRecDepth 100000 in
set_option maxHeartbeats 4000000 in
theorem put_in (A : Option Addr) (c : Nat) (l : List Int) (w : World) (hl : l.length ≤ 1048576) (hr : Kd.C (Kd.int .u8) w A l.length l) (hc : l.length ≤ c) :
    Calls Try.prog 8 #[.slice A l.length c] w fun e w' => ∃ v0_ : Value, e = .returned (.tuple #[v0_, .int .i64 0]) ∧ Kd.R (Kd.int .u8) 5 w' w.heap.size (fun _ => True) v0_ (putAll l (partsFrom l 0) ++ [128]) ∧ Below w.heap.size w w' := by
  have hb0 : decide (1048576 < (l.length : Int)) = false := by simp; omega
  have hb1 : decide (1048576 < l.length) = false := by simp; omega
  refine (callsIn_wide (n := 4)).1 ?_
  refine callsIn_of_wp_marks Try.func8 rfl trivial ?_ rfl
  simp only [Try.ntmps8, List.size_toArray, List.length_cons, List.length_nil, Nat.reduceAdd, Nat.reduceSub, Array.replicate_succ, Array.replicate_zero, List.push_toArray, List.append_toArray, List.nil_append, List.cons_append]
  gi_wp2_with fail
  refine ⟨trivial, ?_⟩
  refine (parts_in _ _ _ _ _).mono ?_
  rintro e w' ⟨rfl, rfl⟩
  have bO := Boxed.new w 22 (.slice none 0 0)
  have bN := Boxed.new (w.alloc (.cells #[.slice none 0 0] 22)) 22 (.slice A l.length c)
  rw [World.size_alloc] at bN
  have hB0 : Below w.heap.size w ((w.alloc (.cells #[.slice none 0 0] 22)).alloc (.cells #[.slice A l.length c] 22)) := ((Below.refl _ w).alloc (Nat.le_refl _) _).alloc (by simp) _
  have bO' := bO.alloc (.cells #[.slice A l.length c] 22)
  obtain ⟨i0, hi, hz0, hz1, hz2⟩ := info_parts info5
  clear hb0 hb1
  gi_wp2
  refine wpIn_rangeFunc_ownG rfl (by omega) (gf := 15) (lb := #[.pointer (some ⟨w.heap.size + 1, 0, none⟩)]) rfl trivial (enters_of Try.func15 (by kernel_rfl) rfl)
    (parts_stops _ (by omega) (w.heap.size + 1) w.heap.size l hl A c hc _ (by simp; omega) bN (fun W1 h1 => Kd.C_below hr (hB0.trans h1))) kpt_t (kpt_b (by simp; omega) (by simp)) (Below.refl _ _) (fun _ => rfl)
    (PutI w A c l)
    (fun _ _ _ => False)
    (OwnFrom.and (Own.from (holdsRow_own w.heap.size w.heap.size 22 5 1 (fun pre => (putAll l pre).length) (fun pre => encs (Value.int .u8) (putAll l pre)) (fun _ _ => True)) _) (OwnFrom.and (ownFrom_below (Nat.le_refl _) (by simp; omega)) (Own.from (fun s X Y row hb hg hrow => (Boxed.kept (t := 22) hb hg (fun e => by obtain ⟨o, ho, hc⟩ := hrow _ e.symm; rw [hb] at ho; cases ho; cases hc))) _)))
    (fun _ _ _ _ _ hs _ _ => hs)
    ⟨⟨_, bO', World.ownsRow_nil _ _ _ _, trivial⟩, hB0, bN⟩
    (fun x => { tmps := #[.slice A l.length c, undef, .slice none 0 0, .int .i64 0, .pointer (some ⟨w.heap.size, 0, none⟩), .slice (A.map (·.add x.1.1)) x.1.2.1 (c - x.1.1), .bool x.1.2.2, .slice A l.length c, .int .i64 l.length, .bool false, .slice A l.length c, .func (.func 15) #[] #[.pointer (some ⟨w.heap.size + 1, 0, none⟩)], .slice (A.map (·.add x.1.1)) x.1.2.1 (c - x.1.1), .bool x.1.2.2, undef, undef, undef, undef, undef, undef, undef, undef, undef, undef, undef, undef, undef, undef, undef, undef, undef, undef, undef, undef, undef, undef, undef], defers := [] }) ?assign ?body ?done ?stop
  case assign =>
    intro lb x W K hK
    dsimp only [encPart]
    gi_wp2
    exact hK
  case body =>
    rintro lb pre ⟨⟨a, N, often⟩, hx1, hx2, hx3, hx4, hx5⟩ W ⟨⟨v, hv, hrow, _⟩, hB, hN⟩ hlt
    dsimp only at hx1 hx2 hx3 hx4 hx5 ⊢
    have hc0 := hv.cell
    have hrW := Kd.C_below hr hB
    obtain ⟨ad, e', hcell⟩ := Kd.at_int hrW (a : Int) (by omega) (by omega)
    cases e'
    rw [show (a : Int).toNat = a from by omega] at hcell
    have hB1 := hB.size
    obtain ⟨ad0, e0, hcell0⟩ := Kd.at_int hr (a : Int) (by omega) (by omega)
    cases e0
    rw [show (a : Int).toNat = a from by omega] at hcell0
    have hrowR : Kd.R (Kd.int .u8) 5 W w.heap.size (fun _ => True) v (putAll l pre) := Kd.R_of_own hrow (fun _ _ => trivial)
    have hlong := putAll_length l pre
    cases often with
    | true =>
      have hN2 := hx5 rfl
      have HR := Aside0.mk hrowR
      clear hrowR
      have hp0 : 0 < N := by omega
      have hwr : IntKind.u8.wrap (wrap64 (257 - (N : Int))) = 257 - (N : Int) := by rw [wrap_small _ (by omega) (by omega)]; exact wrap_u8 _ (by omega) (by omega)
      gi_wp2
      refine startR_ (n := 11) (S := fun w' => w'.cell? ⟨w.heap.size, 0, none⟩ = some v ∧ w'.cell? (ad.add a) = some (.int .u8 (rd l (a : Int)))) (ds := [10]) #[false, false, false, false, false, false, false, false, false, false, false] (by kernel_rfl) (by rintro ⟨_, _, h⟩; exact h) (by kernel_rfl) rfl rfl ⟨hc0, hcell⟩ (fun hHeld => ?_)
      refine pure_ (i := 1) (N := some 16) (v := ?_) (a' := ?_) #[false, true, false, false, false, false, false, false, false, false, false] rfl rfl (by kernel_rfl) (fun _ _ _ h => h) (Or.inl ⟨by rfl, ?_⟩) ?_ ?_
      rotate_left
      · intro w'
        go_simp
        with_reducible rfl
      rotate_left
      · simp only [Act.put, List.setIfInBounds_toArray, List.set_cons_zero, List.set_cons_succ, i64_w, i32_w]
        rfl
      refine pure_ (i := 2) (N := some 17) (v := ?_) (a' := ?_) #[false, true, true, false, false, false, false, false, false, false, false] rfl rfl (by kernel_rfl) (fun _ _ _ h => h) (Or.inl ⟨by rfl, ?_⟩) ?_ ?_
      rotate_left
      · intro w'
        go_simp
        with_reducible rfl
      rotate_left
      · simp only [Act.put, List.setIfInBounds_toArray, List.set_cons_zero, List.set_cons_succ, i64_w, i32_w]
        rfl
      refine pure_ (i := 3) (N := some 18) (v := ?_) (a' := ?_) #[false, true, true, true, false, false, false, false, false, false, false] rfl rfl (by kernel_rfl) (fun _ _ _ h => h) (Or.inl ⟨by rfl, ?_⟩) ?_ ?_
      rotate_left
      · intro w'
        go_simp
        with_reducible rfl
      rotate_left
      · simp only [Act.put, List.setIfInBounds_toArray, List.set_cons_zero, List.set_cons_succ, i64_w, i32_w]
        rfl
      refine pure_ (i := 4) (N := some 19) (v := ?_) (a' := ?_) #[false, true, true, true, true, false, false, false, false, false, false] rfl rfl (by kernel_rfl) (fun _ _ _ h => h) (Or.inl ⟨by rfl, ?_⟩) ?_ ?_
      rotate_left
      · intro w'
        go_simp
        with_reducible rfl
      rotate_left
      · simp only [Act.put, List.setIfInBounds_toArray, List.set_cons_zero, List.set_cons_succ, i64_w, i32_w]
        rfl
      refine pure_ (i := 5) (N := some 20) (v := ?_) (a' := ?_) #[false, true, true, true, true, true, false, false, false, false, false] rfl rfl (by kernel_rfl) (fun _ _ _ h => h) (Or.inl ⟨by rfl, ?_⟩) ?_ ?_
      rotate_left
      · intro w'
        go_simp
        with_reducible rfl
      rotate_left
      · simp only [Act.put, List.setIfInBounds_toArray, List.set_cons_zero, List.set_cons_succ, i64_w, i32_w]
        rfl
      refine pure_ (i := 6) (N := some 21) (v := ?_) (a' := ?_) #[false, true, true, true, true, true, true, false, false, false, false] rfl rfl (by kernel_rfl) (fun _ _ _ h => h) (Or.inl ⟨by rfl, ?_⟩) ?_ ?_
      rotate_left
      · intro w'
        go_simp
        with_reducible rfl
      rotate_left
      · simp only [Act.put, List.setIfInBounds_toArray, List.set_cons_zero, List.set_cons_succ, i64_w, i32_w]
        rfl
      refine take_ (i := 0) (N := some 15) (v := ?_) (a' := ?_) #[true, true, true, true, true, true, true, false, false, false, false] rfl rfl (by kernel_rfl) (fun _ _ _ h => h) (Or.inl ⟨by rfl, ?_⟩) hHeld ?_ ?_
      rotate_left
      · rintro w' ⟨s0, s1⟩
        go_simp
        with_reducible rfl
      rotate_left
      · simp only [Act.put, List.setIfInBounds_toArray, List.set_cons_zero, List.set_cons_succ, i64_w, i32_w]
        rfl
      refine take_ (i := 7) (N := some 22) (v := ?_) (a' := ?_) #[true, true, true, true, true, true, true, true, false, false, false] rfl rfl (by kernel_rfl) (fun _ _ _ h => h) (Or.inl ⟨by rfl, ?_⟩) hHeld ?_ ?_
      rotate_left
      · rintro w' ⟨s0, s1⟩
        go_simp
        with_reducible rfl
      rotate_left
      · simp only [Act.put, List.setIfInBounds_toArray, List.set_cons_zero, List.set_cons_succ, i64_w, i32_w]
        rfl
      refine one_ (i := 8) (N := some 23) #[true, true, true, true, true, true, true, true, true, false, false] rfl rfl (by kernel_rfl) (by decide) (fun K hK => ?_)
      refine value_ (w1 := ?_) (v := ?_) (by rfl) rfl ?_ ?_
      rotate_left 2
      · go_simp
        constructor
        · rfl
        · rfl
      refine hK.out _ _ ⟨(pw_cell_below (below_alloc (Below.refl _ _) _) hHeld.1), (pw_cell_below (below_alloc (Below.refl _ _) _) hHeld.2)⟩ (fun hHeld => ?_)
      clear hK K
      refine norm_ (a' := ?_) ?_ ?_
      rotate_left
      · show Act.put _ (some 23) _ = _
        simp only [Act.put, List.setIfInBounds_toArray, List.set_cons_zero, List.set_cons_succ, i64_w, i32_w]
        rfl
      refine one_ (i := 9) (N := some 24) #[true, true, true, true, true, true, true, true, true, true, false] rfl rfl (by kernel_rfl) (by decide) (fun K hK => ?_)
      refine Kd.R_append_rows_step (Kd.int .u8) (Rr := (Kd.int .u8).K W) (w0 := w) w.heap.size (by rfl) (.tmp 15) (.tmp 23) 22 5 (.int .u8 0) 1 rfl Try.underlying22 info5 rfl (by decide) (by decide) v (putAll l pre) [257 - (N : Int), rd l (a : Int)] _ _ _ (fun _ => True) (fun _ => False) rfl rfl (Kd.R_drew (Kd.R_alloc HR.out _)) (Kd.C_drew (lit_reads W [257 - (N : Int), rd l (a : Int)] (by simp))) (fun _ _ h => h) (fun _ h => h.elim) (fun _ _ => trivial) (below_step hB (below_drew (below_alloc (Below.refl _ _) _))) (by simp; omega) (by simp; omega) ?_
      intro v1 w1 ho1 hb1 hg1 hat1
      obtain ⟨g', cap', rfl, -⟩ := Kd.R_form ho1 (by simp)
      have happ := Boxed.appended (W := W.drew) (tmp := .cells #[.int .u8 (257 - (N : Int)), .int .u8 (rd l (a : Int))] 5) (n₀ := w.heap.size) (t := 22) hv (by decide) (Kd.own_of_R (Kd.R_drew HR.out)) hB1 (Nat.le_refl _) (Kd.own_of_R ho1) hg1
      obtain ⟨hv1, hv2, hr2, hk2, hb2⟩ := happ
      have hf1 := hv1.frozen
      have hc1 := hv1.cell
      refine hK.out _ _ ⟨hc1, (pw_cell_below hb1 hcell0)⟩ (fun hHeld => ?_)
      clear hK K
      refine norm_ (a' := ?_) ?_ ?_
      rotate_left
      · show Act.put _ (some 24) _ = _
        simp only [Act.put, List.setIfInBounds_toArray, List.set_cons_zero, List.set_cons_succ, i64_w, i32_w]
        rfl
      refine last_ (i := 10) (N := none) #[true, true, true, true, true, true, true, true, true, true, true] rfl rfl (by kernel_rfl) (by decide) (fun K hK => ?_)
      refine skip_ (w1 := ?_) (by rfl) rfl ?_ ?_
      rotate_left
      · go_simp
        rfl
      refine hK.out _ _ ?_
      clear hK K
      refine done_ (by kernel_rfl) ?_
      have elen : (putAll l pre ++ [257 - (N : Int), rd l (a : Int)]).length = (putAll l pre).length + 2 := by simp
      rw [elen] at hv2 hr2 hk2 hb2
      have hBs : (w1.setCell ⟨w.heap.size, 0, none⟩ (.slice (some ⟨g', 0, none⟩) ((putAll l pre).length + 2) cap')).heap[w.heap.size + 1]? = W.heap[w.heap.size + 1]? := by
        have hN' : Boxed W (w.heap.size + 1) 22 (.slice (some ad) l.length c) := hN
        rw [Below.heap_setCell _ _ _ _ (show w.heap.size + 1 ≠ w.heap.size by omega)]
        rw [hg1.block (w.heap.size + 1) (by have := hN'.lt; simp; omega) (hN'.not_row (e := 5) (by decide) (Kd.own_of_R HR.out))]
        exact (hN'.alloc _).trans hN.symm
      have hfin : Kpt w.heap.size (w.heap.size + 1) W _ ∧ PutI w (some ad) c l (pre ++ [⟨(a, N, true), ⟨hx1, hx2, hx3, hx4, hx5⟩⟩]) _ :=
        ⟨⟨(below_drew (Below.refl _ _)).trans hb2, hBs⟩, ⟨_, hv2, by rw [putAll_snoc, List.length_append]; exact hr2, trivial⟩, hB.trans ((below_drew (Below.refl _ _)).trans hb2), hBs.trans hN⟩
      gi_wp2
      exact ⟨((KeepsOthers.drew W).trans hk2).from _, hfin⟩
    | false =>
      have hwr : IntKind.u8.wrap ((N : Int) - 1) = (N : Int) - 1 := wrap_u8 _ (by omega) (by omega)
      have hpl : ((l.drop a).take N).length = N := by rw [List.length_take, List.length_drop]; omega
      have HPL := Aside0.mk hpl
      clear hpl
      gi_wp2_with (first | (gi_at_builtin; refine wpListIn_append_own _ rfl (.tmp 25) (.tmp 30) 22 rfl w.heap.size 5 i0 (.int .u8 0) 1 1 Try.underlying22 hi hz0 hz1 hz2 rfl (by decide) v (putAll l pre).length (encs (Value.int .u8) (putAll l pre)) rfl (hrow.alloc _) ⟨W.heap.size, 0, none⟩ 1 1 [.int .u8 ((N : Int) - 1)] rfl rfl (cell_one_new _ _ _) (by simp [Value.oneCell']) (by simp only [maxLen]; omega) (by omega) (by simp; omega) ?_; intro v1 w1 hown1 hg1 _; obtain ⟨g1, cap1, rfl⟩ := ownsRow_succ hown1; go_loud (have G1 := grown_step (hv.alloc _) (by decide) (hrow.alloc _) (by simp; omega) hg1); go_loud (have hC1 := Kd.C_below hr ((hB.alloc hB1 _).trans G1.2.2)); go_loud (have hs1 := G1.2.2.size); go_loud (have hw1 : w.heap.size ≤ w1.heap.size := by simp at hs1; omega)) | (gi_at_builtin; go_loud (refine wpListIn_append_own _ rfl (.tmp 31) (.tmp 32) 22 rfl w.heap.size 5 i0 (.int .u8 0) 1 1 Try.underlying22 hi hz0 hz1 hz2 rfl (by decide) _ ((putAll l pre).length + 1) _ rfl hown1 (ad.add a) N (c - a) (encs (Value.int .u8) ((l.drop a).take N)) rfl (by rw [encs_length, HPL.out, Nat.mul_one]) (part_cells hC1 hx1) (one_encs _) (by simp only [maxLen]; omega) (by omega) hw1 ?_); intro v2 w2 hown2 hg2 _; obtain ⟨g2, cap2, rfl⟩ := ownsRow_succ' hown2 (by omega); have G2 := grown_step G1.1 (by decide) hown1 hw1 hg2; have hc2 := G2.1.cell; have hf2 := G2.1.frozen))
      have hv3 := G2.1.set (.slice (some ⟨g2, 0, none⟩) ((putAll l pre).length + 1 + N) cap2)
      have hr3 := hown2.kept (grownBy_setCell' w2 w.heap.size (.slice (some ⟨g2, 0, none⟩) ((putAll l pre).length + 1 + N) cap2)) (.inr (G2.1.not_row (e := 5) (by decide) hown2).symm)
      have hb3 := ((((Below.refl w.heap.size W).alloc hB1 _).trans G1.2.2).trans G2.2.2).setCell (p := ⟨w.heap.size, 0, none⟩) (Nat.le_refl _) (.slice (some ⟨g2, 0, none⟩) ((putAll l pre).length + 1 + N) cap2)
      have hk3 := (((KeepsOthers.alloc W _).trans G1.2.1).trans G2.2.1).trans (KeepsOthers.setCell w2 ⟨w.heap.size, 0, none⟩ (.slice (some ⟨g2, 0, none⟩) ((putAll l pre).length + 1 + N) cap2))
      have hN' : Boxed W (w.heap.size + 1) 22 (.slice (some ad) l.length c) := hN
      have hN2 := grown_step (hN'.alloc _) (by decide) (hrow.alloc _) (by simp; omega) hg1
      have hN3 := grown_step hN2.1 (by decide) hown1 hw1 hg2
      have hBs : (w2.setCell ⟨w.heap.size, 0, none⟩ (.slice (some ⟨g2, 0, none⟩) ((putAll l pre).length + 1 + N) cap2)).heap[w.heap.size + 1]? = W.heap[w.heap.size + 1]? := by
        rw [Below.heap_setCell _ _ _ _ (show w.heap.size + 1 ≠ w.heap.size by omega)]
        exact hN3.1.trans hN.symm
      have hpp : putAll l (pre ++ [⟨(a, N, false), ⟨hx1, hx2, hx3, hx4, hx5⟩⟩]) = putAll l pre ++ (((N : Int) - 1) :: (l.drop a).take N) := by rw [putAll_snoc]; rfl
      have hfin : Kpt w.heap.size (w.heap.size + 1) W _ ∧ PutI w (some ad) c l (pre ++ [⟨(a, N, false), ⟨hx1, hx2, hx3, hx4, hx5⟩⟩]) _ :=
        ⟨⟨hb3, hBs⟩, ⟨_, hv3, by rw [hpp, List.length_append, List.length_cons, HPL.out, show (putAll l pre).length + (N + 1) = (putAll l pre).length + 1 + N by omega]; simpa [encs] using hr3, trivial⟩, hB.trans hb3, hBs.trans hN⟩
      exact ⟨hk3.from _, hfin⟩
  case done =>
    rintro D ys W hD rfl ⟨⟨v, hv, hrow, _⟩, hB, hN⟩ hK
    have hB1 := hB.size
    have hc0 := hv.cell
    have hlong := putAll_length l (partsFrom l 0)
    have hlong2 := partsFrom_length l 0
    gi_wp2_with (gi_at_builtin; refine wpListIn_append_own _ rfl (.tmp 34) (.tmp 35) 22 rfl w.heap.size 5 i0 (.int .u8 0) 1 1 Try.underlying22 hi hz0 hz1 hz2 rfl (by decide) v (putAll l (partsFrom l 0)).length (encs (Value.int .u8) (putAll l (partsFrom l 0))) rfl (hrow.alloc _) ⟨W.heap.size, 0, none⟩ 1 1 [.int .u8 128] rfl rfl (cell_one_new _ _ _) (by simp [Value.oneCell']) (by simp only [maxLen]; omega) (by omega) (by simp; omega) ?_; intro v1 w1 hown1 hg1 _; go_loud (have G1 := grown_step (hv.alloc _) (by decide) (hrow.alloc _) (by simp; omega) hg1))
    have hK1 : w1.heap[D]? = some (.deferred (some [])) := G1.2.1.same D _ ((Below.heap_alloc W _ _ (Array.getElem?_eq_some_iff.1 hK).1).trans hK) rfl
    refine ⟨by simp, .inl ⟨_, _, rfl, run_takeDeferred hK1, ?_⟩⟩
    refine ⟨.tuple #[v1, .int .i64 0], by simp [results, Try.f8, go_sem], v1, rfl, Kd.R_of_own (ownsRow_putObj (xs := encs (Value.int .u8) (putAll l (partsFrom l 0) ++ [128])) (by simpa [encs] using hown1) _ hK1 rfl) (fun _ _ => trivial), ((hB.alloc hB1 _).trans G1.2.2).trans (belowK_b (w := w) (Nat.le_refl _) w1 D _ _ (by simp at hD; omega) hK1 rfl rfl)⟩
  case stop =>
    rintro D c pre W _ _ h _
    exact h.elim

set_option maxHeartbeats 1000000 in
theorem put_long (A : Option Addr) (c : Nat) (l : List Int) (w : World) (hl : 1048576 < l.length) (hr : Kd.C (Kd.int .u8) w A l.length l) :
    Calls Try.prog 8 #[.slice A l.length c] w fun e w' => ∃ v0_ : Value, e = .returned (.tuple #[v0_, .int .i64 2]) ∧ Kd.R (Kd.int .u8) 5 w' w.heap.size (fun _ => True) v0_ [] ∧ Below w.heap.size w w' := by
  have hm := Kd.C_max hr
  have hb0 : decide (1048576 < (l.length : Int)) = true := by simp; omega
  go_enter Try.func8, Try.ntmps8
  go_wp2
  go_ret2
  exact ⟨_, rfl, Kd.R_nil _ _ _ _ _, Below.refl _ _⟩

theorem put_calls (A0 : Option Addr) (c0 : Nat) (l0 : List Int) (r1 : List Int) (r2 : Int) (w : World) (hr0 : Kd.C (Kd.int .u8) w A0 l0.length l0) (hc0 : l0.length ≤ c0) (h : run_Put.f l0 = some (r1, r2)) :
    Calls Try.prog 8 #[.slice A0 l0.length c0] w fun e w' => ∃ v0_ : Value, e = .returned (.tuple #[v0_, .int .i64 r2]) ∧ Kd.R (Kd.int .u8) 5 w' w.heap.size (fun _ => True) v0_ r1 ∧ Below w.heap.size w w' := by
  unfold run_Put.f at h
  by_cases hl : 1048576 < (l0.length : Int)
  · rw [if_pos hl] at h
    simp only [Option.some.injEq, Prod.mk.injEq] at h
    obtain ⟨rfl, rfl⟩ := h
    exact put_long A0 c0 l0 w (by omega) hr0
  · rw [if_neg hl] at h
    simp only [Option.some.injEq, Prod.mk.injEq] at h
    obtain ⟨rfl, rfl⟩ := h
    exact put_in A0 c0 l0 w (by omega) hr0 hc0

end Go.Proofs.Ytdopkepaandoeaa.Run
