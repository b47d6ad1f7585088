/- strings.Builder's WriteString; font.Means. -/
import Derived.Test.YtjhpcfpccnfniaaH12
import Derived.Test.YtjhpcfpccnfniaaH4
import Derived.Test.YtjhpcfpccnfniaaH11
namespace Go.Proofs.Ytjhpcfpccnfniaa.A
open Go Go.RowKit Go.Proofs.YtjhpcfpccnfniaaW.PrintWords Go.Proofs.YtjhpcfpccnfniaaW.PrintLast Go.Proofs.YtjhpcfpccnfniaaW.PrintMore Go.Proofs.Ytjhpcfpccnfniaa.F
attribute [local go_sem] max2_int min2_int max_two min_two max_three min_three max_four min_four
set_option linter.unusedVariables false
set_option linter.unusedSimpArgs false
set_option maxHeartbeats 2000000 in
set_option maxRecDepth 100000 in
theorem writeString_calls (B b : Nat) (bs : List Value) (s : ByteArray) (w : World) (h : Lib.IsBuilder 52 5 B b bs w) (hlen : bs.length + s.size ≤ 140737488355328) (hBw : B ≤ w.heap.size) :
    Calls Try.prog 29 #[.pointer (some ⟨b, 0, none⟩), .string s] w fun e w' => (∃ v, e = .returned v) ∧ (Lib.BuilderAt 52 5 B b (.pointer (some ⟨b, 0, none⟩)) (bs ++ Lib.strCells s) w' ∧ Below B w w') := by
  obtain ⟨i0, hi, hz0, hz1, hz2⟩ := info_parts infoByte
  go_enter Try.func29, Try.ntmps29
  go_wp2_with fail
  refine (copyCheck_calls B b bs _ h).mono ?_
  rintro e w1 ⟨rfl, h1, hb1⟩
  obtain ⟨hB, v, hbk, hown, hne⟩ := h1
  have c0 : w1.cell? ⟨b, 0, none⟩ = some (.pointer (some ⟨b, 0, none⟩)) := by rw [Lib.cell_of_heap hbk]; rfl
  have c1 : w1.cell? ⟨b, 1, none⟩ = some v := by rw [Lib.cell_of_heap hbk]; rfl
  have hs1 : B ≤ w1.heap.size := Nat.le_trans hBw hb1.size
  replace hbk := Aside0.mk hbk
  replace hown := Aside0.mk hown
  replace hne := Aside0.mk hne
  replace hb1 := Aside0.mk hb1
  go_wp2_with (at_builtin; refine Lib.wpList_append_own_string _ rfl _ _ 48 9 rfl B 5 i0 Try.underlying48 Try.underlying9 hi hz0 hz1 hz2 _ _ _ rfl hown.out s rfl (by unfold maxLen; omega) hlen hs1 ?_; intro v' w2 hown' hgrow _; have hb2 : w2.heap[b]? = some (.cells #[.pointer (some ⟨b, 0, none⟩), v] 52 (0, 0)) := (hgrow.block b (blk_lt hbk.out) (fun e => hne.out e.symm)).trans hbk.out; have d0 : w2.cell? ⟨b, 0, none⟩ = some (.pointer (some ⟨b, 0, none⟩)) := (by rw [Lib.cell_of_heap hb2]; rfl); have d1 : w2.cell? ⟨b, 1, none⟩ = some v := (by rw [Lib.cell_of_heap hb2]; rfl); have f1 : w2.frozen? ⟨b, 1, none⟩ = false := Lib.frozen_of_heap hb2 1; obtain ⟨A', c', hv'⟩ := own_slice hown'; subst hv'; replace hown' := Aside0.mk hown'; replace hgrow := Aside0.mk hgrow; replace hb2 := Aside0.mk hb2)
  go_ret2
  refine ⟨⟨_, rfl⟩, ?_, ?_⟩
  · exact Lib.BuilderAt.put (T := 52) (e := 5) hB hb2.out (bs' := bs ++ Lib.strCells s) (by rw [List.length_append, Lib.strCells_length]; exact hown'.out) (by decide)
  · exact (hb1.out.grown hgrow.out hs1 (fun k hk => (hown.out.lt k hk).1)).setCell (p := ⟨b, 1, none⟩) hB _
theorem builderAt_below {B b : Nat} {p : Value} {bs : List Value} {w w' : World} (h : Lib.BuilderAt 52 5 B b p bs w) (hb : Below w.heap.size w w') : Lib.BuilderAt 52 5 B b p bs w' := by
  obtain ⟨hB, v, hk, ho, hne⟩ := h
  exact ⟨hB, v, blk_below hk hb, pw_own_below ho hb, hne⟩
theorem builder_below {B b : Nat} {bs : List Value} {w w' : World} (h : Lib.IsBuilder 52 5 B b bs w) (hb : Below w.heap.size w w') : Lib.IsBuilder 52 5 B b bs w' :=
  h.imp (fun h => builderAt_below h hb) (fun h => builderAt_below h hb)
def textS (u : ByteArray) : ByteArray × Int := if u.size % 2 = 0 then textR u else (⟨#[]⟩, 4)
theorem text_f (u : ByteArray) (hu : u.size ≤ 1000000) : cmap_Text.f u = some (textS u) := by
  unfold cmap_Text.f textS
  rw [if_pos hu]
  by_cases he : u.size % 2 = 0
  · rw [if_pos he, if_pos he]
    rfl
  · rw [if_neg he, if_neg he]
def meansR (l : List S37) (o : Int) : List Int → List UInt8 → ByteArray × Int
  | [], acc => (⟨acc.toArray⟩, 0)
  | c :: t, acc => if (textS (glyphOf l o c).f2).2 = 0 then meansR l o t (acc ++ (textS (glyphOf l o c).f2).1.data.toList) else (⟨#[]⟩, (textS (glyphOf l o c).f2).2)
def few (l : List S37) : Bool := l.all fun g => decide (g.f2.size ≤ 1000)
theorem textI_len : ∀ (n : Nat) (l r : List Int), l.length ≤ n → (∀ x ∈ l, 0 ≤ x ∧ x ≤ 255) → textI l = some r → r.length ≤ 2 * l.length := by
  intro n
  induction n with
  | zero =>
    intro l r hl _ h
    obtain rfl : l = [] := List.eq_nil_of_length_eq_zero (by omega)
    obtain rfl : [] = r := Option.some.inj h
    simp
  | succ n ih =>
    intro l r hl hb h
    match l, hl, hb, h with
    | [], _, _, h =>
      obtain rfl : [] = r := Option.some.inj h
      simp
    | [a], _, _, h =>
      obtain rfl : [] = r := Option.some.inj h
      simp
    | a :: b :: t, hl, hb, h =>
      rw [textI.eq_def] at h
      simp only at h
      have ha := hb a (by simp)
      have hbb := hb b (by simp)
      by_cases hs : 55296 ≤ a * 256 + b ∧ a * 256 + b ≤ 57343
      · rw [if_pos hs] at h
        match t, h with
        | [], h => cases h
        | [x], h => cases h
        | x :: y :: t', h =>
          simp only at h
          by_cases h2 : 56320 ≤ a * 256 + b ∨ x * 256 + y < 56320 ∨ 57343 < x * 256 + y
          · rw [if_pos h2] at h; cases h
          · rw [if_neg h2] at h
            obtain ⟨r', h3, rfl⟩ := Option.map_eq_some_iff.1 h
            have h4 := ih t' r' (by simp at hl; omega) (fun z hz => hb z (by simp [hz])) h3
            have h5 := putI_len (65536 + (a * 256 + b - 55296) * 1024 + (x * 256 + y - 56320))
            simp
            omega
      · rw [if_neg hs] at h
        obtain ⟨r', h3, rfl⟩ := Option.map_eq_some_iff.1 h
        have h4 := ih t r' (by simp at hl; omega) (fun z hz => hb z (by simp [hz])) h3
        have h5 : (putI (a * 256 + b)).length ≤ 3 := by
          unfold putI
          split
          · simp
          · split
            · simp
            · rw [if_pos (by omega)]; simp
        simp
        omega
theorem bytesOf_range (u : ByteArray) : ∀ x ∈ bytesOf u, 0 ≤ x ∧ x ≤ 255 := by
  intro x hx
  obtain ⟨i, hi, rfl⟩ := List.getElem_of_mem hx
  have e : (bytesOf u)[i] = bt u (i : Int) := by
    rw [← rd_bytesOf]
    unfold rd
    rw [Int.toNat_natCast, List.getD_eq_getElem?_getD, List.getElem?_eq_getElem hi]
    rfl
  rw [e]
  exact bt_range u i
theorem strOfNums_size (l : List Int) : (strOfNums l).size = l.length := by
  unfold strOfNums
  simp [ByteArray.size]
theorem textR_size (u : ByteArray) : (textR u).1.size ≤ 2 * u.size := by
  unfold textR
  cases h : textI (bytesOf u) with
  | none => exact Nat.zero_le _
  | some l =>
    have := textI_len _ _ l (Nat.le_refl _) (bytesOf_range u) h
    rw [bytesOf_length] at this
    show (strOfNums l).size ≤ _
    rw [strOfNums_size]
    exact this
theorem textS_size (u : ByteArray) : (textS u).1.size ≤ 2 * u.size := by
  unfold textS
  split
  · exact textR_size u
  · exact Nat.zero_le _
theorem glyph_few (l : List S37) (o c : Int) (h : few l = true) : (glyphOf l o c).f2.size ≤ 1000 := by
  unfold glyphOf
  by_cases hx : 0 ≤ ixOf (fun x : S37 => x.f0 == c) l 0
  · rw [if_pos hx]
    obtain ⟨h1, h2, _⟩ := ixOf_at (fun x : S37 => x.f0 == c) z37 l 0 hx
    have hl : (ixOf (fun x : S37 => x.f0 == c) l 0).toNat < l.length := by omega
    have e : rd_T37 l (ixOf (fun x : S37 => x.f0 == c) l 0) = l[(ixOf (fun x : S37 => x.f0 == c) l 0).toNat] := by
      unfold rd_T37
      rw [List.getD_eq_getElem?_getD, List.getElem?_eq_getElem hl]
      rfl
    rw [e]
    exact of_decide_eq_true (List.all_eq_true.1 h _ (List.getElem_mem hl))
  · rw [if_neg hx]
    exact Nat.zero_le _
theorem run_field37_2 (a b c : Value) (W : World) : (Instr.field 37 (.agg #[a, b, c]) 2).run Try.prog W = .ok c W := by
  simp [Instr.field, run_underlying Try.underlying37, part, asAgg, go_sem, Try.isAgg3]
def font_Means.f (k : Nat) (a0_0 : Bool) (l0_1 : List S37) (a0_2 : Int) (l1 : List Int) : Option (ByteArray × Int) :=
  if l1.length ≤ 1000000 then (font_have.f k a0_0 l0_1 a0_2 l1).bind fun t => if t = true then (if few l0_1 = true then some (meansR l0_1 a0_2 l1 []) else none) else some (⟨#[]⟩, 1) else none
theorem font_Means.mono : ∀ a0 a1 a2 a3 k, LeO (font_Means.f k a0 a1 a2 a3) (font_Means.f (k + 1) a0 a1 a2 a3) := by
  intro a0 a1 a2 a3 k
  unfold font_Means.f
  exact LeO.ite (LeO.bind (font_have.mono _ _ _ _ _) (fun _ => LeO.refl _)) (LeO.refl _)
set_option maxRecDepth 100000 in
set_option maxHeartbeats 4000000 in
theorem means_false (k : Nat) (a0_0 : Bool) (A0_1 : Option Addr) (c0_1 : Nat) (l0_1 : List S37) (a0_2 : Int) (A1 : Option Addr) (c1 : Nat) (l1 : List Int) (w : World) (hr0_1 : Kd.C k37 w A0_1 l0_1.length l0_1) (hc0_1 : l0_1.length ≤ c0_1) (hr1 : Kd.C (Kd.int .i64) w A1 l1.length l1) (hc1 : l1.length ≤ c1) (ht : font_have.f k a0_0 l0_1 a0_2 l1 = some false) :
    Calls Try.prog 14 #[.agg #[.bool a0_0, .slice A0_1 l0_1.length c0_1, .int .i64 a0_2], .slice A1 l1.length c1] w fun e w' => e = .returned (.tuple #[.string ⟨#[]⟩, .int .i64 1]) ∧ Below w.heap.size w w' := by
  have hB0 : Below w.heap.size w (w.alloc (.cells #[.bool a0_0, .slice A0_1 l0_1.length c0_1, .int .i64 a0_2] 24)) := below_alloc (Below.refl _ _) _
  go_enter Try.func14, Try.ntmps14
  go_wp2_with fail
  refine (font_have.calls k a0_0 A0_1 c0_1 l0_1 a0_2 A1 c1 l1 false _ (Kd.C_alloc hr0_1 _) hc0_1 (Kd.C_alloc hr1 _) hc1 ht).mono ?_
  rintro e w1 ⟨rfl, hB1⟩
  go_wp2_with fail
  go_ret2
  exact ⟨rfl, below_step hB0 hB1⟩
set_option maxRecDepth 100000 in
set_option maxHeartbeats 4000000 in
theorem means_true (k : Nat) (a0_0 : Bool) (A0_1 : Option Addr) (c0_1 : Nat) (l0_1 : List S37) (a0_2 : Int) (A1 : Option Addr) (c1 : Nat) (l1 : List Int) (w : World) (hlen : l1.length ≤ 1000000) (hfew : few l0_1 = true) (hr0_1 : Kd.C k37 w A0_1 l0_1.length l0_1) (hc0_1 : l0_1.length ≤ c0_1) (hr1 : Kd.C (Kd.int .i64) w A1 l1.length l1) (hc1 : l1.length ≤ c1) (ht : font_have.f k a0_0 l0_1 a0_2 l1 = some true) :
    Calls Try.prog 14 #[.agg #[.bool a0_0, .slice A0_1 l0_1.length c0_1, .int .i64 a0_2], .slice A1 l1.length c1] w fun e w' => e = .returned (.tuple #[.string (meansR l0_1 a0_2 l1 []).1, .int .i64 (meansR l0_1 a0_2 l1 []).2]) ∧ Below w.heap.size w w' := by
  have hB0 : Below w.heap.size w (w.alloc (.cells #[.bool a0_0, .slice A0_1 l0_1.length c0_1, .int .i64 a0_2] 24)) := below_alloc (Below.refl _ _) _
  have bk0 := blk_new w (.cells #[.bool a0_0, .slice A0_1 l0_1.length c0_1, .int .i64 a0_2] 24)
  obtain ⟨MR, hMR⟩ : ∃ MR, meansR l0_1 a0_2 l1 [] = MR := ⟨_, rfl⟩
  rw [hMR]
  have M0 : Aside0 (meansR l0_1 a0_2 (l1.drop 0) [] = MR) := ⟨by rw [List.drop_zero]; exact hMR⟩
  clear hMR
  replace hfew := Aside0.mk hfew
  have hf37 := run_field37_2
  go_enter Try.func14, Try.ntmps14
  go_wp2_with fail
  refine (font_have.calls k a0_0 A0_1 c0_1 l0_1 a0_2 A1 c1 l1 true _ (Kd.C_alloc hr0_1 _) hc0_1 (Kd.C_alloc hr1 _) hc1 ht).mono ?_
  rintro e w1 ⟨rfl, hB1⟩
  have hB : Below w.heap.size w w1 := below_step hB0 hB1
  have bk1 := blk_below bk0 hB1
  have HC := Kd.C_below hr0_1 hB
  have HR := Kd.C_below hr1 hB
  have hbox := blk_lt bk1
  have hfresh : Lib.IsBuilder 52 5 w1.heap.size w1.heap.size [] (w1.alloc (.cells #[.pointer none, .slice none 0 0] 52)) := Lib.fresh_isBuilder 52 5 w1
  have hBB : Below w1.heap.size w1 (w1.alloc (.cells #[.pointer none, .slice none 0 0] 52)) := below_alloc (Below.refl _ _) _
  have hbig : l1.length ≤ 9223372036854775807 := by omega
  clear hr0_1 hr1 ht hB0 bk0 hB1
  replace HC := Aside0.mk HC
  replace HR := Aside0.mk HR
  replace bk1 := Aside0.mk bk1
  replace hB := Aside0.mk hB
  replace hfresh := Aside0.mk hfresh
  replace hBB := Aside0.mk hBB
  go_wp2_with fail
  go_loopg [17] l1.length (fun gg s17 wr => ∃ (kk : Nat) (acc : List UInt8), kk ≤ l1.length ∧ l1.length - kk ≤ gg ∧ s17 = .int .i64 kk ∧ acc.length ≤ 2000 * kk ∧ Aside0 (meansR l0_1 a0_2 (l1.drop kk) acc = MR) ∧ Aside0 (Below w1.heap.size w1 wr) ∧ Aside0 (w1.heap.size ≤ wr.heap.size) ∧ Aside0 (Lib.IsBuilder 52 5 w1.heap.size w1.heap.size (Lib.byteCells acc) wr))
  case atStart => exact ⟨0, [], Nat.zero_le _, by omega, rfl, by simp, M0, hBB, ⟨hBB.out.size⟩, hfresh⟩
  case round =>
    obtain ⟨kk, acc, hkk, hg, rfl, hacc, MX, BW, SZ, BI⟩ := hrel
    by_cases hlt : kk < l1.length
    · have hltz : (kk : Int) < (l1.length : Int) := by omega
      have hltb : decide ((kk : Int) < (l1.length : Int)) = true := decide_eq_true hltz
      obtain ⟨ad, e, h0⟩ := Kd.at_int HR.out (kk : Int) (by omega) hltz
      cases e
      replace h0 := (BW.out.cell (World.block_lt_of_cell? w1 _ h0)).trans h0
      simp only [Int.toNat_natCast] at h0
      have hd : l1.drop kk = rd l1 (kk : Int) :: l1.drop (kk + 1) := by
        rw [List.drop_eq_getElem_cons hlt]
        unfold rd
        rw [Int.toNat_natCast, List.getD_eq_getElem?_getD, List.getElem?_eq_getElem hlt]
        rfl
      have hM := MX.out
      rw [hd, meansR] at hM
      obtain ⟨x, hx⟩ : ∃ x, rd l1 (kk : Int) = x := ⟨_, rfl⟩
      rw [hx] at h0 hM
      clear hx hd
      have hsz := glyph_few l0_1 a0_2 x hfew.out
      have hfind := find_f a0_0 l0_1 a0_2 x
      obtain ⟨gl, hgl⟩ : ∃ gl, glyphOf l0_1 a0_2 x = gl := ⟨_, rfl⟩
      rw [hgl] at hM hsz hfind
      clear hgl
      have bkr := blk_below bk1.out BW.out
      have k0 : wr.cell? ⟨w.heap.size, 0, none⟩ = some (.bool a0_0) := (blk_cell bkr 0).trans rfl
      have k1 : wr.cell? ⟨w.heap.size, 1, none⟩ = some (.slice A0_1 l0_1.length c0_1) := (blk_cell bkr 1).trans rfl
      have k2 : wr.cell? ⟨w.heap.size, 2, none⟩ = some (.int .i64 a0_2) := (blk_cell bkr 2).trans rfl
      have HCr := Kd.C_below HC.out BW.out
      have htr := textS_size gl.f2
      have htx := text_f gl.f2 (by omega)
      obtain ⟨s, e, hse⟩ : ∃ s e, textS gl.f2 = (s, e) := ⟨_, _, rfl⟩
      rw [hse] at hM htr htx
      dsimp only at hM htr
      clear hse
      replace hfind := Aside0.mk hfind
      replace htx := Aside0.mk htx
      replace HCr := Aside0.mk HCr
      replace bkr := Aside0.mk bkr
      have hts : s.size ≤ 2000 := Nat.le_trans htr (by omega)
      clear htr
      by_cases he : e = 0
      · have hb : (e != 0) = false := by rw [he]; rfl
        rw [if_pos he] at hM
        replace hM := Aside0.mk hM
        replace he := Aside0.mk he
        go_wp2_with fail
        refine (font_Find.calls a0_0 A0_1 c0_1 l0_1 a0_2 x gl.f0 gl.f1 gl.f2 _ HCr.out hc0_1 hfind.out).mono ?_
        rintro e' w2 ⟨rfl, hB2⟩
        replace hB2 := Aside0.mk hB2
        go_wp2_with fail
        refine (cmap_Text.calls gl.f2 s e _ htx.out).mono ?_
        rintro e' w3 ⟨rfl, hB3⟩
        have hB13 : Below wr.heap.size wr w3 := below_step hB2.out hB3
        have hW3 : Below w1.heap.size w1 w3 := below_step BW.out hB13
        have BI3 : Lib.IsBuilder 52 5 w1.heap.size w1.heap.size (Lib.byteCells acc) w3 := builder_below BI.out hB13
        have hl1 : (Lib.byteCells acc).length + s.size ≤ 140737488355328 := by rw [Lib.byteCells_length]; omega
        replace BI3 := Aside0.mk BI3
        replace hW3 := Aside0.mk hW3
        clear hB13 hB3
        go_wp2_with fail
        refine (writeString_calls w1.heap.size w1.heap.size _ s w3 BI3.out hl1 hW3.out.size).mono ?_
        rintro e' w4 ⟨⟨v4, rfl⟩, hb4, hB4⟩
        have hb5 : Lib.IsBuilder 52 5 w1.heap.size w1.heap.size (Lib.byteCells (acc ++ s.data.toList)) w4 := .inr (by
          have e5 : Lib.byteCells (acc ++ s.data.toList) = Lib.byteCells acc ++ Lib.strCells s := by simp [Lib.byteCells, Lib.strCells]
          rw [e5]; exact hb4)
        have hW4 : Below w1.heap.size w1 w4 := hW3.out.trans hB4
        replace hb5 := Aside0.mk hb5
        replace hW4 := Aside0.mk hW4
        clear hb4 hB4
        have hla : (acc ++ s.data.toList).length ≤ 2000 * (kk + 1) := by
          have : s.data.toList.length = s.size := by simp
          rw [List.length_append]
          omega
        go_wp2_with fail
        go_roundg (l1.length - (kk + 1))
        case measure => omega
        case rel => exact ⟨kk + 1, acc ++ s.data.toList, by omega, by omega, by go_num, hla, hM, hW4, ⟨hW4.out.size⟩, hb5⟩
      · have hb : (e != 0) = true := by simpa using he
        rw [if_neg he] at hM
        replace hM := Aside0.mk hM
        go_wp2_with fail
        refine (font_Find.calls a0_0 A0_1 c0_1 l0_1 a0_2 x gl.f0 gl.f1 gl.f2 _ HCr.out hc0_1 hfind.out).mono ?_
        rintro e' w2 ⟨rfl, hB2⟩
        replace hB2 := Aside0.mk hB2
        go_wp2_with fail
        refine (cmap_Text.calls gl.f2 s e _ htx.out).mono ?_
        rintro e' w3 ⟨rfl, hB3⟩
        have hW3 : Below w.heap.size w w3 := below_step (below_step (below_step hB.out BW.out) hB2.out) hB3
        replace hW3 := Aside0.mk hW3
        clear hB3
        go_wp2_with fail
        go_ret2
        exact ⟨by rw [← hM.out]; rfl, hW3.out⟩
    · have hltb : decide ((kk : Int) < (l1.length : Int)) = false := decide_eq_false (by omega)
      have hM := MX.out
      rw [List.drop_eq_nil_of_le (by omega), meansR] at hM
      replace hM := Aside0.mk hM
      go_wp2_with fail
      refine (Go.Proofs.Try.Builder_String_any w1.heap.size w1.heap.size acc wr BI.out SZ.out).mono ?_
      rintro e w2 ⟨rfl, hB2⟩
      go_wp2_with fail
      go_ret2
      exact ⟨by rw [← hM.out]; rfl, below_step hB.out (BW.out.trans hB2)⟩
theorem font_Means.calls (k : Nat) (a0_0 : Bool) (A0_1 : Option Addr) (c0_1 : Nat) (l0_1 : List (S37)) (a0_2 : Int) (A1 : Option Addr) (c1 : Nat) (l1 : List Int) (r1 : ByteArray) (r2 : Int) (w : World) (hr0_1 : Kd.C k37 w A0_1 l0_1.length l0_1) (hc0_1 : l0_1.length ≤ c0_1) (hr1 : Kd.C (Kd.int .i64) w A1 l1.length l1) (hc1 : l1.length ≤ c1) (h : font_Means.f k a0_0 l0_1 a0_2 l1 = some (r1, r2)) :
    Calls Try.prog 14 #[.agg #[.bool a0_0, .slice A0_1 l0_1.length c0_1, .int .i64 a0_2], .slice A1 l1.length c1] w fun e w' => e = .returned (.tuple #[.string r1, .int .i64 r2]) ∧ Below w.heap.size w w' := by
  unfold font_Means.f at h
  by_cases hc : l1.length ≤ 1000000
  case neg => rw [if_neg hc] at h; cases h
  rw [if_pos hc] at h
  obtain ⟨t, ht, hr⟩ := Option.bind_eq_some_iff.mp h
  cases t with
  | false =>
    rw [if_neg Bool.false_ne_true] at hr
    obtain ⟨rfl, rfl⟩ := Prod.mk.inj (Option.some.inj hr)
    exact means_false k a0_0 A0_1 c0_1 l0_1 a0_2 A1 c1 l1 w hr0_1 hc0_1 hr1 hc1 ht
  | true =>
    rw [if_pos rfl] at hr
    by_cases hf : few l0_1 = true
    · rw [if_pos hf] at hr
      have h2 := means_true k a0_0 A0_1 c0_1 l0_1 a0_2 A1 c1 l1 w hc hf hr0_1 hc0_1 hr1 hc1 ht
      rw [Option.some.inj hr] at h2
      exact h2
    · rw [if_neg hf] at hr
      cases hr
#print axioms font_Means.calls
end Go.Proofs.Ytjhpcfpccnfniaa.A
