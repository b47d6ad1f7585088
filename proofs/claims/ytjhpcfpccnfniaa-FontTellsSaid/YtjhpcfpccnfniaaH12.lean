/- cmap.Text. -/
import Derived.Test.YtjhpcfpccnfniaaPlainText
import Derived.Test.YtjhpcfpccnfniaaH1
import Derived.Test.YtjhpcfpccnfniaaShelf
import Derived.Laws.BitsLemmas
namespace Go.Proofs.Ytjhpcfpccnfniaa.A
open Go Go.RowKit Go.Proofs.YtjhpcfpccnfniaaW.PrintWords Go.Proofs.YtjhpcfpccnfniaaW.PrintLast Go.Proofs.YtjhpcfpccnfniaaW.PrintMore
attribute [local go_sem] max2_int min2_int max_two min_two max_three min_three max_four min_four
set_option linter.unusedVariables false
set_option linter.unusedSimpArgs false
def halfAt (u : ByteArray) (i : Nat) : Int := if i < u.size then bt u (i : Int) * 256 + bt u ((i : Int) + 1) else 0
theorem halfAt_range (u : ByteArray) (i : Nat) : 0 ≤ halfAt u i ∧ halfAt u i ≤ 65535 := by
  unfold halfAt
  have h1 := bt_range u (i : Int)
  have h2 := bt_range u ((i : Int) + 1)
  split <;> omega
theorem or32 (x y : Int) (h0 : 0 ≤ x) (h1 : x ≤ 255) (g0 : 0 ≤ y) (g1 : y ≤ 255) : bits BinOp.or .i32 (wrap32 (wrap32 x * 256)) (wrap32 y) = x * 256 + y := by
  have e1 : wrap32 x = x := by unfold wrap32; omega
  have e2 : wrap32 (x * 256) = x * 256 := by unfold wrap32; omega
  have e3 : wrap32 y = y := by unfold wrap32; omega
  rw [e1, e2, e3]
  exact bits_join .i32 31 (by decide) wraps_i32 8 (x * 256) y (by omega) (by omega) (by omega) g0 (by omega) (by omega)
set_option maxHeartbeats 1000000 in
theorem half_calls (b : Nat) (u : ByteArray) (i : Nat) (w : World) (hc : w.cell? ⟨b, 0, none⟩ = some (.string u)) (hu : u.size ≤ 1000000) (hi : i < u.size → i + 1 < u.size) (hi2 : i ≤ 1000002) :
    Calls Try.prog 45 #[.int .i64 i, .pointer (some ⟨b, 0, none⟩)] w fun e w' => e = .returned (.int .i32 (halfAt u i)) ∧ Below w.heap.size w w' := by
  unfold halfAt
  by_cases h : i < u.size
  · have hb : decide (u.size ≤ i) = false := decide_eq_false (by omega)
    have hi1 := hi h
    rw [if_pos h]
    have x1 : ((u[i]'h).toNat : Int) = bt u (i : Int) := by
      have := bt_at u (i : Int) (by simpa using h)
      simpa using this
    have x2 : ((u[i + 1]'hi1).toNat : Int) = bt u ((i : Int) + 1) := by
      have := bt_at u ((i : Int) + 1) (by omega)
      have e : ((i : Int) + 1).toNat = i + 1 := by omega
      simpa [e] using this
    have r1 := bt_range u (i : Int)
    have r2 := bt_range u ((i : Int) + 1)
    have hor := or32 (u[i]'h).toNat (u[i + 1]'hi1).toNat (by omega) (by omega) (by omega) (by omega)
    rw [x1, x2] at hor
    rw [← hor, ← x1, ← x2]
    have p1 : 0 ≤ (i : Int) := by omega
    have q1 : (i : Int) < (u.size : Int) := by omega
    have p2 : 0 ≤ (i : Int) + 1 := by omega
    have q2 : (i : Int) + 1 < (u.size : Int) := by omega
    have w1 : IntKind.i64.wrap ((i : Int) + 1) = (i : Int) + 1 := by rw [IntKind.wrap_i64]; omega
    replace p1 := eq_true p1
    replace q1 := eq_true q1
    replace p2 := eq_true p2
    replace q2 := eq_true q2
    clear x1 x2 hor r1 r2 hi hi2 hu
    go_enter Try.func45, Try.ntmps45
    go_wp2
    go_quiet (fail)
    go_wp2
    go_ret
    exact ⟨rfl, pw_below_drewN (Below.refl _ _) _⟩
  · have hb : decide (u.size ≤ i) = true := decide_eq_true (by omega)
    rw [if_neg h]
    go_enter Try.func45, Try.ntmps45
    go_wp2
    go_ret
    exact ⟨rfl, Below.refl _ _⟩
def cmap_Text.f (u : ByteArray) : Option (ByteArray × Int) :=
  if u.size ≤ 1000000 then (if u.size % 2 = 0 then some (match textI (bytesOf u) with | none => (⟨#[]⟩, 4) | some l => (strOfNums l, 0)) else some (⟨#[]⟩, 4)) else none
theorem bytes_drop (u : ByteArray) (i : Nat) (h : i + 1 < u.size) : (bytesOf u).drop i = bt u (i : Int) :: bt u ((i : Int) + 1) :: (bytesOf u).drop (i + 2) := by
  have hl := bytesOf_length u
  have g : ∀ j : Nat, (hj : j < (bytesOf u).length) → (bytesOf u)[j] = bt u (j : Int) := fun j hj => by
    rw [← rd_bytesOf]
    unfold rd
    rw [Int.toNat_natCast, List.getD_eq_getElem?_getD, List.getElem?_eq_getElem hj]
    rfl
  rw [List.drop_eq_getElem_cons (by omega), List.drop_eq_getElem_cons (by omega), g i (by omega), g (i + 1) (by omega)]
  rfl
theorem text_end (u : ByteArray) (i : Nat) (h : u.size ≤ i) : textI ((bytesOf u).drop i) = some [] := by
  rw [List.drop_eq_nil_of_le (by rw [bytesOf_length]; exact h)]
  rfl
theorem text_one (u : ByteArray) (i : Nat) (h : i + 1 < u.size) (hs : halfAt u i < 55296 ∨ 57343 < halfAt u i) : textI ((bytesOf u).drop i) = (textI ((bytesOf u).drop (i + 2))).map (putI (halfAt u i) ++ ·) := by
  rw [bytes_drop u i h, textI.eq_def]
  unfold halfAt at hs ⊢
  rw [if_pos (by omega)] at hs ⊢
  simp only
  rw [if_neg (by omega)]
theorem text_bad (u : ByteArray) (i : Nat) (h : i + 1 < u.size) (he : u.size % 2 = 0) (hi : i % 2 = 0) (hs : 55296 ≤ halfAt u i ∧ halfAt u i ≤ 57343) (hb : 56320 ≤ halfAt u i ∨ halfAt u (i + 2) < 56320 ∨ 57343 < halfAt u (i + 2)) : textI ((bytesOf u).drop i) = none := by
  rw [bytes_drop u i h, textI.eq_def]
  unfold halfAt at hs hb
  rw [if_pos (by omega)] at hs hb
  simp only
  rw [if_pos hs]
  by_cases h2 : i + 2 < u.size
  · rw [if_pos h2] at hb
    rw [bytes_drop u (i + 2) (by omega)]
    simp only
    rw [if_pos (by exact hb)]
  · rw [List.drop_eq_nil_of_le (by rw [bytesOf_length]; omega)]
theorem text_two (u : ByteArray) (i : Nat) (h : i + 1 < u.size) (he : u.size % 2 = 0) (hi : i % 2 = 0) (hs : 55296 ≤ halfAt u i ∧ halfAt u i < 56320) (hb : 56320 ≤ halfAt u (i + 2) ∧ halfAt u (i + 2) ≤ 57343) : i + 3 < u.size ∧ textI ((bytesOf u).drop i) = (textI ((bytesOf u).drop (i + 4))).map (putI (65536 + (halfAt u i - 55296) * 1024 + (halfAt u (i + 2) - 56320)) ++ ·) := by
  rw [bytes_drop u i h, textI.eq_def]
  unfold halfAt at hs hb ⊢
  rw [if_pos (by omega)] at hs ⊢
  simp only
  rw [if_pos (by omega)]
  by_cases h2 : i + 2 < u.size
  · rw [if_pos h2] at hb ⊢
    refine ⟨by omega, ?_⟩
    rw [bytes_drop u (i + 2) (by omega)]
    simp only
    rw [if_neg (by have : ((i + 2 : Nat) : Int) = (i : Int) + 2 := rfl; omega)]
  · rw [if_neg h2] at hb
    omega
set_option maxRecDepth 100000 in
set_option maxHeartbeats 4000000 in
theorem text_odd (u : ByteArray) (w : World) (hu : u.size ≤ 1000000) (he : u.size % 2 ≠ 0) :
    Calls Try.prog 28 #[.string u] w fun e w' => e = .returned (.tuple #[.string ⟨#[]⟩, .int .i64 4]) ∧ Below w.heap.size w w' := by
  have hb : ((u.size : Int) % 2 != 0) = true := by
    simp
    omega
  go_enter Try.func28, Try.ntmps28
  go_wp2_with fail
  go_ret2
  exact ⟨rfl, below_alloc (Below.refl _ _) _⟩
theorem half_calls' (b : Nat) (u : ByteArray) (i : Nat) (x : Int) (hx : x = (i : Int)) (w : World) (hc : w.cell? ⟨b, 0, none⟩ = some (.string u)) (hu : u.size ≤ 1000000) (hi : i < u.size → i + 1 < u.size) (hi2 : i ≤ 1000002) :
    Calls Try.prog 45 #[.int .i64 x, .pointer (some ⟨b, 0, none⟩)] w fun e w' => e = .returned (.int .i32 (halfAt u i)) ∧ Below w.heap.size w w' := by
  subst hx
  exact half_calls b u i w hc hu hi hi2
theorem rune_calls (B : Nat) (v : Value) (acc : List Int) (r : Int) (h0 : 0 ≤ r) (h1 : r ≤ 1114111) (hs : r < 55296 ∨ 57343 < r) (W0 w : World) (hown : w.ownsRow B 5 1 v acc.length (nums .u8 acc)) (hlen : acc.length ≤ 4000000) (hB : Below B W0 w) (hsz : B ≤ w.heap.size) :
    Calls Try.prog 46 #[v, .int .i32 r] w fun e w' => ∃ v', e = .returned v' ∧ w'.ownsRow B 5 1 v' (acc ++ putI r).length (nums .u8 (acc ++ putI r)) ∧ Below B W0 w' := by
  refine (Try.utf8_AppendRune_plain B v acc.length (nums .u8 acc) r (by omega) (by omega) w hown (by omega) hsz).mono ?_
  rintro e w' ⟨v', rfl, ho, o, hg⟩
  rw [runeCells_put r h0 h1 hs] at ho
  refine ⟨v', rfl, ?_, ?_⟩
  · rw [List.length_append, nums_append]
    simpa [nums] using ho
  · have hb2 : Below B W0 (w.alloc o) := hB.alloc hsz o
    exact hb2.grown hg (Nat.le_trans hsz (World.size_alloc .. ▸ Nat.le_succ _)) (fun k hk => own_base hown k hk)
theorem text_acc (o : Option (List Int)) (acc p : List Int) : (o.map (p ++ ·)).map (acc ++ ·) = o.map ((acc ++ p) ++ ·) := by
  cases o with
  | none => rfl
  | some l => simp
def textR (u : ByteArray) : ByteArray × Int := match textI (bytesOf u) with | none => (⟨#[]⟩, 4) | some l => (strOfNums l, 0)
theorem textR_none (u : ByteArray) (h : textI (bytesOf u) = none) : textR u = (⟨#[]⟩, 4) := by unfold textR; rw [h]
theorem textR_some (u : ByteArray) (l : List Int) (h : textI (bytesOf u) = some l) : textR u = (strOfNums l, 0) := by unfold textR; rw [h]
set_option maxRecDepth 100000 in
set_option maxHeartbeats 4000000 in
theorem text_even (u : ByteArray) (w : World) (hu : u.size ≤ 1000000) (he : u.size % 2 = 0) :
    Calls Try.prog 28 #[.string u] w fun e w' => e = .returned (.tuple #[.string (textR u).1, .int .i64 (textR u).2]) ∧ Below w.heap.size w w' := by
  have hb : ((u.size : Int) % 2 != 0) = false := by
    simp
    omega
  have hB0 : Below w.heap.size w (w.alloc (.cells #[.string u] 9)) := below_alloc (Below.refl _ _) _
  have bk0 := blk_new w (.cells #[.string u] 9)
  obtain ⟨W0, hW0⟩ : ∃ W0, w.alloc (.cells #[.string u] 9) = W0 := ⟨_, rfl⟩
  have hown0 : Aside0 (W0.ownsRow W0.heap.size 5 1 (.slice none 0 0) ([] : List Int).length (nums .u8 [])) := ⟨World.ownsRow_nil _ _ _ _⟩
  have T0 : Aside0 (textI (bytesOf u) = (textI ((bytesOf u).drop 0)).map (([] : List Int) ++ ·)) := ⟨by rw [List.drop_zero]; simp⟩
  rw [hW0] at hB0 bk0
  replace bk0 := Aside0.mk bk0
  replace hB0 := Aside0.mk hB0
  replace hW0 := Aside0.mk hW0
  replace he := Aside0.mk he
  have eg := fun args w => enters_ Try.func45 (by kernel_rfl) rfl args w
  go_enter Try.func28, Try.ntmps28
  go_wp2_with fail
  rw [hW0.out]
  go_loopg [4, 6] u.size (fun gg s4 s6 wr => ∃ (i : Nat) (acc : List Int), i ≤ u.size ∧ i % 2 = 0 ∧ u.size - i ≤ gg ∧ s6 = .int .i64 i ∧ acc.length ≤ 2 * i ∧ Aside0 (wr.ownsRow W0.heap.size 5 1 s4 acc.length (nums .u8 acc)) ∧ Aside0 (textI (bytesOf u) = (textI ((bytesOf u).drop i)).map (acc ++ ·)) ∧ Aside0 (Below W0.heap.size W0 wr))
  case atStart => exact ⟨0, [], Nat.zero_le _, rfl, by omega, rfl, by simp, hown0, T0, ⟨Below.refl _ _⟩⟩
  case round =>
    obtain ⟨i, acc, hi, hi2, hg, rfl, hacc, OW, TX, BW⟩ := hrel
    have c0 : wr.cell? ⟨w.heap.size, 0, none⟩ = some (.string u) := (blk_cell (blk_below bk0.out BW.out) 0).trans rfl
    by_cases hlt : i < u.size
    · have hltb : decide (i < u.size) = true := decide_eq_true hlt
      have hi1 : i + 1 < u.size := by have := he.out; omega
      have hc1 := half_calls w.heap.size u i wr c0 hu (fun _ => hi1) (by omega)
      have hr1 := halfAt_range u i
      replace hc1 := Aside0.mk hc1
      have hj2 : i + 2 < u.size → i + 2 + 1 < u.size := by have := he.out; omega
      obtain ⟨cc, hcc⟩ : ∃ cc, halfAt u i = cc := ⟨_, rfl⟩
      rw [hcc] at hr1
      by_cases h1 : cc < 55296
      · have t1 : decide ((55296 : Int) ≤ cc) = false := decide_eq_false (by omega)
        have hT := text_one u i hi1 (.inl (by rw [hcc]; exact h1))
        rw [hcc] at hT
        have TX2 : Aside0 (textI (bytesOf u) = (textI ((bytesOf u).drop (i + 2))).map ((acc ++ putI cc) ++ ·)) := ⟨by rw [TX.out, hT, text_acc]⟩
        have hpl := putI_len cc
        have hal : (acc ++ putI cc).length = acc.length + (putI cc).length := List.length_append
        replace hcc := Aside0.mk hcc
        clear hT
        go_wp2_with fail
        refine hc1.out.mono ?_
        rintro e w1 ⟨rfl, hb1⟩
        rw [hcc.out]
        replace hb1 := Aside0.mk hb1
        go_wp2_with fail
        replace hb1 := hb1.out
        have hW1 : Below W0.heap.size W0 w1 := below_step BW.out hb1
        have OW1 := pw_own_below OW.out hb1
        refine (rune_calls W0.heap.size _ acc cc (by omega) (by omega) (.inl h1) W0 w1 OW1 (by omega) hW1 hW1.size).mono ?_
        rintro e w2 ⟨v', rfl, OW2, BW2⟩
        replace OW2 := Aside0.mk OW2
        replace BW2 := Aside0.mk BW2
        replace hW1 := Aside0.mk hW1
        clear OW1 hb1
        go_wp2_with fail
        go_roundg (u.size - (i + 2))
        case measure => omega
        case rel => exact ⟨i + 2, acc ++ putI cc, by omega, by omega, Nat.le_refl _, by go_num, by omega, OW2, TX2, BW2⟩
      by_cases h2 : 57343 < cc
      · have t1 : decide ((55296 : Int) ≤ cc) = true := decide_eq_true (by omega)
        have t2 : decide (cc ≤ (57343 : Int)) = false := decide_eq_false (by omega)
        have hT := text_one u i hi1 (.inr (by rw [hcc]; exact h2))
        rw [hcc] at hT
        have TX2 : Aside0 (textI (bytesOf u) = (textI ((bytesOf u).drop (i + 2))).map ((acc ++ putI cc) ++ ·)) := ⟨by rw [TX.out, hT, text_acc]⟩
        have hpl := putI_len cc
        have hal : (acc ++ putI cc).length = acc.length + (putI cc).length := List.length_append
        replace hcc := Aside0.mk hcc
        clear hT
        go_wp2_with fail
        refine hc1.out.mono ?_
        rintro e w1 ⟨rfl, hb1⟩
        rw [hcc.out]
        replace hb1 := Aside0.mk hb1
        go_wp2_with fail
        replace hb1 := hb1.out
        have hW1 : Below W0.heap.size W0 w1 := below_step BW.out hb1
        have OW1 := pw_own_below OW.out hb1
        refine (rune_calls W0.heap.size _ acc cc (by omega) (by omega) (.inr h2) W0 w1 OW1 (by omega) hW1 hW1.size).mono ?_
        rintro e w2 ⟨v', rfl, OW2, BW2⟩
        replace OW2 := Aside0.mk OW2
        replace BW2 := Aside0.mk BW2
        replace hW1 := Aside0.mk hW1
        clear OW1 hb1
        go_wp2_with fail
        go_roundg (u.size - (i + 2))
        case measure => omega
        case rel => exact ⟨i + 2, acc ++ putI cc, by omega, by omega, Nat.le_refl _, by go_num, by omega, OW2, TX2, BW2⟩
      · have t1 : decide ((55296 : Int) ≤ cc) = true := decide_eq_true (by omega)
        have t2 : decide (cc ≤ (57343 : Int)) = true := decide_eq_true (by omega)
        have hr2 := halfAt_range u (i + 2)
        obtain ⟨dd, hdd⟩ : ∃ dd, halfAt u (i + 2) = dd := ⟨_, rfl⟩
        rw [hdd] at hr2
        by_cases h3 : 56320 ≤ cc
        · have t3 : decide ((56320 : Int) ≤ cc) = true := decide_eq_true h3
          have hT := text_bad u i hi1 he.out hi2 (by rw [hcc]; omega) (.inl (by rw [hcc]; exact h3))
          have TX2 : textR u = (⟨#[]⟩, 4) := textR_none u (by rw [TX.out, hT]; rfl)
          replace TX2 := Aside0.mk TX2
          replace hcc := Aside0.mk hcc
          replace hdd := Aside0.mk hdd
          clear hT
          go_wp2_with fail
          refine hc1.out.mono ?_
          rintro e w1 ⟨rfl, hb1⟩
          rw [hcc.out]
          have d1 : w1.cell? ⟨w.heap.size, 0, none⟩ = some (.string u) := (hb1.cell (World.block_lt_of_cell? _ _ c0)).trans c0
          have hc2 := Aside0.mk (half_calls' w.heap.size u (i + 2) ((i : Int) + 2) (by omega) w1 d1 hu hj2 (by omega))
          replace hb1 := Aside0.mk hb1
          clear d1
          go_wp2_with fail
          refine hc2.out.mono ?_
          rintro e w2 ⟨rfl, hb2⟩
          rw [hdd.out]
          replace hb2 := Aside0.mk hb2
          go_wp2_with fail
          go_ret2
          exact ⟨by rw [TX2.out]; rfl, below_step (below_step (below_step hB0.out BW.out) hb1.out) hb2.out⟩
        have t3 : decide ((56320 : Int) ≤ cc) = false := decide_eq_false h3
        by_cases h4 : dd < 56320
        · have t4 : decide (dd < (56320 : Int)) = true := decide_eq_true h4
          have hT := text_bad u i hi1 he.out hi2 (by rw [hcc]; omega) (.inr (.inl (by rw [hdd]; exact h4)))
          have TX2 : textR u = (⟨#[]⟩, 4) := textR_none u (by rw [TX.out, hT]; rfl)
          replace TX2 := Aside0.mk TX2
          replace hcc := Aside0.mk hcc
          replace hdd := Aside0.mk hdd
          clear hT
          go_wp2_with fail
          refine hc1.out.mono ?_
          rintro e w1 ⟨rfl, hb1⟩
          rw [hcc.out]
          have d1 : w1.cell? ⟨w.heap.size, 0, none⟩ = some (.string u) := (hb1.cell (World.block_lt_of_cell? _ _ c0)).trans c0
          have hc2 := Aside0.mk (half_calls' w.heap.size u (i + 2) ((i : Int) + 2) (by omega) w1 d1 hu hj2 (by omega))
          replace hb1 := Aside0.mk hb1
          clear d1
          go_wp2_with fail
          refine hc2.out.mono ?_
          rintro e w2 ⟨rfl, hb2⟩
          rw [hdd.out]
          replace hb2 := Aside0.mk hb2
          go_wp2_with fail
          go_ret2
          exact ⟨by rw [TX2.out]; rfl, below_step (below_step (below_step hB0.out BW.out) hb1.out) hb2.out⟩
        have t4 : decide (dd < (56320 : Int)) = false := decide_eq_false h4
        by_cases h5 : 57343 < dd
        · have t5 : decide ((57343 : Int) < dd) = true := decide_eq_true h5
          have hT := text_bad u i hi1 he.out hi2 (by rw [hcc]; omega) (.inr (.inr (by rw [hdd]; exact h5)))
          have TX2 : textR u = (⟨#[]⟩, 4) := textR_none u (by rw [TX.out, hT]; rfl)
          replace TX2 := Aside0.mk TX2
          replace hcc := Aside0.mk hcc
          replace hdd := Aside0.mk hdd
          clear hT
          go_wp2_with fail
          refine hc1.out.mono ?_
          rintro e w1 ⟨rfl, hb1⟩
          rw [hcc.out]
          have d1 : w1.cell? ⟨w.heap.size, 0, none⟩ = some (.string u) := (hb1.cell (World.block_lt_of_cell? _ _ c0)).trans c0
          have hc2 := Aside0.mk (half_calls' w.heap.size u (i + 2) ((i : Int) + 2) (by omega) w1 d1 hu hj2 (by omega))
          replace hb1 := Aside0.mk hb1
          clear d1
          go_wp2_with fail
          refine hc2.out.mono ?_
          rintro e w2 ⟨rfl, hb2⟩
          rw [hdd.out]
          replace hb2 := Aside0.mk hb2
          go_wp2_with fail
          go_ret2
          exact ⟨by rw [TX2.out]; rfl, below_step (below_step (below_step hB0.out BW.out) hb1.out) hb2.out⟩
        · have t5 : decide ((57343 : Int) < dd) = false := decide_eq_false h5
          obtain ⟨hi4, hT⟩ := text_two u i hi1 he.out hi2 (by rw [hcc]; omega) (by rw [hdd]; omega)
          rw [hcc, hdd] at hT
          obtain ⟨rr, hrr⟩ : ∃ rr, 65536 + (cc - 55296) * 1024 + (dd - 56320) = rr := ⟨_, rfl⟩
          rw [hrr] at hT
          have TX2 : Aside0 (textI (bytesOf u) = (textI ((bytesOf u).drop (i + 4))).map ((acc ++ putI rr) ++ ·)) := ⟨by rw [TX.out, hT, text_acc]⟩
          have hpl := putI_len rr
          have hal : (acc ++ putI rr).length = acc.length + (putI rr).length := List.length_append
          replace hcc := Aside0.mk hcc
          replace hdd := Aside0.mk hdd
          clear hT
          replace hrr := Aside0.mk hrr
          go_wp2_with fail
          refine hc1.out.mono ?_
          rintro e w1 ⟨rfl, hb1⟩
          rw [hcc.out]
          have d1 : w1.cell? ⟨w.heap.size, 0, none⟩ = some (.string u) := (hb1.cell (World.block_lt_of_cell? _ _ c0)).trans c0
          have hc2 := Aside0.mk (half_calls' w.heap.size u (i + 2) ((i : Int) + 2) (by omega) w1 d1 hu hj2 (by omega))
          replace hb1 := Aside0.mk hb1
          clear d1
          go_wp2_with fail
          refine hc2.out.mono ?_
          rintro e w2 ⟨rfl, hb2⟩
          rw [hdd.out]
          replace hb2 := Aside0.mk hb2
          go_wp2_with fail
          have hW2 : Below W0.heap.size W0 w2 := below_step (below_step BW.out hb1.out) hb2.out
          have OW1 := pw_own_below (pw_own_below OW.out hb1.out) hb2.out
          rw [hrr.out]
          refine (rune_calls W0.heap.size _ acc rr (by have := hrr.out; omega) (by have := hrr.out; omega) (by have := hrr.out; omega) W0 w2 OW1 (by omega) hW2 hW2.size).mono ?_
          rintro e w3 ⟨v', rfl, OW3, BW3⟩
          replace OW3 := Aside0.mk OW3
          replace BW3 := Aside0.mk BW3
          clear OW1 hb1 hb2 hW2
          go_wp2_with fail
          go_roundg (u.size - (i + 4))
          case measure => omega
          case rel => exact ⟨i + 4, acc ++ putI rr, by omega, by omega, Nat.le_refl _, by go_num, by omega, OW3, TX2, BW3⟩
    · have hltb : decide (i < u.size) = false := decide_eq_false hlt
      have TX2 : textR u = (strOfNums acc, 0) := textR_some u acc (by rw [TX.out, text_end u i (by omega)]; simp)
      replace TX2 := Aside0.mk TX2
      have ks := own_string (P := Try.prog) Try.underlying48 Try.underlying5 Try.underlying9 OW.out
      go_wp2_with fail
      go_ret2
      exact ⟨by rw [TX2.out]; rfl, below_step hB0.out BW.out⟩
theorem cmap_Text.calls (u : ByteArray) (r1 : ByteArray) (r2 : Int) (w : World) (h : cmap_Text.f u = some (r1, r2)) :
    Calls Try.prog 28 #[.string u] w fun e w' => e = .returned (.tuple #[.string r1, .int .i64 r2]) ∧ Below w.heap.size w w' := by
  unfold cmap_Text.f at h
  by_cases hu : u.size ≤ 1000000
  · rw [if_pos hu] at h
    by_cases he : u.size % 2 = 0
    · rw [if_pos he] at h
      have h2 : textR u = (r1, r2) := Option.some.inj h
      have h3 := text_even u w hu he
      rw [h2] at h3
      exact h3
    · rw [if_neg he] at h
      obtain ⟨rfl, rfl⟩ := Prod.mk.inj (Option.some.inj h)
      exact text_odd u w hu he
  · rw [if_neg hu] at h
    cases h
#print axioms cmap_Text.calls
end Go.Proofs.Ytjhpcfpccnfniaa.A
