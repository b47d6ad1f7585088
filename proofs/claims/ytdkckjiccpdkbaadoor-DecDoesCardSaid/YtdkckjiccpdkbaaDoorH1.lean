/- dec.Parse. -/
import Derived.Test.YtdkckjiccpdkbaaDoorA2
import Derived.Deep.DeepCutAuto
import Derived.WalkMore
import Derived.RangeFuncRecord
namespace Go.Proofs.YtdkckjiccpdkbaaDoor.H
open Go.RowKit Go.Proofs.YtdkckjiccpdkbaaDoorW.PrintWords Go.Proofs.YtdkckjiccpdkbaaDoorW.PrintLast Go.Proofs.YtdkckjiccpdkbaaDoorW.PrintMore Go.Proofs.YtdkckjiccpdkbaaDoor.A
attribute [local go_sem] max2_int min2_int max_two min_two max_three min_three max_four min_four
set_option linter.unusedVariables false
set_option linter.unusedSimpArgs false
def headB : List UInt8 → Bool × List UInt8
  | [] => (false, [])
  | c :: t => if c = 43 ∨ c = 45 then (decide (c = 45), t) else (false, c :: t)
def hasSign : List UInt8 → Bool
  | [] => false
  | c :: _ => c == 43 || c == 45
def digs : List UInt8 → Int → Int → Int → Option (Int × Int × Int)
  | [], m, many, e => some (m, many, e)
  | c :: t, m, many, e =>
    if (c.toNat : Int) < 48 ∨ 57 < (c.toNat : Int) then none
    else
      let many' := if many > 0 ∨ 48 < (c.toNat : Int) then many + 1 else many
      if many' > 18 then digs t m many' 5 else digs t (m * 10 + ((c.toNat : Int) - 48)) many' e
def parseDigs (k : Nat) (below : Bool) (front back : List UInt8) : Option (Int × Int × Int) :=
  match digs (front ++ back) 0 0 0 with
  | none => some (0, 0, 4)
  | some (m, _, e) => if e ≠ 0 ∨ back.length > 9 then some (0, 0, 5) else dec_tell.f k below 0 m back.length
def dec_Parse.f (k : Nat) (a0 : ByteArray) : Option (Int × Int × Int) :=
  if a0.size > 40 then some (0, 0, 4)
  else
    let h := headB a0.data.toList
    let c := cutAt h.2 46
    if c.1 ++ c.2.1 = [] then some (0, 0, 4) else parseDigs k h.1 (Lib.trimLeftB c.1 48) (Lib.trimRightB c.2.1 48)
theorem headB_len (l : List UInt8) : (headB l).2.length ≤ l.length := by
  cases l with
  | nil => exact Nat.le_refl _
  | cons c t =>
    show (if c = 43 ∨ c = 45 then (decide (c = 45), t) else (false, c :: t)).2.length ≤ _
    split <;> simp
theorem cutAt_len (l : List UInt8) (c : UInt8) : (cutAt l c).1.length ≤ l.length ∧ (cutAt l c).2.1.length ≤ l.length := by
  unfold cutAt
  split
  · exact ⟨by rw [List.length_take]; omega, by rw [List.length_drop]; omega⟩
  · exact ⟨Nat.le_refl _, Nat.zero_le _⟩
set_option maxRecDepth 100000 in
set_option maxHeartbeats 4000000 in
theorem parse_long (a0 : ByteArray) (hs : a0.size > 40) (w : World) :
    Calls Tryd.prog 10 #[.string a0] w fun e w' => e = .returned (.tuple #[.agg #[.int .i64 0, .int .i64 0], .int .i64 4]) ∧ Below w.heap.size w w' := by
  have hb : decide (40 < (a0.size : Int)) = true := by simp; omega
  have hb2 : decide (40 < a0.size) = true := by simp; omega
  clear hs
  go_enter Tryd.func10, Tryd.ntmps10
  go_wp2
  go_step3
  go_wp2
  rw [Exit.noGoto_ret]
  refine bodyPost_ret (results_ct rfl _ _ w.heap.size 23 #[.int .i64 0, .int .i64 0] (0, 0) _ rfl ?_ Tryd.underlying23 rfl (by kernel_rfl)) rfl ?_
  · exact World.alloc_heap_new w _
  · exact ⟨rfl, below_alloc (Below.refl _ _) _⟩
set_option maxRecDepth 100000 in
set_option maxHeartbeats 4000000 in
theorem parse_short (k : Nat) (a0 : ByteArray) (hs : ¬ a0.size > 40) (r1 r2 r3 : Int) (w : World) (h : dec_Parse.f k a0 = some (r1, r2, r3)) :
    Calls Tryd.prog 10 #[.string a0] w fun e w' => e = .returned (.tuple #[.agg #[.int .i64 r1, .int .i64 r2], .int .i64 r3]) ∧ Below w.heap.size w w' := by
  have hb : decide (40 < (a0.size : Int)) = false := by simp; omega
  have hb2 : decide (40 < a0.size) = false := by simp; omega
  have HLONG := Aside0.mk hs
  clear hs
  go_enter Tryd.func10, Tryd.ntmps10
  go_wp2
  go_step3
  go_upto_region 5 with (fail)
  have hs0 : a0.toList = a0.data.toList := ByteArray.toList_eq a0
  have hz0 : a0.size = a0.data.toList.length := by rw [Array.length_toList]; rfl
  obtain ⟨l, hl⟩ : ∃ l, a0.data.toList = l := ⟨_, rfl⟩
  have h' := Aside0.mk h
  have HL := Aside0.mk hl
  have HS := Aside0.mk hs0
  have HZ := Aside0.mk hz0
  clear h hl hs0 hz0
  go_cut [30] (fun v30 wc => v30 = .bool (hasSign l) ∧ wc = w.alloc (.cells #[.int .i64 0, .int .i64 0] 23))
  case first =>
    cases l with
    | nil =>
      have e1 : a0.toList = [] := by rw [HS.out, HL.out]
      have e2 : (!a0.toList.isEmpty) = false := by rw [e1]; rfl
      go_wp2
      go_meet
      case rel => exact ⟨rfl, rfl⟩
    | cons c t =>
      have e3 : 0 < a0.size := by rw [HZ.out, HL.out]; exact Nat.succ_pos _
      have e1 : a0.toList ≠ [] := by rw [HS.out, HL.out]; exact List.cons_ne_nil _ _
      have e2 : (!a0.toList.isEmpty) = true := by rw [HS.out, HL.out]; rfl
      have hc : a0[0]'e3 = c := by
        have : a0[0]'e3 = a0.data.toList[0]'(by rw [← HZ.out]; exact e3) := rfl
        rw [this]
        simp [HL.out]
      by_cases h43 : c = 43
      · have hn : ((a0[0]'e3).toNat : Int) = 43 := by rw [hc, h43]; rfl
        clear hc
        have hr : hasSign (c :: t) = true := by rw [h43]; rfl
        have HR := Aside0.mk hr
        clear hr
        go_wp2
        go_meet
        case rel => exact ⟨by rw [HR.out], rfl⟩
      · by_cases h45 : c = 45
        · have hn : ((a0[0]'e3).toNat : Int) = 45 := by rw [hc, h45]; rfl
          clear hc
          have hr : hasSign (c :: t) = true := by rw [h45]; rfl
          have HR := Aside0.mk hr
          clear hr
          go_wp2
          go_meet
          case rel => exact ⟨by rw [HR.out], rfl⟩
        · have hn1 : (((a0[0]'e3).toNat : Int) == 43) = false := by
            rw [hc]
            exact beq_eq_false_iff_ne.mpr (fun e => h43 (UInt8.toNat_inj.1 (show c.toNat = 43 by omega)))
          have hn2 : (((a0[0]'e3).toNat : Int) == 45) = false := by
            rw [hc]
            exact beq_eq_false_iff_ne.mpr (fun e => h45 (UInt8.toNat_inj.1 (show c.toNat = 45 by omega)))
          clear hc
          have hr : hasSign (c :: t) = false := by
            show (c == 43 || c == 45) = false
            rw [Bool.or_eq_false_iff]
            exact ⟨beq_eq_false_iff_ne.mpr h43, beq_eq_false_iff_ne.mpr h45⟩
          have HR := Aside0.mk hr
          clear hr
          go_wp2
          go_meet
          case rel => exact ⟨by rw [HR.out], rfl⟩
  case rest =>
    obtain ⟨rfl, rfl⟩ := hcut
    obtain ⟨sg, hsg⟩ : ∃ sg, hasSign l = sg := ⟨_, rfl⟩
    rw [hsg]
    have HSG := Aside0.mk hsg
    clear hsg
    go_upto_if 30 with (fail)
    go_cut [4, 5] (fun v4 v5 wc => v4 = .string ⟨(headB l).2.toArray⟩ ∧ v5 = .bool (headB l).1 ∧ ∃ n, wc = (w.alloc (.cells #[.int .i64 0, .int .i64 0] 23)).drewN n)
    case first =>
      have hself : (⟨l.toArray⟩ : ByteArray) = a0 := by rw [← HL.out]
      cases sg with
      | true =>
        have hsg := HSG.out
        cases l with
        | nil => cases hsg
        | cons c t =>
          have e3 : 0 < a0.size := by rw [HZ.out, HL.out]; exact Nat.succ_pos _
          have e4 : (1 : Int) ≤ (a0.size : Int) := by omega
          have hc : a0[0]'e3 = c := by
            have : a0[0]'e3 = a0.data.toList[0]'(by rw [← HZ.out]; exact e3) := rfl
            rw [this]
            simp [HL.out]
          have hx : a0.extract 1 a0.size = ⟨t.toArray⟩ := by
            rw [Lib.extract_eq, HL.out]
            congr 2
            rw [List.drop_succ_cons, List.drop_zero, List.take_of_length_le (by rw [HZ.out, HL.out]; simp)]
          have hor : c = 43 ∨ c = 45 := by
            have : (c == 43 || c == 45) = true := hsg
            rw [Bool.or_eq_true, beq_iff_eq, beq_iff_eq] at this
            exact this
          have hh : headB (c :: t) = (decide (c = 45), t) := by
            show (if c = 43 ∨ c = 45 then (decide (c = 45), t) else (false, c :: t)) = _
            rw [if_pos hor]
          have hb45 : (((a0[0]'e3).toNat : Int) == 45) = decide (c = 45) := by
            rw [hc, Bool.eq_iff_iff, beq_iff_eq, decide_eq_true_iff]
            constructor
            · intro e
              exact UInt8.toNat_inj.1 (show c.toNat = 45 by omega)
            · intro e
              rw [e]
              rfl
          have HH := Aside0.mk hh
          clear hc hor hh hself hsg
          go_wp2
          go_quiet (fail)
          go_wp2
          go_meet
          case rel => exact ⟨by rw [HH.out], by rw [HH.out], nq, rfl⟩
      | false =>
        have hsf := HSG.out
        have hh : headB l = (false, l) := by
          cases l with
          | nil => rfl
          | cons c t =>
            show (if c = 43 ∨ c = 45 then (decide (c = 45), t) else (false, c :: t)) = _
            rw [if_neg]
            intro e
            have h2 : (c == 43 || c == 45) = false := hsf
            rw [Bool.or_eq_false_iff, beq_eq_false_iff_ne, beq_eq_false_iff_ne] at h2
            exact e.elim h2.1 h2.2
        have HH := Aside0.mk hh
        have HSE := Aside0.mk hself
        clear hh hself hsf
        go_wp2
        go_meet
        case rel => exact ⟨by rw [HH.out, HSE.out], by rw [HH.out], 0, by simp [World.drewN_zero]⟩
    case rest =>
      obtain ⟨rfl, rfl, n0, rfl⟩ := hcut
      have hb0 : Below w.heap.size w ((w.alloc (.cells #[.int .i64 0, .int .i64 0] 23)).drewN n0) := pw_below_drewN (below_alloc (Below.refl _ _) _) _
      have hk0 : ((w.alloc (.cells #[.int .i64 0, .int .i64 0] 23)).drewN n0).heap[w.heap.size]? = some (.cells #[.int .i64 0, .int .i64 0] 23 (0, 0)) := by
        exact blk_drewN (World.alloc_heap_new w _) _
      obtain ⟨W1, hW1⟩ : ∃ W1, (w.alloc (.cells #[.int .i64 0, .int .i64 0] 23)).drewN n0 = W1 := ⟨_, rfl⟩
      rw [hW1] at hb0 hk0 ⊢
      clear hW1
      have hlen : (headB l).2.length ≤ 40 := by
        have h1 := headB_len l
        have h2 : l.length ≤ 40 := by rw [← HL.out, ← HZ.out]; have := HLONG.out; omega
        omega
      have hcut := cut_any ⟨(headB l).2.toArray⟩ 46 (by show (headB l).2.toArray.size ≤ _; simp; omega) W1
      rw [show (⟨(headB l).2.toArray⟩ : ByteArray).data.toList = (headB l).2 from by simp] at hcut
      have h := h'.out
      have h2 : (if (cutAt (headB l).2 46).1 ++ (cutAt (headB l).2 46).2.1 = [] then some (0, 0, 4) else parseDigs k (headB l).1 (Lib.trimLeftB (cutAt (headB l).2 46).1 48) (Lib.trimRightB (cutAt (headB l).2 46).2.1 48)) = some (r1, r2, r3) := by
        unfold dec_Parse.f at h
        rw [HL.out] at h
        rw [if_neg HLONG.out] at h
        exact h
      have hcl : (cutAt (headB l).2 46).1.length ≤ 40 ∧ (cutAt (headB l).2 46).2.1.length ≤ 40 := by
        have := cutAt_len (headB l).2 46
        omega
      clear h h' HL HS HZ HSG
      generalize cutAt (headB l).2 46 = q at hcut h2 hcl
      generalize (headB l).1 = below at h2 ⊢
      generalize (⟨(headB l).2.toArray⟩ : ByteArray) = rs at hcut ⊢
      obtain ⟨f0, b0, fd⟩ := q
      dsimp only at hcut h2 hcl
      have H2 := Aside0.mk h2
      clear h2
      obtain ⟨F0, hF0⟩ : ∃ F0 : ByteArray, ⟨f0.toArray⟩ = F0 := ⟨_, rfl⟩
      obtain ⟨B0, hB0⟩ : ∃ B0 : ByteArray, ⟨b0.toArray⟩ = B0 := ⟨_, rfl⟩
      rw [hF0, hB0] at hcut
      have hFs : F0.size ≤ 40 := by rw [← hF0]; show f0.toArray.size ≤ _; simpa using hcl.1
      have hBs : B0.size ≤ 40 := by rw [← hB0]; show b0.toArray.size ≤ _; simpa using hcl.2
      have HF0 := Aside0.mk hF0
      have HB0 := Aside0.mk hB0
      clear hF0 hB0 hlen
      go_wp2_with fail
      refine hcut.mono ?_
      rintro e w' ⟨rfl, n1, rfl⟩
      clear hcut
      have hk1 : (W1.drewN n1).heap[w.heap.size]? = some (.cells #[.int .i64 0, .int .i64 0] 23 (0, 0)) := blk_drewN hk0 _
      have hb1 : Below w.heap.size w (W1.drewN n1) := pw_below_drewN hb0 _
      generalize W1.drewN n1 = W2 at hk1 hb1 ⊢
      clear hk0 hb0
      have z0 := blk_cell hk1 0
      have z1 := blk_cell hk1 1
      have zf0 := blk_frozen hk1 0
      have zf1 := blk_frozen hk1 1
      have happ : (F0 ++ B0).toList = f0 ++ b0 := by
        rw [ByteArray.toList_eq, ByteArray.data_append, ← HF0.out, ← HB0.out]
        simp
      by_cases hemp : f0 ++ b0 = []
      · have he : (F0 ++ B0).toList.isEmpty = true := by rw [happ, hemp]; rfl
        have h3 := H2.out
        rw [if_pos hemp] at h3
        have h4 := Option.some.inj h3
        simp only [Prod.mk.injEq] at h4
        obtain ⟨rfl, rfl, rfl⟩ := h4
        clear happ hemp h3
        go_wp2_with fail
        rw [Exit.noGoto_ret]
        refine bodyPost_ret (results_ct rfl _ _ w.heap.size 23 #[.int .i64 0, .int .i64 0] (0, 0) _ rfl (blk_set (blk_set hk1 0 (.int .i64 0)) 1 (.int .i64 0)) Tryd.underlying23 rfl (by kernel_rfl)) rfl ?_
        exact ⟨rfl, (hb1.setCell (p := ⟨w.heap.size, 0, none⟩) (Nat.le_refl _) _).setCell (p := ⟨w.heap.size, 1, none⟩) (Nat.le_refl _) _⟩
      · have he : (F0 ++ B0).toList.isEmpty = false := by
          rw [happ]
          cases hq : f0 ++ b0 with
          | nil => exact absurd hq hemp
          | cons x t => rfl
        have h3 := H2.out
        rw [if_neg hemp] at h3
        have H3 := Aside0.mk h3
        have htl := strings_TrimLeft.calls F0 ⟨#[48]⟩ ⟨(Lib.trimLeftB f0 48).toArray⟩ W2 (by unfold strings_TrimLeft.f; rw [if_pos rfl, ← HF0.out])
        have htr : ∀ W, Calls Tryd.prog 31 #[.string B0, .string ⟨#[48]⟩] W fun e w' => e = .returned (.string ⟨(Lib.trimRightB b0 48).toArray⟩) ∧ Below W.heap.size W w' := fun W => strings_TrimRight.calls B0 ⟨#[48]⟩ ⟨(Lib.trimRightB b0 48).toArray⟩ W (by unfold strings_TrimRight.f; rw [if_pos ⟨rfl, by omega⟩, ← HB0.out])
        have htl1 : (Lib.trimLeftB f0 48).length ≤ 40 := Nat.le_trans (by unfold Lib.trimLeftB; exact (List.dropWhile_sublist _).length_le) hcl.1
        have htr1 : (Lib.trimRightB b0 48).length ≤ 40 := Nat.le_trans (by unfold Lib.trimRightB; rw [List.length_reverse]; exact Nat.le_trans (List.dropWhile_sublist _).length_le (by rw [List.length_reverse]; exact Nat.le_refl _)) hcl.2
        clear H2 hemp h3 happ hcl
        generalize Lib.trimLeftB f0 48 = f1 at htl H3 htl1
        generalize Lib.trimRightB b0 48 = b1 at htr H3 htr1
        obtain ⟨F1, hF1⟩ : ∃ F1 : ByteArray, ⟨f1.toArray⟩ = F1 := ⟨_, rfl⟩
        obtain ⟨B1, hB1⟩ : ∃ B1 : ByteArray, ⟨b1.toArray⟩ = B1 := ⟨_, rfl⟩
        have hF1s : F1.size ≤ 40 := by rw [← hF1]; show f1.toArray.size ≤ _; simpa using htl1
        have hB1s : B1.size ≤ 40 := by rw [← hB1]; show b1.toArray.size ≤ _; simpa using htr1
        have hB1z : B1.size = b1.length := by rw [← hB1]; show b1.toArray.size = _; simp
        have happ : (F1 ++ B1).data.toList = f1 ++ b1 := by
          rw [ByteArray.data_append, ← hF1, ← hB1]
          simp
        rw [hF1] at htl
        simp only [hB1] at htr
        have HAPP := Aside0.mk happ
        have HB1Z := Aside0.mk hB1z
        have HTR := Aside0.mk htr
        clear happ hF1 hB1 htl1 htr1 hB1z htr
        go_wp2_with fail
        refine htl.mono ?_
        rintro e w3 ⟨rfl, hB3⟩
        have hk3 := blk_below hk1 hB3
        have hb3 : Below w.heap.size w w3 := below_step hb1 hB3
        clear hk1 hb1 htl hB3 z0 z1 zf0 zf1 he
        go_wp2_with fail
        refine (HTR.out _).mono ?_
        rintro e w4 ⟨rfl, hB4⟩
        have hk4 := blk_below hk3 hB4
        have hb4 : Below w.heap.size w w4 := below_step hb3 hB4
        clear hk3 hb3 hB4 HTR
        have kb := fun W => print_bytes (P := Tryd.prog) 9 49 5 Tryd.underlying9 Tryd.underlying49 Tryd.underlying5 (F1 ++ B1) W
        go_wp2_with fail
        go_step3
        go_wp2_with fail
        clear kb
        have hgW : ∀ j, j < w4.heap.size → (Lib.bytesWorld w4 5 (F1 ++ B1)).heap[j]? = w4.heap[j]? := Lib.bytesWorld_at_old w4 5 (F1 ++ B1)
        have hcell : ∀ j, j < (F1 ++ B1).size → (Lib.bytesWorld w4 5 (F1 ++ B1)).cell? ⟨w4.heap.size, j, none⟩ = some (.int .u8 ((f1 ++ b1).getD j 0).toNat) := fun j hj => by
          rw [Lib.bytesWorld_cell w4 5 (F1 ++ B1) j hj, HAPP.out]
        have hkL : (Lib.bytesWorld w4 5 (F1 ++ B1)).heap[w.heap.size]? = some (.cells #[.int .i64 0, .int .i64 0] 23 (0, 0)) := by
          rw [hgW _ (blk_lt hk4)]
          exact hk4
        have hbL : Below w.heap.size w (Lib.bytesWorld w4 5 (F1 ++ B1)) := bytes_below hb4 hb4.size 5 _
        have hsz : (F1 ++ B1).size = (f1 ++ b1).length := by rw [← HAPP.out, Array.length_toList]; rfl
        have hsz2 : (f1 ++ b1).length ≤ 80 := by
          rw [← hsz]
          have : (F1 ++ B1).size = F1.size + B1.size := by simp [ByteArray.size_append]
          omega
        generalize Lib.bytesWorld w4 5 (F1 ++ B1) = WL at hcell hkL hbL ⊢
        clear hgW hk4 hb4
        have H3' := H3.out
        unfold parseDigs at H3'
        have H4 := Aside0.mk H3'
        clear H3 H3'
        generalize hcsq : f1 ++ b1 = cs at hcell hsz hsz2 H4
        clear hcsq
        rw [hsz] at hcell
        have hszS : F1.size + B1.size = cs.length := by rw [← hsz]; simp [ByteArray.size_append]
        have HSZS := Aside0.mk hszS
        clear hszS
        have HSZ := Aside0.mk hsz
        have HCELL := Aside0.mk hcell
        clear hsz hcell
        have z0 := blk_cell hkL 0
        have z1 := blk_cell hkL 1
        have zf0 := blk_frozen hkL 0
        have zf1 := blk_frozen hkL 1
        go_loop [9, 10, 11, 56] (fun v9 v10 v11 v56 => ∃ (kk : Nat) (m many ee : Int), kk ≤ cs.length ∧ v56 = .int .i64 kk ∧ v9 = .int .i64 m ∧ v10 = .int .i64 many ∧ v11 = .int .i64 ee ∧ 0 ≤ many ∧ many ≤ kk ∧ 0 ≤ m ∧ Aside0 (m < 10 ^ 18 ∧ (many ≤ 18 → m < 10 ^ many.toNat)) ∧ Aside0 (digs (cs.drop kk) m many ee = digs cs 0 0 0)) (fun _ _ _ i => cs.length - (Lib.intOf i).toNat)
        case atStart => exact ⟨0, 0, 0, 0, Nat.zero_le _, rfl, rfl, rfl, rfl, by omega, by omega, by omega, ⟨by decide, fun _ => by decide⟩, ⟨rfl⟩⟩
        case round =>
          obtain ⟨kk, m, many, ee, hkk, rfl, rfl, rfl, rfl, hmn0, hmn1, hm0, HM, HD⟩ := hrel
          by_cases hlt : kk < cs.length
          · have c1b : decide ((kk : Int) < (F1.size : Int) + (B1.size : Int)) = true := by have := HSZS.out; simp; omega
            have hki : (kk : Int) < (F1.size : Int) + (B1.size : Int) := by have := HSZS.out; omega
            have hcl := HCELL.out kk hlt
            have hget : cs.getD kk 0 = cs[kk] := by rw [List.getD_eq_getElem?_getD, List.getElem?_eq_getElem hlt]; rfl
            rw [hget] at hcl
            have hd := HD.out
            rw [List.drop_eq_getElem_cons hlt, digs] at hd
            have hb := (cs[kk]).toNat_lt
            generalize cs[kk] = c at hcl hd hb
            have hbz : (c.toNat : Int) < 256 := by omega
            have hb0 : 0 ≤ (c.toNat : Int) := by omega
            clear hget hb
            generalize (c.toNat : Int) = n at hcl hd hbz hb0
            by_cases hbad : n < 48 ∨ 57 < n
            · rw [if_pos hbad] at hd
              have h5 := H4.out
              rw [← hd] at h5
              have h6 := Option.some.inj h5
              simp only [Prod.mk.injEq] at h6
              obtain ⟨rfl, rfl, rfl⟩ := h6
              clear h5 hd
              have hbb : (decide (n < 48) || decide (57 < n)) = true := by simpa using hbad
              by_cases hq : n < 48
              · go_wp2
                refine bodyPost_ret (results_ct rfl _ _ w.heap.size 23 #[.int .i64 0, .int .i64 0] (0, 0) _ rfl (blk_set (blk_set hkL 0 (.int .i64 0)) 1 (.int .i64 0)) Tryd.underlying23 rfl (by kernel_rfl)) rfl ?_
                exact ⟨rfl, (hbL.setCell (p := ⟨w.heap.size, 0, none⟩) (Nat.le_refl _) _).setCell (p := ⟨w.heap.size, 1, none⟩) (Nat.le_refl _) _⟩
              · have hq2 : 57 < n := by omega
                go_wp2
                refine bodyPost_ret (results_ct rfl _ _ w.heap.size 23 #[.int .i64 0, .int .i64 0] (0, 0) _ rfl (blk_set (blk_set hkL 0 (.int .i64 0)) 1 (.int .i64 0)) Tryd.underlying23 rfl (by kernel_rfl)) rfl ?_
                exact ⟨rfl, (hbL.setCell (p := ⟨w.heap.size, 0, none⟩) (Nat.le_refl _) _).setCell (p := ⟨w.heap.size, 1, none⟩) (Nat.le_refl _) _⟩
            · have hn0 : 48 ≤ n := by omega
              have hn1 : n ≤ 57 := by omega
              rw [if_neg hbad] at hd
              clear hbad hb0 hbz
              obtain ⟨hM1, hM2⟩ := HM.out
              by_cases hc : many > 0 ∨ 48 < n
              · rw [if_pos hc] at hd
                dsimp only at hd
                by_cases h18 : many + 1 > 18
                · rw [if_pos h18] at hd
                  have HD2 := Aside0.mk hd
                  have HM2 : Aside0 (m < 10 ^ 18 ∧ (many + 1 ≤ 18 → m < 10 ^ (many + 1).toNat)) := ⟨hM1, fun h => by omega⟩
                  clear hd hM1 hM2 HM HD
                  have hfin : ∀ (x : Int), x = many + 1 → True := fun _ _ => trivial
                  have hmp : 0 < many := by omega
                  go_wp2
                  go_round
                  case rel => exact ⟨kk + 1, m, many + 1, 5, by omega, by go_num, rfl, rfl, rfl, by omega, by omega, hm0, HM2, HD2⟩
                  case measure => simp [Lib.intOf]; omega
                · rw [if_neg h18] at hd
                  have h10 : m < 10 ^ 17 := by
                    have := hM2 (by omega)
                    have h2 : (10 : Int) ^ many.toNat ≤ 10 ^ 17 := by
                      have h3 : many.toNat ≤ 17 := by omega
                      exact_mod_cast Nat.pow_le_pow_right (by decide : 0 < 10) h3
                    omega
                  have h10' : m < 100000000000000000 := by omega
                  have HM2 : Aside0 (m * 10 + (n - 48) < 10 ^ 18 ∧ (many + 1 ≤ 18 → m * 10 + (n - 48) < 10 ^ (many + 1).toNat)) := by
                    refine ⟨by omega, fun h => ?_⟩
                    have h3 := hM2 (by omega)
                    have h4 : (many + 1).toNat = many.toNat + 1 := by omega
                    rw [h4, Int.pow_succ]
                    omega
                  have HD2 := Aside0.mk hd
                  have hm1 : 0 ≤ m * 10 + (n - 48) := by omega
                  clear hd hM1 hM2 HM HD h10
                  by_cases hmp : 0 < many
                  · go_wp2
                    go_round
                    case rel => exact ⟨kk + 1, m * 10 + (n - 48), many + 1, ee, by omega, by go_num, by first | rfl | go_num | (congr 1; omega), rfl, rfl, by omega, by omega, hm1, HM2, HD2⟩
                    case measure => simp [Lib.intOf]; omega
                  · have h48 : 48 < n := by omega
                    obtain rfl : many = 0 := by omega
                    go_wp2
                    go_round
                    case rel => exact ⟨kk + 1, m * 10 + (n - 48), 0 + 1, ee, by omega, by go_num, by first | rfl | go_num | (congr 1; omega), by first | rfl | go_num, rfl, by omega, by omega, hm1, HM2, HD2⟩
                    case measure => simp [Lib.intOf]; omega
              · rw [if_neg hc] at hd
                dsimp only at hd
                obtain rfl : many = 0 := by omega
                obtain rfl : n = 48 := by omega
                rw [if_neg (by decide)] at hd
                have hmz : m = 0 := by
                  have := hM2 (by omega)
                  simp at this
                  omega
                subst hmz
                have HD2 := Aside0.mk hd
                clear hd hM1 hM2
                go_wp2
                go_round
                case rel => exact ⟨kk + 1, 0, 0, ee, by omega, by go_num, by first | rfl | go_num, rfl, rfl, by omega, by omega, by omega, HM, HD2⟩
                case measure => simp [Lib.intOf]; omega
          · have c1b : decide ((kk : Int) < (F1.size : Int) + (B1.size : Int)) = false := by have := HSZS.out; simp; omega
            have hki : (F1.size : Int) + (B1.size : Int) ≤ (kk : Int) := by have := HSZS.out; omega
            have hd := HD.out
            rw [List.drop_eq_nil_of_le (by omega), digs] at hd
            have h5 := H4.out
            rw [← hd] at h5
            dsimp only at h5
            obtain ⟨hM1, _⟩ := HM.out
            have hM1' : m < 1000000000000000000 := by omega
            have hwm : IntKind.u64.wrap m = m := by rw [IntKind.wrap_u64]; omega
            clear hd HD HM hM1 H4
            have hbz := HB1Z.out
            rw [← hbz] at h5
            clear hbz
            by_cases hee : ee = 0
            · subst hee
              by_cases h9 : B1.size > 9
              · rw [if_pos (.inr h9)] at h5
                have h6 := Option.some.inj h5
                simp only [Prod.mk.injEq] at h6
                obtain ⟨rfl, rfl, rfl⟩ := h6
                have hq : 9 < (B1.size : Int) := by omega
                clear h5
                go_wp2_with fail
                refine bodyPost_ret (results_ct rfl _ _ w.heap.size 23 #[.int .i64 0, .int .i64 0] (0, 0) _ rfl (blk_set (blk_set hkL 0 (.int .i64 0)) 1 (.int .i64 0)) Tryd.underlying23 rfl (by kernel_rfl)) rfl ?_
                exact ⟨rfl, (hbL.setCell (p := ⟨w.heap.size, 0, none⟩) (Nat.le_refl _) _).setCell (p := ⟨w.heap.size, 1, none⟩) (Nat.le_refl _) _⟩
              · rw [if_neg (by intro e; exact e.elim (fun h => h rfl) h9)] at h5
                have hq : (B1.size : Int) ≤ 9 := by omega
                have HT := Aside0.mk h5
                clear h5 h9
                go_wp2_with fail
                refine (dec_tell.calls k below 0 m (B1.size : Int) r1 r2 r3 WL HT.out).mono ?_
                rintro e w5 ⟨rfl, hB5⟩
                have hk5 := blk_below hkL hB5
                have hb5 : Below w.heap.size w w5 := below_step hbL hB5
                clear hkL hbL z0 z1 zf0 zf1
                have z0 := blk_cell hk5 0
                have z1 := blk_cell hk5 1
                have zf0 := blk_frozen hk5 0
                have zf1 := blk_frozen hk5 1
                go_wp2_with fail
                rw [Exit.noGoto_ret]
                refine bodyPost_ret (results_ct rfl _ _ w.heap.size 23 #[.int .i64 r1, .int .i64 r2] (0, 0) _ rfl (blk_set (blk_set hk5 0 (.int .i64 r1)) 1 (.int .i64 r2)) Tryd.underlying23 rfl (by kernel_rfl)) rfl ?_
                exact ⟨rfl, (hb5.setCell (p := ⟨w.heap.size, 0, none⟩) (Nat.le_refl _) _).setCell (p := ⟨w.heap.size, 1, none⟩) (Nat.le_refl _) _⟩
            · rw [if_pos (.inl hee)] at h5
              have h6 := Option.some.inj h5
              simp only [Prod.mk.injEq] at h6
              obtain ⟨rfl, rfl, rfl⟩ := h6
              have hq : (ee == 0) = false := beq_eq_false_iff_ne.mpr hee
              have hq2 : (ee != 0) = true := bne_iff_ne.mpr hee
              clear h5
              go_wp2_with fail
              all_goals
                refine bodyPost_ret (results_ct rfl _ _ w.heap.size 23 #[.int .i64 0, .int .i64 0] (0, 0) _ rfl (blk_set (blk_set hkL 0 (.int .i64 0)) 1 (.int .i64 0)) Tryd.underlying23 rfl (by kernel_rfl)) rfl ?_
                exact ⟨rfl, (hbL.setCell (p := ⟨w.heap.size, 0, none⟩) (Nat.le_refl _) _).setCell (p := ⟨w.heap.size, 1, none⟩) (Nat.le_refl _) _⟩
theorem dec_Parse.mono : ∀ a0 k, LeO (dec_Parse.f k a0) (dec_Parse.f (k + 1) a0) := by
  intro a0 k
  unfold dec_Parse.f
  refine LeO.ite (LeO.refl _) ?_
  refine LeO.ite (LeO.refl _) ?_
  unfold parseDigs
  split
  · exact LeO.refl _
  · exact LeO.ite (LeO.refl _) (dec_tell.mono _ _ _ _ _)
theorem dec_Parse.calls (k : Nat) (a0 : ByteArray) (r1 : Int) (r2 : Int) (r3 : Int) (w : World) (h : dec_Parse.f k a0 = some (r1, r2, r3)) :
    Calls Tryd.prog 10 #[.string a0] w fun e w' => e = .returned (.tuple #[.agg #[.int .i64 r1, .int .i64 r2], .int .i64 r3]) ∧ Below w.heap.size w w' := by
  by_cases hs : a0.size > 40
  · unfold dec_Parse.f at h
    rw [if_pos hs] at h
    have h6 := Option.some.inj h
    simp only [Prod.mk.injEq] at h6
    obtain ⟨rfl, rfl, rfl⟩ := h6
    exact parse_long a0 hs w
  · exact parse_short k a0 hs r1 r2 r3 w h
end Go.Proofs.YtdkckjiccpdkbaaDoor.H
