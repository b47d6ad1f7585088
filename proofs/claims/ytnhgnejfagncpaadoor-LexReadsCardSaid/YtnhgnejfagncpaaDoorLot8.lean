/- Put together: H8, H9, L3 (each in a section of its own). -/
import Derived.Test.YtnhgnejfagncpaaDoorLot7
import Derived.Test.YtnhgnejfagncpaaDoorM3
import Derived.Test.YtnhgnejfagncpaaDoorLot5
import Derived.Lib.SmallJoins
import Derived.Test.YtnhgnejfagncpaaDoorLot2
section
namespace Go.Proofs.YtnhgnejfagncpaaDoor.P
open Go Go.RowKit Go.Proofs.YtnhgnejfagncpaaDoorW.PrintWords Go.Proofs.YtnhgnejfagncpaaDoorW.PrintLast Go.Proofs.YtnhgnejfagncpaaDoorW.PrintMore Go.Proofs.YtnhgnejfagncpaaDoor.H Go.Proofs.YtnhgnejfagncpaaDoor.A Go.Proofs.YtnhgnejfagncpaaDoor.B Go.Proofs.YtnhgnejfagncpaaDoor.E Go.Proofs.YtnhgnejfagncpaaDoor.L Go.Proofs.YtnhgnejfagncpaaDoor.M
set_option linter.unusedVariables false
set_option linter.unusedSimpArgs false
def lex_Print.ln : Nat → ByteArray → Int → List UInt8 → Option (List UInt8)
  | 0, _, _, _ => none
  | k + 1, s, i, acc => if i < (s.size : Int) then (if acc.length < 1000000 then (lex_of.f k (bt s i)).bind fun t =>
      if t = 2 then (if bt s i = 35 then lz (fun a => lex_Print.ln k s (i + 1) a) s i acc else if 32 < bt s i then (if bt s i ≤ 126 then lex_Print.ln k s (i + 1) (acc ++ [UInt8.ofNat (bt s i).toNat]) else lz (fun a => lex_Print.ln k s (i + 1) a) s i acc) else lz (fun a => lex_Print.ln k s (i + 1) a) s i acc) else lz (fun a => lex_Print.ln k s (i + 1) a) s i acc
    else none) else some acc
where lz (rest : List UInt8 → Option (List UInt8)) (s : ByteArray) (i : Int) (acc : List UInt8) : Option (List UInt8) := (lex_two.f (bt s i)).bind fun z => if z.size ≤ 100 then rest (acc ++ 35 :: z.data.toList) else none
def lex_Print.lt : Nat → ByteArray → Int → List UInt8 → Option (List UInt8)
  | 0, _, _, _ => none
  | k + 1, s, i, acc => if i < (s.size : Int) then (if acc.length < 1000000 then (lex_two.f (bt s i)).bind fun z => if z.size ≤ 100 then lex_Print.lt k s (i + 1) (acc ++ z.data.toList) else none else none) else some acc
def lex_Print.f (k : Nat) (a0_0 a0_1 a0_2 : Int) (a0_3 : ByteArray) : Option (ByteArray × Int) :=
  (lex_check.f k a0_0 a0_1 a0_2 a0_3).bind fun b => if b = true then
    (if a0_0 = 1 then dec_Print.f k a0_1 a0_2
     else if a0_0 = 2 then (if a0_3.size ≤ 100000 then (lex_Print.ln k a0_3 0 [47]).bind fun L => some (⟨L.toArray⟩, 0) else none)
     else if a0_0 = 3 then (if a0_3.size ≤ 100000 then (lex_Print.lt k a0_3 0 [60]).bind fun L => if L.length < 10000000 then some (⟨(L ++ [62]).toArray⟩, 0) else none else none)
     else if a0_0 = 4 then some (a0_3, 0) else if a0_0 = 5 then some (⟨#[91]⟩, 0) else if a0_0 = 6 then some (⟨#[93]⟩, 0) else if a0_0 = 7 then some (⟨#[60, 60]⟩, 0) else if a0_0 = 8 then some (⟨#[62, 62]⟩, 0) else some (⟨#[]⟩, 0))
  else some (⟨#[]⟩, 1)
theorem bt_byte (s : ByteArray) (i : Int) : ((UInt8.ofNat (bt s i).toNat).toNat : Int) = bt s i := by
  have := bt_range s i
  rw [UInt8.toNat_ofNat']
  omega
theorem cells_snoc (acc : List UInt8) (c : Int) (b : UInt8) (h : (b.toNat : Int) = c) : Lib.byteCells acc ++ [.int .u8 c] = Lib.byteCells (acc ++ [b]) := by
  unfold Lib.byteCells
  rw [List.map_append, List.map_cons, List.map_nil, h]
theorem cells_str (acc : List UInt8) (z : ByteArray) : Lib.byteCells acc ++ Lib.strCells z = Lib.byteCells (acc ++ z.data.toList) := by
  unfold Lib.byteCells Lib.strCells
  rw [List.map_append]
theorem cells_len (acc : List UInt8) : (Lib.byteCells acc).length = acc.length := List.length_map ..
theorem kept_cell {w w' : World} {S : Nat → Prop} (h : Kept w w' S) {g : Nat} (hg : g < w.heap.size) (hn : ¬ S g) (j : Nat) : w'.cell? ⟨g, j, none⟩ = w.cell? ⟨g, j, none⟩ := by
  have e := h.2 g hg hn
  simp [World.cell?, e]
theorem own_narrow {b : Nat} {B : Nat} {p : Value} {bs : List Value} {w w' : World} {P : Nat → Prop} (h : Lib.BuilderAt 59 5 B b p bs w) (hP : OwnP b P w) (hb : Below w.heap.size w w') : OwnP b (fun k => P k ∧ k ≠ w.heap.size) w' := by
  obtain ⟨hB, v, hk, ho, hne⟩ := h
  refine OwnP.of (blk_below hk hb) (fun k hk2 => ⟨hP _ _ _ hk k hk2, ?_⟩)
  have := (ho.lt k hk2).2
  omega
theorem bytes_cell (w : World) (s : ByteArray) (j : Nat) (hj : j < s.size) : (Lib.bytesWorld w 5 s).cell? ⟨w.heap.size, j, none⟩ = some (.int .u8 (bt s j)) := by
  rw [Lib.bytesWorld_cell w 5 s j hj]
  have hj2 : j < s.data.size := hj
  have e : s.data.toList.getD j 0 = s.data[j] := by
    rw [List.getD_eq_getElem?_getD, List.getElem?_eq_getElem (by simpa using hj2)]
    simp
  unfold bt
  rw [dif_pos (show ((j : Int)).toNat < s.size by rw [Int.toNat_natCast]; exact hj), e]
  rfl
theorem writeByte3 (B b : Nat) (P : Nat → Prop) (bs : List Value) (c : Int) (w : World) (n : Nat) (hP : OwnP b P w) (hF : ∀ k, w.heap.size ≤ k → P k) (h : Lib.IsBuilder 59 5 B b bs w) (hlen : bs.length + 1 ≤ 140737488355328) (hBw : B ≤ w.heap.size) :
    Calls Tryd.prog 29 #[.pointer (some ⟨b, 0, none⟩), .int .u8 c] (w.drewN n) fun e w' => e = .returned .nilIface ∧ (Lib.BuilderAt 59 5 B b (.pointer (some ⟨b, 0, none⟩)) (bs ++ [.int .u8 c]) w' ∧ Below B w w' ∧ OwnP b P w' ∧ Kept w w' (fun k => k = b ∨ P k)) :=
  (writeByte2 B b P bs c (w.drewN n) hP hF h hlen hBw).mono fun e w' ⟨h1, h2, h3, h4, h5⟩ => ⟨h1, h2, (pw_below_drewN (Below.refl _ _) n).trans h3, h4, h5⟩
theorem writeString3 (B b : Nat) (P : Nat → Prop) (bs : List Value) (s : ByteArray) (w : World) (n : Nat) (hP : OwnP b P w) (hF : ∀ k, w.heap.size ≤ k → P k) (h : Lib.IsBuilder 59 5 B b bs w) (hlen : bs.length + s.size ≤ 140737488355328) (hBw : B ≤ w.heap.size) :
    Calls Tryd.prog 31 #[.pointer (some ⟨b, 0, none⟩), .string s] (w.drewN n) fun e w' => (∃ v, e = .returned v) ∧ (Lib.BuilderAt 59 5 B b (.pointer (some ⟨b, 0, none⟩)) (bs ++ Lib.strCells s) w' ∧ Below B w w' ∧ OwnP b P w' ∧ Kept w w' (fun k => k = b ∨ P k)) :=
  (writeString2 B b P bs s (w.drewN n) hP hF h hlen hBw).mono fun e w' ⟨h1, h2, h3, h4, h5⟩ => ⟨h1, h2, (pw_below_drewN (Below.refl _ _) n).trans h3, h4, h5⟩
theorem lf_H8_1 {p_ : Prop} (h_ : p_ := by
  go_wp2_with fail
  first
    | (go_ret2; exact ⟨rfl, HB1.out⟩)
    | (refine (dec_Print.calls k a0_1 a0_2 r1 r2 _ (Tab.below HT.out (below_alloc HB1.out _)) A2.out).mono ?_; rintro e w2 ⟨rfl, hb⟩; go_wp2_with fail; go_ret2; exact ⟨rfl, below_step (below_alloc HB1.out _) hb⟩)
    | (refine (Tryd.Builder_String_any bb bb acc _ (Or.inr HAT.out) HB8.out).mono ?_; rintro e w9 ⟨rfl, hb⟩; go_wp2_with fail; go_ret2; exact ⟨rfl, below_weaken (below_weaken HB4.out HWB.out HBE.out) HWB.out hb⟩)
    | (refine (writeByte2 bb bb (fun j => bb < j ∧ j ≠ g3) (Lib.byteCells acc) 62 _ HOWN.out HFR.out (Or.inr HAT.out) (by rw [cells_len]; omega) HB8.out).mono ?_; rintro e w8 ⟨rfl, hat, hb8, _, hk8⟩; rw [cells_snoc acc 62 62 rfl] at hat; have HAT2 := Aside0.mk hat; have HB9 : Aside0 (bb ≤ w8.heap.size) := ⟨Nat.le_trans HB8.out hk8.1⟩; clear hat hk8; go_wp2_with fail; refine (Tryd.Builder_String_any bb bb (acc ++ [62]) _ (Or.inr HAT2.out) HB9.out).mono ?_; rintro e w9 ⟨rfl, hb⟩; go_wp2_with fail; go_ret2; exact ⟨rfl, below_weaken (below_weaken (below_weaken HB4.out HWB.out HBE.out) HWB.out hb8) HWB.out hb⟩)
    | (go_ret2; exact ⟨rfl, below_alloc HB1.out _⟩)
    | (refine (Tryd.Builder_String_empty w1.heap.size w1.heap.size _ (Lib.fresh_isBuilder 59 5 w1) (by rw [World.size_alloc]; omega)).mono ?_; rintro e w2 ⟨rfl, hb⟩; go_wp2_with fail; go_ret2; exact ⟨rfl, below_weaken (below_alloc HB1.out _) HB1.out.size hb⟩)) : p_ := h_
set_option maxHeartbeats 16000000 in
set_option maxRecDepth 100000 in
theorem lex_Print.calls (k : Nat) (a0_0 : Int) (a0_1 : Int) (a0_2 : Int) (a0_3 : ByteArray) (r1 : ByteArray) (r2 : Int) (w : World) (hT : Tab w) (h : lex_Print.f k a0_0 a0_1 a0_2 a0_3 = some (r1, r2)) :
    Calls Tryd.prog 13 #[.agg #[.int .i64 a0_0, .int .i64 a0_1, .int .i64 a0_2, .string a0_3]] w fun e w' => e = .returned (.tuple #[.string r1, .int .i64 r2]) ∧ Below w.heap.size w w' := by
  have hu27 := Tryd.underlying27
  have hu25 := Tryd.underlying25
  have hu59 := Tryd.underlying59
  have HT := Aside0.mk hT
  clear hT
  unfold lex_Print.f at h
  replace h := Option.bind_eq_some_iff.mp h
  obtain ⟨b, A10, H⟩ := h
  have A1 := Aside0.mk A10
  have HH := Aside0.mk H
  clear A10 H
  go_enter Tryd.func13, Tryd.ntmps13
  go_wp2_with fail
  refine (lex_check.calls k a0_0 a0_1 a0_2 a0_3 b _ A1.out).mono ?_
  rintro e w1 ⟨rfl, hb⟩
  have BKt := blk_below (blk_new w _) hb
  have HB1 := Aside0.mk (below_step (below_alloc (Below.refl _ _) _) hb)
  have z0 : w1.cell? ⟨w.heap.size, 0, none⟩ = some (.int .i64 a0_0) := (blk_cell BKt 0).trans rfl
  have z1 : w1.cell? ⟨w.heap.size, 1, none⟩ = some (.int .i64 a0_1) := (blk_cell BKt 1).trans rfl
  have z2 : w1.cell? ⟨w.heap.size, 2, none⟩ = some (.int .i64 a0_2) := (blk_cell BKt 2).trans rfl
  have z3 : w1.cell? ⟨w.heap.size, 3, none⟩ = some (.string a0_3) := (blk_cell BKt 3).trans rfl
  have zl : w.heap.size < w1.heap.size := blk_lt BKt
  have HBKt := Aside0.mk BKt
  clear hb BKt
  have H := HH.out
  clear HH A1
  cases b with
  | false =>
    rw [if_neg (by decide)] at H
    simp only [Option.some.injEq, Prod.mk.injEq] at H
    obtain ⟨rfl, rfl⟩ := H
    exact lf_H8_1
  | true =>
    rw [if_pos rfl] at H
    by_cases k1 : a0_0 = 1
    · subst k1
      rw [if_pos rfl] at H
      have A2 := Aside0.mk H
      clear H
      exact lf_H8_1
    rw [if_neg k1] at H
    have n1 : (a0_0 == 1) = false := beq_eq_false_iff_ne.mpr k1
    by_cases k2 : a0_0 = 2
    · subst k2
      rw [if_pos rfl] at H
      have hsz : a0_3.size ≤ 100000 := by
        by_cases hsz : a0_3.size ≤ 100000
        · exact hsz
        · rw [if_neg hsz] at H
          cases H
      rw [if_pos hsz] at H
      replace H := Option.bind_eq_some_iff.mp H
      obtain ⟨L, A20, H⟩ := H
      have A2 := Aside0.mk A20
      have HH := Aside0.mk H
      clear A20 H
      go_wp2_with fail
      obtain ⟨bb, hbb⟩ : ∃ x, x = w1.heap.size := ⟨_, rfl⟩
      have hF0 : ∀ j, (w1.alloc (.cells #[.pointer none, .slice none 0 0] 59)).heap.size ≤ j → w1.heap.size < j := fun j hj => by rw [World.size_alloc] at hj; omega
      refine (writeByte2 w1.heap.size w1.heap.size (fun j => w1.heap.size < j) [] 47 _ (OwnP.of (blk_new w1 _) (fun j hj => by simp [Value.ownBlock] at hj)) hF0 (Lib.fresh_isBuilder 59 5 w1) (by decide) (by rw [World.size_alloc]; omega)).mono ?_
      rintro e w3 ⟨rfl, hat, hb3, hown, hk3⟩
      rw [← hbb] at hat hb3 hown hk3 zl ⊢
      have BKt3 : w3.heap[w.heap.size]? = some (.cells #[.int .i64 2, .int .i64 a0_1, .int .i64 a0_2, .string a0_3] 27 (0, 0)) := (hk3.2 w.heap.size (by rw [World.size_alloc]; omega) (by omega)).trans (blk_alloc HBKt.out _)
      have HB3 := Aside0.mk (below_weaken (below_alloc HB1.out _) (by omega) hb3)
      have y3 : w3.cell? ⟨w.heap.size, 3, none⟩ = some (.string a0_3) := (blk_cell BKt3 3).trans rfl
      have zl3 : w.heap.size < w3.heap.size := blk_lt BKt3
      have hbl : bb < w3.heap.size := by have := hk3.1; rw [World.size_alloc] at this; omega
      have HWB : Aside0 (w.heap.size ≤ bb) := ⟨by omega⟩
      clear hk3 hF0 z0 z1 z2 z3 hb3 hbb
      have kb := fun W => print_bytes (P := Tryd.prog) 9 22 5 Tryd.underlying9 Tryd.underlying22 Tryd.underlying5 a0_3 W
      have HAT := Aside0.mk hat
      have HOWN := Aside0.mk hown
      clear hat hown
      go_wp2_with fail
      have hbw : Below w3.heap.size w3 (Lib.bytesWorld w3 5 a0_3) := bytes_below (Below.refl _ _) (Nat.le_refl _) 5 _
      have hcell := bytes_cell w3 a0_3
      have hat4 := builderAt_below HAT.out hbw
      have hown4 := own_narrow HAT.out HOWN.out hbw
      have HB4 := Aside0.mk (below_step HB3.out hbw)
      have hg3 : w3.heap.size < (Lib.bytesWorld w3 5 a0_3).heap.size := by rw [Lib.bytesWorld_size]; omega
      clear kb hbw HAT HOWN y3
      have HS := Aside0.mk hsz
      have HC := Aside0.mk hcell
      clear hsz hcell
      generalize Lib.bytesWorld w3 5 a0_3 = WB at HC hat4 hown4 HB4 hg3 ⊢
      generalize w3.heap.size = g3 at HC hown4 hg3 hbl ⊢
      have HAT := Aside0.mk hat4
      have HOWN := Aside0.mk hown4
      have HBL := Aside0.mk hbl
      have HG := Aside0.mk hg3
      clear hat4 hown4 hg3 hbl BKt3 zl3 HB3 zl
      have H' := A2
      clear A2
      go_loopg [28] k (fun kq vS w' => ∃ (i : Nat) (acc : List UInt8), vS = .int .i64 (i : Int) ∧ i ≤ a0_3.size ∧ Aside0 (lex_Print.ln kq a0_3 (i : Int) acc = some L) ∧ Aside0 (Lib.BuilderAt 59 5 bb bb (.pointer (some ⟨bb, 0, none⟩)) (Lib.byteCells acc) w') ∧ Aside0 (OwnP bb (fun j => bb < j ∧ j ≠ g3) w') ∧ Aside0 (Kept WB w' (fun j => j = bb ∨ (bb < j ∧ j ≠ g3))) ∧ Aside0 (Below bb WB w'))
      case atStart => exact ⟨0, [47], rfl, Nat.zero_le _, H', HAT, HOWN, ⟨Kept.refl _ _⟩, ⟨Below.refl _ _⟩⟩
      case round =>
        clear H' HAT HOWN
        obtain ⟨i, acc, rfl, hi, HA, HAT, HOWN, HKE, HBE⟩ := hrel
        cases gk with
        | zero => exact absurd HA.out (by simp [lex_Print.ln])
        | succ k1 =>
          have H := HA.out
          clear HA
          rw [lex_Print.ln] at H
          have hs1 := HS.out
          have hB8 : bb ≤ wr.heap.size := Nat.le_trans (Nat.le_of_lt (Nat.lt_trans HBL.out HG.out)) HKE.out.1
          have hFR : ∀ j, wr.heap.size ≤ j → (bb < j ∧ j ≠ g3) := fun j hj => by have := HBL.out; have := HG.out; have := HKE.out.1; omega
          have HFR := Aside0.mk hFR
          have HB8 := Aside0.mk hB8
          clear hFR hB8
          by_cases hlt : i < a0_3.size
          · rw [if_pos (by omega)] at H
            have hal : acc.length < 1000000 := by
              by_cases hal : acc.length < 1000000
              · exact hal
              · rw [if_neg hal] at H
                cases H
            rw [if_pos hal] at H
            have hbyte : wr.cell? ⟨g3, i, none⟩ = some (.int .u8 (bt a0_3 i)) := (kept_cell HKE.out HG.out (by intro h; have := HBL.out; omega) i).trans (HC.out i hlt)
            have hd : decide ((i : Int) < (a0_3.size : Int)) = true := decide_eq_true (by omega)
            have HAL := Aside0.mk hal
            clear hal
            replace H := Option.bind_eq_some_iff.mp H
            obtain ⟨t, A40, H⟩ := H
            have A4 := Aside0.mk A40
            clear A40
            by_cases c1 : t = 2
            · rw [if_pos c1] at H
              have e1 : (t == 2) = true := beq_iff_eq.mpr c1
              clear c1
              by_cases c2 : bt a0_3 i = 35
              · rw [if_pos c2] at H
                have e2 : (bt a0_3 i != 35) = false := bne_eq_false_iff_eq.mpr c2
                clear c2
                unfold lex_Print.ln.lz at H
                replace H := Option.bind_eq_some_iff.mp H
                obtain ⟨z, A50, H⟩ := H
                have A5 := Aside0.mk A50
                clear A50
                have hz : z.size ≤ 100 := by
                  by_cases hz : z.size ≤ 100
                  · exact hz
                  · rw [if_neg hz] at H
                    cases H
                rw [if_pos hz] at H
                have H' := Aside0.mk H
                clear H
                have hzs : ¬ (9223372036854775807 < 1 + z.size) := by omega
                have hzt : (⟨#[35]⟩ : ByteArray).size + z.size ≤ 9223372036854775807 := by show 1 + z.size ≤ _; omega
                go_wp2_with fail
                refine (lex_of.calls k1 (bt a0_3 i) t _ A4.out).mono ?_
                rintro e w6 ⟨rfl, ⟨m6, rfl⟩⟩
                go_wp2_with fail
                refine (lex_two.calls (bt a0_3 i) z _ A5.out).mono ?_
                rintro e w7 ⟨rfl, ⟨m7, rfl⟩⟩
                go_wp2_with fail
                refine (writeString3 bb bb (fun j => bb < j ∧ j ≠ g3) (Lib.byteCells acc) ((⟨#[35]⟩ : ByteArray) ++ z) wr _ HOWN.out HFR.out (Or.inr HAT.out) (by rw [cells_len, ByteArray.size_append]; have := HAL.out; show acc.length + (1 + z.size) ≤ _; omega) HB8.out).mono ?_
                rintro e w8 ⟨⟨v8, rfl⟩, hat, hb8, hown8, hk8⟩
                rw [cells_str] at hat
                have HAT2 := Aside0.mk hat
                have HOWN2 := Aside0.mk hown8
                have HKE2 := Aside0.mk (Kept.then_ HKE.out hk8 (fun j hj => Or.inl hj))
                have HBE2 := Aside0.mk (HBE.out.trans hb8)
                clear hat hown8 hk8 hb8
                go_wp2_with fail
                go_roundg k1
                case measure => omega
                case rel => exact ⟨i + 1, acc ++ 35 :: z.data.toList, by first | rfl | go_num, by omega, by first | exact H' | exact ⟨by have := H'.out; push_cast; exact this⟩, HAT2, HOWN2, HKE2, HBE2⟩
              · rw [if_neg c2] at H
                have e2 : (bt a0_3 i != 35) = true := bne_iff_ne.mpr c2
                clear c2
                by_cases c3 : 32 < bt a0_3 i
                · rw [if_pos c3] at H
                  have e3 : decide (32 < bt a0_3 i) = true := decide_eq_true c3
                  clear c3
                  by_cases c4 : bt a0_3 i ≤ 126
                  · rw [if_pos c4] at H
                    have e4 : decide (bt a0_3 i ≤ 126) = true := decide_eq_true c4
                    clear c4
                    have H' := Aside0.mk H
                    clear H
                    go_wp2_with fail
                    refine (lex_of.calls k1 (bt a0_3 i) t _ A4.out).mono ?_
                    rintro e w6 ⟨rfl, ⟨m6, rfl⟩⟩
                    go_wp2_with fail
                    refine (writeByte3 bb bb (fun j => bb < j ∧ j ≠ g3) (Lib.byteCells acc) (bt a0_3 i) wr _ HOWN.out HFR.out (Or.inr HAT.out) (by rw [cells_len]; have := HAL.out; omega) HB8.out).mono ?_
                    rintro e w8 ⟨rfl, hat, hb8, hown8, hk8⟩
                    rw [cells_snoc acc (bt a0_3 i) _ (bt_byte a0_3 i)] at hat
                    have HAT2 := Aside0.mk hat
                    have HOWN2 := Aside0.mk hown8
                    have HKE2 := Aside0.mk (Kept.then_ HKE.out hk8 (fun j hj => Or.inl hj))
                    have HBE2 := Aside0.mk (HBE.out.trans hb8)
                    clear hat hown8 hk8 hb8
                    go_wp2_with fail
                    go_roundg k1
                    case measure => omega
                    case rel => exact ⟨i + 1, acc ++ [UInt8.ofNat (bt a0_3 i).toNat], by first | rfl | go_num, by omega, by first | exact H' | exact ⟨by have := H'.out; push_cast; exact this⟩, HAT2, HOWN2, HKE2, HBE2⟩
                  · rw [if_neg c4] at H
                    have e4 : decide (bt a0_3 i ≤ 126) = false := decide_eq_false c4
                    clear c4
                    unfold lex_Print.ln.lz at H
                    replace H := Option.bind_eq_some_iff.mp H
                    obtain ⟨z, A50, H⟩ := H
                    have A5 := Aside0.mk A50
                    clear A50
                    have hz : z.size ≤ 100 := by
                      by_cases hz : z.size ≤ 100
                      · exact hz
                      · rw [if_neg hz] at H
                        cases H
                    rw [if_pos hz] at H
                    have H' := Aside0.mk H
                    clear H
                    have hzs : ¬ (9223372036854775807 < 1 + z.size) := by omega
                    have hzt : (⟨#[35]⟩ : ByteArray).size + z.size ≤ 9223372036854775807 := by show 1 + z.size ≤ _; omega
                    go_wp2_with fail
                    refine (lex_of.calls k1 (bt a0_3 i) t _ A4.out).mono ?_
                    rintro e w6 ⟨rfl, ⟨m6, rfl⟩⟩
                    go_wp2_with fail
                    refine (lex_two.calls (bt a0_3 i) z _ A5.out).mono ?_
                    rintro e w7 ⟨rfl, ⟨m7, rfl⟩⟩
                    go_wp2_with fail
                    refine (writeString3 bb bb (fun j => bb < j ∧ j ≠ g3) (Lib.byteCells acc) ((⟨#[35]⟩ : ByteArray) ++ z) wr _ HOWN.out HFR.out (Or.inr HAT.out) (by rw [cells_len, ByteArray.size_append]; have := HAL.out; show acc.length + (1 + z.size) ≤ _; omega) HB8.out).mono ?_
                    rintro e w8 ⟨⟨v8, rfl⟩, hat, hb8, hown8, hk8⟩
                    rw [cells_str] at hat
                    have HAT2 := Aside0.mk hat
                    have HOWN2 := Aside0.mk hown8
                    have HKE2 := Aside0.mk (Kept.then_ HKE.out hk8 (fun j hj => Or.inl hj))
                    have HBE2 := Aside0.mk (HBE.out.trans hb8)
                    clear hat hown8 hk8 hb8
                    go_wp2_with fail
                    go_roundg k1
                    case measure => omega
                    case rel => exact ⟨i + 1, acc ++ 35 :: z.data.toList, by first | rfl | go_num, by omega, by first | exact H' | exact ⟨by have := H'.out; push_cast; exact this⟩, HAT2, HOWN2, HKE2, HBE2⟩
                · rw [if_neg c3] at H
                  have e3 : decide (32 < bt a0_3 i) = false := decide_eq_false c3
                  clear c3
                  unfold lex_Print.ln.lz at H
                  replace H := Option.bind_eq_some_iff.mp H
                  obtain ⟨z, A50, H⟩ := H
                  have A5 := Aside0.mk A50
                  clear A50
                  have hz : z.size ≤ 100 := by
                    by_cases hz : z.size ≤ 100
                    · exact hz
                    · rw [if_neg hz] at H
                      cases H
                  rw [if_pos hz] at H
                  have H' := Aside0.mk H
                  clear H
                  have hzs : ¬ (9223372036854775807 < 1 + z.size) := by omega
                  have hzt : (⟨#[35]⟩ : ByteArray).size + z.size ≤ 9223372036854775807 := by show 1 + z.size ≤ _; omega
                  go_wp2_with fail
                  refine (lex_of.calls k1 (bt a0_3 i) t _ A4.out).mono ?_
                  rintro e w6 ⟨rfl, ⟨m6, rfl⟩⟩
                  go_wp2_with fail
                  refine (lex_two.calls (bt a0_3 i) z _ A5.out).mono ?_
                  rintro e w7 ⟨rfl, ⟨m7, rfl⟩⟩
                  go_wp2_with fail
                  refine (writeString3 bb bb (fun j => bb < j ∧ j ≠ g3) (Lib.byteCells acc) ((⟨#[35]⟩ : ByteArray) ++ z) wr _ HOWN.out HFR.out (Or.inr HAT.out) (by rw [cells_len, ByteArray.size_append]; have := HAL.out; show acc.length + (1 + z.size) ≤ _; omega) HB8.out).mono ?_
                  rintro e w8 ⟨⟨v8, rfl⟩, hat, hb8, hown8, hk8⟩
                  rw [cells_str] at hat
                  have HAT2 := Aside0.mk hat
                  have HOWN2 := Aside0.mk hown8
                  have HKE2 := Aside0.mk (Kept.then_ HKE.out hk8 (fun j hj => Or.inl hj))
                  have HBE2 := Aside0.mk (HBE.out.trans hb8)
                  clear hat hown8 hk8 hb8
                  go_wp2_with fail
                  go_roundg k1
                  case measure => omega
                  case rel => exact ⟨i + 1, acc ++ 35 :: z.data.toList, by first | rfl | go_num, by omega, by first | exact H' | exact ⟨by have := H'.out; push_cast; exact this⟩, HAT2, HOWN2, HKE2, HBE2⟩
            · rw [if_neg c1] at H
              have e1 : (t == 2) = false := beq_eq_false_iff_ne.mpr c1
              clear c1
              unfold lex_Print.ln.lz at H
              replace H := Option.bind_eq_some_iff.mp H
              obtain ⟨z, A50, H⟩ := H
              have A5 := Aside0.mk A50
              clear A50
              have hz : z.size ≤ 100 := by
                by_cases hz : z.size ≤ 100
                · exact hz
                · rw [if_neg hz] at H
                  cases H
              rw [if_pos hz] at H
              have H' := Aside0.mk H
              clear H
              have hzs : ¬ (9223372036854775807 < 1 + z.size) := by omega
              have hzt : (⟨#[35]⟩ : ByteArray).size + z.size ≤ 9223372036854775807 := by show 1 + z.size ≤ _; omega
              go_wp2_with fail
              refine (lex_of.calls k1 (bt a0_3 i) t _ A4.out).mono ?_
              rintro e w6 ⟨rfl, ⟨m6, rfl⟩⟩
              go_wp2_with fail
              refine (lex_two.calls (bt a0_3 i) z _ A5.out).mono ?_
              rintro e w7 ⟨rfl, ⟨m7, rfl⟩⟩
              go_wp2_with fail
              refine (writeString3 bb bb (fun j => bb < j ∧ j ≠ g3) (Lib.byteCells acc) ((⟨#[35]⟩ : ByteArray) ++ z) wr _ HOWN.out HFR.out (Or.inr HAT.out) (by rw [cells_len, ByteArray.size_append]; have := HAL.out; show acc.length + (1 + z.size) ≤ _; omega) HB8.out).mono ?_
              rintro e w8 ⟨⟨v8, rfl⟩, hat, hb8, hown8, hk8⟩
              rw [cells_str] at hat
              have HAT2 := Aside0.mk hat
              have HOWN2 := Aside0.mk hown8
              have HKE2 := Aside0.mk (Kept.then_ HKE.out hk8 (fun j hj => Or.inl hj))
              have HBE2 := Aside0.mk (HBE.out.trans hb8)
              clear hat hown8 hk8 hb8
              go_wp2_with fail
              go_roundg k1
              case measure => omega
              case rel => exact ⟨i + 1, acc ++ 35 :: z.data.toList, by first | rfl | go_num, by omega, by first | exact H' | exact ⟨by have := H'.out; push_cast; exact this⟩, HAT2, HOWN2, HKE2, HBE2⟩
          · rw [if_neg (by omega)] at H
            obtain rfl := Option.some.inj H
            clear H
            have hd : decide ((i : Int) < (a0_3.size : Int)) = false := decide_eq_false (by omega)
            have H := HH.out
            clear HH
            simp only [Option.some.injEq, Prod.mk.injEq] at H
            obtain ⟨rfl, rfl⟩ := H
            exact lf_H8_1
    rw [if_neg k2] at H
    have n2 : (a0_0 == 2) = false := beq_eq_false_iff_ne.mpr k2
    by_cases k3 : a0_0 = 3
    · subst k3
      rw [if_pos rfl] at H
      have hsz : a0_3.size ≤ 100000 := by
        by_cases hsz : a0_3.size ≤ 100000
        · exact hsz
        · rw [if_neg hsz] at H
          cases H
      rw [if_pos hsz] at H
      replace H := Option.bind_eq_some_iff.mp H
      obtain ⟨L, A20, H⟩ := H
      have A2 := Aside0.mk A20
      have HH := Aside0.mk H
      clear A20 H
      go_wp2_with fail
      obtain ⟨bb, hbb⟩ : ∃ x, x = w1.heap.size := ⟨_, rfl⟩
      have hF0 : ∀ j, (w1.alloc (.cells #[.pointer none, .slice none 0 0] 59)).heap.size ≤ j → w1.heap.size < j := fun j hj => by rw [World.size_alloc] at hj; omega
      refine (writeByte2 w1.heap.size w1.heap.size (fun j => w1.heap.size < j) [] 60 _ (OwnP.of (blk_new w1 _) (fun j hj => by simp [Value.ownBlock] at hj)) hF0 (Lib.fresh_isBuilder 59 5 w1) (by decide) (by rw [World.size_alloc]; omega)).mono ?_
      rintro e w3 ⟨rfl, hat, hb3, hown, hk3⟩
      rw [← hbb] at hat hb3 hown hk3 zl ⊢
      have BKt3 : w3.heap[w.heap.size]? = some (.cells #[.int .i64 3, .int .i64 a0_1, .int .i64 a0_2, .string a0_3] 27 (0, 0)) := (hk3.2 w.heap.size (by rw [World.size_alloc]; omega) (by omega)).trans (blk_alloc HBKt.out _)
      have HB3 := Aside0.mk (below_weaken (below_alloc HB1.out _) (by omega) hb3)
      have y3 : w3.cell? ⟨w.heap.size, 3, none⟩ = some (.string a0_3) := (blk_cell BKt3 3).trans rfl
      have zl3 : w.heap.size < w3.heap.size := blk_lt BKt3
      have hbl : bb < w3.heap.size := by have := hk3.1; rw [World.size_alloc] at this; omega
      have HWB : Aside0 (w.heap.size ≤ bb) := ⟨by omega⟩
      clear hk3 hF0 z0 z1 z2 z3 hb3 hbb
      have kb := fun W => print_bytes (P := Tryd.prog) 9 22 5 Tryd.underlying9 Tryd.underlying22 Tryd.underlying5 a0_3 W
      have HAT := Aside0.mk hat
      have HOWN := Aside0.mk hown
      clear hat hown
      go_wp2_with fail
      have hbw : Below w3.heap.size w3 (Lib.bytesWorld w3 5 a0_3) := bytes_below (Below.refl _ _) (Nat.le_refl _) 5 _
      have hcell := bytes_cell w3 a0_3
      have hat4 := builderAt_below HAT.out hbw
      have hown4 := own_narrow HAT.out HOWN.out hbw
      have HB4 := Aside0.mk (below_step HB3.out hbw)
      have hg3 : w3.heap.size < (Lib.bytesWorld w3 5 a0_3).heap.size := by rw [Lib.bytesWorld_size]; omega
      clear kb hbw HAT HOWN y3
      have HS := Aside0.mk hsz
      have HC := Aside0.mk hcell
      clear hsz hcell
      generalize Lib.bytesWorld w3 5 a0_3 = WB at HC hat4 hown4 HB4 hg3 ⊢
      generalize w3.heap.size = g3 at HC hown4 hg3 hbl ⊢
      have HAT := Aside0.mk hat4
      have HOWN := Aside0.mk hown4
      have HBL := Aside0.mk hbl
      have HG := Aside0.mk hg3
      clear hat4 hown4 hg3 hbl BKt3 zl3 HB3 zl
      have H' := A2
      clear A2
      go_loopg [61] k (fun kq vS w' => ∃ (i : Nat) (acc : List UInt8), vS = .int .i64 (i : Int) ∧ i ≤ a0_3.size ∧ Aside0 (lex_Print.lt kq a0_3 (i : Int) acc = some L) ∧ Aside0 (Lib.BuilderAt 59 5 bb bb (.pointer (some ⟨bb, 0, none⟩)) (Lib.byteCells acc) w') ∧ Aside0 (OwnP bb (fun j => bb < j ∧ j ≠ g3) w') ∧ Aside0 (Kept WB w' (fun j => j = bb ∨ (bb < j ∧ j ≠ g3))) ∧ Aside0 (Below bb WB w'))
      case atStart => exact ⟨0, [60], rfl, Nat.zero_le _, H', HAT, HOWN, ⟨Kept.refl _ _⟩, ⟨Below.refl _ _⟩⟩
      case round =>
        clear H' HAT HOWN
        obtain ⟨i, acc, rfl, hi, HA, HAT, HOWN, HKE, HBE⟩ := hrel
        cases gk with
        | zero => exact absurd HA.out (by simp [lex_Print.lt])
        | succ k1 =>
          have H := HA.out
          clear HA
          rw [lex_Print.lt] at H
          have hs1 := HS.out
          have hB8 : bb ≤ wr.heap.size := Nat.le_trans (Nat.le_of_lt (Nat.lt_trans HBL.out HG.out)) HKE.out.1
          have hFR : ∀ j, wr.heap.size ≤ j → (bb < j ∧ j ≠ g3) := fun j hj => by have := HBL.out; have := HG.out; have := HKE.out.1; omega
          have HFR := Aside0.mk hFR
          have HB8 := Aside0.mk hB8
          clear hFR hB8
          by_cases hlt : i < a0_3.size
          · rw [if_pos (by omega)] at H
            have hal : acc.length < 1000000 := by
              by_cases hal : acc.length < 1000000
              · exact hal
              · rw [if_neg hal] at H
                cases H
            rw [if_pos hal] at H
            have hbyte : wr.cell? ⟨g3, i, none⟩ = some (.int .u8 (bt a0_3 i)) := (kept_cell HKE.out HG.out (by intro h; have := HBL.out; omega) i).trans (HC.out i hlt)
            have hd : decide ((i : Int) < (a0_3.size : Int)) = true := decide_eq_true (by omega)
            have HAL := Aside0.mk hal
            clear hal
            replace H := Option.bind_eq_some_iff.mp H
            obtain ⟨z, A50, H⟩ := H
            have A5 := Aside0.mk A50
            clear A50
            have hz : z.size ≤ 100 := by
              by_cases hz : z.size ≤ 100
              · exact hz
              · rw [if_neg hz] at H
                cases H
            rw [if_pos hz] at H
            have H' := Aside0.mk H
            clear H
            go_wp2_with fail
            refine (lex_two.calls (bt a0_3 i) z _ A5.out).mono ?_
            rintro e w7 ⟨rfl, ⟨m7, rfl⟩⟩
            go_wp2_with fail
            refine (writeString3 bb bb (fun j => bb < j ∧ j ≠ g3) (Lib.byteCells acc) z wr _ HOWN.out HFR.out (Or.inr HAT.out) (by rw [cells_len]; have := HAL.out; omega) HB8.out).mono ?_
            rintro e w8 ⟨⟨v8, rfl⟩, hat, hb8, hown8, hk8⟩
            rw [cells_str] at hat
            have HAT2 := Aside0.mk hat
            have HOWN2 := Aside0.mk hown8
            have HKE2 := Aside0.mk (Kept.then_ HKE.out hk8 (fun j hj => Or.inl hj))
            have HBE2 := Aside0.mk (HBE.out.trans hb8)
            clear hat hown8 hk8 hb8
            go_wp2_with fail
            go_roundg k1
            case measure => omega
            case rel => exact ⟨i + 1, acc ++ z.data.toList, by first | rfl | go_num, by omega, by first | exact H' | exact ⟨by have := H'.out; push_cast; exact this⟩, HAT2, HOWN2, HKE2, HBE2⟩
          · rw [if_neg (by omega)] at H
            obtain rfl := Option.some.inj H
            clear H
            have hd : decide ((i : Int) < (a0_3.size : Int)) = false := decide_eq_false (by omega)
            have H := HH.out
            clear HH
            (try dsimp only at H)
            have hl7 : acc.length < 10000000 := by
              by_cases hl7 : acc.length < 10000000
              · exact hl7
              · rw [if_neg hl7] at H
                cases H
            rw [if_pos hl7] at H
            simp only [Option.some.injEq, Prod.mk.injEq] at H
            obtain ⟨rfl, rfl⟩ := H
            exact lf_H8_1
    rw [if_neg k3] at H
    have n3 : (a0_0 == 3) = false := beq_eq_false_iff_ne.mpr k3
    by_cases k4 : a0_0 = 4
    · subst k4
      rw [if_pos rfl] at H
      simp only [Option.some.injEq, Prod.mk.injEq] at H
      obtain ⟨rfl, rfl⟩ := H
      exact lf_H8_1
    rw [if_neg k4] at H
    have n4 : (a0_0 == 4) = false := beq_eq_false_iff_ne.mpr k4
    by_cases k5 : a0_0 = 5
    · subst k5
      rw [if_pos rfl] at H
      simp only [Option.some.injEq, Prod.mk.injEq] at H
      obtain ⟨rfl, rfl⟩ := H
      exact lf_H8_1
    rw [if_neg k5] at H
    have n5 : (a0_0 == 5) = false := beq_eq_false_iff_ne.mpr k5
    by_cases k6 : a0_0 = 6
    · subst k6
      rw [if_pos rfl] at H
      simp only [Option.some.injEq, Prod.mk.injEq] at H
      obtain ⟨rfl, rfl⟩ := H
      exact lf_H8_1
    rw [if_neg k6] at H
    have n6 : (a0_0 == 6) = false := beq_eq_false_iff_ne.mpr k6
    by_cases k7 : a0_0 = 7
    · subst k7
      rw [if_pos rfl] at H
      simp only [Option.some.injEq, Prod.mk.injEq] at H
      obtain ⟨rfl, rfl⟩ := H
      exact lf_H8_1
    rw [if_neg k7] at H
    have n7 : (a0_0 == 7) = false := beq_eq_false_iff_ne.mpr k7
    by_cases k8 : a0_0 = 8
    · subst k8
      rw [if_pos rfl] at H
      simp only [Option.some.injEq, Prod.mk.injEq] at H
      obtain ⟨rfl, rfl⟩ := H
      exact lf_H8_1
    rw [if_neg k8] at H
    have nq0 : (a0_0 == 8) = false := beq_eq_false_iff_ne.mpr k8
    simp only [Option.some.injEq, Prod.mk.injEq] at H
    obtain ⟨rfl, rfl⟩ := H
    exact lf_H8_1
end Go.Proofs.YtnhgnejfagncpaaDoor.P
end
section
namespace Go.Proofs.YtnhgnejfagncpaaDoor.P
open Go Go.RowKit Go.Proofs.YtnhgnejfagncpaaDoorW.PrintWords Go.Proofs.YtnhgnejfagncpaaDoorW.PrintLast Go.Proofs.YtnhgnejfagncpaaDoorW.PrintMore Go.Proofs.YtnhgnejfagncpaaDoor.H Go.Proofs.YtnhgnejfagncpaaDoor.A Go.Proofs.YtnhgnejfagncpaaDoor.B Go.Proofs.YtnhgnejfagncpaaDoor.E Go.Proofs.YtnhgnejfagncpaaDoor.L Go.Proofs.YtnhgnejfagncpaaDoor.M
set_option linter.unusedVariables false
set_option linter.unusedSimpArgs false
theorem C_lit (w : World) (xs : List Int) (fr : Nat × Nat) (h : xs.length ≤ 9223372036854775807) : Kd.C (Kd.int .u8) (w.alloc (.cells (xs.map fun x => Value.int .u8 x).toArray 5 fr)) (some ⟨w.heap.size, 0, none⟩) xs.length xs := by
  refine ⟨rfl, h, fun hn => ⟨_, rfl, fun j p hj => ⟨[.int .u8 p], rfl, rfl, fun i u hi => ?_⟩⟩⟩
  have hi0 : i = 0 := by
    rcases i with _ | i
    · rfl
    · simp at hi
  subst hi0
  simp at hi
  subst hi
  have := World.cell?_alloc_mark w (xs.map fun x => Value.int .u8 x).toArray 5 fr j
  have e : ((⟨w.heap.size, 0, none⟩ : Addr).add (j * (Kd.int .u8).sz + 0)) = ⟨w.heap.size, j, none⟩ := by
    have : (Kd.int .u8).sz = 1 := rfl
    rw [this]
    rcases j with _ | j <;> simp [Addr.add]
  rw [e, this]
  simp [hj]
def exB : List Int := [49, 50, 32, 47, 65, 35, 52, 50, 32, 40, 97, 92, 40, 98, 92, 53, 49, 41, 32, 60, 52, 32, 49, 62, 32, 91, 120]
theorem ex0 : lex_Next.f 100 exB 0 = some (1, 12, 0, ⟨#[]⟩, 2, 0) := by kernel_rfl
theorem ex1 : lex_Next.f 100 exB 2 = some (2, 0, 0, ⟨#[65, 66]⟩, 8, 0) := by kernel_rfl
theorem ex2 : lex_Next.f 100 exB 8 = some (3, 0, 0, ⟨#[97, 40, 98, 41]⟩, 18, 0) := by kernel_rfl
theorem ex3 : lex_Next.f 100 exB 18 = some (3, 0, 0, ⟨#[65]⟩, 24, 0) := by kernel_rfl
theorem ex4 : lex_Next.f 100 exB 24 = some (5, 0, 0, ⟨#[]⟩, 26, 0) := by kernel_rfl
theorem ex5 : lex_Next.f 100 exB 26 = some (4, 0, 0, ⟨#[120]⟩, 27, 0) := by kernel_rfl
theorem ex6 : lex_Next.f 100 exB 27 = some (0, 0, 0, ⟨#[]⟩, 27, 0) := by kernel_rfl
theorem ex7 : lex_Print.f 100 2 0 0 ⟨#[65, 66]⟩ = some (⟨#[47, 65, 66]⟩, 0) := by kernel_rfl
set_option maxHeartbeats 16000000 in
set_option maxRecDepth 100000 in
theorem awake14 (w : World) (hT : Tab w) : Calls Tryd.prog 12 #[] w fun e w' => e = .returned (.bool true) ∧ Below w.heap.size w w' := by
  have hu27 := Tryd.underlying27
  have hu25 := Tryd.underlying25
  have HT := Aside0.mk hT
  clear hT
  have hcv1 := Go.Joins.run_convert_bytes_const_at (P := Tryd.prog) w 22 5 #[.int .u8 49, .int .u8 50, .int .u8 32, .int .u8 47, .int .u8 65, .int .u8 35, .int .u8 52, .int .u8 50, .int .u8 32, .int .u8 40, .int .u8 97, .int .u8 92, .int .u8 40, .int .u8 98, .int .u8 92, .int .u8 53, .int .u8 49, .int .u8 41, .int .u8 32, .int .u8 60, .int .u8 52, .int .u8 32, .int .u8 49, .int .u8 62, .int .u8 32, .int .u8 91, .int .u8 120] 27 27 w.heap.size rfl rfl rfl
  have hC0 : Kd.C (Kd.int .u8) (w.alloc (.cells #[.int .u8 49, .int .u8 50, .int .u8 32, .int .u8 47, .int .u8 65, .int .u8 35, .int .u8 52, .int .u8 50, .int .u8 32, .int .u8 40, .int .u8 97, .int .u8 92, .int .u8 40, .int .u8 98, .int .u8 92, .int .u8 53, .int .u8 49, .int .u8 41, .int .u8 32, .int .u8 60, .int .u8 52, .int .u8 32, .int .u8 49, .int .u8 62, .int .u8 32, .int .u8 91, .int .u8 120] 5 (27, 28))) (some ⟨w.heap.size, 0, none⟩) 27 exB := C_lit w exB (27, 28) (by decide)
  go_enter Tryd.func12, Tryd.ntmps12
  go_wp2_with fail
  have hC1 := Kd.C_alloc hC0 (.cells #[.int .i64 1, .int .i64 12, .int .i64 0, .string ⟨#[]⟩, .int .i64 2, .int .i64 0, .int .i64 0, .string ⟨#[65, 66]⟩, .int .i64 3, .int .i64 0, .int .i64 0, .string ⟨#[97, 40, 98, 41]⟩, .int .i64 3, .int .i64 0, .int .i64 0, .string ⟨#[65]⟩, .int .i64 5, .int .i64 0, .int .i64 0, .string ⟨#[]⟩, .int .i64 4, .int .i64 0, .int .i64 0, .string ⟨#[120]⟩, .int .i64 0, .int .i64 0, .int .i64 0, .string ⟨#[]⟩] 27)
  have hBK : ((w.alloc (.cells #[.int .u8 49, .int .u8 50, .int .u8 32, .int .u8 47, .int .u8 65, .int .u8 35, .int .u8 52, .int .u8 50, .int .u8 32, .int .u8 40, .int .u8 97, .int .u8 92, .int .u8 40, .int .u8 98, .int .u8 92, .int .u8 53, .int .u8 49, .int .u8 41, .int .u8 32, .int .u8 60, .int .u8 52, .int .u8 32, .int .u8 49, .int .u8 62, .int .u8 32, .int .u8 91, .int .u8 120] 5 (27, 28))).alloc (.cells #[.int .i64 1, .int .i64 12, .int .i64 0, .string ⟨#[]⟩, .int .i64 2, .int .i64 0, .int .i64 0, .string ⟨#[65, 66]⟩, .int .i64 3, .int .i64 0, .int .i64 0, .string ⟨#[97, 40, 98, 41]⟩, .int .i64 3, .int .i64 0, .int .i64 0, .string ⟨#[65]⟩, .int .i64 5, .int .i64 0, .int .i64 0, .string ⟨#[]⟩, .int .i64 4, .int .i64 0, .int .i64 0, .string ⟨#[120]⟩, .int .i64 0, .int .i64 0, .int .i64 0, .string ⟨#[]⟩] 27)).heap[w.heap.size + 1]? = some (.cells #[.int .i64 1, .int .i64 12, .int .i64 0, .string ⟨#[]⟩, .int .i64 2, .int .i64 0, .int .i64 0, .string ⟨#[65, 66]⟩, .int .i64 3, .int .i64 0, .int .i64 0, .string ⟨#[97, 40, 98, 41]⟩, .int .i64 3, .int .i64 0, .int .i64 0, .string ⟨#[65]⟩, .int .i64 5, .int .i64 0, .int .i64 0, .string ⟨#[]⟩, .int .i64 4, .int .i64 0, .int .i64 0, .string ⟨#[120]⟩, .int .i64 0, .int .i64 0, .int .i64 0, .string ⟨#[]⟩] 27 (0, 0)) := by
    have h := blk_new (w.alloc (.cells #[.int .u8 49, .int .u8 50, .int .u8 32, .int .u8 47, .int .u8 65, .int .u8 35, .int .u8 52, .int .u8 50, .int .u8 32, .int .u8 40, .int .u8 97, .int .u8 92, .int .u8 40, .int .u8 98, .int .u8 92, .int .u8 53, .int .u8 49, .int .u8 41, .int .u8 32, .int .u8 60, .int .u8 52, .int .u8 32, .int .u8 49, .int .u8 62, .int .u8 32, .int .u8 91, .int .u8 120] 5 (27, 28))) (.cells #[.int .i64 1, .int .i64 12, .int .i64 0, .string ⟨#[]⟩, .int .i64 2, .int .i64 0, .int .i64 0, .string ⟨#[65, 66]⟩, .int .i64 3, .int .i64 0, .int .i64 0, .string ⟨#[97, 40, 98, 41]⟩, .int .i64 3, .int .i64 0, .int .i64 0, .string ⟨#[65]⟩, .int .i64 5, .int .i64 0, .int .i64 0, .string ⟨#[]⟩, .int .i64 4, .int .i64 0, .int .i64 0, .string ⟨#[120]⟩, .int .i64 0, .int .i64 0, .int .i64 0, .string ⟨#[]⟩] 27)
    rw [World.size_alloc] at h
    exact h
  have hB : Below w.heap.size w ((w.alloc (.cells #[.int .u8 49, .int .u8 50, .int .u8 32, .int .u8 47, .int .u8 65, .int .u8 35, .int .u8 52, .int .u8 50, .int .u8 32, .int .u8 40, .int .u8 97, .int .u8 92, .int .u8 40, .int .u8 98, .int .u8 92, .int .u8 53, .int .u8 49, .int .u8 41, .int .u8 32, .int .u8 60, .int .u8 52, .int .u8 32, .int .u8 49, .int .u8 62, .int .u8 32, .int .u8 91, .int .u8 120] 5 (27, 28))).alloc (.cells #[.int .i64 1, .int .i64 12, .int .i64 0, .string ⟨#[]⟩, .int .i64 2, .int .i64 0, .int .i64 0, .string ⟨#[65, 66]⟩, .int .i64 3, .int .i64 0, .int .i64 0, .string ⟨#[97, 40, 98, 41]⟩, .int .i64 3, .int .i64 0, .int .i64 0, .string ⟨#[65]⟩, .int .i64 5, .int .i64 0, .int .i64 0, .string ⟨#[]⟩, .int .i64 4, .int .i64 0, .int .i64 0, .string ⟨#[120]⟩, .int .i64 0, .int .i64 0, .int .i64 0, .string ⟨#[]⟩] 27)) := below_alloc (below_alloc (Below.refl _ _) _) _
  clear hC0 hcv1
  generalize (w.alloc (.cells #[.int .u8 49, .int .u8 50, .int .u8 32, .int .u8 47, .int .u8 65, .int .u8 35, .int .u8 52, .int .u8 50, .int .u8 32, .int .u8 40, .int .u8 97, .int .u8 92, .int .u8 40, .int .u8 98, .int .u8 92, .int .u8 53, .int .u8 49, .int .u8 41, .int .u8 32, .int .u8 60, .int .u8 52, .int .u8 32, .int .u8 49, .int .u8 62, .int .u8 32, .int .u8 91, .int .u8 120] 5 (27, 28))).alloc (.cells #[.int .i64 1, .int .i64 12, .int .i64 0, .string ⟨#[]⟩, .int .i64 2, .int .i64 0, .int .i64 0, .string ⟨#[65, 66]⟩, .int .i64 3, .int .i64 0, .int .i64 0, .string ⟨#[97, 40, 98, 41]⟩, .int .i64 3, .int .i64 0, .int .i64 0, .string ⟨#[65]⟩, .int .i64 5, .int .i64 0, .int .i64 0, .string ⟨#[]⟩, .int .i64 4, .int .i64 0, .int .i64 0, .string ⟨#[120]⟩, .int .i64 0, .int .i64 0, .int .i64 0, .string ⟨#[]⟩] 27) = W0 at hC1 hBK hB ⊢
  have HC := Aside0.mk hC1
  have HBK := Aside0.mk hBK
  have HB := Aside0.mk hB
  clear hC1 hBK hB
  go_loopg [3, 4] 8 (fun kq v3 v4 w' => ∃ i : Nat, i + kq = 8 ∧ i ≤ 7 ∧ v3 = .int .i64 (([0, 2, 8, 18, 24, 26, 27, 27] : List Int).getD i 0) ∧ v4 = .int .i64 (i : Int) ∧ Aside0 (Kd.C (Kd.int .u8) w' (some ⟨w.heap.size, 0, none⟩) 27 exB) ∧ Aside0 (w'.heap[w.heap.size + 1]? = some (.cells #[.int .i64 1, .int .i64 12, .int .i64 0, .string ⟨#[]⟩, .int .i64 2, .int .i64 0, .int .i64 0, .string ⟨#[65, 66]⟩, .int .i64 3, .int .i64 0, .int .i64 0, .string ⟨#[97, 40, 98, 41]⟩, .int .i64 3, .int .i64 0, .int .i64 0, .string ⟨#[65]⟩, .int .i64 5, .int .i64 0, .int .i64 0, .string ⟨#[]⟩, .int .i64 4, .int .i64 0, .int .i64 0, .string ⟨#[120]⟩, .int .i64 0, .int .i64 0, .int .i64 0, .string ⟨#[]⟩] 27 (0, 0))) ∧ Aside0 (Below w.heap.size w w'))
  case atStart => exact ⟨0, rfl, by omega, rfl, rfl, HC, HBK, HB⟩
  case round =>
    clear HC HBK HB
    obtain ⟨i, hik, hi, rfl, rfl, HC, HBK, HB⟩ := hrel
    have hcase : i = 0 ∨ i = 1 ∨ i = 2 ∨ i = 3 ∨ i = 4 ∨ i = 5 ∨ i = 6 ∨ i = 7 := by omega
    rcases hcase with rfl | rfl | rfl | rfl | rfl | rfl | rfl | rfl
    · obtain rfl : gk = 8 := by omega
      clear hik hi
      go_wp2_with fail
      refine (lex_Next.calls 100 (some ⟨w.heap.size, 0, none⟩) 27 exB 0 1 12 0 ⟨#[]⟩ 2 0 wr HC.out (by decide) ex0).mono ?_
      rintro e w2 ⟨rfl, hb⟩
      have HC2 := Aside0.mk (Kd.C_below HC.out hb)
      have hbk2 := blk_below HBK.out hb
      have HB2 := Aside0.mk (below_step HB.out hb)
      clear HC HBK HB hb
      go_wp2_with fail
      have BK8 := blk_new w2 (.cells #[.int .i64 1, .int .i64 12, .int .i64 0, .string ⟨#[]⟩] 27)
      have BKw := blk_alloc hbk2 (.cells #[.int .i64 1, .int .i64 12, .int .i64 0, .string ⟨#[]⟩] 27)
      have HC3 := Aside0.mk (Kd.C_alloc HC2.out (.cells #[.int .i64 1, .int .i64 12, .int .i64 0, .string ⟨#[]⟩] 27))
      have HB3 := Aside0.mk (below_alloc HB2.out (.cells #[.int .i64 1, .int .i64 12, .int .i64 0, .string ⟨#[]⟩] 27))
      clear HC2 HB2 hbk2
      generalize w2.alloc (.cells #[.int .i64 1, .int .i64 12, .int .i64 0, .string ⟨#[]⟩] 27) = W3 at BK8 BKw HC3 HB3 ⊢
      generalize w2.heap.size = g8 at BK8 ⊢
      have x0 : W3.cell? ⟨g8, 0, none⟩ = some (.int .i64 1) := (blk_cell BK8 0).trans rfl
      have y0 : W3.cell? ⟨w.heap.size + 1, 0, none⟩ = some (.int .i64 1) := (blk_cell BKw 0).trans rfl
      have x1 : W3.cell? ⟨g8, 1, none⟩ = some (.int .i64 12) := (blk_cell BK8 1).trans rfl
      have y1 : W3.cell? ⟨w.heap.size + 1, 1, none⟩ = some (.int .i64 12) := (blk_cell BKw 1).trans rfl
      have x2 : W3.cell? ⟨g8, 2, none⟩ = some (.int .i64 0) := (blk_cell BK8 2).trans rfl
      have y2 : W3.cell? ⟨w.heap.size + 1, 2, none⟩ = some (.int .i64 0) := (blk_cell BKw 2).trans rfl
      have x3 : W3.cell? ⟨g8, 3, none⟩ = some (.string ⟨#[]⟩) := (blk_cell BK8 3).trans rfl
      have y3 : W3.cell? ⟨w.heap.size + 1, 3, none⟩ = some (.string ⟨#[]⟩) := (blk_cell BKw 3).trans rfl
      have HBKw := Aside0.mk BKw
      clear BK8 BKw
      go_quiet (fail)
      go_wp2_with fail
      go_roundg 7
      case measure => omega
      case rel => exact ⟨1, rfl, by omega, rfl, by first | rfl | go_num, ⟨Kd.C_drewN HC3.out _⟩, HBKw, ⟨pw_below_drewN HB3.out _⟩⟩
    · obtain rfl : gk = 7 := by omega
      clear hik hi
      go_wp2_with fail
      refine (lex_Next.calls 100 (some ⟨w.heap.size, 0, none⟩) 27 exB 2 2 0 0 ⟨#[65, 66]⟩ 8 0 wr HC.out (by decide) ex1).mono ?_
      rintro e w2 ⟨rfl, hb⟩
      have HC2 := Aside0.mk (Kd.C_below HC.out hb)
      have hbk2 := blk_below HBK.out hb
      have HB2 := Aside0.mk (below_step HB.out hb)
      clear HC HBK HB hb
      go_wp2_with fail
      have BK8 := blk_new w2 (.cells #[.int .i64 2, .int .i64 0, .int .i64 0, .string ⟨#[65, 66]⟩] 27)
      have BKw := blk_alloc hbk2 (.cells #[.int .i64 2, .int .i64 0, .int .i64 0, .string ⟨#[65, 66]⟩] 27)
      have HC3 := Aside0.mk (Kd.C_alloc HC2.out (.cells #[.int .i64 2, .int .i64 0, .int .i64 0, .string ⟨#[65, 66]⟩] 27))
      have HB3 := Aside0.mk (below_alloc HB2.out (.cells #[.int .i64 2, .int .i64 0, .int .i64 0, .string ⟨#[65, 66]⟩] 27))
      clear HC2 HB2 hbk2
      generalize w2.alloc (.cells #[.int .i64 2, .int .i64 0, .int .i64 0, .string ⟨#[65, 66]⟩] 27) = W3 at BK8 BKw HC3 HB3 ⊢
      generalize w2.heap.size = g8 at BK8 ⊢
      have x0 : W3.cell? ⟨g8, 0, none⟩ = some (.int .i64 2) := (blk_cell BK8 0).trans rfl
      have y0 : W3.cell? ⟨w.heap.size + 1, 4, none⟩ = some (.int .i64 2) := (blk_cell BKw 4).trans rfl
      have x1 : W3.cell? ⟨g8, 1, none⟩ = some (.int .i64 0) := (blk_cell BK8 1).trans rfl
      have y1 : W3.cell? ⟨w.heap.size + 1, 5, none⟩ = some (.int .i64 0) := (blk_cell BKw 5).trans rfl
      have x2 : W3.cell? ⟨g8, 2, none⟩ = some (.int .i64 0) := (blk_cell BK8 2).trans rfl
      have y2 : W3.cell? ⟨w.heap.size + 1, 6, none⟩ = some (.int .i64 0) := (blk_cell BKw 6).trans rfl
      have x3 : W3.cell? ⟨g8, 3, none⟩ = some (.string ⟨#[65, 66]⟩) := (blk_cell BK8 3).trans rfl
      have y3 : W3.cell? ⟨w.heap.size + 1, 7, none⟩ = some (.string ⟨#[65, 66]⟩) := (blk_cell BKw 7).trans rfl
      have HBKw := Aside0.mk BKw
      clear BK8 BKw
      go_quiet (fail)
      go_wp2_with fail
      go_roundg 6
      case measure => omega
      case rel => exact ⟨2, rfl, by omega, rfl, by first | rfl | go_num, ⟨Kd.C_drewN HC3.out _⟩, HBKw, ⟨pw_below_drewN HB3.out _⟩⟩
    · obtain rfl : gk = 6 := by omega
      clear hik hi
      go_wp2_with fail
      refine (lex_Next.calls 100 (some ⟨w.heap.size, 0, none⟩) 27 exB 8 3 0 0 ⟨#[97, 40, 98, 41]⟩ 18 0 wr HC.out (by decide) ex2).mono ?_
      rintro e w2 ⟨rfl, hb⟩
      have HC2 := Aside0.mk (Kd.C_below HC.out hb)
      have hbk2 := blk_below HBK.out hb
      have HB2 := Aside0.mk (below_step HB.out hb)
      clear HC HBK HB hb
      go_wp2_with fail
      have BK8 := blk_new w2 (.cells #[.int .i64 3, .int .i64 0, .int .i64 0, .string ⟨#[97, 40, 98, 41]⟩] 27)
      have BKw := blk_alloc hbk2 (.cells #[.int .i64 3, .int .i64 0, .int .i64 0, .string ⟨#[97, 40, 98, 41]⟩] 27)
      have HC3 := Aside0.mk (Kd.C_alloc HC2.out (.cells #[.int .i64 3, .int .i64 0, .int .i64 0, .string ⟨#[97, 40, 98, 41]⟩] 27))
      have HB3 := Aside0.mk (below_alloc HB2.out (.cells #[.int .i64 3, .int .i64 0, .int .i64 0, .string ⟨#[97, 40, 98, 41]⟩] 27))
      clear HC2 HB2 hbk2
      generalize w2.alloc (.cells #[.int .i64 3, .int .i64 0, .int .i64 0, .string ⟨#[97, 40, 98, 41]⟩] 27) = W3 at BK8 BKw HC3 HB3 ⊢
      generalize w2.heap.size = g8 at BK8 ⊢
      have x0 : W3.cell? ⟨g8, 0, none⟩ = some (.int .i64 3) := (blk_cell BK8 0).trans rfl
      have y0 : W3.cell? ⟨w.heap.size + 1, 8, none⟩ = some (.int .i64 3) := (blk_cell BKw 8).trans rfl
      have x1 : W3.cell? ⟨g8, 1, none⟩ = some (.int .i64 0) := (blk_cell BK8 1).trans rfl
      have y1 : W3.cell? ⟨w.heap.size + 1, 9, none⟩ = some (.int .i64 0) := (blk_cell BKw 9).trans rfl
      have x2 : W3.cell? ⟨g8, 2, none⟩ = some (.int .i64 0) := (blk_cell BK8 2).trans rfl
      have y2 : W3.cell? ⟨w.heap.size + 1, 10, none⟩ = some (.int .i64 0) := (blk_cell BKw 10).trans rfl
      have x3 : W3.cell? ⟨g8, 3, none⟩ = some (.string ⟨#[97, 40, 98, 41]⟩) := (blk_cell BK8 3).trans rfl
      have y3 : W3.cell? ⟨w.heap.size + 1, 11, none⟩ = some (.string ⟨#[97, 40, 98, 41]⟩) := (blk_cell BKw 11).trans rfl
      have HBKw := Aside0.mk BKw
      clear BK8 BKw
      go_quiet (fail)
      go_wp2_with fail
      go_roundg 5
      case measure => omega
      case rel => exact ⟨3, rfl, by omega, rfl, by first | rfl | go_num, ⟨Kd.C_drewN HC3.out _⟩, HBKw, ⟨pw_below_drewN HB3.out _⟩⟩
    · obtain rfl : gk = 5 := by omega
      clear hik hi
      go_wp2_with fail
      refine (lex_Next.calls 100 (some ⟨w.heap.size, 0, none⟩) 27 exB 18 3 0 0 ⟨#[65]⟩ 24 0 wr HC.out (by decide) ex3).mono ?_
      rintro e w2 ⟨rfl, hb⟩
      have HC2 := Aside0.mk (Kd.C_below HC.out hb)
      have hbk2 := blk_below HBK.out hb
      have HB2 := Aside0.mk (below_step HB.out hb)
      clear HC HBK HB hb
      go_wp2_with fail
      have BK8 := blk_new w2 (.cells #[.int .i64 3, .int .i64 0, .int .i64 0, .string ⟨#[65]⟩] 27)
      have BKw := blk_alloc hbk2 (.cells #[.int .i64 3, .int .i64 0, .int .i64 0, .string ⟨#[65]⟩] 27)
      have HC3 := Aside0.mk (Kd.C_alloc HC2.out (.cells #[.int .i64 3, .int .i64 0, .int .i64 0, .string ⟨#[65]⟩] 27))
      have HB3 := Aside0.mk (below_alloc HB2.out (.cells #[.int .i64 3, .int .i64 0, .int .i64 0, .string ⟨#[65]⟩] 27))
      clear HC2 HB2 hbk2
      generalize w2.alloc (.cells #[.int .i64 3, .int .i64 0, .int .i64 0, .string ⟨#[65]⟩] 27) = W3 at BK8 BKw HC3 HB3 ⊢
      generalize w2.heap.size = g8 at BK8 ⊢
      have x0 : W3.cell? ⟨g8, 0, none⟩ = some (.int .i64 3) := (blk_cell BK8 0).trans rfl
      have y0 : W3.cell? ⟨w.heap.size + 1, 12, none⟩ = some (.int .i64 3) := (blk_cell BKw 12).trans rfl
      have x1 : W3.cell? ⟨g8, 1, none⟩ = some (.int .i64 0) := (blk_cell BK8 1).trans rfl
      have y1 : W3.cell? ⟨w.heap.size + 1, 13, none⟩ = some (.int .i64 0) := (blk_cell BKw 13).trans rfl
      have x2 : W3.cell? ⟨g8, 2, none⟩ = some (.int .i64 0) := (blk_cell BK8 2).trans rfl
      have y2 : W3.cell? ⟨w.heap.size + 1, 14, none⟩ = some (.int .i64 0) := (blk_cell BKw 14).trans rfl
      have x3 : W3.cell? ⟨g8, 3, none⟩ = some (.string ⟨#[65]⟩) := (blk_cell BK8 3).trans rfl
      have y3 : W3.cell? ⟨w.heap.size + 1, 15, none⟩ = some (.string ⟨#[65]⟩) := (blk_cell BKw 15).trans rfl
      have HBKw := Aside0.mk BKw
      clear BK8 BKw
      go_quiet (fail)
      go_wp2_with fail
      go_roundg 4
      case measure => omega
      case rel => exact ⟨4, rfl, by omega, rfl, by first | rfl | go_num, ⟨Kd.C_drewN HC3.out _⟩, HBKw, ⟨pw_below_drewN HB3.out _⟩⟩
    · obtain rfl : gk = 4 := by omega
      clear hik hi
      go_wp2_with fail
      refine (lex_Next.calls 100 (some ⟨w.heap.size, 0, none⟩) 27 exB 24 5 0 0 ⟨#[]⟩ 26 0 wr HC.out (by decide) ex4).mono ?_
      rintro e w2 ⟨rfl, hb⟩
      have HC2 := Aside0.mk (Kd.C_below HC.out hb)
      have hbk2 := blk_below HBK.out hb
      have HB2 := Aside0.mk (below_step HB.out hb)
      clear HC HBK HB hb
      go_wp2_with fail
      have BK8 := blk_new w2 (.cells #[.int .i64 5, .int .i64 0, .int .i64 0, .string ⟨#[]⟩] 27)
      have BKw := blk_alloc hbk2 (.cells #[.int .i64 5, .int .i64 0, .int .i64 0, .string ⟨#[]⟩] 27)
      have HC3 := Aside0.mk (Kd.C_alloc HC2.out (.cells #[.int .i64 5, .int .i64 0, .int .i64 0, .string ⟨#[]⟩] 27))
      have HB3 := Aside0.mk (below_alloc HB2.out (.cells #[.int .i64 5, .int .i64 0, .int .i64 0, .string ⟨#[]⟩] 27))
      clear HC2 HB2 hbk2
      generalize w2.alloc (.cells #[.int .i64 5, .int .i64 0, .int .i64 0, .string ⟨#[]⟩] 27) = W3 at BK8 BKw HC3 HB3 ⊢
      generalize w2.heap.size = g8 at BK8 ⊢
      have x0 : W3.cell? ⟨g8, 0, none⟩ = some (.int .i64 5) := (blk_cell BK8 0).trans rfl
      have y0 : W3.cell? ⟨w.heap.size + 1, 16, none⟩ = some (.int .i64 5) := (blk_cell BKw 16).trans rfl
      have x1 : W3.cell? ⟨g8, 1, none⟩ = some (.int .i64 0) := (blk_cell BK8 1).trans rfl
      have y1 : W3.cell? ⟨w.heap.size + 1, 17, none⟩ = some (.int .i64 0) := (blk_cell BKw 17).trans rfl
      have x2 : W3.cell? ⟨g8, 2, none⟩ = some (.int .i64 0) := (blk_cell BK8 2).trans rfl
      have y2 : W3.cell? ⟨w.heap.size + 1, 18, none⟩ = some (.int .i64 0) := (blk_cell BKw 18).trans rfl
      have x3 : W3.cell? ⟨g8, 3, none⟩ = some (.string ⟨#[]⟩) := (blk_cell BK8 3).trans rfl
      have y3 : W3.cell? ⟨w.heap.size + 1, 19, none⟩ = some (.string ⟨#[]⟩) := (blk_cell BKw 19).trans rfl
      have HBKw := Aside0.mk BKw
      clear BK8 BKw
      go_quiet (fail)
      go_wp2_with fail
      go_roundg 3
      case measure => omega
      case rel => exact ⟨5, rfl, by omega, rfl, by first | rfl | go_num, ⟨Kd.C_drewN HC3.out _⟩, HBKw, ⟨pw_below_drewN HB3.out _⟩⟩
    · obtain rfl : gk = 3 := by omega
      clear hik hi
      go_wp2_with fail
      refine (lex_Next.calls 100 (some ⟨w.heap.size, 0, none⟩) 27 exB 26 4 0 0 ⟨#[120]⟩ 27 0 wr HC.out (by decide) ex5).mono ?_
      rintro e w2 ⟨rfl, hb⟩
      have HC2 := Aside0.mk (Kd.C_below HC.out hb)
      have hbk2 := blk_below HBK.out hb
      have HB2 := Aside0.mk (below_step HB.out hb)
      clear HC HBK HB hb
      go_wp2_with fail
      have BK8 := blk_new w2 (.cells #[.int .i64 4, .int .i64 0, .int .i64 0, .string ⟨#[120]⟩] 27)
      have BKw := blk_alloc hbk2 (.cells #[.int .i64 4, .int .i64 0, .int .i64 0, .string ⟨#[120]⟩] 27)
      have HC3 := Aside0.mk (Kd.C_alloc HC2.out (.cells #[.int .i64 4, .int .i64 0, .int .i64 0, .string ⟨#[120]⟩] 27))
      have HB3 := Aside0.mk (below_alloc HB2.out (.cells #[.int .i64 4, .int .i64 0, .int .i64 0, .string ⟨#[120]⟩] 27))
      clear HC2 HB2 hbk2
      generalize w2.alloc (.cells #[.int .i64 4, .int .i64 0, .int .i64 0, .string ⟨#[120]⟩] 27) = W3 at BK8 BKw HC3 HB3 ⊢
      generalize w2.heap.size = g8 at BK8 ⊢
      have x0 : W3.cell? ⟨g8, 0, none⟩ = some (.int .i64 4) := (blk_cell BK8 0).trans rfl
      have y0 : W3.cell? ⟨w.heap.size + 1, 20, none⟩ = some (.int .i64 4) := (blk_cell BKw 20).trans rfl
      have x1 : W3.cell? ⟨g8, 1, none⟩ = some (.int .i64 0) := (blk_cell BK8 1).trans rfl
      have y1 : W3.cell? ⟨w.heap.size + 1, 21, none⟩ = some (.int .i64 0) := (blk_cell BKw 21).trans rfl
      have x2 : W3.cell? ⟨g8, 2, none⟩ = some (.int .i64 0) := (blk_cell BK8 2).trans rfl
      have y2 : W3.cell? ⟨w.heap.size + 1, 22, none⟩ = some (.int .i64 0) := (blk_cell BKw 22).trans rfl
      have x3 : W3.cell? ⟨g8, 3, none⟩ = some (.string ⟨#[120]⟩) := (blk_cell BK8 3).trans rfl
      have y3 : W3.cell? ⟨w.heap.size + 1, 23, none⟩ = some (.string ⟨#[120]⟩) := (blk_cell BKw 23).trans rfl
      have HBKw := Aside0.mk BKw
      clear BK8 BKw
      go_quiet (fail)
      go_wp2_with fail
      go_roundg 2
      case measure => omega
      case rel => exact ⟨6, rfl, by omega, rfl, by first | rfl | go_num, ⟨Kd.C_drewN HC3.out _⟩, HBKw, ⟨pw_below_drewN HB3.out _⟩⟩
    · obtain rfl : gk = 2 := by omega
      clear hik hi
      go_wp2_with fail
      refine (lex_Next.calls 100 (some ⟨w.heap.size, 0, none⟩) 27 exB 27 0 0 0 ⟨#[]⟩ 27 0 wr HC.out (by decide) ex6).mono ?_
      rintro e w2 ⟨rfl, hb⟩
      have HC2 := Aside0.mk (Kd.C_below HC.out hb)
      have hbk2 := blk_below HBK.out hb
      have HB2 := Aside0.mk (below_step HB.out hb)
      clear HC HBK HB hb
      go_wp2_with fail
      have BK8 := blk_new w2 (.cells #[.int .i64 0, .int .i64 0, .int .i64 0, .string ⟨#[]⟩] 27)
      have BKw := blk_alloc hbk2 (.cells #[.int .i64 0, .int .i64 0, .int .i64 0, .string ⟨#[]⟩] 27)
      have HC3 := Aside0.mk (Kd.C_alloc HC2.out (.cells #[.int .i64 0, .int .i64 0, .int .i64 0, .string ⟨#[]⟩] 27))
      have HB3 := Aside0.mk (below_alloc HB2.out (.cells #[.int .i64 0, .int .i64 0, .int .i64 0, .string ⟨#[]⟩] 27))
      clear HC2 HB2 hbk2
      generalize w2.alloc (.cells #[.int .i64 0, .int .i64 0, .int .i64 0, .string ⟨#[]⟩] 27) = W3 at BK8 BKw HC3 HB3 ⊢
      generalize w2.heap.size = g8 at BK8 ⊢
      have x0 : W3.cell? ⟨g8, 0, none⟩ = some (.int .i64 0) := (blk_cell BK8 0).trans rfl
      have y0 : W3.cell? ⟨w.heap.size + 1, 24, none⟩ = some (.int .i64 0) := (blk_cell BKw 24).trans rfl
      have x1 : W3.cell? ⟨g8, 1, none⟩ = some (.int .i64 0) := (blk_cell BK8 1).trans rfl
      have y1 : W3.cell? ⟨w.heap.size + 1, 25, none⟩ = some (.int .i64 0) := (blk_cell BKw 25).trans rfl
      have x2 : W3.cell? ⟨g8, 2, none⟩ = some (.int .i64 0) := (blk_cell BK8 2).trans rfl
      have y2 : W3.cell? ⟨w.heap.size + 1, 26, none⟩ = some (.int .i64 0) := (blk_cell BKw 26).trans rfl
      have x3 : W3.cell? ⟨g8, 3, none⟩ = some (.string ⟨#[]⟩) := (blk_cell BK8 3).trans rfl
      have y3 : W3.cell? ⟨w.heap.size + 1, 27, none⟩ = some (.string ⟨#[]⟩) := (blk_cell BKw 27).trans rfl
      have HBKw := Aside0.mk BKw
      clear BK8 BKw
      go_quiet (fail)
      go_wp2_with fail
      go_roundg 1
      case measure => omega
      case rel => exact ⟨7, rfl, by omega, rfl, by first | rfl | go_num, ⟨Kd.C_drewN HC3.out _⟩, HBKw, ⟨pw_below_drewN HB3.out _⟩⟩
    · clear hik hi
      have y0 : wr.cell? ⟨w.heap.size + 1, 4, none⟩ = some (.int .i64 2) := (blk_cell HBK.out 4).trans rfl
      have y1 : wr.cell? ⟨w.heap.size + 1, 5, none⟩ = some (.int .i64 0) := (blk_cell HBK.out 5).trans rfl
      have y2 : wr.cell? ⟨w.heap.size + 1, 6, none⟩ = some (.int .i64 0) := (blk_cell HBK.out 6).trans rfl
      have y3 : wr.cell? ⟨w.heap.size + 1, 7, none⟩ = some (.string ⟨#[65, 66]⟩) := (blk_cell HBK.out 7).trans rfl
      go_wp2_with fail
      refine (lex_Print.calls 100 2 0 0 ⟨#[65, 66]⟩ ⟨#[47, 65, 66]⟩ 0 wr (Tab.below HT.out HB.out) ex7).mono ?_
      rintro e w2 ⟨rfl, hb⟩
      go_wp2_with fail
      go_ret
      exact ⟨rfl, below_step HB.out hb⟩
def erasurelaw14_awake.f : Option Bool := some true
theorem erasurelaw14_awake.calls (r : Bool) (w : World) (hT : Tab w) (h : erasurelaw14_awake.f = some r) : Calls Tryd.prog 12 #[] w fun e w' => e = .returned (.bool r) ∧ Below w.heap.size w w' := by
  obtain rfl := Option.some.inj h
  exact awake14 w hT
end Go.Proofs.YtnhgnejfagncpaaDoor.P
end
section
namespace Go.Proofs.YtnhgnejfagncpaaDoor.L
open Go.RowKit Go.Proofs.YtnhgnejfagncpaaDoorW.PrintWords Go.Proofs.YtnhgnejfagncpaaDoorW.PrintLast Go.Proofs.YtnhgnejfagncpaaDoorW.PrintMore Go.Proofs.YtnhgnejfagncpaaDoor.H Go.Proofs.YtnhgnejfagncpaaDoor.A Go.Proofs.YtnhgnejfagncpaaDoor.B Go.Proofs.YtnhgnejfagncpaaDoor.E
attribute [local go_sem] max2_int min2_int max_two min_two max_three min_three max_four min_four   -- for this text's walks alone
set_option linter.unusedVariables false
set_option linter.unusedSimpArgs false
def erasureref10_White.f (a0 : Int) : Option (Bool) := if a0 = 0 then (some true) else (if a0 = 9 then (some true) else (if a0 = 10 then (some true) else (if a0 = 12 then (some true) else (if a0 = 13 then (some true) else (some (a0 == 32))))))
set_option maxHeartbeats 8000000 in
set_option maxRecDepth 100000 in
theorem erasureref10_White.calls (a0 : Int) (r : Bool) (w : World) (h : erasureref10_White.f a0 = some r) :
  Calls Tryd.prog 53 #[.int .u8 a0] w fun e w' => e = .returned (.bool r) ∧ Drawn0 w w' := by
 have H : (if a0 = 0 then (some true) else (if a0 = 9 then (some true) else (if a0 = 10 then (some true) else (if a0 = 12 then (some true) else (if a0 = 13 then (some true) else (some (a0 == 32))))))) = some r := h
 clear h
 by_cases c2 : a0 = 0
 ·rw [if_pos c2] at H
  have c2b0 : (a0 == 0) = true := beq_iff_eq.mpr c2
  have c2b1 : (a0 != 0) = false := bne_eq_false_iff_eq.mpr c2
  clear c2
  obtain rfl := Option.some.inj H
  go_enter Tryd.func53, Tryd.ntmps53
  go_wp2
  go_ret
  exact ⟨ea_, dr_⟩
 ·rw [if_neg c2] at H
  have c2b0 : (a0 == 0) = false := beq_eq_false_iff_ne.mpr c2
  have c2b1 : (a0 != 0) = true := bne_iff_ne.mpr c2
  by_cases c3 : a0 = 9
  ·rw [if_pos c3] at H
   have c3b0 : (a0 == 9) = true := beq_iff_eq.mpr c3
   have c3b1 : (a0 != 9) = false := bne_eq_false_iff_eq.mpr c3
   clear c3
   obtain rfl := Option.some.inj H
   go_enter Tryd.func53, Tryd.ntmps53
   go_wp2
   go_ret
   exact ⟨ea_, dr_⟩
  ·rw [if_neg c3] at H
   have c3b0 : (a0 == 9) = false := beq_eq_false_iff_ne.mpr c3
   have c3b1 : (a0 != 9) = true := bne_iff_ne.mpr c3
   by_cases c4 : a0 = 10
   ·rw [if_pos c4] at H
    have c4b0 : (a0 == 10) = true := beq_iff_eq.mpr c4
    have c4b1 : (a0 != 10) = false := bne_eq_false_iff_eq.mpr c4
    clear c4
    obtain rfl := Option.some.inj H
    go_enter Tryd.func53, Tryd.ntmps53
    go_wp2
    go_ret
    exact ⟨ea_, dr_⟩
   ·rw [if_neg c4] at H
    have c4b0 : (a0 == 10) = false := beq_eq_false_iff_ne.mpr c4
    have c4b1 : (a0 != 10) = true := bne_iff_ne.mpr c4
    by_cases c5 : a0 = 12
    ·rw [if_pos c5] at H
     have c5b0 : (a0 == 12) = true := beq_iff_eq.mpr c5
     have c5b1 : (a0 != 12) = false := bne_eq_false_iff_eq.mpr c5
     clear c5
     obtain rfl := Option.some.inj H
     go_enter Tryd.func53, Tryd.ntmps53
     go_wp2
     go_ret
     exact ⟨ea_, dr_⟩
    ·rw [if_neg c5] at H
     have c5b0 : (a0 == 12) = false := beq_eq_false_iff_ne.mpr c5
     have c5b1 : (a0 != 12) = true := bne_iff_ne.mpr c5
     by_cases c6 : a0 = 13
     ·rw [if_pos c6] at H
      have c6b0 : (a0 == 13) = true := beq_iff_eq.mpr c6
      have c6b1 : (a0 != 13) = false := bne_eq_false_iff_eq.mpr c6
      clear c6
      obtain rfl := Option.some.inj H
      go_enter Tryd.func53, Tryd.ntmps53
      go_wp2
      go_ret
      exact ⟨ea_, dr_⟩
     ·rw [if_neg c6] at H
      have c6b0 : (a0 == 13) = false := beq_eq_false_iff_ne.mpr c6
      have c6b1 : (a0 != 13) = true := bne_iff_ne.mpr c6
      obtain rfl := Option.some.inj H
      go_enter Tryd.func53, Tryd.ntmps53
      go_wp2
      go_ret
      exact ⟨ea_, dr_⟩
mutual
def erasureref14_skip.l0 : Nat → List Int → Int → Option (Int)
 | 0, _, _ => none
 | k + 1, x0, x1 => if x1 < (x0.length : Int) then (if 0 ≤ x1 then ((erasureref10_White.f (rd x0 x1)).bind fun t119 => (if t119 = true then (erasureref14_skip.l0 k x0 (wrap64 (x1 + 1))) else (if (rd x0 x1) = 37 then (erasureref14_skip.l1 k x0 x1) else (some x1)))) else (none)) else (some x1)
def erasureref14_skip.l1 : Nat → List Int → Int → Option (Int)
 | 0, _, _ => none
 | k + 1, x0, x1 => if x1 < (x0.length : Int) then (if 0 ≤ x1 then (if (rd x0 x1) = 10 then (erasureref14_skip.l0 k x0 x1) else (if (rd x0 x1) = 13 then (erasureref14_skip.l0 k x0 x1) else (erasureref14_skip.l1 k x0 (wrap64 (x1 + 1))))) else (none)) else (erasureref14_skip.l0 k x0 x1)
end
def erasureref14_skip.f (k : Nat) (l0 : List Int) (a1 : Int) : Option (Int) := erasureref14_skip.l0 k l0 a1
set_option maxHeartbeats 8000000 in
set_option maxRecDepth 100000 in
theorem erasureref14_skip.calls (k : Nat) (A0 : Option Addr) (c0 : Nat) (l0 : List Int) (a1 : Int) (r : Int) (w : World) (hr0 : Kd.C (Kd.int .u8) w A0 l0.length l0) (hc0 : l0.length ≤ c0) (h : erasureref14_skip.f k l0 a1 = some r) :
  Calls Tryd.prog 19 #[.slice A0 l0.length c0, .int .i64 a1] w fun e w' => e = .returned (.int .i64 r) ∧ Drawn0 w w' := by
 have HR0 := Aside0.mk hr0
 have HC0 := Aside0.mk hc0
 clear hr0 hc0
 have H : (erasureref14_skip.l0 k l0 a1) = some r := h
 clear h
 have H' := Aside0.mk H
 clear H
 go_enter Tryd.func19, Tryd.ntmps19
 go_wp2
 go_loopg [1] k (fun kq v1 w' => ∃ (x1_1 : Int), v1 = .int .i64 x1_1 ∧ Aside0 (erasureref14_skip.l0 kq l0 x1_1 = some r) ∧ Aside0 (kq ≤ k) ∧ Drawn0 w w')
 case atStart => exact ⟨(a1), ea_, H', ⟨Nat.le_refl _⟩, dr_⟩
 case round =>
  clear H'
  try clear c1
  try clear p2
  obtain ⟨x1_1, rfl, HA, HK1, ⟨m1, rfl⟩⟩ := hrel
  cases gk with
  | zero => exact absurd HA.out (by simp [erasureref14_skip.l0])
  | succ k1 =>
   have H := HA.out
   clear HA
   simp only [erasureref14_skip.l0] at H
   by_cases c3 : x1_1 < (l0.length : Int)
   ·rw [if_pos c3] at H
    have c3b0 : decide (x1_1 < (l0.length : Int)) = true := decide_eq_true c3
    clear c3
    by_cases c4 : 0 ≤ x1_1
    ·rw [if_pos c4] at H
     have c4b0 : decide (0 ≤ x1_1) = true := decide_eq_true c4
     clear c4
     replace H := Option.bind_eq_some_iff.mp H
     obtain ⟨t119, A50, H⟩ := H
     replace H : (if t119 = true then (erasureref14_skip.l0 k1 l0 (wrap64 (x1_1 + 1))) else (if (rd l0 x1_1) = 37 then (erasureref14_skip.l1 k1 l0 x1_1) else (some x1_1))) = some r := H
     have A5 := Aside0.mk A50
     clear A50
     by_cases c6 : t119 = true
     ·subst c6
      have H1 : (erasureref14_skip.l0 k1 l0 (wrap64 (x1_1 + 1))) = some r := by rw [if_pos rfl] at H; exact H
      clear H
      have H := H1
      clear H1
      have H' := Aside0.mk H
      clear H
      have p118 : 0 ≤ (x1_1 : Int) := of_decide_eq_true (by first | (with_reducible assumption) | assumption)
      have q118 : x1_1 < (l0.length : Int) := of_decide_eq_true (by first | (with_reducible assumption) | assumption)
      obtain ⟨ad118, e118, hx118_0⟩ := Kd.at_int HR0.out x1_1 p118 q118
      cases e118
      replace p118 := eq_true p118
      replace q118 := eq_true q118
      go_wp2_with (first | ((with_reducible refine gate_callee (f := 53) rfl ?_); refine goesL_ (some 13) rfl rfl Tryd.func53 (by kernel_rfl) rfl #[.int .u8 (rd l0 x1_1)] rfl gl_ ?_; (with_reducible refine (erasureref10_White.calls (rd l0 x1_1) true _ A5.out).mono ?_); rintro e w' ⟨rfl, ⟨nd, rfl⟩⟩; refine ⟨_, rfl, ?_⟩))
      go_roundg k1
      case measure => have := HK1.out; omega
      case rel => exact ⟨(wrap64 (x1_1 + 1)), ea_, H', ⟨by have := HK1.out; omega⟩, dr_⟩
     ·replace c6 := Bool.eq_false_iff.mpr c6
      subst c6
      have H1 : (if (rd l0 x1_1) = 37 then (erasureref14_skip.l1 k1 l0 x1_1) else (some x1_1)) = some r := by rw [if_neg (show ¬ (false = true) by decide)] at H; exact H
      clear H
      have H := H1
      clear H1
      by_cases c7 : (rd l0 x1_1) = 37
      ·rw [if_pos c7] at H
       have c7b0 : ((rd l0 x1_1) == 37) = true := beq_iff_eq.mpr c7
       have c7b1 : ((rd l0 x1_1) != 37) = false := bne_eq_false_iff_eq.mpr c7
       clear c7
       have H' := Aside0.mk H
       clear H
       have p118 : 0 ≤ (x1_1 : Int) := of_decide_eq_true (by first | (with_reducible assumption) | assumption)
       have q118 : x1_1 < (l0.length : Int) := of_decide_eq_true (by first | (with_reducible assumption) | assumption)
       obtain ⟨ad118, e118, hx118_0⟩ := Kd.at_int HR0.out x1_1 p118 q118
       cases e118
       replace p118 := eq_true p118
       replace q118 := eq_true q118
       go_wp2_with (first | ((with_reducible refine gate_callee (f := 53) rfl ?_); refine goesL_ (some 13) rfl rfl Tryd.func53 (by kernel_rfl) rfl #[.int .u8 (rd l0 x1_1)] rfl gl_ ?_; (with_reducible refine (erasureref10_White.calls (rd l0 x1_1) false _ A5.out).mono ?_); rintro e w' ⟨rfl, ⟨nd, rfl⟩⟩; refine ⟨_, rfl, ?_⟩; have p120 : 0 ≤ (x1_1 : Int) := of_decide_eq_true (by first | (with_reducible assumption) | assumption); have q120 : x1_1 < (l0.length : Int) := of_decide_eq_true (by first | (with_reducible assumption) | assumption); obtain ⟨ad120, e120, hx120_0⟩ := Kd.at_int HR0.out x1_1 p120 q120; obtain rfl : ad118 = ad120 := (by injection e120); replace p120 := eq_true p120; replace q120 := eq_true q120))
       go_loopg [1] k1 (fun kq v1 w' => ∃ (x1_2 : Int), v1 = .int .i64 x1_2 ∧ Aside0 (erasureref14_skip.l1 kq l0 x1_2 = some r) ∧ Aside0 (kq ≤ k1) ∧ Drawn0 w w')
       case atStart => exact ⟨(x1_1), ea_, H', ⟨Nat.le_refl _⟩, dr_⟩
       case round =>
        clear H'
        try clear c1
        try clear p1
        try clear q1
        try clear hx1
        try clear p2
        try clear c3
        try clear c3b0
        try clear c4
        try clear c4b0
        try clear c5
        try clear c6
        try clear p6
        try clear c7
        try clear c7b0
        try clear c7b1
        try clear hx118_0
        try clear hx120_0
        try clear p118
        try clear p120
        try clear p2
        try clear q118
        try clear q120
        obtain ⟨x1_2, rfl, HA, HK2, ⟨m2, rfl⟩⟩ := hrel
        cases gk with
        | zero => exact absurd HA.out (by simp [erasureref14_skip.l1])
        | succ k2 =>
         have H := HA.out
         clear HA
         simp only [erasureref14_skip.l1] at H
         by_cases c8 : x1_2 < (l0.length : Int)
         ·rw [if_pos c8] at H
          have c8b0 : decide (x1_2 < (l0.length : Int)) = true := decide_eq_true c8
          clear c8
          by_cases c9 : 0 ≤ x1_2
          ·rw [if_pos c9] at H
           have c9b0 : decide (0 ≤ x1_2) = true := decide_eq_true c9
           clear c9
           by_cases c10 : (rd l0 x1_2) = 10
           ·rw [if_pos c10] at H
            have c10b0 : ((rd l0 x1_2) == 10) = true := beq_iff_eq.mpr c10
            have c10b1 : ((rd l0 x1_2) != 10) = false := bne_eq_false_iff_eq.mpr c10
            clear c10
            have H' := Aside0.mk H
            clear H
            have p121 : 0 ≤ (x1_2 : Int) := of_decide_eq_true (by first | (with_reducible assumption) | assumption)
            have q121 : x1_2 < (l0.length : Int) := of_decide_eq_true (by first | (with_reducible assumption) | assumption)
            obtain ⟨ad121, e121, hx121_0⟩ := Kd.at_int HR0.out x1_2 p121 q121
            obtain rfl : ad118 = ad121 := (by injection e121)
            replace p121 := eq_true p121
            replace q121 := eq_true q121
            go_wp2
            go_roundg k2
            case measure => have := HK1.out; have := HK2.out; omega
            case rel => exact ⟨(x1_2), ea_, H', ⟨by have := HK1.out; have := HK2.out; omega⟩, dr_⟩
           ·rw [if_neg c10] at H
            have c10b0 : ((rd l0 x1_2) == 10) = false := beq_eq_false_iff_ne.mpr c10
            have c10b1 : ((rd l0 x1_2) != 10) = true := bne_iff_ne.mpr c10
            by_cases c11 : (rd l0 x1_2) = 13
            ·rw [if_pos c11] at H
             have c11b0 : ((rd l0 x1_2) == 13) = true := beq_iff_eq.mpr c11
             have c11b1 : ((rd l0 x1_2) != 13) = false := bne_eq_false_iff_eq.mpr c11
             clear c11
             have H' := Aside0.mk H
             clear H
             have p121 : 0 ≤ (x1_2 : Int) := of_decide_eq_true (by first | (with_reducible assumption) | assumption)
             have q121 : x1_2 < (l0.length : Int) := of_decide_eq_true (by first | (with_reducible assumption) | assumption)
             obtain ⟨ad121, e121, hx121_0⟩ := Kd.at_int HR0.out x1_2 p121 q121
             obtain rfl : ad118 = ad121 := (by injection e121)
             replace p121 := eq_true p121
             replace q121 := eq_true q121
             have p122 : 0 ≤ (x1_2 : Int) := of_decide_eq_true (by first | (with_reducible assumption) | assumption)
             have q122 : x1_2 < (l0.length : Int) := of_decide_eq_true (by first | (with_reducible assumption) | assumption)
             obtain ⟨ad122, e122, hx122_0⟩ := Kd.at_int HR0.out x1_2 p122 q122
             obtain rfl : ad118 = ad122 := (by injection e122)
             replace p122 := eq_true p122
             replace q122 := eq_true q122
             go_wp2
             go_roundg k2
             case measure => have := HK1.out; have := HK2.out; omega
             case rel => exact ⟨(x1_2), ea_, H', ⟨by have := HK1.out; have := HK2.out; omega⟩, dr_⟩
            ·rw [if_neg c11] at H
             have c11b0 : ((rd l0 x1_2) == 13) = false := beq_eq_false_iff_ne.mpr c11
             have c11b1 : ((rd l0 x1_2) != 13) = true := bne_iff_ne.mpr c11
             have H' := Aside0.mk H
             clear H
             have p121 : 0 ≤ (x1_2 : Int) := of_decide_eq_true (by first | (with_reducible assumption) | assumption)
             have q121 : x1_2 < (l0.length : Int) := of_decide_eq_true (by first | (with_reducible assumption) | assumption)
             obtain ⟨ad121, e121, hx121_0⟩ := Kd.at_int HR0.out x1_2 p121 q121
             obtain rfl : ad118 = ad121 := (by injection e121)
             replace p121 := eq_true p121
             replace q121 := eq_true q121
             have p122 : 0 ≤ (x1_2 : Int) := of_decide_eq_true (by first | (with_reducible assumption) | assumption)
             have q122 : x1_2 < (l0.length : Int) := of_decide_eq_true (by first | (with_reducible assumption) | assumption)
             obtain ⟨ad122, e122, hx122_0⟩ := Kd.at_int HR0.out x1_2 p122 q122
             obtain rfl : ad118 = ad122 := (by injection e122)
             replace p122 := eq_true p122
             replace q122 := eq_true q122
             go_wp2
             go_roundg k2
             case measure => have := HK1.out; have := HK2.out; omega
             case rel => exact ⟨(wrap64 (x1_2 + 1)), ea_, H', ⟨by have := HK1.out; have := HK2.out; omega⟩, dr_⟩
          ·rw [if_neg c9] at H
           exact absurd H (by simp)
         ·rw [if_neg c8] at H
          have c8b0 : decide (x1_2 < (l0.length : Int)) = false := decide_eq_false c8
          clear c8
          have H' := Aside0.mk H
          clear H
          go_wp2
          go_roundg k2
          case measure => have := HK1.out; have := HK2.out; omega
          case rel => exact ⟨(x1_2), ea_, H', ⟨by have := HK1.out; have := HK2.out; omega⟩, dr_⟩
      ·rw [if_neg c7] at H
       have c7b0 : ((rd l0 x1_1) == 37) = false := beq_eq_false_iff_ne.mpr c7
       have c7b1 : ((rd l0 x1_1) != 37) = true := bne_iff_ne.mpr c7
       obtain rfl := Option.some.inj H
       have p118 : 0 ≤ (x1_1 : Int) := of_decide_eq_true (by first | (with_reducible assumption) | assumption)
       have q118 : x1_1 < (l0.length : Int) := of_decide_eq_true (by first | (with_reducible assumption) | assumption)
       obtain ⟨ad118, e118, hx118_0⟩ := Kd.at_int HR0.out x1_1 p118 q118
       cases e118
       replace p118 := eq_true p118
       replace q118 := eq_true q118
       go_wp2_with (first | ((with_reducible refine gate_callee (f := 53) rfl ?_); refine goesL_ (some 13) rfl rfl Tryd.func53 (by kernel_rfl) rfl #[.int .u8 (rd l0 x1_1)] rfl gl_ ?_; (with_reducible refine (erasureref10_White.calls (rd l0 x1_1) false _ A5.out).mono ?_); rintro e w' ⟨rfl, ⟨nd, rfl⟩⟩; refine ⟨_, rfl, ?_⟩; have p120 : 0 ≤ (x1_1 : Int) := of_decide_eq_true (by first | (with_reducible assumption) | assumption); have q120 : x1_1 < (l0.length : Int) := of_decide_eq_true (by first | (with_reducible assumption) | assumption); obtain ⟨ad120, e120, hx120_0⟩ := Kd.at_int HR0.out x1_1 p120 q120; obtain rfl : ad118 = ad120 := (by injection e120); replace p120 := eq_true p120; replace q120 := eq_true q120))
       go_ret
       exact ⟨ea_, dr_⟩
    ·rw [if_neg c4] at H
     exact absurd H (by simp)
   ·rw [if_neg c3] at H
    have c3b0 : decide (x1_1 < (l0.length : Int)) = false := decide_eq_false c3
    clear c3
    obtain rfl := Option.some.inj H
    go_wp2
    go_ret
    exact ⟨ea_, dr_⟩
mutual
def erasureref10_Digit.j0 : Nat → Int → Bool → Option (Int)
 | 0, _, _ => none
 | k + 1, x0, x8 => if x8 = true then (some ((x0 - 48) % 256)) else (if x0 ≥ 65 then (erasureref10_Digit.j1 k x0 (decide (x0 ≤ 70))) else (erasureref10_Digit.j1 k x0 false))
def erasureref10_Digit.j1 : Nat → Int → Bool → Option (Int)
 | 0, _, _ => none
 | k + 1, x0, x17 => if x17 = true then (some (((x0 - 65) % 256) + 10)) else (if x0 ≥ 97 then (if x0 ≤ 102 then (some (((x0 - 97) % 256) + 10)) else (some (-1))) else (some (-1)))
end
def erasureref10_Digit.f (k : Nat) (a0 : Int) : Option (Int) := if a0 ≥ 48 then (erasureref10_Digit.j0 k a0 (decide (a0 ≤ 57))) else (erasureref10_Digit.j0 k a0 false)
set_option maxHeartbeats 8000000 in
set_option maxRecDepth 100000 in
theorem erasureref10_Digit.calls (k : Nat) (a0 : Int) (r : Int) (w : World) (h : erasureref10_Digit.f k a0 = some r) :
  Calls Tryd.prog 54 #[.int .u8 a0] w fun e w' => e = .returned (.int .i64 r) ∧ Drawn0 w w' := by
 have H : (if a0 ≥ 48 then (erasureref10_Digit.j0 k a0 (decide (a0 ≤ 57))) else (erasureref10_Digit.j0 k a0 false)) = some r := h
 clear h
 have HC2 := Aside0.mk H
 clear H
 go_enter Tryd.func54, Tryd.ntmps54
 go_upto_region 1 with (fail)
 go_cut [8] (fun v8 wc => ∃ (kq : Nat) (x8_1 : Bool), v8 = .bool x8_1 ∧ Aside0 (erasureref10_Digit.j0 kq a0 x8_1 = some r) ∧ Aside0 (kq ≤ k) ∧ Drawn0 w wc)
 case first =>
  have H := HC2.out
  clear HC2
  by_cases c3 : a0 ≥ 48
  ·rw [if_pos c3] at H
   have c3b0 : decide (48 ≤ a0) = true := decide_eq_true c3
   clear c3
   (first | rw [c3b0] | (simp only [i64_w, i32_w]; rw [c3b0]) | skip)
   have H' := Aside0.mk H
   clear H
   go_wp2
   go_meet
   case rel => exact ⟨_, (decide (a0 ≤ 57)), ea_, H', ⟨by first | omega | exact Nat.le_refl _⟩, dr_⟩
  ·rw [if_neg c3] at H
   have c3b0 : decide (48 ≤ a0) = false := decide_eq_false c3
   clear c3
   (first | rw [c3b0] | (simp only [i64_w, i32_w]; rw [c3b0]) | skip)
   have H' := Aside0.mk H
   clear H
   go_wp2
   go_meet
   case rel => exact ⟨_, (false), ea_, H', ⟨by first | omega | exact Nat.le_refl _⟩, dr_⟩
 case rest =>
  clear HC2
  try clear p2
  try clear c3
  try clear c3b0
  obtain ⟨kq, x8_1, rfl, HA, HJ1, ⟨mc1, rfl⟩⟩ := hcut
  cases kq with
  | zero => exact absurd HA.out (by simp [erasureref10_Digit.j0])
  | succ kj1 =>
   have H := HA.out
   clear HA
   simp only [erasureref10_Digit.j0] at H
   by_cases c4 : x8_1 = true
   ·subst c4
    have H1 : (some ((a0 - 48) % 256)) = some r := by rw [if_pos rfl] at H; exact H
    clear H
    have H := H1
    clear H1
    obtain rfl := Option.some.inj H
    go_wp2
    go_ret
    exact ⟨ea_, dr_⟩
   ·replace c4 := Bool.eq_false_iff.mpr c4
    subst c4
    have H1 : (if a0 ≥ 65 then (erasureref10_Digit.j1 kj1 a0 (decide (a0 ≤ 70))) else (erasureref10_Digit.j1 kj1 a0 false)) = some r := by rw [if_neg (show ¬ (false = true) by decide)] at H; exact H
    clear H
    have H := H1
    clear H1
    have HC5 := Aside0.mk H
    clear H
    go_upto_region 3 with (fail)
    go_cut [17] (fun v17 wc => ∃ (kq : Nat) (x17_4 : Bool), v17 = .bool x17_4 ∧ Aside0 (erasureref10_Digit.j1 kq a0 x17_4 = some r) ∧ Aside0 (kq ≤ kj1) ∧ Drawn0 w wc)
    case first =>
     have H := HC5.out
     clear HC5
     by_cases c6 : a0 ≥ 65
     ·rw [if_pos c6] at H
      have c6b0 : decide (65 ≤ a0) = true := decide_eq_true c6
      clear c6
      (first | rw [c6b0] | (simp only [i64_w, i32_w]; rw [c6b0]) | skip)
      have H' := Aside0.mk H
      clear H
      go_wp2
      go_meet
      case rel => exact ⟨_, (decide (a0 ≤ 70)), ea_, H', ⟨by have := HJ1.out; first | omega | exact Nat.le_refl _⟩, dr_⟩
     ·rw [if_neg c6] at H
      have c6b0 : decide (65 ≤ a0) = false := decide_eq_false c6
      clear c6
      (first | rw [c6b0] | (simp only [i64_w, i32_w]; rw [c6b0]) | skip)
      have H' := Aside0.mk H
      clear H
      go_wp2
      go_meet
      case rel => exact ⟨_, (false), ea_, H', ⟨by have := HJ1.out; first | omega | exact Nat.le_refl _⟩, dr_⟩
    case rest =>
     clear HC5
     try clear c1
     try clear p2
     try clear c3
     try clear c3b0
     try clear c4
     try clear c5
     try clear c6
     try clear c6b0
     try clear p2
     obtain ⟨kq, x17_4, rfl, HA, HJ4, ⟨mc4, rfl⟩⟩ := hcut
     cases kq with
     | zero => exact absurd HA.out (by simp [erasureref10_Digit.j1])
     | succ kj4 =>
      have H := HA.out
      clear HA
      simp only [erasureref10_Digit.j1] at H
      by_cases c7 : x17_4 = true
      ·subst c7
       have H1 : (some (((a0 - 65) % 256) + 10)) = some r := by rw [if_pos rfl] at H; exact H
       clear H
       have H := H1
       clear H1
       obtain rfl := Option.some.inj H
       go_wp2
       go_ret
       exact ⟨ea_, dr_⟩
      ·replace c7 := Bool.eq_false_iff.mpr c7
       subst c7
       have H1 : (if a0 ≥ 97 then (if a0 ≤ 102 then (some (((a0 - 97) % 256) + 10)) else (some (-1))) else (some (-1))) = some r := by rw [if_neg (show ¬ (false = true) by decide)] at H; exact H
       clear H
       have H := H1
       clear H1
       by_cases c8 : a0 ≥ 97
       ·rw [if_pos c8] at H
        have c8b0 : decide (97 ≤ a0) = true := decide_eq_true c8
        clear c8
        by_cases c9 : a0 ≤ 102
        ·rw [if_pos c9] at H
         have c9b0 : decide (a0 ≤ 102) = true := decide_eq_true c9
         clear c9
         obtain rfl := Option.some.inj H
         go_wp2
         go_ret
         exact ⟨ea_, dr_⟩
        ·rw [if_neg c9] at H
         have c9b0 : decide (a0 ≤ 102) = false := decide_eq_false c9
         clear c9
         obtain rfl := Option.some.inj H
         go_wp2
         go_ret
         exact ⟨ea_, dr_⟩
       ·rw [if_neg c8] at H
        have c8b0 : decide (97 ≤ a0) = false := decide_eq_false c8
        clear c8
        obtain rfl := Option.some.inj H
        go_wp2
        go_ret
        exact ⟨ea_, dr_⟩
end Go.Proofs.YtnhgnejfagncpaaDoor.L
end
