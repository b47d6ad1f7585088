/- font.Bytes. -/
import Derived.Test.YtjhpcfpccnfniaaH3
import Derived.Test.YtjhpcfpccnfniaaShelf
namespace Go.Proofs.Ytjhpcfpccnfniaa.A
open Go.RowKit Go.Proofs.YtjhpcfpccnfniaaW.PrintWords Go.Proofs.YtjhpcfpccnfniaaW.PrintLast Go.Proofs.YtjhpcfpccnfniaaW.PrintMore
attribute [local go_sem] max2_int min2_int max_two min_two max_three min_three max_four min_four
set_option linter.unusedVariables false
set_option linter.unusedSimpArgs false
def u8 (x : Int) : UInt8 := UInt8.ofNat (x % 256).toNat
theorem u8_int (x : Int) : ((u8 x).toNat : Int) = x % 256 := by
  unfold u8
  rw [UInt8.toNat_ofNat']
  omega
def codeU (wide : Bool) (c : Int) : List UInt8 := if wide = true then [u8 (c / 256), u8 c] else [u8 c]
def bytesU (wide : Bool) (l : List Int) : List UInt8 := l.flatMap (codeU wide)
theorem bytesU_len (wide : Bool) : ∀ l : List Int, (bytesU wide l).length ≤ 2 * l.length
  | [] => Nat.le_refl _
  | x :: t => by
    have h := bytesU_len wide t
    have h1 : (codeU wide x).length ≤ 2 := by cases wide <;> simp [codeU]
    have e : bytesU wide (x :: t) = codeU wide x ++ bytesU wide t := by simp [bytesU]
    rw [e, List.length_append, List.length_cons]
    omega
theorem bytes_step (wide : Bool) (l : List Int) (k : Nat) (h : k < l.length) : Lib.byteCells (bytesU wide (l.take (k + 1))) = Lib.byteCells (bytesU wide (l.take k)) ++ (if wide = true then [.int .u8 (rd l (k : Int) / 256 % 256), .int .u8 (rd l (k : Int) % 256)] else [.int .u8 (rd l (k : Int) % 256)]) := by
  have e : l.take (k + 1) = l.take k ++ [rd l (k : Int)] := by
    rw [List.take_succ_eq_append_getElem h]
    simp [rd, List.getD_eq_getElem?_getD, List.getElem?_eq_getElem h]
  have e2 : bytesU wide (l.take k ++ [rd l (k : Int)]) = bytesU wide (l.take k) ++ codeU wide (rd l (k : Int)) := by simp [bytesU]
  rw [e, e2]
  unfold Lib.byteCells codeU
  rw [List.map_append]
  cases wide with
  | true => rw [if_pos rfl, if_pos rfl]; simp only [List.map_cons, List.map_nil, u8_int]
  | false => rw [if_neg Bool.false_ne_true, if_neg Bool.false_ne_true]; simp only [List.map_cons, List.map_nil, u8_int]
def font_Bytes.f (k : Nat) (a0_0 : Bool) (l0_1 : List S37) (a0_2 : Int) (l1 : List Int) : Option (ByteArray × Int) :=
  if l1.length ≤ 1000000 then (font_have.f k a0_0 l0_1 a0_2 l1).bind fun t => if t = true then some (⟨(bytesU a0_0 l1).toArray⟩, 0) else some (⟨#[]⟩, 1) else none
theorem font_Bytes.mono : ∀ a0 a1 a2 a3 k, LeO (font_Bytes.f k a0 a1 a2 a3) (font_Bytes.f (k + 1) a0 a1 a2 a3) := by
  intro a0 a1 a2 a3 k
  unfold font_Bytes.f
  exact LeO.ite (LeO.bind (font_have.mono _ _ _ _ _) (fun _ => LeO.refl _)) (LeO.refl _)
set_option maxRecDepth 100000 in
set_option maxHeartbeats 4000000 in
theorem font_Bytes.calls (k : Nat) (a0_0 : Bool) (A0_1 : Option Addr) (c0_1 : Nat) (l0_1 : List (S37)) (a0_2 : Int) (A1 : Option Addr) (c1 : Nat) (l1 : List Int) (r1 : ByteArray) (r2 : Int) (w : World) (hr0_1 : Kd.C k37 w A0_1 l0_1.length l0_1) (hc0_1 : l0_1.length ≤ c0_1) (hr1 : Kd.C (Kd.int .i64) w A1 l1.length l1) (hc1 : l1.length ≤ c1) (h : font_Bytes.f k a0_0 l0_1 a0_2 l1 = some (r1, r2)) :
    Calls Try.prog 9 #[.agg #[.bool a0_0, .slice A0_1 l0_1.length c0_1, .int .i64 a0_2], .slice A1 l1.length c1] w fun e w' => e = .returned (.tuple #[.string r1, .int .i64 r2]) ∧ Below w.heap.size w w' := by
  unfold font_Bytes.f at h
  by_cases hlen : l1.length ≤ 1000000
  case neg => rw [if_neg hlen] at h; cases h
  rw [if_pos hlen] at h
  obtain ⟨t, ht, hr⟩ := Option.bind_eq_some_iff.mp h
  clear h
  have hB0 : Below w.heap.size w (w.alloc (.cells #[.bool a0_0, .slice A0_1 l0_1.length c0_1, .int .i64 a0_2] 24)) := below_alloc (Below.refl _ _) _
  have hcell : (w.alloc (.cells #[.bool a0_0, .slice A0_1 l0_1.length c0_1, .int .i64 a0_2] 24)).cell? ⟨w.heap.size, 0, none⟩ = some (.bool a0_0) := World.cell?_alloc_mark w #[.bool a0_0, .slice A0_1 l0_1.length c0_1, .int .i64 a0_2] 24 (0, 0) 0
  cases t with
  | false =>
    rw [if_neg Bool.false_ne_true] at hr
    obtain ⟨rfl, rfl⟩ := Prod.mk.inj (Option.some.inj hr)
    clear hr
    go_enter Try.func9, Try.ntmps9
    go_wp2_with fail
    refine (font_have.calls k a0_0 A0_1 c0_1 l0_1 a0_2 A1 c1 l1 false _ (Kd.C_alloc hr0_1 _) hc0_1 (Kd.C_alloc hr1 _) hc1 ht).mono ?_
    rintro e w1 ⟨rfl, hB1⟩
    go_wp2_with fail
    go_ret2
    exact ⟨rfl, below_step hB0 hB1⟩
  | true =>
    rw [if_pos rfl] at hr
    obtain ⟨hr1', rfl⟩ := Prod.mk.inj (Option.some.inj hr)
    replace hr1' := Aside0.mk hr1'
    clear hr
    go_enter Try.func9, Try.ntmps9
    go_wp2_with fail
    refine (font_have.calls k a0_0 A0_1 c0_1 l0_1 a0_2 A1 c1 l1 true _ (Kd.C_alloc hr0_1 _) hc0_1 (Kd.C_alloc hr1 _) hc1 ht).mono ?_
    rintro e w1 ⟨rfl, hB1⟩
    have hB : Below w.heap.size w w1 := below_step hB0 hB1
    have hcell1 : w1.cell? ⟨w.heap.size, 0, none⟩ = some (.bool a0_0) := (hB1.cell (World.block_lt_of_cell? _ _ hcell)).trans hcell
    have hr1w : Kd.C (Kd.int .i64) w1 A1 l1.length l1 := Kd.C_below hr1 hB
    have HR := Aside0.mk hr1w
    have hbox : w.heap.size < w1.heap.size := World.block_lt_of_cell? _ _ hcell1
    have hfresh : Lib.IsBuilder 52 5 w1.heap.size w1.heap.size [] (w1.alloc (.cells #[.pointer none, .slice none 0 0] 52)) := Lib.fresh_isBuilder 52 5 w1
    have hBB : Below w1.heap.size w1 (w1.alloc (.cells #[.pointer none, .slice none 0 0] 52)) := below_alloc (Below.refl _ _) _
    have hbig : l1.length ≤ 9223372036854775807 := by omega
    clear hr0_1 hr1 hr1w ht hB0 hcell hB1
    go_wp2_with fail
    go_loopg [8, 15] l1.length (fun gg _ s15 wr => ∃ kk : Nat, kk ≤ l1.length ∧ l1.length - kk ≤ gg ∧ s15 = .int .i64 kk ∧ Aside0 (Below w1.heap.size w1 wr) ∧ Aside0 (w1.heap.size ≤ wr.heap.size) ∧ Aside0 (Lib.IsBuilder 52 5 w1.heap.size w1.heap.size (Lib.byteCells (bytesU a0_0 (l1.take kk))) wr))
    case atStart => exact ⟨0, Nat.zero_le _, by omega, rfl, ⟨hBB⟩, ⟨hBB.size⟩, ⟨hfresh⟩⟩
    case round =>
      obtain ⟨kk, hkk, hg, rfl, BW, SZ, BI⟩ := hrel
      have hcw : wr.cell? ⟨w.heap.size, 0, none⟩ = some (.bool a0_0) := (BW.out.cell hbox).trans hcell1
      by_cases hlt : kk < l1.length
      · have hltz : (kk : Int) < (l1.length : Int) := by omega
        have hltb : decide ((kk : Int) < (l1.length : Int)) = true := decide_eq_true hltz
        obtain ⟨ad, e, h0⟩ := Kd.at_int HR.out (kk : Int) (by omega) hltz
        cases e
        replace h0 := (BW.out.cell (World.block_lt_of_cell? w1 _ h0)).trans h0
        simp only [Int.toNat_natCast] at h0
        have hst := bytes_step a0_0 l1 kk hlt
        have hll := bytesU_len a0_0 (l1.take kk)
        have hl1 : (Lib.byteCells (bytesU a0_0 (l1.take kk))).length + 1 ≤ 140737488355328 := by
          rw [Lib.byteCells_length]
          rw [List.length_take] at hll
          omega
        have hl2 : (Lib.byteCells (bytesU a0_0 (l1.take kk))).length + 1 + 1 ≤ 140737488355328 := by
          rw [Lib.byteCells_length]
          rw [List.length_take] at hll
          omega
        clear hll
        replace hst := Aside0.mk hst
        rcases Bool.eq_false_or_eq_true a0_0 with hw | hw
        ·
          rw [hw] at hcw
          replace hw := Aside0.mk hw
          go_wp2_with fail
          refine (writeByte_calls w1.heap.size w1.heap.size _ _ wr BI.out hl1 SZ.out).mono ?_
          rintro e w2 ⟨rfl, hb2, hB2⟩
          go_wp2_with fail
          refine (writeByte_calls w1.heap.size w1.heap.size _ _ w2 (.inr hb2) (by rw [List.length_append]; exact hl2) (Nat.le_trans SZ.out hB2.size)).mono ?_
          rintro e w3 ⟨rfl, hb3, hB3⟩
          go_wp2_with fail
          go_roundg (l1.length - (kk + 1))
          case measure => omega
          case rel =>
            refine ⟨kk + 1, by omega, by omega, by go_num, ⟨(BW.out.trans hB2).trans hB3⟩, ⟨Nat.le_trans (Nat.le_trans SZ.out hB2.size) hB3.size⟩, ⟨.inr ?_⟩⟩
            rw [hst.out, hw.out, if_pos rfl]
            rw [hw.out] at hb3
            simpa using hb3
        ·
          rw [hw] at hcw
          replace hw := Aside0.mk hw
          go_wp2_with fail
          refine (writeByte_calls w1.heap.size w1.heap.size _ _ wr BI.out hl1 SZ.out).mono ?_
          rintro e w2 ⟨rfl, hb2, hB2⟩
          go_wp2_with fail
          go_roundg (l1.length - (kk + 1))
          case measure => omega
          case rel =>
            refine ⟨kk + 1, by omega, by omega, by go_num, ⟨BW.out.trans hB2⟩, ⟨Nat.le_trans SZ.out hB2.size⟩, ⟨.inr ?_⟩⟩
            rw [hst.out, hw.out, if_neg Bool.false_ne_true]
            rw [hw.out] at hb2
            exact hb2
      · have hltz : ¬ (kk : Int) < (l1.length : Int) := by omega
        have hltb : decide ((kk : Int) < (l1.length : Int)) = false := decide_eq_false hltz
        obtain rfl : kk = l1.length := by omega
        go_wp2_with fail
        refine (Go.Proofs.Try.Builder_String_any w1.heap.size w1.heap.size (bytesU a0_0 (l1.take l1.length)) wr BI.out SZ.out).mono ?_
        rintro e w2 ⟨rfl, hB2⟩
        go_wp2_with fail
        go_ret2
        exact ⟨by rw [← hr1'.out]; rfl, below_step hB (BW.out.trans hB2)⟩
end Go.Proofs.Ytjhpcfpccnfniaa.A
