/- What layer 1 calls of Go's library: FormatUint at base 10, Repeat, Cut at one byte, TrimLeft and TrimRight at "0", Add64, Sub64. -/
import Derived.Test.YtdkckjiccpdkbaaDoorShelf
import Derived.Test.YtdkckjiccpdkbaaDoorWWords
import Derived.Lib.Walk
import Derived.Lib.ItoaMem
import Derived.Lib.AppendIntMem
import Derived.Lib.Strings
import Derived.Lib.CutLaws
import Derived.WalkKit
import Derived.BigCall
import Derived.BigGuard
import Derived.Laws.Externs
import Derived.Lib.SmallJoins
import Derived.Deep.QuietTactic
import Derived.BigQuiet
import Derived.Shelf.RegionOpenPlain
namespace Go.Proofs.YtdkckjiccpdkbaaDoor.H
open Go.Shelf Go.RowKit Go.Sort Go.Lib Go.Proofs.YtdkckjiccpdkbaaDoorW.PrintWords
set_option linter.unusedVariables false
set_option linter.unusedSimpArgs false
def Tab (w : World) : Prop := Lib.TabIs Tryd.prog w "internal/strconv.uint64pow10" .u64 Lib.pow10Tab
theorem Tab.below {w w' : World} (h : Tab w) (hb : Below w.heap.size w w') : Tab w' := by
  have hg : ∃ g, Tryd.prog.globalNamed "internal/strconv.uint64pow10" = some g := by
    unfold Tab Lib.TabIs World.var? at h
    cases hq : Tryd.prog.globalNamed "internal/strconv.uint64pow10" with
    | none => rw [hq] at h; cases h
    | some g => exact ⟨g, rfl⟩
  obtain ⟨g, hg⟩ := hg
  exact Go.Joins.tab_stays hg h hb (Nat.le_refl _)
set_option maxHeartbeats 6400000 in
set_option maxRecDepth 100000 in
theorem formatUint_in (u : Nat) (hu64 : u < 18446744073709551616) (w : World) (htab : Tab w) :
    Calls Tryd.prog 45 #[.int .u64 u, .int .i64 10] w fun e w' => e = .returned (.string ⟨(Lib.decDigits u).toArray⟩) ∧ Below w.heap.size w w' := by
  by_cases hs : u < 100
  · have hb : decide ((u : Int) < 100) = true := by simp; omega
    have hw : wrap64 (u : Int) = (u : Int) := by unfold wrap64; omega
    go_enter Tryd.func45, Tryd.ntmps45
    go_wp2_with (go_at_call 65; refine (Tryd.internal_strconv_small u hs _).mono ?_; rintro e w' ⟨rfl, rfl⟩)
    go_ret
    exact ⟨rfl, Below.refl _ _⟩
  · have hu1 : 1 ≤ u := by omega
    have hnd20 : Lib.nDigits u ≤ 20 := by have := Lib.numDigits_eq u hu1 hu64; split at this <;> omega
    have hb : decide ((u : Int) < 100) = false := by simp; omega
    have hal : Tryd.prog.arrayLen 97 = 24 := by simp [Program.arrayLen, Tryd.underlying97]
    have hsl1 : ∀ W, (Instr.sliceAt 97 (.pointer (some ⟨w.heap.size, 0, none⟩)) none (some (.int .i64 (Lib.nDigits u : Int))) none).run Tryd.prog W = .ok (.slice (some ⟨w.heap.size, 0, none⟩) (Lib.nDigits u) 24) W := fun W => by
      rw [run_sliceAt_array_h W 97 ⟨w.heap.size, 0, none⟩ (by simp [Program.arrayLen, Program.elem, Tryd.underlying97]) .i64 (Lib.nDigits u : Int) (by omega) (by rw [hal]; omega)]
      go_simp
    have hH0 := Lib.holds_zero0 w 97 (Lib.nDigits u) (by omega)
    have hfmt := Tryd.internal_strconv_formatBase10 w.heap.size 0 24 u (Array.replicate (Lib.nDigits u) 0) (w.alloc (.cells Lib.zeros24 97)) hH0 (by rw [Array.size_replicate]; exact Lib.lt_pow_nDigits u) hu64 (by rw [Array.size_replicate]; omega)
    rw [Array.size_replicate] at hfmt
    have HH0 := Lib.hid hH0
    clear hH0 hal
    go_enter Tryd.func45, Tryd.ntmps45
    go_wp2_with (go_at_call 66; refine (Tryd.internal_strconv_numDigits u hu1 hu64 _ (Lib.tabIs_alloc htab _)).mono ?_; rintro e w' ⟨rfl, rfl⟩)
    refine hfmt.mono ?_
    rintro e w' ⟨rfl, k, v', dk, rfl, hF⟩
    have hcv : (convert 49 9 (.slice (some ⟨w.heap.size, 0, none⟩) (Lib.nDigits u) 24)).run Tryd.prog ((putRow (fun (b : UInt8) => Value.int .u8 (b.toNat : Int)) (w.alloc (.cells Lib.zeros24 97)) w.heap.size 0 dk).drewN k) = .ok (.string ⟨(Lib.decDigits u).toArray⟩) ((putRow (fun (b : UInt8) => Value.int .u8 (b.toNat : Int)) (w.alloc (.cells Lib.zeros24 97)) w.heap.size 0 dk).drewN k) := by
      have h := run_convert_bytes_back (P := Tryd.prog) ((putRow (fun (b : UInt8) => Value.int .u8 (b.toNat : Int)) (w.alloc (.cells Lib.zeros24 97)) w.heap.size 0 dk).drewN k) 49 9 5 ⟨w.heap.size, 0, none⟩ 24 (Lib.decDigits u) Tryd.underlying49 Tryd.underlying5 Tryd.underlying9 (fun j hj => by
        rw [Lib.row_is_numeral hF j hj, Lib.add_plain, World.cell?_drewN]
        exact cell?_putRow (fun (b : UInt8) => Value.int .u8 (b.toNat : Int)) _ w.heap.size 0 _ dk HH0.out (by rw [hF.size, Array.size_replicate]) j (by rw [hF.size]; rw [Lib.decDigits_length] at hj; exact hj))
      rw [Lib.decDigits_length] at h
      exact h
    have hbel : Below w.heap.size w ((putRow (fun (b : UInt8) => Value.int .u8 (b.toNat : Int)) (w.alloc (.cells Lib.zeros24 97)) w.heap.size 0 dk).drewN k) := by
      rw [alloc_eq_grow]
      obtain ⟨os', _, e⟩ := putRow_grow_new (fun (b : UInt8) => Value.int .u8 (b.toNat : Int)) w #[.cells Lib.zeros24 97] w.heap.size 0 dk (Nat.le_refl _)
      rw [e]
      exact ⟨rfl, rfl, rfl, by show w.heap.size ≤ (w.heap ++ os').size; rw [Array.size_append]; omega, fun _ hj => heap_grow_old w os' hj⟩
    go_wp2
    go_ret
    exact ⟨rfl, hbel⟩
set_option maxHeartbeats 1000000 in
theorem formatUint_any (u : Nat) (hu64 : u < 18446744073709551616) (w : World) (htab : Tab w) :
    Calls Tryd.prog 26 #[.int .u64 u, .int .i64 10] w fun e w' => e = .returned (.string ⟨(Lib.decDigits u).toArray⟩) ∧ Below w.heap.size w w' := by
  go_enter Tryd.func26, Tryd.ntmps26
  go_wp2_with fail
  refine (formatUint_in u hu64 _ htab).mono ?_
  rintro e w' ⟨rfl, hb⟩
  go_wp2_with fail
  go_ret
  exact ⟨rfl, hb⟩
def strconv_FormatUint.f (a0 : Int) (a1 : Int) : Option ByteArray := if a1 = 10 ∧ 0 ≤ a0 ∧ a0 < 18446744073709551616 then some ⟨(Lib.decDigits a0.toNat).toArray⟩ else none
theorem strconv_FormatUint.calls (a0 : Int) (a1 : Int) (r : ByteArray) (w : World) (hT : Tab w) (h : strconv_FormatUint.f a0 a1 = some r) :
    Calls Tryd.prog 26 #[.int .u64 a0, .int .i64 a1] w fun e w' => e = .returned (.string r) ∧ Below w.heap.size w w' := by
  unfold strconv_FormatUint.f at h
  split at h
  · next hc =>
    obtain ⟨rfl, h0, h1⟩ := hc
    obtain rfl := Option.some.inj h
    obtain ⟨u, rfl⟩ := Int.eq_ofNat_of_zero_le h0
    exact formatUint_any u (by omega) w hT
  · cases h
def strings_Repeat.f (a0 : ByteArray) (a1 : Int) : Option ByteArray := if 0 ≤ a1 ∧ a1 ≤ 1000 ∧ a0.size ≤ 1000 then some ⟨(Lib.repeatL a0.data.toList a1.toNat).toArray⟩ else none
theorem strings_Repeat.calls (a0 : ByteArray) (a1 : Int) (r : ByteArray) (w : World) (h : strings_Repeat.f a0 a1 = some r) :
    Calls Tryd.prog 28 #[.string a0, .int .i64 a1] w fun e w' => e = .returned (.string r) ∧ Below w.heap.size w w' := by
  unfold strings_Repeat.f at h
  split at h
  · next hc =>
    obtain ⟨h0, h1, h2⟩ := hc
    obtain rfl := Option.some.inj h
    obtain ⟨u, rfl⟩ := Int.eq_ofNat_of_zero_le h0
    refine Tryd.strings_Repeat a0 u w (by omega) ?_
    have : a0.size * u ≤ 1000 * 1000 := Nat.mul_le_mul h2 (by omega)
    omega
  · cases h
def strings_TrimLeft.f (a0 : ByteArray) (a1 : ByteArray) : Option ByteArray := if a1 = ⟨#[48]⟩ then some ⟨(Lib.trimLeftB a0.data.toList 48).toArray⟩ else none
theorem strings_TrimLeft.calls (a0 : ByteArray) (a1 : ByteArray) (r : ByteArray) (w : World) (h : strings_TrimLeft.f a0 a1 = some r) :
    Calls Tryd.prog 30 #[.string a0, .string a1] w fun e w' => e = .returned (.string r) ∧ Below w.heap.size w w' := by
  unfold strings_TrimLeft.f at h
  split at h
  · next hc =>
    subst hc
    obtain rfl := Option.some.inj h
    exact (Tryd.strings_TrimLeft_one a0 48 (by decide) w).mono fun e w' hw => by obtain ⟨rfl, rfl⟩ := hw; exact ⟨rfl, Below.refl _ _⟩
  · cases h
def strings_TrimRight.f (a0 : ByteArray) (a1 : ByteArray) : Option ByteArray := if a1 = ⟨#[48]⟩ ∧ a0.size ≤ 1000000 then some ⟨(Lib.trimRightB a0.data.toList 48).toArray⟩ else none
theorem strings_TrimRight.calls (a0 : ByteArray) (a1 : ByteArray) (r : ByteArray) (w : World) (h : strings_TrimRight.f a0 a1 = some r) :
    Calls Tryd.prog 31 #[.string a0, .string a1] w fun e w' => e = .returned (.string r) ∧ Below w.heap.size w w' := by
  unfold strings_TrimRight.f at h
  split at h
  · next hc =>
    obtain ⟨rfl, hs⟩ := hc
    obtain rfl := Option.some.inj h
    exact (Tryd.strings_TrimRight_one a0 48 (by decide) w (by omega)).mono fun e w' hw => by obtain ⟨rfl, rfl⟩ := hw; exact ⟨rfl, Below.refl _ _⟩
  · cases h
def cutAt (l : List UInt8) (c : UInt8) : List UInt8 × List UInt8 × Bool := if 0 ≤ Lib.indexByte l c then (l.take (Lib.indexByte l c).toNat, l.drop ((Lib.indexByte l c).toNat + 1), true) else (l, [], false)
theorem indexByte_range : ∀ (l : List UInt8) (c : UInt8), -1 ≤ Lib.indexByte l c ∧ Lib.indexByte l c < l.length
  | [], c => by simp [Lib.indexByte]
  | b :: l, c => by
    have := indexByte_range l c
    unfold Lib.indexByte
    rw [List.length_cons]
    split
    · omega
    · split <;> omega
set_option maxHeartbeats 2000000 in
theorem cut_in (s : ByteArray) (c : UInt8) (hs : s.size ≤ 1000000) (w : World) :
    Calls Tryd.prog 52 #[.string s, .string ⟨#[c]⟩] w fun e w' => e = .returned (.tuple #[.string ⟨(cutAt s.data.toList c).1.toArray⟩, .string ⟨(cutAt s.data.toList c).2.1.toArray⟩, .bool (cutAt s.data.toList c).2.2]) ∧ ∃ n, w' = w.drewN n := by
  have hr := indexByte_range s.data.toList c
  have hl : s.data.toList.length = s.size := by rw [Array.length_toList]; rfl
  rw [hl] at hr
  unfold cutAt
  by_cases h0 : 0 ≤ Lib.indexByte s.data.toList c
  · rw [if_pos h0]
    obtain ⟨i, hi⟩ := Int.eq_ofNat_of_zero_le h0
    rw [hi] at hr ⊢
    have hi' : (i : Int) < (s.size : Int) := hr.2
    have c1 : (0 : Int) ≤ (i : Int) := by omega
    have c2 : (i : Int) ≤ (s.size : Int) := by omega
    have c3 : (0 : Int) ≤ (i : Int) + 1 := by omega
    have c4 : (i : Int) + 1 ≤ (s.size : Int) := by omega
    go_enter Tryd.func52, Tryd.ntmps52
    go_wp2_with (go_at_call 73; refine (Tryd.stringslite_Index_one _ _ _).mono ?_; rintro e w' ⟨rfl, rfl⟩; rw [hi])
    go_quiet (fail)
    go_wp2
    go_ret3
    refine ⟨?_, nq, rfl⟩
    show Ending.returned (.tuple #[_, _, _]) = _
    simp only [Array.getD_eq_getD_getElem?, List.getElem?_toArray, List.getElem?_cons_zero, List.getElem?_cons_succ, Option.getD_some]
    have e1 : s.extract 0 i = ⟨(List.take (i : Int).toNat s.data.toList).toArray⟩ := by rw [Lib.extract_eq]; simp
    have e2 : s.extract (i + 1) s.size = ⟨(List.drop ((i : Int).toNat + 1) s.data.toList).toArray⟩ := by
      rw [Lib.extract_eq, List.take_of_length_le (by rw [List.length_drop, hl]; omega)]
      simp
    rw [e1, e2]
  · rw [if_neg h0]
    have hi : Lib.indexByte s.data.toList c = -1 := by omega
    go_enter Tryd.func52, Tryd.ntmps52
    go_wp2_with (go_at_call 73; refine (Tryd.stringslite_Index_one _ _ _).mono ?_; rintro e w' ⟨rfl, rfl⟩; rw [hi])
    go_ret3
    refine ⟨?_, 0, rfl⟩
    simp only [Array.getD_eq_getD_getElem?, List.getElem?_toArray, List.getElem?_cons_zero, List.getElem?_cons_succ, Option.getD_some]
set_option maxHeartbeats 1000000 in
theorem cut_any (s : ByteArray) (c : UInt8) (hs : s.size ≤ 1000000) (w : World) :
    Calls Tryd.prog 29 #[.string s, .string ⟨#[c]⟩] w fun e w' => e = .returned (.tuple #[.string ⟨(cutAt s.data.toList c).1.toArray⟩, .string ⟨(cutAt s.data.toList c).2.1.toArray⟩, .bool (cutAt s.data.toList c).2.2]) ∧ ∃ n, w' = w.drewN n := by
  have hc := cut_in s c hs
  generalize cutAt s.data.toList c = q at hc ⊢
  obtain ⟨q1, q2, q3⟩ := q
  dsimp only at hc ⊢
  generalize (⟨q1.toArray⟩ : ByteArray) = s1 at hc ⊢
  generalize (⟨q2.toArray⟩ : ByteArray) = s2 at hc ⊢
  go_enter Tryd.func29, Tryd.ntmps29
  go_wp2_with fail
  refine (hc _).mono ?_
  rintro e w' ⟨rfl, n, rfl⟩
  go_wp2_with fail
  go_ret3
  exact ⟨rfl, n, rfl⟩
def strings_Cut.f (a0 : ByteArray) (a1 : ByteArray) : Option (ByteArray × ByteArray × Bool) := if a1 = ⟨#[46]⟩ ∧ a0.size ≤ 1000000 then some (⟨(cutAt a0.data.toList 46).1.toArray⟩, ⟨(cutAt a0.data.toList 46).2.1.toArray⟩, (cutAt a0.data.toList 46).2.2) else none
theorem strings_Cut.calls (a0 : ByteArray) (a1 : ByteArray) (r1 : ByteArray) (r2 : ByteArray) (r3 : Bool) (w : World) (h : strings_Cut.f a0 a1 = some (r1, r2, r3)) :
    Calls Tryd.prog 29 #[.string a0, .string a1] w fun e w' => e = .returned (.tuple #[.string r1, .string r2, .bool r3]) ∧ Below w.heap.size w w' := by
  unfold strings_Cut.f at h
  split at h
  · next hc =>
    obtain ⟨rfl, hs⟩ := hc
    have h2 := Option.some.inj h
    simp only [Prod.mk.injEq] at h2
    obtain ⟨rfl, rfl, rfl⟩ := h2
    exact (cut_any a0 46 hs w).mono fun e w' hw => by obtain ⟨rfl, n, rfl⟩ := hw; exact ⟨rfl, pw_below_drewN (Below.refl _ _) _⟩
  · cases h
def bits_LeadingZeros64.f (a0 : Int) : Option Int := if 0 ≤ a0 ∧ a0 < 18446744073709551616 then some (64 - (Lib.bitLen a0.toNat : Int)) else none
theorem bits_LeadingZeros64.calls (a0 : Int) (r : Int) (w : World) (h : bits_LeadingZeros64.f a0 = some r) :
    Calls Tryd.prog 94 #[.int .u64 a0] w fun e w' => e = .returned (.int .i64 r) ∧ Below w.heap.size w w' := by
  unfold bits_LeadingZeros64.f at h
  split at h
  · next hc =>
    obtain ⟨h0, h1⟩ := hc
    obtain rfl := Option.some.inj h
    exact (Tryd.bits_LeadingZeros64 a0 w h0 (by omega)).mono fun e w' hw => by obtain ⟨rfl, rfl⟩ := hw; exact ⟨rfl, Below.refl _ _⟩
  · cases h
def m64 : Int := 18446744073709551616
def bits_Add64.f (a0 : Int) (a1 : Int) (a2 : Int) : Option (Int × Int) := if 0 ≤ a0 ∧ 0 ≤ a1 ∧ 0 ≤ a2 ∧ a2 ≤ 1 then some ((a0 + a1 + a2) % 18446744073709551616, (a0 + a1 + a2) / 18446744073709551616) else none
theorem bits_Add64.run {a0 a1 a2 r1 r2 : Int} (h : bits_Add64.f a0 a1 a2 = some (r1, r2)) (w : World) :
    (callFunc 34 #[.int .u64 a0, .int .u64 a1, .int .u64 a2]).run Tryd.prog w = .ok (.value (.tuple #[.int .u64 r1, .int .u64 r2])) w := by
  unfold bits_Add64.f at h
  split at h
  · next hc =>
    obtain ⟨h0, h1, h2, h3⟩ := hc
    have h4 := Option.some.inj h
    simp only [Prod.mk.injEq] at h4
    obtain ⟨rfl, rfl⟩ := h4
    rw [run_callFunc_extern Tryd.func34 (by kernel_rfl) (by kernel_rfl) (by kernel_rfl) (e := add64Entry) (by kernel_rfl), run_add64 a0 a1 a2 h0 h1 h2 h3]
    rfl
  · cases h
def sub64Entry : Array Value → Sem Value := fun args => do
  let (x, y, b) ← Extern.MathBitsCarry.three "Sub64" args
  pure (Extern.MathBitsCarry.pair ((x + Extern.MathBitsCarry.m64 - y - b) % Extern.MathBitsCarry.m64) (if x < y + b then 1 else 0))
def bits_Sub64.f (a0 : Int) (a1 : Int) (a2 : Int) : Option (Int × Int) := if 0 ≤ a0 ∧ 0 ≤ a1 ∧ a1 < 18446744073709551616 ∧ a2 = 0 then some ((a0 + 18446744073709551616 - a1) % 18446744073709551616, if a0 < a1 then 1 else 0) else none
theorem run_sub64 (x y b : Nat) (hb : b ≤ 1) (w : World) :
    (sub64Entry #[.int .u64 x, .int .u64 y, .int .u64 b]).run Tryd.prog w =
      .ok (.tuple #[.int .u64 (((x + 18446744073709551616 - y - b) % 18446744073709551616 : Nat) : Int), .int .u64 ((if x < y + b then 1 else 0 : Nat) : Int)]) w := by
  have : b = 0 ∨ b = 1 := by omega
  rcases this with rfl | rfl <;> rfl
theorem bits_Sub64.run {a0 a1 a2 r1 r2 : Int} (h : bits_Sub64.f a0 a1 a2 = some (r1, r2)) (w : World) :
    (callFunc 36 #[.int .u64 a0, .int .u64 a1, .int .u64 a2]).run Tryd.prog w = .ok (.value (.tuple #[.int .u64 r1, .int .u64 r2])) w := by
  unfold bits_Sub64.f at h
  split at h
  · next hc =>
    obtain ⟨h0, h1, h2, rfl⟩ := hc
    have h4 := Option.some.inj h
    simp only [Prod.mk.injEq] at h4
    obtain ⟨rfl, rfl⟩ := h4
    obtain ⟨x, rfl⟩ := Int.eq_ofNat_of_zero_le h0
    obtain ⟨y, rfl⟩ := Int.eq_ofNat_of_zero_le h1
    rw [run_callFunc_extern Tryd.func36 (by kernel_rfl) (by kernel_rfl) (by kernel_rfl) (e := sub64Entry) (by kernel_rfl)]
    have e1 := run_sub64 x y 0 (by omega) w
    rw [show ((0 : Nat) : Int) = 0 from rfl] at e1
    rw [e1]
    have e2 : (((x + 18446744073709551616 - y - 0) % 18446744073709551616 : Nat) : Int) = ((x : Int) + 18446744073709551616 - y) % 18446744073709551616 := by omega
    have e3 : ((if x < y + 0 then 1 else 0 : Nat) : Int) = (if (x : Int) < y then 1 else 0) := by
      by_cases h5 : x < y
      · rw [if_pos (by omega), if_pos (by omega)]; rfl
      · rw [if_neg (by omega), if_neg (by omega)]; rfl
    rw [e2, e3]
    rfl
  · cases h
end Go.Proofs.YtdkckjiccpdkbaaDoor.H
