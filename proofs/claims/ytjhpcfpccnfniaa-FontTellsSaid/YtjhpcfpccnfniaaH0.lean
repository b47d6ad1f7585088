/- slices.IndexFunc and slices.ContainsFunc at this seat's two types, over whatever predicate; font.index. -/
import Derived.Test.YtjhpcfpccnfniaaA0
import Derived.Test.YtjhpcfpccnfniaaA2
import Derived.Shelf.Abstract
namespace Go.Proofs.Ytjhpcfpccnfniaa.A
open Go.RowKit Go.Proofs.YtjhpcfpccnfniaaW.PrintWords Go.Proofs.YtjhpcfpccnfniaaW.PrintLast Go.Proofs.YtjhpcfpccnfniaaW.PrintMore
attribute [local go_sem] max2_int min2_int max_two min_two max_three min_three max_four min_four
set_option linter.unusedVariables false
set_option linter.unusedSimpArgs false
def ixOf {α : Type} (p : α → Bool) : List α → Nat → Int
  | [], _ => -1
  | x :: t, i => if p x = true then (i : Int) else ixOf p t (i + 1)
theorem ixOf_step {α : Type} (p : α → Bool) (l : List α) (d : α) (i : Nat) (h : i < l.length) : ixOf p (l.drop i) i = if p (l.getD i d) = true then (i : Int) else ixOf p (l.drop (i + 1)) (i + 1) := by
  rw [List.drop_eq_getElem_cons h, ixOf, List.getD_eq_getElem?_getD, List.getElem?_eq_getElem h]
  rfl
theorem ixOf_end {α : Type} (p : α → Bool) (l : List α) (i : Nat) (h : l.length ≤ i) : ixOf p (l.drop i) i = -1 := by
  rw [List.drop_eq_nil_of_le h, ixOf]
def agg37 (x : S37) : Value := .agg #[.int .i64 x.f0, .int .i64 x.f1, .string x.f2]
def PredB {α : Type} (g : Nat) (lb : Array Value) (enc : α → Value) (p : α → Bool) (w : World) : Prop :=
  ∀ (W : World) (x : α), Below w.heap.size w W → Calls Try.prog g (#[enc x] ++ lb) W fun e w' => e = .returned (.bool (p x)) ∧ Below w.heap.size w w'
set_option maxHeartbeats 4000000 in
theorem indexFunc37 (g : Nat) (lb : Array Value) (p : S37 → Bool) (eg : ∀ args w, (callFunc g args).run Try.prog w = .ok (.enter g args) w) (A : Option Addr) (c : Nat) (l : List S37) (w : World)
    (hp : PredB g lb agg37 p w) (hr : Kd.C k37 w A l.length l) :
    Calls Try.prog 50 #[.slice A l.length c, .func (.func g) #[] lb] w fun e w' => e = .returned (.int .i64 (ixOf p l 0)) ∧ Below w.heap.size w w' := by
  have hbig : l.length ≤ 9223372036854775807 := hr.2.1
  have HR := Aside0.mk hr
  clear hr
  have HP := Aside0.mk hp
  clear hp
  go_enter Try.func50, Try.ntmps50
  go_wp2
  go_loopg [5, 8] l.length (fun gg _ s8 wr => ∃ kk : Nat, kk ≤ l.length ∧ l.length - kk ≤ gg ∧ s8 = .int .i64 kk ∧ Aside (Below w.heap.size w wr) ∧ Aside (ixOf p (l.drop kk) kk = ixOf p l 0))
  case atStart => exact ⟨0, Nat.zero_le _, by omega, rfl, Below.refl _ w, rfl⟩
  case round =>
    obtain ⟨kk, hkk, hg, rfl, BW, IX⟩ := hrel
    by_cases hlt : kk < l.length
    · have hltz : (kk : Int) < (l.length : Int) := by omega
      have hltb : decide ((kk : Int) < (l.length : Int)) = true := decide_eq_true hltz
      obtain ⟨ad, e, h0, h1, h2⟩ := at_T37 HR.out (kk : Int) (by omega) hltz
      cases e
      replace h0 := (BW.out.cell (World.block_lt_of_cell? w _ h0)).trans h0
      replace h1 := (BW.out.cell (World.block_lt_of_cell? w _ h1)).trans h1
      replace h2 := (BW.out.cell (World.block_lt_of_cell? w _ h2)).trans h2
      simp only [Int.toNat_natCast] at h0 h1 h2
      have hy0 : l.getD kk z37 = rd_T37 l (kk : Int) := rfl
      have hst := ixOf_step p l z37 kk hlt
      rw [hy0, IX.out] at hst
      have hcall := HP.out wr (rd_T37 l (kk : Int)) BW.out
      unfold agg37 at hcall
      generalize rd_T37 l (kk : Int) = y at h0 h1 h2 hst hcall
      clear hy0
      cases hq : p y with
      | true =>
        rw [hq] at hcall
        go_wp2_with (go_at_fn g; refine hcall.mono ?_; rintro e w' ⟨rfl, hb'⟩)
        go_ret
        rw [hq, if_pos rfl] at hst
        exact ⟨by rw [hst]; rfl, hb'⟩
      | false =>
        rw [hq] at hcall
        rw [hq, if_neg Bool.false_ne_true] at hst
        go_wp2_with (go_at_fn g; refine hcall.mono ?_; rintro e w' ⟨rfl, hb'⟩)
        go_roundg (l.length - (kk + 1))
        case measure => omega
        case rel => exact ⟨kk + 1, by omega, by omega, by go_num, hb', (show Aside _ from hst.symm)⟩
    · have hltz : ¬ (kk : Int) < (l.length : Int) := by omega
      have hltb : decide ((kk : Int) < (l.length : Int)) = false := decide_eq_false hltz
      have hend := ixOf_end p l kk (by omega)
      rw [IX.out] at hend
      go_wp2
      go_ret
      exact ⟨by rw [← hend]; rfl, BW.out⟩
theorem index1_calls (b : Nat) (code : Int) (x : S37) (w : World) (hc : w.cell? ⟨b, 0, none⟩ = some (.int .i64 code)) :
    Calls Try.prog 51 #[agg37 x, .pointer (some ⟨b, 0, none⟩)] w fun e w' => e = .returned (.bool (x.f0 == code)) ∧ Below w.heap.size w w' := by
  have hb : b < w.heap.size := World.block_lt_of_cell? w _ hc
  unfold agg37
  go_enter Try.func51, Try.ntmps51
  go_wp2
  go_ret
  exact ⟨rfl, below_alloc (Below.refl _ _) _⟩
end Go.Proofs.Ytjhpcfpccnfniaa.A
