/- slices.Chunk's iterator. -/
import Derived.RangeFuncBox
import Derived.RangeFuncLeaves
import Derived.RangeFuncNested
import Derived.RangeFuncBound
import Derived.RangeFuncCalls
import Derived.OwnWalkIn
import Derived.TacticsInMore
import Derived.LoopNIn
import Derived.LoopIn
import Derived.OrdersIn
import Derived.TacticsIn
import Derived.Test.YtjhpcfpccnfniaaH4
import Derived.Test.YtjhpcfpccnfniaaWWords
import Derived.Test.YtjhpcfpccnfniaaWLast
namespace Go.Proofs.Ytjhpcfpccnfniaa.A
open Go.RowKit Go.Shelf Go.Proofs.YtjhpcfpccnfniaaW.PrintWords Go.Proofs.YtjhpcfpccnfniaaW.PrintLast Go.Proofs.YtjhpcfpccnfniaaW.PrintMore
attribute [local go_sem] max2_int min2_int max_two min_two max_three min_three max_four min_four
attribute [local go_sem] Oper.semAt_some
set_option linter.unusedVariables false
set_option linter.unusedSimpArgs false
abbrev Chunk (len : Nat) := { x : Nat × Nat // x.1 + x.2 ≤ len ∧ 1 ≤ x.2 ∧ x.1 < len }
def chunks (n len : Nat) (hn : 1 ≤ n) : Nat → Nat → List (Chunk len)
  | 0, _ => []
  | f + 1, a => if h : a < len then ⟨(a, min n (len - a)), by show a + min n (len - a) ≤ len ∧ 1 ≤ min n (len - a) ∧ a < len; omega⟩ :: chunks n len hn f (a + n) else []
def encChunk (len : Nat) (A : Option Addr) (x : Chunk len) : Array Value := #[.slice (A.map (·.add x.1.1)) x.1.2 x.1.2]
def intOf : Value → Int | .int _ n => n | _ => 0
def Kpt (n₀ Bs Bn : Nat) (A B : World) : Prop := Below n₀ A B ∧ B.heap[Bs]? = A.heap[Bs]? ∧ B.heap[Bn]? = A.heap[Bn]?
theorem kpt_t {n₀ Bs Bn : Nat} {A B C : World} (h : Kpt n₀ Bs Bn A B) (k : Kpt n₀ Bs Bn B C) : Kpt n₀ Bs Bn A C := ⟨h.1.trans k.1, k.2.1.trans h.2.1, k.2.2.trans h.2.2⟩
theorem kpt_refl (n₀ Bs Bn : Nat) (A : World) : Kpt n₀ Bs Bn A A := ⟨Below.refl _ _, rfl, rfl⟩
theorem kpt_drew {n₀ Bs Bn : Nat} {A B : World} (h : Kpt n₀ Bs Bn A B) (m : Nat) : Kpt n₀ Bs Bn A (B.drewN m) := ⟨pw_below_drewN h.1 _, h.2⟩
set_option maxRecDepth 100000 in
set_option maxHeartbeats 4000000 in
theorem chunk_in (N : Nat) (hN : 2 ≤ N) (lb Bs Bn n₀ : Nat) (n len : Nat) (hn1 : 1 ≤ n) (hn : 1 ≤ n ∧ n ≤ 2) (hl : len ≤ 1000000) (A : Option Addr) (c : Nat) (hc : len ≤ c) (J Jx : List (Chunk len) → World → Prop)
    (W : World) (hJa : AbidesFrom W.heap.size J)
    (hY : ∀ pre x W1, J pre W1 → pre.length < len → YieldAt Fence.wide (N - 1) Try.prog lb (encChunk len A x) W1 fun e W' =>
      (e = .returned (.bool true) ∧ J (pre ++ [x]) W' ∧ Kpt n₀ Bs Bn W1 W') ∨ (e = .returned (.bool false) ∧ Jx (pre ++ [x]) W'))
    (hb : Boxed W Bs 48 (.slice A len c)) (hb2 : Boxed W Bn 3 (.int .i64 n)) (h0 : J [] W) :
    CallsIn Fence.wide N Try.prog 41 #[.func (.yield lb) #[] #[], .pointer (some ⟨Bs, 0, none⟩), .pointer (some ⟨Bn, 0, none⟩)] W fun e W' => (∃ v, e = .returned v) ∧
      ((∃ ys, ys = chunks n len hn1 (len + 1) 0 ∧ J ys W') ∨ (∃ pre, Jx pre W')) := by
  refine callsIn_of_wp Try.func41 rfl trivial ?_ rfl
  simp only [Try.ntmps41, List.size_toArray, List.length_cons, List.length_nil, Nat.reduceAdd, Nat.reduceSub, Array.replicate_succ, Array.replicate_zero, List.push_toArray, List.append_toArray, List.nil_append, List.cons_append]
  gi_wp2
  gi_loopw [4] (fun i wr => ∃ (k f : Nat) (pre : List (Chunk len)), i = .int .i64 k ∧ k ≤ len + 2 ∧ len < k + f ∧ Aside0 (pre ++ chunks n len hn1 f k = chunks n len hn1 (len + 1) 0) ∧ Aside0 (pre.length ≤ k) ∧ J pre wr ∧ Aside0 (Kpt n₀ Bs Bn W wr) ∧ W.heap.size ≤ wr.heap.size)
    (fun i _ => len + 2 - (intOf i).toNat)
  case atStart => exact ⟨0, len + 1, [], rfl, by omega, by omega, ⟨rfl⟩, ⟨Nat.le_refl _⟩, h0, ⟨kpt_refl _ _ _ _⟩, Nat.le_refl _⟩
  case round =>
    obtain ⟨k, f, pre, rfl, hk, hf, hpre, hlen, hJs, hkp, hsz⟩ := hrel
    have hb' : wr.cell? ⟨Bs, 0, none⟩ = some (.slice A len c) := Boxed.cell (t := 48) (hkp.out.2.1.trans hb)
    have hb2' : wr.cell? ⟨Bn, 0, none⟩ = some (.int .i64 n) := Boxed.cell (t := 3) (hkp.out.2.2.trans hb2)
    by_cases hlt : k < len
    · have c1b : decide ((k : Int) < (len : Int)) = true := by simp; omega
      obtain ⟨i0, hi0, _, hsz0, _⟩ := info_parts infoByte
      have hcut := cut_from (P := Try.prog) 48 5 .i64 Try.underlying48 hi0 1 hsz0 A len c (k : Int) (by omega) (by omega)
      obtain ⟨m, hm⟩ : ∃ m, min n (len - k) = m := ⟨_, rfl⟩
      have hmn : (if ((len - (k : Int).toNat : Nat) : Int) < (n : Int) then ((len - (k : Int).toNat : Nat) : Int) else (n : Int)) = (m : Int) := by
        split <;> omega
      gi_wp2
      refine wpIn_wide.2 ?_
      go_quiet (fail)
      have hm2 : (if len - k < n then ((len - k : Nat) : Int) else (n : Int)) = (m : Int) := by
        split <;> omega
      rw [hm2]
      have hJm : J pre (wr.drewN nq) := hJa pre wr _ none hJs (grown_of_below (Drawn0.below ⟨⟨nq, rfl⟩⟩) none) (fun r e => by cases e)
      have hxp : k + min n (len - k) ≤ len ∧ 1 ≤ min n (len - k) ∧ k < len := by omega
      obtain ⟨x, hx⟩ : ∃ x : Chunk len, x = (⟨(k, min n (len - k)), hxp⟩ : Chunk len) := ⟨_, rfl⟩
      have hx1 : encChunk len A x = #[.slice (A.map (·.add k)) m m] := by rw [hx]; simp only [encChunk, hm]
      have HX := Aside0.mk hx
      clear hx
      obtain ⟨fn, tmps, assign, body, hy, hR⟩ := hY pre x _ hJm (by have := hlen.out; omega)
      rw [hx1] at hy
      gi_wp2
      refine ⟨fun _ => by omega, ?_⟩
      refine hR.mono ?_
      rintro e W3 (⟨rfl, hJ3, hk3⟩ | ⟨rfl, hJx3⟩)
      · obtain ⟨g, rfl⟩ : ∃ g, f = g + 1 := ⟨f - 1, by omega⟩
        have hp2 : Aside0 ((pre ++ [x]) ++ chunks n len hn1 g (k + n) = chunks n len hn1 (len + 1) 0) := ⟨by
          have := hpre.out
          rw [chunks, dif_pos hlt, ← HX.out] at this
          rw [← this]
          simp⟩
        have hkp3 : Aside0 (Kpt n₀ Bs Bn W W3) := ⟨kpt_t (kpt_drew hkp.out nq) hk3⟩
        have hl3 : Aside0 ((pre ++ [x]).length ≤ k + n) := ⟨by have := hlen.out; rw [List.length_append, List.length_singleton]; omega⟩
        have hb3 : W3.cell? ⟨Bn, 0, none⟩ = some (.int .i64 n) := Boxed.cell (t := 3) (hkp3.out.2.2.trans hb2)
        have hsz3 : W.heap.size ≤ W3.heap.size := Nat.le_trans hsz hk3.1.size
        gi_wp2
        go_roundw
        case rel => exact ⟨k + n, g, pre ++ [x], by go_num, by omega, by omega, hp2, hl3, hJ3, hkp3, hsz3⟩
        case measure => simp [intOf]; omega
      · gi_wp2
        refine bodyPost_ret (results_none rfl _ _ _) rfl ?_
        exact ⟨⟨_, rfl⟩, .inr ⟨_, hJx3⟩⟩
    · have c1b : decide ((k : Int) < (len : Int)) = false := by simp; omega
      gi_wp2
      go_end0
      have hend : chunks n len hn1 f k = [] := by
        cases f with
        | zero => rfl
        | succ f => rw [chunks, dif_neg hlt]
      have := hpre.out
      rw [hend, List.append_nil] at this
      exact ⟨⟨_, rfl⟩, .inl ⟨pre, this, hJs⟩⟩
end Go.Proofs.Ytjhpcfpccnfniaa.A
