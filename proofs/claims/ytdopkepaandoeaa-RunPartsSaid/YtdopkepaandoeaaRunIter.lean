/- The iterator that run.parts hands back, for every loop body that keeps what lay below n₀. -/
import Derived.RangeFuncBox
import Derived.RangeFuncLeaves
import Derived.RangeFuncNested
import Derived.RangeFuncBound
import Derived.RangeFuncCalls
import Derived.Shelf.Abstract
import Derived.WalkKit
import Derived.OwnWalkIn
import Derived.TacticsInMore
import Derived.LoopNIn
import Derived.LoopIn
import Derived.Maps.AppendAt
import Derived.Test.YtdopkepaandoeaaRunSpec
namespace Go.Proofs.Ytdopkepaandoeaa.Run
open Go.RowKit Go.Shelf Go.Proofs.YtdopkepaandoeaaW.PrintWords Go.Proofs.YtdopkepaandoeaaW.PrintLast Go.Proofs.YtdopkepaandoeaaW.PrintMore
open Go.Proofs.Ytdopkepaandoeaa.Psame
attribute [local go_sem] Oper.semAt_some

theorem info5 : (Try.prog.info? 5).map (fun i => (i.zero, i.size, i.bytes)) = some (some (.int .u8 0), 1, 1) := by kernel_rfl
/-- The slice that a part is handed as. -/
def encPart (l : List Int) (A : Option Addr) (c : Nat) (x : Part l) : Array Value := #[.slice (A.map (·.add x.1.1)) x.1.2.1 (c - x.1.1), .bool x.1.2.2]

/-- What a round must keep: whatever lay below n₀, and block Bs. -/
def Kpt (n₀ Bs : Nat) (A B : World) : Prop := Below n₀ A B ∧ B.heap[Bs]? = A.heap[Bs]?
theorem kpt_t {n₀ Bs : Nat} {A B C : World} (h : Kpt n₀ Bs A B) (k : Kpt n₀ Bs B C) : Kpt n₀ Bs A C := ⟨h.1.trans k.1, k.2.trans h.2⟩
theorem kpt_refl (n₀ Bs : Nat) (A : World) : Kpt n₀ Bs A A := ⟨Below.refl _ _, rfl⟩
theorem kpt_drew {n₀ Bs : Nat} {A B : World} (h : Kpt n₀ Bs A B) (m : Nat) : Kpt n₀ Bs A (B.drewN m) := ⟨pw_below_drewN h.1 _, h.2⟩
theorem kpt_b {n₀ Bs : Nat} {w : World} (hn : n₀ ≤ w.heap.size) (hB : Bs < w.heap.size) (W : World) (l : Nat) (o o' : Obj) (hl : w.heap.size ≤ l) (h : W.heap[l]? = some o) (h1 : o.isCells = false) (h2 : o.isWalk = false) : Kpt n₀ Bs W (W.putObj l o') :=
  ⟨belowK_b hn W l o o' hl h h1 h2, World.putObj_heap_other (by omega)⟩

theorem same_at (l : List Int) (hl : l.length ≤ 140737488355328) (a : Nat) (ha : a < l.length) (A : Option Addr) (c : Nat) (hc : l.length ≤ c) (w : World) (hr : Kd.C (Kd.int .u8) w A l.length l) :
    Calls Try.prog 16 #[.slice A l.length c, .int .i64 (a : Int)] w fun e w' => e = .returned (.int .i64 ((sm l a : Nat) : Int)) ∧ Drawn0 w w' :=
  run_same.calls 128 A c l (a : Int) _ w hr hc (same_f l hl a ha)

set_option maxRecDepth 100000 in
set_option maxHeartbeats 4000000 in
theorem iter_in (n : Nat) (hn : 2 ≤ n) (lb Bs n₀ : Nat) (l : List Int) (hl : l.length ≤ 1048576) (A : Option Addr) (c : Nat) (hc : l.length ≤ c) (J Jx : List (Part l) → World → Prop)
    (W : World) (hJa : AbidesFrom W.heap.size J)
    (hY : ∀ pre x W1, J pre W1 → pre.length < l.length → YieldAt Fence.wide (n - 1) Try.prog lb (encPart l A c x) W1 fun e W' =>
      (e = .returned (.bool true) ∧ J (pre ++ [x]) W' ∧ Kpt n₀ Bs W1 W') ∨ (e = .returned (.bool false) ∧ Jx (pre ++ [x]) W'))
    (hb : Boxed W Bs 22 (.slice A l.length c)) (hr : ∀ W1, Below n₀ W W1 → Kd.C (Kd.int .u8) W1 A l.length l) (h0 : J [] W) :
    CallsIn Fence.wide n Try.prog 15 #[.func (.yield lb) #[] #[], .pointer (some ⟨Bs, 0, none⟩)] W fun e W' => (∃ v, e = .returned v) ∧
      ((∃ ys, ys = partsFrom l 0 ∧ J ys W') ∨ (∃ pre, Jx pre W')) := by
  refine callsIn_of_wp Try.func15 rfl trivial ?_ rfl
  simp only [Try.ntmps15, List.size_toArray, List.length_cons, List.length_nil, Nat.reduceAdd, Nat.reduceSub, Array.replicate_succ, Array.replicate_zero, List.push_toArray, List.append_toArray, List.nil_append, List.cons_append]
  gi_wp2
  gi_loopw [3] (fun i wr => ∃ (k : Nat) (pre : List (Part l)), k ≤ l.length ∧ i = .int .i64 k ∧ Aside0 (pre ++ partsFrom l k = partsFrom l 0) ∧ Aside0 (pre.length ≤ k) ∧ J pre wr ∧ Kpt n₀ Bs W wr ∧ W.heap.size ≤ wr.heap.size)
    (fun i _ => l.length - (intOf i).toNat)
  case atStart => exact ⟨0, [], Nat.zero_le _, rfl, ⟨rfl⟩, ⟨Nat.le_refl _⟩, h0, kpt_refl _ _ _, Nat.le_refl _⟩
  case round =>
    obtain ⟨k, pre, hk, rfl, hpre, hlen, hJs, hnx, hsz⟩ := hrel
    have hb' : wr.cell? ⟨Bs, 0, none⟩ = some (.slice A l.length c) := Boxed.cell (t := 22) (hnx.2.trans hb)
    by_cases hlt : k < l.length
    · have hsm := sm_bound l k hlt
      obtain ⟨hN1, hN2, hN3⟩ := stp_bound l k hlt
      have hrk := hr wr hnx.1
      obtain ⟨i0, hi0, _, hsz0, _⟩ := info_parts info5
      obtain ⟨N, HN⟩ : ∃ N, Aside0 (stp l k = N) := ⟨_, ⟨rfl⟩⟩
      rw [HN.out] at hN1 hN2 hN3
      have hcut := cut_mid (P := Try.prog) 22 5 .i64 .i64 Try.underlying22 hi0 1 hsz0 A l.length c (k : Int) ((k : Int) + (N : Int)) (by omega) (by omega) (by omega) hc
      have e1 : ((k : Int) + (N : Int)).toNat - ((k : Int)).toNat = N := by omega
      have e2 : ((k : Int)).toNat = k := by omega
      rw [e1, e2, if_neg (by omega), Nat.mul_one] at hcut
      clear e1 e2 hi0 hsz0
      by_cases h1 : 1 < sm l k
      · have hN : sm l k = N := by rw [← HN.out, stp, if_pos h1]
        have hx : encPart l A c (partAt l k hlt) = #[.slice (A.map (·.add k)) N (c - k), .bool true] := by
          simp only [encPart, partAt, decide_eq_true h1, HN.out]
        rw [hN] at h1
        have hb1 : decide (1 < ((N : Nat) : Int)) = true := by simp; omega
        have HS := Aside0.mk hN
        clear hN
        have HX := Aside0.mk hx
        clear hx
        gi_wp2_with fail
        refine ⟨trivial, fun _ => by omega, ?_⟩
        refine (callsIn_wide.2 (same_at l (by omega) k hlt A c hc wr hrk)).mono ?_
        rintro e w' ⟨rfl, ⟨⟨m, rfl⟩⟩⟩
        rw [HS.out]
        have hJm : J pre (wr.drewN m) := hJa pre wr _ none hJs (grown_of_below (Drawn0.below ⟨⟨m, rfl⟩⟩) none) (fun r e => by cases e)
        obtain ⟨fn, tmps, assign, body, hy, hR⟩ := hY pre (partAt l k hlt) _ hJm (by have := hlen.out; omega)
        rw [HX.out] at hy
        gi_wp2
        refine ⟨fun _ => by omega, ?_⟩
        refine hR.mono ?_
        rintro e W3 (⟨rfl, hJ3, hk3⟩ | ⟨rfl, hJx3⟩)
        · gi_wp2
          go_roundw
          case rel => exact ⟨k + N, pre ++ [partAt l k hlt], by omega, by go_num, ⟨by rw [← hpre.out, partsFrom_step l k hlt, HN.out]; simp⟩, ⟨by have := hlen.out; rw [List.length_append, List.length_singleton]; omega⟩, hJ3, kpt_t (kpt_drew hnx _) hk3, by have := hk3.1.size; have := hnx.1.size; have := (Drawn0.below (⟨⟨m, rfl⟩⟩ : Drawn0 wr (wr.drewN m))).size; omega⟩
          case measure => simp [intOf]; omega
        · gi_wp2
          refine bodyPost_ret (results_none rfl _ _ _) rfl ?_
          exact ⟨⟨_, rfl⟩, .inr ⟨_, hJx3⟩⟩
      · have hN : sm l k = 1 := by omega
        have hL : liGo l k 127 1 = N := by rw [← HN.out, stp, if_neg h1]
        have hx : encPart l A c (partAt l k hlt) = #[.slice (A.map (·.add k)) N (c - k), .bool false] := by
          simp only [encPart, partAt, decide_eq_false h1, HN.out]
        have HS := Aside0.mk hN
        clear hN
        have HX := Aside0.mk hx
        clear hx
        have HL := Aside0.mk hL
        clear hL h1
        gi_wp2_with fail
        refine ⟨trivial, fun _ => by omega, ?_⟩
        refine (callsIn_wide.2 (same_at l (by omega) k hlt A c hc wr hrk)).mono ?_
        rintro e w' ⟨rfl, ⟨⟨m, rfl⟩⟩⟩
        rw [HS.out]
        have hJm : J pre (wr.drewN m) := hJa pre wr _ none hJs (grown_of_below (Drawn0.below ⟨⟨m, rfl⟩⟩) none) (fun r e => by cases e)
        gi_wp2_with fail
        gi_loopw [4] (fun v wq => ∃ (x f : Nat), 1 ≤ x ∧ v = .int .i64 x ∧ x + f = 128 ∧ k + x ≤ l.length ∧ Aside0 (liGo l k f x = N) ∧ ∃ q, wq = wr.drewN q) (fun v _ => 128 - (intOf v).toNat)
        case atStart => exact ⟨1, 127, Nat.le_refl _, rfl, rfl, by omega, HL, m, rfl⟩
        case round =>
          obtain ⟨x, f, hx1, rfl, hxf, hxl, HLx, q, rfl⟩ := hrel
          clear hJm
          have hJm : J pre (wr.drewN q) := hJa pre wr _ none hJs (grown_of_below (Drawn0.below ⟨⟨q, rfl⟩⟩) none) (fun r e => by cases e)
          have hrq : Kd.C (Kd.int .u8) (wr.drewN q) A l.length l := Kd.C_below hrk (Drawn0.below ⟨⟨q, rfl⟩⟩)
          by_cases c1 : x < 128
          · have c1b : decide ((x : Int) < 128) = true := by simp; omega
            by_cases c2 : k + x < l.length
            · have c2b : decide ((k : Int) + (x : Int) < (l.length : Int)) = true := by simp; omega
              have c2c : ((k : Int) + (x : Int)) = ((k + x : Nat) : Int) := by omega
              have C2 := Aside0.mk c2c
              clear c2c
              have hs2 := sm_bound l (k + x) c2
              gi_wp2_with fail
              rw [C2.out]
              refine ⟨trivial, fun _ => by omega, ?_⟩
              refine (callsIn_wide.2 (same_at l (by omega) (k + x) c2 A c hc _ hrq)).mono ?_
              rintro e w' ⟨rfl, ⟨⟨m2, rfl⟩⟩⟩
              by_cases c3 : sm l (k + x) = 1
              · have c3b : (((sm l (k + x) : Nat) : Int) == 1) = true := by rw [c3]; rfl
                have C3 := Aside0.mk c3
                clear c3
                gi_wp2
                go_roundw
                case rel => exact ⟨x + 1, f - 1, by omega, by go_num, by omega, by omega, ⟨by rw [← HLx.out]; obtain ⟨g, rfl⟩ : ∃ g, f = g + 1 := ⟨f - 1, by omega⟩; rw [liGo, if_pos ⟨c2, C3.out⟩]; rfl⟩, q + m2, rfl⟩
                case measure => simp [intOf]; omega
              · have c3b : (((sm l (k + x) : Nat) : Int) == 1) = false := by rw [beq_eq_false_iff_ne]; omega
                obtain rfl : N = x := by
                  rw [← HLx.out]
                  obtain ⟨g, rfl⟩ : ∃ g, f = g + 1 := ⟨f - 1, by omega⟩
                  rw [liGo, if_neg (fun h => c3 h.2)]
                clear c3
                clear hJm
                have hJm : J pre (wr.drewN (q + m2)) := hJa pre wr _ none hJs (grown_of_below (Drawn0.below ⟨⟨q + m2, rfl⟩⟩) none) (fun r e => by cases e)
                obtain ⟨fn, tmps, assign, body, hy, hR⟩ := hY pre (partAt l k hlt) _ hJm (by have := hlen.out; omega)
                rw [HX.out] at hy
                gi_wp2
                refine ⟨fun _ => by omega, ?_⟩
                refine hR.mono ?_
                rintro e W3 (⟨rfl, hJ3, hk3⟩ | ⟨rfl, hJx3⟩)
                · gi_wp2
                  go_roundw
                  case rel => exact ⟨k + N, pre ++ [partAt l k hlt], by omega, by go_num, ⟨by rw [← hpre.out, partsFrom_step l k hlt, HN.out]; simp⟩, ⟨by have := hlen.out; rw [List.length_append, List.length_singleton]; omega⟩, hJ3, kpt_t (kpt_drew hnx _) hk3, by have := hk3.1.size; have := hnx.1.size; have := (Drawn0.below (⟨⟨(q + m2), rfl⟩⟩ : Drawn0 wr (wr.drewN (q + m2)))).size; omega⟩
                  case measure => simp [intOf]; omega
                · gi_wp2
                  refine bodyPost_ret (results_none rfl _ _ _) rfl ?_
                  exact ⟨⟨_, rfl⟩, .inr ⟨_, hJx3⟩⟩
            · have c2b : decide ((k : Int) + (x : Int) < (l.length : Int)) = false := by simp; omega
              obtain rfl : N = x := by
                rw [← HLx.out]
                obtain ⟨g, rfl⟩ : ∃ g, f = g + 1 := ⟨f - 1, by omega⟩
                rw [liGo, if_neg (fun h => c2 h.1)]
              obtain ⟨fn, tmps, assign, body, hy, hR⟩ := hY pre (partAt l k hlt) _ hJm (by have := hlen.out; omega)
              rw [HX.out] at hy
              gi_wp2
              refine ⟨trivial, ?_⟩
              gi_wp2
              refine ⟨fun _ => by omega, ?_⟩
              refine hR.mono ?_
              rintro e W3 (⟨rfl, hJ3, hk3⟩ | ⟨rfl, hJx3⟩)
              · gi_wp2
                go_roundw
                case rel => exact ⟨k + N, pre ++ [partAt l k hlt], by omega, by go_num, ⟨by rw [← hpre.out, partsFrom_step l k hlt, HN.out]; simp⟩, ⟨by have := hlen.out; rw [List.length_append, List.length_singleton]; omega⟩, hJ3, kpt_t (kpt_drew hnx _) hk3, by have := hk3.1.size; have := hnx.1.size; have := (Drawn0.below (⟨⟨q, rfl⟩⟩ : Drawn0 wr (wr.drewN q))).size; omega⟩
                case measure => simp [intOf]; omega
              · gi_wp2
                refine bodyPost_ret (results_none rfl _ _ _) rfl ?_
                exact ⟨⟨_, rfl⟩, .inr ⟨_, hJx3⟩⟩
          · have c1b : decide ((x : Int) < 128) = false := by simp; omega
            obtain rfl : N = x := by
              rw [← HLx.out]
              obtain rfl : f = 0 := by omega
              rfl
            obtain ⟨fn, tmps, assign, body, hy, hR⟩ := hY pre (partAt l k hlt) _ hJm (by have := hlen.out; omega)
            rw [HX.out] at hy
            gi_wp2
            refine ⟨trivial, ?_⟩
            gi_wp2
            refine ⟨fun _ => by omega, ?_⟩
            refine hR.mono ?_
            rintro e W3 (⟨rfl, hJ3, hk3⟩ | ⟨rfl, hJx3⟩)
            · gi_wp2
              go_roundw
              case rel => exact ⟨k + N, pre ++ [partAt l k hlt], by omega, by go_num, ⟨by rw [← hpre.out, partsFrom_step l k hlt, HN.out]; simp⟩, ⟨by have := hlen.out; rw [List.length_append, List.length_singleton]; omega⟩, hJ3, kpt_t (kpt_drew hnx _) hk3, by have := hk3.1.size; have := hnx.1.size; have := (Drawn0.below (⟨⟨q, rfl⟩⟩ : Drawn0 wr (wr.drewN q))).size; omega⟩
              case measure => simp [intOf]; omega
            · gi_wp2
              refine bodyPost_ret (results_none rfl _ _ _) rfl ?_
              exact ⟨⟨_, rfl⟩, .inr ⟨_, hJx3⟩⟩
    · gi_wp2
      go_end0
      exact ⟨⟨_, rfl⟩, .inl ⟨pre, by have := hpre.out; rw [partsFrom_end l k hlt, List.append_nil] at this; exact this, hJs⟩⟩

end Go.Proofs.Ytdopkepaandoeaa.Run
