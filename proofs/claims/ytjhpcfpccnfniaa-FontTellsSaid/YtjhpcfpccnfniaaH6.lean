/- slices.Chunk; font.Codes. -/
import Derived.Test.YtjhpcfpccnfniaaH5
namespace Go.Proofs.Ytjhpcfpccnfniaa.A
open Go.RowKit Go.Shelf Go.Proofs.YtjhpcfpccnfniaaW.PrintWords Go.Proofs.YtjhpcfpccnfniaaW.PrintLast Go.Proofs.YtjhpcfpccnfniaaW.PrintMore

attribute [local go_sem] max2_int min2_int max_two min_two max_three min_three max_four min_four
attribute [local go_sem] Oper.semAt_some
set_option linter.unusedVariables false
set_option linter.unusedSimpArgs false
set_option maxHeartbeats 1000000 in
theorem chunk_call (N : Nat) (a : Option Addr) (len cap : Nat) (n : Nat) (hn : 1 ≤ n) (w : World) :
    CallsIn Fence.wide N Try.prog 23 #[.slice a len cap, .int .i64 n] w fun e w' => e = .returned (.func (.func 41) #[] #[.pointer (some ⟨w.heap.size, 0, none⟩), .pointer (some ⟨w.heap.size + 1, 0, none⟩)]) ∧ w' = (w.alloc (.cells #[.slice a len cap] 48)).alloc (.cells #[.int .i64 n] 3) := by
  have hb : decide ((n : Int) < 1) = false := by simp; omega
  refine callsIn_of_wp Try.func23 rfl trivial ?_ rfl
  simp only [Try.ntmps23, List.size_toArray, List.length_cons, List.length_nil, Nat.reduceAdd, Nat.reduceSub, Array.replicate_succ, Array.replicate_zero, List.push_toArray, List.append_toArray, List.nil_append, List.cons_append]
  gi_wp2
  go_ret
  exact ⟨rfl, rfl⟩
theorem chunk_stops (N : Nat) (hN : 2 ≤ N) (Bs Bn n₀ : Nat) (n len : Nat) (hn1 : 1 ≤ n) (hn : 1 ≤ n ∧ n ≤ 2) (hl : len ≤ 1000000) (A : Option Addr) (c : Nat) (hc : len ≤ c) (w : World)
    (hn₀ : n₀ ≤ w.heap.size) (hb : Boxed w Bs 48 (.slice A len c)) (hb2 : Boxed w Bn 3 (.int .i64 n)) :
    SeqStopsK Fence.wide N Try.prog 41 #[.pointer (some ⟨Bs, 0, none⟩), .pointer (some ⟨Bn, 0, none⟩)] (encChunk len A) (Kpt n₀ Bs Bn) (fun ys => ys = chunks n len hn1 (len + 1) 0) (fun _ => True) len w := fun lb J Jx W hW hJa _ hY h0 => by
  exact (chunk_in N hN lb Bs Bn n₀ n len hn1 hn hl A c hc J Jx W hJa hY ((hW.block Bs hb.lt).trans hb) ((hW.block Bn hb2.lt).trans hb2) h0).mono fun e W' ⟨h1, h2⟩ => ⟨h1, h2.elim .inl (fun ⟨pre, h⟩ => .inr ⟨pre, trivial, h⟩)⟩
end Go.Proofs.Ytjhpcfpccnfniaa.A
