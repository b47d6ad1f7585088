import Derived.Test.YtdkckjiccpdkbaaDoorG7
import Derived.Test.YtdkckjiccpdkbaaDoorPlainRef6
import Derived.Test.YtdkckjiccpdkbaaDoorPlainRef7
import Derived.Test.YtdkckjiccpdkbaaDoorPlainRef8
namespace Go.Proofs.YtdkckjiccpdkbaaDoor.Pure
open Go.RowKit Go.Proofs.YtdkckjiccpdkbaaDoorW.PrintWords Go.Proofs.YtdkckjiccpdkbaaDoor.A Go.Proofs.YtdkckjiccpdkbaaDoor.B Go.Proofs.YtdkckjiccpdkbaaDoor.H Go.Proofs.YtdkckjiccpdkbaaDoor.E Go.Proofs.YtdkckjiccpdkbaaDoor.G Go.Proofs.YtdkckjiccpdkbaaDoor.Plain
set_option linter.unusedVariables false
theorem does_all (a s b t : Int) : ∃ (k : Nat) (P : ByteArray × Int) (A M : Int × Int × Int) (C : Int × Int) (N : Int × Int × Int), dec_Print.f k a s = some P ∧ erasureref01_Print.f k a s = some P ∧ dec_Add.f k a s b t = some A ∧ erasureref01_Add.f k a s b t = some A ∧
    dec_Mul.f k a s b t = some M ∧ erasureref01_Mul.f k a s b t = some M ∧ dec_Compare.f k a s b t = some C ∧ erasureref01_Compare.f k a s b t = some C ∧ dec_Neg.f a s = some N ∧ erasureref01_Neg.f a s = some N := by
  have hp : ∃ P, dec_Print.f 2000 a s = some P ∧ erasureref01_Print.f 2000 a s = some P := by
    by_cases h : Plain.Good a s
    · obtain ⟨n, rfl, _⟩ := good_nat h
      exact ⟨_, print_f a n h 2000 (by decide), print_ref a n h 2000 (by decide)⟩
    · exact ⟨_, print_bad a s h 2000, print_ref_bad a s h 2000⟩
  obtain ⟨P, p1, p2⟩ := hp
  refine ⟨2000, P, ?_⟩
  by_cases h : Plain.Good a s ∧ Plain.Good b t
  · obtain ⟨n, rfl, _⟩ := good_nat h.1
    obtain ⟨m, rfl, _⟩ := good_nat h.2
    exact ⟨_, _, _, _, p1, p2, add_f a b n m h.1 h.2 2000 (by decide), add_ref a b n m h.1 h.2 2000 (by decide), mul_f a b n m h.1 h.2 2000 (by decide), mul_ref a b n m h.1 h.2 2000 (by decide), compareD_f a b n m h.1 h.2 2000 (by decide), cmp_ref a b n m h.1 h.2 2000 (by decide), neg_f a n, neg_ref a n⟩
  · exact ⟨_, _, _, _, p1, p2, add_bad a b s t h 2000 (by decide), add_ref_bad a b s t h 2000 (by decide), mul_bad a b s t h 2000 (by decide), mul_ref_bad a b s t h 2000 (by decide), compareD_bad a b s t h 2000 (by decide), cmp_ref_bad a b s t h 2000 (by decide), neg_f a s, neg_ref a s⟩
theorem DecDoes (a s b t : Int) (_ : (Lit.int .i64 a).wf = true) (_ : (Lit.int .i64 s).wf = true) (_ : (Lit.int .i64 b).wf = true) (_ : (Lit.int .i64 t).wf = true) : ∃ k : Nat, erasurelaw01_DecDoes.f k a s b t = some true := by
  obtain ⟨k, P, A, M, C, N, e1, e2, e3, e4, e5, e6, e7, e8, e9, e10⟩ := does_all a s b t
  refine ⟨k, ?_⟩
  unfold erasurelaw01_DecDoes.f
  rw [e1, Option.bind_some, e2, Option.bind_some, e3, Option.bind_some, e4, Option.bind_some, e5, Option.bind_some, e6, Option.bind_some, e7, Option.bind_some, e8, Option.bind_some, e9, Option.bind_some, e10, Option.bind_some]
  obtain ⟨P1, P2⟩ := P
  obtain ⟨A1, A2, A3⟩ := A
  obtain ⟨M1, M2, M3⟩ := M
  obtain ⟨C1, C2⟩ := C
  obtain ⟨N1, N2, N3⟩ := N
  rw [show erasurelaw01_awake.f = some true from rfl, Option.bind_some, if_pos rfl, check_f, Option.bind_some, right_ref, Option.bind_some]
  have hg : (((if Plain.Good a s then (0 : Int) else 1) == 0) == decide (Plain.Good a s)) = true := by
    by_cases h : Plain.Good a s
    · rw [if_pos h, decide_eq_true h]; rfl
    · rw [if_neg h, decide_eq_false h]; rfl
  have hA : (A1 == A1 && (A2 == A2)) = true := by rw [beq_self_eq_true, beq_self_eq_true]; rfl
  have hM : (M1 == M1 && (M2 == M2)) = true := by rw [beq_self_eq_true, beq_self_eq_true]; rfl
  have hN : (N1 == N1 && (N2 == N2)) = true := by rw [beq_self_eq_true, beq_self_eq_true]; rfl
  rw [if_pos hg, if_pos rfl, if_pos rfl, if_pos hA, if_pos rfl, if_pos hM, if_pos rfl, if_pos rfl, if_pos rfl, if_pos hN, beq_self_eq_true]
end Go.Proofs.YtdkckjiccpdkbaaDoor.Pure
