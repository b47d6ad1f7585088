/- The law erasure/erasurelaw19.FontNone holds of every input: called with whatever can be read as its parameters it returns true, and each argument reads afterwards as it read before. -/
import Derived.Test.YtjhpcfpccnfniaaRows
import Derived.Test.YtjhpcfpccnfniaaN8
import Derived.Test.YtjhpcfpccnfniaaPureFontNone
import Derived.Test.YtjhpcfpccnfniaaOpen
import Derived.WalkKit
import Derived.ProofKit
import Derived.OpenShut
import Derived.ShutString
import Derived.ChangeOld
import Derived.Below
import Derived.SizedLaws
import Derived.Carry
import Derived.Test.YtjhpcfpccnfniaaWSized
namespace Go.Proofs.Ytjhpcfpccnfniaa.fontNone
open Go.ChangeShapes Go.WideShapes Go.ChangeAt Go.RowKit Go.Proofs.Ytjhpcfpccnfniaa.Opened Go.Proofs.Ytjhpcfpccnfniaa.A Go.Proofs.Ytjhpcfpccnfniaa.F Go.Proofs.YtjhpcfpccnfniaaW.PrintWords Go.Proofs.YtjhpcfpccnfniaaW.PrintLast Go.Proofs.Ytjhpcfpccnfniaa.Plain Go.Proofs.Ytjhpcfpccnfniaa.N
open Go.ChangeMaps (open_string shut_string)
set_option linter.unusedVariables false
set_option linter.unusedSimpArgs false
theorem own : ownKnob Try.prog.godebug = none := by kernel_rfl
theorem laidOut : laidOutB Try.prog = true := by kernel_rfl
set_option maxRecDepth 100000 in
theorem lifted (os : Os) (started : os.Started) (H : Type) (enc : TypeId × Value → H) :
    ReturnsInHanded {} Try.checked os 7 .any (Rows.fontNoneSpec.pre6 enc Try.prog Try.f7 Rows.fontNoneRow.domain false) (Rows.fontNoneSpec.post enc Try.prog Try.f7 false true false false) := by
  refine returnsInHanded_of_change_sized (C := Try.checked) own started (by kernel_rfl) Try.func7
    (ChangeSpec.witness6 (enc := enc) (C := Try.checked) false ⟨#[], #[.agg #[.bool false, .slice none 0 0, .int .i64 0]], []⟩ 8 (by kernel_rfl) (by kernel_rfl) (by kernel_rfl) (by kernel_rfl)) ?_
  intro W base args ds gs before hval0 hW hcnd hsz0 _
  have hsz : (DataW.weightsEach Try.prog (Try.f7.params.toList ++ Rows.fontNoneSpec.plain.varTypes Try.prog) (ds ++ gs)).all (· ≤ reachBytes) = true := hsz0
  have hval : ∀ (j : Nat) t v, Try.f7.params[j]? = some t → args[j]? = some v → Value.okWide Try.prog W .any base t v := hval0
  have hW' := hW
  obtain ⟨p, q, hA0, hV, rfl, hfz, hnd⟩ := hW
  have hA : DataW.TrodAll enc Try.prog W 0 (fun _ => true) true Try.f7.params.toList args.toList ds p := hA0
  rw [Try.params7] at hA hval hsz
  obtain ⟨v0, vs0, d0, ds0, p0, q0, hargs, rfl, rfl, h0, r0⟩ := trodAll_cons hA
  obtain ⟨rfl, rfl, rfl⟩ := trodAll_nil r0
  obtain rfl : args = #[v0] := by cases args; simp_all
  obtain ⟨rfl, rfl⟩ := trodVars_none hV
  have k0 := h0
  have lt0 : ∀ x ∈ p0, x.block < W.heap.size := by obtain ⟨m, hm⟩ := k0; exact DataW.trod_lt m _ _ _ hm
  obtain ⟨cs0, rfl, -⟩ := okWide_struct Try.underlying24 (hval 0 24 v0 rfl rfl)
  obtain ⟨x0, hx0, w0⟩ := rd_val h0 (fun n => (rd_tuple Try.underlying24 (by kernel_rfl) (rdF_cons rfl rfl (by kernel_rfl) (rd_bool Try.underlying4) (rdF_cons rfl rfl (by kernel_rfl) (rd_slice (e' := 37) (K := k37) Try.underlying22 (by kernel_rfl) (rd_struct (fun x : S37 => (x.f0, x.f1, x.f2)) (fun p => ⟨p.1, p.2.1, p.2.2⟩) (fun _ => rfl) Try.underlying37 (by kernel_rfl) (rdF_cons rfl rfl (by kernel_rfl) (rd_int Try.underlying3) (rdF_cons rfl rfl (by kernel_rfl) (rd_int Try.underlying3) (rdF_one rfl rfl (by kernel_rfl) (rd_string Try.underlying9))))).all).all (rdF_one rfl rfl (by kernel_rfl) (rd_int Try.underlying3))))).all)
  obtain ⟨cl0, hcl0⟩ : ∃ cl, cs0.toList = cl := ⟨_, rfl⟩
  replace hx0 : (Kd.pair Kd.bool (Kd.pair (Kd.slice 37 k37) (Kd.int .i64))).K W x0 cl0 := by rw [← hcl0]; exact hx0
  obtain ⟨_, _, rfl, rfl, ⟨_, _, rfl, ⟨A0_1, c0_1, rfl, hc0_1, hr0_1⟩, rfl⟩⟩ := hx0
  obtain rfl : cs0 = #[.bool x0.1, .slice A0_1 x0.2.1.length c0_1, .int .i64 x0.2.2] := by apply Array.ext'; simpa using hcl0
  clear hcl0
  clear hA0 hval0 hsz0
  obtain ⟨k, hk⟩ := Pure.FontNone (x0.1) x0.2.1 (x0.2.2) w0.2.2
  refine (N.erasurelaw19_FontNone.calls k (x0.1) A0_1 c0_1 x0.2.1 (x0.2.2) true W hr0_1 hc0_1 hk).mono fun e W' ⟨he, bel⟩ => ?_
  subst he
  exact ⟨_, rfl, _, _, _, [], _, [], hW', trodAll_mk1 (shut_bool Try.underlying4 _), (trodAll_cons_mk (Below.trod laidOut (by kernel_rfl) (of_decide_eq_true (by kernel_rfl)) k0 bel lt0) trodAll_mk0), rfl, bel.frame _, fun h => by cases h⟩
theorem over : Rows.fontNoneRow.holds Try.pinned (OpenSpec.ofChange Rows.fontNoneSpec) :=
  OpenClaim.holds_of_wide 7 Try.f7 rfl rfl rfl rfl rfl rfl rfl ⟨rfl, rfl, rfl, rfl, rfl⟩ rfl rfl rfl rfl rfl (by kernel_rfl) Try.func7 (by kernel_rfl)
    (of_decide_eq_true (by kernel_rfl)) (by unfold Func.isWrapper; first | (rw [if_pos (by decide +kernel)]; kernel_rfl) | (rw [if_neg (by decide +kernel)]; exact ⟨rfl, rfl⟩))
    (fun os started H enc _ => lifted os started H enc)
theorem proved : Rows.FontNoneSaid := over
#print axioms proved
end Go.Proofs.Ytjhpcfpccnfniaa.fontNone
namespace Go.Proofs.Ytjhpcfpccnfniaa
/-- The row, under a short name, for the claim. -/
theorem fontNone_holds : Rows.FontNoneSaid := fontNone.proved
end Go.Proofs.Ytjhpcfpccnfniaa
