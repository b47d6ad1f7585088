/- The law erasure/erasurelaw19.FontTells holds of every input: called with whatever can be read as its parameters it returns true, and each argument reads afterwards as it read before. -/
import Derived.Test.YtjhpcfpccnfniaaRows
import Derived.Test.YtjhpcfpccnfniaaT3
import Derived.Test.YtjhpcfpccnfniaaPureFontTells
import Derived.Test.YtjhpcfpccnfniaaOpen
import Derived.WalkKit
import Derived.ProofKit
import Derived.OpenShut
import Derived.ShutString
import Derived.ChangeOld
import Derived.Below
import Derived.SizedLaws
import Derived.Carry
import Derived.Test.YtjhpcfpccnfniaaWSized
namespace Go.Proofs.Ytjhpcfpccnfniaa.fontTells
open Go.ChangeShapes Go.WideShapes Go.ChangeAt Go.RowKit Go.Proofs.Ytjhpcfpccnfniaa.Opened Go.Proofs.YtjhpcfpccnfniaaW.PrintWords Go.Proofs.YtjhpcfpccnfniaaW.PrintLast Go.Proofs.YtjhpcfpccnfniaaW.PrintMore Go.Proofs.Ytjhpcfpccnfniaa.A Go.Proofs.Ytjhpcfpccnfniaa.F Go.Proofs.Ytjhpcfpccnfniaa.C Go.Proofs.Ytjhpcfpccnfniaa.T
open Go.ChangeMaps (open_string shut_string)
set_option linter.unusedVariables false
set_option linter.unusedSimpArgs false
theorem own : ownKnob Try.prog.godebug = none := by kernel_rfl
theorem laidOut : laidOutB Try.prog = true := by kernel_rfl
set_option maxRecDepth 100000 in
theorem lifted (os : Os) (started : os.Started) (H : Type) (enc : TypeId × Value → H) :
    ReturnsInHanded {} Try.checked os 4 .any (Rows.fontTellsSpec.pre6 enc Try.prog Try.f4 Rows.fontTellsRow.domain false) (Rows.fontTellsSpec.post enc Try.prog Try.f4 false true false false) := by
  refine returnsInHanded_of_change_sized (C := Try.checked) own started (by kernel_rfl) Try.func4
    (ChangeSpec.witness6 (enc := enc) (C := Try.checked) false ⟨#[], #[.agg #[.bool false, .slice none 0 0, .int .i64 0], .int .i64 0, .string ByteArray.empty, .slice none 0 0], []⟩ 8 (by kernel_rfl) (by kernel_rfl) (by kernel_rfl) (by kernel_rfl)) ?_
  intro W base args ds gs before hval0 hW hcnd hsz0 _
  have hsz : (DataW.weightsEach Try.prog (Try.f4.params.toList ++ Rows.fontTellsSpec.plain.varTypes Try.prog) (ds ++ gs)).all (· ≤ reachBytes) = true := hsz0
  have hval : ∀ (j : Nat) t v, Try.f4.params[j]? = some t → args[j]? = some v → Value.okWide Try.prog W .any base t v := hval0
  have hW' := hW
  obtain ⟨p, q, hA0, hV, rfl, hfz, hnd⟩ := hW
  have hA : DataW.TrodAll enc Try.prog W 0 (fun _ => true) true Try.f4.params.toList args.toList ds p := hA0
  rw [Try.params4] at hA hval hsz
  obtain ⟨v0, vs0, d0, ds0, p0, q0, hargs, rfl, rfl, h0, r0⟩ := trodAll_cons hA
  obtain ⟨v1, vs1, d1, ds1, p1, q1, rfl, rfl, rfl, h1, r1⟩ := trodAll_cons r0
  obtain ⟨v2, vs2, d2, ds2, p2, q2, rfl, rfl, rfl, h2, r2⟩ := trodAll_cons r1
  obtain ⟨v3, vs3, d3, ds3, p3, q3, rfl, rfl, rfl, h3, r3⟩ := trodAll_cons r2
  obtain ⟨rfl, rfl, rfl⟩ := trodAll_nil r3
  obtain rfl : args = #[v0, v1, v2, v3] := by cases args; simp_all
  obtain ⟨rfl, rfl⟩ := trodVars_none hV
  have k0 := h0
  have lt0 : ∀ x ∈ p0, x.block < W.heap.size := by obtain ⟨m, hm⟩ := k0; exact DataW.trod_lt m _ _ _ hm
  obtain ⟨cs0, rfl, -⟩ := okWide_struct Try.underlying24 (hval 0 24 v0 rfl rfl)
  obtain ⟨x0, hx0, w0⟩ := rd_val h0 (fun n => (rd_tuple Try.underlying24 (by kernel_rfl) (rdF_cons rfl rfl (by kernel_rfl) (rd_bool Try.underlying4) (rdF_cons rfl rfl (by kernel_rfl) (rd_slice (e' := 37) (K := k37) Try.underlying22 (by kernel_rfl) (rd_struct (fun x : S37 => (x.f0, x.f1, x.f2)) (fun p => ⟨p.1, p.2.1, p.2.2⟩) (fun _ => rfl) Try.underlying37 (by kernel_rfl) (rdF_cons rfl rfl (by kernel_rfl) (rd_int Try.underlying3) (rdF_cons rfl rfl (by kernel_rfl) (rd_int Try.underlying3) (rdF_one rfl rfl (by kernel_rfl) (rd_string Try.underlying9))))).all).all (rdF_one rfl rfl (by kernel_rfl) (rd_int Try.underlying3))))).all)
  obtain ⟨cl0, hcl0⟩ : ∃ cl, cs0.toList = cl := ⟨_, rfl⟩
  replace hx0 : (Kd.pair Kd.bool (Kd.pair (Kd.slice 37 k37) (Kd.int .i64))).K W x0 cl0 := by rw [← hcl0]; exact hx0
  obtain ⟨_, _, rfl, rfl, ⟨_, _, rfl, ⟨A0_1, c0_1, rfl, hc0_1, hr0_1⟩, rfl⟩⟩ := hx0
  obtain rfl : cs0 = #[.bool x0.1, .slice A0_1 x0.2.1.length c0_1, .int .i64 x0.2.2] := by apply Array.ext'; simpa using hcl0
  clear hcl0
  obtain ⟨a1, rfl, rfl, rfl, w1⟩ := open_int Try.underlying3 (hval 1 3 v1 rfl rfl) h1
  obtain ⟨a2, rfl, rfl, rfl, y2⟩ := open_string Try.underlying9 (hval 2 9 v2 rfl rfl) h2
  have w2 : a2.size ≤ 140737488351232 := by
    have z := sized_string hsz (j := 2) (t := 9) rfl rfl
    rw [Array.length_toList] at z
    exact z
  have k3 := h3
  have lt3 : ∀ x ∈ p3, x.block < W.heap.size := by obtain ⟨m, hm⟩ := k3; exact DataW.trod_lt m _ _ _ hm
  obtain ⟨A3, len3, cap3, rfl⟩ := okWide_slice Try.underlying25 (hval 3 25 v3 rfl rfl)
  obtain ⟨l3, ⟨A3', c3, hcs3, hc3, hr3⟩, w3⟩ := rd_val h3 (fun n => (rd_slice (e' := 3) (K := (Kd.int .i64)) Try.underlying25 (by kernel_rfl) (rd_int Try.underlying3)).all)
  have y3 : len3 * 8 ≤ 140737488351232 := Go.Proofs.YtjhpcfpccnfniaaW.PrintWords.sized_ints hsz (j := 3) (t := 25) rfl rfl Try.underlying25 Try.underlying3 (by kernel_rfl) (by kernel_rfl) h3
  have hcs3' : [Value.slice A3 len3 cap3] = [.slice A3' l3.length c3] := hcs3
  injection hcs3' with e3
  injection e3 with e1 e2 e3
  subst e1 e2 e3
  clear hA0 hval0 hsz0
  obtain ⟨k, hk⟩ := Pure.FontTells (x0.1) x0.2.1 (x0.2.2) a1 a2 l3 w0.2.2 w1 w2 y3 w3
  refine (T.erasurelaw19_FontTells.calls k (x0.1) A0_1 c0_1 x0.2.1 (x0.2.2) a1 a2 A3 cap3 l3 true W hr0_1 hc0_1 hr3 hc3 hk).mono fun e W' ⟨he, bel⟩ => ?_
  subst he
  exact ⟨_, rfl, _, _, _, [], _, [], hW', trodAll_mk1 (shut_bool Try.underlying4 _), (trodAll_cons_mk (Below.trod laidOut (by kernel_rfl) (of_decide_eq_true (by kernel_rfl)) k0 bel lt0) (trodAll_cons_mk (shut_int Try.underlying3 w1) (trodAll_cons_mk (shut_string Try.underlying9 y2) (trodAll_cons_mk (Below.trod laidOut (by kernel_rfl) (of_decide_eq_true (by kernel_rfl)) k3 bel lt3) trodAll_mk0)))), rfl, bel.frame _, fun h => by cases h⟩
theorem over : Rows.fontTellsRow.holds Try.pinned (OpenSpec.ofChange Rows.fontTellsSpec) :=
  OpenClaim.holds_of_wide 4 Try.f4 rfl rfl rfl rfl rfl rfl rfl ⟨rfl, rfl, rfl, rfl, rfl⟩ rfl rfl rfl rfl rfl (by kernel_rfl) Try.func4 (by kernel_rfl)
    (of_decide_eq_true (by kernel_rfl)) (by unfold Func.isWrapper; first | (rw [if_pos (by decide +kernel)]; kernel_rfl) | (rw [if_neg (by decide +kernel)]; exact ⟨rfl, rfl⟩))
    (fun os started H enc _ => lifted os started H enc)
theorem proved : Rows.FontTellsSaid := over
#print axioms proved
end Go.Proofs.Ytjhpcfpccnfniaa.fontTells
namespace Go.Proofs.Ytjhpcfpccnfniaa
theorem fontTells_holds : Rows.FontTellsSaid := fontTells.proved
end Go.Proofs.Ytjhpcfpccnfniaa
