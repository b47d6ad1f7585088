/- The law erasure/erasurelaw14.LexPrints holds of every input: called with whatever can be read as its parameters it returns true, and each argument reads afterwards as it read before. -/
import Derived.WalkKit
import Derived.ProofKit
import Derived.OpenShut
import Derived.ShutString
import Derived.ChangeOld
import Derived.Below
import Derived.SizedLaws
import Derived.Carry
import Derived.LaidMore
import Derived.Lay
import Derived.SevenTiedAt
import Derived.Stop.Joined
import Derived.ChangeSlices
import Derived.Test.YtnhgnejfagncpaaDoorRows
import Derived.Test.YtnhgnejfagncpaaDoorLot11
import Derived.Test.YtnhgnejfagncpaaDoorLot12
import Derived.Test.YtnhgnejfagncpaaDoorTie
import Derived.Test.YtnhgnejfagncpaaDoorCards
namespace Go.Proofs.YtnhgnejfagncpaaDoor.lexPrints
open Go.ChangeShapes Go.WideShapes Go.ChangeAt Go.RowKit Go.Proofs.YtnhgnejfagncpaaDoor.Opened Go.Proofs.YtnhgnejfagncpaaDoorW.PrintWords Go.Proofs.YtnhgnejfagncpaaDoorW.PrintLast Go.Proofs.YtnhgnejfagncpaaDoorW.PrintMore Go.Proofs.YtnhgnejfagncpaaDoor.H Go.Proofs.YtnhgnejfagncpaaDoor.A Go.Proofs.YtnhgnejfagncpaaDoor.B Go.Proofs.YtnhgnejfagncpaaDoor.E Go.Proofs.YtnhgnejfagncpaaDoor.L Go.Proofs.YtnhgnejfagncpaaDoor.M Go.Proofs.YtnhgnejfagncpaaDoor.P Go.Proofs.YtnhgnejfagncpaaDoor.Q
open Go.ChangeMaps (open_string shut_string)
set_option linter.unusedVariables false
set_option linter.unusedSimpArgs false
theorem own : ownKnob Tryd.prog.godebug = none := by kernel_rfl
theorem laidOut : laidOutB Tryd.prog = true := by kernel_rfl
set_option maxRecDepth 100000 in
theorem lifted (os : Os) (started : os.Started) (H : Type) (enc : TypeId × Value → H) :
    ReturnsInHanded {} Tryd.checked os 4 .any (fun w args => (Rows.lexPrintsSpec.pre enc Tryd.prog Tryd.f4 Rows.lexPrintsRow.domain false w args ∧ laidMetH Tryd.prog Rows.lexPrintsRow.laid w) ∧ sizedMet enc Tryd.prog Tryd.f4 (OpenSpec.ofChange Rows.lexPrintsSpec) false w args) (Rows.lexPrintsSpec.post enc Tryd.prog Tryd.f4 false true false false) := by
  refine returnsInHanded_of_change_and (C := Tryd.checked) (X := fun w _ => laidMetH Tryd.prog Rows.lexPrintsRow.laid w) (fun _ _ _ hh h => h.of_heap hh) own started (by kernel_rfl) Tryd.func4
    (ChangeSpec.witness_shaped (enc := enc) (C := Tryd.checked) (os := os) (X := fun w _ => laidMetH Tryd.prog Rows.lexPrintsRow.laid w) false (World.laidAll Tryd.prog os Rows.lexPrintsRow.laid) #[.agg #[.int .i64 0, .int .i64 0, .int .i64 0, .string ByteArray.empty]] 8 (World.laidAll_os _ _ _)
      (World.shaped_of_ZipB (by kernel_rfl) (by kernel_rfl)) (by kernel_rfl) (by kernel_rfl) (by kernel_rfl) (by rw [MakeChecks.laidMetH_plain _ _ _ (by kernel_rfl)]; exact laidMet_laidAll _ (by kernel_rfl) (by kernel_rfl))) ?_
  intro W base args ds gs before hval0 hW hcnd hsz0 hL _
  have hsz : (DataW.weightsEach Tryd.prog (Tryd.f4.params.toList ++ Rows.lexPrintsSpec.plain.varTypes Tryd.prog) (ds ++ gs)).all (· ≤ reachBytes) = true := hsz0
  have hval : ∀ (j : Nat) t v, Tryd.f4.params[j]? = some t → args[j]? = some v → Value.okWide Tryd.prog W .any base t v := hval0
  have hW' := hW
  obtain ⟨p, q, hA0, hV, rfl, hfz, hnd⟩ := hW
  have hA : DataW.TrodAll enc Tryd.prog W 0 (fun _ => true) true Tryd.f4.params.toList args.toList ds p := hA0
  rw [Tryd.params4] at hA hval hsz
  obtain ⟨v0, vs0, d0, ds0, p0, q0, hargs, rfl, rfl, h0, r0⟩ := trodAll_cons hA
  obtain ⟨rfl, rfl, rfl⟩ := trodAll_nil r0
  obtain rfl : args = #[v0] := by cases args; simp_all
  obtain ⟨rfl, rfl⟩ := trodVars_none hV
  have k0 := h0
  have lt0 : ∀ x ∈ p0, x.block < W.heap.size := by obtain ⟨m, hm⟩ := k0; exact DataW.trod_lt m _ _ _ hm
  obtain ⟨cs0, rfl, -⟩ := okWide_struct Tryd.underlying27 (hval 0 27 v0 rfl rfl)
  obtain ⟨x0, hx0, w0⟩ := rd_val h0 (fun n => (rd_tuple Tryd.underlying27 (by kernel_rfl) (rdF_cons rfl rfl (by kernel_rfl) (rd_int Tryd.underlying3) (rdF_cons rfl rfl (by kernel_rfl) (rd_tuple Tryd.underlying25 (by kernel_rfl) (rdF_cons rfl rfl (by kernel_rfl) (rd_int Tryd.underlying3) (rdF_one rfl rfl (by kernel_rfl) (rd_int Tryd.underlying3)))).all (rdF_one rfl rfl (by kernel_rfl) (rd_string Tryd.underlying9))))).all)
  obtain ⟨cl0, hcl0⟩ : ∃ cl, cs0.toList = cl := ⟨_, rfl⟩
  replace hx0 : (Kd.pair (Kd.int .i64) (Kd.pair (Kd.pair (Kd.int .i64) (Kd.int .i64)) Kd.string)).K W x0 cl0 := by rw [← hcl0]; exact hx0
  obtain ⟨_, _, rfl, rfl, ⟨_, _, rfl, ⟨_, _, rfl, rfl, rfl⟩, rfl⟩⟩ := hx0
  obtain rfl : cs0 = #[.int .i64 x0.1, .int .i64 x0.2.1.1, .int .i64 x0.2.1.2, .string x0.2.2] := by apply Array.ext'; simpa using hcl0
  clear hcl0
  clear hA0 hval0 hsz0
  obtain ⟨k, hk⟩ := Pure.LexPrints (x0.1) (x0.2.1.1) (x0.2.1.2) (x0.2.2) w0.1 w0.2.1.1 w0.2.1.2 w0.2.2
  refine (Q.erasurelaw14_LexPrints.calls k (x0.1) (x0.2.1.1) (x0.2.1.2) (x0.2.2) true W (Go.Proofs.YtnhgnejfagncpaaDoor.H.tab_of_laid hL) hk).mono fun e W' ⟨he, bel⟩ => ?_
  subst he
  exact ⟨_, rfl, _, _, _, [], _, [], hW', trodAll_mk1 (shut_bool Tryd.underlying4 _), (trodAll_cons_mk (Below.trod laidOut (by kernel_rfl) (of_decide_eq_true (by kernel_rfl)) k0 bel lt0) trodAll_mk0), rfl, bel.frame _, fun h => by cases h⟩
theorem over : Rows.lexPrintsRow.holds Tryd.pinned (OpenSpec.ofChange Rows.lexPrintsSpec) :=
  OpenClaim.holds_of_wide 4 Tryd.f4 rfl rfl rfl rfl rfl rfl rfl ⟨rfl, rfl, rfl, rfl, rfl⟩ rfl rfl rfl rfl rfl (by kernel_rfl) Tryd.func4 (by kernel_rfl)
    (of_decide_eq_true (by kernel_rfl)) (by unfold Func.isWrapper; first | (rw [if_pos (by decide +kernel)]; kernel_rfl) | (rw [if_neg (by decide +kernel)]; exact ⟨rfl, rfl⟩))
    (fun os started H enc _ => lifted os started H enc)
theorem proved : Rows.LexPrintsCardSaid :=
  Claim7.holds_tied_plain_at .later [] [.data, .data, .data, .data, .pinned] true (true, "03e4abfff5544733e17bdd216a162f0937e656e4be8b9542fc2da20ff9f370ec") false
    over (fun _ h => by cases h) (by kernel_rfl) (fun _ h => by cases h) lexPrints_row_tie rfl ⟨rfl, rfl⟩ (by kernel_rfl) rfl
    (fun f fn hf hfn => by
      obtain rfl : f = 4 := Option.some.inj ((show Tryd.prog.funcNamed "erasure/erasurelaw14.LexPrints" = some 4 by kernel_rfl).symm.trans hf) |>.symm
      obtain rfl : fn = Tryd.f4 := (Option.some.inj (Tryd.func4.symm.trans hfn)).symm
      exact ⟨by kernel_rfl, fun j t ht => by
        rw [Tryd.params4] at ht
        have hm : t ∈ [27] := by simpa using Array.mem_of_getElem? ht
        have hall : ([27].all fun u => !Tryd.prog.wantsStandIn u) = true := by kernel_rfl
        exact (show Tryd.prog.wantsStandIn t = false by simpa using List.all_eq_true.1 hall t hm)⟩)
    (by kernel_rfl)
#print axioms proved
end Go.Proofs.YtnhgnejfagncpaaDoor.lexPrints
namespace Go.Proofs.YtnhgnejfagncpaaDoor
theorem lexPrints_holds : Rows.LexPrintsCardSaid := lexPrints.proved
end Go.Proofs.YtnhgnejfagncpaaDoor
