/- The law erasure/erasurelaw01.DecDoes holds of every input: called with whatever can be read as its parameters it returns true, and each argument reads afterwards as it read before. -/
import Derived.WalkKit
import Derived.ProofKit
import Derived.OpenShut
import Derived.ShutString
import Derived.ChangeOld
import Derived.Below
import Derived.SizedLaws
import Derived.Carry
import Derived.LaidMore
import Derived.Lay
import Derived.SevenTiedAt
import Derived.Stop.Joined
import Derived.ChangeSlices
import Derived.Test.YtdkckjiccpdkbaaDoorRows
import Derived.Test.YtdkckjiccpdkbaaDoorG7
import Derived.Test.YtdkckjiccpdkbaaDoorPureDecDoes
import Derived.Test.YtdkckjiccpdkbaaDoorOpen
import Derived.Test.YtdkckjiccpdkbaaDoorLaid
import Derived.Test.YtdkckjiccpdkbaaDoorTie
import Derived.Test.YtdkckjiccpdkbaaDoorCards
namespace Go.Proofs.YtdkckjiccpdkbaaDoor.decDoes
open Go.ChangeShapes Go.WideShapes Go.ChangeAt Go.RowKit Go.Proofs.YtdkckjiccpdkbaaDoor.Opened Go.Proofs.YtdkckjiccpdkbaaDoorW.PrintWords Go.Proofs.YtdkckjiccpdkbaaDoorW.PrintLast Go.Proofs.YtdkckjiccpdkbaaDoorW.PrintMore Go.Proofs.YtdkckjiccpdkbaaDoor.H Go.Proofs.YtdkckjiccpdkbaaDoor.A Go.Proofs.YtdkckjiccpdkbaaDoor.B Go.Proofs.YtdkckjiccpdkbaaDoor.E Go.Proofs.YtdkckjiccpdkbaaDoor.G
open Go.ChangeMaps (open_string shut_string)
set_option linter.unusedVariables false
set_option linter.unusedSimpArgs false
theorem own : ownKnob Tryd.prog.godebug = none := by kernel_rfl
theorem laidOut : laidOutB Tryd.prog = true := by kernel_rfl
set_option maxRecDepth 100000 in
theorem lifted (os : Os) (started : os.Started) (H : Type) (enc : TypeId × Value → H) :
    ReturnsInHanded {} Tryd.checked os 7 .any (fun w args => (Rows.decDoesSpec.pre enc Tryd.prog Tryd.f7 Rows.decDoesRow.domain false w args ∧ laidMetH Tryd.prog Rows.decDoesRow.laid w) ∧ sizedMet enc Tryd.prog Tryd.f7 (OpenSpec.ofChange Rows.decDoesSpec) false w args) (Rows.decDoesSpec.post enc Tryd.prog Tryd.f7 false true false false) := by
  refine returnsInHanded_of_change_and (C := Tryd.checked) (X := fun w _ => laidMetH Tryd.prog Rows.decDoesRow.laid w) (fun _ _ _ hh h => h.of_heap hh) own started (by kernel_rfl) Tryd.func7
    (ChangeSpec.witness_shaped (enc := enc) (C := Tryd.checked) (os := os) (X := fun w _ => laidMetH Tryd.prog Rows.decDoesRow.laid w) false (World.laidAll Tryd.prog os Rows.decDoesRow.laid) #[.agg #[.int .i64 0, .int .i64 0], .agg #[.int .i64 0, .int .i64 0]] 8 (World.laidAll_os _ _ _)
      (World.shaped_of_ZipB (by kernel_rfl) (by kernel_rfl)) (by kernel_rfl) (by kernel_rfl) (by kernel_rfl) (by rw [MakeChecks.laidMetH_plain _ _ _ (by kernel_rfl)]; exact laidMet_laidAll _ (by kernel_rfl) (by kernel_rfl))) ?_
  intro W base args ds gs before hval0 hW hcnd hsz0 hL _
  have hsz : (DataW.weightsEach Tryd.prog (Tryd.f7.params.toList ++ Rows.decDoesSpec.plain.varTypes Tryd.prog) (ds ++ gs)).all (· ≤ reachBytes) = true := hsz0
  have hval : ∀ (j : Nat) t v, Tryd.f7.params[j]? = some t → args[j]? = some v → Value.okWide Tryd.prog W .any base t v := hval0
  have hW' := hW
  obtain ⟨p, q, hA0, hV, rfl, hfz, hnd⟩ := hW
  have hA : DataW.TrodAll enc Tryd.prog W 0 (fun _ => true) true Tryd.f7.params.toList args.toList ds p := hA0
  rw [Tryd.params7] at hA hval hsz
  obtain ⟨v0, vs0, d0, ds0, p0, q0, hargs, rfl, rfl, h0, r0⟩ := trodAll_cons hA
  obtain ⟨v1, vs1, d1, ds1, p1, q1, rfl, rfl, rfl, h1, r1⟩ := trodAll_cons r0
  obtain ⟨rfl, rfl, rfl⟩ := trodAll_nil r1
  obtain rfl : args = #[v0, v1] := by cases args; simp_all
  obtain ⟨rfl, rfl⟩ := trodVars_none hV
  have k0 := h0
  have lt0 : ∀ x ∈ p0, x.block < W.heap.size := by obtain ⟨m, hm⟩ := k0; exact DataW.trod_lt m _ _ _ hm
  obtain ⟨cs0, rfl, -⟩ := okWide_struct Tryd.underlying23 (hval 0 23 v0 rfl rfl)
  obtain ⟨x0, hx0, w0⟩ := rd_val h0 (fun n => (rd_tuple Tryd.underlying23 (by kernel_rfl) (rdF_cons rfl rfl (by kernel_rfl) (rd_int Tryd.underlying3) (rdF_one rfl rfl (by kernel_rfl) (rd_int Tryd.underlying3)))).all)
  obtain ⟨cl0, hcl0⟩ : ∃ cl, cs0.toList = cl := ⟨_, rfl⟩
  replace hx0 : (Kd.pair (Kd.int .i64) (Kd.int .i64)).K W x0 cl0 := by rw [← hcl0]; exact hx0
  obtain ⟨_, _, rfl, rfl, rfl⟩ := hx0
  obtain rfl : cs0 = #[.int .i64 x0.1, .int .i64 x0.2] := by apply Array.ext'; simpa using hcl0
  clear hcl0
  have k1 := h1
  have lt1 : ∀ x ∈ p1, x.block < W.heap.size := by obtain ⟨m, hm⟩ := k1; exact DataW.trod_lt m _ _ _ hm
  obtain ⟨cs1, rfl, -⟩ := okWide_struct Tryd.underlying23 (hval 1 23 v1 rfl rfl)
  obtain ⟨x1, hx1, w1⟩ := rd_val h1 (fun n => (rd_tuple Tryd.underlying23 (by kernel_rfl) (rdF_cons rfl rfl (by kernel_rfl) (rd_int Tryd.underlying3) (rdF_one rfl rfl (by kernel_rfl) (rd_int Tryd.underlying3)))).all)
  obtain ⟨cl1, hcl1⟩ : ∃ cl, cs1.toList = cl := ⟨_, rfl⟩
  replace hx1 : (Kd.pair (Kd.int .i64) (Kd.int .i64)).K W x1 cl1 := by rw [← hcl1]; exact hx1
  obtain ⟨_, _, rfl, rfl, rfl⟩ := hx1
  obtain rfl : cs1 = #[.int .i64 x1.1, .int .i64 x1.2] := by apply Array.ext'; simpa using hcl1
  clear hcl1
  clear hA0 hval0 hsz0
  obtain ⟨k, hk⟩ := Pure.DecDoes (x0.1) (x0.2) (x1.1) (x1.2) w0.1 w0.2 w1.1 w1.2
  refine (G.erasurelaw01_DecDoes.calls k (x0.1) (x0.2) (x1.1) (x1.2) true W (Go.Proofs.YtdkckjiccpdkbaaDoor.H.tab_of_laid hL) hk).mono fun e W' ⟨he, bel⟩ => ?_
  subst he
  exact ⟨_, rfl, _, _, _, [], _, [], hW', trodAll_mk1 (shut_bool Tryd.underlying4 _), (trodAll_cons_mk (Below.trod laidOut (by kernel_rfl) (of_decide_eq_true (by kernel_rfl)) k0 bel lt0) (trodAll_cons_mk (Below.trod laidOut (by kernel_rfl) (of_decide_eq_true (by kernel_rfl)) k1 bel lt1) trodAll_mk0)), rfl, bel.frame _, fun h => by cases h⟩
theorem over : Rows.decDoesRow.holds Tryd.pinned (OpenSpec.ofChange Rows.decDoesSpec) :=
  OpenClaim.holds_of_wide 7 Tryd.f7 rfl rfl rfl rfl rfl rfl rfl ⟨rfl, rfl, rfl, rfl, rfl⟩ rfl rfl rfl rfl rfl (by kernel_rfl) Tryd.func7 (by kernel_rfl)
    (of_decide_eq_true (by kernel_rfl)) (by unfold Func.isWrapper; first | (rw [if_pos (by decide +kernel)]; kernel_rfl) | (rw [if_neg (by decide +kernel)]; exact ⟨rfl, rfl⟩))
    (fun os started H enc _ => lifted os started H enc)
theorem proved : Rows.DecDoesCardSaid :=
  Claim7.holds_tied_plain_at .later [] [.data, .data, .data, .data, .pinned] true (true, "418c171ffc8b9c5557a7cfdfa692b9510b671737619f4ad4f39866a274426471") false
    over (fun _ h => by cases h) (by kernel_rfl) (fun _ h => by cases h) decDoes_row_tie rfl ⟨rfl, rfl⟩ (by kernel_rfl) rfl
    (fun f fn hf hfn => by
      obtain rfl : f = 7 := Option.some.inj ((show Tryd.prog.funcNamed "erasure/erasurelaw01.DecDoes" = some 7 by kernel_rfl).symm.trans hf) |>.symm
      obtain rfl : fn = Tryd.f7 := (Option.some.inj (Tryd.func7.symm.trans hfn)).symm
      exact ⟨by kernel_rfl, fun j t ht => by
        rw [Tryd.params7] at ht
        have hm : t ∈ [23] := by simpa using Array.mem_of_getElem? ht
        have hall : ([23].all fun u => !Tryd.prog.wantsStandIn u) = true := by kernel_rfl
        exact (show Tryd.prog.wantsStandIn t = false by simpa using List.all_eq_true.1 hall t hm)⟩)
    (by kernel_rfl)
#print axioms proved
end Go.Proofs.YtdkckjiccpdkbaaDoor.decDoes
namespace Go.Proofs.YtdkckjiccpdkbaaDoor
theorem decDoes_holds : Rows.DecDoesCardSaid := decDoes.proved
end Go.Proofs.YtdkckjiccpdkbaaDoor
