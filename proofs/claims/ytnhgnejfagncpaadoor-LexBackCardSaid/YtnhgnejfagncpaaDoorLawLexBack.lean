/- The law erasure/erasurelaw14.LexBack holds of every input: called with whatever can be read as its parameters it returns true, and each argument reads afterwards as it read before. -/
import Derived.WalkKit
import Derived.ProofKit
import Derived.OpenShut
import Derived.ShutString
import Derived.ChangeOld
import Derived.Below
import Derived.SizedLaws
import Derived.Carry
import Derived.LaidMore
import Derived.Lay
import Derived.SevenTiedAt
import Derived.Stop.Joined
import Derived.ChangeSlices
import Derived.Test.YtnhgnejfagncpaaDoorRows
import Derived.Test.YtnhgnejfagncpaaDoorLot10
import Derived.Test.YtnhgnejfagncpaaDoorTie
import Derived.Test.YtnhgnejfagncpaaDoorCards
namespace Go.Proofs.YtnhgnejfagncpaaDoor.lexBack
open Go.ChangeShapes Go.WideShapes Go.ChangeAt Go.RowKit Go.Proofs.YtnhgnejfagncpaaDoor.Opened Go.Proofs.YtnhgnejfagncpaaDoorW.PrintWords Go.Proofs.YtnhgnejfagncpaaDoorW.PrintLast Go.Proofs.YtnhgnejfagncpaaDoorW.PrintMore Go.Proofs.YtnhgnejfagncpaaDoor.H Go.Proofs.YtnhgnejfagncpaaDoor.A Go.Proofs.YtnhgnejfagncpaaDoor.B Go.Proofs.YtnhgnejfagncpaaDoor.E Go.Proofs.YtnhgnejfagncpaaDoor.L Go.Proofs.YtnhgnejfagncpaaDoor.M Go.Proofs.YtnhgnejfagncpaaDoor.P Go.Proofs.YtnhgnejfagncpaaDoor.U Go.Proofs.YtnhgnejfagncpaaDoor.V
open Go.ChangeMaps (open_string shut_string)
set_option linter.unusedVariables false
set_option linter.unusedSimpArgs false
theorem own : ownKnob Tryd.prog.godebug = none := by kernel_rfl
theorem laidOut : laidOutB Tryd.prog = true := by kernel_rfl
set_option maxRecDepth 100000 in
theorem lifted (os : Os) (started : os.Started) (H : Type) (enc : TypeId × Value → H) :
    ReturnsInHanded {} Tryd.checked os 5 .any (fun w args => (Rows.lexBackSpec.pre enc Tryd.prog Tryd.f5 Rows.lexBackRow.domain false w args ∧ laidMetH Tryd.prog Rows.lexBackRow.laid w) ∧ sizedMet enc Tryd.prog Tryd.f5 (OpenSpec.ofChange Rows.lexBackSpec) false w args) (Rows.lexBackSpec.post enc Tryd.prog Tryd.f5 false true false false) := by
  refine returnsInHanded_of_change_and (C := Tryd.checked) (X := fun w _ => laidMetH Tryd.prog Rows.lexBackRow.laid w) (fun _ _ _ hh h => h.of_heap hh) own started (by kernel_rfl) Tryd.func5
    (ChangeSpec.witness_shaped (enc := enc) (C := Tryd.checked) (os := os) (X := fun w _ => laidMetH Tryd.prog Rows.lexBackRow.laid w) false (World.laidAll Tryd.prog os Rows.lexBackRow.laid) #[.agg #[.int .i64 0, .int .i64 0, .int .i64 0, .string ByteArray.empty], .agg #[.int .i64 0, .int .i64 0, .int .i64 0, .string ByteArray.empty]] 8 (World.laidAll_os _ _ _)
      (World.shaped_of_ZipB (by kernel_rfl) (by kernel_rfl)) (by kernel_rfl) (by kernel_rfl) (by kernel_rfl) (by rw [MakeChecks.laidMetH_plain _ _ _ (by kernel_rfl)]; exact laidMet_laidAll _ (by kernel_rfl) (by kernel_rfl))) ?_
  intro W base args ds gs before hval0 hW hcnd hsz0 hL _
  have hsz : (DataW.weightsEach Tryd.prog (Tryd.f5.params.toList ++ Rows.lexBackSpec.plain.varTypes Tryd.prog) (ds ++ gs)).all (· ≤ reachBytes) = true := hsz0
  have hval : ∀ (j : Nat) t v, Tryd.f5.params[j]? = some t → args[j]? = some v → Value.okWide Tryd.prog W .any base t v := hval0
  have hW' := hW
  obtain ⟨p, q, hA0, hV, rfl, hfz, hnd⟩ := hW
  have hA : DataW.TrodAll enc Tryd.prog W 0 (fun _ => true) true Tryd.f5.params.toList args.toList ds p := hA0
  rw [Tryd.params5] at hA hval hsz
  obtain ⟨v0, vs0, d0, ds0, p0, q0, hargs, rfl, rfl, h0, r0⟩ := trodAll_cons hA
  obtain ⟨v1, vs1, d1, ds1, p1, q1, rfl, rfl, rfl, h1, r1⟩ := trodAll_cons r0
  obtain ⟨rfl, rfl, rfl⟩ := trodAll_nil r1
  obtain rfl : args = #[v0, v1] := by cases args; simp_all
  obtain ⟨rfl, rfl⟩ := trodVars_none hV
  have k0 := h0
  have lt0 : ∀ x ∈ p0, x.block < W.heap.size := by obtain ⟨m, hm⟩ := k0; exact DataW.trod_lt m _ _ _ hm
  obtain ⟨cs0, rfl, -⟩ := okWide_struct Tryd.underlying27 (hval 0 27 v0 rfl rfl)
  obtain ⟨x0, hx0, w0⟩ := rd_val h0 (fun n => (rd_tuple Tryd.underlying27 (by kernel_rfl) (rdF_cons rfl rfl (by kernel_rfl) (rd_int Tryd.underlying3) (rdF_cons rfl rfl (by kernel_rfl) (rd_tuple Tryd.underlying25 (by kernel_rfl) (rdF_cons rfl rfl (by kernel_rfl) (rd_int Tryd.underlying3) (rdF_one rfl rfl (by kernel_rfl) (rd_int Tryd.underlying3)))).all (rdF_one rfl rfl (by kernel_rfl) (rd_string Tryd.underlying9))))).all)
  obtain ⟨cl0, hcl0⟩ : ∃ cl, cs0.toList = cl := ⟨_, rfl⟩
  replace hx0 : (Kd.pair (Kd.int .i64) (Kd.pair (Kd.pair (Kd.int .i64) (Kd.int .i64)) Kd.string)).K W x0 cl0 := by rw [← hcl0]; exact hx0
  obtain ⟨_, _, rfl, rfl, ⟨_, _, rfl, ⟨_, _, rfl, rfl, rfl⟩, rfl⟩⟩ := hx0
  obtain rfl : cs0 = #[.int .i64 x0.1, .int .i64 x0.2.1.1, .int .i64 x0.2.1.2, .string x0.2.2] := by apply Array.ext'; simpa using hcl0
  clear hcl0
  have k1 := h1
  have lt1 : ∀ x ∈ p1, x.block < W.heap.size := by obtain ⟨m, hm⟩ := k1; exact DataW.trod_lt m _ _ _ hm
  obtain ⟨cs1, rfl, -⟩ := okWide_struct Tryd.underlying27 (hval 1 27 v1 rfl rfl)
  obtain ⟨x1, hx1, w1⟩ := rd_val h1 (fun n => (rd_tuple Tryd.underlying27 (by kernel_rfl) (rdF_cons rfl rfl (by kernel_rfl) (rd_int Tryd.underlying3) (rdF_cons rfl rfl (by kernel_rfl) (rd_tuple Tryd.underlying25 (by kernel_rfl) (rdF_cons rfl rfl (by kernel_rfl) (rd_int Tryd.underlying3) (rdF_one rfl rfl (by kernel_rfl) (rd_int Tryd.underlying3)))).all (rdF_one rfl rfl (by kernel_rfl) (rd_string Tryd.underlying9))))).all)
  obtain ⟨cl1, hcl1⟩ : ∃ cl, cs1.toList = cl := ⟨_, rfl⟩
  replace hx1 : (Kd.pair (Kd.int .i64) (Kd.pair (Kd.pair (Kd.int .i64) (Kd.int .i64)) Kd.string)).K W x1 cl1 := by rw [← hcl1]; exact hx1
  obtain ⟨_, _, rfl, rfl, ⟨_, _, rfl, ⟨_, _, rfl, rfl, rfl⟩, rfl⟩⟩ := hx1
  obtain rfl : cs1 = #[.int .i64 x1.1, .int .i64 x1.2.1.1, .int .i64 x1.2.1.2, .string x1.2.2] := by apply Array.ext'; simpa using hcl1
  clear hcl1
  have z0 := tok_sized hsz (j := 0) rfl rfl k0
  have z1 := tok_sized hsz (j := 1) rfl rfl k1
  clear hA0 hval0 hsz0
  obtain ⟨k, hk⟩ := Pure.LexBack (x0.1) (x0.2.1.1) (x0.2.1.2) (x0.2.2) (x1.1) (x1.2.1.1) (x1.2.1.2) (x1.2.2) z0 z1
  refine (V.erasurelaw14_LexBack.calls (x0.1) (x0.2.1.1) (x0.2.1.2) (x0.2.2) (x1.1) (x1.2.1.1) (x1.2.1.2) (x1.2.2) true W (Go.Proofs.YtnhgnejfagncpaaDoor.H.tab_of_laid hL) hk).mono fun e W' ⟨he, bel⟩ => ?_
  subst he
  exact ⟨_, rfl, _, _, _, [], _, [], hW', trodAll_mk1 (shut_bool Tryd.underlying4 _), (trodAll_cons_mk (Below.trod laidOut (by kernel_rfl) (of_decide_eq_true (by kernel_rfl)) k0 bel lt0) (trodAll_cons_mk (Below.trod laidOut (by kernel_rfl) (of_decide_eq_true (by kernel_rfl)) k1 bel lt1) trodAll_mk0)), rfl, bel.frame _, fun h => by cases h⟩
theorem over : Rows.lexBackRow.holds Tryd.pinned (OpenSpec.ofChange Rows.lexBackSpec) :=
  OpenClaim.holds_of_wide 5 Tryd.f5 rfl rfl rfl rfl rfl rfl rfl ⟨rfl, rfl, rfl, rfl, rfl⟩ rfl rfl rfl rfl rfl (by kernel_rfl) Tryd.func5 (by kernel_rfl)
    (of_decide_eq_true (by kernel_rfl)) (by unfold Func.isWrapper; first | (rw [if_pos (by decide +kernel)]; kernel_rfl) | (rw [if_neg (by decide +kernel)]; exact ⟨rfl, rfl⟩))
    (fun os started H enc _ => lifted os started H enc)
theorem proved : Rows.LexBackCardSaid :=
  Claim7.holds_tied_plain_at .later [] [.data, .data, .data, .data, .pinned] true (true, "03e4abfff5544733e17bdd216a162f0937e656e4be8b9542fc2da20ff9f370ec") false
    over (fun _ h => by cases h) (by kernel_rfl) (fun _ h => by cases h) lexBack_row_tie rfl ⟨rfl, rfl⟩ (by kernel_rfl) rfl
    (fun f fn hf hfn => by
      obtain rfl : f = 5 := Option.some.inj ((show Tryd.prog.funcNamed "erasure/erasurelaw14.LexBack" = some 5 by kernel_rfl).symm.trans hf) |>.symm
      obtain rfl : fn = Tryd.f5 := (Option.some.inj (Tryd.func5.symm.trans hfn)).symm
      exact ⟨by kernel_rfl, fun j t ht => by
        rw [Tryd.params5] at ht
        have hm : t ∈ [27, 27] := by simpa using Array.mem_of_getElem? ht
        have hall : ([27, 27].all fun u => !Tryd.prog.wantsStandIn u) = true := by kernel_rfl
        exact (show Tryd.prog.wantsStandIn t = false by simpa using List.all_eq_true.1 hall t hm)⟩)
    (by kernel_rfl)
#print axioms proved
end Go.Proofs.YtnhgnejfagncpaaDoor.lexBack
namespace Go.Proofs.YtnhgnejfagncpaaDoor
theorem lexBack_holds : Rows.LexBackCardSaid := lexBack.proved
end Go.Proofs.YtnhgnejfagncpaaDoor
