/- The law erasure/erasurelaw14.LexReads holds of every input: called with whatever can be read as its parameters it returns true, and each argument reads afterwards as it read before. -/
import Derived.Test.YtnhgnejfagncpaaDoorRows
import Derived.Test.YtnhgnejfagncpaaDoorLot13
import Derived.Test.YtnhgnejfagncpaaDoorLot14
import Derived.Test.YtnhgnejfagncpaaDoorTie
import Derived.Test.YtnhgnejfagncpaaDoorCards
import Derived.WalkKit
import Derived.ProofKit
import Derived.OpenShut
import Derived.ShutString
import Derived.ChangeOld
import Derived.Below
import Derived.SizedLaws
import Derived.Carry
import Derived.LaidMore
import Derived.Lay
import Derived.SevenTiedAt
import Derived.Stop.Joined
import Derived.Test.YtnhgnejfagncpaaDoorLot1
namespace Go.Proofs.YtnhgnejfagncpaaDoor.lexReads
open Go.ChangeShapes Go.WideShapes Go.ChangeAt Go.RowKit Go.Proofs.YtnhgnejfagncpaaDoor.Opened Go.Proofs.YtnhgnejfagncpaaDoorW.PrintWords Go.Proofs.YtnhgnejfagncpaaDoorW.PrintLast Go.Proofs.YtnhgnejfagncpaaDoorW.PrintMore Go.Proofs.YtnhgnejfagncpaaDoor.H Go.Proofs.YtnhgnejfagncpaaDoor.A Go.Proofs.YtnhgnejfagncpaaDoor.B Go.Proofs.YtnhgnejfagncpaaDoor.E Go.Proofs.YtnhgnejfagncpaaDoor.L Go.Proofs.YtnhgnejfagncpaaDoor.M Go.Proofs.YtnhgnejfagncpaaDoor.P Go.Proofs.YtnhgnejfagncpaaDoor.R
open Go.ChangeMaps (open_string shut_string)
set_option linter.unusedVariables false
set_option linter.unusedSimpArgs false
theorem own : ownKnob Tryd.prog.godebug = none := by kernel_rfl
theorem laidOut : laidOutB Tryd.prog = true := by kernel_rfl
set_option maxRecDepth 100000 in
theorem lifted (os : Os) (started : os.Started) (H : Type) (enc : TypeId × Value → H) :
    ReturnsInHanded {} Tryd.checked os 3 .any (fun w args => (Rows.lexReadsSpec.pre enc Tryd.prog Tryd.f3 Rows.lexReadsRow.domain false w args ∧ laidMetH Tryd.prog Rows.lexReadsRow.laid w) ∧ sizedMet enc Tryd.prog Tryd.f3 (OpenSpec.ofChange Rows.lexReadsSpec) false w args) (Rows.lexReadsSpec.post enc Tryd.prog Tryd.f3 false true false false) := by
  refine returnsInHanded_of_change_and (C := Tryd.checked) (X := fun w _ => laidMetH Tryd.prog Rows.lexReadsRow.laid w) (fun _ _ _ hh h => h.of_heap hh) own started (by kernel_rfl) Tryd.func3
    (ChangeSpec.witness_shaped (enc := enc) (C := Tryd.checked) (os := os) (X := fun w _ => laidMetH Tryd.prog Rows.lexReadsRow.laid w) false (World.laidAll Tryd.prog os Rows.lexReadsRow.laid) #[.slice none 0 0, .int .i64 0] 8 (World.laidAll_os _ _ _)
      (World.shaped_of_ZipB (by kernel_rfl) (by kernel_rfl)) (by kernel_rfl) (by kernel_rfl) (by kernel_rfl) (by rw [MakeChecks.laidMetH_plain _ _ _ (by kernel_rfl)]; exact laidMet_laidAll _ (by kernel_rfl) (by kernel_rfl))) ?_
  intro W base args ds gs before hval0 hW hcnd hsz0 hL _
  have hsz : (DataW.weightsEach Tryd.prog (Tryd.f3.params.toList ++ Rows.lexReadsSpec.plain.varTypes Tryd.prog) (ds ++ gs)).all (· ≤ reachBytes) = true := hsz0
  have hval : ∀ (j : Nat) t v, Tryd.f3.params[j]? = some t → args[j]? = some v → Value.okWide Tryd.prog W .any base t v := hval0
  have hW' := hW
  obtain ⟨p, q, hA0, hV, rfl, hfz, hnd⟩ := hW
  have hA : DataW.TrodAll enc Tryd.prog W 0 (fun _ => true) true Tryd.f3.params.toList args.toList ds p := hA0
  rw [Tryd.params3] at hA hval hsz
  obtain ⟨v0, vs0, d0, ds0, p0, q0, hargs, rfl, rfl, h0, r0⟩ := trodAll_cons hA
  obtain ⟨v1, vs1, d1, ds1, p1, q1, rfl, rfl, rfl, h1, r1⟩ := trodAll_cons r0
  obtain ⟨rfl, rfl, rfl⟩ := trodAll_nil r1
  obtain rfl : args = #[v0, v1] := by cases args; simp_all
  obtain ⟨rfl, rfl⟩ := trodVars_none hV
  have k0 := h0
  have lt0 : ∀ x ∈ p0, x.block < W.heap.size := by obtain ⟨m, hm⟩ := k0; exact DataW.trod_lt m _ _ _ hm
  obtain ⟨A0, len0, cap0, rfl⟩ := okWide_slice Tryd.underlying22 (hval 0 22 v0 rfl rfl)
  obtain ⟨l0, ⟨A0', c0, hcs0, hc0, hr0⟩, w0⟩ := rd_val h0 (fun n => (rd_slice (e' := 5) (K := (Kd.int .u8)) Tryd.underlying22 (by kernel_rfl) (rd_int Tryd.underlying5)).all)
  have y0 : len0 * 1 ≤ 140737488351232 := Go.Proofs.YtnhgnejfagncpaaDoorW.PrintWords.sized_ints hsz (j := 0) (t := 22) rfl rfl Tryd.underlying22 Tryd.underlying5 (by kernel_rfl) (by kernel_rfl) h0
  have hcs0' : [Value.slice A0 len0 cap0] = [.slice A0' l0.length c0] := hcs0
  injection hcs0' with e0
  injection e0 with e1 e2 e3
  subst e1 e2 e3
  obtain ⟨a1, rfl, rfl, rfl, w1⟩ := open_int Tryd.underlying3 (hval 1 3 v1 rfl rfl) h1
  clear hA0 hval0 hsz0
  obtain ⟨k, hk⟩ := Pure.LexReads l0 a1 y0 w0 w1
  refine (R.erasurelaw14_LexReads.calls k A0 cap0 l0 a1 true W hr0 hc0 (Go.Proofs.YtnhgnejfagncpaaDoor.H.tab_of_laid hL) hk).mono fun e W' ⟨he, bel⟩ => ?_
  subst he
  exact ⟨_, rfl, _, _, _, [], _, [], hW', trodAll_mk1 (shut_bool Tryd.underlying4 _), (trodAll_cons_mk (Below.trod laidOut (by kernel_rfl) (of_decide_eq_true (by kernel_rfl)) k0 bel lt0) (trodAll_cons_mk (shut_int Tryd.underlying3 w1) trodAll_mk0)), rfl, bel.frame _, fun h => by cases h⟩
theorem over : Rows.lexReadsRow.holds Tryd.pinned (OpenSpec.ofChange Rows.lexReadsSpec) :=
  OpenClaim.holds_of_wide 3 Tryd.f3 rfl rfl rfl rfl rfl rfl rfl ⟨rfl, rfl, rfl, rfl, rfl⟩ rfl rfl rfl rfl rfl (by kernel_rfl) Tryd.func3 (by kernel_rfl)
    (of_decide_eq_true (by kernel_rfl)) (by unfold Func.isWrapper; first | (rw [if_pos (by decide +kernel)]; kernel_rfl) | (rw [if_neg (by decide +kernel)]; exact ⟨rfl, rfl⟩))
    (fun os started H enc _ => lifted os started H enc)
theorem proved : Rows.LexReadsCardSaid :=
  Claim7.holds_tied_plain_at .later [] [.data, .data, .data, .data, .pinned] true (true, "03e4abfff5544733e17bdd216a162f0937e656e4be8b9542fc2da20ff9f370ec") false
    over (fun _ h => by cases h) (by kernel_rfl) (fun _ h => by cases h) lexReads_row_tie rfl ⟨rfl, rfl⟩ (by kernel_rfl) rfl
    (fun f fn hf hfn => by
      obtain rfl : f = 3 := Option.some.inj ((show Tryd.prog.funcNamed "erasure/erasurelaw14.LexReads" = some 3 by kernel_rfl).symm.trans hf) |>.symm
      obtain rfl : fn = Tryd.f3 := (Option.some.inj (Tryd.func3.symm.trans hfn)).symm
      exact ⟨by kernel_rfl, fun j t ht => by
        rw [Tryd.params3] at ht
        have hm : t ∈ [22, 3] := by simpa using Array.mem_of_getElem? ht
        have hall : ([22, 3].all fun u => !Tryd.prog.wantsStandIn u) = true := by kernel_rfl
        exact (show Tryd.prog.wantsStandIn t = false by simpa using List.all_eq_true.1 hall t hm)⟩)
    (by kernel_rfl)
#print axioms proved
end Go.Proofs.YtnhgnejfagncpaaDoor.lexReads
namespace Go.Proofs.YtnhgnejfagncpaaDoor
theorem lexReads_holds : Rows.LexReadsCardSaid := lexReads.proved
end Go.Proofs.YtnhgnejfagncpaaDoor
