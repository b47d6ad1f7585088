/- RunParts: the row (its first parameter is a slice of slices). -/
import Derived.Test.YtdopkepaandoeaaRows
import Derived.Test.YtdopkepaandoeaaR4
import Derived.Test.YtdopkepaandoeaaPureRunParts
import Derived.WalkKit
import Derived.ProofKit
import Derived.OpenShut
import Derived.ShutString
import Derived.ChangeOld
import Derived.Below
import Derived.SizedLaws
import Derived.Deep.Slices
namespace Go.Proofs.Ytdopkepaandoeaa.runParts
open Go.ChangeShapes Go.WideShapes Go.ChangeAt Go.RowKit
open Go.ChangeMaps (open_string shut_string)
open Go.Proofs.YtdopkepaandoeaaW.PrintWords
set_option linter.unusedVariables false
theorem own : ownKnob Try.prog.godebug = none := by kernel_rfl
theorem laidOut : laidOutB Try.prog = true := by kernel_rfl

section
variable {H : Type} {enc : TypeId × Value → H} {P : Program} {w : World} {base : Nat} {spare : Nat → Bool} {held : Bool}
/-- A slice of whole numbers, opened: its row. -/
theorem reads_of_ints {t e : TypeId} {k : IntKind} {fuel : Nat} {cs : List Value} {x : DataW H × List MemPlace} (ht : P.underlying t = some (.slice e)) (he : P.underlying e = some (.int k)) (hc : P.cellsOf e = 1)
    (h : DataW.trod enc P w base spare held fuel t cs = some x) :
    ∃ (a : Option Addr) (l : List Int) (cap : Nat), cs = [.slice a l.length cap] ∧ l.length ≤ cap ∧ (Kd.int k).C w a l.length l ∧ ∀ x ∈ l, (Lit.int k x).wf = true := by
  rcases open_ints ht he hc h with ⟨rfl, _⟩ | ⟨x, len, cap, zs, rfl, _, hl, hm, hz, _, hcell, hwz⟩
  · exact ⟨none, [], 0, rfl, Nat.le_refl _, ⟨rfl, by decide, fun hn => absurd hn (Nat.lt_irrefl _)⟩, fun x hx => absurd hx (List.not_mem_nil)⟩
  · have hle : len ≤ zs.length := by
      rw [hz]
      split
      · exact hl
      · exact Nat.le_refl _
    have hlen : (zs.take len).length = len := by rw [List.length_take]; omega
    refine ⟨some x, zs.take len, cap, by rw [hlen], by rw [hlen]; exact hl, ⟨rfl, ?_, fun hn => ⟨x, rfl, fun j p hj => ⟨[.int k p], rfl, rfl, fun i u hi => ?_⟩⟩⟩, fun y hy => hwz y (List.mem_of_mem_take hy)⟩
    · rw [hlen]
      exact Nat.le_trans hl hm
    · have hi0 : i = 0 := by
        rcases i with _ | i
        · rfl
        · simp at hi
      subst hi0
      simp at hi
      subst hi
      obtain ⟨hj1, hj2⟩ := List.getElem?_eq_some_iff.1 hj
      rw [hlen] at hj1
      have h1 := hcell j (by omega)
      have h2 : zs.getD j 0 = p := by
        rw [List.getElem_take] at hj2
        rw [List.getD_eq_getElem?_getD, List.getElem?_eq_getElem (by omega), hj2]
        rfl
      rw [h2] at h1
      have e1 : j * (Kd.int k).sz + 0 = j := by
        have : (Kd.int k).sz = 1 := rfl
        rw [this]
        omega
      rw [e1]
      exact h1

/-- A slice of slices of whole numbers, opened. -/
theorem reads_of_rows {t e f : TypeId} {k : IntKind} {fuel : Nat} {cs : List Value} {x : DataW H × List MemPlace} (ht : P.underlying t = some (.slice e)) (he : P.underlying e = some (.slice f)) (hf : P.underlying f = some (.int k)) (hce : P.cellsOf e = 1) (hcf : P.cellsOf f = 1)
    (h : DataW.trod enc P w base spare held fuel t cs = some x) :
    ∃ (a : Option Addr) (l : List (List Int)) (cap : Nat), cs = [.slice a l.length cap] ∧ l.length ≤ cap ∧ (Kd.slice 5 (Kd.int k)).C w a l.length l ∧ ∀ r ∈ l, ∀ x ∈ r, (Lit.int k x).wf = true := by
  rcases Go.Deep.open_slice1 ht hce h with ⟨rfl, _⟩ | ⟨a, len, cap, m, n, V, D, Pl, rfl, _, hl, hm, hmm, _, hV⟩
  · exact ⟨none, [], 0, rfl, Nat.le_refl _, ⟨rfl, by decide, fun hn => absurd hn (Nat.lt_irrefl _)⟩, fun x hx => absurd hx (List.not_mem_nil)⟩
  · have hle : len ≤ m := by
      rw [hmm]
      split
      · exact hl
      · exact Nat.le_refl _
    obtain ⟨R, hR⟩ := Go.Deep.choose_lt (n := len) (p := fun i (r : List Int) => ∃ A c, V i = .slice A r.length c ∧ r.length ≤ c ∧ (Kd.int k).C w A r.length r ∧ ∀ x ∈ r, (Lit.int k x).wf = true) (fun i hi => by
      obtain ⟨A, l, c, hcs, h1, h2, h3⟩ := reads_of_ints he hf hcf (hV i (by omega)).2
      simp at hcs
      exact ⟨l, A, c, hcs, h1, h2, h3⟩)
    have hlen : ((List.range len).map R).length = len := by rw [List.length_map, List.length_range]
    refine ⟨some a, (List.range len).map R, cap, by rw [hlen], by rw [hlen]; exact hl, ⟨rfl, ?_, fun hn => ⟨a, rfl, fun j p hj => ?_⟩⟩, fun r hr => ?_⟩
    · rw [hlen]
      exact Nat.le_trans hl hm
    · have hjl : j < len := by
        obtain ⟨hj1, _⟩ := List.getElem?_eq_some_iff.1 hj
        rw [hlen] at hj1
        exact hj1
      have hp : R j = p := by
        rw [List.getElem?_map, List.getElem?_range hjl] at hj
        simpa using hj
      obtain ⟨A, c, hv, h1, h2, h3⟩ := hR j hjl
      rw [hp] at hv h1 h2 h3
      refine ⟨[V j], rfl, ⟨A, c, by rw [hv], h1, h2⟩, fun i u hi => ?_⟩
      have hi0 : i = 0 := by
        rcases i with _ | i
        · rfl
        · simp at hi
      subst hi0
      simp at hi
      subst hi
      have e1 : j * (Kd.slice 5 (Kd.int k)).sz + 0 = j := by
        have : (Kd.slice 5 (Kd.int k)).sz = 1 := rfl
        rw [this]
        omega
      rw [e1]
      exact (hV j (by omega)).1
    · obtain ⟨i, hi, rfl⟩ := List.mem_map.1 hr
      exact (hR i (List.mem_range.1 hi)).elim fun A h => h.elim fun c h => h.2.2.2
end

set_option maxRecDepth 100000 in
theorem lifted (os : Os) (started : os.Started) (H : Type) (enc : TypeId × Value → H) :
    ReturnsInHanded {} Try.checked os 6 .any (Rows.runPartsSpec.pre6 enc Try.prog Try.f6 Rows.runPartsRow.domain false) (Rows.runPartsSpec.post enc Try.prog Try.f6 false true false false) := by
  refine returnsInHanded_of_change_sized (C := Try.checked) own started (by kernel_rfl) Try.func6
    (ChangeSpec.witness6 (enc := enc) (C := Try.checked) false ⟨#[], #[.slice none 0 0, .slice none 0 0], []⟩ 8 (by kernel_rfl) (by kernel_rfl) (by kernel_rfl) (by kernel_rfl)) ?_
  intro W base args ds gs before hval0 hW hcnd hsz0 _
  have hval : ∀ (j : Nat) t v, Try.f6.params[j]? = some t → args[j]? = some v → Value.okWide Try.prog W .any base t v := hval0
  have hW' := hW
  obtain ⟨p, q, hA0, hV, rfl, hfz, hnd⟩ := hW
  have hA : DataW.TrodAll enc Try.prog W 0 (fun _ => true) true Try.f6.params.toList args.toList ds p := hA0
  rw [Try.params6] at hA hval
  obtain ⟨v0, vs0, d0, ds0, p0, q0, hargs, rfl, rfl, h0, r0⟩ := trodAll_cons hA
  obtain ⟨v1, vs1, d1, ds1, p1, q1, rfl, rfl, rfl, h1, r1⟩ := trodAll_cons r0
  obtain ⟨rfl, rfl, rfl⟩ := trodAll_nil r1
  obtain rfl : args = #[v0, v1] := by cases args; simp_all
  obtain ⟨rfl, rfl⟩ := trodVars_none hV
  obtain ⟨a0, len0, cap0, rfl⟩ := okWide_slice Try.underlying32 (hval 0 32 v0 rfl rfl)
  have k0 := h0
  have lt0 : ∀ x ∈ p0, x.block < W.heap.size := by obtain ⟨m, hm⟩ := k0; exact DataW.trod_lt m _ _ _ hm
  obtain ⟨l0, rfl, c0, hr0, z0⟩ : ∃ l : List (List Int), len0 = l.length ∧ l.length ≤ cap0 ∧ (Kd.slice 5 (Kd.int .u8)).C W a0 l.length l ∧ ∀ r ∈ l, ∀ x ∈ r, (Lit.int .u8 x).wf = true := by
    obtain ⟨fuel, hf⟩ := h0
    obtain ⟨A, l, c, hcs, g1, g2, g3⟩ := reads_of_rows Try.underlying32 Try.underlying22 Try.underlying5 (by kernel_rfl) (by kernel_rfl) hf
    simp [Value.cells] at hcs
    obtain ⟨rfl, rfl, rfl⟩ := hcs
    exact ⟨l, rfl, g1, g2, g3⟩
  obtain ⟨a1, len1, cap1, rfl⟩ := okWide_slice Try.underlying22 (hval 1 22 v1 rfl rfl)
  have k1 := h1
  have lt1 : ∀ x ∈ p1, x.block < W.heap.size := by obtain ⟨m, hm⟩ := k1; exact DataW.trod_lt m _ _ _ hm
  obtain ⟨l1, rfl, c1, hr1, z1⟩ : ∃ l : List Int, len1 = l.length ∧ l.length ≤ cap1 ∧ (Kd.int .u8).C W a1 l.length l ∧ ∀ x ∈ l, (Lit.int .u8 x).wf = true := by
    obtain ⟨fuel, hf⟩ := h1
    obtain ⟨A, l, c, hcs, g1, g2, g3⟩ := reads_of_ints Try.underlying22 Try.underlying5 (by kernel_rfl) hf
    simp [Value.cells] at hcs
    obtain ⟨rfl, rfl, rfl⟩ := hcs
    exact ⟨l, rfl, g1, g2, g3⟩
  clear hA0 hval0 hsz0
  obtain ⟨k, hk⟩ := Pure.RunParts l0 l1 (fun r hr => Run.Byte.of_wf (z0 r hr)) (Run.Byte.of_wf z1)
  refine (R.erasurelaw11_RunParts.calls k a0 cap0 l0 a1 cap1 l1 true W hr0 c0 hr1 c1 hk).mono fun e W' ⟨he, bel⟩ => ?_
  subst he
  exact ⟨_, rfl, _, _, _, [], _, [], hW', trodAll_mk1 (shut_bool Try.underlying4 _), (trodAll_cons_mk (Below.trod laidOut (by kernel_rfl) (of_decide_eq_true (by kernel_rfl)) k0 bel lt0) (trodAll_cons_mk (Below.trod laidOut (by kernel_rfl) (of_decide_eq_true (by kernel_rfl)) k1 bel lt1) trodAll_mk0)), rfl, bel.frame _, fun h => by cases h⟩
theorem over : Rows.runPartsRow.holds Try.pinned (OpenSpec.ofChange Rows.runPartsSpec) :=
  OpenClaim.holds_of_wide 6 Try.f6 rfl rfl rfl rfl rfl rfl rfl ⟨rfl, rfl, rfl, rfl, rfl⟩ rfl rfl rfl rfl rfl (by kernel_rfl) Try.func6 (by kernel_rfl)
    (of_decide_eq_true (by kernel_rfl)) (by unfold Func.isWrapper; first | (rw [if_pos (by decide +kernel)]; kernel_rfl) | (rw [if_neg (by decide +kernel)]; exact ⟨rfl, rfl⟩))
    (fun os started H enc _ => lifted os started H enc)
theorem proved : Rows.RunPartsSaid := over
#print axioms proved
end Go.Proofs.Ytdopkepaandoeaa.runParts
namespace Go.Proofs.Ytdopkepaandoeaa
/-- The row, under a short name, for the claim. -/
theorem runParts_holds : Rows.RunPartsSaid := runParts.proved
end Go.Proofs.Ytdopkepaandoeaa
