/- run.Get over a plain reading; the document's examples of layer 11 hold. -/
import Derived.Lib.SmallJoins
import Derived.Test.YtdopkepaandoeaaRunPut
import Derived.Test.YtdopkepaandoeaaG2
namespace Go.Proofs.Ytdopkepaandoeaa.Run
open Go.RowKit Go.Proofs.YtdopkepaandoeaaW.PrintWords Go.Proofs.YtdopkepaandoeaaW.PrintLast Go.Proofs.YtdopkepaandoeaaW.PrintMore
attribute [local go_sem] max2_int min2_int max_two min_two max_three min_three max_four min_four
set_option linter.unusedVariables false
set_option linter.unusedSimpArgs false

theorem cell_same {W W' : World} {a : Addr} {u : Value} (hm : ∀ k, k < W.heap.size → W'.heap[k]? = W.heap[k]?) (h : W.cell? a = some u) : W'.cell? a = some u := by
  have hb : a.block < W.heap.size := by
    by_cases hlt : a.block < W.heap.size
    · exact hlt
    · have : W.heap[a.block]? = none := Array.getElem?_eq_none (by omega)
      unfold World.cell? at h
      rw [this] at h
      cases h
  have h1 := hm a.block hb
  unfold World.cell? at h ⊢
  rw [h1]; exact h

theorem V_of_C {W : World} {base : Nat} {A : Option Addr} {c : Nat} {l : List Int} (hc : l.length ≤ c) (h : Kd.C (Kd.int .u8) W A l.length l) : Kd.V (Kd.int .u8) 5 W base (fun _ => True) (.slice A l.length c) l := by
  refine Kd.V_mk hc ?_
  intro W' hm
  refine ⟨h.1, h.2.1, fun hn => ?_⟩
  obtain ⟨ad, e, hx⟩ := h.2.2 hn
  refine ⟨ad, e, fun j p hj => ?_⟩
  obtain ⟨c, hs, hr, hcell⟩ := hx j p hj
  exact ⟨c, hs, hr, fun i u hi => cell_same (fun k hk => hm k trivial hk) (hcell i u hi)⟩

theorem get_calls (k : Nat) (A0 : Option Addr) (c0 : Nat) (l0 : List Int) (a1 : Int) (r1 : List Int) (r2 : Int) (w : World) (hr0 : Kd.C (Kd.int .u8) w A0 l0.length l0) (hc0 : l0.length ≤ c0) (h : G.run_Get.f k l0 a1 = some (r1, r2)) :
    Calls Try.prog 10 #[.slice A0 l0.length c0, .int .i64 a1] w fun e w' => ∃ v0_ : Value, e = .returned (.tuple #[v0_, .int .i64 r2]) ∧ Kd.R (Kd.int .u8) 5 w' w.heap.size (fun _ => True) v0_ r1 ∧ Below w.heap.size w w' := by
  refine (G.run_Get.calls k (fun _ => True) A0 c0 l0 a1 r1 r2 w (V_of_C hc0 hr0) h).mono ?_
  rintro e w' ⟨v, he, hR, hB⟩
  exact ⟨v, he, Kd.R_mono hR (fun _ _ => trivial), hB⟩

theorem C_lit (w : World) (xs : List Int) (fr : Nat × Nat) (h : xs.length ≤ 9223372036854775807) : Kd.C (Kd.int .u8) (w.alloc (.cells (xs.map fun x => Value.int .u8 x).toArray 5 fr)) (some ⟨w.heap.size, 0, none⟩) xs.length xs := by
  refine ⟨rfl, h, fun hn => ⟨_, rfl, fun j p hj => ⟨[.int .u8 p], rfl, rfl, fun i u hi => ?_⟩⟩⟩
  have hi0 : i = 0 := by
    rcases i with _ | i
    · rfl
    · simp at hi
  subst hi0
  simp at hi
  subst hi
  have := World.cell?_alloc_mark w (xs.map fun x => Value.int .u8 x).toArray 5 fr j
  have e : ((⟨w.heap.size, 0, none⟩ : Addr).add (j * (Kd.int .u8).sz + 0)) = ⟨w.heap.size, j, none⟩ := by
    have : (Kd.int .u8).sz = 1 := rfl
    rw [this]
    rcases j with _ | j <;> simp [Addr.add]
  rw [e, this]
  simp [hj]

theorem put_awake : run_Put.f [97, 97, 97, 98] = some ([254, 97, 0, 98, 128], 0) := by
  have h : partsFrom [97, 97, 97, 98] 0 = [partAt [97, 97, 97, 98] 0 (by decide), partAt [97, 97, 97, 98] 3 (by decide)] := by
    rw [partsFrom_step _ 0 (by decide), show 0 + stp [97, 97, 97, 98] 0 = 3 from by decide, partsFrom_step _ 3 (by decide), show 3 + stp [97, 97, 97, 98] 3 = 4 from by decide, partsFrom_end _ 4 (by decide)]
  unfold run_Put.f putAll
  rw [h]
  decide
theorem get_awake : G.run_Get.f 40 [254, 97, 0, 98, 128] 9 = some ([97, 97, 97, 98], 0) := by
  decide +kernel

set_option maxHeartbeats 4000000 in
theorem awake_calls (w : World) : Calls Try.prog 12 #[] w fun e w' => e = .returned (.bool true) ∧ Below w.heap.size w w' := by
  have hcv1 := Go.Joins.run_convert_bytes_const_at (P := Try.prog) w 22 5 #[.int .u8 97, .int .u8 97, .int .u8 97, .int .u8 98] 4 4 w.heap.size rfl rfl rfl
  go_enter Try.func12, Try.ntmps12
  let C1 : Array Value := #[.int .u8 97, .int .u8 97, .int .u8 97, .int .u8 98]
  let W1 := w.alloc (.cells C1 5 (C1.size, C1.size + 1))
  have h1 : Kd.C (Kd.int .u8) W1 (some ⟨w.heap.size, 0, none⟩) 4 [97, 97, 97, 98] := C_lit w [97, 97, 97, 98] (4, 5) (by decide)
  go_wp2_with fail
  refine (put_calls (some ⟨w.heap.size, 0, none⟩) 4 [97, 97, 97, 98] _ _ W1 h1 (by decide) put_awake).mono ?_
  rintro e w2 ⟨v2, rfl, hR, hB⟩
  have hcv2 := Go.Joins.run_convert_bytes_const_at (P := Try.prog) w2 22 5 #[.int .u8 254, .int .u8 97, .int .u8 0, .int .u8 98, .int .u8 128] 5 5 w2.heap.size rfl rfl rfl
  go_wp2_with fail
  refine (get_calls 40 _ _ [254, 97, 0, 98, 128] 9 _ _ (w2.alloc (.cells #[.int .u8 254, .int .u8 97, .int .u8 0, .int .u8 98, .int .u8 128] 5 (5, 6))) (C_lit w2 [254, 97, 0, 98, 128] (5, 6) (by decide)) (by decide) get_awake).mono ?_
  rintro e w3 ⟨v3, rfl, hR3, hB3⟩
  have hB2 : Below w.heap.size w w2 := below_step (below_alloc (Below.refl _ _) _) hB
  have hB4 : Below w.heap.size w w3 := below_step (below_alloc hB2 _) hB3
  have hR2 := Kd.R_elder' (Kd.R_alloc hR _) (Kd.R_base hR3) hB3
  have hcv3 := own_string (P := Try.prog) Try.underlying22 Try.underlying5 Try.underlying9 (Kd.own_of_R hR2)
  have hq1 : ((strOfNums [254, 97, 0, 98, 128]).toList == [254, 97, 0, 98, 128]) = true := by simp [strOfNums]
  have hq2 : ((strOfNums [97, 97, 97, 98]).toList == [97, 97, 97, 98]) = true := by simp [strOfNums]
  have hcv4 := own_string (P := Try.prog) Try.underlying22 Try.underlying5 Try.underlying9 (Kd.own_of_R hR3)
  go_wp2_with fail
  go_ret
  exact ⟨rfl, hB4⟩
end Go.Proofs.Ytdopkepaandoeaa.Run
