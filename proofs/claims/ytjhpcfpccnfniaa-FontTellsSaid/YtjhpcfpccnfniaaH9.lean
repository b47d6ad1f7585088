/- slices.Insert at a row of glyphs that the call owns, one glyph; font.place: a binary search among glyphs that rise. -/
import Derived.Test.YtjhpcfpccnfniaaA0
import Derived.Laws.CopyRow
import Derived.Laws.CopyOwn
import Derived.Lib.Overlaps
import Derived.Lib.AppendZerosOnto
import Derived.Deep.RegionLaw
import Derived.Test.YtjhpcfpccnfniaaH1
namespace Go.Proofs.Ytjhpcfpccnfniaa.A
open Go Go.RowKit Go.Proofs.YtjhpcfpccnfniaaW.PrintWords
set_option linter.unusedVariables false
theorem run_copy_rowN {P : Program} (w : World) (dT sT ty elem : TypeId) (size g o dLen dCap : Nat) (a : Addr) (sLen sCap : Nat) (cur : Array Value) (t : TypeId) (cs : List Value)
    (hu : P.underlying dT = some (.slice elem)) (hs : (P.info? elem).map (·.size) = some size)
    (hg : w.heap[g]? = some (.cells cur t (0, 0))) (hn : cs.length = Nat.min sLen dLen * size)
    (hsrc : ∀ j v, cs[j]? = some v → w.cell? (a.add j) = some v) (hfit : o + cs.length ≤ cur.size) (h1 : ∀ v ∈ cs, v.oneCell' = true) :
    (Builtin.copy_ #[dT, sT] ty #[.slice (some ⟨g, o, none⟩) dLen dCap, .slice (some a) sLen sCap]).run P w =
      .ok (goInt (Nat.min sLen dLen)) (w.setRow g (cur.toList.take o ++ cs ++ cur.toList.drop (o + cs.length)).toArray) := by
  have hl := run_loadCells_list (P := P) w a cs hsrc
  have hst := run_storeCells_at P g o t cs 0 cur w hg (by simpa using hfit) h1
  simp only [Nat.add_zero] at hst
  cases hq : P.info? elem with
  | none => simp [hq] at hs
  | some i =>
    have hi : i.size = size := by simpa [hq] using hs
    have hl' : (loadCells a (Nat.min sLen dLen * size)).run P w = .ok cs.toArray w := by rw [← hn]; exact hl
    simp [Builtin.copy_, run_underlying hu, Builtin.lenOf, Builtin.firstCells, sizeOf, typeInfo, hq, hi, hl', hst]
theorem grown_setRow (w : World) (g : Nat) (cs : Array Value) : w.grownBy (w.setRow g cs) (some g) :=
  ⟨rfl, rfl, rfl, by simp [World.setRow], fun k hk hne => setRow_other w g k cs (fun e => hne (by rw [e]))⟩
theorem wpList_copy_rowN {P : Program} {w : World} {ops : Array Oper} {rest : List Oper} {o : Oper} {a : Act} {Q : Exit → Act → World → Prop} (hgd : o.guard = none) (d s : Operand) (dT sT : TypeId)
    (ho : o.op = .call { callee := .builtin .copy, args := #[d, s], argTypes := #[dT, sT] }) (elem : TypeId) (size : Nat) (hu : P.underlying dT = some (.slice elem)) (hsz : (P.info? elem).map (·.size) = some size)
    (g off dLen dCap : Nat) (ad : Addr) (sLen sCap : Nat) (hd : a.eval d = .slice (some ⟨g, off, none⟩) dLen dCap) (hs : a.eval s = .slice (some ad) sLen sCap)
    (cur : List Value) (t : TypeId) (hg : w.heap[g]? = some (.cells cur.toArray t (0, 0))) (cs : List Value) (hn : cs.length = Nat.min sLen dLen * size)
    (hsrc : ∀ j v, cs[j]? = some v → w.cell? (ad.add j) = some v) (hfit : off + cs.length ≤ cur.length) (h1 : ∀ v ∈ cs, v.oneCell' = true)
    (h : ∀ w', Hid (w'.heap[g]? = some (.cells (splice cur off cs).toArray t (0, 0))) → Hid (w.grownBy w' (some g)) → wpList P ops Q rest (a.put o.dst (goInt (Nat.min sLen dLen))) w') : wpList P ops Q (o :: rest) a w := by
  refine wpList_plain hgd fun K hK => ?_
  have hrun := run_copy_rowN (P := P) w dT sT o.type elem size g off dLen dCap ad sLen sCap cur.toArray t cs hu hsz hg hn hsrc (by simpa using hfit) h1
  unfold Oper.wp
  simp [execOp, ho, resolve, invoke, builtin, hd, hs, hrun, Result.andThen]
  refine hK _ _ (h _ (show _ = _ by simpa [splice] using setRow_heap w g _ _ t _ hg) (grown_setRow _ _ _))
theorem step_copy_rowN {P : Program} {ops : Array Oper} {o : Oper} {a : Act} {w : World} {K : Act → World → Prop} {Q : Exit → Act → World → Prop} {E : Prop} (hgd : o.guard = none) (d s : Operand) (dT sT : TypeId)
    (ho : o.op = .call { callee := .builtin .copy, args := #[d, s], argTypes := #[dT, sT] }) (elem : TypeId) (size : Nat) (hu : P.underlying dT = some (.slice elem)) (hsz : (P.info? elem).map (·.size) = some size)
    (g off dLen dCap : Nat) (ad : Addr) (sLen sCap : Nat) (hd : a.eval d = .slice (some ⟨g, off, none⟩) dLen dCap) (hs : a.eval s = .slice (some ad) sLen sCap)
    (cur : List Value) (t : TypeId) (hg : w.heap[g]? = some (.cells cur.toArray t (0, 0))) (cs : List Value) (hn : cs.length = Nat.min sLen dLen * size)
    (hsrc : ∀ j v, cs[j]? = some v → w.cell? (ad.add j) = some v) (hfit : off + cs.length ≤ cur.length) (h1 : ∀ v ∈ cs, v.oneCell' = true)
    (h : ∀ w', Hid (w'.heap[g]? = some (.cells (splice cur off cs).toArray t (0, 0))) → Hid (w.grownBy w' (some g)) → K (a.put o.dst (goInt (Nat.min sLen dLen))) w') :
    if Region.wanted o (yielded ops a.tmps) = true then Oper.wp P o a w K Q else E := by
  have hw : Region.wanted o (yielded ops a.tmps) = true := by simp [Region.wanted, hgd]
  rw [if_pos hw]
  have hrun := run_copy_rowN (P := P) w dT sT o.type elem size g off dLen dCap ad sLen sCap cur.toArray t cs hu hsz hg hn hsrc (by simpa using hfit) h1
  unfold Oper.wp
  simp [execOp, ho, resolve, invoke, builtin, hd, hs, hrun, Result.andThen]
  exact h _ (show _ = _ by simpa [splice] using setRow_heap w g _ _ t _ hg) (grown_setRow _ _ _)
theorem run_cutN {P : Program} (t e : TypeId) (size : Nat) (ht : P.underlying t = some (.slice e)) (hs : (P.info? e).map (·.size) = some size) (g o n c m : Nat) (l : Int) (hl : l = m) (hm : m ≤ n) (hne : m ≠ c) (kl : IntKind) (W : World) :
    (Instr.slice t (.slice (some ⟨g, o, none⟩) n c) (some (.int kl l)) none none).run P W = .ok (.slice (some ⟨g, o + m * size, none⟩) (n - m) (c - m)) W := by
  subst hl
  have hel : P.elem t = e := by simp [Program.elem, ht]
  have hu : P.underlying t = some (.slice (P.elem t)) := by rw [hel]; exact ht
  rw [run_slice_l W t _ n c hu kl m (by omega) (by omega), hel]
  cases hq : P.info? e with
  | none => simp [hq] at hs
  | some i =>
    have hi : i.size = size := by simpa [hq] using hs
    have hne' : ¬ (c = m) := by omega
    simp [sizeOf, typeInfo, hq, hi, sliced, Result.andThen, hne', Addr.add_lit]
theorem run_cutN_any {P : Program} (t e : TypeId) (size : Nat) (ht : P.underlying t = some (.slice e)) (hs : (P.info? e).map (·.size) = some size) (A : Option Addr) (n c m : Nat) (hm : m ≤ n) (kl : IntKind) : ∃ X, ∀ W : World,
    (Instr.slice t (.slice A n c) (some (.int kl m)) none none).run P W = .ok X W := by
  have hel : P.elem t = e := by simp [Program.elem, ht]
  have hu : P.underlying t = some (.slice (P.elem t)) := by rw [hel]; exact ht
  cases hq : P.info? e with
  | none => simp [hq] at hs
  | some i =>
    refine ⟨sliced A m n c i.size, fun W => ?_⟩
    rw [run_slice_l W t A n c hu kl m (by omega) (by omega), hel]
    simp [sizeOf, typeInfo, hq, Result.andThen]
theorem run_headN {P : Program} (t e : TypeId) (size : Nat) (ht : P.underlying t = some (.slice e)) (hs : (P.info? e).map (·.size) = some size) (A : Option Addr) (n c m : Nat) (h : Int) (hh : h = m) (hm : m ≤ c) (kl : IntKind) (W : World) :
    (Instr.slice t (.slice A n c) none (some (.int kl h)) none).run P W = .ok (.slice A m c) W := by
  subst hh
  have hel : P.elem t = e := by simp [Program.elem, ht]
  have hu : P.underlying t = some (.slice (P.elem t)) := by rw [hel]; exact ht
  rw [run_slice_h W t A n c hu kl m (by omega) (by omega), hel]
  cases hq : P.info? e with
  | none => simp [hq] at hs
  | some i =>
    have ha : (A.map fun x => x.add 0) = A := by cases A <;> simp [Addr.add]
    simp [sizeOf, typeInfo, hq, sliced, Result.andThen, ha]
end Go.Proofs.Ytjhpcfpccnfniaa.A
namespace Go.Proofs.Ytjhpcfpccnfniaa.A
open Go Go.RowKit Go.Lib Go.Proofs.YtjhpcfpccnfniaaW.PrintWords Go.Proofs.YtjhpcfpccnfniaaW.PrintLast Go.Proofs.YtjhpcfpccnfniaaW.PrintMore
attribute [local go_sem] max2_int min2_int max_two min_two max_three min_three max_four min_four
set_option linter.unusedVariables false
set_option linter.unusedSimpArgs false
theorem size37 : (Try.prog.info? 37).map (·.size) = some 3 := by kernel_rfl
def insAt {α : Type} (xs : List α) (i : Nat) (c : List α) : List α := xs.take i ++ (c ++ xs.drop i)
set_option maxHeartbeats 4000000 in
set_option maxRecDepth 100000 in
theorem insert_end (base n vb : Nat) (v : Value) (xs x : List Value) (w : World) (hx : x.length = 3) (h1 : ∀ u ∈ x, u.oneCell' = true)
    (hv : w.heap[vb]? = some (.cells x.toArray 37 (0, 0))) (hown : w.ownsRow base 37 3 v n xs) (hn : n ≤ 1000000) (hb : base ≤ w.heap.size) :
    Calls Try.prog 38 #[v, .int .i64 n, .slice (some ⟨vb, 0, none⟩) 1 1] w fun e w' => ∃ v', e = .returned v' ∧ w'.ownsRow base 37 3 v' (n + 1) (insAt xs (3 * n) x) ∧ w.grownBy w' v.ownBlock := by
  have hins : insAt xs (3 * n) x = xs ++ x := by
    have : xs.length = 3 * n := by rw [hown.1]; omega
    unfold insAt
    rw [← this, List.take_length, List.drop_length, List.append_nil]
  rw [hins]
  clear hins
  obtain ⟨A, c, rfl⟩ := own_slice hown
  obtain ⟨X, hX⟩ := run_cutN_any (P := Try.prog) 22 37 3 Try.underlying22 size37 A n c n (Nat.le_refl n) .i64
  obtain ⟨i0, hi, hz, hzs, hzb⟩ := info_parts info37
  have hcells : ∀ j u, x[j]? = some u → w.cell? ((⟨vb, 0, none⟩ : Addr).add j) = some u := fun j u hu => by
    rw [Addr.add_lit, Nat.zero_add, cell_of_row w vb j _ 37 (0, 0) hv]
    simpa using hu
  have HO := Aside0.mk hown
  have HV := Aside0.mk hv
  have HC := Aside0.mk hcells
  clear hown hv hcells
  go_enter Try.func38, Try.ntmps38
  go_wp2_with (at_builtin; refine wpList_append_own _ rfl _ _ 22 rfl base 37 i0 _ 3 32 Try.underlying22 hi hz hzs hzb rfl (by decide) _ n xs rfl HO.out ⟨vb, 0, none⟩ 1 1 x rfl (by rw [hx]) HC.out h1 (by unfold maxLen; omega) (by omega) hb ?_; intro v' w1 hown1 hg1 _)
  go_ret
  exact ⟨_, rfl, hown1, hg1⟩
theorem grown_trans {w w1 w2 : World} {r : Option Nat} (h : w.grownBy w1 r) (h2 : w1.grownBy w2 r) : w.grownBy w2 r :=
  ⟨h2.os.trans h.os, h2.tape.trans h.tape, h2.output.trans h.output, Nat.le_trans h.size h2.size, fun k hk hne => (h2.block k (Nat.lt_of_lt_of_le hk h.size) hne).trans (h.block k hk hne)⟩
theorem cells_of_row {w : World} {g : Nat} {cur : List Value} {t : TypeId} (h : w.heap[g]? = some (.cells cur.toArray t (0, 0))) (o : Nat) : ∀ j u, (cur.drop o)[j]? = some u → w.cell? ((⟨g, o, none⟩ : Addr).add j) = some u := fun j u hu => by
  rw [Addr.add_lit, cell_of_row w g (o + j) _ t (0, 0) h]
  simpa using hu
theorem splice_room {α : Type} (cur x : List α) (i n : Nat) (hx : x.length = 3) (hi : i < n) (hc : (n + 1) * 3 ≤ cur.length) :
    (splice (splice cur ((i + 1) * 3) ((cur.take (n * 3)).drop (i * 3))) (i * 3) x).take ((n + 1) * 3) = insAt (cur.take (n * 3)) (3 * i) x := by
  have hM : ((cur.take (n * 3)).drop (i * 3)).length = n * 3 - i * 3 := by rw [List.length_drop, List.length_take]; omega
  have h3 : 3 * i = i * 3 := by omega
  unfold insAt
  rw [h3]
  have e0 : (cur.take (n * 3)).take (i * 3) = cur.take (i * 3) := by rw [List.take_take]; congr 1; omega
  rw [e0]
  generalize (cur.take (n * 3)).drop (i * 3) = M at hM
  unfold splice
  have e1 : (cur.take ((i + 1) * 3)).length = (i + 1) * 3 := by rw [List.length_take]; omega
  have e2 : (cur.take ((i + 1) * 3) ++ (M ++ cur.drop ((i + 1) * 3 + M.length))).take (i * 3) = cur.take (i * 3) := by
    rw [List.take_append_of_le_length (by omega), List.take_take]; congr 1; omega
  have e3 : (cur.take ((i + 1) * 3) ++ (M ++ cur.drop ((i + 1) * 3 + M.length))).drop (i * 3 + x.length) = M ++ cur.drop ((i + 1) * 3 + M.length) := by
    rw [hx, show i * 3 + 3 = (cur.take ((i + 1) * 3)).length by rw [e1]; omega, List.drop_left]
  rw [e2, e3]
  have e4 : (cur.take (i * 3)).length = i * 3 := by rw [List.length_take]; omega
  rw [← List.append_assoc x, ← List.append_assoc, List.take_append_of_le_length (by simp; omega)]
  exact List.take_of_length_le (by simp; omega)
theorem length_spliceN {α : Type} (L : List α) (o : Nat) (c : List α) (h : o + c.length ≤ L.length) : (splice L o c).length = L.length := length_splice L o c h
set_option maxHeartbeats 4000000 in
set_option maxRecDepth 100000 in
theorem insert_room (g n c i vb : Nat) (cur x : List Value) (w : World) (hx : x.length = 3) (h1 : ∀ u ∈ x, u.oneCell' = true)
    (hv : w.heap[vb]? = some (.cells x.toArray 37 (0, 0))) (hg : w.heap[g]? = some (.cells cur.toArray 37 (0, 0))) (h1c : ∀ u ∈ cur.take (n * 3), u.oneCell' = true) (hcur : cur.length = c * 3) (hi : i < n) (hr : n + 1 ≤ c) (hc : c ≤ 9223372036854775807) (hne : vb ≠ g) :
    Calls Try.prog 38 #[.slice (some ⟨g, 0, none⟩) n c, .int .i64 i, .slice (some ⟨vb, 0, none⟩) 1 1] w fun e w' => e = .returned (.slice (some ⟨g, 0, none⟩) (n + 1) c) ∧ (∃ cur' : List Value, cur'.length = c * 3 ∧ cur'.take ((n + 1) * 3) = insAt (cur.take (n * 3)) (3 * i) x ∧ w'.heap[g]? = some (.cells cur'.toArray 37 (0, 0))) ∧ w.grownBy w' (some g) := by
  have hX := run_cutN (P := Try.prog) 22 37 3 Try.underlying22 size37 g 0 n c i (i : Int) rfl (by omega) (by omega) .i64
  have hX1 := run_cutN (P := Try.prog) 22 37 3 Try.underlying22 size37 g 0 (n + 1) c (i + 1) ((i : Int) + 1) (by omega) (by omega) (by omega) .i64
  have hX2 := run_cutN (P := Try.prog) 22 37 3 Try.underlying22 size37 g 0 (n + 1) c i (i : Int) rfl (by omega) (by omega) .i64
  have hH := run_headN (P := Try.prog) 22 37 3 Try.underlying22 size37 (some ⟨g, 0, none⟩) n c (n + 1) ((n : Int) + 1) (by omega) (by omega) .i64
  simp only [Nat.zero_add] at hX hX1 hX2
  have hz2 : ((i : Int) == (n : Int)) = false := beq_eq_false_iff_ne.2 (by omega)
  have hz3 : decide ((c : Int) < (n : Int) + 1) = false := by simp; omega
  have hw1 : IntKind.i64.wrap ((i : Int) + 1) = (i : Int) + 1 := by rw [IntKind.wrap_i64]; omega
  have hw2 : IntKind.i64.wrap ((n : Int) + 1) = (n : Int) + 1 := by rw [IntKind.wrap_i64]; omega
  have hov : ∀ lb cb, (callFunc 55 #[.slice (some ⟨vb, 0, none⟩) 1 1, .slice (some ⟨g, (i + 1) * 3, none⟩) lb cb]).run Try.prog w = .ok (.value (.bool false)) w := fun lb cb => by
    rw [run_callFunc_extern Try.func55 (by kernel_rfl) (by kernel_rfl) (by kernel_rfl) (e := Extern.SlicesOverlaps.overlaps #[22, 22] #[4]) (by kernel_rfl),
      Lib.run_overlaps_apart w 22 4 37 Try.underlying22 3 (fun w => by kernel_rfl) ⟨vb, 0, none⟩ ⟨g, (i + 1) * 3, none⟩ 1 1 lb cb hne 37 37 3 (c * 3)
        (by unfold World.shape?; rw [hv]; simp [hx]) (by unfold World.shape?; rw [hg]; simp [hcur]) (by omega) (by unfold World.frozen?; rw [hv]; rfl) (by unfold World.frozen?; rw [hv]; rfl)]
    rfl
  have hcells : ∀ j u, x[j]? = some u → w.cell? ((⟨vb, 0, none⟩ : Addr).add j) = some u := cells_of_row hv 0
  have hsrc : ∀ j u, ((cur.take (n * 3)).drop (i * 3))[j]? = some u → w.cell? ((⟨g, i * 3, none⟩ : Addr).add j) = some u := fun j u hu => cells_of_row hg (i * 3) j u (by
    rw [List.getElem?_drop] at hu ⊢
    rw [List.getElem?_take] at hu
    split at hu
    · exact hu
    · cases hu)
  have hM : ((cur.take (n * 3)).drop (i * 3)).length = n * 3 - i * 3 := by rw [List.length_drop, List.length_take]; omega
  have h1M : ∀ u ∈ (cur.take (n * 3)).drop (i * 3), u.oneCell' = true := fun u hu => h1c u (List.mem_of_mem_drop hu)
  have hlen1 := length_spliceN cur ((i + 1) * 3) ((cur.take (n * 3)).drop (i * 3)) (by omega)
  have hfin := splice_room cur x i n hx hi (by omega)
  have hlen2 := length_spliceN (splice cur ((i + 1) * 3) ((cur.take (n * 3)).drop (i * 3))) (i * 3) x (by omega)
  obtain ⟨M, hMq⟩ : ∃ M, (cur.take (n * 3)).drop (i * 3) = M := ⟨_, rfl⟩
  rw [hMq] at hsrc hM h1M hlen1 hfin hlen2
  replace hMq := Aside0.mk hMq
  obtain ⟨S1, hS1⟩ : ∃ S1, splice cur ((i + 1) * 3) M = S1 := ⟨_, rfl⟩
  have mn1 : Nat.min (n + 1 - i) (n - i) = n - i := by simp only [Nat.min_def]; split <;> omega
  have mn2 : Nat.min 1 (n + 1 - i) = 1 := by simp only [Nat.min_def]; split <;> omega
  have HF := Aside0.mk hfin
  have HL := Aside0.mk hlen2
  have HV := Aside0.mk hv
  have HC := Aside0.mk hcells
  have HG := Aside0.mk hg
  have HS := Aside0.mk hsrc
  clear hfin hlen2 hcells hsrc hv hg
  have LM : M.length ≤ n * 3 - i * 3 := by omega
  have LM2 : n * 3 - i * 3 ≤ M.length := by omega
  have L1 : splice cur ((i + 1) * 3) M = S1 → S1.length = c * 3 := fun h => by rw [← h, hlen1, hcur]
  have LC := Aside0.mk hcur
  clear hM hlen1 hcur
  have HS1 := Aside0.mk hS1
  clear hS1
  go_enter Try.func38, Try.ntmps38
  go_wp2_with (simp only [hov])
  go_region_law (refine step_copy_rowN rfl _ _ 22 22 rfl 37 3 Try.underlying22 size37 g ((i + 1) * 3) (n - i) (c - (i + 1)) ⟨g, i * 3, none⟩ (n + 1 - i) (c - i) (by simp [Act.eval, Act.put]) (by simp [Act.eval, Act.put]) cur 37 HG.out M (by rw [mn1, Nat.sub_mul]; omega) HS.out (by rw [LC.out]; omega) h1M ?_; intro w1 hg1 hgr1)
  have hvx : w1.heap[vb]? = some (.cells x.toArray 37 (0, 0)) := (hgr1.out.block vb (Array.getElem?_eq_some_iff.1 HV.out).1 (by simpa using hne)).trans HV.out
  have hcx : Aside0 (∀ j u, x[j]? = some u → w1.cell? ((⟨vb, 0, none⟩ : Addr).add j) = some u) := ⟨cells_of_row hvx 0⟩
  clear hvx
  have hgS : Aside0 (w1.heap[g]? = some (.cells S1.toArray 37 (0, 0))) := ⟨by rw [← HS1.out]; exact hg1.out⟩
  have hlS := L1 HS1.out
  have hfit : i * 3 + x.length ≤ S1.length := by omega
  have HL2 : Aside0 ((splice S1 (i * 3) x).length = c * 3) := ⟨by have := HL.out; rw [HS1.out, hlS] at this; exact this⟩
  clear L1 hlS hg1
  have hn2 : x.length = Nat.min 1 (n + 1 - i) * 3 := by rw [mn2, hx]
  go_wp2_with ((with_reducible refine gate_dst (N := 82) rfl ?_); refine wpList_copy_rowN rfl _ _ 22 22 rfl 37 3 Try.underlying22 size37 g (i * 3) (n + 1 - i) (c - i) ⟨vb, 0, none⟩ 1 1 rfl rfl S1 37 hgS.out x hn2 hcx.out hfit h1 ?_; intro w2 hg2 hgr2)
  go_ret
  refine ⟨rfl, ⟨_, HL2.out, by rw [← HF.out, HS1.out], hg2.out⟩, ?_⟩
  exact grown_trans (w := w) (w1 := w1) ⟨hgr1.out.os, hgr1.out.tape, hgr1.out.output, hgr1.out.size, hgr1.out.block⟩ hgr2.out
theorem splice_grow {α : Type} (cur x Z : List α) (i n : Nat) (hx : x.length = 3) (hi : i < n) (hc : n * 3 ≤ cur.length) (hZ : (n + 1 - i) * 3 ≤ Z.length) :
    (splice (splice (cur.take (i * 3) ++ Z) (i * 3) x) ((i + 1) * 3) ((cur.take (n * 3)).drop (i * 3))).take ((n + 1) * 3) = insAt (cur.take (n * 3)) (3 * i) x := by
  have hM : ((cur.take (n * 3)).drop (i * 3)).length = n * 3 - i * 3 := by rw [List.length_drop, List.length_take]; omega
  have h3 : 3 * i = i * 3 := by omega
  unfold insAt
  rw [h3]
  have e0 : (cur.take (n * 3)).take (i * 3) = cur.take (i * 3) := by rw [List.take_take]; congr 1; omega
  rw [e0]
  generalize (cur.take (n * 3)).drop (i * 3) = M at hM
  have e1 : (cur.take (i * 3)).length = i * 3 := by rw [List.length_take]; omega
  generalize cur.take (i * 3) = H at e1
  have s1 : splice (H ++ Z) (i * 3) x = H ++ (x ++ Z.drop 3) := by
    unfold splice
    rw [← e1, List.take_left, List.drop_append, hx, List.drop_eq_nil_of_le (by omega : H.length ≤ H.length + 3), Nat.add_sub_cancel_left, List.nil_append]
  have s2 : splice (H ++ (x ++ Z.drop 3)) ((i + 1) * 3) M = H ++ (x ++ (M ++ Z.drop (3 + M.length))) := by
    unfold splice
    have e : (i + 1) * 3 = (H ++ x).length := by rw [List.length_append]; omega
    rw [show H ++ (x ++ Z.drop 3) = (H ++ x) ++ Z.drop 3 from (List.append_assoc ..).symm, e, List.take_left, List.drop_append, List.drop_eq_nil_of_le (by omega : (H ++ x).length ≤ (H ++ x).length + M.length), Nat.add_sub_cancel_left, List.drop_drop, List.nil_append, List.append_assoc]
  rw [s1, s2, ← List.append_assoc x, ← List.append_assoc, List.take_append_of_le_length (by simp; omega)]
  exact List.take_of_length_le (by simp; omega)
set_option maxHeartbeats 4000000 in
set_option maxRecDepth 100000 in
theorem insert_grow (g n c i vb : Nat) (cur x : List Value) (w : World) (hx : x.length = 3) (h1 : ∀ u ∈ x, u.oneCell' = true)
    (hv : w.heap[vb]? = some (.cells x.toArray 37 (0, 0))) (hg : w.heap[g]? = some (.cells cur.toArray 37 (0, 0))) (h1c : ∀ u ∈ cur.take (n * 3), u.oneCell' = true) (hcur : cur.length = c * 3) (hi : i < n) (hnc : n ≤ c) (hr : c < n + 1) (hn : n ≤ 1000000) :
    Calls Try.prog 38 #[.slice (some ⟨g, 0, none⟩) n c, .int .i64 i, .slice (some ⟨vb, 0, none⟩) 1 1] w fun e w' => ∃ G, e = .returned (.slice (some ⟨w.heap.size, 0, none⟩) (n + 1) G) ∧ n + 1 ≤ G ∧ G ≤ 9223372036854775807 ∧ (∃ cur' : List Value, cur'.length = G * 3 ∧ cur'.take ((n + 1) * 3) = insAt (cur.take (n * 3)) (3 * i) x ∧ w'.heap[w.heap.size]? = some (.cells cur'.toArray 37 (0, 0))) ∧ Below w.heap.size w w' := by
  have hX := run_cutN (P := Try.prog) 22 37 3 Try.underlying22 size37 g 0 n c i (i : Int) rfl (by omega) (by omega) .i64
  have hH := run_headN (P := Try.prog) 22 37 3 Try.underlying22 size37 (some ⟨g, 0, none⟩) n c i (i : Int) (by omega) (by omega) .i64
  simp only [Nat.zero_add] at hX
  have hz2 : ((i : Int) == (n : Int)) = false := beq_eq_false_iff_ne.2 (by omega)
  have hz3 : decide ((c : Int) < (n : Int) + 1) = true := by simp; omega
  have hw1 : IntKind.i64.wrap ((i : Int) + 1) = (i : Int) + 1 := by rw [IntKind.wrap_i64]; omega
  have hw2 : IntKind.i64.wrap ((n : Int) + 1) = (n : Int) + 1 := by rw [IntKind.wrap_i64]; omega
  have hw3 : IntKind.i64.wrap ((n : Int) + 1 - (i : Int)) = (n : Int) + 1 - (i : Int) := by rw [IntKind.wrap_i64]; omega
  obtain ⟨i0, hi0, hz0, hzs, hzb⟩ := info_parts info37
  have hold : (Builtin.firstCells i0.size i (.slice (some ⟨g, 0, none⟩) i c)).run Try.prog w.drew = .ok (cur.take (i * 3)).toArray w.drew := by
    rw [hzs]
    exact run_firstCells_some w.drew 3 i ⟨g, 0, none⟩ i c (cur.take (i * 3)) (by rw [List.length_take]; omega) (fun j v hj => cells_of_row (w := w.drew) (cur := cur) (t := 37) hg 0 j v (by
      rw [List.getElem?_take] at hj
      split at hj
      · exact hj
      · cases hj))
  have hkk : (n : Int) + 1 - (i : Int) = ((n + 1 - i : Nat) : Int) := by omega
  have hik : i + (n + 1 - i) = n + 1 := by omega
  have hrz := fun ty => Lib.run_append_grow_zeros (P := Try.prog) w 22 3 ty 37 i0 _ .i64 .i64 Try.underlying22 Try.underlying3 hi0 hz0 (some ⟨g, 0, none⟩) i c (cur.take (i * 3)) hold (n + 1 - i) (by omega) (by omega) (by omega) (by omega) (by rw [hzb]; omega) (by rw [hzb, hik]; exact growslice_fits (by omega) (by omega))
  rw [hik, ← hkk] at hrz
  obtain ⟨G, hG⟩ : ∃ G, grownCap w (n + 1) c 37 = G := ⟨_, rfl⟩
  have hGn : n + 1 ≤ G := by rw [← hG]; exact grownCap_ge w _ _ _
  have hG63 : G ≤ 9223372036854775807 := by
    have := grownCap_le_maxLen w (n + 1) c 37 (by unfold maxLen; omega)
    rw [hG] at this
    unfold maxLen at this
    omega
  obtain ⟨Z, hZ⟩ : ∃ Z : List Value, (Builtin.zeroCells (Value.agg #[.int .i64 0, .int .i64 0, .string ⟨#[]⟩]).cells (n + 1 - i) ++ Builtin.zeroCells (Value.agg #[.int .i64 0, .int .i64 0, .string ⟨#[]⟩]).cells (G - (n + 1))).toList = Z := ⟨_, rfl⟩
  have hZl : Z.length = (n + 1 - i) * 3 + (G - (n + 1)) * 3 := by
    rw [← hZ, Array.length_toList, Array.size_append, size_zeroCells, size_zeroCells]
    rfl
  have hrow : (cur.take (i * 3)).toArray ++ Builtin.zeroCells (Value.agg #[.int .i64 0, .int .i64 0, .string ⟨#[]⟩]).cells (n + 1 - i) ++ Builtin.zeroCells (Value.agg #[.int .i64 0, .int .i64 0, .string ⟨#[]⟩]).cells (G - (n + 1)) = (cur.take (i * 3) ++ Z).toArray := by
    rw [← hZ]; apply Array.ext'; simp
  rw [hG] at hrz
  rw [hrow] at hrz
  clear hrow hold hkk hik hG hZ
  have hrowl : (cur.take (i * 3) ++ Z).length = G * 3 := by rw [List.length_append, List.length_take, hZl]; omega
  have hfin := splice_grow cur x Z i n hx hi (by omega) (by omega)
  obtain ⟨ROW, hROW⟩ : ∃ ROW, cur.take (i * 3) ++ Z = ROW := ⟨_, rfl⟩
  rw [hROW] at hrz hrowl hfin
  clear hROW hZl
  have hX1 := run_cutN (P := Try.prog) 22 37 3 Try.underlying22 size37 w.heap.size 0 (n + 1) G i (i : Int) rfl (by omega) (by omega) .i64
  have hX2 := run_cutN (P := Try.prog) 22 37 3 Try.underlying22 size37 w.heap.size 0 (n + 1) G (i + 1) ((i : Int) + 1) (by omega) (by omega) (by omega) .i64
  simp only [Nat.zero_add] at hX1 hX2
  have hM : ((cur.take (n * 3)).drop (i * 3)).length = n * 3 - i * 3 := by rw [List.length_drop, List.length_take]; omega
  have h1M : ∀ u ∈ (cur.take (n * 3)).drop (i * 3), u.oneCell' = true := fun u hu => h1c u (List.mem_of_mem_drop hu)
  have hlen1 := length_spliceN ROW (i * 3) x (by omega)
  have hlen2 := length_spliceN (splice ROW (i * 3) x) ((i + 1) * 3) ((cur.take (n * 3)).drop (i * 3)) (by omega)
  have hgl : g < w.heap.size := (Array.getElem?_eq_some_iff.1 hg).1
  have hvl : vb < w.heap.size := (Array.getElem?_eq_some_iff.1 hv).1
  obtain ⟨M, hMq⟩ : ∃ M, (cur.take (n * 3)).drop (i * 3) = M := ⟨_, rfl⟩
  have hsrc : ∀ j u, M[j]? = some u → (cur.drop (i * 3))[j]? = some u := fun j u hu => by
    rw [← hMq, List.getElem?_drop, List.getElem?_take] at hu
    rw [List.getElem?_drop]
    split at hu
    · exact hu
    · cases hu
  rw [hMq] at hM h1M hlen2 hfin
  clear hMq
  obtain ⟨S1, hS1⟩ : ∃ S1, splice ROW (i * 3) x = S1 := ⟨_, rfl⟩
  rw [hS1] at hlen1 hlen2 hfin
  have mn1 : Nat.min (n - i) (n - i) = n - i := by simp only [Nat.min_def]; split <;> omega
  have mn2 : Nat.min 1 (n + 1 - i) = 1 := by simp only [Nat.min_def]; split <;> omega
  have hn1 : M.length = Nat.min (n - i) (n - i) * 3 := by rw [mn1, hM, Nat.sub_mul]
  have hn2 : x.length = Nat.min 1 (n + 1 - i) * 3 := by rw [mn2, hx]
  have hf1 : i * 3 + x.length ≤ ROW.length := by omega
  have hf2 : (i + 1) * 3 + M.length ≤ S1.length := by omega
  have hL2 : (splice S1 ((i + 1) * 3) M).length = G * 3 := by omega
  clear mn1 mn2 hM hlen1 hlen2 hrowl
  replace hfin := Aside0.mk hfin
  replace hL2 := Aside0.mk hL2
  replace hS1 := Aside0.mk hS1
  replace hsrc := Aside0.mk hsrc
  replace hn1 := Aside0.mk hn1
  replace hn2 := Aside0.mk hn2
  replace hx := Aside0.mk hx
  replace hcur := Aside0.mk hcur
  obtain ⟨W1, hW1⟩ : ∃ W1, w.drew.alloc (.cells ROW.toArray 37) = W1 := ⟨_, rfl⟩
  have hN1 : W1.heap[w.heap.size]? = some (.cells ROW.toArray 37 (0, 0)) := by rw [← hW1]; exact heap_alloc_new w.drew _
  have hB1 : Below w.heap.size w W1 := by rw [← hW1]; exact below_alloc (below_drew (Below.refl _ _)) _
  rw [hW1] at hrz
  clear hW1
  have hcx : Aside0 (∀ j u, x[j]? = some u → W1.cell? ((⟨vb, 0, none⟩ : Addr).add j) = some u) := ⟨cells_of_row ((hB1.block vb hvl).trans hv) 0⟩
  have hg1 := (hB1.block g hgl).trans hg
  replace hg1 := Aside0.mk hg1
  replace hrz := Aside0.mk hrz
  replace hN1 := Aside0.mk hN1
  replace hB1 := Aside0.mk hB1
  have hgN : some g ≠ some w.heap.size := by intro e; injection e with e; omega
  replace hgN := Aside0.mk hgN
  clear hg hv
  go_enter Try.func38, Try.ntmps38
  go_wp2_with (first
    | (at_builtin; refine Lib.wpList_append_run _ rfl _ _ _ _ rfl _ _ rfl rfl _ _ (hrz.out _) ?_)
    | ((with_reducible refine gate_dst (N := 45) rfl ?_); refine wpList_copy_rowN rfl _ _ 22 22 rfl 37 3 Try.underlying22 size37 w.heap.size (i * 3) (n + 1 - i) (G - i) ⟨vb, 0, none⟩ 1 1 rfl rfl ROW 37 hN1.out x hn2.out hcx.out hf1 h1 ?_; intro w2 hg2 hgr2))
  have hgS : Aside0 (w2.heap[w.heap.size]? = some (.cells S1.toArray 37 (0, 0))) := ⟨by rw [← hS1.out]; exact hg2.out⟩
  have hcs : Aside0 (∀ j u, M[j]? = some u → w2.cell? ((⟨g, i * 3, none⟩ : Addr).add j) = some u) := ⟨fun j u hu => cells_of_row ((hgr2.out.block g (Nat.lt_of_lt_of_le hgl hB1.out.size) hgN.out).trans hg1.out) (i * 3) j u (hsrc.out j u hu)⟩
  clear hg2
  go_region_law (refine step_copy_rowN rfl _ _ 22 22 rfl 37 3 Try.underlying22 size37 w.heap.size ((i + 1) * 3) (n - i) (G - (i + 1)) ⟨g, i * 3, none⟩ (n - i) (c - i) (by simp [Act.eval, Act.put]) (by simp [Act.eval, Act.put]) S1 37 hgS.out M hn1.out hcs.out hf2 h1M ?_; intro w3 hg3 hgr3)
  go_wp2
  go_ret
  refine ⟨G, rfl, hGn, hG63, ⟨_, hL2.out, hfin.out, hg3.out⟩, ?_⟩
  have hb2 : Below w.heap.size w w2 := hB1.out.grown hgr2.out hB1.out.size (fun k hk => by injection hk with hk; omega)
  exact hb2.grown (w' := w3) ⟨hgr3.out.os, hgr3.out.tape, hgr3.out.output, hgr3.out.size, hgr3.out.block⟩ hb2.size (fun k hk => by injection hk with hk; omega)
theorem insert_calls (base n i vb : Nat) (v : Value) (xs x : List Value) (w : World) (hx : x.length = 3) (h1 : ∀ u ∈ x, u.oneCell' = true) (h1x : ∀ u ∈ xs, u.oneCell' = true)
    (hv : w.heap[vb]? = some (.cells x.toArray 37 (0, 0))) (hown : w.ownsRow base 37 3 v n xs) (hne : v.ownBlock ≠ some vb) (hi : i ≤ n) (hn : n ≤ 1000000) (hb : base ≤ w.heap.size) :
    Calls Try.prog 38 #[v, .int .i64 i, .slice (some ⟨vb, 0, none⟩) 1 1] w fun e w' => ∃ v', e = .returned v' ∧ w'.ownsRow base 37 3 v' (n + 1) (insAt xs (3 * i) x) ∧ w.grownBy w' v.ownBlock := by
  by_cases h : i = n
  · subst h
    exact insert_end base i vb v xs x w hx h1 hv hown hn hb
  · obtain ⟨hl, h2⟩ := hown
    have hlen : (insAt xs (3 * i) x).length = (n + 1) * 3 := by
      unfold insAt
      rw [List.length_append, List.length_append, List.length_take, List.length_drop]
      omega
    rcases h2 with ⟨_, hn0⟩ | ⟨g, cap, cur, rfl, hbg, hg, hnc, hcm, hcs, ht⟩
    · omega
    · have hg' : w.heap[g]? = some (.cells cur.toList.toArray 37 (0, 0)) := by simpa using hg
      have hcl : cur.toList.length = cap * 3 := by simpa using hcs
      have h1c : ∀ u ∈ cur.toList.take (n * 3), u.oneCell' = true := by rw [ht]; exact h1x
      by_cases hr : n + 1 ≤ cap
      · refine (insert_room g n cap i vb cur.toList x w hx h1 hv hg' h1c hcl (by omega) hr (by simpa [maxLen] using hcm) (fun e => hne (by rw [e]; rfl))).mono ?_
        rintro e w' ⟨rfl, ⟨cur', hc1, hc2, hc3⟩, hgr⟩
        rw [ht] at hc2
        exact ⟨_, rfl, ⟨hlen, .inr ⟨g, cap, cur'.toArray, rfl, hbg, hc3, hr, hcm, by simpa using hc1, hc2⟩⟩, hgr⟩
      · refine (insert_grow g n cap i vb cur.toList x w hx h1 hv hg' h1c hcl (by omega) hnc (by omega) hn).mono ?_
        rintro e w' ⟨G, rfl, hG1, hG2, ⟨cur', hc1, hc2, hc3⟩, hB⟩
        rw [ht] at hc2
        exact ⟨_, rfl, ⟨hlen, .inr ⟨w.heap.size, G, cur'.toArray, rfl, hb, hc3, hG1, by simpa [maxLen] using hG2, by simpa using hc1, hc2⟩⟩, grown_of_below hB _⟩
#print axioms insert_calls
end Go.Proofs.Ytjhpcfpccnfniaa.A
namespace Go.Proofs.Ytjhpcfpccnfniaa.A
open Go Go.RowKit Go.Proofs.YtjhpcfpccnfniaaW.PrintWords Go.Proofs.YtjhpcfpccnfniaaW.PrintLast Go.Proofs.YtjhpcfpccnfniaaW.PrintMore
attribute [local go_sem] max2_int min2_int max_two min_two max_three min_three max_four min_four
set_option linter.unusedVariables false
set_option linter.unusedSimpArgs false
theorem compare_lt (a b : Int) (w : World) (h : a < b) : Calls Try.prog 54 #[.int .i64 a, .int .i64 b] w fun e w' => e = .returned (.int .i64 (-1)) ∧ w = w' := by
  have h1 : (a != a) = false := bne_self_eq_false a
  have h2 : (b != b) = false := bne_self_eq_false b
  have h3 : decide (a < b) = true := decide_eq_true h
  go_enter Try.func54, Try.ntmps54
  go_wp2
  go_ret
  exact ⟨rfl, rfl⟩
theorem compare_gt (a b : Int) (w : World) (h : b < a) : Calls Try.prog 54 #[.int .i64 a, .int .i64 b] w fun e w' => e = .returned (.int .i64 1) ∧ w = w' := by
  have h1 : (a != a) = false := bne_self_eq_false a
  have h2 : (b != b) = false := bne_self_eq_false b
  have h3 : decide (a < b) = false := decide_eq_false (by omega)
  have h4 : decide (b < a) = true := decide_eq_true h
  go_enter Try.func54, Try.ntmps54
  go_wp2
  go_ret
  exact ⟨rfl, rfl⟩
theorem compare_eq (a : Int) (w : World) : Calls Try.prog 54 #[.int .i64 a, .int .i64 a] w fun e w' => e = .returned (.int .i64 0) ∧ w = w' := by
  have h1 : (a != a) = false := bne_self_eq_false a
  have h3 : decide (a < a) = false := decide_eq_false (by omega)
  go_enter Try.func54, Try.ntmps54
  go_wp2
  go_ret
  exact ⟨rfl, rfl⟩
def cmpI (a b : Int) : Int := if a < b then -1 else if b < a then 1 else 0
theorem compare_calls (a b : Int) (w : World) : Calls Try.prog 54 #[.int .i64 a, .int .i64 b] w fun e w' => e = .returned (.int .i64 (cmpI a b)) ∧ w = w' := by
  unfold cmpI
  by_cases h : a < b
  · rw [if_pos h]; exact compare_lt a b w h
  · rw [if_neg h]
    by_cases h2 : b < a
    · rw [if_pos h2]; exact compare_gt a b w h2
    · rw [if_neg h2]
      obtain rfl : a = b := by omega
      exact compare_eq a w
theorem cmpI_neg (a b : Int) : decide (cmpI a b < 0) = decide (a < b) := by
  unfold cmpI
  by_cases h : a < b
  · rw [if_pos h]; simp [h]
  · rw [if_neg h]
    split <;> simp [h]
theorem cmpI_zero (a b : Int) : (cmpI a b == 0) = decide (a = b) := by
  unfold cmpI
  rcases Int.lt_trichotomy a b with h | h | h
  · rw [if_pos h]; simp; omega
  · subst h; simp
  · rw [if_neg (by omega), if_pos h]; simp; omega
theorem place1_calls (x : S37) (c : Int) (w : World) : Calls Try.prog 53 #[agg37 x, .int .i64 c] w fun e w' => e = .returned (.int .i64 (cmpI x.f0 c)) ∧ Below w.heap.size w w' := by
  have hc := fun W => compare_calls x.f0 c W
  unfold agg37
  go_enter Try.func53, Try.ntmps53
  go_wp2_with fail
  refine (hc _).mono ?_
  rintro e w' ⟨rfl, rfl⟩
  go_wp2_with fail
  go_ret
  exact ⟨rfl, below_alloc (Below.refl _ _) _⟩
set_option maxHeartbeats 4000000 in
theorem bsearch37 (A : Option Addr) (c : Nat) (l : List S37) (x : Int) (w : World) (hr : Kd.C k37 w A l.length l) (hlen : l.length ≤ 1000000)
    (hs : ∀ a b : Nat, a ≤ b → b < l.length → (rd_T37 l b).f0 < x → (rd_T37 l a).f0 < x) :
    Calls Try.prog 52 #[.slice A l.length c, .int .i64 x, .func (.func 53) #[] #[]] w fun e w' => ∃ i : Nat, e = .returned (.tuple #[.int .i64 i, .bool (decide (i < l.length) && decide ((rd_T37 l i).f0 = x))]) ∧
      i ≤ l.length ∧ (∀ k : Nat, k < i → (rd_T37 l k).f0 < x) ∧ (∀ k : Nat, i ≤ k → k < l.length → x ≤ (rd_T37 l k).f0) ∧ Below w.heap.size w w' := by
  have eg := fun args w => enters_ Try.func53 (by kernel_rfl) rfl args w
  have HR := Aside0.mk hr
  have HS := Aside0.mk hs
  clear hr hs
  go_enter Try.func52, Try.ntmps52
  go_wp2
  go_loopg [9, 10] l.length (fun gg s9 s10 wr => ∃ lo hi : Nat, s9 = .int .i64 lo ∧ s10 = .int .i64 hi ∧ lo ≤ hi ∧ hi ≤ l.length ∧ hi - lo ≤ gg ∧ Aside0 (Below w.heap.size w wr) ∧
    Aside0 ((∀ k : Nat, k < lo → (rd_T37 l k).f0 < x) ∧ (∀ k : Nat, hi ≤ k → k < l.length → x ≤ (rd_T37 l k).f0)))
  case atStart => exact ⟨0, l.length, rfl, rfl, Nat.zero_le _, Nat.le_refl _, by omega, ⟨Below.refl _ w⟩, ⟨⟨fun t ht => absurd ht (Nat.not_lt_zero _), fun t h1 h2 => by omega⟩⟩⟩
  case round =>
    obtain ⟨lo, hi, rfl, rfl, hlh, hin, hg, BW, I⟩ := hrel
    by_cases hlt : lo < hi
    · have hltb : decide ((lo : Int) < (hi : Int)) = true := decide_eq_true (by omega)
      have hmid : IntKind.i64.wrap ((lo : Int) + (hi : Int)) = (lo : Int) + (hi : Int) := by rw [IntKind.wrap_i64]; omega
      obtain ⟨ad, e, h0, h1, h2⟩ := at_T37 HR.out (((lo + hi) / 2 : Nat) : Int) (by omega) (by omega)
      cases e
      replace h0 := (BW.out.cell (World.block_lt_of_cell? w _ h0)).trans h0
      replace h1 := (BW.out.cell (World.block_lt_of_cell? w _ h1)).trans h1
      replace h2 := (BW.out.cell (World.block_lt_of_cell? w _ h2)).trans h2
      simp only [Int.toNat_natCast] at h0 h1 h2
      have hcall := place1_calls (rd_T37 l (((lo + hi) / 2 : Nat) : Int)) x wr
      obtain ⟨y, hy⟩ : ∃ y, rd_T37 l (((lo + hi) / 2 : Nat) : Int) = y := ⟨_, rfl⟩
      rw [hy] at h0 h1 h2 hcall
      replace hy := Aside0.mk hy
      unfold agg37 at hcall
      have hng := cmpI_neg y.f0 x
      have hdiv : ((lo : Int) + (hi : Int)) / 2 = (((lo + hi) / 2 : Nat) : Int) := by omega
      by_cases hyx : y.f0 < x
      · rw [decide_eq_true hyx] at hng
        have I2 : Aside0 ((∀ k : Nat, k < (lo + hi) / 2 + 1 → (rd_T37 l k).f0 < x) ∧ (∀ k : Nat, hi ≤ k → k < l.length → x ≤ (rd_T37 l k).f0)) :=
          ⟨⟨fun k hk => HS.out k ((lo + hi) / 2) (by omega) (by omega) (by rw [hy.out]; exact hyx), I.out.2⟩⟩
        replace hdiv := Aside0.mk hdiv
        go_wp2_with fail
        refine hcall.mono ?_
        rintro e w' ⟨rfl, hb'⟩
        go_wp2_with fail
        go_roundg (hi - ((lo + hi) / 2 + 1))
        case measure => omega
        case rel => exact ⟨(lo + hi) / 2 + 1, hi, by go_num, rfl, by omega, hin, Nat.le_refl _, ⟨below_step BW.out hb'⟩, I2⟩
      · rw [decide_eq_false hyx] at hng
        have I2 : Aside0 ((∀ k : Nat, k < lo → (rd_T37 l k).f0 < x) ∧ (∀ k : Nat, (lo + hi) / 2 ≤ k → k < l.length → x ≤ (rd_T37 l k).f0)) :=
          ⟨⟨I.out.1, fun k hk hk2 => by
            rcases Int.lt_or_le (rd_T37 l k).f0 x with h | h
            · exact absurd (HS.out ((lo + hi) / 2) k hk hk2 h) (by rw [hy.out]; exact hyx)
            · exact h⟩⟩
        replace hdiv := Aside0.mk hdiv
        go_wp2_with fail
        refine hcall.mono ?_
        rintro e w' ⟨rfl, hb'⟩
        go_wp2_with fail
        go_roundg ((lo + hi) / 2 - lo)
        case measure => omega
        case rel => exact ⟨lo, (lo + hi) / 2, rfl, rfl, by omega, by omega, Nat.le_refl _, ⟨below_step BW.out hb'⟩, I2⟩
    · obtain rfl : lo = hi := by omega
      have hltb : decide ((lo : Int) < (lo : Int)) = false := decide_eq_false (by omega)
      by_cases hn : lo < l.length
      · have hlb : decide ((lo : Int) < (l.length : Int)) = true := decide_eq_true (by omega)
        obtain ⟨ad, e, h0, h1, h2⟩ := at_T37 HR.out (lo : Int) (by omega) (by omega)
        cases e
        replace h0 := (BW.out.cell (World.block_lt_of_cell? w _ h0)).trans h0
        replace h1 := (BW.out.cell (World.block_lt_of_cell? w _ h1)).trans h1
        replace h2 := (BW.out.cell (World.block_lt_of_cell? w _ h2)).trans h2
        simp only [Int.toNat_natCast] at h0 h1 h2
        have hcall := place1_calls (rd_T37 l (lo : Int)) x wr
        obtain ⟨y, hy⟩ : ∃ y, rd_T37 l (lo : Int) = y := ⟨_, rfl⟩
        rw [hy] at h0 h1 h2 hcall
        unfold agg37 at hcall
        have hz := cmpI_zero y.f0 x
        have hfin : (decide (lo < l.length) && decide ((rd_T37 l (lo : Int)).f0 = x)) = decide (y.f0 = x) := by rw [hy, decide_eq_true hn, Bool.true_and]
        replace hfin := Aside0.mk hfin
        replace hy := Aside0.mk hy
        go_wp2_with fail
        refine hcall.mono ?_
        rintro e w' ⟨rfl, hb'⟩
        go_wp2_with fail
        go_ret2
        exact ⟨lo, by rw [hfin.out]; rfl, hin, I.out.1, I.out.2, below_step BW.out hb'⟩
      · have hlb : decide ((lo : Int) < (l.length : Int)) = false := decide_eq_false (by omega)
        have hfin : (decide (lo < l.length) && decide ((rd_T37 l (lo : Int)).f0 = x)) = false := by rw [decide_eq_false hn, Bool.false_and]
        replace hfin := Aside0.mk hfin
        go_wp2_with fail
        go_ret2
        exact ⟨lo, by rw [hfin.out]; rfl, hin, I.out.1, I.out.2, BW.out⟩
theorem place_calls (A : Option Addr) (c : Nat) (l : List S37) (x : Int) (w : World) (hr : Kd.C k37 w A l.length l) (hlen : l.length ≤ 1000000)
    (hs : ∀ a b : Nat, a ≤ b → b < l.length → (rd_T37 l b).f0 < x → (rd_T37 l a).f0 < x) :
    Calls Try.prog 37 #[.slice A l.length c, .int .i64 x] w fun e w' => ∃ i : Nat, e = .returned (.tuple #[.int .i64 i, .bool (decide (i < l.length) && decide ((rd_T37 l i).f0 = x))]) ∧
      i ≤ l.length ∧ (∀ k : Nat, k < i → (rd_T37 l k).f0 < x) ∧ (∀ k : Nat, i ≤ k → k < l.length → x ≤ (rd_T37 l k).f0) ∧ Below w.heap.size w w' := by
  have hb := bsearch37 A c l x w hr hlen hs
  replace hb := Aside0.mk hb
  clear hr hs
  go_enter Try.func37, Try.ntmps37
  go_wp2_with fail
  refine hb.out.mono ?_
  rintro e w' ⟨i, rfl, h1, h2, h3, h4⟩
  obtain ⟨q, hq⟩ : ∃ q, (decide (i < l.length) && decide ((rd_T37 l (i : Int)).f0 = x)) = q := ⟨_, rfl⟩
  rw [hq]
  replace hq := Aside0.mk hq
  replace h2 := Aside0.mk h2
  replace h3 := Aside0.mk h3
  go_wp2_with fail
  go_ret2
  exact ⟨i, by rw [hq.out]; rfl, h1, h2.out, h3.out, h4⟩
end Go.Proofs.Ytjhpcfpccnfniaa.A
