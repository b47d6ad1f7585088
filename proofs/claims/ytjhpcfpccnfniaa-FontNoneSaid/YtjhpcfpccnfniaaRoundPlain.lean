/- A region in the body of a range over a function may be walked as anywhere (over any program): no deferred call in it, and nothing lets it out. -/
import Derived.RangeFuncLeaves
import Derived.RangeFuncCalls
import Derived.RangeFuncNested
import Derived.OrdersIn
import Derived.TacticsIn
import Derived.Test.YtjhpcfpccnfniaaWWords
import Derived.Test.YtjhpcfpccnfniaaWLast
namespace Go.Proofs.Ytjhpcfpccnfniaa.Round
open Go.RowKit Go.Proofs.YtjhpcfpccnfniaaW.PrintWords Go.Proofs.YtjhpcfpccnfniaaW.PrintLast

variable {P : Program} {ops : Array Oper} {Q : Exit → Act → World → Prop} {md : Region.Mode} {S : World → Prop} {ds : List Nat}

theorem rowsIn_round {lb n : Nat} {row : String} {args : Array Value} {w : World} {R : Value → World → Prop} (h : Rows P row args w R) : RowsIn (Fence.wide.inRound lb) n P row args w R := fun c cs _ => by
  obtain ⟨v, w', r, s⟩ := h c cs
  exact ⟨v, w', r, stepsIn_wide.2 s⟩
theorem op_round {lb n : Nat} {o : Oper} {a : Act} {w : World} {K : Act → World → Prop} (hnd : ∀ c, o.op ≠ .defer c) (h : o.wp P a w K Q) : o.wpIn (Fence.wide.inRound lb) n P a w K Q := by
  refine ⟨fun _ _ => trivial, ?_⟩
  rw [Oper.semAt_eq _ _ _ hnd]
  unfold Oper.wp Oper.upon at h
  split at h
  · next hr => rw [hr]; exact h
  · next hr => rw [hr]; exact h
  · next hr => rw [hr]; exact h
  · next hr => rw [hr]; exact ⟨fun h0 => (by cases h0), CallsIn.inRound lb (callsIn_wide.2 h)⟩
  · next hr => rw [hr]; exact ⟨fun h0 => (by cases h0), rowsIn_round h⟩
  · next hr => rw [hr]; exact h
  · exact h.elim
theorem wpOpIn_round {lb n i : Nat} {a : Act} {w : World} {K K' : Act → World → Prop} (hnd : ∀ (i : Nat) (o : Oper), ops[i]? = some o → ∀ c, o.op ≠ .defer c) (hlo : ¬ LetsOut Q) (hK : ∀ a w, K a w → K' a w) (h : wpOp P ops Q i K a w) : wpOpIn (Fence.wide.inRound lb) n P ops Q i K' a w := by
  unfold wpOp at h
  unfold wpOpIn
  cases ho : ops[i]? with
  | none => rw [ho] at h; exact hK _ _ h
  | some o =>
    rw [ho] at h
    simp only at h ⊢
    split
    · next hw =>
      rw [if_pos hw] at h
      rcases h with h | h
      · exact Oper.wpIn_mono hK (op_round (hnd i o ho) h)
      · exact absurd h.2 hlo
    · next hw =>
      rw [if_neg hw] at h
      exact ⟨fun _ _ => trivial, hK _ _ h⟩
theorem wpAnyIn_round {lb n : Nat} (hnd : ∀ (i : Nat) (o : Oper), ops[i]? = some o → ∀ c, o.op ≠ .defer c) (hlo : ¬ LetsOut Q) : ∀ (fuel : Nat) (listed : Array Bool) (a : Act) (w : World), wpAny P md ops Q fuel listed a w → wpAnyIn (Fence.wide.inRound lb) n P md ops Q fuel listed a w
  | 0, _, _, _, h => h
  | fuel + 1, _, _, _, h => ⟨h.1, fun i hi => wpOpIn_round hnd hlo (fun a w h' => wpAnyIn_round hnd hlo fuel _ a w h') (h.2 i hi)⟩
theorem wpListIn_round {lb n : Nat} (hlo : ¬ LetsOut Q) : ∀ (rest : List Oper) (_ : ∀ o ∈ rest, ∀ c, o.op ≠ .defer c) (a : Act) (w : World), wpList P ops Q rest a w → wpListIn (Fence.wide.inRound lb) n P ops Q rest a w
  | [], _, _, _, h => h
  | o :: rest, hnd, a, w, h => by
    unfold wpList at h
    unfold wpListIn
    split
    · next hw =>
      rw [if_pos hw] at h
      rcases h with h | h
      · exact Oper.wpIn_mono (fun a w h' => wpListIn_round hlo rest (fun o ho => hnd o (List.mem_cons_of_mem _ ho)) a w h') (op_round (hnd o List.mem_cons_self) h)
      · exact absurd h.2 hlo
    · next hw =>
      rw [if_neg hw] at h
      exact ⟨fun _ _ => trivial, wpListIn_round hlo rest (fun o ho => hnd o (List.mem_cons_of_mem _ ho)) _ w h⟩
def noDefer (ops : Array Oper) : Bool := ops.all fun o => match o.op with | .defer _ => false | _ => true
theorem noDefer_at (h : noDefer ops = true) (i : Nat) (o : Oper) (ho : ops[i]? = some o) (c : Call) : o.op ≠ .defer c := by
  intro e
  rw [noDefer, Array.all_eq_true] at h
  obtain ⟨hi, he⟩ := Array.getElem?_eq_some_iff.1 ho
  have := h i hi
  rw [he, e] at this
  cases this
/-- The same by the printed words' steps. -/
theorem startR_ {id n lb m : Nat} {a : Act} {w : World} (l : Array Bool) (hnd : noDefer ops = true) (hlo : ¬ LetsOut Q) (hm : P.follows .mixedOrders = true) (hn : ops.size = n) (hl : Array.replicate n false = l) (hS : S w.drew)
    (h : S w.drew → wpAnyLast P .any ops Q S ds n l a w.drew) : (Code.region id ops true).wpIn (Fence.wide.inRound lb) m P Q a w := by
  subst hn
  subst hl
  exact wpIn_region_any hm (wpAnyIn_round (noDefer_at hnd) hlo _ _ _ _ (wpAny_of_last _ _ _ _ (h hS)))

end Go.Proofs.Ytjhpcfpccnfniaa.Round
