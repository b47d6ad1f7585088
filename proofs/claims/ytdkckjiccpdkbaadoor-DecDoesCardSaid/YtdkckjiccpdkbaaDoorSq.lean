/- Short steps for a drawn region: each is the print's own step with its proofs in its hypotheses. -/
import Derived.Test.YtdkckjiccpdkbaaDoorWTab
import Derived.Test.YtdkckjiccpdkbaaDoorWWords
namespace Go.Proofs.YtdkckjiccpdkbaaDoorW.PrintLast
section
variable {P : Program} {ops : Array Oper} {Q : Exit → Act → World → Prop} {md : Region.Mode} {S : World → Prop} {ds : List Nat}
def tk_ (n m : Nat) : Array Bool := ((List.range n).map m.testBit).toArray
theorem s0_ (t : Array Value) (d : List Deferred) (N : Tmp) (v : Value) : Act.put ⟨t, d⟩ (some N) v = ⟨t.setIfInBounds N v, d⟩ := rfl
theorem s1_ {α : Type} (l : List α) (i : Nat) (x : α) : l.toArray.setIfInBounds i x = (l.set i x).toArray := List.setIfInBounds_toArray ..
theorem s2_ {α : Type} (x y : α) (l : List α) : (x :: l).set 0 y = y :: l := List.set_cons_zero ..
theorem s3_ {α : Type} (x y : α) (l : List α) (i : Nat) : (x :: l).set (i + 1) y = x :: l.set i y := List.set_cons_succ ..
theorem s4_ : ∀ n, IntKind.i64.wrap n = RowKit.wrap64 n := i64_w
theorem s5_ : ∀ n, IntKind.i32.wrap n = RowKit.wrap32 n := i32_w
theorem pu_ (i n : Nat) {oi : Oper} {v : Value} {fuel : Nat} {l : Array Bool} {a a' : Act} {w : World} {T : Bool × List (List Nat × List Nat)} (l' : Array Bool) (hT : rtab md ops = T) (hi : ops[i]? = some oi) (hN : oi.dst = some n) (hc : anyT T l.toList l'.toList i = true)
    (hQ : ∀ c a w, Q (.panic c) (a.put oi.dst v) w → Q (.panic c) a w) (hw : Region.wanted oi (yielded ops a.tmps) = true) (hr : ∀ w, (execOp a.eval oi).run P w = .ok (.value v) w) (ha : a.put (some n) v = a')
    (h : wpAnyLast P md ops Q S ds fuel l' a' w) : wpAnyLast P md ops Q S ds (fuel + 1) l a w := pure_ l' hi hN (any_of hT hc) hQ (.inl ⟨hw, hr⟩) ha h
theorem ta_ (i n : Nat) {oi : Oper} {v : Value} {fuel : Nat} {l : Array Bool} {a a' : Act} {w : World} {T : Bool × List (List Nat × List Nat)} {B : List Nat} (l' : Array Bool) (hT : rtab md ops = T) (hB : waitsOk T.2 B = true) (hi : ops[i]? = some oi) (hN : oi.dst = some n) (hc : takeW T B ds l.toList l'.toList i = true)
    (hQ : ∀ c a w, Q (.panic c) (a.put oi.dst v) w → Q (.panic c) a w) (hw : Region.wanted oi (yielded ops a.tmps) = true) (hr : ∀ w, S w → (execOp a.eval oi).run P w = .ok (.value v) w) (hS : S w) (ha : a.put (some n) v = a')
    (h : wpAnyLast P md ops Q S ds fuel l' a' w) : wpAnyLast P md ops Q S ds (fuel + 1) l a w := take_ l' hi hN (take_ofW hT hB hc) hQ (.inl ⟨hw, hr⟩) hS ha h
end
end Go.Proofs.YtdkckjiccpdkbaaDoorW.PrintLast
namespace Go.Proofs.YtdkckjiccpdkbaaDoorW.PrintLast
open Go.RowKit Go.Proofs.YtdkckjiccpdkbaaDoorW.PrintWords
theorem bkk {w w' : World} {g : Nat} {o : Obj} (h : w.heap[g]? = some o) (b : Below w.heap.size w w' := by (with_reducible repeat (first | exact Below.refl _ _ | apply pw_below_drewN | apply below_drew1 | apply below_alloc))) : w'.heap[g]? = some o := blk_below h b
theorem blks {w : World} {g : Nat} {o : Obj} (h : w.heap[g]? = some o := by repeat (first | (with_reducible first | exact Aside0.out ‹_› | refine blk_drewN ?_ _ | refine blk_drew ?_ | refine blk_alloc ?_ _) | refine blk_far ?_ (Aside0.out ‹_›) _)) : w.heap[g]? = some o := h
theorem bel {n : Nat} {w w' : World} (h : Below n w w' := by repeat (first | (with_reducible first | exact Aside0.out ‹_› | apply below_alloc | apply pw_below_drewN | apply below_drew1 | refine below_set ?_ (Aside0.out ‹_›)) | exact Aside0.out ‹_›)) : Below n w w' := h
theorem gl_ {p : Prop} (h : p := by (try simp only [List.map_toArray, List.map_cons, List.map_nil]); first | done | rfl | (simp only [List.length_drop, List.length_take]; rfl)) : p := h
theorem ea_ {p : Prop} (h : p := by first | rfl | (simp; done) | (simp [*]; done)) : p := h
theorem rkk {α : Type} {d : Kd α} {e base : Nat} {w w' : World} {ok : Nat → Prop} {v : Value} {xs : List α} (h : d.R e w base ok v xs) (b : Below w.heap.size w w' := by (with_reducible repeat (first | exact Below.refl _ _ | apply pw_below_drewN | apply below_drew1 | apply below_alloc))) : d.R e w' base ok v xs := Kd.R_below h b
end Go.Proofs.YtdkckjiccpdkbaaDoorW.PrintLast
