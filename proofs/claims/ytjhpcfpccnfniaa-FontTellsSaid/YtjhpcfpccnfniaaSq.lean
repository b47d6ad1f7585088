/- Short steps for a drawn region: each is the print's own step with its proofs in its hypotheses. -/
import Derived.Test.YtjhpcfpccnfniaaWTab
import Derived.Test.YtjhpcfpccnfniaaWWords
namespace Go.Proofs.YtjhpcfpccnfniaaW.PrintLast
section
variable {P : Program} {ops : Array Oper} {Q : Exit → Act → World → Prop} {md : Region.Mode} {S : World → Prop} {ds : List Nat}
def tk_ (n m : Nat) : Array Bool := ((List.range n).map m.testBit).toArray
theorem s0_ (t : Array Value) (d : List Deferred) (N : Tmp) (v : Value) : Act.put ⟨t, d⟩ (some N) v = ⟨t.setIfInBounds N v, d⟩ := rfl
theorem s1_ {α : Type} (l : List α) (i : Nat) (x : α) : l.toArray.setIfInBounds i x = (l.set i x).toArray := List.setIfInBounds_toArray ..
theorem s2_ {α : Type} (x y : α) (l : List α) : (x :: l).set 0 y = y :: l := List.set_cons_zero ..
theorem s3_ {α : Type} (x y : α) (l : List α) (i : Nat) : (x :: l).set (i + 1) y = x :: l.set i y := List.set_cons_succ ..
theorem s4_ : ∀ n, IntKind.i64.wrap n = RowKit.wrap64 n := i64_w
theorem s5_ : ∀ n, IntKind.i32.wrap n = RowKit.wrap32 n := i32_w
theorem pu_ (i n : Nat) {oi : Oper} {v : Value} {fuel : Nat} {l : Array Bool} {a a' : Act} {w : World} {T : Bool × List (List Nat × List Nat)} (l' : Array Bool) (hT : rtab md ops = T) (hi : ops[i]? = some oi) (hN : oi.dst = some n) (hc : anyT T l.toList l'.toList i = true)
    (hQ : ∀ c a w, Q (.panic c) (a.put oi.dst v) w → Q (.panic c) a w) (hw : Region.wanted oi (yielded ops a.tmps) = true) (hr : ∀ w, (execOp a.eval oi).run P w = .ok (.value v) w) (ha : a.put (some n) v = a')
    (h : wpAnyLast P md ops Q S ds fuel l' a' w) : wpAnyLast P md ops Q S ds (fuel + 1) l a w := pure_ l' hi hN (any_of hT hc) hQ (.inl ⟨hw, hr⟩) ha h
theorem sk_ (i n : Nat) {oi : Oper} {fuel : Nat} {l : Array Bool} {a a' : Act} {w : World} {T : Bool × List (List Nat × List Nat)} (l' : Array Bool) (hT : rtab md ops = T) (hi : ops[i]? = some oi) (hN : oi.dst = some n) (hc : anyT T l.toList l'.toList i = true)
    (hQ : ∀ c a w, Q (.panic c) (a.put oi.dst undef) w → Q (.panic c) a w) (hw : Region.wanted oi (yielded ops a.tmps) = false) (ha : a.put (some n) undef = a')
    (h : wpAnyLast P md ops Q S ds fuel l' a' w) : wpAnyLast P md ops Q S ds (fuel + 1) l a w := pure_ l' hi hN (any_of hT hc) hQ (.inr ⟨hw, rfl⟩) ha h
theorem ta_ (i n : Nat) {oi : Oper} {v : Value} {fuel : Nat} {l : Array Bool} {a a' : Act} {w : World} {T : Bool × List (List Nat × List Nat)} {B : List Nat} (l' : Array Bool) (hT : rtab md ops = T) (hB : waitsOk T.2 B = true) (hi : ops[i]? = some oi) (hN : oi.dst = some n) (hc : takeW T B ds l.toList l'.toList i = true)
    (hQ : ∀ c a w, Q (.panic c) (a.put oi.dst v) w → Q (.panic c) a w) (hw : Region.wanted oi (yielded ops a.tmps) = true) (hr : ∀ w, S w → (execOp a.eval oi).run P w = .ok (.value v) w) (hS : S w) (ha : a.put (some n) v = a')
    (h : wpAnyLast P md ops Q S ds fuel l' a' w) : wpAnyLast P md ops Q S ds (fuel + 1) l a w := take_ l' hi hN (take_ofW hT hB hc) hQ (.inl ⟨hw, hr⟩) hS ha h
end
end Go.Proofs.YtjhpcfpccnfniaaW.PrintLast
