/- erasurelaw01.DecLaws and .DecOrder: true whatever the numbers: the walks over what the plain words say. -/
import Derived.Test.YtdkckjiccpdkbaaDoorD0
import Derived.Test.YtdkckjiccpdkbaaDoorD1
import Derived.Test.YtdkckjiccpdkbaaDoorD2
import Derived.Test.YtdkckjiccpdkbaaDoorPlainLaws
namespace Go.Proofs.YtdkckjiccpdkbaaDoor.D
open Go.RowKit Go.Proofs.YtdkckjiccpdkbaaDoorW.PrintWords Go.Proofs.YtdkckjiccpdkbaaDoor.A Go.Proofs.YtdkckjiccpdkbaaDoor.B Go.Proofs.YtdkckjiccpdkbaaDoor.H Go.Proofs.YtdkckjiccpdkbaaDoor.Plain

theorem three (p : Int × Int × Int) : p = (p.1, p.2.1, p.2.2) := rfl
theorem some3 {f : Option (Int × Int × Int)} {p : Int × Int × Int} (h : f = some p) : f = some (p.1, p.2.1, p.2.2) := h
/-- A result that is told is right; where it is not told it reads as 0. -/
theorem told_right (Z : Int) (s : Nat) : ∃ (M : Int) (t : Nat) (e : Int), tellZ Z s = (M, (t : Int), e) ∧ Plain.Good M t ∧ (e = 0 → up M s = up Z t) := by
  rcases tellZ_cases Z s with h | ⟨M, t, h, hg, hv⟩
  · exact ⟨0, 0, 5, h, by decide, fun h => absurd h (by decide)⟩
  · exact ⟨M, t, 0, h, hg, fun _ => hv⟩
def erasurelaw01_DecLaws.f (a0 a1 b0 b1 c0 c1 : Int) : Option Bool := some true
theorem erasurelaw01_DecLaws.calls (a0 a1 b0 b1 c0 c1 : Int) (r : Bool) (w : World) (hT : Tab w) (h : erasurelaw01_DecLaws.f a0 a1 b0 b1 c0 c1 = some r) :
    Calls Tryd.prog 4 #[.agg #[.int .i64 a0, .int .i64 a1], .agg #[.int .i64 b0, .int .i64 b1], .agg #[.int .i64 c0, .int .i64 c1]] w fun e w' => e = .returned (.bool r) ∧ Below w.heap.size w w' := by
  obtain rfl : true = r := Option.some.inj h
  have ck : ∀ x y, ¬ Plain.Good x y → dec_Check.f x y = some 1 := fun x y n => by rw [check_f, if_neg n]
  have cg : ∀ x y, Plain.Good x y → dec_Check.f x y = some 0 := fun x y n => by rw [check_f, if_pos n]
  by_cases ga : ¬ Plain.Good a0 a1
  · exact laws_bad0 a0 a1 b0 b1 c0 c1 w hT (ck _ _ ga)
  replace ga := Classical.not_not.mp ga
  by_cases gb : ¬ Plain.Good b0 b1
  · exact laws_bad1 a0 a1 b0 b1 c0 c1 w hT (cg _ _ ga) (ck _ _ gb)
  replace gb := Classical.not_not.mp gb
  by_cases gc : ¬ Plain.Good c0 c1
  · exact laws_bad2 a0 a1 b0 b1 c0 c1 w hT (cg _ _ ga) (cg _ _ gb) (ck _ _ gc)
  replace gc := Classical.not_not.mp gc
  obtain ⟨s, rfl, hs⟩ := good_nat ga
  obtain ⟨t, rfl, ht⟩ := good_nat gb
  obtain ⟨u, rfl, hu⟩ := good_nat gc
  have add : ∀ {x y : Int} {p q : Nat}, Plain.Good x p → Plain.Good y q → dec_Add.f 100 x (p : Int) y (q : Int) = some (addD x p y q) := fun hx hy => add_f _ _ _ _ hx hy 100 (by decide)
  have mul : ∀ {x y : Int} {p q : Nat}, Plain.Good x p → Plain.Good y q → dec_Mul.f 100 x (p : Int) y (q : Int) = some (tellZ (x * y) (p + q)) := fun hx hy => mul_f _ _ _ _ hx hy 100 (by decide)
  obtain ⟨ab, sab, e1, hab, gab, vab⟩ := told_right (up a0 t + up b0 s) (s + t)
  obtain ⟨bc, sbc, e3, hbc, gbc, vbc⟩ := told_right (up b0 u + up c0 t) (t + u)
  obtain ⟨x, sx, e4, hx, gx, vx⟩ := told_right (up ab u + up c0 sab) (sab + u)
  obtain ⟨y, sy, e5, hy, gy, vy⟩ := told_right (up a0 sbc + up bc s) (s + sbc)
  obtain ⟨p, sp, f1, hp, gp, vp⟩ := told_right (a0 * b0) (s + t)
  obtain ⟨q, sq, f3, hq, gq, vq⟩ := told_right (a0 * c0) (s + u)
  obtain ⟨m, sm, f4, hm, gm, vm⟩ := told_right (a0 * bc) (s + sbc)
  obtain ⟨n, sn, f5, hn, gn, vn⟩ := told_right (up p sq + up q sp) (sp + sq)
  have g0 : Plain.Good 0 0 := by decide
  have g1 : Plain.Good 1 0 := by decide
  refine laws_good 100 a0 s b0 t c0 u ab sab e1 bc sbc e3 x sx e4 y sy e5 p sp f1 q sq f3 m sm f4 n sn f5 w hT (cg _ _ ga) (cg _ _ gb) (cg _ _ gc) ?_ ?_ ?_ ?_ ?_ ?_ ?_ ?_ ?_ ?_ ?_ ?_ ?_ ?_
  · rw [add ga gb, addD_val, hab]
  · rw [add gb ga, addD_comm, addD_val, hab]
  · rw [add gb gc, addD_val, hbc]
  · rw [add gab gc, addD_val, hx]
  · rw [add ga gbc, addD_val, hy]
  · rw [mul ga gb, hp]
  · rw [mul gb ga, Int.mul_comm, Nat.add_comm, hp]
  · rw [mul ga gc, hq]
  · rw [mul ga gbc, hm]
  · rw [add gp gq, addD_val, hn]
  · have h2 := add ga g0
    rw [add_zero_f a0 s ga] at h2
    exact h2
  · have h2 := mul ga g1
    rw [Int.mul_one, Nat.add_zero, tellZ_good a0 s ga] at h2
    exact h2
  · intro z1 z3
    have k1 := assoc_left (c := c0) (u := u) (vab z1)
    have k2 := assoc_right (a := a0) (s := s) (vbc z3)
    rw [addD_val, hx] at k1
    rw [addD_val, hy, ← k1] at k2
    simp only [Prod.mk.injEq] at k2
    exact ⟨k2.2.2.symm, k2.1.symm, k2.2.1.symm⟩
  · intro z3 z1 zq zm zn
    have k1 := share (a := a0) (s := s) (vbc z3) (vp z1) (vq zq)
    rw [hm, addD_val, hn] at k1
    simp only [Prod.mk.injEq] at k1
    exact ⟨k1.1, k1.2.1⟩
def erasurelaw01_DecOrder.f (a0 a1 b0 b1 c0 c1 : Int) : Option Bool := some true
theorem cmpZ_three (a b : Int) : cmpZ a b = -1 ∨ cmpZ a b = 0 ∨ cmpZ a b = 1 := by
  unfold cmpZ
  split
  · exact Or.inl rfl
  · split
    · exact Or.inr (Or.inr rfl)
    · exact Or.inr (Or.inl rfl)
theorem erasurelaw01_DecOrder.calls (a0 a1 b0 b1 c0 c1 : Int) (r : Bool) (w : World) (hT : Tab w) (h : erasurelaw01_DecOrder.f a0 a1 b0 b1 c0 c1 = some r) :
    Calls Tryd.prog 8 #[.agg #[.int .i64 a0, .int .i64 a1], .agg #[.int .i64 b0, .int .i64 b1], .agg #[.int .i64 c0, .int .i64 c1]] w fun e w' => e = .returned (.bool r) ∧ Below w.heap.size w w' := by
  obtain rfl : true = r := Option.some.inj h
  have ck : ∀ x y, ¬ Plain.Good x y → dec_Check.f x y = some 1 := fun x y n => by rw [check_f, if_neg n]
  have cg : ∀ x y, Plain.Good x y → dec_Check.f x y = some 0 := fun x y n => by rw [check_f, if_pos n]
  have some2 : ∀ (x y : Int), ∃ c, dec_Check.f x y = some c := fun x y => ⟨_, check_f x y⟩
  have cmpx : ∀ x p y q, ∃ c e, dec_Compare.f 100 x p y q = some (c, e) ∧ ((¬ (Plain.Good x p ∧ Plain.Good y q)) → c = 0 ∧ e = 1) ∧ (Plain.Good x p ∧ Plain.Good y q → e = 0) := fun x p y q => by
    by_cases hg : Plain.Good x p ∧ Plain.Good y q
    · obtain ⟨g1, g2⟩ := id hg
      obtain ⟨s, rfl, hs⟩ := good_nat g1
      obtain ⟨t, rfl, ht⟩ := good_nat g2
      exact ⟨_, _, compareD_f _ _ _ _ g1 g2 100 (by decide), fun n => absurd hg n, fun _ => rfl⟩
    · exact ⟨_, _, compareD_bad _ _ _ _ hg 100 (by decide), fun _ => ⟨rfl, rfl⟩, fun n => absurd n hg⟩
  obtain ⟨x, e, kx, nx, ox⟩ := cmpx a0 a1 b0 b1
  obtain ⟨y, f, ky, ny, oy⟩ := cmpx b0 b1 a0 a1
  obtain ⟨z, g, kz, nz, oz⟩ := cmpx b0 b1 c0 c1
  obtain ⟨v, hh, kv, nv, ov⟩ := cmpx a0 a1 c0 c1
  obtain ⟨ra, ka⟩ := some2 a0 a1
  obtain ⟨rb, kb⟩ := some2 b0 b1
  obtain ⟨rc, kc⟩ := some2 c0 c1
  obtain ⟨n0, n1, ni, hn⟩ : ∃ n0 n1 ni, dec_Neg.f b0 b1 = some (n0, n1, ni) := by
    rw [neg_f]
    split <;> exact ⟨_, _, _, rfl⟩
  obtain ⟨d0, d1, j, hd⟩ : ∃ d0 d1 j, dec_Add.f 100 a0 a1 n0 n1 = some (d0, d1, j) := by
    by_cases hg : Plain.Good a0 a1 ∧ Plain.Good n0 n1
    · obtain ⟨g1, g2⟩ := hg
      obtain ⟨s, rfl, hs⟩ := good_nat g1
      obtain ⟨t, rfl, ht⟩ := good_nat g2
      exact ⟨_, _, _, add_f _ _ _ _ g1 g2 100 (by decide)⟩
    · exact ⟨_, _, _, add_bad _ _ _ _ hg 100 (by decide)⟩
  refine order_walk 100 a0 a1 b0 b1 c0 c1 x e y f z g v hh ra rb rc n0 n1 ni d0 d1 j w hT ka kb kc kx ky kz kv hn hd ?_
  by_cases ga : ¬ Plain.Good a0 a1
  · have h1 := ck _ _ ga
    rw [ka] at h1
    exact Or.inl ⟨Option.some.inj h1, (nx fun n => ga n.1).2⟩
  replace ga := Classical.not_not.mp ga
  have ra0 : ra = 0 := by have h1 := cg _ _ ga; rw [ka] at h1; exact Option.some.inj h1
  by_cases gb : ¬ Plain.Good b0 b1
  · have h1 := ck _ _ gb
    rw [kb] at h1
    exact Or.inr (Or.inl ⟨ra0, Option.some.inj h1, (nx fun n => gb n.2).2⟩)
  replace gb := Classical.not_not.mp gb
  have rb0 : rb = 0 := by have h1 := cg _ _ gb; rw [kb] at h1; exact Option.some.inj h1
  by_cases gc : ¬ Plain.Good c0 c1
  · have h1 := ck _ _ gc
    rw [kc] at h1
    exact Or.inr (Or.inr (Or.inl ⟨ra0, rb0, Option.some.inj h1, ox ⟨ga, gb⟩, (nz fun n => gc n.2).2⟩))
  replace gc := Classical.not_not.mp gc
  obtain ⟨s, rfl, hs⟩ := good_nat ga
  obtain ⟨t, rfl, ht⟩ := good_nat gb
  obtain ⟨u, rfl, hu⟩ := good_nat gc
  rw [compareD_f a0 b0 s t ga gb 100 (by decide), cmp_at9 a0 b0 s t hs ht] at kx
  rw [compareD_f b0 a0 t s gb ga 100 (by decide), cmp_at9 b0 a0 t s ht hs] at ky
  rw [compareD_f b0 c0 t u gb gc 100 (by decide), cmp_at9 b0 c0 t u ht hu] at kz
  rw [compareD_f a0 c0 s u ga gc 100 (by decide), cmp_at9 a0 c0 s u hs hu] at kv
  simp only [Option.some.injEq, Prod.mk.injEq] at kx ky kz kv
  have gn : Plain.Good (-b0) t := by
    obtain ⟨h1, h2, h3, h4, h5⟩ := gb
    exact ⟨by omega, by omega, h3, h4, by omega⟩
  rw [neg_f, if_pos gb] at hn
  simp only [Option.some.injEq, Prod.mk.injEq] at hn
  obtain ⟨rfl, rfl, rfl⟩ := hn
  rw [add_f a0 (-b0) s t ga gn 100 (by decide), addD_val] at hd
  have hd' := Option.some.inj hd
  have hinj : at9 a0 s = at9 b0 t → a0 = b0 ∧ s = t := at9_inj ga gb
  have hc1 : x = cmpZ (at9 a0 s) (at9 b0 t) := kx.1.symm
  have hc2 : y = cmpZ (at9 b0 t) (at9 a0 s) := ky.1.symm
  have hc3 : z = cmpZ (at9 b0 t) (at9 c0 u) := kz.1.symm
  have hc4 : v = cmpZ (at9 a0 s) (at9 c0 u) := kv.1.symm
  have hj : j = 0 → (d0 < 0 ↔ at9 a0 s < at9 b0 t) ∧ (d0 = 0 ↔ at9 a0 s = at9 b0 t) := fun h0 => by
    subst h0
    obtain ⟨q, rfl, gq, vq⟩ := tellZ_ok hd'
    exact sum_sign hs ht (by have := gq.2.2.2.1; omega) vq
  have heq : (a0 = b0 ∧ (s : Int) = t) → at9 a0 s = at9 b0 t := fun ⟨h1, h2⟩ => by
    subst h1
    rw [show s = t from by omega]
  refine Or.inr (Or.inr (Or.inr ⟨kx.2.symm, ky.2.symm, kz.2.symm, kv.2.symm, rfl, ?_, ?_, ?_, ?_, ?_, ?_, ?_⟩))
  · rw [hc1, hc2]
    unfold cmpZ
    (repeat' split) <;> omega
  · rw [hc1]; exact cmpZ_three _ _
  · rw [hc3]; exact cmpZ_three _ _
  · rw [hc4]; exact cmpZ_three _ _
  · rw [hc1, hc3, hc4]
    unfold cmpZ
    (repeat' split) <;> omega
  · have hx0 : x = 0 ↔ at9 a0 s = at9 b0 t := by
      rw [hc1]
      unfold cmpZ
      (repeat' split) <;> omega
    rw [← Bool.decide_and]
    by_cases hz : at9 a0 s = at9 b0 t
    · have h1 := hinj hz
      rw [decide_eq_true (hx0.2 hz), decide_eq_true (show a0 = b0 ∧ (s : Int) = t from ⟨h1.1, by omega⟩)]
    · rw [decide_eq_false (fun h => hz (hx0.1 h)), decide_eq_false (fun h => hz (heq h))]
  · intro h0
    obtain ⟨j1, j2⟩ := hj h0
    have hx0 : (x < 0 ↔ at9 a0 s < at9 b0 t) ∧ (x = 0 ↔ at9 a0 s = at9 b0 t) := by
      rw [hc1]
      unfold cmpZ
      (repeat' split) <;> omega
    exact ⟨j1.trans hx0.1.symm, j2.trans hx0.2.symm⟩
end Go.Proofs.YtdkckjiccpdkbaaDoor.D
