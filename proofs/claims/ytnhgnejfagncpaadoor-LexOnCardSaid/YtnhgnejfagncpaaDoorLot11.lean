/- Put together: PureLexOn, Open, Laid (each in a section of its own). -/
import Derived.Test.YtnhgnejfagncpaaDoorLot9
import Derived.Test.YtnhgnejfagncpaaDoorLot10
import Derived.ChangeSlices
import Derived.ChangeArms
import Derived.Deep.Slices
import Derived.DataReads
import Derived.WideShapes
import Derived.Test.YtnhgnejfagncpaaDoorLot0
import Derived.Test.YtnhgnejfagncpaaDoorRows
import Derived.Test.YtnhgnejfagncpaaDoorLot2
import Derived.LaidSub
import Derived.LaidMore
import Derived.Lib.LaidTab
section
namespace Go.Proofs.YtnhgnejfagncpaaDoor.Pure
open Go Go.RowKit Go.Proofs.YtnhgnejfagncpaaDoorW.PrintWords Go.Proofs.YtnhgnejfagncpaaDoor.Plain Go.Proofs.YtnhgnejfagncpaaDoor.L Go.Proofs.YtnhgnejfagncpaaDoor.P
set_option linter.unusedVariables false
theorem on_ok_of_wf {l : List Int} (h : ∀ x ∈ l, (Lit.int .u8 x).wf = true) : okB l := fun x hx => by
  have := h x hx
  simp only [Lit.wf, IntKind.min, IntKind.max, IntKind.signed, IntKind.bits, Bool.and_eq_true, decide_eq_true_eq] at this
  simp at this
  omega
theorem aw (b : Option Bool) : ((erasurelaw14_awake.f).bind fun t => (if t = true then b else none)) = b := by
  rw [show erasurelaw14_awake.f = some true from rfl, Option.bind_some, if_pos rfl]
theorem on_j1 (k : Nat) (hk : 20000 ≤ k) (l m : List Int) (hl : l.length ≤ 500) (hm : m.length ≤ 100) (hok : okB l) (hom : okB m) (p p' : Nat) (r r' : List Int) (h : At l p r) (h' : At l p' r') (kind M S : Int) (s : List Int) (hn : nextL r = .tok kind M S s r') :
    O.erasurelaw14_LexOn.j1 (k + 1) l (p : Int) m (p' : Int) false kind M S (bs s) = some true := by
  have hlr := h.len
  have hlr' := h'.len
  obtain ⟨hso, hsl⟩ := next_text r (h.ok hok) kind M S s r' hn
  obtain ⟨⟨u, hu⟩, hlt, hz⟩ := next_tok _ _ _ _ _ _ hn
  have hright := next_right _ _ _ _ _ _ hn
  have hul : u.length + r'.length = r.length := by rw [← hu, List.length_append]
  have hp : lex_Print.f k kind M S (bs s) = some (bs (prL kind M S s), 0) := by
    rw [print_lex kind M S (bs s) (by rw [bs_len]; omega) k (by omega)]
    unfold prR
    rw [nb_bs s hso, if_pos hright]
  have htk : (l.take p').length = p' := by rw [List.length_take]; omega
  have hall : okB ([] ++ l.take p' ++ [32] ++ m) := okB_app (okB_app (fun c hc => hok c (List.mem_of_mem_take hc)) (okB_one (by decide) (by decide))) hom
  have hlen : ([] ++ l.take p' ++ [32] ++ m).length = p' + 1 + m.length := by rw [List.length_append, List.length_append, List.nil_append, htk]; rfl
  have hat : At ([] ++ l.take p' ++ [32] ++ m) p (u ++ 32 :: m) := by
    refine ⟨by rw [hlen]; omega, ?_⟩
    rw [List.nil_append, List.append_assoc, List.drop_append, htk, show p - p' = 0 from by omega]
    have e : (l.take p').drop p = u := by
      rw [List.drop_take, h.2, ← hu]
      exact List.take_left' (by omega)
    rw [e]
    rfl
  have hnx := next_p _ (by rw [hlen]; omega) hall _ p k hat hk
  rw [O.erasurelaw14_LexOn.j1, if_neg Bool.false_ne_true, hp, Option.bind_some, Option.bind_some, if_pos (by omega), if_pos (by omega), Int.toNat_natCast]
  have b1 : ([] : List Int).length + (l.take p').length < 140737488355328 := by rw [htk]; show 0 + p' < _; omega
  have b2 : ([] ++ l.take p').length < 140737488355328 := by rw [List.nil_append, htk]; omega
  have b3 : ([] ++ l.take p' ++ [32]).length + m.length < 140737488355328 := by rw [← List.length_append, hlen]; omega
  rw [if_pos b1, Option.bind_some, if_pos b2, Option.bind_some, if_pos b3]
  by_cases hk0 : kind = 0
  · have fin : ∀ v, ((lex_Next.f k ([] ++ l.take p' ++ [32] ++ m) (p : Int)) = some v) → ((lex_Next.f k ([] ++ l.take p' ++ [32] ++ m) (p : Int)).bind fun bt124 => (if kind = 0 then ((erasurelaw14_awake.f).bind fun t131 => (if t131 = true then (some ((0 : Int) == 0)) else (none))) else ((erasurelaw14_awake.f).bind fun t132 => (if t132 = true then (if (0 : Int) = 0 then (if bt124.2.2.2.2.2 = 0 then (if (bt124.1 == kind && ((bt124.2.1 == M && (bt124.2.2.1 == S)) && (bt124.2.2.2.1.toList == (bs s).toList))) = true then (some (bt124.2.2.2.2.1 == (p' : Int))) else (none)) else (none)) else (none)) else (none))))) = some true := fun v hv => by
      rw [hv, Option.bind_some, if_pos hk0, aw]
      rfl
    cases hq : nextL (u ++ 32 :: m) with
    | err e => rw [hq] at hnx; exact fin _ hnx.2
    | tok a b c d e =>
      rw [hq] at hnx
      obtain ⟨_, _, hv⟩ := hnx
      exact fin _ hv
  · rw [← hu] at hn
    rw [next_on u r' 32 m rfl kind M S s hk0 hn] at hnx
    obtain ⟨q, hq, hv⟩ := hnx
    have hql := hq.len
    rw [hlen, List.length_cons] at hql
    have hqp : q = p' := by omega
    have hc : (kind == kind && ((M == M && (S == S)) && ((bs s).toList == (bs s).toList))) = true := by simp
    rw [hv, Option.bind_some, if_neg hk0, aw, if_pos rfl, if_pos rfl, if_pos hc, hqp, beq_self_eq_true]
theorem LexOn_any (l m : List Int) (a : Int) (hok : okB l) (hom : okB m) : ∃ k, O.erasurelaw14_LexOn.f k l a m = some true := by
  refine ⟨30000, ?_⟩
  have tr : O.erasurelaw14_LexOn.j0 30000 l a m true = some true := by rw [O.erasurelaw14_LexOn.j0, if_pos rfl]
  unfold O.erasurelaw14_LexOn.f
  by_cases h5 : (l.length : Int) > 500
  · rw [if_pos h5, tr]
  rw [if_neg h5]
  by_cases h1 : (m.length : Int) > 100
  · rw [decide_eq_true h1, tr]
  rw [decide_eq_false h1, O.erasurelaw14_LexOn.j0, if_neg Bool.false_ne_true]
  have bad : ∀ e : Int, e ≠ 0 → lex_Next.f 29999 l a = some (0, 0, 0, ⟨#[]⟩, 0, e) → ((lex_Next.f 29999 l a).bind fun bt101 => (if bt101.2.2.2.2.2 = 0 then (if bt101.2.2.2.2.1 < a then (O.erasurelaw14_LexOn.j1 29999 l a m bt101.2.2.2.2.1 true bt101.1 bt101.2.1 bt101.2.2.1 bt101.2.2.2.1) else (if bt101.2.2.2.2.1 > (l.length : Int) then (O.erasurelaw14_LexOn.j1 29999 l a m bt101.2.2.2.2.1 true bt101.1 bt101.2.1 bt101.2.2.1 bt101.2.2.2.1) else (if bt101.1 = 0 then (O.erasurelaw14_LexOn.j1 29999 l a m bt101.2.2.2.2.1 false bt101.1 bt101.2.1 bt101.2.2.1 bt101.2.2.2.1) else (O.erasurelaw14_LexOn.j1 29999 l a m bt101.2.2.2.2.1 (bt101.2.2.2.2.1 == a) bt101.1 bt101.2.1 bt101.2.2.1 bt101.2.2.2.1)))) else ((erasurelaw14_awake.f).bind fun t108 => (if t108 = true then (if bt101.2.2.2.2.1 = 0 then (some (bt101.1 == 0 && ((bt101.2.1 == 0 && (bt101.2.2.1 == 0)) && (bt101.2.2.2.1.toList == ([] : List UInt8))))) else (none)) else (none))))) = some true := fun e he hv => by
    have e0 : ((⟨#[]⟩ : ByteArray).toList == ([] : List UInt8)) = true := by rw [ByteArray.toList_eq]; rfl
    rw [hv, Option.bind_some, if_neg he, aw, if_pos rfl]
    dsimp only
    rw [e0]
    rfl
  by_cases hr : a < 0 ∨ (l.length : Int) < a
  · exact bad 1 (by decide) (next_bad l a 0 29999 hr)
  · obtain ⟨p, rfl⟩ := Int.eq_ofNat_of_zero_le (show 0 ≤ a from by omega)
    have h : At l p (l.drop p) := ⟨by omega, rfl⟩
    have hlr := h.len
    have hnx := next_p l (by omega) hok _ p 29999 h (by omega)
    cases hq : nextL (l.drop p) with
    | err e => rw [hq] at hnx; exact bad e hnx.1 hnx.2
    | tok kind M S s r' =>
      rw [hq] at hnx
      obtain ⟨p', hp', hv⟩ := hnx
      have hlr' := hp'.len
      obtain ⟨hsuf, hlt, hz⟩ := next_tok _ _ _ _ _ _ hq
      have hle := hsuf.length_le
      have fin := on_j1 29998 (by omega) l m (by omega) (by omega) hok hom p p' _ r' h hp' kind M S s hq
      rw [hv, Option.bind_some, if_pos rfl]
      dsimp only
      rw [if_neg (show ¬ ((p' : Int) < (p : Int)) from by omega), if_neg (show ¬ ((p' : Int) > (l.length : Int)) from by omega)]
      by_cases hk0 : kind = 0
      · rw [if_pos hk0]
        exact fin
      · have := hlt hk0
        rw [if_neg hk0, beq_eq_false_iff_ne.2 (show (p' : Int) ≠ (p : Int) from by omega)]
        exact fin
theorem LexOn (l0 : List Int) (a1 : Int) (l2 : List Int) : l0.length * 1 ≤ 140737488351232 → (∀ x ∈ l0, (Lit.int .u8 x).wf = true) → (Lit.int .i64 a1).wf = true → l2.length * 1 ≤ 140737488351232 → (∀ x ∈ l2, (Lit.int .u8 x).wf = true) → ∃ k, O.erasurelaw14_LexOn.f k l0 a1 l2 = some true :=
  fun _ h _ _ h2 => LexOn_any l0 l2 a1 (on_ok_of_wf h) (on_ok_of_wf h2)
end Go.Proofs.YtnhgnejfagncpaaDoor.Pure
end
section
namespace Go.Proofs.YtnhgnejfagncpaaDoor.Opened
open Go.ChangeShapes Go.WideShapes Go.RowKit Go.Deep
open Go.Proofs.YtnhgnejfagncpaaDoorW.PrintWords
set_option linter.unusedVariables false
section
variable {H : Type} {enc : TypeId × Value → H} {P : Program} {w : World} {base : Nat} {spare : Nat → Bool} {held : Bool}
def Rd {α : Type} (enc : TypeId × Value → H) (P : Program) (w : World) (base : Nat) (spare : Nat → Bool) (held : Bool) (n : Nat) (t : TypeId) (K : Kd α) (Wf : α → Prop) : Prop :=
  ∀ m, m ≤ n → ∀ cs x, DataW.trod enc P w base spare held m t cs = some x → ∃ p, K.K w p cs ∧ Wf p
theorem Rd.mono {α : Type} {n n' : Nat} {t : TypeId} {K : Kd α} {Wf : α → Prop} (h : Rd enc P w base spare held n t K Wf) (hn : n' ≤ n) : Rd enc P w base spare held n' t K Wf := fun m hm => h m (Nat.le_trans hm hn)
theorem Rd.zero {α : Type} {t : TypeId} {K : Kd α} {Wf : α → Prop} : Rd enc P w base spare held 0 t K Wf := fun m hm cs x h => by
  obtain rfl : m = 0 := by omega
  simp [DataW.trod] at h
theorem rd_int {n : Nat} {t : TypeId} {k : IntKind} (ht : P.underlying t = some (.int k)) : Rd enc P w base spare held n t (Kd.int k) (fun x => (Lit.int k x).wf = true) := fun m _ cs x h => by
  obtain ⟨v, rfl, _, hw⟩ := DataW.trod_int ht h
  exact ⟨v, rfl, hw⟩
theorem rd_slice {α : Type} {n : Nat} {t e e' : TypeId} {K : Kd α} {Wf : α → Prop} (ht : P.underlying t = some (.slice e)) (hc : P.cellsOf e = K.sz) (he : Rd enc P w base spare held n e K Wf) :
    Rd enc P w base spare held (n + 1) t (Kd.slice e' K) (fun l => ∀ x ∈ l, Wf x) := fun m hm cs x h => by
  rcases DataW.trod_slice ht h with ⟨rfl, _⟩ | ⟨a, len, cap, elems, rest, m', rfl, rfl, _, _, hl, hmx, hel, hget, _, _⟩
  · exact ⟨[], ⟨none, 0, rfl, Nat.le_refl _, rfl, Nat.zero_le _, fun hn => absurd hn (Nat.lt_irrefl _)⟩, fun x hx => absurd hx List.not_mem_nil⟩
  · have hall : ∀ i, i < len → ∃ p : α, ∃ c, c.length = K.sz ∧ K.K w p c ∧ Wf p ∧ ∀ j u, c[j]? = some u → w.cell? (a.add (i * K.sz + j)) = some u := fun i hi => by
      have hk := hget i hi
      rw [List.getElem?_eq_getElem (by omega)] at hk
      obtain ⟨c, h1, h2⟩ := Option.bind_eq_some_iff.1 hk
      obtain ⟨_, hcl, hcell⟩ := World.cells?_some h1
      obtain ⟨p, hp, hw⟩ := he m' (by omega) _ _ h2
      refine ⟨p, c, by rw [hcl, hc], hp, hw, fun j u hu => ?_⟩
      have hj : j < P.cellsOf e := by
        obtain ⟨hj, _⟩ := List.getElem?_eq_some_iff.1 hu
        omega
      have := hcell j hj
      rw [Go.Deep.add_add, hc] at this
      rw [this, hu]
    rcases Nat.eq_zero_or_pos len with h0 | h0
    · subst h0
      exact ⟨[], ⟨some a, cap, rfl, hl, rfl, Nat.zero_le _, fun hn => absurd hn (Nat.lt_irrefl _)⟩, fun x hx => absurd hx List.not_mem_nil⟩
    · obtain ⟨p0, _⟩ := hall 0 h0
      have : Inhabited α := ⟨p0⟩
      obtain ⟨R, hR⟩ := Go.Deep.choose_lt hall
      have hlen : ((List.range len).map R).length = len := by rw [List.length_map, List.length_range]
      refine ⟨(List.range len).map R, ⟨some a, cap, by rw [hlen], by rw [hlen]; exact hl, rfl, ?_, fun _ => ⟨a, rfl, fun j p hj => ?_⟩⟩, fun r hr => ?_⟩
      · rw [hlen]
        exact Nat.le_trans hl hmx
      · have hjl : j < len := by
          obtain ⟨hj1, _⟩ := List.getElem?_eq_some_iff.1 hj
          rw [hlen] at hj1
          exact hj1
        have hp : R j = p := by
          rw [List.getElem?_map, List.getElem?_range hjl] at hj
          simpa using hj
        obtain ⟨c, h1, h2, _, h4⟩ := hR j hjl
        rw [hp] at h2
        exact ⟨c, h1, h2, h4⟩
      · obtain ⟨i, hi, rfl⟩ := List.mem_map.1 hr
        obtain ⟨c, _, _, h3, _⟩ := hR i (List.mem_range.1 hi)
        exact h3
theorem rd_val {α : Type} {t : TypeId} {K : Kd α} {Wf : α → Prop} {v : Value} {d : DataW H} {ps : List MemPlace} (h : DataW.Trod enc P w base spare held t v d ps) (hr : ∀ n, Rd enc P w base spare held n t K Wf) : ∃ p, K.K w p v.cells.toList ∧ Wf p := by
  obtain ⟨fuel, hf⟩ := h
  exact hr fuel fuel (Nat.le_refl _) _ _ hf
theorem Rd.all {α : Type} {n : Nat} {t : TypeId} {K : Kd α} {Wf : α → Prop} (h : Rd enc P w base spare held (n + 1) t K Wf) : Rd enc P w base spare held n t K Wf := h.mono (Nat.le_succ _)
end
end Go.Proofs.YtnhgnejfagncpaaDoor.Opened
end
section
namespace Go.Proofs.YtnhgnejfagncpaaDoor.H
open Go.RowKit
theorem pow10_data : (Rows.laid_internal_strconv_uint64pow10 : DataW Unit) = Lib.tabData .u64 Lib.pow10Tab := by kernel_rfl
theorem tab_of_laid {W : World} (h : laidMetH Tryd.prog [("math/bits.deBruijn32tab", Rows.laid_math_bits_deBruijn32tab), ("math/bits.deBruijn64tab", Rows.laid_math_bits_deBruijn64tab), ("internal/strconv.uint64pow10", Rows.laid_internal_strconv_uint64pow10), ("unicode/utf8.acceptRanges", Rows.laid_unicode_utf8_acceptRanges), ("unicode/utf8.first", Rows.laid_unicode_utf8_first)] W) : Tab W := by
  have h1 := laidMetH.filter (fun x => x.1 == "internal/strconv.uint64pow10") h
  have h2 : laidMetH Tryd.prog [("internal/strconv.uint64pow10", Rows.laid_internal_strconv_uint64pow10)] W := h1
  rw [MakeChecks.laidMetH_plain _ _ _ (by kernel_rfl), pow10_data] at h2
  exact Lib.tabIs_of_head (g := 3) (t := 157) (by kernel_rfl) (by kernel_rfl) Tryd.underlying157 Tryd.underlying75 (by kernel_rfl) (by kernel_rfl) h2
end Go.Proofs.YtnhgnejfagncpaaDoor.H
end
