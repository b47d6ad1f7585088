/- Values that can be read are of their kinds: for any type made of numbers, truths, texts, slices and structs. -/
import Derived.ChangeSlices
import Derived.ChangeArms
import Derived.Deep.Slices
import Derived.DataReads
import Derived.WideShapes
import Derived.Test.YtdkckjiccpdkbaaDoorWWords
namespace Go.Proofs.YtdkckjiccpdkbaaDoor.Opened
open Go.ChangeShapes Go.WideShapes Go.RowKit Go.Deep
open Go.Proofs.YtdkckjiccpdkbaaDoorW.PrintWords
set_option linter.unusedVariables false
section
variable {H : Type} {enc : TypeId × Value → H} {P : Program} {w : World} {base : Nat} {spare : Nat → Bool} {held : Bool}
def Rd {α : Type} (enc : TypeId × Value → H) (P : Program) (w : World) (base : Nat) (spare : Nat → Bool) (held : Bool) (n : Nat) (t : TypeId) (K : Kd α) (Wf : α → Prop) : Prop :=
  ∀ m, m ≤ n → ∀ cs x, DataW.trod enc P w base spare held m t cs = some x → ∃ p, K.K w p cs ∧ Wf p
theorem Rd.mono {α : Type} {n n' : Nat} {t : TypeId} {K : Kd α} {Wf : α → Prop} (h : Rd enc P w base spare held n t K Wf) (hn : n' ≤ n) : Rd enc P w base spare held n' t K Wf := fun m hm => h m (Nat.le_trans hm hn)
theorem Rd.zero {α : Type} {t : TypeId} {K : Kd α} {Wf : α → Prop} : Rd enc P w base spare held 0 t K Wf := fun m hm cs x h => by
  obtain rfl : m = 0 := by omega
  simp [DataW.trod] at h
theorem rd_int {n : Nat} {t : TypeId} {k : IntKind} (ht : P.underlying t = some (.int k)) : Rd enc P w base spare held n t (Kd.int k) (fun x => (Lit.int k x).wf = true) := fun m _ cs x h => by
  obtain ⟨v, rfl, _, hw⟩ := DataW.trod_int ht h
  exact ⟨v, rfl, hw⟩
def RdF {α : Type} (enc : TypeId × Value → H) (P : Program) (w : World) (base : Nat) (spare : Nat → Bool) (held : Bool) (n : Nat) (fs : Array Field) (i o : Nat) (K : Kd α) (Wf : α → Prop) : Prop :=
  ∀ m, m ≤ n → ∀ cs : List Value, cs.length = o + K.sz → (∀ j f, i ≤ j → fs[j]? = some f → ∃ x, DataW.trod enc P w base spare held m f.type ((cs.drop f.offset).take (P.cellsOf f.type)) = some x) → ∃ p, K.K w p (cs.drop o) ∧ Wf p
theorem rdF_one {α : Type} {n : Nat} {fs : Array Field} {i o : Nat} {f : Field} {K : Kd α} {Wf : α → Prop} (hf : fs[i]? = some f) (ho : f.offset = o) (hc : P.cellsOf f.type = K.sz) (h : Rd enc P w base spare held n f.type K Wf) : RdF enc P w base spare held n fs i o K Wf := fun m hm cs hl hx => by
  obtain ⟨x, hx⟩ := hx i f (Nat.le_refl _) hf
  obtain ⟨p, hp, hw⟩ := h m hm _ _ hx
  rw [ho, hc, List.take_of_length_le (by rw [List.length_drop]; omega)] at hp
  exact ⟨p, hp, hw⟩
theorem rdF_cons {α β : Type} {n : Nat} {fs : Array Field} {i o : Nat} {f : Field} {K : Kd α} {Wf : α → Prop} {L : Kd β} {Wl : β → Prop} (hf : fs[i]? = some f) (ho : f.offset = o) (hc : P.cellsOf f.type = K.sz) (h : Rd enc P w base spare held n f.type K Wf)
    (hr : RdF enc P w base spare held n fs (i + 1) (o + K.sz) L Wl) : RdF enc P w base spare held n fs i o (Kd.pair K L) (fun p => Wf p.1 ∧ Wl p.2) := fun m hm cs hl hx => by
  obtain ⟨x, hx0⟩ := hx i f (Nat.le_refl _) hf
  obtain ⟨p, hp, hw⟩ := h m hm _ _ hx0
  have hl' : cs.length = o + (K.sz + L.sz) := hl
  obtain ⟨q, hq, hwq⟩ := hr m hm cs (by omega) (fun j g hj hg => hx j g (by omega) hg)
  rw [ho, hc] at hp
  refine ⟨(p, q), ⟨(cs.drop o).take K.sz, cs.drop (o + K.sz), ?_, hp, hq⟩, hw, hwq⟩
  rw [← List.drop_drop, List.take_append_drop]
theorem rd_struct {α β : Type} {n : Nat} {t : TypeId} {fs : Array Field} {K : Kd α} {Wf : α → Prop} (f : β → α) (g : α → β) (hfg : ∀ p, f (g p) = p) (ht : P.underlying t = some (.struct fs)) (hc : P.cellsOf t = K.sz) (h : RdF enc P w base spare held n fs 0 0 K Wf) :
    Rd enc P w base spare held (n + 1) t (Kd.iso K f) (fun x => Wf (f x)) := fun m hm cs x hx => by
  obtain ⟨xs, m', rfl, _, hl, hxl, hi⟩ := DataW.trod_struct ht hx
  obtain ⟨p, hp, hw⟩ := h m' (by omega) cs (by rw [hl, hc, Nat.zero_add]) (fun j f _ hf => by
    have := hi j f hf
    obtain ⟨hj, _⟩ := Array.getElem?_eq_some_iff.1 hf
    exact ⟨_, this.trans (List.getElem?_eq_getElem (by omega))⟩)
  refine ⟨g p, ?_, ?_⟩
  · show K.K w (f (g p)) cs
    rw [hfg]
    exact hp
  · show Wf (f (g p))
    rw [hfg]
    exact hw
theorem rd_tuple {α : Type} {n : Nat} {t : TypeId} {fs : Array Field} {K : Kd α} {Wf : α → Prop} (ht : P.underlying t = some (.struct fs)) (hc : P.cellsOf t = K.sz) (h : RdF enc P w base spare held n fs 0 0 K Wf) :
    Rd enc P w base spare held (n + 1) t K Wf := rd_struct (K := K) id id (fun _ => rfl) ht hc h
theorem rd_val {α : Type} {t : TypeId} {K : Kd α} {Wf : α → Prop} {v : Value} {d : DataW H} {ps : List MemPlace} (h : DataW.Trod enc P w base spare held t v d ps) (hr : ∀ n, Rd enc P w base spare held n t K Wf) : ∃ p, K.K w p v.cells.toList ∧ Wf p := by
  obtain ⟨fuel, hf⟩ := h
  exact hr fuel fuel (Nat.le_refl _) _ _ hf
theorem Rd.all {α : Type} {n : Nat} {t : TypeId} {K : Kd α} {Wf : α → Prop} (h : Rd enc P w base spare held (n + 1) t K Wf) : Rd enc P w base spare held n t K Wf := h.mono (Nat.le_succ _)
end
end Go.Proofs.YtdkckjiccpdkbaaDoor.Opened
