import Derived.Test.YtdkckjiccpdkbaaDoorC2
import Derived.Test.YtdkckjiccpdkbaaDoorPlainText
namespace Go.Proofs.YtdkckjiccpdkbaaDoor.Pure
open Go.RowKit Go.Proofs.YtdkckjiccpdkbaaDoor.A Go.Proofs.YtdkckjiccpdkbaaDoor.B Go.Proofs.YtdkckjiccpdkbaaDoor.H Go.Proofs.YtdkckjiccpdkbaaDoor.C
theorem back_rest (t : ByteArray) (ht : t.size ≤ 300) : erasurelaw01_DecBack.j0 101 t false = some true := by
  have ha : erasurelaw01_awake.f = some true := rfl
  rw [erasurelaw01_DecBack.j0, if_neg (by decide), Plain.parse_f t 100 (by decide), Option.bind_some]
  rcases Plain.parse_three t.data.toList with ⟨e, h, he⟩ | ⟨M, u, h, hg, hl⟩
  · rw [h]
    dsimp only
    rw [if_neg he, ha, Option.bind_some, if_pos rfl]
    rfl
  · rw [h]
    dsimp only
    have hp := Plain.parse_f ⟨(Plain.printL M u).toArray⟩ 100 (by decide)
    rw [show (⟨(Plain.printL M u).toArray⟩ : ByteArray).data.toList = Plain.printL M u from rfl, Plain.parse_print M u hg] at hp
    rw [if_pos rfl, Plain.print_f M u hg 100 (by decide), Option.bind_some]
    dsimp only
    rw [hp, Option.bind_some, ha, Option.bind_some, if_pos rfl, Plain.check_f, if_pos hg, Option.bind_some, if_pos rfl, if_pos rfl]
    dsimp only
    have hs : t.size = t.data.toList.length := Array.length_toList.symm
    rw [if_pos rfl, if_pos (by simp), Plain.bytes_size, Plain.wrap_small _ (by omega) (by omega), decide_eq_true (by omega)]
theorem DecBack (a0 a1 : Int) (t : ByteArray) (_ : (Lit.int .i64 a0).wf = true) (_ : (Lit.int .i64 a1).wf = true) (_ : t.size ≤ 140737488351232) : ∃ k, erasurelaw01_DecBack.f k a0 a1 t = some true := by
  refine ⟨101, ?_⟩
  unfold erasurelaw01_DecBack.f
  by_cases h1 : (t.size : Int) > 300
  · rw [if_pos h1]
  rw [if_neg h1]
  have hr := back_rest t (by omega)
  by_cases hg : Plain.Good a0 a1
  · obtain ⟨s, rfl, hs⟩ := Plain.good_nat hg
    have hp := Plain.parse_f ⟨(Plain.printL a0 s).toArray⟩ 101 (by decide)
    rw [show (⟨(Plain.printL a0 s).toArray⟩ : ByteArray).data.toList = Plain.printL a0 s from rfl, Plain.parse_print a0 s hg] at hp
    rw [Plain.print_f a0 s hg 101 (by decide), Option.bind_some]
    dsimp only
    rw [hp, Option.bind_some, if_pos rfl]
    dsimp only
    rw [if_pos rfl, if_neg (by simp), Plain.check_f, if_pos hg, Option.bind_some]
    exact hr
  · have hp := Plain.parse_f ⟨#[]⟩ 101 (by decide)
    rw [show Plain.parseL (⟨#[]⟩ : ByteArray).data.toList = (0, 0, 4) from rfl] at hp
    rw [Plain.print_bad a0 a1 hg, Option.bind_some]
    dsimp only
    rw [hp, Option.bind_some, if_neg (by decide), Plain.check_f, if_neg hg, Option.bind_some]
    exact hr
end Go.Proofs.YtdkckjiccpdkbaaDoor.Pure
