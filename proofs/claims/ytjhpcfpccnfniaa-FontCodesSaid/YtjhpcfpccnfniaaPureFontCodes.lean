/- FontCodes: bytes of codes are these codes; codes of bytes are these bytes. -/
import Derived.Test.YtjhpcfpccnfniaaPlainInts
import Derived.Test.YtjhpcfpccnfniaaPlainCodes
import Derived.Test.YtjhpcfpccnfniaaB1
namespace Go.Proofs.Ytjhpcfpccnfniaa.Pure
open Go.RowKit Go.Proofs.Ytjhpcfpccnfniaa.A Go.Proofs.Ytjhpcfpccnfniaa.B Go.Proofs.YtjhpcfpccnfniaaW.PrintWords Go.Proofs.YtjhpcfpccnfniaaW.PrintLast Go.Proofs.Ytjhpcfpccnfniaa.Plain
set_option linter.unusedVariables false

theorem toList_eq_bne (a : List UInt8) (s : ByteArray) (h : s.data.toList = a) : ((⟨a.toArray⟩ : ByteArray).toList != s.toList) = false := by
  rw [ByteArray.toList_eq, ByteArray.toList_eq, h]
  exact bne_self_eq_false _

open Classical in
theorem j1 (w : Bool) (l : List S37) (o : Int) (cs : List Int) (hl : l.length ≤ 1000) (hc : cs.length ≤ 1000) (k : Nat) (hk : 1000 < k) : erasurelaw19_FontCodes.j1 (k + 1) cs false w l o = some true := by
  rw [erasurelaw19_FontCodes.j1, if_neg Bool.false_ne_true, bytes_f w l o cs (by omega) (by omega) k (by omega), Option.bind_some]
  by_cases hR : Right w l o ∧ ∀ x ∈ cs, 0 ≤ x ∧ x ≤ top w
  · rw [if_pos hR]
    have hsz : (⟨(bytesU w cs).toArray⟩ : ByteArray).size = (bytesU w cs).length := rfl
    have hlen := bytesU_len w cs
    have hev : w = true → (⟨(bytesU w cs).toArray⟩ : ByteArray).size % 2 = 0 := fun h => by
      subst h
      rw [hsz, bytesU_even]
      omega
    rw [codes_f w l o _ (by omega) (by rw [hsz]; omega) k (by omega), Option.bind_some, if_pos hR.1, if_pos hev]
    rw [show erasurelaw19_awake.f = some true from rfl, Option.bind_some, if_pos rfl, if_pos rfl, if_pos rfl]
    have hback : codesL w (bytesOf (⟨(bytesU w cs).toArray⟩ : ByteArray)) = cs := codesL_forth w cs hR.2
    show ((erasureref05_Ints.f k (codesL w (bytesOf (⟨(bytesU w cs).toArray⟩ : ByteArray))) cs).bind fun t139 => some t139) = some true
    rw [hback, ints_f cs cs (by omega) k (by omega), Option.bind_some, decide_eq_true rfl]
  · rw [if_neg hR]
    have h1 : ¬ ((1 : Int) = 0) := by decide
    by_cases hR1 : Right w l o
    · rw [codes_f w l o _ (by omega) (by decide) k (by omega), Option.bind_some]
      rw [show erasurelaw19_awake.f = some true from rfl, Option.bind_some, if_pos rfl, if_neg h1]
    · rw [codes_f w l o _ (by omega) (by decide) k (by omega), Option.bind_some]
      rw [show erasurelaw19_awake.f = some true from rfl, Option.bind_some, if_pos rfl, if_neg h1]

open Classical in
theorem j0 (w : Bool) (l : List S37) (o : Int) (s : ByteArray) (cs : List Int) (hl : l.length ≤ 1000) (hs : s.size ≤ 1000) (hc : cs.length ≤ 1000) (k : Nat) (hk : 1000 < k) : erasurelaw19_FontCodes.j0 (k + 2) s cs false w l o = some true := by
  rw [erasurelaw19_FontCodes.j0, if_neg Bool.false_ne_true, codes_f w l o s (by omega) (by omega) (k + 1) (by omega), Option.bind_some]
  have hlen := codesL_len w (bytesOf s)
  rw [bytesOf_length] at hlen
  by_cases hR : Right w l o
  · by_cases he : w = true → s.size % 2 = 0
    · rw [if_pos hR, if_pos he]
      have hb := codesL_top w (bytesOf s) (bytesOf_byte s)
      show ((font_Bytes.f (k + 1) w l o (codesL w (bytesOf s))).bind _) = _
      rw [bytes_f w l o _ (by omega) (by omega) (k + 1) (by omega), Option.bind_some, if_pos (show Right w l o ∧ ∀ x ∈ codesL w (bytesOf s), 0 ≤ x ∧ x ≤ top w from ⟨hR, hb⟩), if_pos rfl, if_pos rfl]
      have hback : bytesU w (codesL w (bytesOf s)) = s.data.toList := codesL_back w s.data.toList (fun h => by rw [data_length]; exact he h)
      show erasurelaw19_FontCodes.j1 (k + 1) cs ((⟨(bytesU w (codesL w (bytesOf s))).toArray⟩ : ByteArray).toList != s.toList) w l o = some true
      rw [toList_eq_bne _ s hback.symm]
      exact j1 w l o cs hl hc k hk
    · rw [if_pos hR, if_neg he]
      have h1 : ¬ ((4 : Int) = 0) := by decide
      show ((font_Bytes.f (k + 1) w l o []).bind _) = _
      rw [bytes_f w l o _ (by omega) (by decide) (k + 1) (by omega), Option.bind_some, if_neg h1]
      exact j1 w l o cs hl hc k hk
  · rw [if_neg hR]
    have h1 : ¬ ((1 : Int) = 0) := by decide
    show ((font_Bytes.f (k + 1) w l o []).bind _) = _
    rw [bytes_f w l o _ (by omega) (by decide) (k + 1) (by omega), Option.bind_some, if_neg h1]
    exact j1 w l o cs hl hc k hk

theorem FontCodes (a0_0 : Bool) (l0_1 : List S37) (a0_2 : Int) (a1 : ByteArray) (l2 : List Int) : (Lit.int .i64 a0_2).wf = true → a1.size ≤ 140737488351232 → l2.length * 8 ≤ 140737488351232 → (∀ x ∈ l2, (Lit.int .i64 x).wf = true) → ∃ k, B.erasurelaw19_FontCodes.f k a0_0 l0_1 a0_2 a1 l2 = some true := by
  intro _ _ _ _
  refine ⟨1003, ?_⟩
  unfold erasurelaw19_FontCodes.f
  have hskip : erasurelaw19_FontCodes.j0 1003 a1 l2 true a0_0 l0_1 a0_2 = some true := by rw [erasurelaw19_FontCodes.j0, if_pos rfl]
  by_cases h1 : (l0_1.length : Int) > 150
  · rw [if_pos h1]; exact hskip
  · rw [if_neg h1]
    by_cases h2 : (a1.size : Int) > 200
    · rw [if_pos h2]; exact hskip
    · rw [if_neg h2]
      by_cases h3 : (l2.length : Int) > 100
      · rw [decide_eq_true h3]; exact hskip
      · rw [decide_eq_false h3]
        exact j0 a0_0 l0_1 a0_2 a1 l2 (by omega) (by omega) (by omega) 1001 (by omega)
end Go.Proofs.Ytjhpcfpccnfniaa.Pure
