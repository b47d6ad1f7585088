/- cmap.Text in plain words: a meaning (halves of a sign) as UTF-8. -/
import Derived.Test.YtjhpcfpccnfniaaA0
import Derived.Shelf.Utf8.AppendRunePlain
namespace Go.Proofs.Ytjhpcfpccnfniaa.A
open Go Go.RowKit Go.Proofs.YtjhpcfpccnfniaaW.PrintWords
set_option linter.unusedVariables false
def putI (r : Int) : List Int :=
  if r < 128 then [r] else if r < 2048 then [192 + r / 64, 128 + r % 64]
  else if r < 65536 then [224 + r / 4096, 128 + r / 64 % 64, 128 + r % 64]
  else [240 + r / 262144, 128 + r / 4096 % 64, 128 + r / 64 % 64, 128 + r % 64]
def textI : List Int → Option (List Int)
  | a :: b :: t =>
    if 55296 ≤ a * 256 + b ∧ a * 256 + b ≤ 57343 then
      match t with
      | x :: y :: t' => if 56320 ≤ a * 256 + b ∨ x * 256 + y < 56320 ∨ 57343 < x * 256 + y then none else (textI t').map (putI (65536 + (a * 256 + b - 55296) * 1024 + (x * 256 + y - 56320)) ++ ·)
      | _ => none
    else (textI t).map (putI (a * 256 + b) ++ ·)
  | _ => some []
theorem putI_len (r : Int) : (putI r).length ≤ 4 := by
  unfold putI
  split
  · simp
  · split
    · simp
    · split <;> simp
theorem runeCells_put (r : Int) (h0 : 0 ≤ r) (h1 : r ≤ 1114111) (hs : r < 55296 ∨ 57343 < r) : Lib.runeCells r = nums .u8 (putI r) := by
  unfold putI
  by_cases c1 : r < 128
  · rw [if_pos c1]
    simp [Lib.runeCells, Lib.encodeRuneZ_one h0 (by omega), nums]
  · rw [if_neg c1]
    by_cases c2 : r < 2048
    · rw [if_pos c2]
      simp [Lib.runeCells, Lib.encodeRuneZ_two (by omega : 128 ≤ r) (by omega), nums]
    · rw [if_neg c2]
      by_cases c3 : r < 65536
      · rw [if_pos c3]
        rcases hs with hs | hs
        · simp [Lib.runeCells, Lib.encodeRuneZ_three (Or.inl ⟨(by omega : 2048 ≤ r), hs⟩), nums]
        · simp [Lib.runeCells, Lib.encodeRuneZ_three (Or.inr ⟨hs, (by omega : r ≤ 65535)⟩), nums]
      · rw [if_neg c3]
        simp [Lib.runeCells, Lib.encodeRuneZ_four (by omega : 65536 ≤ r) h1, nums]
end Go.Proofs.Ytjhpcfpccnfniaa.A
