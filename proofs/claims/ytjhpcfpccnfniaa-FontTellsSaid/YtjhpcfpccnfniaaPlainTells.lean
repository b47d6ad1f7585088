/- The references Codes, Bytes, Text, Means in plain words. -/
import Derived.Test.YtjhpcfpccnfniaaPlainSame
import Derived.Test.YtjhpcfpccnfniaaPlainCodes
import Derived.Test.YtjhpcfpccnfniaaA6
import Derived.Test.YtjhpcfpccnfniaaT2
import Derived.Test.YtjhpcfpccnfniaaH13
namespace Go.Proofs.Ytjhpcfpccnfniaa.Plain
open Go.RowKit Go.Proofs.Ytjhpcfpccnfniaa.A Go.Proofs.Ytjhpcfpccnfniaa.C Go.Proofs.Ytjhpcfpccnfniaa.F Go.Proofs.Ytjhpcfpccnfniaa.T Go.Proofs.YtjhpcfpccnfniaaW.PrintWords Go.Proofs.YtjhpcfpccnfniaaW.PrintLast
set_option linter.unusedVariables false
theorem bytes_drop1 (u : ByteArray) (i : Nat) (h : i < u.size) : (bytesOf u).drop i = bt u (i : Int) :: (bytesOf u).drop (i + 1) := by
  have hl := bytesOf_length u
  have g : ∀ j : Nat, (hj : j < (bytesOf u).length) → (bytesOf u)[j] = bt u (j : Int) := fun j hj => by
    rw [← rd_bytesOf]
    unfold rd
    rw [Int.toNat_natCast, List.getD_eq_getElem?_getD, List.getElem?_eq_getElem hj]
    rfl
  rw [List.drop_eq_getElem_cons (by omega), g i (by omega)]
theorem rcodes_l0 (w : Bool) (l : List S37) (o : Int) (s : ByteArray) (hs : s.size ≤ 1000000) (he : w = true → s.size % 2 = 0) : ∀ (d k i : Nat) (acc : List Int), s.size ≤ i + d → i ≤ s.size → (w = true → i % 2 = 0) → d < k → acc.length ≤ i →
    erasureref19_Codes.l0 k s acc (i : Int) w l o = some (acc ++ codesL w ((bytesOf s).drop i), 0) := by
  intro d
  induction d with
  | zero =>
    intro k i acc hd hi hp hk ha
    obtain ⟨k, rfl⟩ : ∃ m, k = m + 1 := ⟨k - 1, by omega⟩
    have h1 : ¬ ((i : Int) < (s.size : Int)) := by omega
    rw [erasureref19_Codes.l0, if_neg h1, List.drop_eq_nil_of_le (by rw [bytesOf_length]; omega)]
    have : codesL w [] = [] := by cases w <;> rfl
    rw [this, List.append_nil]
  | succ d ih =>
    intro k i acc hd hi hp hk ha
    obtain ⟨k, rfl⟩ : ∃ m, k = m + 1 := ⟨k - 1, by omega⟩
    by_cases h1 : i < s.size
    · have h2 : (i : Int) < (s.size : Int) := by omega
      have h0 : 0 ≤ (i : Int) := by omega
      have r1 := bt_range s (i : Int)
      have r2 := bt_range s ((i : Int) + 1)
      have w1 : wrap64 ((i : Int) + 1) = (i : Int) + 1 := by unfold wrap64; omega
      rw [erasureref19_Codes.l0, if_pos h2, if_pos h0]
      cases w with
      | true =>
        have hev := he rfl
        have hpar := hp rfl
        have h3 : i + 1 < s.size := by omega
        have w2 : wrap64 ((i : Int) + 1 + 1) = ((i + 2 : Nat) : Int) := by unfold wrap64; omega
        have w3 : wrap64 (wrap64 (256 * wrap64 (bt s (i : Int))) + wrap64 (bt s ((i : Int) + 1))) = bt s (i : Int) * 256 + bt s ((i : Int) + 1) := by
          have a1 : wrap64 (bt s (i : Int)) = bt s (i : Int) := by unfold wrap64; omega
          have a2 : wrap64 (bt s ((i : Int) + 1)) = bt s ((i : Int) + 1) := by unfold wrap64; omega
          rw [a1, a2]
          have a3 : wrap64 (256 * bt s (i : Int)) = 256 * bt s (i : Int) := by unfold wrap64; omega
          rw [a3]
          unfold wrap64
          omega
        rw [if_pos rfl, w1, if_pos (by omega), if_pos (by omega), if_pos (by omega), w2, w3, ih k (i + 2) _ (by omega) (by omega) (fun _ => by omega) (by omega) (by simp; omega), bytes_drop s i h3, codesL_cons, List.append_assoc]
        rfl
      | false =>
        have w3 : wrap64 (bt s (i : Int)) = bt s (i : Int) := by unfold wrap64; omega
        rw [if_neg Bool.false_ne_true, if_pos (by omega), w1, w3]
        have hih := ih k (i + 1) (acc ++ [bt s (i : Int)]) (by omega) (by omega) (fun h => by cases h) (by omega) (by simp; omega)
        refine hih.trans ?_
        rw [bytes_drop1 s i h1, List.append_assoc]
        rfl
    · have h2 : ¬ ((i : Int) < (s.size : Int)) := by omega
      rw [erasureref19_Codes.l0, if_neg h2, List.drop_eq_nil_of_le (by rw [bytesOf_length]; omega)]
      have : codesL w [] = [] := by cases w <;> rfl
      rw [this, List.append_nil]
open Classical in
theorem rcodes_f (w : Bool) (l : List S37) (o : Int) (s : ByteArray) (hl : l.length ≤ 1000) (hs : s.size ≤ 1000) (k : Nat) (hk : 3000 < k) :
    erasureref19_Codes.f k w l o s = some (if Right w l o then (if w = true → s.size % 2 = 0 then (codesL w (bytesOf s), 0) else ([], 4)) else ([], 1)) := by
  obtain ⟨k, rfl⟩ : ∃ m, k = m + 1 := ⟨k - 1, by omega⟩
  unfold erasureref19_Codes.f
  rw [right_f w l o (by omega) (k + 1) (by omega), Option.bind_some]
  by_cases hR : Right w l o
  · rw [decide_eq_true hR, if_pos rfl, if_pos hR]
    have hend := fun he => rcodes_l0 w l o s (by omega) he s.size k 0 [] (by omega) (by omega) (fun _ => rfl) (by omega) (by simp)
    rw [List.drop_zero, List.nil_append] at hend
    cases w with
    | true =>
      rw [if_pos rfl]
      by_cases he : s.size % 2 = 0
      · have hb : ((s.size : Int) % 2 != 0) = false := by simp; omega
        rw [hb, erasureref19_Codes.j0, if_neg Bool.false_ne_true, if_pos (fun _ => he)]
        exact hend (fun _ => he)
      · have hb : ((s.size : Int) % 2 != 0) = true := by simp; omega
        rw [hb, erasureref19_Codes.j0, if_pos rfl, if_neg (fun h => he (h rfl))]
    | false =>
      rw [if_neg Bool.false_ne_true, erasureref19_Codes.j0, if_neg Bool.false_ne_true, if_pos (fun h => by cases h)]
      exact hend (fun h => by cases h)
  · rw [decide_eq_false hR, if_neg Bool.false_ne_true, if_neg hR]
open Classical in
theorem all_l0 (w : Bool) (l : List S37) (o : Int) (cs : List Int) (hl : l.length ≤ 1000000) (hc : cs.length ≤ 1000000) : ∀ (d k i : Nat), i + d = cs.length → d + l.length + 1 < k →
    erasureref19_all.l0 k cs (i : Int) w l o = some (decide (Right w l o ∧ ∀ x ∈ cs.drop i, 0 ≤ x ∧ x ≤ top w)) := by
  intro d
  induction d with
  | zero =>
    intro k i hi hk
    obtain ⟨k, rfl⟩ : ∃ m, k = m + 1 := ⟨k - 1, by omega⟩
    have h1 : ¬ ((i : Int) < (cs.length : Int)) := by omega
    rw [erasureref19_all.l0, if_neg h1, List.drop_eq_nil_of_le (by omega)]
    by_cases hlk : l.length < k
    · rw [right_f w l o hl k hlk, Option.bind_some]
      congr 1
      rw [Bool.eq_iff_iff, decide_eq_true_iff, decide_eq_true_iff]
      exact ⟨fun h => ⟨h, fun x hx => absurd hx (List.not_mem_nil)⟩, fun h => h.1⟩
    · omega
  | succ d ih =>
    intro k i hi hk
    obtain ⟨k, rfl⟩ : ∃ m, k = m + 1 := ⟨k - 1, by omega⟩
    have h1 : (i : Int) < (cs.length : Int) := by omega
    have h0 : 0 ≤ (i : Int) := by omega
    have hw : wrap64 ((i : Int) + 1) = ((i + 1 : Nat) : Int) := by unfold wrap64; omega
    have hil : i < cs.length := by omega
    rw [erasureref19_all.l0, if_pos h1, if_pos h0, rd_int cs i hil, code_f, Option.bind_some, List.drop_eq_getElem_cons hil, hw]
    cases hz : inTop w cs[i] with
    | true =>
      have hz' := (inTop_iff w cs[i]).1 hz
      rw [if_pos rfl, ih k (i + 1) (by omega) (by omega)]
      congr 1
      rw [Bool.eq_iff_iff, decide_eq_true_iff, decide_eq_true_iff]
      constructor
      · rintro ⟨a, b⟩
        exact ⟨a, fun x hx => (List.mem_cons.1 hx).elim (fun e => by rw [e]; exact hz') (b x)⟩
      · rintro ⟨a, b⟩
        exact ⟨a, fun x hx => b x (List.mem_cons_of_mem _ hx)⟩
    | false =>
      rw [if_neg Bool.false_ne_true, decide_eq_false]
      rintro ⟨_, b⟩
      have := (inTop_iff w cs[i]).2 (b _ List.mem_cons_self)
      rw [hz] at this
      cases this
open Classical in
theorem all_f (w : Bool) (l : List S37) (o : Int) (cs : List Int) (hl : l.length ≤ 1000) (hc : cs.length ≤ 1000) (k : Nat) (hk : 3000 < k) :
    erasureref19_all.f k w l o cs = some (decide (Right w l o ∧ ∀ x ∈ cs, 0 ≤ x ∧ x ≤ top w)) := by
  have h := all_l0 w l o cs (by omega) (by omega) cs.length k 0 (by omega) (by omega)
  rw [List.drop_zero] at h
  unfold erasureref19_all.f
  exact h
theorem str_one (x : Int) : strOfNums [x % 256] = ⟨#[u8 x]⟩ := by
  unfold strOfNums u8
  simp
theorem str_append (a b : List UInt8) : ((⟨a.toArray⟩ : ByteArray) ++ (⟨b.toArray⟩ : ByteArray)) = ⟨(a ++ b).toArray⟩ := by
  apply ByteArray.ext
  rw [ByteArray.data_append]
  simp
theorem rbytes_l0 (w : Bool) (l : List S37) (o : Int) (cs : List Int) (hc : cs.length ≤ 1000000) (hr : ∀ x ∈ cs, 0 ≤ x ∧ x ≤ top w) : ∀ (d k i : Nat) (acc : List UInt8), i + d = cs.length → d < k → acc.length ≤ 2 * i →
    erasureref19_Bytes.l0 k cs ⟨acc.toArray⟩ (i : Int) w l o = some (⟨(acc ++ bytesU w (cs.drop i)).toArray⟩, 0) := by
  intro d
  induction d with
  | zero =>
    intro k i acc hi hk ha
    obtain ⟨k, rfl⟩ : ∃ m, k = m + 1 := ⟨k - 1, by omega⟩
    have h1 : ¬ ((i : Int) < (cs.length : Int)) := by omega
    rw [erasureref19_Bytes.l0, if_neg h1, List.drop_eq_nil_of_le (by omega)]
    simp [bytesU]
  | succ d ih =>
    intro k i acc hi hk ha
    obtain ⟨k, rfl⟩ : ∃ m, k = m + 1 := ⟨k - 1, by omega⟩
    have h1 : (i : Int) < (cs.length : Int) := by omega
    have h0 : 0 ≤ (i : Int) := by omega
    have hw : wrap64 ((i : Int) + 1) = ((i + 1 : Nat) : Int) := by unfold wrap64; omega
    have hil : i < cs.length := by omega
    have hx := hr cs[i] (List.getElem_mem hil)
    have hih := fun acc => ih k (i + 1) acc (by omega) (by omega)
    rw [erasureref19_Bytes.l0, if_pos h1, rd_int cs i hil, hw, List.drop_eq_getElem_cons hil]
    generalize cs[i] = c at hx
    generalize cs.drop (i + 1) = t at hih
    have hb : bytesU w (c :: t) = codeU w c ++ bytesU w t := by simp [bytesU]
    have m1 : Int.tmod c 256 % 256 = c % 256 := by
      rw [Int.tmod_eq_emod_of_nonneg hx.1, Int.emod_emod_of_dvd c (by decide)]
    have htop : top w ≤ 65535 := by unfold top; split <;> omega
    have m2 : wrap64 (Int.tdiv c 256) % 256 = c / 256 % 256 := by
      rw [Int.tdiv_eq_ediv_of_nonneg hx.1]
      have : wrap64 (c / 256) = c / 256 := by unfold wrap64; omega
      rw [this]
    have hs1 : ∀ x : UInt8, (⟨#[x]⟩ : ByteArray) = ⟨[x].toArray⟩ := fun x => rfl
    have hsz : ∀ l : List UInt8, (⟨l.toArray⟩ : ByteArray).size = l.length := fun l => by simp [ByteArray.size]
    cases w with
    | true =>
      rw [if_pos rfl, if_pos h0, m1, m2, Option.bind_some, str_one, hs1, hsz, hsz, if_pos (by simp; omega), Option.bind_some, str_one, hs1, str_append, hsz, hsz, if_pos (by simp; omega), str_append, hih _ (by simp; omega), hb]
      simp [codeU]
    | false =>
      rw [if_neg Bool.false_ne_true, if_pos h0, m1, Option.bind_some, str_one, hs1, hsz, hsz, if_pos (by simp; omega), str_append, hih _ (by simp; omega), hb]
      simp [codeU]
open Classical in
theorem rbytes_f (w : Bool) (l : List S37) (o : Int) (cs : List Int) (hl : l.length ≤ 1000) (hc : cs.length ≤ 1000) (k : Nat) (hk : 3000 < k) :
    erasureref19_Bytes.f k w l o cs = some (if Right w l o ∧ ∀ x ∈ cs, 0 ≤ x ∧ x ≤ top w then (⟨(bytesU w cs).toArray⟩, 0) else (⟨#[]⟩, 1)) := by
  unfold erasureref19_Bytes.f
  rw [all_f w l o cs hl hc k hk, Option.bind_some]
  by_cases h : Right w l o ∧ ∀ x ∈ cs, 0 ≤ x ∧ x ≤ top w
  · rw [if_pos (decide_eq_true h), if_pos h]
    have := rbytes_l0 w l o cs (by omega) h.2 cs.length k 0 [] (by omega) (by omega) (by simp)
    rw [List.drop_zero, List.nil_append] at this
    exact this
  · rw [if_neg (fun e => h (of_decide_eq_true e)), if_neg h]
theorem half_f (u : ByteArray) (i : Nat) (h : i + 1 < u.size) (hu : u.size ≤ 1000000) : erasureref18_half.f u (i : Int) = some (halfAt u i) := by
  have r1 := bt_range u (i : Int)
  have r2 := bt_range u ((i : Int) + 1)
  have w1 : wrap64 ((i : Int) + 1) = (i : Int) + 1 := by unfold wrap64; omega
  unfold erasureref18_half.f halfAt
  rw [w1, if_pos (by omega), if_pos (by omega), if_pos (by omega), if_pos (by omega), if_pos (by omega)]
  congr 1
  have a1 : wrap64 (bt u (i : Int)) = bt u (i : Int) := by unfold wrap64; omega
  have a2 : wrap64 (bt u ((i : Int) + 1)) = bt u ((i : Int) + 1) := by unfold wrap64; omega
  rw [a1, a2]
  have a3 : wrap64 (256 * bt u (i : Int)) = 256 * bt u (i : Int) := by unfold wrap64; omega
  rw [a3]
  unfold wrap64
  omega
theorem put_f (r : Int) (h0 : 0 ≤ r) (h1 : r ≤ 1114111) : erasureref18_put.f r = some (strOfNums (putI r)) := by
  have d64 : Int.tdiv r 64 = r / 64 := Int.tdiv_eq_ediv_of_nonneg h0
  have d4096 : Int.tdiv r 4096 = r / 4096 := Int.tdiv_eq_ediv_of_nonneg h0
  have d262144 : Int.tdiv r 262144 = r / 262144 := Int.tdiv_eq_ediv_of_nonneg h0
  have m64 : Int.tmod r 64 = r % 64 := Int.tmod_eq_emod_of_nonneg h0
  have w64 : wrap64 (r / 64) = r / 64 := by unfold wrap64; omega
  have w4096 : wrap64 (r / 4096) = r / 4096 := by unfold wrap64; omega
  have w262144 : wrap64 (r / 262144) = r / 262144 := by unfold wrap64; omega
  have n64 : Int.tmod (r / 64) 64 = r / 64 % 64 := Int.tmod_eq_emod_of_nonneg (by omega)
  have n4096 : Int.tmod (r / 4096) 64 = r / 4096 % 64 := Int.tmod_eq_emod_of_nonneg (by omega)
  have x1 : wrap64 (128 + r % 64) % 256 = 128 + r % 64 := by unfold wrap64; omega
  have x2 : wrap64 (128 + r / 64 % 64) % 256 = 128 + r / 64 % 64 := by unfold wrap64; omega
  have x3 : wrap64 (128 + r / 4096 % 64) % 256 = 128 + r / 4096 % 64 := by unfold wrap64; omega
  unfold erasureref18_put.f putI
  rw [d64, d4096, d262144, m64, w64, w4096, w262144, n64, n4096, x1, x2, x3]
  by_cases c1 : r < 128
  · rw [if_pos c1, if_pos c1, show r % 256 = r by omega]
  · rw [if_neg c1, if_neg c1]
    by_cases c2 : r < 2048
    · rw [if_pos c2, if_pos c2, show wrap64 (192 + r / 64) % 256 = 192 + r / 64 by unfold wrap64; omega]
    · rw [if_neg c2, if_neg c2]
      by_cases c3 : r < 65536
      · rw [if_pos c3, if_pos c3, show wrap64 (224 + r / 4096) % 256 = 224 + r / 4096 by unfold wrap64; omega]
      · rw [if_neg c3, if_neg c3, show wrap64 (240 + r / 262144) % 256 = 240 + r / 262144 by unfold wrap64; omega]
theorem str_nums (a b : List Int) : strOfNums a ++ strOfNums b = strOfNums (a ++ b) := by
  unfold strOfNums
  rw [List.map_append]
  exact str_append _ _
def outT : Option (List Int) → ByteArray × Int
  | none => (⟨#[]⟩, 4)
  | some l => (strOfNums l, 0)
theorem outT_R (u : ByteArray) : outT (textI (bytesOf u)) = textR u := by
  unfold textR
  cases textI (bytesOf u) <;> rfl
theorem wrap_big (x : Int) (h0 : -9223372036854775808 ≤ x) (h1 : x ≤ 9223372036854775807) : wrap64 x = x := by unfold wrap64; omega
theorem rtext_l0 (u : ByteArray) (hu : u.size ≤ 1000000) (he : u.size % 2 = 0) : ∀ (d k i : Nat) (acc : List Int), u.size ≤ i + d → i ≤ u.size → i % 2 = 0 → 3 * d + 3 < k → acc.length ≤ 2 * i →
    erasureref18_Text.l0 k u (strOfNums acc) (i : Int) = some (outT ((textI ((bytesOf u).drop i)).map (acc ++ ·))) := by
  intro d
  induction d with
  | zero =>
    intro k i acc hd hi hp hk ha
    obtain ⟨k, rfl⟩ : ∃ m, k = m + 1 := ⟨k - 1, by omega⟩
    have h1 : ¬ ((i : Int) < (u.size : Int)) := by omega
    rw [erasureref18_Text.l0, if_neg h1, text_end u i (by omega)]
    simp [outT]
  | succ d ih =>
    intro k i acc hd hi hp hk ha
    by_cases hlt : i < u.size
    case neg =>
      obtain ⟨k, rfl⟩ : ∃ m, k = m + 1 := ⟨k - 1, by omega⟩
      have h1 : ¬ ((i : Int) < (u.size : Int)) := by omega
      rw [erasureref18_Text.l0, if_neg h1, text_end u i (by omega)]
      simp [outT]
    obtain ⟨k, rfl⟩ : ∃ m, k = m + 3 := ⟨k - 3, by omega⟩
    have h1 : (i : Int) < (u.size : Int) := by omega
    have hi1 : i + 1 < u.size := by omega
    have hr := halfAt_range u i
    have w2 : wrap64 ((i : Int) + 2) = ((i + 2 : Nat) : Int) := by rw [wrap_big _ (by omega) (by omega)]; omega
    rw [erasureref18_Text.l0, if_pos h1, half_f u i hi1 hu, Option.bind_some]
    have one : halfAt u i < 55296 ∨ 57343 < halfAt u i → erasureref18_Text.j1 (k + 2) u (strOfNums acc) (i : Int) (halfAt u i) false = some (outT ((textI ((bytesOf u).drop i)).map (acc ++ ·))) := by
      intro hs
      have hpl := putI_len (halfAt u i)
      rw [erasureref18_Text.j1, if_neg Bool.false_ne_true, put_f _ hr.1 (by omega), Option.bind_some, strOfNums_size, strOfNums_size, if_pos (by omega), str_nums, w2]
      by_cases hd2 : u.size ≤ i + 2 + d
      · rw [ih (k + 1) (i + 2) (acc ++ putI (halfAt u i)) hd2 (by omega) (by omega) (by omega) (by simp; omega), text_one u i hi1 hs, text_acc]
      · omega
    by_cases h5 : halfAt u i ≥ 55296
    case neg =>
      rw [if_neg h5]
      exact one (.inl (by omega))
    rw [if_pos h5]
    by_cases h6 : halfAt u i ≤ 57343
    case neg =>
      rw [decide_eq_false h6]
      exact one (.inr (by omega))
    rw [decide_eq_true h6, erasureref18_Text.j1, if_pos rfl, w2]
    have bad : 56320 ≤ halfAt u i ∨ halfAt u (i + 2) < 56320 ∨ 57343 < halfAt u (i + 2) → some ((⟨#[]⟩ : ByteArray), (4 : Int)) = some (outT ((textI ((bytesOf u).drop i)).map (acc ++ ·))) := by
      intro hb
      rw [text_bad u i hi1 he hp ⟨h5, h6⟩ hb]
      rfl
    by_cases h7 : halfAt u i > 56319
    · rw [if_pos h7, erasureref18_Text.j2, if_pos rfl]
      exact bad (.inl (by omega))
    rw [if_neg h7]
    by_cases h8 : i + 2 < u.size
    case neg =>
      rw [if_pos (by omega), erasureref18_Text.j2, if_pos rfl]
      refine bad (.inr (.inl ?_))
      unfold halfAt
      rw [if_neg h8]
      omega
    have hr2 := halfAt_range u (i + 2)
    rw [if_neg (by omega), half_f u (i + 2) (by omega) hu, Option.bind_some]
    by_cases h9 : halfAt u (i + 2) < 56320
    · rw [if_pos h9, erasureref18_Text.j2, if_pos rfl]
      exact bad (.inr (.inl h9))
    rw [if_neg h9, Option.bind_some]
    by_cases h10 : halfAt u (i + 2) > 57343
    · rw [decide_eq_true h10, erasureref18_Text.j2, if_pos rfl]
      exact bad (.inr (.inr (by omega)))
    obtain ⟨hi4, hT⟩ := text_two u i hi1 he hp ⟨h5, by omega⟩ ⟨by omega, by omega⟩
    rw [decide_eq_false h10, erasureref18_Text.j2, if_neg Bool.false_ne_true, w2, half_f u (i + 2) (by omega) hu, Option.bind_some]
    have wr : wrap64 (wrap64 (wrap64 (65536 + wrap64 (1024 * wrap64 (halfAt u i - 55296))) + halfAt u (i + 2)) - 56320) = 65536 + (halfAt u i - 55296) * 1024 + (halfAt u (i + 2) - 56320) := by
      rw [wrap_big (halfAt u i - 55296) (by omega) (by omega), wrap_big (1024 * (halfAt u i - 55296)) (by omega) (by omega), wrap_big (65536 + 1024 * (halfAt u i - 55296)) (by omega) (by omega), wrap_big (65536 + 1024 * (halfAt u i - 55296) + halfAt u (i + 2)) (by omega) (by omega), wrap_big _ (by omega) (by omega)]
      omega
    rw [wr, hT]
    generalize hrr : 65536 + (halfAt u i - 55296) * 1024 + (halfAt u (i + 2) - 56320) = rr
    have hpl := putI_len rr
    have w4 : wrap64 (((i + 2 : Nat) : Int) + 2) = ((i + 4 : Nat) : Int) := by rw [wrap_big _ (by omega) (by omega)]; omega
    rw [put_f rr (by omega) (by omega), Option.bind_some, strOfNums_size, strOfNums_size, if_pos (by omega), str_nums, w4, ih k (i + 4) (acc ++ putI rr) (by omega) (by omega) (by omega) (by omega) (by simp; omega), text_acc]
theorem rtext_f (u : ByteArray) (hu : u.size ≤ 1000) (k : Nat) (hk : 4000 < k) : erasureref18_Text.f k u = some (textS u) := by
  unfold erasureref18_Text.f textS
  by_cases he : u.size % 2 = 0
  · rw [if_pos (by omega), if_pos he]
    have h := rtext_l0 u (by omega) he u.size k 0 [] (by omega) (by omega) rfl (by omega) (by simp)
    rw [List.drop_zero] at h
    have e : ((textI (bytesOf u)).map (([] : List Int) ++ ·)) = textI (bytesOf u) := by cases textI (bytesOf u) <;> simp
    rw [e, outT_R] at h
    exact h
  · rw [if_neg (by omega), if_neg he]
theorem rmeans_l0 (w : Bool) (l : List S37) (o : Int) (cs : List Int) (hl : l.length ≤ 1000) (hf : few l = true) (hc : cs.length ≤ 1000) : ∀ (d k i : Nat) (acc : List UInt8), i + d = cs.length → d + 5000 < k → acc.length ≤ 2000 * i →
    erasureref19_Means.l0 k cs ⟨acc.toArray⟩ (i : Int) w l o = some (meansR l o (cs.drop i) acc) := by
  intro d
  induction d with
  | zero =>
    intro k i acc hi hk ha
    obtain ⟨k, rfl⟩ : ∃ m, k = m + 1 := ⟨k - 1, by omega⟩
    have h1 : ¬ ((i : Int) < (cs.length : Int)) := by omega
    rw [erasureref19_Means.l0, if_neg h1, List.drop_eq_nil_of_le (by omega), meansR]
  | succ d ih =>
    intro k i acc hi hk ha
    obtain ⟨k, rfl⟩ : ∃ m, k = m + 1 := ⟨k - 1, by omega⟩
    have h1 : (i : Int) < (cs.length : Int) := by omega
    have h0 : 0 ≤ (i : Int) := by omega
    have hw : wrap64 ((i : Int) + 1) = ((i + 1 : Nat) : Int) := by unfold wrap64; omega
    have hil : i < cs.length := by omega
    have hih := fun acc => ih k (i + 1) acc (by omega) (by omega)
    rw [erasureref19_Means.l0, if_pos h1, if_pos h0, rd_int cs i hil, hw, List.drop_eq_getElem_cons hil, rfind_f w l o _ (by omega) k (by omega), Option.bind_some]
    dsimp only
    have hsz := glyph_few l o cs[i] hf
    have hts := textS_size (glyphOf l o cs[i]).f2
    rw [rtext_f _ hsz k (by omega), Option.bind_some, meansR]
    by_cases h2 : (textS (glyphOf l o cs[i]).f2).2 = 0
    · have hsize : ∀ l : List UInt8, (⟨l.toArray⟩ : ByteArray).size = l.length := fun l => by simp [ByteArray.size]
      have hap : ∀ s : ByteArray, (⟨acc.toArray⟩ : ByteArray) ++ s = ⟨(acc ++ s.data.toList).toArray⟩ := fun s => by
        apply ByteArray.ext
        rw [ByteArray.data_append]
        simp
      have hll : (acc ++ (textS (glyphOf l o cs[i]).f2).1.data.toList).length ≤ 2000 * (i + 1) := by
        have : (textS (glyphOf l o cs[i]).f2).1.data.toList.length = (textS (glyphOf l o cs[i]).f2).1.size := by simp
        rw [List.length_append, this]
        omega
      rw [if_pos h2, if_pos h2, hsize, if_pos (by omega), hap, hih _ hll]
    · rw [if_neg h2, if_neg h2]
open Classical in
theorem rmeans_f (w : Bool) (l : List S37) (o : Int) (cs : List Int) (hl : l.length ≤ 1000) (hc : cs.length ≤ 1000) (hf : Right w l o → few l = true) (k : Nat) (hk : 10000 < k) :
    erasureref19_Means.f k w l o cs = some (if Right w l o ∧ ∀ x ∈ cs, 0 ≤ x ∧ x ≤ top w then meansR l o cs [] else (⟨#[]⟩, 1)) := by
  unfold erasureref19_Means.f
  rw [all_f w l o cs hl hc k (by omega), Option.bind_some]
  by_cases h : Right w l o ∧ ∀ x ∈ cs, 0 ≤ x ∧ x ≤ top w
  · rw [if_pos (decide_eq_true h), if_pos h]
    have := rmeans_l0 w l o cs hl (hf h.1) hc cs.length k 0 [] (by omega) (by omega) (by simp)
    rw [List.drop_zero] at this
    exact this
  · rw [if_neg (fun e => h (of_decide_eq_true e)), if_neg h]
open Classical in
theorem means_ff (w : Bool) (l : List S37) (o : Int) (cs : List Int) (hl : l.length ≤ 1000) (hc : cs.length ≤ 1000) (hf : Right w l o → few l = true) (k : Nat) (hk : 10000 < k) :
    font_Means.f k w l o cs = some (if Right w l o ∧ ∀ x ∈ cs, 0 ≤ x ∧ x ≤ top w then meansR l o cs [] else (⟨#[]⟩, 1)) := by
  unfold font_Means.f
  rw [if_pos (by omega), have_f w l o cs (by omega) k (by omega), Option.bind_some]
  by_cases h : Right w l o ∧ ∀ x ∈ cs, 0 ≤ x ∧ x ≤ top w
  · rw [if_pos (decide_eq_true h), if_pos (hf h.1), if_pos h]
  · rw [if_neg (fun e => h (of_decide_eq_true e)), if_neg h]
theorem right_few (w : Bool) (l : List S37) (o : Int) (hR : Right w l o) : few l = true := by
  unfold few
  rw [List.all_eq_true]
  intro g hg
  obtain ⟨i, hi, rfl⟩ := List.getElem_of_mem hg
  have hok := (hR.1 i (Nat.zero_le _) hi).1
  rw [List.getD_eq_getElem?_getD, List.getElem?_eq_getElem hi, Option.getD_some] at hok
  refine decide_eq_true ?_
  rcases hok.t with h | h
  · omega
  · unfold meansB at h
    rw [Bool.and_eq_true, Bool.and_eq_true] at h
    have := of_decide_eq_true h.2.1
    omega
end Go.Proofs.Ytjhpcfpccnfniaa.Plain
