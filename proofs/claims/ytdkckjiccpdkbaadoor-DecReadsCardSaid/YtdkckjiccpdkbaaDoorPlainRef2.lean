/- The document's Parse, in plain words; the law DecReads. -/
import Derived.Test.YtdkckjiccpdkbaaDoorPlainRef
namespace Go.Proofs.YtdkckjiccpdkbaaDoor.Plain
open Go.RowKit Go.Proofs.YtdkckjiccpdkbaaDoorW.PrintWords Go.Proofs.YtdkckjiccpdkbaaDoor.A Go.Proofs.YtdkckjiccpdkbaaDoor.B Go.Proofs.YtdkckjiccpdkbaaDoor.H Go.Proofs.YtdkckjiccpdkbaaDoor.E

def dgn (c : UInt8) : Nat := c.toNat - 48
theorem bt_get (t : ByteArray) (i : Nat) (c : UInt8) (h : t.data.toList[i]? = some c) : bt t (i : Int) = (c.toNat : Int) := by
  have hl : i < t.data.toList.length := by
    rcases Nat.lt_or_ge i t.data.toList.length with h2 | h2
    · exact h2
    · rw [List.getElem?_eq_none h2] at h; cases h
  have hs : i < t.size := by rw [Array.length_toList] at hl; exact hl
  unfold bt
  rw [Int.toNat_natCast, dif_pos hs]
  have e : t[i] = c := by
    have h3 : t.data[i]? = some c := by rw [← Array.getElem?_toList]; exact h
    have h4 : t.data[i]? = some (t.data[i]'hs) := Array.getElem?_eq_getElem hs
    rw [h4] at h3
    exact Option.some.inj h3
  rw [e]
theorem rv_digits : ∀ (l : List UInt8), rv (l.map dgn).reverse = val l := by
  intro l
  have key : ∀ (l : List UInt8), rv (l.reverse.map dgn) = val l.reverse.reverse := by
    intro l
    induction l with
    | nil => rfl
    | cons c t ih =>
      rw [List.reverse_cons, List.map_append, rv_app]
      have e : rv (List.map dgn [c]) = dgn c := by show dgn c + 10 * 0 = dgn c; omega
      rw [e, ih, List.reverse_append, List.length_map, List.length_reverse]
      show val t.reverse.reverse + 10 ^ t.length * dgn c = val (c :: t.reverse.reverse)
      rw [List.reverse_reverse]
      have e2 : val (c :: t) = valA (0 * 10 + (c.toNat - 48)) t := rfl
      rw [e2, valA_eq]
      unfold dgn
      grind
  have h := key l
  rw [List.reverse_reverse, List.map_reverse] at h
  exact h
theorem okD_digits (l : List UInt8) (h : allDig l) : okD (l.map dgn).reverse := fun d hd => by
  obtain ⟨c, hc, rfl⟩ := List.mem_map.1 (List.mem_reverse.1 hd)
  have := h c hc
  unfold isDig at this
  unfold dgn
  omega
/-- The digits turned round, and told. -/
theorem turn_f (b : Bool) (X : List Nat) (hX : okD X) (hl : X.length ≤ 300) (s : Nat) (hs : s ≤ 300) : ∀ (i : Nat) (acc : List Nat) (k : Nat), i ≤ X.length → acc.length + i ≤ 400 → acc ++ (X.take i).reverse = X.reverse → i + 1100 ≤ k →
    erasureref01_Parse.l1 k (dIs X) ((i : Int) - 1) b (dIs acc) (s : Int) = some (told b (rv X.reverse) s) := by
  intro i
  induction i with
  | zero =>
    intro acc k hi ha he hk
    obtain ⟨k, rfl⟩ : ∃ q, k = q + 1 := ⟨k - 1, by omega⟩
    have he' : acc = X.reverse := by rw [← he]; show acc = acc ++ []; rw [List.append_nil]
    subst he'
    have fin3 : ∀ z : Int × Int × Int, some (z.1, z.2.1, z.2.2) = some z := fun z => rfl
    rw [erasureref01_Parse.l1, if_neg (by omega), told_ref b s X.reverse k (by omega) (by rw [List.length_reverse]; omega) (fun d hd => hX d (List.mem_reverse.1 hd)) (by rw [List.length_reverse]; omega), Option.bind_some, fin3]
  | succ i ih =>
    intro acc k hi ha he hk
    obtain ⟨k, rfl⟩ : ∃ q, k = q + 1 := ⟨k - 1, by omega⟩
    obtain ⟨d, hd⟩ : ∃ d, X[i]? = some d := ⟨X[i]'(by omega), List.getElem?_eq_getElem (by omega)⟩
    have ht : X.take (i + 1) = X.take i ++ [d] := by rw [List.take_add_one, hd]; rfl
    rw [erasureref01_Parse.l1, if_pos (by omega), if_pos (by omega), dIs_len, if_pos (by omega), dIs_len, if_pos (by omega), show ((i + 1 : Nat) : Int) - 1 = (i : Int) from by omega, dIs_rd X i d hd, wsm _ (by omega) (by omega)]
    have := ih (acc ++ [d]) k (by omega) (by rw [List.length_append]; show _ + 1 + _ ≤ _; omega) (by rw [List.append_assoc, ← List.singleton_append, ← List.append_assoc] at *; rw [← he, ht, List.reverse_append]; simp) (by omega)
    rw [dIs_app] at this
    exact this
def doneR (len : Nat) (b : Bool) (l : List UInt8) (s : Nat) : Int × Int × Int := if l = [] ∨ len > 40 then (0, 0, 4) else told b (val l) s
theorem done_f (t : ByteArray) (ht : t.size ≤ 300) (b pt : Bool) (l : List UInt8) (hd : allDig l) (hl : l.length ≤ t.size) (s : Nat) (hs : s ≤ l.length) (k : Nat) (hk : 1500 ≤ k) :
    erasureref01_Parse.l0 k t (t.size : Int) (dIs (l.map dgn)) pt b (s : Int) = some (doneR t.size b l s) := by
  obtain ⟨k, rfl⟩ : ∃ q, k = q + 2 := ⟨k - 2, by omega⟩
  have hokm : okD (l.map dgn) := fun d hd' => okD_digits l hd d (List.mem_reverse.2 hd')
  unfold doneR
  rw [erasureref01_Parse.l0, if_neg (by omega), dIs_len, List.length_map]
  by_cases h0 : l = []
  · rw [if_pos (by rw [h0]; rfl), erasureref01_Parse.j5, if_pos rfl, if_pos (Or.inl h0)]
  · have hne : l.length ≠ 0 := fun h => h0 (List.length_eq_zero_iff.1 h)
    rw [if_neg (by omega), erasureref01_Parse.j5]
    by_cases h40 : t.size > 40
    · rw [if_pos (by rw [decide_eq_true_iff]; omega), if_pos (Or.inr h40)]
    · rw [if_neg (by rw [decide_eq_true_iff]; omega), if_neg (by intro h; exact h.elim h0 h40), dIs_len, List.length_map, wsm _ (by omega) (by omega)]
      have h := turn_f b (l.map dgn) hokm (by rw [List.length_map]; omega) s (by omega) l.length [] k (by rw [List.length_map]; exact Nat.le_refl _) (by show 0 + _ ≤ _; omega) (by rw [List.nil_append, ← List.length_map (f := dgn), List.take_length]) (by omega)
      rw [rv_digits] at h
      exact h
theorem scanT (t : ByteArray) (ht : t.size ≤ 300) (b : Bool) : ∀ (rest : List UInt8) (i : Nat) (l : List UInt8) (s k : Nat), t.data.toList.drop i = rest → i ≤ t.size → allDig l → l.length ≤ i → s ≤ l.length → 3 * rest.length + 1500 ≤ k →
    erasureref01_Parse.l0 k t (i : Int) (dIs (l.map dgn)) true b (s : Int) = some (if allDig rest then doneR t.size b (l ++ rest) (s + rest.length) else (0, 0, 4)) := by
  intro rest
  have hsz : t.data.toList.length = t.size := Array.length_toList
  induction rest with
  | nil =>
    intro i l s k hr hi hd hl hs hk
    have hi2 : i = t.size := by
      have := List.drop_eq_nil_iff.1 hr
      omega
    subst hi2
    rw [if_pos (show allDig [] from fun c hc => by cases hc), List.append_nil]
    exact done_f t ht b true l hd hl s hs k (by omega)
  | cons c r ih =>
    intro i l s k hr hi hd hl hs hk
    obtain ⟨k, rfl⟩ : ∃ q, k = q + 3 := ⟨k - 3, by omega⟩
    rw [List.length_cons] at hk
    have hlt : i < t.size := by
      rcases Nat.lt_or_ge i t.size with h | h
      · exact h
      · rw [List.drop_eq_nil_iff.2 (by omega)] at hr; cases hr
    have hc : t.data.toList[i]? = some c := by
      have := congrArg (·[0]?) hr
      simpa using this
    have hr2 : t.data.toList.drop (i + 1) = r := by rw [← List.drop_drop, hr]; rfl
    have hb := bt_get t i c hc
    have e0 : erasureref01_Parse.l0 (k + 3) t (i : Int) (dIs (l.map dgn)) true b (s : Int) = erasureref01_Parse.j3 (k + 2) t (i : Int) (dIs (l.map dgn)) true false b (s : Int) := by
      rw [erasureref01_Parse.l0, if_pos (by omega), if_pos (by omega)]
      split <;> rfl
    rw [e0, erasureref01_Parse.j3, if_neg (by decide), if_pos (by omega), if_pos (by omega), hb]
    by_cases hdig : isDig c
    · obtain ⟨g1, g2⟩ := id hdig
      rw [if_neg (by omega), erasureref01_Parse.j4, if_neg (by rw [decide_eq_true_iff]; omega), if_pos (by omega), if_pos (by omega), dIs_len, List.length_map, if_pos (by omega), Option.bind_some, if_pos rfl, hb, wsm _ (by omega) (by omega), wsm _ (by omega) (by omega)]
      have e1 : dIs (l.map dgn) ++ [((c.toNat : Int) - 48) % 256] = dIs ((l ++ [c]).map dgn) := by
        rw [List.map_append, dIs_app]
        congr 1
        show [_] = [((dgn c : Nat) : Int)]
        unfold dgn
        congr 1
        omega
      rw [e1]
      have := ih (i + 1) (l ++ [c]) (s + 1) k hr2 (by omega) ((allDig_append _ _).2 ⟨hd, fun x hx => by rw [List.mem_singleton.1 hx]; exact hdig⟩) (by rw [List.length_append]; show _ + 1 ≤ _; omega) (by rw [List.length_append]; show _ ≤ _ + 1; omega) (by omega)
      refine this.trans ?_
      have hiff : allDig (c :: r) ↔ allDig r := by rw [allDig_cons]; exact ⟨fun h => h.2, fun h => ⟨hdig, h⟩⟩
      rw [List.append_assoc, List.singleton_append, List.length_cons, show s + 1 + r.length = s + (r.length + 1) from by omega]
      by_cases hr3 : allDig r
      · rw [if_pos hr3, if_pos (hiff.2 hr3)]
      · rw [if_neg hr3, if_neg (fun h => hr3 (hiff.1 h))]
    · have hn : ¬ allDig (c :: r) := fun h => hdig ((allDig_cons c r).1 h).1
      rw [if_neg hn]
      by_cases h48 : (c.toNat : Int) < 48
      · rw [if_pos h48, erasureref01_Parse.j4, if_pos rfl]
      · rw [if_neg h48, erasureref01_Parse.j4, if_pos (by rw [decide_eq_true_iff]; unfold isDig at hdig; omega)]
theorem cut_cons (c : UInt8) (t : List UInt8) (h : c ≠ 46) : (cutAt (c :: t) 46).1 = c :: (cutAt t 46).1 ∧ (cutAt (c :: t) 46).2.1 = (cutAt t 46).2.1 := by
  have hr := indexByte_range t 46
  have e : Lib.indexByte (c :: t) 46 = if Lib.indexByte t 46 == -1 then -1 else Lib.indexByte t 46 + 1 := by
    rw [Lib.indexByte, if_neg (by rw [beq_iff_eq]; exact h)]
  by_cases h1 : Lib.indexByte t 46 = -1
  · have e1 : Lib.indexByte (c :: t) 46 = -1 := by rw [e, if_pos (by rw [beq_iff_eq]; exact h1)]
    unfold cutAt
    rw [if_neg (by omega), if_neg (by omega)]
    exact ⟨rfl, rfl⟩
  · have e1 : Lib.indexByte (c :: t) 46 = Lib.indexByte t 46 + 1 := by rw [e, if_neg (by rw [beq_iff_eq]; exact h1)]
    have e2 : (Lib.indexByte (c :: t) 46).toNat = (Lib.indexByte t 46).toNat + 1 := by omega
    unfold cutAt
    rw [if_pos (by omega), if_pos (by omega), e2]
    exact ⟨rfl, rfl⟩
theorem cut_first (t : List UInt8) : cutAt (46 :: t) 46 = ([], t, true) := rfl
theorem cut_nil : cutAt [] 46 = ([], [], false) := rfl
theorem scanF (t : ByteArray) (ht : t.size ≤ 300) (b : Bool) : ∀ (rest : List UInt8) (i : Nat) (l : List UInt8) (k : Nat), t.data.toList.drop i = rest → i ≤ t.size → allDig l → l.length ≤ i → 3 * rest.length + 1600 ≤ k →
    erasureref01_Parse.l0 k t (i : Int) (dIs (l.map dgn)) false b 0 = some (if allDig ((cutAt rest 46).1 ++ (cutAt rest 46).2.1) then doneR t.size b (l ++ ((cutAt rest 46).1 ++ (cutAt rest 46).2.1)) (cutAt rest 46).2.1.length else (0, 0, 4)) := by
  intro rest
  have hsz : t.data.toList.length = t.size := Array.length_toList
  induction rest with
  | nil =>
    intro i l k hr hi hd hl hk
    have hi2 : i = t.size := by
      have := List.drop_eq_nil_iff.1 hr
      omega
    subst hi2
    rw [cut_nil]
    dsimp only
    rw [List.append_nil, List.append_nil, if_pos (show allDig [] from fun c hc => by cases hc)]
    exact done_f t ht b false l hd hl 0 (Nat.zero_le _) k (by omega)
  | cons c r ih =>
    intro i l k hr hi hd hl hk
    obtain ⟨k, rfl⟩ : ∃ q, k = q + 3 := ⟨k - 3, by omega⟩
    rw [List.length_cons] at hk
    have hlt : i < t.size := by
      rcases Nat.lt_or_ge i t.size with h | h
      · exact h
      · rw [List.drop_eq_nil_iff.2 (by omega)] at hr; cases hr
    have hc : t.data.toList[i]? = some c := by
      have := congrArg (·[0]?) hr
      simpa using this
    have hr2 : t.data.toList.drop (i + 1) = r := by rw [← List.drop_drop, hr]; rfl
    have hb := bt_get t i c hc
    by_cases hdot : c = 46
    · subst hdot
      rw [erasureref01_Parse.l0, if_pos (by omega), if_pos (by omega), if_pos (by rw [hb]; rfl), erasureref01_Parse.j3, if_pos (show (!false) = true from rfl), wsm _ (by omega) (by omega), cut_first]
      dsimp only
      have := scanT t ht b r (i + 1) l 0 (k + 1) hr2 (by omega) hd (by omega) (Nat.zero_le _) (by omega)
      rw [Nat.zero_add] at this
      exact this
    · obtain ⟨c1, c2⟩ := cut_cons c r hdot
      have hne : (c.toNat : Int) ≠ 46 := fun h => hdot (UInt8.toNat_inj.1 (by show c.toNat = 46; omega))
      rw [c1, c2, List.cons_append]
      rw [erasureref01_Parse.l0, if_pos (by omega), if_pos (by omega), if_neg (by rw [hb]; exact hne), erasureref01_Parse.j3, if_neg (by decide), if_pos (by omega), if_pos (by omega), hb]
      by_cases hdig : isDig c
      · obtain ⟨g1, g2⟩ := id hdig
        rw [if_neg (by omega), erasureref01_Parse.j4, if_neg (by rw [decide_eq_true_iff]; omega), if_pos (by omega), if_pos (by omega), dIs_len, List.length_map, if_pos (by omega), Option.bind_some, if_neg (by decide), hb, wsm _ (by omega) (by omega)]
        have e1 : dIs (l.map dgn) ++ [((c.toNat : Int) - 48) % 256] = dIs ((l ++ [c]).map dgn) := by
          rw [List.map_append, dIs_app]
          congr 1
          show [_] = [((dgn c : Nat) : Int)]
          unfold dgn
          congr 1
          omega
        rw [e1]
        have := ih (i + 1) (l ++ [c]) k hr2 (by omega) ((allDig_append _ _).2 ⟨hd, fun x hx => by rw [List.mem_singleton.1 hx]; exact hdig⟩) (by rw [List.length_append]; show _ + 1 ≤ _; omega) (by omega)
        refine this.trans ?_
        have hiff : allDig (c :: ((cutAt r 46).1 ++ (cutAt r 46).2.1)) ↔ allDig ((cutAt r 46).1 ++ (cutAt r 46).2.1) := by rw [allDig_cons]; exact ⟨fun h => h.2, fun h => ⟨hdig, h⟩⟩
        rw [List.append_assoc l, List.singleton_append]
        by_cases hr3 : allDig ((cutAt r 46).1 ++ (cutAt r 46).2.1)
        · rw [if_pos hr3, if_pos (hiff.2 hr3)]
        · rw [if_neg hr3, if_neg (fun h => hr3 (hiff.1 h))]
      · have hn : ¬ allDig (c :: ((cutAt r 46).1 ++ (cutAt r 46).2.1)) := fun h => hdig ((allDig_cons c _).1 h).1
        rw [if_neg hn]
        by_cases h48 : (c.toNat : Int) < 48
        · rw [if_pos h48, erasureref01_Parse.j4, if_pos rfl]
        · rw [if_neg h48, erasureref01_Parse.j4, if_pos (by rw [decide_eq_true_iff]; unfold isDig at hdig; omega)]
theorem done_parse (l : List UInt8) (n : Nat) (hn : l.length = n) :
    (if allDig ((cutAt (headB l).2 46).1 ++ (cutAt (headB l).2 46).2.1) then doneR n (headB l).1 ([] ++ ((cutAt (headB l).2 46).1 ++ (cutAt (headB l).2 46).2.1)) (cutAt (headB l).2 46).2.1.length else (0, 0, 4)) = parseL l := by
  unfold parseL doneR
  rw [List.nil_append, hn]
  by_cases h1 : allDig ((cutAt (headB l).2 46).1 ++ (cutAt (headB l).2 46).2.1)
  · rw [if_pos h1]
    by_cases h2 : (cutAt (headB l).2 46).1 ++ (cutAt (headB l).2 46).2.1 = [] ∨ n > 40
    · rw [if_pos h2, if_pos (by rcases h2 with h2 | h2; exact Or.inr (Or.inl h2); exact Or.inl h2)]
    · rw [if_neg h2, if_neg (by intro h; rcases h with h | h | h; exact h2 (Or.inr h); exact h2 (Or.inl h); exact h h1)]
  · rw [if_neg h1, if_pos (Or.inr (Or.inr h1))]
theorem parse_ref (t : ByteArray) (ht : t.size ≤ 300) (k : Nat) (hk : 3000 ≤ k) : erasureref01_Parse.f k t = some (parseL t.data.toList) := by
  obtain ⟨k, rfl⟩ : ∃ q, k = q + 2 := ⟨k - 2, by omega⟩
  have hsz : t.data.toList.length = t.size := Array.length_toList
  have hfin := done_parse t.data.toList t.size hsz
  have hlist : t.toList = t.data.toList := ByteArray.toList_eq t
  unfold erasureref01_Parse.f
  rw [hlist]
  cases hq : t.data.toList with
  | nil =>
    rw [hq] at hfin
    have hs0 : t.size = 0 := by rw [← hsz, hq]; rfl
    rw [if_pos rfl, erasureref01_Parse.j0, if_neg (by decide), erasureref01_Parse.j1]
    have := scanF t ht false [] 0 [] k (by rw [hq]; rfl) (Nat.zero_le _) (fun c hc => by cases hc) (Nat.zero_le _) (by show 3 * 0 + 1600 ≤ k; omega)
    exact this.trans (congrArg some hfin)
  | cons c r =>
    rw [hq] at hfin
    have hl1 : r.length + 1 = t.size := by rw [← hsz, hq]; rfl
    have hb := bt_get t 0 c (by rw [hq]; rfl)
    rw [show ((0 : Nat) : Int) = 0 from rfl] at hb
    rw [if_neg (by intro h; cases h), if_pos (by omega), hb]
    have hh : headB (c :: r) = if c = 43 ∨ c = 45 then (decide (c = 45), r) else (false, c :: r) := rfl
    have n43 : (c.toNat : Int) = 43 ↔ c = 43 := ⟨fun h => UInt8.toNat_inj.1 (by show c.toNat = 43; omega), fun h => by rw [h]; rfl⟩
    have n45 : (c.toNat : Int) = 45 ↔ c = 45 := ⟨fun h => UInt8.toNat_inj.1 (by show c.toNat = 45; omega), fun h => by rw [h]; rfl⟩
    have hbeq : ((c.toNat : Int) == 45) = decide (c = 45) := by
      by_cases h : c = 45
      · rw [decide_eq_true h, beq_iff_eq]; exact n45.2 h
      · rw [decide_eq_false h, beq_eq_false_iff_ne]; exact fun h2 => h (n45.1 h2)
    have hsign : ∀ x21, (c = 43 ∨ c = 45) → x21 = true → erasureref01_Parse.j0 (k + 2) t 0 x21 false 0 = some (parseL (c :: r)) := fun x21 hs hx => by
      subst hx
      rw [hh, if_pos hs] at hfin
      rw [erasureref01_Parse.j0, if_pos rfl, if_pos (by omega), hb, hbeq, erasureref01_Parse.j1]
      have := scanF t ht (decide (c = 45)) r 1 [] k (by rw [hq]; rfl) (by omega) (fun c hc => by cases hc) (Nat.zero_le _) (by omega)
      exact this.trans (congrArg some hfin)
    by_cases h43 : c = 43
    · rw [if_pos (n43.2 h43)]
      exact hsign true (Or.inl h43) rfl
    · rw [if_neg (fun h => h43 (n43.1 h)), hbeq]
      by_cases h45 : c = 45
      · rw [decide_eq_true h45]
        exact hsign true (Or.inr h45) rfl
      · rw [decide_eq_false h45, erasureref01_Parse.j0, if_neg (by decide), erasureref01_Parse.j1]
        have hh2 : headB (c :: r) = (false, c :: r) := by rw [hh, if_neg (fun h => Or.elim h h43 h45)]
        rw [hh2] at hfin
        have := scanF t ht false (c :: r) 0 [] k (by rw [hq]; rfl) (Nat.zero_le _) (fun c hc => by cases hc) (Nat.zero_le _) (by rw [List.length_cons]; omega)
        exact this.trans (congrArg some hfin)
end Go.Proofs.YtdkckjiccpdkbaaDoor.Plain
