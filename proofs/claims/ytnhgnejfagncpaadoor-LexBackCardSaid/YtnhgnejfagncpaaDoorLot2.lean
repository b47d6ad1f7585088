/- Put together: Sq, Shelf, H0, A0, B0, E0, L0, M0, P0, L2, H3 (each in a section of its own). -/
import Derived.Test.YtnhgnejfagncpaaDoorLot0
import Derived.Shelf.Strings.Builder1
import Derived.Shelf.Strings.Trim
import Derived.Shelf.Small.Bits
import Derived.Shelf.Utf8.AppendRunePlain
import Derived.Shelf.Strconv.Itoa0
import Derived.Shelf.Strconv.Itoa1
import Derived.Shelf.LaysM
import Derived.Shelf.Strconv.Itoa2
import Derived.Shelf.Strings.Search1
import Derived.Shelf.Strings.Search2
import Derived.Shelf.Strings.Repeat
import Derived.Test.YtnhgnejfagncpaaDoorProg
import Derived.Lib.Walk
import Derived.Lib.ItoaMem
import Derived.Lib.AppendIntMem
import Derived.Lib.Strings
import Derived.Lib.CutLaws
import Derived.WalkKit
import Derived.BigCall
import Derived.BigGuard
import Derived.Laws.Externs
import Derived.Lib.SmallJoins
import Derived.Deep.QuietTactic
import Derived.BigQuiet
import Derived.Shelf.RegionOpenPlain
import Derived.Below
import Derived.Deep.Draws
import Derived.Deep.AppendLies
import Derived.Maps.AppendAt
import Derived.OwnWalk
import Derived.Laws.BytesArg
import Derived.Laws.MakeOwn
import Derived.Laws.OwnMore
import Derived.Deep.OwnRows
import Derived.Tactics
import Derived.Lib.ConvBytes
import Derived.Laws.Slices
import Derived.KernelRfl
import Derived.RowKit3
import Derived.Deep.LoopGhost
import Derived.WideLaws
import Derived.Deep.DeepCutAuto
import Derived.Deep.CutBlock
import Derived.Deep.RegionHeld3
import Derived.Laws.Rows
import Derived.Lib.AppendStr
import Derived.ArgAppend
import Derived.Laws.IdiomCopy
import Derived.OrdersHeld
import Derived.Laws.BitsLemmas
import Derived.RowKit
import Derived.Test.YtnhgnejfagncpaaDoorWRepsOne
section
namespace Go.Proofs.YtnhgnejfagncpaaDoorW.PrintLast
section
variable {P : Program} {ops : Array Oper} {Q : Exit → Act → World → Prop} {md : Region.Mode} {S : World → Prop} {ds : List Nat}
def tk_ (n m : Nat) : Array Bool := ((List.range n).map m.testBit).toArray
theorem s0_ (t : Array Value) (d : List Deferred) (N : Tmp) (v : Value) : Act.put ⟨t, d⟩ (some N) v = ⟨t.setIfInBounds N v, d⟩ := rfl
theorem s1_ {α : Type} (l : List α) (i : Nat) (x : α) : l.toArray.setIfInBounds i x = (l.set i x).toArray := List.setIfInBounds_toArray ..
theorem s2_ {α : Type} (x y : α) (l : List α) : (x :: l).set 0 y = y :: l := List.set_cons_zero ..
theorem s3_ {α : Type} (x y : α) (l : List α) (i : Nat) : (x :: l).set (i + 1) y = x :: l.set i y := List.set_cons_succ ..
theorem s4_ : ∀ n, IntKind.i64.wrap n = RowKit.wrap64 n := i64_w
theorem s5_ : ∀ n, IntKind.i32.wrap n = RowKit.wrap32 n := i32_w
theorem pu_ (i n : Nat) {oi : Oper} {v : Value} {fuel : Nat} {l : Array Bool} {a a' : Act} {w : World} {T : Bool × List (List Nat × List Nat)} (l' : Array Bool) (hT : rtab md ops = T) (hi : ops[i]? = some oi) (hN : oi.dst = some n) (hc : anyT T l.toList l'.toList i = true)
    (hQ : ∀ c a w, Q (.panic c) (a.put oi.dst v) w → Q (.panic c) a w) (hw : Region.wanted oi (yielded ops a.tmps) = true) (hr : ∀ w, (execOp a.eval oi).run P w = .ok (.value v) w) (ha : a.put (some n) v = a')
    (h : wpAnyLast P md ops Q S ds fuel l' a' w) : wpAnyLast P md ops Q S ds (fuel + 1) l a w := pure_ l' hi hN (any_of hT hc) hQ (.inl ⟨hw, hr⟩) ha h
end
end Go.Proofs.YtnhgnejfagncpaaDoorW.PrintLast
namespace Go.Proofs.YtnhgnejfagncpaaDoorW.PrintLast
open Go.RowKit Go.Proofs.YtnhgnejfagncpaaDoorW.PrintWords
theorem bkk {w w' : World} {g : Nat} {o : Obj} (h : w.heap[g]? = some o) (b : Below w.heap.size w w' := by (with_reducible repeat (first | exact Below.refl _ _ | apply pw_below_drewN | apply below_drew1 | apply below_alloc))) : w'.heap[g]? = some o := blk_below h b
theorem blks {w : World} {g : Nat} {o : Obj} (h : w.heap[g]? = some o := by repeat (first | (with_reducible first | exact Aside0.out ‹_› | refine blk_drewN ?_ _ | refine blk_drew ?_ | refine blk_alloc ?_ _) | refine blk_far ?_ (Aside0.out ‹_›) _)) : w.heap[g]? = some o := h
theorem bel {n : Nat} {w w' : World} (h : Below n w w' := by repeat (first | (with_reducible first | exact Aside0.out ‹_› | apply below_alloc | apply pw_below_drewN | apply below_drew1 | refine below_set ?_ (Aside0.out ‹_›)) | exact Aside0.out ‹_›)) : Below n w w' := h
theorem gl_ {p : Prop} (h : p := by (try simp only [List.map_toArray, List.map_cons, List.map_nil]); first | done | rfl | (simp only [List.length_drop, List.length_take]; rfl)) : p := h
theorem ee_ {p : Prop} (h : p := by first | rfl | (simp [errW_none, errW_some] <;> rfl) | (simp [*, errW_none, errW_some] <;> rfl)) : p := h
theorem dr_ {w w' : World} (h : Drawn0 w w' := by repeat (first | exact Drawn0.refl _ | apply Drawn0.step)) : Drawn0 w w' := h
theorem dd_ {p : Prop} (h : p := by first | exact ⟨rfl, _, World.drewN_drewN _ _ _⟩ | exact ⟨rfl, _, Eq.trans (World.drewN_drewN _ _ _) (congrArg (World.drewN _) (Nat.add_assoc _ _ _))⟩) : p := h
theorem ea_ {p : Prop} (h : p := by first | rfl | (simp; done) | (simp [*]; done)) : p := h
theorem rkk {α : Type} {d : Kd α} {e base : Nat} {w w' : World} {ok : Nat → Prop} {v : Value} {xs : List α} (h : d.R e w base ok v xs) (b : Below w.heap.size w w' := by (with_reducible repeat (first | exact Below.refl _ _ | apply pw_below_drewN | apply below_drew1 | apply below_alloc))) : d.R e w' base ok v xs := Kd.R_below h b
end Go.Proofs.YtnhgnejfagncpaaDoorW.PrintLast
end
section
namespace Go.Proofs
open Go.Shelf
def Tryd.lays169_ren : Go.Shelf.Ren := ⟨fun | 169 => 33 | n => n, fun | 70 => 57 | 9 => 9 | 0 => 0 | 72 => 59 | 37 => 22 | 127 => 100 | 3 => 3 | 5 => 5 | n => n, fun | n => n⟩
theorem Tryd.lays169 : Go.Proofs.Lays.n169 Tryd.prog Tryd.lays169_ren := {
  mixed := by kernel_rfl
  f169 := Tryd.func33.trans (congrArg some (by kernel_rfl))
  t0 := Tryd.underlying0
  a0 := Tryd.isAgg0
  z0 := Tryd.sizeOf0
  v0 := Tryd.zeroValue0
  t3 := Tryd.underlying3
  a3 := Tryd.isAgg3
  z3 := Tryd.sizeOf3
  v3 := Tryd.zeroValue3
  t9 := Tryd.underlying9
  a9 := Tryd.isAgg9
  z9 := Tryd.sizeOf9
  v9 := Tryd.zeroValue9
  t37 := Tryd.underlying22
  a37 := Tryd.isAgg22
  z37 := Tryd.sizeOf22
  v37 := Tryd.zeroValue22
  t70 := Tryd.underlying57
  a70 := Tryd.isAgg57
  z70 := Tryd.sizeOf57
  v70 := Tryd.zeroValue57
  t72 := Tryd.underlying59
  a72 := Tryd.isAgg59
  z72 := Tryd.sizeOf59
  v72 := Tryd.zeroValue59
  t127 := Tryd.underlying100
  a127 := Tryd.isAgg100
  z127 := Tryd.sizeOf100
  v127 := Tryd.zeroValue100 }
theorem Tryd.Builder_Extra_169 : Builder.Extra Tryd.prog Tryd.lays169_ren := {
  sizeBuilder := by kernel_rfl
  liesBuilder := by kernel_rfl
  t5 := Tryd.underlying5
  a5 := Tryd.isAgg5
  z5 := Tryd.sizeOf5
  v5 := Tryd.zeroValue5
  infoByte := by kernel_rfl
  cellsByte := by kernel_rfl
  sizeByte := by kernel_rfl
  neB5 := by decide }
open Go.RowKit in
theorem Tryd.Builder_String_empty (B b : Nat) (w : World) (h : Lib.IsBuilder 59 5 B b [] w) (hBw : B ≤ w.heap.size) :
    Calls Tryd.prog 33 #[.pointer (some ⟨b, 0, none⟩)] w fun e w' => e = .returned (.string ⟨#[]⟩) ∧ Below B w w' := Any.Builder_String_empty Tryd.lays169 Tryd.Builder_Extra_169 B b w h hBw
open Go.RowKit in
theorem Tryd.Builder_String_any (B b : Nat) (l : List UInt8) (w : World) (h : Lib.IsBuilder 59 5 B b (Lib.byteCells l) w) (hBw : B ≤ w.heap.size) :
    Calls Tryd.prog 33 #[.pointer (some ⟨b, 0, none⟩)] w fun e w' => e = .returned (.string ⟨l.toArray⟩) ∧ Below B w w' := Any.Builder_String_any Tryd.lays169 Tryd.Builder_Extra_169 B b l w h hBw
def Tryd.lays161_ren : Go.Shelf.Ren := ⟨fun | 161 => 39 | 231 => 70 | 227 => 71 | 233 => 72 | 235 => 73 | 228 => 93 | 197 => 94 | 151 => 95 | 260 => 115 | 152 => 116 | 137 => 58 | 119 => 132 | 224 => 113 | 225 => 112 | 217 => 85 | 266 => 103 | n => n, fun | 9 => 9 | 4 => 4 | 3 => 3 | 5 => 5 | 117 => 107 | 116 => 106 | 0 => 0 | 124 => 110 | 105 => 130 | 21 => 21 | 119 => 163 | 46 => 78 | 139 => 166 | 138 => 165 | n => n, fun | 3 => 4 | 4 => 5 | n => n⟩
theorem Tryd.lays161 : Go.Proofs.Lays.n161 Tryd.prog Tryd.lays161_ren := {
  mixed := by kernel_rfl
  f119 := Tryd.func132.trans (congrArg some (by kernel_rfl))
  f137 := Tryd.func58.trans (congrArg some (by kernel_rfl))
  f151 := Tryd.func95.trans (congrArg some (by kernel_rfl))
  f152 := Tryd.func116.trans (congrArg some (by kernel_rfl))
  f161 := Tryd.func39.trans (congrArg some (by kernel_rfl))
  f197 := Tryd.func94.trans (congrArg some (by kernel_rfl))
  f217 := Tryd.func85.trans (congrArg some (by kernel_rfl))
  f224 := Tryd.func113.trans (congrArg some (by kernel_rfl))
  f225 := Tryd.func112.trans (congrArg some (by kernel_rfl))
  f227 := Tryd.func71.trans (congrArg some (by kernel_rfl))
  f228 := Tryd.func93.trans (congrArg some (by kernel_rfl))
  f231 := Tryd.func70.trans (congrArg some (by kernel_rfl))
  f233 := Tryd.func72.trans (congrArg some (by kernel_rfl))
  f235 := Tryd.func73.trans (congrArg some (by kernel_rfl))
  f260 := Tryd.func115.trans (congrArg some (by kernel_rfl))
  f266 := Tryd.func103.trans (congrArg some (by kernel_rfl))
  t0 := Tryd.underlying0
  a0 := Tryd.isAgg0
  z0 := Tryd.sizeOf0
  v0 := Tryd.zeroValue0
  t3 := Tryd.underlying3
  a3 := Tryd.isAgg3
  z3 := Tryd.sizeOf3
  v3 := Tryd.zeroValue3
  t4 := Tryd.underlying4
  a4 := Tryd.isAgg4
  z4 := Tryd.sizeOf4
  v4 := Tryd.zeroValue4
  t5 := Tryd.underlying5
  a5 := Tryd.isAgg5
  z5 := Tryd.sizeOf5
  v5 := Tryd.zeroValue5
  t9 := Tryd.underlying9
  a9 := Tryd.isAgg9
  z9 := Tryd.sizeOf9
  v9 := Tryd.zeroValue9
  t21 := Tryd.underlying21
  a21 := Tryd.isAgg21
  z21 := Tryd.sizeOf21
  v21 := Tryd.zeroValue21
  t46 := Tryd.underlying78
  a46 := Tryd.isAgg78
  z46 := Tryd.sizeOf78
  v46 := Tryd.zeroValue78
  t105 := Tryd.underlying130
  a105 := Tryd.isAgg130
  z105 := Tryd.sizeOf130
  v105 := Tryd.zeroValue130
  t116 := Tryd.underlying106
  a116 := Tryd.isAgg106
  z116 := Tryd.sizeOf106
  t117 := Tryd.underlying107
  a117 := Tryd.isAgg107
  z117 := Tryd.sizeOf107
  v117 := Tryd.zeroValue107
  t119 := Tryd.underlying163
  a119 := Tryd.isAgg163
  z119 := Tryd.sizeOf163
  t124 := Tryd.underlying110
  a124 := Tryd.isAgg110
  z124 := Tryd.sizeOf110
  v124 := Tryd.zeroValue110
  t138 := Tryd.underlying165
  a138 := Tryd.isAgg165
  z138 := Tryd.sizeOf165
  v138 := Tryd.zeroValue165
  t139 := Tryd.underlying166
  a139 := Tryd.isAgg166
  z139 := Tryd.sizeOf166
  v139 := Tryd.zeroValue166
  g3 := by kernel_rfl
  g4 := by kernel_rfl }
open Go.RowKit in
theorem Tryd.strings_TrimLeft_one (s : ByteArray) (c : UInt8) (hc : c.toNat < 128) (w : World) :
    Calls Tryd.prog 39 #[.string s, .string ⟨#[c]⟩] w fun e w' => e = .returned (.string ⟨(Lib.trimLeftB s.data.toList c).toArray⟩) ∧ w' = w := Any.strings_TrimLeft_one Tryd.lays161 s c hc w
def Tryd.lays162_ren : Go.Shelf.Ren := ⟨fun | 162 => 40 | 232 => 74 | 227 => 71 | 234 => 75 | 236 => 76 | 228 => 93 | 271 => 96 | 151 => 95 | 120 => 117 | 197 => 94 | 152 => 116 | 260 => 115 | 137 => 58 | 119 => 132 | 224 => 113 | 225 => 112 | 217 => 85 | 266 => 103 | n => n, fun | 9 => 9 | 4 => 4 | 3 => 3 | 5 => 5 | 117 => 107 | 116 => 106 | 0 => 0 | 124 => 110 | 21 => 21 | 105 => 130 | 46 => 78 | 119 => 163 | 139 => 166 | 138 => 165 | n => n, fun | 3 => 4 | 4 => 5 | n => n⟩
theorem Tryd.lays162 : Go.Proofs.Lays.n162 Tryd.prog Tryd.lays162_ren := {
  mixed := by kernel_rfl
  f119 := Tryd.func132.trans (congrArg some (by kernel_rfl))
  f120 := Tryd.func117.trans (congrArg some (by kernel_rfl))
  f137 := Tryd.func58.trans (congrArg some (by kernel_rfl))
  f151 := Tryd.func95.trans (congrArg some (by kernel_rfl))
  f152 := Tryd.func116.trans (congrArg some (by kernel_rfl))
  f162 := Tryd.func40.trans (congrArg some (by kernel_rfl))
  f197 := Tryd.func94.trans (congrArg some (by kernel_rfl))
  f217 := Tryd.func85.trans (congrArg some (by kernel_rfl))
  f224 := Tryd.func113.trans (congrArg some (by kernel_rfl))
  f225 := Tryd.func112.trans (congrArg some (by kernel_rfl))
  f227 := Tryd.func71.trans (congrArg some (by kernel_rfl))
  f228 := Tryd.func93.trans (congrArg some (by kernel_rfl))
  f232 := Tryd.func74.trans (congrArg some (by kernel_rfl))
  f234 := Tryd.func75.trans (congrArg some (by kernel_rfl))
  f236 := Tryd.func76.trans (congrArg some (by kernel_rfl))
  f260 := Tryd.func115.trans (congrArg some (by kernel_rfl))
  f266 := Tryd.func103.trans (congrArg some (by kernel_rfl))
  f271 := Tryd.func96.trans (congrArg some (by kernel_rfl))
  t0 := Tryd.underlying0
  a0 := Tryd.isAgg0
  z0 := Tryd.sizeOf0
  v0 := Tryd.zeroValue0
  t3 := Tryd.underlying3
  a3 := Tryd.isAgg3
  z3 := Tryd.sizeOf3
  v3 := Tryd.zeroValue3
  t4 := Tryd.underlying4
  a4 := Tryd.isAgg4
  z4 := Tryd.sizeOf4
  v4 := Tryd.zeroValue4
  t5 := Tryd.underlying5
  a5 := Tryd.isAgg5
  z5 := Tryd.sizeOf5
  v5 := Tryd.zeroValue5
  t9 := Tryd.underlying9
  a9 := Tryd.isAgg9
  z9 := Tryd.sizeOf9
  v9 := Tryd.zeroValue9
  t21 := Tryd.underlying21
  a21 := Tryd.isAgg21
  z21 := Tryd.sizeOf21
  v21 := Tryd.zeroValue21
  t46 := Tryd.underlying78
  a46 := Tryd.isAgg78
  z46 := Tryd.sizeOf78
  v46 := Tryd.zeroValue78
  t105 := Tryd.underlying130
  a105 := Tryd.isAgg130
  z105 := Tryd.sizeOf130
  v105 := Tryd.zeroValue130
  t116 := Tryd.underlying106
  a116 := Tryd.isAgg106
  z116 := Tryd.sizeOf106
  t117 := Tryd.underlying107
  a117 := Tryd.isAgg107
  z117 := Tryd.sizeOf107
  v117 := Tryd.zeroValue107
  t119 := Tryd.underlying163
  a119 := Tryd.isAgg163
  z119 := Tryd.sizeOf163
  t124 := Tryd.underlying110
  a124 := Tryd.isAgg110
  z124 := Tryd.sizeOf110
  v124 := Tryd.zeroValue110
  t138 := Tryd.underlying165
  a138 := Tryd.isAgg165
  z138 := Tryd.sizeOf165
  v138 := Tryd.zeroValue165
  t139 := Tryd.underlying166
  a139 := Tryd.isAgg166
  z139 := Tryd.sizeOf166
  v139 := Tryd.zeroValue166
  g3 := by kernel_rfl
  g4 := by kernel_rfl }
open Go.RowKit in
theorem Tryd.strings_TrimRight_one (s : ByteArray) (c : UInt8) (hc : c.toNat < 128) (w : World) (hs : s.size ≤ 9223372036854775807) :
    Calls Tryd.prog 40 #[.string s, .string ⟨#[c]⟩] w fun e w' => e = .returned (.string ⟨(Lib.trimRightB s.data.toList c).toArray⟩) ∧ w' = w := Any.strings_TrimRight_one Tryd.lays162 s c hc w hs
def Tryd.lays134_ren : Go.Shelf.Ren := ⟨fun | 134 => 118 | 129 => 126 | n => n, fun | 53 => 75 | 3 => 3 | 4 => 4 | 46 => 78 | 5 => 5 | 9 => 9 | n => n, fun | n => n⟩
theorem Tryd.lays134 : Go.Proofs.Lays.n134 Tryd.prog Tryd.lays134_ren := {
  mixed := by kernel_rfl
  f129 := Tryd.func126.trans (congrArg some (by kernel_rfl))
  f134 := Tryd.func118.trans (congrArg some (by kernel_rfl))
  t3 := Tryd.underlying3
  a3 := Tryd.isAgg3
  z3 := Tryd.sizeOf3
  v3 := Tryd.zeroValue3
  t4 := Tryd.underlying4
  a4 := Tryd.isAgg4
  z4 := Tryd.sizeOf4
  v4 := Tryd.zeroValue4
  t5 := Tryd.underlying5
  a5 := Tryd.isAgg5
  z5 := Tryd.sizeOf5
  v5 := Tryd.zeroValue5
  t9 := Tryd.underlying9
  a9 := Tryd.isAgg9
  z9 := Tryd.sizeOf9
  v9 := Tryd.zeroValue9
  t46 := Tryd.underlying78
  a46 := Tryd.isAgg78
  z46 := Tryd.sizeOf78
  v46 := Tryd.zeroValue78
  t53 := Tryd.underlying75
  a53 := Tryd.isAgg75
  z53 := Tryd.sizeOf75
  v53 := Tryd.zeroValue75 }
theorem Tryd.bits_LeadingZeros64 (x : Int) (w : World) (h0 : 0 ≤ x) (h1 : x ≤ 18446744073709551615) :
    Calls Tryd.prog 118 #[.int .u64 x] w fun e w' => e = .returned (.int .i64 (64 - (Lib.bitLen x.toNat : Int))) ∧ w' = w := Any.bits_LeadingZeros64 Tryd.lays134 x w h0 h1
def Tryd.lays283_ren : Go.Shelf.Ren := ⟨fun | 283 => 104 | n => n, fun | 3 => 3 | 9 => 9 | 4 => 4 | n => n, fun | n => n⟩
theorem Tryd.lays283 : Go.Proofs.Lays.n283 Tryd.prog Tryd.lays283_ren := {
  mixed := by kernel_rfl
  f283 := Tryd.func104.trans (congrArg some (by kernel_rfl))
  t3 := Tryd.underlying3
  a3 := Tryd.isAgg3
  z3 := Tryd.sizeOf3
  v3 := Tryd.zeroValue3
  t4 := Tryd.underlying4
  a4 := Tryd.isAgg4
  z4 := Tryd.sizeOf4
  v4 := Tryd.zeroValue4
  t9 := Tryd.underlying9
  a9 := Tryd.isAgg9
  z9 := Tryd.sizeOf9
  v9 := Tryd.zeroValue9 }
open Go.Lib in
theorem Tryd.internal_strconv_small (i : Nat) (h : i < 100) (w : World) :
    Calls Tryd.prog 104 #[.int .i64 i] w fun e w' => e = .returned (.string ⟨(Lib.decDigits i).toArray⟩) ∧ w' = w := Any.internal_strconv_small Tryd.lays283 i h w
def Tryd.laysM284_ren : Go.Shelf.Ren := ⟨fun | 284 => 105 | 129 => 126 | 317 => 125 | 318 => 127 | n => n, fun | 53 => 75 | 3 => 3 | 212 => 157 | 0 => 0 | 4 => 4 | 46 => 78 | 5 => 5 | 9 => 9 | n => n, fun | 17 => 3 | n => n⟩
theorem Tryd.laysM284 : Go.Proofs.LaysM.n284 Tryd.prog Tryd.laysM284_ren := {
  mixed := by kernel_rfl
  f129 := Tryd.func126.trans (congrArg some (by kernel_rfl))
  f284 := Tryd.func105.trans (congrArg some (by kernel_rfl))
  f317 := Tryd.func125.trans (congrArg some (by kernel_rfl))
  f318 := Tryd.func127.trans (congrArg some (by kernel_rfl))
  t0 := Tryd.underlying0
  a0 := Tryd.isAgg0
  z0 := Tryd.sizeOf0
  v0 := Tryd.zeroValue0
  t3 := Tryd.underlying3
  a3 := Tryd.isAgg3
  z3 := Tryd.sizeOf3
  v3 := Tryd.zeroValue3
  t4 := Tryd.underlying4
  a4 := Tryd.isAgg4
  z4 := Tryd.sizeOf4
  v4 := Tryd.zeroValue4
  t5 := Tryd.underlying5
  a5 := Tryd.isAgg5
  z5 := Tryd.sizeOf5
  v5 := Tryd.zeroValue5
  t9 := Tryd.underlying9
  a9 := Tryd.isAgg9
  z9 := Tryd.sizeOf9
  v9 := Tryd.zeroValue9
  t46 := Tryd.underlying78
  a46 := Tryd.isAgg78
  z46 := Tryd.sizeOf78
  v46 := Tryd.zeroValue78
  t53 := Tryd.underlying75
  a53 := Tryd.isAgg75
  z53 := Tryd.sizeOf75
  v53 := Tryd.zeroValue75
  t212 := Tryd.underlying157
  a212 := Tryd.isAgg157
  z212 := Tryd.sizeOf157
  v212 := Tryd.zeroValue157
  g17 := by kernel_rfl
  i0 := by kernel_rfl
  i3 := by kernel_rfl
  i4 := by kernel_rfl
  i5 := by kernel_rfl
  i9 := by kernel_rfl
  i46 := by kernel_rfl
  i53 := by kernel_rfl
  i212 := by kernel_rfl
  m17 := by kernel_rfl }
open Go.Lib in
theorem Tryd.internal_strconv_numDigits (u : Nat) (h1 : 1 ≤ u) (h2 : u < 18446744073709551616) (w : World) (htab : Lib.TabIs Tryd.prog w "internal/strconv.uint64pow10" .u64 Lib.pow10Tab) :
    Calls Tryd.prog 105 #[.int .u64 u] w fun e w' => e = .returned (.int .i64 (Lib.nDigits u)) ∧ w' = w := Any.internal_strconv_numDigits Tryd.laysM284 u h1 h2 w htab
def Tryd.lays285_ren : Go.Shelf.Ren := ⟨fun | 285 => 106 | n => n, fun | 37 => 22 | 53 => 75 | 3 => 3 | 4 => 4 | 51 => 113 | 9 => 9 | 5 => 5 | 0 => 0 | n => n, fun | n => n⟩
theorem Tryd.lays285 : Go.Proofs.Lays.n285 Tryd.prog Tryd.lays285_ren := {
  mixed := by kernel_rfl
  f285 := Tryd.func106.trans (congrArg some (by kernel_rfl))
  t0 := Tryd.underlying0
  a0 := Tryd.isAgg0
  z0 := Tryd.sizeOf0
  v0 := Tryd.zeroValue0
  t3 := Tryd.underlying3
  a3 := Tryd.isAgg3
  z3 := Tryd.sizeOf3
  v3 := Tryd.zeroValue3
  t4 := Tryd.underlying4
  a4 := Tryd.isAgg4
  z4 := Tryd.sizeOf4
  v4 := Tryd.zeroValue4
  t5 := Tryd.underlying5
  a5 := Tryd.isAgg5
  z5 := Tryd.sizeOf5
  v5 := Tryd.zeroValue5
  t9 := Tryd.underlying9
  a9 := Tryd.isAgg9
  z9 := Tryd.sizeOf9
  v9 := Tryd.zeroValue9
  t37 := Tryd.underlying22
  a37 := Tryd.isAgg22
  z37 := Tryd.sizeOf22
  v37 := Tryd.zeroValue22
  t51 := Tryd.underlying113
  a51 := Tryd.isAgg113
  z51 := Tryd.sizeOf113
  v51 := Tryd.zeroValue113
  t53 := Tryd.underlying75
  a53 := Tryd.isAgg75
  z53 := Tryd.sizeOf75
  v53 := Tryd.zeroValue75 }
open Go.RowKit Go.Sort Go.Lib in
theorem Tryd.internal_strconv_formatBase10 (blk off cap : Nat) (u : Nat) (d : Array UInt8) (w : World) (hH : Holds (fun (b : UInt8) => Value.int .u8 (b.toNat : Int)) w blk off d) (hu : u < 10 ^ d.size) (hu64 : u < 18446744073709551616) (hsz : d.size < 4611686018427387904) :
    Calls Tryd.prog 106 #[.slice (some ⟨blk, off, none⟩) d.size cap, .int .u64 u] w fun e w' =>
      e = .returned (.tuple #[]) ∧ ∃ (n v' : Nat) (dk : Array UInt8), w' = (putRow (fun (b : UInt8) => Value.int .u8 (b.toNat : Int)) w blk off dk).drewN n ∧ FmtInv d.size u 0 v' dk := Any.internal_strconv_formatBase10 Tryd.lays285 blk off cap u d w hH hu hu64 hsz
def Tryd.lays217_ren : Go.Shelf.Ren := ⟨fun | 217 => 85 | 266 => 103 | n => n, fun | 9 => 9 | 5 => 5 | 3 => 3 | n => n, fun | n => n⟩
theorem Tryd.lays217 : Go.Proofs.Lays.n217 Tryd.prog Tryd.lays217_ren := {
  mixed := by kernel_rfl
  f217 := Tryd.func85.trans (congrArg some (by kernel_rfl))
  f266 := Tryd.func103.trans (congrArg some (by kernel_rfl))
  t3 := Tryd.underlying3
  a3 := Tryd.isAgg3
  z3 := Tryd.sizeOf3
  v3 := Tryd.zeroValue3
  t5 := Tryd.underlying5
  a5 := Tryd.isAgg5
  z5 := Tryd.sizeOf5
  v5 := Tryd.zeroValue5
  t9 := Tryd.underlying9
  a9 := Tryd.isAgg9
  z9 := Tryd.sizeOf9
  v9 := Tryd.zeroValue9 }
open Go.RowKit Go.Lib in
theorem Tryd.stringslite_IndexByte (s : ByteArray) (c : Int) (w : World) :
    Calls Tryd.prog 85 #[.string s, .int .u8 c] w fun e w' => e = .returned (.int .i64 (Lib.indexByte s.data.toList c.toNat.toUInt8)) ∧ w' = w := Any.stringslite_IndexByte Tryd.lays217 s c w
def Tryd.lays219_ren : Go.Shelf.Ren := ⟨fun | 219 => 92 | 217 => 85 | 225 => 112 | 224 => 113 | 267 => 114 | 266 => 103 | 314 => 131 | n => n, fun | 9 => 9 | 3 => 3 | 4 => 4 | 5 => 5 | 46 => 78 | 146 => 146 | 51 => 113 | n => n, fun | 1 => 0 | n => n⟩
theorem Tryd.lays219 : Go.Proofs.Lays.n219 Tryd.prog Tryd.lays219_ren := {
  mixed := by kernel_rfl
  f217 := Tryd.func85.trans (congrArg some (by kernel_rfl))
  f219 := Tryd.func92.trans (congrArg some (by kernel_rfl))
  f224 := Tryd.func113.trans (congrArg some (by kernel_rfl))
  f225 := Tryd.func112.trans (congrArg some (by kernel_rfl))
  f266 := Tryd.func103.trans (congrArg some (by kernel_rfl))
  f267 := Tryd.func114.trans (congrArg some (by kernel_rfl))
  f314 := Tryd.func131.trans (congrArg some (by kernel_rfl))
  t3 := Tryd.underlying3
  a3 := Tryd.isAgg3
  z3 := Tryd.sizeOf3
  v3 := Tryd.zeroValue3
  t4 := Tryd.underlying4
  a4 := Tryd.isAgg4
  z4 := Tryd.sizeOf4
  v4 := Tryd.zeroValue4
  t5 := Tryd.underlying5
  a5 := Tryd.isAgg5
  z5 := Tryd.sizeOf5
  v5 := Tryd.zeroValue5
  t9 := Tryd.underlying9
  a9 := Tryd.isAgg9
  z9 := Tryd.sizeOf9
  v9 := Tryd.zeroValue9
  t46 := Tryd.underlying78
  a46 := Tryd.isAgg78
  z46 := Tryd.sizeOf78
  v46 := Tryd.zeroValue78
  t51 := Tryd.underlying113
  a51 := Tryd.isAgg113
  z51 := Tryd.sizeOf113
  v51 := Tryd.zeroValue113
  t146 := Tryd.underlying146
  a146 := Tryd.isAgg146
  z146 := Tryd.sizeOf146
  v146 := Tryd.zeroValue146
  g1 := by kernel_rfl }
open Go.RowKit Go.Lib in
theorem Tryd.stringslite_Index_one (s : ByteArray) (c : UInt8) (w : World) :
    Calls Tryd.prog 92 #[.string s, .string ⟨#[c]⟩] w fun e w' => e = .returned (.int .i64 (Lib.indexByte s.data.toList c)) ∧ w' = w := Any.stringslite_Index_one Tryd.lays219 s c w
def Tryd.lays105_ren : Go.Shelf.Ren := ⟨fun | 105 => 62 | 212 => 87 | 99 => 88 | 165 => 89 | 166 => 31 | 170 => 90 | 169 => 33 | 263 => 108 | 264 => 109 | 206 => 110 | 240 => 63 | 241 => 111 | 276 => 91 | 277 => 130 | n => n, fun | 9 => 9 | 3 => 3 | 4 => 4 | 20 => 20 | 0 => 0 | 46 => 78 | 109 => 122 | 5 => 5 | 72 => 59 | 76 => 66 | 51 => 113 | 146 => 146 | 53 => 75 | 148 => 133 | 70 => 57 | 37 => 22 | 75 => 62 | 127 => 100 | 164 => 127 | 80 => 69 | n => n, fun | n => n⟩
theorem Tryd.lays105 : Go.Proofs.Lays.n105 Tryd.prog Tryd.lays105_ren := {
  mixed := by kernel_rfl
  f99 := Tryd.func88.trans (congrArg some (by kernel_rfl))
  f105 := Tryd.func62.trans (congrArg some (by kernel_rfl))
  f165 := Tryd.func89.trans (congrArg some (by kernel_rfl))
  f166 := Tryd.func31.trans (congrArg some (by kernel_rfl))
  f169 := Tryd.func33.trans (congrArg some (by kernel_rfl))
  f170 := Tryd.func90.trans (congrArg some (by kernel_rfl))
  f206 := Tryd.func110.trans (congrArg some (by kernel_rfl))
  f212 := Tryd.func87.trans (congrArg some (by kernel_rfl))
  f240 := Tryd.func63.trans (congrArg some (by kernel_rfl))
  f241 := Tryd.func111.trans (congrArg some (by kernel_rfl))
  f263 := Tryd.func108.trans (congrArg some (by kernel_rfl))
  f264 := Tryd.func109.trans (congrArg some (by kernel_rfl))
  f276 := Tryd.func91.trans (congrArg some (by kernel_rfl))
  f277 := Tryd.func130.trans (congrArg some (by kernel_rfl))
  t0 := Tryd.underlying0
  a0 := Tryd.isAgg0
  z0 := Tryd.sizeOf0
  v0 := Tryd.zeroValue0
  t3 := Tryd.underlying3
  a3 := Tryd.isAgg3
  z3 := Tryd.sizeOf3
  v3 := Tryd.zeroValue3
  t4 := Tryd.underlying4
  a4 := Tryd.isAgg4
  z4 := Tryd.sizeOf4
  v4 := Tryd.zeroValue4
  t5 := Tryd.underlying5
  a5 := Tryd.isAgg5
  z5 := Tryd.sizeOf5
  v5 := Tryd.zeroValue5
  t9 := Tryd.underlying9
  a9 := Tryd.isAgg9
  z9 := Tryd.sizeOf9
  v9 := Tryd.zeroValue9
  t20 := Tryd.underlying20
  a20 := Tryd.isAgg20
  z20 := Tryd.sizeOf20
  v20 := Tryd.zeroValue20
  t37 := Tryd.underlying22
  a37 := Tryd.isAgg22
  z37 := Tryd.sizeOf22
  v37 := Tryd.zeroValue22
  t46 := Tryd.underlying78
  a46 := Tryd.isAgg78
  z46 := Tryd.sizeOf78
  v46 := Tryd.zeroValue78
  t51 := Tryd.underlying113
  a51 := Tryd.isAgg113
  z51 := Tryd.sizeOf113
  v51 := Tryd.zeroValue113
  t53 := Tryd.underlying75
  a53 := Tryd.isAgg75
  z53 := Tryd.sizeOf75
  v53 := Tryd.zeroValue75
  t70 := Tryd.underlying57
  a70 := Tryd.isAgg57
  z70 := Tryd.sizeOf57
  v70 := Tryd.zeroValue57
  t72 := Tryd.underlying59
  a72 := Tryd.isAgg59
  z72 := Tryd.sizeOf59
  v72 := Tryd.zeroValue59
  t75 := Tryd.underlying62
  a75 := Tryd.isAgg62
  z75 := Tryd.sizeOf62
  v75 := Tryd.zeroValue62
  t76 := Tryd.underlying66
  a76 := Tryd.isAgg66
  z76 := Tryd.sizeOf66
  v76 := Tryd.zeroValue66
  t109 := Tryd.underlying122
  a109 := Tryd.isAgg122
  z109 := Tryd.sizeOf122
  v109 := Tryd.zeroValue122
  t127 := Tryd.underlying100
  a127 := Tryd.isAgg100
  z127 := Tryd.sizeOf100
  v127 := Tryd.zeroValue100
  t146 := Tryd.underlying146
  a146 := Tryd.isAgg146
  z146 := Tryd.sizeOf146
  v146 := Tryd.zeroValue146
  t148 := Tryd.underlying133
  a148 := Tryd.isAgg133
  z148 := Tryd.sizeOf133
  v148 := Tryd.zeroValue133
  t164 := Tryd.underlying127
  a164 := Tryd.isAgg127
  z164 := Tryd.sizeOf127
  v164 := Tryd.zeroValue127 }
theorem Tryd.Builder_Extra_105 : Builder.Extra Tryd.prog Tryd.lays105_ren := {
  sizeBuilder := by kernel_rfl
  liesBuilder := by kernel_rfl
  t5 := Tryd.underlying5
  a5 := Tryd.isAgg5
  z5 := Tryd.sizeOf5
  v5 := Tryd.zeroValue5
  infoByte := by kernel_rfl
  cellsByte := by kernel_rfl
  sizeByte := by kernel_rfl
  neB5 := by decide }
open Go.RowKit Go.Lib in
theorem Tryd.strings_Repeat (s : ByteArray) (c : Nat) (w : World) (hc : c ≤ 9223372036854775807) (hlen : s.size * c ≤ 140737488355328) :
    Calls Tryd.prog 62 #[.string s, .int .i64 c] w fun e w' => e = .returned (.string ⟨(Lib.repeatL s.data.toList c).toArray⟩) ∧ Below w.heap.size w w' := Any.strings_Repeat Tryd.lays105 Tryd.Builder_Extra_105 s c w hc hlen
end Go.Proofs
end
section
namespace Go.Proofs.YtnhgnejfagncpaaDoor.H
open Go.Shelf Go.RowKit Go.Sort Go.Lib Go.Proofs.YtnhgnejfagncpaaDoorW.PrintWords
set_option linter.unusedVariables false
set_option linter.unusedSimpArgs false
def Tab (w : World) : Prop := Lib.TabIs Tryd.prog w "internal/strconv.uint64pow10" .u64 Lib.pow10Tab
theorem Tab.below {w w' : World} (h : Tab w) (hb : Below w.heap.size w w') : Tab w' := by
  have hg : ∃ g, Tryd.prog.globalNamed "internal/strconv.uint64pow10" = some g := by
    unfold Tab Lib.TabIs World.var? at h
    cases hq : Tryd.prog.globalNamed "internal/strconv.uint64pow10" with
    | none => rw [hq] at h; cases h
    | some g => exact ⟨g, rfl⟩
  obtain ⟨g, hg⟩ := hg
  exact Go.Joins.tab_stays hg h hb (Nat.le_refl _)
set_option maxHeartbeats 6400000 in
set_option maxRecDepth 100000 in
theorem formatUint_in (u : Nat) (hu64 : u < 18446744073709551616) (w : World) (htab : Tab w) :
    Calls Tryd.prog 86 #[.int .u64 u, .int .i64 10] w fun e w' => e = .returned (.string ⟨(Lib.decDigits u).toArray⟩) ∧ Below w.heap.size w w' := by
  by_cases hs : u < 100
  · have hb : decide ((u : Int) < 100) = true := by simp; omega
    have hw : wrap64 (u : Int) = (u : Int) := by unfold wrap64; omega
    go_enter Tryd.func86, Tryd.ntmps86
    go_wp2_with (go_at_call 104; refine (Tryd.internal_strconv_small u hs _).mono ?_; rintro e w' ⟨rfl, rfl⟩)
    go_ret
    exact ⟨rfl, Below.refl _ _⟩
  · have hu1 : 1 ≤ u := by omega
    have hnd20 : Lib.nDigits u ≤ 20 := by have := Lib.numDigits_eq u hu1 hu64; split at this <;> omega
    have hb : decide ((u : Int) < 100) = false := by simp; omega
    have hal : Tryd.prog.arrayLen 141 = 24 := by simp [Program.arrayLen, Tryd.underlying141]
    have hsl1 : ∀ W, (Instr.sliceAt 141 (.pointer (some ⟨w.heap.size, 0, none⟩)) none (some (.int .i64 (Lib.nDigits u : Int))) none).run Tryd.prog W = .ok (.slice (some ⟨w.heap.size, 0, none⟩) (Lib.nDigits u) 24) W := fun W => by
      rw [run_sliceAt_array_h W 141 ⟨w.heap.size, 0, none⟩ (by simp [Program.arrayLen, Program.elem, Tryd.underlying141]) .i64 (Lib.nDigits u : Int) (by omega) (by rw [hal]; omega)]
      go_simp
    have hH0 := Lib.holds_zero0 w 141 (Lib.nDigits u) (by omega)
    have hfmt := Tryd.internal_strconv_formatBase10 w.heap.size 0 24 u (Array.replicate (Lib.nDigits u) 0) (w.alloc (.cells Lib.zeros24 141)) hH0 (by rw [Array.size_replicate]; exact Lib.lt_pow_nDigits u) hu64 (by rw [Array.size_replicate]; omega)
    rw [Array.size_replicate] at hfmt
    have HH0 := Lib.hid hH0
    clear hH0 hal
    go_enter Tryd.func86, Tryd.ntmps86
    go_wp2_with (go_at_call 105; refine (Tryd.internal_strconv_numDigits u hu1 hu64 _ (Lib.tabIs_alloc htab _)).mono ?_; rintro e w' ⟨rfl, rfl⟩)
    refine hfmt.mono ?_
    rintro e w' ⟨rfl, k, v', dk, rfl, hF⟩
    have hcv : (convert 22 9 (.slice (some ⟨w.heap.size, 0, none⟩) (Lib.nDigits u) 24)).run Tryd.prog ((putRow (fun (b : UInt8) => Value.int .u8 (b.toNat : Int)) (w.alloc (.cells Lib.zeros24 141)) w.heap.size 0 dk).drewN k) = .ok (.string ⟨(Lib.decDigits u).toArray⟩) ((putRow (fun (b : UInt8) => Value.int .u8 (b.toNat : Int)) (w.alloc (.cells Lib.zeros24 141)) w.heap.size 0 dk).drewN k) := by
      have h := run_convert_bytes_back (P := Tryd.prog) ((putRow (fun (b : UInt8) => Value.int .u8 (b.toNat : Int)) (w.alloc (.cells Lib.zeros24 141)) w.heap.size 0 dk).drewN k) 22 9 5 ⟨w.heap.size, 0, none⟩ 24 (Lib.decDigits u) Tryd.underlying22 Tryd.underlying5 Tryd.underlying9 (fun j hj => by
        rw [Lib.row_is_numeral hF j hj, Lib.add_plain, World.cell?_drewN]
        exact cell?_putRow (fun (b : UInt8) => Value.int .u8 (b.toNat : Int)) _ w.heap.size 0 _ dk HH0.out (by rw [hF.size, Array.size_replicate]) j (by rw [hF.size]; rw [Lib.decDigits_length] at hj; exact hj))
      rw [Lib.decDigits_length] at h
      exact h
    have hbel : Below w.heap.size w ((putRow (fun (b : UInt8) => Value.int .u8 (b.toNat : Int)) (w.alloc (.cells Lib.zeros24 141)) w.heap.size 0 dk).drewN k) := by
      rw [alloc_eq_grow]
      obtain ⟨os', _, e⟩ := putRow_grow_new (fun (b : UInt8) => Value.int .u8 (b.toNat : Int)) w #[.cells Lib.zeros24 141] w.heap.size 0 dk (Nat.le_refl _)
      rw [e]
      exact ⟨rfl, rfl, rfl, by show w.heap.size ≤ (w.heap ++ os').size; rw [Array.size_append]; omega, fun _ hj => heap_grow_old w os' hj⟩
    go_wp2
    go_ret
    exact ⟨rfl, hbel⟩
set_option maxHeartbeats 1000000 in
theorem formatUint_any (u : Nat) (hu64 : u < 18446744073709551616) (w : World) (htab : Tab w) :
    Calls Tryd.prog 60 #[.int .u64 u, .int .i64 10] w fun e w' => e = .returned (.string ⟨(Lib.decDigits u).toArray⟩) ∧ Below w.heap.size w w' := by
  go_enter Tryd.func60, Tryd.ntmps60
  go_wp2_with fail
  refine (formatUint_in u hu64 _ htab).mono ?_
  rintro e w' ⟨rfl, hb⟩
  go_wp2_with fail
  go_ret
  exact ⟨rfl, hb⟩
def strconv_FormatUint.f (a0 : Int) (a1 : Int) : Option ByteArray := if a1 = 10 ∧ 0 ≤ a0 ∧ a0 < 18446744073709551616 then some ⟨(Lib.decDigits a0.toNat).toArray⟩ else none
theorem strconv_FormatUint.calls (a0 : Int) (a1 : Int) (r : ByteArray) (w : World) (hT : Tab w) (h : strconv_FormatUint.f a0 a1 = some r) :
    Calls Tryd.prog 60 #[.int .u64 a0, .int .i64 a1] w fun e w' => e = .returned (.string r) ∧ Below w.heap.size w w' := by
  unfold strconv_FormatUint.f at h
  split at h
  · next hc =>
    obtain ⟨rfl, h0, h1⟩ := hc
    obtain rfl := Option.some.inj h
    obtain ⟨u, rfl⟩ := Int.eq_ofNat_of_zero_le h0
    exact formatUint_any u (by omega) w hT
  · cases h
def strings_Repeat.f (a0 : ByteArray) (a1 : Int) : Option ByteArray := if 0 ≤ a1 ∧ a1 ≤ 1000 ∧ a0.size ≤ 1000 then some ⟨(Lib.repeatL a0.data.toList a1.toNat).toArray⟩ else none
theorem strings_Repeat.calls (a0 : ByteArray) (a1 : Int) (r : ByteArray) (w : World) (h : strings_Repeat.f a0 a1 = some r) :
    Calls Tryd.prog 62 #[.string a0, .int .i64 a1] w fun e w' => e = .returned (.string r) ∧ Below w.heap.size w w' := by
  unfold strings_Repeat.f at h
  split at h
  · next hc =>
    obtain ⟨h0, h1, h2⟩ := hc
    obtain rfl := Option.some.inj h
    obtain ⟨u, rfl⟩ := Int.eq_ofNat_of_zero_le h0
    refine Tryd.strings_Repeat a0 u w (by omega) ?_
    have : a0.size * u ≤ 1000 * 1000 := Nat.mul_le_mul h2 (by omega)
    omega
  · cases h
def strings_TrimLeft.f (a0 : ByteArray) (a1 : ByteArray) : Option ByteArray := if a1 = ⟨#[48]⟩ then some ⟨(Lib.trimLeftB a0.data.toList 48).toArray⟩ else none
theorem strings_TrimLeft.calls (a0 : ByteArray) (a1 : ByteArray) (r : ByteArray) (w : World) (h : strings_TrimLeft.f a0 a1 = some r) :
    Calls Tryd.prog 39 #[.string a0, .string a1] w fun e w' => e = .returned (.string r) ∧ Below w.heap.size w w' := by
  unfold strings_TrimLeft.f at h
  split at h
  · next hc =>
    subst hc
    obtain rfl := Option.some.inj h
    exact (Tryd.strings_TrimLeft_one a0 48 (by decide) w).mono fun e w' hw => by obtain ⟨rfl, rfl⟩ := hw; exact ⟨rfl, Below.refl _ _⟩
  · cases h
def strings_TrimRight.f (a0 : ByteArray) (a1 : ByteArray) : Option ByteArray := if a1 = ⟨#[48]⟩ ∧ a0.size ≤ 1000000 then some ⟨(Lib.trimRightB a0.data.toList 48).toArray⟩ else none
theorem strings_TrimRight.calls (a0 : ByteArray) (a1 : ByteArray) (r : ByteArray) (w : World) (h : strings_TrimRight.f a0 a1 = some r) :
    Calls Tryd.prog 40 #[.string a0, .string a1] w fun e w' => e = .returned (.string r) ∧ Below w.heap.size w w' := by
  unfold strings_TrimRight.f at h
  split at h
  · next hc =>
    obtain ⟨rfl, hs⟩ := hc
    obtain rfl := Option.some.inj h
    exact (Tryd.strings_TrimRight_one a0 48 (by decide) w (by omega)).mono fun e w' hw => by obtain ⟨rfl, rfl⟩ := hw; exact ⟨rfl, Below.refl _ _⟩
  · cases h
def cutAt (l : List UInt8) (c : UInt8) : List UInt8 × List UInt8 × Bool := if 0 ≤ Lib.indexByte l c then (l.take (Lib.indexByte l c).toNat, l.drop ((Lib.indexByte l c).toNat + 1), true) else (l, [], false)
theorem indexByte_range : ∀ (l : List UInt8) (c : UInt8), -1 ≤ Lib.indexByte l c ∧ Lib.indexByte l c < l.length
  | [], c => by simp [Lib.indexByte]
  | b :: l, c => by
    have := indexByte_range l c
    unfold Lib.indexByte
    rw [List.length_cons]
    split
    · omega
    · split <;> omega
set_option maxHeartbeats 2000000 in
theorem cut_in (s : ByteArray) (c : UInt8) (hs : s.size ≤ 1000000) (w : World) :
    Calls Tryd.prog 69 #[.string s, .string ⟨#[c]⟩] w fun e w' => e = .returned (.tuple #[.string ⟨(cutAt s.data.toList c).1.toArray⟩, .string ⟨(cutAt s.data.toList c).2.1.toArray⟩, .bool (cutAt s.data.toList c).2.2]) ∧ ∃ n, w' = w.drewN n := by
  have hr := indexByte_range s.data.toList c
  have hl : s.data.toList.length = s.size := by rw [Array.length_toList]; rfl
  rw [hl] at hr
  unfold cutAt
  by_cases h0 : 0 ≤ Lib.indexByte s.data.toList c
  · rw [if_pos h0]
    obtain ⟨i, hi⟩ := Int.eq_ofNat_of_zero_le h0
    rw [hi] at hr ⊢
    have hi' : (i : Int) < (s.size : Int) := hr.2
    have c1 : (0 : Int) ≤ (i : Int) := by omega
    have c2 : (i : Int) ≤ (s.size : Int) := by omega
    have c3 : (0 : Int) ≤ (i : Int) + 1 := by omega
    have c4 : (i : Int) + 1 ≤ (s.size : Int) := by omega
    go_enter Tryd.func69, Tryd.ntmps69
    go_wp2_with (go_at_call 92; refine (Tryd.stringslite_Index_one _ _ _).mono ?_; rintro e w' ⟨rfl, rfl⟩; rw [hi])
    go_quiet (fail)
    go_wp2
    go_ret3
    refine ⟨?_, nq, rfl⟩
    show Ending.returned (.tuple #[_, _, _]) = _
    simp only [Array.getD_eq_getD_getElem?, List.getElem?_toArray, List.getElem?_cons_zero, List.getElem?_cons_succ, Option.getD_some]
    have e1 : s.extract 0 i = ⟨(List.take (i : Int).toNat s.data.toList).toArray⟩ := by rw [Lib.extract_eq]; simp
    have e2 : s.extract (i + 1) s.size = ⟨(List.drop ((i : Int).toNat + 1) s.data.toList).toArray⟩ := by
      rw [Lib.extract_eq, List.take_of_length_le (by rw [List.length_drop, hl]; omega)]
      simp
    rw [e1, e2]
  · rw [if_neg h0]
    have hi : Lib.indexByte s.data.toList c = -1 := by omega
    go_enter Tryd.func69, Tryd.ntmps69
    go_wp2_with (go_at_call 92; refine (Tryd.stringslite_Index_one _ _ _).mono ?_; rintro e w' ⟨rfl, rfl⟩; rw [hi])
    go_ret3
    refine ⟨?_, 0, rfl⟩
    simp only [Array.getD_eq_getD_getElem?, List.getElem?_toArray, List.getElem?_cons_zero, List.getElem?_cons_succ, Option.getD_some]
set_option maxHeartbeats 1000000 in
theorem cut_any (s : ByteArray) (c : UInt8) (hs : s.size ≤ 1000000) (w : World) :
    Calls Tryd.prog 38 #[.string s, .string ⟨#[c]⟩] w fun e w' => e = .returned (.tuple #[.string ⟨(cutAt s.data.toList c).1.toArray⟩, .string ⟨(cutAt s.data.toList c).2.1.toArray⟩, .bool (cutAt s.data.toList c).2.2]) ∧ ∃ n, w' = w.drewN n := by
  have hc := cut_in s c hs
  generalize cutAt s.data.toList c = q at hc ⊢
  obtain ⟨q1, q2, q3⟩ := q
  dsimp only at hc ⊢
  generalize (⟨q1.toArray⟩ : ByteArray) = s1 at hc ⊢
  generalize (⟨q2.toArray⟩ : ByteArray) = s2 at hc ⊢
  go_enter Tryd.func38, Tryd.ntmps38
  go_wp2_with fail
  refine (hc _).mono ?_
  rintro e w' ⟨rfl, n, rfl⟩
  go_wp2_with fail
  go_ret3
  exact ⟨rfl, n, rfl⟩
def bits_LeadingZeros64.f (a0 : Int) : Option Int := if 0 ≤ a0 ∧ a0 < 18446744073709551616 then some (64 - (Lib.bitLen a0.toNat : Int)) else none
theorem bits_LeadingZeros64.calls (a0 : Int) (r : Int) (w : World) (h : bits_LeadingZeros64.f a0 = some r) :
    Calls Tryd.prog 118 #[.int .u64 a0] w fun e w' => e = .returned (.int .i64 r) ∧ Below w.heap.size w w' := by
  unfold bits_LeadingZeros64.f at h
  split at h
  · next hc =>
    obtain ⟨h0, h1⟩ := hc
    obtain rfl := Option.some.inj h
    exact (Tryd.bits_LeadingZeros64 a0 w h0 (by omega)).mono fun e w' hw => by obtain ⟨rfl, rfl⟩ := hw; exact ⟨rfl, Below.refl _ _⟩
  · cases h
def strings_IndexByte.f (a0 : ByteArray) (a1 : Int) : Option Int := some (Lib.indexByte a0.data.toList a1.toNat.toUInt8)
theorem strings_IndexByte.calls (a0 : ByteArray) (a1 : Int) (r : Int) (w : World) (h : strings_IndexByte.f a0 a1 = some r) :
    Calls Tryd.prog 58 #[.string a0, .int .u8 a1] w fun e w' => e = .returned (.int .i64 r) ∧ Below w.heap.size w w' := by
  obtain rfl := Option.some.inj h
  go_enter Tryd.func58, Tryd.ntmps58
  go_wp2_with fail
  refine (Tryd.stringslite_IndexByte a0 a1 _).mono ?_
  rintro e w' ⟨rfl, rfl⟩
  go_wp2_with fail
  go_ret
  exact ⟨rfl, Below.refl _ _⟩
end Go.Proofs.YtnhgnejfagncpaaDoor.H
end
section
namespace Go.Proofs.YtnhgnejfagncpaaDoor.A
open Go.RowKit Go.Proofs.YtnhgnejfagncpaaDoorW.PrintWords Go.Proofs.YtnhgnejfagncpaaDoorW.PrintLast Go.Proofs.YtnhgnejfagncpaaDoorW.PrintMore Go.Proofs.YtnhgnejfagncpaaDoor.H
attribute [local go_sem] max2_int min2_int max_two min_two max_three min_three max_four min_four   -- for this text's walks alone
set_option linter.unusedVariables false
set_option linter.unusedSimpArgs false
def errW : Option Int → Value
  | none => .nilIface
  | some c => .iface 0 (.int .i64 c)
theorem errW_none : errW none = .nilIface := rfl
theorem errW_some (c : Int) : errW (some c) = .iface 0 (.int .i64 c) := rfl
end Go.Proofs.YtnhgnejfagncpaaDoor.A
end
section
namespace Go.Proofs.YtnhgnejfagncpaaDoor.B
open Go.RowKit Go.Proofs.YtnhgnejfagncpaaDoorW.PrintWords Go.Proofs.YtnhgnejfagncpaaDoorW.PrintLast Go.Proofs.YtnhgnejfagncpaaDoorW.PrintMore Go.Proofs.YtnhgnejfagncpaaDoor.H Go.Proofs.YtnhgnejfagncpaaDoor.A
attribute [local go_sem] max2_int min2_int max_two min_two max_three min_three max_four min_four   -- for this text's walks alone
set_option linter.unusedVariables false
set_option linter.unusedSimpArgs false
end Go.Proofs.YtnhgnejfagncpaaDoor.B
end
section
namespace Go.Proofs.YtnhgnejfagncpaaDoor.E
open Go.RowKit Go.Proofs.YtnhgnejfagncpaaDoorW.PrintWords Go.Proofs.YtnhgnejfagncpaaDoorW.PrintLast Go.Proofs.YtnhgnejfagncpaaDoorW.PrintMore Go.Proofs.YtnhgnejfagncpaaDoor.H Go.Proofs.YtnhgnejfagncpaaDoor.A Go.Proofs.YtnhgnejfagncpaaDoor.B
attribute [local go_sem] max2_int min2_int max_two min_two max_three min_three max_four min_four   -- for this text's walks alone
set_option linter.unusedVariables false
set_option linter.unusedSimpArgs false
theorem info5 : (Tryd.prog.info? 5).map (fun i => (i.zero, i.size, i.bytes)) = some (some (.int .u8 0), 1, 1) := by kernel_rfl
end Go.Proofs.YtnhgnejfagncpaaDoor.E
end
section
namespace Go.Proofs.YtnhgnejfagncpaaDoor.L
open Go.RowKit Go.Proofs.YtnhgnejfagncpaaDoorW.PrintWords Go.Proofs.YtnhgnejfagncpaaDoorW.PrintLast Go.Proofs.YtnhgnejfagncpaaDoorW.PrintMore Go.Proofs.YtnhgnejfagncpaaDoor.H Go.Proofs.YtnhgnejfagncpaaDoor.A Go.Proofs.YtnhgnejfagncpaaDoor.B Go.Proofs.YtnhgnejfagncpaaDoor.E
attribute [local go_sem] max2_int min2_int max_two min_two max_three min_three max_four min_four   -- for this text's walks alone
set_option linter.unusedVariables false
set_option linter.unusedSimpArgs false
end Go.Proofs.YtnhgnejfagncpaaDoor.L
end
section
namespace Go.Proofs.YtnhgnejfagncpaaDoor.M
open Go.RowKit Go.Proofs.YtnhgnejfagncpaaDoorW.PrintWords Go.Proofs.YtnhgnejfagncpaaDoorW.PrintLast Go.Proofs.YtnhgnejfagncpaaDoorW.PrintMore Go.Proofs.YtnhgnejfagncpaaDoor.H Go.Proofs.YtnhgnejfagncpaaDoor.A Go.Proofs.YtnhgnejfagncpaaDoor.B Go.Proofs.YtnhgnejfagncpaaDoor.E Go.Proofs.YtnhgnejfagncpaaDoor.L
attribute [local go_sem] max2_int min2_int max_two min_two max_three min_three max_four min_four   -- for this text's walks alone
set_option linter.unusedVariables false
set_option linter.unusedSimpArgs false
end Go.Proofs.YtnhgnejfagncpaaDoor.M
end
section
namespace Go.Proofs.YtnhgnejfagncpaaDoor.P
open Go.RowKit Go.Proofs.YtnhgnejfagncpaaDoorW.PrintWords Go.Proofs.YtnhgnejfagncpaaDoorW.PrintLast Go.Proofs.YtnhgnejfagncpaaDoorW.PrintMore Go.Proofs.YtnhgnejfagncpaaDoor.H Go.Proofs.YtnhgnejfagncpaaDoor.A Go.Proofs.YtnhgnejfagncpaaDoor.B Go.Proofs.YtnhgnejfagncpaaDoor.E Go.Proofs.YtnhgnejfagncpaaDoor.L Go.Proofs.YtnhgnejfagncpaaDoor.M
attribute [local go_sem] max2_int min2_int max_two min_two max_three min_three max_four min_four   -- for this text's walks alone
set_option linter.unusedVariables false
set_option linter.unusedSimpArgs false
end Go.Proofs.YtnhgnejfagncpaaDoor.P
end
section
namespace Go.Proofs.YtnhgnejfagncpaaDoor.L
open Go.RowKit Go.Proofs.YtnhgnejfagncpaaDoorW.PrintWords Go.Proofs.YtnhgnejfagncpaaDoorW.PrintLast Go.Proofs.YtnhgnejfagncpaaDoorW.PrintMore Go.Proofs.YtnhgnejfagncpaaDoor.H Go.Proofs.YtnhgnejfagncpaaDoor.A Go.Proofs.YtnhgnejfagncpaaDoor.B Go.Proofs.YtnhgnejfagncpaaDoor.E
attribute [local go_sem] max2_int min2_int max_two min_two max_three min_three max_four min_four   -- for this text's walks alone
set_option linter.unusedVariables false
set_option linter.unusedSimpArgs false
def lex_of.j0 : Nat → Int → Bool → Option (Int)
 | 0, _, _ => none
 | k + 1, x3, x4 => if x4 = true then (some 0) else (if x3 = 40 then (some 1) else (if x3 = 41 then (some 1) else (if x3 = 60 then (some 1) else (if x3 = 62 then (some 1) else (if x3 = 91 then (some 1) else (if x3 = 93 then (some 1) else (if x3 = 123 then (some 1) else (if x3 = 125 then (some 1) else (if x3 = 47 then (some 1) else (if x3 = 37 then (some 1) else (some 2)))))))))))
def lex_of.f (k : Nat) (a0 : Int) : Option (Int) := if a0 = 0 then (lex_of.j0 k a0 (a0 == 0)) else (if a0 = 9 then (lex_of.j0 k a0 (a0 == 9)) else (if a0 = 10 then (lex_of.j0 k a0 (a0 == 10)) else (if a0 = 12 then (lex_of.j0 k a0 (a0 == 12)) else (if a0 = 13 then (lex_of.j0 k a0 (a0 == 13)) else (lex_of.j0 k a0 (a0 == 32))))))
theorem lf_L2_1 {p_ : Prop} (h_ : p_ := by
  go_wp2
  go_ret
  exact ⟨ea_, dr_⟩) : p_ := h_
set_option maxHeartbeats 8000000 in
set_option maxRecDepth 100000 in
theorem lex_of.calls (k : Nat) (a0 : Int) (r : Int) (w : World) (h : lex_of.f k a0 = some r) :
  Calls Tryd.prog 30 #[.int .u8 a0] w fun e w' => e = .returned (.int .i64 r) ∧ Drawn0 w w' := by
 have H : (if a0 = 0 then (lex_of.j0 k a0 (a0 == 0)) else (if a0 = 9 then (lex_of.j0 k a0 (a0 == 9)) else (if a0 = 10 then (lex_of.j0 k a0 (a0 == 10)) else (if a0 = 12 then (lex_of.j0 k a0 (a0 == 12)) else (if a0 = 13 then (lex_of.j0 k a0 (a0 == 13)) else (lex_of.j0 k a0 (a0 == 32))))))) = some r := h
 clear h
 have HC2 := Aside0.mk H
 clear H
 go_enter Tryd.func30, Tryd.ntmps30
 go_upto_if 4 with (fail)
 go_cut [4] (fun v4 wc => ∃ (kq : Nat) (x4_1 : Bool), v4 = .bool x4_1 ∧ Aside0 (lex_of.j0 kq a0 x4_1 = some r) ∧ Aside0 (kq ≤ k) ∧ Drawn0 w wc)
 case first =>
  have H := HC2.out
  clear HC2
  by_cases c3 : a0 = 0
  ·rw [if_pos c3] at H
   have c3b0 : (a0 == 0) = true := beq_iff_eq.mpr c3
   have c3b1 : (a0 != 0) = false := bne_eq_false_iff_eq.mpr c3
   clear c3
   (first | rw [c3b0] | (simp only [i64_w, i32_w]; rw [c3b0]) | skip)
   have H' := Aside0.mk H
   clear H
   go_wp2
   go_meet
   case rel => exact ⟨_, ((a0 == 0)), ea_, H', ⟨by first | omega | exact Nat.le_refl _⟩, dr_⟩
  ·rw [if_neg c3] at H
   have c3b0 : (a0 == 0) = false := beq_eq_false_iff_ne.mpr c3
   have c3b1 : (a0 != 0) = true := bne_iff_ne.mpr c3
   (first | rw [c3b0] | (simp only [i64_w, i32_w]; rw [c3b0]) | skip)
   by_cases c4 : a0 = 9
   ·rw [if_pos c4] at H
    have c4b0 : (a0 == 9) = true := beq_iff_eq.mpr c4
    have c4b1 : (a0 != 9) = false := bne_eq_false_iff_eq.mpr c4
    clear c4
    have H' := Aside0.mk H
    clear H
    go_wp2
    go_meet
    case rel => exact ⟨_, ((a0 == 9)), ea_, H', ⟨by first | omega | exact Nat.le_refl _⟩, dr_⟩
   ·rw [if_neg c4] at H
    have c4b0 : (a0 == 9) = false := beq_eq_false_iff_ne.mpr c4
    have c4b1 : (a0 != 9) = true := bne_iff_ne.mpr c4
    by_cases c5 : a0 = 10
    ·rw [if_pos c5] at H
     have c5b0 : (a0 == 10) = true := beq_iff_eq.mpr c5
     have c5b1 : (a0 != 10) = false := bne_eq_false_iff_eq.mpr c5
     clear c5
     have H' := Aside0.mk H
     clear H
     go_wp2
     go_meet
     case rel => exact ⟨_, ((a0 == 10)), ea_, H', ⟨by first | omega | exact Nat.le_refl _⟩, dr_⟩
    ·rw [if_neg c5] at H
     have c5b0 : (a0 == 10) = false := beq_eq_false_iff_ne.mpr c5
     have c5b1 : (a0 != 10) = true := bne_iff_ne.mpr c5
     by_cases c6 : a0 = 12
     ·rw [if_pos c6] at H
      have c6b0 : (a0 == 12) = true := beq_iff_eq.mpr c6
      have c6b1 : (a0 != 12) = false := bne_eq_false_iff_eq.mpr c6
      clear c6
      have H' := Aside0.mk H
      clear H
      go_wp2
      go_meet
      case rel => exact ⟨_, ((a0 == 12)), ea_, H', ⟨by first | omega | exact Nat.le_refl _⟩, dr_⟩
     ·rw [if_neg c6] at H
      have c6b0 : (a0 == 12) = false := beq_eq_false_iff_ne.mpr c6
      have c6b1 : (a0 != 12) = true := bne_iff_ne.mpr c6
      by_cases c7 : a0 = 13
      ·rw [if_pos c7] at H
       have c7b0 : (a0 == 13) = true := beq_iff_eq.mpr c7
       have c7b1 : (a0 != 13) = false := bne_eq_false_iff_eq.mpr c7
       clear c7
       have H' := Aside0.mk H
       clear H
       go_wp2
       go_meet
       case rel => exact ⟨_, ((a0 == 13)), ea_, H', ⟨by first | omega | exact Nat.le_refl _⟩, dr_⟩
      ·rw [if_neg c7] at H
       have c7b0 : (a0 == 13) = false := beq_eq_false_iff_ne.mpr c7
       have c7b1 : (a0 != 13) = true := bne_iff_ne.mpr c7
       have H' := Aside0.mk H
       clear H
       go_wp2
       go_meet
       case rel => exact ⟨_, ((a0 == 32)), ea_, H', ⟨by first | omega | exact Nat.le_refl _⟩, dr_⟩
 case rest =>
  clear HC2
  try clear p2
  try clear c3
  try clear c3b0
  try clear c3b1
  try clear c4
  try clear c4b0
  try clear c4b1
  try clear c5
  try clear c5b0
  try clear c5b1
  try clear c6
  try clear c6b0
  try clear c6b1
  try clear c7
  try clear c7b0
  try clear c7b1
  obtain ⟨kq, x4_1, rfl, HA, HJ1, ⟨mc1, rfl⟩⟩ := hcut
  cases kq with
  | zero => exact absurd HA.out (by simp [lex_of.j0])
  | succ kj1 =>
   have H := HA.out
   clear HA
   simp only [lex_of.j0] at H
   by_cases c8 : x4_1 = true
   ·subst c8
    have H1 : (some 0) = some r := by rw [if_pos rfl] at H; exact H
    clear H
    have H := H1
    clear H1
    obtain rfl := Option.some.inj H
    exact lf_L2_1
   ·replace c8 := Bool.eq_false_iff.mpr c8
    subst c8
    have H1 : (if a0 = 40 then (some 1) else (if a0 = 41 then (some 1) else (if a0 = 60 then (some 1) else (if a0 = 62 then (some 1) else (if a0 = 91 then (some 1) else (if a0 = 93 then (some 1) else (if a0 = 123 then (some 1) else (if a0 = 125 then (some 1) else (if a0 = 47 then (some 1) else (if a0 = 37 then (some 1) else (some 2))))))))))) = some r := by rw [if_neg (show ¬ (false = true) by decide)] at H; exact H
    clear H
    have H := H1
    clear H1
    by_cases c9 : a0 = 40
    ·rw [if_pos c9] at H
     have c9b0 : (a0 == 40) = true := beq_iff_eq.mpr c9
     have c9b1 : (a0 != 40) = false := bne_eq_false_iff_eq.mpr c9
     clear c9
     obtain rfl := Option.some.inj H
     exact lf_L2_1
    ·rw [if_neg c9] at H
     have c9b0 : (a0 == 40) = false := beq_eq_false_iff_ne.mpr c9
     have c9b1 : (a0 != 40) = true := bne_iff_ne.mpr c9
     by_cases c10 : a0 = 41
     ·rw [if_pos c10] at H
      have c10b0 : (a0 == 41) = true := beq_iff_eq.mpr c10
      have c10b1 : (a0 != 41) = false := bne_eq_false_iff_eq.mpr c10
      clear c10
      obtain rfl := Option.some.inj H
      exact lf_L2_1
     ·rw [if_neg c10] at H
      have c10b0 : (a0 == 41) = false := beq_eq_false_iff_ne.mpr c10
      have c10b1 : (a0 != 41) = true := bne_iff_ne.mpr c10
      by_cases c11 : a0 = 60
      ·rw [if_pos c11] at H
       have c11b0 : (a0 == 60) = true := beq_iff_eq.mpr c11
       have c11b1 : (a0 != 60) = false := bne_eq_false_iff_eq.mpr c11
       clear c11
       obtain rfl := Option.some.inj H
       exact lf_L2_1
      ·rw [if_neg c11] at H
       have c11b0 : (a0 == 60) = false := beq_eq_false_iff_ne.mpr c11
       have c11b1 : (a0 != 60) = true := bne_iff_ne.mpr c11
       by_cases c12 : a0 = 62
       ·rw [if_pos c12] at H
        have c12b0 : (a0 == 62) = true := beq_iff_eq.mpr c12
        have c12b1 : (a0 != 62) = false := bne_eq_false_iff_eq.mpr c12
        clear c12
        obtain rfl := Option.some.inj H
        exact lf_L2_1
       ·rw [if_neg c12] at H
        have c12b0 : (a0 == 62) = false := beq_eq_false_iff_ne.mpr c12
        have c12b1 : (a0 != 62) = true := bne_iff_ne.mpr c12
        by_cases c13 : a0 = 91
        ·rw [if_pos c13] at H
         have c13b0 : (a0 == 91) = true := beq_iff_eq.mpr c13
         have c13b1 : (a0 != 91) = false := bne_eq_false_iff_eq.mpr c13
         clear c13
         obtain rfl := Option.some.inj H
         exact lf_L2_1
        ·rw [if_neg c13] at H
         have c13b0 : (a0 == 91) = false := beq_eq_false_iff_ne.mpr c13
         have c13b1 : (a0 != 91) = true := bne_iff_ne.mpr c13
         by_cases c14 : a0 = 93
         ·rw [if_pos c14] at H
          have c14b0 : (a0 == 93) = true := beq_iff_eq.mpr c14
          have c14b1 : (a0 != 93) = false := bne_eq_false_iff_eq.mpr c14
          clear c14
          obtain rfl := Option.some.inj H
          exact lf_L2_1
         ·rw [if_neg c14] at H
          have c14b0 : (a0 == 93) = false := beq_eq_false_iff_ne.mpr c14
          have c14b1 : (a0 != 93) = true := bne_iff_ne.mpr c14
          by_cases c15 : a0 = 123
          ·rw [if_pos c15] at H
           have c15b0 : (a0 == 123) = true := beq_iff_eq.mpr c15
           have c15b1 : (a0 != 123) = false := bne_eq_false_iff_eq.mpr c15
           clear c15
           obtain rfl := Option.some.inj H
           exact lf_L2_1
          ·rw [if_neg c15] at H
           have c15b0 : (a0 == 123) = false := beq_eq_false_iff_ne.mpr c15
           have c15b1 : (a0 != 123) = true := bne_iff_ne.mpr c15
           by_cases c16 : a0 = 125
           ·rw [if_pos c16] at H
            have c16b0 : (a0 == 125) = true := beq_iff_eq.mpr c16
            have c16b1 : (a0 != 125) = false := bne_eq_false_iff_eq.mpr c16
            clear c16
            obtain rfl := Option.some.inj H
            exact lf_L2_1
           ·rw [if_neg c16] at H
            have c16b0 : (a0 == 125) = false := beq_eq_false_iff_ne.mpr c16
            have c16b1 : (a0 != 125) = true := bne_iff_ne.mpr c16
            by_cases c17 : a0 = 47
            ·rw [if_pos c17] at H
             have c17b0 : (a0 == 47) = true := beq_iff_eq.mpr c17
             have c17b1 : (a0 != 47) = false := bne_eq_false_iff_eq.mpr c17
             clear c17
             obtain rfl := Option.some.inj H
             exact lf_L2_1
            ·rw [if_neg c17] at H
             have c17b0 : (a0 == 47) = false := beq_eq_false_iff_ne.mpr c17
             have c17b1 : (a0 != 47) = true := bne_iff_ne.mpr c17
             by_cases c18 : a0 = 37
             ·rw [if_pos c18] at H
              have c18b0 : (a0 == 37) = true := beq_iff_eq.mpr c18
              have c18b1 : (a0 != 37) = false := bne_eq_false_iff_eq.mpr c18
              clear c18
              obtain rfl := Option.some.inj H
              exact lf_L2_1
             ·rw [if_neg c18] at H
              have c18b0 : (a0 == 37) = false := beq_eq_false_iff_ne.mpr c18
              have c18b1 : (a0 != 37) = true := bne_iff_ne.mpr c18
              obtain rfl := Option.some.inj H
              exact lf_L2_1
def IsS44 (w0 W : World) (g : Nat) (f0 : List Int) (f1 : Int) : Prop := ∃ (A0 : Option Addr) (c0 : {c : Nat // f0.length ≤ c}), W.heap[g]? = some (.cells #[.slice A0 f0.length c0, .int .i64 f1] 44 (0, 0)) ∧ w0.heap.size ≤ g ∧ Kd.C (Kd.int .u8) w0 A0 f0.length f0
theorem IsS44.grown {w0 W : World} {g : Nat} {f0 : List Int} {f1 : Int} {W1 : World} {row : Option Nat} (h : IsS44 w0 W g f0 f1) (hw : W.grownBy W1 row) (hne : some g ≠ row) : IsS44 w0 W1 g f0 f1 := by
 obtain ⟨A0, c0, hb, hg, hr0⟩ := h
 exact ⟨A0, c0, blk_grown hb hw hne, hg, hr0⟩
theorem IsS44.kept {w0 W : World} {g : Nat} {f0 : List Int} {f1 : Int} {W1 : World} {S : Nat → Prop} (h : IsS44 w0 W g f0 f1) (hk : Kept W W1 S) (hne : ¬ S g) : IsS44 w0 W1 g f0 f1 := by
 obtain ⟨A0, c0, hb, hg, hr0⟩ := h
 exact ⟨A0, c0, blk_kept hb hk hne, hg, hr0⟩
theorem IsS44.below {w0 W : World} {g : Nat} {f0 : List Int} {f1 : Int} {W1 : World} (h : IsS44 w0 W g f0 f1) (hw : Below W.heap.size W W1) : IsS44 w0 W1 g f0 f1 := h.grown (grown_of_below hw none) (by simp)
theorem IsS44.alloc {w0 W : World} {g : Nat} {f0 : List Int} {f1 : Int} (h : IsS44 w0 W g f0 f1) (o : Obj) : IsS44 w0 (W.alloc o) g f0 f1 := h.below (below_alloc (Below.refl _ _) o)
theorem IsS44.drewN {w0 W : World} {g : Nat} {f0 : List Int} {f1 : Int} (h : IsS44 w0 W g f0 f1) (m : Nat) : IsS44 w0 (W.drewN m) g f0 f1 := h
theorem IsS44.drew {w0 W : World} {g : Nat} {f0 : List Int} {f1 : Int} (h : IsS44 w0 W g f0 f1) : IsS44 w0 W.drew g f0 f1 := h
theorem IsS44.at_ {w0 W : World} {g : Nat} {f0 : List Int} {f1 : Int} {w' : World} {m : Nat} (hq : W.drewN m = w') (h : IsS44 w0 W g f0 f1) : IsS44 w0 w' g f0 f1 := by subst hq; exact IsS44.drewN h m
theorem IsS44.apart {w0 W : World} {g : Nat} {f0 : List Int} {f1 : Int} {α : Type} {d : Kd α} {e : Nat} {base : Nat} {ok : Nat → Prop} {v : Value} {xs : List α} (h : IsS44 w0 W g f0 f1) (ho : d.R e W base ok v xs) (ht : ∀ q, q ∈ e :: d.E → q ≠ 44) : d.R e W base (fun k => ok k ∧ k ≠ g) v xs := by
 obtain ⟨A0, c0, hb, hg, hr0⟩ := h
 exact Kd.R_types ho hb ht
theorem IsS44.own_ne {w0 W : World} {g : Nat} {f0 : List Int} {f1 : Int} {α : Type} {d : Kd α} {e : Nat} {base : Nat} {ok : Nat → Prop} {v : Value} {xs : List α} (h : IsS44 w0 W g f0 f1) (ho : d.R e W base ok v xs) (ht : e ≠ 44) : some g ≠ v.ownBlock := by
 obtain ⟨A0, c0, hb, hg, hr0⟩ := h
 exact Kd.R_ne ho hb ht
theorem IsS44.lt {w0 W : World} {g : Nat} {f0 : List Int} {f1 : Int} (h : IsS44 w0 W g f0 f1) : g < W.heap.size := by
 obtain ⟨A0, c0, hb, hg, hr0⟩ := h
 exact blk_lt hb
theorem IsS44.ge {w0 W : World} {g : Nat} {f0 : List Int} {f1 : Int} (h : IsS44 w0 W g f0 f1) : w0.heap.size ≤ g := by
 obtain ⟨A0, c0, hb, hg, hr0⟩ := h
 exact hg
theorem IsS44.far {w0 W : World} {g : Nat} {f0 : List Int} {f1 : Int} {p : Addr} (h : IsS44 w0 W g f0 f1) (hne : g ≠ p.block) (u : Value) : IsS44 w0 (W.setCell p u) g f0 f1 := by
 obtain ⟨A0, c0, hb, hg, hr0⟩ := h
 exact ⟨A0, c0, blk_far hb hne u, hg, hr0⟩
theorem cellS44_0 {W : World} {g : Nat} {A0 : Option Addr} {c0 : Nat} {f0 : List Int} {f1 : Int} (h : W.heap[g]? = some (.cells #[.slice A0 f0.length c0, .int .i64 f1] 44 (0, 0))) : W.cell? ⟨g, 0, none⟩ = some (.slice A0 f0.length c0) := (blk_cell h 0).trans rfl
theorem cellS44_1 {W : World} {g : Nat} {A0 : Option Addr} {c0 : Nat} {f0 : List Int} {f1 : Int} (h : W.heap[g]? = some (.cells #[.slice A0 f0.length c0, .int .i64 f1] 44 (0, 0))) : W.cell? ⟨g, 1, none⟩ = some (.int .i64 f1) := (blk_cell h 1).trans rfl
theorem IsS44.set_1 {w0 W : World} {g : Nat} {f0 : List Int} {f1 : Int} (h : IsS44 w0 W g f0 f1) (x : Int) : IsS44 w0 (W.setCell ⟨g, 1, none⟩ (.int .i64 x)) g f0 x := by
 obtain ⟨A0, c0, hb, hg, hr0⟩ := h
 exact ⟨A0, c0, by simpa using blk_set hb 1 (.int .i64 x), hg, hr0⟩
theorem IsS44.new (w0 W : World) (A0 : Option Addr) (c0 : Nat) (f0 : List Int) (f1 : Int) (hB : Below w0.heap.size w0 W) (hr0 : Kd.C (Kd.int .u8) w0 A0 f0.length f0) (hc0 : f0.length ≤ c0 := by first | assumption | exact Aside0.out ‹_› | exact Nat.le_refl _ | (simp; done)) : IsS44 w0 (W.alloc (.cells #[.slice A0 f0.length c0, .int .i64 f1] 44)) W.heap.size f0 f1 := ⟨A0, ⟨c0, hc0⟩, by simpa using heap_alloc_new W _, hB.size, hr0⟩
theorem isk44 {w0 W : World} {g : Nat} {f0 : List Int} {f1 : Int} (h_ : IsS44 w0 W g f0 f1 := by repeat (first | (with_reducible first | exact Aside0.out ‹_› | apply IsS44.alloc | apply IsS44.drewN | apply IsS44.drew | apply IsS44.set_1 | refine IsS44.far ?_ (Aside0.out ‹_›) _) | exact Aside0.out ‹_›)) : IsS44 w0 W g f0 f1 := h_
theorem isb44 {n : Nat} {w w' : World} (h_ : Below n w w' := by repeat (first | (with_reducible first | exact Aside0.out ‹_› | apply below_alloc | apply pw_below_drewN | apply below_drew1 | refine below_set ?_ (IsS44.ge (Aside0.out ‹_›)) | refine below_set ?_ (Aside0.out ‹_›)) | exact Aside0.out ‹_›)) : Below n w w' := h_
theorem kpt44 {w w' : World} {S : Nat → Prop} (h_ : Kept w w' S := by repeat (first | (with_reducible first | exact Aside0.out ‹_› | apply Kept.alloc | apply Kept.drewN | apply Kept.drew | refine Kept.setCell ?_ (.inl (.inr rfl)) _) | exact Aside0.out ‹_›)) : Kept w w' S := h_
def lex_reader_peek.f (s0_0 : List Int) (s0_1 : Int) (a1 : Int) : Option (Int × Bool × Int) := if (wrap64 (s0_1 + a1)) ≥ (s0_0.length : Int) then (some (0, false, s0_1)) else (if 0 ≤ (wrap64 (s0_1 + a1)) then (if (wrap64 (s0_1 + a1)) < (s0_0.length : Int) then (some (rd s0_0 (wrap64 (s0_1 + a1)), true, s0_1)) else (none)) else (none))
set_option maxHeartbeats 8000000 in
set_option maxRecDepth 100000 in
theorem lex_reader_peek.calls (g : Nat) (s0_0 : List Int) (s0_1 : Int) (a1 : Int) (r1 : Int) (r2 : Bool) (r3 : Int) (w0 w : World) (hI : IsS44 w0 w g s0_0 s0_1) (hB : Below w0.heap.size w0 w) (h : lex_reader_peek.f s0_0 s0_1 a1 = some (r1, r2, r3)) :
  Calls Tryd.prog 47 #[.pointer (some ⟨g, 0, none⟩), .int .i64 a1] w fun e w' => e = .returned (.tuple #[.int .u8 r1, .bool r2]) ∧ IsS44 w0 w' g s0_0 r3 ∧ Below w0.heap.size w0 w' ∧ KeepBut w w' g none := by
 have HI0 := Aside0.mk hI
 have HK := Aside0.mk (KeepBut.refl w g none)
 have HL := Aside0.mk hB.size
 clear hI
 have HW0 := Aside0.mk hB.size
 have HB := Aside0.mk hB
 clear hB
 have H : (if (wrap64 (s0_1 + a1)) ≥ (s0_0.length : Int) then (some (0, false, s0_1)) else (if 0 ≤ (wrap64 (s0_1 + a1)) then (if (wrap64 (s0_1 + a1)) < (s0_0.length : Int) then (some (rd s0_0 (wrap64 (s0_1 + a1)), true, s0_1)) else (none)) else (none))) = some (r1, r2, r3) := h
 clear h
 by_cases c3 : (wrap64 (s0_1 + a1)) ≥ (s0_0.length : Int)
 ·rw [if_pos c3] at H
  have c3b0 : decide ((s0_0.length : Int) ≤ (wrap64 (s0_1 + a1))) = true := decide_eq_true c3
  clear c3
  simp only [Option.some.injEq, Prod.mk.injEq] at H
  obtain ⟨rfl, rfl, rfl⟩ := H
  obtain ⟨ASzq0, cSzq0, HGzq0, hgzq0, HSzq0⟩ := HI0.out
  have hczq0 := cellS44_0 HGzq0
  have hczq1 := cellS44_1 HGzq0
  have hfzq0 := blk_frozen HGzq0 1
  clear HGzq0 hgzq0
  go_enter Tryd.func47, Tryd.ntmps47
  go_wp2
  repeat (go_quiet (fail); try go_wp2)
  go_ret2
  exact ⟨ee_, isk44, isb44, by repeat (first | (with_reducible first | exact HK.out | apply KeepBut.set_ | apply keep_drewN | apply keep_drew | apply keep_alloc) | exact HK.out)⟩
 ·rw [if_neg c3] at H
  have c3b0 : decide ((s0_0.length : Int) ≤ (wrap64 (s0_1 + a1))) = false := decide_eq_false c3
  clear c3
  obtain ⟨ji5, hji5⟩ : ∃ j_ : Int, (wrap64 (s0_1 + a1)) = j_ := ⟨_, rfl⟩
  replace H : (if 0 ≤ (ji5) then (if (ji5) < (s0_0.length : Int) then (some (rd s0_0 (ji5), true, s0_1)) else (none)) else (none)) = some (r1, r2, r3) := by first | (rw [hji5] at H; exact H) | (simp only [hji5] at H ⊢; exact H)
  (try rw [hji5] at c3b0)
  have hji5w : (IntKind.i64.wrap (s0_1 + a1)) = ji5 := (i64_w _).trans hji5
  by_cases c6 : 0 ≤ (ji5)
  ·rw [if_pos c6] at H
   have c6b0 : decide (0 ≤ (ji5)) = true := decide_eq_true c6
   clear c6
   by_cases c7 : (ji5) < (s0_0.length : Int)
   ·rw [if_pos c7] at H
    have cq0 : decide ((ji5) < (s0_0.length : Int)) = true := decide_eq_true c7
    clear c7
    simp only [Option.some.injEq, Prod.mk.injEq] at H
    obtain ⟨rfl, rfl, rfl⟩ := H
    obtain ⟨ASzq0, cSzq0, HGzq0, hgzq0, HSzq0⟩ := HI0.out
    have hczq0 := cellS44_0 HGzq0
    have hczq1 := cellS44_1 HGzq0
    have hfzq0 := blk_frozen HGzq0 1
    clear HGzq0 hgzq0
    have pq0 : 0 ≤ ((ji5) : Int) := of_decide_eq_true (by first | (with_reducible assumption) | assumption)
    have qq0 : (ji5) < (s0_0.length : Int) := of_decide_eq_true (by first | (with_reducible assumption) | assumption)
    obtain ⟨adq0, eq0, hxq0⟩ := Kd.at_int HSzq0 (ji5) pq0 qq0
    cases eq0
    replace hxq0 := pw_cell_below HB.out hxq0
    replace pq0 := eq_true pq0
    replace qq0 := eq_true qq0
    go_enter Tryd.func47, Tryd.ntmps47
    go_wp2
    repeat (go_quiet (fail); try go_wp2)
    go_ret2
    exact ⟨by first | rfl | (simp [errW_none, errW_some] <;> rfl) | (simp only [← hji5]; first | rfl | (simp [errW_none, errW_some] <;> rfl)) | (simp [*, errW_none, errW_some] <;> rfl), isk44, isb44, by repeat (first | (with_reducible first | exact HK.out | apply KeepBut.set_ | apply keep_drewN | apply keep_drew | apply keep_alloc) | exact HK.out)⟩
   ·rw [if_neg c7] at H
    exact absurd H (by simp)
  ·rw [if_neg c6] at H
   exact absurd H (by simp)
mutual
def lex_reader_skip.l0 : Nat → Bool → Int → Bool → List Int → Int → Option (Int)
 | 0, _, _, _, _, _ => none
 | k + 1, x2, x3, x4, x1000, x1001 => if x4 = true then (if x3 = 10 then (lex_reader_skip.j1 k x2 x3 true x1000 x1001) else (lex_reader_skip.j1 k x2 x3 (x3 == 13) x1000 x1001)) else (some x1001)
def lex_reader_skip.j1 : Nat → Bool → Int → Bool → List Int → Int → Option (Int)
 | 0, _, _, _, _, _ => none
 | k + 1, x2, x3, x16, x1000, x1001 => if x16 = true then ((lex_reader_peek.f x1000 (wrap64 (x1001 + 1)) 0).bind fun bt105 => (lex_reader_skip.l0 k false bt105.1 bt105.2.1 x1000 bt105.2.2)) else (if x2 = true then (lex_reader_skip.j2 k x2 x3 true x1000 x1001) else ((lex_of.f k x3).bind fun t108 => (lex_reader_skip.j2 k x2 x3 (t108 == 0) x1000 x1001)))
def lex_reader_skip.j2 : Nat → Bool → Int → Bool → List Int → Int → Option (Int)
 | 0, _, _, _, _, _ => none
 | k + 1, x2, x3, x23, x1000, x1001 => if x23 = true then ((lex_reader_peek.f x1000 (wrap64 (x1001 + 1)) 0).bind fun bt109 => (lex_reader_skip.l0 k x2 bt109.1 bt109.2.1 x1000 bt109.2.2)) else (if x3 = 37 then ((lex_reader_peek.f x1000 (wrap64 (x1001 + 1)) 0).bind fun bt112 => (lex_reader_skip.l0 k true bt112.1 bt112.2.1 x1000 bt112.2.2)) else (some x1001))
end
def lex_reader_skip.f (k : Nat) (s0_0 : List Int) (s0_1 : Int) : Option (Int) := (lex_reader_peek.f s0_0 s0_1 0).bind fun bt102 => (lex_reader_skip.l0 k false bt102.1 bt102.2.1 s0_0 bt102.2.2)
theorem lf_L2_2 {p_ : Prop} (h_ : p_ := by
  go_wp2
  first | go_end0 | ((try simp only [Exit.inBlock, Exit.then]); refine bodyPost_ret (results_none rfl _ _ _) rfl ?_)
  exact ⟨ee_, isk44, isb44, by repeat (first | (with_reducible first | exact HK.out | apply KeepBut.set_ | apply keep_drewN | apply keep_drew | apply keep_alloc) | exact HK.out)⟩) : p_ := h_
set_option maxHeartbeats 8000000 in
set_option maxRecDepth 100000 in
theorem lex_reader_skip.calls (k : Nat) (g : Nat) (s0_0 : List Int) (s0_1 : Int) (r : Int) (w0 w : World) (hI : IsS44 w0 w g s0_0 s0_1) (hB : Below w0.heap.size w0 w) (h : lex_reader_skip.f k s0_0 s0_1 = some r) :
  Calls Tryd.prog 46 #[.pointer (some ⟨g, 0, none⟩)] w fun e w' => e = .returned (.tuple #[]) ∧ IsS44 w0 w' g s0_0 r ∧ Below w0.heap.size w0 w' ∧ KeepBut w w' g none := by
 have HI0 := Aside0.mk hI
 have HK := Aside0.mk (KeepBut.refl w g none)
 have HL := Aside0.mk hB.size
 clear hI
 have HW0 := Aside0.mk hB.size
 have HB := Aside0.mk hB
 clear hB
 have H : ((lex_reader_peek.f s0_0 s0_1 0).bind fun bt102 => (lex_reader_skip.l0 k false bt102.1 bt102.2.1 s0_0 bt102.2.2)) = some r := h
 clear h
 replace H := Option.bind_eq_some_iff.mp H
 obtain ⟨⟨t102, t103, t104⟩, A20, H⟩ := H
 replace H : (lex_reader_skip.l0 k false t102 t103 s0_0 t104) = some r := H
 have A2 := Aside0.mk A20
 clear A20
 have H' := Aside0.mk H
 clear H
 go_enter Tryd.func46, Tryd.ntmps46
 go_wp2_with (first | ((with_reducible refine gate_callee (f := 47) rfl ?_); refine goesL_ (some 7) rfl rfl Tryd.func47 (by kernel_rfl) rfl #[.pointer (some ⟨g, 0, none⟩), .int .i64 0] rfl gl_ ?_; (with_reducible refine (lex_reader_peek.calls g s0_0 s0_1 0 t102 t103 t104 w0 _ ?side1 ?side2 A2.out).mono ?_); (case side1 => exact isk44); (case side2 => exact isb44); rintro e w3 ⟨rfl, hi, hb, hk⟩; refine ⟨_, rfl, ?_⟩; have n0_ := Aside0.mk (KeepBut.trans (by repeat (first | (with_reducible first | exact HK.out | apply KeepBut.set_ | apply keep_drewN | apply keep_drew | apply keep_alloc) | exact HK.out)) hk (.inl rfl)); have n1_ := Aside0.mk (hb); have n2_ := Aside0.mk (hi); clear HK; clear HB; clear HI0; have HK := n0_; have HB := n1_; have HI0 := n2_; clear n0_ n1_ n2_; (try clear hb); (try clear hb2); (try clear hk); (try clear hi)))
 go_loopg [2, 3, 4] k (fun kq v2 v3 v4 w' => ∃ (x2_1 : Bool) (x3_1 : Int) (x4_1 : Bool) (x1001_1 : Int), v2 = .bool x2_1 ∧ v3 = .int .u8 x3_1 ∧ v4 = .bool x4_1 ∧ Aside0 (lex_reader_skip.l0 kq x2_1 x3_1 x4_1 s0_0 x1001_1 = some r) ∧ Aside0 (kq ≤ k) ∧ Aside0 (IsS44 w0 w' g s0_0 x1001_1) ∧ Aside0 (KeepBut w w' g none) ∧ Aside0 (Below w0.heap.size w0 w'))
 case atStart => exact ⟨(false), (t102), (t103), (t104), ea_, ea_, ea_, H', ⟨Nat.le_refl _⟩, ⟨isk44⟩, ⟨by repeat (first | (with_reducible first | exact HK.out | apply KeepBut.set_ | apply keep_drewN | apply keep_drew | apply keep_alloc) | exact HK.out)⟩, ⟨isb44⟩⟩
 case round =>
  clear H'
  try clear p2
  obtain ⟨x2_1, x3_1, x4_1, x1001_1, rfl, rfl, rfl, HA, HK1, HI0, HK, HB⟩ := hrel
  cases gk with
  | zero => exact absurd HA.out (by simp [lex_reader_skip.l0])
  | succ k1 =>
   have H := HA.out
   clear HA
   simp only [lex_reader_skip.l0] at H
   by_cases c4 : x4_1 = true
   ·subst c4
    have H1 : (if x3_1 = 10 then (lex_reader_skip.j1 k1 x2_1 x3_1 true s0_0 x1001_1) else (lex_reader_skip.j1 k1 x2_1 x3_1 (x3_1 == 13) s0_0 x1001_1)) = some r := by rw [if_pos rfl] at H; exact H
    clear H
    have H := H1
    clear H1
    have HC5 := Aside0.mk H
    clear H
    go_upto_region 4 with (fail)
    go_cut [16] (fun v16 wc => ∃ (kq : Nat) (x16_4 : Bool), v16 = .bool x16_4 ∧ Aside0 (lex_reader_skip.j1 kq x2_1 x3_1 x16_4 s0_0 x1001_1 = some r) ∧ Aside0 (kq ≤ k1) ∧ Aside0 (IsS44 w0 wc g s0_0 x1001_1) ∧ Aside0 (KeepBut w wc g none) ∧ Aside0 (Below w0.heap.size w0 wc))
    case first =>
     have H := HC5.out
     clear HC5
     by_cases c6 : x3_1 = 10
     ·rw [if_pos c6] at H
      have c6b0 : (x3_1 == 10) = true := beq_iff_eq.mpr c6
      have c6b1 : (x3_1 != 10) = false := bne_eq_false_iff_eq.mpr c6
      clear c6
      (first | rw [c6b0] | (simp only [i64_w, i32_w]; rw [c6b0]) | skip)
      have H' := Aside0.mk H
      clear H
      go_wp2
      go_meet
      case rel => exact ⟨_, (true), ea_, H', ⟨by have := HK1.out; first | omega | exact Nat.le_refl _⟩, ⟨isk44⟩, ⟨by repeat (first | (with_reducible first | exact HK.out | apply KeepBut.set_ | apply keep_drewN | apply keep_drew | apply keep_alloc) | exact HK.out)⟩, ⟨isb44⟩⟩
     ·rw [if_neg c6] at H
      have c6b0 : (x3_1 == 10) = false := beq_eq_false_iff_ne.mpr c6
      have c6b1 : (x3_1 != 10) = true := bne_iff_ne.mpr c6
      (first | rw [c6b0] | (simp only [i64_w, i32_w]; rw [c6b0]) | skip)
      have H' := Aside0.mk H
      clear H
      go_wp2
      go_meet
      case rel => exact ⟨_, ((x3_1 == 13)), ea_, H', ⟨by have := HK1.out; first | omega | exact Nat.le_refl _⟩, ⟨isk44⟩, ⟨by repeat (first | (with_reducible first | exact HK.out | apply KeepBut.set_ | apply keep_drewN | apply keep_drew | apply keep_alloc) | exact HK.out)⟩, ⟨isb44⟩⟩
    case rest =>
     clear HC5
     try clear p2
     try clear c4
     try clear c6
     try clear c6b0
     try clear c6b1
     try clear p2
     obtain ⟨kq, x16_4, rfl, HA, HJ4, HI0, HK, HB⟩ := hcut
     cases kq with
     | zero => exact absurd HA.out (by simp [lex_reader_skip.j1])
     | succ kj4 =>
      have H := HA.out
      clear HA
      simp only [lex_reader_skip.j1] at H
      by_cases c7 : x16_4 = true
      ·subst c7
       have H1 : ((lex_reader_peek.f s0_0 (wrap64 (x1001_1 + 1)) 0).bind fun bt105 => (lex_reader_skip.l0 kj4 false bt105.1 bt105.2.1 s0_0 bt105.2.2)) = some r := by rw [if_pos rfl] at H; exact H
       clear H
       have H := H1
       clear H1
       replace H := Option.bind_eq_some_iff.mp H
       obtain ⟨⟨t105, t106, t107⟩, A80, H⟩ := H
       replace H : (lex_reader_skip.l0 kj4 false t105 t106 s0_0 t107) = some r := H
       have A8 := Aside0.mk A80
       clear A80
       have H' := Aside0.mk H
       clear H
       obtain ⟨ASz9_0, cSz9_0, HGz9, hgz9, HSz9_0⟩ := HI0.out
       have hcz9_0 := cellS44_0 HGz9
       have hcz9_1 := cellS44_1 HGz9
       have hfz9_1 := blk_frozen HGz9 1
       clear HGz9 hgz9
       go_wp2_with (first | ((with_reducible refine gate_callee (f := 47) rfl ?_); refine goesL_ (some 13) rfl rfl Tryd.func47 (by kernel_rfl) rfl #[.pointer (some ⟨g, 0, none⟩), .int .i64 0] rfl gl_ ?_; (with_reducible refine (lex_reader_peek.calls g s0_0 (wrap64 (x1001_1 + 1)) 0 t105 t106 t107 w0 _ ?side1 ?side2 A8.out).mono ?_); (case side1 => exact isk44); (case side2 => exact isb44); rintro e w10 ⟨rfl, hi, hb, hk⟩; refine ⟨_, rfl, ?_⟩; have n0_ := Aside0.mk (KeepBut.trans (by repeat (first | (with_reducible first | exact HK.out | apply KeepBut.set_ | apply keep_drewN | apply keep_drew | apply keep_alloc) | exact HK.out)) hk (.inl rfl)); have n1_ := Aside0.mk (hb); have n2_ := Aside0.mk (hi); clear HK; clear HB; clear HI0; have HK := n0_; have HB := n1_; have HI0 := n2_; clear n0_ n1_ n2_; (try clear hb); (try clear hb2); (try clear hk); (try clear hi)))
       go_roundg kj4
       case measure => have := HK1.out; have := HJ4.out; omega
       case rel => exact ⟨(false), (t105), (t106), (t107), ea_, ea_, ea_, H', ⟨by have := HK1.out; have := HJ4.out; omega⟩, ⟨isk44⟩, ⟨by repeat (first | (with_reducible first | exact HK.out | apply KeepBut.set_ | apply keep_drewN | apply keep_drew | apply keep_alloc) | exact HK.out)⟩, ⟨isb44⟩⟩
      ·replace c7 := Bool.eq_false_iff.mpr c7
       subst c7
       have H1 : (if x2_1 = true then (lex_reader_skip.j2 kj4 x2_1 x3_1 true s0_0 x1001_1) else ((lex_of.f kj4 x3_1).bind fun t108 => (lex_reader_skip.j2 kj4 x2_1 x3_1 (t108 == 0) s0_0 x1001_1))) = some r := by rw [if_neg (show ¬ (false = true) by decide)] at H; exact H
       clear H
       have H := H1
       clear H1
       have HC11 := Aside0.mk H
       clear H
       go_upto_region 6 with (fail)
       go_cut [23] (fun v23 wc => ∃ (kq : Nat) (x23_10 : Bool), v23 = .bool x23_10 ∧ Aside0 (lex_reader_skip.j2 kq x2_1 x3_1 x23_10 s0_0 x1001_1 = some r) ∧ Aside0 (kq ≤ kj4) ∧ Aside0 (IsS44 w0 wc g s0_0 x1001_1) ∧ Aside0 (KeepBut w wc g none) ∧ Aside0 (Below w0.heap.size w0 wc))
       case first =>
        have H := HC11.out
        clear HC11
        by_cases c12 : x2_1 = true
        ·subst c12
         have H1 : (lex_reader_skip.j2 kj4 true x3_1 true s0_0 x1001_1) = some r := by rw [if_pos rfl] at H; exact H
         clear H
         have H := H1
         clear H1
         have H' := Aside0.mk H
         clear H
         go_wp2
         go_meet
         case rel => exact ⟨_, (true), ea_, H', ⟨by have := HK1.out; have := HJ4.out; first | omega | exact Nat.le_refl _⟩, ⟨isk44⟩, ⟨by repeat (first | (with_reducible first | exact HK.out | apply KeepBut.set_ | apply keep_drewN | apply keep_drew | apply keep_alloc) | exact HK.out)⟩, ⟨isb44⟩⟩
        ·replace c12 := Bool.eq_false_iff.mpr c12
         subst c12
         have H1 : ((lex_of.f kj4 x3_1).bind fun t108 => (lex_reader_skip.j2 kj4 false x3_1 (t108 == 0) s0_0 x1001_1)) = some r := by rw [if_neg (show ¬ (false = true) by decide)] at H; exact H
         clear H
         have H := H1
         clear H1
         replace H := Option.bind_eq_some_iff.mp H
         obtain ⟨t108, A130, H⟩ := H
         replace H : (lex_reader_skip.j2 kj4 false x3_1 (t108 == 0) s0_0 x1001_1) = some r := H
         have A13 := Aside0.mk A130
         clear A130
         have H' := Aside0.mk H
         clear H
         go_wp2_with (first | (go_at_call 30; (with_reducible refine (lex_of.calls kj4 x3_1 t108 _ A13.out).mono ?_); rintro e w' ⟨rfl, ⟨nd, rfl⟩⟩))
         go_meet
         case rel => exact ⟨_, ((t108 == 0)), ea_, H', ⟨by have := HK1.out; have := HJ4.out; first | omega | exact Nat.le_refl _⟩, ⟨isk44⟩, ⟨by repeat (first | (with_reducible first | exact HK.out | apply KeepBut.set_ | apply keep_drewN | apply keep_drew | apply keep_alloc) | exact HK.out)⟩, ⟨isb44⟩⟩
       case rest =>
        clear HC11
        try clear c1
        try clear p2
        try clear c4
        try clear c6
        try clear c6b0
        try clear c6b1
        try clear p6
        try clear c7
        try clear c12
        try clear hcz9_0
        try clear hcz9_1
        try clear hfz9_1
        try clear p2
        obtain ⟨kq, x23_10, rfl, HA, HJ10, HI0, HK, HB⟩ := hcut
        cases kq with
        | zero => exact absurd HA.out (by simp [lex_reader_skip.j2])
        | succ kj10 =>
         have H := HA.out
         clear HA
         simp only [lex_reader_skip.j2] at H
         by_cases c14 : x23_10 = true
         ·subst c14
          have H1 : ((lex_reader_peek.f s0_0 (wrap64 (x1001_1 + 1)) 0).bind fun bt109 => (lex_reader_skip.l0 kj10 x2_1 bt109.1 bt109.2.1 s0_0 bt109.2.2)) = some r := by rw [if_pos rfl] at H; exact H
          clear H
          have H := H1
          clear H1
          replace H := Option.bind_eq_some_iff.mp H
          obtain ⟨⟨t109, t110, t111⟩, A150, H⟩ := H
          replace H : (lex_reader_skip.l0 kj10 x2_1 t109 t110 s0_0 t111) = some r := H
          have A15 := Aside0.mk A150
          clear A150
          have H' := Aside0.mk H
          clear H
          obtain ⟨ASz16_0, cSz16_0, HGz16, hgz16, HSz16_0⟩ := HI0.out
          have hcz16_0 := cellS44_0 HGz16
          have hcz16_1 := cellS44_1 HGz16
          have hfz16_1 := blk_frozen HGz16 1
          clear HGz16 hgz16
          go_wp2_with (first | ((with_reducible refine gate_callee (f := 47) rfl ?_); refine goesL_ (some 13) rfl rfl Tryd.func47 (by kernel_rfl) rfl #[.pointer (some ⟨g, 0, none⟩), .int .i64 0] rfl gl_ ?_; (with_reducible refine (lex_reader_peek.calls g s0_0 (wrap64 (x1001_1 + 1)) 0 t109 t110 t111 w0 _ ?side1 ?side2 A15.out).mono ?_); (case side1 => exact isk44); (case side2 => exact isb44); rintro e w17 ⟨rfl, hi, hb, hk⟩; refine ⟨_, rfl, ?_⟩; have n0_ := Aside0.mk (KeepBut.trans (by repeat (first | (with_reducible first | exact HK.out | apply KeepBut.set_ | apply keep_drewN | apply keep_drew | apply keep_alloc) | exact HK.out)) hk (.inl rfl)); have n1_ := Aside0.mk (hb); have n2_ := Aside0.mk (hi); clear HK; clear HB; clear HI0; have HK := n0_; have HB := n1_; have HI0 := n2_; clear n0_ n1_ n2_; (try clear hb); (try clear hb2); (try clear hk); (try clear hi)))
          go_roundg kj10
          case measure => have := HK1.out; have := HJ4.out; have := HJ10.out; omega
          case rel => exact ⟨(x2_1), (t109), (t110), (t111), ea_, ea_, ea_, H', ⟨by have := HK1.out; have := HJ4.out; have := HJ10.out; omega⟩, ⟨isk44⟩, ⟨by repeat (first | (with_reducible first | exact HK.out | apply KeepBut.set_ | apply keep_drewN | apply keep_drew | apply keep_alloc) | exact HK.out)⟩, ⟨isb44⟩⟩
         ·replace c14 := Bool.eq_false_iff.mpr c14
          subst c14
          have H1 : (if x3_1 = 37 then ((lex_reader_peek.f s0_0 (wrap64 (x1001_1 + 1)) 0).bind fun bt112 => (lex_reader_skip.l0 kj10 true bt112.1 bt112.2.1 s0_0 bt112.2.2)) else (some x1001_1)) = some r := by rw [if_neg (show ¬ (false = true) by decide)] at H; exact H
          clear H
          have H := H1
          clear H1
          by_cases c18 : x3_1 = 37
          ·rw [if_pos c18] at H
           have c18b0 : (x3_1 == 37) = true := beq_iff_eq.mpr c18
           have c18b1 : (x3_1 != 37) = false := bne_eq_false_iff_eq.mpr c18
           clear c18
           replace H := Option.bind_eq_some_iff.mp H
           obtain ⟨⟨t112, t113, t114⟩, A190, H⟩ := H
           replace H : (lex_reader_skip.l0 kj10 true t112 t113 s0_0 t114) = some r := H
           have A19 := Aside0.mk A190
           clear A190
           have H' := Aside0.mk H
           clear H
           obtain ⟨ASz20_0, cSz20_0, HGz20, hgz20, HSz20_0⟩ := HI0.out
           have hcz20_0 := cellS44_0 HGz20
           have hcz20_1 := cellS44_1 HGz20
           have hfz20_1 := blk_frozen HGz20 1
           clear HGz20 hgz20
           go_wp2_with (first | ((with_reducible refine gate_callee (f := 47) rfl ?_); refine goesL_ (some 13) rfl rfl Tryd.func47 (by kernel_rfl) rfl #[.pointer (some ⟨g, 0, none⟩), .int .i64 0] rfl gl_ ?_; (with_reducible refine (lex_reader_peek.calls g s0_0 (wrap64 (x1001_1 + 1)) 0 t112 t113 t114 w0 _ ?side1 ?side2 A19.out).mono ?_); (case side1 => exact isk44); (case side2 => exact isb44); rintro e w21 ⟨rfl, hi, hb, hk⟩; refine ⟨_, rfl, ?_⟩; have n0_ := Aside0.mk (KeepBut.trans (by repeat (first | (with_reducible first | exact HK.out | apply KeepBut.set_ | apply keep_drewN | apply keep_drew | apply keep_alloc) | exact HK.out)) hk (.inl rfl)); have n1_ := Aside0.mk (hb); have n2_ := Aside0.mk (hi); clear HK; clear HB; clear HI0; have HK := n0_; have HB := n1_; have HI0 := n2_; clear n0_ n1_ n2_; (try clear hb); (try clear hb2); (try clear hk); (try clear hi)))
           go_roundg kj10
           case measure => have := HK1.out; have := HJ4.out; have := HJ10.out; omega
           case rel => exact ⟨(true), (t112), (t113), (t114), ea_, ea_, ea_, H', ⟨by have := HK1.out; have := HJ4.out; have := HJ10.out; omega⟩, ⟨isk44⟩, ⟨by repeat (first | (with_reducible first | exact HK.out | apply KeepBut.set_ | apply keep_drewN | apply keep_drew | apply keep_alloc) | exact HK.out)⟩, ⟨isb44⟩⟩
          ·rw [if_neg c18] at H
           have c18b0 : (x3_1 == 37) = false := beq_eq_false_iff_ne.mpr c18
           have c18b1 : (x3_1 != 37) = true := bne_iff_ne.mpr c18
           obtain rfl := Option.some.inj H
           exact lf_L2_2
   ·replace c4 := Bool.eq_false_iff.mpr c4
    subst c4
    have H1 : (some x1001_1) = some r := by rw [if_neg (show ¬ (false = true) by decide)] at H; exact H
    clear H
    have H := H1
    clear H1
    obtain rfl := Option.some.inj H
    exact lf_L2_2
def lex_digit.f (a0 : Int) : Option (Int) := if a0 ≥ 65 then (if a0 ≤ 70 then ((strings_IndexByte.f (⟨#[48, 49, 50, 51, 52, 53, 54, 55, 56, 57, 97, 98, 99, 100, 101, 102]⟩ : ByteArray) ((a0 + 32) % 256)).bind fun t115 => (some t115)) else ((strings_IndexByte.f (⟨#[48, 49, 50, 51, 52, 53, 54, 55, 56, 57, 97, 98, 99, 100, 101, 102]⟩ : ByteArray) a0).bind fun t116 => (some t116))) else ((strings_IndexByte.f (⟨#[48, 49, 50, 51, 52, 53, 54, 55, 56, 57, 97, 98, 99, 100, 101, 102]⟩ : ByteArray) a0).bind fun t117 => (some t117))
set_option maxHeartbeats 8000000 in
set_option maxRecDepth 100000 in
theorem lex_digit.calls (a0 : Int) (r : Int) (w : World) (h : lex_digit.f a0 = some r) :
  Calls Tryd.prog 83 #[.int .u8 a0] w fun e w' => e = .returned (.int .i64 r) ∧ Below w.heap.size w w' := by
 have HB := Aside0.mk (Below.refl w.heap.size w)
 have H : (if a0 ≥ 65 then (if a0 ≤ 70 then ((strings_IndexByte.f (⟨#[48, 49, 50, 51, 52, 53, 54, 55, 56, 57, 97, 98, 99, 100, 101, 102]⟩ : ByteArray) ((a0 + 32) % 256)).bind fun t115 => (some t115)) else ((strings_IndexByte.f (⟨#[48, 49, 50, 51, 52, 53, 54, 55, 56, 57, 97, 98, 99, 100, 101, 102]⟩ : ByteArray) a0).bind fun t116 => (some t116))) else ((strings_IndexByte.f (⟨#[48, 49, 50, 51, 52, 53, 54, 55, 56, 57, 97, 98, 99, 100, 101, 102]⟩ : ByteArray) a0).bind fun t117 => (some t117))) = some r := h
 clear h
 by_cases c2 : a0 ≥ 65
 ·rw [if_pos c2] at H
  have c2b0 : decide (65 ≤ a0) = true := decide_eq_true c2
  clear c2
  by_cases c3 : a0 ≤ 70
  ·rw [if_pos c3] at H
   have c3b0 : decide (a0 ≤ 70) = true := decide_eq_true c3
   clear c3
   replace H := Option.bind_eq_some_iff.mp H
   obtain ⟨t115, Aq0, H⟩ := H
   replace H : (some t115) = some r := H
   have Aq1 := Aside0.mk Aq0
   clear Aq0
   obtain rfl := Option.some.inj H
   go_enter Tryd.func83, Tryd.ntmps83
   go_wp2_with (first | ((with_reducible refine gate_callee (f := 58) rfl ?_); refine goesL_ (some 12) rfl rfl Tryd.func58 (by kernel_rfl) rfl #[.string (⟨#[48, 49, 50, 51, 52, 53, 54, 55, 56, 57, 97, 98, 99, 100, 101, 102]⟩ : ByteArray), .int .u8 ((a0 + 32) % 256)] rfl gl_ ?_; (with_reducible refine (strings_IndexByte.calls (⟨#[48, 49, 50, 51, 52, 53, 54, 55, 56, 57, 97, 98, 99, 100, 101, 102]⟩ : ByteArray) ((a0 + 32) % 256) t115 _ Aq1.out).mono ?_); rintro e wq0 ⟨rfl, hb⟩; refine ⟨_, rfl, ?_⟩; have n0_ := Aside0.mk (below_step bel hb); clear HB; have HB := n0_; clear n0_; (try clear hb); (try clear hb2); (try clear hk); (try clear hi)))
   go_ret
   exact ⟨ee_, bel⟩
  ·rw [if_neg c3] at H
   have c3b0 : decide (a0 ≤ 70) = false := decide_eq_false c3
   clear c3
   replace H := Option.bind_eq_some_iff.mp H
   obtain ⟨t116, Aq0, H⟩ := H
   replace H : (some t116) = some r := H
   have Aq1 := Aside0.mk Aq0
   clear Aq0
   obtain rfl := Option.some.inj H
   go_enter Tryd.func83, Tryd.ntmps83
   go_wp2_with (first | ((with_reducible refine gate_callee (f := 58) rfl ?_); refine goesL_ (some 12) rfl rfl Tryd.func58 (by kernel_rfl) rfl #[.string (⟨#[48, 49, 50, 51, 52, 53, 54, 55, 56, 57, 97, 98, 99, 100, 101, 102]⟩ : ByteArray), .int .u8 a0] rfl gl_ ?_; (with_reducible refine (strings_IndexByte.calls (⟨#[48, 49, 50, 51, 52, 53, 54, 55, 56, 57, 97, 98, 99, 100, 101, 102]⟩ : ByteArray) a0 t116 _ Aq1.out).mono ?_); rintro e wq0 ⟨rfl, hb⟩; refine ⟨_, rfl, ?_⟩; have n0_ := Aside0.mk (below_step bel hb); clear HB; have HB := n0_; clear n0_; (try clear hb); (try clear hb2); (try clear hk); (try clear hi)))
   go_ret
   exact ⟨ee_, bel⟩
 ·rw [if_neg c2] at H
  have c2b0 : decide (65 ≤ a0) = false := decide_eq_false c2
  clear c2
  replace H := Option.bind_eq_some_iff.mp H
  obtain ⟨t117, Aq0, H⟩ := H
  replace H : (some t117) = some r := H
  have Aq1 := Aside0.mk Aq0
  clear Aq0
  obtain rfl := Option.some.inj H
  go_enter Tryd.func83, Tryd.ntmps83
  go_wp2_with (first | ((with_reducible refine gate_callee (f := 58) rfl ?_); refine goesL_ (some 12) rfl rfl Tryd.func58 (by kernel_rfl) rfl #[.string (⟨#[48, 49, 50, 51, 52, 53, 54, 55, 56, 57, 97, 98, 99, 100, 101, 102]⟩ : ByteArray), .int .u8 a0] rfl gl_ ?_; (with_reducible refine (strings_IndexByte.calls (⟨#[48, 49, 50, 51, 52, 53, 54, 55, 56, 57, 97, 98, 99, 100, 101, 102]⟩ : ByteArray) a0 t117 _ Aq1.out).mono ?_); rintro e wq0 ⟨rfl, hb⟩; refine ⟨_, rfl, ?_⟩; have n0_ := Aside0.mk (below_step bel hb); clear HB; have HB := n0_; clear n0_; (try clear hb); (try clear hb2); (try clear hk); (try clear hi)))
  go_ret
  exact ⟨ee_, bel⟩
def lex_two.f (a0 : Int) : Option (ByteArray) := if 0 ≤ (a0 / 16) then (if (a0 / 16) ≤ (((a0 / 16) + 1) % 256) then (if (((a0 / 16) + 1) % 256) ≤ 16 then (if 0 ≤ (Go.bits .and .u8 a0 15) then (if (Go.bits .and .u8 a0 15) ≤ (((Go.bits .and .u8 a0 15) + 1) % 256) then (if (((Go.bits .and .u8 a0 15) + 1) % 256) ≤ 16 then (if ((⟨#[48, 49, 50, 51, 52, 53, 54, 55, 56, 57, 97, 98, 99, 100, 101, 102]⟩ : ByteArray).extract ((a0 / 16) : Int).toNat ((((a0 / 16) + 1) % 256) : Int).toNat).size + ((⟨#[48, 49, 50, 51, 52, 53, 54, 55, 56, 57, 97, 98, 99, 100, 101, 102]⟩ : ByteArray).extract ((Go.bits .and .u8 a0 15) : Int).toNat ((((Go.bits .and .u8 a0 15) + 1) % 256) : Int).toNat).size ≤ 9223372036854775807 then (some (((⟨#[48, 49, 50, 51, 52, 53, 54, 55, 56, 57, 97, 98, 99, 100, 101, 102]⟩ : ByteArray).extract ((a0 / 16) : Int).toNat ((((a0 / 16) + 1) % 256) : Int).toNat) ++ ((⟨#[48, 49, 50, 51, 52, 53, 54, 55, 56, 57, 97, 98, 99, 100, 101, 102]⟩ : ByteArray).extract ((Go.bits .and .u8 a0 15) : Int).toNat ((((Go.bits .and .u8 a0 15) + 1) % 256) : Int).toNat))) else (none)) else (none)) else (none)) else (none)) else (none)) else (none)) else (none)
set_option maxHeartbeats 8000000 in
set_option maxRecDepth 100000 in
theorem lex_two.calls (a0 : Int) (r : ByteArray) (w : World) (h : lex_two.f a0 = some r) :
  Calls Tryd.prog 32 #[.int .u8 a0] w fun e w' => e = .returned (.string r) ∧ Drawn0 w w' := by
 have H : (if 0 ≤ (a0 / 16) then (if (a0 / 16) ≤ (((a0 / 16) + 1) % 256) then (if (((a0 / 16) + 1) % 256) ≤ 16 then (if 0 ≤ (Go.bits .and .u8 a0 15) then (if (Go.bits .and .u8 a0 15) ≤ (((Go.bits .and .u8 a0 15) + 1) % 256) then (if (((Go.bits .and .u8 a0 15) + 1) % 256) ≤ 16 then (if ((⟨#[48, 49, 50, 51, 52, 53, 54, 55, 56, 57, 97, 98, 99, 100, 101, 102]⟩ : ByteArray).extract ((a0 / 16) : Int).toNat ((((a0 / 16) + 1) % 256) : Int).toNat).size + ((⟨#[48, 49, 50, 51, 52, 53, 54, 55, 56, 57, 97, 98, 99, 100, 101, 102]⟩ : ByteArray).extract ((Go.bits .and .u8 a0 15) : Int).toNat ((((Go.bits .and .u8 a0 15) + 1) % 256) : Int).toNat).size ≤ 9223372036854775807 then (some (((⟨#[48, 49, 50, 51, 52, 53, 54, 55, 56, 57, 97, 98, 99, 100, 101, 102]⟩ : ByteArray).extract ((a0 / 16) : Int).toNat ((((a0 / 16) + 1) % 256) : Int).toNat) ++ ((⟨#[48, 49, 50, 51, 52, 53, 54, 55, 56, 57, 97, 98, 99, 100, 101, 102]⟩ : ByteArray).extract ((Go.bits .and .u8 a0 15) : Int).toNat ((((Go.bits .and .u8 a0 15) + 1) % 256) : Int).toNat))) else (none)) else (none)) else (none)) else (none)) else (none)) else (none)) else (none)) = some r := h
 clear h
 obtain ⟨ji2, hji2⟩ : ∃ j_ : Int, (a0 / 16) = j_ := ⟨_, rfl⟩
 replace H : (if 0 ≤ (ji2) then (if (ji2) ≤ (((ji2) + 1) % 256) then (if (((ji2) + 1) % 256) ≤ 16 then (if 0 ≤ (Go.bits .and .u8 a0 15) then (if (Go.bits .and .u8 a0 15) ≤ (((Go.bits .and .u8 a0 15) + 1) % 256) then (if (((Go.bits .and .u8 a0 15) + 1) % 256) ≤ 16 then (if ((⟨#[48, 49, 50, 51, 52, 53, 54, 55, 56, 57, 97, 98, 99, 100, 101, 102]⟩ : ByteArray).extract ((ji2) : Int).toNat ((((ji2) + 1) % 256) : Int).toNat).size + ((⟨#[48, 49, 50, 51, 52, 53, 54, 55, 56, 57, 97, 98, 99, 100, 101, 102]⟩ : ByteArray).extract ((Go.bits .and .u8 a0 15) : Int).toNat ((((Go.bits .and .u8 a0 15) + 1) % 256) : Int).toNat).size ≤ 9223372036854775807 then (some (((⟨#[48, 49, 50, 51, 52, 53, 54, 55, 56, 57, 97, 98, 99, 100, 101, 102]⟩ : ByteArray).extract ((ji2) : Int).toNat ((((ji2) + 1) % 256) : Int).toNat) ++ ((⟨#[48, 49, 50, 51, 52, 53, 54, 55, 56, 57, 97, 98, 99, 100, 101, 102]⟩ : ByteArray).extract ((Go.bits .and .u8 a0 15) : Int).toNat ((((Go.bits .and .u8 a0 15) + 1) % 256) : Int).toNat))) else (none)) else (none)) else (none)) else (none)) else (none)) else (none)) else (none)) = some r := by first | (rw [hji2] at H; exact H) | (simp only [hji2] at H ⊢; exact H)
 by_cases c3 : 0 ≤ (ji2)
 ·rw [if_pos c3] at H
  have c3b0 := eq_true c3
  have c3b1 : decide (0 ≤ (ji2)) = true := decide_eq_true c3
  clear c3
  by_cases c4 : (ji2) ≤ (((ji2) + 1) % 256)
  ·rw [if_pos c4] at H
   have c4b0 := eq_true c4
   have c4b1 : decide ((ji2) ≤ (((ji2) + 1) % 256)) = true := decide_eq_true c4
   by_cases c5 : (((ji2) + 1) % 256) ≤ 16
   ·rw [if_pos c5] at H
    have c5b0 := eq_true c5
    have c5b1 : decide ((((ji2) + 1) % 256) ≤ 16) = true := decide_eq_true c5
    by_cases c6 : 0 ≤ (Go.bits .and .u8 a0 15)
    ·rw [if_pos c6] at H
     have c6b0 := eq_true c6
     have c6b1 : decide (0 ≤ (Go.bits .and .u8 a0 15)) = true := decide_eq_true c6
     clear c6
     by_cases c7 : (Go.bits .and .u8 a0 15) ≤ (((Go.bits .and .u8 a0 15) + 1) % 256)
     ·rw [if_pos c7] at H
      have c7b0 := eq_true c7
      have c7b1 : decide ((Go.bits .and .u8 a0 15) ≤ (((Go.bits .and .u8 a0 15) + 1) % 256)) = true := decide_eq_true c7
      by_cases c8 : (((Go.bits .and .u8 a0 15) + 1) % 256) ≤ 16
      ·rw [if_pos c8] at H
       have c8b0 := eq_true c8
       have c8b1 : decide ((((Go.bits .and .u8 a0 15) + 1) % 256) ≤ 16) = true := decide_eq_true c8
       by_cases c9 : ((⟨#[48, 49, 50, 51, 52, 53, 54, 55, 56, 57, 97, 98, 99, 100, 101, 102]⟩ : ByteArray).extract ((ji2) : Int).toNat ((((ji2) + 1) % 256) : Int).toNat).size + ((⟨#[48, 49, 50, 51, 52, 53, 54, 55, 56, 57, 97, 98, 99, 100, 101, 102]⟩ : ByteArray).extract ((Go.bits .and .u8 a0 15) : Int).toNat ((((Go.bits .and .u8 a0 15) + 1) % 256) : Int).toNat).size ≤ 9223372036854775807
       ·rw [if_pos c9] at H
        have cq0 := eq_true c9
        have cq1 : decide (((⟨#[48, 49, 50, 51, 52, 53, 54, 55, 56, 57, 97, 98, 99, 100, 101, 102]⟩ : ByteArray).extract ((ji2) : Int).toNat ((((ji2) + 1) % 256) : Int).toNat).size + ((⟨#[48, 49, 50, 51, 52, 53, 54, 55, 56, 57, 97, 98, 99, 100, 101, 102]⟩ : ByteArray).extract ((Go.bits .and .u8 a0 15) : Int).toNat ((((Go.bits .and .u8 a0 15) + 1) % 256) : Int).toNat).size ≤ 9223372036854775807) = true := decide_eq_true c9
        try have cq2 : (9223372036854775807 < ((⟨#[48, 49, 50, 51, 52, 53, 54, 55, 56, 57, 97, 98, 99, 100, 101, 102]⟩ : ByteArray).extract ((ji2) : Int).toNat ((((ji2) + 1) % 256) : Int).toNat).size + ((⟨#[48, 49, 50, 51, 52, 53, 54, 55, 56, 57, 97, 98, 99, 100, 101, 102]⟩ : ByteArray).extract ((Go.bits .and .u8 a0 15) : Int).toNat ((((Go.bits .and .u8 a0 15) + 1) % 256) : Int).toNat).size) = False := eq_false (Nat.not_lt.2 c9)
        obtain rfl := Option.some.inj H
        go_enter Tryd.func32, Tryd.ntmps32
        go_wp2
        repeat (go_quiet (fail); try go_wp2)
        go_ret
        exact ⟨by first | rfl | (simp; done) | (simp only [← hji2] <;> (first | rfl | simp)) | (simp [*]; done), dr_⟩
       ·rw [if_neg c9] at H
        exact absurd H (by simp)
      ·rw [if_neg c8] at H
       exact absurd H (by simp)
     ·rw [if_neg c7] at H
      exact absurd H (by simp)
    ·rw [if_neg c6] at H
     exact absurd H (by simp)
   ·rw [if_neg c5] at H
    exact absurd H (by simp)
  ·rw [if_neg c4] at H
   exact absurd H (by simp)
 ·rw [if_neg c3] at H
  exact absurd H (by simp)
end Go.Proofs.YtnhgnejfagncpaaDoor.L
end
section
namespace Go.Proofs.YtnhgnejfagncpaaDoor.L
open Go.RowKit Go.Proofs.YtnhgnejfagncpaaDoorW.PrintWords Go.Proofs.YtnhgnejfagncpaaDoorW.PrintLast Go.Proofs.YtnhgnejfagncpaaDoorW.PrintMore Go.Proofs.YtnhgnejfagncpaaDoor.H Go.Proofs.YtnhgnejfagncpaaDoor.A Go.Proofs.YtnhgnejfagncpaaDoor.B Go.Proofs.YtnhgnejfagncpaaDoor.E
attribute [local go_sem] max2_int min2_int max_two min_two max_three min_three max_four min_four
set_option linter.unusedVariables false
set_option linter.unusedSimpArgs false
def rowCut (from_ : Int) (l : List Int) (at_ : Int) : Option (ByteArray × Int) := if 0 ≤ from_ ∧ from_ ≤ at_ ∧ at_ ≤ (l.length : Int) then some (strOfNums ((l.take at_.toNat).drop from_.toNat), at_) else none
def lex_reader_row.l0 : Nat → Int → Bool → Int → List Int → Int → Option (ByteArray × Int)
  | 0, _, _, _, _, _ => none
  | k + 1, c, is, from_, l, at_ => if is = true then ((lex_of.f k c).bind fun t => if t = 2 then ((lex_reader_peek.f l (wrap64 (at_ + 1)) 0).bind fun bt => lex_reader_row.l0 k bt.1 bt.2.1 from_ l bt.2.2) else rowCut from_ l at_) else rowCut from_ l at_
def lex_reader_row.f (k : Nat) (l : List Int) (at_ : Int) : Option (ByteArray × Int) := (lex_reader_peek.f l at_ 0).bind fun bt => lex_reader_row.l0 k bt.1 bt.2.1 at_ l bt.2.2
set_option maxHeartbeats 8000000 in
set_option maxRecDepth 100000 in
theorem lex_reader_row.calls (k : Nat) (g : Nat) (s0_0 : List Int) (s0_1 : Int) (r1 : ByteArray) (r2 : Int) (w0 w : World) (hI : IsS44 w0 w g s0_0 s0_1) (hB : Below w0.heap.size w0 w) (h : lex_reader_row.f k s0_0 s0_1 = some (r1, r2)) :
    Calls Tryd.prog 52 #[.pointer (some ⟨g, 0, none⟩)] w fun e w' => e = .returned (.string r1) ∧ IsS44 w0 w' g s0_0 r2 ∧ Below w0.heap.size w0 w' ∧ KeepBut w w' g none := by
  have HI0 := Aside0.mk hI
  have HK := Aside0.mk (KeepBut.refl w g none)
  have HB := Aside0.mk hB
  clear hB
  unfold lex_reader_row.f at h
  replace h := Option.bind_eq_some_iff.mp h
  obtain ⟨⟨t1, t2, t3⟩, A20, H⟩ := h
  replace H : lex_reader_row.l0 k t1 t2 s0_1 s0_0 t3 = some (r1, r2) := H
  have A2 := Aside0.mk A20
  have H' := Aside0.mk H
  clear A20 H
  obtain ⟨A0, c0, hbk, hge, hC⟩ := hI
  have q1 : w.cell? ⟨g, 1, none⟩ = some (.int .i64 s0_1) := (blk_cell hbk 1).trans rfl
  clear hC hge hbk
  go_enter Tryd.func52, Tryd.ntmps52
  go_wp2_with fail
  refine (lex_reader_peek.calls g s0_0 s0_1 0 t1 t2 t3 w0 _ HI0.out HB.out A2.out).mono ?_
  rintro e w3 ⟨rfl, hi, hb, hk⟩
  clear q1 HI0 HB HK
  have HI0 := Aside0.mk hi
  have HB := Aside0.mk hb
  have HK := Aside0.mk hk
  clear hi hb hk
  go_wp2_with fail
  go_loopg [4, 5] k (fun kq v4 v5 w' => ∃ (c : Int) (is : Bool) (at_ : Int), v4 = .int .u8 c ∧ v5 = .bool is ∧ Aside0 (lex_reader_row.l0 kq c is s0_1 s0_0 at_ = some (r1, r2)) ∧ Aside0 (IsS44 w0 w' g s0_0 at_) ∧ Aside0 (KeepBut w w' g none) ∧ Aside0 (Below w0.heap.size w0 w'))
  case atStart => exact ⟨t1, t2, t3, rfl, rfl, H', HI0, HK, HB⟩
  case round =>
    clear H' HI0 HK HB A2
    obtain ⟨c, is, at_, rfl, rfl, HA, HI0, HK, HB⟩ := hrel
    cases gk with
    | zero => exact absurd HA.out (by simp [lex_reader_row.l0])
    | succ k1 =>
      have H := HA.out
      clear HA
      rw [lex_reader_row.l0] at H
      obtain ⟨A0, c0, hbk, hge, hC⟩ := id HI0.out
      have HBK := Aside0.mk hbk
      have HGE := Aside0.mk hge
      have HC := Aside0.mk hC
      clear hbk hge hC
      cases is with
      | true =>
        rw [if_pos rfl] at H
        replace H := Option.bind_eq_some_iff.mp H
        obtain ⟨t, A40, H⟩ := H
        have A4 := Aside0.mk A40
        clear A40
        by_cases ht : t = 2
        · rw [if_pos ht] at H
          subst ht
          replace H := Option.bind_eq_some_iff.mp H
          obtain ⟨⟨d1, d2, d3⟩, A50, H⟩ := H
          replace H : lex_reader_row.l0 k1 d1 d2 s0_1 s0_0 d3 = some (r1, r2) := H
          have A5 := Aside0.mk A50
          have H' := Aside0.mk H
          clear A50 H
          go_wp2_with fail
          refine (lex_of.calls k1 c 2 _ A4.out).mono ?_
          rintro e w4 ⟨rfl, ⟨m, rfl⟩⟩
          have q1 : (wr.drewN m).cell? ⟨g, 1, none⟩ = some (.int .i64 at_) := (blk_cell HBK.out 1).trans rfl
          have q2 : (wr.drewN m).frozen? ⟨g, 1, none⟩ = false := blk_frozen HBK.out 1
          go_wp2_with fail
          refine (lex_reader_peek.calls g s0_0 (wrap64 (at_ + 1)) 0 d1 d2 d3 w0 _ (IsS44.set_1 (IsS44.drewN HI0.out m) _) (below_set (pw_below_drewN HB.out m) HGE.out) A5.out).mono ?_
          rintro e w5 ⟨rfl, hi, hb, hk⟩
          have HI1 := Aside0.mk hi
          have HB1 := Aside0.mk hb
          have HK1 := Aside0.mk (KeepBut.trans (KeepBut.set_ (keep_drewN HK.out m) 1 (.int .i64 (wrap64 (at_ + 1)))) hk (Or.inl rfl))
          clear hi hb hk
          go_wp2_with fail
          go_roundg k1
          case measure => omega
          case rel => exact ⟨d1, d2, d3, rfl, rfl, H', HI1, HK1, HB1⟩
        · rw [if_neg ht] at H
          have ht2 : (t == 2) = false := beq_eq_false_iff_ne.mpr ht
          have ht3 : (t != 2) = true := bne_iff_ne.mpr ht
          have HR := Aside0.mk H
          clear H
          go_wp2_with fail
          refine (lex_of.calls k1 c t _ A4.out).mono ?_
          rintro e w4 ⟨rfl, ⟨m, rfl⟩⟩
          have H := HR.out
          unfold rowCut at H
          by_cases hc : 0 ≤ s0_1 ∧ s0_1 ≤ at_ ∧ at_ ≤ (s0_0.length : Int)
          · rw [if_pos hc] at H
            obtain ⟨h0, h1, h2⟩ := hc
            simp only [Option.some.injEq, Prod.mk.injEq] at H
            obtain ⟨rfl, rfl⟩ := H
            obtain ⟨i015, hi015, _, hsz15, _⟩ := info_parts info5
            obtain ⟨A15, hcut15, hA15, hC15⟩ := print_mid_of (P := Tryd.prog) (Value.int .u8) 0 22 5 .i64 .i64 Tryd.underlying22 hi015 hsz15 A0 c0.1 s0_0 s0_1 at_ h0 h1 h2 c0.2
            have HR18 := Aside0.mk (Kd.C_of_reads (h1 := fun _ => rfl) (hA15 _ (Kd.reads_of_C (Kd.C_below HC.out HB.out))))
            clear hA15 hC15 hi015 hsz15
            have hcv16 := fun m' => Kd.C_string (P := Tryd.prog) (A := A15) (c := (c0.1 - s0_1.toNat)) Tryd.underlying22 Tryd.underlying5 Tryd.underlying9 (Kd.C_drewN HR18.out m')
            have hcv17 := fun a' m' => Kd.C_string (P := Tryd.prog) (A := A15) (c := (c0.1 - s0_1.toNat)) Tryd.underlying22 Tryd.underlying5 Tryd.underlying9 (Kd.C_drewN (Kd.C_drewN HR18.out a') m')
            have hlen : (List.drop s0_1.toNat (List.take at_.toNat s0_0)).length = at_.toNat - s0_1.toNat := by rw [List.length_drop, List.length_take]; omega
            rw [hlen] at hcut15
            simp only [hlen] at hcv16 hcv17
            have q0 : wr.cell? ⟨g, 0, none⟩ = some (.slice A0 s0_0.length c0.1) := (blk_cell HBK.out 0).trans rfl
            have q1 : wr.cell? ⟨g, 1, none⟩ = some (.int .i64 at_) := (blk_cell HBK.out 1).trans rfl
            go_wp2_with fail
            go_quiet (fail)
            go_wp2
            go_ret
            exact ⟨rfl, IsS44.drewN (IsS44.drewN HI0.out _) _, pw_below_drewN (pw_below_drewN HB.out _) _, keep_drewN (keep_drewN HK.out _) _⟩
          · rw [if_neg hc] at H
            exact absurd H (by simp)
      | false =>
        rw [if_neg (by decide)] at H
        have HR := Aside0.mk H
        clear H
        have H := HR.out
        unfold rowCut at H
        by_cases hc : 0 ≤ s0_1 ∧ s0_1 ≤ at_ ∧ at_ ≤ (s0_0.length : Int)
        · rw [if_pos hc] at H
          obtain ⟨h0, h1, h2⟩ := hc
          simp only [Option.some.injEq, Prod.mk.injEq] at H
          obtain ⟨rfl, rfl⟩ := H
          obtain ⟨i015, hi015, _, hsz15, _⟩ := info_parts info5
          obtain ⟨A15, hcut15, hA15, hC15⟩ := print_mid_of (P := Tryd.prog) (Value.int .u8) 0 22 5 .i64 .i64 Tryd.underlying22 hi015 hsz15 A0 c0.1 s0_0 s0_1 at_ h0 h1 h2 c0.2
          have HR18 := Aside0.mk (Kd.C_of_reads (h1 := fun _ => rfl) (hA15 _ (Kd.reads_of_C (Kd.C_below HC.out HB.out))))
          clear hA15 hC15 hi015 hsz15
          have hcv16 := fun m' => Kd.C_string (P := Tryd.prog) (A := A15) (c := (c0.1 - s0_1.toNat)) Tryd.underlying22 Tryd.underlying5 Tryd.underlying9 (Kd.C_drewN HR18.out m')
          have hcv17 := fun a' m' => Kd.C_string (P := Tryd.prog) (A := A15) (c := (c0.1 - s0_1.toNat)) Tryd.underlying22 Tryd.underlying5 Tryd.underlying9 (Kd.C_drewN (Kd.C_drewN HR18.out a') m')
          have hlen : (List.drop s0_1.toNat (List.take at_.toNat s0_0)).length = at_.toNat - s0_1.toNat := by rw [List.length_drop, List.length_take]; omega
          rw [hlen] at hcut15
          simp only [hlen] at hcv16 hcv17
          have q0 : wr.cell? ⟨g, 0, none⟩ = some (.slice A0 s0_0.length c0.1) := (blk_cell HBK.out 0).trans rfl
          have q1 : wr.cell? ⟨g, 1, none⟩ = some (.int .i64 at_) := (blk_cell HBK.out 1).trans rfl
          go_wp2_with fail
          go_quiet (fail)
          go_wp2
          go_ret
          exact ⟨rfl, IsS44.drewN HI0.out _, pw_below_drewN HB.out _, keep_drewN HK.out _⟩
        · rw [if_neg hc] at H
          exact absurd H (by simp)
def lex_plain.l0 : Nat → ByteArray → Int → Option Bool
  | 0, _, _ => none
  | k + 1, s, i => if i < (s.size : Int) then ((lex_of.f k (bt s i)).bind fun t => if t = 2 then lex_plain.l0 k s (i + 1) else some false) else some true
def lex_plain.f (k : Nat) (a0 : ByteArray) : Option Bool := if a0.size ≤ 1000000 then lex_plain.l0 k a0 0 else none
set_option maxHeartbeats 8000000 in
set_option maxRecDepth 100000 in
theorem lex_plain.calls (k : Nat) (a0 : ByteArray) (r : Bool) (w : World) (h : lex_plain.f k a0 = some r) :
    Calls Tryd.prog 59 #[.string a0] w fun e w' => e = .returned (.bool r) ∧ Below w.heap.size w w' := by
  unfold lex_plain.f at h
  have hs : a0.size ≤ 1000000 := by
    by_cases hs : a0.size ≤ 1000000
    · exact hs
    · rw [if_neg hs] at h
      cases h
  rw [if_pos hs] at h
  have H' := Aside0.mk h
  clear h
  have kb := fun W => print_bytes (P := Tryd.prog) 9 22 5 Tryd.underlying9 Tryd.underlying22 Tryd.underlying5 a0 W
  go_enter Tryd.func59, Tryd.ntmps59
  go_wp2_with fail
  have hcell : ∀ j, j < a0.size → (Lib.bytesWorld w 5 a0).cell? ⟨w.heap.size, j, none⟩ = some (.int .u8 (bt a0 j)) := fun j hj => by
    rw [Lib.bytesWorld_cell w 5 a0 j hj]
    have hj2 : j < a0.data.size := hj
    have e : a0.data.toList.getD j 0 = a0.data[j] := by
      rw [List.getD_eq_getElem?_getD, List.getElem?_eq_getElem (by simpa using hj2)]
      simp
    unfold bt
    rw [dif_pos (show ((j : Int)).toNat < a0.size by rw [Int.toNat_natCast]; exact hj), e]
    rfl
  have hB : Below w.heap.size w (Lib.bytesWorld w 5 a0) := bytes_below (Below.refl _ _) (Nat.le_refl _) 5 _
  clear kb
  have HS := Aside0.mk hs
  have HC := Aside0.mk hcell
  have HB := Aside0.mk hB
  clear hs hcell hB
  generalize Lib.bytesWorld w 5 a0 = WL at HC HB ⊢
  go_loopg [8] k (fun kq v8 w' => ∃ (i m : Nat), v8 = .int .i64 (i : Int) ∧ w' = WL.drewN m ∧ i ≤ a0.size ∧ Aside0 (lex_plain.l0 kq a0 (i : Int) = some r))
  case atStart => exact ⟨0, 0, rfl, rfl, Nat.zero_le _, H'⟩
  case round =>
    clear H'
    obtain ⟨i, m, rfl, rfl, hi, HA⟩ := hrel
    cases gk with
    | zero => exact absurd HA.out (by simp [lex_plain.l0])
    | succ k1 =>
      have H := HA.out
      clear HA
      rw [lex_plain.l0] at H
      have hs1 := HS.out
      by_cases hlt : i < a0.size
      · rw [if_pos (by omega)] at H
        replace H := Option.bind_eq_some_iff.mp H
        obtain ⟨t, A40, H⟩ := H
        have A4 := Aside0.mk A40
        clear A40
        have hb := HC.out i hlt
        have hd : decide ((i : Int) < (a0.size : Int)) = true := decide_eq_true (by omega)
        by_cases ht : t = 2
        · rw [if_pos ht] at H
          subst ht
          have H' := Aside0.mk H
          clear H
          go_wp2_with fail
          refine (lex_of.calls k1 (bt a0 i) 2 _ A4.out).mono ?_
          rintro e w4 ⟨rfl, ⟨m2, rfl⟩⟩
          go_wp2_with fail
          go_roundg k1
          case measure => omega
          case rel => exact ⟨i + 1, m + m2, by first | rfl | go_num, by simp [World.drewN_drewN], by omega, by first | exact H' | exact ⟨by have := H'.out; push_cast; exact this⟩⟩
        · rw [if_neg ht] at H
          have ht2 : (t == 2) = false := beq_eq_false_iff_ne.mpr ht
          have ht3 : (t != 2) = true := bne_iff_ne.mpr ht
          obtain rfl := Option.some.inj H
          clear H
          go_wp2_with fail
          refine (lex_of.calls k1 (bt a0 i) t _ A4.out).mono ?_
          rintro e w4 ⟨rfl, ⟨m2, rfl⟩⟩
          go_wp2_with fail
          go_ret
          exact ⟨rfl, by first | exact pw_below_drewN HB.out _ | exact pw_below_drewN (pw_below_drewN HB.out _) _⟩
      · rw [if_neg (by omega)] at H
        obtain rfl := Option.some.inj H
        clear H
        have hd : decide ((i : Int) < (a0.size : Int)) = false := decide_eq_false (by omega)
        go_wp2_with fail
        go_ret
        exact ⟨rfl, pw_below_drewN HB.out _⟩
end Go.Proofs.YtnhgnejfagncpaaDoor.L
end
