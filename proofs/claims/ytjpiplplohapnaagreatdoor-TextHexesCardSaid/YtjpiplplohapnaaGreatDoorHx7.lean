/- Part 7 of the proof: PDig, Shelf, Hop, Laid, AwA, PSmall, AwB, AwC, GA, AHx, Rf. -/
import Derived.Test.YtjpiplplohapnaaGreatDoorHx6
import Derived.Shelf.Strings.Builder1
import Derived.Shelf.Strings.Builder2
import Derived.Shelf.Strings.Trim
import Derived.Shelf.Small.Utf8
import Derived.Shelf.Small.Strs
import Derived.Shelf.Strings.BuilderF
import Derived.Shelf.Strconv.Atoi
import Derived.Shelf.Strconv.Itoa0
import Derived.Shelf.Strconv.Itoa1
import Derived.Shelf.LaysM
import Derived.Shelf.Strconv.Itoa2
import Derived.Shelf.Strconv.Itoa3
import Derived.Shelf.Strconv.AtoiErrFast
import Derived.Shelf.Strconv.ParseIntEmpty
import Derived.Shelf.Strconv.AtoiFail
import Derived.Shelf.Strconv.Clone
import Derived.Shelf.Strconv.SyntaxError
import Derived.Shelf.LaysC
import Derived.Shelf.Strconv.ToError
import Derived.Shelf.Strconv.AtoiErr
import Derived.Shelf.Strconv.ErrVar
import Derived.Shelf.Strconv.Lower
import Derived.Shelf.Strconv.ParseUint10
import Derived.Shelf.Strconv.ParseUint10Empty
import Derived.Shelf.Strconv.ParseUint10Any
import Derived.Shelf.Strconv.ParseInt10
import Derived.Shelf.Strconv.AtoiLong
import Derived.Shelf.Strconv.AtoiInnerAll
import Derived.Shelf.Strconv.RangeError
import Derived.Shelf.Strconv.ToErrorRange
import Derived.Shelf.Strconv.AtoiAll
import Derived.Shelf.Strconv.ErrVarAll
import Derived.Shelf.Strings.Search1
import Derived.Shelf.Strings.Prefix
import Derived.Shelf.Unicode.Decode
import Derived.Shelf.Strings.Runes
import Derived.Shelf.Strings.AsciiSet
import Derived.Shelf.Bits.Mul64
import Derived.Shelf.Strings.Repeat
import Derived.Shelf.Unicode.DecodeSlow
import Derived.Shelf.Unicode.DecodeAny
import Derived.Shelf.Unicode.DecodeLast
import Derived.Test.YtjpiplplohapnaaGreatDoorProg
import Derived.ScopeJumps
import Derived.WalkSmall
import Derived.Lib.LaidTab
import Derived.Lib.ItoaNum
import Derived.Lib.TrailingZeros
import Derived.FnData
import GoSem.PinnedTables
import Derived.KernelRfl
import Derived.WalkLawsBesides
import Derived.WalkSpells
import Derived.WalkMore
import Derived.Outline
import Derived.Lib.Hide
import Derived.Laws.FloatArith
import Derived.Laws.BitsAllLaws
import Derived.LoopTactic
import Derived.LaidEqlPtr
import Derived.Deep.CutBlock
import Derived.Deep.DeepCutAuto
set_option linter.unusedVariables false
set_option linter.unusedSimpArgs false
namespace Go.Proofs.YtjpiplplohapnaaGreatDoor.PText
open Go.RowKit Go.Proofs.YtjpiplplohapnaaGreatDoorW.PrintWords Go.Proofs.YtjpiplplohapnaaGreatDoorW.PrintLast Go.Proofs.YtjpiplplohapnaaGreatDoorW.PrintMore
attribute [local go_sem] max2_int min2_int max_two min_two max_three min_three max_four min_four
set_option linter.unusedVariables false
set_option linter.unusedSimpArgs false
def text_digits.l0 : Nat → ByteArray → Int → Option (Int)
  | 0, _, _ => none
  | k + 1, x0, x1 => if x1 < (x0.size : Int) then (if 0 ≤ x1 then (if (bt x0 x1) ≥ 48 then (if (bt x0 x1) ≤ 57 then (text_digits.l0 k x0 (wrap64 (x1 + 1))) else (some x1)) else (some x1)) else (none)) else (some x1)
def text_digits.f (k : Nat) (a0 : ByteArray) (a1 : Int) : Option (Int) := text_digits.l0 k a0 a1
theorem text_digits.mono_l : ∀ k, (∀ y0 y1, LeO (text_digits.l0 k y0 y1) (text_digits.l0 (k + 1) y0 y1))
  | 0 => fun _ _ r h => by simp [text_digits.l0] at h
  | k + 1 => by
    have ih0 := text_digits.mono_l k
    · intro y0 y1
      unfold text_digits.l0
      repeat' first
      | (with_reducible exact ih0 _ _)
      | (with_reducible exact LeO.refl _)
      | (with_reducible exact LeO.none _)
      | (with_reducible refine LeO.ite ?_ ?_)
      | (with_reducible refine LeO.bind ?_ (fun _ => ?_))
      | exact ih0 _ _
      | exact LeO.none _
      | refine LeO.ite ?_ ?_
      | refine LeO.bind ?_ (fun _ => ?_)
theorem text_digits.mono : ∀ a0 a1 k, LeO (text_digits.f k a0 a1) (text_digits.f (k + 1) a0 a1) := by
  intro a0 a1 k
  have ih0 := text_digits.mono_l k
  unfold text_digits.f
  repeat' first
      | (with_reducible exact ih0 _ _)
      | (with_reducible exact LeO.refl _)
      | (with_reducible exact LeO.none _)
      | (with_reducible refine LeO.ite ?_ ?_)
      | (with_reducible refine LeO.bind ?_ (fun _ => ?_))
      | exact ih0 _ _
      | exact LeO.none _
      | refine LeO.ite ?_ ?_
      | refine LeO.bind ?_ (fun _ => ?_)
set_option maxHeartbeats 8000000 in
set_option maxRecDepth 100000 in
theorem text_digits.calls (k : Nat) (a0 : ByteArray) (a1 : Int) (r : Int) (w : World) (h : text_digits.f k a0 a1 = some r) :
    Calls Tryz.prog 59 #[.string a0, .int .i64 a1] w fun e w' => e = .returned (.int .i64 r) ∧ Drawn0 w w' := by
  have H : (text_digits.l0 k a0 a1) = some r := h
  clear h
  have H' := Aside0.mk H
  clear H
  go_enter Tryz.func59, Tryz.ntmps59
  go_wp2
  go_loopg [1] k (fun kq v1 w' => ∃ (x1_1 : Int), v1 = .int .i64 x1_1 ∧ Aside0 (text_digits.l0 kq a0 x1_1 = some r) ∧ Aside0 (kq ≤ k) ∧ Drawn0 w w')
  case atStart => exact ⟨(a1), (by first | rfl | (simp; done) | (simp [*]; done)), H', ⟨Nat.le_refl _⟩, by repeat (first | exact Drawn0.refl _ | apply Drawn0.step)⟩
  case round =>
    clear H'
    try clear p2
    obtain ⟨x1_1, rfl, HA, HK1, ⟨m1, rfl⟩⟩ := hrel
    cases gk with
    | zero => exact absurd HA.out (by simp [text_digits.l0])
    | succ k1 =>
      have H := HA.out
      clear HA
      simp only [text_digits.l0] at H
      by_cases c3 : x1_1 < (a0.size : Int)
      · rw [if_pos c3] at H
        have c3b0 : decide (x1_1 < (a0.size : Int)) = true := decide_eq_true c3
        clear c3
        by_cases c4 : 0 ≤ x1_1
        · rw [if_pos c4] at H
          have c4b0 : decide (0 ≤ x1_1) = true := decide_eq_true c4
          clear c4
          by_cases c6 : (bt a0 x1_1) ≥ 48
          · rw [if_pos c6] at H
            have c6b0 : decide (48 ≤ (bt a0 x1_1)) = true := decide_eq_true c6
            clear c6
            by_cases c8 : (bt a0 x1_1) ≤ 57
            · rw [if_pos c8] at H
              have c8b0 : decide ((bt a0 x1_1) ≤ 57) = true := decide_eq_true c8
              clear c8
              have H' := Aside0.mk H
              clear H
              have p5 : 0 ≤ (x1_1 : Int) := of_decide_eq_true (by first | (with_reducible assumption) | assumption)
              have q5 : x1_1 < (a0.size : Int) := of_decide_eq_true (by first | (with_reducible assumption) | assumption)
              have hx5 := bt_at a0 x1_1
              replace p5 := eq_true p5
              replace q5 := eq_true q5
              have p7 : 0 ≤ (x1_1 : Int) := of_decide_eq_true (by first | (with_reducible assumption) | assumption)
              have q7 : x1_1 < (a0.size : Int) := of_decide_eq_true (by first | (with_reducible assumption) | assumption)
              have hx7 := bt_at a0 x1_1
              replace p7 := eq_true p7
              replace q7 := eq_true q7
              go_wp2
              go_roundg k1
              case measure => have := HK1.out; omega
              case rel => exact ⟨(wrap64 (x1_1 + 1)), (by first | rfl | (simp; done) | (simp [*]; done)), H', ⟨by have := HK1.out; omega⟩, by repeat (first | exact Drawn0.refl _ | apply Drawn0.step)⟩
            · rw [if_neg c8] at H
              have c8b0 : decide ((bt a0 x1_1) ≤ 57) = false := decide_eq_false c8
              clear c8
              obtain rfl := Option.some.inj H
              have p5 : 0 ≤ (x1_1 : Int) := of_decide_eq_true (by first | (with_reducible assumption) | assumption)
              have q5 : x1_1 < (a0.size : Int) := of_decide_eq_true (by first | (with_reducible assumption) | assumption)
              have hx5 := bt_at a0 x1_1
              replace p5 := eq_true p5
              replace q5 := eq_true q5
              have p7 : 0 ≤ (x1_1 : Int) := of_decide_eq_true (by first | (with_reducible assumption) | assumption)
              have q7 : x1_1 < (a0.size : Int) := of_decide_eq_true (by first | (with_reducible assumption) | assumption)
              have hx7 := bt_at a0 x1_1
              replace p7 := eq_true p7
              replace q7 := eq_true q7
              go_wp2
              go_ret
              exact ⟨by first | rfl | (simp; done) | (simp [*]; done), by repeat (first | exact Drawn0.refl _ | apply Drawn0.step)⟩
          · rw [if_neg c6] at H
            have c6b0 : decide (48 ≤ (bt a0 x1_1)) = false := decide_eq_false c6
            clear c6
            obtain rfl := Option.some.inj H
            have p5 : 0 ≤ (x1_1 : Int) := of_decide_eq_true (by first | (with_reducible assumption) | assumption)
            have q5 : x1_1 < (a0.size : Int) := of_decide_eq_true (by first | (with_reducible assumption) | assumption)
            have hx5 := bt_at a0 x1_1
            replace p5 := eq_true p5
            replace q5 := eq_true q5
            go_wp2
            go_ret
            exact ⟨by first | rfl | (simp; done) | (simp [*]; done), by repeat (first | exact Drawn0.refl _ | apply Drawn0.step)⟩
        · rw [if_neg c4] at H
          exact absurd H (by simp)
      · rw [if_neg c3] at H
        have c3b0 : decide (x1_1 < (a0.size : Int)) = false := decide_eq_false c3
        clear c3
        obtain rfl := Option.some.inj H
        go_wp2
        go_ret
        exact ⟨by first | rfl | (simp; done) | (simp [*]; done), by repeat (first | exact Drawn0.refl _ | apply Drawn0.step)⟩
end Go.Proofs.YtjpiplplohapnaaGreatDoor.PText
namespace Go.Proofs
open Go.Shelf
def Tryz.lays162_ren : Go.Shelf.Ren := ⟨fun | 162 => 51 | 232 => 80 | 227 => 81 | 234 => 82 | 236 => 83 | 228 => 108 | 271 => 109 | 151 => 110 | 120 => 138 | 197 => 139 | 152 => 140 | 260 => 176 | 137 => 177 | 119 => 178 | 224 => 179 | 225 => 180 | 217 => 189 | 266 => 190 | n => n, fun | 9 => 9 | 4 => 4 | 3 => 3 | 5 => 5 | 117 => 106 | 116 => 105 | 0 => 0 | 124 => 109 | 21 => 21 | 105 => 138 | 46 => 75 | 119 => 234 | 139 => 237 | 138 => 236 | n => n, fun | 3 => 15 | 4 => 16 | n => n⟩
theorem Tryz.lays162 : Go.Proofs.Lays.n162 Tryz.prog Tryz.lays162_ren := {
  mixed := by kernel_rfl
  f119 := Tryz.func178.trans (congrArg some (by kernel_rfl))
  f120 := Tryz.func138.trans (congrArg some (by kernel_rfl))
  f137 := Tryz.func177.trans (congrArg some (by kernel_rfl))
  f151 := Tryz.func110.trans (congrArg some (by kernel_rfl))
  f152 := Tryz.func140.trans (congrArg some (by kernel_rfl))
  f162 := Tryz.func51.trans (congrArg some (by kernel_rfl))
  f197 := Tryz.func139.trans (congrArg some (by kernel_rfl))
  f217 := Tryz.func189.trans (congrArg some (by kernel_rfl))
  f224 := Tryz.func179.trans (congrArg some (by kernel_rfl))
  f225 := Tryz.func180.trans (congrArg some (by kernel_rfl))
  f227 := Tryz.func81.trans (congrArg some (by kernel_rfl))
  f228 := Tryz.func108.trans (congrArg some (by kernel_rfl))
  f232 := Tryz.func80.trans (congrArg some (by kernel_rfl))
  f234 := Tryz.func82.trans (congrArg some (by kernel_rfl))
  f236 := Tryz.func83.trans (congrArg some (by kernel_rfl))
  f260 := Tryz.func176.trans (congrArg some (by kernel_rfl))
  f266 := Tryz.func190.trans (congrArg some (by kernel_rfl))
  f271 := Tryz.func109.trans (congrArg some (by kernel_rfl))
  t0 := Tryz.underlying0
  a0 := Tryz.isAgg0
  z0 := Tryz.sizeOf0
  v0 := Tryz.zeroValue0
  t3 := Tryz.underlying3
  a3 := Tryz.isAgg3
  z3 := Tryz.sizeOf3
  v3 := Tryz.zeroValue3
  t4 := Tryz.underlying4
  a4 := Tryz.isAgg4
  z4 := Tryz.sizeOf4
  v4 := Tryz.zeroValue4
  t5 := Tryz.underlying5
  a5 := Tryz.isAgg5
  z5 := Tryz.sizeOf5
  v5 := Tryz.zeroValue5
  t9 := Tryz.underlying9
  a9 := Tryz.isAgg9
  z9 := Tryz.sizeOf9
  v9 := Tryz.zeroValue9
  t21 := Tryz.underlying21
  a21 := Tryz.isAgg21
  z21 := Tryz.sizeOf21
  v21 := Tryz.zeroValue21
  t46 := Tryz.underlying75
  a46 := Tryz.isAgg75
  z46 := Tryz.sizeOf75
  v46 := Tryz.zeroValue75
  t105 := Tryz.underlying138
  a105 := Tryz.isAgg138
  z105 := Tryz.sizeOf138
  v105 := Tryz.zeroValue138
  t116 := Tryz.underlying105
  a116 := Tryz.isAgg105
  z116 := Tryz.sizeOf105
  t117 := Tryz.underlying106
  a117 := Tryz.isAgg106
  z117 := Tryz.sizeOf106
  v117 := Tryz.zeroValue106
  t119 := Tryz.underlying234
  a119 := Tryz.isAgg234
  z119 := Tryz.sizeOf234
  t124 := Tryz.underlying109
  a124 := Tryz.isAgg109
  z124 := Tryz.sizeOf109
  v124 := Tryz.zeroValue109
  t138 := Tryz.underlying236
  a138 := Tryz.isAgg236
  z138 := Tryz.sizeOf236
  v138 := Tryz.zeroValue236
  t139 := Tryz.underlying237
  a139 := Tryz.isAgg237
  z139 := Tryz.sizeOf237
  v139 := Tryz.zeroValue237
  g3 := by kernel_rfl
  g4 := by kernel_rfl }
open Go.RowKit in
theorem Tryz.strings_TrimRight_one (s : ByteArray) (c : UInt8) (hc : c.toNat < 128) (w : World) (hs : s.size ≤ 9223372036854775807) :
    Calls Tryz.prog 51 #[.string s, .string ⟨#[c]⟩] w fun e w' => e = .returned (.string ⟨(Lib.trimRightB s.data.toList c).toArray⟩) ∧ w' = w := Any.strings_TrimRight_one Tryz.lays162 s c hc w hs
def Tryz.lays129_ren : Go.Shelf.Ren := ⟨fun | 129 => 123 | n => n, fun | 53 => 26 | 3 => 3 | 4 => 4 | 46 => 75 | 5 => 5 | 9 => 9 | n => n, fun | n => n⟩
theorem Tryz.lays129 : Go.Proofs.Lays.n129 Tryz.prog Tryz.lays129_ren := {
  mixed := by kernel_rfl
  f129 := Tryz.func123.trans (congrArg some (by kernel_rfl))
  t3 := Tryz.underlying3
  a3 := Tryz.isAgg3
  z3 := Tryz.sizeOf3
  v3 := Tryz.zeroValue3
  t4 := Tryz.underlying4
  a4 := Tryz.isAgg4
  z4 := Tryz.sizeOf4
  v4 := Tryz.zeroValue4
  t5 := Tryz.underlying5
  a5 := Tryz.isAgg5
  z5 := Tryz.sizeOf5
  v5 := Tryz.zeroValue5
  t9 := Tryz.underlying9
  a9 := Tryz.isAgg9
  z9 := Tryz.sizeOf9
  v9 := Tryz.zeroValue9
  t46 := Tryz.underlying75
  a46 := Tryz.isAgg75
  z46 := Tryz.sizeOf75
  v46 := Tryz.zeroValue75
  t53 := Tryz.underlying26
  a53 := Tryz.isAgg26
  z53 := Tryz.sizeOf26
  v53 := Tryz.zeroValue26 }
theorem Tryz.bits_Len64 (x : Int) (w : World) (h0 : 0 ≤ x) (h1 : x ≤ 18446744073709551615) :
    Calls Tryz.prog 123 #[.int .u64 x] w fun e w' => e = .returned (.int .i64 (Lib.bitLen x.toNat)) ∧ w' = w := Any.bits_Len64 Tryz.lays129 x w h0 h1
def Tryz.laysM284_ren : Go.Shelf.Ren := ⟨fun | 284 => 101 | 129 => 123 | 317 => 126 | 318 => 133 | n => n, fun | 53 => 26 | 3 => 3 | 212 => 167 | 0 => 0 | 4 => 4 | 46 => 75 | 5 => 5 | 9 => 9 | n => n, fun | 17 => 4 | n => n⟩
theorem Tryz.laysM284 : Go.Proofs.LaysM.n284 Tryz.prog Tryz.laysM284_ren := {
  mixed := by kernel_rfl
  f129 := Tryz.func123.trans (congrArg some (by kernel_rfl))
  f284 := Tryz.func101.trans (congrArg some (by kernel_rfl))
  f317 := Tryz.func126.trans (congrArg some (by kernel_rfl))
  f318 := Tryz.func133.trans (congrArg some (by kernel_rfl))
  t0 := Tryz.underlying0
  a0 := Tryz.isAgg0
  z0 := Tryz.sizeOf0
  v0 := Tryz.zeroValue0
  t3 := Tryz.underlying3
  a3 := Tryz.isAgg3
  z3 := Tryz.sizeOf3
  v3 := Tryz.zeroValue3
  t4 := Tryz.underlying4
  a4 := Tryz.isAgg4
  z4 := Tryz.sizeOf4
  v4 := Tryz.zeroValue4
  t5 := Tryz.underlying5
  a5 := Tryz.isAgg5
  z5 := Tryz.sizeOf5
  v5 := Tryz.zeroValue5
  t9 := Tryz.underlying9
  a9 := Tryz.isAgg9
  z9 := Tryz.sizeOf9
  v9 := Tryz.zeroValue9
  t46 := Tryz.underlying75
  a46 := Tryz.isAgg75
  z46 := Tryz.sizeOf75
  v46 := Tryz.zeroValue75
  t53 := Tryz.underlying26
  a53 := Tryz.isAgg26
  z53 := Tryz.sizeOf26
  v53 := Tryz.zeroValue26
  t212 := Tryz.underlying167
  a212 := Tryz.isAgg167
  z212 := Tryz.sizeOf167
  v212 := Tryz.zeroValue167
  g17 := by kernel_rfl
  i0 := by kernel_rfl
  i3 := by kernel_rfl
  i4 := by kernel_rfl
  i5 := by kernel_rfl
  i9 := by kernel_rfl
  i46 := by kernel_rfl
  i53 := by kernel_rfl
  i212 := by kernel_rfl
  m17 := by kernel_rfl }
open Go.Lib in
theorem Tryz.internal_strconv_numDigits (u : Nat) (h1 : 1 ≤ u) (h2 : u < 18446744073709551616) (w : World) (htab : Lib.TabIs Tryz.prog w "internal/strconv.uint64pow10" .u64 Lib.pow10Tab) :
    Calls Tryz.prog 101 #[.int .u64 u] w fun e w' => e = .returned (.int .i64 (Lib.nDigits u)) ∧ w' = w := Any.internal_strconv_numDigits Tryz.laysM284 u h1 h2 w htab
def Tryz.lays285_ren : Go.Shelf.Ren := ⟨fun | 285 => 102 | n => n, fun | 37 => 94 | 53 => 26 | 3 => 3 | 4 => 4 | 51 => 131 | 9 => 9 | 5 => 5 | 0 => 0 | n => n, fun | n => n⟩
theorem Tryz.lays285 : Go.Proofs.Lays.n285 Tryz.prog Tryz.lays285_ren := {
  mixed := by kernel_rfl
  f285 := Tryz.func102.trans (congrArg some (by kernel_rfl))
  t0 := Tryz.underlying0
  a0 := Tryz.isAgg0
  z0 := Tryz.sizeOf0
  v0 := Tryz.zeroValue0
  t3 := Tryz.underlying3
  a3 := Tryz.isAgg3
  z3 := Tryz.sizeOf3
  v3 := Tryz.zeroValue3
  t4 := Tryz.underlying4
  a4 := Tryz.isAgg4
  z4 := Tryz.sizeOf4
  v4 := Tryz.zeroValue4
  t5 := Tryz.underlying5
  a5 := Tryz.isAgg5
  z5 := Tryz.sizeOf5
  v5 := Tryz.zeroValue5
  t9 := Tryz.underlying9
  a9 := Tryz.isAgg9
  z9 := Tryz.sizeOf9
  v9 := Tryz.zeroValue9
  t37 := Tryz.underlying94
  a37 := Tryz.isAgg94
  z37 := Tryz.sizeOf94
  v37 := Tryz.zeroValue94
  t51 := Tryz.underlying131
  a51 := Tryz.isAgg131
  z51 := Tryz.sizeOf131
  v51 := Tryz.zeroValue131
  t53 := Tryz.underlying26
  a53 := Tryz.isAgg26
  z53 := Tryz.sizeOf26
  v53 := Tryz.zeroValue26 }
open Go.RowKit Go.Sort Go.Lib in
theorem Tryz.internal_strconv_formatBase10 (blk off cap : Nat) (u : Nat) (d : Array UInt8) (w : World) (hH : Holds (fun (b : UInt8) => Value.int .u8 (b.toNat : Int)) w blk off d) (hu : u < 10 ^ d.size) (hu64 : u < 18446744073709551616) (hsz : d.size < 4611686018427387904) :
    Calls Tryz.prog 102 #[.slice (some ⟨blk, off, none⟩) d.size cap, .int .u64 u] w fun e w' =>
      e = .returned (.tuple #[]) ∧ ∃ (n v' : Nat) (dk : Array UInt8), w' = (putRow (fun (b : UInt8) => Value.int .u8 (b.toNat : Int)) w blk off dk).drewN n ∧ FmtInv d.size u 0 v' dk := Any.internal_strconv_formatBase10 Tryz.lays285 blk off cap u d w hH hu hu64 hsz
def Tryz.laysM171_ren : Go.Shelf.Ren := ⟨fun | 171 => 45 | 243 => 72 | 246 => 99 | 283 => 100 | 284 => 101 | 285 => 102 | 286 => 103 | 129 => 123 | 317 => 126 | 318 => 133 | 319 => 134 | 320 => 135 | 337 => 174 | 338 => 175 | n => n, fun | 3 => 3 | 9 => 9 | 2 => 2 | 4 => 4 | 171 => 126 | 0 => 0 | 53 => 26 | 37 => 94 | 5 => 5 | 173 => 129 | 212 => 167 | 51 => 131 | 20 => 20 | 213 => 168 | 46 => 75 | 232 => 154 | 233 => 233 | n => n, fun | 17 => 4 | 18 => 13 | 19 => 14 | n => n⟩
theorem Tryz.laysM171 : Go.Proofs.LaysM.n171 Tryz.prog Tryz.laysM171_ren := {
  mixed := by kernel_rfl
  f129 := Tryz.func123.trans (congrArg some (by kernel_rfl))
  f171 := Tryz.func45.trans (congrArg some (by kernel_rfl))
  f243 := Tryz.func72.trans (congrArg some (by kernel_rfl))
  f246 := Tryz.func99.trans (congrArg some (by kernel_rfl))
  f283 := Tryz.func100.trans (congrArg some (by kernel_rfl))
  f284 := Tryz.func101.trans (congrArg some (by kernel_rfl))
  f285 := Tryz.func102.trans (congrArg some (by kernel_rfl))
  f286 := Tryz.func103.trans (congrArg some (by kernel_rfl))
  f317 := Tryz.func126.trans (congrArg some (by kernel_rfl))
  f318 := Tryz.func133.trans (congrArg some (by kernel_rfl))
  f319 := Tryz.func134.trans (congrArg some (by kernel_rfl))
  f320 := Tryz.func135.trans (congrArg some (by kernel_rfl))
  f337 := Tryz.func174.trans (congrArg some (by kernel_rfl))
  f338 := Tryz.func175.trans (congrArg some (by kernel_rfl))
  t0 := Tryz.underlying0
  a0 := Tryz.isAgg0
  z0 := Tryz.sizeOf0
  v0 := Tryz.zeroValue0
  t2 := Tryz.underlying2
  a2 := Tryz.isAgg2
  z2 := Tryz.sizeOf2
  v2 := Tryz.zeroValue2
  t3 := Tryz.underlying3
  a3 := Tryz.isAgg3
  z3 := Tryz.sizeOf3
  v3 := Tryz.zeroValue3
  t4 := Tryz.underlying4
  a4 := Tryz.isAgg4
  z4 := Tryz.sizeOf4
  v4 := Tryz.zeroValue4
  t5 := Tryz.underlying5
  a5 := Tryz.isAgg5
  z5 := Tryz.sizeOf5
  v5 := Tryz.zeroValue5
  t9 := Tryz.underlying9
  a9 := Tryz.isAgg9
  z9 := Tryz.sizeOf9
  v9 := Tryz.zeroValue9
  t20 := Tryz.underlying20
  a20 := Tryz.isAgg20
  z20 := Tryz.sizeOf20
  v20 := Tryz.zeroValue20
  t37 := Tryz.underlying94
  a37 := Tryz.isAgg94
  z37 := Tryz.sizeOf94
  v37 := Tryz.zeroValue94
  t46 := Tryz.underlying75
  a46 := Tryz.isAgg75
  z46 := Tryz.sizeOf75
  v46 := Tryz.zeroValue75
  t51 := Tryz.underlying131
  a51 := Tryz.isAgg131
  z51 := Tryz.sizeOf131
  v51 := Tryz.zeroValue131
  t53 := Tryz.underlying26
  a53 := Tryz.isAgg26
  z53 := Tryz.sizeOf26
  v53 := Tryz.zeroValue26
  t171 := Tryz.underlying126
  a171 := Tryz.isAgg126
  z171 := Tryz.sizeOf126
  v171 := Tryz.zeroValue126
  t173 := Tryz.underlying129
  a173 := Tryz.isAgg129
  z173 := Tryz.sizeOf129
  v173 := Tryz.zeroValue129
  t212 := Tryz.underlying167
  a212 := Tryz.isAgg167
  z212 := Tryz.sizeOf167
  v212 := Tryz.zeroValue167
  t213 := Tryz.underlying168
  a213 := Tryz.isAgg168
  z213 := Tryz.sizeOf168
  t232 := Tryz.underlying154
  a232 := Tryz.isAgg154
  z232 := Tryz.sizeOf154
  v232 := Tryz.zeroValue154
  t233 := Tryz.underlying233
  a233 := Tryz.isAgg233
  z233 := Tryz.sizeOf233
  v233 := Tryz.zeroValue233
  g17 := by kernel_rfl
  g18 := by kernel_rfl
  g19 := by kernel_rfl
  i0 := by kernel_rfl
  i2 := by kernel_rfl
  i3 := by kernel_rfl
  i4 := by kernel_rfl
  i5 := by kernel_rfl
  i9 := by kernel_rfl
  i20 := by kernel_rfl
  i37 := by kernel_rfl
  i46 := by kernel_rfl
  i51 := by kernel_rfl
  i53 := by kernel_rfl
  i171 := by kernel_rfl
  i173 := by kernel_rfl
  i212 := by kernel_rfl
  i232 := by kernel_rfl
  i233 := by kernel_rfl
  m17 := by kernel_rfl
  m18 := by kernel_rfl
  m19 := by kernel_rfl }
open Go.RowKit Go.Sort Go.Lib in
theorem Tryz.strconv_Itoa (n : Int) (h0 : -9223372036854775808 ≤ n) (h1 : n ≤ 9223372036854775807) (w : World) (htab : Lib.TabIs Tryz.prog w "internal/strconv.uint64pow10" .u64 Lib.pow10Tab) :
    Calls Tryz.prog 45 #[.int .i64 n] w fun e w' => e = .returned (.string ⟨(Lib.itoa n).toArray⟩) ∧ ∃ k os, w' = grow (w.drewN k) os := Any.strconv_Itoa Tryz.laysM171 n h0 h1 w htab
def Tryz.lays171_ren : Go.Shelf.Ren := ⟨fun | 171 => 45 | 243 => 72 | 246 => 99 | 283 => 100 | 284 => 101 | 285 => 102 | 286 => 103 | 129 => 123 | 317 => 126 | 318 => 133 | 319 => 134 | 320 => 135 | 337 => 174 | 338 => 175 | n => n, fun | 3 => 3 | 9 => 9 | 2 => 2 | 4 => 4 | 171 => 126 | 0 => 0 | 53 => 26 | 37 => 94 | 5 => 5 | 173 => 129 | 212 => 167 | 51 => 131 | 20 => 20 | 213 => 168 | 46 => 75 | 232 => 154 | 233 => 233 | n => n, fun | 17 => 4 | 18 => 13 | 19 => 14 | n => n⟩
theorem Tryz.lays171 : Go.Proofs.Lays.n171 Tryz.prog Tryz.lays171_ren := {
  mixed := by kernel_rfl
  f129 := Tryz.func123.trans (congrArg some (by kernel_rfl))
  f171 := Tryz.func45.trans (congrArg some (by kernel_rfl))
  f243 := Tryz.func72.trans (congrArg some (by kernel_rfl))
  f246 := Tryz.func99.trans (congrArg some (by kernel_rfl))
  f283 := Tryz.func100.trans (congrArg some (by kernel_rfl))
  f284 := Tryz.func101.trans (congrArg some (by kernel_rfl))
  f285 := Tryz.func102.trans (congrArg some (by kernel_rfl))
  f286 := Tryz.func103.trans (congrArg some (by kernel_rfl))
  f317 := Tryz.func126.trans (congrArg some (by kernel_rfl))
  f318 := Tryz.func133.trans (congrArg some (by kernel_rfl))
  f319 := Tryz.func134.trans (congrArg some (by kernel_rfl))
  f320 := Tryz.func135.trans (congrArg some (by kernel_rfl))
  f337 := Tryz.func174.trans (congrArg some (by kernel_rfl))
  f338 := Tryz.func175.trans (congrArg some (by kernel_rfl))
  t0 := Tryz.underlying0
  a0 := Tryz.isAgg0
  z0 := Tryz.sizeOf0
  v0 := Tryz.zeroValue0
  t2 := Tryz.underlying2
  a2 := Tryz.isAgg2
  z2 := Tryz.sizeOf2
  v2 := Tryz.zeroValue2
  t3 := Tryz.underlying3
  a3 := Tryz.isAgg3
  z3 := Tryz.sizeOf3
  v3 := Tryz.zeroValue3
  t4 := Tryz.underlying4
  a4 := Tryz.isAgg4
  z4 := Tryz.sizeOf4
  v4 := Tryz.zeroValue4
  t5 := Tryz.underlying5
  a5 := Tryz.isAgg5
  z5 := Tryz.sizeOf5
  v5 := Tryz.zeroValue5
  t9 := Tryz.underlying9
  a9 := Tryz.isAgg9
  z9 := Tryz.sizeOf9
  v9 := Tryz.zeroValue9
  t20 := Tryz.underlying20
  a20 := Tryz.isAgg20
  z20 := Tryz.sizeOf20
  v20 := Tryz.zeroValue20
  t37 := Tryz.underlying94
  a37 := Tryz.isAgg94
  z37 := Tryz.sizeOf94
  v37 := Tryz.zeroValue94
  t46 := Tryz.underlying75
  a46 := Tryz.isAgg75
  z46 := Tryz.sizeOf75
  v46 := Tryz.zeroValue75
  t51 := Tryz.underlying131
  a51 := Tryz.isAgg131
  z51 := Tryz.sizeOf131
  v51 := Tryz.zeroValue131
  t53 := Tryz.underlying26
  a53 := Tryz.isAgg26
  z53 := Tryz.sizeOf26
  v53 := Tryz.zeroValue26
  t171 := Tryz.underlying126
  a171 := Tryz.isAgg126
  z171 := Tryz.sizeOf126
  v171 := Tryz.zeroValue126
  t173 := Tryz.underlying129
  a173 := Tryz.isAgg129
  z173 := Tryz.sizeOf129
  v173 := Tryz.zeroValue129
  t212 := Tryz.underlying167
  a212 := Tryz.isAgg167
  z212 := Tryz.sizeOf167
  v212 := Tryz.zeroValue167
  t213 := Tryz.underlying168
  a213 := Tryz.isAgg168
  z213 := Tryz.sizeOf168
  t232 := Tryz.underlying154
  a232 := Tryz.isAgg154
  z232 := Tryz.sizeOf154
  v232 := Tryz.zeroValue154
  t233 := Tryz.underlying233
  a233 := Tryz.isAgg233
  z233 := Tryz.sizeOf233
  v233 := Tryz.zeroValue233
  g17 := by kernel_rfl
  g18 := by kernel_rfl
  g19 := by kernel_rfl }
open Go.RowKit Go.Sort Go.Lib in
theorem Tryz.strconv_Itoa_small (i : Nat) (hi : i < 100) (w : World) :
    Calls Tryz.prog 45 #[.int .i64 i] w fun e w' => e = .returned (.string ⟨(Lib.decDigits i).toArray⟩) ∧ w' = w := Any.strconv_Itoa_small Tryz.lays171 i hi w
def Tryz.laysC245_ren : Go.Shelf.Ren := ⟨fun | 245 => 61 | 279 => 88 | 280 => 89 | 281 => 90 | 282 => 91 | 316 => 113 | 171 => 45 | 205 => 114 | 243 => 72 | 246 => 99 | 283 => 100 | 284 => 101 | 285 => 102 | 286 => 103 | 129 => 123 | 317 => 126 | 318 => 133 | 319 => 134 | 320 => 135 | 337 => 174 | 338 => 175 | n => n, fun | 9 => 9 | 3 => 3 | 75 => 47 | 167 => 113 | 4 => 4 | 168 => 114 | 210 => 146 | 37 => 94 | 0 => 0 | 127 => 136 | 145 => 198 | 143 => 196 | 2 => 2 | 171 => 126 | 53 => 26 | 5 => 5 | 173 => 129 | 212 => 167 | 51 => 131 | 20 => 20 | 213 => 168 | 46 => 75 | 232 => 154 | 233 => 233 | 80 => 102 | n => n, fun | 15 => 1 | 16 => 2 | 17 => 4 | 18 => 13 | 19 => 14 | n => n⟩
theorem Tryz.laysC245 : Go.Proofs.LaysC.n245 Tryz.prog Tryz.laysC245_ren := {
  mixed := by kernel_rfl
  f129 := Tryz.func123.trans (congrArg some (by kernel_rfl))
  f171 := Tryz.func45.trans (congrArg some (by kernel_rfl))
  f205 := Tryz.func114.trans (congrArg some (by kernel_rfl))
  f243 := Tryz.func72.trans (congrArg some (by kernel_rfl))
  f245 := Tryz.func61.trans (congrArg some (by kernel_rfl))
  f246 := Tryz.func99.trans (congrArg some (by kernel_rfl))
  f279 := Tryz.func88.trans (congrArg some (by kernel_rfl))
  f280 := Tryz.func89.trans (congrArg some (by kernel_rfl))
  f281 := Tryz.func90.trans (congrArg some (by kernel_rfl))
  f282 := Tryz.func91.trans (congrArg some (by kernel_rfl))
  f283 := Tryz.func100.trans (congrArg some (by kernel_rfl))
  f284 := Tryz.func101.trans (congrArg some (by kernel_rfl))
  f285 := Tryz.func102.trans (congrArg some (by kernel_rfl))
  f286 := Tryz.func103.trans (congrArg some (by kernel_rfl))
  f316 := Tryz.func113.trans (congrArg some (by kernel_rfl))
  f317 := Tryz.func126.trans (congrArg some (by kernel_rfl))
  f318 := Tryz.func133.trans (congrArg some (by kernel_rfl))
  f319 := Tryz.func134.trans (congrArg some (by kernel_rfl))
  f320 := Tryz.func135.trans (congrArg some (by kernel_rfl))
  f337 := Tryz.func174.trans (congrArg some (by kernel_rfl))
  f338 := Tryz.func175.trans (congrArg some (by kernel_rfl))
  t0 := Tryz.underlying0
  a0 := Tryz.isAgg0
  z0 := Tryz.sizeOf0
  v0 := Tryz.zeroValue0
  t2 := Tryz.underlying2
  a2 := Tryz.isAgg2
  z2 := Tryz.sizeOf2
  v2 := Tryz.zeroValue2
  t3 := Tryz.underlying3
  a3 := Tryz.isAgg3
  z3 := Tryz.sizeOf3
  v3 := Tryz.zeroValue3
  t4 := Tryz.underlying4
  a4 := Tryz.isAgg4
  z4 := Tryz.sizeOf4
  v4 := Tryz.zeroValue4
  t5 := Tryz.underlying5
  a5 := Tryz.isAgg5
  z5 := Tryz.sizeOf5
  v5 := Tryz.zeroValue5
  t9 := Tryz.underlying9
  a9 := Tryz.isAgg9
  z9 := Tryz.sizeOf9
  v9 := Tryz.zeroValue9
  t20 := Tryz.underlying20
  a20 := Tryz.isAgg20
  z20 := Tryz.sizeOf20
  v20 := Tryz.zeroValue20
  t37 := Tryz.underlying94
  a37 := Tryz.isAgg94
  z37 := Tryz.sizeOf94
  v37 := Tryz.zeroValue94
  t46 := Tryz.underlying75
  a46 := Tryz.isAgg75
  z46 := Tryz.sizeOf75
  v46 := Tryz.zeroValue75
  t51 := Tryz.underlying131
  a51 := Tryz.isAgg131
  z51 := Tryz.sizeOf131
  v51 := Tryz.zeroValue131
  t53 := Tryz.underlying26
  a53 := Tryz.isAgg26
  z53 := Tryz.sizeOf26
  v53 := Tryz.zeroValue26
  t75 := Tryz.underlying47
  a75 := Tryz.isAgg47
  z75 := Tryz.sizeOf47
  v75 := Tryz.zeroValue47
  t127 := Tryz.underlying136
  a127 := Tryz.isAgg136
  z127 := Tryz.sizeOf136
  v127 := Tryz.zeroValue136
  t143 := Tryz.underlying196
  a143 := Tryz.isAgg196
  z143 := Tryz.sizeOf196
  v143 := Tryz.zeroValue196
  t145 := Tryz.underlying198
  a145 := Tryz.isAgg198
  z145 := Tryz.sizeOf198
  v145 := Tryz.zeroValue198
  t167 := Tryz.underlying113
  a167 := Tryz.isAgg113
  z167 := Tryz.sizeOf113
  v167 := Tryz.zeroValue113
  t168 := Tryz.underlying114
  a168 := Tryz.isAgg114
  z168 := Tryz.sizeOf114
  v168 := Tryz.zeroValue114
  t171 := Tryz.underlying126
  a171 := Tryz.isAgg126
  z171 := Tryz.sizeOf126
  v171 := Tryz.zeroValue126
  t173 := Tryz.underlying129
  a173 := Tryz.isAgg129
  z173 := Tryz.sizeOf129
  v173 := Tryz.zeroValue129
  t210 := Tryz.underlying146
  a210 := Tryz.isAgg146
  z210 := Tryz.sizeOf146
  v210 := Tryz.zeroValue146
  t212 := Tryz.underlying167
  a212 := Tryz.isAgg167
  z212 := Tryz.sizeOf167
  v212 := Tryz.zeroValue167
  t213 := Tryz.underlying168
  a213 := Tryz.isAgg168
  z213 := Tryz.sizeOf168
  t232 := Tryz.underlying154
  a232 := Tryz.isAgg154
  z232 := Tryz.sizeOf154
  v232 := Tryz.zeroValue154
  t233 := Tryz.underlying233
  a233 := Tryz.isAgg233
  z233 := Tryz.sizeOf233
  v233 := Tryz.zeroValue233
  g15 := by kernel_rfl
  g16 := by kernel_rfl
  g17 := by kernel_rfl
  g18 := by kernel_rfl
  g19 := by kernel_rfl
  t80 := Tryz.underlying102
  a80 := Tryz.isAgg102
  z80 := Tryz.sizeOf102
  v80 := Tryz.zeroValue102
  i0 := by kernel_rfl
  i2 := by kernel_rfl
  i3 := by kernel_rfl
  i4 := by kernel_rfl
  i5 := by kernel_rfl
  i9 := by kernel_rfl
  i20 := by kernel_rfl
  i37 := by kernel_rfl
  i46 := by kernel_rfl
  i51 := by kernel_rfl
  i53 := by kernel_rfl
  i75 := by kernel_rfl
  i80 := by kernel_rfl
  i127 := by kernel_rfl
  i143 := by kernel_rfl
  i145 := by kernel_rfl
  i167 := by kernel_rfl
  i168 := by kernel_rfl
  i171 := by kernel_rfl
  i173 := by kernel_rfl
  i210 := by kernel_rfl
  i212 := by kernel_rfl
  i232 := by kernel_rfl
  i233 := by kernel_rfl
  m15 := by kernel_rfl
  m16 := by kernel_rfl
  m17 := by kernel_rfl
  m18 := by kernel_rfl
  m19 := by kernel_rfl
  c0 := by kernel_rfl
  c2 := by kernel_rfl
  c3 := by kernel_rfl
  c4 := by kernel_rfl
  c5 := by kernel_rfl
  c9 := by kernel_rfl
  c20 := by kernel_rfl
  c37 := by kernel_rfl
  c46 := by kernel_rfl
  c51 := by kernel_rfl
  c53 := by kernel_rfl
  c75 := by kernel_rfl
  c80 := by kernel_rfl
  c127 := by kernel_rfl
  c143 := by kernel_rfl
  c145 := by kernel_rfl
  c167 := by kernel_rfl
  c168 := by kernel_rfl
  c171 := by kernel_rfl
  c173 := by kernel_rfl
  c210 := by kernel_rfl
  c212 := by kernel_rfl
  c213 := by kernel_rfl
  c232 := by kernel_rfl
  c233 := by kernel_rfl }
open Go.RowKit in
theorem Tryz.strconv_toError_syntax (fn s : ByteArray) (base bits : Int) (ev : Value) (w : World) (hlim : s.size ≤ 281474976710656) (hv : w.cell? ⟨1, 0, none⟩ = some ev) (hev : ev = .nilIface ∨ ∃ te pe, ev = .iface te pe) :
    Calls Tryz.prog 61 #[.string fn, .string s, .int .i64 base, .int .i64 bits, .iface 113 (.int .i64 2)] w fun e w' => ∃ N, e = .returned (.iface 114 (.pointer (some ⟨N, 0, none⟩))) ∧ w.heap.size ≤ N ∧ w'.heap[N]? = some (.cells #[.string fn, .string s, ev] 146 (0, 0)) ∧ Below w.heap.size w w' := Any.strconv_toError_syntax Tryz.laysC245 fn s base bits ev w hlim hv hev
def Tryz.laysC172_ren : Go.Shelf.Ren := ⟨fun | 172 => 44 | 244 => 71 | 245 => 61 | 247 => 98 | 279 => 88 | 280 => 89 | 281 => 90 | 282 => 91 | 287 => 132 | 316 => 113 | 171 => 45 | 205 => 114 | 321 => 156 | 322 => 173 | 243 => 72 | 246 => 99 | 283 => 100 | 284 => 101 | 285 => 102 | 286 => 103 | 129 => 123 | 317 => 126 | 318 => 133 | 319 => 134 | 320 => 135 | 337 => 174 | 338 => 175 | n => n, fun | 9 => 9 | 3 => 3 | 75 => 47 | 76 => 71 | 4 => 4 | 5 => 5 | 167 => 113 | 37 => 94 | 0 => 0 | 85 => 123 | 2 => 2 | 168 => 114 | 53 => 26 | 175 => 164 | 46 => 75 | 210 => 146 | 127 => 136 | 145 => 198 | 143 => 196 | 21 => 21 | 171 => 126 | 173 => 129 | 212 => 167 | 51 => 131 | 20 => 20 | 213 => 168 | 232 => 154 | 233 => 233 | 80 => 102 | n => n, fun | 15 => 1 | 16 => 2 | 17 => 4 | 18 => 13 | 19 => 14 | n => n⟩
theorem Tryz.laysC172 : Go.Proofs.LaysC.n172 Tryz.prog Tryz.laysC172_ren := {
  mixed := by kernel_rfl
  f129 := Tryz.func123.trans (congrArg some (by kernel_rfl))
  f171 := Tryz.func45.trans (congrArg some (by kernel_rfl))
  f172 := Tryz.func44.trans (congrArg some (by kernel_rfl))
  f205 := Tryz.func114.trans (congrArg some (by kernel_rfl))
  f243 := Tryz.func72.trans (congrArg some (by kernel_rfl))
  f244 := Tryz.func71.trans (congrArg some (by kernel_rfl))
  f245 := Tryz.func61.trans (congrArg some (by kernel_rfl))
  f246 := Tryz.func99.trans (congrArg some (by kernel_rfl))
  f247 := Tryz.func98.trans (congrArg some (by kernel_rfl))
  f279 := Tryz.func88.trans (congrArg some (by kernel_rfl))
  f280 := Tryz.func89.trans (congrArg some (by kernel_rfl))
  f281 := Tryz.func90.trans (congrArg some (by kernel_rfl))
  f282 := Tryz.func91.trans (congrArg some (by kernel_rfl))
  f283 := Tryz.func100.trans (congrArg some (by kernel_rfl))
  f284 := Tryz.func101.trans (congrArg some (by kernel_rfl))
  f285 := Tryz.func102.trans (congrArg some (by kernel_rfl))
  f286 := Tryz.func103.trans (congrArg some (by kernel_rfl))
  f287 := Tryz.func132.trans (congrArg some (by kernel_rfl))
  f316 := Tryz.func113.trans (congrArg some (by kernel_rfl))
  f317 := Tryz.func126.trans (congrArg some (by kernel_rfl))
  f318 := Tryz.func133.trans (congrArg some (by kernel_rfl))
  f319 := Tryz.func134.trans (congrArg some (by kernel_rfl))
  f320 := Tryz.func135.trans (congrArg some (by kernel_rfl))
  f321 := Tryz.func156.trans (congrArg some (by kernel_rfl))
  f322 := Tryz.func173.trans (congrArg some (by kernel_rfl))
  f337 := Tryz.func174.trans (congrArg some (by kernel_rfl))
  f338 := Tryz.func175.trans (congrArg some (by kernel_rfl))
  t0 := Tryz.underlying0
  a0 := Tryz.isAgg0
  z0 := Tryz.sizeOf0
  v0 := Tryz.zeroValue0
  t2 := Tryz.underlying2
  a2 := Tryz.isAgg2
  z2 := Tryz.sizeOf2
  v2 := Tryz.zeroValue2
  t3 := Tryz.underlying3
  a3 := Tryz.isAgg3
  z3 := Tryz.sizeOf3
  v3 := Tryz.zeroValue3
  t4 := Tryz.underlying4
  a4 := Tryz.isAgg4
  z4 := Tryz.sizeOf4
  v4 := Tryz.zeroValue4
  t5 := Tryz.underlying5
  a5 := Tryz.isAgg5
  z5 := Tryz.sizeOf5
  v5 := Tryz.zeroValue5
  t9 := Tryz.underlying9
  a9 := Tryz.isAgg9
  z9 := Tryz.sizeOf9
  v9 := Tryz.zeroValue9
  t20 := Tryz.underlying20
  a20 := Tryz.isAgg20
  z20 := Tryz.sizeOf20
  v20 := Tryz.zeroValue20
  t21 := Tryz.underlying21
  a21 := Tryz.isAgg21
  z21 := Tryz.sizeOf21
  v21 := Tryz.zeroValue21
  t37 := Tryz.underlying94
  a37 := Tryz.isAgg94
  z37 := Tryz.sizeOf94
  v37 := Tryz.zeroValue94
  t46 := Tryz.underlying75
  a46 := Tryz.isAgg75
  z46 := Tryz.sizeOf75
  v46 := Tryz.zeroValue75
  t51 := Tryz.underlying131
  a51 := Tryz.isAgg131
  z51 := Tryz.sizeOf131
  v51 := Tryz.zeroValue131
  t53 := Tryz.underlying26
  a53 := Tryz.isAgg26
  z53 := Tryz.sizeOf26
  v53 := Tryz.zeroValue26
  t75 := Tryz.underlying47
  a75 := Tryz.isAgg47
  z75 := Tryz.sizeOf47
  v75 := Tryz.zeroValue47
  t76 := Tryz.underlying71
  a76 := Tryz.isAgg71
  z76 := Tryz.sizeOf71
  v76 := Tryz.zeroValue71
  t85 := Tryz.underlying123
  a85 := Tryz.isAgg123
  z85 := Tryz.sizeOf123
  v85 := Tryz.zeroValue123
  t127 := Tryz.underlying136
  a127 := Tryz.isAgg136
  z127 := Tryz.sizeOf136
  v127 := Tryz.zeroValue136
  t143 := Tryz.underlying196
  a143 := Tryz.isAgg196
  z143 := Tryz.sizeOf196
  v143 := Tryz.zeroValue196
  t145 := Tryz.underlying198
  a145 := Tryz.isAgg198
  z145 := Tryz.sizeOf198
  v145 := Tryz.zeroValue198
  t167 := Tryz.underlying113
  a167 := Tryz.isAgg113
  z167 := Tryz.sizeOf113
  v167 := Tryz.zeroValue113
  t168 := Tryz.underlying114
  a168 := Tryz.isAgg114
  z168 := Tryz.sizeOf114
  v168 := Tryz.zeroValue114
  t171 := Tryz.underlying126
  a171 := Tryz.isAgg126
  z171 := Tryz.sizeOf126
  v171 := Tryz.zeroValue126
  t173 := Tryz.underlying129
  a173 := Tryz.isAgg129
  z173 := Tryz.sizeOf129
  v173 := Tryz.zeroValue129
  t175 := Tryz.underlying164
  a175 := Tryz.isAgg164
  z175 := Tryz.sizeOf164
  v175 := Tryz.zeroValue164
  t210 := Tryz.underlying146
  a210 := Tryz.isAgg146
  z210 := Tryz.sizeOf146
  v210 := Tryz.zeroValue146
  t212 := Tryz.underlying167
  a212 := Tryz.isAgg167
  z212 := Tryz.sizeOf167
  v212 := Tryz.zeroValue167
  t213 := Tryz.underlying168
  a213 := Tryz.isAgg168
  z213 := Tryz.sizeOf168
  t232 := Tryz.underlying154
  a232 := Tryz.isAgg154
  z232 := Tryz.sizeOf154
  v232 := Tryz.zeroValue154
  t233 := Tryz.underlying233
  a233 := Tryz.isAgg233
  z233 := Tryz.sizeOf233
  v233 := Tryz.zeroValue233
  g15 := by kernel_rfl
  g16 := by kernel_rfl
  g17 := by kernel_rfl
  g18 := by kernel_rfl
  g19 := by kernel_rfl
  t80 := Tryz.underlying102
  a80 := Tryz.isAgg102
  z80 := Tryz.sizeOf102
  v80 := Tryz.zeroValue102
  i0 := by kernel_rfl
  i2 := by kernel_rfl
  i3 := by kernel_rfl
  i4 := by kernel_rfl
  i5 := by kernel_rfl
  i9 := by kernel_rfl
  i20 := by kernel_rfl
  i21 := by kernel_rfl
  i37 := by kernel_rfl
  i46 := by kernel_rfl
  i51 := by kernel_rfl
  i53 := by kernel_rfl
  i75 := by kernel_rfl
  i76 := by kernel_rfl
  i80 := by kernel_rfl
  i85 := by kernel_rfl
  i127 := by kernel_rfl
  i143 := by kernel_rfl
  i145 := by kernel_rfl
  i167 := by kernel_rfl
  i168 := by kernel_rfl
  i171 := by kernel_rfl
  i173 := by kernel_rfl
  i175 := by kernel_rfl
  i210 := by kernel_rfl
  i212 := by kernel_rfl
  i232 := by kernel_rfl
  i233 := by kernel_rfl
  m15 := by kernel_rfl
  m16 := by kernel_rfl
  m17 := by kernel_rfl
  m18 := by kernel_rfl
  m19 := by kernel_rfl
  c0 := by kernel_rfl
  c2 := by kernel_rfl
  c3 := by kernel_rfl
  c4 := by kernel_rfl
  c5 := by kernel_rfl
  c9 := by kernel_rfl
  c20 := by kernel_rfl
  c21 := by kernel_rfl
  c37 := by kernel_rfl
  c46 := by kernel_rfl
  c51 := by kernel_rfl
  c53 := by kernel_rfl
  c75 := by kernel_rfl
  c76 := by kernel_rfl
  c80 := by kernel_rfl
  c85 := by kernel_rfl
  c127 := by kernel_rfl
  c143 := by kernel_rfl
  c145 := by kernel_rfl
  c167 := by kernel_rfl
  c168 := by kernel_rfl
  c171 := by kernel_rfl
  c173 := by kernel_rfl
  c175 := by kernel_rfl
  c210 := by kernel_rfl
  c212 := by kernel_rfl
  c213 := by kernel_rfl
  c232 := by kernel_rfl
  c233 := by kernel_rfl }
def Tryz.lays321_ren : Go.Shelf.Ren := ⟨fun | 321 => 156 | n => n, fun | 5 => 5 | n => n, fun | n => n⟩
theorem Tryz.lays321 : Go.Proofs.Lays.n321 Tryz.prog Tryz.lays321_ren := {
  mixed := by kernel_rfl
  f321 := Tryz.func156.trans (congrArg some (by kernel_rfl))
  t5 := Tryz.underlying5
  a5 := Tryz.isAgg5
  z5 := Tryz.sizeOf5
  v5 := Tryz.zeroValue5 }
open Go.RowKit in
theorem Tryz.internal_strconv_lower (c : Int) (w : World) :
    Calls Tryz.prog 156 #[.int .u8 c] w fun e w' => e = .returned (.int .u8 (bits .or .u8 c 32)) ∧ w' = w := Any.internal_strconv_lower Tryz.lays321 c w
open Go.RowKit in
theorem Tryz.strconv_toError_range (fn s : ByteArray) (base bits : Int) (ev : Value) (w : World) (hlim : s.size ≤ 281474976710656) (hv : w.cell? ⟨2, 0, none⟩ = some ev) (hev : ev = .nilIface ∨ ∃ te pe, ev = .iface te pe) :
    Calls Tryz.prog 61 #[.string fn, .string s, .int .i64 base, .int .i64 bits, .iface 113 (.int .i64 1)] w fun e w' => ∃ N, e = .returned (.iface 114 (.pointer (some ⟨N, 0, none⟩))) ∧ w.heap.size ≤ N ∧ w'.heap[N]? = some (.cells #[.string fn, .string s, ev] 146 (0, 0)) ∧ Below w.heap.size w w' := Any.strconv_toError_range Tryz.laysC245 fn s base bits ev w hlim hv hev
open Go.RowKit in
theorem Tryz.strconv_Atoi_ok (s : ByteArray) (hmax : s.size ≤ 9223372036854775806) (v : Int) (h : Lib.atoiAll s.data.toList = .ok v) (w : World) :
    Calls Tryz.prog 44 #[.string s] w fun e w' => e = .returned (.tuple #[.int .i64 v, .nilIface]) ∧ (w' = w ∨ ∃ t, w' = Lib.bytesWorld w 5 t) := Any.strconv_Atoi_ok Tryz.laysC172 s hmax v h w
open Go.RowKit in
theorem Tryz.strconv_Atoi_bad (s : ByteArray) (hlim : s.size ≤ 281474976710656) (h1 : ∀ n, Lib.atoiAll s.data.toList ≠ .ok n) (h2 : Lib.atoiAll s.data.toList ≠ .range) (ev : Value) (w : World) (hv : w.cell? ⟨1, 0, none⟩ = some ev) (hev : ev = .nilIface ∨ ∃ te pe, ev = .iface te pe) :
    Calls Tryz.prog 44 #[.string s] w fun e w' => ∃ N, e = .returned (.tuple #[.int .i64 (0), .iface 114 (.pointer (some ⟨N, 0, none⟩))]) ∧ w.heap.size ≤ N ∧ w'.heap[N]? = some (.cells #[.string ⟨#[65, 116, 111, 105]⟩, .string s, ev] 146 (0, 0)) ∧ Below w.heap.size w w' := by
  cases h : Lib.atoiAll s.data.toList with
  | ok n => exact absurd h (h1 n)
  | range => exact absurd h h2
  | _ => exact Any.strconv_Atoi_syntax Tryz.laysC172 s hlim h ev w hv hev
open Go.RowKit in
theorem Tryz.strconv_Atoi_range (s : ByteArray) (hlim : s.size ≤ 281474976710656) (h : Lib.atoiAll s.data.toList = .range) (ev : Value) (w : World) (hv : w.cell? ⟨2, 0, none⟩ = some ev) (hev : ev = .nilIface ∨ ∃ te pe, ev = .iface te pe) :
    Calls Tryz.prog 44 #[.string s] w fun e w' => ∃ N, e = .returned (.tuple #[.int .i64 (Lib.atoiSat s.data.toList), .iface 114 (.pointer (some ⟨N, 0, none⟩))]) ∧ w.heap.size ≤ N ∧ w'.heap[N]? = some (.cells #[.string ⟨#[65, 116, 111, 105]⟩, .string s, ev] 146 (0, 0)) ∧ Below w.heap.size w w' := Any.strconv_Atoi_range Tryz.laysC172 s hlim h ev w hv hev
def Tryz.lays99_ren : Go.Shelf.Ren := ⟨fun | 99 => 54 | 206 => 85 | n => n, fun | 9 => 9 | 4 => 4 | 3 => 3 | n => n, fun | n => n⟩
theorem Tryz.lays99 : Go.Proofs.Lays.n99 Tryz.prog Tryz.lays99_ren := {
  mixed := by kernel_rfl
  f99 := Tryz.func54.trans (congrArg some (by kernel_rfl))
  f206 := Tryz.func85.trans (congrArg some (by kernel_rfl))
  t3 := Tryz.underlying3
  a3 := Tryz.isAgg3
  z3 := Tryz.sizeOf3
  v3 := Tryz.zeroValue3
  t4 := Tryz.underlying4
  a4 := Tryz.isAgg4
  z4 := Tryz.sizeOf4
  v4 := Tryz.zeroValue4
  t9 := Tryz.underlying9
  a9 := Tryz.isAgg9
  z9 := Tryz.sizeOf9
  v9 := Tryz.zeroValue9 }
open Go.RowKit Go.Lib in
theorem Tryz.strings_HasPrefix (s p : ByteArray) (w : World) :
    Calls Tryz.prog 54 #[.string s, .string p] w fun e w' => e = .returned (.bool (Lib.hasPrefix s.data.toList p.data.toList)) ∧ w' = w := Any.strings_HasPrefix Tryz.lays99 s p w
def Tryz.lays101_ren : Go.Shelf.Ren := ⟨fun | 101 => 55 | 208 => 86 | 206 => 85 | n => n, fun | 9 => 9 | 4 => 4 | 3 => 3 | n => n, fun | n => n⟩
theorem Tryz.lays101 : Go.Proofs.Lays.n101 Tryz.prog Tryz.lays101_ren := {
  mixed := by kernel_rfl
  f101 := Tryz.func55.trans (congrArg some (by kernel_rfl))
  f206 := Tryz.func85.trans (congrArg some (by kernel_rfl))
  f208 := Tryz.func86.trans (congrArg some (by kernel_rfl))
  t3 := Tryz.underlying3
  a3 := Tryz.isAgg3
  z3 := Tryz.sizeOf3
  v3 := Tryz.zeroValue3
  t4 := Tryz.underlying4
  a4 := Tryz.isAgg4
  z4 := Tryz.sizeOf4
  v4 := Tryz.zeroValue4
  t9 := Tryz.underlying9
  a9 := Tryz.isAgg9
  z9 := Tryz.sizeOf9
  v9 := Tryz.zeroValue9 }
open Go.RowKit Go.Lib in
theorem Tryz.strings_TrimPrefix (s p : ByteArray) (w : World) :
    Calls Tryz.prog 55 #[.string s, .string p] w fun e w' => e = .returned (.string ⟨(Lib.trimPrefix s.data.toList p.data.toList).toArray⟩) ∧ w' = w := Any.strings_TrimPrefix Tryz.lays101 s p w
def Tryz.lays264_ren : Go.Shelf.Ren := ⟨fun | 264 => 105 | n => n, fun | 53 => 26 | 46 => 75 | n => n, fun | n => n⟩
theorem Tryz.lays264 : Go.Proofs.Lays.n264 Tryz.prog Tryz.lays264_ren := {
  mixed := by kernel_rfl
  f264 := Tryz.func105.trans (congrArg some (by kernel_rfl))
  t46 := Tryz.underlying75
  a46 := Tryz.isAgg75
  z46 := Tryz.sizeOf75
  v46 := Tryz.zeroValue75
  t53 := Tryz.underlying26
  a53 := Tryz.isAgg26
  z53 := Tryz.sizeOf26
  v53 := Tryz.zeroValue26 }
open Go.RowKit Go.Lib in
theorem Tryz.bits_Mul64 (x y : Nat) (hx : x < 18446744073709551616) (hy : y < 18446744073709551616) (w : World) :
    Calls Tryz.prog 105 #[.int .u64 x, .int .u64 y] w fun e w' => e = .returned (.tuple #[.int .u64 ((x * y / 18446744073709551616 : Nat) : Int), .int .u64 ((x * y % 18446744073709551616 : Nat) : Int)]) ∧ w' = w := Any.bits_Mul64 Tryz.lays264 x y hx hy w
def Tryz.lays105_ren : Go.Shelf.Ren := ⟨fun | 105 => 50 | 212 => 75 | 99 => 54 | 165 => 76 | 166 => 77 | 170 => 78 | 169 => 79 | 263 => 104 | 264 => 105 | 206 => 85 | 240 => 106 | 241 => 107 | 276 => 136 | 277 => 137 | n => n, fun | 9 => 9 | 3 => 3 | 4 => 4 | 20 => 20 | 0 => 0 | 46 => 75 | 109 => 95 | 5 => 5 | 72 => 99 | 76 => 71 | 51 => 131 | 146 => 132 | 53 => 26 | 148 => 134 | 70 => 97 | 37 => 94 | 75 => 47 | 127 => 136 | 164 => 171 | 80 => 102 | n => n, fun | n => n⟩
theorem Tryz.lays105 : Go.Proofs.Lays.n105 Tryz.prog Tryz.lays105_ren := {
  mixed := by kernel_rfl
  f99 := Tryz.func54.trans (congrArg some (by kernel_rfl))
  f105 := Tryz.func50.trans (congrArg some (by kernel_rfl))
  f165 := Tryz.func76.trans (congrArg some (by kernel_rfl))
  f166 := Tryz.func77.trans (congrArg some (by kernel_rfl))
  f169 := Tryz.func79.trans (congrArg some (by kernel_rfl))
  f170 := Tryz.func78.trans (congrArg some (by kernel_rfl))
  f206 := Tryz.func85.trans (congrArg some (by kernel_rfl))
  f212 := Tryz.func75.trans (congrArg some (by kernel_rfl))
  f240 := Tryz.func106.trans (congrArg some (by kernel_rfl))
  f241 := Tryz.func107.trans (congrArg some (by kernel_rfl))
  f263 := Tryz.func104.trans (congrArg some (by kernel_rfl))
  f264 := Tryz.func105.trans (congrArg some (by kernel_rfl))
  f276 := Tryz.func136.trans (congrArg some (by kernel_rfl))
  f277 := Tryz.func137.trans (congrArg some (by kernel_rfl))
  t0 := Tryz.underlying0
  a0 := Tryz.isAgg0
  z0 := Tryz.sizeOf0
  v0 := Tryz.zeroValue0
  t3 := Tryz.underlying3
  a3 := Tryz.isAgg3
  z3 := Tryz.sizeOf3
  v3 := Tryz.zeroValue3
  t4 := Tryz.underlying4
  a4 := Tryz.isAgg4
  z4 := Tryz.sizeOf4
  v4 := Tryz.zeroValue4
  t5 := Tryz.underlying5
  a5 := Tryz.isAgg5
  z5 := Tryz.sizeOf5
  v5 := Tryz.zeroValue5
  t9 := Tryz.underlying9
  a9 := Tryz.isAgg9
  z9 := Tryz.sizeOf9
  v9 := Tryz.zeroValue9
  t20 := Tryz.underlying20
  a20 := Tryz.isAgg20
  z20 := Tryz.sizeOf20
  v20 := Tryz.zeroValue20
  t37 := Tryz.underlying94
  a37 := Tryz.isAgg94
  z37 := Tryz.sizeOf94
  v37 := Tryz.zeroValue94
  t46 := Tryz.underlying75
  a46 := Tryz.isAgg75
  z46 := Tryz.sizeOf75
  v46 := Tryz.zeroValue75
  t51 := Tryz.underlying131
  a51 := Tryz.isAgg131
  z51 := Tryz.sizeOf131
  v51 := Tryz.zeroValue131
  t53 := Tryz.underlying26
  a53 := Tryz.isAgg26
  z53 := Tryz.sizeOf26
  v53 := Tryz.zeroValue26
  t70 := Tryz.underlying97
  a70 := Tryz.isAgg97
  z70 := Tryz.sizeOf97
  v70 := Tryz.zeroValue97
  t72 := Tryz.underlying99
  a72 := Tryz.isAgg99
  z72 := Tryz.sizeOf99
  v72 := Tryz.zeroValue99
  t75 := Tryz.underlying47
  a75 := Tryz.isAgg47
  z75 := Tryz.sizeOf47
  v75 := Tryz.zeroValue47
  t76 := Tryz.underlying71
  a76 := Tryz.isAgg71
  z76 := Tryz.sizeOf71
  v76 := Tryz.zeroValue71
  t109 := Tryz.underlying95
  a109 := Tryz.isAgg95
  z109 := Tryz.sizeOf95
  v109 := Tryz.zeroValue95
  t127 := Tryz.underlying136
  a127 := Tryz.isAgg136
  z127 := Tryz.sizeOf136
  v127 := Tryz.zeroValue136
  t146 := Tryz.underlying132
  a146 := Tryz.isAgg132
  z146 := Tryz.sizeOf132
  v146 := Tryz.zeroValue132
  t148 := Tryz.underlying134
  a148 := Tryz.isAgg134
  z148 := Tryz.sizeOf134
  v148 := Tryz.zeroValue134
  t164 := Tryz.underlying171
  a164 := Tryz.isAgg171
  z164 := Tryz.sizeOf171
  v164 := Tryz.zeroValue171 }
theorem Tryz.Builder_Extra_105 : Builder.Extra Tryz.prog Tryz.lays105_ren := {
  sizeBuilder := by kernel_rfl
  liesBuilder := by kernel_rfl
  t5 := Tryz.underlying5
  a5 := Tryz.isAgg5
  z5 := Tryz.sizeOf5
  v5 := Tryz.zeroValue5
  infoByte := by kernel_rfl
  cellsByte := by kernel_rfl
  sizeByte := by kernel_rfl
  neB5 := by decide }
open Go.RowKit Go.Lib in
theorem Tryz.strings_Repeat_main (s : ByteArray) (c : Nat) (w : World) (hc2 : 2 ≤ c) (hc : c ≤ 9223372036854775807) (hlen : s.size * c ≤ 140737488355328) (h0 : 0 < s.size) :
    Calls Tryz.prog 50 #[.string s, .int .i64 c] w fun e w' => e = .returned (.string ⟨(Lib.repeatL s.data.toList c).toArray⟩) ∧ Below w.heap.size w w' := Any.strings_Repeat_main Tryz.lays105 Tryz.Builder_Extra_105 s c w hc2 hc hlen h0
open Go.RowKit Go.Lib in
theorem Tryz.strings_Repeat_zero (s : ByteArray) (w : World) :
    Calls Tryz.prog 50 #[.string s, .int .i64 0] w fun e w' => e = .returned (.string ⟨#[]⟩) ∧ w' = w := Any.strings_Repeat_zero Tryz.lays105 s w
open Go.RowKit Go.Lib in
theorem Tryz.strings_Repeat_one (s : ByteArray) (w : World) :
    Calls Tryz.prog 50 #[.string s, .int .i64 1] w fun e w' => e = .returned (.string s) ∧ w' = w := Any.strings_Repeat_one Tryz.lays105 s w
end Go.Proofs
namespace Go
def Exit.hop (P : Program) (c : Code) : Nat → (Exit → Act → World → Prop) → Exit → Act → World → Prop
  | 0, Q => Exit.noGoto Q
  | n + 1, Q => fun e a w => match e with
    | .goto l => ∃ rest, findLabel c l = some rest ∧ rest.wp P (Exit.hop P c n Q) a w
    | e => Q e a w
section
variable {P : Program} {a : Act} {w : World} {Q : Exit → Act → World → Prop}
theorem wp_scope_hop {c : Code} (n : Nat) (h : c.wp P (Exit.hop P c n Q) a w) : (Code.scope c).wp P Q a w := by
  intro b k cs
  have key : ∀ n (d : Code) a w, d.wp P (Exit.hop P c n Q) a w → ∃ e a' w', Q e a' w' ∧ Arrives P (lone (b.at a (.code d :: .inScope c :: k)) cs w) b k cs e a' w' := by
    intro n
    induction n with
    | zero =>
      intro d a w hd
      obtain ⟨e, a₁, w₁, hq, harr⟩ := hd b (.inScope c :: k) cs
      cases e with
      | normal => exact ⟨.normal, a₁, w₁, hq, Steps.trans harr (.one step_inScope)⟩
      | exit id => exact ⟨.exit id, a₁, w₁, hq, fun k' hk => harr k' (by simp [exitTo, hk])⟩
      | goto l => exact hq.elim
      | ret => exact ⟨_, a₁, w₁, hq, harr⟩
      | panic ch => exact ⟨_, a₁, w₁, hq, harr⟩
      | outgrown => exact ⟨_, a₁, w₁, hq, harr⟩
    | succ n ih =>
      intro d a w hd
      obtain ⟨e, a₁, w₁, hq, harr⟩ := hd b (.inScope c :: k) cs
      cases e with
      | normal => exact ⟨.normal, a₁, w₁, hq, Steps.trans harr (.one step_inScope)⟩
      | exit id => exact ⟨.exit id, a₁, w₁, hq, fun k' hk => harr k' (by simp [exitTo, hk])⟩
      | goto l =>
        obtain ⟨rest, hf, hr⟩ := hq
        obtain ⟨e, a₂, w₂, hq2, harr2⟩ := ih rest a₁ w₁ hr
        have hg : gotoIn l (.inScope c :: k) = some (.code rest :: .inScope c :: k) := by simp [gotoIn, hf]
        exact ⟨e, a₂, w₂, hq2, .of_steps (harr _ hg) harr2⟩
      | ret => exact ⟨_, a₁, w₁, hq, harr⟩
      | panic ch => exact ⟨_, a₁, w₁, hq, harr⟩
      | outgrown => exact ⟨_, a₁, w₁, hq, harr⟩
  obtain ⟨e, a₁, w₁, hq, harr⟩ := key n c a w h
  exact ⟨e, a₁, w₁, hq, .of_steps (.one step_scope) harr⟩
theorem Exit.hop_ret {c : Code} (n : Nat) : Exit.hop P c n Q .ret a w = Q .ret a w := by cases n <;> rfl
theorem Exit.hop_goto {c rest : Code} (n l : Nat) (hf : findLabel c l = some rest) (h : rest.wp P (Exit.hop P c n Q) a w) : Exit.hop P c (n + 1) Q (.goto l) a w := ⟨rest, hf, h⟩
end
end Go
namespace Go.Proofs.YtjpiplplohapnaaGreatDoor
open Go.RowKit
def f10tab : List Nat := [4607182418800017408, 4621819117588971520, 4636737291354636288, 4652007308841189376, 4666723172467343360, 4681608360884174848, 4696837146684686336, 4711630319722168320, 4726483295884279808, 4741671816366391296, 4756540486875873280, 4771362005757984768, 4786511204640096256, 4801453603149578240, 4816244402031689728, 4831355200913801216, 4846369599423283200, 4861130398305394688, 4876203697187506176, 4891288408196988160, 4906019910204099648, 4921056587992461136, 4936209963552724370]
theorem gSyn : Tryz.prog.globalNamed "strconv.ErrSyntax" = some 1 := by kernel_rfl
theorem gRng : Tryz.prog.globalNamed "strconv.ErrRange" = some 2 := by kernel_rfl
theorem gOpt : Tryz.prog.globalNamed "internal/strconv.optimize" = some 3 := by kernel_rfl
theorem gU10 : Tryz.prog.globalNamed "internal/strconv.uint64pow10" = some 4 := by kernel_rfl
theorem gInf : Tryz.prog.globalNamed "internal/strconv.float64info" = some 6 := by kernel_rfl
theorem gF10 : Tryz.prog.globalNamed "internal/strconv.float64pow10" = some 10 := by kernel_rfl
theorem gP10 : Tryz.prog.globalNamed "internal/strconv.pow10Tab" = some 11 := by kernel_rfl
theorem gDb : Tryz.prog.globalNamed "math/bits.deBruijn64tab" = some 14 := by kernel_rfl
structure Laid (w : World) : Prop where
  size : 17 ≤ w.heap.size
  syn : ∃ te pe, w.var? Tryz.prog "strconv.ErrSyntax" = some #[.iface te pe]
  rng : ∃ te pe, w.var? Tryz.prog "strconv.ErrRange" = some #[.iface te pe]
  opt : w.var? Tryz.prog "internal/strconv.optimize" = some #[.bool true]
  inf : w.var? Tryz.prog "internal/strconv.float64info" = some #[.int .u64 52, .int .u64 11, .int .i64 (-1023)]
  u10 : Lib.TabIs Tryz.prog w "internal/strconv.uint64pow10" .u64 Lib.pow10Tab
  f10 : ∃ a : Addr, w.var? Tryz.prog "internal/strconv.float64pow10" = some #[.slice (some a) 23 23] ∧ ∀ i, i < 23 → w.cell? (a.add i) = some (.float .f64 (f10tab.getD i 0))
  p10 : w.var? Tryz.prog "internal/strconv.pow10Tab" = some (Pinned.pow10Rows.flatMap fun x => [Value.int .u64 x.1, Value.int .u64 x.2]).toArray
  db : Lib.TabIs Tryz.prog w "math/bits.deBruijn64tab" .u8 (Lib.deBruijn64tab.map fun x : Nat => (x : Int))
theorem Laid.below {w w' : World} (h : Laid w) (hb : Below w.heap.size w w') : Laid w' := by
  have hs := h.size
  refine ⟨Nat.le_trans hs hb.size, ?_, ?_, var?_below hb gOpt (by omega) h.opt, var?_below hb gInf (by omega) h.inf, var?_below hb gU10 (by omega) h.u10, ?_, var?_below hb gP10 (by omega) h.p10, var?_below hb gDb (by omega) h.db⟩
  · obtain ⟨a, b, hv⟩ := h.syn
    exact ⟨a, b, var?_below hb gSyn (by omega) hv⟩
  · obtain ⟨a, b, hv⟩ := h.rng
    exact ⟨a, b, var?_below hb gRng (by omega) hv⟩
  · obtain ⟨a, hv, hc⟩ := h.f10
    exact ⟨a, var?_below hb gF10 (by omega) hv, fun i hi => (hb.cell (World.block_lt_of_cell? w _ (hc i hi))).trans (hc i hi)⟩
theorem Laid.optCell {w : World} (h : Laid w) : w.cell? ⟨3, 0, none⟩ = some (.bool true) := by
  have := World.var?_cell gOpt h.opt 0
  simpa using this
theorem Laid.infCell {w : World} (h : Laid w) : w.cell? ⟨6, 0, none⟩ = some (.int .u64 52) ∧ w.cell? ⟨6, 1, none⟩ = some (.int .u64 11) ∧ w.cell? ⟨6, 2, none⟩ = some (.int .i64 (-1023)) := by
  refine ⟨?_, ?_, ?_⟩
  · have := World.var?_cell gInf h.inf 0; simpa using this
  · have := World.var?_cell gInf h.inf 1; simpa using this
  · have := World.var?_cell gInf h.inf 2; simpa using this
theorem Laid.p10Cell {w : World} (h : Laid w) (i : Nat) : w.cell? ⟨11, i, none⟩ = ((Pinned.pow10Rows.flatMap fun x => [Value.int .u64 x.1, Value.int .u64 x.2]).toArray)[i]? := World.var?_cell gP10 h.p10 i
theorem Laid.f10Cell {w : World} (h : Laid w) : ∃ a : Addr, w.cell? ⟨10, 0, none⟩ = some (.slice (some a) 23 23) ∧ ∀ i, i < 23 → w.cell? (a.add i) = some (.float .f64 (f10tab.getD i 0)) := by
  obtain ⟨a, hv, hc⟩ := h.f10
  exact ⟨a, by have := World.var?_cell gF10 hv 0; simpa using this, hc⟩
end Go.Proofs.YtjpiplplohapnaaGreatDoor
namespace Go.Proofs.YtjpiplplohapnaaGreatDoor
open Go.RowKit Go.Proofs.YtjpiplplohapnaaGreatDoorW.PrintWords
abbrev s01 : ByteArray := ⟨#[48, 46, 49]⟩
theorem d0 : PText.text_digits.f 9 s01 0 = some 1 := by decide +kernel
theorem d2 : PText.text_digits.f 9 s01 2 = some 3 := by decide +kernel
theorem b0 : s01[0] = 48 := by decide
theorem b1 : s01[1] = 46 := by decide
theorem b2 : s01[2] = 49 := by decide
set_option maxHeartbeats 400000 in
theorem formed_01 (w : World) : Calls Tryz.prog 23 #[.string s01] w fun e w' => e = .returned (.bool true) ∧ Below w.heap.size w w' := by
  have b1' : ((s01[1].toNat : Int) == 46) = true := by decide
  go_enter Tryz.func23, Tryz.ntmps23
  go_wp2_with fail
  refine wp_scope_hop 3 ?_
  go_wp2_with fail
  refine (PText.text_digits.calls 9 s01 0 1 _ d0).mono ?_
  rintro e w1 ⟨rfl, hd1⟩
  go_wp2_with fail
  go_step3
  refine Exit.hop_goto _ _ rfl ?_
  go_wp2_with fail
  refine (PText.text_digits.calls 9 s01 2 3 _ d2).mono ?_
  rintro e w2 ⟨rfl, hd2⟩
  go_wp2_with fail
  go_step3
  go_wp2_with fail
  rw [Exit.hop_ret]
  go_ret
  exact ⟨rfl, (hd1.below).trans (hd2.below.mono (hd1.below.size))⟩
theorem special_01 (w : World) : Calls Tryz.prog 141 #[.string s01] w fun e w' => e = .returned (.tuple #[.float .f64 0, .int .i64 0, .bool false]) ∧ Below w.heap.size w w' := by
  go_enter Tryz.func141, Tryz.ntmps141
  go_wp2_with fail
  go_ret3
  exact ⟨rfl, Below.refl _ _⟩
theorem lower46 (w : World) : Calls Tryz.prog 156 #[.int .u8 46] w fun e w' => e = .returned (.int .u8 46) ∧ w' = w := by
  have h : Go.bits .or .u8 46 32 = 46 := by decide +kernel
  have := Tryz.internal_strconv_lower 46 w
  rw [h] at this
  exact this
set_option maxRecDepth 100000 in
set_option maxHeartbeats 1000000 in
theorem readFloat_01 (w : World) : Calls Tryz.prog 142 #[.string s01] w fun e w' => e = .returned (.tuple #[.int .u64 1, .int .i64 (-1), .bool false, .bool false, .bool false, .int .i64 3, .bool true]) ∧ Below w.heap.size w w' := by
  have e0 : s01[0].toNat = 48 := by decide
  have e1 : s01[1].toNat = 46 := by decide
  have e2 : s01[2].toNat = 49 := by decide
  go_enter Tryz.func142, Tryz.ntmps142
  go_wp2_with fail
  go_step3
  go_wp2_with fail
  refine (lower46 _).mono ?_
  rintro e w1 ⟨rfl, rfl⟩
  go_wp2_with fail
  go_step3
  go_wp2_with fail
  refine wp_loop_rounds 4 ?_
  rw [rounds_succ]
  go_wp2_with fail
  rw [rounds_succ]
  go_wp2_with fail
  rw [rounds_succ]
  go_wp2_with fail
  rw [rounds_succ]
  go_wp2_with fail
  rw [Exit.noGoto_ret]
  exact bodyPost_ret (v := .tuple #[.int .u64 1, .int .i64 (-1), .bool false, .bool false, .bool false, .int .i64 3, .bool true]) (by simp [results, Tryz.results142, go_sem]) rfl ⟨rfl, Below.refl _ _⟩
end Go.Proofs.YtjpiplplohapnaaGreatDoor
namespace Go.Proofs.YtjpiplplohapnaaGreatDoor.PText
open Go.RowKit Go.Proofs.YtjpiplplohapnaaGreatDoorW.PrintWords Go.Proofs.YtjpiplplohapnaaGreatDoorW.PrintLast Go.Proofs.YtjpiplplohapnaaGreatDoorW.PrintMore
attribute [local go_sem] max2_int min2_int max_two min_two max_three min_three max_four min_four
set_option linter.unusedVariables false
set_option linter.unusedSimpArgs false
def strconv_lower.f (a0 : Int) : Option (Int) := some (Go.bits .or .u8 a0 32)
set_option maxHeartbeats 8000000 in
set_option maxRecDepth 100000 in
theorem strconv_lower.calls (a0 : Int) (r : Int) (w : World) (h : strconv_lower.f a0 = some r) :
    Calls Tryz.prog 156 #[.int .u8 a0] w fun e w' => e = .returned (.int .u8 r) ∧ Drawn0 w w' := by
  have H : (some (Go.bits .or .u8 a0 32)) = some r := h
  clear h
  obtain rfl := Option.some.inj H
  go_enter Tryz.func156, Tryz.ntmps156
  go_wp2
  go_ret
  exact ⟨by first | rfl | (simp; done) | (simp [*]; done), by repeat (first | exact Drawn0.refl _ | apply Drawn0.step)⟩
def strconv_bool2_uint32.f (a0 : Bool) : Option (Int) := if a0 = true then (some 1) else (some 0)
set_option maxHeartbeats 8000000 in
set_option maxRecDepth 100000 in
theorem strconv_bool2_uint32.calls (a0 : Bool) (r : Int) (w : World) (h : strconv_bool2_uint32.f a0 = some r) :
    Calls Tryz.prog 144 #[.bool a0] w fun e w' => e = .returned (.int .u32 r) ∧ Drawn0 w w' := by
  have H : (if a0 = true then (some 1) else (some 0)) = some r := h
  clear h
  by_cases c2 : a0 = true
  · subst c2
    have H1 : (some 1) = some r := by rw [if_pos rfl] at H; exact H
    clear H
    have H := H1
    clear H1
    obtain rfl := Option.some.inj H
    go_enter Tryz.func144, Tryz.ntmps144
    go_wp2
    go_ret
    exact ⟨by first | rfl | (simp; done) | (simp [*]; done), by repeat (first | exact Drawn0.refl _ | apply Drawn0.step)⟩
  · replace c2 := Bool.eq_false_iff.mpr c2
    subst c2
    have H1 : (some 0) = some r := by rw [if_neg (show ¬ (false = true) by decide)] at H; exact H
    clear H
    have H := H1
    clear H1
    obtain rfl := Option.some.inj H
    go_enter Tryz.func144, Tryz.ntmps144
    go_wp2
    go_ret
    exact ⟨by first | rfl | (simp; done) | (simp [*]; done), by repeat (first | exact Drawn0.refl _ | apply Drawn0.step)⟩
def strconv_bool2_int.f (a0 : Bool) : Option (Int) := if a0 = true then (some 1) else (some 0)
set_option maxHeartbeats 8000000 in
set_option maxRecDepth 100000 in
theorem strconv_bool2_int.calls (a0 : Bool) (r : Int) (w : World) (h : strconv_bool2_int.f a0 = some r) :
    Calls Tryz.prog 133 #[.bool a0] w fun e w' => e = .returned (.int .i64 r) ∧ Drawn0 w w' := by
  have H : (if a0 = true then (some 1) else (some 0)) = some r := h
  clear h
  by_cases c2 : a0 = true
  · subst c2
    have H1 : (some 1) = some r := by rw [if_pos rfl] at H; exact H
    clear H
    have H := H1
    clear H1
    obtain rfl := Option.some.inj H
    go_enter Tryz.func133, Tryz.ntmps133
    go_wp2
    go_ret
    exact ⟨by first | rfl | (simp; done) | (simp [*]; done), by repeat (first | exact Drawn0.refl _ | apply Drawn0.step)⟩
  · replace c2 := Bool.eq_false_iff.mpr c2
    subst c2
    have H1 : (some 0) = some r := by rw [if_neg (show ¬ (false = true) by decide)] at H; exact H
    clear H
    have H := H1
    clear H1
    obtain rfl := Option.some.inj H
    go_enter Tryz.func133, Tryz.ntmps133
    go_wp2
    go_ret
    exact ⟨by first | rfl | (simp; done) | (simp [*]; done), by repeat (first | exact Drawn0.refl _ | apply Drawn0.step)⟩
def strconv_bool2_uint64.f (a0 : Bool) : Option (Int) := if a0 = true then (some 1) else (some 0)
set_option maxHeartbeats 8000000 in
set_option maxRecDepth 100000 in
theorem strconv_bool2_uint64.calls (a0 : Bool) (r : Int) (w : World) (h : strconv_bool2_uint64.f a0 = some r) :
    Calls Tryz.prog 150 #[.bool a0] w fun e w' => e = .returned (.int .u64 r) ∧ Drawn0 w w' := by
  have H : (if a0 = true then (some 1) else (some 0)) = some r := h
  clear h
  by_cases c2 : a0 = true
  · subst c2
    have H1 : (some 1) = some r := by rw [if_pos rfl] at H; exact H
    clear H
    have H := H1
    clear H1
    obtain rfl := Option.some.inj H
    go_enter Tryz.func150, Tryz.ntmps150
    go_wp2
    go_ret
    exact ⟨by first | rfl | (simp; done) | (simp [*]; done), by repeat (first | exact Drawn0.refl _ | apply Drawn0.step)⟩
  · replace c2 := Bool.eq_false_iff.mpr c2
    subst c2
    have H1 : (some 0) = some r := by rw [if_neg (show ¬ (false = true) by decide)] at H; exact H
    clear H
    have H := H1
    clear H1
    obtain rfl := Option.some.inj H
    go_enter Tryz.func150, Tryz.ntmps150
    go_wp2
    go_ret
    exact ⟨by first | rfl | (simp; done) | (simp [*]; done), by repeat (first | exact Drawn0.refl _ | apply Drawn0.step)⟩
def IsS203 (w0 W : World) (g : Nat) (f0 : Int) (f1 : Int) (f2 : Int) : Prop := W.heap[g]? = some (.cells #[.int .u64 f0, .int .u64 f1, .int .i64 f2] 203 (0, 0)) ∧ w0.heap.size ≤ g
theorem IsS203.grown {w0 W : World} {g : Nat} {f0 : Int} {f1 : Int} {f2 : Int} {W1 : World} {row : Option Nat} (h : IsS203 w0 W g f0 f1 f2) (hw : W.grownBy W1 row) (hne : some g ≠ row) : IsS203 w0 W1 g f0 f1 f2 := by
  obtain ⟨hb, hg⟩ := h
  exact ⟨blk_grown hb hw hne, hg⟩
theorem IsS203.fresh {w0 W : World} {g : Nat} {f0 : Int} {f1 : Int} {f2 : Int} (h : IsS203 w0 W g f0 f1 f2) : ∀ k, W.heap.size ≤ k → k ≠ g := by
  obtain ⟨hb, hg⟩ := h
  exact Kd.freshB hb
theorem IsS203.kept {w0 W : World} {g : Nat} {f0 : Int} {f1 : Int} {f2 : Int} {W1 : World} {S : Nat → Prop} (h : IsS203 w0 W g f0 f1 f2) (hk : Kept W W1 S) (hne : ¬ S g) : IsS203 w0 W1 g f0 f1 f2 := by
  obtain ⟨hb, hg⟩ := h
  exact ⟨blk_kept hb hk hne, hg⟩
theorem IsS203.below {w0 W : World} {g : Nat} {f0 : Int} {f1 : Int} {f2 : Int} {W1 : World} (h : IsS203 w0 W g f0 f1 f2) (hw : Below W.heap.size W W1) : IsS203 w0 W1 g f0 f1 f2 := h.grown (grown_of_below hw none) (by simp)
theorem IsS203.alloc {w0 W : World} {g : Nat} {f0 : Int} {f1 : Int} {f2 : Int} (h : IsS203 w0 W g f0 f1 f2) (o : Obj) : IsS203 w0 (W.alloc o) g f0 f1 f2 := h.below (below_alloc (Below.refl _ _) o)
theorem IsS203.drewN {w0 W : World} {g : Nat} {f0 : Int} {f1 : Int} {f2 : Int} (h : IsS203 w0 W g f0 f1 f2) (m : Nat) : IsS203 w0 (W.drewN m) g f0 f1 f2 := h
theorem IsS203.drew {w0 W : World} {g : Nat} {f0 : Int} {f1 : Int} {f2 : Int} (h : IsS203 w0 W g f0 f1 f2) : IsS203 w0 W.drew g f0 f1 f2 := h
theorem IsS203.at_ {w0 W : World} {g : Nat} {f0 : Int} {f1 : Int} {f2 : Int} {w' : World} {m : Nat} (hq : W.drewN m = w') (h : IsS203 w0 W g f0 f1 f2) : IsS203 w0 w' g f0 f1 f2 := by subst hq; exact IsS203.drewN h m
theorem IsS203.apart {w0 W : World} {g : Nat} {f0 : Int} {f1 : Int} {f2 : Int} {α : Type} {d : Kd α} {e : Nat} {base : Nat} {ok : Nat → Prop} {v : Value} {xs : List α} (h : IsS203 w0 W g f0 f1 f2) (ho : d.R e W base ok v xs) (ht : ∀ q, q ∈ e :: d.E → q ≠ 203) : d.R e W base (fun k => ok k ∧ k ≠ g) v xs := by
  obtain ⟨hb, hg⟩ := h
  exact Kd.R_types ho hb ht
theorem IsS203.lt {w0 W : World} {g : Nat} {f0 : Int} {f1 : Int} {f2 : Int} (h : IsS203 w0 W g f0 f1 f2) : g < W.heap.size := by
  obtain ⟨hb, hg⟩ := h
  exact blk_lt hb
theorem IsS203.new (w0 W : World) (f0 : Int) (f1 : Int) (f2 : Int) (hB : Below w0.heap.size w0 W) : IsS203 w0 (W.alloc (.cells #[.int .u64 f0, .int .u64 f1, .int .i64 f2] 203)) W.heap.size f0 f1 f2 := ⟨by simpa using heap_alloc_new W _, hB.size⟩
def strconv_log2Pow10.f (a0 : Int) : Option (Int) := some ((wrap64 (a0 * 108853)) / 32768)
set_option maxHeartbeats 8000000 in
set_option maxRecDepth 100000 in
theorem strconv_log2Pow10.calls (a0 : Int) (r : Int) (w : World) (h : strconv_log2Pow10.f a0 = some r) :
    Calls Tryz.prog 159 #[.int .i64 a0] w fun e w' => e = .returned (.int .i64 r) ∧ Drawn0 w w' := by
  have H : (some ((wrap64 (a0 * 108853)) / 32768)) = some r := h
  clear h
  obtain rfl := Option.some.inj H
  go_enter Tryz.func159, Tryz.ntmps159
  go_wp2
  go_ret
  exact ⟨by first | rfl | (simp; done) | (simp [*]; done), by repeat (first | exact Drawn0.refl _ | apply Drawn0.step)⟩
def strconv_log10Pow2.f (a0 : Int) : Option (Int) := some ((wrap64 (a0 * 78913)) / 262144)
set_option maxHeartbeats 8000000 in
set_option maxRecDepth 100000 in
theorem strconv_log10Pow2.calls (a0 : Int) (r : Int) (w : World) (h : strconv_log10Pow2.f a0 = some r) :
    Calls Tryz.prog 126 #[.int .i64 a0] w fun e w' => e = .returned (.int .i64 r) ∧ Drawn0 w w' := by
  have H : (some ((wrap64 (a0 * 78913)) / 262144)) = some r := h
  clear h
  obtain rfl := Option.some.inj H
  go_enter Tryz.func126, Tryz.ntmps126
  go_wp2
  go_ret
  exact ⟨by first | rfl | (simp; done) | (simp [*]; done), by repeat (first | exact Drawn0.refl _ | apply Drawn0.step)⟩
def strconv_isPowerOfTwo.f (a0 : Int) : Option (Bool) := some ((Go.bits .and .i64 a0 (wrap64 (a0 - 1))) == 0)
set_option maxHeartbeats 8000000 in
set_option maxRecDepth 100000 in
theorem strconv_isPowerOfTwo.calls (a0 : Int) (r : Bool) (w : World) (h : strconv_isPowerOfTwo.f a0 = some r) :
    Calls Tryz.prog 134 #[.int .i64 a0] w fun e w' => e = .returned (.bool r) ∧ Drawn0 w w' := by
  have H : (some ((Go.bits .and .i64 a0 (wrap64 (a0 - 1))) == 0)) = some r := h
  clear h
  obtain rfl := Option.some.inj H
  go_enter Tryz.func134, Tryz.ntmps134
  go_wp2
  go_ret
  exact ⟨by first | rfl | (simp; done) | (simp [*]; done), by repeat (first | exact Drawn0.refl _ | apply Drawn0.step)⟩
def strconv_unmin.f (a0 : Int) : Option (Int) := some (IntKind.u64.wrap ((IntKind.u64.wrap (a0 * 4)) - 2))
set_option maxHeartbeats 8000000 in
set_option maxRecDepth 100000 in
theorem strconv_unmin.calls (a0 : Int) (r : Int) (w : World) (h : strconv_unmin.f a0 = some r) :
    Calls Tryz.prog 165 #[.int .u64 a0] w fun e w' => e = .returned (.int .u64 r) ∧ Drawn0 w w' := by
  have H : (some (IntKind.u64.wrap ((IntKind.u64.wrap (a0 * 4)) - 2))) = some r := h
  clear h
  obtain rfl := Option.some.inj H
  go_enter Tryz.func165, Tryz.ntmps165
  go_wp2
  go_ret
  exact ⟨by first | rfl | (simp; done) | (simp [*]; done), by repeat (first | exact Drawn0.refl _ | apply Drawn0.step)⟩
def strconv_unrounded_round.f (a0 : Int) : Option (Int) := some ((IntKind.u64.wrap ((IntKind.u64.wrap (a0 + 1)) + (Go.bits .and .u64 (a0 / 4) 1))) / 4)
set_option maxHeartbeats 8000000 in
set_option maxRecDepth 100000 in
theorem strconv_unrounded_round.calls (a0 : Int) (r : Int) (w : World) (h : strconv_unrounded_round.f a0 = some r) :
    Calls Tryz.prog 164 #[.int .u64 a0] w fun e w' => e = .returned (.int .u64 r) ∧ Drawn0 w w' := by
  have H : (some ((IntKind.u64.wrap ((IntKind.u64.wrap (a0 + 1)) + (Go.bits .and .u64 (a0 / 4) 1))) / 4)) = some r := h
  clear h
  obtain rfl := Option.some.inj H
  go_enter Tryz.func164, Tryz.ntmps164
  go_wp2
  go_ret
  exact ⟨by first | rfl | (simp; done) | (simp [*]; done), by repeat (first | exact Drawn0.refl _ | apply Drawn0.step)⟩
def strconv_unrounded.f (a0 : Bool) : Option (Int) := if a0 = true then (some 1) else (some 0)
set_option maxHeartbeats 8000000 in
set_option maxRecDepth 100000 in
theorem strconv_unrounded.calls (a0 : Bool) (r : Int) (w : World) (h : strconv_unrounded.f a0 = some r) :
    Calls Tryz.prog 187 #[.bool a0] w fun e w' => e = .returned (.int .u64 r) ∧ Drawn0 w w' := by
  have H : (if a0 = true then (some 1) else (some 0)) = some r := h
  clear h
  by_cases c2 : a0 = true
  · subst c2
    have H1 : (some 1) = some r := by rw [if_pos rfl] at H; exact H
    clear H
    have H := H1
    clear H1
    obtain rfl := Option.some.inj H
    go_enter Tryz.func187, Tryz.ntmps187
    go_wp2
    go_ret
    exact ⟨by first | rfl | (simp; done) | (simp [*]; done), by repeat (first | exact Drawn0.refl _ | apply Drawn0.step)⟩
  · replace c2 := Bool.eq_false_iff.mpr c2
    subst c2
    have H1 : (some 0) = some r := by rw [if_neg (show ¬ (false = true) by decide)] at H; exact H
    clear H
    have H := H1
    clear H1
    obtain rfl := Option.some.inj H
    go_enter Tryz.func187, Tryz.ntmps187
    go_wp2
    go_ret
    exact ⟨by first | rfl | (simp; done) | (simp [*]; done), by repeat (first | exact Drawn0.refl _ | apply Drawn0.step)⟩
def strconv_unrounded_div.f (a0 : Int) (a1 : Int) : Option (Int) := if a1 = 0 then (none) else ((strconv_unrounded.f ((Int.tmod a0 a1) != 0)).bind fun t472 => (some (Go.bits .or .u64 (Go.bits .or .u64 (IntKind.u64.wrap (Int.tdiv a0 a1)) (Go.bits .and .u64 a0 1)) t472)))
set_option maxHeartbeats 8000000 in
set_option maxRecDepth 100000 in
theorem strconv_unrounded_div.calls (a0 : Int) (a1 : Int) (r : Int) (w : World) (h : strconv_unrounded_div.f a0 a1 = some r) :
    Calls Tryz.prog 166 #[.int .u64 a0, .int .u64 a1] w fun e w' => e = .returned (.int .u64 r) ∧ Drawn0 w w' := by
  have H : (if a1 = 0 then (none) else ((strconv_unrounded.f ((Int.tmod a0 a1) != 0)).bind fun t472 => (some (Go.bits .or .u64 (Go.bits .or .u64 (IntKind.u64.wrap (Int.tdiv a0 a1)) (Go.bits .and .u64 a0 1)) t472)))) = some r := h
  clear h
  by_cases c3 : a1 = 0
  · rw [if_pos c3] at H
    exact absurd H (by simp)
  · rw [if_neg c3] at H
    have c3b0 : (a1 == 0) = false := beq_eq_false_iff_ne.mpr c3
    have c3b1 : (a1 != 0) = true := bne_iff_ne.mpr c3
    replace H := Option.bind_eq_some_iff.mp H
    obtain ⟨t472, A40, H⟩ := H
    replace H : (some (Go.bits .or .u64 (Go.bits .or .u64 (IntKind.u64.wrap (Int.tdiv a0 a1)) (Go.bits .and .u64 a0 1)) t472)) = some r := H
    have A4 := Aside0.mk A40
    clear A40
    obtain rfl := Option.some.inj H
    go_enter Tryz.func166, Tryz.ntmps166
    go_wp2_with (first | (go_at_call 187; (with_reducible refine (strconv_unrounded.calls ((Int.tmod a0 a1) != 0) t472 _ A4.out).mono ?_); rintro e w' ⟨rfl, ⟨nd, rfl⟩⟩; (try first | exact ⟨rfl, _, World.drewN_drewN _ _ _⟩ | exact ⟨rfl, _, Eq.trans (World.drewN_drewN _ _ _) (congrArg (World.drewN _) (Nat.add_assoc _ _ _))⟩)))
    repeat (go_quiet (first | (go_at_call 187; (with_reducible refine (strconv_unrounded.calls ((Int.tmod a0 a1) != 0) t472 _ A4.out).mono ?_); rintro e w' ⟨rfl, ⟨nd, rfl⟩⟩; (try first | exact ⟨rfl, _, World.drewN_drewN _ _ _⟩ | exact ⟨rfl, _, Eq.trans (World.drewN_drewN _ _ _) (congrArg (World.drewN _) (Nat.add_assoc _ _ _))⟩))); try go_wp2_with (first | (go_at_call 187; (with_reducible refine (strconv_unrounded.calls ((Int.tmod a0 a1) != 0) t472 _ A4.out).mono ?_); rintro e w' ⟨rfl, ⟨nd, rfl⟩⟩; (try first | exact ⟨rfl, _, World.drewN_drewN _ _ _⟩ | exact ⟨rfl, _, Eq.trans (World.drewN_drewN _ _ _) (congrArg (World.drewN _) (Nat.add_assoc _ _ _))⟩))))
    go_ret
    exact ⟨by first | rfl | (simp; done) | (simp [*]; done), by repeat (first | exact Drawn0.refl _ | apply Drawn0.step)⟩
end Go.Proofs.YtjpiplplohapnaaGreatDoor.PText
namespace Go.Proofs.YtjpiplplohapnaaGreatDoor
open Go.RowKit Go.Proofs.YtjpiplplohapnaaGreatDoorW.PrintWords
theorem bool2_u64f (w : World) : Calls Tryz.prog 150 #[.bool false] w fun e w' => e = .returned (.int .u64 0) ∧ Below w.heap.size w w' :=
  (PText.strconv_bool2_uint64.calls false 0 w (by decide +kernel)).mono fun _ _ ⟨h1, h2⟩ => ⟨h1, h2.below⟩
theorem f10_1 {w : World} (h : Laid w) : ∃ a : Addr, w.cell? ⟨10, 0, none⟩ = some (.slice (some a) 23 23) ∧ w.cell? ⟨a.block, a.off + 1, none⟩ = some (.float .f64 4621819117588971520) := by
  obtain ⟨a, h1, h2⟩ := h.f10Cell
  exact ⟨a, h1, (h2 1 (by decide)).trans (by kernel_rfl)⟩
set_option maxRecDepth 100000 in
set_option maxHeartbeats 1000000 in
theorem atof64exact_01 (w : World) (hL : Laid w) : Calls Tryz.prog 152 #[.int .u64 1, .int .i64 (-1), .bool false] w fun e w' => e = .returned (.tuple #[.float .f64 4591870180066957722, .bool true]) ∧ Below w.heap.size w w' := by
  obtain ⟨b, c1, c2⟩ := f10_1 hL
  obtain ⟨i0, i1, i2⟩ := hL.infCell
  have hq : ∀ W : World, (binOp .quo 22 (.float .f64 (floatOfInt .f64 1)) (.float .f64 4621819117588971520)).run Tryz.prog W = .ok (.float .f64 4591870180066957722) W := fun W => run_float_arith W .quo 22 .f64 _ _ _ (by kernel_rfl)
  go_enter Tryz.func152, Tryz.ntmps152
  go_wp2_with fail
  go_ret2
  exact ⟨rfl, Below.refl _ _⟩
set_option maxRecDepth 100000 in
set_option maxHeartbeats 1000000 in
theorem atof64_01 (w : World) (hL : Laid w) : Calls Tryz.prog 112 #[.string s01] w fun e w' => e = .returned (.tuple #[.float .f64 4591870180066957722, .int .i64 3, .nilIface]) ∧ Below w.heap.size w w' := by
  go_enter Tryz.func112, Tryz.ntmps112
  go_wp2_with fail
  refine (special_01 _).mono ?_
  rintro e w1 ⟨rfl, hb1⟩
  go_wp2_with fail
  refine (readFloat_01 _).mono ?_
  rintro e w2 ⟨rfl, hb2⟩
  have hL2 := (hL.below hb1).below hb2
  have ho := hL2.optCell
  have hb := hb1.trans (hb2.mono hb1.size)
  go_wp2_with fail
  refine (bool2_u64f _).mono ?_
  rintro e w3 ⟨rfl, hb3⟩
  have hL3 := hL2.below hb3
  have hbb := hb.trans (hb3.mono hb.size)
  go_wp2_with fail
  refine (atof64exact_01 _ hL3).mono ?_
  rintro e w4 ⟨rfl, hb4⟩
  go_wp2_with fail
  go_ret3
  exact ⟨rfl, hbb.trans (hb4.mono hbb.size)⟩
set_option maxHeartbeats 1000000 in
theorem prefix_01 (w : World) (hL : Laid w) : Calls Tryz.prog 87 #[.string s01, .int .i64 64] w fun e w' => e = .returned (.tuple #[.float .f64 4591870180066957722, .int .i64 3, .nilIface]) ∧ Below w.heap.size w w' := by
  go_enter Tryz.func87, Tryz.ntmps87
  go_wp2_with fail
  refine (atof64_01 _ hL).mono ?_
  rintro e w1 ⟨rfl, hb1⟩
  go_wp2_with fail
  go_ret3
  exact ⟨rfl, hb1⟩
set_option maxHeartbeats 1000000 in
theorem iparse_01 (w : World) (hL : Laid w) : Calls Tryz.prog 60 #[.string s01, .int .i64 64] w fun e w' => e = .returned (.tuple #[.float .f64 4591870180066957722, .nilIface]) ∧ Below w.heap.size w w' := by
  go_enter Tryz.func60, Tryz.ntmps60
  go_wp2_with fail
  refine (prefix_01 _ hL).mono ?_
  rintro e w1 ⟨rfl, hb1⟩
  go_wp2_with fail
  go_ret2
  exact ⟨rfl, hb1⟩
set_option maxHeartbeats 1000000 in
theorem sparse_01 (w : World) (hL : Laid w) : Calls Tryz.prog 24 #[.string s01, .int .i64 64] w fun e w' => e = .returned (.tuple #[.float .f64 4591870180066957722, .nilIface]) ∧ Below w.heap.size w w' := by
  go_enter Tryz.func24, Tryz.ntmps24
  go_wp2_with fail
  refine (iparse_01 _ hL).mono ?_
  rintro e w1 ⟨rfl, hb1⟩
  go_wp2_with fail
  go_ret2
  exact ⟨rfl, hb1⟩
set_option maxHeartbeats 1000000 in
theorem parse_01 (w : World) (hL : Laid w) : Calls Tryz.prog 10 #[.string s01] w fun e w' => e = .returned (.tuple #[.float .f64 4591870180066957722, .int .i64 0]) ∧ Below w.heap.size w w' := by
  go_enter Tryz.func10, Tryz.ntmps10
  go_wp2_with fail
  refine (formed_01 _).mono ?_
  rintro e w1 ⟨rfl, hb1⟩
  have hL1 := hL.below hb1
  go_wp2_with fail
  refine (sparse_01 _ hL1).mono ?_
  rintro e w2 ⟨rfl, hb2⟩
  go_wp2_with fail
  go_ret2
  exact ⟨rfl, hb1.trans (hb2.mono hb1.size)⟩
end Go.Proofs.YtjpiplplohapnaaGreatDoor
namespace Go.Proofs.YtjpiplplohapnaaGreatDoor
open Go.RowKit Go.Proofs.YtjpiplplohapnaaGreatDoorW.PrintWords
theorem bits43 (b : Nat) (W : World) : (callFunc 43 #[.float .f64 b]).run Tryz.prog W = .ok (.value (.int .u64 b)) W := by kernel_rfl
theorem bits119 (b : Nat) (W : World) : (callFunc 119 #[.float .f64 b]).run Tryz.prog W = .ok (.value (.int .u64 b)) W := by kernel_rfl
theorem from151 (b : Nat) (W : World) : (callFunc 151 #[.int .u64 b]).run Tryz.prog W = .ok (.value (.float .f64 b)) W := by kernel_rfl
theorem apiBits (b : Nat) (w : World) : Calls Tryz.prog 16 #[.float .f64 b] w fun e w' => e = .returned (.int .u64 b) ∧ w' = w := by
  have h := bits43 b
  go_enter Tryz.func16, Tryz.ntmps16
  go_wp2_with fail
  go_ret
  exact ⟨rfl, rfl⟩
theorem size_calls (b : Nat) (r : Int) (hr : Go.bits .andNot .u64 (b : Int) 9223372036854775808 = r) (w : World) : Calls Tryz.prog 73 #[.float .f64 b] w fun e w' => e = .returned (.int .u64 r) ∧ w' = w := by
  go_enter Tryz.func73, Tryz.ntmps73
  go_wp2_with fail
  refine (apiBits b _).mono ?_
  rintro e w' ⟨rfl, rfl⟩
  go_wp2_with fail
  go_ret
  exact ⟨rfl, rfl⟩
set_option maxRecDepth 100000 in
theorem class_375 (w : World) : Calls Tryz.prog 66 #[.float .f64 4600427019358961664] w fun e w' => e = .returned (.int .i64 3) ∧ w' = w := by
  go_enter Tryz.func66, Tryz.ntmps66
  go_wp2_with fail
  refine (size_calls 4600427019358961664 4600427019358961664 (by decide +kernel) _).mono ?_
  rintro e w' ⟨rfl, rfl⟩
  go_wp2_with fail
  go_ret
  exact ⟨rfl, rfl⟩
theorem class_15 (w : World) : Calls Tryz.prog 66 #[.float .f64 4609434218613702656] w fun e w' => e = .returned (.int .i64 3) ∧ w' = w := by
  go_enter Tryz.func66, Tryz.ntmps66
  go_wp2_with fail
  refine (size_calls 4609434218613702656 4609434218613702656 (by decide +kernel) _).mono ?_
  rintro e w' ⟨rfl, rfl⟩
  go_wp2_with fail
  go_ret
  exact ⟨rfl, rfl⟩
theorem number_375 (w : World) : Calls Tryz.prog 30 #[.float .f64 4600427019358961664] w fun e w' => e = .returned (.bool true) ∧ w' = w := by
  go_enter Tryz.func30, Tryz.ntmps30
  go_wp2_with fail
  refine (class_375 _).mono ?_
  rintro e w' ⟨rfl, rfl⟩
  go_wp2_with fail
  go_ret
  exact ⟨rfl, rfl⟩
theorem log10_calls (x r : Int) (h : PText.strconv_log10Pow2.f x = some r) (w : World) : Calls Tryz.prog 126 #[.int .i64 x] w fun e w' => e = .returned (.int .i64 r) ∧ Below w.heap.size w w' :=
  (PText.strconv_log10Pow2.calls x r w h).mono fun _ _ ⟨h1, h2⟩ => ⟨h1, h2.below⟩
theorem log2_calls (x r : Int) (h : PText.strconv_log2Pow10.f x = some r) (w : World) : Calls Tryz.prog 159 #[.int .i64 x] w fun e w' => e = .returned (.int .i64 r) ∧ Below w.heap.size w w' :=
  (PText.strconv_log2Pow10.calls x r w h).mono fun _ _ ⟨h1, h2⟩ => ⟨h1, h2.below⟩
theorem p10_351 {w : World} (h : Laid w) : w.cell? ⟨11, 702, none⟩ = some (.int .u64 18014398509481984000) ∧ w.cell? ⟨11, 703, none⟩ = some (.int .u64 0) := by
  constructor
  · rw [h.p10Cell]; kernel_rfl
  · rw [h.p10Cell]; kernel_rfl
end Go.Proofs.YtjpiplplohapnaaGreatDoor
namespace Go.Proofs.YtjpiplplohapnaaGreatDoor
open Go.RowKit Go.Proofs.YtjpiplplohapnaaGreatDoorW.PrintWords
theorem wrap_i64_in {n : Int} (h1 : -9223372036854775808 ≤ n) (h2 : n ≤ 9223372036854775807) : IntKind.i64.wrap n = n := by
  rw [Go.IntKind.wrap_i64]; omega
theorem wrap_u64_in {n : Int} (h1 : 0 ≤ n) (h2 : n < 18446744073709551616) : IntKind.u64.wrap n = n := by
  rw [Go.IntKind.wrap_u64]; omega
def sz (b : Nat) : Nat := b % 9223372036854775808
theorem sz_bits (b : Nat) (hb : b < 18446744073709551616) : Go.bits .andNot .u64 (b : Int) 9223372036854775808 = (sz b : Nat) := by
  have := Go.u64_andNot_nat b 9223372036854775808 hb (by omega)
  rw [show ((9223372036854775808 : Nat) : Int) = 9223372036854775808 from rfl] at this
  rw [this]
  have := Nat.and_two_pow_sub_one_eq_mod b 63
  unfold sz
  exact congrArg _ this
def cls (r : Int) : Int := if r = 0 then 1 else if r < 4503599627370496 then 2 else if r < 9218868437227405312 then 3 else if r = 9218868437227405312 then 4 else 5
set_option maxRecDepth 100000 in
theorem class_calls (b : Nat) (r : Int) (hr : Go.bits .andNot .u64 (b : Int) 9223372036854775808 = r) (w : World) : Calls Tryz.prog 66 #[.float .f64 b] w fun e w' => e = .returned (.int .i64 (cls r)) ∧ w' = w := by
  go_enter Tryz.func66, Tryz.ntmps66
  go_wp2_with fail
  refine (size_calls b r hr _).mono ?_
  rintro e w' ⟨rfl, rfl⟩
  clear hr
  go_wp2_with fail
  all_goals (go_ret; refine ⟨congrArg (fun c => Ending.returned (.int .i64 c)) ?_, rfl⟩; simp only [beq_iff_eq, beq_eq_false_iff_ne, ne_eq] at *; unfold cls; repeat' split)
  all_goals omega
set_option maxRecDepth 100000 in
theorem negative_calls (b : Nat) (hb : b < 18446744073709551616) (hn : sz b ≤ 9218868437227405312) (w : World) : Calls Tryz.prog 48 #[.float .f64 b] w fun e w' => e = .returned (.bool (decide (9223372036854775808 ≤ b))) ∧ w' = w := by
  have hr := sz_bits b hb
  have hc : ¬ cls (sz b : Nat) = 5 := by
    unfold cls
    repeat' split
    all_goals omega
  have hcc : (cls (sz b : Nat) != 5) = true := by simp [hc]
  go_enter Tryz.func48, Tryz.ntmps48
  go_wp2_with fail
  refine (class_calls b _ hr _).mono ?_
  rintro e w' ⟨rfl, rfl⟩
  clear hr hc
  generalize cls (sz b : Nat) = c at *
  go_wp2_with fail
  refine (apiBits b _).mono ?_
  rintro e w' ⟨rfl, rfl⟩
  go_wp2_with fail
  go_ret
  refine ⟨congrArg (fun c => Ending.returned (.bool c)) ?_, rfl⟩
  show ((b : Int) / 9223372036854775808 == 1) = _
  by_cases h : 9223372036854775808 ≤ b
  · have : (b : Int) / 9223372036854775808 = 1 := by omega
    rw [this]; simp [h]
  · have : (b : Int) / 9223372036854775808 = 0 := by omega
    rw [this]; simp; omega
def spM (u : Nat) : Nat := if u < 4503599627370496 then u else u % 4503599627370496 + 4503599627370496
def spE (u : Nat) : Int := if u = 0 then 0 else if u < 4503599627370496 then -1074 else (u / 4503599627370496 : Nat) - 1075
def neg (b : Nat) : Bool := decide (9223372036854775808 ≤ b)
set_option maxRecDepth 100000 in
theorem split_zero (b : Nat) (hb : b < 18446744073709551616) (h0 : sz b = 0) (w : World) : Calls Tryz.prog 47 #[.float .f64 b] w fun e w' => e = .returned (.tuple #[.int .i64 0, .int .i64 0, .bool true]) ∧ w' = w := by
  have hr := sz_bits b hb
  rw [h0] at hr
  go_enter Tryz.func47, Tryz.ntmps47
  go_wp2_with fail
  refine (size_calls b _ hr _).mono ?_
  rintro e w' ⟨rfl, rfl⟩
  go_wp2_with fail
  refine (class_calls b _ hr _).mono ?_
  rintro e w' ⟨rfl, rfl⟩
  rw [show cls (0 : Nat) = 1 from rfl]
  go_wp2_with fail
  go_ret3
  exact ⟨rfl, rfl⟩
set_option maxRecDepth 100000 in
theorem split_sub (b : Nat) (hb : b < 18446744073709551616) (h0 : 0 < sz b) (h1 : sz b < 4503599627370496) (w : World) : Calls Tryz.prog 47 #[.float .f64 b] w fun e w' => e = .returned (.tuple #[.int .i64 (if neg b then -(sz b : Int) else sz b), .int .i64 (-1074), .bool true]) ∧ w' = w := by
  have hr := sz_bits b hb
  have hn := negative_calls b hb (by omega)
  have hc : cls (sz b : Nat) = 2 := by
    unfold cls
    rw [if_neg (by omega), if_pos (by omega)]
  have hcl := class_calls b _ hr
  have hsz := size_calls b _ hr
  rw [hc] at hcl
  have hw1 : IntKind.i64.wrap (sz b : Int) = sz b := wrap_i64_in (by omega) (by omega)
  have hw2 : IntKind.i64.wrap (-(sz b : Int)) = -(sz b : Int) := wrap_i64_in (by omega) (by omega)
  generalize (sz b : Int) = u at *
  unfold neg
  generalize decide (9223372036854775808 ≤ b) = ng at *
  clear hr hc
  go_enter Tryz.func47, Tryz.ntmps47
  go_wp2_with fail
  refine (hsz _).mono ?_
  rintro e w' ⟨rfl, rfl⟩
  go_wp2_with fail
  refine (hcl _).mono ?_
  rintro e w' ⟨rfl, rfl⟩
  go_wp2_with fail
  refine (hn _).mono ?_
  rintro e w' ⟨rfl, rfl⟩
  go_wp2_with fail
  all_goals (go_ret3; exact ⟨by first | rfl | simp [*], rfl⟩)
theorem norm_facts (u : Nat) (hu : u < 9218868437227405312) : Go.bits .and .u64 (u : Int) 4503599627370495 = ((u % 4503599627370496 : Nat) : Int) ∧
    Go.bits .or .u64 ((u % 4503599627370496 : Nat) : Int) 4503599627370496 = ((u % 4503599627370496 + 4503599627370496 : Nat) : Int) := by
  constructor
  · have := Go.u64_and_nat u 4503599627370495 (by omega) (by omega)
    rw [show ((4503599627370495 : Nat) : Int) = 4503599627370495 from rfl] at this
    rw [this]
    exact congrArg _ (Nat.and_two_pow_sub_one_eq_mod u 52)
  · have := Go.u64_or_nat (u % 4503599627370496) 4503599627370496 (by omega) (by omega)
    rw [show ((4503599627370496 : Nat) : Int) = 4503599627370496 from rfl] at this
    rw [this]
    refine congrArg _ ?_
    rw [Nat.or_comm, Go.nat_join 52 4503599627370496 (u % 4503599627370496) (by decide) (by omega)]
    omega
set_option maxRecDepth 100000 in
theorem split_norm (b : Nat) (hb : b < 18446744073709551616) (h0 : 4503599627370496 ≤ sz b) (h1 : sz b < 9218868437227405312) (w : World) : Calls Tryz.prog 47 #[.float .f64 b] w fun e w' => e = .returned (.tuple #[.int .i64 (if neg b then -(spM (sz b) : Int) else spM (sz b)), .int .i64 (spE (sz b)), .bool true]) ∧ w' = w := by
  have hr := sz_bits b hb
  have hn := negative_calls b hb (by omega)
  have hc : cls (sz b : Nat) = 3 := by
    unfold cls
    rw [if_neg (by omega), if_neg (by omega), if_pos (by omega)]
  have hcl := class_calls b _ hr
  have hsz := size_calls b _ hr
  rw [hc] at hcl
  obtain ⟨a1, a2⟩ := norm_facts (sz b) h1
  have hm : spM (sz b) = sz b % 4503599627370496 + 4503599627370496 := by unfold spM; rw [if_neg (by omega)]
  have he : spE (sz b) = ((sz b : Nat) : Int) / 4503599627370496 - 1075 := by unfold spE; rw [if_neg (by omega), if_neg (by omega)]; omega
  have hw1 : IntKind.i64.wrap (spM (sz b) : Int) = spM (sz b) := wrap_i64_in (by omega) (by omega)
  have hw2 : IntKind.i64.wrap (-(spM (sz b) : Int)) = -(spM (sz b) : Int) := wrap_i64_in (by omega) (by omega)
  have hw3 : IntKind.i64.wrap (((sz b : Nat) : Int) / 4503599627370496) = ((sz b : Nat) : Int) / 4503599627370496 := wrap_i64_in (by omega) (by omega)
  have hw4 : IntKind.i64.wrap (((sz b : Nat) : Int) / 4503599627370496 - 1075) = spE (sz b) := by rw [he]; exact wrap_i64_in (by omega) (by omega)
  rw [← hm] at a2
  clear he hm
  generalize (spM (sz b) : Int) = m at *
  generalize ((sz b % 4503599627370496 : Nat) : Int) = mm at *
  generalize spE (sz b) = ex at *
  generalize ((sz b : Nat) : Int) = u at *
  unfold neg
  generalize decide (9223372036854775808 ≤ b) = ng at *
  clear hr hc
  go_enter Tryz.func47, Tryz.ntmps47
  go_wp2_with fail
  refine (hsz _).mono ?_
  rintro e w' ⟨rfl, rfl⟩
  go_wp2_with fail
  refine (hcl _).mono ?_
  rintro e w' ⟨rfl, rfl⟩
  go_wp2_with fail
  refine (hn _).mono ?_
  rintro e w' ⟨rfl, rfl⟩
  go_wp2_with fail
  all_goals (go_ret3; exact ⟨by first | rfl | simp [*], rfl⟩)
set_option maxRecDepth 100000 in
theorem split_not (b : Nat) (hb : b < 18446744073709551616) (h1 : ¬ sz b < 9218868437227405312) (w : World) : Calls Tryz.prog 47 #[.float .f64 b] w fun e w' => e = .returned (.tuple #[.int .i64 0, .int .i64 0, .bool false]) ∧ w' = w := by
  have hr := sz_bits b hb
  have hc : cls (sz b : Nat) = 4 ∨ cls (sz b : Nat) = 5 := by
    unfold cls
    rw [if_neg (by omega), if_neg (by omega), if_neg (by omega)]
    split
    · exact Or.inl rfl
    · exact Or.inr rfl
  have hcl := class_calls b _ hr
  have hsz := size_calls b _ hr
  generalize cls (sz b : Nat) = c at *
  generalize ((sz b : Nat) : Int) = u at *
  clear hr
  rcases hc with rfl | rfl
  all_goals
    go_enter Tryz.func47, Tryz.ntmps47
    go_wp2_with fail
    refine (hsz _).mono ?_
    rintro e w' ⟨rfl, rfl⟩
    go_wp2_with fail
    refine (hcl _).mono ?_
    rintro e w' ⟨rfl, rfl⟩
    go_wp2_with fail
    go_ret3
    exact ⟨rfl, rfl⟩
end Go.Proofs.YtjpiplplohapnaaGreatDoor
namespace Go.Proofs.YtjpiplplohapnaaGreatDoor
open Go.RowKit Go.Proofs.YtjpiplplohapnaaGreatDoorW.PrintWords
namespace Ah
def sh1 (m : Nat) : Nat := if m % 2 = 1 then m / 2 / 2 * 2 + 1 else m / 2
def ah1 : Nat → Nat → Int → Nat × Int
  | 0, m, e => (m, e)
  | f + 1, m, e => if m ≠ 0 ∧ m < 18014398509481984 then ah1 f (2 * m) (e - 1) else (m, e)
def ah2 : Nat → Nat → Int → Nat × Int
  | 0, m, e => (m, e)
  | f + 1, m, e => if 36028797018963968 ≤ m then ah2 f (sh1 m) (e + 1) else (m, e)
def ah3 : Nat → Nat → Int → Nat × Int
  | 0, m, e => (m, e)
  | f + 1, m, e => if 1 < m ∧ e < -1024 then ah3 f (sh1 m) (e + 1) else (m, e)
def up3 (m : Nat) : Prop := m % 4 = 3 ∨ (m % 4 = 2 ∧ m / 4 % 2 = 1)
instance (m : Nat) : Decidable (up3 m) := inferInstanceAs (Decidable (_ ∨ _))
def ahR (m : Nat) (e : Int) : Nat × Int := if up3 m then (if m / 4 + 1 = 9007199254740992 then (4503599627370496, e + 3) else (m / 4 + 1, e + 2)) else (m / 4, e + 2)
def ahB (ng : Bool) (m : Nat) (e : Int) : Nat × Bool :=
  let e' := if m < 4503599627370496 then -1023 else e
  if 1023 < e' then ((if ng then 9223372036854775808 else 0) + 9218868437227405312, true)
  else ((if ng then 9223372036854775808 else 0) + (((e' + 1023) % 2048).toNat * 4503599627370496 + m % 4503599627370496), false)
def ah (m : Nat) (e : Int) (ng tr : Bool) : Nat × Bool :=
  let a := ah1 64 m (e + 52)
  let b := ah2 64 (if tr then (if a.1 % 2 = 1 then a.1 else a.1 + 1) else a.1) a.2
  let c := ah3 64 b.1 b.2
  let d := ahR c.1 c.2
  ahB ng d.1 d.2
end Ah
open Ah
theorem and1_bits (x : Nat) (hx : x < 18446744073709551616) : Go.bits .and .u64 (x : Int) 1 = ((x % 2 : Nat) : Int) := by
  have := Go.u64_and_nat x 1 hx (by omega)
  rw [show ((1 : Nat) : Int) = 1 from rfl] at this
  rw [this]
  exact congrArg _ (Nat.and_two_pow_sub_one_eq_mod x 1)
theorem or1_nat (h y : Nat) (hy : y < 2) : h ||| y = if y = 1 then h / 2 * 2 + 1 else h := by
  by_cases h1 : y = 1
  · subst h1
    rw [if_pos rfl]
    have e : h = h / 2 * 2 + h % 2 := by omega
    have e2 : h / 2 * 2 ||| h % 2 = h / 2 * 2 + h % 2 := Go.nat_join1 _ _ (by omega) (by omega)
    rcases Nat.mod_two_eq_zero_or_one h with h0 | h0
    · rw [h0] at e
      conv => lhs; rw [e]
      exact Go.nat_join1 _ _ (by omega) (by omega)
    · rw [h0] at e e2
      conv => lhs; rw [e, ← e2, Nat.or_assoc]
      rw [show (1 ||| 1 : Nat) = 1 from rfl]
      exact Go.nat_join1 _ _ (by omega) (by omega)
  · rw [if_neg h1, show y = 0 by omega, Nat.or_zero]
theorem sh1_bits (x y : Nat) (hx : x < 18446744073709551616) (hy : y = x % 2) : Go.bits .or .u64 ((x : Int) / 2) (y : Int) = ((sh1 x : Nat) : Int) := by
  have h1 : (x : Int) / 2 = ((x / 2 : Nat) : Int) := by omega
  rw [h1, Go.u64_or_nat (x / 2) y (by omega) (by omega), or1_nat _ _ (by omega), hy]
  rfl
theorem sh1_le (x : Nat) : sh1 x ≤ x / 2 + 1 ∧ x / 2 ≤ sh1 x := by unfold sh1; split <;> omega
theorem sh1_half (x f : Nat) (h : x < 2 ^ (f + 1)) (hf : 1 ≤ f) : sh1 x < 2 ^ f := by
  obtain ⟨g, rfl⟩ : ∃ g, f = g + 1 := ⟨f - 1, by omega⟩
  rw [Nat.pow_succ] at h
  have e : 2 ^ (g + 1) = 2 ^ g * 2 := Nat.pow_succ ..
  unfold sh1
  split <;> omega
structure LaidB (w : World) : Prop where
  laid : Laid w
  b5 : ∃ cs t, w.heap[5]? = some (.cells cs t (0, 0))
  b6 : ∃ cs t, w.heap[6]? = some (.cells cs t (0, 0))
theorem LaidB.below {w w' : World} (h : LaidB w) (hb : Below w.heap.size w w') : LaidB w' := by
  have hs := h.laid.size
  obtain ⟨c5, t5, h5⟩ := h.b5
  obtain ⟨c6, t6, h6⟩ := h.b6
  exact ⟨h.laid.below hb, ⟨c5, t5, (hb.block 5 (by omega)).trans h5⟩, ⟨c6, t6, (hb.block 6 (by omega)).trans h6⟩⟩
theorem info182 : ∃ j, Tryz.prog.info? 182 = some j ∧ j.size ≠ 0 := by
  have h : (Tryz.prog.info? 182).map (fun j => decide (j.size ≠ 0)) = some true := by kernel_rfl
  cases hj : Tryz.prog.info? 182 with
  | none => rw [hj] at h; cases h
  | some j => rw [hj] at h; simp at h; exact ⟨j, rfl, h⟩
theorem info_ne {w : World} (h : LaidB w) : (binOp .eql 180 (.pointer (some ⟨6, 0, none⟩)) (.pointer (some ⟨5, 0, none⟩))).run Tryz.prog w = .ok (.bool false) w := by
  obtain ⟨c5, t5, h5⟩ := h.b5
  obtain ⟨c6, t6, h6⟩ := h.b6
  obtain ⟨j, hj, hs⟩ := info182
  exact run_eql_ptr_other w (te := 182) (by kernel_rfl) hj hs (by simp) h6 h5
def AhPost (w : World) (q : Nat × Bool) (r : Ending) (w' : World) : Prop := r = .returned (.tuple #[.float .f64 q.1, if q.2 then .iface 113 (.int .i64 1) else .nilIface]) ∧ Below w.heap.size w w'
set_option maxRecDepth 100000 in
set_option maxHeartbeats 4000000 in
theorem atofHex_calls (s : ByteArray) (m : Nat) (hm : m < 18446744073709551616) (e : Int) (he1 : -300000 ≤ e) (he2 : e ≤ 300000) (ng tr : Bool) (w : World) (hLB : LaidB w) :
    Calls Tryz.prog 143 #[.string s, .pointer (some ⟨6, 0, none⟩), .int .u64 m, .int .i64 e, .bool ng, .bool tr] w (AhPost w (ah m e ng tr)) := by
  have hL := hLB.laid
  obtain ⟨i0, i1, i2⟩ := hL.infCell
  have hw1 : IntKind.i64.wrap (e + 52) = e + 52 := by rw [Go.IntKind.wrap_i64]; omega
  go_enter Tryz.func143, Tryz.ntmps143
  go_wp2_with fail
  go_quiet (fail)
  have hb1 : Below w.heap.size w (w.drewN nq) := below_drewN (Below.refl _ _) _
  have hL1 := hL.below hb1
  have HLB := Lib.hid (hLB.below hb1)
  have hz1 : w.heap.size ≤ (w.drewN nq).heap.size := hb1.size
  clear i0 i1 i2 hL hLB
  generalize hW : w.drewN nq = w1 at *
  clear hW
  obtain ⟨i0, i1, i2⟩ := hL1.infCell
  go_upto_block 0 with (fail)
  go_cut [2, 3] (fun v2 v3 w' => v2 = .int .u64 ((ah1 64 m (e + 52)).1 : Int) ∧ v3 = .int .i64 (ah1 64 m (e + 52)).2 ∧ (ah1 64 m (e + 52)).1 < 18446744073709551616 ∧ -400000 ≤ (ah1 64 m (e + 52)).2 ∧ (ah1 64 m (e + 52)).2 ≤ 400000 ∧ w1 = w')
  case first =>
    go_wp2_with fail
    go_loopg [2, 3] 64 (fun f v2 v3 w' => ∃ (x : Nat) (y : Int), v2 = .int .u64 x ∧ v3 = .int .i64 y ∧ Hid (ah1 f x y = ah1 64 m (e + 52)) ∧ (x = 0 ∨ 18014398509481984 ≤ x * 2 ^ f) ∧ x < 18446744073709551616 ∧ e - 12 + f ≤ y ∧ y ≤ e + 52 ∧ f ≤ 64 ∧ w1 = w')
    case atStart => exact ⟨m, e + 52, rfl, rfl, Lib.hid rfl, by omega, hm, by omega, by omega, by omega, rfl⟩
    case round =>
      obtain ⟨x, y, rfl, rfl, HX, hx0, hx64, hy1, hy2, hf, rfl⟩ := hrel
      by_cases hx : x ≠ 0 ∧ x < 18014398509481984
      · obtain ⟨g, rfl⟩ : ∃ g, gk = g + 1 := by
          cases gk with
          | zero => simp at hx0; omega
          | succ g => exact ⟨g, rfl⟩
        have HX' := HX.out
        rw [ah1, if_pos hx] at HX'
        have HY := Lib.hid HX'
        have g1 : ((x : Int) != 0) = true := by simp; omega
        have g2 : ((x : Int) / 18014398509481984 == 0) = true := by simp; omega
        have g3 : IntKind.u64.wrap ((x : Int) * 2) = (x : Int) * 2 := by rw [Go.IntKind.wrap_u64]; omega
        have g4 : IntKind.i64.wrap (y - 1) = y - 1 := by rw [Go.IntKind.wrap_i64]; omega
        have hp : 18014398509481984 ≤ 2 * x * 2 ^ g := by
          rcases hx0 with h | h
          · omega
          · rw [Nat.pow_succ] at h; rw [Nat.mul_comm 2 x, Nat.mul_assoc, Nat.mul_comm 2]; exact h
        have HP := Lib.hid hp
        clear HX HX' hx0 hp
        go_wp2_with fail
        go_roundg g
        case measure => omega
        case rel => exact ⟨2 * x, y - 1, congrArg (Value.int .u64) (by omega), rfl, HY, Or.inr HP.out, by omega, by omega, by omega, by omega, rfl⟩
      · have HX' := HX.out
        have hst : ah1 gk x y = (x, y) := by
          cases gk with
          | zero => rfl
          | succ g => rw [ah1, if_neg hx]
        rw [hst] at HX'
        have HY := Lib.hid HX'
        clear HX HX' hst hx0
        by_cases hz : x = 0
        · have g1 : ((x : Int) != 0) = false := by simp [hz]
          clear hx
          go_wp2_with fail
          go_meet
          case rel => rw [← HY.out]; exact ⟨rfl, rfl, hx64, by dsimp only; omega, by dsimp only; omega, rfl⟩
        · have g1 : ((x : Int) != 0) = true := by simp; omega
          have g2 : ((x : Int) / 18014398509481984 == 0) = false := by simp; omega
          clear hx hz
          go_wp2_with fail
          go_meet
          case rel => rw [← HY.out]; exact ⟨rfl, rfl, hx64, by dsimp only; omega, by dsimp only; omega, rfl⟩
  case rest =>
    obtain ⟨rfl, rfl, hm1, he3, he4, rfl⟩ := hcut
    obtain ⟨a, hA⟩ : ∃ a, a = ah1 64 m (e + 52) := ⟨_, rfl⟩
    rw [← hA] at hm1 he3 he4 ⊢
    have HA := Lib.hid hA
    clear hA hw1 he1 he2
    obtain ⟨m1, e1⟩ := a
    dsimp only at hm1 he3 he4 ⊢
    obtain ⟨m2, hm2⟩ : ∃ m2 : Nat, m2 = (if tr then (if m1 % 2 = 1 then m1 else m1 + 1) else m1) := ⟨_, rfl⟩
    have hm2b : m2 < 18446744073709551616 := by rw [hm2]; cases tr <;> simp <;> (try split) <;> omega
    have HM2 := Lib.hid hm2
    go_upto_region 7 with (fail)
    go_step
    go_upto_if 58 with (fail)
    go_cut [2] (fun v2 w' => v2 = .int .u64 (m2 : Int) ∧ w1 = w')
    case first =>
      cases tr
      · have hm2' : m2 = m1 := by rw [hm2]; rfl
        clear hm2
        have H := Lib.hid hm2'
        clear hm2'
        go_wp2_with fail
        go_meet
        case rel => exact ⟨congrArg (fun x : Nat => Value.int .u64 (x : Int)) H.out.symm, rfl⟩
      · have hor : Go.bits .or .u64 (m1 : Int) 1 = (m2 : Int) := by
          have := Go.u64_or_nat m1 1 hm1 (by omega)
          rw [show ((1 : Nat) : Int) = 1 from rfl] at this
          rw [this, or1_nat _ _ (by omega), if_pos rfl, hm2, if_pos rfl]
          congr 1
          split <;> omega
        clear hm2
        go_wp2_with fail
        go_meet
        case rel => exact ⟨rfl, rfl⟩
    case rest =>
      obtain ⟨rfl, rfl⟩ := hcut
      clear hm2 hm1
      obtain ⟨b, hB⟩ : ∃ b, b = ah2 64 m2 e1 := ⟨_, rfl⟩
      have HB := Lib.hid hB
      clear hB
      obtain ⟨m3, e3⟩ := b
      go_upto_block 2 with (fail)
      go_cut [2, 3] (fun v2 v3 w' => v2 = .int .u64 (m3 : Int) ∧ v3 = .int .i64 e3 ∧ m3 < 36028797018963968 ∧ -400000 ≤ e3 ∧ e3 ≤ 500000 ∧ w1 = w')
      case first =>
        go_wp2_with fail
        go_loopg [2, 3] 64 (fun f v2 v3 w' => ∃ (x : Nat) (y : Int), v2 = .int .u64 x ∧ v3 = .int .i64 y ∧ Hid (ah2 f x y = (m3, e3)) ∧ Hid (x < 2 ^ (f + 55)) ∧ x < 18446744073709551616 ∧ e1 ≤ y ∧ y + f ≤ e1 + 64 ∧ w1 = w')
        case atStart => exact ⟨m2, e1, rfl, rfl, Lib.hid HB.out.symm, Lib.hid (Nat.lt_of_lt_of_le hm2b (by decide)), hm2b, by omega, by omega, rfl⟩
        case round =>
          obtain ⟨x, y, rfl, rfl, HX, HF, hx64, hy1, hy2, rfl⟩ := hrel
          by_cases hx : 36028797018963968 ≤ x
          · obtain ⟨g, rfl⟩ : ∃ g, gk = g + 1 := by
              cases gk with
              | zero => have := HF.out; simp at this; omega
              | succ g => exact ⟨g, rfl⟩
            have HX' := HX.out
            rw [ah2, if_pos hx] at HX'
            have HY := Lib.hid HX'
            have HF' := Lib.hid (sh1_half x (g + 55) (by have := HF.out; rw [show g + 55 + 1 = g + 1 + 55 by omega]; exact this) (by omega))
            obtain ⟨q, hq⟩ : ∃ q, q = x % 2 := ⟨_, rfl⟩
            have hb1 := and1_bits x hx64
            have hb2 := sh1_bits x q hx64 hq
            rw [← hq] at hb1
            have hle := sh1_le x
            generalize sh1 x = z at *
            have g1 : ((x : Int) / 36028797018963968 != 0) = true := by simp; omega
            have g4 : IntKind.i64.wrap (y + 1) = y + 1 := by rw [Go.IntKind.wrap_i64]; omega
            clear HX HX' HF hq
            go_wp2_with fail
            go_roundg g
            case measure => omega
            case rel => exact ⟨z, y + 1, rfl, rfl, HY, HF', by omega, by omega, by omega, rfl⟩
          · have HX' := HX.out
            have hst : ah2 gk x y = (x, y) := by
              cases gk with
              | zero => rfl
              | succ g => rw [ah2, if_neg hx]
            rw [hst] at HX'
            have HY := Lib.hid HX'
            clear HX HX' hst HF
            have g1 : ((x : Int) / 36028797018963968 != 0) = false := by simp; omega
            go_wp2_with fail
            go_meet
            case rel =>
              have hh := HY.out
              simp only [Prod.mk.injEq] at hh
              obtain ⟨rfl, rfl⟩ := hh
              exact ⟨rfl, rfl, by omega, by omega, by omega, rfl⟩
      case rest =>
        obtain ⟨rfl, rfl, hm3, he5, he6, rfl⟩ := hcut
        obtain ⟨b, hC⟩ : ∃ b, b = ah3 64 m3 e3 := ⟨_, rfl⟩
        have HC := Lib.hid hC
        clear hC hm2b he3 he4
        obtain ⟨m4, e4⟩ := b
        go_upto_block 4 with (fail)
        go_cut [2, 3] (fun v2 v3 w' => v2 = .int .u64 (m4 : Int) ∧ v3 = .int .i64 e4 ∧ m4 < 36028797018963968 ∧ -400000 ≤ e4 ∧ e4 ≤ 600000 ∧ (m4 ≤ 1 ∨ -1024 ≤ e4) ∧ w1 = w')
        case first =>
          go_wp2_with fail
          go_loopg [2, 3] 64 (fun f v2 v3 w' => ∃ (x : Nat) (y : Int), v2 = .int .u64 x ∧ v3 = .int .i64 y ∧ Hid (ah3 f x y = (m4, e4)) ∧ Hid (x < 2 ^ (f + 1)) ∧ x < 36028797018963968 ∧ e3 ≤ y ∧ y + f ≤ e3 + 64 ∧ w1 = w')
          case atStart => exact ⟨m3, e3, rfl, rfl, Lib.hid HC.out.symm, Lib.hid (Nat.lt_of_lt_of_le hm3 (by decide)), hm3, by omega, by omega, rfl⟩
          case round =>
            obtain ⟨x, y, rfl, rfl, HX, HF, hx64, hy1, hy2, rfl⟩ := hrel
            by_cases hx : 1 < x ∧ y < -1024
            · obtain ⟨g, rfl⟩ : ∃ g, gk = g + 1 := by
                cases gk with
                | zero => have := HF.out; simp at this; omega
                | succ g => exact ⟨g, rfl⟩
              have HX' := HX.out
              rw [ah3, if_pos hx] at HX'
              have HY := Lib.hid HX'
              have HF' := Lib.hid (sh1_half x (g + 1) HF.out (by omega))
              obtain ⟨q, hq⟩ : ∃ q, q = x % 2 := ⟨_, rfl⟩
              have hb1 := and1_bits x (by omega)
              have hb2 := sh1_bits x q (by omega) hq
              rw [← hq] at hb1
              have hle := sh1_le x
              generalize sh1 x = z at *
              have g1 : (1 : Int) < x := by omega
              have g2 : y < -1024 := hx.2
              have g4 : IntKind.i64.wrap (y + 1) = y + 1 := by rw [Go.IntKind.wrap_i64]; omega
              clear HX HX' HF hq hx
              go_wp2_with fail
              go_roundg g
              case measure => omega
              case rel => exact ⟨z, y + 1, rfl, rfl, HY, HF', by omega, by omega, by omega, rfl⟩
            · have HX' := HX.out
              have hst : ah3 gk x y = (x, y) := by
                cases gk with
                | zero => rfl
                | succ g => rw [ah3, if_neg hx]
              rw [hst] at HX'
              have HY := Lib.hid HX'
              have hend : x ≤ 1 ∨ -1024 ≤ y := by omega
              clear HX HX' hst HF hx
              by_cases g1 : (1 : Int) < x
              · have g2 : ¬ y < -1024 := by omega
                have g3 : -1024 ≤ y := by omega
                have HE := Lib.hid hend
                clear hend
                go_wp2_with fail
                go_meet
                case rel =>
                  have hh := HY.out
                  simp only [Prod.mk.injEq] at hh
                  obtain ⟨rfl, rfl⟩ := hh
                  exact ⟨rfl, rfl, by omega, by omega, by omega, HE.out, rfl⟩
              · have g3 : (x : Int) ≤ 1 := by omega
                have HE := Lib.hid hend
                clear hend
                go_wp2_with fail
                go_meet
                case rel =>
                  have hh := HY.out
                  simp only [Prod.mk.injEq] at hh
                  obtain ⟨rfl, rfl⟩ := hh
                  exact ⟨rfl, rfl, by omega, by omega, by omega, HE.out, rfl⟩
        case rest =>
          obtain ⟨rfl, rfl, hm4, he7, he8, hend, rfl⟩ := hcut
          clear hm3 he5 he6
          obtain ⟨m6, e6, hR⟩ : ∃ m6 e6, (m6, e6) = ahR m4 e4 := ⟨_, _, rfl⟩
          have HR := Lib.hid hR
          have hm6 : m6 < 9007199254740992 ∧ (m6 < 4503599627370496 ∨ -1022 ≤ e6) ∧ -400000 ≤ e6 ∧ e6 ≤ 700000 := by
            unfold ahR at hR
            split at hR
            · split at hR
              · simp only [Prod.mk.injEq] at hR
                obtain ⟨rfl, rfl⟩ := hR
                omega
              · simp only [Prod.mk.injEq] at hR
                obtain ⟨rfl, rfl⟩ := hR
                omega
            · simp only [Prod.mk.injEq] at hR
              obtain ⟨rfl, rfl⟩ := hR
              omega
          obtain ⟨q0, hq0⟩ : ∃ q0, q0 = m4 % 4 := ⟨_, rfl⟩
          obtain ⟨m5, hm5⟩ : ∃ m5, m5 = m4 / 4 := ⟨_, rfl⟩
          obtain ⟨q1, hq1⟩ : ∃ q1, q1 = m5 % 2 := ⟨_, rfl⟩
          obtain ⟨q2, hq2⟩ : ∃ q2, q2 = q0 ||| q1 := ⟨_, rfl⟩
          have b1 : Go.bits .and .u64 (m4 : Int) 3 = (q0 : Int) := by
            have := Go.u64_and_nat m4 3 (by omega) (by omega)
            rw [show ((3 : Nat) : Int) = 3 from rfl] at this
            rw [this, hq0]
            exact congrArg _ (Nat.and_two_pow_sub_one_eq_mod m4 2)
          have b2 : (m4 : Int) / 4 = (m5 : Int) := by omega
          have b3 : Go.bits .and .u64 (m5 : Int) 1 = (q1 : Int) := by rw [and1_bits m5 (by omega), hq1]
          have b4 : Go.bits .or .u64 (q0 : Int) (q1 : Int) = (q2 : Int) := by rw [Go.u64_or_nat q0 q1 (by omega) (by omega), hq2]
          have hup : q2 = 3 ↔ up3 m4 := by
            have key : ∀ a : Fin 4, ∀ b : Fin 2, (a.val ||| b.val = 3 ↔ (a.val = 3 ∨ (a.val = 2 ∧ b.val = 1))) := by decide
            have key' : ∀ a b : Nat, a < 4 → b < 2 → (a ||| b = 3 ↔ (a = 3 ∨ (a = 2 ∧ b = 1))) := fun a b ha hb => key ⟨a, ha⟩ ⟨b, hb⟩
            unfold up3
            rw [hq2, key' q0 q1 (by omega) (by omega), hq0, hq1, hm5]
          have g5 : IntKind.i64.wrap (e4 + 2) = e4 + 2 := by rw [Go.IntKind.wrap_i64]; omega
          unfold ahR at hR
          clear hq2 hq0 hq1
          have Hm5 := Lib.hid hm5
          have HUP := Lib.hid hup
          have HRR := Lib.hid hR
          clear hm5 hup hR
          go_upto_if 103 with (fail)
          go_cut [2, 3] (fun v2 v3 w' => v2 = .int .u64 (m6 : Int) ∧ v3 = .int .i64 e6 ∧ w1 = w')
          case first =>
            have hm5 := Hm5.out
            have hup := HUP.out
            have hR := HRR.out
            by_cases hu : q2 = 3
            · rw [if_pos (hup.1 hu)] at hR
              have g6 : ((q2 : Int) == 3) = true := by simp [hu]
              have g7 : IntKind.u64.wrap ((m5 : Int) + 1) = (m5 : Int) + 1 := by rw [Go.IntKind.wrap_u64]; omega
              by_cases hc : m4 / 4 + 1 = 9007199254740992
              · rw [if_pos hc] at hR
                have hR2 := Lib.hid hR
                have g8 : ((m5 : Int) + 1 == 9007199254740992) = true := by simp; omega
                have g9 : ((m5 : Int) + 1) / 2 = 4503599627370496 := by omega
                have g10 : IntKind.i64.wrap (e4 + 2 + 1) = e4 + 3 := by rw [Go.IntKind.wrap_i64]; omega
                clear hR hc hu hup b1 b2 b3 b4 hm5
                go_wp2_with fail
                go_meet
                case rel =>
                  have hh := hR2.out
                  simp only [Prod.mk.injEq] at hh
                  obtain ⟨rfl, rfl⟩ := hh
                  exact ⟨rfl, rfl, rfl⟩
              · rw [if_neg hc] at hR
                have hR2 := Lib.hid hR
                have g8 : ((m5 : Int) + 1 == 9007199254740992) = false := by simp; omega
                have hm5' := Lib.hid hm5
                clear hR hc hu hup b1 b2 b3 b4 hm5
                go_wp2_with fail
                go_meet
                case rel =>
                  have hh := hR2.out
                  simp only [Prod.mk.injEq] at hh
                  obtain ⟨h1, h2⟩ := hh
                  rw [h1, h2, ← hm5'.out]
                  exact ⟨by go_num, rfl, rfl⟩
            · rw [if_neg (fun h => hu (hup.2 h))] at hR
              have g6 : ((q2 : Int) == 3) = false := by simp; omega
              have hR2 := Lib.hid hR
              have hm5' := Lib.hid hm5
              clear hR hu hup b1 b2 b3 b4 hm5
              go_wp2_with fail
              go_meet
              case rel =>
                have hh := hR2.out
                simp only [Prod.mk.injEq] at hh
                obtain ⟨h1, h2⟩ := hh
                rw [h1, h2, ← hm5'.out]
                exact ⟨rfl, rfl, rfl⟩
          case rest =>
            obtain ⟨rfl, rfl, rfl⟩ := hcut
            clear HRR HUP b1 b2 b3 b4 g5 Hm5 hm4 he7 he8 hend
            obtain ⟨e7, he7⟩ : ∃ e7, e7 = (if m6 < 4503599627370496 then -1023 else e6) := ⟨_, rfl⟩
            have he7b : -1023 ≤ e7 ∧ e7 ≤ 700000 := by rw [he7]; split <;> omega
            have HE7 := Lib.hid he7
            clear he7
            go_upto_if 124 with (fail)
            go_cut [3] (fun v3 w' => v3 = .int .i64 e7 ∧ w1 = w')
            case first =>
              by_cases hd : m6 < 4503599627370496
              · have g1 : ((m6 : Int) / 4503599627370496 == 0) = true := by simp; omega
                have hh := Lib.hid (HE7.out.trans (if_pos hd))
                clear hd
                go_wp2_with fail
                go_meet
                case rel => rw [hh.out]; exact ⟨rfl, rfl⟩
              · have g1 : ((m6 : Int) / 4503599627370496 == 0) = false := by simp; omega
                have hh := Lib.hid (HE7.out.trans (if_neg hd))
                clear hd
                go_wp2_with fail
                go_meet
                case rel => rw [hh.out]; exact ⟨rfl, rfl⟩
            case rest =>
              obtain ⟨rfl, rfl⟩ := hcut
              have hfin : ah m e ng tr = ahB ng m6 e6 := by
                unfold ah
                rw [← HA.out]
                dsimp only
                rw [← HM2.out, ← HB.out]
                dsimp only
                rw [← HC.out]
                dsimp only
                rw [← HR.out]
              have hfr := from151
              by_cases ho : 1023 < e7
              · have hres : ah m e ng tr = ((if ng then 9223372036854775808 else 0) + 9218868437227405312, true) := by
                  rw [hfin]; unfold ahB; rw [← HE7.out]; dsimp only; rw [if_pos ho]
                have HRES := Lib.hid hres
                clear hfin hres
                have k1 : Go.bits .and .u64 4503599627370496 4503599627370495 = 0 := by decide +kernel
                have k2 : Go.bits .and .i64 2047 2047 = 2047 := by decide +kernel
                have k3 : Go.bits .or .u64 0 9218868437227405312 = 9218868437227405312 := by decide +kernel
                have k4 : Go.bits .or .u64 9218868437227405312 9223372036854775808 = 18442240474082181120 := by decide +kernel
                have hf1 : ∀ W, (callFunc 151 #[.int .u64 9218868437227405312]).run Tryz.prog W = .ok (.value (.float .f64 9218868437227405312)) W := fun W => from151 9218868437227405312 W
                have hf2 : ∀ W, (callFunc 151 #[.int .u64 18442240474082181120]).run Tryz.prog W = .ok (.value (.float .f64 18442240474082181120)) W := fun W => from151 18442240474082181120 W
                clear hfr
                go_wp2_with fail
                go_quiet (fail)
                cases ng
                · have hpq := info_ne (HLB.out.below (below_drewN (Below.refl _ _) nq))
                  go_wp2_with fail
                  go_ret2
                  rw [HRES.out]
                  exact ⟨rfl, below_drewN hb1 _⟩
                · have HLB2 := Lib.hid (HLB.out.below (below_drewN (Below.refl _ _) nq))
                  have hb2 := below_drewN hb1 nq
                  clear i0 i1 i2 hL1 HLB hb1 hz1
                  generalize w1.drewN nq = w2 at *
                  have hL2 := HLB2.out.laid
                  obtain ⟨i0, i1, i2⟩ := hL2.infCell
                  clear hL2
                  go_wp2_with fail
                  go_quiet (fail)
                  have hpq := info_ne (HLB2.out.below (below_drewN (Below.refl _ _) nq))
                  go_wp2_with fail
                  go_ret2
                  rw [HRES.out]
                  exact ⟨rfl, below_drewN hb2 _⟩
              · obtain ⟨E, hE⟩ : ∃ E : Nat, E = (e7 + 1023).toNat := ⟨_, rfl⟩
                have hEb : E < 2048 := by omega
                obtain ⟨x, hx⟩ : ∃ x, x = m6 % 4503599627370496 := ⟨_, rfl⟩
                obtain ⟨y, hy⟩ : ∃ y, y = E * 4503599627370496 + x := ⟨_, rfl⟩
                have hres : ah m e ng tr = ((if ng then 9223372036854775808 else 0) + y, false) := by
                  rw [hfin]; unfold ahB; rw [← HE7.out]; dsimp only; rw [if_neg ho, hy, hx]
                  rw [show ((e7 + 1023) % 2048).toNat = E by omega]
                have HRES := Lib.hid hres
                have k1 : Go.bits .and .u64 (m6 : Int) 4503599627370495 = (x : Int) := by
                  have := Go.u64_and_nat m6 4503599627370495 (by omega) (by omega)
                  rw [show ((4503599627370495 : Nat) : Int) = 4503599627370495 from rfl] at this
                  rw [this, hx]
                  exact congrArg _ (Nat.and_two_pow_sub_one_eq_mod m6 52)
                have hE1 : IntKind.i64.wrap (e7 + 1023) = (E : Int) := by rw [Go.IntKind.wrap_i64]; omega
                have hE2 : e7 + 1023 = (E : Int) := by omega
                have k2 : Go.bits .and .i64 (E : Int) 2047 = (E : Int) := by
                  have key : ∀ E : Fin 2048, Go.bits .and .i64 (E.val : Int) 2047 = (E.val : Int) := by decide +kernel
                  exact key ⟨E, hEb⟩
                have k3 : IntKind.u64.wrap (E : Int) = (E : Int) := by rw [Go.IntKind.wrap_u64]; omega
                obtain ⟨z, hz⟩ : ∃ z, z = E * 4503599627370496 := ⟨_, rfl⟩
                have k4 : IntKind.u64.wrap ((E : Int) * 4503599627370496) = (z : Int) := by rw [Go.IntKind.wrap_u64]; omega
                have k5 : Go.bits .or .u64 (x : Int) (z : Int) = (y : Int) := by
                  rw [Go.u64_or_nat x z (by omega) (by omega), Nat.or_comm, Go.nat_join 52 z x (by rw [hz]; exact Nat.mul_mod_left _ _) (by rw [hx]; exact Nat.mod_lt _ (by decide)), hy, hz]
                have k6 : Go.bits .or .u64 (y : Int) 9223372036854775808 = ((9223372036854775808 + y : Nat) : Int) := by
                  have := Go.u64_or_nat y 9223372036854775808 (by omega) (by omega)
                  rw [show ((9223372036854775808 : Nat) : Int) = 9223372036854775808 from rfl] at this
                  rw [this, Nat.or_comm, Go.nat_join 63 9223372036854775808 y (by decide) (by omega)]
                have ho' : e7 ≤ 1023 := by omega
                clear hfin hres hE hx hy hz
                generalize hyy : 9223372036854775808 + y = yy at *
                go_wp2_with fail
                go_quiet (fail)
                cases ng
                · have hpq := info_ne (HLB.out.below (below_drewN (Below.refl _ _) nq))
                  go_wp2_with fail
                  go_ret2
                  rw [HRES.out, if_neg (by decide), Nat.zero_add]
                  exact ⟨rfl, below_drewN hb1 _⟩
                · have HLB2 := Lib.hid (HLB.out.below (below_drewN (Below.refl _ _) nq))
                  have hb2 := below_drewN hb1 nq
                  clear i0 i1 i2 hL1 HLB hb1 hz1
                  generalize w1.drewN nq = w2 at *
                  have hL2 := HLB2.out.laid
                  obtain ⟨i0, i1, i2⟩ := hL2.infCell
                  clear hL2
                  go_wp2_with fail
                  go_quiet (fail)
                  have hpq := info_ne (HLB2.out.below (below_drewN (Below.refl _ _) nq))
                  go_wp2_with fail
                  go_ret2
                  rw [HRES.out, if_pos trivial, hyy]
                  exact ⟨rfl, below_drewN hb2 _⟩
end Go.Proofs.YtjpiplplohapnaaGreatDoor
namespace Go.Proofs.YtjpiplplohapnaaGreatDoor.Rf
structure St where
  us : Bool
  dot : Bool
  sd : Bool
  nd : Nat
  nm : Nat
  dp : Int
  m : Nat
  tr : Bool
def st0 : St := ⟨false, false, false, 0, 0, 0, 0, false⟩
def bs (hx : Bool) : Nat := if hx then 16 else 10
def mxd (hx : Bool) : Nat := if hx then 16 else 19
def lw (c : Nat) : Int := Go.bits .or .u8 (c : Int) 32
def stp (hx : Bool) (c : Nat) (t : St) : Option St :=
  if c = 95 then some { t with us := true }
  else if c = 46 then (if t.dot then none else some { t with dot := true, dp := t.nd })
  else if 48 ≤ c ∧ c ≤ 57 then
    if c = 48 ∧ t.nd = 0 then some { t with sd := true, dp := t.dp - 1 }
    else if t.nm < mxd hx then some { t with sd := true, nd := t.nd + 1, nm := t.nm + 1, m := t.m * bs hx + (c - 48) }
    else some { t with sd := true, nd := t.nd + 1, tr := t.tr || decide (c ≠ 48) }
  else if hx = true ∧ 97 ≤ lw c ∧ lw c ≤ 102 then
    if t.nm < mxd hx then some { t with sd := true, nd := t.nd + 1, nm := t.nm + 1, m := t.m * bs hx + (lw c - 87).toNat }
    else some { t with sd := true, nd := t.nd + 1, tr := true }
  else none
def scan (hx : Bool) : List UInt8 → St → St × List UInt8
  | [], t => (t, [])
  | c :: l, t => match stp hx c.toNat t with
    | some t' => scan hx l t'
    | none => (t, c :: l)
structure Ok (hx : Bool) (t : St) (k : Nat) : Prop where
  nd : t.nd ≤ k
  nm : t.nm ≤ mxd hx
  m : t.m < bs hx ^ t.nm
  dp1 : -(k : Int) ≤ t.dp
  dp2 : t.dp ≤ k
theorem ok0 (hx : Bool) (k : Nat) : Ok hx st0 k := ⟨Nat.zero_le _, Nat.zero_le _, by show 0 < _; exact Nat.pow_pos (by cases hx <;> decide), by show -(k : Int) ≤ 0; omega, by show (0 : Int) ≤ k; omega⟩
theorem pow_max (hx : Bool) : bs hx ^ mxd hx ≤ 18446744073709551616 := by cases hx <;> decide
theorem Ok.room {hx : Bool} {t : St} {k d : Nat} (h : Ok hx t k) (hn : t.nm < mxd hx) (hd : d < bs hx) : t.m * bs hx + d < bs hx ^ (t.nm + 1) ∧ bs hx ^ (t.nm + 1) ≤ 18446744073709551616 := by
  have hb : 0 < bs hx := by cases hx <;> decide
  constructor
  · have : (t.m + 1) * bs hx ≤ bs hx ^ t.nm * bs hx := Nat.mul_le_mul_right _ h.m
    rw [← Nat.pow_succ, Nat.add_mul, Nat.one_mul, Nat.succ_eq_add_one] at this
    omega
  · exact Nat.le_trans (Nat.pow_le_pow_right hb hn) (pow_max hx)
theorem drop_at (l : List UInt8) (k : Nat) (h : k < l.length) : l.drop k = l[k] :: l.drop (k + 1) := List.drop_eq_getElem_cons h
theorem scan_some {hx : Bool} {l : List UInt8} {k : Nat} {t t' : St} (h : k < l.length) (hs : stp hx l[k].toNat t = some t') : scan hx (l.drop k) t = scan hx (l.drop (k + 1)) t' := by
  rw [drop_at l k h, scan, hs]
theorem scan_none {hx : Bool} {l : List UInt8} {k : Nat} {t : St} (h : k < l.length) (hs : stp hx l[k].toNat t = none) : scan hx (l.drop k) t = (t, l.drop k) := by
  rw [drop_at l k h, scan, hs]
theorem scan_end {hx : Bool} {l : List UInt8} {k : Nat} {t : St} (h : l.length ≤ k) : scan hx (l.drop k) t = (t, l.drop k) := by
  rw [List.drop_of_length_le h, scan]
theorem lw_range (c : Nat) (h : c < 256) : 0 ≤ lw c ∧ lw c ≤ 255 := by
  have key : ∀ c : Fin 256, 0 ≤ lw c.val ∧ lw c.val ≤ 255 := by decide +kernel
  exact key ⟨c, h⟩
theorem lw_digit (c : Nat) (h : c ≤ 57) (h2 : 48 ≤ c) : lw c = c := by
  have key : ∀ c : Fin 58, 48 ≤ c.val → lw c.val = (c.val : Int) := by decide +kernel
  exact key ⟨c, by omega⟩ h2
def escan : List UInt8 → Nat → Bool → Nat × Bool × List UInt8
  | [], e, us => (e, us, [])
  | c :: l, e, us => if c.toNat = 95 then escan l e true else if 48 ≤ c.toNat ∧ c.toNat ≤ 57 then escan l (if e < 10000 then e * 10 + (c.toNat - 48) else e) us else (e, us, c :: l)
def esign : List UInt8 → Int × List UInt8
  | [] => (1, [])
  | c :: l => if c.toNat = 43 then (1, l) else if c.toNat = 45 then (-1, l) else (1, c :: l)
def startsD : List UInt8 → Bool
  | [] => false
  | d :: _ => decide (48 ≤ d.toNat) && decide (d.toNat ≤ 57)
def eat (us : Bool) (r : List UInt8) : Option (Int × Bool × List UInt8) :=
  if startsD (esign r).2 then some ((esign r).1 * ((escan (esign r).2 0 us).1 : Nat), (escan (esign r).2 0 us).2.1, (escan (esign r).2 0 us).2.2) else none
def expPart (hx us : Bool) : List UInt8 → Option (Int × Bool × List UInt8)
  | [] => if hx then none else some (0, us, [])
  | c :: r => if lw c.toNat = (if hx then 112 else 101) then eat us r else if hx then none else some (0, us, c :: r)
structure Out where
  m : Nat
  e : Int
  tr : Bool
  us : Bool
  rest : List UInt8
def dpv (hx : Bool) (t : St) : Int := (if t.dot then t.dp else t.nd) * (if hx then 4 else 1)
def nmv (hx : Bool) (t : St) : Int := t.nm * (if hx then 4 else 1)
def fin (hx : Bool) (t : St) (r : List UInt8) : Option Out :=
  if t.sd then (expPart hx t.us r).map fun x => ⟨t.m, if t.m = 0 then 0 else dpv hx t + x.1 - nmv hx t, t.tr, x.2.1, x.2.2⟩ else none
theorem escan_us {l : List UInt8} {k e : Nat} {us : Bool} (h : k < l.length) (hc : l[k].toNat = 95) : escan (l.drop k) e us = escan (l.drop (k + 1)) e true := by
  rw [drop_at l k h, escan, if_pos hc]
theorem escan_digit {l : List UInt8} {k e : Nat} {us : Bool} (h : k < l.length) (hc : ¬ l[k].toNat = 95) (hd : 48 ≤ l[k].toNat ∧ l[k].toNat ≤ 57) : escan (l.drop k) e us = escan (l.drop (k + 1)) (if e < 10000 then e * 10 + (l[k].toNat - 48) else e) us := by
  rw [drop_at l k h, escan, if_neg hc, if_pos hd]
theorem escan_stop {l : List UInt8} {k e : Nat} {us : Bool} (h : k < l.length) (hc : ¬ l[k].toNat = 95) (hd : ¬ (48 ≤ l[k].toNat ∧ l[k].toNat ≤ 57)) : escan (l.drop k) e us = (e, us, l.drop k) := by
  rw [drop_at l k h, escan, if_neg hc, if_neg hd]
theorem escan_end {l : List UInt8} {k e : Nat} {us : Bool} (h : l.length ≤ k) : escan (l.drop k) e us = (e, us, l.drop k) := by
  rw [List.drop_of_length_le h, escan]
theorem expPart_hit_d {us : Bool} {c : UInt8} {r : List UInt8} (h : lw c.toNat = 101) : expPart false us (c :: r) = eat us r := by unfold expPart; exact if_pos h
theorem expPart_hit_x {us : Bool} {c : UInt8} {r : List UInt8} (h : lw c.toNat = 112) : expPart true us (c :: r) = eat us r := by unfold expPart; exact if_pos h
theorem expPart_miss_d {us : Bool} {c : UInt8} {r : List UInt8} (h : ¬ lw c.toNat = 101) : expPart false us (c :: r) = some (0, us, c :: r) := by unfold expPart; exact if_neg h
theorem expPart_miss_x {us : Bool} {c : UInt8} {r : List UInt8} (h : ¬ lw c.toNat = 112) : expPart true us (c :: r) = none := by unfold expPart; exact if_neg h
end Go.Proofs.YtjpiplplohapnaaGreatDoor.Rf
