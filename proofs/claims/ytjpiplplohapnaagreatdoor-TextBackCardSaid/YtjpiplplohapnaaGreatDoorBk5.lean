/- Part 5 of the proof: PSmall, AwB, AwC, GA, AHx, Rf, LRb, AwD, AwE, AwF, AwG, AwH, GB, Num. -/
import Derived.Test.YtjpiplplohapnaaGreatDoorBk3
import Derived.Test.YtjpiplplohapnaaGreatDoorBk4
import Derived.Laws.FloatArith
import Derived.Laws.BitsAllLaws
import Derived.LoopTactic
import Derived.LaidEqlPtr
import Derived.Deep.CutBlock
import Derived.Deep.DeepCutAuto
import Derived.Deep.QuietTactic
import Derived.BigQuiet
import Derived.Lib.OwnBridge
import Derived.Deep.RegionHeld
import Derived.Deep.RegionWith
import Derived.Laws.BytesString
import Derived.Lib.AtoiAll
import Derived.Lib.ItoaNum
/- Functions of the program as Lean functions, each with the walk that its Go text comes to just this (sections of the kit's own print, laid by wip/tools/split.py). -/
namespace Go.Proofs.YtjpiplplohapnaaGreatDoor.PText
open Go.RowKit Go.Proofs.YtjpiplplohapnaaGreatDoorW.PrintWords Go.Proofs.YtjpiplplohapnaaGreatDoorW.PrintLast Go.Proofs.YtjpiplplohapnaaGreatDoorW.PrintMore
attribute [local go_sem] max2_int min2_int max_two min_two max_three min_three max_four min_four   -- for this text's walks alone
set_option linter.unusedVariables false
set_option linter.unusedSimpArgs false

/-! ### strconv_lower: function 156 -/
def strconv_lower.f (a0 : Int) : Option (Int) := some (Go.bits .or .u8 a0 32)
set_option maxHeartbeats 8000000 in
set_option maxRecDepth 100000 in
theorem strconv_lower.calls (a0 : Int) (r : Int) (w : World) (h : strconv_lower.f a0 = some r) :
    Calls Tryz.prog 156 #[.int .u8 a0] w fun e w' => e = .returned (.int .u8 r) ∧ Drawn0 w w' := by
  have H : (some (Go.bits .or .u8 a0 32)) = some r := h
  clear h
  obtain rfl := Option.some.inj H
  go_enter Tryz.func156, Tryz.ntmps156
  go_wp2
  go_ret
  exact ⟨by first | rfl | (simp; done) | (simp [*]; done), by repeat (first | exact Drawn0.refl _ | apply Drawn0.step)⟩

/-! ### strconv_bool2_uint32: function 144 -/
def strconv_bool2_uint32.f (a0 : Bool) : Option (Int) := if a0 = true then (some 1) else (some 0)
set_option maxHeartbeats 8000000 in
set_option maxRecDepth 100000 in
theorem strconv_bool2_uint32.calls (a0 : Bool) (r : Int) (w : World) (h : strconv_bool2_uint32.f a0 = some r) :
    Calls Tryz.prog 144 #[.bool a0] w fun e w' => e = .returned (.int .u32 r) ∧ Drawn0 w w' := by
  have H : (if a0 = true then (some 1) else (some 0)) = some r := h
  clear h
  by_cases c2 : a0 = true
  · subst c2
    have H1 : (some 1) = some r := by rw [if_pos rfl] at H; exact H
    clear H
    have H := H1
    clear H1
    obtain rfl := Option.some.inj H
    go_enter Tryz.func144, Tryz.ntmps144
    go_wp2
    go_ret
    exact ⟨by first | rfl | (simp; done) | (simp [*]; done), by repeat (first | exact Drawn0.refl _ | apply Drawn0.step)⟩
  · replace c2 := Bool.eq_false_iff.mpr c2
    subst c2
    have H1 : (some 0) = some r := by rw [if_neg (show ¬ (false = true) by decide)] at H; exact H
    clear H
    have H := H1
    clear H1
    obtain rfl := Option.some.inj H
    go_enter Tryz.func144, Tryz.ntmps144
    go_wp2
    go_ret
    exact ⟨by first | rfl | (simp; done) | (simp [*]; done), by repeat (first | exact Drawn0.refl _ | apply Drawn0.step)⟩

-- NOT PRINTED: function 146 (strconv_atof32exact)

/-! ### strconv_bool2_int: function 133 -/
def strconv_bool2_int.f (a0 : Bool) : Option (Int) := if a0 = true then (some 1) else (some 0)
set_option maxHeartbeats 8000000 in
set_option maxRecDepth 100000 in
theorem strconv_bool2_int.calls (a0 : Bool) (r : Int) (w : World) (h : strconv_bool2_int.f a0 = some r) :
    Calls Tryz.prog 133 #[.bool a0] w fun e w' => e = .returned (.int .i64 r) ∧ Drawn0 w w' := by
  have H : (if a0 = true then (some 1) else (some 0)) = some r := h
  clear h
  by_cases c2 : a0 = true
  · subst c2
    have H1 : (some 1) = some r := by rw [if_pos rfl] at H; exact H
    clear H
    have H := H1
    clear H1
    obtain rfl := Option.some.inj H
    go_enter Tryz.func133, Tryz.ntmps133
    go_wp2
    go_ret
    exact ⟨by first | rfl | (simp; done) | (simp [*]; done), by repeat (first | exact Drawn0.refl _ | apply Drawn0.step)⟩
  · replace c2 := Bool.eq_false_iff.mpr c2
    subst c2
    have H1 : (some 0) = some r := by rw [if_neg (show ¬ (false = true) by decide)] at H; exact H
    clear H
    have H := H1
    clear H1
    obtain rfl := Option.some.inj H
    go_enter Tryz.func133, Tryz.ntmps133
    go_wp2
    go_ret
    exact ⟨by first | rfl | (simp; done) | (simp [*]; done), by repeat (first | exact Drawn0.refl _ | apply Drawn0.step)⟩

-- NOT PRINTED: function 158 (strconv_prescale)

/-! ### strconv_bool2_uint64: function 150 -/
def strconv_bool2_uint64.f (a0 : Bool) : Option (Int) := if a0 = true then (some 1) else (some 0)
set_option maxHeartbeats 8000000 in
set_option maxRecDepth 100000 in
theorem strconv_bool2_uint64.calls (a0 : Bool) (r : Int) (w : World) (h : strconv_bool2_uint64.f a0 = some r) :
    Calls Tryz.prog 150 #[.bool a0] w fun e w' => e = .returned (.int .u64 r) ∧ Drawn0 w w' := by
  have H : (if a0 = true then (some 1) else (some 0)) = some r := h
  clear h
  by_cases c2 : a0 = true
  · subst c2
    have H1 : (some 1) = some r := by rw [if_pos rfl] at H; exact H
    clear H
    have H := H1
    clear H1
    obtain rfl := Option.some.inj H
    go_enter Tryz.func150, Tryz.ntmps150
    go_wp2
    go_ret
    exact ⟨by first | rfl | (simp; done) | (simp [*]; done), by repeat (first | exact Drawn0.refl _ | apply Drawn0.step)⟩
  · replace c2 := Bool.eq_false_iff.mpr c2
    subst c2
    have H1 : (some 0) = some r := by rw [if_neg (show ¬ (false = true) by decide)] at H; exact H
    clear H
    have H := H1
    clear H1
    obtain rfl := Option.some.inj H
    go_enter Tryz.func150, Tryz.ntmps150
    go_wp2
    go_ret
    exact ⟨by first | rfl | (simp; done) | (simp [*]; done), by repeat (first | exact Drawn0.refl _ | apply Drawn0.step)⟩

/-- A state of type 203 at block g of W; what its slices lead to came in by w0. -/
def IsS203 (w0 W : World) (g : Nat) (f0 : Int) (f1 : Int) (f2 : Int) : Prop := W.heap[g]? = some (.cells #[.int .u64 f0, .int .u64 f1, .int .i64 f2] 203 (0, 0)) ∧ w0.heap.size ≤ g
theorem IsS203.grown {w0 W : World} {g : Nat} {f0 : Int} {f1 : Int} {f2 : Int} {W1 : World} {row : Option Nat} (h : IsS203 w0 W g f0 f1 f2) (hw : W.grownBy W1 row) (hne : some g ≠ row) : IsS203 w0 W1 g f0 f1 f2 := by
  obtain ⟨hb, hg⟩ := h
  exact ⟨blk_grown hb hw hne, hg⟩
theorem IsS203.own_neN {w0 W : World} {g : Nat} {f0 : Int} {f1 : Int} {f2 : Int} {α : Type} {d : Kd α} {e : Nat} {base : Nat} {ok : Nat → Prop} {v : Value} {xs : List α} (h : IsS203 w0 W g f0 f1 f2) (ho : Kd.N d e W base ok v xs) (ht : e ≠ 203) : some g ≠ v.ownBlock := by
  obtain ⟨hb, hg⟩ := h
  exact Kd.N_ne ho hb ht
theorem IsS203.fresh {w0 W : World} {g : Nat} {f0 : Int} {f1 : Int} {f2 : Int} (h : IsS203 w0 W g f0 f1 f2) : ∀ k, W.heap.size ≤ k → k ≠ g := by
  obtain ⟨hb, hg⟩ := h
  exact Kd.freshB hb
theorem IsS203.kept {w0 W : World} {g : Nat} {f0 : Int} {f1 : Int} {f2 : Int} {W1 : World} {S : Nat → Prop} (h : IsS203 w0 W g f0 f1 f2) (hk : Kept W W1 S) (hne : ¬ S g) : IsS203 w0 W1 g f0 f1 f2 := by
  obtain ⟨hb, hg⟩ := h
  exact ⟨blk_kept hb hk hne, hg⟩
theorem IsS203.below {w0 W : World} {g : Nat} {f0 : Int} {f1 : Int} {f2 : Int} {W1 : World} (h : IsS203 w0 W g f0 f1 f2) (hw : Below W.heap.size W W1) : IsS203 w0 W1 g f0 f1 f2 := h.grown (grown_of_below hw none) (by simp)
theorem IsS203.alloc {w0 W : World} {g : Nat} {f0 : Int} {f1 : Int} {f2 : Int} (h : IsS203 w0 W g f0 f1 f2) (o : Obj) : IsS203 w0 (W.alloc o) g f0 f1 f2 := h.below (below_alloc (Below.refl _ _) o)
theorem IsS203.drewN {w0 W : World} {g : Nat} {f0 : Int} {f1 : Int} {f2 : Int} (h : IsS203 w0 W g f0 f1 f2) (m : Nat) : IsS203 w0 (W.drewN m) g f0 f1 f2 := h
theorem IsS203.drew {w0 W : World} {g : Nat} {f0 : Int} {f1 : Int} {f2 : Int} (h : IsS203 w0 W g f0 f1 f2) : IsS203 w0 W.drew g f0 f1 f2 := h
theorem IsS203.at_ {w0 W : World} {g : Nat} {f0 : Int} {f1 : Int} {f2 : Int} {w' : World} {m : Nat} (hq : W.drewN m = w') (h : IsS203 w0 W g f0 f1 f2) : IsS203 w0 w' g f0 f1 f2 := by subst hq; exact IsS203.drewN h m
theorem IsS203.apart {w0 W : World} {g : Nat} {f0 : Int} {f1 : Int} {f2 : Int} {α : Type} {d : Kd α} {e : Nat} {base : Nat} {ok : Nat → Prop} {v : Value} {xs : List α} (h : IsS203 w0 W g f0 f1 f2) (ho : d.R e W base ok v xs) (ht : ∀ q, q ∈ e :: d.E → q ≠ 203) : d.R e W base (fun k => ok k ∧ k ≠ g) v xs := by
  obtain ⟨hb, hg⟩ := h
  exact Kd.R_types ho hb ht
theorem IsS203.own_ne {w0 W : World} {g : Nat} {f0 : Int} {f1 : Int} {f2 : Int} {α : Type} {d : Kd α} {e : Nat} {base : Nat} {ok : Nat → Prop} {v : Value} {xs : List α} (h : IsS203 w0 W g f0 f1 f2) (ho : d.R e W base ok v xs) (ht : e ≠ 203) : some g ≠ v.ownBlock := by
  obtain ⟨hb, hg⟩ := h
  exact Kd.R_ne ho hb ht
theorem IsS203.apartQ {w0 W : World} {g : Nat} {f0 : Int} {f1 : Int} {f2 : Int} {α : Type} {d : Kd α} {e : Nat} {base : Nat} {ok : Nat → Prop} {v : Value} {xs : List α} (h : IsS203 w0 W g f0 f1 f2) (ho : d.Q e W base ok v xs) (ht : ∀ q, q ∈ e :: d.E → q ≠ 203) : d.Q e W base (fun k => ok k ∧ k ≠ g) v xs := by
  obtain ⟨hb, hg⟩ := h
  exact Kd.Q_types ho hb ht
theorem IsS203.own_neQ {w0 W : World} {g : Nat} {f0 : Int} {f1 : Int} {f2 : Int} {α : Type} {d : Kd α} {e : Nat} {base : Nat} {ok : Nat → Prop} {v : Value} {xs : List α} (h : IsS203 w0 W g f0 f1 f2) (ho : d.Q e W base ok v xs) (ht : e ≠ 203) : some g ≠ v.ownBlock := by
  obtain ⟨hb, hg⟩ := h
  exact Kd.Q_ne ho hb ht
theorem IsS203.apartS {w0 W : World} {g : Nat} {f0 : Int} {f1 : Int} {f2 : Int} {α : Type} {d : Kd α} {e : Nat} {base : Nat} {ok : Nat → Prop} {v : Value} {xs : List α} (h : IsS203 w0 W g f0 f1 f2) (ho : d.S e W base ok v xs) (ht : ∀ q, q ∈ e :: d.E → q ≠ 203) : d.S e W base (fun k => ok k ∧ k ≠ g) v xs := by
  obtain ⟨hb, hg⟩ := h
  exact Kd.S_types ho hb ht
theorem IsS203.own_neS {w0 W : World} {g : Nat} {f0 : Int} {f1 : Int} {f2 : Int} {α : Type} {d : Kd α} {e : Nat} {base : Nat} {ok : Nat → Prop} {v : Value} {xs : List α} (h : IsS203 w0 W g f0 f1 f2) (ho : d.S e W base ok v xs) (ht : e ≠ 203) : some g ≠ v.ownBlock := by
  obtain ⟨hb, hg⟩ := h
  exact Kd.S_ne ho hb ht
theorem IsS203.lt {w0 W : World} {g : Nat} {f0 : Int} {f1 : Int} {f2 : Int} (h : IsS203 w0 W g f0 f1 f2) : g < W.heap.size := by
  obtain ⟨hb, hg⟩ := h
  exact blk_lt hb
theorem IsS203.ge {w0 W : World} {g : Nat} {f0 : Int} {f1 : Int} {f2 : Int} (h : IsS203 w0 W g f0 f1 f2) : w0.heap.size ≤ g := by
  obtain ⟨hb, hg⟩ := h
  exact hg
theorem IsS203.ne_blk {w0 W : World} {g : Nat} {f0 : Int} {f1 : Int} {f2 : Int} {a : Nat} {cs : Array Value} {t : TypeId} {fr : Nat × Nat} (h : IsS203 w0 W g f0 f1 f2) (hb2 : W.heap[a]? = some (.cells cs t fr)) (ht : t ≠ 203) : g ≠ a := by
  obtain ⟨hb, hg⟩ := h
  rintro rfl
  rw [hb] at hb2
  injection hb2 with hb2
  injection hb2 with _ ht2
  exact ht ht2.symm
theorem IsS203.far {w0 W : World} {g : Nat} {f0 : Int} {f1 : Int} {f2 : Int} {p : Addr} (h : IsS203 w0 W g f0 f1 f2) (hne : g ≠ p.block) (u : Value) : IsS203 w0 (W.setCell p u) g f0 f1 f2 := by
  obtain ⟨hb, hg⟩ := h
  exact ⟨blk_far hb hne u, hg⟩
theorem cellS203_0 {W : World} {g : Nat} {f0 : Int} {f1 : Int} {f2 : Int} (h : W.heap[g]? = some (.cells #[.int .u64 f0, .int .u64 f1, .int .i64 f2] 203 (0, 0))) : W.cell? ⟨g, 0, none⟩ = some (.int .u64 f0) := (blk_cell h 0).trans rfl
theorem IsS203.set_0 {w0 W : World} {g : Nat} {f0 : Int} {f1 : Int} {f2 : Int} (h : IsS203 w0 W g f0 f1 f2) (x : Int) : IsS203 w0 (W.setCell ⟨g, 0, none⟩ (.int .u64 x)) g x f1 f2 := by
  obtain ⟨hb, hg⟩ := h
  exact ⟨by simpa using blk_set hb 0 (.int .u64 x), hg⟩
theorem cellS203_1 {W : World} {g : Nat} {f0 : Int} {f1 : Int} {f2 : Int} (h : W.heap[g]? = some (.cells #[.int .u64 f0, .int .u64 f1, .int .i64 f2] 203 (0, 0))) : W.cell? ⟨g, 1, none⟩ = some (.int .u64 f1) := (blk_cell h 1).trans rfl
theorem IsS203.set_1 {w0 W : World} {g : Nat} {f0 : Int} {f1 : Int} {f2 : Int} (h : IsS203 w0 W g f0 f1 f2) (x : Int) : IsS203 w0 (W.setCell ⟨g, 1, none⟩ (.int .u64 x)) g f0 x f2 := by
  obtain ⟨hb, hg⟩ := h
  exact ⟨by simpa using blk_set hb 1 (.int .u64 x), hg⟩
theorem cellS203_2 {W : World} {g : Nat} {f0 : Int} {f1 : Int} {f2 : Int} (h : W.heap[g]? = some (.cells #[.int .u64 f0, .int .u64 f1, .int .i64 f2] 203 (0, 0))) : W.cell? ⟨g, 2, none⟩ = some (.int .i64 f2) := (blk_cell h 2).trans rfl
theorem IsS203.set_2 {w0 W : World} {g : Nat} {f0 : Int} {f1 : Int} {f2 : Int} (h : IsS203 w0 W g f0 f1 f2) (x : Int) : IsS203 w0 (W.setCell ⟨g, 2, none⟩ (.int .i64 x)) g f0 f1 x := by
  obtain ⟨hb, hg⟩ := h
  exact ⟨by simpa using blk_set hb 2 (.int .i64 x), hg⟩
theorem IsS203.new (w0 W : World) (f0 : Int) (f1 : Int) (f2 : Int) (hB : Below w0.heap.size w0 W) : IsS203 w0 (W.alloc (.cells #[.int .u64 f0, .int .u64 f1, .int .i64 f2] 203)) W.heap.size f0 f1 f2 := ⟨by simpa using heap_alloc_new W _, hB.size⟩

/-! ### strconv_log2Pow10: function 159 -/
def strconv_log2Pow10.f (a0 : Int) : Option (Int) := some ((wrap64 (a0 * 108853)) / 32768)
set_option maxHeartbeats 8000000 in
set_option maxRecDepth 100000 in
theorem strconv_log2Pow10.calls (a0 : Int) (r : Int) (w : World) (h : strconv_log2Pow10.f a0 = some r) :
    Calls Tryz.prog 159 #[.int .i64 a0] w fun e w' => e = .returned (.int .i64 r) ∧ Drawn0 w w' := by
  have H : (some ((wrap64 (a0 * 108853)) / 32768)) = some r := h
  clear h
  obtain rfl := Option.some.inj H
  go_enter Tryz.func159, Tryz.ntmps159
  go_wp2
  go_ret
  exact ⟨by first | rfl | (simp; done) | (simp [*]; done), by repeat (first | exact Drawn0.refl _ | apply Drawn0.step)⟩

/-! ### strconv_log10Pow2: function 126 -/
def strconv_log10Pow2.f (a0 : Int) : Option (Int) := some ((wrap64 (a0 * 78913)) / 262144)
set_option maxHeartbeats 8000000 in
set_option maxRecDepth 100000 in
theorem strconv_log10Pow2.calls (a0 : Int) (r : Int) (w : World) (h : strconv_log10Pow2.f a0 = some r) :
    Calls Tryz.prog 126 #[.int .i64 a0] w fun e w' => e = .returned (.int .i64 r) ∧ Drawn0 w w' := by
  have H : (some ((wrap64 (a0 * 78913)) / 262144)) = some r := h
  clear h
  obtain rfl := Option.some.inj H
  go_enter Tryz.func126, Tryz.ntmps126
  go_wp2
  go_ret
  exact ⟨by first | rfl | (simp; done) | (simp [*]; done), by repeat (first | exact Drawn0.refl _ | apply Drawn0.step)⟩

-- NOT PRINTED: function 101 (strconv_numDigits)

-- NOT PRINTED: function 102 (strconv_formatBase10)

/-! ### strconv_isPowerOfTwo: function 134 -/
def strconv_isPowerOfTwo.f (a0 : Int) : Option (Bool) := some ((Go.bits .and .i64 a0 (wrap64 (a0 - 1))) == 0)
set_option maxHeartbeats 8000000 in
set_option maxRecDepth 100000 in
theorem strconv_isPowerOfTwo.calls (a0 : Int) (r : Bool) (w : World) (h : strconv_isPowerOfTwo.f a0 = some r) :
    Calls Tryz.prog 134 #[.int .i64 a0] w fun e w' => e = .returned (.bool r) ∧ Drawn0 w w' := by
  have H : (some ((Go.bits .and .i64 a0 (wrap64 (a0 - 1))) == 0)) = some r := h
  clear h
  obtain rfl := Option.some.inj H
  go_enter Tryz.func134, Tryz.ntmps134
  go_wp2
  go_ret
  exact ⟨by first | rfl | (simp; done) | (simp [*]; done), by repeat (first | exact Drawn0.refl _ | apply Drawn0.step)⟩

-- NOT PRINTED: function 174 (bits_TrailingZeros32)

-- NOT PRINTED: function 175 (bits_TrailingZeros64)

-- NOT PRINTED: function 135 (bits_TrailingZeros)

-- NOT PRINTED: function 103 (strconv_formatBits)

-- NOT PRINTED: function 99 (strconv_FormatInt)

-- NOT PRINTED: function 72 (strconv_Itoa_72)

-- NOT PRINTED: function 45 (strconv_Itoa_45)

-- NOT PRINTED: function 114 (errors_New)

-- NOT PRINTED: function 90 (strconv_baseError)

-- NOT PRINTED: function 91 (strconv_bitSizeError)

-- NOT PRINTED: function 61 (strconv_toError)

-- NOT PRINTED: function 24 (strconv_ParseFloat_24)

-- NOT PRINTED: function 10 (text_Parse)

/-! ### strconv_unmin: function 165 -/
def strconv_unmin.f (a0 : Int) : Option (Int) := some (IntKind.u64.wrap ((IntKind.u64.wrap (a0 * 4)) - 2))
set_option maxHeartbeats 8000000 in
set_option maxRecDepth 100000 in
theorem strconv_unmin.calls (a0 : Int) (r : Int) (w : World) (h : strconv_unmin.f a0 = some r) :
    Calls Tryz.prog 165 #[.int .u64 a0] w fun e w' => e = .returned (.int .u64 r) ∧ Drawn0 w w' := by
  have H : (some (IntKind.u64.wrap ((IntKind.u64.wrap (a0 * 4)) - 2))) = some r := h
  clear h
  obtain rfl := Option.some.inj H
  go_enter Tryz.func165, Tryz.ntmps165
  go_wp2
  go_ret
  exact ⟨by first | rfl | (simp; done) | (simp [*]; done), by repeat (first | exact Drawn0.refl _ | apply Drawn0.step)⟩

-- NOT PRINTED: function 184 (strconv_pack32)

-- NOT PRINTED: function 147 (strconv_parseFloat32)

-- NOT PRINTED: function 148 (strconv_decimal_set)

-- NOT PRINTED: function 167 (strconv_trim)

/-! ### strconv_unrounded_round: function 164 -/
def strconv_unrounded_round.f (a0 : Int) : Option (Int) := some ((IntKind.u64.wrap ((IntKind.u64.wrap (a0 + 1)) + (Go.bits .and .u64 (a0 / 4) 1))) / 4)
set_option maxHeartbeats 8000000 in
set_option maxRecDepth 100000 in
theorem strconv_unrounded_round.calls (a0 : Int) (r : Int) (w : World) (h : strconv_unrounded_round.f a0 = some r) :
    Calls Tryz.prog 164 #[.int .u64 a0] w fun e w' => e = .returned (.int .u64 r) ∧ Drawn0 w w' := by
  have H : (some ((IntKind.u64.wrap ((IntKind.u64.wrap (a0 + 1)) + (Go.bits .and .u64 (a0 / 4) 1))) / 4)) = some r := h
  clear h
  obtain rfl := Option.some.inj H
  go_enter Tryz.func164, Tryz.ntmps164
  go_wp2
  go_ret
  exact ⟨by first | rfl | (simp; done) | (simp [*]; done), by repeat (first | exact Drawn0.refl _ | apply Drawn0.step)⟩

/-! ### strconv_unrounded: function 187 -/
def strconv_unrounded.f (a0 : Bool) : Option (Int) := if a0 = true then (some 1) else (some 0)
set_option maxHeartbeats 8000000 in
set_option maxRecDepth 100000 in
theorem strconv_unrounded.calls (a0 : Bool) (r : Int) (w : World) (h : strconv_unrounded.f a0 = some r) :
    Calls Tryz.prog 187 #[.bool a0] w fun e w' => e = .returned (.int .u64 r) ∧ Drawn0 w w' := by
  have H : (if a0 = true then (some 1) else (some 0)) = some r := h
  clear h
  by_cases c2 : a0 = true
  · subst c2
    have H1 : (some 1) = some r := by rw [if_pos rfl] at H; exact H
    clear H
    have H := H1
    clear H1
    obtain rfl := Option.some.inj H
    go_enter Tryz.func187, Tryz.ntmps187
    go_wp2
    go_ret
    exact ⟨by first | rfl | (simp; done) | (simp [*]; done), by repeat (first | exact Drawn0.refl _ | apply Drawn0.step)⟩
  · replace c2 := Bool.eq_false_iff.mpr c2
    subst c2
    have H1 : (some 0) = some r := by rw [if_neg (show ¬ (false = true) by decide)] at H; exact H
    clear H
    have H := H1
    clear H1
    obtain rfl := Option.some.inj H
    go_enter Tryz.func187, Tryz.ntmps187
    go_wp2
    go_ret
    exact ⟨by first | rfl | (simp; done) | (simp [*]; done), by repeat (first | exact Drawn0.refl _ | apply Drawn0.step)⟩

/-! ### strconv_unrounded_div: function 166 -/
def strconv_unrounded_div.f (a0 : Int) (a1 : Int) : Option (Int) := if a1 = 0 then (none) else ((strconv_unrounded.f ((Int.tmod a0 a1) != 0)).bind fun t472 => (some (Go.bits .or .u64 (Go.bits .or .u64 (IntKind.u64.wrap (Int.tdiv a0 a1)) (Go.bits .and .u64 a0 1)) t472)))
set_option maxHeartbeats 8000000 in
set_option maxRecDepth 100000 in
theorem strconv_unrounded_div.calls (a0 : Int) (a1 : Int) (r : Int) (w : World) (h : strconv_unrounded_div.f a0 a1 = some r) :
    Calls Tryz.prog 166 #[.int .u64 a0, .int .u64 a1] w fun e w' => e = .returned (.int .u64 r) ∧ Drawn0 w w' := by
  have H : (if a1 = 0 then (none) else ((strconv_unrounded.f ((Int.tmod a0 a1) != 0)).bind fun t472 => (some (Go.bits .or .u64 (Go.bits .or .u64 (IntKind.u64.wrap (Int.tdiv a0 a1)) (Go.bits .and .u64 a0 1)) t472)))) = some r := h
  clear h
  by_cases c3 : a1 = 0
  · rw [if_pos c3] at H
    exact absurd H (by simp)
  · rw [if_neg c3] at H
    have c3b0 : (a1 == 0) = false := beq_eq_false_iff_ne.mpr c3
    have c3b1 : (a1 != 0) = true := bne_iff_ne.mpr c3
    replace H := Option.bind_eq_some_iff.mp H
    obtain ⟨t472, A40, H⟩ := H
    replace H : (some (Go.bits .or .u64 (Go.bits .or .u64 (IntKind.u64.wrap (Int.tdiv a0 a1)) (Go.bits .and .u64 a0 1)) t472)) = some r := H
    have A4 := Aside0.mk A40
    clear A40
    obtain rfl := Option.some.inj H
    go_enter Tryz.func166, Tryz.ntmps166
    go_wp2_with (first | (go_at_call 187; (with_reducible refine (strconv_unrounded.calls ((Int.tmod a0 a1) != 0) t472 _ A4.out).mono ?_); rintro e w' ⟨rfl, ⟨nd, rfl⟩⟩; (try first | exact ⟨rfl, _, World.drewN_drewN _ _ _⟩ | exact ⟨rfl, _, Eq.trans (World.drewN_drewN _ _ _) (congrArg (World.drewN _) (Nat.add_assoc _ _ _))⟩)))
    repeat (go_quiet (first | (go_at_call 187; (with_reducible refine (strconv_unrounded.calls ((Int.tmod a0 a1) != 0) t472 _ A4.out).mono ?_); rintro e w' ⟨rfl, ⟨nd, rfl⟩⟩; (try first | exact ⟨rfl, _, World.drewN_drewN _ _ _⟩ | exact ⟨rfl, _, Eq.trans (World.drewN_drewN _ _ _) (congrArg (World.drewN _) (Nat.add_assoc _ _ _))⟩))); try go_wp2_with (first | (go_at_call 187; (with_reducible refine (strconv_unrounded.calls ((Int.tmod a0 a1) != 0) t472 _ A4.out).mono ?_); rintro e w' ⟨rfl, ⟨nd, rfl⟩⟩; (try first | exact ⟨rfl, _, World.drewN_drewN _ _ _⟩ | exact ⟨rfl, _, Eq.trans (World.drewN_drewN _ _ _) (congrArg (World.drewN _) (Nat.add_assoc _ _ _))⟩))))
    go_ret
    exact ⟨by first | rfl | (simp; done) | (simp [*]; done), by repeat (first | exact Drawn0.refl _ | apply Drawn0.step)⟩

-- NOT PRINTED: function 127 (strconv_fixedWidthFloat)

-- NOT PRINTED: function 128 (strconv_decimal_Assign)

-- NOT PRINTED: function 171 (strconv_decimal_RoundUp)

-- NOT PRINTED: function 172 (strconv_decimal_RoundDown)

-- NOT PRINTED: function 130 (strconv_decimal_Round)

-- NOT PRINTED: function 94 (strconv_ftoa32)

-- NOT PRINTED: function 131 (strconv_shortFloat_float64)

-- NOT PRINTED: function 95 (strconv_ftoa64)

-- NOT PRINTED: function 67 (strconv_FormatFloat_67)

-- NOT PRINTED: function 31 (strconv_FormatFloat_31)

-- NOT PRINTED: function 14 (text_Print)

-- NOT PRINTED: function 132 (strconv_ParseUint)

-- NOT PRINTED: function 98 (strconv_ParseInt)

-- NOT PRINTED: function 71 (strconv_Atoi_71)

-- NOT PRINTED: function 44 (strconv_Atoi_44)

-- NOT PRINTED: function 17 (text_Int)

-- NOT PRINTED: function 48 (ieee_Negative)

-- NOT PRINTED: function 47 (ieee_Split)

-- NOT PRINTED: function 74 (strconv_FormatUint_74)

-- NOT PRINTED: function 49 (strconv_FormatUint_49)

end Go.Proofs.YtjpiplplohapnaaGreatDoor.PText
/- Walks at the inputs of 'awake' (2): text.Parse at "0.1". -/
namespace Go.Proofs.YtjpiplplohapnaaGreatDoor
open Go.RowKit Go.Proofs.YtjpiplplohapnaaGreatDoorW.PrintWords
theorem bool2_u64f (w : World) : Calls Tryz.prog 150 #[.bool false] w fun e w' => e = .returned (.int .u64 0) ∧ Below w.heap.size w w' :=
  (PText.strconv_bool2_uint64.calls false 0 w (by decide +kernel)).mono fun _ _ ⟨h1, h2⟩ => ⟨h1, h2.below⟩
theorem f10_1 {w : World} (h : Laid w) : ∃ a : Addr, w.cell? ⟨10, 0, none⟩ = some (.slice (some a) 23 23) ∧ w.cell? ⟨a.block, a.off + 1, none⟩ = some (.float .f64 4621819117588971520) := by
  obtain ⟨a, h1, h2⟩ := h.f10Cell
  exact ⟨a, h1, (h2 1 (by decide)).trans (by kernel_rfl)⟩

set_option maxRecDepth 100000 in
set_option maxHeartbeats 1000000 in
theorem atof64exact_01 (w : World) (hL : Laid w) : Calls Tryz.prog 152 #[.int .u64 1, .int .i64 (-1), .bool false] w fun e w' => e = .returned (.tuple #[.float .f64 4591870180066957722, .bool true]) ∧ Below w.heap.size w w' := by
  obtain ⟨b, c1, c2⟩ := f10_1 hL
  obtain ⟨i0, i1, i2⟩ := hL.infCell
  have hq : ∀ W : World, (binOp .quo 22 (.float .f64 (floatOfInt .f64 1)) (.float .f64 4621819117588971520)).run Tryz.prog W = .ok (.float .f64 4591870180066957722) W := fun W => run_float_arith W .quo 22 .f64 _ _ _ (by kernel_rfl)
  go_enter Tryz.func152, Tryz.ntmps152
  go_wp2_with fail
  go_ret2
  exact ⟨rfl, Below.refl _ _⟩

set_option maxRecDepth 100000 in
set_option maxHeartbeats 1000000 in
theorem atof64_01 (w : World) (hL : Laid w) : Calls Tryz.prog 112 #[.string s01] w fun e w' => e = .returned (.tuple #[.float .f64 4591870180066957722, .int .i64 3, .nilIface]) ∧ Below w.heap.size w w' := by
  go_enter Tryz.func112, Tryz.ntmps112
  go_wp2_with fail
  refine (special_01 _).mono ?_
  rintro e w1 ⟨rfl, hb1⟩
  go_wp2_with fail
  refine (readFloat_01 _).mono ?_
  rintro e w2 ⟨rfl, hb2⟩
  have hL2 := (hL.below hb1).below hb2
  have ho := hL2.optCell
  have hb := hb1.trans (hb2.mono hb1.size)
  go_wp2_with fail
  refine (bool2_u64f _).mono ?_
  rintro e w3 ⟨rfl, hb3⟩
  have hL3 := hL2.below hb3
  have hbb := hb.trans (hb3.mono hb.size)
  go_wp2_with fail
  refine (atof64exact_01 _ hL3).mono ?_
  rintro e w4 ⟨rfl, hb4⟩
  go_wp2_with fail
  go_ret3
  exact ⟨rfl, hbb.trans (hb4.mono hbb.size)⟩

set_option maxHeartbeats 1000000 in
theorem prefix_01 (w : World) (hL : Laid w) : Calls Tryz.prog 87 #[.string s01, .int .i64 64] w fun e w' => e = .returned (.tuple #[.float .f64 4591870180066957722, .int .i64 3, .nilIface]) ∧ Below w.heap.size w w' := by
  go_enter Tryz.func87, Tryz.ntmps87
  go_wp2_with fail
  refine (atof64_01 _ hL).mono ?_
  rintro e w1 ⟨rfl, hb1⟩
  go_wp2_with fail
  go_ret3
  exact ⟨rfl, hb1⟩
set_option maxHeartbeats 1000000 in
theorem iparse_01 (w : World) (hL : Laid w) : Calls Tryz.prog 60 #[.string s01, .int .i64 64] w fun e w' => e = .returned (.tuple #[.float .f64 4591870180066957722, .nilIface]) ∧ Below w.heap.size w w' := by
  go_enter Tryz.func60, Tryz.ntmps60
  go_wp2_with fail
  refine (prefix_01 _ hL).mono ?_
  rintro e w1 ⟨rfl, hb1⟩
  go_wp2_with fail
  go_ret2
  exact ⟨rfl, hb1⟩
set_option maxHeartbeats 1000000 in
theorem sparse_01 (w : World) (hL : Laid w) : Calls Tryz.prog 24 #[.string s01, .int .i64 64] w fun e w' => e = .returned (.tuple #[.float .f64 4591870180066957722, .nilIface]) ∧ Below w.heap.size w w' := by
  go_enter Tryz.func24, Tryz.ntmps24
  go_wp2_with fail
  refine (iparse_01 _ hL).mono ?_
  rintro e w1 ⟨rfl, hb1⟩
  go_wp2_with fail
  go_ret2
  exact ⟨rfl, hb1⟩
set_option maxHeartbeats 1000000 in
theorem parse_01 (w : World) (hL : Laid w) : Calls Tryz.prog 10 #[.string s01] w fun e w' => e = .returned (.tuple #[.float .f64 4591870180066957722, .int .i64 0]) ∧ Below w.heap.size w w' := by
  go_enter Tryz.func10, Tryz.ntmps10
  go_wp2_with fail
  refine (formed_01 _).mono ?_
  rintro e w1 ⟨rfl, hb1⟩
  have hL1 := hL.below hb1
  go_wp2_with fail
  refine (sparse_01 _ hL1).mono ?_
  rintro e w2 ⟨rfl, hb2⟩
  go_wp2_with fail
  go_ret2
  exact ⟨rfl, hb1.trans (hb2.mono hb1.size)⟩
end Go.Proofs.YtjpiplplohapnaaGreatDoor
/- Walks at the inputs of 'awake' (3): bits, classes, small helpers. -/
namespace Go.Proofs.YtjpiplplohapnaaGreatDoor
open Go.RowKit Go.Proofs.YtjpiplplohapnaaGreatDoorW.PrintWords
theorem bits43 (b : Nat) (W : World) : (callFunc 43 #[.float .f64 b]).run Tryz.prog W = .ok (.value (.int .u64 b)) W := by kernel_rfl
theorem bits119 (b : Nat) (W : World) : (callFunc 119 #[.float .f64 b]).run Tryz.prog W = .ok (.value (.int .u64 b)) W := by kernel_rfl
theorem from151 (b : Nat) (W : World) : (callFunc 151 #[.int .u64 b]).run Tryz.prog W = .ok (.value (.float .f64 b)) W := by kernel_rfl
theorem apiBits (b : Nat) (w : World) : Calls Tryz.prog 16 #[.float .f64 b] w fun e w' => e = .returned (.int .u64 b) ∧ w' = w := by
  have h := bits43 b
  go_enter Tryz.func16, Tryz.ntmps16
  go_wp2_with fail
  go_ret
  exact ⟨rfl, rfl⟩
theorem size_calls (b : Nat) (r : Int) (hr : Go.bits .andNot .u64 (b : Int) 9223372036854775808 = r) (w : World) : Calls Tryz.prog 73 #[.float .f64 b] w fun e w' => e = .returned (.int .u64 r) ∧ w' = w := by
  go_enter Tryz.func73, Tryz.ntmps73
  go_wp2_with fail
  refine (apiBits b _).mono ?_
  rintro e w' ⟨rfl, rfl⟩
  go_wp2_with fail
  go_ret
  exact ⟨rfl, rfl⟩
set_option maxRecDepth 100000 in
theorem class_375 (w : World) : Calls Tryz.prog 66 #[.float .f64 4600427019358961664] w fun e w' => e = .returned (.int .i64 3) ∧ w' = w := by
  go_enter Tryz.func66, Tryz.ntmps66
  go_wp2_with fail
  refine (size_calls 4600427019358961664 4600427019358961664 (by decide +kernel) _).mono ?_
  rintro e w' ⟨rfl, rfl⟩
  go_wp2_with fail
  go_ret
  exact ⟨rfl, rfl⟩
theorem class_15 (w : World) : Calls Tryz.prog 66 #[.float .f64 4609434218613702656] w fun e w' => e = .returned (.int .i64 3) ∧ w' = w := by
  go_enter Tryz.func66, Tryz.ntmps66
  go_wp2_with fail
  refine (size_calls 4609434218613702656 4609434218613702656 (by decide +kernel) _).mono ?_
  rintro e w' ⟨rfl, rfl⟩
  go_wp2_with fail
  go_ret
  exact ⟨rfl, rfl⟩
theorem number_375 (w : World) : Calls Tryz.prog 30 #[.float .f64 4600427019358961664] w fun e w' => e = .returned (.bool true) ∧ w' = w := by
  go_enter Tryz.func30, Tryz.ntmps30
  go_wp2_with fail
  refine (class_375 _).mono ?_
  rintro e w' ⟨rfl, rfl⟩
  go_wp2_with fail
  go_ret
  exact ⟨rfl, rfl⟩
theorem log10_calls (x r : Int) (h : PText.strconv_log10Pow2.f x = some r) (w : World) : Calls Tryz.prog 126 #[.int .i64 x] w fun e w' => e = .returned (.int .i64 r) ∧ Below w.heap.size w w' :=
  (PText.strconv_log10Pow2.calls x r w h).mono fun _ _ ⟨h1, h2⟩ => ⟨h1, h2.below⟩
theorem log2_calls (x r : Int) (h : PText.strconv_log2Pow10.f x = some r) (w : World) : Calls Tryz.prog 159 #[.int .i64 x] w fun e w' => e = .returned (.int .i64 r) ∧ Below w.heap.size w w' :=
  (PText.strconv_log2Pow10.calls x r w h).mono fun _ _ ⟨h1, h2⟩ => ⟨h1, h2.below⟩
theorem p10_351 {w : World} (h : Laid w) : w.cell? ⟨11, 702, none⟩ = some (.int .u64 18014398509481984000) ∧ w.cell? ⟨11, 703, none⟩ = some (.int .u64 0) := by
  constructor
  · rw [h.p10Cell]; kernel_rfl
  · rw [h.p10Cell]; kernel_rfl
end Go.Proofs.YtjpiplplohapnaaGreatDoor
/- Walks at every float (1): bits, class, number, negative, split. -/
namespace Go.Proofs.YtjpiplplohapnaaGreatDoor
open Go.RowKit Go.Proofs.YtjpiplplohapnaaGreatDoorW.PrintWords

theorem wrap_i64_in {n : Int} (h1 : -9223372036854775808 ≤ n) (h2 : n ≤ 9223372036854775807) : IntKind.i64.wrap n = n := by
  rw [Go.IntKind.wrap_i64]; omega
theorem wrap_u64_in {n : Int} (h1 : 0 ≤ n) (h2 : n < 18446744073709551616) : IntKind.u64.wrap n = n := by
  rw [Go.IntKind.wrap_u64]; omega
/-- A float's bits without the sign. -/
def sz (b : Nat) : Nat := b % 9223372036854775808
theorem sz_bits (b : Nat) (hb : b < 18446744073709551616) : Go.bits .andNot .u64 (b : Int) 9223372036854775808 = (sz b : Nat) := by
  have := Go.u64_andNot_nat b 9223372036854775808 hb (by omega)
  rw [show ((9223372036854775808 : Nat) : Int) = 9223372036854775808 from rfl] at this
  rw [this]
  have := Nat.and_two_pow_sub_one_eq_mod b 63
  unfold sz
  exact congrArg _ this

/-- The class of bits without a sign. -/
def cls (r : Int) : Int := if r = 0 then 1 else if r < 4503599627370496 then 2 else if r < 9218868437227405312 then 3 else if r = 9218868437227405312 then 4 else 5
set_option maxRecDepth 100000 in
theorem class_calls (b : Nat) (r : Int) (hr : Go.bits .andNot .u64 (b : Int) 9223372036854775808 = r) (w : World) : Calls Tryz.prog 66 #[.float .f64 b] w fun e w' => e = .returned (.int .i64 (cls r)) ∧ w' = w := by
  go_enter Tryz.func66, Tryz.ntmps66
  go_wp2_with fail
  refine (size_calls b r hr _).mono ?_
  rintro e w' ⟨rfl, rfl⟩
  clear hr
  go_wp2_with fail
  all_goals (go_ret; refine ⟨congrArg (fun c => Ending.returned (.int .i64 c)) ?_, rfl⟩; simp only [beq_iff_eq, beq_eq_false_iff_ne, ne_eq] at *; unfold cls; repeat' split)
  all_goals omega

set_option maxRecDepth 100000 in
theorem negative_calls (b : Nat) (hb : b < 18446744073709551616) (hn : sz b ≤ 9218868437227405312) (w : World) : Calls Tryz.prog 48 #[.float .f64 b] w fun e w' => e = .returned (.bool (decide (9223372036854775808 ≤ b))) ∧ w' = w := by
  have hr := sz_bits b hb
  have hc : ¬ cls (sz b : Nat) = 5 := by
    unfold cls
    repeat' split
    all_goals omega
  have hcc : (cls (sz b : Nat) != 5) = true := by simp [hc]
  go_enter Tryz.func48, Tryz.ntmps48
  go_wp2_with fail
  refine (class_calls b _ hr _).mono ?_
  rintro e w' ⟨rfl, rfl⟩
  clear hr hc
  generalize cls (sz b : Nat) = c at *
  go_wp2_with fail
  refine (apiBits b _).mono ?_
  rintro e w' ⟨rfl, rfl⟩
  go_wp2_with fail
  go_ret
  refine ⟨congrArg (fun c => Ending.returned (.bool c)) ?_, rfl⟩
  show ((b : Int) / 9223372036854775808 == 1) = _
  by_cases h : 9223372036854775808 ≤ b
  · have : (b : Int) / 9223372036854775808 = 1 := by omega
    rw [this]; simp [h]
  · have : (b : Int) / 9223372036854775808 = 0 := by omega
    rw [this]; simp; omega

theorem number_calls (b : Nat) (hb : b < 18446744073709551616) (w : World) : Calls Tryz.prog 30 #[.float .f64 b] w fun e w' => e = .returned (.bool (decide (sz b < 9218868437227405312))) ∧ w' = w := by
  have hr := sz_bits b hb
  have hc : decide (cls (sz b : Nat) < 4) = decide (sz b < 9218868437227405312) := by
    unfold cls
    by_cases h : sz b < 9218868437227405312
    · rw [decide_eq_true h]
      repeat' split
      all_goals first | rfl | omega
    · rw [decide_eq_false h]
      repeat' split
      all_goals first | rfl | omega
  go_enter Tryz.func30, Tryz.ntmps30
  go_wp2_with fail
  refine (class_calls b _ hr _).mono ?_
  rintro e w' ⟨rfl, rfl⟩
  clear hr
  generalize cls (sz b : Nat) = c at *
  go_wp2_with fail
  go_ret
  exact ⟨rfl, rfl⟩

/-- A number's whole and exponent, without the sign. -/
def spM (u : Nat) : Nat := if u < 4503599627370496 then u else u % 4503599627370496 + 4503599627370496
def spE (u : Nat) : Int := if u = 0 then 0 else if u < 4503599627370496 then -1074 else (u / 4503599627370496 : Nat) - 1075
def neg (b : Nat) : Bool := decide (9223372036854775808 ≤ b)
set_option maxRecDepth 100000 in
theorem split_zero (b : Nat) (hb : b < 18446744073709551616) (h0 : sz b = 0) (w : World) : Calls Tryz.prog 47 #[.float .f64 b] w fun e w' => e = .returned (.tuple #[.int .i64 0, .int .i64 0, .bool true]) ∧ w' = w := by
  have hr := sz_bits b hb
  rw [h0] at hr
  go_enter Tryz.func47, Tryz.ntmps47
  go_wp2_with fail
  refine (size_calls b _ hr _).mono ?_
  rintro e w' ⟨rfl, rfl⟩
  go_wp2_with fail
  refine (class_calls b _ hr _).mono ?_
  rintro e w' ⟨rfl, rfl⟩
  rw [show cls (0 : Nat) = 1 from rfl]
  go_wp2_with fail
  go_ret3
  exact ⟨rfl, rfl⟩
set_option maxRecDepth 100000 in
theorem split_sub (b : Nat) (hb : b < 18446744073709551616) (h0 : 0 < sz b) (h1 : sz b < 4503599627370496) (w : World) : Calls Tryz.prog 47 #[.float .f64 b] w fun e w' => e = .returned (.tuple #[.int .i64 (if neg b then -(sz b : Int) else sz b), .int .i64 (-1074), .bool true]) ∧ w' = w := by
  have hr := sz_bits b hb
  have hn := negative_calls b hb (by omega)
  have hc : cls (sz b : Nat) = 2 := by
    unfold cls
    rw [if_neg (by omega), if_pos (by omega)]
  have hcl := class_calls b _ hr
  have hsz := size_calls b _ hr
  rw [hc] at hcl
  have hw1 : IntKind.i64.wrap (sz b : Int) = sz b := wrap_i64_in (by omega) (by omega)
  have hw2 : IntKind.i64.wrap (-(sz b : Int)) = -(sz b : Int) := wrap_i64_in (by omega) (by omega)
  generalize (sz b : Int) = u at *
  unfold neg
  generalize decide (9223372036854775808 ≤ b) = ng at *
  clear hr hc
  go_enter Tryz.func47, Tryz.ntmps47
  go_wp2_with fail
  refine (hsz _).mono ?_
  rintro e w' ⟨rfl, rfl⟩
  go_wp2_with fail
  refine (hcl _).mono ?_
  rintro e w' ⟨rfl, rfl⟩
  go_wp2_with fail
  refine (hn _).mono ?_
  rintro e w' ⟨rfl, rfl⟩
  go_wp2_with fail
  all_goals (go_ret3; exact ⟨by first | rfl | simp [*], rfl⟩)
theorem norm_facts (u : Nat) (hu : u < 9218868437227405312) : Go.bits .and .u64 (u : Int) 4503599627370495 = ((u % 4503599627370496 : Nat) : Int) ∧
    Go.bits .or .u64 ((u % 4503599627370496 : Nat) : Int) 4503599627370496 = ((u % 4503599627370496 + 4503599627370496 : Nat) : Int) := by
  constructor
  · have := Go.u64_and_nat u 4503599627370495 (by omega) (by omega)
    rw [show ((4503599627370495 : Nat) : Int) = 4503599627370495 from rfl] at this
    rw [this]
    exact congrArg _ (Nat.and_two_pow_sub_one_eq_mod u 52)
  · have := Go.u64_or_nat (u % 4503599627370496) 4503599627370496 (by omega) (by omega)
    rw [show ((4503599627370496 : Nat) : Int) = 4503599627370496 from rfl] at this
    rw [this]
    refine congrArg _ ?_
    rw [Nat.or_comm, Go.nat_join 52 4503599627370496 (u % 4503599627370496) (by decide) (by omega)]
    omega
set_option maxRecDepth 100000 in
theorem split_norm (b : Nat) (hb : b < 18446744073709551616) (h0 : 4503599627370496 ≤ sz b) (h1 : sz b < 9218868437227405312) (w : World) : Calls Tryz.prog 47 #[.float .f64 b] w fun e w' => e = .returned (.tuple #[.int .i64 (if neg b then -(spM (sz b) : Int) else spM (sz b)), .int .i64 (spE (sz b)), .bool true]) ∧ w' = w := by
  have hr := sz_bits b hb
  have hn := negative_calls b hb (by omega)
  have hc : cls (sz b : Nat) = 3 := by
    unfold cls
    rw [if_neg (by omega), if_neg (by omega), if_pos (by omega)]
  have hcl := class_calls b _ hr
  have hsz := size_calls b _ hr
  rw [hc] at hcl
  obtain ⟨a1, a2⟩ := norm_facts (sz b) h1
  have hm : spM (sz b) = sz b % 4503599627370496 + 4503599627370496 := by unfold spM; rw [if_neg (by omega)]
  have he : spE (sz b) = ((sz b : Nat) : Int) / 4503599627370496 - 1075 := by unfold spE; rw [if_neg (by omega), if_neg (by omega)]; omega
  have hw1 : IntKind.i64.wrap (spM (sz b) : Int) = spM (sz b) := wrap_i64_in (by omega) (by omega)
  have hw2 : IntKind.i64.wrap (-(spM (sz b) : Int)) = -(spM (sz b) : Int) := wrap_i64_in (by omega) (by omega)
  have hw3 : IntKind.i64.wrap (((sz b : Nat) : Int) / 4503599627370496) = ((sz b : Nat) : Int) / 4503599627370496 := wrap_i64_in (by omega) (by omega)
  have hw4 : IntKind.i64.wrap (((sz b : Nat) : Int) / 4503599627370496 - 1075) = spE (sz b) := by rw [he]; exact wrap_i64_in (by omega) (by omega)
  rw [← hm] at a2
  clear he hm
  generalize (spM (sz b) : Int) = m at *
  generalize ((sz b % 4503599627370496 : Nat) : Int) = mm at *
  generalize spE (sz b) = ex at *
  generalize ((sz b : Nat) : Int) = u at *
  unfold neg
  generalize decide (9223372036854775808 ≤ b) = ng at *
  clear hr hc
  go_enter Tryz.func47, Tryz.ntmps47
  go_wp2_with fail
  refine (hsz _).mono ?_
  rintro e w' ⟨rfl, rfl⟩
  go_wp2_with fail
  refine (hcl _).mono ?_
  rintro e w' ⟨rfl, rfl⟩
  go_wp2_with fail
  refine (hn _).mono ?_
  rintro e w' ⟨rfl, rfl⟩
  go_wp2_with fail
  all_goals (go_ret3; exact ⟨by first | rfl | simp [*], rfl⟩)
set_option maxRecDepth 100000 in
theorem split_not (b : Nat) (hb : b < 18446744073709551616) (h1 : ¬ sz b < 9218868437227405312) (w : World) : Calls Tryz.prog 47 #[.float .f64 b] w fun e w' => e = .returned (.tuple #[.int .i64 0, .int .i64 0, .bool false]) ∧ w' = w := by
  have hr := sz_bits b hb
  have hc : cls (sz b : Nat) = 4 ∨ cls (sz b : Nat) = 5 := by
    unfold cls
    rw [if_neg (by omega), if_neg (by omega), if_neg (by omega)]
    split
    · exact Or.inl rfl
    · exact Or.inr rfl
  have hcl := class_calls b _ hr
  have hsz := size_calls b _ hr
  generalize cls (sz b : Nat) = c at *
  generalize ((sz b : Nat) : Int) = u at *
  clear hr
  rcases hc with rfl | rfl
  all_goals
    go_enter Tryz.func47, Tryz.ntmps47
    go_wp2_with fail
    refine (hsz _).mono ?_
    rintro e w' ⟨rfl, rfl⟩
    go_wp2_with fail
    refine (hcl _).mono ?_
    rintro e w' ⟨rfl, rfl⟩
    go_wp2_with fail
    go_ret3
    exact ⟨rfl, rfl⟩
end Go.Proofs.YtjpiplplohapnaaGreatDoor
/- Walks of ParseFloat (3): atofHex, its answer as plain words. -/
namespace Go.Proofs.YtjpiplplohapnaaGreatDoor
open Go.RowKit Go.Proofs.YtjpiplplohapnaaGreatDoorW.PrintWords
namespace Ah
/-- A whole halved, its last bit sticking. -/
def sh1 (m : Nat) : Nat := if m % 2 = 1 then m / 2 / 2 * 2 + 1 else m / 2
def ah1 : Nat → Nat → Int → Nat × Int
  | 0, m, e => (m, e)
  | f + 1, m, e => if m ≠ 0 ∧ m < 18014398509481984 then ah1 f (2 * m) (e - 1) else (m, e)
def ah2 : Nat → Nat → Int → Nat × Int
  | 0, m, e => (m, e)
  | f + 1, m, e => if 36028797018963968 ≤ m then ah2 f (sh1 m) (e + 1) else (m, e)
def ah3 : Nat → Nat → Int → Nat × Int
  | 0, m, e => (m, e)
  | f + 1, m, e => if 1 < m ∧ e < -1024 then ah3 f (sh1 m) (e + 1) else (m, e)
def up3 (m : Nat) : Prop := m % 4 = 3 ∨ (m % 4 = 2 ∧ m / 4 % 2 = 1)
instance (m : Nat) : Decidable (up3 m) := inferInstanceAs (Decidable (_ ∨ _))
def ahR (m : Nat) (e : Int) : Nat × Int := if up3 m then (if m / 4 + 1 = 9007199254740992 then (4503599627370496, e + 3) else (m / 4 + 1, e + 2)) else (m / 4, e + 2)
def ahB (ng : Bool) (m : Nat) (e : Int) : Nat × Bool :=
  let e' := if m < 4503599627370496 then -1023 else e
  if 1023 < e' then ((if ng then 9223372036854775808 else 0) + 9218868437227405312, true)
  else ((if ng then 9223372036854775808 else 0) + (((e' + 1023) % 2048).toNat * 4503599627370496 + m % 4503599627370496), false)
def ah (m : Nat) (e : Int) (ng tr : Bool) : Nat × Bool :=
  let a := ah1 64 m (e + 52)
  let b := ah2 64 (if tr then (if a.1 % 2 = 1 then a.1 else a.1 + 1) else a.1) a.2
  let c := ah3 64 b.1 b.2
  let d := ahR c.1 c.2
  ahB ng d.1 d.2
end Ah
open Ah
theorem and1_bits (x : Nat) (hx : x < 18446744073709551616) : Go.bits .and .u64 (x : Int) 1 = ((x % 2 : Nat) : Int) := by
  have := Go.u64_and_nat x 1 hx (by omega)
  rw [show ((1 : Nat) : Int) = 1 from rfl] at this
  rw [this]
  exact congrArg _ (Nat.and_two_pow_sub_one_eq_mod x 1)
theorem or1_nat (h y : Nat) (hy : y < 2) : h ||| y = if y = 1 then h / 2 * 2 + 1 else h := by
  by_cases h1 : y = 1
  · subst h1
    rw [if_pos rfl]
    have e : h = h / 2 * 2 + h % 2 := by omega
    have e2 : h / 2 * 2 ||| h % 2 = h / 2 * 2 + h % 2 := Go.nat_join1 _ _ (by omega) (by omega)
    rcases Nat.mod_two_eq_zero_or_one h with h0 | h0
    · rw [h0] at e
      conv => lhs; rw [e]
      exact Go.nat_join1 _ _ (by omega) (by omega)
    · rw [h0] at e e2
      conv => lhs; rw [e, ← e2, Nat.or_assoc]
      rw [show (1 ||| 1 : Nat) = 1 from rfl]
      exact Go.nat_join1 _ _ (by omega) (by omega)
  · rw [if_neg h1, show y = 0 by omega, Nat.or_zero]
theorem sh1_bits (x y : Nat) (hx : x < 18446744073709551616) (hy : y = x % 2) : Go.bits .or .u64 ((x : Int) / 2) (y : Int) = ((sh1 x : Nat) : Int) := by
  have h1 : (x : Int) / 2 = ((x / 2 : Nat) : Int) := by omega
  rw [h1, Go.u64_or_nat (x / 2) y (by omega) (by omega), or1_nat _ _ (by omega), hy]
  rfl
theorem sh1_le (x : Nat) : sh1 x ≤ x / 2 + 1 ∧ x / 2 ≤ sh1 x := by unfold sh1; split <;> omega
theorem sh1_half (x f : Nat) (h : x < 2 ^ (f + 1)) (hf : 1 ≤ f) : sh1 x < 2 ^ f := by
  obtain ⟨g, rfl⟩ : ∃ g, f = g + 1 := ⟨f - 1, by omega⟩
  rw [Nat.pow_succ] at h
  have e : 2 ^ (g + 1) = 2 ^ g * 2 := Nat.pow_succ ..
  unfold sh1
  split <;> omega
/-- What the walks of ParseFloat ask besides: two variables' blocks bear no mark. -/
structure LaidB (w : World) : Prop where
  laid : Laid w
  b5 : ∃ cs t, w.heap[5]? = some (.cells cs t (0, 0))
  b6 : ∃ cs t, w.heap[6]? = some (.cells cs t (0, 0))
theorem LaidB.below {w w' : World} (h : LaidB w) (hb : Below w.heap.size w w') : LaidB w' := by
  have hs := h.laid.size
  obtain ⟨c5, t5, h5⟩ := h.b5
  obtain ⟨c6, t6, h6⟩ := h.b6
  exact ⟨h.laid.below hb, ⟨c5, t5, (hb.block 5 (by omega)).trans h5⟩, ⟨c6, t6, (hb.block 6 (by omega)).trans h6⟩⟩
theorem info182 : ∃ j, Tryz.prog.info? 182 = some j ∧ j.size ≠ 0 := by
  have h : (Tryz.prog.info? 182).map (fun j => decide (j.size ≠ 0)) = some true := by kernel_rfl
  cases hj : Tryz.prog.info? 182 with
  | none => rw [hj] at h; cases h
  | some j => rw [hj] at h; simp at h; exact ⟨j, rfl, h⟩
theorem info_ne {w : World} (h : LaidB w) : (binOp .eql 180 (.pointer (some ⟨6, 0, none⟩)) (.pointer (some ⟨5, 0, none⟩))).run Tryz.prog w = .ok (.bool false) w := by
  obtain ⟨c5, t5, h5⟩ := h.b5
  obtain ⟨c6, t6, h6⟩ := h.b6
  obtain ⟨j, hj, hs⟩ := info182
  exact run_eql_ptr_other w (te := 182) (by kernel_rfl) hj hs (by simp) h6 h5
/-- A float and perhaps the range's error. -/
def AhPost (w : World) (q : Nat × Bool) (r : Ending) (w' : World) : Prop := r = .returned (.tuple #[.float .f64 q.1, if q.2 then .iface 113 (.int .i64 1) else .nilIface]) ∧ Below w.heap.size w w'
set_option maxRecDepth 100000 in
set_option maxHeartbeats 4000000 in
theorem atofHex_calls (s : ByteArray) (m : Nat) (hm : m < 18446744073709551616) (e : Int) (he1 : -300000 ≤ e) (he2 : e ≤ 300000) (ng tr : Bool) (w : World) (hLB : LaidB w) :
    Calls Tryz.prog 143 #[.string s, .pointer (some ⟨6, 0, none⟩), .int .u64 m, .int .i64 e, .bool ng, .bool tr] w (AhPost w (ah m e ng tr)) := by
  have hL := hLB.laid
  obtain ⟨i0, i1, i2⟩ := hL.infCell
  have hw1 : IntKind.i64.wrap (e + 52) = e + 52 := by rw [Go.IntKind.wrap_i64]; omega
  go_enter Tryz.func143, Tryz.ntmps143
  go_wp2_with fail
  go_quiet (fail)
  have hb1 : Below w.heap.size w (w.drewN nq) := below_drewN (Below.refl _ _) _
  have hL1 := hL.below hb1
  have HLB := Lib.hid (hLB.below hb1)
  have hz1 : w.heap.size ≤ (w.drewN nq).heap.size := hb1.size
  clear i0 i1 i2 hL hLB
  generalize hW : w.drewN nq = w1 at *
  clear hW
  obtain ⟨i0, i1, i2⟩ := hL1.infCell
  go_upto_block 0 with (fail)
  go_cut [2, 3] (fun v2 v3 w' => v2 = .int .u64 ((ah1 64 m (e + 52)).1 : Int) ∧ v3 = .int .i64 (ah1 64 m (e + 52)).2 ∧ (ah1 64 m (e + 52)).1 < 18446744073709551616 ∧ -400000 ≤ (ah1 64 m (e + 52)).2 ∧ (ah1 64 m (e + 52)).2 ≤ 400000 ∧ w1 = w')
  case first =>
    go_wp2_with fail
    go_loopg [2, 3] 64 (fun f v2 v3 w' => ∃ (x : Nat) (y : Int), v2 = .int .u64 x ∧ v3 = .int .i64 y ∧ Hid (ah1 f x y = ah1 64 m (e + 52)) ∧ (x = 0 ∨ 18014398509481984 ≤ x * 2 ^ f) ∧ x < 18446744073709551616 ∧ e - 12 + f ≤ y ∧ y ≤ e + 52 ∧ f ≤ 64 ∧ w1 = w')
    case atStart => exact ⟨m, e + 52, rfl, rfl, Lib.hid rfl, by omega, hm, by omega, by omega, by omega, rfl⟩
    case round =>
      obtain ⟨x, y, rfl, rfl, HX, hx0, hx64, hy1, hy2, hf, rfl⟩ := hrel
      by_cases hx : x ≠ 0 ∧ x < 18014398509481984
      · obtain ⟨g, rfl⟩ : ∃ g, gk = g + 1 := by
          cases gk with
          | zero => simp at hx0; omega
          | succ g => exact ⟨g, rfl⟩
        have HX' := HX.out
        rw [ah1, if_pos hx] at HX'
        have HY := Lib.hid HX'
        have g1 : ((x : Int) != 0) = true := by simp; omega
        have g2 : ((x : Int) / 18014398509481984 == 0) = true := by simp; omega
        have g3 : IntKind.u64.wrap ((x : Int) * 2) = (x : Int) * 2 := by rw [Go.IntKind.wrap_u64]; omega
        have g4 : IntKind.i64.wrap (y - 1) = y - 1 := by rw [Go.IntKind.wrap_i64]; omega
        have hp : 18014398509481984 ≤ 2 * x * 2 ^ g := by
          rcases hx0 with h | h
          · omega
          · rw [Nat.pow_succ] at h; rw [Nat.mul_comm 2 x, Nat.mul_assoc, Nat.mul_comm 2]; exact h
        have HP := Lib.hid hp
        clear HX HX' hx0 hp
        go_wp2_with fail
        go_roundg g
        case measure => omega
        case rel => exact ⟨2 * x, y - 1, congrArg (Value.int .u64) (by omega), rfl, HY, Or.inr HP.out, by omega, by omega, by omega, by omega, rfl⟩
      · have HX' := HX.out
        have hst : ah1 gk x y = (x, y) := by
          cases gk with
          | zero => rfl
          | succ g => rw [ah1, if_neg hx]
        rw [hst] at HX'
        have HY := Lib.hid HX'
        clear HX HX' hst hx0
        by_cases hz : x = 0
        · have g1 : ((x : Int) != 0) = false := by simp [hz]
          clear hx
          go_wp2_with fail
          go_meet
          case rel => rw [← HY.out]; exact ⟨rfl, rfl, hx64, by dsimp only; omega, by dsimp only; omega, rfl⟩
        · have g1 : ((x : Int) != 0) = true := by simp; omega
          have g2 : ((x : Int) / 18014398509481984 == 0) = false := by simp; omega
          clear hx hz
          go_wp2_with fail
          go_meet
          case rel => rw [← HY.out]; exact ⟨rfl, rfl, hx64, by dsimp only; omega, by dsimp only; omega, rfl⟩
  case rest =>
    obtain ⟨rfl, rfl, hm1, he3, he4, rfl⟩ := hcut
    obtain ⟨a, hA⟩ : ∃ a, a = ah1 64 m (e + 52) := ⟨_, rfl⟩
    rw [← hA] at hm1 he3 he4 ⊢
    have HA := Lib.hid hA
    clear hA hw1 he1 he2
    obtain ⟨m1, e1⟩ := a
    dsimp only at hm1 he3 he4 ⊢
    obtain ⟨m2, hm2⟩ : ∃ m2 : Nat, m2 = (if tr then (if m1 % 2 = 1 then m1 else m1 + 1) else m1) := ⟨_, rfl⟩
    have hm2b : m2 < 18446744073709551616 := by rw [hm2]; cases tr <;> simp <;> (try split) <;> omega
    have HM2 := Lib.hid hm2
    go_upto_region 7 with (fail)
    go_step
    go_upto_if 58 with (fail)
    go_cut [2] (fun v2 w' => v2 = .int .u64 (m2 : Int) ∧ w1 = w')
    case first =>
      cases tr
      · have hm2' : m2 = m1 := by rw [hm2]; rfl
        clear hm2
        have H := Lib.hid hm2'
        clear hm2'
        go_wp2_with fail
        go_meet
        case rel => exact ⟨congrArg (fun x : Nat => Value.int .u64 (x : Int)) H.out.symm, rfl⟩
      · have hor : Go.bits .or .u64 (m1 : Int) 1 = (m2 : Int) := by
          have := Go.u64_or_nat m1 1 hm1 (by omega)
          rw [show ((1 : Nat) : Int) = 1 from rfl] at this
          rw [this, or1_nat _ _ (by omega), if_pos rfl, hm2, if_pos rfl]
          congr 1
          split <;> omega
        clear hm2
        go_wp2_with fail
        go_meet
        case rel => exact ⟨rfl, rfl⟩
    case rest =>
      obtain ⟨rfl, rfl⟩ := hcut
      clear hm2 hm1
      obtain ⟨b, hB⟩ : ∃ b, b = ah2 64 m2 e1 := ⟨_, rfl⟩
      have HB := Lib.hid hB
      clear hB
      obtain ⟨m3, e3⟩ := b
      go_upto_block 2 with (fail)
      go_cut [2, 3] (fun v2 v3 w' => v2 = .int .u64 (m3 : Int) ∧ v3 = .int .i64 e3 ∧ m3 < 36028797018963968 ∧ -400000 ≤ e3 ∧ e3 ≤ 500000 ∧ w1 = w')
      case first =>
        go_wp2_with fail
        go_loopg [2, 3] 64 (fun f v2 v3 w' => ∃ (x : Nat) (y : Int), v2 = .int .u64 x ∧ v3 = .int .i64 y ∧ Hid (ah2 f x y = (m3, e3)) ∧ Hid (x < 2 ^ (f + 55)) ∧ x < 18446744073709551616 ∧ e1 ≤ y ∧ y + f ≤ e1 + 64 ∧ w1 = w')
        case atStart => exact ⟨m2, e1, rfl, rfl, Lib.hid HB.out.symm, Lib.hid (Nat.lt_of_lt_of_le hm2b (by decide)), hm2b, by omega, by omega, rfl⟩
        case round =>
          obtain ⟨x, y, rfl, rfl, HX, HF, hx64, hy1, hy2, rfl⟩ := hrel
          by_cases hx : 36028797018963968 ≤ x
          · obtain ⟨g, rfl⟩ : ∃ g, gk = g + 1 := by
              cases gk with
              | zero => have := HF.out; simp at this; omega
              | succ g => exact ⟨g, rfl⟩
            have HX' := HX.out
            rw [ah2, if_pos hx] at HX'
            have HY := Lib.hid HX'
            have HF' := Lib.hid (sh1_half x (g + 55) (by have := HF.out; rw [show g + 55 + 1 = g + 1 + 55 by omega]; exact this) (by omega))
            obtain ⟨q, hq⟩ : ∃ q, q = x % 2 := ⟨_, rfl⟩
            have hb1 := and1_bits x hx64
            have hb2 := sh1_bits x q hx64 hq
            rw [← hq] at hb1
            have hle := sh1_le x
            generalize sh1 x = z at *
            have g1 : ((x : Int) / 36028797018963968 != 0) = true := by simp; omega
            have g4 : IntKind.i64.wrap (y + 1) = y + 1 := by rw [Go.IntKind.wrap_i64]; omega
            clear HX HX' HF hq
            go_wp2_with fail
            go_roundg g
            case measure => omega
            case rel => exact ⟨z, y + 1, rfl, rfl, HY, HF', by omega, by omega, by omega, rfl⟩
          · have HX' := HX.out
            have hst : ah2 gk x y = (x, y) := by
              cases gk with
              | zero => rfl
              | succ g => rw [ah2, if_neg hx]
            rw [hst] at HX'
            have HY := Lib.hid HX'
            clear HX HX' hst HF
            have g1 : ((x : Int) / 36028797018963968 != 0) = false := by simp; omega
            go_wp2_with fail
            go_meet
            case rel =>
              have hh := HY.out
              simp only [Prod.mk.injEq] at hh
              obtain ⟨rfl, rfl⟩ := hh
              exact ⟨rfl, rfl, by omega, by omega, by omega, rfl⟩
      case rest =>
        obtain ⟨rfl, rfl, hm3, he5, he6, rfl⟩ := hcut
        obtain ⟨b, hC⟩ : ∃ b, b = ah3 64 m3 e3 := ⟨_, rfl⟩
        have HC := Lib.hid hC
        clear hC hm2b he3 he4
        obtain ⟨m4, e4⟩ := b
        go_upto_block 4 with (fail)
        go_cut [2, 3] (fun v2 v3 w' => v2 = .int .u64 (m4 : Int) ∧ v3 = .int .i64 e4 ∧ m4 < 36028797018963968 ∧ -400000 ≤ e4 ∧ e4 ≤ 600000 ∧ (m4 ≤ 1 ∨ -1024 ≤ e4) ∧ w1 = w')
        case first =>
          go_wp2_with fail
          go_loopg [2, 3] 64 (fun f v2 v3 w' => ∃ (x : Nat) (y : Int), v2 = .int .u64 x ∧ v3 = .int .i64 y ∧ Hid (ah3 f x y = (m4, e4)) ∧ Hid (x < 2 ^ (f + 1)) ∧ x < 36028797018963968 ∧ e3 ≤ y ∧ y + f ≤ e3 + 64 ∧ w1 = w')
          case atStart => exact ⟨m3, e3, rfl, rfl, Lib.hid HC.out.symm, Lib.hid (Nat.lt_of_lt_of_le hm3 (by decide)), hm3, by omega, by omega, rfl⟩
          case round =>
            obtain ⟨x, y, rfl, rfl, HX, HF, hx64, hy1, hy2, rfl⟩ := hrel
            by_cases hx : 1 < x ∧ y < -1024
            · obtain ⟨g, rfl⟩ : ∃ g, gk = g + 1 := by
                cases gk with
                | zero => have := HF.out; simp at this; omega
                | succ g => exact ⟨g, rfl⟩
              have HX' := HX.out
              rw [ah3, if_pos hx] at HX'
              have HY := Lib.hid HX'
              have HF' := Lib.hid (sh1_half x (g + 1) HF.out (by omega))
              obtain ⟨q, hq⟩ : ∃ q, q = x % 2 := ⟨_, rfl⟩
              have hb1 := and1_bits x (by omega)
              have hb2 := sh1_bits x q (by omega) hq
              rw [← hq] at hb1
              have hle := sh1_le x
              generalize sh1 x = z at *
              have g1 : (1 : Int) < x := by omega
              have g2 : y < -1024 := hx.2
              have g4 : IntKind.i64.wrap (y + 1) = y + 1 := by rw [Go.IntKind.wrap_i64]; omega
              clear HX HX' HF hq hx
              go_wp2_with fail
              go_roundg g
              case measure => omega
              case rel => exact ⟨z, y + 1, rfl, rfl, HY, HF', by omega, by omega, by omega, rfl⟩
            · have HX' := HX.out
              have hst : ah3 gk x y = (x, y) := by
                cases gk with
                | zero => rfl
                | succ g => rw [ah3, if_neg hx]
              rw [hst] at HX'
              have HY := Lib.hid HX'
              have hend : x ≤ 1 ∨ -1024 ≤ y := by omega
              clear HX HX' hst HF hx
              by_cases g1 : (1 : Int) < x
              · have g2 : ¬ y < -1024 := by omega
                have g3 : -1024 ≤ y := by omega
                have HE := Lib.hid hend
                clear hend
                go_wp2_with fail
                go_meet
                case rel =>
                  have hh := HY.out
                  simp only [Prod.mk.injEq] at hh
                  obtain ⟨rfl, rfl⟩ := hh
                  exact ⟨rfl, rfl, by omega, by omega, by omega, HE.out, rfl⟩
              · have g3 : (x : Int) ≤ 1 := by omega
                have HE := Lib.hid hend
                clear hend
                go_wp2_with fail
                go_meet
                case rel =>
                  have hh := HY.out
                  simp only [Prod.mk.injEq] at hh
                  obtain ⟨rfl, rfl⟩ := hh
                  exact ⟨rfl, rfl, by omega, by omega, by omega, HE.out, rfl⟩
        case rest =>
          obtain ⟨rfl, rfl, hm4, he7, he8, hend, rfl⟩ := hcut
          clear hm3 he5 he6
          obtain ⟨m6, e6, hR⟩ : ∃ m6 e6, (m6, e6) = ahR m4 e4 := ⟨_, _, rfl⟩
          have HR := Lib.hid hR
          have hm6 : m6 < 9007199254740992 ∧ (m6 < 4503599627370496 ∨ -1022 ≤ e6) ∧ -400000 ≤ e6 ∧ e6 ≤ 700000 := by
            unfold ahR at hR
            split at hR
            · split at hR
              · simp only [Prod.mk.injEq] at hR
                obtain ⟨rfl, rfl⟩ := hR
                omega
              · simp only [Prod.mk.injEq] at hR
                obtain ⟨rfl, rfl⟩ := hR
                omega
            · simp only [Prod.mk.injEq] at hR
              obtain ⟨rfl, rfl⟩ := hR
              omega
          obtain ⟨q0, hq0⟩ : ∃ q0, q0 = m4 % 4 := ⟨_, rfl⟩
          obtain ⟨m5, hm5⟩ : ∃ m5, m5 = m4 / 4 := ⟨_, rfl⟩
          obtain ⟨q1, hq1⟩ : ∃ q1, q1 = m5 % 2 := ⟨_, rfl⟩
          obtain ⟨q2, hq2⟩ : ∃ q2, q2 = q0 ||| q1 := ⟨_, rfl⟩
          have b1 : Go.bits .and .u64 (m4 : Int) 3 = (q0 : Int) := by
            have := Go.u64_and_nat m4 3 (by omega) (by omega)
            rw [show ((3 : Nat) : Int) = 3 from rfl] at this
            rw [this, hq0]
            exact congrArg _ (Nat.and_two_pow_sub_one_eq_mod m4 2)
          have b2 : (m4 : Int) / 4 = (m5 : Int) := by omega
          have b3 : Go.bits .and .u64 (m5 : Int) 1 = (q1 : Int) := by rw [and1_bits m5 (by omega), hq1]
          have b4 : Go.bits .or .u64 (q0 : Int) (q1 : Int) = (q2 : Int) := by rw [Go.u64_or_nat q0 q1 (by omega) (by omega), hq2]
          have hup : q2 = 3 ↔ up3 m4 := by
            have key : ∀ a : Fin 4, ∀ b : Fin 2, (a.val ||| b.val = 3 ↔ (a.val = 3 ∨ (a.val = 2 ∧ b.val = 1))) := by decide
            have key' : ∀ a b : Nat, a < 4 → b < 2 → (a ||| b = 3 ↔ (a = 3 ∨ (a = 2 ∧ b = 1))) := fun a b ha hb => key ⟨a, ha⟩ ⟨b, hb⟩
            unfold up3
            rw [hq2, key' q0 q1 (by omega) (by omega), hq0, hq1, hm5]
          have g5 : IntKind.i64.wrap (e4 + 2) = e4 + 2 := by rw [Go.IntKind.wrap_i64]; omega
          unfold ahR at hR
          clear hq2 hq0 hq1
          have Hm5 := Lib.hid hm5
          have HUP := Lib.hid hup
          have HRR := Lib.hid hR
          clear hm5 hup hR
          go_upto_if 103 with (fail)
          go_cut [2, 3] (fun v2 v3 w' => v2 = .int .u64 (m6 : Int) ∧ v3 = .int .i64 e6 ∧ w1 = w')
          case first =>
            have hm5 := Hm5.out
            have hup := HUP.out
            have hR := HRR.out
            by_cases hu : q2 = 3
            · rw [if_pos (hup.1 hu)] at hR
              have g6 : ((q2 : Int) == 3) = true := by simp [hu]
              have g7 : IntKind.u64.wrap ((m5 : Int) + 1) = (m5 : Int) + 1 := by rw [Go.IntKind.wrap_u64]; omega
              by_cases hc : m4 / 4 + 1 = 9007199254740992
              · rw [if_pos hc] at hR
                have hR2 := Lib.hid hR
                have g8 : ((m5 : Int) + 1 == 9007199254740992) = true := by simp; omega
                have g9 : ((m5 : Int) + 1) / 2 = 4503599627370496 := by omega
                have g10 : IntKind.i64.wrap (e4 + 2 + 1) = e4 + 3 := by rw [Go.IntKind.wrap_i64]; omega
                clear hR hc hu hup b1 b2 b3 b4 hm5
                go_wp2_with fail
                go_meet
                case rel =>
                  have hh := hR2.out
                  simp only [Prod.mk.injEq] at hh
                  obtain ⟨rfl, rfl⟩ := hh
                  exact ⟨rfl, rfl, rfl⟩
              · rw [if_neg hc] at hR
                have hR2 := Lib.hid hR
                have g8 : ((m5 : Int) + 1 == 9007199254740992) = false := by simp; omega
                have hm5' := Lib.hid hm5
                clear hR hc hu hup b1 b2 b3 b4 hm5
                go_wp2_with fail
                go_meet
                case rel =>
                  have hh := hR2.out
                  simp only [Prod.mk.injEq] at hh
                  obtain ⟨h1, h2⟩ := hh
                  rw [h1, h2, ← hm5'.out]
                  exact ⟨by go_num, rfl, rfl⟩
            · rw [if_neg (fun h => hu (hup.2 h))] at hR
              have g6 : ((q2 : Int) == 3) = false := by simp; omega
              have hR2 := Lib.hid hR
              have hm5' := Lib.hid hm5
              clear hR hu hup b1 b2 b3 b4 hm5
              go_wp2_with fail
              go_meet
              case rel =>
                have hh := hR2.out
                simp only [Prod.mk.injEq] at hh
                obtain ⟨h1, h2⟩ := hh
                rw [h1, h2, ← hm5'.out]
                exact ⟨rfl, rfl, rfl⟩
          case rest =>
            obtain ⟨rfl, rfl, rfl⟩ := hcut
            clear HRR HUP b1 b2 b3 b4 g5 Hm5 hm4 he7 he8 hend
            obtain ⟨e7, he7⟩ : ∃ e7, e7 = (if m6 < 4503599627370496 then -1023 else e6) := ⟨_, rfl⟩
            have he7b : -1023 ≤ e7 ∧ e7 ≤ 700000 := by rw [he7]; split <;> omega
            have HE7 := Lib.hid he7
            clear he7
            go_upto_if 124 with (fail)
            go_cut [3] (fun v3 w' => v3 = .int .i64 e7 ∧ w1 = w')
            case first =>
              by_cases hd : m6 < 4503599627370496
              · have g1 : ((m6 : Int) / 4503599627370496 == 0) = true := by simp; omega
                have hh := Lib.hid (HE7.out.trans (if_pos hd))
                clear hd
                go_wp2_with fail
                go_meet
                case rel => rw [hh.out]; exact ⟨rfl, rfl⟩
              · have g1 : ((m6 : Int) / 4503599627370496 == 0) = false := by simp; omega
                have hh := Lib.hid (HE7.out.trans (if_neg hd))
                clear hd
                go_wp2_with fail
                go_meet
                case rel => rw [hh.out]; exact ⟨rfl, rfl⟩
            case rest =>
              obtain ⟨rfl, rfl⟩ := hcut
              have hfin : ah m e ng tr = ahB ng m6 e6 := by
                unfold ah
                rw [← HA.out]
                dsimp only
                rw [← HM2.out, ← HB.out]
                dsimp only
                rw [← HC.out]
                dsimp only
                rw [← HR.out]
              have hfr := from151
              by_cases ho : 1023 < e7
              · have hres : ah m e ng tr = ((if ng then 9223372036854775808 else 0) + 9218868437227405312, true) := by
                  rw [hfin]; unfold ahB; rw [← HE7.out]; dsimp only; rw [if_pos ho]
                have HRES := Lib.hid hres
                clear hfin hres
                have k1 : Go.bits .and .u64 4503599627370496 4503599627370495 = 0 := by decide +kernel
                have k2 : Go.bits .and .i64 2047 2047 = 2047 := by decide +kernel
                have k3 : Go.bits .or .u64 0 9218868437227405312 = 9218868437227405312 := by decide +kernel
                have k4 : Go.bits .or .u64 9218868437227405312 9223372036854775808 = 18442240474082181120 := by decide +kernel
                have hf1 : ∀ W, (callFunc 151 #[.int .u64 9218868437227405312]).run Tryz.prog W = .ok (.value (.float .f64 9218868437227405312)) W := fun W => from151 9218868437227405312 W
                have hf2 : ∀ W, (callFunc 151 #[.int .u64 18442240474082181120]).run Tryz.prog W = .ok (.value (.float .f64 18442240474082181120)) W := fun W => from151 18442240474082181120 W
                clear hfr
                go_wp2_with fail
                go_quiet (fail)
                cases ng
                · have hpq := info_ne (HLB.out.below (below_drewN (Below.refl _ _) nq))
                  go_wp2_with fail
                  go_ret2
                  rw [HRES.out]
                  exact ⟨rfl, below_drewN hb1 _⟩
                · have HLB2 := Lib.hid (HLB.out.below (below_drewN (Below.refl _ _) nq))
                  have hb2 := below_drewN hb1 nq
                  clear i0 i1 i2 hL1 HLB hb1 hz1
                  generalize w1.drewN nq = w2 at *
                  have hL2 := HLB2.out.laid
                  obtain ⟨i0, i1, i2⟩ := hL2.infCell
                  clear hL2
                  go_wp2_with fail
                  go_quiet (fail)
                  have hpq := info_ne (HLB2.out.below (below_drewN (Below.refl _ _) nq))
                  go_wp2_with fail
                  go_ret2
                  rw [HRES.out]
                  exact ⟨rfl, below_drewN hb2 _⟩
              · obtain ⟨E, hE⟩ : ∃ E : Nat, E = (e7 + 1023).toNat := ⟨_, rfl⟩
                have hEb : E < 2048 := by omega
                obtain ⟨x, hx⟩ : ∃ x, x = m6 % 4503599627370496 := ⟨_, rfl⟩
                obtain ⟨y, hy⟩ : ∃ y, y = E * 4503599627370496 + x := ⟨_, rfl⟩
                have hres : ah m e ng tr = ((if ng then 9223372036854775808 else 0) + y, false) := by
                  rw [hfin]; unfold ahB; rw [← HE7.out]; dsimp only; rw [if_neg ho, hy, hx]
                  rw [show ((e7 + 1023) % 2048).toNat = E by omega]
                have HRES := Lib.hid hres
                have k1 : Go.bits .and .u64 (m6 : Int) 4503599627370495 = (x : Int) := by
                  have := Go.u64_and_nat m6 4503599627370495 (by omega) (by omega)
                  rw [show ((4503599627370495 : Nat) : Int) = 4503599627370495 from rfl] at this
                  rw [this, hx]
                  exact congrArg _ (Nat.and_two_pow_sub_one_eq_mod m6 52)
                have hE1 : IntKind.i64.wrap (e7 + 1023) = (E : Int) := by rw [Go.IntKind.wrap_i64]; omega
                have hE2 : e7 + 1023 = (E : Int) := by omega
                have k2 : Go.bits .and .i64 (E : Int) 2047 = (E : Int) := by
                  have key : ∀ E : Fin 2048, Go.bits .and .i64 (E.val : Int) 2047 = (E.val : Int) := by decide +kernel
                  exact key ⟨E, hEb⟩
                have k3 : IntKind.u64.wrap (E : Int) = (E : Int) := by rw [Go.IntKind.wrap_u64]; omega
                obtain ⟨z, hz⟩ : ∃ z, z = E * 4503599627370496 := ⟨_, rfl⟩
                have k4 : IntKind.u64.wrap ((E : Int) * 4503599627370496) = (z : Int) := by rw [Go.IntKind.wrap_u64]; omega
                have k5 : Go.bits .or .u64 (x : Int) (z : Int) = (y : Int) := by
                  rw [Go.u64_or_nat x z (by omega) (by omega), Nat.or_comm, Go.nat_join 52 z x (by rw [hz]; exact Nat.mul_mod_left _ _) (by rw [hx]; exact Nat.mod_lt _ (by decide)), hy, hz]
                have k6 : Go.bits .or .u64 (y : Int) 9223372036854775808 = ((9223372036854775808 + y : Nat) : Int) := by
                  have := Go.u64_or_nat y 9223372036854775808 (by omega) (by omega)
                  rw [show ((9223372036854775808 : Nat) : Int) = 9223372036854775808 from rfl] at this
                  rw [this, Nat.or_comm, Go.nat_join 63 9223372036854775808 y (by decide) (by omega)]
                have ho' : e7 ≤ 1023 := by omega
                clear hfin hres hE hx hy hz
                generalize hyy : 9223372036854775808 + y = yy at *
                go_wp2_with fail
                go_quiet (fail)
                cases ng
                · have hpq := info_ne (HLB.out.below (below_drewN (Below.refl _ _) nq))
                  go_wp2_with fail
                  go_ret2
                  rw [HRES.out, if_neg (by decide), Nat.zero_add]
                  exact ⟨rfl, below_drewN hb1 _⟩
                · have HLB2 := Lib.hid (HLB.out.below (below_drewN (Below.refl _ _) nq))
                  have hb2 := below_drewN hb1 nq
                  clear i0 i1 i2 hL1 HLB hb1 hz1
                  generalize w1.drewN nq = w2 at *
                  have hL2 := HLB2.out.laid
                  obtain ⟨i0, i1, i2⟩ := hL2.infCell
                  clear hL2
                  go_wp2_with fail
                  go_quiet (fail)
                  have hpq := info_ne (HLB2.out.below (below_drewN (Below.refl _ _) nq))
                  go_wp2_with fail
                  go_ret2
                  rw [HRES.out, if_pos trivial, hyy]
                  exact ⟨rfl, below_drewN hb2 _⟩
end Go.Proofs.YtjpiplplohapnaaGreatDoor
/- Plain: what the library's readFloat reads off a text, as a function of its bytes. -/
namespace Go.Proofs.YtjpiplplohapnaaGreatDoor.Rf

/-- The state of the reading of the digits. -/
structure St where
  us : Bool
  dot : Bool
  sd : Bool
  nd : Nat
  nm : Nat
  dp : Int
  m : Nat
  tr : Bool
def st0 : St := ⟨false, false, false, 0, 0, 0, 0, false⟩
def bs (hx : Bool) : Nat := if hx then 16 else 10
def mxd (hx : Bool) : Nat := if hx then 16 else 19
/-- A letter made small. -/
def lw (c : Nat) : Int := Go.bits .or .u8 (c : Int) 32

def stp (hx : Bool) (c : Nat) (t : St) : Option St :=
  if c = 95 then some { t with us := true }
  else if c = 46 then (if t.dot then none else some { t with dot := true, dp := t.nd })
  else if 48 ≤ c ∧ c ≤ 57 then
    if c = 48 ∧ t.nd = 0 then some { t with sd := true, dp := t.dp - 1 }
    else if t.nm < mxd hx then some { t with sd := true, nd := t.nd + 1, nm := t.nm + 1, m := t.m * bs hx + (c - 48) }
    else some { t with sd := true, nd := t.nd + 1, tr := t.tr || decide (c ≠ 48) }
  else if hx = true ∧ 97 ≤ lw c ∧ lw c ≤ 102 then
    if t.nm < mxd hx then some { t with sd := true, nd := t.nd + 1, nm := t.nm + 1, m := t.m * bs hx + (lw c - 87).toNat }
    else some { t with sd := true, nd := t.nd + 1, tr := true }
  else none

def scan (hx : Bool) : List UInt8 → St → St × List UInt8
  | [], t => (t, [])
  | c :: l, t => match stp hx c.toNat t with
    | some t' => scan hx l t'
    | none => (t, c :: l)

/-- What holds of a state behind k bytes. -/
structure Ok (hx : Bool) (t : St) (k : Nat) : Prop where
  nd : t.nd ≤ k
  nm : t.nm ≤ mxd hx
  m : t.m < bs hx ^ t.nm
  dp1 : -(k : Int) ≤ t.dp
  dp2 : t.dp ≤ k

theorem ok0 (hx : Bool) (k : Nat) : Ok hx st0 k := ⟨Nat.zero_le _, Nat.zero_le _, by show 0 < _; exact Nat.pow_pos (by cases hx <;> decide), by show -(k : Int) ≤ 0; omega, by show (0 : Int) ≤ k; omega⟩

theorem pow_max (hx : Bool) : bs hx ^ mxd hx ≤ 18446744073709551616 := by cases hx <;> decide
theorem Ok.room {hx : Bool} {t : St} {k d : Nat} (h : Ok hx t k) (hn : t.nm < mxd hx) (hd : d < bs hx) : t.m * bs hx + d < bs hx ^ (t.nm + 1) ∧ bs hx ^ (t.nm + 1) ≤ 18446744073709551616 := by
  have hb : 0 < bs hx := by cases hx <;> decide
  constructor
  · have : (t.m + 1) * bs hx ≤ bs hx ^ t.nm * bs hx := Nat.mul_le_mul_right _ h.m
    rw [← Nat.pow_succ, Nat.add_mul, Nat.one_mul, Nat.succ_eq_add_one] at this
    omega
  · exact Nat.le_trans (Nat.pow_le_pow_right hb hn) (pow_max hx)

theorem drop_at (l : List UInt8) (k : Nat) (h : k < l.length) : l.drop k = l[k] :: l.drop (k + 1) := List.drop_eq_getElem_cons h
theorem scan_some {hx : Bool} {l : List UInt8} {k : Nat} {t t' : St} (h : k < l.length) (hs : stp hx l[k].toNat t = some t') : scan hx (l.drop k) t = scan hx (l.drop (k + 1)) t' := by
  rw [drop_at l k h, scan, hs]
theorem scan_none {hx : Bool} {l : List UInt8} {k : Nat} {t : St} (h : k < l.length) (hs : stp hx l[k].toNat t = none) : scan hx (l.drop k) t = (t, l.drop k) := by
  rw [drop_at l k h, scan, hs]
theorem scan_end {hx : Bool} {l : List UInt8} {k : Nat} {t : St} (h : l.length ≤ k) : scan hx (l.drop k) t = (t, l.drop k) := by
  rw [List.drop_of_length_le h, scan]
theorem lw_range (c : Nat) (h : c < 256) : 0 ≤ lw c ∧ lw c ≤ 255 := by
  have key : ∀ c : Fin 256, 0 ≤ lw c.val ∧ lw c.val ≤ 255 := by decide +kernel
  exact key ⟨c, h⟩
theorem lw_digit (c : Nat) (h : c ≤ 57) (h2 : 48 ≤ c) : lw c = c := by
  have key : ∀ c : Fin 58, 48 ≤ c.val → lw c.val = (c.val : Int) := by decide +kernel
  exact key ⟨c, by omega⟩ h2

/-! Behind the digits -/
def escan : List UInt8 → Nat → Bool → Nat × Bool × List UInt8
  | [], e, us => (e, us, [])
  | c :: l, e, us => if c.toNat = 95 then escan l e true else if 48 ≤ c.toNat ∧ c.toNat ≤ 57 then escan l (if e < 10000 then e * 10 + (c.toNat - 48) else e) us else (e, us, c :: l)
def esign : List UInt8 → Int × List UInt8
  | [] => (1, [])
  | c :: l => if c.toNat = 43 then (1, l) else if c.toNat = 45 then (-1, l) else (1, c :: l)
def startsD : List UInt8 → Bool
  | [] => false
  | d :: _ => decide (48 ≤ d.toNat) && decide (d.toNat ≤ 57)
def eat (us : Bool) (r : List UInt8) : Option (Int × Bool × List UInt8) :=
  if startsD (esign r).2 then some ((esign r).1 * ((escan (esign r).2 0 us).1 : Nat), (escan (esign r).2 0 us).2.1, (escan (esign r).2 0 us).2.2) else none
def expPart (hx us : Bool) : List UInt8 → Option (Int × Bool × List UInt8)
  | [] => if hx then none else some (0, us, [])
  | c :: r => if lw c.toNat = (if hx then 112 else 101) then eat us r else if hx then none else some (0, us, c :: r)
structure Out where
  m : Nat
  e : Int
  tr : Bool
  us : Bool
  rest : List UInt8
/-- The point's place, and how many digits were taken, in digits or in bits. -/
def dpv (hx : Bool) (t : St) : Int := (if t.dot then t.dp else t.nd) * (if hx then 4 else 1)
def nmv (hx : Bool) (t : St) : Int := t.nm * (if hx then 4 else 1)
def fin (hx : Bool) (t : St) (r : List UInt8) : Option Out :=
  if t.sd then (expPart hx t.us r).map fun x => ⟨t.m, if t.m = 0 then 0 else dpv hx t + x.1 - nmv hx t, t.tr, x.2.1, x.2.2⟩ else none
theorem escan_us {l : List UInt8} {k e : Nat} {us : Bool} (h : k < l.length) (hc : l[k].toNat = 95) : escan (l.drop k) e us = escan (l.drop (k + 1)) e true := by
  rw [drop_at l k h, escan, if_pos hc]
theorem escan_digit {l : List UInt8} {k e : Nat} {us : Bool} (h : k < l.length) (hc : ¬ l[k].toNat = 95) (hd : 48 ≤ l[k].toNat ∧ l[k].toNat ≤ 57) : escan (l.drop k) e us = escan (l.drop (k + 1)) (if e < 10000 then e * 10 + (l[k].toNat - 48) else e) us := by
  rw [drop_at l k h, escan, if_neg hc, if_pos hd]
theorem escan_stop {l : List UInt8} {k e : Nat} {us : Bool} (h : k < l.length) (hc : ¬ l[k].toNat = 95) (hd : ¬ (48 ≤ l[k].toNat ∧ l[k].toNat ≤ 57)) : escan (l.drop k) e us = (e, us, l.drop k) := by
  rw [drop_at l k h, escan, if_neg hc, if_neg hd]
theorem escan_end {l : List UInt8} {k e : Nat} {us : Bool} (h : l.length ≤ k) : escan (l.drop k) e us = (e, us, l.drop k) := by
  rw [List.drop_of_length_le h, escan]
theorem expPart_hit_d {us : Bool} {c : UInt8} {r : List UInt8} (h : lw c.toNat = 101) : expPart false us (c :: r) = eat us r := by unfold expPart; exact if_pos h
theorem expPart_hit_x {us : Bool} {c : UInt8} {r : List UInt8} (h : lw c.toNat = 112) : expPart true us (c :: r) = eat us r := by unfold expPart; exact if_pos h
theorem expPart_miss_d {us : Bool} {c : UInt8} {r : List UInt8} (h : ¬ lw c.toNat = 101) : expPart false us (c :: r) = some (0, us, c :: r) := by unfold expPart; exact if_neg h
theorem expPart_miss_x {us : Bool} {c : UInt8} {r : List UInt8} (h : ¬ lw c.toNat = 112) : expPart true us (c :: r) = none := by unfold expPart; exact if_neg h
end Go.Proofs.YtjpiplplohapnaaGreatDoor.Rf
/- Plain: bounds on what readFloat tells. -/
namespace Go.Proofs.YtjpiplplohapnaaGreatDoor.Rf

theorem stp_ok {hx : Bool} {c : Nat} (hc : c < 256) {t t' : St} {k : Nat} (h : Ok hx t k) (hs : stp hx c t = some t') : Ok hx t' (k + 1) := by
  obtain ⟨h1, h2, h3, h4, h5⟩ := h
  have hb10 : 10 ≤ bs hx := by cases hx <;> decide
  have hb16 : bs true = 16 := rfl
  unfold stp at hs
  split at hs
  · cases hs; exact ⟨by dsimp only; omega, h2, h3, by dsimp only; omega, by dsimp only; omega⟩
  · split at hs
    · split at hs
      · cases hs
      · cases hs; exact ⟨by dsimp only; omega, h2, h3, by dsimp only; omega, by dsimp only; omega⟩
    · split at hs
      · rename_i hd
        split at hs
        · cases hs; exact ⟨by dsimp only; omega, h2, h3, by dsimp only; omega, by dsimp only; omega⟩
        · split at hs
          · rename_i hn
            have := (⟨h1, h2, h3, h4, h5⟩ : Ok hx t k).room (d := c - 48) hn (by omega)
            cases hs; exact ⟨by dsimp only; omega, by dsimp only; omega, this.1, by dsimp only; omega, by dsimp only; omega⟩
          · cases hs; exact ⟨by dsimp only; omega, h2, h3, by dsimp only; omega, by dsimp only; omega⟩
      · split at hs
        · rename_i hl
          obtain ⟨rfl, hl1, hl2⟩ := hl
          split at hs
          · rename_i hn
            have := (⟨h1, h2, h3, h4, h5⟩ : Ok true t k).room (d := (lw c - 87).toNat) hn (by rw [hb16]; omega)
            cases hs; exact ⟨by dsimp only; omega, by dsimp only; omega, this.1, by dsimp only; omega, by dsimp only; omega⟩
          · cases hs; exact ⟨by dsimp only; omega, h2, h3, by dsimp only; omega, by dsimp only; omega⟩
        · cases hs

theorem scan_ok {hx : Bool} : ∀ (l : List UInt8) (t : St) (k : Nat), Ok hx t k → Ok hx (scan hx l t).1 (k + l.length)
  | [], t, k, h => h
  | c :: l, t, k, h => by
    rw [scan]
    cases hs : stp hx c.toNat t with
    | none =>
      dsimp only
      obtain ⟨h1, h2, h3, h4, h5⟩ := h
      exact ⟨by simp; omega, h2, h3, by simp; omega, by simp; omega⟩
    | some t' =>
      dsimp only
      have := scan_ok l t' (k + 1) (stp_ok (UInt8.toNat_lt c) h hs)
      rw [List.length_cons, show k + (l.length + 1) = k + 1 + l.length by omega]
      exact this

theorem escan_le : ∀ (l : List UInt8) (e : Nat) (us : Bool), e ≤ 99999 → (escan l e us).1 ≤ 99999
  | [], e, us, h => h
  | c :: l, e, us, h => by
    rw [escan]
    split
    · exact escan_le l e true h
    · split
      · rename_i hd
        refine escan_le l _ us ?_
        split <;> omega
      · exact h
theorem esign_one (l : List UInt8) : (esign l).1 = 1 ∨ (esign l).1 = -1 := by
  cases l with
  | nil => exact Or.inl rfl
  | cons c l =>
    show (if c.toNat = 43 then ((1 : Int), l) else if c.toNat = 45 then (-1, l) else (1, c :: l)).1 = 1 ∨ (if c.toNat = 43 then ((1 : Int), l) else if c.toNat = 45 then (-1, l) else (1, c :: l)).1 = -1
    by_cases h1 : c.toNat = 43
    · rw [if_pos h1]; exact Or.inl rfl
    · rw [if_neg h1]
      by_cases h2 : c.toNat = 45
      · rw [if_pos h2]; exact Or.inr rfl
      · rw [if_neg h2]; exact Or.inl rfl
theorem eat_bound {us : Bool} {r : List UInt8} {x : Int × Bool × List UInt8} (h : eat us r = some x) : -99999 ≤ x.1 ∧ x.1 ≤ 99999 := by
  unfold eat at h
  split at h
  · cases h
    dsimp only
    have h1 := escan_le (esign r).2 0 us (by omega)
    generalize (escan (esign r).2 0 us).1 = e at *
    rcases esign_one r with h | h <;> rw [h] <;> omega
  · cases h
theorem expPart_bound {hx us : Bool} {r : List UInt8} {x : Int × Bool × List UInt8} (h : expPart hx us r = some x) : -99999 ≤ x.1 ∧ x.1 ≤ 99999 := by
  cases r with
  | nil =>
    cases hx
    · rw [show expPart false us [] = some (0, us, []) from rfl] at h
      cases h; exact ⟨by dsimp only; omega, by dsimp only; omega⟩
    · rw [show expPart true us [] = none from rfl] at h
      cases h
  | cons c r =>
    cases hx
    · by_cases h1 : lw c.toNat = 101
      · rw [expPart_hit_d h1] at h; exact eat_bound h
      · rw [expPart_miss_d h1] at h; cases h; exact ⟨by dsimp only; omega, by dsimp only; omega⟩
    · by_cases h1 : lw c.toNat = 112
      · rw [expPart_hit_x h1] at h; exact eat_bound h
      · rw [expPart_miss_x h1] at h; cases h
theorem fin_bound {hx : Bool} {l : List UInt8} (hl : l.length ≤ 1000) {o : Out} (h : fin hx (scan hx l st0).1 (scan hx l st0).2 = some o) : o.m < 18446744073709551616 ∧ -300000 ≤ o.e ∧ o.e ≤ 300000 := by
  have hk := scan_ok (hx := hx) l st0 0 (ok0 hx 0)
  generalize (scan hx l st0).1 = t at *
  generalize (scan hx l st0).2 = r at *
  obtain ⟨h1, h2, h3, h4, h5⟩ := hk
  unfold fin at h
  split at h
  · cases he : expPart hx t.us r with
    | none => rw [he] at h; cases h
    | some x =>
      rw [he] at h
      cases h
      have hb := expPart_bound he
      have hm : t.m < 18446744073709551616 := Nat.lt_of_lt_of_le h3 (Nat.le_trans (Nat.pow_le_pow_right (by cases hx <;> decide) h2) (pow_max hx))
      refine ⟨hm, ?_⟩
      dsimp only
      have hn : t.nm ≤ 19 := Nat.le_trans h2 (by cases hx <;> decide)
      have hD : -5000 ≤ dpv hx t ∧ dpv hx t ≤ 5000 := by
        unfold dpv
        cases hx <;> cases t.dot <;> simp <;> omega
      have hN : 0 ≤ nmv hx t ∧ nmv hx t ≤ 100 := by
        unfold nmv
        cases hx <;> simp <;> omega
      split <;> omega
  · cases h
end Go.Proofs.YtjpiplplohapnaaGreatDoor.Rf
/- Walks at the inputs of awake (4): fixedWidthFloat at 0.375. -/
namespace Go.Proofs.YtjpiplplohapnaaGreatDoor
open Go.RowKit Go.Proofs.YtjpiplplohapnaaGreatDoorW.PrintWords
set_option maxRecDepth 100000 in
set_option maxHeartbeats 1000000 in
theorem prescale_375 (w : World) (hL : Laid w) (g B : Nat) (hB : B ≤ g) (hg : w.heap[g]? = some (.cells #[.int .u64 0, .int .u64 0, .int .i64 0] 203 (0, 0))) (h17 : 17 ≤ g) :
    Calls Tryz.prog 158 #[.pointer (some ⟨g, 0, none⟩), .int .i64 (-65), .int .i64 3, .int .i64 9] w fun e w' => e = .returned (.tuple #[]) ∧ Below B w w' ∧ w'.heap[g]? = some (.cells #[.int .u64 18014398509481984000, .int .u64 0, .int .i64 53] 203 (0, 0)) := by
  obtain ⟨p0, p1⟩ := p10_351 hL
  have c0 : w.cell? ⟨g, 0, none⟩ = some (.int .u64 0) := (blk_cell hg 0).trans rfl
  have c1 : w.cell? ⟨g, 1, none⟩ = some (.int .u64 0) := (blk_cell hg 1).trans rfl
  have c2 : w.cell? ⟨g, 2, none⟩ = some (.int .i64 0) := (blk_cell hg 2).trans rfl
  have f0 := blk_frozen hg 0
  have f1 := blk_frozen hg 1
  have f2 := blk_frozen hg 2
  have hne : (11 : Nat) ≠ g := by omega
  go_enter Tryz.func158, Tryz.ntmps158
  go_wp2_with fail
  go_end0
  refine ⟨rfl, (((Below.refl B w).setCell hB _).setCell hB _).setCell hB _, ?_⟩
  refine blk_put (cs := #[.int .u64 18014398509481984000, .int .u64 0, .int .i64 0]) ?_ 2 _ rfl
  refine blk_put (cs := #[.int .u64 18014398509481984000, .int .u64 0, .int .i64 0]) ?_ 1 _ rfl
  exact blk_put hg 0 _ rfl
set_option maxRecDepth 100000 in
set_option maxHeartbeats 1000000 in
theorem uscale_375 (w : World) (g : Nat) (hg : w.heap[g]? = some (.cells #[.int .u64 18014398509481984000, .int .u64 0, .int .i64 53] 203 (0, 0))) :
    Calls Tryz.prog 160 #[.int .u64 13835058055282163712, .pointer (some ⟨g, 0, none⟩)] w fun e w' => e = .returned (.int .u64 1500) ∧ Below w.heap.size w w' := by
  have c0 : w.cell? ⟨g, 0, none⟩ = some (.int .u64 18014398509481984000) := (blk_cell hg 0).trans rfl
  have c1 : w.cell? ⟨g, 1, none⟩ = some (.int .u64 0) := (blk_cell hg 1).trans rfl
  have c2 : w.cell? ⟨g, 2, none⟩ = some (.int .i64 53) := (blk_cell hg 2).trans rfl
  have b53 : Go.bits .and .i64 53 63 = 53 := by decide +kernel
  have bo : Go.bits .or .u64 1500 0 = 1500 := by decide +kernel
  have s1 : ∀ W, (Op.shift BinOp.shr .u64 13510798882111488000 .i64 53).run Tryz.prog W = .ok (.int .u64 1500) W := fun W => by kernel_rfl
  have s2 : ∀ W, (Op.shift BinOp.shl .u64 1500 .i64 53).run Tryz.prog W = .ok (.int .u64 13510798882111488000) W := fun W => by kernel_rfl
  go_enter Tryz.func160, Tryz.ntmps160
  go_wp2_with fail
  refine (Tryz.bits_Mul64 13835058055282163712 18014398509481984000 (by decide) (by decide) _).mono ?_
  rintro e w' ⟨rfl, rfl⟩
  go_wp2_with fail
  refine (Tryz.bits_Mul64 13835058055282163712 0 (by decide) (by decide) _).mono ?_
  rintro e w1 ⟨rfl, rfl⟩
  go_wp2_with fail
  refine (bool2_u64f _).mono ?_
  rintro e w2 ⟨rfl, hb2⟩
  go_wp2_with fail
  go_quiet ((go_at_call 150; (with_reducible refine (PText.strconv_bool2_uint64.calls false 0 _ (by decide +kernel)).mono ?_); rintro e w' ⟨rfl, ⟨nd, rfl⟩⟩; first | exact ⟨rfl, _, World.drewN_drewN _ _ _⟩ | exact ⟨rfl, _, Eq.trans (World.drewN_drewN _ _ _) (congrArg (World.drewN _) (Nat.add_assoc _ _ _))⟩))
  go_wp2_with fail
  go_ret
  exact ⟨rfl, below_drewN hb2 _⟩
theorem unmin_calls (x r : Int) (h : PText.strconv_unmin.f x = some r) (w : World) : Calls Tryz.prog 165 #[.int .u64 x] w fun e w' => e = .returned (.int .u64 r) ∧ Below w.heap.size w w' :=
  (PText.strconv_unmin.calls x r w h).mono fun _ _ ⟨h1, h2⟩ => ⟨h1, h2.below⟩
theorem round_calls (x r : Int) (h : PText.strconv_unrounded_round.f x = some r) (w : World) : Calls Tryz.prog 164 #[.int .u64 x] w fun e w' => e = .returned (.int .u64 r) ∧ Below w.heap.size w w' :=
  (PText.strconv_unrounded_round.calls x r w h).mono fun _ _ ⟨h1, h2⟩ => ⟨h1, h2.below⟩
theorem div_calls (x d r : Int) (h : PText.strconv_unrounded_div.f x d = some r) (w : World) : Calls Tryz.prog 166 #[.int .u64 x, .int .u64 d] w fun e w' => e = .returned (.int .u64 r) ∧ Below w.heap.size w w' :=
  (PText.strconv_unrounded_div.calls x d r w h).mono fun _ _ ⟨h1, h2⟩ => ⟨h1, h2.below⟩
theorem u10_3 {w : World} (h : Laid w) : w.cell? ⟨4, 3, none⟩ = some (.int .u64 1000) := by
  have := World.var?_cell gU10 h.u10 3
  exact this.trans (by kernel_rfl)
set_option maxRecDepth 100000 in
set_option maxHeartbeats 1000000 in
theorem fixed_375 (w : World) (hL : Laid w) : Calls Tryz.prog 127 #[.int .u64 13835058055282163712, .int .i64 (-65), .int .i64 3, .int .i64 2, .int .u8 102] w fun e w' => e = .returned (.tuple #[.int .u64 38, .int .i64 (-2)]) ∧ Below w.heap.size w w' := by
  go_enter Tryz.func127, Tryz.ntmps127
  go_wp2_with fail
  refine (log10_calls (-2) (-1) (by decide +kernel) _).mono ?_
  rintro e w1 ⟨rfl, hb1⟩
  go_wp2_with fail
  refine (log2_calls 3 9 (by decide +kernel) _).mono ?_
  rintro e w2 ⟨rfl, hb2⟩
  have hL1 := hL.below hb1
  have hg2 : w2.heap[w1.heap.size]? = some (.cells #[.int .u64 0, .int .u64 0, .int .i64 0] 203 (0, 0)) := by
    exact blk_below (blk_new _ _) hb2
  have hb02 : Below w.heap.size w w2 := hb1.trans ((((Below.refl _ _).alloc (Nat.le_refl _) _).trans (hb2.mono (by simp))).mono hb1.size)
  have hL2 : Laid w2 := hL.below hb02
  go_wp2_with fail
  refine (prescale_375 w2 hL2 w1.heap.size w.heap.size hb1.size hg2 (by have := hL1.size; omega)).mono ?_
  rintro e w3 ⟨rfl, hb3, hg3⟩
  have hb03 := hb02.trans hb3
  go_wp2_with fail
  refine (uscale_375 w3 w1.heap.size hg3).mono ?_
  rintro e w4 ⟨rfl, hb4⟩
  have hb04 := hb03.trans (hb4.mono hb03.size)
  have hu := u10_3 (hL.below hb04)
  go_wp2_with fail
  refine (unmin_calls 1000 3998 (by decide +kernel) _).mono ?_
  rintro e w5 ⟨rfl, hb5⟩
  have hb05 := hb04.trans (hb5.mono hb04.size)
  go_wp2_with fail
  refine wp_loop_rounds 2 ?_
  rw [rounds_succ]
  go_wp2_with fail
  refine (div_calls 1500 10 150 (by decide +kernel) _).mono ?_
  rintro e w6 ⟨rfl, hb6⟩
  have hb06 := hb05.trans (hb6.mono hb05.size)
  go_wp2_with fail
  rw [rounds_succ]
  go_wp2_with fail
  refine (round_calls 150 38 (by decide +kernel) _).mono ?_
  rintro e w7 ⟨rfl, hb7⟩
  go_wp2_with fail
  go_ret2
  exact ⟨rfl, hb06.trans (hb7.mono hb06.size)⟩
end Go.Proofs.YtjpiplplohapnaaGreatDoor
/- Walks at the inputs of awake (5): setDigits, fmtEFG at 38, two places. -/
namespace Go.Proofs.YtjpiplplohapnaaGreatDoor
open Go.RowKit Go.Sort Go.Proofs.YtjpiplplohapnaaGreatDoorW.PrintWords
abbrev encB (b : UInt8) : Value := .int .u8 (b.toNat : Int)
theorem below_putRow2 {B : Nat} {w0 w : World} {g n : Nat} {d : Array UInt8} (h : Below B w0 w) (hg : B ≤ g) : Below B w0 ((putRow encB w g 0 d).drewN n) := by
  have := Lib.below_putRow (enc := encB) (q := 0) (d := d) h hg
  exact below_drewN (by simpa [Sort.ahead] using this) n

set_option maxRecDepth 100000 in
set_option maxHeartbeats 1000000 in
theorem setDigits_38 (w : World) (g B : Nat) (hB : B ≤ g) (h0 : w.cell? ⟨g, 0, none⟩ = some (.int .u8 0)) (h1 : w.cell? ⟨g, 1, none⟩ = some (.int .u8 0)) (f0 : w.frozen? ⟨g, 0, none⟩ = false) (f1 : w.frozen? ⟨g, 1, none⟩ = false) :
    Calls Tryz.prog 125 #[.slice (some ⟨g, 0, none⟩) 24 24, .int .u64 38, .int .i64 (-2), .int .i64 2] w fun e w' => e = .returned (.tuple #[.int .i64 0, .int .i64 2]) ∧ Below B w w' ∧ w'.cell? ⟨g, 0, none⟩ = some (.int .u8 51) ∧ w'.cell? ⟨g, 1, none⟩ = some (.int .u8 56) := by
  have hH : Holds encB w g 0 #[0, 0] := by
    intro j hj
    have : j = 0 ∨ j = 1 := by simp at hj; omega
    rcases this with rfl | rfl
    · exact ⟨h0, f0⟩
    · exact ⟨h1, f1⟩
  go_enter Tryz.func125, Tryz.ntmps125
  go_wp2_with fail
  refine (Tryz.internal_strconv_formatBase10 g 0 24 38 #[0, 0] _ hH (by decide) (by decide) (by decide)).mono ?_
  rintro e w1 ⟨rfl, n, v', dk, rfl, hF⟩
  have e0 : dk[0]! = 51 := (hF.done 0 (by decide) (by decide)).trans (by decide)
  have e1 : dk[1]! = 56 := (hF.done 1 (by decide) (by decide)).trans (by decide)
  have hs : dk.size = 2 := hF.size
  have hbw : Below B w ((putRow encB w g 0 dk).drewN n) := below_putRow2 (Below.refl _ _) hB
  have k0 : ((putRow encB w g 0 dk).drewN n).cell? ⟨g, 0, none⟩ = some (.int .u8 51) := by
    have := cell?_putRow encB w g 0 #[0, 0] dk hH hs 0 (by omega)
    rw [e0] at this; exact this
  have k1 : ((putRow encB w g 0 dk).drewN n).cell? ⟨g, 1, none⟩ = some (.int .u8 56) := by
    have := cell?_putRow encB w g 0 #[0, 0] dk hH hs 1 (by omega)
    rw [e1] at this; exact this
  generalize (putRow encB w g 0 dk).drewN n = w2 at *
  clear hF e0 e1 hs hH
  go_wp2_with fail
  refine wp_loop_rounds 1 ?_
  rw [rounds_succ]
  go_wp2_with fail
  go_ret2
  exact ⟨rfl, hbw, k0, k1⟩

/-- What the walk asks of a row of bytes that is written, and of one that is read. -/
structure Two (B : Nat) (w0 : World) (gd g : Nat) (T : TypeId) (cs : Array Value) (w : World) : Prop where
  row : w.heap[gd]? = some (.cells cs T (0, 0))
  k0 : w.cell? ⟨g, 0, none⟩ = some (.int .u8 51)
  k1 : w.cell? ⟨g, 1, none⟩ = some (.int .u8 56)
  below : Below B w0 w
theorem Two.put {B gd g : Nat} {w0 w : World} {T : TypeId} {cs cs' : Array Value} (h : Two B w0 gd g T cs w) (hB : B ≤ gd) (hne : gd ≠ g) (j : Nat) (v : Value) (e : cs.setIfInBounds j v = cs') : Two B w0 gd g T cs' (w.setCell ⟨gd, j, none⟩ v) :=
  ⟨blk_put h.row j v e, (World.cell?_setCell_far w _ _ _ hne).trans h.k0, (World.cell?_setCell_far w _ _ _ hne).trans h.k1, h.below.setCell hB _⟩
theorem Two.new {B gd g : Nat} {w0 w : World} {T : TypeId} {cs : Array Value} (h : Two B w0 gd g T cs w) (hB : B ≤ w.heap.size) (o : Obj) : Two B w0 gd g T cs (w.alloc o) :=
  ⟨blk_alloc h.row o, (((Below.refl w.heap.size w).alloc (Nat.le_refl _) o).cell (World.block_lt_of_cell? w _ h.k0)).trans h.k0, (((Below.refl w.heap.size w).alloc (Nat.le_refl _) o).cell (World.block_lt_of_cell? w _ h.k1)).trans h.k1, h.below.alloc hB o⟩
theorem Two.lt {B gd g : Nat} {w0 w : World} {T : TypeId} {cs : Array Value} (h : Two B w0 gd g T cs w) : gd < w.heap.size ∧ g < w.heap.size := ⟨(Array.getElem?_eq_some_iff.1 h.row).1, World.block_lt_of_cell? w _ h.k0⟩

set_option maxRecDepth 100000 in
set_option maxHeartbeats 1000000 in
theorem fmt_38 (w : World) (g gd B : Nat) (hgd : B ≤ gd) (hne : gd ≠ g) (T : TypeId) (y : Value) (hd : w.heap[gd]? = some (.cells (Array.replicate 24 y) T (0, 0)))
    (k0 : w.cell? ⟨g, 0, none⟩ = some (.int .u8 51)) (k1 : w.cell? ⟨g, 1, none⟩ = some (.int .u8 56)) :
    Calls Tryz.prog 122 #[.slice (some ⟨gd, 0, none⟩) 0 24, .bool false, .slice (some ⟨g, 0, none⟩) 24 24, .int .i64 0, .int .i64 2, .int .i64 2, .int .u8 102, .bool false] w fun e w' =>
      e = .returned (.slice (some ⟨gd, 0, none⟩) 4 24) ∧ Below B w w' ∧ w'.cell? ⟨gd, 0, none⟩ = some (.int .u8 48) ∧ w'.cell? ⟨gd, 1, none⟩ = some (.int .u8 46) ∧ w'.cell? ⟨gd, 2, none⟩ = some (.int .u8 51) ∧ w'.cell? ⟨gd, 3, none⟩ = some (.int .u8 56) := by
  have hT : Two B w gd g T (Array.replicate 24 y) w := ⟨hd, k0, k1, Below.refl _ _⟩
  have HT := Lib.hid hT
  obtain ⟨hgl, hgl2⟩ := hT.lt
  have c0 : w.cell? ⟨gd, 0, none⟩ = some y := (blk_cell hd 0).trans (by simp)
  have c1 : w.cell? ⟨gd, 1, none⟩ = some y := (blk_cell hd 1).trans (by simp)
  have f0 := blk_frozen hd 0
  have f1 := blk_frozen hd 1
  have hne' : g ≠ gd := fun h => hne h.symm
  clear hd hT
  have m1 : min (2 : Int) 0 = 0 := by decide
  have m2 : max (0 : Int) 2 = 2 := by decide
  have m3 : min (2 : Int) 2 = 2 := by decide
  have m4 : max (0 : Int) 0 = 0 := by decide
  go_enter Tryz.func122, Tryz.ntmps122
  go_wp2_with fail
  refine wp_loop_rounds 1 ?_
  rw [rounds_succ]
  go_wp2_with fail
  have HT2 := Lib.hid ((((HT.out.put hgd hne 0 (.int .u8 48) rfl).put hgd hne 1 (.int .u8 46) rfl).new (by simp; omega) (Obj.cells #[.int .u8 48] 5)).new (by simp; omega) (Obj.cells #[.int .u8 46] 5))
  clear HT c0 c1 f0 f1 k0 k1 hgl hgl2
  generalize hW : (((w.setCell ⟨gd, 0, none⟩ (.int .u8 48)).setCell ⟨gd, 1, none⟩ (.int .u8 46)).alloc (Obj.cells #[.int .u8 48] 5)).alloc (Obj.cells #[.int .u8 46] 5) = W at *
  clear hW
  obtain ⟨hgl, hgl2⟩ := HT2.out.lt
  have k0 := HT2.out.k0
  have c2 : W.cell? ⟨gd, 2, none⟩ = some y := (blk_cell HT2.out.row 2).trans rfl
  have f2 := blk_frozen HT2.out.row 2
  refine wp_loop_rounds 3 ?_
  rw [rounds_succ]
  go_wp2_with fail
  have hBW : B ≤ W.heap.size := HT2.out.below.size |> fun h => by omega
  have HT3 := Lib.hid ((HT2.out.put hgd hne 2 (.int .u8 51) rfl).new (by simp; omega) (Obj.cells #[.int .u8 51] 5))
  clear HT2 c2 f2 k0 hgl hgl2 hBW
  generalize hW : (W.setCell ⟨gd, 2, none⟩ (.int .u8 51)).alloc (Obj.cells #[.int .u8 51] 5) = W3 at *
  clear hW
  obtain ⟨hgl, hgl2⟩ := HT3.out.lt
  have k1 := HT3.out.k1
  have c3 : W3.cell? ⟨gd, 3, none⟩ = some y := (blk_cell HT3.out.row 3).trans rfl
  have f3 := blk_frozen HT3.out.row 3
  rw [rounds_succ]
  go_wp2_with fail
  have HT4 := Lib.hid ((HT3.out.put hgd hne 3 (.int .u8 56) rfl).new (by simp; omega) (Obj.cells #[.int .u8 56] 5))
  clear HT3 c3 f3 k1 hgl hgl2
  generalize hW : (W3.setCell ⟨gd, 3, none⟩ (.int .u8 56)).alloc (Obj.cells #[.int .u8 56] 5) = W4 at *
  clear hW
  rw [rounds_succ]
  go_wp2_with fail
  refine wp_loop_rounds 1 ?_
  rw [rounds_succ]
  go_wp2_with fail
  go_ret
  have hr := HT4.out.row
  exact ⟨rfl, HT4.out.below, (blk_cell hr 0).trans rfl, (blk_cell hr 1).trans rfl, (blk_cell hr 2).trans rfl, (blk_cell hr 3).trans rfl⟩
end Go.Proofs.YtjpiplplohapnaaGreatDoor
/- Walks at the inputs of awake (6): ftoa64 at 0.375, two places. -/
namespace Go.Proofs.YtjpiplplohapnaaGreatDoor
open Go.RowKit Go.Sort Go.Proofs.YtjpiplplohapnaaGreatDoorW.PrintWords
theorem numDigits_38 (w : World) (ht : Lib.TabIs Tryz.prog w "internal/strconv.uint64pow10" .u64 Lib.pow10Tab) : Calls Tryz.prog 101 #[.int .u64 38] w fun e w' => e = .returned (.int .i64 2) ∧ w' = w := by
  have h := Tryz.internal_strconv_numDigits 38 (by decide) (by decide) w ht
  have e : ((Lib.nDigits 38 : Nat) : Int) = 2 := by decide +kernel
  rw [e] at h
  exact h
set_option maxRecDepth 100000 in
set_option maxHeartbeats 1000000 in
theorem ftoa_375 (w : World) (hL : Laid w) (gd B : Nat) (hgd : B ≤ gd) (T : TypeId) (y : Value) (hd : w.heap[gd]? = some (.cells (Array.replicate 24 y) T (0, 0))) (_hB : 17 ≤ B) (hBw : B ≤ w.heap.size) :
    Calls Tryz.prog 95 #[.slice (some ⟨gd, 0, none⟩) 0 24, .float .f64 4600427019358961664, .int .u8 102, .int .i64 2] w fun e w' =>
      e = .returned (.slice (some ⟨gd, 0, none⟩) 4 24) ∧ Below B w w' ∧ w'.cell? ⟨gd, 0, none⟩ = some (.int .u8 48) ∧ w'.cell? ⟨gd, 1, none⟩ = some (.int .u8 46) ∧ w'.cell? ⟨gd, 2, none⟩ = some (.int .u8 51) ∧ w'.cell? ⟨gd, 3, none⟩ = some (.int .u8 56) := by
  have hbits := bits119 4600427019358961664
  have ho := hL.optCell
  have s1 : ∀ W, (Op.shift BinOp.shr .u64 4600427019358961664 .i64 63).run Tryz.prog W = .ok (.int .u64 0) W := fun W => by kernel_rfl
  have s2 : ∀ W, (Op.shift BinOp.shr .u64 4600427019358961664 .i64 52).run Tryz.prog W = .ok (.int .u64 1021) W := fun W => by kernel_rfl
  have s3 : ∀ W, (Op.shift BinOp.shl .i64 1 .i64 11).run Tryz.prog W = .ok (.int .i64 2048) W := fun W => by kernel_rfl
  have s4 : ∀ W, (Op.shift BinOp.shl .u64 1 .i64 52).run Tryz.prog W = .ok (.int .u64 4503599627370496) W := fun W => by kernel_rfl
  have s5 : ∀ W, (Op.shift BinOp.shl .u64 6755399441055744 .i64 11).run Tryz.prog W = .ok (.int .u64 13835058055282163712) W := fun W => by kernel_rfl
  have a1 : Go.bits .and .i64 1021 2047 = 1021 := by decide +kernel
  have a2 : Go.bits .and .u64 4600427019358961664 4503599627370495 = 2251799813685248 := by decide +kernel
  have a3 : Go.bits .or .u64 2251799813685248 4503599627370496 = 6755399441055744 := by decide +kernel
  have HD := Lib.hid hd
  clear hd
  go_enter Tryz.func95, Tryz.ntmps95
  go_wp2_with fail
  go_quiet (fail)
  go_wp2_with fail
  have hb1 : Below B w (w.drewN nq) := below_drewN (Below.refl _ _) _
  have HD1 : Hid ((w.drewN nq).heap[gd]? = some (.cells (Array.replicate 24 y) T (0, 0))) := Lib.hid HD.out
  have hL1 : Laid (w.drewN nq) := hL.below (below_drewN (Below.refl _ _) _)
  have hz1 : B ≤ (w.drewN nq).heap.size := hBw
  clear HD hL hBw ho
  generalize hW : w.drewN nq = w1s at *
  clear hW
  refine (log10_calls 2 0 (by decide +kernel) _).mono ?_
  rintro e w2 ⟨rfl, hb2⟩
  go_wp2_with fail
  refine (Tryz.bits_Len64 6755399441055744 _ (by decide) (by decide)).mono ?_
  rintro e w3 ⟨rfl, rfl⟩
  rw [show ((Lib.bitLen (6755399441055744 : Int).toNat : Nat) : Int) = 53 from by decide +kernel]
  go_wp2_with fail
  have HG := Lib.hid (blk_new w2 (.cells (Array.replicate 24 (.int .u8 0)) 126 (0, 0)))
  have hL2 : Laid w2 := hL1.below hb2
  have hB2 : B ≤ w2.heap.size := Nat.le_trans hz1 hb2.size
  have hb02 : Below B w w2 := hb1.trans (hb2.mono hz1)
  have HD2 := Lib.hid (blk_below HD1.out hb2)
  have hgdl : gd < w2.heap.size := (Array.getElem?_eq_some_iff.1 HD2.out).1
  have HD3 := Lib.hid (blk_alloc HD2.out (.cells (Array.replicate 24 (.int .u8 0)) 126 (0, 0)))
  have hL3 : Laid (w2.alloc (.cells (Array.replicate 24 (.int .u8 0)) 126 (0, 0))) := hL2.below ((Below.refl _ _).alloc (Nat.le_refl _) _)
  have hb03 : Below B w (w2.alloc (.cells (Array.replicate 24 (.int .u8 0)) 126 (0, 0))) := hb02.alloc hB2 _
  have hz3 : (w2.alloc (.cells (Array.replicate 24 (.int .u8 0)) 126 (0, 0))).heap.size = w2.heap.size + 1 := by simp
  clear HD1 HD2 hL1 hL2 hb1 hb2
  generalize hgg : w2.heap.size = g at *
  refine (fixed_375 (w2.alloc (.cells (Array.replicate 24 (.int .u8 0)) 126 (0, 0))) hL3).mono ?_
  rintro e w4 ⟨rfl, hb4⟩
  have hg4 := Lib.hid (blk_below HG.out hb4)
  have HD4 := Lib.hid (blk_below HD3.out hb4)
  have hL4 := hL3.below hb4
  have hb04 := hb03.trans (hb4.mono (by omega))
  have hz4 : g < w4.heap.size := (Array.getElem?_eq_some_iff.1 hg4.out).1
  clear HG HD3 hL3 hb03 hz3 hb4 hgg
  go_wp2_with fail
  have c0 : w4.cell? ⟨g, 0, none⟩ = some (.int .u8 0) := (blk_cell hg4.out 0).trans rfl
  have c1 : w4.cell? ⟨g, 1, none⟩ = some (.int .u8 0) := (blk_cell hg4.out 1).trans rfl
  have f0 := blk_frozen hg4.out 0
  have f1 := blk_frozen hg4.out 1
  have ht4 := Lib.hid hL4.u10
  trace "region"
  go_region_with (first | (go_at_call 101; refine (numDigits_38 _ (by exact ht4.out)).mono ?_; rintro e w' ⟨rfl, rfl⟩) | (go_at_call 125; refine (setDigits_38 _ g g (Nat.le_refl _) (by exact c0) (by exact c1) (by exact f0) (by exact f1)).mono ?_; rintro e w5 ⟨rfl, hb5, k0, k1⟩))
  have HD5 : w5.heap[gd]? = some (.cells (Array.replicate 24 y) T (0, 0)) := (hb5.block gd (by omega)).trans HD4.out
  have HD5 := Lib.hid HD5
  have hb05 : Below B w w5 := hb04.trans ((below_drewN (Below.refl B w4) 1).trans (hb5.mono (by omega)))
  clear c0 c1 f0 f1 ht4 hL4 hg4 HD4 hb04
  go_wp2_with fail
  refine (fmt_38 w5 g gd B hgd (by omega) T y HD5.out k0 k1).mono ?_
  rintro e w6 ⟨rfl, hb6, r0, r1, r2, r3⟩
  go_wp2_with fail
  go_ret
  exact ⟨rfl, hb05.trans hb6, r0, r1, r2, r3⟩
end Go.Proofs.YtjpiplplohapnaaGreatDoor
/- Walks at the inputs of awake (7): text.Print at 0.375, two places. -/
namespace Go.Proofs.YtjpiplplohapnaaGreatDoor
open Go.RowKit Go.Sort Go.Proofs.YtjpiplplohapnaaGreatDoorW.PrintWords
set_option maxRecDepth 100000 in
set_option maxHeartbeats 1000000 in
theorem iformat_375 (w : World) (hL : Laid w) :
    Calls Tryz.prog 67 #[.float .f64 4600427019358961664, .int .u8 102, .int .i64 2, .int .i64 64] w fun e w' => e = .returned (.string ⟨#[48, 46, 51, 56]⟩) ∧ Below w.heap.size w w' := by
  have m1 : max (6 : Int) 24 = 24 := by decide
  have hmk : ∀ W, (Instr.makeSlice 94 (.int .i64 0) (.int .i64 24)).run Tryz.prog W = .ok (.slice (some ⟨W.heap.size, 0, none⟩) 0 24) (W.alloc (.cells (Array.replicate 24 (.int .u8 0)) 5)) := fun W => by kernel_rfl
  go_enter Tryz.func67, Tryz.ntmps67
  go_wp2_with fail
  have hs17 := hL.size
  refine (ftoa_375 _ (hL.below ((Below.refl _ _).alloc (Nat.le_refl _) _)) w.heap.size w.heap.size (Nat.le_refl _) 5 (.int .u8 0) (blk_new _ _) hs17 (by simp)).mono ?_
  rintro e w2 ⟨rfl, hb2, r0, r1, r2, r3⟩
  have hcv : (convert 94 9 (.slice (some ⟨w.heap.size, 0, none⟩) 4 24)).run Tryz.prog w2 = .ok (.string ⟨#[48, 46, 51, 56]⟩) w2 := by
    rw [run_convert_bytes_string w2 94 9 5 _ 4 24 Tryz.underlying94 Tryz.underlying5 Tryz.underlying9]
    rw [run_bytesToString w2 _ 4 24 [48, 46, 51, 56] (by simp [loadCells, r0, r1, r2, r3, go_sem])]
    rfl
  go_wp2_with fail
  go_ret
  exact ⟨rfl, ((Below.refl _ _).alloc (Nat.le_refl _) _).trans hb2⟩

set_option maxHeartbeats 1000000 in
theorem sformat_375 (w : World) (hL : Laid w) :
    Calls Tryz.prog 31 #[.float .f64 4600427019358961664, .int .u8 102, .int .i64 2, .int .i64 64] w fun e w' => e = .returned (.string ⟨#[48, 46, 51, 56]⟩) ∧ Below w.heap.size w w' := by
  go_enter Tryz.func31, Tryz.ntmps31
  go_wp2_with fail
  refine (iformat_375 _ hL).mono ?_
  rintro e w1 ⟨rfl, hb1⟩
  go_wp2_with fail
  go_ret
  exact ⟨rfl, hb1⟩

set_option maxRecDepth 100000 in
set_option maxHeartbeats 1000000 in
theorem print_375 (w : World) (hL : Laid w) :
    Calls Tryz.prog 14 #[.float .f64 4600427019358961664, .int .i64 2] w fun e w' => e = .returned (.tuple #[.string ⟨#[48, 46, 51, 56]⟩, .int .i64 0]) ∧ Below w.heap.size w w' := by
  go_enter Tryz.func14, Tryz.ntmps14
  go_wp2_with fail
  refine (number_375 _).mono ?_
  rintro e w1 ⟨rfl, rfl⟩
  go_wp2_with fail
  refine (sformat_375 _ hL).mono ?_
  rintro e w2 ⟨rfl, hb2⟩
  go_wp2_with fail
  go_ret2
  exact ⟨rfl, hb2⟩
end Go.Proofs.YtjpiplplohapnaaGreatDoor
/- Walks at the inputs of awake (8): text.Hex at 1.5. -/
namespace Go.Proofs.YtjpiplplohapnaaGreatDoor
open Go.RowKit Go.Sort Go.Proofs.YtjpiplplohapnaaGreatDoorW.PrintWords
set_option maxRecDepth 100000 in
theorem negative_15 (w : World) : Calls Tryz.prog 48 #[.float .f64 4609434218613702656] w fun e w' => e = .returned (.bool false) ∧ w' = w := by
  have s1 : ∀ W, (Op.shift BinOp.shr .u64 4609434218613702656 .i64 63).run Tryz.prog W = .ok (.int .u64 0) W := fun W => by kernel_rfl
  go_enter Tryz.func48, Tryz.ntmps48
  go_wp2_with fail
  refine (class_15 _).mono ?_
  rintro e w' ⟨rfl, rfl⟩
  go_wp2_with fail
  refine (apiBits 4609434218613702656 _).mono ?_
  rintro e w' ⟨rfl, rfl⟩
  go_wp2_with fail
  go_ret
  exact ⟨rfl, rfl⟩
set_option maxRecDepth 100000 in
theorem split_15 (w : World) : Calls Tryz.prog 47 #[.float .f64 4609434218613702656] w fun e w' => e = .returned (.tuple #[.int .i64 6755399441055744, .int .i64 (-52), .bool true]) ∧ w' = w := by
  have s1 : ∀ W, (Op.shift BinOp.shr .u64 4609434218613702656 .i64 52).run Tryz.prog W = .ok (.int .u64 1023) W := fun W => by kernel_rfl
  have a2 : Go.bits .and .u64 4609434218613702656 4503599627370495 = 2251799813685248 := by decide +kernel
  have a3 : Go.bits .or .u64 2251799813685248 4503599627370496 = 6755399441055744 := by decide +kernel
  go_enter Tryz.func47, Tryz.ntmps47
  go_wp2_with fail
  refine (size_calls 4609434218613702656 4609434218613702656 (by decide +kernel) _).mono ?_
  rintro e w' ⟨rfl, rfl⟩
  go_wp2_with fail
  refine (class_15 _).mono ?_
  rintro e w' ⟨rfl, rfl⟩
  go_wp2_with fail
  refine (negative_15 _).mono ?_
  rintro e w' ⟨rfl, rfl⟩
  go_wp2_with fail
  go_ret3
  exact ⟨rfl, rfl⟩
theorem db_15 {w : World} (h : Laid w) : w.cell? ⟨14, 15, none⟩ = some (.int .u8 4) := by
  have := World.var?_cell gDb h.db 15
  exact this.trans (by kernel_rfl)
set_option maxRecDepth 100000 in
theorem tz64_16 (w : World) (hL : Laid w) : Calls Tryz.prog 175 #[.int .u64 16] w fun e w' => e = .returned (.int .i64 4) ∧ Below w.heap.size w w' := by
  have hc := db_15 hL
  have a0 : IntKind.u64.wrap (-16) = 18446744073709551600 := by decide +kernel
  have a1 : Go.bits .and .u64 16 18446744073709551600 = 16 := by decide +kernel
  have a2 : IntKind.u64.wrap 4573923408821661840 = 4573923408821661840 := by decide +kernel
  go_enter Tryz.func175, Tryz.ntmps175
  go_wp2_with fail
  go_ret
  exact ⟨rfl, Below.refl _ _⟩
set_option maxRecDepth 100000 in
theorem tz_16 (w : World) (hL : Laid w) : Calls Tryz.prog 135 #[.int .u64 16] w fun e w' => e = .returned (.int .i64 4) ∧ Below w.heap.size w w' := by
  go_enter Tryz.func135, Tryz.ntmps135
  go_wp2_with fail
  refine (tz64_16 _ hL).mono ?_
  rintro e w1 ⟨rfl, hb1⟩
  go_wp2_with fail
  go_ret
  exact ⟨rfl, hb1⟩
theorem pow2_16 (w : World) : Calls Tryz.prog 134 #[.int .i64 16] w fun e w' => e = .returned (.bool true) ∧ Below w.heap.size w w' :=
  (PText.strconv_isPowerOfTwo.calls 16 true w (by decide +kernel)).mono fun _ _ ⟨h1, h2⟩ => ⟨h1, h2.below⟩
set_option maxRecDepth 100000 in
set_option maxHeartbeats 1000000 in
theorem formatBits_15 (w : World) (hL : Laid w) : Calls Tryz.prog 103 #[.slice none 0 0, .int .u64 2251799813685248, .int .i64 16, .bool false, .bool false] w fun e w' => e = .returned (.tuple #[.slice none 0 0, .string ⟨#[56, 48, 48, 48, 48, 48, 48, 48, 48, 48, 48, 48, 48]⟩]) ∧ Below w.heap.size w w' := by
  have s0 : ∀ W, (Op.shift BinOp.shr .u64 2251799813685248 .u64 4).run Tryz.prog W = .ok (.int .u64 140737488355328) W := fun W => by kernel_rfl
  have n0 : Go.bits .and .u64 2251799813685248 15 = 0 := by decide +kernel
  have s1 : ∀ W, (Op.shift BinOp.shr .u64 140737488355328 .u64 4).run Tryz.prog W = .ok (.int .u64 8796093022208) W := fun W => by kernel_rfl
  have n1 : Go.bits .and .u64 140737488355328 15 = 0 := by decide +kernel
  have s2 : ∀ W, (Op.shift BinOp.shr .u64 8796093022208 .u64 4).run Tryz.prog W = .ok (.int .u64 549755813888) W := fun W => by kernel_rfl
  have n2 : Go.bits .and .u64 8796093022208 15 = 0 := by decide +kernel
  have s3 : ∀ W, (Op.shift BinOp.shr .u64 549755813888 .u64 4).run Tryz.prog W = .ok (.int .u64 34359738368) W := fun W => by kernel_rfl
  have n3 : Go.bits .and .u64 549755813888 15 = 0 := by decide +kernel
  have s4 : ∀ W, (Op.shift BinOp.shr .u64 34359738368 .u64 4).run Tryz.prog W = .ok (.int .u64 2147483648) W := fun W => by kernel_rfl
  have n4 : Go.bits .and .u64 34359738368 15 = 0 := by decide +kernel
  have s5 : ∀ W, (Op.shift BinOp.shr .u64 2147483648 .u64 4).run Tryz.prog W = .ok (.int .u64 134217728) W := fun W => by kernel_rfl
  have n5 : Go.bits .and .u64 2147483648 15 = 0 := by decide +kernel
  have s6 : ∀ W, (Op.shift BinOp.shr .u64 134217728 .u64 4).run Tryz.prog W = .ok (.int .u64 8388608) W := fun W => by kernel_rfl
  have n6 : Go.bits .and .u64 134217728 15 = 0 := by decide +kernel
  have s7 : ∀ W, (Op.shift BinOp.shr .u64 8388608 .u64 4).run Tryz.prog W = .ok (.int .u64 524288) W := fun W => by kernel_rfl
  have n7 : Go.bits .and .u64 8388608 15 = 0 := by decide +kernel
  have s8 : ∀ W, (Op.shift BinOp.shr .u64 524288 .u64 4).run Tryz.prog W = .ok (.int .u64 32768) W := fun W => by kernel_rfl
  have n8 : Go.bits .and .u64 524288 15 = 0 := by decide +kernel
  have s9 : ∀ W, (Op.shift BinOp.shr .u64 32768 .u64 4).run Tryz.prog W = .ok (.int .u64 2048) W := fun W => by kernel_rfl
  have n9 : Go.bits .and .u64 32768 15 = 0 := by decide +kernel
  have s10 : ∀ W, (Op.shift BinOp.shr .u64 2048 .u64 4).run Tryz.prog W = .ok (.int .u64 128) W := fun W => by kernel_rfl
  have n10 : Go.bits .and .u64 2048 15 = 0 := by decide +kernel
  have s11 : ∀ W, (Op.shift BinOp.shr .u64 128 .u64 4).run Tryz.prog W = .ok (.int .u64 8) W := fun W => by kernel_rfl
  have n11 : Go.bits .and .u64 128 15 = 0 := by decide +kernel
  have HG := Lib.hid (blk_new w (.cells Tryz.zeroCells168 168 (0, 0)))
  have hL0 : Laid (w.alloc (.cells Tryz.zeroCells168 168 (0, 0))) := hL.below ((Below.refl _ _).alloc (Nat.le_refl _) _)
  have hb0 : Below w.heap.size w (w.alloc (.cells Tryz.zeroCells168 168 (0, 0))) := (Below.refl _ _).alloc (Nat.le_refl _) _
  go_enter Tryz.func103, Tryz.ntmps103
  go_wp2_with fail
  refine (pow2_16 _).mono ?_
  rintro e w1 ⟨rfl, hb1⟩
  have HG1 := Lib.hid (blk_below HG.out hb1)
  have hL1 := hL0.below hb1
  have hb01 := hb0.trans (hb1.mono (by simp))
  go_wp2_with fail
  refine (tz_16 _ hL1).mono ?_
  rintro e w2 ⟨rfl, hb2⟩
  have HG2 := Lib.hid (blk_below HG1.out hb2)
  have hb02 := hb01.trans (hb2.mono hb01.size)
  clear HG HG1 hL0 hL1 hb0 hb1 hb01 hb2
  go_wp2_with fail
  refine wp_loop_rounds 13 ?_
  have hg : w.heap.size < w2.heap.size := (Array.getElem?_eq_some_iff.1 HG2.out).1
  have c0 : w2.cell? ⟨w.heap.size, 64, none⟩ = some (.int .u8 0) := (blk_cell HG2.out 64).trans (by kernel_rfl)
  have f0 := blk_frozen HG2.out 64
  rw [rounds_succ]
  go_wp2_with fail
  show Code.rounds Tryz.prog _ _ _ _ (w2.setCell ⟨_, 64, none⟩ (.int .u8 48))
  have HV0 := Lib.hid (blk_put HG2.out 64 (.int .u8 48) rfl)
  have hv0 := hb02.setCell (p := ⟨w.heap.size, 64, none⟩) (Nat.le_refl _) (.int .u8 48)
  clear hg c0 f0 HG2 hb02
  generalize w2.setCell ⟨w.heap.size, 64, none⟩ (.int .u8 48) = v0 at *
  have hg : w.heap.size < v0.heap.size := (Array.getElem?_eq_some_iff.1 HV0.out).1
  have c0 : v0.cell? ⟨w.heap.size, 63, none⟩ = some (.int .u8 0) := (blk_cell HV0.out 63).trans (by kernel_rfl)
  have f0 := blk_frozen HV0.out 63
  rw [rounds_succ]
  go_wp2_with fail
  show Code.rounds Tryz.prog _ _ _ _ (v0.setCell ⟨_, 63, none⟩ (.int .u8 48))
  have HV1 := Lib.hid (blk_put HV0.out 63 (.int .u8 48) rfl)
  have hv1 := hv0.setCell (p := ⟨w.heap.size, 63, none⟩) (Nat.le_refl _) (.int .u8 48)
  clear hg c0 f0 HV0 hv0
  generalize v0.setCell ⟨w.heap.size, 63, none⟩ (.int .u8 48) = v1 at *
  have hg : w.heap.size < v1.heap.size := (Array.getElem?_eq_some_iff.1 HV1.out).1
  have c0 : v1.cell? ⟨w.heap.size, 62, none⟩ = some (.int .u8 0) := (blk_cell HV1.out 62).trans (by kernel_rfl)
  have f0 := blk_frozen HV1.out 62
  rw [rounds_succ]
  go_wp2_with fail
  show Code.rounds Tryz.prog _ _ _ _ (v1.setCell ⟨_, 62, none⟩ (.int .u8 48))
  have HV2 := Lib.hid (blk_put HV1.out 62 (.int .u8 48) rfl)
  have hv2 := hv1.setCell (p := ⟨w.heap.size, 62, none⟩) (Nat.le_refl _) (.int .u8 48)
  clear hg c0 f0 HV1 hv1
  generalize v1.setCell ⟨w.heap.size, 62, none⟩ (.int .u8 48) = v2 at *
  have hg : w.heap.size < v2.heap.size := (Array.getElem?_eq_some_iff.1 HV2.out).1
  have c0 : v2.cell? ⟨w.heap.size, 61, none⟩ = some (.int .u8 0) := (blk_cell HV2.out 61).trans (by kernel_rfl)
  have f0 := blk_frozen HV2.out 61
  rw [rounds_succ]
  go_wp2_with fail
  show Code.rounds Tryz.prog _ _ _ _ (v2.setCell ⟨_, 61, none⟩ (.int .u8 48))
  have HV3 := Lib.hid (blk_put HV2.out 61 (.int .u8 48) rfl)
  have hv3 := hv2.setCell (p := ⟨w.heap.size, 61, none⟩) (Nat.le_refl _) (.int .u8 48)
  clear hg c0 f0 HV2 hv2
  generalize v2.setCell ⟨w.heap.size, 61, none⟩ (.int .u8 48) = v3 at *
  have hg : w.heap.size < v3.heap.size := (Array.getElem?_eq_some_iff.1 HV3.out).1
  have c0 : v3.cell? ⟨w.heap.size, 60, none⟩ = some (.int .u8 0) := (blk_cell HV3.out 60).trans (by kernel_rfl)
  have f0 := blk_frozen HV3.out 60
  rw [rounds_succ]
  go_wp2_with fail
  show Code.rounds Tryz.prog _ _ _ _ (v3.setCell ⟨_, 60, none⟩ (.int .u8 48))
  have HV4 := Lib.hid (blk_put HV3.out 60 (.int .u8 48) rfl)
  have hv4 := hv3.setCell (p := ⟨w.heap.size, 60, none⟩) (Nat.le_refl _) (.int .u8 48)
  clear hg c0 f0 HV3 hv3
  generalize v3.setCell ⟨w.heap.size, 60, none⟩ (.int .u8 48) = v4 at *
  have hg : w.heap.size < v4.heap.size := (Array.getElem?_eq_some_iff.1 HV4.out).1
  have c0 : v4.cell? ⟨w.heap.size, 59, none⟩ = some (.int .u8 0) := (blk_cell HV4.out 59).trans (by kernel_rfl)
  have f0 := blk_frozen HV4.out 59
  rw [rounds_succ]
  go_wp2_with fail
  show Code.rounds Tryz.prog _ _ _ _ (v4.setCell ⟨_, 59, none⟩ (.int .u8 48))
  have HV5 := Lib.hid (blk_put HV4.out 59 (.int .u8 48) rfl)
  have hv5 := hv4.setCell (p := ⟨w.heap.size, 59, none⟩) (Nat.le_refl _) (.int .u8 48)
  clear hg c0 f0 HV4 hv4
  generalize v4.setCell ⟨w.heap.size, 59, none⟩ (.int .u8 48) = v5 at *
  have hg : w.heap.size < v5.heap.size := (Array.getElem?_eq_some_iff.1 HV5.out).1
  have c0 : v5.cell? ⟨w.heap.size, 58, none⟩ = some (.int .u8 0) := (blk_cell HV5.out 58).trans (by kernel_rfl)
  have f0 := blk_frozen HV5.out 58
  rw [rounds_succ]
  go_wp2_with fail
  show Code.rounds Tryz.prog _ _ _ _ (v5.setCell ⟨_, 58, none⟩ (.int .u8 48))
  have HV6 := Lib.hid (blk_put HV5.out 58 (.int .u8 48) rfl)
  have hv6 := hv5.setCell (p := ⟨w.heap.size, 58, none⟩) (Nat.le_refl _) (.int .u8 48)
  clear hg c0 f0 HV5 hv5
  generalize v5.setCell ⟨w.heap.size, 58, none⟩ (.int .u8 48) = v6 at *
  have hg : w.heap.size < v6.heap.size := (Array.getElem?_eq_some_iff.1 HV6.out).1
  have c0 : v6.cell? ⟨w.heap.size, 57, none⟩ = some (.int .u8 0) := (blk_cell HV6.out 57).trans (by kernel_rfl)
  have f0 := blk_frozen HV6.out 57
  rw [rounds_succ]
  go_wp2_with fail
  show Code.rounds Tryz.prog _ _ _ _ (v6.setCell ⟨_, 57, none⟩ (.int .u8 48))
  have HV7 := Lib.hid (blk_put HV6.out 57 (.int .u8 48) rfl)
  have hv7 := hv6.setCell (p := ⟨w.heap.size, 57, none⟩) (Nat.le_refl _) (.int .u8 48)
  clear hg c0 f0 HV6 hv6
  generalize v6.setCell ⟨w.heap.size, 57, none⟩ (.int .u8 48) = v7 at *
  have hg : w.heap.size < v7.heap.size := (Array.getElem?_eq_some_iff.1 HV7.out).1
  have c0 : v7.cell? ⟨w.heap.size, 56, none⟩ = some (.int .u8 0) := (blk_cell HV7.out 56).trans (by kernel_rfl)
  have f0 := blk_frozen HV7.out 56
  rw [rounds_succ]
  go_wp2_with fail
  show Code.rounds Tryz.prog _ _ _ _ (v7.setCell ⟨_, 56, none⟩ (.int .u8 48))
  have HV8 := Lib.hid (blk_put HV7.out 56 (.int .u8 48) rfl)
  have hv8 := hv7.setCell (p := ⟨w.heap.size, 56, none⟩) (Nat.le_refl _) (.int .u8 48)
  clear hg c0 f0 HV7 hv7
  generalize v7.setCell ⟨w.heap.size, 56, none⟩ (.int .u8 48) = v8 at *
  have hg : w.heap.size < v8.heap.size := (Array.getElem?_eq_some_iff.1 HV8.out).1
  have c0 : v8.cell? ⟨w.heap.size, 55, none⟩ = some (.int .u8 0) := (blk_cell HV8.out 55).trans (by kernel_rfl)
  have f0 := blk_frozen HV8.out 55
  rw [rounds_succ]
  go_wp2_with fail
  show Code.rounds Tryz.prog _ _ _ _ (v8.setCell ⟨_, 55, none⟩ (.int .u8 48))
  have HV9 := Lib.hid (blk_put HV8.out 55 (.int .u8 48) rfl)
  have hv9 := hv8.setCell (p := ⟨w.heap.size, 55, none⟩) (Nat.le_refl _) (.int .u8 48)
  clear hg c0 f0 HV8 hv8
  generalize v8.setCell ⟨w.heap.size, 55, none⟩ (.int .u8 48) = v9 at *
  have hg : w.heap.size < v9.heap.size := (Array.getElem?_eq_some_iff.1 HV9.out).1
  have c0 : v9.cell? ⟨w.heap.size, 54, none⟩ = some (.int .u8 0) := (blk_cell HV9.out 54).trans (by kernel_rfl)
  have f0 := blk_frozen HV9.out 54
  rw [rounds_succ]
  go_wp2_with fail
  show Code.rounds Tryz.prog _ _ _ _ (v9.setCell ⟨_, 54, none⟩ (.int .u8 48))
  have HV10 := Lib.hid (blk_put HV9.out 54 (.int .u8 48) rfl)
  have hv10 := hv9.setCell (p := ⟨w.heap.size, 54, none⟩) (Nat.le_refl _) (.int .u8 48)
  clear hg c0 f0 HV9 hv9
  generalize v9.setCell ⟨w.heap.size, 54, none⟩ (.int .u8 48) = v10 at *
  have hg : w.heap.size < v10.heap.size := (Array.getElem?_eq_some_iff.1 HV10.out).1
  have c0 : v10.cell? ⟨w.heap.size, 53, none⟩ = some (.int .u8 0) := (blk_cell HV10.out 53).trans (by kernel_rfl)
  have f0 := blk_frozen HV10.out 53
  rw [rounds_succ]
  go_wp2_with fail
  show Code.rounds Tryz.prog _ _ _ _ (v10.setCell ⟨_, 53, none⟩ (.int .u8 48))
  have HV11 := Lib.hid (blk_put HV10.out 53 (.int .u8 48) rfl)
  have hv11 := hv10.setCell (p := ⟨w.heap.size, 53, none⟩) (Nat.le_refl _) (.int .u8 48)
  clear hg c0 f0 HV10 hv10
  generalize v10.setCell ⟨w.heap.size, 53, none⟩ (.int .u8 48) = v11 at *
  have hg : w.heap.size < v11.heap.size := (Array.getElem?_eq_some_iff.1 HV11.out).1
  have c0 : v11.cell? ⟨w.heap.size, 52, none⟩ = some (.int .u8 0) := (blk_cell HV11.out 52).trans (by kernel_rfl)
  have f0 := blk_frozen HV11.out 52
  have HV12 := Lib.hid (blk_put HV11.out 52 (.int .u8 56) rfl)
  have hv12 := hv11.setCell (p := ⟨w.heap.size, 52, none⟩) (Nat.le_refl _) (.int .u8 56)
  have hcv' : (convert 94 9 (.slice (some ⟨w.heap.size, 52, none⟩) 13 13)).run Tryz.prog (v11.setCell ⟨w.heap.size, 52, none⟩ (.int .u8 56)) = .ok (.string ⟨#[56, 48, 48, 48, 48, 48, 48, 48, 48, 48, 48, 48, 48]⟩) (v11.setCell ⟨w.heap.size, 52, none⟩ (.int .u8 56)) := by
    clear hg c0 f0 hv12 HV11 hv11
    generalize v11.setCell ⟨w.heap.size, 52, none⟩ (.int .u8 56) = v12 at *
    rw [run_convert_bytes_string v12 94 9 5 _ 13 13 Tryz.underlying94 Tryz.underlying5 Tryz.underlying9]
    rw [run_bytesToString v12 _ 13 13 [56, 48, 48, 48, 48, 48, 48, 48, 48, 48, 48, 48, 48] (by
      have d0 : v12.cell? ⟨w.heap.size, 52, none⟩ = some (.int .u8 56) := (blk_cell HV12.out 52).trans (by kernel_rfl)
      have d1 : v12.cell? ⟨w.heap.size, 53, none⟩ = some (.int .u8 48) := (blk_cell HV12.out 53).trans (by kernel_rfl)
      have d2 : v12.cell? ⟨w.heap.size, 54, none⟩ = some (.int .u8 48) := (blk_cell HV12.out 54).trans (by kernel_rfl)
      have d3 : v12.cell? ⟨w.heap.size, 55, none⟩ = some (.int .u8 48) := (blk_cell HV12.out 55).trans (by kernel_rfl)
      have d4 : v12.cell? ⟨w.heap.size, 56, none⟩ = some (.int .u8 48) := (blk_cell HV12.out 56).trans (by kernel_rfl)
      have d5 : v12.cell? ⟨w.heap.size, 57, none⟩ = some (.int .u8 48) := (blk_cell HV12.out 57).trans (by kernel_rfl)
      have d6 : v12.cell? ⟨w.heap.size, 58, none⟩ = some (.int .u8 48) := (blk_cell HV12.out 58).trans (by kernel_rfl)
      have d7 : v12.cell? ⟨w.heap.size, 59, none⟩ = some (.int .u8 48) := (blk_cell HV12.out 59).trans (by kernel_rfl)
      have d8 : v12.cell? ⟨w.heap.size, 60, none⟩ = some (.int .u8 48) := (blk_cell HV12.out 60).trans (by kernel_rfl)
      have d9 : v12.cell? ⟨w.heap.size, 61, none⟩ = some (.int .u8 48) := (blk_cell HV12.out 61).trans (by kernel_rfl)
      have d10 : v12.cell? ⟨w.heap.size, 62, none⟩ = some (.int .u8 48) := (blk_cell HV12.out 62).trans (by kernel_rfl)
      have d11 : v12.cell? ⟨w.heap.size, 63, none⟩ = some (.int .u8 48) := (blk_cell HV12.out 63).trans (by kernel_rfl)
      have d12 : v12.cell? ⟨w.heap.size, 64, none⟩ = some (.int .u8 48) := (blk_cell HV12.out 64).trans (by kernel_rfl)
      simp [loadCells, d0, d1, d2, d3, d4, d5, d6, d7, d8, d9, d10, d11, d12, go_sem])]
    rfl
  have hcv : (convert 94 9 (.slice (some ⟨w.heap.size, 52, none⟩) 13 13)).run Tryz.prog (v11.setCell ⟨w.heap.size, 52, none⟩ (.int .u8 (({ data := #[48, 49, 50, 51, 52, 53, 54, 55, 56, 57, 97, 98, 99, 100, 101, 102, 103, 104, 105, 106, 107, 108, 109, 110, 111, 112, 113, 114, 115, 116, 117, 118, 119, 120, 121, 122] } : ByteArray)[8]'(by decide)).toNat)) = .ok (.string ⟨#[56, 48, 48, 48, 48, 48, 48, 48, 48, 48, 48, 48, 48]⟩) (v11.setCell ⟨w.heap.size, 52, none⟩ (.int .u8 (({ data := #[48, 49, 50, 51, 52, 53, 54, 55, 56, 57, 97, 98, 99, 100, 101, 102, 103, 104, 105, 106, 107, 108, 109, 110, 111, 112, 113, 114, 115, 116, 117, 118, 119, 120, 121, 122] } : ByteArray)[8]'(by decide)).toNat)) := hcv'
  clear hcv' HV12
  rw [rounds_succ]
  go_wp2_with fail
  go_ret2
  exact ⟨rfl, hv12⟩
set_option maxHeartbeats 1000000 in
theorem formatUint_15 (w : World) (hL : Laid w) : Calls Tryz.prog 74 #[.int .u64 2251799813685248, .int .i64 16] w fun e w' => e = .returned (.string ⟨#[56, 48, 48, 48, 48, 48, 48, 48, 48, 48, 48, 48, 48]⟩) ∧ Below w.heap.size w w' := by
  go_enter Tryz.func74, Tryz.ntmps74
  go_wp2_with fail
  refine (formatBits_15 _ hL).mono ?_
  rintro e w1 ⟨rfl, hb1⟩
  go_wp2_with fail
  go_ret
  exact ⟨rfl, hb1⟩
set_option maxHeartbeats 1000000 in
theorem sformatUint_15 (w : World) (hL : Laid w) : Calls Tryz.prog 49 #[.int .u64 2251799813685248, .int .i64 16] w fun e w' => e = .returned (.string ⟨#[56, 48, 48, 48, 48, 48, 48, 48, 48, 48, 48, 48, 48]⟩) ∧ Below w.heap.size w w' := by
  go_enter Tryz.func49, Tryz.ntmps49
  go_wp2_with fail
  refine (formatUint_15 _ hL).mono ?_
  rintro e w1 ⟨rfl, hb1⟩
  go_wp2_with fail
  go_ret
  exact ⟨rfl, hb1⟩
set_option maxRecDepth 100000 in
set_option maxHeartbeats 1000000 in
theorem hex_15 (w : World) (hL : Laid w) : Calls Tryz.prog 19 #[.float .f64 4609434218613702656] w fun e w' => e = .returned (.tuple #[.string ⟨#[48, 120, 49, 46, 56, 112, 43, 48]⟩, .int .i64 0]) ∧ Below w.heap.size w w' := by
  have a1 : Go.bits .and .u64 6755399441055744 4503599627370495 = 2251799813685248 := by decide +kernel
  go_enter Tryz.func19, Tryz.ntmps19
  go_wp2_with fail
  refine (split_15 _).mono ?_
  rintro e w1 ⟨rfl, rfl⟩
  go_wp2_with fail
  refine (negative_15 _).mono ?_
  rintro e w1 ⟨rfl, rfl⟩
  go_wp2_with fail
  refine wp_loop_rounds 1 ?_
  rw [rounds_succ]
  go_wp2_with fail
  refine (sformatUint_15 _ hL).mono ?_
  rintro e w1 ⟨rfl, hb1⟩
  go_wp2_with fail
  refine (Tryz.strings_Repeat_zero _ _).mono ?_
  rintro e w2 ⟨rfl, rfl⟩
  go_wp2_with fail
  refine (Tryz.strings_TrimRight_one _ 48 (by decide) _ (by decide)).mono ?_
  rintro e w2 ⟨rfl, rfl⟩
  have et : (⟨(Lib.trimRightB (⟨#[]⟩ ++ ⟨#[56, 48, 48, 48, 48, 48, 48, 48, 48, 48, 48, 48, 48]⟩ : ByteArray).data.toList 48).toArray⟩ : ByteArray) = ⟨#[56]⟩ := by kernel_rfl
  rw [et]
  go_wp2_with fail
  have hi : Calls Tryz.prog 45 #[.int .i64 0] w2 fun e w' => e = .returned (.string ⟨#[48]⟩) ∧ w' = w2 := by
    have e0 : (⟨(Lib.decDigits 0).toArray⟩ : ByteArray) = ⟨#[48]⟩ := by simp [Lib.decDigits]
    have := Tryz.strconv_Itoa_small 0 (by decide) w2
    rw [e0] at this; exact this
  refine hi.mono ?_
  rintro e w3 ⟨rfl, rfl⟩
  go_wp2_with fail
  refine bodyPost_ret (v := .tuple #[.string ⟨#[48, 120, 49, 46, 56, 112, 43, 48]⟩, .int .i64 0]) (by simp [results, Tryz.results19, go_sem]; decide +kernel) rfl ?_
  exact ⟨rfl, hb1⟩
end Go.Proofs.YtjpiplplohapnaaGreatDoor
/- Walks at every float (2): a number's hexadecimal digits (formatBits at base 16). -/
namespace Go.Proofs.YtjpiplplohapnaaGreatDoor
open Go.RowKit Go.Sort Go.Proofs.YtjpiplplohapnaaGreatDoorW.PrintWords

/-- A hexadecimal digit. -/
def hx (d : Nat) : UInt8 := if d < 10 then UInt8.ofNat (48 + d) else UInt8.ofNat (87 + d)
/-- The hexadecimal digits of a number, the greatest first. -/
def hexL (x : Nat) : List UInt8 := if _h : x < 16 then [hx x] else hexL (x / 16) ++ [hx (x % 16)]
termination_by x
decreasing_by omega
theorem hexL_small {x : Nat} (h : x < 16) : hexL x = [hx x] := by rw [hexL, dif_pos h]
theorem hexL_step {x : Nat} (h : 16 ≤ x) : hexL x = hexL (x / 16) ++ [hx (x % 16)] := by rw [hexL, dif_neg (by omega)]

structure HexSt (w : World) (u x : Nat) (tl : List UInt8) (w' : World) : Prop where
  below : Below w.heap.size w w'
  row : ∃ cs : Array Value, w'.heap[w.heap.size]? = some (.cells cs 168 (0, 0)) ∧ cs.size = 65 ∧ ∀ j b, tl[j]? = some b → cs[65 - tl.length + j]? = some (encB b)
  val : hexL u = hexL x ++ tl
  len : x * 16 ^ tl.length ≤ u
  big : u < 18446744073709551616
  pos : tl = [] ∨ 1 ≤ x

theorem HexSt.short {w : World} {u x : Nat} {tl : List UInt8} {w' : World} (h : HexSt w u x tl w') (hx : 1 ≤ x) : tl.length < 16 := by
  have h1 := h.len
  have h2 := h.big
  rcases Nat.lt_or_ge tl.length 16 with h3 | h3
  · exact h3
  · have : 16 ^ 16 ≤ 16 ^ tl.length := Nat.pow_le_pow_right (by omega) h3
    have h4 : 1 * 16 ^ tl.length ≤ x * 16 ^ tl.length := Nat.mul_le_mul_right _ hx
    have h5 : (16 : Nat) ^ 16 = 18446744073709551616 := by decide
    omega

theorem row_put {w' : World} {g j : Nat} {tl : List UInt8} {b : UInt8} (hj : j + 1 + tl.length = 65)
    (h : ∃ cs : Array Value, w'.heap[g]? = some (.cells cs 168 (0, 0)) ∧ cs.size = 65 ∧ ∀ j b, tl[j]? = some b → cs[65 - tl.length + j]? = some (encB b)) :
    ∃ cs : Array Value, (w'.setCell ⟨g, j, none⟩ (encB b)).heap[g]? = some (.cells cs 168 (0, 0)) ∧ cs.size = 65 ∧ ∀ i c, (b :: tl)[i]? = some c → cs[65 - (b :: tl).length + i]? = some (encB c) := by
  obtain ⟨cs, h1, h2, h3⟩ := h
  refine ⟨cs.setIfInBounds j (encB b), blk_put h1 j _ rfl, by simp [h2], fun i c hc => ?_⟩
  have e : 65 - (b :: tl).length = j := by simp; omega
  rw [e]
  cases i with
  | zero =>
    simp at hc
    subst hc
    simp [Array.getElem?_setIfInBounds, h2]; omega
  | succ i =>
    simp at hc
    have := h3 i c hc
    rw [Array.getElem?_setIfInBounds, if_neg (by omega)]
    rw [← this]
    congr 1; omega

theorem HexSt.put {w : World} {u x j : Nat} {tl : List UInt8} {w' : World} (h : HexSt w u x tl w') (hx16 : 16 ≤ x) (hj : j + 1 + tl.length = 65) :
    HexSt w u (x / 16) (hx (x % 16) :: tl) (w'.setCell ⟨w.heap.size, j, none⟩ (encB (hx (x % 16)))) where
  below := h.below.setCell (Nat.le_refl _) _
  row := row_put hj h.row
  val := by rw [h.val, hexL_step hx16]; simp
  len := by
    have := h.len
    rw [List.length_cons, Nat.pow_succ]
    have h1 : x / 16 * (16 ^ tl.length * 16) = x / 16 * 16 * 16 ^ tl.length := by rw [Nat.mul_assoc, Nat.mul_comm 16 (16 ^ tl.length)]
    rw [h1]
    exact Nat.le_trans (Nat.mul_le_mul_right _ (Nat.div_mul_le_self x 16)) this
  big := h.big
  pos := Or.inr (by omega)
theorem HexSt.cell {w : World} {u x j : Nat} {tl : List UInt8} {w' : World} (h : HexSt w u x tl w') (hj : j < 65) : ∃ v, w'.cell? ⟨w.heap.size, j, none⟩ = some v := by
  obtain ⟨cs, h1, h2, -⟩ := h.row
  exact ⟨cs[j]'(by omega), (blk_cell h1 j).trans (Array.getElem?_eq_getElem (by omega))⟩
theorem HexSt.frozen {w : World} {u x : Nat} {tl : List UInt8} {w' : World} (h : HexSt w u x tl w') (j : Nat) : w'.frozen? ⟨w.heap.size, j, none⟩ = false := by
  obtain ⟨cs, h1, -, -⟩ := h.row
  exact blk_frozen h1 j
theorem HexSt.lt {w : World} {u x : Nat} {tl : List UInt8} {w' : World} (h : HexSt w u x tl w') : w.heap.size < w'.heap.size := by
  obtain ⟨cs, h1, -, -⟩ := h.row
  exact (Array.getElem?_eq_some_iff.1 h1).1
abbrev digs : ByteArray := { data := #[48, 49, 50, 51, 52, 53, 54, 55, 56, 57, 97, 98, 99, 100, 101, 102, 103, 104, 105, 106, 107, 108, 109, 110, 111, 112, 113, 114, 115, 116, 117, 118, 119, 120, 121, 122] }
theorem digs_hx (d : Nat) (h : d < 16) (h' : d < digs.size) : digs[d] = hx d := by
  have : ∀ d : Fin 16, digs.data[d.val]? = some (hx d.val) := by decide
  have := this ⟨d, h⟩
  have h2 : digs.data[d]? = some (digs.data[d]) := Array.getElem?_eq_getElem h'
  exact Option.some.inj (h2.symm.trans this)
theorem bytes_of_cells {w : World} {g i : Nat} {l : List UInt8} (h : ∀ j b, l[j]? = some b → w.cell? ⟨g, i + j, none⟩ = some (encB b)) :
    (convert 94 9 (.slice (some ⟨g, i, none⟩) l.length l.length)).run Tryz.prog w = .ok (.string ⟨l.toArray⟩) w := by
  rw [run_convert_bytes_string w 94 9 5 _ _ _ Tryz.underlying94 Tryz.underlying5 Tryz.underlying9]
  have hl := run_loadCells_list (P := Tryz.prog) (w := w) ⟨g, i, none⟩ (l.map encB) (fun j v hv => by
    rw [List.getElem?_map] at hv
    obtain ⟨b, hb, rfl⟩ := Option.map_eq_some_iff.1 hv
    have := h j b hb
    unfold Addr.add
    split
    · rename_i h0; subst h0; exact this
    · exact this)
  rw [List.length_map] at hl
  rw [run_bytesToString w _ _ _ (l.map fun b => (b.toNat : Int)) (by rw [hl, List.map_map]; rfl)]
  congr 2
  rw [List.foldl_map]
  have : ∀ (l : List UInt8) (acc : ByteArray), l.foldl (fun r n => r.push (UInt8.ofNat ((n.toNat : Int)).toNat)) acc = ⟨acc.data ++ l.toArray⟩ := by
    intro l
    induction l with
    | nil => intro acc; simp
    | cons b l ih => intro acc; rw [List.foldl_cons, ih]; simp [ByteArray.push]
  rw [this]
  simp
theorem HexSt.last {w : World} {u x i : Nat} {tl : List UInt8} {w' : World} (h : HexSt w u x tl w') (hi : i + 1 + tl.length = 65) (hx16 : x < 16) :
    (convert 94 9 (.slice (some ⟨w.heap.size, i, none⟩) (65 - i) (65 - i))).run Tryz.prog (w'.setCell ⟨w.heap.size, i, none⟩ (encB (hx x))) = .ok (.string ⟨(hexL u).toArray⟩) (w'.setCell ⟨w.heap.size, i, none⟩ (encB (hx x))) := by
  have hv : hexL u = hx x :: tl := by rw [h.val, hexL_small hx16]; rfl
  have hlen : (hx x :: tl).length = 65 - i := by rw [List.length_cons]; omega
  obtain ⟨cs, h1, h2, h3⟩ := row_put (b := hx x) hi h.row
  rw [hv, ← hlen]
  refine bytes_of_cells fun j b hb => ?_
  have := h3 j b hb
  rw [hlen, show 65 - (65 - i) = i by omega] at this
  exact (blk_cell h1 (i + j)).trans this
set_option maxRecDepth 100000 in
set_option maxHeartbeats 1000000 in
theorem formatBits16 (u : Nat) (hu : u < 18446744073709551616) (w : World) (hL : Laid w) : Calls Tryz.prog 103 #[.slice none 0 0, .int .u64 u, .int .i64 16, .bool false, .bool false] w fun e w' => e = .returned (.tuple #[.slice none 0 0, .string ⟨(hexL u).toArray⟩]) ∧ Below w.heap.size w w' := by
  have HG := Lib.hid (blk_new w (.cells Tryz.zeroCells168 168 (0, 0)))
  have hL0 : Laid (w.alloc (.cells Tryz.zeroCells168 168 (0, 0))) := hL.below ((Below.refl _ _).alloc (Nat.le_refl _) _)
  have hb0 : Below w.heap.size w (w.alloc (.cells Tryz.zeroCells168 168 (0, 0))) := (Below.refl _ _).alloc (Nat.le_refl _) _
  go_enter Tryz.func103, Tryz.ntmps103
  go_wp2_with fail
  refine (pow2_16 _).mono ?_
  rintro e w1 ⟨rfl, hb1⟩
  have HG1 := Lib.hid (blk_below HG.out hb1)
  have hL1 := hL0.below hb1
  have hb01 := hb0.trans (hb1.mono (by simp))
  go_wp2_with fail
  refine (tz_16 _ hL1).mono ?_
  rintro e w2 ⟨rfl, hb2⟩
  have HG2 := Lib.hid (blk_below HG1.out hb2)
  have hb02 := hb01.trans (hb2.mono hb01.size)
  have HS : HexSt w u u [] w2 := ⟨hb02, ⟨_, HG2.out, by kernel_rfl, fun j b h => by cases h⟩, by simp, by simp, hu, Or.inl rfl⟩
  clear HG HG1 HG2 hL0 hL1 hb0 hb1 hb01 hb2 hb02
  go_wp2_with fail
  go_loopw [1, 13] (fun v1 v13 w' => ∃ (x j : Nat) (tl : List UInt8), v1 = .int .u64 x ∧ v13 = .int .i64 j ∧ j + tl.length = 65 ∧ HexSt w u x tl w') (fun v1 _ _ => (RowKit.intOf v1).toNat)
  case atStart => exact ⟨u, 65, [], rfl, rfl, rfl, HS⟩
  case round =>
    obtain ⟨x, j, tl, rfl, rfl, hj, HS⟩ := hrel
    by_cases h16 : x < 16
    · have h16' : ¬ (16 : Int) ≤ x := by omega
      have hshort : tl.length < 16 := by
        rcases HS.pos with h | h
        · rw [h]; decide
        · exact HS.short h
      obtain ⟨i, rfl⟩ : ∃ i, j = i + 1 := ⟨j - 1, by omega⟩
      have hi64 : (i : Int) < 65 := by omega
      have hi0 : (0 : Int) ≤ i := by omega
      have hwi : IntKind.i64.wrap (i : Int) = i := wrap_i64_in (by omega) (by omega)
      obtain ⟨v, hcell⟩ := HS.cell (j := i) (by omega)
      have hfro := HS.frozen i
      have hlt := HS.lt
      have HS' := Lib.hid HS
      have hx36 : (x : Int) < 36 := by omega
      have hi65 : (i : Int) ≤ 65 := by omega
      have hdg := digs_hx x h16 (by show _ < 36; omega)
      have hcv := HS.last (by omega) h16
      have hbl := HS.below.setCell (p := ⟨w.heap.size, i, none⟩) (Nat.le_refl _) (encB (hx x))
      clear HS
      go_wp2_with fail
      go_ret2
      exact ⟨rfl, hbl⟩
    · have h16' : (16 : Int) ≤ x := by omega
      have hsh := HS.short (by omega)
      obtain ⟨i, rfl⟩ : ∃ i, j = i + 1 := ⟨j - 1, by omega⟩
      have hi64 : (i : Int) < 65 := by omega
      have hi0 : (0 : Int) ≤ i := by omega
      have hwi : IntKind.i64.wrap (i : Int) = i := wrap_i64_in (by omega) (by omega)
      obtain ⟨v, hcell⟩ := HS.cell (j := i) (by omega)
      have hfro := HS.frozen i
      have hlt := HS.lt
      have hand : Go.bits .and .u64 (x : Int) 15 = ((x % 16 : Nat) : Int) := by
        have := Go.u64_and_nat x 15 (by have := HS.len; have := HS.big; have h1 : 1 ≤ 16 ^ tl.length := Nat.pow_pos (by omega); have : x * 1 ≤ x * 16 ^ tl.length := Nat.mul_le_mul_left _ h1; omega) (by omega)
        rw [show ((15 : Nat) : Int) = 15 from rfl] at this
        rw [this]
        exact congrArg _ (Nat.and_two_pow_sub_one_eq_mod x 4)
      have hd : x % 16 < 16 := by omega
      have HS' := Lib.hid HS
      clear HS
      go_wp2_with fail
      have hS2 := HS'.out.put (j := i) (by omega) (by omega)
      refine ⟨⟨x / 16, i, hx (x % 16) :: tl, by rw [Int.natCast_ediv]; rfl, rfl, by rw [List.length_cons]; omega, ?_⟩, by simp [RowKit.intOf]; omega⟩
      have hdg := digs_hx (x % 16) (by omega) (by show _ < 36; omega)
      show HexSt w u (x / 16) (hx (x % 16) :: tl) (wr.setCell _ (encB (digs[x % 16]'(by show _ < 36; omega))))
      rw [hdg]
      exact hS2
set_option maxHeartbeats 1000000 in
theorem formatUint16 (u : Nat) (hu : u < 18446744073709551616) (w : World) (hL : Laid w) : Calls Tryz.prog 74 #[.int .u64 u, .int .i64 16] w fun e w' => e = .returned (.string ⟨(hexL u).toArray⟩) ∧ Below w.heap.size w w' := by
  go_enter Tryz.func74, Tryz.ntmps74
  go_wp2_with fail
  refine (formatBits16 u hu _ hL).mono ?_
  rintro e w1 ⟨rfl, hb1⟩
  go_wp2_with fail
  go_ret
  exact ⟨rfl, hb1⟩
set_option maxHeartbeats 1000000 in
theorem sformatUint16 (u : Nat) (hu : u < 18446744073709551616) (w : World) (hL : Laid w) : Calls Tryz.prog 49 #[.int .u64 u, .int .i64 16] w fun e w' => e = .returned (.string ⟨(hexL u).toArray⟩) ∧ Below w.heap.size w w' := by
  go_enter Tryz.func49, Tryz.ntmps49
  go_wp2_with fail
  refine (formatUint16 u hu _ hL).mono ?_
  rintro e w1 ⟨rfl, hb1⟩
  go_wp2_with fail
  go_ret
  exact ⟨rfl, hb1⟩
theorem repeat0 (c : Nat) (hc : c ≤ 13) (w : World) : Calls Tryz.prog 50 #[.string ⟨#[48]⟩, .int .i64 c] w fun e w' => e = .returned (.string ⟨(List.replicate c (48 : UInt8)).toArray⟩) ∧ Below w.heap.size w w' := by
  rcases Nat.lt_or_ge c 2 with h | h
  · have : c = 0 ∨ c = 1 := by omega
    rcases this with rfl | rfl
    · exact (Tryz.strings_Repeat_zero _ w).mono fun e w' ⟨h1, h2⟩ => ⟨h1, h2 ▸ Below.refl _ _⟩
    · exact (Tryz.strings_Repeat_one _ w).mono fun e w' ⟨h1, h2⟩ => ⟨h1, h2 ▸ Below.refl _ _⟩
  · refine (Tryz.strings_Repeat_main ⟨#[48]⟩ c w h (by omega) (by show 1 * c ≤ _; omega) (by decide)).mono fun e w' ⟨h1, h2⟩ => ⟨?_, h2⟩
    rw [h1]
    have : ∀ n, Lib.repeatL [48] n = List.replicate n (48 : UInt8) := by
      intro n
      induction n with
      | zero => rfl
      | succ n ih => rw [List.replicate_succ, ← ih]; rfl
    rw [← this]
end Go.Proofs.YtjpiplplohapnaaGreatDoor
/- Plain: numerals: decimal digits and what they spell; what a text is read as by Int (2.4), three times the same: by the program, by the document, by the numeral. No program here. -/
namespace Go.Proofs.YtjpiplplohapnaaGreatDoor.Num
open Go

def isD (c : UInt8) : Prop := 48 ≤ c.toNat ∧ c.toNat ≤ 57
instance (c : UInt8) : Decidable (isD c) := inferInstanceAs (Decidable (_ ∧ _))

/-- One digit more. -/
def st (a : Nat) (c : UInt8) : Nat := 10 * a + (c.toNat - 48)
/-- What digits spell, behind 'acc'. -/
def dv (acc : Nat) (l : List UInt8) : Nat := l.foldl st acc
theorem dv_nil (a : Nat) : dv a [] = a := by unfold dv; rw [List.foldl_nil]
theorem dv_cons (a : Nat) (c : UInt8) (r : List UInt8) : dv a (c :: r) = dv (10 * a + (c.toNat - 48)) r := by unfold dv; rw [List.foldl_cons]; rfl

theorem dv_append (l m : List UInt8) (a : Nat) : dv a (l ++ m) = dv (dv a l) m := by
  induction l generalizing a with
  | nil => rw [dv_nil, List.nil_append]
  | cons c r ih => rw [List.cons_append, dv_cons, dv_cons, ih]

theorem dv_snoc (l : List UInt8) (c : UInt8) (a : Nat) : dv a (l ++ [c]) = 10 * dv a l + (c.toNat - 48) := by rw [dv_append, dv_cons, dv_nil]

theorem dv_ge (l : List UInt8) (a : Nat) : a * 10 ^ l.length ≤ dv a l := by
  induction l generalizing a with
  | nil => simp [dv_nil]
  | cons c r ih =>
    have h1 := ih (10 * a + (c.toNat - 48))
    have h2 : 10 * a * 10 ^ r.length ≤ (10 * a + (c.toNat - 48)) * 10 ^ r.length := Nat.mul_le_mul_right _ (Nat.le_add_right _ _)
    have e : a * 10 ^ (r.length + 1) = 10 * a * 10 ^ r.length := by rw [Nat.pow_succ, Nat.mul_comm (10 ^ r.length) 10, ← Nat.mul_assoc, Nat.mul_comm a 10]
    rw [dv_cons, List.length_cons]
    rw [e]
    exact Nat.le_trans h2 h1

theorem dv_lt (l : List UInt8) (h : ∀ c ∈ l, isD c) (a : Nat) : dv a l < (a + 1) * 10 ^ l.length := by
  induction l generalizing a with
  | nil => simp [dv_nil]
  | cons c r ih =>
    have hc := h c (by simp)
    have h1 := ih (fun x hx => h x (by simp [hx])) (10 * a + (c.toNat - 48))
    have h2 : (10 * a + (c.toNat - 48) + 1) * 10 ^ r.length ≤ (10 * (a + 1)) * 10 ^ r.length := Nat.mul_le_mul_right _ (by unfold isD at hc; omega)
    have e : (a + 1) * 10 ^ (r.length + 1) = 10 * (a + 1) * 10 ^ r.length := by rw [Nat.pow_succ, Nat.mul_comm (10 ^ r.length) 10, ← Nat.mul_assoc, Nat.mul_comm (a + 1) 10]
    rw [dv_cons, List.length_cons]
    rw [e]
    exact Nat.lt_of_lt_of_le h1 h2

theorem toNat_digit {d : Nat} (h : d < 10) : (UInt8.ofNat (48 + d)).toNat = 48 + d := by
  rw [UInt8.toNat_ofNat']; omega

theorem digit_of {c : UInt8} (h : isD c) : UInt8.ofNat (48 + (c.toNat - 48)) = c := by
  unfold isD at h
  rw [show 48 + (c.toNat - 48) = c.toNat by omega, UInt8.ofNat_toNat]

theorem dec_digits (u : Nat) : ∀ c ∈ Lib.decDigits u, isD c := by
  induction u using Nat.strongRecOn with
  | ind u ih =>
    rw [Lib.decDigits]
    by_cases h : u < 10
    · rw [dif_pos h]
      intro c hc
      obtain rfl := List.mem_singleton.1 hc
      unfold isD; rw [toNat_digit h]; omega
    · rw [dif_neg h]
      intro c hc
      rcases List.mem_append.1 hc with h1 | h1
      · exact ih (u / 10) (by omega) c h1
      · obtain rfl := List.mem_singleton.1 h1
        unfold isD; rw [toNat_digit (by omega)]; omega

theorem dec_ne (u : Nat) : Lib.decDigits u ≠ [] := by
  rw [Lib.decDigits]
  by_cases h : u < 10
  · rw [dif_pos h]; simp
  · rw [dif_neg h]; simp

theorem dv_dec (u : Nat) : dv 0 (Lib.decDigits u) = u := by
  induction u using Nat.strongRecOn with
  | ind u ih =>
    rw [Lib.decDigits]
    by_cases h : u < 10
    · rw [dif_pos h]; simp only [dv_cons, dv_nil]; rw [toNat_digit h]; omega
    · rw [dif_neg h, dv_snoc, ih (u / 10) (by omega), toNat_digit (by omega)]; omega

/-- Digits without an idle 0 ahead. -/
def canon (l : List UInt8) : Prop := l ≠ [] ∧ (∀ c ∈ l, isD c) ∧ (l.head? = some 48 → l.length = 1)
instance (l : List UInt8) : Decidable (canon l) := inferInstanceAs (Decidable (_ ∧ _ ∧ _))

theorem dec_canon (u : Nat) : canon (Lib.decDigits u) := by
  refine ⟨dec_ne u, dec_digits u, ?_⟩
  induction u using Nat.strongRecOn with
  | ind u ih =>
    rw [Lib.decDigits]
    by_cases h : u < 10
    · rw [dif_pos h]; simp
    · rw [dif_neg h]
      have hne := dec_ne (u / 10)
      intro hh
      exfalso
      have hh' : (Lib.decDigits (u / 10)).head? = some 48 := by
        cases hl : Lib.decDigits (u / 10) with
        | nil => exact absurd hl hne
        | cons c r => rw [hl] at hh; simpa using hh
      have hlen := ih (u / 10) (by omega) hh'
      cases hl : Lib.decDigits (u / 10) with
      | nil => exact absurd hl hne
      | cons c r =>
        rw [hl] at hh' hlen
        obtain rfl : r = [] := by simpa using hlen
        obtain rfl : c = 48 := by simpa using hh'
        have := dv_dec (u / 10)
        rw [hl] at this
        simp only [dv_cons, dv_nil] at this
        have e : (48 : UInt8).toNat = 48 := rfl
        omega

theorem dec_of_canon (l : List UInt8) (h : canon l) : Lib.decDigits (dv 0 l) = l := by
  obtain ⟨hne, hd, h0⟩ := h
  generalize hn : l.length = n
  induction n generalizing l with
  | zero => exact absurd (List.length_eq_zero_iff.1 hn) hne
  | succ n ih =>
    obtain ⟨m, c, rfl⟩ : ∃ m c, l = m ++ [c] := ⟨l.dropLast, l.getLast hne, (List.dropLast_concat_getLast hne).symm⟩
    have hc : isD c := hd c (by simp)
    have hc' := hc
    unfold isD at hc'
    rw [dv_snoc]
    cases m with
    | nil =>
      rw [Lib.decDigits, dif_pos (by simp only [dv_nil]; omega)]
      simp only [dv_nil, Nat.mul_zero, Nat.zero_add, List.nil_append]
      rw [digit_of hc]
    | cons b r =>
      have hb : isD b := hd b (by simp)
      have hb' := hb
      unfold isD at hb'
      have hb0 : b ≠ 48 := by
        rintro rfl
        have := h0 (by simp)
        simp at this
      have hb1 : b.toNat ≠ 48 := fun e => hb0 (by rw [← UInt8.ofNat_toNat (x := b), e]; rfl)
      have hv : 1 ≤ dv 0 (b :: r) := by
        have := dv_ge r (10 * 0 + (b.toNat - 48))
        have h1 : 1 ≤ 10 ^ r.length := Nat.pow_pos (by decide)
        have h2 : 1 * 1 ≤ (10 * 0 + (b.toNat - 48)) * 10 ^ r.length := Nat.mul_le_mul (by omega) h1
        simp only [dv_cons]; omega
      have ihm := ih (b :: r) (by simp) (fun x hx => hd x (by simp at hx ⊢; rcases hx with rfl | hx <;> simp [*])) (fun e => absurd (by simpa using e) hb0) (by simp at hn ⊢; omega)
      rw [Lib.decDigits, dif_neg (by omega)]
      rw [show (10 * dv 0 (b :: r) + (c.toNat - 48)) / 10 = dv 0 (b :: r) by omega, show (10 * dv 0 (b :: r) + (c.toNat - 48)) % 10 = c.toNat - 48 by omega, ihm, digit_of hc]

/-- What Int tells (2.4). -/
def intOf (l : List UInt8) : Option Int :=
  match l with
  | [] => none
  | c :: r =>
    if c.toNat = 45 then (if canon r ∧ r.head? ≠ some 48 ∧ dv 0 r ≤ 9223372036854775808 then some (-(dv 0 r : Int)) else none)
    else if canon (c :: r) ∧ dv 0 (c :: r) < 9223372036854775808 then some (dv 0 (c :: r) : Int) else none

def told (o : Option Int) : Int × Bool := match o with | some n => (n, true) | none => (0, false)

theorem parse_digits (l : List UInt8) (h : ∀ c ∈ l, isD c) (a : Nat) (hl : dv a l < 18446744073709551616) : Lib.parseUint10 a l = .ok (dv a l) := by
  induction l generalizing a with
  | nil => rw [dv_nil]; rfl
  | cons c r ih =>
    have hc := h c (by simp)
    have hge := dv_ge r (10 * a + (c.toNat - 48))
    have h1 : 1 ≤ 10 ^ r.length := Nat.pow_pos (by decide)
    have h2 : (10 * a + (c.toNat - 48)) * 1 ≤ (10 * a + (c.toNat - 48)) * 10 ^ r.length := Nat.mul_le_mul_left _ h1
    simp only [dv_cons] at hl
    simp only [Lib.parseUint10, dv_cons]
    unfold isD at hc
    rw [if_pos hc, if_neg (by omega), if_neg (by omega), Nat.mul_comm a 10]
    exact ih (fun x hx => h x (by simp [hx])) _ hl

theorem atoi_of_intOf {l : List UInt8} {n : Int} (h : intOf l = some n) : Lib.atoiAll l = .ok n ∧ Lib.itoa n = l := by
  cases l with
  | nil => simp [intOf] at h
  | cons c r =>
    simp only [intOf] at h
    by_cases hc : c.toNat = 45
    · rw [if_pos hc] at h
      by_cases hr : canon r ∧ r.head? ≠ some 48 ∧ dv 0 r ≤ 9223372036854775808
      · rw [if_pos hr] at h
        obtain ⟨hcan, hz, hb⟩ := hr
        obtain rfl : -(dv 0 r : Int) = n := Option.some.inj h
        have hpos : 1 ≤ dv 0 r := by
          cases r with
          | nil => exact absurd rfl hcan.1
          | cons b q =>
            have hb1 := hcan.2.1 b (by simp)
            have hb0 : b.toNat ≠ 48 := fun e => hz (by rw [List.head?_cons, ← UInt8.ofNat_toNat (x := b), e]; rfl)
            have := dv_ge q (10 * 0 + (b.toNat - 48))
            have h1 : 1 ≤ 10 ^ q.length := Nat.pow_pos (by decide)
            unfold isD at hb1
            have h2 : 1 * 1 ≤ (10 * 0 + (b.toNat - 48)) * 10 ^ q.length := Nat.mul_le_mul (by omega) h1
            simp only [dv_cons]; omega
        constructor
        · simp only [Lib.atoiAll]
          rw [if_pos (Or.inr hc)]
          unfold Lib.parseMag
          rw [if_neg hcan.1, parse_digits r hcan.2.1 0 (by omega)]
          simp only [hc]
          rw [if_neg (by simp), if_neg (by omega)]
          simp
        · unfold Lib.itoa
          rw [if_pos (by omega)]
          rw [show (-(dv 0 r : Int)).natAbs = dv 0 r by omega, dec_of_canon r hcan]
          congr 1
          rw [← UInt8.ofNat_toNat (x := c), hc]; rfl
      · rw [if_neg hr] at h; cases h
    · rw [if_neg hc] at h
      by_cases hr : canon (c :: r) ∧ dv 0 (c :: r) < 9223372036854775808
      · rw [if_pos hr] at h
        obtain ⟨hcan, hb⟩ := hr
        obtain rfl : (dv 0 (c :: r) : Int) = n := Option.some.inj h
        have hc1 := hcan.2.1 c (by simp)
        unfold isD at hc1
        constructor
        · simp only [Lib.atoiAll]
          rw [if_neg (by omega)]
          unfold Lib.parseMag
          rw [if_neg (by simp), parse_digits (c :: r) hcan.2.1 0 (by omega)]
          simp only
          rw [if_neg (by omega), if_neg (by omega), if_neg hc]
        · unfold Lib.itoa
          rw [if_neg (by omega), Int.toNat_natCast, dec_of_canon _ hcan]
      · rw [if_neg hr] at h; cases h

theorem intOf_itoa (n : Int) (h0 : -9223372036854775808 ≤ n) (h1 : n ≤ 9223372036854775807) : intOf (Lib.itoa n) = some n := by
  unfold Lib.itoa
  by_cases hn : n < 0
  · rw [if_pos hn]
    simp only [intOf]
    have e : (45 : UInt8).toNat = 45 := rfl
    have hnz : (Lib.decDigits n.natAbs).head? ≠ some 48 := by
      intro hz
      have hl := (dec_canon n.natAbs).2.2 hz
      cases hd : Lib.decDigits n.natAbs with
      | nil => exact dec_ne _ hd
      | cons c r =>
        rw [hd] at hz hl
        obtain rfl : r = [] := by simpa using hl
        obtain rfl : c = 48 := by simpa using hz
        have := dv_dec n.natAbs
        rw [hd] at this
        have e : (48 : UInt8).toNat = 48 := rfl
        simp only [dv_cons, dv_nil] at this; omega
    have hm : -((n.natAbs : Nat) : Int) = n := by omega
    rw [if_pos e, dv_dec, if_pos ⟨dec_canon _, hnz, by omega⟩, hm]
  · rw [if_neg hn]
    have hcan := dec_canon n.toNat
    have hdv := dv_dec n.toNat
    cases hd : Lib.decDigits n.toNat with
    | nil => exact absurd hd (dec_ne _)
    | cons c r =>
      rw [hd] at hcan hdv
      have hc1 := hcan.2.1 c (by simp)
      unfold isD at hc1
      simp only [intOf]
      rw [if_neg (by omega), if_pos ⟨hcan, by omega⟩, hdv]
      congr 1; omega

/-- What the program's Int comes to. -/
def progInt (l : List UInt8) : Int × Bool := match Lib.atoiAll l with
  | .ok v => if Lib.itoa v = l then (v, true) else (0, false)
  | _ => (0, false)

theorem atoi_bounds {l : List UInt8} {v : Int} (h : Lib.atoiAll l = .ok v) : -9223372036854775808 ≤ v ∧ v ≤ 9223372036854775807 := by
  cases l with
  | nil => simp [Lib.atoiAll] at h
  | cons c r =>
    simp only [Lib.atoiAll] at h
    split at h
    · cases h
    · cases h
    · split at h
      · cases h
      · split at h
        · cases h
        · injection h with h
          split at h <;> omega

theorem progInt_eq (l : List UInt8) : progInt l = told (intOf l) := by
  unfold progInt
  cases hi : intOf l with
  | some n =>
    obtain ⟨h1, h2⟩ := atoi_of_intOf hi
    rw [h1]; simp only; rw [if_pos h2]; rfl
  | none =>
    cases ha : Lib.atoiAll l with
    | ok v =>
      simp only
      by_cases he : Lib.itoa v = l
      · have hb := atoi_bounds ha
        have := intOf_itoa v hb.1 hb.2
        rw [he, hi] at this
        cases this
      · rw [if_neg he]; rfl
    | _ => rfl
end Go.Proofs.YtjpiplplohapnaaGreatDoor.Num
