/- Part 2 of the proof: AwB, AwC, AwD, GA, AHx, Nr, NrI, Us, Ut, Uq, Un. -/
import Derived.Test.YtjpiplplohapnaaGreatDoorPl1
import Derived.Laws.FloatArith
import Derived.Deep.QuietTactic
import Derived.BigQuiet
import Derived.Laws.BitsAllLaws
import Derived.LoopTactic
import Derived.LaidEqlPtr
import Derived.Deep.CutBlock
import Derived.Deep.DeepCutAuto
import Ieee.Arith
import GoSem.PinnedTables
import Derived.KernelRfl
set_option linter.unusedVariables false
set_option linter.unusedSimpArgs false
namespace Go.Proofs.YtjpiplplohapnaaGreatDoor
open Go.RowKit Go.Proofs.YtjpiplplohapnaaGreatDoorW.PrintWords
theorem bool2_u64f (w : World) : Calls Tryz.prog 150 #[.bool false] w fun e w' => e = .returned (.int .u64 0) ∧ Below w.heap.size w w' :=
  (PText.strconv_bool2_uint64.calls false 0 w (by decide +kernel)).mono fun _ _ ⟨h1, h2⟩ => ⟨h1, h2.below⟩
theorem f10_1 {w : World} (h : Laid w) : ∃ a : Addr, w.cell? ⟨10, 0, none⟩ = some (.slice (some a) 23 23) ∧ w.cell? ⟨a.block, a.off + 1, none⟩ = some (.float .f64 4621819117588971520) := by
  obtain ⟨a, h1, h2⟩ := h.f10Cell
  exact ⟨a, h1, (h2 1 (by decide)).trans (by kernel_rfl)⟩
set_option maxRecDepth 100000 in
set_option maxHeartbeats 1000000 in
theorem atof64exact_01 (w : World) (hL : Laid w) : Calls Tryz.prog 152 #[.int .u64 1, .int .i64 (-1), .bool false] w fun e w' => e = .returned (.tuple #[.float .f64 4591870180066957722, .bool true]) ∧ Below w.heap.size w w' := by
  obtain ⟨b, c1, c2⟩ := f10_1 hL
  obtain ⟨i0, i1, i2⟩ := hL.infCell
  have hq : ∀ W : World, (binOp .quo 22 (.float .f64 (floatOfInt .f64 1)) (.float .f64 4621819117588971520)).run Tryz.prog W = .ok (.float .f64 4591870180066957722) W := fun W => run_float_arith W .quo 22 .f64 _ _ _ (by kernel_rfl)
  go_enter Tryz.func152, Tryz.ntmps152
  go_wp2_with fail
  go_ret2
  exact ⟨rfl, Below.refl _ _⟩
set_option maxRecDepth 100000 in
set_option maxHeartbeats 1000000 in
theorem atof64_01 (w : World) (hL : Laid w) : Calls Tryz.prog 112 #[.string s01] w fun e w' => e = .returned (.tuple #[.float .f64 4591870180066957722, .int .i64 3, .nilIface]) ∧ Below w.heap.size w w' := by
  go_enter Tryz.func112, Tryz.ntmps112
  go_wp2_with fail
  refine (special_01 _).mono ?_
  rintro e w1 ⟨rfl, hb1⟩
  go_wp2_with fail
  refine (readFloat_01 _).mono ?_
  rintro e w2 ⟨rfl, hb2⟩
  have hL2 := (hL.below hb1).below hb2
  have ho := hL2.optCell
  have hb := hb1.trans (hb2.mono hb1.size)
  go_wp2_with fail
  refine (bool2_u64f _).mono ?_
  rintro e w3 ⟨rfl, hb3⟩
  have hL3 := hL2.below hb3
  have hbb := hb.trans (hb3.mono hb.size)
  go_wp2_with fail
  refine (atof64exact_01 _ hL3).mono ?_
  rintro e w4 ⟨rfl, hb4⟩
  go_wp2_with fail
  go_ret3
  exact ⟨rfl, hbb.trans (hb4.mono hbb.size)⟩
set_option maxHeartbeats 1000000 in
theorem prefix_01 (w : World) (hL : Laid w) : Calls Tryz.prog 87 #[.string s01, .int .i64 64] w fun e w' => e = .returned (.tuple #[.float .f64 4591870180066957722, .int .i64 3, .nilIface]) ∧ Below w.heap.size w w' := by
  go_enter Tryz.func87, Tryz.ntmps87
  go_wp2_with fail
  refine (atof64_01 _ hL).mono ?_
  rintro e w1 ⟨rfl, hb1⟩
  go_wp2_with fail
  go_ret3
  exact ⟨rfl, hb1⟩
set_option maxHeartbeats 1000000 in
theorem iparse_01 (w : World) (hL : Laid w) : Calls Tryz.prog 60 #[.string s01, .int .i64 64] w fun e w' => e = .returned (.tuple #[.float .f64 4591870180066957722, .nilIface]) ∧ Below w.heap.size w w' := by
  go_enter Tryz.func60, Tryz.ntmps60
  go_wp2_with fail
  refine (prefix_01 _ hL).mono ?_
  rintro e w1 ⟨rfl, hb1⟩
  go_wp2_with fail
  go_ret2
  exact ⟨rfl, hb1⟩
set_option maxHeartbeats 1000000 in
theorem sparse_01 (w : World) (hL : Laid w) : Calls Tryz.prog 24 #[.string s01, .int .i64 64] w fun e w' => e = .returned (.tuple #[.float .f64 4591870180066957722, .nilIface]) ∧ Below w.heap.size w w' := by
  go_enter Tryz.func24, Tryz.ntmps24
  go_wp2_with fail
  refine (iparse_01 _ hL).mono ?_
  rintro e w1 ⟨rfl, hb1⟩
  go_wp2_with fail
  go_ret2
  exact ⟨rfl, hb1⟩
set_option maxHeartbeats 1000000 in
theorem parse_01 (w : World) (hL : Laid w) : Calls Tryz.prog 10 #[.string s01] w fun e w' => e = .returned (.tuple #[.float .f64 4591870180066957722, .int .i64 0]) ∧ Below w.heap.size w w' := by
  go_enter Tryz.func10, Tryz.ntmps10
  go_wp2_with fail
  refine (formed_01 _).mono ?_
  rintro e w1 ⟨rfl, hb1⟩
  have hL1 := hL.below hb1
  go_wp2_with fail
  refine (sparse_01 _ hL1).mono ?_
  rintro e w2 ⟨rfl, hb2⟩
  go_wp2_with fail
  go_ret2
  exact ⟨rfl, hb1.trans (hb2.mono hb1.size)⟩
end Go.Proofs.YtjpiplplohapnaaGreatDoor
namespace Go.Proofs.YtjpiplplohapnaaGreatDoor
open Go.RowKit Go.Proofs.YtjpiplplohapnaaGreatDoorW.PrintWords
theorem bits43 (b : Nat) (W : World) : (callFunc 43 #[.float .f64 b]).run Tryz.prog W = .ok (.value (.int .u64 b)) W := by kernel_rfl
theorem bits119 (b : Nat) (W : World) : (callFunc 119 #[.float .f64 b]).run Tryz.prog W = .ok (.value (.int .u64 b)) W := by kernel_rfl
theorem from151 (b : Nat) (W : World) : (callFunc 151 #[.int .u64 b]).run Tryz.prog W = .ok (.value (.float .f64 b)) W := by kernel_rfl
theorem apiBits (b : Nat) (w : World) : Calls Tryz.prog 16 #[.float .f64 b] w fun e w' => e = .returned (.int .u64 b) ∧ w' = w := by
  have h := bits43 b
  go_enter Tryz.func16, Tryz.ntmps16
  go_wp2_with fail
  go_ret
  exact ⟨rfl, rfl⟩
theorem size_calls (b : Nat) (r : Int) (hr : Go.bits .andNot .u64 (b : Int) 9223372036854775808 = r) (w : World) : Calls Tryz.prog 73 #[.float .f64 b] w fun e w' => e = .returned (.int .u64 r) ∧ w' = w := by
  go_enter Tryz.func73, Tryz.ntmps73
  go_wp2_with fail
  refine (apiBits b _).mono ?_
  rintro e w' ⟨rfl, rfl⟩
  go_wp2_with fail
  go_ret
  exact ⟨rfl, rfl⟩
set_option maxRecDepth 100000 in
theorem class_375 (w : World) : Calls Tryz.prog 66 #[.float .f64 4600427019358961664] w fun e w' => e = .returned (.int .i64 3) ∧ w' = w := by
  go_enter Tryz.func66, Tryz.ntmps66
  go_wp2_with fail
  refine (size_calls 4600427019358961664 4600427019358961664 (by decide +kernel) _).mono ?_
  rintro e w' ⟨rfl, rfl⟩
  go_wp2_with fail
  go_ret
  exact ⟨rfl, rfl⟩
theorem class_15 (w : World) : Calls Tryz.prog 66 #[.float .f64 4609434218613702656] w fun e w' => e = .returned (.int .i64 3) ∧ w' = w := by
  go_enter Tryz.func66, Tryz.ntmps66
  go_wp2_with fail
  refine (size_calls 4609434218613702656 4609434218613702656 (by decide +kernel) _).mono ?_
  rintro e w' ⟨rfl, rfl⟩
  go_wp2_with fail
  go_ret
  exact ⟨rfl, rfl⟩
theorem number_375 (w : World) : Calls Tryz.prog 30 #[.float .f64 4600427019358961664] w fun e w' => e = .returned (.bool true) ∧ w' = w := by
  go_enter Tryz.func30, Tryz.ntmps30
  go_wp2_with fail
  refine (class_375 _).mono ?_
  rintro e w' ⟨rfl, rfl⟩
  go_wp2_with fail
  go_ret
  exact ⟨rfl, rfl⟩
theorem log10_calls (x r : Int) (h : PText.strconv_log10Pow2.f x = some r) (w : World) : Calls Tryz.prog 126 #[.int .i64 x] w fun e w' => e = .returned (.int .i64 r) ∧ Below w.heap.size w w' :=
  (PText.strconv_log10Pow2.calls x r w h).mono fun _ _ ⟨h1, h2⟩ => ⟨h1, h2.below⟩
theorem log2_calls (x r : Int) (h : PText.strconv_log2Pow10.f x = some r) (w : World) : Calls Tryz.prog 159 #[.int .i64 x] w fun e w' => e = .returned (.int .i64 r) ∧ Below w.heap.size w w' :=
  (PText.strconv_log2Pow10.calls x r w h).mono fun _ _ ⟨h1, h2⟩ => ⟨h1, h2.below⟩
theorem p10_351 {w : World} (h : Laid w) : w.cell? ⟨11, 702, none⟩ = some (.int .u64 18014398509481984000) ∧ w.cell? ⟨11, 703, none⟩ = some (.int .u64 0) := by
  constructor
  · rw [h.p10Cell]; kernel_rfl
  rw [h.p10Cell]; kernel_rfl
end Go.Proofs.YtjpiplplohapnaaGreatDoor
namespace Go.Proofs.YtjpiplplohapnaaGreatDoor
open Go.RowKit Go.Proofs.YtjpiplplohapnaaGreatDoorW.PrintWords
set_option maxRecDepth 100000 in
set_option maxHeartbeats 1000000 in
theorem prescale_375 (w : World) (hL : Laid w) (g B : Nat) (hB : B ≤ g) (hg : w.heap[g]? = some (.cells #[.int .u64 0, .int .u64 0, .int .i64 0] 203 (0, 0))) (h17 : 17 ≤ g) :
    Calls Tryz.prog 158 #[.pointer (some ⟨g, 0, none⟩), .int .i64 (-65), .int .i64 3, .int .i64 9] w fun e w' => e = .returned (.tuple #[]) ∧ Below B w w' ∧ w'.heap[g]? = some (.cells #[.int .u64 18014398509481984000, .int .u64 0, .int .i64 53] 203 (0, 0)) := by
  obtain ⟨p0, p1⟩ := p10_351 hL
  have c0 : w.cell? ⟨g, 0, none⟩ = some (.int .u64 0) := (blk_cell hg 0).trans rfl
  have c1 : w.cell? ⟨g, 1, none⟩ = some (.int .u64 0) := (blk_cell hg 1).trans rfl
  have c2 : w.cell? ⟨g, 2, none⟩ = some (.int .i64 0) := (blk_cell hg 2).trans rfl
  have f0 := blk_frozen hg 0
  have f1 := blk_frozen hg 1
  have f2 := blk_frozen hg 2
  have hne : (11 : Nat) ≠ g := by omega
  go_enter Tryz.func158, Tryz.ntmps158
  go_wp2_with fail
  go_end0
  refine ⟨rfl, (((Below.refl B w).setCell hB _).setCell hB _).setCell hB _, ?_⟩
  refine blk_put (cs := #[.int .u64 18014398509481984000, .int .u64 0, .int .i64 0]) ?_ 2 _ rfl
  refine blk_put (cs := #[.int .u64 18014398509481984000, .int .u64 0, .int .i64 0]) ?_ 1 _ rfl
  exact blk_put hg 0 _ rfl
set_option maxRecDepth 100000 in
set_option maxHeartbeats 1000000 in
theorem uscale_375 (w : World) (g : Nat) (hg : w.heap[g]? = some (.cells #[.int .u64 18014398509481984000, .int .u64 0, .int .i64 53] 203 (0, 0))) :
    Calls Tryz.prog 160 #[.int .u64 13835058055282163712, .pointer (some ⟨g, 0, none⟩)] w fun e w' => e = .returned (.int .u64 1500) ∧ Below w.heap.size w w' := by
  have c0 : w.cell? ⟨g, 0, none⟩ = some (.int .u64 18014398509481984000) := (blk_cell hg 0).trans rfl
  have c1 : w.cell? ⟨g, 1, none⟩ = some (.int .u64 0) := (blk_cell hg 1).trans rfl
  have c2 : w.cell? ⟨g, 2, none⟩ = some (.int .i64 53) := (blk_cell hg 2).trans rfl
  have b53 : Go.bits .and .i64 53 63 = 53 := by decide +kernel
  have bo : Go.bits .or .u64 1500 0 = 1500 := by decide +kernel
  have s1 : ∀ W, (Op.shift BinOp.shr .u64 13510798882111488000 .i64 53).run Tryz.prog W = .ok (.int .u64 1500) W := fun W => by kernel_rfl
  have s2 : ∀ W, (Op.shift BinOp.shl .u64 1500 .i64 53).run Tryz.prog W = .ok (.int .u64 13510798882111488000) W := fun W => by kernel_rfl
  go_enter Tryz.func160, Tryz.ntmps160
  go_wp2_with fail
  refine (Tryz.bits_Mul64 13835058055282163712 18014398509481984000 (by decide) (by decide) _).mono ?_
  rintro e w' ⟨rfl, rfl⟩
  go_wp2_with fail
  refine (Tryz.bits_Mul64 13835058055282163712 0 (by decide) (by decide) _).mono ?_
  rintro e w1 ⟨rfl, rfl⟩
  go_wp2_with fail
  refine (bool2_u64f _).mono ?_
  rintro e w2 ⟨rfl, hb2⟩
  go_wp2_with fail
  go_quiet ((go_at_call 150; (with_reducible refine (PText.strconv_bool2_uint64.calls false 0 _ (by decide +kernel)).mono ?_); rintro e w' ⟨rfl, ⟨nd, rfl⟩⟩; first | exact ⟨rfl, _, World.drewN_drewN _ _ _⟩ | exact ⟨rfl, _, Eq.trans (World.drewN_drewN _ _ _) (congrArg (World.drewN _) (Nat.add_assoc _ _ _))⟩))
  go_wp2_with fail
  go_ret
  exact ⟨rfl, below_drewN hb2 _⟩
theorem unmin_calls (x r : Int) (h : PText.strconv_unmin.f x = some r) (w : World) : Calls Tryz.prog 165 #[.int .u64 x] w fun e w' => e = .returned (.int .u64 r) ∧ Below w.heap.size w w' :=
  (PText.strconv_unmin.calls x r w h).mono fun _ _ ⟨h1, h2⟩ => ⟨h1, h2.below⟩
theorem round_calls (x r : Int) (h : PText.strconv_unrounded_round.f x = some r) (w : World) : Calls Tryz.prog 164 #[.int .u64 x] w fun e w' => e = .returned (.int .u64 r) ∧ Below w.heap.size w w' :=
  (PText.strconv_unrounded_round.calls x r w h).mono fun _ _ ⟨h1, h2⟩ => ⟨h1, h2.below⟩
theorem div_calls (x d r : Int) (h : PText.strconv_unrounded_div.f x d = some r) (w : World) : Calls Tryz.prog 166 #[.int .u64 x, .int .u64 d] w fun e w' => e = .returned (.int .u64 r) ∧ Below w.heap.size w w' :=
  (PText.strconv_unrounded_div.calls x d r w h).mono fun _ _ ⟨h1, h2⟩ => ⟨h1, h2.below⟩
theorem u10_3 {w : World} (h : Laid w) : w.cell? ⟨4, 3, none⟩ = some (.int .u64 1000) := by
  have := World.var?_cell gU10 h.u10 3
  exact this.trans (by kernel_rfl)
set_option maxRecDepth 100000 in
set_option maxHeartbeats 1000000 in
theorem fixed_375 (w : World) (hL : Laid w) : Calls Tryz.prog 127 #[.int .u64 13835058055282163712, .int .i64 (-65), .int .i64 3, .int .i64 2, .int .u8 102] w fun e w' => e = .returned (.tuple #[.int .u64 38, .int .i64 (-2)]) ∧ Below w.heap.size w w' := by
  go_enter Tryz.func127, Tryz.ntmps127
  go_wp2_with fail
  refine (log10_calls (-2) (-1) (by decide +kernel) _).mono ?_
  rintro e w1 ⟨rfl, hb1⟩
  go_wp2_with fail
  refine (log2_calls 3 9 (by decide +kernel) _).mono ?_
  rintro e w2 ⟨rfl, hb2⟩
  have hL1 := hL.below hb1
  have hg2 : w2.heap[w1.heap.size]? = some (.cells #[.int .u64 0, .int .u64 0, .int .i64 0] 203 (0, 0)) := by
    exact blk_below (blk_new _ _) hb2
  have hb02 : Below w.heap.size w w2 := hb1.trans ((((Below.refl _ _).alloc (Nat.le_refl _) _).trans (hb2.mono (by simp))).mono hb1.size)
  have hL2 : Laid w2 := hL.below hb02
  go_wp2_with fail
  refine (prescale_375 w2 hL2 w1.heap.size w.heap.size hb1.size hg2 (by have := hL1.size; omega)).mono ?_
  rintro e w3 ⟨rfl, hb3, hg3⟩
  have hb03 := hb02.trans hb3
  go_wp2_with fail
  refine (uscale_375 w3 w1.heap.size hg3).mono ?_
  rintro e w4 ⟨rfl, hb4⟩
  have hb04 := hb03.trans (hb4.mono hb03.size)
  have hu := u10_3 (hL.below hb04)
  go_wp2_with fail
  refine (unmin_calls 1000 3998 (by decide +kernel) _).mono ?_
  rintro e w5 ⟨rfl, hb5⟩
  have hb05 := hb04.trans (hb5.mono hb04.size)
  go_wp2_with fail
  refine wp_loop_rounds 2 ?_
  rw [rounds_succ]
  go_wp2_with fail
  refine (div_calls 1500 10 150 (by decide +kernel) _).mono ?_
  rintro e w6 ⟨rfl, hb6⟩
  have hb06 := hb05.trans (hb6.mono hb05.size)
  go_wp2_with fail
  rw [rounds_succ]
  go_wp2_with fail
  refine (round_calls 150 38 (by decide +kernel) _).mono ?_
  rintro e w7 ⟨rfl, hb7⟩
  go_wp2_with fail
  go_ret2
  exact ⟨rfl, hb06.trans (hb7.mono hb06.size)⟩
end Go.Proofs.YtjpiplplohapnaaGreatDoor
namespace Go.Proofs.YtjpiplplohapnaaGreatDoor
open Go.RowKit Go.Proofs.YtjpiplplohapnaaGreatDoorW.PrintWords
def sz (b : Nat) : Nat := b % 9223372036854775808
theorem sz_bits (b : Nat) (hb : b < 18446744073709551616) : Go.bits .andNot .u64 (b : Int) 9223372036854775808 = (sz b : Nat) := by
  have := Go.u64_andNot_nat b 9223372036854775808 hb (by omega)
  rw [show ((9223372036854775808 : Nat) : Int) = 9223372036854775808 from rfl] at this
  rw [this]
  have := Nat.and_two_pow_sub_one_eq_mod b 63
  unfold sz
  exact congrArg _ this
def cls (r : Int) : Int := if r = 0 then 1 else if r < 4503599627370496 then 2 else if r < 9218868437227405312 then 3 else if r = 9218868437227405312 then 4 else 5
set_option maxRecDepth 100000 in
theorem class_calls (b : Nat) (r : Int) (hr : Go.bits .andNot .u64 (b : Int) 9223372036854775808 = r) (w : World) : Calls Tryz.prog 66 #[.float .f64 b] w fun e w' => e = .returned (.int .i64 (cls r)) ∧ w' = w := by
  go_enter Tryz.func66, Tryz.ntmps66
  go_wp2_with fail
  refine (size_calls b r hr _).mono ?_
  rintro e w' ⟨rfl, rfl⟩
  clear hr
  go_wp2_with fail
  all_goals (go_ret; refine ⟨congrArg (fun c => Ending.returned (.int .i64 c)) ?_, rfl⟩; simp only [beq_iff_eq, beq_eq_false_iff_ne, ne_eq] at *; unfold cls; repeat' split)
  all_goals omega
theorem number_calls (b : Nat) (hb : b < 18446744073709551616) (w : World) : Calls Tryz.prog 30 #[.float .f64 b] w fun e w' => e = .returned (.bool (decide (sz b < 9218868437227405312))) ∧ w' = w := by
  have hr := sz_bits b hb
  have hc : decide (cls (sz b : Nat) < 4) = decide (sz b < 9218868437227405312) := by
    unfold cls
    by_cases h : sz b < 9218868437227405312
    · rw [decide_eq_true h]
      repeat' split
      all_goals first | rfl | omega
    rw [decide_eq_false h]
    repeat' split
    all_goals first | rfl | omega
  go_enter Tryz.func30, Tryz.ntmps30
  go_wp2_with fail
  refine (class_calls b _ hr _).mono ?_
  rintro e w' ⟨rfl, rfl⟩
  clear hr
  generalize cls (sz b : Nat) = c at *
  go_wp2_with fail
  go_ret
  exact ⟨rfl, rfl⟩
def spM (u : Nat) : Nat := if u < 4503599627370496 then u else u % 4503599627370496 + 4503599627370496
def spE (u : Nat) : Int := if u = 0 then 0 else if u < 4503599627370496 then -1074 else (u / 4503599627370496 : Nat) - 1075
def neg (b : Nat) : Bool := decide (9223372036854775808 ≤ b)
theorem norm_facts (u : Nat) (hu : u < 9218868437227405312) : Go.bits .and .u64 (u : Int) 4503599627370495 = ((u % 4503599627370496 : Nat) : Int) ∧
    Go.bits .or .u64 ((u % 4503599627370496 : Nat) : Int) 4503599627370496 = ((u % 4503599627370496 + 4503599627370496 : Nat) : Int) := by
  constructor
  · have := Go.u64_and_nat u 4503599627370495 (by omega) (by omega)
    rw [show ((4503599627370495 : Nat) : Int) = 4503599627370495 from rfl] at this
    rw [this]
    exact congrArg _ (Nat.and_two_pow_sub_one_eq_mod u 52)
  have := Go.u64_or_nat (u % 4503599627370496) 4503599627370496 (by omega) (by omega)
  rw [show ((4503599627370496 : Nat) : Int) = 4503599627370496 from rfl] at this
  rw [this]
  refine congrArg _ ?_
  rw [Nat.or_comm, Go.nat_join 52 4503599627370496 (u % 4503599627370496) (by decide) (by omega)]
  omega
end Go.Proofs.YtjpiplplohapnaaGreatDoor
namespace Go.Proofs.YtjpiplplohapnaaGreatDoor
open Go.RowKit Go.Proofs.YtjpiplplohapnaaGreatDoorW.PrintWords
namespace Ah
end Ah
open Ah
theorem and1_bits (x : Nat) (hx : x < 18446744073709551616) : Go.bits .and .u64 (x : Int) 1 = ((x % 2 : Nat) : Int) := by
  have := Go.u64_and_nat x 1 hx (by omega)
  rw [show ((1 : Nat) : Int) = 1 from rfl] at this
  rw [this]
  exact congrArg _ (Nat.and_two_pow_sub_one_eq_mod x 1)
theorem or1_nat (h y : Nat) (hy : y < 2) : h ||| y = if y = 1 then h / 2 * 2 + 1 else h := by
  by_cases h1 : y = 1
  · subst h1
    rw [if_pos rfl]
    have e : h = h / 2 * 2 + h % 2 := by omega
    have e2 : h / 2 * 2 ||| h % 2 = h / 2 * 2 + h % 2 := Go.nat_join1 _ _ (by omega) (by omega)
    rcases Nat.mod_two_eq_zero_or_one h with h0 | h0
    · rw [h0] at e
      conv => lhs; rw [e]
      exact Go.nat_join1 _ _ (by omega) (by omega)
    rw [h0] at e e2
    conv => lhs; rw [e, ← e2, Nat.or_assoc]
    rw [show (1 ||| 1 : Nat) = 1 from rfl]
    exact Go.nat_join1 _ _ (by omega) (by omega)
  rw [if_neg h1, show y = 0 by omega, Nat.or_zero]
end Go.Proofs.YtjpiplplohapnaaGreatDoor
namespace Go.Proofs.YtjpiplplohapnaaGreatDoor.Nr
def V (r : Nat) : Nat := if r < 4503599627370496 then r else (4503599627370496 + r % 4503599627370496) * 2 ^ (r / 4503599627370496 - 1)
theorem V_form (l n : Nat) (h : (4503599627370496 ≤ n ∧ n ≤ 9007199254740992) ∨ (l = 0 ∧ n ≤ 9007199254740992)) : V (l * 4503599627370496 + n) = n * 2 ^ l := by
  unfold V
  by_cases h1 : l * 4503599627370496 + n < 4503599627370496
  · rw [if_pos h1]
    have h0 : l = 0 := by omega
    subst h0; simp
  rw [if_neg h1]
  rcases Nat.lt_or_ge n 9007199254740992 with h2 | h2
  · have a : (l * 4503599627370496 + n) / 4503599627370496 = l + 1 := by omega
    have b : (l * 4503599627370496 + n) % 4503599627370496 = n - 4503599627370496 := by omega
    have c : l + 1 - 1 = l := by omega
    have d : 4503599627370496 + (n - 4503599627370496) = n := by omega
    rw [a, b, c, d]
  have e : n = 9007199254740992 := by omega
  subst e
  have a : (l * 4503599627370496 + 9007199254740992) / 4503599627370496 = l + 2 := by omega
  have b : (l * 4503599627370496 + 9007199254740992) % 4503599627370496 = 0 := by omega
  have c : l + 2 - 1 = l + 1 := by omega
  rw [a, b, c]
  have hp : 2 ^ (l + 1) = 2 ^ l * 2 := Nat.pow_succ ..
  generalize 2 ^ (l + 1) = x at *
  generalize 2 ^ l = y at *
  omega
theorem form (r : Nat) : ∃ l n, r = l * 4503599627370496 + n ∧ ((4503599627370496 ≤ n ∧ n < 9007199254740992) ∨ (l = 0 ∧ n < 9007199254740992)) := by
  by_cases h : r < 4503599627370496
  · exact ⟨0, r, by omega, Or.inr ⟨rfl, by omega⟩⟩
  exact ⟨r / 4503599627370496 - 1, r - (r / 4503599627370496 - 1) * 4503599627370496, by omega, Or.inl ⟨by omega, by omega⟩⟩
theorem V_step (r : Nat) : V r < V (r + 1) := by
  obtain ⟨l, n, rfl, h⟩ := form r
  rw [Nat.add_assoc, V_form l n (by omega), V_form l (n + 1) (by omega), Nat.add_mul]
  have := Nat.pow_pos (a := 2) (n := l) (by decide)
  omega
theorem V_mono {a b : Nat} (h : a ≤ b) : V a ≤ V b := by
  induction h with
  | refl => exact Nat.le_refl _
  | step _ ih => exact Nat.le_trans ih (Nat.le_of_lt (V_step _))
theorem V_lt {a b : Nat} (h : a < b) : V a < V b := Nat.lt_of_lt_of_le (V_step a) (V_mono h)
def Near (N D r : Nat) : Prop :=
  (∀ q, r = q + 1 → (V q + V r) * D ≤ 2 * N ∧ ((V q + V r) * D = 2 * N → r % 2 = 0)) ∧
  (2 * N ≤ (V r + V (r + 1)) * D ∧ (2 * N = (V r + V (r + 1)) * D → r % 2 = 0))
theorem near_mono {N D N' D' r r' : Nat} (hD : 0 < D) (hD' : 0 < D') (h : N * D' ≤ N' * D) (h1 : Near N D r) (h2 : Near N' D' r') : r ≤ r' := by
  rcases Nat.lt_or_ge r' r with hlt | hge
  · exfalso
    obtain ⟨q, rfl⟩ : ∃ q, r = q + 1 := ⟨r - 1, by omega⟩
    obtain ⟨a1, a2⟩ := h1.1 q rfl
    obtain ⟨b1, b2⟩ := h2.2
    have hv : V r' + V (r' + 1) ≤ V q + V (q + 1) := Nat.add_le_add (V_mono (by omega)) (V_mono (by omega))
    have hp : 0 < D * D' := Nat.mul_pos hD hD'
    have c1 := Nat.mul_le_mul_right D' a1
    have c2 := Nat.mul_le_mul_right D b1
    have c3 := Nat.mul_le_mul_right (D * D') hv
    rw [Nat.mul_assoc] at c1
    rw [Nat.mul_assoc _ D' D, Nat.mul_comm D' D] at c2
    have e1 : 2 * N * D' = 2 * (N * D') := Nat.mul_assoc _ _ _
    have e2 : 2 * N' * D = 2 * (N' * D) := Nat.mul_assoc _ _ _
    have eq : (V r' + V (r' + 1)) * (D * D') = (V q + V (q + 1)) * (D * D') := by omega
    have eqv := Nat.eq_of_mul_eq_mul_right hp eq
    have hq : r' = q := by
      rcases Nat.lt_or_ge r' q with h3 | h3
      · have := V_lt h3
        have := V_lt (show r' + 1 < q + 1 by omega)
        omega
      omega
    subst hq
    have f1 : (V r' + V (r' + 1)) * D = 2 * N := by
      apply Nat.eq_of_mul_eq_mul_right hD'
      rw [Nat.mul_assoc]; omega
    have f2 : 2 * N' = (V r' + V (r' + 1)) * D' := by
      apply Nat.eq_of_mul_eq_mul_right hD
      rw [Nat.mul_assoc _ D' D, Nat.mul_comm D' D]; omega
    have g1 := a2 f1
    have g2 := b2 f2
    omega
  exact hge
theorem near_unique {N D N' D' r r' : Nat} (hD : 0 < D) (hD' : 0 < D') (h : N * D' = N' * D) (h1 : Near N D r) (h2 : Near N' D' r') : r = r' :=
  Nat.le_antisymm (near_mono hD hD' (Nat.le_of_eq h) h1 h2) (near_mono hD' hD (Nat.le_of_eq h.symm) h2 h1)
def Rhe (A Q n : Nat) : Prop := 2 * A ≤ (2 * n + 1) * Q ∧ 2 * n * Q ≤ 2 * A + Q ∧ (2 * A = (2 * n + 1) * Q → n % 2 = 0) ∧ (2 * n * Q = 2 * A + Q → n % 2 = 0)
theorem rhe_scale {A Q n : Nat} (k : Nat) (hk : 0 < k) (h : Rhe (A * k) (Q * k) n) : Rhe A Q n := by
  obtain ⟨h1, h2, h3, h4⟩ := h
  have e1 : 2 * (A * k) = (2 * A) * k := by rw [Nat.mul_assoc]
  have e2 : (2 * n + 1) * (Q * k) = ((2 * n + 1) * Q) * k := by rw [Nat.mul_assoc]
  have e3 : 2 * n * (Q * k) = (2 * n * Q) * k := (Nat.mul_assoc _ _ _).symm
  have e4 : 2 * (A * k) + Q * k = (2 * A + Q) * k := by rw [Nat.add_mul, e1]
  rw [e1, e2] at h1 h3
  rw [e3, e4] at h2 h4
  exact ⟨Nat.le_of_mul_le_mul_right h1 hk, Nat.le_of_mul_le_mul_right h2 hk, fun h => h3 (by rw [h]), fun h => h4 (by rw [h])⟩
theorem rhe_scale' {A Q n : Nat} (k : Nat) (hk : 0 < k) (h : Rhe A Q n) : Rhe (A * k) (Q * k) n := by
  obtain ⟨h1, h2, h3, h4⟩ := h
  have e1 : 2 * (A * k) = (2 * A) * k := by rw [Nat.mul_assoc]
  have e2 : (2 * n + 1) * (Q * k) = ((2 * n + 1) * Q) * k := by rw [Nat.mul_assoc]
  have e3 : 2 * n * (Q * k) = (2 * n * Q) * k := (Nat.mul_assoc _ _ _).symm
  have e4 : 2 * (A * k) + Q * k = (2 * A + Q) * k := by rw [Nat.add_mul, e1]
  unfold Rhe
  rw [e1, e2, e3, ← e1, e4, e1]
  exact ⟨Nat.mul_le_mul_right _ h1, Nat.mul_le_mul_right _ h2, fun h => h3 (Nat.eq_of_mul_eq_mul_right hk h), fun h => h4 (Nat.eq_of_mul_eq_mul_right hk h)⟩
theorem near_of_rhe {N D l n : Nat} (hD : 0 < D) (h : Rhe N (D * 2 ^ l) n)
    (hf : (4503599627370496 ≤ n ∧ n ≤ 9007199254740992 ∧ (l ≠ 0 → 4503599627370496 * (D * 2 ^ l) ≤ N)) ∨ (l = 0 ∧ n ≤ 9007199254740992)) : Near N D (l * 4503599627370496 + n) := by
  obtain ⟨h1, h2, h3, h4⟩ := h
  have hp : 0 < 2 ^ l := Nat.pow_pos (by decide)
  have hV : V (l * 4503599627370496 + n) = n * 2 ^ l := V_form l n (by omega)
  have hDl : 0 < D * 2 ^ l := Nat.mul_pos hD hp
  have par : (l * 4503599627370496 + n) % 2 = n % 2 := by omega
  refine ⟨fun q hq => ?_, ?_⟩
  · rw [hV, par]
    by_cases hn : n ≤ 4503599627370496 ∧ l ≠ 0
    · have hn' : n = 4503599627370496 := by omega
      have hN : 4503599627370496 * (D * 2 ^ l) ≤ N := by
        rcases hf with h | h
        · exact h.2.2 hn.2
        omega
      have hq' : V q < V (q + 1) := V_step q
      rw [← hq, hV] at hq'
      have e : (V q + n * 2 ^ l) * D < 2 * N := by
        have a : (V q + n * 2 ^ l) * D < (n * 2 ^ l + n * 2 ^ l) * D := Nat.mul_lt_mul_of_pos_right (by omega) hD
        have b : (n * 2 ^ l + n * 2 ^ l) * D = 2 * (n * (D * 2 ^ l)) := by
          rw [← Nat.two_mul, Nat.mul_assoc, Nat.mul_assoc, Nat.mul_comm (2 ^ l) D]
        rw [hn'] at b a ⊢
        omega
      exact ⟨Nat.le_of_lt e, fun h => absurd h (by omega)⟩
    have hn1 : 1 ≤ n := by
      rcases hf with h | h
      · omega
      have := h.1; subst this; omega
    have hVq : V q = (n - 1) * 2 ^ l := by
      have : q = l * 4503599627370496 + (n - 1) := by omega
      rw [this]; exact V_form l (n - 1) (by omega)
    have e : (V q + n * 2 ^ l) * D + D * 2 ^ l = 2 * n * (D * 2 ^ l) := by
      rw [hVq]
      have : (n - 1) * 2 ^ l + n * 2 ^ l + 2 ^ l = 2 * n * 2 ^ l := by
        rw [← Nat.add_mul, ← Nat.succ_mul]; congr 1; omega
      rw [Nat.mul_comm D (2 ^ l), ← Nat.mul_assoc, ← this, Nat.add_mul, Nat.add_mul, Nat.add_mul]
    exact ⟨by omega, fun h => h4 (by omega)⟩
  rw [par]
  have hV1 : V (l * 4503599627370496 + n) + 2 ^ l ≤ V (l * 4503599627370496 + n + 1) ∧ (n < 9007199254740992 → V (l * 4503599627370496 + n + 1) = V (l * 4503599627370496 + n) + 2 ^ l) := by
    rw [hV]
    rcases Nat.lt_or_ge n 9007199254740992 with h5 | h5
    · rw [Nat.add_assoc, V_form l (n + 1) (by omega), Nat.add_mul, Nat.one_mul]
      exact ⟨Nat.le_refl _, fun _ => rfl⟩
    have hn : n = 9007199254740992 := by omega
    subst hn
    have : l * 4503599627370496 + 9007199254740992 + 1 = (l + 1) * 4503599627370496 + 4503599627370497 := by omega
    rw [this, V_form (l + 1) 4503599627370497 (by omega), Nat.pow_succ]
    exact ⟨by omega, fun h => absurd h (by omega)⟩
  have e : (2 * n + 1) * (D * 2 ^ l) ≤ (V (l * 4503599627370496 + n) + V (l * 4503599627370496 + n + 1)) * D := by
    have a : (2 * n + 1) * (D * 2 ^ l) = (n * 2 ^ l + (n * 2 ^ l + 2 ^ l)) * D := by
      rw [Nat.mul_comm D, ← Nat.mul_assoc]
      congr 1
      rw [Nat.add_mul, Nat.two_mul, Nat.add_mul, Nat.one_mul]; omega
    rw [a, hV]
    rw [hV] at hV1
    exact Nat.mul_le_mul_right _ (by omega)
  refine ⟨by omega, fun h => ?_⟩
  exact h3 (by omega)
theorem near_exact {N D r : Nat} (hD : 0 < D) (h : N = V r * D) : Near N D r := by
  refine ⟨fun q hq => ?_, ?_⟩
  · have := V_step q
    rw [← hq] at this
    have e : (V q + V r) * D < 2 * N := by
      rw [h, ← Nat.mul_assoc]; exact Nat.mul_lt_mul_of_pos_right (by omega) hD
    exact ⟨Nat.le_of_lt e, fun h => absurd h (by omega)⟩
  have := V_step r
  have e : 2 * N < (V r + V (r + 1)) * D := by
    rw [h, ← Nat.mul_assoc]; exact Nat.mul_lt_mul_of_pos_right (by omega) hD
  exact ⟨Nat.le_of_lt e, fun h => absurd h (by omega)⟩
end Go.Proofs.YtjpiplplohapnaaGreatDoor.Nr
namespace Go.Proofs.YtjpiplplohapnaaGreatDoor.Nr
theorem rhe_ratio {A Q A' Q' n : Nat} (hQ : 0 < Q) (hQ' : 0 < Q') (h : A * Q' = A' * Q) (h1 : Rhe A Q n) : Rhe A' Q' n := by
  have h2 := rhe_scale' Q' hQ' h1
  rw [h, Nat.mul_comm Q Q'] at h2
  exact rhe_scale Q hQ h2
theorem cut_rhe (ng : Bool) (n drop : Nat) : Rhe n (2 ^ drop) (Ieee.Toward.even.cut ng n drop) := by
  unfold Ieee.Toward.cut
  dsimp only
  rw [Nat.shiftLeft_eq, Nat.one_mul]
  by_cases h : drop ≤ n.log2 + 2
  · rw [Nat.min_eq_left h]
    have hg : 0 < 2 ^ drop := Nat.pow_pos (by decide)
    generalize 2 ^ drop = g at *
    have hdm := Nat.div_add_mod n g
    have hm := Nat.mod_lt n hg
    generalize n / g = q at *
    generalize n % g = r at *
    have e1 : (2 * q + 1) * g = 2 * (g * q) + g := by rw [Nat.add_mul, Nat.one_mul, Nat.mul_assoc, Nat.mul_comm q g]
    have e2 : 2 * q * g = 2 * (g * q) := by rw [Nat.mul_assoc, Nat.mul_comm q g]
    have e3 : (2 * (q + 1) + 1) * g = 2 * (g * q) + 3 * g := by rw [show 2 * (q + 1) + 1 = 2 * q + 3 by omega, Nat.add_mul, e2]
    have e4 : 2 * (q + 1) * g = 2 * (g * q) + 2 * g := by rw [show 2 * (q + 1) = 2 * q + 2 by omega, Nat.add_mul, e2]
    unfold Rhe
    by_cases c1 : g < 2 * r
    · rw [decide_eq_true c1]
      show _ ≤ (2 * (q + 1) + 1) * g ∧ _
      rw [Bool.true_or]
      show _ ≤ (2 * (q + 1) + 1) * g ∧ 2 * (q + 1) * g ≤ _ ∧ (_ = (2 * (q + 1) + 1) * g → (q + 1) % 2 = 0) ∧ (2 * (q + 1) * g = _ → (q + 1) % 2 = 0)
      rw [e3, e4]
      exact ⟨by omega, by omega, fun h => by omega, fun h => by omega⟩
    rw [decide_eq_false c1, Bool.false_or]
    by_cases c2 : g = 2 * r ∧ q % 2 = 1
    · have : (g == 2 * r && q % 2 == 1) = true := by simp [c2.1.symm, c2.2]
      rw [this]
      show _ ≤ (2 * (q + 1) + 1) * g ∧ 2 * (q + 1) * g ≤ _ ∧ (_ = (2 * (q + 1) + 1) * g → (q + 1) % 2 = 0) ∧ (2 * (q + 1) * g = _ → (q + 1) % 2 = 0)
      rw [e3, e4]
      exact ⟨by omega, by omega, fun h => by omega, fun h => by omega⟩
    have : (g == 2 * r && q % 2 == 1) = false := by
      rw [Bool.eq_false_iff]
      intro hh
      simp at hh
      exact c2 hh
    rw [this]
    show _ ≤ (2 * (q + 0) + 1) * g ∧ 2 * (q + 0) * g ≤ _ ∧ (_ = (2 * (q + 0) + 1) * g → (q + 0) % 2 = 0) ∧ (2 * (q + 0) * g = _ → (q + 0) % 2 = 0)
    simp only [Nat.add_zero]
    rw [e1, e2]
    exact ⟨by omega, by omega, fun h => by omega, fun h => by omega⟩
  rw [Nat.min_eq_right (by omega)]
  have hn : 2 * n < 2 ^ (n.log2 + 2) := by
    by_cases h0 : n = 0
    · subst h0; exact Nat.pow_pos (by decide)
    have h1 : n < 2 ^ (n.log2 + 1) := Nat.lt_log2_self
    have e : 2 ^ (n.log2 + 2) = 2 ^ (n.log2 + 1) * 2 := Nat.pow_succ ..
    omega
  have hle : 2 ^ (n.log2 + 2) ≤ 2 ^ drop := Nat.pow_le_pow_right (by decide) (by omega)
  have d1 : n / 2 ^ (n.log2 + 2) = 0 := Nat.div_eq_of_lt (by omega)
  have d2 : n % 2 ^ (n.log2 + 2) = n := Nat.mod_eq_of_lt (by omega)
  rw [d1, d2, decide_eq_false (by omega), Bool.false_or]
  have d3 : (2 ^ (n.log2 + 2) == 2 * n && 0 % 2 == 1) = false := by simp
  rw [d3]
  show 2 * n ≤ (2 * (0 + 0) + 1) * 2 ^ drop ∧ 2 * (0 + 0) * 2 ^ drop ≤ 2 * n + 2 ^ drop ∧ (_ → (0 + 0) % 2 = 0) ∧ (_ → (0 + 0) % 2 = 0)
  exact ⟨by omega, by omega, fun _ => rfl, fun _ => rfl⟩
def uN (mag : Nat) (place : Int) : Nat := mag * 2 ^ (place + 1074).toNat
def uD (place : Int) : Nat := 2 ^ (-1074 - place).toNat
theorem uD_pos (place : Int) : 0 < uD place := Nat.pow_pos (by decide)
theorem rhe_le {A Q n k : Nat} (hQ : 0 < Q) (h : Rhe A Q n) (hk : A ≤ k * Q) : n ≤ k := by
  rcases Nat.lt_or_ge k n with h1 | h1
  · exfalso
    obtain ⟨-, h2, -, h4⟩ := h
    have a : 2 * (k + 1) * Q ≤ 2 * n * Q := Nat.mul_le_mul_right _ (by omega)
    have b : 2 * (k + 1) * Q = 2 * (k * Q) + 2 * Q := by rw [Nat.mul_assoc, Nat.add_mul, Nat.one_mul, Nat.mul_add]
    omega
  exact h1
theorem rhe_ge {A Q n k : Nat} (hQ : 0 < Q) (h : Rhe A Q n) (hk : k * Q ≤ A) : k ≤ n := by
  rcases Nat.lt_or_ge n k with h1 | h1
  · exfalso
    obtain ⟨h2, -, h4, -⟩ := h
    have a : (2 * n + 2) * Q ≤ 2 * k * Q := Nat.mul_le_mul_right _ (by omega)
    have b : (2 * n + 2) * Q = (2 * n + 1) * Q + Q := by rw [← Nat.succ_mul]
    have c : 2 * k * Q = 2 * (k * Q) := Nat.mul_assoc _ _ _
    omega
  exact h1
def rung (mag : Nat) (place : Int) : Nat :=
  if mag = 0 then 0 else
  let last := max (place + mag.log2 - 52) (-1074)
  (last + 1074).toNat * 4503599627370496 + Ieee.Toward.even.cut false (mag <<< (place - last).toNat) (last - place).toNat
theorem nearest_rung (ng : Bool) (mag : Nat) (place : Int) : Ieee.double.nearest ng mag place = Ieee.double.word ng (min (rung mag place) 9218868437227405312) := by
  unfold Ieee.Format.nearest rung
  by_cases h : mag = 0
  · rw [if_pos h, if_pos h]; rfl
  rw [if_neg h, if_neg h]
  have e1 : Ieee.double.leastPlace = -1074 := by decide
  have e2 : ((Ieee.double.fractionBits : Nat) : Int) = 52 := rfl
  have e3 : Ieee.double.binade = 4503599627370496 := by decide
  have e4 : Ieee.double.infRung = 9218868437227405312 := by decide
  dsimp only
  rw [e1, e2, e3, e4]
  rfl
theorem rung_near (mag : Nat) (place : Int) : Near (uN mag place) (uD place) (rung mag place) := by
  unfold rung
  by_cases h : mag = 0
  · rw [if_pos h]
    subst h
    refine near_exact (uD_pos _) ?_
    unfold uN
    rw [Nat.zero_mul]
    have : V 0 = 0 := by unfold V; rw [if_pos (by decide)]
    rw [this, Nat.zero_mul]
  rw [if_neg h]
  dsimp only
  obtain ⟨last, hl⟩ : ∃ last, last = max (place + mag.log2 - 52) (-1074) := ⟨_, rfl⟩
  rw [← hl]
  have hc := cut_rhe false (mag <<< (place - last).toNat) (last - place).toNat
  generalize Ieee.Toward.even.cut false (mag <<< (place - last).toNat) (last - place).toNat = n at *
  rw [Nat.shiftLeft_eq] at hc
  have hlo := Nat.log2_self_le h
  have hhi : mag < 2 ^ (mag.log2 + 1) := Nat.lt_log2_self
  have hA : mag * 2 ^ (place - last).toNat ≤ 9007199254740992 * 2 ^ (last - place).toNat := by
    have p53 : 9007199254740992 = 2 ^ 53 := by decide
    rw [p53, ← Nat.pow_add]
    have : mag * 2 ^ (place - last).toNat ≤ 2 ^ (mag.log2 + 1) * 2 ^ (place - last).toNat := Nat.mul_le_mul_right _ (Nat.le_of_lt hhi)
    rw [← Nat.pow_add] at this
    exact Nat.le_trans this (Nat.pow_le_pow_right (by decide) (by omega))
  have hr : uN mag place * 2 ^ (last - place).toNat = mag * 2 ^ (place - last).toNat * (uD place * 2 ^ (last + 1074).toNat) := by
    unfold uN uD
    rw [← Nat.pow_add, Nat.mul_assoc, Nat.mul_assoc, ← Nat.pow_add, ← Nat.pow_add]
    congr 2; omega
  have hpb : 0 < 2 ^ (last - place).toNat := Nat.pow_pos (by decide)
  have hpd : 0 < uD place * 2 ^ (last + 1074).toNat := Nat.mul_pos (uD_pos _) (Nat.pow_pos (by decide))
  refine near_of_rhe (uD_pos _) (rhe_ratio hpb hpd hr.symm hc) ?_
  have hn53 := rhe_le hpb hc hA
  by_cases h0 : last = -1074
  · right; exact ⟨by omega, hn53⟩
  left
  have hB : 4503599627370496 * 2 ^ (last - place).toNat ≤ mag * 2 ^ (place - last).toNat := by
    have p52 : 4503599627370496 = 2 ^ 52 := by decide
    rw [p52, ← Nat.pow_add]
    have : 2 ^ mag.log2 * 2 ^ (place - last).toNat ≤ mag * 2 ^ (place - last).toNat := Nat.mul_le_mul_right _ hlo
    rw [← Nat.pow_add] at this
    exact Nat.le_trans (Nat.pow_le_pow_right (by decide) (by omega)) this
  refine ⟨rhe_ge hpb hc hB, hn53, fun _ => ?_⟩
  have a := Nat.mul_le_mul_right (uD place * 2 ^ (last + 1074).toNat) hB
  rw [← hr, Nat.mul_right_comm] at a
  exact Nat.le_of_mul_le_mul_right a hpb
end Go.Proofs.YtjpiplplohapnaaGreatDoor.Nr
namespace Go.Proofs.YtjpiplplohapnaaGreatDoor.Us
def unr (N D : Nat) : Nat := if N % D = 0 then N / D else N / D / 2 * 2 + 1
theorem unr_exact {N D q : Nat} (hD : 0 < D) (h : N = q * D) : unr N D = q := by
  unfold unr
  rw [h, Nat.mul_mod_left, if_pos rfl, Nat.mul_div_cancel _ hD]
theorem unr_between {N D q : Nat} (h1 : q * D < N) (h2 : N < (q + 1) * D) : unr N D = q / 2 * 2 + 1 := by
  have hd : N / D = q := Nat.div_eq_of_lt_le (Nat.le_of_lt h1) h2
  unfold unr
  rw [if_neg, hd]
  intro h
  have := Nat.div_add_mod N D
  rw [hd, h, Nat.mul_comm] at this
  omega
def usc (x hi lo s : Nat) : Nat :=
  let h := x * hi / 18446744073709551616
  let mid := x * hi % 18446744073709551616
  if h % 2 ^ s ≠ 0 then h / 2 ^ s / 2 * 2 + 1
  else
    let mid2 := x * lo / 18446744073709551616
    let h' := if mid < mid2 then h - 1 else h
    let r := if mid < mid2 then 18446744073709551616 + mid - mid2 else mid - mid2
    if 1 < r then h' / 2 ^ s / 2 * 2 + 1 else h' / 2 ^ s
structure RowOk (hi lo num den : Nat) : Prop where
  dpos : 0 < den
  small : lo < 18446744073709551616
  below : num + lo * den ≤ hi * 18446744073709551616 * den
  above : hi * 18446744073709551616 * den < num + lo * den + den
def Clean (x hi lo s num den : Nat) : Prop :=
  x * hi / 18446744073709551616 % 2 ^ s = 0 → x * lo / 18446744073709551616 ≤ x * hi % 18446744073709551616 → x * hi % 18446744073709551616 ≤ x * lo / 18446744073709551616 + 1 → x * num = x * hi / 18446744073709551616 * 340282366920938463463374607431768211456 * den
theorem usc_ok {x hi lo s num den : Nat} (hx : x < 18446744073709551616) (hx0 : 0 < x) (h : RowOk hi lo num den) (hc : Clean x hi lo s num den) : usc x hi lo s = unr (x * num) (den * (340282366920938463463374607431768211456 * 2 ^ s)) := by
  obtain ⟨hden, hlo, hb, ha⟩ := h
  unfold usc
  unfold Clean at hc
  have e1 := Nat.div_add_mod (x * hi) 18446744073709551616
  have m1 := Nat.mod_lt (x * hi) (show 0 < 18446744073709551616 by decide)
  have e2 := Nat.div_add_mod (x * lo) 18446744073709551616
  have m2 := Nat.mod_lt (x * lo) (show 0 < 18446744073709551616 by decide)
  have hxlo : x * lo ≤ (18446744073709551616 - 1) * (18446744073709551616 - 1) := Nat.mul_le_mul (by omega) (by omega)
  have hmid2 : x * lo / 18446744073709551616 ≤ 18446744073709551616 - 2 := by
    have : x * lo / 18446744073709551616 < 18446744073709551616 - 1 := by
      rw [Nat.div_lt_iff_lt_mul (by decide)]
      exact Nat.lt_of_le_of_lt hxlo (by decide)
    omega
  have hp : 0 < 2 ^ s := Nat.pow_pos (by decide)
  have B1 : x * num + (x * lo) * den ≤ (x * hi) * 18446744073709551616 * den := by
    have := Nat.mul_le_mul_left x hb
    rw [Nat.mul_add, ← Nat.mul_assoc x lo, ← Nat.mul_assoc x, ← Nat.mul_assoc x] at this
    exact this
  have B2 : (x * hi) * 18446744073709551616 * den < x * num + (x * lo) * den + x * den := by
    have := Nat.mul_lt_mul_of_pos_left ha hx0
    rw [Nat.mul_add, Nat.mul_add, ← Nat.mul_assoc x lo, ← Nat.mul_assoc x, ← Nat.mul_assoc x] at this
    exact this
  generalize x * num = R at *
  generalize x * hi = P at *
  generalize x * lo = Lo at *
  generalize P / 18446744073709551616 = hh at *
  generalize P % 18446744073709551616 = mid at *
  generalize Lo / 18446744073709551616 = mid2 at *
  generalize Lo % 18446744073709551616 = f at *
  dsimp only
  have key : ∀ a b : Nat, a ≤ b → a * den ≤ b * den := fun a b h => Nat.mul_le_mul_right _ h
  have k1 : R ≤ (hh * 340282366920938463463374607431768211456 + mid * 18446744073709551616) * den := by
    have : P * 18446744073709551616 = hh * 340282366920938463463374607431768211456 + mid * 18446744073709551616 := by rw [← e1]; omega
    rw [← this]; omega
  have k2 : (hh * 340282366920938463463374607431768211456 + mid * 18446744073709551616) * den < R + (Lo + x) * den := by
    have : P * 18446744073709551616 = hh * 340282366920938463463374607431768211456 + mid * 18446744073709551616 := by rw [← e1]; omega
    have hE := Nat.add_mul Lo x den
    have hP : P * 18446744073709551616 * den = (hh * 340282366920938463463374607431768211456 + mid * 18446744073709551616) * den := by rw [this]
    rw [← hP, hE, ← Nat.add_assoc]
    exact B2
  have between : ∀ q : Nat, q * (340282366920938463463374607431768211456 * 2 ^ s) * den < R → R < (q + 1) * (340282366920938463463374607431768211456 * 2 ^ s) * den → unr R (den * (340282366920938463463374607431768211456 * 2 ^ s)) = q / 2 * 2 + 1 := by
    intro q h1 h2
    refine unr_between ?_ ?_
    · rw [Nat.mul_comm den, ← Nat.mul_assoc]; exact h1
    rw [Nat.mul_comm den, ← Nat.mul_assoc]; exact h2
  by_cases c1 : hh % 2 ^ s = 0
  · rw [if_neg (by omega)]
    obtain ⟨q, hq⟩ : ∃ q, hh = q * 2 ^ s := ⟨hh / 2 ^ s, by have := Nat.div_add_mod hh (2 ^ s); rw [Nat.mul_comm]; omega⟩
    by_cases c2 : mid < mid2
    · rw [if_pos c2, if_pos c2, if_pos (by omega)]
      have hh1 : 1 ≤ hh := by
        rcases Nat.lt_or_ge 0 hh with h | h
        · exact h
        have : hh = 0 := by omega
        subst this
        exfalso
        have a1 : mid * 18446744073709551616 + 18446744073709551616 ≤ Lo := by omega
        have a2 : (mid * 18446744073709551616 + 18446744073709551616) * den ≤ Lo * den := key _ _ a1
        rw [Nat.add_mul] at a2
        have : 0 < 18446744073709551616 * den := Nat.mul_pos (by decide) hden
        rw [Nat.zero_mul, Nat.zero_add] at k1
        have : P * 18446744073709551616 * den = (mid * 18446744073709551616) * den := by
          have : P * 18446744073709551616 = mid * 18446744073709551616 := by rw [← e1]; omega
          rw [this]
        omega
      have hq1 : 1 ≤ q := by
        rcases Nat.lt_or_ge 0 q with h | h
        · exact h
        have : q = 0 := by omega
        subst this; omega
      have hd : (hh - 1) / 2 ^ s = q - 1 := by
        refine Nat.div_eq_of_lt_le ?_ ?_
        · have : (q - 1) * 2 ^ s + 2 ^ s = q * 2 ^ s := by rw [← Nat.succ_mul]; congr 1; omega
          omega
        have : (q - 1 + 1) * 2 ^ s = q * 2 ^ s := by congr 1; omega
        omega
      rw [hd]
      refine (between (q - 1) ?_ ?_).symm
      · have a1 : (q - 1) * (340282366920938463463374607431768211456 * 2 ^ s) + (Lo + x) ≤ hh * 340282366920938463463374607431768211456 + mid * 18446744073709551616 := by
          have b1 : (q - 1) * (340282366920938463463374607431768211456 * 2 ^ s) + 340282366920938463463374607431768211456 * 2 ^ s = hh * 340282366920938463463374607431768211456 := by
            rw [← Nat.succ_mul, hq, show (q - 1).succ = q by omega, Nat.mul_comm 340282366920938463463374607431768211456, Nat.mul_assoc]
          have b2 : 340282366920938463463374607431768211456 * 1 ≤ 340282366920938463463374607431768211456 * 2 ^ s := Nat.mul_le_mul_left _ hp
          omega
        have := key _ _ a1
        rw [Nat.add_mul] at this
        omega
      have a1 : hh * 340282366920938463463374607431768211456 + mid * 18446744073709551616 + 1 ≤ (q - 1 + 1) * (340282366920938463463374607431768211456 * 2 ^ s) + Lo := by
        have b1 : (q - 1 + 1) * (340282366920938463463374607431768211456 * 2 ^ s) = hh * 340282366920938463463374607431768211456 := by
          rw [hq, show q - 1 + 1 = q by omega, Nat.mul_comm 340282366920938463463374607431768211456, Nat.mul_assoc]
        omega
      have := key _ _ a1
      have hP : P * 18446744073709551616 * den = (hh * 340282366920938463463374607431768211456 + mid * 18446744073709551616) * den := by
        have : P * 18446744073709551616 = hh * 340282366920938463463374607431768211456 + mid * 18446744073709551616 := by rw [← e1]; omega
        rw [this]
      have e5 := Nat.succ_mul (hh * 340282366920938463463374607431768211456 + mid * 18446744073709551616) den
      have e6 := Nat.add_mul ((q - 1 + 1) * (340282366920938463463374607431768211456 * 2 ^ s)) Lo den
      rw [Nat.succ_eq_add_one] at e5
      omega
    rw [if_neg c2, if_neg c2]
    have hd : hh / 2 ^ s = q := by rw [hq, Nat.mul_div_cancel _ hp]
    by_cases c3 : 1 < mid - mid2
    · rw [if_pos c3, hd]
      refine (between q ?_ ?_).symm
      · have a1 : q * (340282366920938463463374607431768211456 * 2 ^ s) + (Lo + x) ≤ hh * 340282366920938463463374607431768211456 + mid * 18446744073709551616 := by
          have b1 : q * (340282366920938463463374607431768211456 * 2 ^ s) = hh * 340282366920938463463374607431768211456 := by rw [hq, Nat.mul_comm 340282366920938463463374607431768211456, Nat.mul_assoc]
          omega
        have := key _ _ a1
        rw [Nat.add_mul] at this
        omega
      have a1 : hh * 340282366920938463463374607431768211456 + mid * 18446744073709551616 + 1 ≤ (q + 1) * (340282366920938463463374607431768211456 * 2 ^ s) := by
        have b1 : q * (340282366920938463463374607431768211456 * 2 ^ s) = hh * 340282366920938463463374607431768211456 := by rw [hq, Nat.mul_comm 340282366920938463463374607431768211456, Nat.mul_assoc]
        have b2 : 340282366920938463463374607431768211456 * 1 ≤ 340282366920938463463374607431768211456 * 2 ^ s := Nat.mul_le_mul_left _ hp
        rw [Nat.add_mul]; omega
      have := key _ _ a1
      rw [Nat.add_mul] at this
      omega
    rw [if_neg c3, hd]
    have := hc c1 (by omega) (by omega)
    rw [unr_exact (q := q) (Nat.mul_pos hden (Nat.mul_pos (by decide) hp))]
    rw [this, hq, Nat.mul_comm den, ← Nat.mul_assoc, Nat.mul_assoc q, Nat.mul_comm (2 ^ s)]
  rw [if_pos c1]
  have hdm := Nat.div_add_mod hh (2 ^ s)
  have hml := Nat.mod_lt hh hp
  obtain ⟨q, hq⟩ : ∃ q, q = hh / 2 ^ s := ⟨_, rfl⟩
  rw [← hq] at hdm ⊢
  refine (between q ?_ ?_).symm
  · have a1 : q * (340282366920938463463374607431768211456 * 2 ^ s) + (Lo + x) ≤ hh * 340282366920938463463374607431768211456 + mid * 18446744073709551616 := by
      have b1 : q * (340282366920938463463374607431768211456 * 2 ^ s) = 2 ^ s * q * 340282366920938463463374607431768211456 := by
        rw [Nat.mul_comm 340282366920938463463374607431768211456, Nat.mul_comm (2 ^ s) q, Nat.mul_assoc]
      rw [b1]
      omega
    have := key _ _ a1
    rw [Nat.add_mul] at this
    omega
  have a1 : hh * 340282366920938463463374607431768211456 + mid * 18446744073709551616 + 1 ≤ (q + 1) * (340282366920938463463374607431768211456 * 2 ^ s) := by
    have b1 : q * (340282366920938463463374607431768211456 * 2 ^ s) = 2 ^ s * q * 340282366920938463463374607431768211456 := by
      rw [Nat.mul_comm 340282366920938463463374607431768211456, Nat.mul_comm (2 ^ s) q, Nat.mul_assoc]
    rw [Nat.add_mul, b1, Nat.one_mul, Nat.mul_comm 340282366920938463463374607431768211456 (2 ^ s)]
    have : (hh + 1) * 340282366920938463463374607431768211456 ≤ (2 ^ s * q + 2 ^ s) * 340282366920938463463374607431768211456 := Nat.mul_le_mul_right _ (by omega)
    rw [Nat.add_mul, Nat.add_mul] at this
    omega
  have := key _ _ a1
  rw [Nat.add_mul] at this
  omega
end Go.Proofs.YtjpiplplohapnaaGreatDoor.Us
namespace Go.Proofs.YtjpiplplohapnaaGreatDoor.Us
def lp (p : Int) : Int := p * 108853 / 32768
def num (p : Int) : Nat := 10 ^ p.toNat * 2 ^ (127 - lp p).toNat
def den (p : Int) : Nat := 10 ^ (-p).toNat * 2 ^ (lp p - 127).toNat
def seek (fuel q1 m1 a1 q2 m2 a2 : Nat) : Nat × Nat × Nat × Nat × Nat × Nat :=
  match fuel with
  | 0 => (q1, m1, a1, q2, m2, a2)
  | fuel + 1 =>
    if 18446744073709551616 ≤ q1 + q2 then (q1, m1, a1, q2, m2, a2)
    else if a2 < a1 then
      let k := if q2 = 0 then (a1 - 1) / a2 else min ((a1 - 1) / a2) ((18446744073709551615 - q1 - q2) / q2 + 1)
      seek fuel (q1 + k * q2) (m1 + k * m2) (a1 - k * a2) q2 m2 a2
    else
      let k := min ((a2 - 1) / a1) ((18446744073709551615 - q1 - q2) / q1 + 1)
      seek fuel q1 m1 a1 (q2 + k * q1) (m2 + k * m1) (a2 - k * a1)
structure Fence (pm q1 m1 a1 q2 m2 a2 : Nat) : Prop where
  one : a1 + m1 * 87112285931760246646623899502532662132736 = q1 * pm
  two : a2 + q2 * pm = m2 * 87112285931760246646623899502532662132736
  det : q1 * m2 = q2 * m1 + 1
  wide : 18446744073709551616 ≤ q1 + q2
  far1 : q1 ≠ 0 ∧ 18446744073709551616 < (9223372036854775808 + q1 - 1) / q1 * a1
  far2 : q2 ≠ 0 ∧ 18446744073709551616 ≤ (9223372036854775808 + q2 - 1) / q2 * a2
instance (pm q1 m1 a1 q2 m2 a2 : Nat) : Decidable (Fence pm q1 m1 a1 q2 m2 a2) :=
  decidable_of_iff (a1 + m1 * 87112285931760246646623899502532662132736 = q1 * pm ∧ a2 + q2 * pm = m2 * 87112285931760246646623899502532662132736 ∧ q1 * m2 = q2 * m1 + 1 ∧ 18446744073709551616 ≤ q1 + q2 ∧ (q1 ≠ 0 ∧ 18446744073709551616 < (9223372036854775808 + q1 - 1) / q1 * a1) ∧ (q2 ≠ 0 ∧ 18446744073709551616 ≤ (9223372036854775808 + q2 - 1) / q2 * a2))
    ⟨fun ⟨a, b, c, d, e, f⟩ => ⟨a, b, c, d, e, f⟩, fun ⟨a, b, c, d, e, f⟩ => ⟨a, b, c, d, e, f⟩⟩
def rowCheck (p : Int) (r : Nat × Nat) : Bool :=
  let n := num p
  let d := den p
  let pm := r.1 * 18446744073709551616
  decide (0 < d ∧ r.2 < 18446744073709551616 ∧ n + r.2 * d ≤ pm * d ∧ pm * d < n + r.2 * d + d ∧ 9223372036854775808 ≤ r.1 ∧ r.1 ≤ 18437736874454810624 ∧ 2 ^ 127 * d ≤ n)
def fenceCheck (p : Int) (r : Nat × Nat) : Bool :=
  if -27 ≤ p ∧ p ≤ 27 then
    if 0 ≤ p then decide (r.2 = 0 ∧ r.1 % 2 = 0 ∧ num p = r.1 * 18446744073709551616 * den p)
    else decide (2 ^ 65 * den p ≤ 2 ^ (min (127 - lp p).toNat (136 + (-p).toNat)) ∧ lp p ≤ 127)
  else
    let pm := r.1 * 18446744073709551616 - r.2
    let t := seek 100 1 0 pm 0 1 87112285931760246646623899502532662132736
    decide (Fence pm t.1 t.2.1 t.2.2.1 t.2.2.2.1 t.2.2.2.2.1 t.2.2.2.2.2)
def printCheck (p : Int) (r : Nat × Nat) : Bool := !(decide (0 ≤ p) && decide (p ≤ 31)) || decide (num p = (r.1 * 18446744073709551616 - r.2) * den p ∧ ((r.1 * 18446744073709551616 - r.2) % 2 ^ 54 = 0))
def allFrom (f : Int → Nat × Nat → Bool) : Int → List (Nat × Nat) → Bool
  | _, [] => true
  | p, r :: l => f p r && allFrom f (p + 1) l
theorem allFrom_get (f : Int → Nat × Nat → Bool) : ∀ (l : List (Nat × Nat)) (p : Int), allFrom f p l = true → ∀ (i : Nat) (r : Nat × Nat), l[i]? = some r → f (p + i) r = true
  | [], _, _, i, r, h => by simp at h
  | x :: l, p, ha, i, r, h => by
    simp only [allFrom, Bool.and_eq_true] at ha
    cases i with
    | zero => simp at h; subst h; simpa using ha.1
    | succ i =>
      have := allFrom_get f l (p + 1) ha.2 i r (by simpa using h)
      rw [show p + ((i + 1 : Nat) : Int) = p + 1 + (i : Int) by omega]
      exact this
set_option maxRecDepth 100000 in
theorem rows_ok : allFrom rowCheck (-348) Pinned.pow10Rows = true := by decide +kernel
set_option maxRecDepth 100000 in
theorem fences_ok : allFrom fenceCheck (-348) Pinned.pow10Rows = true := by decide +kernel
set_option maxRecDepth 100000 in
theorem prints_ok : allFrom printCheck (-348) Pinned.pow10Rows = true := by decide +kernel
theorem row_ok {i : Nat} {r : Nat × Nat} (h : Pinned.pow10Rows[i]? = some r) : RowOk r.1 r.2 (num ((i : Int) - 348)) (den ((i : Int) - 348)) ∧ 9223372036854775808 ≤ r.1 ∧ r.1 ≤ 18437736874454810624 ∧ 2 ^ 127 * den ((i : Int) - 348) ≤ num ((i : Int) - 348) := by
  have h1 := allFrom_get rowCheck _ _ rows_ok i r h
  rw [show (-348 : Int) + (i : Int) = (i : Int) - 348 by omega] at h1
  have h2 := of_decide_eq_true h1
  exact ⟨⟨h2.1, h2.2.1, h2.2.2.1, h2.2.2.2.1⟩, h2.2.2.2.2⟩
theorem fence_far {pm q1 m1 a1 q2 m2 a2 x M : Nat} (F : Fence pm q1 m1 a1 q2 m2 a2) (hx1 : 9223372036854775808 ≤ x) (hx2 : x < 18446744073709551616)
    (h1 : x * pm ≤ M * 87112285931760246646623899502532662132736 + 18446744073709551616) (h2 : M * 87112285931760246646623899502532662132736 < x * pm + 18446744073709551616) : False := by
  obtain ⟨f1, f2, f3, f4, ⟨f5, f6⟩, ⟨f7, f8⟩⟩ := F
  generalize 87112285931760246646623899502532662132736 = W at *
  obtain ⟨i, hi⟩ : ∃ i : Int, i = x * m2 - M * q2 := ⟨_, rfl⟩
  obtain ⟨j, hj⟩ : ∃ j : Int, j = M * q1 - x * m1 := ⟨_, rfl⟩
  have g1 : (a1 : Int) = q1 * pm - m1 * W := by have := congrArg (Nat.cast (R := Int)) f1; rw [Int.natCast_add, Int.natCast_mul, Int.natCast_mul] at this; omega
  have g2 : (a2 : Int) = m2 * W - q2 * pm := by have := congrArg (Nat.cast (R := Int)) f2; rw [Int.natCast_add, Int.natCast_mul, Int.natCast_mul] at this; omega
  have g3 : (q1 : Int) * m2 = q2 * m1 + 1 := by have := congrArg (Nat.cast (R := Int)) f3; push_cast at this; omega
  have ex : i * q1 + j * q2 = (x : Int) := by
    rw [hi, hj]
    grind
  have er : i * a1 - j * a2 = (x : Int) * pm - M * W := by
    rw [hi, hj, g1, g2]
    grind
  have h1' : (x : Int) * pm ≤ M * W + 18446744073709551616 := by have := Int.ofNat_le.2 h1; rw [Int.natCast_mul, Int.natCast_add, Int.natCast_mul] at this; omega
  have h2' : (M : Int) * W < x * pm + 18446744073709551616 := by have := Int.ofNat_lt.2 h2; rw [Int.natCast_mul, Int.natCast_add, Int.natCast_mul] at this; omega
  have k1 : ((9223372036854775808 + q1 - 1) / q1 : Nat) * q1 < 9223372036854775808 + q1 := by
    have := Nat.div_mul_le_self (9223372036854775808 + q1 - 1) q1
    omega
  have k2 : ((9223372036854775808 + q2 - 1) / q2 : Nat) * q2 < 9223372036854775808 + q2 := by
    have := Nat.div_mul_le_self (9223372036854775808 + q2 - 1) q2
    omega
  generalize (9223372036854775808 + q1 - 1) / q1 = c1 at *
  generalize (9223372036854775808 + q2 - 1) / q2 = c2 at *
  rcases Int.lt_or_le 0 i with hi1 | hi1
  · rcases Int.lt_or_le 0 j with hj1 | hj1
    · have b1 : (1 : Int) * q1 ≤ i * q1 := Int.mul_le_mul_of_nonneg_right hi1 (by omega)
      have b2 : (1 : Int) * q2 ≤ j * q2 := Int.mul_le_mul_of_nonneg_right hj1 (by omega)
      omega
    have b2 : j * q2 ≤ 0 := Int.mul_nonpos_of_nonpos_of_nonneg hj1 (by omega)
    have b3 : j * a2 ≤ 0 := Int.mul_nonpos_of_nonpos_of_nonneg hj1 (by omega)
    have b4 : (c1 : Int) ≤ i := by
      rcases Int.lt_or_le i c1 with h | h
      · exfalso
        have d1 : i * q1 ≤ ((c1 : Int) - 1) * q1 := Int.mul_le_mul_of_nonneg_right (by omega) (by omega)
        rw [Int.sub_mul] at d1
        have : ((c1 * q1 : Nat) : Int) = (c1 : Int) * q1 := by push_cast; rfl
        omega
      exact h
    have b5 : (c1 : Int) * a1 ≤ i * a1 := Int.mul_le_mul_of_nonneg_right b4 (by omega)
    have : ((c1 * a1 : Nat) : Int) = (c1 : Int) * a1 := by push_cast; rfl
    omega
  have b2 : i * q1 ≤ 0 := Int.mul_nonpos_of_nonpos_of_nonneg hi1 (by omega)
  have b3 : i * a1 ≤ 0 := Int.mul_nonpos_of_nonpos_of_nonneg hi1 (by omega)
  have b4 : (c2 : Int) ≤ j := by
    rcases Int.lt_or_le j c2 with h | h
    · exfalso
      have d1 : j * q2 ≤ ((c2 : Int) - 1) * q2 := Int.mul_le_mul_of_nonneg_right (by omega) (by omega)
      rw [Int.sub_mul] at d1
      have : ((c2 * q2 : Nat) : Int) = (c2 : Int) * q2 := by push_cast; rfl
      omega
    exact h
  have b5 : (c2 : Int) * a2 ≤ j * a2 := Int.mul_le_mul_of_nonneg_right b4 (by omega)
  have : ((c2 * a2 : Nat) : Int) = (c2 : Int) * a2 := by push_cast; rfl
  omega
theorem rows_len : Pinned.pow10Rows.length = 696 := by decide +kernel
end Go.Proofs.YtjpiplplohapnaaGreatDoor.Us
namespace Go.Proofs.YtjpiplplohapnaaGreatDoor.Us
theorem near_place {x hi lo s : Nat} (hlo : lo ≤ hi * 18446744073709551616) (c1 : x * hi / 18446744073709551616 % 2 ^ s = 0) (c2 : x * lo / 18446744073709551616 ≤ x * hi % 18446744073709551616) (c3 : x * hi % 18446744073709551616 ≤ x * lo / 18446744073709551616 + 1) :
    x * (hi * 18446744073709551616 - lo) ≤ x * hi / 18446744073709551616 * 340282366920938463463374607431768211456 + 18446744073709551616 ∧ x * hi / 18446744073709551616 * 340282366920938463463374607431768211456 < x * (hi * 18446744073709551616 - lo) + 18446744073709551616 := by
  have e1 := Nat.div_add_mod (x * hi) 18446744073709551616
  have e2 := Nat.div_add_mod (x * lo) 18446744073709551616
  have m2 := Nat.mod_lt (x * lo) (show 0 < 18446744073709551616 by decide)
  have e3 : x * (hi * 18446744073709551616 - lo) + x * lo = x * hi * 18446744073709551616 := by
    rw [← Nat.mul_add, Nat.sub_add_cancel hlo, Nat.mul_assoc]
  generalize x * (hi * 18446744073709551616 - lo) = P at *
  generalize x * hi = A at *
  generalize x * lo = L at *
  omega
theorem clean_fence {i : Nat} {r : Nat × Nat} (h : Pinned.pow10Rows[i]? = some r) (hp : ¬ (-27 ≤ (i : Int) - 348 ∧ (i : Int) - 348 ≤ 27)) {x s : Nat} (hs : 8 ≤ s) (hx1 : 9223372036854775808 ≤ x) (hx2 : x < 18446744073709551616) (n d : Nat) : Clean x r.1 r.2 s n d := by
  intro c1 c2 c3
  exfalso
  have h1 := allFrom_get fenceCheck _ _ fences_ok i r h
  rw [show (-348 : Int) + (i : Int) = (i : Int) - 348 by omega] at h1
  unfold fenceCheck at h1
  rw [if_neg hp] at h1
  have F := of_decide_eq_true h1
  obtain ⟨hr, hb1, hb2, -⟩ := row_ok h
  have hlo : r.2 ≤ r.1 * 18446744073709551616 := by have := hr.small; omega
  obtain ⟨p1, p2⟩ := near_place hlo c1 c2 c3
  have hq : x * r.1 / 18446744073709551616 * 340282366920938463463374607431768211456 = (x * r.1 / 18446744073709551616 / 2 ^ s * 2 ^ (s - 8)) * 87112285931760246646623899502532662132736 := by
    have a := Nat.div_add_mod (x * r.1 / 18446744073709551616) (2 ^ s)
    rw [c1, Nat.add_zero] at a
    have b : 2 ^ s = 2 ^ (s - 8) * 256 := by rw [show (256 : Nat) = 2 ^ 8 from rfl, ← Nat.pow_add, Nat.sub_add_cancel hs]
    generalize x * r.1 / 18446744073709551616 / 2 ^ s = q at *
    generalize 2 ^ (s - 8) = t at *
    have a' : x * r.1 / 18446744073709551616 = q * t * 256 := by rw [← a, b]; grind
    rw [a']
    generalize q * t = y
    omega
  rw [hq] at p1 p2
  exact fence_far F hx1 hx2 p1 p2
theorem den_nonneg {p : Int} (h0 : 0 ≤ p) (h1 : p ≤ 31) : den p = 1 := by
  unfold den lp
  have e1 : (-p).toNat = 0 := by omega
  have e2 : (p * 108853 / 32768 - 127).toNat = 0 := by omega
  rw [e1, e2]
theorem close {G a t P A L xD WD : Nat} (B1 : G * a + L ≤ A) (B2 : A < G * a + L + xD) (hP : P + L = A) (q1 : P ≤ G * t + WD) (q2 : G * t < P + WD) (q3 : xD ≤ WD) (z3 : 2 * WD ≤ G) : a = t := by
  have w1 : G * a < G * (t + 1) := by rw [Nat.mul_add, Nat.mul_one]; omega
  have w2 : G * t < G * (a + 1) := by rw [Nat.mul_add, Nat.mul_one]; omega
  have v1 := Nat.lt_of_mul_lt_mul_left w1
  have v2 := Nat.lt_of_mul_lt_mul_left w2
  omega
theorem place_eq (w hh : Nat) (p1 : w * 36893488147419103232 ≤ hh * 340282366920938463463374607431768211456 + 18446744073709551616) (p2 : hh * 340282366920938463463374607431768211456 < w * 36893488147419103232 + 18446744073709551616) : w * 36893488147419103232 = hh * 340282366920938463463374607431768211456 := by omega
theorem clean_mid {i : Nat} {r : Nat × Nat} (h : Pinned.pow10Rows[i]? = some r) (hp : -27 ≤ (i : Int) - 348 ∧ (i : Int) - 348 ≤ 27) {x s : Nat} (hs : 8 ≤ s) (hx0 : 0 < x) (hx2 : x < 18446744073709551616) : Clean x r.1 r.2 s (num ((i : Int) - 348)) (den ((i : Int) - 348)) := by
  intro c1 c2 c3
  have h1 := allFrom_get fenceCheck _ _ fences_ok i r h
  rw [show (-348 : Int) + (i : Int) = (i : Int) - 348 by omega] at h1
  unfold fenceCheck at h1
  rw [if_pos hp] at h1
  obtain ⟨hr, hb1, hb2, -⟩ := row_ok h
  have hlo : r.2 ≤ r.1 * 18446744073709551616 := by have := hr.small; omega
  by_cases h0 : 0 ≤ (i : Int) - 348
  · rw [if_pos h0] at h1
    obtain ⟨z1, z2, z3⟩ := of_decide_eq_true h1
    rw [z1] at c2 c3
    rw [z3, den_nonneg h0 (by omega)]
    rw [Nat.mul_zero, Nat.zero_div] at c2 c3
    have e1 := Nat.div_add_mod (x * r.1) 18446744073709551616
    have e2 : x * r.1 % 2 = 0 := by rw [Nat.mul_mod, z2]; simp
    rw [← Nat.mul_assoc, ← Nat.mul_assoc]
    generalize x * r.1 = A at *
    omega
  rw [if_neg h0] at h1
  obtain ⟨z1, z2⟩ := of_decide_eq_true h1
  have B1 : x * num ((i : Int) - 348) + (x * r.2) * den ((i : Int) - 348) ≤ (x * r.1) * 18446744073709551616 * den ((i : Int) - 348) := by
    have := Nat.mul_le_mul_left x hr.below
    rw [Nat.mul_add, ← Nat.mul_assoc x r.2, ← Nat.mul_assoc x, ← Nat.mul_assoc x] at this
    exact this
  have B2 : (x * r.1) * 18446744073709551616 * den ((i : Int) - 348) < x * num ((i : Int) - 348) + (x * r.2) * den ((i : Int) - 348) + x * den ((i : Int) - 348) := by
    have := Nat.mul_lt_mul_of_pos_left hr.above hx0
    rw [Nat.mul_add, Nat.mul_add, ← Nat.mul_assoc x r.2, ← Nat.mul_assoc x, ← Nat.mul_assoc x] at this
    exact this
  have hd := hr.dpos
  obtain ⟨g, hg⟩ : ∃ g, g = min (127 - lp ((i : Int) - 348)).toNat (136 + (-((i : Int) - 348)).toNat) := ⟨_, rfl⟩
  rw [← hg] at z1
  have hn : num ((i : Int) - 348) = 2 ^ g * 2 ^ ((127 - lp ((i : Int) - 348)).toNat - g) := by
    unfold num
    have : ((i : Int) - 348).toNat = 0 := by omega
    rw [this, Nat.pow_zero, Nat.one_mul, ← Nat.pow_add]
    congr 1; omega
  have hdn : den ((i : Int) - 348) = 10 ^ (-((i : Int) - 348)).toNat := by
    unfold den
    have : (lp ((i : Int) - 348) - 127).toNat = 0 := by omega
    rw [this, Nat.pow_zero, Nat.mul_one]
  have hM : ∃ t, x * r.1 / 18446744073709551616 * 340282366920938463463374607431768211456 * den ((i : Int) - 348) = 2 ^ g * t := by
    have a := Nat.div_add_mod (x * r.1 / 18446744073709551616) (2 ^ s)
    rw [c1, Nat.add_zero] at a
    generalize x * r.1 / 18446744073709551616 / 2 ^ s = q at *
    refine ⟨2 ^ ((136 + (-((i : Int) - 348)).toNat) - g) * 2 ^ (s - 8) * q * 5 ^ (-((i : Int) - 348)).toNat, ?_⟩
    rw [← a, hdn]
    have h10 : (10 : Nat) ^ (-((i : Int) - 348)).toNat = 2 ^ (-((i : Int) - 348)).toNat * 5 ^ (-((i : Int) - 348)).toNat := by rw [← Nat.mul_pow]
    have hW : (340282366920938463463374607431768211456 : Nat) = 2 ^ 128 := by decide
    rw [h10, hW]
    have e : 2 ^ s * 2 ^ 128 * 2 ^ (-((i : Int) - 348)).toNat = 2 ^ g * (2 ^ ((136 + (-((i : Int) - 348)).toNat) - g) * 2 ^ (s - 8)) := by
      rw [← Nat.pow_add, ← Nat.pow_add, ← Nat.pow_add, ← Nat.pow_add]
      congr 1; omega
    generalize 2 ^ s = u1 at *
    generalize 2 ^ 128 = u2 at *
    generalize 2 ^ (-((i : Int) - 348)).toNat = u3 at *
    generalize 5 ^ (-((i : Int) - 348)).toNat = u4 at *
    generalize 2 ^ g = u5 at *
    generalize 2 ^ ((136 + (-((i : Int) - 348)).toNat) - g) = u6 at *
    generalize 2 ^ (s - 8) = u7 at *
    calc u1 * q * u2 * (u3 * u4) = (u1 * u2 * u3) * (q * u4) := by grind
      _ = u5 * (u6 * u7) * (q * u4) := by rw [e]
      _ = u5 * (u6 * u7 * q * u4) := by grind
  obtain ⟨p1, p2⟩ := near_place hlo c1 c2 c3
  obtain ⟨t, ht⟩ := hM
  have hR : x * num ((i : Int) - 348) = 2 ^ g * (2 ^ ((127 - lp ((i : Int) - 348)).toNat - g) * x) := by rw [hn]; grind
  have hP : x * (r.1 * 18446744073709551616 - r.2) * den ((i : Int) - 348) + (x * r.2) * den ((i : Int) - 348) = (x * r.1) * 18446744073709551616 * den ((i : Int) - 348) := by
    rw [← Nat.add_mul, ← Nat.mul_add, Nat.sub_add_cancel hlo, Nat.mul_assoc x r.1]
  have q1 := Nat.le_trans (Nat.mul_le_mul_right (den ((i : Int) - 348)) p1) (Nat.le_of_eq (Nat.add_mul _ _ _))
  have q2 := Nat.lt_of_lt_of_le (Nat.mul_lt_mul_of_pos_right p2 hd) (Nat.le_of_eq (Nat.add_mul _ _ _))
  have q3 : x * den ((i : Int) - 348) ≤ 18446744073709551616 * den ((i : Int) - 348) := Nat.mul_le_mul_right _ (by omega)
  have z3 : 36893488147419103232 * den ((i : Int) - 348) ≤ 2 ^ g := z1
  rw [ht] at q1 q2 ⊢
  rw [hR] at B1 B2 ⊢
  have hfin := close B1 B2 hP q1 q2 q3 (by omega)
  rw [hfin]
theorem clean_parse {i : Nat} {r : Nat × Nat} (h : Pinned.pow10Rows[i]? = some r) {x s : Nat} (hs : 8 ≤ s) (hx1 : 9223372036854775808 ≤ x) (hx2 : x < 18446744073709551616) : Clean x r.1 r.2 s (num ((i : Int) - 348)) (den ((i : Int) - 348)) := by
  by_cases hp : -27 ≤ (i : Int) - 348 ∧ (i : Int) - 348 ≤ 27
  · exact clean_mid h hp hs (by omega) hx2
  exact clean_fence h hp hs hx1 hx2 _ _
theorem clean_print {i : Nat} {r : Nat × Nat} (h : Pinned.pow10Rows[i]? = some r) (hp : 0 ≤ (i : Int) - 348 ∧ (i : Int) - 348 ≤ 31) {x s : Nat} (hx : x % 2048 = 0) : Clean x r.1 r.2 s (num ((i : Int) - 348)) (den ((i : Int) - 348)) := by
  intro c1 c2 c3
  have h1 := allFrom_get printCheck _ _ prints_ok i r h
  rw [show (-348 : Int) + (i : Int) = (i : Int) - 348 by omega] at h1
  unfold printCheck at h1
  rw [decide_eq_true hp.1, decide_eq_true hp.2] at h1
  have h2 : decide (num ((i : Int) - 348) = (r.1 * 18446744073709551616 - r.2) * den ((i : Int) - 348) ∧ ((r.1 * 18446744073709551616 - r.2) % 2 ^ 54 = 0)) = true := by simpa using h1
  obtain ⟨z1, z2⟩ := of_decide_eq_true h2
  obtain ⟨hr, hb1, hb2, -⟩ := row_ok h
  have hlo : r.2 ≤ r.1 * 18446744073709551616 := by have := hr.small; omega
  obtain ⟨p1, p2⟩ := near_place hlo c1 c2 c3
  rw [z1, ← Nat.mul_assoc]
  have e1 : x = x / 2048 * 2048 := by omega
  have e2 : ∃ v, r.1 * 18446744073709551616 - r.2 = v * 18014398509481984 := by
    have h54 : (2 : Nat) ^ 54 = 18014398509481984 := by decide
    rw [h54] at z2
    exact ⟨(r.1 * 18446744073709551616 - r.2) / 18014398509481984, by omega⟩
  obtain ⟨v, hv⟩ := e2
  rw [hv] at p1 p2 ⊢
  have e3 : x * (v * 18014398509481984) = x / 2048 * v * 36893488147419103232 := by
    conv => lhs; rw [e1]
    generalize x / 2048 = y
    grind
  rw [e3] at p1 p2 ⊢
  exact congrArg (fun y => y * den ((i : Int) - 348)) (place_eq _ _ p1 p2)
end Go.Proofs.YtjpiplplohapnaaGreatDoor.Us
namespace Go.Proofs.YtjpiplplohapnaaGreatDoor.Us
open Nr
def rnd (u : Nat) : Nat := (u + 1 + u / 4 % 2) / 4
def stick (v : Nat) (b : Bool) : Nat := if b then v / 2 * 2 + 1 else v
theorem unr_parts (N D : Nat) : (N % D = 0 ∧ unr N D = N / D) ∨ (N % D ≠ 0 ∧ unr N D = N / D / 2 * 2 + 1) := by
  unfold unr
  by_cases h : N % D = 0
  · left; rw [if_pos h]; exact ⟨h, rfl⟩
  right; rw [if_neg h]; exact ⟨h, rfl⟩
theorem rnd_rhe {N D : Nat} (hD : 0 < D) : Rhe N (4 * D) (rnd (unr N D)) := by
  have e1 := Nat.div_add_mod N D
  have m1 := Nat.mod_lt N hD
  obtain ⟨n, t, hn, ht⟩ : ∃ n t, N / D = 4 * n + t ∧ t < 4 := ⟨N / D / 4, N / D % 4, by omega, by omega⟩
  have hN : N = 4 * (D * n) + D * t + N % D := by
    have : D * (N / D) = 4 * (D * n) + D * t := by rw [hn, Nat.mul_add]; grind
    omega
  have q1 : (2 * n + 1) * (4 * D) = 8 * (D * n) + 4 * D := by grind
  have q2 : 2 * n * (4 * D) = 8 * (D * n) := by grind
  have q3 : (2 * (n + 1) + 1) * (4 * D) = 8 * (D * n) + 12 * D := by grind
  have q4 : 2 * (n + 1) * (4 * D) = 8 * (D * n) + 8 * D := by grind
  have up : rnd (unr N D) = n ∨ rnd (unr N D) = n + 1 := by
    unfold rnd
    rcases unr_parts N D with ⟨-, h⟩ | ⟨-, h⟩ <;> rw [h, hn] <;> omega
  have val : (rnd (unr N D) = n ∧ 2 * N ≤ (2 * n + 1) * (4 * D) ∧ (2 * N = (2 * n + 1) * (4 * D) → n % 2 = 0)) ∨ (rnd (unr N D) = n + 1 ∧ (2 * n + 1) * (4 * D) ≤ 2 * N ∧ (2 * N = (2 * n + 1) * (4 * D) → n % 2 = 1)) := by
    have ht' : t = 0 ∨ t = 1 ∨ t = 2 ∨ t = 3 := by omega
    unfold rnd
    rcases ht' with rfl | rfl | rfl | rfl <;> rcases unr_parts N D with ⟨hr, h⟩ | ⟨hr, h⟩ <;> rw [h, hn]
    · left; omega
    · left; omega
    · left; omega
    · left; omega
    · by_cases c : n % 2 = 0
      · left; omega
      right; omega
    · right; omega
    · right; omega
    right; omega
  generalize N % D = r at *
  generalize D * n = dn at *
  have ht' : t = 0 ∨ t = 1 ∨ t = 2 ∨ t = 3 := by omega
  unfold Rhe
  rcases val with ⟨h, a1, a2⟩ | ⟨h, a1, a2⟩
  · rw [h, q2]
    refine ⟨a1, ?_, a2, fun hh => ?_⟩
    · rcases ht' with rfl | rfl | rfl | rfl <;> omega
    exfalso; rcases ht' with rfl | rfl | rfl | rfl <;> omega
  rw [h, q3, q4]
  rw [q1] at a1 a2
  refine ⟨?_, ?_, fun hh => ?_, fun hh => ?_⟩
  · rcases ht' with rfl | rfl | rfl | rfl <;> omega
  · omega
  · exfalso; rcases ht' with rfl | rfl | rfl | rfl <;> omega
  have := a2 (by omega); omega
theorem unr_scale {N D k : Nat} (hD : 0 < D) (hk : 0 < k) (he : k % 2 = 0) : unr N (D * k) = stick (unr N D / k) (decide (unr N D % 2 = 1) || decide (unr N D % k ≠ 0)) := by
  have e1 : N / (D * k) = N / D / k := (Nat.div_div_eq_div_mul ..).symm
  have e2 : N % (D * k) = N % D + D * (N / D % k) := Nat.mod_mul
  obtain ⟨j, rfl⟩ : ∃ j, k = 2 * j := ⟨k / 2, by omega⟩
  have hj : 0 < j := by omega
  have half : ∀ q, (q / 2 * 2 + 1) / (2 * j) = q / (2 * j) := by
    intro q
    rw [← Nat.div_div_eq_div_mul, ← Nat.div_div_eq_div_mul]
    congr 1; omega
  unfold stick
  rcases unr_parts N D with ⟨hr, h⟩ | ⟨hr, h⟩
  · rw [h]
    unfold unr
    rw [e1, e2, hr, Nat.zero_add]
    by_cases c : N / D % (2 * j) = 0
    · have c2 : N / D % 2 = 0 := by
        have := Nat.mod_mul_right_mod (N / D) 2 j
        rw [c] at this; omega
      rw [c, Nat.mul_zero, if_pos rfl, if_neg]
      simp [c2]
    rw [if_neg (by have := Nat.mul_pos hD (Nat.pos_of_ne_zero c); omega), if_pos]
    simp [c]
  rw [h]
  unfold unr
  rw [e1, e2, if_neg (by omega), half, if_pos]
  have : (N / D / 2 * 2 + 1) % 2 = 1 := by omega
  simp [this]
theorem rnd_lt {u x : Nat} (h : u < 4 * x - 2) : rnd u < x := by unfold rnd; omega
theorem rnd_ge {u x : Nat} (h : 4 * x - 2 ≤ u) (hx : x % 2 = 0) (hx0 : 0 < x) : x ≤ rnd u := by
  unfold rnd
  have h1 : u / 4 = x - 1 ∨ x ≤ u / 4 := by omega
  rcases h1 with h1 | h1
  · rw [h1]; omega
  omega
theorem rnd_ge' {u x : Nat} (h : 4 * x - 2 < u) (hx0 : 0 < x) : x ≤ rnd u := by unfold rnd; omega
end Go.Proofs.YtjpiplplohapnaaGreatDoor.Us
