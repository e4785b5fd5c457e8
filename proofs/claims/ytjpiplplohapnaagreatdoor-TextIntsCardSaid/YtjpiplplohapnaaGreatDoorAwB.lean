/- Walks at the inputs of 'awake' (2): text.Parse at "0.1". -/
import Derived.Test.YtjpiplplohapnaaGreatDoorAwA
import Derived.Laws.FloatArith
import Derived.Test.YtjpiplplohapnaaGreatDoorPSmall
namespace Go.Proofs.YtjpiplplohapnaaGreatDoor
open Go.RowKit Go.Proofs.YtjpiplplohapnaaGreatDoorW.PrintWords
theorem bool2_u64f (w : World) : Calls Tryz.prog 150 #[.bool false] w fun e w' => e = .returned (.int .u64 0) ∧ Below w.heap.size w w' :=
  (PText.strconv_bool2_uint64.calls false 0 w (by decide +kernel)).mono fun _ _ ⟨h1, h2⟩ => ⟨h1, h2.below⟩
theorem f10_1 {w : World} (h : Laid w) : ∃ a : Addr, w.cell? ⟨10, 0, none⟩ = some (.slice (some a) 23 23) ∧ w.cell? ⟨a.block, a.off + 1, none⟩ = some (.float .f64 4621819117588971520) := by
  obtain ⟨a, h1, h2⟩ := h.f10Cell
  exact ⟨a, h1, (h2 1 (by decide)).trans (by kernel_rfl)⟩

set_option maxRecDepth 100000 in
set_option maxHeartbeats 1000000 in
theorem atof64exact_01 (w : World) (hL : Laid w) : Calls Tryz.prog 152 #[.int .u64 1, .int .i64 (-1), .bool false] w fun e w' => e = .returned (.tuple #[.float .f64 4591870180066957722, .bool true]) ∧ Below w.heap.size w w' := by
  obtain ⟨b, c1, c2⟩ := f10_1 hL
  obtain ⟨i0, i1, i2⟩ := hL.infCell
  have hq : ∀ W : World, (binOp .quo 22 (.float .f64 (floatOfInt .f64 1)) (.float .f64 4621819117588971520)).run Tryz.prog W = .ok (.float .f64 4591870180066957722) W := fun W => run_float_arith W .quo 22 .f64 _ _ _ (by kernel_rfl)
  go_enter Tryz.func152, Tryz.ntmps152
  go_wp2_with fail
  go_ret2
  exact ⟨rfl, Below.refl _ _⟩

set_option maxRecDepth 100000 in
set_option maxHeartbeats 1000000 in
theorem atof64_01 (w : World) (hL : Laid w) : Calls Tryz.prog 112 #[.string s01] w fun e w' => e = .returned (.tuple #[.float .f64 4591870180066957722, .int .i64 3, .nilIface]) ∧ Below w.heap.size w w' := by
  go_enter Tryz.func112, Tryz.ntmps112
  go_wp2_with fail
  refine (special_01 _).mono ?_
  rintro e w1 ⟨rfl, hb1⟩
  go_wp2_with fail
  refine (readFloat_01 _).mono ?_
  rintro e w2 ⟨rfl, hb2⟩
  have hL2 := (hL.below hb1).below hb2
  have ho := hL2.optCell
  have hb := hb1.trans (hb2.mono hb1.size)
  go_wp2_with fail
  refine (bool2_u64f _).mono ?_
  rintro e w3 ⟨rfl, hb3⟩
  have hL3 := hL2.below hb3
  have hbb := hb.trans (hb3.mono hb.size)
  go_wp2_with fail
  refine (atof64exact_01 _ hL3).mono ?_
  rintro e w4 ⟨rfl, hb4⟩
  go_wp2_with fail
  go_ret3
  exact ⟨rfl, hbb.trans (hb4.mono hbb.size)⟩

set_option maxHeartbeats 1000000 in
theorem prefix_01 (w : World) (hL : Laid w) : Calls Tryz.prog 87 #[.string s01, .int .i64 64] w fun e w' => e = .returned (.tuple #[.float .f64 4591870180066957722, .int .i64 3, .nilIface]) ∧ Below w.heap.size w w' := by
  go_enter Tryz.func87, Tryz.ntmps87
  go_wp2_with fail
  refine (atof64_01 _ hL).mono ?_
  rintro e w1 ⟨rfl, hb1⟩
  go_wp2_with fail
  go_ret3
  exact ⟨rfl, hb1⟩
set_option maxHeartbeats 1000000 in
theorem iparse_01 (w : World) (hL : Laid w) : Calls Tryz.prog 60 #[.string s01, .int .i64 64] w fun e w' => e = .returned (.tuple #[.float .f64 4591870180066957722, .nilIface]) ∧ Below w.heap.size w w' := by
  go_enter Tryz.func60, Tryz.ntmps60
  go_wp2_with fail
  refine (prefix_01 _ hL).mono ?_
  rintro e w1 ⟨rfl, hb1⟩
  go_wp2_with fail
  go_ret2
  exact ⟨rfl, hb1⟩
set_option maxHeartbeats 1000000 in
theorem sparse_01 (w : World) (hL : Laid w) : Calls Tryz.prog 24 #[.string s01, .int .i64 64] w fun e w' => e = .returned (.tuple #[.float .f64 4591870180066957722, .nilIface]) ∧ Below w.heap.size w w' := by
  go_enter Tryz.func24, Tryz.ntmps24
  go_wp2_with fail
  refine (iparse_01 _ hL).mono ?_
  rintro e w1 ⟨rfl, hb1⟩
  go_wp2_with fail
  go_ret2
  exact ⟨rfl, hb1⟩
set_option maxHeartbeats 1000000 in
theorem parse_01 (w : World) (hL : Laid w) : Calls Tryz.prog 10 #[.string s01] w fun e w' => e = .returned (.tuple #[.float .f64 4591870180066957722, .int .i64 0]) ∧ Below w.heap.size w w' := by
  go_enter Tryz.func10, Tryz.ntmps10
  go_wp2_with fail
  refine (formed_01 _).mono ?_
  rintro e w1 ⟨rfl, hb1⟩
  have hL1 := hL.below hb1
  go_wp2_with fail
  refine (sparse_01 _ hL1).mono ?_
  rintro e w2 ⟨rfl, hb2⟩
  go_wp2_with fail
  go_ret2
  exact ⟨rfl, hb1.trans (hb2.mono hb1.size)⟩
end Go.Proofs.YtjpiplplohapnaaGreatDoor
