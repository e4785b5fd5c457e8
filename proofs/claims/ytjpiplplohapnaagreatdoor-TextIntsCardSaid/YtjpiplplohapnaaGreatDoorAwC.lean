/- Walks at the inputs of 'awake' (3): bits, classes, small helpers. -/
import Derived.Test.YtjpiplplohapnaaGreatDoorAwB
import Derived.Laws.FloatArith
namespace Go.Proofs.YtjpiplplohapnaaGreatDoor
open Go.RowKit Go.Proofs.YtjpiplplohapnaaGreatDoorW.PrintWords
theorem bits43 (b : Nat) (W : World) : (callFunc 43 #[.float .f64 b]).run Tryz.prog W = .ok (.value (.int .u64 b)) W := by kernel_rfl
theorem bits119 (b : Nat) (W : World) : (callFunc 119 #[.float .f64 b]).run Tryz.prog W = .ok (.value (.int .u64 b)) W := by kernel_rfl
theorem from151 (b : Nat) (W : World) : (callFunc 151 #[.int .u64 b]).run Tryz.prog W = .ok (.value (.float .f64 b)) W := by kernel_rfl
theorem apiBits (b : Nat) (w : World) : Calls Tryz.prog 16 #[.float .f64 b] w fun e w' => e = .returned (.int .u64 b) ∧ w' = w := by
  have h := bits43 b
  go_enter Tryz.func16, Tryz.ntmps16
  go_wp2_with fail
  go_ret
  exact ⟨rfl, rfl⟩
theorem size_calls (b : Nat) (r : Int) (hr : Go.bits .andNot .u64 (b : Int) 9223372036854775808 = r) (w : World) : Calls Tryz.prog 73 #[.float .f64 b] w fun e w' => e = .returned (.int .u64 r) ∧ w' = w := by
  go_enter Tryz.func73, Tryz.ntmps73
  go_wp2_with fail
  refine (apiBits b _).mono ?_
  rintro e w' ⟨rfl, rfl⟩
  go_wp2_with fail
  go_ret
  exact ⟨rfl, rfl⟩
set_option maxRecDepth 100000 in
theorem class_375 (w : World) : Calls Tryz.prog 66 #[.float .f64 4600427019358961664] w fun e w' => e = .returned (.int .i64 3) ∧ w' = w := by
  go_enter Tryz.func66, Tryz.ntmps66
  go_wp2_with fail
  refine (size_calls 4600427019358961664 4600427019358961664 (by decide +kernel) _).mono ?_
  rintro e w' ⟨rfl, rfl⟩
  go_wp2_with fail
  go_ret
  exact ⟨rfl, rfl⟩
theorem class_15 (w : World) : Calls Tryz.prog 66 #[.float .f64 4609434218613702656] w fun e w' => e = .returned (.int .i64 3) ∧ w' = w := by
  go_enter Tryz.func66, Tryz.ntmps66
  go_wp2_with fail
  refine (size_calls 4609434218613702656 4609434218613702656 (by decide +kernel) _).mono ?_
  rintro e w' ⟨rfl, rfl⟩
  go_wp2_with fail
  go_ret
  exact ⟨rfl, rfl⟩
theorem number_375 (w : World) : Calls Tryz.prog 30 #[.float .f64 4600427019358961664] w fun e w' => e = .returned (.bool true) ∧ w' = w := by
  go_enter Tryz.func30, Tryz.ntmps30
  go_wp2_with fail
  refine (class_375 _).mono ?_
  rintro e w' ⟨rfl, rfl⟩
  go_wp2_with fail
  go_ret
  exact ⟨rfl, rfl⟩
theorem log10_calls (x r : Int) (h : PText.strconv_log10Pow2.f x = some r) (w : World) : Calls Tryz.prog 126 #[.int .i64 x] w fun e w' => e = .returned (.int .i64 r) ∧ Below w.heap.size w w' :=
  (PText.strconv_log10Pow2.calls x r w h).mono fun _ _ ⟨h1, h2⟩ => ⟨h1, h2.below⟩
theorem log2_calls (x r : Int) (h : PText.strconv_log2Pow10.f x = some r) (w : World) : Calls Tryz.prog 159 #[.int .i64 x] w fun e w' => e = .returned (.int .i64 r) ∧ Below w.heap.size w w' :=
  (PText.strconv_log2Pow10.calls x r w h).mono fun _ _ ⟨h1, h2⟩ => ⟨h1, h2.below⟩
theorem p10_351 {w : World} (h : Laid w) : w.cell? ⟨11, 702, none⟩ = some (.int .u64 18014398509481984000) ∧ w.cell? ⟨11, 703, none⟩ = some (.int .u64 0) := by
  constructor
  · rw [h.p10Cell]; kernel_rfl
  · rw [h.p10Cell]; kernel_rfl
end Go.Proofs.YtjpiplplohapnaaGreatDoor
