/- SaveSums: the eight digits of the sum of the empty book's line. -/
import Derived.Test.YtbmineeojjngeaaGreatDoorSh
namespace Go.Proofs.YtbmineeojjngeaaGreatDoor
open Go.RowKit
set_option maxHeartbeats 1000000 in
theorem formatUint16 (u : Nat) (hu : u < 18446744073709551616) (w : World) (hL : Laid w) : Calls Tryz.prog 60 #[.int .u64 u, .int .i64 16] w fun e w' => e = .returned (.string ⟨(hexL u).toArray⟩) ∧ Below w.heap.size w w' := by
  go_enter Tryz.func60, Tryz.ntmps60
  go_wp2_with fail
  refine (formatBits16 u hu _ hL).mono ?_
  rintro e w1 ⟨rfl, hb1⟩
  go_wp2_with fail
  go_ret
  exact ⟨rfl, hb1⟩
set_option maxHeartbeats 1000000 in
theorem sformatUint16 (u : Nat) (hu : u < 18446744073709551616) (w : World) (hL : Laid w) : Calls Tryz.prog 39 #[.int .u64 u, .int .i64 16] w fun e w' => e = .returned (.string ⟨(hexL u).toArray⟩) ∧ Below w.heap.size w w' := by
  go_enter Tryz.func39, Tryz.ntmps39
  go_wp2_with fail
  refine (formatUint16 u hu _ hL).mono ?_
  rintro e w1 ⟨rfl, hb1⟩
  go_wp2_with fail
  go_ret
  exact ⟨rfl, hb1⟩
/-- the digits -/
abbrev dg : ByteArray := ⟨#[54, 50, 100, 57, 54, 100, 97, 99]⟩
theorem hexL_dg : hexL 1658416556 = [54, 50, 100, 57, 54, 100, 97, 99] := by
  rw [hexL_step (by omega), hexL_step (by omega), hexL_step (by omega), hexL_step (by omega), hexL_step (by omega), hexL_step (by omega), hexL_step (by omega), hexL_small (by omega)]
  decide
theorem sfor (w : World) (hL : Laid w) : Calls Tryz.prog 39 #[.int .u64 1658416556, .int .i64 16] w fun e w' => e = .returned (.string dg) ∧ Below w.heap.size w w' := by
  have h := sformatUint16 1658416556 (by omega) w hL
  rw [hexL_dg] at h
  exact h
theorem rep0 (w : World) : Calls Tryz.prog 40 #[.string ⟨#[48]⟩, .int .i64 0] w fun e w' => e = .returned (.string ⟨#[]⟩) ∧ w = w' :=
  (Tryz.strings_Repeat_zero _ w).mono fun e w' ⟨h1, h2⟩ => ⟨h1, h2.symm⟩
set_option maxHeartbeats 1000000 in
theorem eight_walk (w : World) (hL : Laid w) : Calls Tryz.prog 19 #[.int .u32 1658416556] w fun e w' => e = .returned (.string dg) ∧ Below w.heap.size w w' := by
  go_enter Tryz.func19, Tryz.ntmps19
  go_wp2_with fail
  refine (sfor _ hL).mono ?_
  rintro e w1 ⟨rfl, hb1⟩
  go_wp2_with fail
  refine (rep0 _).mono ?_
  rintro e w2 ⟨rfl, hw2⟩
  subst hw2
  go_wp2_with fail
  go_ret
  exact ⟨rfl, hb1⟩
end Go.Proofs.YtbmineeojjngeaaGreatDoor
