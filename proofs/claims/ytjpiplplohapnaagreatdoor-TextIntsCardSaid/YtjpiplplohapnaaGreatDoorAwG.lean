/- Walks at the inputs of awake (7): text.Print at 0.375, two places. -/
import Derived.Test.YtjpiplplohapnaaGreatDoorAwF
import Derived.Laws.BytesString
namespace Go.Proofs.YtjpiplplohapnaaGreatDoor
open Go.RowKit Go.Sort Go.Proofs.YtjpiplplohapnaaGreatDoorW.PrintWords
set_option maxRecDepth 100000 in
set_option maxHeartbeats 1000000 in
theorem iformat_375 (w : World) (hL : Laid w) :
    Calls Tryz.prog 67 #[.float .f64 4600427019358961664, .int .u8 102, .int .i64 2, .int .i64 64] w fun e w' => e = .returned (.string ⟨#[48, 46, 51, 56]⟩) ∧ Below w.heap.size w w' := by
  have m1 : max (6 : Int) 24 = 24 := by decide
  have hmk : ∀ W, (Instr.makeSlice 94 (.int .i64 0) (.int .i64 24)).run Tryz.prog W = .ok (.slice (some ⟨W.heap.size, 0, none⟩) 0 24) (W.alloc (.cells (Array.replicate 24 (.int .u8 0)) 5)) := fun W => by kernel_rfl
  go_enter Tryz.func67, Tryz.ntmps67
  go_wp2_with fail
  have hs17 := hL.size
  refine (ftoa_375 _ (hL.below ((Below.refl _ _).alloc (Nat.le_refl _) _)) w.heap.size w.heap.size (Nat.le_refl _) 5 (.int .u8 0) (blk_new _ _) hs17 (by simp)).mono ?_
  rintro e w2 ⟨rfl, hb2, r0, r1, r2, r3⟩
  have hcv : (convert 94 9 (.slice (some ⟨w.heap.size, 0, none⟩) 4 24)).run Tryz.prog w2 = .ok (.string ⟨#[48, 46, 51, 56]⟩) w2 := by
    rw [run_convert_bytes_string w2 94 9 5 _ 4 24 Tryz.underlying94 Tryz.underlying5 Tryz.underlying9]
    rw [run_bytesToString w2 _ 4 24 [48, 46, 51, 56] (by simp [loadCells, r0, r1, r2, r3, go_sem])]
    rfl
  go_wp2_with fail
  go_ret
  exact ⟨rfl, ((Below.refl _ _).alloc (Nat.le_refl _) _).trans hb2⟩

set_option maxHeartbeats 1000000 in
theorem sformat_375 (w : World) (hL : Laid w) :
    Calls Tryz.prog 31 #[.float .f64 4600427019358961664, .int .u8 102, .int .i64 2, .int .i64 64] w fun e w' => e = .returned (.string ⟨#[48, 46, 51, 56]⟩) ∧ Below w.heap.size w w' := by
  go_enter Tryz.func31, Tryz.ntmps31
  go_wp2_with fail
  refine (iformat_375 _ hL).mono ?_
  rintro e w1 ⟨rfl, hb1⟩
  go_wp2_with fail
  go_ret
  exact ⟨rfl, hb1⟩

set_option maxRecDepth 100000 in
set_option maxHeartbeats 1000000 in
theorem print_375 (w : World) (hL : Laid w) :
    Calls Tryz.prog 14 #[.float .f64 4600427019358961664, .int .i64 2] w fun e w' => e = .returned (.tuple #[.string ⟨#[48, 46, 51, 56]⟩, .int .i64 0]) ∧ Below w.heap.size w w' := by
  go_enter Tryz.func14, Tryz.ntmps14
  go_wp2_with fail
  refine (number_375 _).mono ?_
  rintro e w1 ⟨rfl, rfl⟩
  go_wp2_with fail
  refine (sformat_375 _ hL).mono ?_
  rintro e w2 ⟨rfl, hb2⟩
  go_wp2_with fail
  go_ret2
  exact ⟨rfl, hb2⟩
end Go.Proofs.YtjpiplplohapnaaGreatDoor
