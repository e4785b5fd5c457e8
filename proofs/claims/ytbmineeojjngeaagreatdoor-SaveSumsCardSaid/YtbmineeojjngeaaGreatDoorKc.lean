/- SaveSums: the row holds. -/
import Derived.Test.YtbmineeojjngeaaGreatDoorKb
import Derived.Test.YtbmineeojjngeaaGreatDoorFi
namespace Go.Proofs.YtbmineeojjngeaaGreatDoor
open Go.ChangeShapes Go.WideShapes Go.ChangeAt Go.RowKit
theorem saveSums_holds : Rows.SaveSumsSaid :=
  OpenClaim.holds_of_wide 3 Tryz.f3 rfl rfl rfl rfl rfl rfl rfl ⟨rfl, rfl, rfl, rfl, rfl⟩ rfl rfl rfl rfl rfl (by kernel_rfl) Tryz.func3 joined_ok
    (of_decide_eq_true (by kernel_rfl)) (by unfold Func.isWrapper; first | (rw [if_pos (by decide +kernel)]; kernel_rfl) | (rw [if_neg (by decide +kernel)]; exact ⟨rfl, rfl⟩))
    (fun os started H enc _ => saveSums_lifted os started H enc)
#print axioms saveSums_holds
end Go.Proofs.YtbmineeojjngeaaGreatDoor
