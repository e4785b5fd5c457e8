/- SaveSums: no goroutine is started. -/
import Derived.Test.YtbmineeojjngeaaGreatDoorProg
import GoSem.ClaimGoes
import Derived.KernelRfl
namespace Go.Proofs.YtbmineeojjngeaaGreatDoor
open Go
theorem goes_none : Tryz.prog.funcs.any Func.goes = false := by kernel_rfl
end Go.Proofs.YtbmineeojjngeaaGreatDoor
