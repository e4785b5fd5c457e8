/- SaveSums: what the row says of the functions that the law comes to. -/
import Derived.Test.YtbmineeojjngeaaGreatDoorFc
import Derived.Test.YtbmineeojjngeaaGreatDoorGo
namespace Go.Proofs.YtbmineeojjngeaaGreatDoor
open Go
theorem inPlace_ok : Rows.saveSumsRow.inPlace = Tryz.prog.inPlace 3 := by
  unfold Program.inPlace
  rw [closure_eq]
  kernel_rfl
theorem unfollowed_ok : Rows.saveSumsRow.unfollowed = Tryz.prog.unfollowed 3 := by
  unfold Program.unfollowed
  rw [closure_eq]
  kernel_rfl
theorem recurses_ok : Rows.saveSumsRow.recurses = Tryz.prog.recurses 3 := by
  unfold Program.recurses
  rw [← unfollowed_ok]
  rfl
theorem named_ok : Rows.saveSumsRow.named = Tryz.prog.varsNamed 3 := by
  unfold Program.varsNamed
  rw [closure_eq]
  kernel_rfl
theorem any_none {P : Program} (h : P.funcs.any Func.goes = false) (l : List FuncId) : (l.any fun g => (P.funcs[g]?).any Func.goes) = false := by
  rw [List.any_eq_false]
  intro g _
  cases e : P.funcs[g]? with
  | none => simp
  | some fn =>
    have h1 := Array.any_eq_false.1 h
    obtain ⟨i, hi⟩ := Array.getElem?_eq_some_iff.1 e
    have h2 := h1 g i
    rw [hi] at h2
    simpa using h2
theorem goes_ok : false = Rows.saveSumsRow.goesBy Tryz.prog := by
  have hf : Tryz.prog.funcNamed Rows.saveSumsRow.func = some 3 := by kernel_rfl
  have hs : Rows.saveSumsRow.start = .entering := rfl
  unfold OpenClaim.goesBy Program.goesAt Program.goesFrom
  rw [hf, hs]
  unfold Program.goes
  rw [Option.any_some, any_none goes_none, goes_none, Bool.and_false]
  rfl
end Go.Proofs.YtbmineeojjngeaaGreatDoor
