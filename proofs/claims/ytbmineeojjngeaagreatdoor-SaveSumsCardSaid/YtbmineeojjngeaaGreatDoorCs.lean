/- SaveSums: save.Sum is the sum that the document tells, of every text; and the empty book is saved and loaded as the document says. Conditions: those of the given card alone; of the package variable tenor/deal.words, which the card leaves open, nothing is assumed. -/
import Derived.Test.YtbmineeojjngeaaGreatDoorKc
import Derived.Test.YtbmineeojjngeaaGreatDoorCards
import Derived.Test.YtbmineeojjngeaaGreatDoorTie
import Derived.SevenTiedAt
namespace Go.Proofs.YtbmineeojjngeaaGreatDoor
open Go
theorem saveSums_card : Rows.SaveSumsCardSaid :=
  Claim7.holds_tied_plain_at .later [] [.data, .data, .widerDeep, .widerDeep, .data, .data, .data, .data, .data, .data, .sentinel, .sentinel, .widerDeep, .pinned, .pinned, .pinned] true (true, "94fbb5ff83ba07f87aa86ef0ee6190c86e4a6bc9bd837264dc336aa6acf47603") true
    saveSums_holds (fun _ h => by cases h) (by kernel_rfl) (fun _ h => by cases h) saveSums_row_tie rfl ⟨rfl, rfl⟩ (by kernel_rfl) rfl
    (fun f fn hf hfn => by
      obtain rfl : f = 3 := Option.some.inj ((show Tryz.prog.funcNamed "tenor/tenorlaw26.SaveSums" = some 3 by kernel_rfl).symm.trans hf) |>.symm
      obtain rfl : fn = Tryz.f3 := (Option.some.inj (Tryz.func3.symm.trans hfn)).symm
      exact ⟨by kernel_rfl, fun j t ht => by
        rw [Tryz.params3] at ht
        have hm : t ∈ [9] := by simpa using Array.mem_of_getElem? ht
        have hall : ([9].all fun u => !Tryz.prog.wantsStandIn u) = true := by kernel_rfl
        exact (show Tryz.prog.wantsStandIn t = false by simpa using List.all_eq_true.1 hall t hm)⟩)
    goes_ok
#print axioms saveSums_card
end Go.Proofs.YtbmineeojjngeaaGreatDoor
