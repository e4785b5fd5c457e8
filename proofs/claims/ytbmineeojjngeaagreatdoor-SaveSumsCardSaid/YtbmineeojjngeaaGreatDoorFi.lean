/- SaveSums: all facts of the row on the translation. -/
import Derived.Test.YtbmineeojjngeaaGreatDoorFd
import Derived.Test.YtbmineeojjngeaaGreatDoorFe
import Derived.Test.YtbmineeojjngeaaGreatDoorFf
import Derived.Test.YtbmineeojjngeaaGreatDoorFg
import Derived.Test.YtbmineeojjngeaaGreatDoorFh
namespace Go.Proofs.YtbmineeojjngeaaGreatDoor
open Go
theorem fact9 : ((Rows.saveSumsRow.inPlace == Tryz.prog.inPlace 3)) = true := beq_iff_eq.2 inPlace_ok
theorem fact10 : ((Rows.saveSumsRow.unfollowed == Tryz.prog.unfollowed 3)) = true := beq_iff_eq.2 unfollowed_ok
theorem fact11 : ((Rows.saveSumsRow.recurses == Tryz.prog.recurses 3)) = true := beq_iff_eq.2 recurses_ok
theorem fact12 : ((Rows.saveSumsRow.named == Tryz.prog.varsNamed 3)) = true := beq_iff_eq.2 named_ok
set_option maxRecDepth 100000 in
theorem joined_ok : joinedFacts Tryz.prog 3 Tryz.f3 Rows.saveSumsSpec Rows.saveSumsRow = true := by
  unfold joinedFacts
  refine Bool.and_eq_true_iff.2 ⟨?_, fact31⟩
  refine Bool.and_eq_true_iff.2 ⟨?_, fact30⟩
  refine Bool.and_eq_true_iff.2 ⟨?_, fact29⟩
  refine Bool.and_eq_true_iff.2 ⟨?_, fact28⟩
  refine Bool.and_eq_true_iff.2 ⟨?_, fact27⟩
  refine Bool.and_eq_true_iff.2 ⟨?_, fact26⟩
  refine Bool.and_eq_true_iff.2 ⟨?_, fact25⟩
  refine Bool.and_eq_true_iff.2 ⟨?_, fact24⟩
  refine Bool.and_eq_true_iff.2 ⟨?_, fact23⟩
  refine Bool.and_eq_true_iff.2 ⟨?_, fact22⟩
  refine Bool.and_eq_true_iff.2 ⟨?_, fact21⟩
  refine Bool.and_eq_true_iff.2 ⟨?_, fact20⟩
  refine Bool.and_eq_true_iff.2 ⟨?_, fact19⟩
  refine Bool.and_eq_true_iff.2 ⟨?_, fact18⟩
  refine Bool.and_eq_true_iff.2 ⟨?_, fact17⟩
  refine Bool.and_eq_true_iff.2 ⟨?_, fact16⟩
  refine Bool.and_eq_true_iff.2 ⟨?_, fact15⟩
  refine Bool.and_eq_true_iff.2 ⟨?_, fact14⟩
  refine Bool.and_eq_true_iff.2 ⟨?_, fact13⟩
  refine Bool.and_eq_true_iff.2 ⟨?_, fact12⟩
  refine Bool.and_eq_true_iff.2 ⟨?_, fact11⟩
  refine Bool.and_eq_true_iff.2 ⟨?_, fact10⟩
  refine Bool.and_eq_true_iff.2 ⟨?_, fact9⟩
  refine Bool.and_eq_true_iff.2 ⟨?_, fact8⟩
  refine Bool.and_eq_true_iff.2 ⟨?_, fact7⟩
  refine Bool.and_eq_true_iff.2 ⟨?_, fact6⟩
  refine Bool.and_eq_true_iff.2 ⟨?_, fact5⟩
  refine Bool.and_eq_true_iff.2 ⟨?_, fact4⟩
  refine Bool.and_eq_true_iff.2 ⟨?_, fact3⟩
  refine Bool.and_eq_true_iff.2 ⟨?_, fact2⟩
  refine Bool.and_eq_true_iff.2 ⟨?_, fact1⟩
  exact fact0
end Go.Proofs.YtbmineeojjngeaaGreatDoor
