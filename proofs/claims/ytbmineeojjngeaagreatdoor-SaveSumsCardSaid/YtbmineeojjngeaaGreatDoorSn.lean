/- SaveSums: the empty book's text is loaded. -/
import Derived.Test.YtbmineeojjngeaaGreatDoorSk
import Derived.Test.YtbmineeojjngeaaGreatDoorSm
namespace Go.Proofs.YtbmineeojjngeaaGreatDoor
open Go.RowKit
set_option maxRecDepth 100000 in
theorem book_walk (d : Nat) (w : World) (hE : EmptyDesk w d) : Calls Tryz.prog 25 #[.pointer (some ⟨d, 0, none⟩)] w fun e w' => ∃ c, e = .returned (.pointer (some ⟨c, 0, none⟩)) ∧ EmptyBook w' c ∧ Below w.heap.size w w' := by
  obtain ⟨b, e1, e2⟩ := hE
  have c0 : w.cell? ⟨d, 0, none⟩ = some (.pointer (some ⟨b, 0, none⟩)) := (blk_cell e1 0).trans rfl
  have HE := Lib.hid e2
  clear e1 e2
  go_enter Tryz.func25, Tryz.ntmps25
  go_wp2_with fail
  refine (copy_walk b _ HE.out).mono ?_
  rintro e w1 ⟨c, rfl, hE1, hb1⟩
  have HE1 := Lib.hid hE1
  have HB1 := Lib.hid hb1
  clear hE1 hb1
  go_wp2_with fail
  go_ret
  exact ⟨c, rfl, HE1.out, HB1.out⟩
set_option maxRecDepth 100000 in
theorem load_walk (w : World) (hL : Laid w) : Calls Tryz.prog 10 #[.string out] w fun e w' => ∃ c, e = .returned (.tuple #[.pointer (some ⟨c, 0, none⟩), .int .i64 0, .int .i64 0]) ∧ EmptyBook w' c ∧ Below w.heap.size w w' := by
  have HL := Lib.hid hL
  clear hL
  go_enter Tryz.func10, Tryz.ntmps10
  go_wp2_with fail
  refine (cut_walk _).mono ?_
  rintro e w1 ⟨rfl, hb1⟩
  have HB1 : Hid (Below w.heap.size w w1) := Lib.hid hb1
  clear hb1
  go_wp2_with fail
  refine (sum_line1 _).mono ?_
  rintro e w2 ⟨rfl, hb2⟩
  have HB2 : Hid (Below w.heap.size w w2) := Lib.hid (HB1.out.trans (hb2.mono HB1.out.size))
  clear hb2 HB1
  go_wp2_with fail
  refine (eight_walk _ (HL.out.below HB2.out)).mono ?_
  rintro e w3 ⟨rfl, hb3⟩
  have HB3 : Hid (Below w.heap.size w w3) := Lib.hid (HB2.out.trans (hb3.mono HB2.out.size))
  clear hb3 HB2
  go_wp2_with fail
  refine (desk_walk _).mono ?_
  rintro e w4 ⟨d, rfl, hD4, hb4⟩
  have HB4 : Hid (Below w.heap.size w w4) := Lib.hid (HB3.out.trans (hb4.mono HB3.out.size))
  have HD4 := Lib.hid hD4
  clear hb4 HB3 hD4
  go_wp2_with fail
  refine (cutnl_walk _).mono ?_
  rintro e w5 ⟨rfl, hb5⟩
  have HB5 : Hid (Below w.heap.size w w5) := Lib.hid (HB4.out.trans (hb5.mono HB4.out.size))
  have HD5 : Hid (EmptyDesk w5 d) := Lib.hid (HD4.out.below hb5)
  clear hb5 HB4 HD4
  go_wp2_with fail
  refine wp_loop_rounds 1 ?_
  rw [rounds_succ]
  go_wp2_with fail
  refine (book_walk d _ HD5.out).mono ?_
  rintro e w6 ⟨b, rfl, hE6, hb6⟩
  have HB6 : Hid (Below w.heap.size w w6) := Lib.hid (HB5.out.trans (hb6.mono HB5.out.size))
  have HE6 := Lib.hid hE6
  clear hb6 HB5 HD5 hE6
  go_wp2_with fail
  refine (save_walk b _ HE6.out (HL.out.below HB6.out)).mono ?_
  rintro e w7 ⟨rfl, hb7⟩
  have HB7 : Hid (Below w.heap.size w w7) := Lib.hid (HB6.out.trans (hb7.mono HB6.out.size))
  have HE7 : Hid (EmptyBook w7 b) := Lib.hid (HE6.out.below hb7)
  clear hb7 HB6 HE6
  go_wp2_with fail
  go_ret3
  exact ⟨b, rfl, HE7.out, HB7.out⟩
end Go.Proofs.YtbmineeojjngeaaGreatDoor
