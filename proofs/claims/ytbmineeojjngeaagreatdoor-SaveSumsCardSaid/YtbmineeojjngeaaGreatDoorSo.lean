/- SaveSums: awake, and the law. -/
import Derived.Test.YtbmineeojjngeaaGreatDoorSn
namespace Go.Proofs.YtbmineeojjngeaaGreatDoor
open Go.RowKit
abbrev nine : ByteArray := ⟨#[49, 50, 51, 52, 53, 54, 55, 56, 57]⟩
theorem crc_nine : crc nine = 3421780262 := by decide +kernel
theorem sum_nine (w : World) : Calls Tryz.prog 4 #[.string nine] w fun e w' => e = .returned (.int .u32 3421780262) ∧ Below w.heap.size w w' := by
  have h := sum_walk nine (by decide) w
  rw [crc_nine] at h
  exact h
set_option maxRecDepth 100000 in
theorem awake_true (w : World) (hL : Laid w) : Calls Tryz.prog 6 #[] w fun e w' => e = .returned (.bool true) ∧ Below w.heap.size w w' := by
  have HL := Lib.hid hL
  clear hL
  go_enter Tryz.func6, Tryz.ntmps6
  go_wp2_with fail
  refine (new_walk _).mono ?_
  rintro e w1 ⟨b, rfl, _, hE1, hb1⟩
  have HB1 : Hid (Below w.heap.size w w1) := Lib.hid hb1
  have HE1 := Lib.hid hE1
  clear hb1 hE1
  go_wp2_with fail
  refine (save_walk b _ HE1.out (HL.out.below HB1.out)).mono ?_
  rintro e w2 ⟨rfl, hb2⟩
  have HB2 : Hid (Below w.heap.size w w2) := Lib.hid (HB1.out.trans (hb2.mono HB1.out.size))
  clear hb2 HB1 HE1
  go_wp2_with fail
  refine (load_walk _ (HL.out.below HB2.out)).mono ?_
  rintro e w3 ⟨c, rfl, hE3, hb3⟩
  have HB3 : Hid (Below w.heap.size w w3) := Lib.hid (HB2.out.trans (hb3.mono HB2.out.size))
  have HE3 := Lib.hid hE3
  clear hb3 HB2 hE3
  go_wp2_with fail
  refine (save_nil _).mono ?_
  rintro e w4 ⟨rfl, hw4⟩
  subst hw4
  go_wp2_with fail
  refine (sum_nine _).mono ?_
  rintro e w5 ⟨rfl, hb5⟩
  have HB5 : Hid (Below w.heap.size w w5) := Lib.hid (HB3.out.trans (hb5.mono HB3.out.size))
  have HE5 : Hid (EmptyBook w5 c) := Lib.hid (HE3.out.below hb5)
  clear hb5 HB3 HE3
  go_wp2_with fail
  refine (list_walk c _ HE5.out).mono ?_
  rintro e w6 ⟨rfl, hb6⟩
  have HB6 : Hid (Below w.heap.size w w6) := Lib.hid (HB5.out.trans (hb6.mono HB5.out.size))
  clear hb6 HB5 HE5
  go_wp2_with fail
  go_ret
  exact ⟨rfl, HB6.out⟩
set_option maxRecDepth 100000 in
theorem saveSums_walk (s : ByteArray) (hs : s.size < 4611686018427387904) (w : World) (hL : Laid w) : Calls Tryz.prog 3 #[.string s] w fun e w' => e = .returned (.bool true) ∧ Below w.heap.size w w' := by
  have HL := Lib.hid hL
  clear hL
  go_enter Tryz.func3, Tryz.ntmps3
  go_wp2_with fail
  refine (sum_walk s hs _).mono ?_
  rintro e w1 ⟨rfl, hb1⟩
  have HB1 : Hid (Below w.heap.size w w1) := Lib.hid hb1
  clear hb1
  go_wp2_with fail
  refine (refSum_walk s hs _).mono ?_
  rintro e w2 ⟨rfl, hw2⟩
  subst hw2
  go_wp2_with fail
  refine (awake_true _ (HL.out.below HB1.out)).mono ?_
  rintro e w3 ⟨rfl, hb3⟩
  have HB3 : Hid (Below w.heap.size w w3) := Lib.hid (HB1.out.trans (hb3.mono HB1.out.size))
  clear hb3 HB1
  go_wp2_with fail
  go_ret
  exact ⟨rfl, HB3.out⟩
end Go.Proofs.YtbmineeojjngeaaGreatDoor
