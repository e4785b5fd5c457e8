/- awake of the package of laws on text: true; and the walk of TextInts. -/
import Derived.Test.YtjpiplplohapnaaGreatDoorTInt
import Derived.Test.YtjpiplplohapnaaGreatDoorLInt
namespace Go.Proofs.YtjpiplplohapnaaGreatDoor
open Go.RowKit Go.Sort Go.Proofs.YtjpiplplohapnaaGreatDoorW.PrintWords
theorem int_neg7 (w : World) (hL : Laid w) : Calls Tryz.prog 17 #[.string ⟨#[45, 55]⟩] w fun e w' => e = .returned (.tuple #[.int .i64 (-7), .bool true]) ∧ Below w.heap.size w w' := by
  have h := int_walk ⟨#[45, 55]⟩ (by decide) w hL
  have e0 : Num.progInt (⟨#[45, 55]⟩ : ByteArray).data.toList = (-7, true) := by
    rw [Num.progInt_eq]
    rfl
  rw [e0] at h
  exact h
set_option maxRecDepth 100000 in
set_option maxHeartbeats 1000000 in
theorem awake_true (w : World) (hL : Laid w) : Calls Tryz.prog 13 #[] w fun e w' => e = .returned (.bool true) ∧ Below w.heap.size w w' := by
  go_enter Tryz.func13, Tryz.ntmps13
  go_wp2_with fail
  refine (parse_01 _ hL).mono ?_
  rintro e w1 ⟨rfl, hb1⟩
  have hL1 := hL.below hb1
  go_wp2_with fail
  refine (print_375 _ hL1).mono ?_
  rintro e w2 ⟨rfl, hb2⟩
  have hL2 := hL1.below hb2
  have hb02 := hb1.trans (hb2.mono hb1.size)
  clear hL1 hb1 hb2
  go_wp2_with fail
  refine (hex_15 _ hL2).mono ?_
  rintro e w3 ⟨rfl, hb3⟩
  have hL3 := hL2.below hb3
  have hb03 := hb02.trans (hb3.mono hb02.size)
  clear hL2 hb02 hb3
  go_wp2_with fail
  refine (int_neg7 _ hL3).mono ?_
  rintro e w4 ⟨rfl, hb4⟩
  have hb04 := hb03.trans (hb4.mono hb03.size)
  clear hL3 hb03 hb4
  go_wp2_with fail
  go_ret
  exact ⟨rfl, hb04⟩
theorem refInt_walk (s : ByteArray) (w : World) : Calls Tryz.prog 18 #[.string s] w fun e w' => e = .returned (.tuple #[.int .i64 (Num.progInt s.data.toList).1, .bool (Num.progInt s.data.toList).2]) ∧ Below w.heap.size w w' := by
  obtain ⟨k, hk⟩ := (Big.refInt_ev s).rounds
  rw [← Num.progInt_eq] at hk
  exact PText.tenorref2_Int.calls k s _ _ w hk
set_option maxRecDepth 100000 in
theorem textInts_walk (s : ByteArray) (hlim : s.size ≤ 281474976710656) (w : World) (hL : Laid w) : Calls Tryz.prog 5 #[.string s] w fun e w' => e = .returned (.bool true) ∧ Below w.heap.size w w' := by
  have H1 := int_walk s hlim
  have H2 := refInt_walk s
  generalize Num.progInt s.data.toList = r at H1 H2
  obtain ⟨n, ok⟩ := r
  go_enter Tryz.func5, Tryz.ntmps5
  go_wp2_with fail
  refine (H1 _ hL).mono ?_
  rintro e w1 ⟨rfl, hb1⟩
  have hL1 := hL.below hb1
  go_wp2_with fail
  refine (H2 _).mono ?_
  rintro e w2 ⟨rfl, hb2⟩
  have hL2 := hL1.below hb2
  have hb02 := hb1.trans (hb2.mono hb1.size)
  clear hL1 hb1 hb2
  cases ok
  · go_wp2_with fail
    refine (awake_true _ hL2).mono ?_
    rintro e w3 ⟨rfl, hb3⟩
    have hb03 := hb02.trans (hb3.mono hb02.size)
    go_wp2_with fail
    go_ret
    exact ⟨rfl, hb03⟩
  · go_wp2_with fail
    refine (awake_true _ hL2).mono ?_
    rintro e w3 ⟨rfl, hb3⟩
    have hb03 := hb02.trans (hb3.mono hb02.size)
    go_wp2_with fail
    go_ret
    exact ⟨rfl, hb03⟩
end Go.Proofs.YtjpiplplohapnaaGreatDoor
