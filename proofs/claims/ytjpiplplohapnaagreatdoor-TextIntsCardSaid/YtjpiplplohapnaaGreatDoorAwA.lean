/- Walks at the inputs of 'awake' (1): the text "0.1" is read. -/
import Derived.Test.YtjpiplplohapnaaGreatDoorPDig
import Derived.Test.YtjpiplplohapnaaGreatDoorShelf
import Derived.WalkLawsBesides
import Derived.WalkSpells
import Derived.WalkMore
import Derived.Outline
import Derived.Lib.Hide
import Derived.Test.YtjpiplplohapnaaGreatDoorHop
import Derived.Test.YtjpiplplohapnaaGreatDoorLaid
namespace Go.Proofs.YtjpiplplohapnaaGreatDoor
open Go.RowKit Go.Proofs.YtjpiplplohapnaaGreatDoorW.PrintWords
abbrev s01 : ByteArray := ⟨#[48, 46, 49]⟩
theorem d0 : PText.text_digits.f 9 s01 0 = some 1 := by decide +kernel
theorem d2 : PText.text_digits.f 9 s01 2 = some 3 := by decide +kernel

theorem b0 : s01[0] = 48 := by decide
theorem b1 : s01[1] = 46 := by decide
theorem b2 : s01[2] = 49 := by decide
set_option maxHeartbeats 400000 in
theorem formed_01 (w : World) : Calls Tryz.prog 23 #[.string s01] w fun e w' => e = .returned (.bool true) ∧ Below w.heap.size w w' := by
  have b1' : ((s01[1].toNat : Int) == 46) = true := by decide
  go_enter Tryz.func23, Tryz.ntmps23
  go_wp2_with fail
  refine wp_scope_hop 3 ?_
  go_wp2_with fail
  refine (PText.text_digits.calls 9 s01 0 1 _ d0).mono ?_
  rintro e w1 ⟨rfl, hd1⟩
  go_wp2_with fail
  go_step3
  refine Exit.hop_goto _ _ rfl ?_
  go_wp2_with fail
  refine (PText.text_digits.calls 9 s01 2 3 _ d2).mono ?_
  rintro e w2 ⟨rfl, hd2⟩
  go_wp2_with fail
  go_step3
  go_wp2_with fail
  rw [Exit.hop_ret]
  go_ret
  exact ⟨rfl, (hd1.below).trans (hd2.below.mono (hd1.below.size))⟩

theorem special_01 (w : World) : Calls Tryz.prog 141 #[.string s01] w fun e w' => e = .returned (.tuple #[.float .f64 0, .int .i64 0, .bool false]) ∧ Below w.heap.size w w' := by
  go_enter Tryz.func141, Tryz.ntmps141
  go_wp2_with fail
  go_ret3
  exact ⟨rfl, Below.refl _ _⟩
theorem lower46 (w : World) : Calls Tryz.prog 156 #[.int .u8 46] w fun e w' => e = .returned (.int .u8 46) ∧ w' = w := by
  have h : Go.bits .or .u8 46 32 = 46 := by decide +kernel
  have := Tryz.internal_strconv_lower 46 w
  rw [h] at this
  exact this
set_option maxRecDepth 100000 in
set_option maxHeartbeats 1000000 in
theorem readFloat_01 (w : World) : Calls Tryz.prog 142 #[.string s01] w fun e w' => e = .returned (.tuple #[.int .u64 1, .int .i64 (-1), .bool false, .bool false, .bool false, .int .i64 3, .bool true]) ∧ Below w.heap.size w w' := by
  have e0 : s01[0].toNat = 48 := by decide
  have e1 : s01[1].toNat = 46 := by decide
  have e2 : s01[2].toNat = 49 := by decide
  go_enter Tryz.func142, Tryz.ntmps142
  go_wp2_with fail
  go_step3
  go_wp2_with fail
  refine (lower46 _).mono ?_
  rintro e w1 ⟨rfl, rfl⟩
  go_wp2_with fail
  go_step3
  go_wp2_with fail
  refine wp_loop_rounds 4 ?_
  rw [rounds_succ]
  go_wp2_with fail
  rw [rounds_succ]
  go_wp2_with fail
  rw [rounds_succ]
  go_wp2_with fail
  rw [rounds_succ]
  go_wp2_with fail
  rw [Exit.noGoto_ret]
  exact bodyPost_ret (v := .tuple #[.int .u64 1, .int .i64 (-1), .bool false, .bool false, .bool false, .int .i64 3, .bool true]) (by simp [results, Tryz.results142, go_sem]) rfl ⟨rfl, Below.refl _ _⟩

end Go.Proofs.YtjpiplplohapnaaGreatDoor
