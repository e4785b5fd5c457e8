/- SaveSums: strings.Cut at the first line; a desk's book and its copy. -/
import Derived.Test.YtbmineeojjngeaaGreatDoorSj
namespace Go.Proofs.YtbmineeojjngeaaGreatDoor
open Go.RowKit
abbrev ten1 : ByteArray := ⟨#[116, 101, 110, 111, 114, 32, 49]⟩
theorem index_nl (w : World) : Calls Tryz.prog 65 #[.string line1, .string ⟨#[10]⟩] w fun e w' => e = .returned (.int .i64 7) ∧ w = w' := by
  have h := Tryz.stringslite_Index_one line1 10 w
  have e7 : Lib.indexByte line1.data.toList 10 = 7 := by decide
  rw [e7] at h
  exact h.mono fun e w' ⟨h1, h2⟩ => ⟨h1, h2.symm⟩
theorem scut_walk (w : World) : Calls Tryz.prog 41 #[.string line1, .string ⟨#[10]⟩] w fun e w' => e = .returned (.tuple #[.string ten1, .string ⟨#[]⟩, .bool true]) ∧ Below w.heap.size w w' := by
  have x1 : line1.extract 0 7 = ten1 := by decide
  have x2 : line1.extract 8 8 = ⟨#[]⟩ := by decide
  go_enter Tryz.func41, Tryz.ntmps41
  go_wp2_with fail
  refine (index_nl _).mono ?_
  rintro e w1 ⟨rfl, hw1⟩
  subst hw1
  go_wp2_with fail
  go_quiet (fail)
  go_wp2_with fail
  go_ret3
  exact ⟨rfl, below_drewN (Below.refl _ _) _⟩
theorem cutnl_walk (w : World) : Calls Tryz.prog 22 #[.string line1, .string ⟨#[10]⟩] w fun e w' => e = .returned (.tuple #[.string ten1, .string ⟨#[]⟩, .bool true]) ∧ Below w.heap.size w w' := by
  go_enter Tryz.func22, Tryz.ntmps22
  go_wp2_with fail
  refine (scut_walk _).mono ?_
  rintro e w1 ⟨rfl, hb1⟩
  go_wp2_with fail
  go_ret3
  exact ⟨rfl, hb1⟩
/-- block d is a desk whose book is empty -/
def EmptyDesk (w : World) (d : Nat) : Prop := ∃ b, w.heap[d]? = some (.cells #[.pointer (some ⟨b, 0, none⟩)] 87 (0, 0)) ∧ EmptyBook w b
theorem EmptyDesk.below {w w1 : World} {b : Nat} (h : EmptyDesk w b) (hb : Below w.heap.size w w1) : EmptyDesk w1 b := by
  obtain ⟨m, h1, h2⟩ := h
  exact ⟨m, blk_below h1 hb, h2.below hb⟩
theorem desk_walk (w : World) : Calls Tryz.prog 21 #[] w fun e w' => ∃ d, e = .returned (.pointer (some ⟨d, 0, none⟩)) ∧ EmptyDesk w' d ∧ Below w.heap.size w w' := by
  go_enter Tryz.func21, Tryz.ntmps21
  go_wp2_with fail
  refine (new_walk _).mono ?_
  rintro e w1 ⟨b, rfl, _, hE, hb1⟩
  have HE := Lib.hid hE
  have HB := Lib.hid hb1
  clear hE hb1
  go_wp2_with fail
  go_ret
  refine ⟨w1.heap.size, rfl, ⟨b, blk_new _ _, HE.out.alloc _⟩, HB.out.alloc HB.out.size _⟩
end Go.Proofs.YtbmineeojjngeaaGreatDoor
