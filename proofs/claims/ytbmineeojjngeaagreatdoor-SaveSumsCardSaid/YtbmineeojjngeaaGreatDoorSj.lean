/- SaveSums: an empty book is saved. -/
import Derived.Test.YtbmineeojjngeaaGreatDoorSi
namespace Go.Proofs.YtbmineeojjngeaaGreatDoor
open Go.RowKit
theorem builderAt_below {T e : TypeId} {B b : Nat} {p : Value} {bs : List Value} {w w' : World} (h : Lib.BuilderAt T e B b p bs w) (hb : Below w.heap.size w w') : Lib.BuilderAt T e B b p bs w' := by
  obtain ⟨hB, v, hbk, hown, hne⟩ := h
  refine ⟨hB, v, blk_below hbk hb, ⟨hown.1, ?_⟩, hne⟩
  rcases hown.2 with hn | ⟨g, cap, cur, rfl, hg, hgg, rest⟩
  · exact .inl hn
  · exact .inr ⟨g, cap, cur, rfl, hg, blk_below hgg hb, rest⟩
theorem isBuilder_below {T e : TypeId} {B b : Nat} {bs : List Value} {w w' : World} (h : Lib.IsBuilder T e B b bs w) (hb : Below w.heap.size w w') : Lib.IsBuilder T e B b bs w' :=
  h.imp (fun x => builderAt_below x hb) (fun x => builderAt_below x hb)
/-- the first line of a saved book -/
abbrev line1 : ByteArray := ⟨#[116, 101, 110, 111, 114, 32, 49, 10]⟩
/-- the whole text of the empty book -/
abbrev out : ByteArray := ⟨#[116, 101, 110, 111, 114, 32, 49, 10, 115, 117, 109, 32, 54, 50, 100, 57, 54, 100, 97, 99, 10]⟩
theorem crc_line1 : crc line1 = 1658416556 := by decide +kernel
theorem sum_line1 (w : World) : Calls Tryz.prog 4 #[.string line1] w fun e w' => e = .returned (.int .u32 1658416556) ∧ Below w.heap.size w w' := by
  have h := sum_walk line1 (by decide) w
  rw [crc_line1] at h
  exact h
theorem write_line1 (b : Nat) (w : World) (h : b < w.heap.size) (hb : w.heap[b]? = some (.cells #[.pointer none, .slice none 0 0] 48 (0, 0))) :
    Calls Tryz.prog 12 #[.pointer (some ⟨b, 0, none⟩), .string line1] w fun e w' => e = .returned (.tuple #[.int .i64 8, .nilIface]) ∧ Lib.IsBuilder 48 5 b b (Lib.byteCells line1.data.toList) w' ∧ Below b w w' :=
  (write_fresh b b line1 w (Nat.le_refl _) hb (by decide) (by omega)).mono fun e w' ⟨h1, h2, h3⟩ => ⟨h1, h2, h3⟩
theorem save_nil (w : World) : Calls Tryz.prog 9 #[.pointer none] w fun e w' => e = .returned (.tuple #[.string ⟨#[]⟩, .int .i64 1]) ∧ w = w' := by
  go_enter Tryz.func9, Tryz.ntmps9
  go_wp2_with fail
  go_ret2
  exact ⟨rfl, rfl⟩
set_option maxRecDepth 100000 in
theorem save_walk (b : Nat) (w : World) (hE : EmptyBook w b) (hL : Laid w) : Calls Tryz.prog 9 #[.pointer (some ⟨b, 0, none⟩)] w fun e w' => e = .returned (.tuple #[.string out, .int .i64 0]) ∧ Below w.heap.size w w' := by
  have HE := Lib.hid hE
  have HL := Lib.hid hL
  clear hE hL
  go_enter Tryz.func9, Tryz.ntmps9
  have hbw : b < w.heap.size := by obtain ⟨m, h, _⟩ := HE.out; exact blk_lt h
  go_wp2_with fail
  refine (write_line1 w.heap.size _ (by simp) (blk_new _ _)).mono ?_
  rintro e w1 ⟨rfl, hB1, hb1⟩
  have HB1 := Lib.hid hB1
  have hb01 : Below w.heap.size w w1 := ((Below.refl _ _).alloc (Nat.le_refl _) _).trans hb1
  have hsz : w.heap.size < w1.heap.size := by have := hb1.size; simp at this; omega
  have HE1 : Hid (EmptyBook w1 b) := Lib.hid (HE.out.below hb01)
  have HL1 : Hid (Laid w1) := Lib.hid (HL.out.below hb01)
  have HB01 := Lib.hid hb01
  clear hB1 hb1 hb01 HE
  go_wp2_with fail
  go_loopg [5] 8 (fun gn v23 w' => ∃ k : Nat, v23 = .int .i64 k ∧ Hid (gn + k = 9 ∧ 1 ≤ k ∧ Below w1.heap.size w1 w'))
  case atStart => exact ⟨1, rfl, Lib.hid ⟨by omega, by omega, Below.refl _ _⟩⟩
  case round =>
    obtain ⟨k, rfl, hH⟩ := hrel
    by_cases hk : k < 9
    · have g1 : (k : Int) ≤ 8 := by omega
      have hk1 : 1 ≤ k := hH.out.2.1
      have hk8 : k ≤ 8 := by omega
      go_wp2_with fail
      refine (get_walk b k hk1 hk8 _ (HE1.out.below hH.out.2.2)).mono ?_
      rintro e w2 ⟨rfl, hb2⟩
      have HB2 : Hid (Below w1.heap.size w1 w2) := Lib.hid (hH.out.2.2.trans (hb2.mono hH.out.2.2.size))
      clear hb2
      have HN : Hid (gk - 1 < gk ∧ gk - 1 + (k + 1) = 9) := Lib.hid ⟨by have := hH.out.1; omega, by have := hH.out.1; omega⟩
      clear hH
      go_wp2_with fail
      go_roundg (gk - 1)
      case measure => exact HN.out.1
      case rel => exact ⟨k + 1, by first | rfl | go_num, Lib.hid ⟨HN.out.2, by omega, HB2.out.alloc HB2.out.size _⟩⟩
    · have g1 : ¬ (k : Int) ≤ 8 := by omega
      have g1b : decide ((k : Int) ≤ 8) = false := decide_eq_false g1
      have HB2 : Hid (Below w1.heap.size w1 wr) := Lib.hid hH.out.2.2
      clear hH hk
      go_wp2_with fail
      go_loopg [10] 8 (fun gn v23 w' => ∃ k : Nat, v23 = .int .i64 k ∧ Hid (gn + k = 9 ∧ 1 ≤ k ∧ Below w1.heap.size w1 w'))
      case atStart => exact ⟨1, rfl, Lib.hid ⟨by omega, by omega, HB2.out⟩⟩
      case round =>
        clear HB2
        obtain ⟨k, rfl, hH⟩ := hrel
        by_cases hk : k < 9
        · have g1 : (k : Int) ≤ 8 := by omega
          have hk1 : 1 ≤ k := hH.out.2.1
          have hk8 : k ≤ 8 := by omega
          go_wp2_with fail
          refine (get_walk b k hk1 hk8 _ (HE1.out.below hH.out.2.2)).mono ?_
          rintro e w2 ⟨rfl, hb2⟩
          have HB2 : Hid (Below w1.heap.size w1 w2) := Lib.hid (hH.out.2.2.trans (hb2.mono hH.out.2.2.size))
          clear hb2
          have HN : Hid (gk - 1 < gk ∧ gk - 1 + (k + 1) = 9) := Lib.hid ⟨by have := hH.out.1; omega, by have := hH.out.1; omega⟩
          clear hH
          go_wp2_with fail
          go_roundg (gk - 1)
          case measure => exact HN.out.1
          case rel => exact ⟨k + 1, by first | rfl | go_num, Lib.hid ⟨HN.out.2, by omega, HB2.out.alloc HB2.out.size _⟩⟩
        · have g1 : ¬ (k : Int) ≤ 8 := by omega
          have g1b : decide ((k : Int) ≤ 8) = false := decide_eq_false g1
          have HB2 : Hid (Below w1.heap.size w1 wr) := Lib.hid hH.out.2.2
          clear hH hk
          go_wp2_with fail
          refine (list_walk b _ (HE1.out.below HB2.out)).mono ?_
          rintro e w3 ⟨rfl, hb3⟩
          have HB3 : Hid (Below w1.heap.size w1 w3) := Lib.hid (HB2.out.trans (hb3.mono HB2.out.size))
          clear hb3 HB2
          go_wp2_with fail
          refine wp_loop_rounds 1 ?_
          rw [rounds_succ]
          go_wp2_with fail
          refine (Tryz.Builder_String w.heap.size w.heap.size line1.data.toList _ (isBuilder_below HB1.out HB3.out) (by decide)).mono ?_
          rintro e w4 ⟨rfl, hb4⟩
          have HB4 : Hid (Below w.heap.size w w4) := Lib.hid ((HB01.out.trans (HB3.out.mono HB01.out.size)).trans hb4)
          have HL4 : Hid (Laid w4) := Lib.hid (HL.out.below HB4.out)
          clear hb4 HB3 HB1
          go_wp2_with fail
          refine (sum_line1 _).mono ?_
          rintro e w5 ⟨rfl, hb5⟩
          have HB5 : Hid (Below w.heap.size w w5) := Lib.hid (HB4.out.trans (hb5.mono HB4.out.size))
          have HL5 : Hid (Laid w5) := Lib.hid (HL4.out.below hb5)
          clear hb5 HB4 HL4
          go_wp2_with fail
          refine (eight_walk _ HL5.out).mono ?_
          rintro e w6 ⟨rfl, hb6⟩
          have HB6 : Hid (Below w.heap.size w w6) := Lib.hid (HB5.out.trans (hb6.mono HB5.out.size))
          clear hb6 HB5 HL5
          go_wp2_with fail
          go_ret2
          exact ⟨rfl, HB6.out⟩
end Go.Proofs.YtbmineeojjngeaaGreatDoor
