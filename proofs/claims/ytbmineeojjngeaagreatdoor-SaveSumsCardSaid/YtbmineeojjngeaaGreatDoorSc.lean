/- SaveSums: save.Sum at every text. -/
import Derived.Test.YtbmineeojjngeaaGreatDoorSb
namespace Go.Proofs.YtbmineeojjngeaaGreatDoor
open Go.RowKit
theorem xor_u8 (x y : Nat) (hx : x < 256) (hy : y < 256) : bits .xor .u8 (x : Int) (y : Int) = ((x ^^^ y : Nat) : Int) := by
  have h : x ^^^ y < 256 := Nat.xor_lt_two_pow (n := 8) hx hy
  have e : bits .xor .u8 (x : Int) (y : Int) = IntKind.u8.wrap (((BitVec.ofInt 8 (x : Int)) ^^^ (BitVec.ofInt 8 (y : Int))).toNat : Int) := rfl
  rw [e, BitVec.toNat_xor, BitVec.ofInt_natCast, BitVec.ofInt_natCast, BitVec.toNat_ofNat, BitVec.toNat_ofNat, Nat.mod_eq_of_lt (by omega), Nat.mod_eq_of_lt (by omega)]
  generalize x ^^^ y = z at *
  rw [Go.IntKind.wrap_u8]; omega
theorem TabAt.cell {B : Nat} {w : World} (h : TabAt B 256 w) (j : Nat) (hj : j < 256) : w.cell? ⟨B, j, none⟩ = some (.int .u32 (sts 8 j : Int)) := by
  have h1 := h.cellAt j (by omega)
  rw [tab_get 256 j hj, if_pos hj] at h1
  exact h1
set_option maxRecDepth 100000 in
theorem sum_walk (s : ByteArray) (hs : s.size < 4611686018427387904) (w : World) : Calls Tryz.prog 4 #[.string s] w fun e w' => e = .returned (.int .u32 (crc s : Int)) ∧ Below w.heap.size w w' := by
  go_enter Tryz.func4, Tryz.ntmps4
  go_wp2_with fail
  refine (table_walk _).mono ?_
  rintro e w1 ⟨rfl, hb1, ht1⟩
  have HT := Lib.hid ht1
  have HB := Lib.hid hb1
  clear hb1 ht1
  go_wp2_with fail
  go_loopg [4, 5, 9] s.size (fun gn v4 v5 v9 w' => ∃ (C i : Nat), v4 = .int .u32 C ∧ v9 = .int .i64 i ∧ Hid (gn + i = s.size ∧ C < 4294967296 ∧ crcs C (s.data.toList.drop i) = crcs 4294967295 s.data.toList) ∧ w1 = w')
  case atStart => exact ⟨4294967295, 0, rfl, rfl, Lib.hid ⟨by omega, by decide, rfl⟩, rfl⟩
  case round =>
    obtain ⟨C, i, rfl, rfl, hH, hww⟩ := hrel
    subst hww
    obtain ⟨q1, q2, q3⟩ := hH.out
    clear hH
    by_cases hi : i < s.size
    · have g1 : (i : Int) < s.size := by omega
      have hbl : s[i].toNat < 256 := s[i].toNat_lt
      have HX : Hid (gk - 1 < gk ∧ gk - 1 + (i + 1) = s.size) := Lib.hid (show gk - 1 < gk ∧ gk - 1 + (i + 1) = s.size by omega)
      have hbs := byte_step C s[i].toNat hbl
      have hdr := crcs_drop s C i hi
      have hxl : (C % 256) ^^^ s[i].toNat < 256 := Nat.xor_lt_two_pow (n := 8) (Nat.mod_lt _ (by decide)) hbl
      have hsl := sts_lt 8 (u := (C % 256) ^^^ s[i].toNat) (by omega)
      have x8 := xor_u8 (C % 256) s[i].toNat (Nat.mod_lt _ (by decide)) hbl
      have c1 : w1.cell? ⟨w.heap.size, (C % 256) ^^^ s[i].toNat, none⟩ = some (.int .u32 (sts 8 ((C % 256) ^^^ s[i].toNat) : Int)) := HT.out.cell _ hxl
      have x32 := xor_u32 (C / 256) (sts 8 ((C % 256) ^^^ s[i].toNat)) (by omega) hsl
      have HN : Hid (sts 8 (C ^^^ s[i].toNat) < 4294967296 ∧ crcs (sts 8 (C ^^^ s[i].toNat)) (s.data.toList.drop (i + 1)) = crcs 4294967295 s.data.toList) :=
        Lib.hid ⟨sts_lt 8 (Nat.xor_lt_two_pow (n := 32) q2 (by omega)), by rw [← hdr]; exact q3⟩
      rw [hbs] at HN
      clear hdr hbs q3 hsl
      have y8 : bits .xor .u8 ((C : Int) % 256) (s[i].toNat : Int) = (((C % 256) ^^^ s[i].toNat : Nat) : Int) := by
        rw [← x8]; rfl
      clear x8
      generalize hT : sts 8 ((C % 256) ^^^ s[i].toNat) = T at *
      generalize hX : (C % 256) ^^^ s[i].toNat = X at *
      have y32 : bits .xor .u32 ((C : Int) / 256) (T : Int) = ((C / 256 ^^^ T : Nat) : Int) := by
        rw [← x32]; rfl
      clear x32
      generalize hY : C / 256 ^^^ T = Y at *
      clear hT hX hY
      have hx1 : (X : Int) < 256 := by omega
      go_wp2_with fail
      go_roundg (gk - 1)
      case measure => exact HX.out.1
      case rel => exact ⟨Y, i + 1, rfl, by first | rfl | go_num, Lib.hid ⟨HX.out.2, HN.out⟩, rfl⟩
    · have g1 : ¬ (i : Int) < s.size := by omega
      have g1b : decide ((i : Int) < (s.size : Int)) = false := decide_eq_false g1
      have hx : bits .xor .u32 IntKind.u32.max (C : Int) = (crc s : Int) := by
        have h := xor_u32 4294967295 C (by decide) q2
        unfold crc
        rw [← q3, List.drop_of_length_le (by rw [Array.length_toList]; show s.size ≤ i; omega)]
        exact h
      have hsg : IntKind.u32.signed = false := rfl
      clear q1 q2 q3 hi
      go_wp2_with fail
      all_goals go_ret
      all_goals exact ⟨rfl, HB.out⟩
end Go.Proofs.YtbmineeojjngeaaGreatDoor
