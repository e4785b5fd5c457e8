/- Part 10 of the proof: RfPx, RfNx, PHx. -/
import Derived.Test.YtjpiplplohapnaaGreatDoorHx9
set_option linter.unusedVariables false
set_option linter.unusedSimpArgs false
namespace Go.Proofs.YtjpiplplohapnaaGreatDoor
open Go.RowKit Go.Proofs.YtjpiplplohapnaaGreatDoorW.PrintWords Rf
set_option maxRecDepth 100000 in
set_option maxHeartbeats 8000000 in
theorem readFloat_px (s : ByteArray) (hs : s.size ≤ 1000) (h0 : 2 < s.size) (h48 : s[0].toNat = 48) (h120 : s[1].toNat = 120) (w : World) : Calls Tryz.prog 142 #[.string s] w (RfPost false true s (fin true (scan true (s.data.toList.drop 2) st0).1 (scan true (s.data.toList.drop 2) st0).2) w) := by
  obtain ⟨sF, rF, hsc⟩ : ∃ sF rF, scan true (s.data.toList.drop 2) st0 = (sF, rF) := ⟨_, _, rfl⟩
  rw [hsc]
  dsimp only
  have hne : ¬ s = ByteArray.empty := by rintro rfl; simp at h0
  have hz0 : 0 < s.size := by omega
  have e0 : (s[0].toNat : Int) = 48 := by rw [h48]; rfl
  have hh : (0 : Int) + 2 < s.size := by omega
  have hh2 : (2 : Int) < s.size := by omega
  have hi1 : 1 < s.size := by omega
  have hi0 : 0 < s.size := by omega
  have e2 : (s[1].toNat : Int) = 120 := by rw [h120]; rfl
  have e3 : Go.bits .or .u8 120 32 = 120 := by decide +kernel
  have hI0 : 2 ≤ s.size := by omega
  clear h0 h48 h120
  go_enter Tryz.func142, Tryz.ntmps142
  go_wp2_with fail
  go_step3
  go_upto_region 12 with (fail)
  go_cut [54] (fun v54 w' => v54 = .bool true ∧ w = w')
  case first =>
    go_wp2_with (go_at_call 156; refine (Tryz.internal_strconv_lower _ _).mono ?_; rintro e w1 ⟨rfl, hw1⟩; obtain rfl := hw1.symm)
    go_meet
    case rel => exact ⟨rfl, rfl⟩
  case rest =>
    obtain ⟨rfl, rfl⟩ := hcut
    clear e0 e2 e3 hh hh2 hi1
    go_wp2_with fail
    go_step3
    go_upto_block 1 with (fail)
    have HI := Lib.hid (ok0 true 2)
    go_cut [2, 5, 7, 9, 13, 14, 15, 16, 17] (fun v2 v5 v7 v9 v13 v14 v15 v16 v17 w' => v2 = .int .u64 sF.m ∧ v5 = .bool sF.tr ∧ (∃ k : Nat, v7 = .int .i64 k ∧ Hid (s.data.toList.drop k = rF) ∧ k ≤ s.size ∧ Hid (Ok true sF k)) ∧ v9 = .bool sF.us ∧ v13 = .bool sF.dot ∧ v14 = .bool sF.sd ∧ v15 = .int .i64 sF.nd ∧ v16 = .int .i64 sF.nm ∧ v17 = .int .i64 sF.dp ∧ w = w')
    case first =>
      go_wp2_with fail
      have Hsc := Lib.hid hsc
      clear hsc
      go_loopg [2, 5, 7, 9, 13, 14, 15, 16, 17] (s.size - 2) (fun gn v2 v5 v7 v9 v13 v14 v15 v16 v17 w' => ∃ (k : Nat) (t : St), gn + k = s.size ∧ v2 = .int .u64 t.m ∧ v5 = .bool t.tr ∧ v7 = .int .i64 k ∧ Hid (scan true (s.data.toList.drop k) t = (sF, rF)) ∧ k ≤ s.size ∧ Hid (Ok true t k) ∧ v9 = .bool t.us ∧ v13 = .bool t.dot ∧ v14 = .bool t.sd ∧ v15 = .int .i64 t.nd ∧ v16 = .int .i64 t.nm ∧ v17 = .int .i64 t.dp ∧ w = w')
      case atStart => exact ⟨2, st0, by omega, rfl, rfl, rfl, Hsc, by omega, HI, rfl, rfl, rfl, rfl, rfl, rfl, rfl⟩
      case round =>
        obtain ⟨k, t, hg, rfl, rfl, rfl, hsc, hk, hok, rfl, rfl, rfl, rfl, rfl, rfl, rfl⟩ := hrel
        obtain ⟨us, dot, sd, nd, nm, dp, m, tr⟩ := t
        have hok := hok.out
        clear Hsc HI
        by_cases hkl : k < s.size
        · have hl : k < s.data.toList.length := by simpa using hkl
          have hsk : ((s[k].toNat : Nat) : Int) = ((s.data.toList[k].toNat : Nat) : Int) := rfl
          have hss := fun t' => @scan_some true s.data.toList k ⟨us, dot, sd, nd, nm, dp, m, tr⟩ t' hl
          have hsn := @scan_none true s.data.toList k ⟨us, dot, sd, nd, nm, dp, m, tr⟩ hl
          have hc256 : s.data.toList[k].toNat < 256 := UInt8.toNat_lt _
          obtain ⟨c, hc⟩ : ∃ c, c = s.data.toList[k].toNat := ⟨_, rfl⟩
          rw [← hc] at hsk hss hsn hc256
          clear hc
          have hlw : Go.bits .or .u8 (c : Int) 32 = lw c := rfl
          have hlb := lw_range c
          have hld := lw_digit c
          by_cases h95 : c = 95
          · have f1 : ((c : Int) == 95) = true := by simp [h95]
            clear hlw hlb hld
            have HS := Lib.hid ((hss _ (by unfold stp; rw [if_pos h95])).symm.trans hsc.out)
            have HO : Hid (Ok true ⟨true, dot, sd, nd, nm, dp, m, tr⟩ (k + 1)) := Lib.hid ⟨by have := hok.nd; dsimp only at *; omega, hok.nm, hok.m, by have := hok.dp1; dsimp only at *; omega, by have := hok.dp2; dsimp only at *; omega⟩
            clear hss hsn hsc hok
            go_wp2_with (go_at_call 156; refine (Tryz.internal_strconv_lower _ _).mono ?_; rintro e w1 ⟨rfl, hw1⟩; obtain rfl := hw1.symm)
            go_roundg (gk - 1)
            case measure => omega
            case rel => exact ⟨k + 1, ⟨true, dot, sd, nd, nm, dp, m, tr⟩, by omega, rfl, rfl, by go_num, HS, by omega, HO, rfl, rfl, rfl, rfl, rfl, rfl, rfl⟩
          · have f1 : ((c : Int) == 95) = false := by simp; omega
            by_cases h46 : c = 46
            · have f2 : ((c : Int) == 46) = true := by simp [h46]
              clear hlw hlb hld
              cases dot
              ·
                have HS := Lib.hid ((hss _ (by unfold stp; rw [if_neg h95, if_pos h46]; rfl)).symm.trans hsc.out)
                have HO : Hid (Ok true ⟨us, true, sd, nd, nm, nd, m, tr⟩ (k + 1)) := Lib.hid ⟨by have := hok.nd; dsimp only at *; omega, hok.nm, hok.m, by have := hok.nd; dsimp only at *; omega, by have := hok.nd; dsimp only at *; omega⟩
                clear hss hsn hsc hok
                go_wp2_with (go_at_call 156; refine (Tryz.internal_strconv_lower _ _).mono ?_; rintro e w1 ⟨rfl, hw1⟩; obtain rfl := hw1.symm)
                go_roundg (gk - 1)
                case measure => omega
                case rel => exact ⟨k + 1, ⟨us, true, sd, nd, nm, nd, m, tr⟩, by omega, rfl, rfl, by go_num, HS, by omega, HO, rfl, rfl, rfl, rfl, rfl, rfl, rfl⟩
              ·
                have HS := Lib.hid ((hsn (by unfold stp; rw [if_neg h95, if_pos h46]; rfl)).symm.trans hsc.out)
                have HO := Lib.hid hok
                clear hss hsn hsc hok
                go_wp2_with (go_at_call 156; refine (Tryz.internal_strconv_lower _ _).mono ?_; rintro e w1 ⟨rfl, hw1⟩; obtain rfl := hw1.symm)
                go_meet
                case rel =>
                  obtain ⟨rfl, rfl⟩ := Prod.mk.inj HS.out
                  exact ⟨rfl, rfl, ⟨k, rfl, Lib.hid rfl, by omega, HO⟩, rfl, rfl, rfl, rfl, rfl, rfl, rfl⟩
            · have f2 : ((c : Int) == 46) = false := by simp; omega
              by_cases hd : 48 ≤ c ∧ c ≤ 57
              · have f3 : (48 : Int) ≤ c := by omega
                have f4 : (c : Int) ≤ 57 := by omega
                clear hlw hlb hld
                by_cases hz : c = 48 ∧ nd = 0
                · have f5 : ((c : Int) == 48) = true := by simp [hz.1]
                  have f6 : ((nd : Int) == 0) = true := by simp [hz.2]
                  have hw : IntKind.i64.wrap (dp - 1) = dp - 1 := by
                    have := hok.dp1
                    have := hok.dp2
                    dsimp only at *
                    rw [Go.IntKind.wrap_i64]; omega
                  have HS := Lib.hid ((hss _ (by unfold stp; rw [if_neg h95, if_neg h46, if_pos hd, if_pos hz])).symm.trans hsc.out)
                  have HO : Hid (Ok true ⟨us, dot, true, nd, nm, dp - 1, m, tr⟩ (k + 1)) := Lib.hid ⟨by have := hok.nd; dsimp only at *; omega, hok.nm, hok.m, by have := hok.dp1; dsimp only at *; omega, by have := hok.dp2; dsimp only at *; omega⟩
                  clear hss hsn hsc hok hz hd
                  go_wp2_with (go_at_call 156; refine (Tryz.internal_strconv_lower _ _).mono ?_; rintro e w1 ⟨rfl, hw1⟩; obtain rfl := hw1.symm)
                  go_roundg (gk - 1)
                  case measure => omega
                  case rel => exact ⟨k + 1, ⟨us, dot, true, nd, nm, dp - 1, m, tr⟩, by omega, rfl, rfl, by go_num, HS, by omega, HO, rfl, rfl, rfl, rfl, rfl, rfl, rfl⟩
                · have hnd : nd < 1000000 := by have := hok.nd; dsimp only at *; omega
                  have hnm : nm ≤ 16 := hok.nm
                  have hw15 : IntKind.i64.wrap ((nd : Int) + 1) = (nd : Int) + 1 := by rw [Go.IntKind.wrap_i64]; omega
                  have hw16 : IntKind.i64.wrap ((nm : Int) + 1) = (nm : Int) + 1 := by rw [Go.IntKind.wrap_i64]; omega
                  by_cases hm : nm < 16
                  · have f7 : (nm : Int) < 16 := by omega
                    have hroom := hok.room (d := c - 48) hm (by show c - 48 < 16; omega)
                    have hmb : m * 16 + (c - 48) < 18446744073709551616 := Nat.lt_of_lt_of_le hroom.1 hroom.2
                    have hw2 : IntKind.u64.wrap ((m : Int) * 16) = (m : Int) * 16 := by rw [Go.IntKind.wrap_u64]; omega
                    have hw3 : IntKind.u64.wrap ((m : Int) * 16 + ((c : Int) - 48)) = (m : Int) * 16 + ((c : Int) - 48) := by rw [Go.IntKind.wrap_u64]; omega
                    have hw4 : IntKind.u8.wrap ((c : Int) - 48) = (c : Int) - 48 := by rw [Go.IntKind.wrap_u8]; omega
                    have hw5 : IntKind.u64.wrap ((c : Int) - 48) = (c : Int) - 48 := by rw [Go.IntKind.wrap_u64]; omega
                    have hw6 : ((c : Int) - 48) % 256 = (c : Int) - 48 := by omega
                    have HS := Lib.hid ((hss _ (by unfold stp; rw [if_neg h95, if_neg h46, if_pos hd, if_neg hz, if_pos (show nm < mxd true from hm)])).symm.trans hsc.out)
                    have HO : Hid (Ok true ⟨us, dot, true, nd + 1, nm + 1, dp, m * 16 + (c - 48), tr⟩ (k + 1)) := Lib.hid ⟨by have := hok.nd; dsimp only at *; omega, hm, hroom.1, by have := hok.dp1; dsimp only at *; omega, by have := hok.dp2; dsimp only at *; omega⟩
                    clear hss hsn hsc hok hroom
                    by_cases h48 : c = 48
                    · have f5 : ((c : Int) == 48) = true := by simp [h48]
                      have f6 : ((nd : Int) == 0) = false := by simp; omega
                      clear hz hd h48
                      go_wp2_with (go_at_call 156; refine (Tryz.internal_strconv_lower _ _).mono ?_; rintro e w1 ⟨rfl, hw1⟩; obtain rfl := hw1.symm)
                      go_roundg (gk - 1)
                      case measure => omega
                      case rel => exact ⟨k + 1, ⟨us, dot, true, nd + 1, nm + 1, dp, m * 16 + (c - 48), tr⟩, by omega, congrArg (Value.int .u64) (by dsimp only; omega), rfl, by go_num, HS, by omega, HO, rfl, rfl, rfl, by go_num, by go_num, rfl, rfl⟩
                    · have f5 : ((c : Int) == 48) = false := by simp; omega
                      clear hz hd h48
                      go_wp2_with (go_at_call 156; refine (Tryz.internal_strconv_lower _ _).mono ?_; rintro e w1 ⟨rfl, hw1⟩; obtain rfl := hw1.symm)
                      go_roundg (gk - 1)
                      case measure => omega
                      case rel => exact ⟨k + 1, ⟨us, dot, true, nd + 1, nm + 1, dp, m * 16 + (c - 48), tr⟩, by omega, congrArg (Value.int .u64) (by dsimp only; omega), rfl, by go_num, HS, by omega, HO, rfl, rfl, rfl, by go_num, by go_num, rfl, rfl⟩
                  · have f7 : ¬ (nm : Int) < 16 := by omega
                    have HS := Lib.hid ((hss _ (by unfold stp; rw [if_neg h95, if_neg h46, if_pos hd, if_neg hz, if_neg (show ¬ nm < mxd true from hm)])).symm.trans hsc.out)
                    have HO : Hid (Ok true ⟨us, dot, true, nd + 1, nm, dp, m, tr || decide (c ≠ 48)⟩ (k + 1)) := Lib.hid ⟨by have := hok.nd; dsimp only at *; omega, hok.nm, hok.m, by have := hok.dp1; dsimp only at *; omega, by have := hok.dp2; dsimp only at *; omega⟩
                    clear hss hsn hsc hok
                    by_cases h48 : c = 48
                    · have f5 : ((c : Int) == 48) = true := by simp [h48]
                      have f8 : ((c : Int) != 48) = false := by simp [h48]
                      have f6 : ((nd : Int) == 0) = false := by simp; omega
                      have ht : (tr || decide (c ≠ 48)) = tr := by simp [h48]
                      rw [ht] at HS HO
                      clear hz hd h48 ht
                      go_wp2_with (go_at_call 156; refine (Tryz.internal_strconv_lower _ _).mono ?_; rintro e w1 ⟨rfl, hw1⟩; obtain rfl := hw1.symm)
                      go_roundg (gk - 1)
                      case measure => omega
                      case rel => exact ⟨k + 1, ⟨us, dot, true, nd + 1, nm, dp, m, tr⟩, by omega, rfl, rfl, by go_num, HS, by omega, HO, rfl, rfl, rfl, by go_num, rfl, rfl, rfl⟩
                    · have f5 : ((c : Int) == 48) = false := by simp; omega
                      have f8 : ((c : Int) != 48) = true := by simp; omega
                      have ht : (tr || decide (c ≠ 48)) = true := by simp [h48]
                      rw [ht] at HS HO
                      clear hz hd h48 ht
                      go_wp2_with (go_at_call 156; refine (Tryz.internal_strconv_lower _ _).mono ?_; rintro e w1 ⟨rfl, hw1⟩; obtain rfl := hw1.symm)
                      go_roundg (gk - 1)
                      case measure => omega
                      case rel => exact ⟨k + 1, ⟨us, dot, true, nd + 1, nm, dp, m, true⟩, by omega, rfl, rfl, by go_num, HS, by omega, HO, rfl, rfl, rfl, by go_num, rfl, rfl, rfl⟩
              ·
                by_cases hlt : 97 ≤ lw c ∧ lw c ≤ 102
                · have f9 : (97 : Int) ≤ lw c := hlt.1
                  have f10 : lw c ≤ 102 := hlt.2
                  have hnd : nd < 1000000 := by have := hok.nd; dsimp only at *; omega
                  have hnm : nm ≤ 16 := hok.nm
                  have hw15 : IntKind.i64.wrap ((nd : Int) + 1) = (nd : Int) + 1 := by rw [Go.IntKind.wrap_i64]; omega
                  have hw16 : IntKind.i64.wrap ((nm : Int) + 1) = (nm : Int) + 1 := by rw [Go.IntKind.wrap_i64]; omega
                  obtain ⟨x, hx⟩ : ∃ x : Nat, x = (lw c - 87).toNat := ⟨_, rfl⟩
                  have hx2 : (x : Int) = lw c - 87 := by omega
                  by_cases hm : nm < 16
                  · have f7 : (nm : Int) < 16 := by omega
                    have hroom := hok.room (d := x) hm (by show x < 16; omega)
                    have hmb : m * 16 + x < 18446744073709551616 := Nat.lt_of_lt_of_le hroom.1 hroom.2
                    have hw2 : IntKind.u64.wrap ((m : Int) * 16) = (m : Int) * 16 := by rw [Go.IntKind.wrap_u64]; omega
                    have hw3 : IntKind.u64.wrap ((m : Int) * 16 + (lw c - 87)) = (m : Int) * 16 + (lw c - 87) := by rw [Go.IntKind.wrap_u64]; omega
                    have hw4 : (lw c - 97) % 256 = lw c - 97 := by omega
                    have hw5 : (lw c - 97 + 10) % 256 = lw c - 87 := by omega
                    have hw7 : lw c - 97 + 10 = lw c - 87 := by omega
                    have hw8 : IntKind.u8.wrap (lw c - 97) = lw c - 97 := by rw [Go.IntKind.wrap_u8]; omega
                    have hw9 : IntKind.u8.wrap (lw c - 97 + 10) = lw c - 87 := by rw [Go.IntKind.wrap_u8]; omega
                    have hw6 : IntKind.u64.wrap (lw c - 87) = lw c - 87 := by rw [Go.IntKind.wrap_u64]; omega
                    have HS := Lib.hid ((hss _ (by unfold stp; rw [if_neg h95, if_neg h46, if_neg hd, if_pos ⟨rfl, hlt⟩, if_pos (show nm < mxd true from hm), ← hx])).symm.trans hsc.out)
                    have HO : Hid (Ok true ⟨us, dot, true, nd + 1, nm + 1, dp, m * 16 + x, tr⟩ (k + 1)) := Lib.hid ⟨by have := hok.nd; dsimp only at *; omega, hm, hroom.1, by have := hok.dp1; dsimp only at *; omega, by have := hok.dp2; dsimp only at *; omega⟩
                    have hx3 := Lib.hid hx2
                    clear hss hsn hsc hok hroom hx hx2 hlt
                    by_cases h3 : 48 ≤ c
                    · have f3 : (48 : Int) ≤ c := by omega
                      have f4 : ¬ (c : Int) ≤ 57 := by omega
                      have f4b : (57 : Int) < c := by omega
                      clear hd
                      go_wp2_with (go_at_call 156; refine (Tryz.internal_strconv_lower _ _).mono ?_; rintro e w1 ⟨rfl, hw1⟩; obtain rfl := hw1.symm)
                      go_roundg (gk - 1)
                      case measure => omega
                      case rel => exact ⟨k + 1, ⟨us, dot, true, nd + 1, nm + 1, dp, m * 16 + x, tr⟩, by omega, congrArg (Value.int .u64) (by have := hx3.out; dsimp only; omega), rfl, by go_num, HS, by omega, HO, rfl, rfl, rfl, by go_num, by go_num, rfl, rfl⟩
                    · have f3 : ¬ (48 : Int) ≤ c := by omega
                      have f3b : (c : Int) < 48 := by omega
                      clear hd
                      go_wp2_with (go_at_call 156; refine (Tryz.internal_strconv_lower _ _).mono ?_; rintro e w1 ⟨rfl, hw1⟩; obtain rfl := hw1.symm)
                      go_roundg (gk - 1)
                      case measure => omega
                      case rel => exact ⟨k + 1, ⟨us, dot, true, nd + 1, nm + 1, dp, m * 16 + x, tr⟩, by omega, congrArg (Value.int .u64) (by have := hx3.out; dsimp only; omega), rfl, by go_num, HS, by omega, HO, rfl, rfl, rfl, by go_num, by go_num, rfl, rfl⟩
                  · have f7 : ¬ (nm : Int) < 16 := by omega
                    have HS := Lib.hid ((hss _ (by unfold stp; rw [if_neg h95, if_neg h46, if_neg hd, if_pos ⟨rfl, hlt⟩, if_neg (show ¬ nm < mxd true from hm)])).symm.trans hsc.out)
                    have HO : Hid (Ok true ⟨us, dot, true, nd + 1, nm, dp, m, true⟩ (k + 1)) := Lib.hid ⟨by have := hok.nd; dsimp only at *; omega, hok.nm, hok.m, by have := hok.dp1; dsimp only at *; omega, by have := hok.dp2; dsimp only at *; omega⟩
                    clear hss hsn hsc hok hx hx2 hlt
                    by_cases h3 : 48 ≤ c
                    · have f3 : (48 : Int) ≤ c := by omega
                      have f4 : ¬ (c : Int) ≤ 57 := by omega
                      have f4b : (57 : Int) < c := by omega
                      clear hd
                      go_wp2_with (go_at_call 156; refine (Tryz.internal_strconv_lower _ _).mono ?_; rintro e w1 ⟨rfl, hw1⟩; obtain rfl := hw1.symm)
                      go_roundg (gk - 1)
                      case measure => omega
                      case rel => exact ⟨k + 1, ⟨us, dot, true, nd + 1, nm, dp, m, true⟩, by omega, rfl, rfl, by go_num, HS, by omega, HO, rfl, rfl, rfl, by go_num, rfl, rfl, rfl⟩
                    · have f3 : ¬ (48 : Int) ≤ c := by omega
                      have f3b : (c : Int) < 48 := by omega
                      clear hd
                      go_wp2_with (go_at_call 156; refine (Tryz.internal_strconv_lower _ _).mono ?_; rintro e w1 ⟨rfl, hw1⟩; obtain rfl := hw1.symm)
                      go_roundg (gk - 1)
                      case measure => omega
                      case rel => exact ⟨k + 1, ⟨us, dot, true, nd + 1, nm, dp, m, true⟩, by omega, rfl, rfl, by go_num, HS, by omega, HO, rfl, rfl, rfl, by go_num, rfl, rfl, rfl⟩
                · have hS := hsn (by unfold stp; rw [if_neg h95, if_neg h46, if_neg hd, if_neg (fun h => hlt h.2)])
                  have HS := Lib.hid (hS.symm.trans hsc.out)
                  have HO := Lib.hid hok
                  clear hss hsn hsc hok hS
                  by_cases h3 : 48 ≤ c
                  · have f3 : (48 : Int) ≤ c := by omega
                    have f4 : ¬ (c : Int) ≤ 57 := by omega
                    have f4b : (57 : Int) < c := by omega
                    clear hd
                    by_cases h9 : 97 ≤ lw c
                    · have f10 : ¬ lw c ≤ 102 := by omega
                      have f10b : 102 < lw c := by omega
                      clear hlt
                      go_wp2_with (go_at_call 156; refine (Tryz.internal_strconv_lower _ _).mono ?_; rintro e w1 ⟨rfl, hw1⟩; obtain rfl := hw1.symm)
                      go_meet
                      case rel =>
                        obtain ⟨rfl, rfl⟩ := Prod.mk.inj HS.out
                        exact ⟨rfl, rfl, ⟨k, rfl, Lib.hid rfl, by omega, HO⟩, rfl, rfl, rfl, rfl, rfl, rfl, rfl⟩
                    · have f9 : ¬ 97 ≤ lw c := by omega
                      have f9b : lw c < 97 := by omega
                      clear hlt
                      go_wp2_with (go_at_call 156; refine (Tryz.internal_strconv_lower _ _).mono ?_; rintro e w1 ⟨rfl, hw1⟩; obtain rfl := hw1.symm)
                      go_meet
                      case rel =>
                        obtain ⟨rfl, rfl⟩ := Prod.mk.inj HS.out
                        exact ⟨rfl, rfl, ⟨k, rfl, Lib.hid rfl, by omega, HO⟩, rfl, rfl, rfl, rfl, rfl, rfl, rfl⟩
                  · have f3 : ¬ (48 : Int) ≤ c := by omega
                    have f3b : (c : Int) < 48 := by omega
                    clear hd
                    by_cases h9 : 97 ≤ lw c
                    · have f10 : ¬ lw c ≤ 102 := by omega
                      have f10b : 102 < lw c := by omega
                      clear hlt
                      go_wp2_with (go_at_call 156; refine (Tryz.internal_strconv_lower _ _).mono ?_; rintro e w1 ⟨rfl, hw1⟩; obtain rfl := hw1.symm)
                      go_meet
                      case rel =>
                        obtain ⟨rfl, rfl⟩ := Prod.mk.inj HS.out
                        exact ⟨rfl, rfl, ⟨k, rfl, Lib.hid rfl, by omega, HO⟩, rfl, rfl, rfl, rfl, rfl, rfl, rfl⟩
                    · have f9 : ¬ 97 ≤ lw c := by omega
                      have f9b : lw c < 97 := by omega
                      clear hlt
                      go_wp2_with (go_at_call 156; refine (Tryz.internal_strconv_lower _ _).mono ?_; rintro e w1 ⟨rfl, hw1⟩; obtain rfl := hw1.symm)
                      go_meet
                      case rel =>
                        obtain ⟨rfl, rfl⟩ := Prod.mk.inj HS.out
                        exact ⟨rfl, rfl, ⟨k, rfl, Lib.hid rfl, by omega, HO⟩, rfl, rfl, rfl, rfl, rfl, rfl, rfl⟩
        · have hS := @scan_end true s.data.toList k ⟨us, dot, sd, nd, nm, dp, m, tr⟩ (by simp; omega)
          have HS := Lib.hid (hS.symm.trans hsc.out)
          have HO := Lib.hid hok
          have hkk : k = s.size := by omega
          clear hS hsc hok
          subst hkk
          go_wp2_with fail
          go_meet
          case rel =>
            obtain ⟨rfl, rfl⟩ := Prod.mk.inj HS.out
            exact ⟨rfl, rfl, ⟨s.size, rfl, Lib.hid rfl, by omega, HO⟩, rfl, rfl, rfl, rfl, rfl, rfl, rfl⟩
    case rest =>
      obtain ⟨rfl, rfl, ⟨k, rfl, hrF, hk, hO⟩, rfl, rfl, rfl, rfl, rfl, rfl, hww⟩ := hcut
      subst hww
      clear hsc HI
      obtain ⟨us, dot, sd, nd, nm, dp, m, tr⟩ := sF
      go_step
      exact rfTail_x' s hs k hk rF hrF.out false us dot sd nd nm dp m tr hO.out w
end Go.Proofs.YtjpiplplohapnaaGreatDoor
namespace Go.Proofs.YtjpiplplohapnaaGreatDoor
open Go.RowKit Go.Proofs.YtjpiplplohapnaaGreatDoorW.PrintWords Rf
set_option maxRecDepth 100000 in
set_option maxHeartbeats 8000000 in
theorem readFloat_nx (s : ByteArray) (hs : s.size ≤ 1000) (h0 : 3 < s.size) (h45 : s[0].toNat = 45) (h48 : s[1].toNat = 48) (h120 : s[2].toNat = 120) (w : World) : Calls Tryz.prog 142 #[.string s] w (RfPost true true s (fin true (scan true (s.data.toList.drop 3) st0).1 (scan true (s.data.toList.drop 3) st0).2) w) := by
  obtain ⟨sF, rF, hsc⟩ : ∃ sF rF, scan true (s.data.toList.drop 3) st0 = (sF, rF) := ⟨_, _, rfl⟩
  rw [hsc]
  dsimp only
  have hne : ¬ s = ByteArray.empty := by rintro rfl; simp at h0
  have hz0 : 0 < s.size := by omega
  have e0 : (s[0].toNat : Int) = 45 := by rw [h45]; rfl
  have hh : (1 : Int) + 2 < s.size := by omega
  have hh2 : (3 : Int) < s.size := by omega
  have hi1 : 2 < s.size := by omega
  have hi0 : 1 < s.size := by omega
  have e1 : (s[1].toNat : Int) = 48 := by rw [h48]; rfl
  have e2 : (s[2].toNat : Int) = 120 := by rw [h120]; rfl
  have e3 : Go.bits .or .u8 120 32 = 120 := by decide +kernel
  have hI0 : 3 ≤ s.size := by omega
  clear h0 h45 h48 h120
  go_enter Tryz.func142, Tryz.ntmps142
  go_wp2_with fail
  go_step3
  go_upto_region 12 with (fail)
  go_cut [54] (fun v54 w' => v54 = .bool true ∧ w = w')
  case first =>
    go_wp2_with (go_at_call 156; refine (Tryz.internal_strconv_lower _ _).mono ?_; rintro e w1 ⟨rfl, hw1⟩; obtain rfl := hw1.symm)
    go_meet
    case rel => exact ⟨rfl, rfl⟩
  case rest =>
    obtain ⟨rfl, rfl⟩ := hcut
    clear e0 e1 e2 e3 hh hh2 hi1
    go_wp2_with fail
    go_step3
    go_upto_block 1 with (fail)
    have HI := Lib.hid (ok0 true 3)
    go_cut [2, 5, 7, 9, 13, 14, 15, 16, 17] (fun v2 v5 v7 v9 v13 v14 v15 v16 v17 w' => v2 = .int .u64 sF.m ∧ v5 = .bool sF.tr ∧ (∃ k : Nat, v7 = .int .i64 k ∧ Hid (s.data.toList.drop k = rF) ∧ k ≤ s.size ∧ Hid (Ok true sF k)) ∧ v9 = .bool sF.us ∧ v13 = .bool sF.dot ∧ v14 = .bool sF.sd ∧ v15 = .int .i64 sF.nd ∧ v16 = .int .i64 sF.nm ∧ v17 = .int .i64 sF.dp ∧ w = w')
    case first =>
      go_wp2_with fail
      have Hsc := Lib.hid hsc
      clear hsc
      go_loopg [2, 5, 7, 9, 13, 14, 15, 16, 17] (s.size - 3) (fun gn v2 v5 v7 v9 v13 v14 v15 v16 v17 w' => ∃ (k : Nat) (t : St), gn + k = s.size ∧ v2 = .int .u64 t.m ∧ v5 = .bool t.tr ∧ v7 = .int .i64 k ∧ Hid (scan true (s.data.toList.drop k) t = (sF, rF)) ∧ k ≤ s.size ∧ Hid (Ok true t k) ∧ v9 = .bool t.us ∧ v13 = .bool t.dot ∧ v14 = .bool t.sd ∧ v15 = .int .i64 t.nd ∧ v16 = .int .i64 t.nm ∧ v17 = .int .i64 t.dp ∧ w = w')
      case atStart => exact ⟨3, st0, by omega, rfl, rfl, rfl, Hsc, by omega, HI, rfl, rfl, rfl, rfl, rfl, rfl, rfl⟩
      case round =>
        obtain ⟨k, t, hg, rfl, rfl, rfl, hsc, hk, hok, rfl, rfl, rfl, rfl, rfl, rfl, rfl⟩ := hrel
        obtain ⟨us, dot, sd, nd, nm, dp, m, tr⟩ := t
        have hok := hok.out
        clear Hsc HI
        by_cases hkl : k < s.size
        · have hl : k < s.data.toList.length := by simpa using hkl
          have hsk : ((s[k].toNat : Nat) : Int) = ((s.data.toList[k].toNat : Nat) : Int) := rfl
          have hss := fun t' => @scan_some true s.data.toList k ⟨us, dot, sd, nd, nm, dp, m, tr⟩ t' hl
          have hsn := @scan_none true s.data.toList k ⟨us, dot, sd, nd, nm, dp, m, tr⟩ hl
          have hc256 : s.data.toList[k].toNat < 256 := UInt8.toNat_lt _
          obtain ⟨c, hc⟩ : ∃ c, c = s.data.toList[k].toNat := ⟨_, rfl⟩
          rw [← hc] at hsk hss hsn hc256
          clear hc
          have hlw : Go.bits .or .u8 (c : Int) 32 = lw c := rfl
          have hlb := lw_range c
          have hld := lw_digit c
          by_cases h95 : c = 95
          · have f1 : ((c : Int) == 95) = true := by simp [h95]
            clear hlw hlb hld
            have HS := Lib.hid ((hss _ (by unfold stp; rw [if_pos h95])).symm.trans hsc.out)
            have HO : Hid (Ok true ⟨true, dot, sd, nd, nm, dp, m, tr⟩ (k + 1)) := Lib.hid ⟨by have := hok.nd; dsimp only at *; omega, hok.nm, hok.m, by have := hok.dp1; dsimp only at *; omega, by have := hok.dp2; dsimp only at *; omega⟩
            clear hss hsn hsc hok
            go_wp2_with (go_at_call 156; refine (Tryz.internal_strconv_lower _ _).mono ?_; rintro e w1 ⟨rfl, hw1⟩; obtain rfl := hw1.symm)
            go_roundg (gk - 1)
            case measure => omega
            case rel => exact ⟨k + 1, ⟨true, dot, sd, nd, nm, dp, m, tr⟩, by omega, rfl, rfl, by go_num, HS, by omega, HO, rfl, rfl, rfl, rfl, rfl, rfl, rfl⟩
          · have f1 : ((c : Int) == 95) = false := by simp; omega
            by_cases h46 : c = 46
            · have f2 : ((c : Int) == 46) = true := by simp [h46]
              clear hlw hlb hld
              cases dot
              ·
                have HS := Lib.hid ((hss _ (by unfold stp; rw [if_neg h95, if_pos h46]; rfl)).symm.trans hsc.out)
                have HO : Hid (Ok true ⟨us, true, sd, nd, nm, nd, m, tr⟩ (k + 1)) := Lib.hid ⟨by have := hok.nd; dsimp only at *; omega, hok.nm, hok.m, by have := hok.nd; dsimp only at *; omega, by have := hok.nd; dsimp only at *; omega⟩
                clear hss hsn hsc hok
                go_wp2_with (go_at_call 156; refine (Tryz.internal_strconv_lower _ _).mono ?_; rintro e w1 ⟨rfl, hw1⟩; obtain rfl := hw1.symm)
                go_roundg (gk - 1)
                case measure => omega
                case rel => exact ⟨k + 1, ⟨us, true, sd, nd, nm, nd, m, tr⟩, by omega, rfl, rfl, by go_num, HS, by omega, HO, rfl, rfl, rfl, rfl, rfl, rfl, rfl⟩
              ·
                have HS := Lib.hid ((hsn (by unfold stp; rw [if_neg h95, if_pos h46]; rfl)).symm.trans hsc.out)
                have HO := Lib.hid hok
                clear hss hsn hsc hok
                go_wp2_with (go_at_call 156; refine (Tryz.internal_strconv_lower _ _).mono ?_; rintro e w1 ⟨rfl, hw1⟩; obtain rfl := hw1.symm)
                go_meet
                case rel =>
                  obtain ⟨rfl, rfl⟩ := Prod.mk.inj HS.out
                  exact ⟨rfl, rfl, ⟨k, rfl, Lib.hid rfl, by omega, HO⟩, rfl, rfl, rfl, rfl, rfl, rfl, rfl⟩
            · have f2 : ((c : Int) == 46) = false := by simp; omega
              by_cases hd : 48 ≤ c ∧ c ≤ 57
              · have f3 : (48 : Int) ≤ c := by omega
                have f4 : (c : Int) ≤ 57 := by omega
                clear hlw hlb hld
                by_cases hz : c = 48 ∧ nd = 0
                · have f5 : ((c : Int) == 48) = true := by simp [hz.1]
                  have f6 : ((nd : Int) == 0) = true := by simp [hz.2]
                  have hw : IntKind.i64.wrap (dp - 1) = dp - 1 := by
                    have := hok.dp1
                    have := hok.dp2
                    dsimp only at *
                    rw [Go.IntKind.wrap_i64]; omega
                  have HS := Lib.hid ((hss _ (by unfold stp; rw [if_neg h95, if_neg h46, if_pos hd, if_pos hz])).symm.trans hsc.out)
                  have HO : Hid (Ok true ⟨us, dot, true, nd, nm, dp - 1, m, tr⟩ (k + 1)) := Lib.hid ⟨by have := hok.nd; dsimp only at *; omega, hok.nm, hok.m, by have := hok.dp1; dsimp only at *; omega, by have := hok.dp2; dsimp only at *; omega⟩
                  clear hss hsn hsc hok hz hd
                  go_wp2_with (go_at_call 156; refine (Tryz.internal_strconv_lower _ _).mono ?_; rintro e w1 ⟨rfl, hw1⟩; obtain rfl := hw1.symm)
                  go_roundg (gk - 1)
                  case measure => omega
                  case rel => exact ⟨k + 1, ⟨us, dot, true, nd, nm, dp - 1, m, tr⟩, by omega, rfl, rfl, by go_num, HS, by omega, HO, rfl, rfl, rfl, rfl, rfl, rfl, rfl⟩
                · have hnd : nd < 1000000 := by have := hok.nd; dsimp only at *; omega
                  have hnm : nm ≤ 16 := hok.nm
                  have hw15 : IntKind.i64.wrap ((nd : Int) + 1) = (nd : Int) + 1 := by rw [Go.IntKind.wrap_i64]; omega
                  have hw16 : IntKind.i64.wrap ((nm : Int) + 1) = (nm : Int) + 1 := by rw [Go.IntKind.wrap_i64]; omega
                  by_cases hm : nm < 16
                  · have f7 : (nm : Int) < 16 := by omega
                    have hroom := hok.room (d := c - 48) hm (by show c - 48 < 16; omega)
                    have hmb : m * 16 + (c - 48) < 18446744073709551616 := Nat.lt_of_lt_of_le hroom.1 hroom.2
                    have hw2 : IntKind.u64.wrap ((m : Int) * 16) = (m : Int) * 16 := by rw [Go.IntKind.wrap_u64]; omega
                    have hw3 : IntKind.u64.wrap ((m : Int) * 16 + ((c : Int) - 48)) = (m : Int) * 16 + ((c : Int) - 48) := by rw [Go.IntKind.wrap_u64]; omega
                    have hw4 : IntKind.u8.wrap ((c : Int) - 48) = (c : Int) - 48 := by rw [Go.IntKind.wrap_u8]; omega
                    have hw5 : IntKind.u64.wrap ((c : Int) - 48) = (c : Int) - 48 := by rw [Go.IntKind.wrap_u64]; omega
                    have hw6 : ((c : Int) - 48) % 256 = (c : Int) - 48 := by omega
                    have HS := Lib.hid ((hss _ (by unfold stp; rw [if_neg h95, if_neg h46, if_pos hd, if_neg hz, if_pos (show nm < mxd true from hm)])).symm.trans hsc.out)
                    have HO : Hid (Ok true ⟨us, dot, true, nd + 1, nm + 1, dp, m * 16 + (c - 48), tr⟩ (k + 1)) := Lib.hid ⟨by have := hok.nd; dsimp only at *; omega, hm, hroom.1, by have := hok.dp1; dsimp only at *; omega, by have := hok.dp2; dsimp only at *; omega⟩
                    clear hss hsn hsc hok hroom
                    by_cases h48 : c = 48
                    · have f5 : ((c : Int) == 48) = true := by simp [h48]
                      have f6 : ((nd : Int) == 0) = false := by simp; omega
                      clear hz hd h48
                      go_wp2_with (go_at_call 156; refine (Tryz.internal_strconv_lower _ _).mono ?_; rintro e w1 ⟨rfl, hw1⟩; obtain rfl := hw1.symm)
                      go_roundg (gk - 1)
                      case measure => omega
                      case rel => exact ⟨k + 1, ⟨us, dot, true, nd + 1, nm + 1, dp, m * 16 + (c - 48), tr⟩, by omega, congrArg (Value.int .u64) (by dsimp only; omega), rfl, by go_num, HS, by omega, HO, rfl, rfl, rfl, by go_num, by go_num, rfl, rfl⟩
                    · have f5 : ((c : Int) == 48) = false := by simp; omega
                      clear hz hd h48
                      go_wp2_with (go_at_call 156; refine (Tryz.internal_strconv_lower _ _).mono ?_; rintro e w1 ⟨rfl, hw1⟩; obtain rfl := hw1.symm)
                      go_roundg (gk - 1)
                      case measure => omega
                      case rel => exact ⟨k + 1, ⟨us, dot, true, nd + 1, nm + 1, dp, m * 16 + (c - 48), tr⟩, by omega, congrArg (Value.int .u64) (by dsimp only; omega), rfl, by go_num, HS, by omega, HO, rfl, rfl, rfl, by go_num, by go_num, rfl, rfl⟩
                  · have f7 : ¬ (nm : Int) < 16 := by omega
                    have HS := Lib.hid ((hss _ (by unfold stp; rw [if_neg h95, if_neg h46, if_pos hd, if_neg hz, if_neg (show ¬ nm < mxd true from hm)])).symm.trans hsc.out)
                    have HO : Hid (Ok true ⟨us, dot, true, nd + 1, nm, dp, m, tr || decide (c ≠ 48)⟩ (k + 1)) := Lib.hid ⟨by have := hok.nd; dsimp only at *; omega, hok.nm, hok.m, by have := hok.dp1; dsimp only at *; omega, by have := hok.dp2; dsimp only at *; omega⟩
                    clear hss hsn hsc hok
                    by_cases h48 : c = 48
                    · have f5 : ((c : Int) == 48) = true := by simp [h48]
                      have f8 : ((c : Int) != 48) = false := by simp [h48]
                      have f6 : ((nd : Int) == 0) = false := by simp; omega
                      have ht : (tr || decide (c ≠ 48)) = tr := by simp [h48]
                      rw [ht] at HS HO
                      clear hz hd h48 ht
                      go_wp2_with (go_at_call 156; refine (Tryz.internal_strconv_lower _ _).mono ?_; rintro e w1 ⟨rfl, hw1⟩; obtain rfl := hw1.symm)
                      go_roundg (gk - 1)
                      case measure => omega
                      case rel => exact ⟨k + 1, ⟨us, dot, true, nd + 1, nm, dp, m, tr⟩, by omega, rfl, rfl, by go_num, HS, by omega, HO, rfl, rfl, rfl, by go_num, rfl, rfl, rfl⟩
                    · have f5 : ((c : Int) == 48) = false := by simp; omega
                      have f8 : ((c : Int) != 48) = true := by simp; omega
                      have ht : (tr || decide (c ≠ 48)) = true := by simp [h48]
                      rw [ht] at HS HO
                      clear hz hd h48 ht
                      go_wp2_with (go_at_call 156; refine (Tryz.internal_strconv_lower _ _).mono ?_; rintro e w1 ⟨rfl, hw1⟩; obtain rfl := hw1.symm)
                      go_roundg (gk - 1)
                      case measure => omega
                      case rel => exact ⟨k + 1, ⟨us, dot, true, nd + 1, nm, dp, m, true⟩, by omega, rfl, rfl, by go_num, HS, by omega, HO, rfl, rfl, rfl, by go_num, rfl, rfl, rfl⟩
              ·
                by_cases hlt : 97 ≤ lw c ∧ lw c ≤ 102
                · have f9 : (97 : Int) ≤ lw c := hlt.1
                  have f10 : lw c ≤ 102 := hlt.2
                  have hnd : nd < 1000000 := by have := hok.nd; dsimp only at *; omega
                  have hnm : nm ≤ 16 := hok.nm
                  have hw15 : IntKind.i64.wrap ((nd : Int) + 1) = (nd : Int) + 1 := by rw [Go.IntKind.wrap_i64]; omega
                  have hw16 : IntKind.i64.wrap ((nm : Int) + 1) = (nm : Int) + 1 := by rw [Go.IntKind.wrap_i64]; omega
                  obtain ⟨x, hx⟩ : ∃ x : Nat, x = (lw c - 87).toNat := ⟨_, rfl⟩
                  have hx2 : (x : Int) = lw c - 87 := by omega
                  by_cases hm : nm < 16
                  · have f7 : (nm : Int) < 16 := by omega
                    have hroom := hok.room (d := x) hm (by show x < 16; omega)
                    have hmb : m * 16 + x < 18446744073709551616 := Nat.lt_of_lt_of_le hroom.1 hroom.2
                    have hw2 : IntKind.u64.wrap ((m : Int) * 16) = (m : Int) * 16 := by rw [Go.IntKind.wrap_u64]; omega
                    have hw3 : IntKind.u64.wrap ((m : Int) * 16 + (lw c - 87)) = (m : Int) * 16 + (lw c - 87) := by rw [Go.IntKind.wrap_u64]; omega
                    have hw4 : (lw c - 97) % 256 = lw c - 97 := by omega
                    have hw5 : (lw c - 97 + 10) % 256 = lw c - 87 := by omega
                    have hw7 : lw c - 97 + 10 = lw c - 87 := by omega
                    have hw8 : IntKind.u8.wrap (lw c - 97) = lw c - 97 := by rw [Go.IntKind.wrap_u8]; omega
                    have hw9 : IntKind.u8.wrap (lw c - 97 + 10) = lw c - 87 := by rw [Go.IntKind.wrap_u8]; omega
                    have hw6 : IntKind.u64.wrap (lw c - 87) = lw c - 87 := by rw [Go.IntKind.wrap_u64]; omega
                    have HS := Lib.hid ((hss _ (by unfold stp; rw [if_neg h95, if_neg h46, if_neg hd, if_pos ⟨rfl, hlt⟩, if_pos (show nm < mxd true from hm), ← hx])).symm.trans hsc.out)
                    have HO : Hid (Ok true ⟨us, dot, true, nd + 1, nm + 1, dp, m * 16 + x, tr⟩ (k + 1)) := Lib.hid ⟨by have := hok.nd; dsimp only at *; omega, hm, hroom.1, by have := hok.dp1; dsimp only at *; omega, by have := hok.dp2; dsimp only at *; omega⟩
                    have hx3 := Lib.hid hx2
                    clear hss hsn hsc hok hroom hx hx2 hlt
                    by_cases h3 : 48 ≤ c
                    · have f3 : (48 : Int) ≤ c := by omega
                      have f4 : ¬ (c : Int) ≤ 57 := by omega
                      have f4b : (57 : Int) < c := by omega
                      clear hd
                      go_wp2_with (go_at_call 156; refine (Tryz.internal_strconv_lower _ _).mono ?_; rintro e w1 ⟨rfl, hw1⟩; obtain rfl := hw1.symm)
                      go_roundg (gk - 1)
                      case measure => omega
                      case rel => exact ⟨k + 1, ⟨us, dot, true, nd + 1, nm + 1, dp, m * 16 + x, tr⟩, by omega, congrArg (Value.int .u64) (by have := hx3.out; dsimp only; omega), rfl, by go_num, HS, by omega, HO, rfl, rfl, rfl, by go_num, by go_num, rfl, rfl⟩
                    · have f3 : ¬ (48 : Int) ≤ c := by omega
                      have f3b : (c : Int) < 48 := by omega
                      clear hd
                      go_wp2_with (go_at_call 156; refine (Tryz.internal_strconv_lower _ _).mono ?_; rintro e w1 ⟨rfl, hw1⟩; obtain rfl := hw1.symm)
                      go_roundg (gk - 1)
                      case measure => omega
                      case rel => exact ⟨k + 1, ⟨us, dot, true, nd + 1, nm + 1, dp, m * 16 + x, tr⟩, by omega, congrArg (Value.int .u64) (by have := hx3.out; dsimp only; omega), rfl, by go_num, HS, by omega, HO, rfl, rfl, rfl, by go_num, by go_num, rfl, rfl⟩
                  · have f7 : ¬ (nm : Int) < 16 := by omega
                    have HS := Lib.hid ((hss _ (by unfold stp; rw [if_neg h95, if_neg h46, if_neg hd, if_pos ⟨rfl, hlt⟩, if_neg (show ¬ nm < mxd true from hm)])).symm.trans hsc.out)
                    have HO : Hid (Ok true ⟨us, dot, true, nd + 1, nm, dp, m, true⟩ (k + 1)) := Lib.hid ⟨by have := hok.nd; dsimp only at *; omega, hok.nm, hok.m, by have := hok.dp1; dsimp only at *; omega, by have := hok.dp2; dsimp only at *; omega⟩
                    clear hss hsn hsc hok hx hx2 hlt
                    by_cases h3 : 48 ≤ c
                    · have f3 : (48 : Int) ≤ c := by omega
                      have f4 : ¬ (c : Int) ≤ 57 := by omega
                      have f4b : (57 : Int) < c := by omega
                      clear hd
                      go_wp2_with (go_at_call 156; refine (Tryz.internal_strconv_lower _ _).mono ?_; rintro e w1 ⟨rfl, hw1⟩; obtain rfl := hw1.symm)
                      go_roundg (gk - 1)
                      case measure => omega
                      case rel => exact ⟨k + 1, ⟨us, dot, true, nd + 1, nm, dp, m, true⟩, by omega, rfl, rfl, by go_num, HS, by omega, HO, rfl, rfl, rfl, by go_num, rfl, rfl, rfl⟩
                    · have f3 : ¬ (48 : Int) ≤ c := by omega
                      have f3b : (c : Int) < 48 := by omega
                      clear hd
                      go_wp2_with (go_at_call 156; refine (Tryz.internal_strconv_lower _ _).mono ?_; rintro e w1 ⟨rfl, hw1⟩; obtain rfl := hw1.symm)
                      go_roundg (gk - 1)
                      case measure => omega
                      case rel => exact ⟨k + 1, ⟨us, dot, true, nd + 1, nm, dp, m, true⟩, by omega, rfl, rfl, by go_num, HS, by omega, HO, rfl, rfl, rfl, by go_num, rfl, rfl, rfl⟩
                · have hS := hsn (by unfold stp; rw [if_neg h95, if_neg h46, if_neg hd, if_neg (fun h => hlt h.2)])
                  have HS := Lib.hid (hS.symm.trans hsc.out)
                  have HO := Lib.hid hok
                  clear hss hsn hsc hok hS
                  by_cases h3 : 48 ≤ c
                  · have f3 : (48 : Int) ≤ c := by omega
                    have f4 : ¬ (c : Int) ≤ 57 := by omega
                    have f4b : (57 : Int) < c := by omega
                    clear hd
                    by_cases h9 : 97 ≤ lw c
                    · have f10 : ¬ lw c ≤ 102 := by omega
                      have f10b : 102 < lw c := by omega
                      clear hlt
                      go_wp2_with (go_at_call 156; refine (Tryz.internal_strconv_lower _ _).mono ?_; rintro e w1 ⟨rfl, hw1⟩; obtain rfl := hw1.symm)
                      go_meet
                      case rel =>
                        obtain ⟨rfl, rfl⟩ := Prod.mk.inj HS.out
                        exact ⟨rfl, rfl, ⟨k, rfl, Lib.hid rfl, by omega, HO⟩, rfl, rfl, rfl, rfl, rfl, rfl, rfl⟩
                    · have f9 : ¬ 97 ≤ lw c := by omega
                      have f9b : lw c < 97 := by omega
                      clear hlt
                      go_wp2_with (go_at_call 156; refine (Tryz.internal_strconv_lower _ _).mono ?_; rintro e w1 ⟨rfl, hw1⟩; obtain rfl := hw1.symm)
                      go_meet
                      case rel =>
                        obtain ⟨rfl, rfl⟩ := Prod.mk.inj HS.out
                        exact ⟨rfl, rfl, ⟨k, rfl, Lib.hid rfl, by omega, HO⟩, rfl, rfl, rfl, rfl, rfl, rfl, rfl⟩
                  · have f3 : ¬ (48 : Int) ≤ c := by omega
                    have f3b : (c : Int) < 48 := by omega
                    clear hd
                    by_cases h9 : 97 ≤ lw c
                    · have f10 : ¬ lw c ≤ 102 := by omega
                      have f10b : 102 < lw c := by omega
                      clear hlt
                      go_wp2_with (go_at_call 156; refine (Tryz.internal_strconv_lower _ _).mono ?_; rintro e w1 ⟨rfl, hw1⟩; obtain rfl := hw1.symm)
                      go_meet
                      case rel =>
                        obtain ⟨rfl, rfl⟩ := Prod.mk.inj HS.out
                        exact ⟨rfl, rfl, ⟨k, rfl, Lib.hid rfl, by omega, HO⟩, rfl, rfl, rfl, rfl, rfl, rfl, rfl⟩
                    · have f9 : ¬ 97 ≤ lw c := by omega
                      have f9b : lw c < 97 := by omega
                      clear hlt
                      go_wp2_with (go_at_call 156; refine (Tryz.internal_strconv_lower _ _).mono ?_; rintro e w1 ⟨rfl, hw1⟩; obtain rfl := hw1.symm)
                      go_meet
                      case rel =>
                        obtain ⟨rfl, rfl⟩ := Prod.mk.inj HS.out
                        exact ⟨rfl, rfl, ⟨k, rfl, Lib.hid rfl, by omega, HO⟩, rfl, rfl, rfl, rfl, rfl, rfl, rfl⟩
        · have hS := @scan_end true s.data.toList k ⟨us, dot, sd, nd, nm, dp, m, tr⟩ (by simp; omega)
          have HS := Lib.hid (hS.symm.trans hsc.out)
          have HO := Lib.hid hok
          have hkk : k = s.size := by omega
          clear hS hsc hok
          subst hkk
          go_wp2_with fail
          go_meet
          case rel =>
            obtain ⟨rfl, rfl⟩ := Prod.mk.inj HS.out
            exact ⟨rfl, rfl, ⟨s.size, rfl, Lib.hid rfl, by omega, HO⟩, rfl, rfl, rfl, rfl, rfl, rfl, rfl⟩
    case rest =>
      obtain ⟨rfl, rfl, ⟨k, rfl, hrF, hk, hO⟩, rfl, rfl, rfl, rfl, rfl, rfl, hww⟩ := hcut
      subst hww
      clear hsc HI
      obtain ⟨us, dot, sd, nd, nm, dp, m, tr⟩ := sF
      go_step
      exact rfTail_x' s hs k hk rF hrF.out true us dot sd nd nm dp m tr hO.out w
end Go.Proofs.YtjpiplplohapnaaGreatDoor
namespace Go.Proofs.YtjpiplplohapnaaGreatDoor
open Go.RowKit Go.Proofs.YtjpiplplohapnaaGreatDoorW.PrintWords Rf Ah
def erW : Option Int → Value
  | none => .nilIface
  | some c => .iface 113 (.int .i64 c)
def ErOk (er : Option Int) : Prop := er = none ∨ er = some 1 ∨ er = some 2
def AtPost (R : Nat → Int → Option Int → Prop) (w : World) (e : Ending) (w' : World) : Prop :=
  ∃ x n er, R x n er ∧ ErOk er ∧ e = .returned (.tuple #[.float .f64 x, .int .i64 n, erW er]) ∧ Below w.heap.size w w'
def PfPost (R : Nat → Option Int → Prop) (w : World) (e : Ending) (w' : World) : Prop :=
  ∃ x er, R x er ∧ ErOk er ∧ e = .returned (.tuple #[.float .f64 x, erW er]) ∧ Below w.heap.size w w'
def whole (s : ByteArray) (R : Nat → Int → Option Int → Prop) (x : Nat) (er : Option Int) : Prop :=
  (R x s.size er) ∨ (x = 0 ∧ er = some 2 ∧ ∃ y n r, R y n r ∧ n ≠ (s.size : Int))
set_option maxRecDepth 100000 in
set_option maxHeartbeats 1000000 in
theorem prefix_of (s : ByteArray) (R : Nat → Int → Option Int → Prop) (w : World) (h : Calls Tryz.prog 112 #[.string s] w (AtPost R w)) : Calls Tryz.prog 87 #[.string s, .int .i64 64] w (AtPost R w) := by
  go_enter Tryz.func87, Tryz.ntmps87
  go_wp2_with fail
  refine h.mono ?_
  rintro e w1 ⟨x, n, er, hR, he, rfl, hb1⟩
  have H := Lib.hid hR
  have HE := Lib.hid he
  clear hR he
  go_wp2_with fail
  go_ret3
  exact ⟨x, n, er, H.out, HE.out, rfl, hb1⟩
set_option maxRecDepth 100000 in
set_option maxHeartbeats 1000000 in
theorem iparse_of (s : ByteArray) (R : Nat → Int → Option Int → Prop) (w : World) (h : Calls Tryz.prog 112 #[.string s] w (AtPost R w)) : Calls Tryz.prog 60 #[.string s, .int .i64 64] w (PfPost (whole s R) w) := by
  have h' := prefix_of s R w h
  clear h
  go_enter Tryz.func60, Tryz.ntmps60
  go_wp2_with fail
  refine h'.mono ?_
  rintro e w1 ⟨x, n, er, hR, he, rfl, hb1⟩
  have H := Lib.hid hR
  have HE := Lib.hid he
  clear hR he h'
  by_cases hn : n = (s.size : Int)
  · have f1 : (n != (s.size : Int)) = false := by simp [hn]
    have HN := Lib.hid hn
    clear hn
    go_wp2_with fail
    go_ret2
    exact ⟨x, er, Or.inl (HN.out ▸ H.out), HE.out, rfl, hb1⟩
  · have f1 : (n != (s.size : Int)) = true := by simp; omega
    have HN := Lib.hid hn
    clear hn
    go_wp2_with fail
    go_ret2
    exact ⟨0, some 2, Or.inr ⟨rfl, rfl, x, n, er, H.out, HN.out⟩, Or.inr (Or.inr rfl), rfl, hb1⟩
def SpPost (R : Nat → Option Int → Prop) (w : World) (e : Ending) (w' : World) : Prop :=
  ∃ x er, R x er ∧ ErOk er ∧ Below w.heap.size w w' ∧ ((er = none ∧ e = .returned (.tuple #[.float .f64 x, .nilIface])) ∨ (er ≠ none ∧ ∃ N : Nat, e = .returned (.tuple #[.float .f64 x, .iface 114 (.pointer (some ⟨N, 0, none⟩))])))
set_option maxRecDepth 100000 in
set_option maxHeartbeats 1000000 in
theorem sparse_of (s : ByteArray) (hs : s.size ≤ 1000) (R : Nat → Option Int → Prop) (w : World) (hL : Laid w) (h : Calls Tryz.prog 60 #[.string s, .int .i64 64] w (PfPost R w)) : Calls Tryz.prog 24 #[.string s, .int .i64 64] w (SpPost R w) := by
  go_enter Tryz.func24, Tryz.ntmps24
  go_wp2_with fail
  refine h.mono ?_
  rintro e w1 ⟨x, er, hR, he, rfl, hb1⟩
  have H := Lib.hid hR
  have hL1 := hL.below hb1
  clear hR h hL
  rcases he with rfl | rfl | rfl
  · have e0 : erW none = .nilIface := rfl
    go_wp2_with fail
    go_ret2
    exact ⟨x, none, H.out, Or.inl rfl, hb1, Or.inl ⟨rfl, rfl⟩⟩
  · have e0 : erW (some 1) = .iface 113 (.int .i64 1) := rfl
    obtain ⟨te, pe, hv⟩ := hL1.rng
    have hv' := World.var?_cell gRng hv 0
    have HT := Lib.hid (Tryz.strconv_toError_range ⟨#[80, 97, 114, 115, 101, 70, 108, 111, 97, 116]⟩ s 0 64 (.iface te pe) w1 (by omega) (by simpa using hv') (Or.inr ⟨te, pe, rfl⟩))
    clear hL1 hv hv'
    go_wp2_with fail
    refine HT.out.mono ?_
    rintro e w2 ⟨N, rfl, -, -, hb2⟩
    have hb := hb1.trans (hb2.mono hb1.size)
    go_wp2_with fail
    go_ret2
    exact ⟨x, some 1, H.out, Or.inr (Or.inl rfl), hb, Or.inr ⟨by simp, N, rfl⟩⟩
  · have e0 : erW (some 2) = .iface 113 (.int .i64 2) := rfl
    obtain ⟨te, pe, hv⟩ := hL1.syn
    have hv' := World.var?_cell gSyn hv 0
    have HT := Lib.hid (Tryz.strconv_toError_syntax ⟨#[80, 97, 114, 115, 101, 70, 108, 111, 97, 116]⟩ s 0 64 (.iface te pe) w1 (by omega) (by simpa using hv') (Or.inr ⟨te, pe, rfl⟩))
    clear hL1 hv hv'
    go_wp2_with fail
    refine HT.out.mono ?_
    rintro e w2 ⟨N, rfl, -, -, hb2⟩
    have hb := hb1.trans (hb2.mono hb1.size)
    go_wp2_with fail
    go_ret2
    exact ⟨x, some 2, H.out, Or.inr (Or.inr rfl), hb, Or.inr ⟨by simp, N, rfl⟩⟩
def HexR (ng : Bool) (s : ByteArray) (o : Option Out) (x : Nat) (n : Int) (er : Option Int) : Prop :=
  x < 18446744073709551616 ∧ match o with
    | none => er = some 2
    | some q => n = ((s.size - q.rest.length : Nat) : Int) ∧ ((q.us = true ∧ x = 0 ∧ er = some 2) ∨ (x = (ah q.m q.e ng q.tr).1 ∧ er = if (ah q.m q.e ng q.tr).2 then some 1 else none))
set_option maxRecDepth 100000 in
set_option maxHeartbeats 2000000 in
theorem atof64_hex (ng : Bool) (s : ByteArray) (hs : s.size ≤ 1000) (o : Option Out) (hsp : ∀ w, Calls Tryz.prog 141 #[.string s] w (NoSpecial w)) (hrf : ∀ w, Calls Tryz.prog 142 #[.string s] w (RfPost ng true s o w))
    (hq : ∀ q, o = some q → q.m < 18446744073709551616 ∧ -300000 ≤ q.e ∧ q.e ≤ 300000) (w : World) (hL : LaidB w) : Calls Tryz.prog 112 #[.string s] w (AtPost (HexR ng s o) w) := by
  have HRF := Lib.hid hrf
  clear hrf
  have HQ := Lib.hid hq
  clear hq
  go_enter Tryz.func112, Tryz.ntmps112
  go_wp2_with fail
  refine (hsp _).mono ?_
  rintro e w' ⟨rfl, hww⟩
  obtain rfl := hww.symm
  clear hww hsp
  go_wp2_with fail
  refine (HRF.out _).mono ?_
  rintro e w' ⟨hww, h⟩
  obtain rfl := hww.symm
  clear hww HRF
  cases o with
  | none =>
    obtain ⟨m, x, i, n, t, hh, rfl⟩ := h
    clear HQ
    go_wp2_with fail
    go_ret3
    exact ⟨0, i, some 2, ⟨by omega, rfl⟩, Or.inr (Or.inr rfl), rfl, Below.refl _ _⟩
  | some q =>
    obtain ⟨ok, hok, rfl⟩ := h
    obtain ⟨hq1, hq2, hq3⟩ := HQ.out q rfl
    obtain ⟨qm, qe, qt, qu, qr⟩ := q
    dsimp only at hq1 hq2 hq3 hok ⊢
    clear HQ
    obtain ⟨n, hn⟩ : ∃ n, n = s.size - qr.length := ⟨_, rfl⟩
    have hns : n ≤ s.size := by omega
    have HN := Lib.hid hn
    rw [← hn]
    clear hn
    have HOK := Lib.hid hok
    clear hok
    cases ok
    · go_wp2_with fail
      go_ret3
      exact ⟨0, n, some 2, ⟨by omega, by rw [HN.out], Or.inl ⟨by cases hu : qu with | true => rfl | false => exact absurd (HOK.out hu) (by simp), rfl, rfl⟩⟩, Or.inr (Or.inr rfl), rfl, Below.refl _ _⟩
    · have HA := Lib.hid (atofHex_calls (s.extract 0 n) qm hq1 qe hq2 hq3 ng qt w hL)
      clear hL
      have hnsi : (n : Int) ≤ s.size := by omega
      go_wp2_with fail
      refine HA.out.mono ?_
      rintro e w1 ⟨rfl, hb1⟩
      have hlt := ah_lt qm qe ng qt
      obtain ⟨r, hr⟩ : ∃ r, r = ah qm qe ng qt := ⟨_, rfl⟩
      rw [← hr] at hlt ⊢
      have HR := Lib.hid hr
      clear hr HA
      obtain ⟨x, er⟩ := r
      cases er
      · go_wp2_with fail
        go_ret3
        exact ⟨x, n, none, ⟨hlt, by rw [HN.out], Or.inr ⟨by rw [← HR.out], by rw [← HR.out]; rfl⟩⟩, Or.inl rfl, rfl, hb1⟩
      · go_wp2_with fail
        go_ret3
        exact ⟨x, n, some 1, ⟨hlt, by rw [HN.out], Or.inr ⟨by rw [← HR.out], by rw [← HR.out]; rfl⟩⟩, Or.inr (Or.inl rfl), rfl, hb1⟩
end Go.Proofs.YtjpiplplohapnaaGreatDoor
