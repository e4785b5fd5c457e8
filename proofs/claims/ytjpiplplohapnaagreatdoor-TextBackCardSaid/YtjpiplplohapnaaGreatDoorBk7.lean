/- TextBack: each number has one hexadecimal text and each such text is one number's: the law is true of every two floats and every string. Conditions: those of the given card alone. -/
import Derived.Test.YtjpiplplohapnaaGreatDoorBk6
import Derived.Test.YtjpiplplohapnaaGreatDoorBk5
import Derived.Test.YtjpiplplohapnaaGreatDoorBk4
import Derived.Test.YtjpiplplohapnaaGreatDoorTie
import Derived.ProofKit
import Derived.LaidMore
import Derived.OpenShut
import Derived.Stop.Joined
import Derived.Stop.LaidErr
import Derived.Deep.DeepLaidRun
import Derived.SizedLaws
import Derived.HandedShaped
import Derived.Test.YtjpiplplohapnaaGreatDoorCards
import Derived.Lay
import Derived.SevenTiedAt
/- Walks of ParseFloat (2): readFloat. Printed by wip/tools/genrf2.py. -/
namespace Go.Proofs.YtjpiplplohapnaaGreatDoor
open Go.RowKit Go.Proofs.YtjpiplplohapnaaGreatDoorW.PrintWords Rf
set_option maxRecDepth 100000 in
set_option maxHeartbeats 8000000 in
theorem readFloat_nx (s : ByteArray) (hs : s.size ≤ 1000) (h0 : 3 < s.size) (h45 : s[0].toNat = 45) (h48 : s[1].toNat = 48) (h120 : s[2].toNat = 120) (w : World) : Calls Tryz.prog 142 #[.string s] w (RfPost true true s (fin true (scan true (s.data.toList.drop 3) st0).1 (scan true (s.data.toList.drop 3) st0).2) w) := by
  obtain ⟨sF, rF, hsc⟩ : ∃ sF rF, scan true (s.data.toList.drop 3) st0 = (sF, rF) := ⟨_, _, rfl⟩
  rw [hsc]
  dsimp only
  have hne : ¬ s = ByteArray.empty := by rintro rfl; simp at h0
  have hz0 : 0 < s.size := by omega
  have e0 : (s[0].toNat : Int) = 45 := by rw [h45]; rfl
  have hh : (1 : Int) + 2 < s.size := by omega
  have hh2 : (3 : Int) < s.size := by omega
  have hi1 : 2 < s.size := by omega
  have hi0 : 1 < s.size := by omega
  have e1 : (s[1].toNat : Int) = 48 := by rw [h48]; rfl
  have e2 : (s[2].toNat : Int) = 120 := by rw [h120]; rfl
  have e3 : Go.bits .or .u8 120 32 = 120 := by decide +kernel
  have hI0 : 3 ≤ s.size := by omega
  clear h0 h45 h48 h120
  go_enter Tryz.func142, Tryz.ntmps142
  go_wp2_with fail
  go_step3
  go_upto_region 12 with (fail)
  go_cut [54] (fun v54 w' => v54 = .bool true ∧ w = w')
  case first =>
    go_wp2_with (go_at_call 156; refine (Tryz.internal_strconv_lower _ _).mono ?_; rintro e w1 ⟨rfl, hw1⟩; obtain rfl := hw1.symm)
    go_meet
    case rel => exact ⟨rfl, rfl⟩
  case rest =>
    obtain ⟨rfl, rfl⟩ := hcut
    clear e0 e1 e2 e3 hh hh2 hi1
    go_wp2_with fail
    go_step3
    go_upto_block 1 with (fail)
    have HI := Lib.hid (ok0 true 3)
    go_cut [2, 5, 7, 9, 13, 14, 15, 16, 17] (fun v2 v5 v7 v9 v13 v14 v15 v16 v17 w' => v2 = .int .u64 sF.m ∧ v5 = .bool sF.tr ∧ (∃ k : Nat, v7 = .int .i64 k ∧ Hid (s.data.toList.drop k = rF) ∧ k ≤ s.size ∧ Hid (Ok true sF k)) ∧ v9 = .bool sF.us ∧ v13 = .bool sF.dot ∧ v14 = .bool sF.sd ∧ v15 = .int .i64 sF.nd ∧ v16 = .int .i64 sF.nm ∧ v17 = .int .i64 sF.dp ∧ w = w')
    case first =>
      go_wp2_with fail
      have Hsc := Lib.hid hsc
      clear hsc
      go_loopg [2, 5, 7, 9, 13, 14, 15, 16, 17] (s.size - 3) (fun gn v2 v5 v7 v9 v13 v14 v15 v16 v17 w' => ∃ (k : Nat) (t : St), gn + k = s.size ∧ v2 = .int .u64 t.m ∧ v5 = .bool t.tr ∧ v7 = .int .i64 k ∧ Hid (scan true (s.data.toList.drop k) t = (sF, rF)) ∧ k ≤ s.size ∧ Hid (Ok true t k) ∧ v9 = .bool t.us ∧ v13 = .bool t.dot ∧ v14 = .bool t.sd ∧ v15 = .int .i64 t.nd ∧ v16 = .int .i64 t.nm ∧ v17 = .int .i64 t.dp ∧ w = w')
      case atStart => exact ⟨3, st0, by omega, rfl, rfl, rfl, Hsc, by omega, HI, rfl, rfl, rfl, rfl, rfl, rfl, rfl⟩
      case round =>
        obtain ⟨k, t, hg, rfl, rfl, rfl, hsc, hk, hok, rfl, rfl, rfl, rfl, rfl, rfl, rfl⟩ := hrel
        obtain ⟨us, dot, sd, nd, nm, dp, m, tr⟩ := t
        have hok := hok.out
        clear Hsc HI
        by_cases hkl : k < s.size
        · have hl : k < s.data.toList.length := by simpa using hkl
          have hsk : ((s[k].toNat : Nat) : Int) = ((s.data.toList[k].toNat : Nat) : Int) := rfl
          have hss := fun t' => @scan_some true s.data.toList k ⟨us, dot, sd, nd, nm, dp, m, tr⟩ t' hl
          have hsn := @scan_none true s.data.toList k ⟨us, dot, sd, nd, nm, dp, m, tr⟩ hl
          have hc256 : s.data.toList[k].toNat < 256 := UInt8.toNat_lt _
          obtain ⟨c, hc⟩ : ∃ c, c = s.data.toList[k].toNat := ⟨_, rfl⟩
          rw [← hc] at hsk hss hsn hc256
          clear hc
          have hlw : Go.bits .or .u8 (c : Int) 32 = lw c := rfl
          have hlb := lw_range c
          have hld := lw_digit c
          by_cases h95 : c = 95
          · have f1 : ((c : Int) == 95) = true := by simp [h95]
            clear hlw hlb hld
            have HS := Lib.hid ((hss _ (by unfold stp; rw [if_pos h95])).symm.trans hsc.out)
            have HO : Hid (Ok true ⟨true, dot, sd, nd, nm, dp, m, tr⟩ (k + 1)) := Lib.hid ⟨by have := hok.nd; dsimp only at *; omega, hok.nm, hok.m, by have := hok.dp1; dsimp only at *; omega, by have := hok.dp2; dsimp only at *; omega⟩
            clear hss hsn hsc hok
            go_wp2_with (go_at_call 156; refine (Tryz.internal_strconv_lower _ _).mono ?_; rintro e w1 ⟨rfl, hw1⟩; obtain rfl := hw1.symm)
            go_roundg (gk - 1)
            case measure => omega
            case rel => exact ⟨k + 1, ⟨true, dot, sd, nd, nm, dp, m, tr⟩, by omega, rfl, rfl, by go_num, HS, by omega, HO, rfl, rfl, rfl, rfl, rfl, rfl, rfl⟩
          · have f1 : ((c : Int) == 95) = false := by simp; omega
            by_cases h46 : c = 46
            · have f2 : ((c : Int) == 46) = true := by simp [h46]
              clear hlw hlb hld
              cases dot
              ·
                have HS := Lib.hid ((hss _ (by unfold stp; rw [if_neg h95, if_pos h46]; rfl)).symm.trans hsc.out)
                have HO : Hid (Ok true ⟨us, true, sd, nd, nm, nd, m, tr⟩ (k + 1)) := Lib.hid ⟨by have := hok.nd; dsimp only at *; omega, hok.nm, hok.m, by have := hok.nd; dsimp only at *; omega, by have := hok.nd; dsimp only at *; omega⟩
                clear hss hsn hsc hok
                go_wp2_with (go_at_call 156; refine (Tryz.internal_strconv_lower _ _).mono ?_; rintro e w1 ⟨rfl, hw1⟩; obtain rfl := hw1.symm)
                go_roundg (gk - 1)
                case measure => omega
                case rel => exact ⟨k + 1, ⟨us, true, sd, nd, nm, nd, m, tr⟩, by omega, rfl, rfl, by go_num, HS, by omega, HO, rfl, rfl, rfl, rfl, rfl, rfl, rfl⟩
              ·
                have HS := Lib.hid ((hsn (by unfold stp; rw [if_neg h95, if_pos h46]; rfl)).symm.trans hsc.out)
                have HO := Lib.hid hok
                clear hss hsn hsc hok
                go_wp2_with (go_at_call 156; refine (Tryz.internal_strconv_lower _ _).mono ?_; rintro e w1 ⟨rfl, hw1⟩; obtain rfl := hw1.symm)
                go_meet
                case rel =>
                  obtain ⟨rfl, rfl⟩ := Prod.mk.inj HS.out
                  exact ⟨rfl, rfl, ⟨k, rfl, Lib.hid rfl, by omega, HO⟩, rfl, rfl, rfl, rfl, rfl, rfl, rfl⟩
            · have f2 : ((c : Int) == 46) = false := by simp; omega
              by_cases hd : 48 ≤ c ∧ c ≤ 57
              · have f3 : (48 : Int) ≤ c := by omega
                have f4 : (c : Int) ≤ 57 := by omega
                clear hlw hlb hld
                by_cases hz : c = 48 ∧ nd = 0
                · have f5 : ((c : Int) == 48) = true := by simp [hz.1]
                  have f6 : ((nd : Int) == 0) = true := by simp [hz.2]
                  have hw : IntKind.i64.wrap (dp - 1) = dp - 1 := by
                    have := hok.dp1
                    have := hok.dp2
                    dsimp only at *
                    rw [Go.IntKind.wrap_i64]; omega
                  have HS := Lib.hid ((hss _ (by unfold stp; rw [if_neg h95, if_neg h46, if_pos hd, if_pos hz])).symm.trans hsc.out)
                  have HO : Hid (Ok true ⟨us, dot, true, nd, nm, dp - 1, m, tr⟩ (k + 1)) := Lib.hid ⟨by have := hok.nd; dsimp only at *; omega, hok.nm, hok.m, by have := hok.dp1; dsimp only at *; omega, by have := hok.dp2; dsimp only at *; omega⟩
                  clear hss hsn hsc hok hz hd
                  go_wp2_with (go_at_call 156; refine (Tryz.internal_strconv_lower _ _).mono ?_; rintro e w1 ⟨rfl, hw1⟩; obtain rfl := hw1.symm)
                  go_roundg (gk - 1)
                  case measure => omega
                  case rel => exact ⟨k + 1, ⟨us, dot, true, nd, nm, dp - 1, m, tr⟩, by omega, rfl, rfl, by go_num, HS, by omega, HO, rfl, rfl, rfl, rfl, rfl, rfl, rfl⟩
                · have hnd : nd < 1000000 := by have := hok.nd; dsimp only at *; omega
                  have hnm : nm ≤ 16 := hok.nm
                  have hw15 : IntKind.i64.wrap ((nd : Int) + 1) = (nd : Int) + 1 := by rw [Go.IntKind.wrap_i64]; omega
                  have hw16 : IntKind.i64.wrap ((nm : Int) + 1) = (nm : Int) + 1 := by rw [Go.IntKind.wrap_i64]; omega
                  by_cases hm : nm < 16
                  · have f7 : (nm : Int) < 16 := by omega
                    have hroom := hok.room (d := c - 48) hm (by show c - 48 < 16; omega)
                    have hmb : m * 16 + (c - 48) < 18446744073709551616 := Nat.lt_of_lt_of_le hroom.1 hroom.2
                    have hw2 : IntKind.u64.wrap ((m : Int) * 16) = (m : Int) * 16 := by rw [Go.IntKind.wrap_u64]; omega
                    have hw3 : IntKind.u64.wrap ((m : Int) * 16 + ((c : Int) - 48)) = (m : Int) * 16 + ((c : Int) - 48) := by rw [Go.IntKind.wrap_u64]; omega
                    have hw4 : IntKind.u8.wrap ((c : Int) - 48) = (c : Int) - 48 := by rw [Go.IntKind.wrap_u8]; omega
                    have hw5 : IntKind.u64.wrap ((c : Int) - 48) = (c : Int) - 48 := by rw [Go.IntKind.wrap_u64]; omega
                    have hw6 : ((c : Int) - 48) % 256 = (c : Int) - 48 := by omega
                    have HS := Lib.hid ((hss _ (by unfold stp; rw [if_neg h95, if_neg h46, if_pos hd, if_neg hz, if_pos (show nm < mxd true from hm)])).symm.trans hsc.out)
                    have HO : Hid (Ok true ⟨us, dot, true, nd + 1, nm + 1, dp, m * 16 + (c - 48), tr⟩ (k + 1)) := Lib.hid ⟨by have := hok.nd; dsimp only at *; omega, hm, hroom.1, by have := hok.dp1; dsimp only at *; omega, by have := hok.dp2; dsimp only at *; omega⟩
                    clear hss hsn hsc hok hroom
                    by_cases h48 : c = 48
                    · have f5 : ((c : Int) == 48) = true := by simp [h48]
                      have f6 : ((nd : Int) == 0) = false := by simp; omega
                      clear hz hd h48
                      go_wp2_with (go_at_call 156; refine (Tryz.internal_strconv_lower _ _).mono ?_; rintro e w1 ⟨rfl, hw1⟩; obtain rfl := hw1.symm)
                      go_roundg (gk - 1)
                      case measure => omega
                      case rel => exact ⟨k + 1, ⟨us, dot, true, nd + 1, nm + 1, dp, m * 16 + (c - 48), tr⟩, by omega, congrArg (Value.int .u64) (by dsimp only; omega), rfl, by go_num, HS, by omega, HO, rfl, rfl, rfl, by go_num, by go_num, rfl, rfl⟩
                    · have f5 : ((c : Int) == 48) = false := by simp; omega
                      clear hz hd h48
                      go_wp2_with (go_at_call 156; refine (Tryz.internal_strconv_lower _ _).mono ?_; rintro e w1 ⟨rfl, hw1⟩; obtain rfl := hw1.symm)
                      go_roundg (gk - 1)
                      case measure => omega
                      case rel => exact ⟨k + 1, ⟨us, dot, true, nd + 1, nm + 1, dp, m * 16 + (c - 48), tr⟩, by omega, congrArg (Value.int .u64) (by dsimp only; omega), rfl, by go_num, HS, by omega, HO, rfl, rfl, rfl, by go_num, by go_num, rfl, rfl⟩
                  · have f7 : ¬ (nm : Int) < 16 := by omega
                    have HS := Lib.hid ((hss _ (by unfold stp; rw [if_neg h95, if_neg h46, if_pos hd, if_neg hz, if_neg (show ¬ nm < mxd true from hm)])).symm.trans hsc.out)
                    have HO : Hid (Ok true ⟨us, dot, true, nd + 1, nm, dp, m, tr || decide (c ≠ 48)⟩ (k + 1)) := Lib.hid ⟨by have := hok.nd; dsimp only at *; omega, hok.nm, hok.m, by have := hok.dp1; dsimp only at *; omega, by have := hok.dp2; dsimp only at *; omega⟩
                    clear hss hsn hsc hok
                    by_cases h48 : c = 48
                    · have f5 : ((c : Int) == 48) = true := by simp [h48]
                      have f8 : ((c : Int) != 48) = false := by simp [h48]
                      have f6 : ((nd : Int) == 0) = false := by simp; omega
                      have ht : (tr || decide (c ≠ 48)) = tr := by simp [h48]
                      rw [ht] at HS HO
                      clear hz hd h48 ht
                      go_wp2_with (go_at_call 156; refine (Tryz.internal_strconv_lower _ _).mono ?_; rintro e w1 ⟨rfl, hw1⟩; obtain rfl := hw1.symm)
                      go_roundg (gk - 1)
                      case measure => omega
                      case rel => exact ⟨k + 1, ⟨us, dot, true, nd + 1, nm, dp, m, tr⟩, by omega, rfl, rfl, by go_num, HS, by omega, HO, rfl, rfl, rfl, by go_num, rfl, rfl, rfl⟩
                    · have f5 : ((c : Int) == 48) = false := by simp; omega
                      have f8 : ((c : Int) != 48) = true := by simp; omega
                      have ht : (tr || decide (c ≠ 48)) = true := by simp [h48]
                      rw [ht] at HS HO
                      clear hz hd h48 ht
                      go_wp2_with (go_at_call 156; refine (Tryz.internal_strconv_lower _ _).mono ?_; rintro e w1 ⟨rfl, hw1⟩; obtain rfl := hw1.symm)
                      go_roundg (gk - 1)
                      case measure => omega
                      case rel => exact ⟨k + 1, ⟨us, dot, true, nd + 1, nm, dp, m, true⟩, by omega, rfl, rfl, by go_num, HS, by omega, HO, rfl, rfl, rfl, by go_num, rfl, rfl, rfl⟩
              ·
                by_cases hlt : 97 ≤ lw c ∧ lw c ≤ 102
                · have f9 : (97 : Int) ≤ lw c := hlt.1
                  have f10 : lw c ≤ 102 := hlt.2
                  have hnd : nd < 1000000 := by have := hok.nd; dsimp only at *; omega
                  have hnm : nm ≤ 16 := hok.nm
                  have hw15 : IntKind.i64.wrap ((nd : Int) + 1) = (nd : Int) + 1 := by rw [Go.IntKind.wrap_i64]; omega
                  have hw16 : IntKind.i64.wrap ((nm : Int) + 1) = (nm : Int) + 1 := by rw [Go.IntKind.wrap_i64]; omega
                  obtain ⟨x, hx⟩ : ∃ x : Nat, x = (lw c - 87).toNat := ⟨_, rfl⟩
                  have hx2 : (x : Int) = lw c - 87 := by omega
                  by_cases hm : nm < 16
                  · have f7 : (nm : Int) < 16 := by omega
                    have hroom := hok.room (d := x) hm (by show x < 16; omega)
                    have hmb : m * 16 + x < 18446744073709551616 := Nat.lt_of_lt_of_le hroom.1 hroom.2
                    have hw2 : IntKind.u64.wrap ((m : Int) * 16) = (m : Int) * 16 := by rw [Go.IntKind.wrap_u64]; omega
                    have hw3 : IntKind.u64.wrap ((m : Int) * 16 + (lw c - 87)) = (m : Int) * 16 + (lw c - 87) := by rw [Go.IntKind.wrap_u64]; omega
                    have hw4 : (lw c - 97) % 256 = lw c - 97 := by omega
                    have hw5 : (lw c - 97 + 10) % 256 = lw c - 87 := by omega
                    have hw7 : lw c - 97 + 10 = lw c - 87 := by omega
                    have hw8 : IntKind.u8.wrap (lw c - 97) = lw c - 97 := by rw [Go.IntKind.wrap_u8]; omega
                    have hw9 : IntKind.u8.wrap (lw c - 97 + 10) = lw c - 87 := by rw [Go.IntKind.wrap_u8]; omega
                    have hw6 : IntKind.u64.wrap (lw c - 87) = lw c - 87 := by rw [Go.IntKind.wrap_u64]; omega
                    have HS := Lib.hid ((hss _ (by unfold stp; rw [if_neg h95, if_neg h46, if_neg hd, if_pos ⟨rfl, hlt⟩, if_pos (show nm < mxd true from hm), ← hx])).symm.trans hsc.out)
                    have HO : Hid (Ok true ⟨us, dot, true, nd + 1, nm + 1, dp, m * 16 + x, tr⟩ (k + 1)) := Lib.hid ⟨by have := hok.nd; dsimp only at *; omega, hm, hroom.1, by have := hok.dp1; dsimp only at *; omega, by have := hok.dp2; dsimp only at *; omega⟩
                    have hx3 := Lib.hid hx2
                    clear hss hsn hsc hok hroom hx hx2 hlt
                    by_cases h3 : 48 ≤ c
                    · have f3 : (48 : Int) ≤ c := by omega
                      have f4 : ¬ (c : Int) ≤ 57 := by omega
                      have f4b : (57 : Int) < c := by omega
                      clear hd
                      go_wp2_with (go_at_call 156; refine (Tryz.internal_strconv_lower _ _).mono ?_; rintro e w1 ⟨rfl, hw1⟩; obtain rfl := hw1.symm)
                      go_roundg (gk - 1)
                      case measure => omega
                      case rel => exact ⟨k + 1, ⟨us, dot, true, nd + 1, nm + 1, dp, m * 16 + x, tr⟩, by omega, congrArg (Value.int .u64) (by have := hx3.out; dsimp only; omega), rfl, by go_num, HS, by omega, HO, rfl, rfl, rfl, by go_num, by go_num, rfl, rfl⟩
                    · have f3 : ¬ (48 : Int) ≤ c := by omega
                      have f3b : (c : Int) < 48 := by omega
                      clear hd
                      go_wp2_with (go_at_call 156; refine (Tryz.internal_strconv_lower _ _).mono ?_; rintro e w1 ⟨rfl, hw1⟩; obtain rfl := hw1.symm)
                      go_roundg (gk - 1)
                      case measure => omega
                      case rel => exact ⟨k + 1, ⟨us, dot, true, nd + 1, nm + 1, dp, m * 16 + x, tr⟩, by omega, congrArg (Value.int .u64) (by have := hx3.out; dsimp only; omega), rfl, by go_num, HS, by omega, HO, rfl, rfl, rfl, by go_num, by go_num, rfl, rfl⟩
                  · have f7 : ¬ (nm : Int) < 16 := by omega
                    have HS := Lib.hid ((hss _ (by unfold stp; rw [if_neg h95, if_neg h46, if_neg hd, if_pos ⟨rfl, hlt⟩, if_neg (show ¬ nm < mxd true from hm)])).symm.trans hsc.out)
                    have HO : Hid (Ok true ⟨us, dot, true, nd + 1, nm, dp, m, true⟩ (k + 1)) := Lib.hid ⟨by have := hok.nd; dsimp only at *; omega, hok.nm, hok.m, by have := hok.dp1; dsimp only at *; omega, by have := hok.dp2; dsimp only at *; omega⟩
                    clear hss hsn hsc hok hx hx2 hlt
                    by_cases h3 : 48 ≤ c
                    · have f3 : (48 : Int) ≤ c := by omega
                      have f4 : ¬ (c : Int) ≤ 57 := by omega
                      have f4b : (57 : Int) < c := by omega
                      clear hd
                      go_wp2_with (go_at_call 156; refine (Tryz.internal_strconv_lower _ _).mono ?_; rintro e w1 ⟨rfl, hw1⟩; obtain rfl := hw1.symm)
                      go_roundg (gk - 1)
                      case measure => omega
                      case rel => exact ⟨k + 1, ⟨us, dot, true, nd + 1, nm, dp, m, true⟩, by omega, rfl, rfl, by go_num, HS, by omega, HO, rfl, rfl, rfl, by go_num, rfl, rfl, rfl⟩
                    · have f3 : ¬ (48 : Int) ≤ c := by omega
                      have f3b : (c : Int) < 48 := by omega
                      clear hd
                      go_wp2_with (go_at_call 156; refine (Tryz.internal_strconv_lower _ _).mono ?_; rintro e w1 ⟨rfl, hw1⟩; obtain rfl := hw1.symm)
                      go_roundg (gk - 1)
                      case measure => omega
                      case rel => exact ⟨k + 1, ⟨us, dot, true, nd + 1, nm, dp, m, true⟩, by omega, rfl, rfl, by go_num, HS, by omega, HO, rfl, rfl, rfl, by go_num, rfl, rfl, rfl⟩
                · have hS := hsn (by unfold stp; rw [if_neg h95, if_neg h46, if_neg hd, if_neg (fun h => hlt h.2)])
                  have HS := Lib.hid (hS.symm.trans hsc.out)
                  have HO := Lib.hid hok
                  clear hss hsn hsc hok hS
                  by_cases h3 : 48 ≤ c
                  · have f3 : (48 : Int) ≤ c := by omega
                    have f4 : ¬ (c : Int) ≤ 57 := by omega
                    have f4b : (57 : Int) < c := by omega
                    clear hd
                    by_cases h9 : 97 ≤ lw c
                    · have f10 : ¬ lw c ≤ 102 := by omega
                      have f10b : 102 < lw c := by omega
                      clear hlt
                      go_wp2_with (go_at_call 156; refine (Tryz.internal_strconv_lower _ _).mono ?_; rintro e w1 ⟨rfl, hw1⟩; obtain rfl := hw1.symm)
                      go_meet
                      case rel =>
                        obtain ⟨rfl, rfl⟩ := Prod.mk.inj HS.out
                        exact ⟨rfl, rfl, ⟨k, rfl, Lib.hid rfl, by omega, HO⟩, rfl, rfl, rfl, rfl, rfl, rfl, rfl⟩
                    · have f9 : ¬ 97 ≤ lw c := by omega
                      have f9b : lw c < 97 := by omega
                      clear hlt
                      go_wp2_with (go_at_call 156; refine (Tryz.internal_strconv_lower _ _).mono ?_; rintro e w1 ⟨rfl, hw1⟩; obtain rfl := hw1.symm)
                      go_meet
                      case rel =>
                        obtain ⟨rfl, rfl⟩ := Prod.mk.inj HS.out
                        exact ⟨rfl, rfl, ⟨k, rfl, Lib.hid rfl, by omega, HO⟩, rfl, rfl, rfl, rfl, rfl, rfl, rfl⟩
                  · have f3 : ¬ (48 : Int) ≤ c := by omega
                    have f3b : (c : Int) < 48 := by omega
                    clear hd
                    by_cases h9 : 97 ≤ lw c
                    · have f10 : ¬ lw c ≤ 102 := by omega
                      have f10b : 102 < lw c := by omega
                      clear hlt
                      go_wp2_with (go_at_call 156; refine (Tryz.internal_strconv_lower _ _).mono ?_; rintro e w1 ⟨rfl, hw1⟩; obtain rfl := hw1.symm)
                      go_meet
                      case rel =>
                        obtain ⟨rfl, rfl⟩ := Prod.mk.inj HS.out
                        exact ⟨rfl, rfl, ⟨k, rfl, Lib.hid rfl, by omega, HO⟩, rfl, rfl, rfl, rfl, rfl, rfl, rfl⟩
                    · have f9 : ¬ 97 ≤ lw c := by omega
                      have f9b : lw c < 97 := by omega
                      clear hlt
                      go_wp2_with (go_at_call 156; refine (Tryz.internal_strconv_lower _ _).mono ?_; rintro e w1 ⟨rfl, hw1⟩; obtain rfl := hw1.symm)
                      go_meet
                      case rel =>
                        obtain ⟨rfl, rfl⟩ := Prod.mk.inj HS.out
                        exact ⟨rfl, rfl, ⟨k, rfl, Lib.hid rfl, by omega, HO⟩, rfl, rfl, rfl, rfl, rfl, rfl, rfl⟩
        · have hS := @scan_end true s.data.toList k ⟨us, dot, sd, nd, nm, dp, m, tr⟩ (by simp; omega)
          have HS := Lib.hid (hS.symm.trans hsc.out)
          have HO := Lib.hid hok
          have hkk : k = s.size := by omega
          clear hS hsc hok
          subst hkk
          go_wp2_with fail
          go_meet
          case rel =>
            obtain ⟨rfl, rfl⟩ := Prod.mk.inj HS.out
            exact ⟨rfl, rfl, ⟨s.size, rfl, Lib.hid rfl, by omega, HO⟩, rfl, rfl, rfl, rfl, rfl, rfl, rfl⟩
    case rest =>
      obtain ⟨rfl, rfl, ⟨k, rfl, hrF, hk, hO⟩, rfl, rfl, rfl, rfl, rfl, rfl, hww⟩ := hcut
      subst hww
      clear hsc HI
      obtain ⟨us, dot, sd, nd, nm, dp, m, tr⟩ := sF
      go_step
      exact rfTail_x' s hs k hk rF hrF.out true us dot sd nd nm dp m tr hO.out w
end Go.Proofs.YtjpiplplohapnaaGreatDoor
/- Walks of ParseFloat (4): from atof64 up to text.Unhex, at hexadecimal texts. -/
namespace Go.Proofs.YtjpiplplohapnaaGreatDoor
open Go.RowKit Go.Proofs.YtjpiplplohapnaaGreatDoorW.PrintWords Rf Ah

/-- An error of the library's inner package, or none. -/
def erW : Option Int → Value
  | none => .nilIface
  | some c => .iface 113 (.int .i64 c)
def ErOk (er : Option Int) : Prop := er = none ∨ er = some 1 ∨ er = some 2
/-- What atof64 answers: a float, how many bytes were read, an error or none, of which R holds. -/
def AtPost (R : Nat → Int → Option Int → Prop) (w : World) (e : Ending) (w' : World) : Prop :=
  ∃ x n er, R x n er ∧ ErOk er ∧ e = .returned (.tuple #[.float .f64 x, .int .i64 n, erW er]) ∧ Below w.heap.size w w'
/-- What ParseFloat answers. -/
def PfPost (R : Nat → Option Int → Prop) (w : World) (e : Ending) (w' : World) : Prop :=
  ∃ x er, R x er ∧ ErOk er ∧ e = .returned (.tuple #[.float .f64 x, erW er]) ∧ Below w.heap.size w w'
/-- Of the bytes read: all of them, or it is an error. -/
def whole (s : ByteArray) (R : Nat → Int → Option Int → Prop) (x : Nat) (er : Option Int) : Prop :=
  (R x s.size er) ∨ (x = 0 ∧ er = some 2 ∧ ∃ y n r, R y n r ∧ n ≠ (s.size : Int))

set_option maxRecDepth 100000 in
set_option maxHeartbeats 1000000 in
theorem prefix_of (s : ByteArray) (R : Nat → Int → Option Int → Prop) (w : World) (h : Calls Tryz.prog 112 #[.string s] w (AtPost R w)) : Calls Tryz.prog 87 #[.string s, .int .i64 64] w (AtPost R w) := by
  go_enter Tryz.func87, Tryz.ntmps87
  go_wp2_with fail
  refine h.mono ?_
  rintro e w1 ⟨x, n, er, hR, he, rfl, hb1⟩
  have H := Lib.hid hR
  have HE := Lib.hid he
  clear hR he
  go_wp2_with fail
  go_ret3
  exact ⟨x, n, er, H.out, HE.out, rfl, hb1⟩
set_option maxRecDepth 100000 in
set_option maxHeartbeats 1000000 in
theorem iparse_of (s : ByteArray) (R : Nat → Int → Option Int → Prop) (w : World) (h : Calls Tryz.prog 112 #[.string s] w (AtPost R w)) : Calls Tryz.prog 60 #[.string s, .int .i64 64] w (PfPost (whole s R) w) := by
  have h' := prefix_of s R w h
  clear h
  go_enter Tryz.func60, Tryz.ntmps60
  go_wp2_with fail
  refine h'.mono ?_
  rintro e w1 ⟨x, n, er, hR, he, rfl, hb1⟩
  have H := Lib.hid hR
  have HE := Lib.hid he
  clear hR he h'
  by_cases hn : n = (s.size : Int)
  · have f1 : (n != (s.size : Int)) = false := by simp [hn]
    have HN := Lib.hid hn
    clear hn
    go_wp2_with fail
    go_ret2
    exact ⟨x, er, Or.inl (HN.out ▸ H.out), HE.out, rfl, hb1⟩
  · have f1 : (n != (s.size : Int)) = true := by simp; omega
    have HN := Lib.hid hn
    clear hn
    go_wp2_with fail
    go_ret2
    exact ⟨0, some 2, Or.inr ⟨rfl, rfl, x, n, er, H.out, HN.out⟩, Or.inr (Or.inr rfl), rfl, hb1⟩
/-- What strconv.ParseFloat answers: a float and nothing, or a float and an error. -/
def SpPost (R : Nat → Option Int → Prop) (w : World) (e : Ending) (w' : World) : Prop :=
  ∃ x er, R x er ∧ ErOk er ∧ Below w.heap.size w w' ∧ ((er = none ∧ e = .returned (.tuple #[.float .f64 x, .nilIface])) ∨ (er ≠ none ∧ ∃ N : Nat, e = .returned (.tuple #[.float .f64 x, .iface 114 (.pointer (some ⟨N, 0, none⟩))])))
set_option maxRecDepth 100000 in
set_option maxHeartbeats 1000000 in
theorem sparse_of (s : ByteArray) (hs : s.size ≤ 1000) (R : Nat → Option Int → Prop) (w : World) (hL : Laid w) (h : Calls Tryz.prog 60 #[.string s, .int .i64 64] w (PfPost R w)) : Calls Tryz.prog 24 #[.string s, .int .i64 64] w (SpPost R w) := by
  go_enter Tryz.func24, Tryz.ntmps24
  go_wp2_with fail
  refine h.mono ?_
  rintro e w1 ⟨x, er, hR, he, rfl, hb1⟩
  have H := Lib.hid hR
  have hL1 := hL.below hb1
  clear hR h hL
  rcases he with rfl | rfl | rfl
  · have e0 : erW none = .nilIface := rfl
    go_wp2_with fail
    go_ret2
    exact ⟨x, none, H.out, Or.inl rfl, hb1, Or.inl ⟨rfl, rfl⟩⟩
  · have e0 : erW (some 1) = .iface 113 (.int .i64 1) := rfl
    obtain ⟨te, pe, hv⟩ := hL1.rng
    have hv' := World.var?_cell gRng hv 0
    have HT := Lib.hid (Tryz.strconv_toError_range ⟨#[80, 97, 114, 115, 101, 70, 108, 111, 97, 116]⟩ s 0 64 (.iface te pe) w1 (by omega) (by simpa using hv') (Or.inr ⟨te, pe, rfl⟩))
    clear hL1 hv hv'
    go_wp2_with fail
    refine HT.out.mono ?_
    rintro e w2 ⟨N, rfl, -, -, hb2⟩
    have hb := hb1.trans (hb2.mono hb1.size)
    go_wp2_with fail
    go_ret2
    exact ⟨x, some 1, H.out, Or.inr (Or.inl rfl), hb, Or.inr ⟨by simp, N, rfl⟩⟩
  · have e0 : erW (some 2) = .iface 113 (.int .i64 2) := rfl
    obtain ⟨te, pe, hv⟩ := hL1.syn
    have hv' := World.var?_cell gSyn hv 0
    have HT := Lib.hid (Tryz.strconv_toError_syntax ⟨#[80, 97, 114, 115, 101, 70, 108, 111, 97, 116]⟩ s 0 64 (.iface te pe) w1 (by omega) (by simpa using hv') (Or.inr ⟨te, pe, rfl⟩))
    clear hL1 hv hv'
    go_wp2_with fail
    refine HT.out.mono ?_
    rintro e w2 ⟨N, rfl, -, -, hb2⟩
    have hb := hb1.trans (hb2.mono hb1.size)
    go_wp2_with fail
    go_ret2
    exact ⟨x, some 2, H.out, Or.inr (Or.inr rfl), hb, Or.inr ⟨by simp, N, rfl⟩⟩

/-- What atof64 tells of a hexadecimal text, by what readFloat told. -/
def HexR (ng : Bool) (s : ByteArray) (o : Option Out) (x : Nat) (n : Int) (er : Option Int) : Prop :=
  x < 18446744073709551616 ∧ match o with
    | none => er = some 2
    | some q => n = ((s.size - q.rest.length : Nat) : Int) ∧ ((q.us = true ∧ x = 0 ∧ er = some 2) ∨ (x = (ah q.m q.e ng q.tr).1 ∧ er = if (ah q.m q.e ng q.tr).2 then some 1 else none))
set_option maxRecDepth 100000 in
set_option maxHeartbeats 2000000 in
theorem atof64_hex (ng : Bool) (s : ByteArray) (hs : s.size ≤ 1000) (o : Option Out) (hsp : ∀ w, Calls Tryz.prog 141 #[.string s] w (NoSpecial w)) (hrf : ∀ w, Calls Tryz.prog 142 #[.string s] w (RfPost ng true s o w))
    (hq : ∀ q, o = some q → q.m < 18446744073709551616 ∧ -300000 ≤ q.e ∧ q.e ≤ 300000) (w : World) (hL : LaidB w) : Calls Tryz.prog 112 #[.string s] w (AtPost (HexR ng s o) w) := by
  have HRF := Lib.hid hrf
  clear hrf
  have HQ := Lib.hid hq
  clear hq
  go_enter Tryz.func112, Tryz.ntmps112
  go_wp2_with fail
  refine (hsp _).mono ?_
  rintro e w' ⟨rfl, hww⟩
  obtain rfl := hww.symm
  clear hww hsp
  go_wp2_with fail
  refine (HRF.out _).mono ?_
  rintro e w' ⟨hww, h⟩
  obtain rfl := hww.symm
  clear hww HRF
  cases o with
  | none =>
    obtain ⟨m, x, i, n, t, hh, rfl⟩ := h
    clear HQ
    go_wp2_with fail
    go_ret3
    exact ⟨0, i, some 2, ⟨by omega, rfl⟩, Or.inr (Or.inr rfl), rfl, Below.refl _ _⟩
  | some q =>
    obtain ⟨ok, hok, rfl⟩ := h
    obtain ⟨hq1, hq2, hq3⟩ := HQ.out q rfl
    obtain ⟨qm, qe, qt, qu, qr⟩ := q
    dsimp only at hq1 hq2 hq3 hok ⊢
    clear HQ
    obtain ⟨n, hn⟩ : ∃ n, n = s.size - qr.length := ⟨_, rfl⟩
    have hns : n ≤ s.size := by omega
    have HN := Lib.hid hn
    rw [← hn]
    clear hn
    have HOK := Lib.hid hok
    clear hok
    cases ok
    · go_wp2_with fail
      go_ret3
      exact ⟨0, n, some 2, ⟨by omega, by rw [HN.out], Or.inl ⟨by cases hu : qu with | true => rfl | false => exact absurd (HOK.out hu) (by simp), rfl, rfl⟩⟩, Or.inr (Or.inr rfl), rfl, Below.refl _ _⟩
    · have HA := Lib.hid (atofHex_calls (s.extract 0 n) qm hq1 qe hq2 hq3 ng qt w hL)
      clear hL
      have hnsi : (n : Int) ≤ s.size := by omega
      go_wp2_with fail
      refine HA.out.mono ?_
      rintro e w1 ⟨rfl, hb1⟩
      have hlt := ah_lt qm qe ng qt
      obtain ⟨r, hr⟩ : ∃ r, r = ah qm qe ng qt := ⟨_, rfl⟩
      rw [← hr] at hlt ⊢
      have HR := Lib.hid hr
      clear hr HA
      obtain ⟨x, er⟩ := r
      cases er
      · go_wp2_with fail
        go_ret3
        exact ⟨x, n, none, ⟨hlt, by rw [HN.out], Or.inr ⟨by rw [← HR.out], by rw [← HR.out]; rfl⟩⟩, Or.inl rfl, rfl, hb1⟩
      · go_wp2_with fail
        go_ret3
        exact ⟨x, n, some 1, ⟨hlt, by rw [HN.out], Or.inr ⟨by rw [← HR.out], by rw [← HR.out]; rfl⟩⟩, Or.inr (Or.inl rfl), rfl, hb1⟩
end Go.Proofs.YtjpiplplohapnaaGreatDoor
/- Walks of ParseFloat (2): readFloat. Printed by wip/tools/genrf2.py. -/
namespace Go.Proofs.YtjpiplplohapnaaGreatDoor
open Go.RowKit Go.Proofs.YtjpiplplohapnaaGreatDoorW.PrintWords Rf
set_option maxRecDepth 100000 in
set_option maxHeartbeats 8000000 in
theorem readFloat_pd (s : ByteArray) (hs : s.size ≤ 1000) (h0 : 0 < s.size) (h45 : s[0].toNat ≠ 45) (h43 : s[0].toNat ≠ 43) (hnx : ¬ (2 < s.size ∧ (s.data.toList.getD 0 0).toNat = 48 ∧ lw (s.data.toList.getD 1 0).toNat = 120)) (w : World) : Calls Tryz.prog 142 #[.string s] w (RfPost false false s (fin false (scan false (s.data.toList.drop 0) st0).1 (scan false (s.data.toList.drop 0) st0).2) w) := by
  obtain ⟨sF, rF, hsc⟩ : ∃ sF rF, scan false (s.data.toList.drop 0) st0 = (sF, rF) := ⟨_, _, rfl⟩
  rw [hsc]
  dsimp only
  have hne : ¬ s = ByteArray.empty := by rintro rfl; simp at h0
  have hz0 : 0 < s.size := by omega
  obtain ⟨c0, hc0⟩ : ∃ c0 : Nat, s[0].toNat = c0 := ⟨_, rfl⟩
  have e0 : (s[0].toNat : Int) = c0 := by rw [hc0]
  rw [hc0] at h45 h43
  have g1 : ((c0 : Int) == 45) = false := by simp; omega
  have g2 : ((c0 : Int) == 43) = false := by simp; omega
  have hg0 : (s.data.toList.getD 0 0).toNat = c0 := by rw [List.getD_eq_getElem?_getD, List.getElem?_eq_getElem (by simpa using h0)]; exact hc0
  clear h45 h43 hc0
  have hI0 : 0 ≤ s.size := by omega
  clear h0
  go_enter Tryz.func142, Tryz.ntmps142
  go_wp2_with fail
  go_step3
  go_upto_region 12 with (fail)
  go_cut [54] (fun v54 w' => v54 = .bool false ∧ w = w')
  case first =>
    by_cases hl2 : 2 < s.size
    · have hh : (0 : Int) + 2 < s.size := by omega
      have hh2 : (2 : Int) < s.size := by omega
      have hi1 : 1 < s.size := by omega
      obtain ⟨c1, hc1⟩ : ∃ c1 : Nat, s[1].toNat = c1 := ⟨_, rfl⟩
      have e1 : (s[1].toNat : Int) = c1 := by rw [hc1]
      have hg1 : (s.data.toList.getD 1 0).toNat = c1 := by rw [List.getD_eq_getElem?_getD, List.getElem?_eq_getElem (by simpa using hi1)]; exact hc1
      have hno : ¬ (c0 = 48 ∧ lw c1 = 120) := fun h => hnx ⟨hl2, by rw [hg0]; exact h.1, by rw [hg1]; exact h.2⟩
      clear hnx hg0 hg1 hc1
      have hlw : Go.bits .or .u8 (c1 : Int) 32 = lw c1 := rfl
      by_cases h48 : c0 = 48
      · have g3 : ((c0 : Int) == 48) = true := by simp [h48]
        have g4 : (lw c1 == 120) = false := by simp; exact fun h => hno ⟨h48, h⟩
        clear hno h48
        go_wp2_with (go_at_call 156; refine (Tryz.internal_strconv_lower _ _).mono ?_; rintro e w1 ⟨rfl, hw1⟩; obtain rfl := hw1.symm)
        go_meet
        case rel => exact ⟨rfl, rfl⟩
      · have g3 : ((c0 : Int) == 48) = false := by simp; omega
        clear hno h48
        go_wp2_with (go_at_call 156; refine (Tryz.internal_strconv_lower _ _).mono ?_; rintro e w1 ⟨rfl, hw1⟩; obtain rfl := hw1.symm)
        go_meet
        case rel => exact ⟨rfl, rfl⟩
    · have hh : ¬ (0 : Int) + 2 < s.size := by omega
      have hh2 : ¬ (2 : Int) < s.size := by omega
      have hh3 : (s.size : Int) ≤ 2 := by omega
      clear hnx
      go_wp2_with (go_at_call 156; refine (Tryz.internal_strconv_lower _ _).mono ?_; rintro e w1 ⟨rfl, hw1⟩; obtain rfl := hw1.symm)
      go_meet
      case rel => exact ⟨rfl, rfl⟩
  case rest =>
    obtain ⟨rfl, rfl⟩ := hcut
    clear e0 hnx g1 g2 hg0
    go_wp2_with fail
    go_step3
    go_upto_block 1 with (fail)
    have HI := Lib.hid (ok0 false 0)
    go_cut [2, 5, 7, 9, 13, 14, 15, 16, 17] (fun v2 v5 v7 v9 v13 v14 v15 v16 v17 w' => v2 = .int .u64 sF.m ∧ v5 = .bool sF.tr ∧ (∃ k : Nat, v7 = .int .i64 k ∧ Hid (s.data.toList.drop k = rF) ∧ k ≤ s.size ∧ Hid (Ok false sF k)) ∧ v9 = .bool sF.us ∧ v13 = .bool sF.dot ∧ v14 = .bool sF.sd ∧ v15 = .int .i64 sF.nd ∧ v16 = .int .i64 sF.nm ∧ v17 = .int .i64 sF.dp ∧ w = w')
    case first =>
      go_wp2_with fail
      have Hsc := Lib.hid hsc
      clear hsc
      go_loopg [2, 5, 7, 9, 13, 14, 15, 16, 17] (s.size - 0) (fun gn v2 v5 v7 v9 v13 v14 v15 v16 v17 w' => ∃ (k : Nat) (t : St), gn + k = s.size ∧ v2 = .int .u64 t.m ∧ v5 = .bool t.tr ∧ v7 = .int .i64 k ∧ Hid (scan false (s.data.toList.drop k) t = (sF, rF)) ∧ k ≤ s.size ∧ Hid (Ok false t k) ∧ v9 = .bool t.us ∧ v13 = .bool t.dot ∧ v14 = .bool t.sd ∧ v15 = .int .i64 t.nd ∧ v16 = .int .i64 t.nm ∧ v17 = .int .i64 t.dp ∧ w = w')
      case atStart => exact ⟨0, st0, by omega, rfl, rfl, rfl, Hsc, by omega, HI, rfl, rfl, rfl, rfl, rfl, rfl, rfl⟩
      case round =>
        obtain ⟨k, t, hg, rfl, rfl, rfl, hsc, hk, hok, rfl, rfl, rfl, rfl, rfl, rfl, rfl⟩ := hrel
        obtain ⟨us, dot, sd, nd, nm, dp, m, tr⟩ := t
        have hok := hok.out
        clear Hsc HI
        by_cases hkl : k < s.size
        · have hl : k < s.data.toList.length := by simpa using hkl
          have hsk : ((s[k].toNat : Nat) : Int) = ((s.data.toList[k].toNat : Nat) : Int) := rfl
          have hss := fun t' => @scan_some false s.data.toList k ⟨us, dot, sd, nd, nm, dp, m, tr⟩ t' hl
          have hsn := @scan_none false s.data.toList k ⟨us, dot, sd, nd, nm, dp, m, tr⟩ hl
          have hc256 : s.data.toList[k].toNat < 256 := UInt8.toNat_lt _
          obtain ⟨c, hc⟩ : ∃ c, c = s.data.toList[k].toNat := ⟨_, rfl⟩
          rw [← hc] at hsk hss hsn hc256
          clear hc
          by_cases h95 : c = 95
          · have f1 : ((c : Int) == 95) = true := by simp [h95]
            have HS := Lib.hid ((hss _ (by unfold stp; rw [if_pos h95])).symm.trans hsc.out)
            have HO : Hid (Ok false ⟨true, dot, sd, nd, nm, dp, m, tr⟩ (k + 1)) := Lib.hid ⟨by have := hok.nd; dsimp only at *; omega, hok.nm, hok.m, by have := hok.dp1; dsimp only at *; omega, by have := hok.dp2; dsimp only at *; omega⟩
            clear hss hsn hsc hok
            go_wp2_with fail
            go_roundg (gk - 1)
            case measure => omega
            case rel => exact ⟨k + 1, ⟨true, dot, sd, nd, nm, dp, m, tr⟩, by omega, rfl, rfl, by go_num, HS, by omega, HO, rfl, rfl, rfl, rfl, rfl, rfl, rfl⟩
          · have f1 : ((c : Int) == 95) = false := by simp; omega
            by_cases h46 : c = 46
            · have f2 : ((c : Int) == 46) = true := by simp [h46]
              cases dot
              ·
                have HS := Lib.hid ((hss _ (by unfold stp; rw [if_neg h95, if_pos h46]; rfl)).symm.trans hsc.out)
                have HO : Hid (Ok false ⟨us, true, sd, nd, nm, nd, m, tr⟩ (k + 1)) := Lib.hid ⟨by have := hok.nd; dsimp only at *; omega, hok.nm, hok.m, by have := hok.nd; dsimp only at *; omega, by have := hok.nd; dsimp only at *; omega⟩
                clear hss hsn hsc hok
                go_wp2_with fail
                go_roundg (gk - 1)
                case measure => omega
                case rel => exact ⟨k + 1, ⟨us, true, sd, nd, nm, nd, m, tr⟩, by omega, rfl, rfl, by go_num, HS, by omega, HO, rfl, rfl, rfl, rfl, rfl, rfl, rfl⟩
              ·
                have HS := Lib.hid ((hsn (by unfold stp; rw [if_neg h95, if_pos h46]; rfl)).symm.trans hsc.out)
                have HO := Lib.hid hok
                clear hss hsn hsc hok
                go_wp2_with fail
                go_meet
                case rel =>
                  obtain ⟨rfl, rfl⟩ := Prod.mk.inj HS.out
                  exact ⟨rfl, rfl, ⟨k, rfl, Lib.hid rfl, by omega, HO⟩, rfl, rfl, rfl, rfl, rfl, rfl, rfl⟩
            · have f2 : ((c : Int) == 46) = false := by simp; omega
              by_cases hd : 48 ≤ c ∧ c ≤ 57
              · have f3 : (48 : Int) ≤ c := by omega
                have f4 : (c : Int) ≤ 57 := by omega
                by_cases hz : c = 48 ∧ nd = 0
                · have f5 : ((c : Int) == 48) = true := by simp [hz.1]
                  have f6 : ((nd : Int) == 0) = true := by simp [hz.2]
                  have hw : IntKind.i64.wrap (dp - 1) = dp - 1 := by
                    have := hok.dp1
                    have := hok.dp2
                    dsimp only at *
                    rw [Go.IntKind.wrap_i64]; omega
                  have HS := Lib.hid ((hss _ (by unfold stp; rw [if_neg h95, if_neg h46, if_pos hd, if_pos hz])).symm.trans hsc.out)
                  have HO : Hid (Ok false ⟨us, dot, true, nd, nm, dp - 1, m, tr⟩ (k + 1)) := Lib.hid ⟨by have := hok.nd; dsimp only at *; omega, hok.nm, hok.m, by have := hok.dp1; dsimp only at *; omega, by have := hok.dp2; dsimp only at *; omega⟩
                  clear hss hsn hsc hok hz hd
                  go_wp2_with fail
                  go_roundg (gk - 1)
                  case measure => omega
                  case rel => exact ⟨k + 1, ⟨us, dot, true, nd, nm, dp - 1, m, tr⟩, by omega, rfl, rfl, by go_num, HS, by omega, HO, rfl, rfl, rfl, rfl, rfl, rfl, rfl⟩
                · have hnd : nd < 1000000 := by have := hok.nd; dsimp only at *; omega
                  have hnm : nm ≤ 19 := hok.nm
                  have hw15 : IntKind.i64.wrap ((nd : Int) + 1) = (nd : Int) + 1 := by rw [Go.IntKind.wrap_i64]; omega
                  have hw16 : IntKind.i64.wrap ((nm : Int) + 1) = (nm : Int) + 1 := by rw [Go.IntKind.wrap_i64]; omega
                  by_cases hm : nm < 19
                  · have f7 : (nm : Int) < 19 := by omega
                    have hroom := hok.room (d := c - 48) hm (by show c - 48 < 10; omega)
                    have hmb : m * 10 + (c - 48) < 18446744073709551616 := Nat.lt_of_lt_of_le hroom.1 hroom.2
                    have hw2 : IntKind.u64.wrap ((m : Int) * 10) = (m : Int) * 10 := by rw [Go.IntKind.wrap_u64]; omega
                    have hw3 : IntKind.u64.wrap ((m : Int) * 10 + ((c : Int) - 48)) = (m : Int) * 10 + ((c : Int) - 48) := by rw [Go.IntKind.wrap_u64]; omega
                    have hw4 : IntKind.u8.wrap ((c : Int) - 48) = (c : Int) - 48 := by rw [Go.IntKind.wrap_u8]; omega
                    have hw5 : IntKind.u64.wrap ((c : Int) - 48) = (c : Int) - 48 := by rw [Go.IntKind.wrap_u64]; omega
                    have hw6 : ((c : Int) - 48) % 256 = (c : Int) - 48 := by omega
                    have HS := Lib.hid ((hss _ (by unfold stp; rw [if_neg h95, if_neg h46, if_pos hd, if_neg hz, if_pos (show nm < mxd false from hm)])).symm.trans hsc.out)
                    have HO : Hid (Ok false ⟨us, dot, true, nd + 1, nm + 1, dp, m * 10 + (c - 48), tr⟩ (k + 1)) := Lib.hid ⟨by have := hok.nd; dsimp only at *; omega, hm, hroom.1, by have := hok.dp1; dsimp only at *; omega, by have := hok.dp2; dsimp only at *; omega⟩
                    clear hss hsn hsc hok hroom
                    by_cases h48 : c = 48
                    · have f5 : ((c : Int) == 48) = true := by simp [h48]
                      have f6 : ((nd : Int) == 0) = false := by simp; omega
                      clear hz hd h48
                      go_wp2_with fail
                      go_roundg (gk - 1)
                      case measure => omega
                      case rel => exact ⟨k + 1, ⟨us, dot, true, nd + 1, nm + 1, dp, m * 10 + (c - 48), tr⟩, by omega, congrArg (Value.int .u64) (by dsimp only; omega), rfl, by go_num, HS, by omega, HO, rfl, rfl, rfl, by go_num, by go_num, rfl, rfl⟩
                    · have f5 : ((c : Int) == 48) = false := by simp; omega
                      clear hz hd h48
                      go_wp2_with fail
                      go_roundg (gk - 1)
                      case measure => omega
                      case rel => exact ⟨k + 1, ⟨us, dot, true, nd + 1, nm + 1, dp, m * 10 + (c - 48), tr⟩, by omega, congrArg (Value.int .u64) (by dsimp only; omega), rfl, by go_num, HS, by omega, HO, rfl, rfl, rfl, by go_num, by go_num, rfl, rfl⟩
                  · have f7 : ¬ (nm : Int) < 19 := by omega
                    have HS := Lib.hid ((hss _ (by unfold stp; rw [if_neg h95, if_neg h46, if_pos hd, if_neg hz, if_neg (show ¬ nm < mxd false from hm)])).symm.trans hsc.out)
                    have HO : Hid (Ok false ⟨us, dot, true, nd + 1, nm, dp, m, tr || decide (c ≠ 48)⟩ (k + 1)) := Lib.hid ⟨by have := hok.nd; dsimp only at *; omega, hok.nm, hok.m, by have := hok.dp1; dsimp only at *; omega, by have := hok.dp2; dsimp only at *; omega⟩
                    clear hss hsn hsc hok
                    by_cases h48 : c = 48
                    · have f5 : ((c : Int) == 48) = true := by simp [h48]
                      have f8 : ((c : Int) != 48) = false := by simp [h48]
                      have f6 : ((nd : Int) == 0) = false := by simp; omega
                      have ht : (tr || decide (c ≠ 48)) = tr := by simp [h48]
                      rw [ht] at HS HO
                      clear hz hd h48 ht
                      go_wp2_with fail
                      go_roundg (gk - 1)
                      case measure => omega
                      case rel => exact ⟨k + 1, ⟨us, dot, true, nd + 1, nm, dp, m, tr⟩, by omega, rfl, rfl, by go_num, HS, by omega, HO, rfl, rfl, rfl, by go_num, rfl, rfl, rfl⟩
                    · have f5 : ((c : Int) == 48) = false := by simp; omega
                      have f8 : ((c : Int) != 48) = true := by simp; omega
                      have ht : (tr || decide (c ≠ 48)) = true := by simp [h48]
                      rw [ht] at HS HO
                      clear hz hd h48 ht
                      go_wp2_with fail
                      go_roundg (gk - 1)
                      case measure => omega
                      case rel => exact ⟨k + 1, ⟨us, dot, true, nd + 1, nm, dp, m, true⟩, by omega, rfl, rfl, by go_num, HS, by omega, HO, rfl, rfl, rfl, by go_num, rfl, rfl, rfl⟩
              ·
                by_cases h3 : 48 ≤ c
                · have f3 : (48 : Int) ≤ c := by omega
                  have f4 : ¬ (c : Int) ≤ 57 := by omega
                  have f4b : (57 : Int) < c := by omega
                  have HS := Lib.hid ((hsn (by unfold stp; rw [if_neg h95, if_neg h46, if_neg hd, if_neg (fun h => Bool.noConfusion h.1)])).symm.trans hsc.out)
                  have HO := Lib.hid hok
                  clear hss hsn hsc hok hd
                  go_wp2_with fail
                  go_meet
                  case rel =>
                    obtain ⟨rfl, rfl⟩ := Prod.mk.inj HS.out
                    exact ⟨rfl, rfl, ⟨k, rfl, Lib.hid rfl, by omega, HO⟩, rfl, rfl, rfl, rfl, rfl, rfl, rfl⟩
                · have f3 : ¬ (48 : Int) ≤ c := by omega
                  have f3b : (c : Int) < 48 := by omega
                  have HS := Lib.hid ((hsn (by unfold stp; rw [if_neg h95, if_neg h46, if_neg hd, if_neg (fun h => Bool.noConfusion h.1)])).symm.trans hsc.out)
                  have HO := Lib.hid hok
                  clear hss hsn hsc hok hd
                  go_wp2_with fail
                  go_meet
                  case rel =>
                    obtain ⟨rfl, rfl⟩ := Prod.mk.inj HS.out
                    exact ⟨rfl, rfl, ⟨k, rfl, Lib.hid rfl, by omega, HO⟩, rfl, rfl, rfl, rfl, rfl, rfl, rfl⟩
        · have hS := @scan_end false s.data.toList k ⟨us, dot, sd, nd, nm, dp, m, tr⟩ (by simp; omega)
          have HS := Lib.hid (hS.symm.trans hsc.out)
          have HO := Lib.hid hok
          have hkk : k = s.size := by omega
          clear hS hsc hok
          subst hkk
          go_wp2_with fail
          go_meet
          case rel =>
            obtain ⟨rfl, rfl⟩ := Prod.mk.inj HS.out
            exact ⟨rfl, rfl, ⟨s.size, rfl, Lib.hid rfl, by omega, HO⟩, rfl, rfl, rfl, rfl, rfl, rfl, rfl⟩
    case rest =>
      obtain ⟨rfl, rfl, ⟨k, rfl, hrF, hk, hO⟩, rfl, rfl, rfl, rfl, rfl, rfl, hww⟩ := hcut
      subst hww
      clear hsc HI
      obtain ⟨us, dot, sd, nd, nm, dp, m, tr⟩ := sF
      go_step
      exact rfTail_d' s hs k hk rF hrF.out false us dot sd nd nm dp m tr hO.out w
end Go.Proofs.YtjpiplplohapnaaGreatDoor
/- Walks of ParseFloat (2): readFloat. Printed by wip/tools/genrf2.py. -/
namespace Go.Proofs.YtjpiplplohapnaaGreatDoor
open Go.RowKit Go.Proofs.YtjpiplplohapnaaGreatDoorW.PrintWords Rf
set_option maxRecDepth 100000 in
set_option maxHeartbeats 8000000 in
theorem readFloat_nd (s : ByteArray) (hs : s.size ≤ 1000) (h0 : 1 < s.size) (h45 : s[0].toNat = 45) (hnx : ¬ (3 < s.size ∧ (s.data.toList.getD 1 0).toNat = 48 ∧ lw (s.data.toList.getD 2 0).toNat = 120)) (w : World) : Calls Tryz.prog 142 #[.string s] w (RfPost true false s (fin false (scan false (s.data.toList.drop 1) st0).1 (scan false (s.data.toList.drop 1) st0).2) w) := by
  obtain ⟨sF, rF, hsc⟩ : ∃ sF rF, scan false (s.data.toList.drop 1) st0 = (sF, rF) := ⟨_, _, rfl⟩
  rw [hsc]
  dsimp only
  have hne : ¬ s = ByteArray.empty := by rintro rfl; simp at h0
  have hz0 : 0 < s.size := by omega
  have e0 : (s[0].toNat : Int) = 45 := by rw [h45]; rfl
  have hi0 : 1 < s.size := h0
  have hI0 : 1 ≤ s.size := by omega
  clear h0 h45
  go_enter Tryz.func142, Tryz.ntmps142
  go_wp2_with fail
  go_step3
  go_upto_region 12 with (fail)
  go_cut [54] (fun v54 w' => v54 = .bool false ∧ w = w')
  case first =>
    by_cases hl2 : 3 < s.size
    · have hh : (1 : Int) + 2 < s.size := by omega
      have hh2 : (3 : Int) < s.size := by omega
      have hi1 : 2 < s.size := by omega
      obtain ⟨c1, hc1⟩ : ∃ c1 : Nat, s[2].toNat = c1 := ⟨_, rfl⟩
      have e1 : (s[2].toNat : Int) = c1 := by rw [hc1]
      have hg1 : (s.data.toList.getD 2 0).toNat = c1 := by rw [List.getD_eq_getElem?_getD, List.getElem?_eq_getElem (by simpa using hi1)]; exact hc1
      obtain ⟨c0, hc0⟩ : ∃ c0 : Nat, s[1].toNat = c0 := ⟨_, rfl⟩
      have e00 : (s[1].toNat : Int) = c0 := by rw [hc0]
      have hg0 : (s.data.toList.getD 1 0).toNat = c0 := by rw [List.getD_eq_getElem?_getD, List.getElem?_eq_getElem (by simpa using hi0)]; exact hc0
      clear hc0
      have hno : ¬ (c0 = 48 ∧ lw c1 = 120) := fun h => hnx ⟨hl2, by rw [hg0]; exact h.1, by rw [hg1]; exact h.2⟩
      clear hnx hg0 hg1 hc1
      have hlw : Go.bits .or .u8 (c1 : Int) 32 = lw c1 := rfl
      by_cases h48 : c0 = 48
      · have g3 : ((c0 : Int) == 48) = true := by simp [h48]
        have g4 : (lw c1 == 120) = false := by simp; exact fun h => hno ⟨h48, h⟩
        clear hno h48
        go_wp2_with (go_at_call 156; refine (Tryz.internal_strconv_lower _ _).mono ?_; rintro e w1 ⟨rfl, hw1⟩; obtain rfl := hw1.symm)
        go_meet
        case rel => exact ⟨rfl, rfl⟩
      · have g3 : ((c0 : Int) == 48) = false := by simp; omega
        clear hno h48
        go_wp2_with (go_at_call 156; refine (Tryz.internal_strconv_lower _ _).mono ?_; rintro e w1 ⟨rfl, hw1⟩; obtain rfl := hw1.symm)
        go_meet
        case rel => exact ⟨rfl, rfl⟩
    · have hh : ¬ (1 : Int) + 2 < s.size := by omega
      have hh2 : ¬ (3 : Int) < s.size := by omega
      have hh3 : (s.size : Int) ≤ 3 := by omega
      clear hnx
      go_wp2_with (go_at_call 156; refine (Tryz.internal_strconv_lower _ _).mono ?_; rintro e w1 ⟨rfl, hw1⟩; obtain rfl := hw1.symm)
      go_meet
      case rel => exact ⟨rfl, rfl⟩
  case rest =>
    obtain ⟨rfl, rfl⟩ := hcut
    clear e0 hnx
    go_wp2_with fail
    go_step3
    go_upto_block 1 with (fail)
    have HI := Lib.hid (ok0 false 1)
    go_cut [2, 5, 7, 9, 13, 14, 15, 16, 17] (fun v2 v5 v7 v9 v13 v14 v15 v16 v17 w' => v2 = .int .u64 sF.m ∧ v5 = .bool sF.tr ∧ (∃ k : Nat, v7 = .int .i64 k ∧ Hid (s.data.toList.drop k = rF) ∧ k ≤ s.size ∧ Hid (Ok false sF k)) ∧ v9 = .bool sF.us ∧ v13 = .bool sF.dot ∧ v14 = .bool sF.sd ∧ v15 = .int .i64 sF.nd ∧ v16 = .int .i64 sF.nm ∧ v17 = .int .i64 sF.dp ∧ w = w')
    case first =>
      go_wp2_with fail
      have Hsc := Lib.hid hsc
      clear hsc
      go_loopg [2, 5, 7, 9, 13, 14, 15, 16, 17] (s.size - 1) (fun gn v2 v5 v7 v9 v13 v14 v15 v16 v17 w' => ∃ (k : Nat) (t : St), gn + k = s.size ∧ v2 = .int .u64 t.m ∧ v5 = .bool t.tr ∧ v7 = .int .i64 k ∧ Hid (scan false (s.data.toList.drop k) t = (sF, rF)) ∧ k ≤ s.size ∧ Hid (Ok false t k) ∧ v9 = .bool t.us ∧ v13 = .bool t.dot ∧ v14 = .bool t.sd ∧ v15 = .int .i64 t.nd ∧ v16 = .int .i64 t.nm ∧ v17 = .int .i64 t.dp ∧ w = w')
      case atStart => exact ⟨1, st0, by omega, rfl, rfl, rfl, Hsc, by omega, HI, rfl, rfl, rfl, rfl, rfl, rfl, rfl⟩
      case round =>
        obtain ⟨k, t, hg, rfl, rfl, rfl, hsc, hk, hok, rfl, rfl, rfl, rfl, rfl, rfl, rfl⟩ := hrel
        obtain ⟨us, dot, sd, nd, nm, dp, m, tr⟩ := t
        have hok := hok.out
        clear Hsc HI
        by_cases hkl : k < s.size
        · have hl : k < s.data.toList.length := by simpa using hkl
          have hsk : ((s[k].toNat : Nat) : Int) = ((s.data.toList[k].toNat : Nat) : Int) := rfl
          have hss := fun t' => @scan_some false s.data.toList k ⟨us, dot, sd, nd, nm, dp, m, tr⟩ t' hl
          have hsn := @scan_none false s.data.toList k ⟨us, dot, sd, nd, nm, dp, m, tr⟩ hl
          have hc256 : s.data.toList[k].toNat < 256 := UInt8.toNat_lt _
          obtain ⟨c, hc⟩ : ∃ c, c = s.data.toList[k].toNat := ⟨_, rfl⟩
          rw [← hc] at hsk hss hsn hc256
          clear hc
          by_cases h95 : c = 95
          · have f1 : ((c : Int) == 95) = true := by simp [h95]
            have HS := Lib.hid ((hss _ (by unfold stp; rw [if_pos h95])).symm.trans hsc.out)
            have HO : Hid (Ok false ⟨true, dot, sd, nd, nm, dp, m, tr⟩ (k + 1)) := Lib.hid ⟨by have := hok.nd; dsimp only at *; omega, hok.nm, hok.m, by have := hok.dp1; dsimp only at *; omega, by have := hok.dp2; dsimp only at *; omega⟩
            clear hss hsn hsc hok
            go_wp2_with fail
            go_roundg (gk - 1)
            case measure => omega
            case rel => exact ⟨k + 1, ⟨true, dot, sd, nd, nm, dp, m, tr⟩, by omega, rfl, rfl, by go_num, HS, by omega, HO, rfl, rfl, rfl, rfl, rfl, rfl, rfl⟩
          · have f1 : ((c : Int) == 95) = false := by simp; omega
            by_cases h46 : c = 46
            · have f2 : ((c : Int) == 46) = true := by simp [h46]
              cases dot
              ·
                have HS := Lib.hid ((hss _ (by unfold stp; rw [if_neg h95, if_pos h46]; rfl)).symm.trans hsc.out)
                have HO : Hid (Ok false ⟨us, true, sd, nd, nm, nd, m, tr⟩ (k + 1)) := Lib.hid ⟨by have := hok.nd; dsimp only at *; omega, hok.nm, hok.m, by have := hok.nd; dsimp only at *; omega, by have := hok.nd; dsimp only at *; omega⟩
                clear hss hsn hsc hok
                go_wp2_with fail
                go_roundg (gk - 1)
                case measure => omega
                case rel => exact ⟨k + 1, ⟨us, true, sd, nd, nm, nd, m, tr⟩, by omega, rfl, rfl, by go_num, HS, by omega, HO, rfl, rfl, rfl, rfl, rfl, rfl, rfl⟩
              ·
                have HS := Lib.hid ((hsn (by unfold stp; rw [if_neg h95, if_pos h46]; rfl)).symm.trans hsc.out)
                have HO := Lib.hid hok
                clear hss hsn hsc hok
                go_wp2_with fail
                go_meet
                case rel =>
                  obtain ⟨rfl, rfl⟩ := Prod.mk.inj HS.out
                  exact ⟨rfl, rfl, ⟨k, rfl, Lib.hid rfl, by omega, HO⟩, rfl, rfl, rfl, rfl, rfl, rfl, rfl⟩
            · have f2 : ((c : Int) == 46) = false := by simp; omega
              by_cases hd : 48 ≤ c ∧ c ≤ 57
              · have f3 : (48 : Int) ≤ c := by omega
                have f4 : (c : Int) ≤ 57 := by omega
                by_cases hz : c = 48 ∧ nd = 0
                · have f5 : ((c : Int) == 48) = true := by simp [hz.1]
                  have f6 : ((nd : Int) == 0) = true := by simp [hz.2]
                  have hw : IntKind.i64.wrap (dp - 1) = dp - 1 := by
                    have := hok.dp1
                    have := hok.dp2
                    dsimp only at *
                    rw [Go.IntKind.wrap_i64]; omega
                  have HS := Lib.hid ((hss _ (by unfold stp; rw [if_neg h95, if_neg h46, if_pos hd, if_pos hz])).symm.trans hsc.out)
                  have HO : Hid (Ok false ⟨us, dot, true, nd, nm, dp - 1, m, tr⟩ (k + 1)) := Lib.hid ⟨by have := hok.nd; dsimp only at *; omega, hok.nm, hok.m, by have := hok.dp1; dsimp only at *; omega, by have := hok.dp2; dsimp only at *; omega⟩
                  clear hss hsn hsc hok hz hd
                  go_wp2_with fail
                  go_roundg (gk - 1)
                  case measure => omega
                  case rel => exact ⟨k + 1, ⟨us, dot, true, nd, nm, dp - 1, m, tr⟩, by omega, rfl, rfl, by go_num, HS, by omega, HO, rfl, rfl, rfl, rfl, rfl, rfl, rfl⟩
                · have hnd : nd < 1000000 := by have := hok.nd; dsimp only at *; omega
                  have hnm : nm ≤ 19 := hok.nm
                  have hw15 : IntKind.i64.wrap ((nd : Int) + 1) = (nd : Int) + 1 := by rw [Go.IntKind.wrap_i64]; omega
                  have hw16 : IntKind.i64.wrap ((nm : Int) + 1) = (nm : Int) + 1 := by rw [Go.IntKind.wrap_i64]; omega
                  by_cases hm : nm < 19
                  · have f7 : (nm : Int) < 19 := by omega
                    have hroom := hok.room (d := c - 48) hm (by show c - 48 < 10; omega)
                    have hmb : m * 10 + (c - 48) < 18446744073709551616 := Nat.lt_of_lt_of_le hroom.1 hroom.2
                    have hw2 : IntKind.u64.wrap ((m : Int) * 10) = (m : Int) * 10 := by rw [Go.IntKind.wrap_u64]; omega
                    have hw3 : IntKind.u64.wrap ((m : Int) * 10 + ((c : Int) - 48)) = (m : Int) * 10 + ((c : Int) - 48) := by rw [Go.IntKind.wrap_u64]; omega
                    have hw4 : IntKind.u8.wrap ((c : Int) - 48) = (c : Int) - 48 := by rw [Go.IntKind.wrap_u8]; omega
                    have hw5 : IntKind.u64.wrap ((c : Int) - 48) = (c : Int) - 48 := by rw [Go.IntKind.wrap_u64]; omega
                    have hw6 : ((c : Int) - 48) % 256 = (c : Int) - 48 := by omega
                    have HS := Lib.hid ((hss _ (by unfold stp; rw [if_neg h95, if_neg h46, if_pos hd, if_neg hz, if_pos (show nm < mxd false from hm)])).symm.trans hsc.out)
                    have HO : Hid (Ok false ⟨us, dot, true, nd + 1, nm + 1, dp, m * 10 + (c - 48), tr⟩ (k + 1)) := Lib.hid ⟨by have := hok.nd; dsimp only at *; omega, hm, hroom.1, by have := hok.dp1; dsimp only at *; omega, by have := hok.dp2; dsimp only at *; omega⟩
                    clear hss hsn hsc hok hroom
                    by_cases h48 : c = 48
                    · have f5 : ((c : Int) == 48) = true := by simp [h48]
                      have f6 : ((nd : Int) == 0) = false := by simp; omega
                      clear hz hd h48
                      go_wp2_with fail
                      go_roundg (gk - 1)
                      case measure => omega
                      case rel => exact ⟨k + 1, ⟨us, dot, true, nd + 1, nm + 1, dp, m * 10 + (c - 48), tr⟩, by omega, congrArg (Value.int .u64) (by dsimp only; omega), rfl, by go_num, HS, by omega, HO, rfl, rfl, rfl, by go_num, by go_num, rfl, rfl⟩
                    · have f5 : ((c : Int) == 48) = false := by simp; omega
                      clear hz hd h48
                      go_wp2_with fail
                      go_roundg (gk - 1)
                      case measure => omega
                      case rel => exact ⟨k + 1, ⟨us, dot, true, nd + 1, nm + 1, dp, m * 10 + (c - 48), tr⟩, by omega, congrArg (Value.int .u64) (by dsimp only; omega), rfl, by go_num, HS, by omega, HO, rfl, rfl, rfl, by go_num, by go_num, rfl, rfl⟩
                  · have f7 : ¬ (nm : Int) < 19 := by omega
                    have HS := Lib.hid ((hss _ (by unfold stp; rw [if_neg h95, if_neg h46, if_pos hd, if_neg hz, if_neg (show ¬ nm < mxd false from hm)])).symm.trans hsc.out)
                    have HO : Hid (Ok false ⟨us, dot, true, nd + 1, nm, dp, m, tr || decide (c ≠ 48)⟩ (k + 1)) := Lib.hid ⟨by have := hok.nd; dsimp only at *; omega, hok.nm, hok.m, by have := hok.dp1; dsimp only at *; omega, by have := hok.dp2; dsimp only at *; omega⟩
                    clear hss hsn hsc hok
                    by_cases h48 : c = 48
                    · have f5 : ((c : Int) == 48) = true := by simp [h48]
                      have f8 : ((c : Int) != 48) = false := by simp [h48]
                      have f6 : ((nd : Int) == 0) = false := by simp; omega
                      have ht : (tr || decide (c ≠ 48)) = tr := by simp [h48]
                      rw [ht] at HS HO
                      clear hz hd h48 ht
                      go_wp2_with fail
                      go_roundg (gk - 1)
                      case measure => omega
                      case rel => exact ⟨k + 1, ⟨us, dot, true, nd + 1, nm, dp, m, tr⟩, by omega, rfl, rfl, by go_num, HS, by omega, HO, rfl, rfl, rfl, by go_num, rfl, rfl, rfl⟩
                    · have f5 : ((c : Int) == 48) = false := by simp; omega
                      have f8 : ((c : Int) != 48) = true := by simp; omega
                      have ht : (tr || decide (c ≠ 48)) = true := by simp [h48]
                      rw [ht] at HS HO
                      clear hz hd h48 ht
                      go_wp2_with fail
                      go_roundg (gk - 1)
                      case measure => omega
                      case rel => exact ⟨k + 1, ⟨us, dot, true, nd + 1, nm, dp, m, true⟩, by omega, rfl, rfl, by go_num, HS, by omega, HO, rfl, rfl, rfl, by go_num, rfl, rfl, rfl⟩
              ·
                by_cases h3 : 48 ≤ c
                · have f3 : (48 : Int) ≤ c := by omega
                  have f4 : ¬ (c : Int) ≤ 57 := by omega
                  have f4b : (57 : Int) < c := by omega
                  have HS := Lib.hid ((hsn (by unfold stp; rw [if_neg h95, if_neg h46, if_neg hd, if_neg (fun h => Bool.noConfusion h.1)])).symm.trans hsc.out)
                  have HO := Lib.hid hok
                  clear hss hsn hsc hok hd
                  go_wp2_with fail
                  go_meet
                  case rel =>
                    obtain ⟨rfl, rfl⟩ := Prod.mk.inj HS.out
                    exact ⟨rfl, rfl, ⟨k, rfl, Lib.hid rfl, by omega, HO⟩, rfl, rfl, rfl, rfl, rfl, rfl, rfl⟩
                · have f3 : ¬ (48 : Int) ≤ c := by omega
                  have f3b : (c : Int) < 48 := by omega
                  have HS := Lib.hid ((hsn (by unfold stp; rw [if_neg h95, if_neg h46, if_neg hd, if_neg (fun h => Bool.noConfusion h.1)])).symm.trans hsc.out)
                  have HO := Lib.hid hok
                  clear hss hsn hsc hok hd
                  go_wp2_with fail
                  go_meet
                  case rel =>
                    obtain ⟨rfl, rfl⟩ := Prod.mk.inj HS.out
                    exact ⟨rfl, rfl, ⟨k, rfl, Lib.hid rfl, by omega, HO⟩, rfl, rfl, rfl, rfl, rfl, rfl, rfl⟩
        · have hS := @scan_end false s.data.toList k ⟨us, dot, sd, nd, nm, dp, m, tr⟩ (by simp; omega)
          have HS := Lib.hid (hS.symm.trans hsc.out)
          have HO := Lib.hid hok
          have hkk : k = s.size := by omega
          clear hS hsc hok
          subst hkk
          go_wp2_with fail
          go_meet
          case rel =>
            obtain ⟨rfl, rfl⟩ := Prod.mk.inj HS.out
            exact ⟨rfl, rfl, ⟨s.size, rfl, Lib.hid rfl, by omega, HO⟩, rfl, rfl, rfl, rfl, rfl, rfl, rfl⟩
    case rest =>
      obtain ⟨rfl, rfl, ⟨k, rfl, hrF, hk, hO⟩, rfl, rfl, rfl, rfl, rfl, rfl, hww⟩ := hcut
      subst hww
      clear hsc HI
      obtain ⟨us, dot, sd, nd, nm, dp, m, tr⟩ := sF
      go_step
      exact rfTail_d' s hs k hk rF hrF.out true us dot sd nd nm dp m tr hO.out w
end Go.Proofs.YtjpiplplohapnaaGreatDoor
/- Walks of ParseFloat (5): ParseFloat at every text that begins with 0x, perhaps behind a sign; text.Unhex. -/
namespace Go.Proofs.YtjpiplplohapnaaGreatDoor
open Go.RowKit Go.Proofs.YtjpiplplohapnaaGreatDoorW.PrintWords Rf Ah

def ZeroR (ng : Bool) (s : ByteArray) (q : Out) (x : Nat) (n : Int) (er : Option Int) : Prop := x = (if ng then 9223372036854775808 else 0) ∧ n = ((s.size - q.rest.length : Nat) : Int) ∧ er = none
theorem bool2_u64t (w : World) : Calls Tryz.prog 150 #[.bool true] w fun e w' => e = .returned (.int .u64 1) ∧ Below w.heap.size w w' :=
  (PText.strconv_bool2_uint64.calls true 1 w (by decide +kernel)).mono fun _ _ ⟨h1, h2⟩ => ⟨h1, h2.below⟩
set_option maxRecDepth 100000 in
set_option maxHeartbeats 2000000 in
theorem atof64_zero (ng : Bool) (s : ByteArray) (q : Out) (hm : q.m = 0) (hu : q.us = false) (hsp : ∀ w, Calls Tryz.prog 141 #[.string s] w (NoSpecial w)) (hrf : ∀ w, Calls Tryz.prog 142 #[.string s] w (RfPost ng false s (some q) w))
    (w : World) (hL : Laid w) : Calls Tryz.prog 112 #[.string s] w (AtPost (ZeroR ng s q) w) := by
  have HRF := Lib.hid hrf
  clear hrf
  have ho := hL.optCell
  obtain ⟨qm, qe, qt, qu, qr⟩ := q
  dsimp only at hm hu
  subst hm
  subst hu
  clear hL
  go_enter Tryz.func112, Tryz.ntmps112
  go_wp2_with fail
  refine (hsp _).mono ?_
  rintro e w' ⟨rfl, hww⟩
  obtain rfl := hww.symm
  clear hww hsp
  go_wp2_with fail
  refine (HRF.out _).mono ?_
  rintro e w' ⟨hww, ok, hok, rfl⟩
  obtain rfl := hww.symm
  obtain rfl := hok rfl
  clear hww HRF hok
  dsimp only
  obtain ⟨n, hn⟩ : ∃ n, n = s.size - qr.length := ⟨_, rfl⟩
  have HN := Lib.hid hn
  rw [← hn]
  clear hn
  have k1 : Go.bits .or .u64 0 0 = 0 := by decide +kernel
  have k2 : Go.bits .or .u64 9223372036854775808 0 = 9223372036854775808 := by decide +kernel
  have hf1 : ∀ W, (callFunc 151 #[.int .u64 0]).run Tryz.prog W = .ok (.value (.float .f64 0)) W := fun W => from151 0 W
  have hf2 : ∀ W, (callFunc 151 #[.int .u64 9223372036854775808]).run Tryz.prog W = .ok (.value (.float .f64 9223372036854775808)) W := fun W => from151 9223372036854775808 W
  cases ng
  · go_wp2_with fail
    refine (bool2_u64f _).mono ?_
    rintro e w1 ⟨rfl, hb1⟩
    go_wp2_with fail
    go_ret3
    exact ⟨0, n, none, ⟨rfl, by rw [HN.out], rfl⟩, Or.inl rfl, rfl, hb1⟩
  · go_wp2_with fail
    refine (bool2_u64t _).mono ?_
    rintro e w1 ⟨rfl, hb1⟩
    go_wp2_with fail
    go_ret3
    exact ⟨9223372036854775808, n, none, ⟨rfl, by rw [HN.out], rfl⟩, Or.inl rfl, rfl, hb1⟩

/-- What is believed of ParseFloat at a hexadecimal text: if Hex wrote it, the float. -/
def UnR (s : ByteArray) (x : Nat) (er : Option Int) : Prop := x < 18446744073709551616 ∧ ∀ b, b < 18446744073709551616 → sz b < 9218868437227405312 → s.data.toList = hexOf b → x = b ∧ er = none

theorem hex_plain (b : Nat) (h : sz b < 9218868437227405312) : ∃ q : Out, fin true (scan true ((hexOf b).drop ((if neg b then 1 else 0) + 2)) st0).1 (scan true ((hexOf b).drop ((if neg b then 1 else 0) + 2)) st0).2 = some q ∧ q.us = false ∧ q.rest = [] ∧ (b < 18446744073709551616 → ah q.m q.e (neg b) q.tr = (b, false)) := by
  by_cases h0 : sz b = 0
  · have hl : (hexOf b).drop ((if neg b then 1 else 0) + 2) = [48, 112, 43, 48] := by
      unfold hexOf hexZ
      rw [if_pos h0]
      cases neg b <;> rfl
    rw [hl]
    refine ⟨⟨0, 0, false, false, []⟩, by kernel_rfl, rfl, rfl, fun hb => ?_⟩
    rw [ah_zero]
    have := bits_parts b hb
    rw [h0, Nat.add_zero] at this
    rw [this]
  · have hr := spM_range (sz b) (by omega)
    have he := spE_range (sz b) (by omega) h
    have hu := up_spec _ hr.1 hr.2
    have hup : up (spM (sz b)) ≤ 52 := by unfold up; omega
    have hl : (hexOf b).drop ((if neg b then 1 else 0) + 2) = [49] ++ (if spM (sz b) * 2 ^ up (spM (sz b)) = 4503599627370496 then [] else 46 :: frac (spM (sz b) * 2 ^ up (spM (sz b)) - 4503599627370496)) ++ (if 0 ≤ spE (sz b) - up (spM (sz b)) + 52 then [112, 43] else [112]) ++ Lib.itoa (spE (sz b) - up (spM (sz b)) + 52) := by
      unfold hexOf hexT
      rw [if_neg h0]
      cases neg b <;> rfl
    obtain ⟨v, k, hk, hv, hv2, hf⟩ := read_hex _ (spE (sz b) - up (spM (sz b)) + 52) hu.1 hu.2 (by omega) (by omega) _ hl
    exact ⟨_, hf, rfl, rfl, fun hb => ah_hex b hb h h0 v k hk hv⟩

theorem unR_of (s : ByteArray) (ng : Bool) (o : Option Out) (h : ∀ b, b < 18446744073709551616 → sz b < 9218868437227405312 → s.data.toList = hexOf b → neg b = ng ∧ o = fin true (scan true ((hexOf b).drop ((if ng then 1 else 0) + 2)) st0).1 (scan true ((hexOf b).drop ((if ng then 1 else 0) + 2)) st0).2)
    (x : Nat) (er : Option Int) (hw : whole s (HexR ng s o) x er) : UnR s x er := by
  refine ⟨?_, fun b hb hz hs => ?_⟩
  · rcases hw with hw | ⟨rfl, -⟩
    · exact hw.1
    · decide
  · obtain ⟨hn, ho⟩ := h b hb hz hs
    subst hn
    obtain ⟨q, hq, hus, hrs, hah⟩ := hex_plain b hz
    rw [hq] at ho
    subst ho
    have hah := hah hb
    rcases hw with ⟨-, h1, h2⟩ | ⟨-, -, y, n, r, ⟨-, h1, -⟩, hn⟩
    · rcases h2 with ⟨h3, -⟩ | ⟨h3, h4⟩
      · rw [hus] at h3; cases h3
      · rw [hah] at h3 h4
        exact ⟨h3, h4⟩
    · rw [hrs] at h1
      exact absurd h1 hn

theorem hexOf_head (b : Nat) : hexOf b = (if neg b then [45] else []) ++ [48, 120] ++ (hexOf b).drop ((if neg b then 1 else 0) + 2) := by
  unfold hexOf hexZ hexT
  by_cases h : sz b = 0
  · rw [if_pos h]; cases neg b <;> rfl
  · rw [if_neg h]; cases neg b <;> rfl
theorem digit_special (s : ByteArray) (h0 : 0 < s.size) (h : s[0].toNat = 48) (w : World) : Calls Tryz.prog 141 #[.string s] w (NoSpecial w) := special_digit s h0 (by omega) (by omega) w

theorem list0 {s : ByteArray} {a : UInt8} {l : List UInt8} (h : s.data.toList = a :: l) (h0 : 0 < s.size) : s[0] = a := by
  have : s.data.toList[0]? = some a := by rw [h]; rfl
  have h2 : s.data.toList[0]? = some s[0] := by
    rw [Array.getElem?_toList]; exact Array.getElem?_eq_getElem h0
  exact Option.some.inj (h2.symm.trans this)
theorem list1 {s : ByteArray} {a b : UInt8} {l : List UInt8} (h : s.data.toList = a :: b :: l) (h0 : 1 < s.size) : s[1] = b := by
  have : s.data.toList[1]? = some b := by rw [h]; rfl
  have h2 : s.data.toList[1]? = some s[1] := by
    rw [Array.getElem?_toList]; exact Array.getElem?_eq_getElem h0
  exact Option.some.inj (h2.symm.trans this)
theorem list2 {s : ByteArray} {a b c : UInt8} {l : List UInt8} (h : s.data.toList = a :: b :: c :: l) (h0 : 2 < s.size) : s[2] = c := by
  have : s.data.toList[2]? = some c := by rw [h]; rfl
  have h2 : s.data.toList[2]? = some s[2] := by
    rw [Array.getElem?_toList]; exact Array.getElem?_eq_getElem h0
  exact Option.some.inj (h2.symm.trans this)
theorem size_list (s : ByteArray) : s.data.toList.length = s.size := Array.length_toList

/-- strconv.ParseFloat at a text that begins with 0x. -/
theorem parse_px (s : ByteArray) (hs : s.size ≤ 1000) (l : List UInt8) (hl : s.data.toList = 48 :: 120 :: l) (w : World) (hL : LaidB w) : Calls Tryz.prog 24 #[.string s, .int .i64 64] w (SpPost (UnR s) w) := by
  have hz := size_list s
  rw [hl] at hz
  simp only [List.length_cons] at hz
  have h0 : 0 < s.size := by omega
  have e0 := list0 hl h0
  have h48 : s[0].toNat = 48 := by rw [e0]; rfl
  have hno : ∀ b, s.data.toList = hexOf b → neg b = false ∧ l = (hexOf b).drop 2 := by
    intro b hb
    rw [hexOf_head, hl] at hb
    cases hn : neg b with
    | false =>
      rw [hn] at hb
      refine ⟨rfl, ?_⟩
      simpa using hb
    | true => rw [hn] at hb; simp at hb
  cases l with
  | nil =>
    have hsz : s.size = 2 := by simpa using hz.symm
    have hd : s.data.toList.drop 0 = [48, 120] := hl
    have hf : fin false (scan false (s.data.toList.drop 0) st0).1 (scan false (s.data.toList.drop 0) st0).2 = some ⟨0, 0, false, false, [120]⟩ := by rw [hd]; kernel_rfl
    have hrf : ∀ w, Calls Tryz.prog 142 #[.string s] w (RfPost false false s (some ⟨0, 0, false, false, [120]⟩) w) := fun w => by
      rw [← hf]
      exact readFloat_pd s hs h0 (by omega) (by omega) (fun h => by omega) w
    have ha := sparse_of s hs _ w hL.laid (iparse_of s _ w (atof64_zero false s _ rfl rfl (digit_special s h0 h48) hrf w hL.laid))
    refine ha.mono fun e w' ⟨x, er, hR, he, hb, hp⟩ => ⟨x, er, ?_, he, hb, hp⟩
    rcases hR with ⟨h1, h2, h3⟩ | ⟨h1, h2, -⟩
    · exfalso; simp [hsz] at h2
    · refine ⟨by omega, fun b hb hz hs => ?_⟩
      exfalso
      have := (hno b hs).2
      obtain ⟨q, hq, hus, hrs, -⟩ := hex_plain b hz
      rw [(hno b hs).1] at hq
      have h3 : fin true (scan true [] st0).1 (scan true [] st0).2 = none := by kernel_rfl
      rw [show (hexOf b).drop ((if false = true then 1 else 0) + 2) = [] from this.symm, h3] at hq
      cases hq
  | cons c l =>
    have h2 : 2 < s.size := by simp only [List.length_cons] at hz; omega
    have e1 := list1 hl (by omega)
    have hd : s.data.toList.drop 2 = c :: l := by rw [hl]; rfl
    have hrf : ∀ w, Calls Tryz.prog 142 #[.string s] w (RfPost false true s (fin true (scan true (s.data.toList.drop 2) st0).1 (scan true (s.data.toList.drop 2) st0).2) w) := fun w => readFloat_px s hs h2 h48 (by rw [e1]; rfl) w
    have ha := sparse_of s hs _ w hL.laid (iparse_of s _ w (atof64_hex false s hs _ (digit_special s h0 h48) hrf (fun q hq => fin_bound (by rw [hd]; omega) hq) w hL))
    refine ha.mono fun e w' ⟨x, er, hR, he, hb, hp⟩ => ⟨x, er, ?_, he, hb, hp⟩
    refine unR_of s false _ (fun b _ _ hs => ?_) x er hR
    obtain ⟨g1, g2⟩ := hno b hs
    exact ⟨g1, by rw [hd, g2]; rfl⟩

/-- strconv.ParseFloat at a text that begins with -0x. -/
theorem parse_nx (s : ByteArray) (hs : s.size ≤ 1000) (l : List UInt8) (hl : s.data.toList = 45 :: 48 :: 120 :: l) (w : World) (hL : LaidB w) : Calls Tryz.prog 24 #[.string s, .int .i64 64] w (SpPost (UnR s) w) := by
  have hz := size_list s
  rw [hl] at hz
  simp only [List.length_cons] at hz
  have h0 : 1 < s.size := by omega
  have e0 := list0 hl (by omega)
  have e1 := list1 hl h0
  have h45 : s[0].toNat = 45 := by rw [e0]; rfl
  have h48 : s[1].toNat = 48 := by rw [e1]; rfl
  have hsp : ∀ w, Calls Tryz.prog 141 #[.string s] w (NoSpecial w) := fun w => special_minus s h0 hs h45 (by omega) (by omega) w
  have hno : ∀ b, s.data.toList = hexOf b → neg b = true ∧ l = (hexOf b).drop 3 := by
    intro b hb
    rw [hexOf_head, hl] at hb
    cases hn : neg b with
    | true =>
      rw [hn] at hb
      refine ⟨rfl, ?_⟩
      simpa using hb
    | false => rw [hn] at hb; simp at hb
  cases l with
  | nil =>
    have hsz : s.size = 3 := by simpa using hz.symm
    have hd : s.data.toList.drop 1 = [48, 120] := by rw [hl]; rfl
    have hf : fin false (scan false (s.data.toList.drop 1) st0).1 (scan false (s.data.toList.drop 1) st0).2 = some ⟨0, 0, false, false, [120]⟩ := by rw [hd]; kernel_rfl
    have hrf : ∀ w, Calls Tryz.prog 142 #[.string s] w (RfPost true false s (some ⟨0, 0, false, false, [120]⟩) w) := fun w => by
      rw [← hf]
      exact readFloat_nd s hs h0 h45 (fun h => by omega) w
    have ha := sparse_of s hs _ w hL.laid (iparse_of s _ w (atof64_zero true s _ rfl rfl hsp hrf w hL.laid))
    refine ha.mono fun e w' ⟨x, er, hR, he, hb, hp⟩ => ⟨x, er, ?_, he, hb, hp⟩
    rcases hR with ⟨h1, h2, h3⟩ | ⟨h1, h2, -⟩
    · exfalso; simp [hsz] at h2
    · refine ⟨by omega, fun b hb hz hs => ?_⟩
      exfalso
      have := (hno b hs).2
      obtain ⟨q, hq, hus, hrs, -⟩ := hex_plain b hz
      rw [(hno b hs).1] at hq
      have h3 : fin true (scan true [] st0).1 (scan true [] st0).2 = none := by kernel_rfl
      rw [show (hexOf b).drop ((if true = true then 1 else 0) + 2) = [] from this.symm, h3] at hq
      cases hq
  | cons c l =>
    have h2 : 3 < s.size := by simp only [List.length_cons] at hz; omega
    have e2 := list2 hl (by omega)
    have hd : s.data.toList.drop 3 = c :: l := by rw [hl]; rfl
    have hrf : ∀ w, Calls Tryz.prog 142 #[.string s] w (RfPost true true s (fin true (scan true (s.data.toList.drop 3) st0).1 (scan true (s.data.toList.drop 3) st0).2) w) := fun w => readFloat_nx s hs h2 h45 h48 (by rw [e2]; rfl) w
    have ha := sparse_of s hs _ w hL.laid (iparse_of s _ w (atof64_hex true s hs _ hsp hrf (fun q hq => fin_bound (by rw [hd]; omega) hq) w hL))
    refine ha.mono fun e w' ⟨x, er, hR, he, hb, hp⟩ => ⟨x, er, ?_, he, hb, hp⟩
    refine unR_of s true _ (fun b _ _ hs => ?_) x er hR
    obtain ⟨g1, g2⟩ := hno b hs
    exact ⟨g1, by rw [hd, g2]; rfl⟩

/-- What text.Unhex answers: the float whose Hex the text is, or the error. -/
def UnPost (s : ByteArray) (w : World) (e : Ending) (w' : World) : Prop := Below w.heap.size w w' ∧
  ((∃ b, b < 18446744073709551616 ∧ sz b < 9218868437227405312 ∧ s.data.toList = hexOf b ∧ e = .returned (.tuple #[.float .f64 b, .int .i64 0])) ∨
   ((∀ b, b < 18446744073709551616 → sz b < 9218868437227405312 → s.data.toList ≠ hexOf b) ∧ e = .returned (.tuple #[.float .f64 0, .int .i64 20])))

theorem len_aux (ng p q : Bool) (f g : List UInt8) (hi : g.length ≤ 5) (hf : f.length ≤ 13) : ((if ng then [45] else []) ++ [48, 120, 49] ++ (if p then [] else 46 :: f) ++ (if q then [112, 43] else [112]) ++ g).length ≤ 40 := by
  cases ng <;> cases p <;> cases q <;> simp <;> omega
theorem hexT_len (ng : Bool) (M : Nat) (E : Int) (hi : (Lib.itoa E).length ≤ 5) (hf : (frac (M - 4503599627370496)).length ≤ 13) : (hexT ng M E).length ≤ 40 := by
  have h := len_aux ng (decide (M = 4503599627370496)) (decide (0 ≤ E)) _ _ hi hf
  simp only [decide_eq_true_eq] at h
  unfold hexT
  exact h
theorem hexOf_len (b : Nat) (h : sz b < 9218868437227405312) : (hexOf b).length ≤ 40 := by
  unfold hexOf
  by_cases h0 : sz b = 0
  · rw [if_pos h0]
    unfold hexZ
    cases neg b <;> decide
  · rw [if_neg h0]
    have hr := spM_range (sz b) (by omega)
    have he := spE_range (sz b) (by omega) h
    have hu := up_spec _ hr.1 hr.2
    have hup : up (spM (sz b)) ≤ 52 := by unfold up; omega
    exact hexT_len _ _ _ (itoa_len _ (by omega) (by omega)) (frac_len _ (by omega))
theorem shape_hex (l : List UInt8) (h : Lib.hasPrefix (Lib.trimPrefix l [45]) [48, 120] = true) : (∃ r, l = 48 :: 120 :: r) ∨ (∃ r, l = 45 :: 48 :: 120 :: r) := by
  unfold Lib.trimPrefix Lib.hasPrefix at h
  cases l with
  | nil => simp at h
  | cons a l =>
    by_cases ha : a = 45
    · subst ha
      rw [if_pos (by simp [List.isPrefixOf])] at h
      obtain ⟨r, hr⟩ := List.isPrefixOf_iff_prefix.1 h
      exact Or.inr ⟨r, by rw [show l = [48, 120] ++ r from hr.symm]; rfl⟩
    · have : ([45] : List UInt8).isPrefixOf (a :: l) = false := by simp [List.isPrefixOf]; exact fun h => ha h.symm
      rw [this, if_neg (by decide)] at h
      obtain ⟨r, hr⟩ := List.isPrefixOf_iff_prefix.1 h
      exact Or.inl ⟨r, hr.symm⟩
theorem hex_shape (b : Nat) : Lib.hasPrefix (Lib.trimPrefix (hexOf b) [45]) [48, 120] = true := by
  rw [hexOf_head]
  unfold Lib.trimPrefix Lib.hasPrefix
  cases neg b <;> simp [List.isPrefixOf]

set_option maxRecDepth 100000 in
set_option maxHeartbeats 2000000 in
theorem unhex_walk (s : ByteArray) (w : World) (hL : LaidB w) : Calls Tryz.prog 21 #[.string s] w (UnPost s w) := by
  have hz := size_list s
  by_cases hp : Lib.hasPrefix (Lib.trimPrefix s.data.toList [45]) [48, 120] = true
  · by_cases hlen : s.size ≤ 40
    · have hlen' : ¬ (40 : Int) < s.size := by omega
      have hlen2 : (s.size : Int) ≤ 40 := by omega
      have hpf : Calls Tryz.prog 24 #[.string s, .int .i64 64] w (SpPost (UnR s) w) := by
        rcases shape_hex _ hp with ⟨r, hr⟩ | ⟨r, hr⟩
        · exact parse_px s (by omega) r hr w hL
        · exact parse_nx s (by omega) r hr w hL
      have HPF := Lib.hid hpf
      have HL := Lib.hid hL
      clear hpf hL hz
      go_enter Tryz.func21, Tryz.ntmps21
      go_wp2_with fail
      refine (Tryz.strings_TrimPrefix s ⟨#[45]⟩ _).mono ?_
      rintro e w' ⟨rfl, hww⟩
      obtain rfl := hww.symm
      go_wp2_with fail
      refine (Tryz.strings_HasPrefix _ ⟨#[48, 120]⟩ _).mono ?_
      rintro e w' ⟨rfl, hww⟩
      obtain rfl := hww.symm
      rw [show Lib.hasPrefix (⟨(Lib.trimPrefix s.data.toList (⟨#[45]⟩ : ByteArray).data.toList).toArray⟩ : ByteArray).data.toList (⟨#[48, 120]⟩ : ByteArray).data.toList = true from hp]
      clear hww hp
      go_wp2_with fail
      refine HPF.out.mono ?_
      rintro e w1 ⟨x, er, ⟨hx, hR⟩, -, hb1, hcase⟩
      have HR := Lib.hid hR
      have HL1 := Lib.hid (HL.out.below hb1)
      clear hR HPF HL
      rcases hcase with ⟨rfl, rfl⟩ | ⟨hne, N, rfl⟩
      · have HX := Lib.hid (hex_walk x hx w1 HL1.out.laid)
        by_cases hn : sz x < 9218868437227405312
        · by_cases he : s.data.toList = hexOf x
          · have HE := Lib.hid he
            have et : ((hexOf x) == s.toList) = true := by simpa [ByteArray.toList_eq] using he.symm
            have et2 : ((hexOf x) != s.toList) = false := by simp [bne, et]
            have HX2 := HX.out
            rw [if_pos hn] at HX2
            have HX3 := Lib.hid HX2
            clear he HX HX2
            go_wp2_with fail
            refine HX3.out.mono ?_
            rintro e w2 ⟨rfl, hb2⟩
            have hb := hb1.trans (hb2.mono hb1.size)
            go_wp2_with fail
            go_ret2
            exact ⟨hb, Or.inl ⟨x, hx, hn, HE.out, rfl⟩⟩
          · have HE := Lib.hid he
            have et : ((hexOf x) == s.toList) = false := by simpa [ByteArray.toList_eq] using fun h => he h.symm
            have et2 : ((hexOf x) != s.toList) = true := by simp [bne, et]
            have HX2 := HX.out
            rw [if_pos hn] at HX2
            have HX3 := Lib.hid HX2
            clear he HX HX2
            go_wp2_with fail
            refine HX3.out.mono ?_
            rintro e w2 ⟨rfl, hb2⟩
            have hb := hb1.trans (hb2.mono hb1.size)
            go_wp2_with fail
            go_ret2
            exact ⟨hb, Or.inr ⟨fun b hb hz hs => HE.out (by rw [(HR.out b hb hz hs).1]; exact hs), rfl⟩⟩
        · have HX2 := HX.out
          rw [if_neg hn] at HX2
          have HX3 := Lib.hid HX2
          have HN := Lib.hid hn
          clear HX HX2 hn
          go_wp2_with fail
          refine HX3.out.mono ?_
          rintro e w2 ⟨rfl, hb2⟩
          have hb := hb1.trans (hb2.mono hb1.size)
          go_wp2_with fail
          go_ret2
          exact ⟨hb, Or.inr ⟨fun b hb hz hs => HN.out (by rw [(HR.out b hb hz hs).1]; exact hz), rfl⟩⟩
      · go_wp2_with fail
        go_ret2
        exact ⟨hb1, Or.inr ⟨fun b hb hz hs => hne (HR.out b hb hz hs).2, rfl⟩⟩
    · have hlen' : (40 : Int) < s.size := by omega
      have hlen2 : ¬ (s.size : Int) ≤ 40 := by omega
      have HN := Lib.hid (show ∀ b, b < 18446744073709551616 → sz b < 9218868437227405312 → s.data.toList ≠ hexOf b from fun b _ hzb he => by
        have := hexOf_len b hzb
        rw [← he, hz] at this
        omega)
      clear hL hz
      go_enter Tryz.func21, Tryz.ntmps21
      go_wp2_with fail
      refine (Tryz.strings_TrimPrefix s ⟨#[45]⟩ _).mono ?_
      rintro e w' ⟨rfl, hww⟩
      obtain rfl := hww.symm
      go_wp2_with fail
      refine (Tryz.strings_HasPrefix _ ⟨#[48, 120]⟩ _).mono ?_
      rintro e w' ⟨rfl, hww⟩
      obtain rfl := hww.symm
      rw [show Lib.hasPrefix (⟨(Lib.trimPrefix s.data.toList (⟨#[45]⟩ : ByteArray).data.toList).toArray⟩ : ByteArray).data.toList (⟨#[48, 120]⟩ : ByteArray).data.toList = true from hp]
      clear hww hp
      go_wp2_with fail
      go_ret2
      exact ⟨Below.refl _ _, Or.inr ⟨HN.out, rfl⟩⟩
  · have HN := Lib.hid (show ∀ b, b < 18446744073709551616 → sz b < 9218868437227405312 → s.data.toList ≠ hexOf b from fun b _ _ he => hp (by rw [he]; exact hex_shape b))
    have hp' : Lib.hasPrefix (Lib.trimPrefix s.data.toList [45]) [48, 120] = false := by simpa using hp
    clear hL hz hp
    go_enter Tryz.func21, Tryz.ntmps21
    go_wp2_with fail
    refine (Tryz.strings_TrimPrefix s ⟨#[45]⟩ _).mono ?_
    rintro e w' ⟨rfl, hww⟩
    obtain rfl := hww.symm
    go_wp2_with fail
    refine (Tryz.strings_HasPrefix _ ⟨#[48, 120]⟩ _).mono ?_
    rintro e w' ⟨rfl, hww⟩
    obtain rfl := hww.symm
    rw [show Lib.hasPrefix (⟨(Lib.trimPrefix s.data.toList (⟨#[45]⟩ : ByteArray).data.toList).toArray⟩ : ByteArray).data.toList (⟨#[48, 120]⟩ : ByteArray).data.toList = false from hp']
    clear hww hp'
    go_wp2_with fail
    go_ret2
    exact ⟨Below.refl _ _, Or.inr ⟨HN.out, rfl⟩⟩
end Go.Proofs.YtjpiplplohapnaaGreatDoor
/- awake of the package of laws on text: true. -/
namespace Go.Proofs.YtjpiplplohapnaaGreatDoor
open Go.RowKit Go.Sort Go.Proofs.YtjpiplplohapnaaGreatDoorW.PrintWords
theorem int_neg7 (w : World) (hL : Laid w) : Calls Tryz.prog 17 #[.string ⟨#[45, 55]⟩] w fun e w' => e = .returned (.tuple #[.int .i64 (-7), .bool true]) ∧ Below w.heap.size w w' := by
  have h := int_walk ⟨#[45, 55]⟩ (by decide) w hL
  have e0 : Num.progInt (⟨#[45, 55]⟩ : ByteArray).data.toList = (-7, true) := by
    rw [Num.progInt_eq]
    rfl
  rw [e0] at h
  exact h
set_option maxRecDepth 100000 in
set_option maxHeartbeats 1000000 in
theorem awake_true (w : World) (hL : Laid w) : Calls Tryz.prog 13 #[] w fun e w' => e = .returned (.bool true) ∧ Below w.heap.size w w' := by
  go_enter Tryz.func13, Tryz.ntmps13
  go_wp2_with fail
  refine (parse_01 _ hL).mono ?_
  rintro e w1 ⟨rfl, hb1⟩
  have hL1 := hL.below hb1
  go_wp2_with fail
  refine (print_375 _ hL1).mono ?_
  rintro e w2 ⟨rfl, hb2⟩
  have hL2 := hL1.below hb2
  have hb02 := hb1.trans (hb2.mono hb1.size)
  clear hL1 hb1 hb2
  go_wp2_with fail
  refine (hex_15 _ hL2).mono ?_
  rintro e w3 ⟨rfl, hb3⟩
  have hL3 := hL2.below hb3
  have hb03 := hb02.trans (hb3.mono hb02.size)
  clear hL2 hb02 hb3
  go_wp2_with fail
  refine (int_neg7 _ hL3).mono ?_
  rintro e w4 ⟨rfl, hb4⟩
  have hb04 := hb03.trans (hb4.mono hb03.size)
  clear hL3 hb03 hb4
  go_wp2_with fail
  go_ret
  exact ⟨rfl, hb04⟩
end Go.Proofs.YtjpiplplohapnaaGreatDoor
/- TextBack: the walk of the law. -/
namespace Go.Proofs.YtjpiplplohapnaaGreatDoor
open Go.RowKit Go.Sort Go.Proofs.YtjpiplplohapnaaGreatDoorW.PrintWords Rf Ah

theorem read_cases (b : Nat) : (sz b < 9218868437227405312 → ∃ s m e, Ieee.double.read b = .number s m e) ∧ (¬ sz b < 9218868437227405312 → (∃ s, Ieee.double.read b = .infinity s) ∨ ∃ s f, Ieee.double.read b = .nan s f) := by
  have e1 : Ieee.double.signWeight = 9223372036854775808 := by decide
  have e3 : Ieee.double.binade = 4503599627370496 := by decide
  have e4 : Ieee.double.infRung = 9218868437227405312 := by decide
  have hr : b % Ieee.double.signWeight = sz b := by rw [e1]; rfl
  unfold Ieee.Format.read
  dsimp only
  rw [hr, e3, e4]
  constructor
  · intro h
    by_cases h1 : sz b < 4503599627370496
    · rw [if_pos h1]; exact ⟨_, _, _, rfl⟩
    · rw [if_neg h1, if_pos h]; exact ⟨_, _, _, rfl⟩
  · intro h
    rw [if_neg (by omega), if_neg h]
    by_cases h1 : sz b = 9218868437227405312
    · rw [if_pos h1]; exact Or.inl ⟨_, rfl⟩
    · rw [if_neg h1]; exact Or.inr ⟨_, _, rfl⟩
theorem sub_self_num (b : Nat) (h : sz b < 9218868437227405312) : floatBits .sub .f64 b b = some 0 := by
  show Ieee.double.sub b b = some 0
  obtain ⟨s, m, e, hr⟩ := (read_cases b).1 h
  unfold Ieee.Format.sub
  rw [hr]
  unfold Ieee.Datum.opposite Ieee.Datum.sum
  dsimp only
  have ht : Ieee.signed s m (e - min e e).toNat + Ieee.signed (!s) m (e - min e e).toNat = 0 := by
    unfold Ieee.signed
    cases s <;> simp <;> omega
  rw [ht, if_pos rfl]
  have hs : (s && !s) = false := by cases s <;> rfl
  rw [hs]
  rfl
theorem sub_self_not (b : Nat) (h : ¬ sz b < 9218868437227405312) : Ieee.double.sub b b = none := by
  unfold Ieee.Format.sub
  rcases (read_cases b).2 h with ⟨s, hr⟩ | ⟨s, f, hr⟩
  · rw [hr]
    unfold Ieee.Datum.opposite Ieee.Datum.sum
    dsimp only
    rw [if_neg (by cases s <;> decide)]
    rfl
  · rw [hr]
    unfold Ieee.Datum.opposite Ieee.Datum.sum
    rfl
/-- The not-a-number that a difference draws. -/
def nanOf (w : World) (b : Nat) : Nat := (Question.nanBits .f64 b b).cut (w.tape w.drawn (.nanBits .f64 b b))
theorem nanOf_order (w : World) (b : Nat) : (FloatKind.f64.format.order (nanOf w b) 0 == some Ordering.eq) = false := by
  have h : ∃ t, nanOf w b = (t % 2) * 9223372036854775808 + 9218868437227405312 + 1 + (t / 2) % 4503599627370495 := ⟨_, rfl⟩
  obtain ⟨t, ht⟩ := h
  have hsz : 9218868437227405312 < sz (nanOf w b) := by
    rw [ht]
    unfold sz
    have h1 := Nat.mod_lt (t / 2) (show 0 < 4503599627370495 by decide)
    generalize t / 2 % 4503599627370495 = v at *
    rcases Nat.mod_two_eq_zero_or_one t with h2 | h2 <;> rw [h2] <;> omega
  have hz : ¬ sz (nanOf w b) < 9218868437227405312 := by omega
  have hz2 : sz (nanOf w b) ≠ 9218868437227405312 := by omega
  have hr : ∃ s f, Ieee.double.read (nanOf w b) = .nan s f := by
    have e1 : Ieee.double.signWeight = 9223372036854775808 := by decide
    have e3 : Ieee.double.binade = 4503599627370496 := by decide
    have e4 : Ieee.double.infRung = 9218868437227405312 := by decide
    have hr : nanOf w b % Ieee.double.signWeight = sz (nanOf w b) := by rw [e1]; rfl
    unfold Ieee.Format.read
    dsimp only
    rw [hr, e3, e4, if_neg (by omega), if_neg hz, if_neg hz2]
    exact ⟨_, _, rfl⟩
  obtain ⟨s, f, hr⟩ := hr
  show (Ieee.double.order (nanOf w b) 0 == some Ordering.eq) = false
  unfold Ieee.Format.order
  rw [hr]
  rfl
theorem run_sub_num (b : Nat) (h : sz b < 9218868437227405312) (W : World) : (binOp .sub 22 (.float .f64 b) (.float .f64 b)).run Tryz.prog W = .ok (.float .f64 0) W := run_float_arith W .sub 22 .f64 b b 0 (sub_self_num b h)
theorem run_sub_not (b : Nat) (h : ¬ sz b < 9218868437227405312) (W : World) : (binOp .sub 22 (.float .f64 b) (.float .f64 b)).run Tryz.prog W = .ok (.float .f64 (nanOf W b)) W.drew := by
  have hs : (FloatKind.f64).format.sub b b = none := sub_self_not b h
  simp [binOp, Op.floatArith, hs]
  rfl
theorem zero_order : (FloatKind.f64.format.order 0 0 == some Ordering.eq) = true := by decide +kernel

theorem hexOf_inj {a b : Nat} (ha : a < 18446744073709551616) (hb : b < 18446744073709551616) (ka : sz a < 9218868437227405312) (kb : sz b < 9218868437227405312) (h : hexOf a = hexOf b) : a = b := by
  have hn : neg a = neg b := by
    have h1 := hexOf_head a
    have h2 := hexOf_head b
    rw [h] at h1
    rw [h1] at h2
    cases hna : neg a <;> cases hnb : neg b <;> rw [hna, hnb] at h2 <;> first | rfl | (simp at h2)
  obtain ⟨q, hq, -, -, hah⟩ := hex_plain a ka
  obtain ⟨q2, hq2, -, -, hah2⟩ := hex_plain b kb
  rw [h, hn, hq2] at hq
  cases hq
  have h1 := hah ha
  rw [hn, hah2 hb] at h1
  simp only [Prod.mk.injEq] at h1
  exact h1.1.symm

def True1 (w : World) (e : Ending) (w' : World) : Prop := e = .returned (.bool true) ∧ Below w.heap.size w w'
/-- What the law reckons behind its first half. -/
def HexW (b : Nat) (w : World) (e : Ending) (w' : World) : Prop := Below w.heap.size w w' ∧ e = .returned (.tuple #[.string ⟨(hexOf b).toArray⟩, .int .i64 0])
theorem hex_yes (b : Nat) (hb : b < 18446744073709551616) (h : sz b < 9218868437227405312) (w : World) (hL : Laid w) : Calls Tryz.prog 19 #[.float .f64 b] w (HexW b w) :=
  (hex_walk b hb w hL).mono fun e w' ⟨h1, h2⟩ => ⟨h2, by rw [h1, if_pos h]⟩
def HexN (w : World) (e : Ending) (w' : World) : Prop := Below w.heap.size w w' ∧ e = .returned (.tuple #[.string ⟨#[]⟩, .int .i64 20])
theorem hex_no (b : Nat) (hb : b < 18446744073709551616) (h : ¬ sz b < 9218868437227405312) (w : World) (hL : Laid w) : Calls Tryz.prog 19 #[.float .f64 b] w (HexN w) :=
  (hex_walk b hb w hL).mono fun e w' ⟨h1, h2⟩ => ⟨h2, by rw [h1, if_neg h]⟩
theorem unhex_own (b : Nat) (hb : b < 18446744073709551616) (h : sz b < 9218868437227405312) (w : World) (hL : LaidB w) :
    Calls Tryz.prog 21 #[.string ⟨(hexOf b).toArray⟩] w fun e w' => e = .returned (.tuple #[.float .f64 b, .int .i64 0]) ∧ Below w.heap.size w w' :=
  (unhex_walk _ w hL).mono fun e w' ⟨h1, h2⟩ => by
    rcases h2 with ⟨c, hc, kc, he, rfl⟩ | ⟨hn, -⟩
    · have : c = b := hexOf_inj hc hb kc h (by simpa using he.symm)
      subst this
      exact ⟨rfl, h1⟩
    · exact absurd (by simp) (hn b hb h)

set_option maxRecDepth 100000 in
set_option maxHeartbeats 4000000 in
theorem textBack_walk (x y : Nat) (hx : x < 18446744073709551616) (hy : y < 18446744073709551616) (s : ByteArray) (w : World) (hL : LaidB w) : Calls Tryz.prog 9 #[.float .f64 x, .float .f64 y, .string s] w (True1 w) := by
  have hzo := zero_order
  by_cases kx : sz x < 9218868437227405312
  · have HX := Lib.hid (hex_yes x hx kx w hL.laid)
    have HU := Lib.hid (unhex_own x hx kx)
    have hsx := run_sub_num x kx
    by_cases ky : sz y < 9218868437227405312
    · have HY := Lib.hid (hex_yes y hy ky)
      have hsy := run_sub_num y ky
      have hinj := fun h => hexOf_inj hx hy kx ky h
      obtain ⟨t, q1, q2⟩ : ∃ t : Bool, (hexOf x == hexOf y) = t ∧ ((x : Int) == (y : Int)) = t := by
        by_cases hxy : x = y
        · subst hxy; exact ⟨true, by simp, by simp⟩
        · exact ⟨false, by simp; exact fun h => hxy (hinj h), by simp; omega⟩
      clear hinj hx hy kx ky
      go_enter Tryz.func9, Tryz.ntmps9
      go_wp2_with fail
      refine HX.out.mono ?_
      rintro e w1 ⟨hb1, rfl⟩
      have hL1 := hL.below hb1
      clear HX hL
      go_wp2_with fail
      refine (HY.out _ hL1.laid).mono ?_
      rintro e w2 ⟨hb2, rfl⟩
      have hL2 := Lib.hid (hL1.below hb2)
      have hb02 := hb1.trans (hb2.mono hb1.size)
      clear HY hL1 hb1 hb2
      go_wp2_with fail
      refine (HU.out _ hL2.out).mono ?_
      rintro e w3 ⟨rfl, hb3⟩
      have hL3 := Lib.hid (hL2.out.below hb3)
      have hb03 := hb02.trans (hb3.mono hb02.size)
      clear HU hL2 hb02 hb3
      have hab := apiBits
      cases t
      · go_wp2_with (go_at_call 16; refine (apiBits _ _).mono ?_; rintro e w1 ⟨rfl, hw1⟩; obtain rfl := hw1.symm)
        refine (unhex_walk s _ hL3.out).mono ?_
        rintro e w7 ⟨hb7, hcase⟩
        have hL7 := Lib.hid (hL3.out.below hb7)
        have hb07 := hb03.trans (hb7.mono hb03.size)
        clear hL3 hb03 hb7
        rcases hcase with ⟨b, hbb, kb, hs, rfl⟩ | ⟨-, rfl⟩
        · have HB := Lib.hid (hex_yes b hbb kb w7 hL7.out.laid)
          have hse : (hexOf b == s.toList) = true := by simpa [ByteArray.toList_eq] using hs.symm
          clear hs
          go_wp2_with fail
          refine HB.out.mono ?_
          rintro e w8 ⟨hb8, rfl⟩
          have hL8 := Lib.hid (hL7.out.below hb8)
          have hb08 := hb07.trans (hb8.mono hb07.size)
          clear HB hL7 hb07 hb8
          go_wp2_with fail
          refine (awake_true _ hL8.out.laid).mono ?_
          rintro e w9 ⟨rfl, hb9⟩
          have hb09 := hb08.trans (hb9.mono hb08.size)
          go_wp2_with fail
          go_ret
          exact ⟨rfl, hb09⟩
        · go_wp2_with fail
          refine (awake_true _ hL7.out.laid).mono ?_
          rintro e w9 ⟨rfl, hb9⟩
          have hb09 := hb07.trans (hb9.mono hb07.size)
          go_wp2_with fail
          go_ret
          exact ⟨rfl, hb09⟩
      · go_wp2_with (go_at_call 16; refine (apiBits _ _).mono ?_; rintro e w1 ⟨rfl, hw1⟩; obtain rfl := hw1.symm)
        refine (unhex_walk s _ hL3.out).mono ?_
        rintro e w7 ⟨hb7, hcase⟩
        have hL7 := Lib.hid (hL3.out.below hb7)
        have hb07 := hb03.trans (hb7.mono hb03.size)
        clear hL3 hb03 hb7
        rcases hcase with ⟨b, hbb, kb, hs, rfl⟩ | ⟨-, rfl⟩
        · have HB := Lib.hid (hex_yes b hbb kb w7 hL7.out.laid)
          have hse : (hexOf b == s.toList) = true := by simpa [ByteArray.toList_eq] using hs.symm
          clear hs
          go_wp2_with fail
          refine HB.out.mono ?_
          rintro e w8 ⟨hb8, rfl⟩
          have hL8 := Lib.hid (hL7.out.below hb8)
          have hb08 := hb07.trans (hb8.mono hb07.size)
          clear HB hL7 hb07 hb8
          go_wp2_with fail
          refine (awake_true _ hL8.out.laid).mono ?_
          rintro e w9 ⟨rfl, hb9⟩
          have hb09 := hb08.trans (hb9.mono hb08.size)
          go_wp2_with fail
          go_ret
          exact ⟨rfl, hb09⟩
        · go_wp2_with fail
          refine (awake_true _ hL7.out.laid).mono ?_
          rintro e w9 ⟨rfl, hb9⟩
          have hb09 := hb07.trans (hb9.mono hb07.size)
          go_wp2_with fail
          go_ret
          exact ⟨rfl, hb09⟩
    · have HY := Lib.hid (hex_no y hy ky)
      have hsy := run_sub_not y ky
      have hno := nanOf_order
      clear hx hy kx ky
      go_enter Tryz.func9, Tryz.ntmps9
      go_wp2_with fail
      refine HX.out.mono ?_
      rintro e w1 ⟨hb1, rfl⟩
      have hL1 := hL.below hb1
      clear HX hL
      go_wp2_with fail
      refine (HY.out _ hL1.laid).mono ?_
      rintro e w2 ⟨hb2, rfl⟩
      have hL2 := Lib.hid ((hL1.below hb2).below (below_drew1 (Below.refl _ _)))
      have hb02 := below_drew1 (hb1.trans (hb2.mono hb1.size))
      clear HY hL1 hb1 hb2
      go_wp2_with fail
      generalize w2.drew = w2' at *
      refine (HU.out _ hL2.out).mono ?_
      rintro e w3 ⟨rfl, hb3⟩
      have hL3 := Lib.hid (hL2.out.below hb3)
      have hb03 := hb02.trans (hb3.mono hb02.size)
      clear HU hL2 hb02 hb3
      go_wp2_with (go_at_call 16; refine (apiBits _ _).mono ?_; rintro e w1 ⟨rfl, hw1⟩; obtain rfl := hw1.symm)
      refine (unhex_walk s _ hL3.out).mono ?_
      rintro e w7 ⟨hb7, hcase⟩
      have hL7 := Lib.hid (hL3.out.below hb7)
      have hb07 := hb03.trans (hb7.mono hb03.size)
      clear hL3 hb03 hb7
      rcases hcase with ⟨b, hbb, kb, hs, rfl⟩ | ⟨-, rfl⟩
      · have HB := Lib.hid (hex_yes b hbb kb w7 hL7.out.laid)
        have hse : (hexOf b == s.toList) = true := by simpa [ByteArray.toList_eq] using hs.symm
        clear hs
        go_wp2_with fail
        refine HB.out.mono ?_
        rintro e w8 ⟨hb8, rfl⟩
        have hL8 := Lib.hid (hL7.out.below hb8)
        have hb08 := hb07.trans (hb8.mono hb07.size)
        clear HB hL7 hb07 hb8
        go_wp2_with fail
        refine (awake_true _ hL8.out.laid).mono ?_
        rintro e w9 ⟨rfl, hb9⟩
        have hb09 := hb08.trans (hb9.mono hb08.size)
        go_wp2_with fail
        go_ret
        exact ⟨rfl, hb09⟩
      · go_wp2_with fail
        refine (awake_true _ hL7.out.laid).mono ?_
        rintro e w9 ⟨rfl, hb9⟩
        have hb09 := hb07.trans (hb9.mono hb07.size)
        go_wp2_with fail
        go_ret
        exact ⟨rfl, hb09⟩
  · have HX := Lib.hid (hex_no x hx kx w hL.laid)
    have hsx := run_sub_not x kx
    have hno := nanOf_order
    by_cases ky : sz y < 9218868437227405312
    · have HY := Lib.hid (hex_yes y hy ky)
      have hsy := run_sub_num y ky
      clear hx hy kx ky
      go_enter Tryz.func9, Tryz.ntmps9
      go_wp2_with fail
      refine HX.out.mono ?_
      rintro e w1 ⟨hb1, rfl⟩
      have hL1 := hL.below hb1
      clear HX hL
      go_wp2_with fail
      refine (HY.out _ hL1.laid).mono ?_
      rintro e w2 ⟨hb2, rfl⟩
      have hL2 := Lib.hid ((hL1.below hb2).below (below_drew1 (Below.refl _ _)))
      have hb02 := below_drew1 (hb1.trans (hb2.mono hb1.size))
      clear HY hL1 hb1 hb2
      go_wp2_with fail
      generalize w2.drew = w2' at *
      refine (unhex_walk s _ hL2.out).mono ?_
      rintro e w7 ⟨hb7, hcase⟩
      have hL7 := Lib.hid (hL2.out.below hb7)
      have hb07 := hb02.trans (hb7.mono hb02.size)
      clear hL2 hb02 hb7
      rcases hcase with ⟨b, hbb, kb, hs, rfl⟩ | ⟨-, rfl⟩
      · have HB := Lib.hid (hex_yes b hbb kb w7 hL7.out.laid)
        have hse : (hexOf b == s.toList) = true := by simpa [ByteArray.toList_eq] using hs.symm
        clear hs
        go_wp2_with fail
        refine HB.out.mono ?_
        rintro e w8 ⟨hb8, rfl⟩
        have hL8 := Lib.hid (hL7.out.below hb8)
        have hb08 := hb07.trans (hb8.mono hb07.size)
        clear HB hL7 hb07 hb8
        go_wp2_with fail
        refine (awake_true _ hL8.out.laid).mono ?_
        rintro e w9 ⟨rfl, hb9⟩
        have hb09 := hb08.trans (hb9.mono hb08.size)
        go_wp2_with fail
        go_ret
        exact ⟨rfl, hb09⟩
      · go_wp2_with fail
        refine (awake_true _ hL7.out.laid).mono ?_
        rintro e w9 ⟨rfl, hb9⟩
        have hb09 := hb07.trans (hb9.mono hb07.size)
        go_wp2_with fail
        go_ret
        exact ⟨rfl, hb09⟩
    · have HY := Lib.hid (hex_no y hy ky)
      have hsy := run_sub_not y ky
      clear hx hy kx ky
      go_enter Tryz.func9, Tryz.ntmps9
      go_wp2_with fail
      refine HX.out.mono ?_
      rintro e w1 ⟨hb1, rfl⟩
      have hL1 := hL.below hb1
      clear HX hL
      go_wp2_with fail
      refine (HY.out _ hL1.laid).mono ?_
      rintro e w2 ⟨hb2, rfl⟩
      have hL2 := Lib.hid (((hL1.below hb2).below (below_drew1 (Below.refl _ _))).below (below_drew1 (Below.refl _ _)))
      have hb02 := below_drew1 (below_drew1 (hb1.trans (hb2.mono hb1.size)))
      clear HY hL1 hb1 hb2
      go_wp2_with fail
      generalize w2.drew.drew = w2' at *
      refine (unhex_walk s _ hL2.out).mono ?_
      rintro e w7 ⟨hb7, hcase⟩
      have hL7 := Lib.hid (hL2.out.below hb7)
      have hb07 := hb02.trans (hb7.mono hb02.size)
      clear hL2 hb02 hb7
      rcases hcase with ⟨b, hbb, kb, hs, rfl⟩ | ⟨-, rfl⟩
      · have HB := Lib.hid (hex_yes b hbb kb w7 hL7.out.laid)
        have hse : (hexOf b == s.toList) = true := by simpa [ByteArray.toList_eq] using hs.symm
        clear hs
        go_wp2_with fail
        refine HB.out.mono ?_
        rintro e w8 ⟨hb8, rfl⟩
        have hL8 := Lib.hid (hL7.out.below hb8)
        have hb08 := hb07.trans (hb8.mono hb07.size)
        clear HB hL7 hb07 hb8
        go_wp2_with fail
        refine (awake_true _ hL8.out.laid).mono ?_
        rintro e w9 ⟨rfl, hb9⟩
        have hb09 := hb08.trans (hb9.mono hb08.size)
        go_wp2_with fail
        go_ret
        exact ⟨rfl, hb09⟩
      · go_wp2_with fail
        refine (awake_true _ hL7.out.laid).mono ?_
        rintro e w9 ⟨rfl, hb9⟩
        have hb09 := hb07.trans (hb9.mono hb07.size)
        go_wp2_with fail
        go_ret
        exact ⟨rfl, hb09⟩
end Go.Proofs.YtjpiplplohapnaaGreatDoor
/- From the rows' condition on the listed variables to what the walks ask (Laid). -/
namespace Go.Proofs.YtjpiplplohapnaaGreatDoor
open Go.ChangeShapes Go.WideShapes Go.ChangeAt Go.RowKit

/-- The rows' list: the same in each of the seven. -/
abbrev laidL : List (String × DataW Unit) := Rows.textIntsRow.laid

theorem laid_at {P : Program} {w : World} : ∀ {l : List (String × DataW Unit)} {ps : List MemPlace}, DataW.LaidVars P w l ps → ∀ {n : String} {d : DataW Unit}, (n, d) ∈ l →
    ∃ g t cs fuel p, P.globalNamed n = some g ∧ (P.globals[g]?).map (·.type) = some t ∧ w.var? P n = some cs ∧ DataW.trod (fun _ => ()) P w 0 (fun _ => true) false fuel t cs.toList = some (d, p)
  | [], _, _, _, _, hm => by cases hm
  | (m, e) :: r, ps, h, n, d, hm => by
    obtain ⟨g, t, cs, fuel, p, q, h1, h2, h3, h4, h5, _⟩ := h
    rcases List.mem_cons.1 hm with he | hm
    · cases he; exact ⟨g, t, cs, fuel, p, h1, h2, h3, h4⟩
    · exact laid_at h5 hm

theorem laid_at' {P : Program} {w : World} {l : List (String × DataW Unit)} (h : laidMet P l w) {n : String} {d : DataW Unit} (hm : (n, d) ∈ l) {g : Nat} {t : TypeId} (hg : P.globalNamed n = some g) (ht : (P.globals[g]?).map (·.type) = some t) :
    ∃ cs fuel p, w.var? P n = some cs ∧ DataW.trod (fun _ => ()) P w 0 (fun _ => true) false fuel t cs.toList = some (d, p) := by
  obtain ⟨ps, hv, -, -⟩ := h
  obtain ⟨g', t', cs, fuel, p, h1, h2, h3, h4⟩ := laid_at hv hm
  obtain rfl := Option.some.inj (hg.symm.trans h1)
  obtain rfl := Option.some.inj (ht.symm.trans h2)
  exact ⟨cs, fuel, p, h3, h4⟩

theorem chunks {α : Type} (c : Nat) : ∀ (vs : List (List α)) (cs : List α), cs.length = vs.length * c → (∀ i, i < vs.length → (cs.drop (i * c)).take c = vs.getD i []) → cs = vs.flatten
  | [], cs, hl, _ => by simpa using hl
  | v :: vs, cs, hl, h => by
    have h0 := h 0 (by simp)
    simp at h0
    have hl' : cs.length = vs.length * c + c := by rw [hl, List.length_cons, Nat.succ_mul]
    have hr := chunks c vs (cs.drop c) (by rw [List.length_drop, hl']; omega) (fun i hi => by
      have h1 := h (i + 1) (by simp; omega)
      rw [List.drop_drop]
      rw [Nat.succ_mul, Nat.add_comm] at h1
      exact h1.trans (by simp))
    rw [List.flatten_cons, ← hr, ← h0, List.take_append_drop]

/-- An array whose parts each hold what they read as. -/
theorem cells_of_parts {H : Type} {enc : TypeId × Value → H} {P : Program} {w : World} {base : Nat} {sp : Nat → Bool} {held : Bool} {fuel : Nat} {t e : TypeId} {n : Nat} {cs : List Value} {ds : List (DataW H)} {vs : List (List Value)} {p : List MemPlace}
    (ht : P.underlying t = some (.array n e)) (hct : P.cellsOf t = n * P.cellsOf e) (hl : vs.length = n)
    (hp : ∀ i, i < n → ∀ (m : Nat) (c : List Value) (d : DataW H) (q : List MemPlace), ds[i]? = some d → DataW.trod enc P w base sp held m e c = some (d, q) → c = vs.getD i [])
    (h : DataW.trod enc P w base sp held fuel t cs = some (.agg ds, p)) : cs = vs.flatten := by
  obtain ⟨xs, m, -, hx, hlen, hxl, hel⟩ := DataW.trod_array ht h
  have hds : ds = xs.map (·.1) := by simpa using congrArg Prod.fst hx
  refine chunks (P.cellsOf e) vs cs (by rw [hlen, hct, hl]) (fun i hi => ?_)
  rw [hl] at hi
  have h1 := hel i hi
  obtain ⟨⟨d, q⟩, hxi⟩ : ∃ y, xs[i]? = some y := ⟨_, List.getElem?_eq_getElem (by omega)⟩
  rw [hxi] at h1
  exact hp i hi m _ d q (by rw [hds, List.getElem?_map, hxi]; rfl) h1

theorem gAcc : Tryz.prog.globalNamed "unicode/utf8.acceptRanges" = some 16 := by kernel_rfl
theorem tSyn : (Tryz.prog.globals[1]?).map (·.type) = some 47 := by kernel_rfl
theorem tRng : (Tryz.prog.globals[2]?).map (·.type) = some 47 := by kernel_rfl
theorem tOpt : (Tryz.prog.globals[3]?).map (·.type) = some 4 := by kernel_rfl
theorem tU10 : (Tryz.prog.globals[4]?).map (·.type) = some 167 := by kernel_rfl
theorem tInf : (Tryz.prog.globals[6]?).map (·.type) = some 182 := by kernel_rfl
theorem tF10 : (Tryz.prog.globals[10]?).map (·.type) = some 223 := by kernel_rfl
theorem tP10 : (Tryz.prog.globals[11]?).map (·.type) = some 227 := by kernel_rfl
theorem tDb : (Tryz.prog.globals[14]?).map (·.type) = some 233 := by kernel_rfl
theorem tAcc : (Tryz.prog.globals[16]?).map (·.type) = some 237 := by kernel_rfl
theorem star : "*" ++ "errors.errorString" = "*errors.errorString" := by decide
theorem row196 (u : TypeId) (h : Tryz.prog.typeName? 3 u = some "*errors.errorString") : u = 196 :=
  typeName_ptr_named (nm := "errors.errorString") (by rw [star]; kernel_rfl) (by kernel_rfl) (by decide) u (by rw [star]; exact h)
theorem cells198 : Tryz.prog.cellsOf 198 = 1 := by kernel_rfl
theorem cells9 : Tryz.prog.cellsOf 9 = 1 := by kernel_rfl
theorem cells5 : Tryz.prog.cellsOf 5 = 1 := by kernel_rfl
theorem cells26 : Tryz.prog.cellsOf 26 = 1 := by kernel_rfl
theorem cells22 : Tryz.prog.cellsOf 22 = 1 := by kernel_rfl
theorem cells226 : Tryz.prog.cellsOf 226 = 2 := by kernel_rfl
theorem cells227 : Tryz.prog.cellsOf 227 = 696 * Tryz.prog.cellsOf 226 := by kernel_rfl
theorem cells167 : Tryz.prog.cellsOf 167 = 20 := by kernel_rfl
theorem cells233 : Tryz.prog.cellsOf 233 = 64 := by kernel_rfl

theorem cells182 : Tryz.prog.cellsOf 182 = 3 := by kernel_rfl
theorem cells75 : Tryz.prog.cellsOf 75 = 1 := by kernel_rfl
theorem cells3 : Tryz.prog.cellsOf 3 = 1 := by kernel_rfl
theorem p10_length : (Pinned.pow10Rows.map fun x : Nat × Nat => [Value.int .u64 x.1, Value.int .u64 x.2]).length = 696 := by kernel_rfl
theorem trod_float {H : Type} {enc : TypeId × Value → H} {P : Program} {w : World} {base : Nat} {sp : Nat → Bool} {held : Bool} {fuel : Nat} {t : TypeId} {k : FloatKind} {cs : List Value} {x : DataW H × List MemPlace}
    (ht : P.underlying t = some (.float k)) (h : DataW.trod enc P w base sp held fuel t cs = some x) : ∃ n, cs = [.float k n] ∧ x = (.lit (.float k n), []) := by
  cases fuel with
  | zero => simp [DataW.trod] at h
  | succ n =>
    unfold DataW.trod at h
    rw [ht] at h
    split at h <;> simp_all
theorem one_cell {w : World} {base : Nat} {a : Addr} {c : Value} (h : w.cells? base a 1 = some [c]) : w.cell? a = some c := by
  have e0 : a.add 0 = a := by simp [Addr.add]
  unfold World.cells? at h
  split at h
  · simp only [List.range_succ, List.range_zero, List.nil_append, List.mapM_cons, List.mapM_nil, e0] at h
    cases hcc : w.cell? a with
    | none => simp [hcc] at h
    | some c => simp [hcc] at h; rw [h]
  · cases h
theorem two_cells {P : Program} {w : World} {base : Nat} {sp : Nat → Bool} {fuel : Nat} {t : TypeId} {f0 f1 : Field} {k0 k1 : IntKind} {cs : List Value} {x y : Int} {p : List MemPlace}
    (ht : P.underlying t = some (.struct #[f0, f1])) (hct : P.cellsOf t = 2) (t0 : P.underlying f0.type = some (.int k0)) (t1 : P.underlying f1.type = some (.int k1)) (n0 : P.cellsOf f0.type = 1) (n1 : P.cellsOf f1.type = 1) (o0 : f0.offset = 0) (o1 : f1.offset = 1)
    (h : DataW.trod (fun _ => ()) P w base sp false fuel t cs = some (.agg [.lit (.int k0 x), .lit (.int k1 y)], p)) : cs = [.int k0 x, .int k1 y] := by
  obtain ⟨xs, m, -, hx, hlen, hxl, hel⟩ := DataW.trod_struct ht h
  rw [hct] at hlen
  have h0 := hel 0 _ rfl
  have h1 := hel 1 _ rfl
  match xs, hxl, hx, h0, h1 with
  | [x0, x1], _, hx, h0, h1 =>
    simp only [List.map_cons, List.map_nil, Prod.mk.injEq, DataW.agg.injEq, List.cons.injEq, and_true] at hx
    obtain ⟨⟨e0, e1⟩, -⟩ := hx
    simp only [List.getElem?_cons_zero, List.getElem?_cons_succ] at h0 h1
    obtain ⟨k0, c0, d0, -⟩ := DataW.trod_int t0 h0
    obtain ⟨k1, c1, d1, -⟩ := DataW.trod_int t1 h1
    subst d0; subst d1
    cases e0; cases e1
    match cs, hlen, c0, c1 with
    | [a, b], _, c0, c1 =>
      simp [n0, n1, o0, o1] at c0 c1
      rw [c0, c1]
theorem three_cells {P : Program} {w : World} {base : Nat} {sp : Nat → Bool} {fuel : Nat} {t : TypeId} {f0 f1 f2 : Field} {k0 k1 k2 : IntKind} {cs : List Value} {x y z : Int} {p : List MemPlace}
    (ht : P.underlying t = some (.struct #[f0, f1, f2])) (hct : P.cellsOf t = 3) (t0 : P.underlying f0.type = some (.int k0)) (t1 : P.underlying f1.type = some (.int k1)) (t2 : P.underlying f2.type = some (.int k2)) (n0 : P.cellsOf f0.type = 1) (n1 : P.cellsOf f1.type = 1) (n2 : P.cellsOf f2.type = 1) (o0 : f0.offset = 0) (o1 : f1.offset = 1) (o2 : f2.offset = 2)
    (h : DataW.trod (fun _ => ()) P w base sp false fuel t cs = some (.agg [.lit (.int k0 x), .lit (.int k1 y), .lit (.int k2 z)], p)) : cs = [.int k0 x, .int k1 y, .int k2 z] := by
  obtain ⟨xs, m, -, hx, hlen, hxl, hel⟩ := DataW.trod_struct ht h
  rw [hct] at hlen
  have h0 := hel 0 _ rfl
  have h1 := hel 1 _ rfl
  have h2 := hel 2 _ rfl
  match xs, hxl, hx, h0, h1, h2 with
  | [x0, x1, x2], _, hx, h0, h1, h2 =>
    simp only [List.map_cons, List.map_nil, Prod.mk.injEq, DataW.agg.injEq, List.cons.injEq, and_true] at hx
    obtain ⟨⟨e0, e1, e2⟩, -⟩ := hx
    simp only [List.getElem?_cons_zero, List.getElem?_cons_succ] at h0 h1 h2
    obtain ⟨k0, c0, d0, -⟩ := DataW.trod_int t0 h0
    obtain ⟨k1, c1, d1, -⟩ := DataW.trod_int t1 h1
    obtain ⟨k2, c2, d2, -⟩ := DataW.trod_int t2 h2
    subst d0; subst d1; subst d2
    cases e0; cases e1; cases e2
    match cs, hlen, c0, c1, c2 with
    | [a, b, c], _, c0, c1, c2 =>
      simp [n0, n1, n2, o0, o1, o2] at c0 c1 c2
      rw [c0, c1, c2]
theorem pair_cells {w : World} {base : Nat} {sp : Nat → Bool} {fuel : Nat} {cs : List Value} {x y : Nat} {p : List MemPlace}
    (h : DataW.trod (fun _ => ()) Tryz.prog w base sp false fuel 226 cs = some (.agg [.lit (.int .u64 x), .lit (.int .u64 y)], p)) : cs = [.int .u64 x, .int .u64 y] :=
  two_cells Tryz.underlying226 cells226 Tryz.underlying26 Tryz.underlying26 cells26 cells26 rfl rfl h

theorem p10_cells {w : World} {fuel : Nat} {cs : List Value} {ds : List (DataW Unit)} {vs : List (List Value)} {p : List MemPlace} (hl : vs.length = 696)
    (hp : ∀ i, i < 696 → ∀ (m : Nat) (c : List Value) (d : DataW Unit) (q : List MemPlace), ds[i]? = some d → DataW.trod (fun _ => ()) Tryz.prog w 0 (fun _ => true) false m 226 c = some (d, q) → c = vs.getD i [])
    (h : DataW.trod (fun _ => ()) Tryz.prog w 0 (fun _ => true) false fuel 227 cs = some (.agg ds, p)) : cs = vs.flatten :=
  cells_of_parts (n := 696) (e := 226) Tryz.underlying227 cells227 hl hp h

section
variable {W : World} (h : laidMet Tryz.prog laidL W)
include h
theorem met_size : 17 ≤ W.heap.size := by
  obtain ⟨cs, fuel, p, hv, -⟩ := laid_at' h (n := "unicode/utf8.acceptRanges") (d := Rows.laid_unicode_utf8_acceptRanges) (by simp [laidL, Rows.textIntsRow]) gAcc tAcc
  unfold World.var? at hv
  rw [gAcc] at hv
  simp only [Option.bind_some] at hv
  split at hv
  · rename_i heq
    have := (Array.getElem?_eq_some_iff.1 heq).1
    omega
  · cases hv
theorem met_opt : W.var? Tryz.prog "internal/strconv.optimize" = some #[.bool true] := by
  obtain ⟨cs, fuel, p, hv, hd⟩ := laid_at' h (n := "internal/strconv.optimize") (d := Rows.laid_internal_strconv_optimize) (by simp [laidL, Rows.textIntsRow]) gOpt tOpt
  obtain ⟨b, hb, hx⟩ := DataW.trod_bool Tryz.underlying4 hd
  cases hx
  rw [hv, Array.eq_one_of_toList hb]
theorem met_inf : W.var? Tryz.prog "internal/strconv.float64info" = some #[.int .u64 52, .int .u64 11, .int .i64 (-1023)] := by
  obtain ⟨cs, fuel, p, hv, hd⟩ := laid_at' h (n := "internal/strconv.float64info") (d := Rows.laid_internal_strconv_float64info) (by simp [laidL, Rows.textIntsRow]) gInf tInf
  have := three_cells Tryz.underlying182 cells182 Tryz.underlying75 Tryz.underlying75 Tryz.underlying3 cells75 cells75 cells3 rfl rfl rfl hd
  rw [hv]
  exact congrArg some (Array.toList_inj.1 this)
theorem met_u10 : Lib.TabIs Tryz.prog W "internal/strconv.uint64pow10" .u64 Lib.pow10Tab := by
  obtain ⟨cs, fuel, p, hv, hd⟩ := laid_at' h (n := "internal/strconv.uint64pow10") (d := Rows.laid_internal_strconv_uint64pow10) (by simp [laidL, Rows.textIntsRow]) gU10 tU10
  have e : (Rows.laid_internal_strconv_uint64pow10 : DataW Unit) = Lib.tabData .u64 Lib.pow10Tab := by rfl
  rw [e] at hd
  unfold Lib.TabIs
  rw [hv, ← Lib.cells_of_tab Tryz.underlying167 Tryz.underlying26 cells26 cells167 hd]
theorem met_db : Lib.TabIs Tryz.prog W "math/bits.deBruijn64tab" .u8 (Lib.deBruijn64tab.map fun x : Nat => (x : Int)) := by
  obtain ⟨cs, fuel, p, hv, hd⟩ := laid_at' h (n := "math/bits.deBruijn64tab") (d := Rows.laid_math_bits_deBruijn64tab) (by simp [laidL, Rows.textIntsRow]) gDb tDb
  have e : (Rows.laid_math_bits_deBruijn64tab : DataW Unit) = Lib.tabData .u8 (Lib.deBruijn64tab.map fun x : Nat => (x : Int)) := by rfl
  rw [e] at hd
  unfold Lib.TabIs
  rw [hv, ← Lib.cells_of_tab Tryz.underlying233 Tryz.underlying5 cells5 cells233 hd]
theorem met_f10 : ∃ a : Addr, W.var? Tryz.prog "internal/strconv.float64pow10" = some #[.slice (some a) 23 23] ∧ ∀ i, i < 23 → W.cell? (a.add i) = some (.float .f64 (f10tab.getD i 0)) := by
  obtain ⟨cs, fuel, p, hv, hd⟩ := laid_at' h (n := "internal/strconv.float64pow10") (d := Rows.laid_internal_strconv_float64pow10) (by simp [laidL, Rows.textIntsRow]) gF10 tF10
  rcases DataW.trod_slice Tryz.underlying223 hd with ⟨_, hx⟩ | ⟨a, len, cap, elems, rest, n, _, hcs, hx, _, hl, _, hlen, hel, hsp, _⟩
  · simp [Rows.laid_internal_strconv_float64pow10] at hx
  · simp only [Rows.laid_internal_strconv_float64pow10, Prod.mk.injEq, DataW.slice.injEq] at hx
    obtain ⟨⟨hE, hR⟩, -⟩ := hx
    have hr : rest = [] := List.map_eq_nil_iff.1 hR.symm
    subst hr
    have hc := (hsp rfl).1
    have hlen23 : len = 23 := by
      have := congrArg List.length hE
      simp at this; omega
    subst hlen23
    have hcap : cap = 23 := by simp at hc; omega
    subst hcap
    refine ⟨a, by rw [hv, Array.eq_one_of_toList hcs], fun i hi => ?_⟩
    have h1 := hel i hi
    rw [cells22, Nat.mul_one] at h1
    obtain ⟨y, hy⟩ : ∃ y, elems[i]? = some y := ⟨_, List.getElem?_eq_getElem (by omega)⟩
    rw [hy] at h1
    obtain ⟨c1, hc1, hy1⟩ := Option.bind_eq_some_iff.1 h1
    obtain ⟨k, rfl, hk⟩ := trod_float Tryz.underlying22 hy1
    have hd1 : (elems.map (·.1))[i]? = some (DataW.lit (.float .f64 k)) := by rw [List.getElem?_map, hy]; simp [hk]
    rw [← hE] at hd1
    have hkk : k = f10tab.getD i 0 := by
      have : ((f10tab.map fun x => (DataW.lit (.float .f64 x) : DataW Unit))[i]?) = some (DataW.lit (.float .f64 k)) := hd1
      rw [List.getElem?_map] at this
      obtain ⟨z, hz, hz2⟩ := Option.map_eq_some_iff.1 this
      cases hz2
      simp [List.getD, hz]
    rw [← hkk]
    exact one_cell hc1
theorem met_p10 : W.var? Tryz.prog "internal/strconv.pow10Tab" = some (Pinned.pow10Rows.flatMap fun x => [Value.int .u64 x.1, Value.int .u64 x.2]).toArray := by
  obtain ⟨cs, fuel, p, hv, hd⟩ := laid_at' h (n := "internal/strconv.pow10Tab") (d := Rows.laid_internal_strconv_pow10Tab) (by simp [laidL, Rows.textIntsRow]) gP10 tP10
  have e : (Rows.laid_internal_strconv_pow10Tab : DataW Unit) = .agg (Pinned.pow10Rows.map fun x => .agg [.lit (.int .u64 x.1), .lit (.int .u64 x.2)]) := rfl
  rw [e] at hd
  have hp : ∀ i, i < 696 → ∀ (m : Nat) (c : List Value) (d : DataW Unit) (q : List MemPlace), (Pinned.pow10Rows.map fun x : Nat × Nat => (.agg [.lit (.int .u64 x.1), .lit (.int .u64 x.2)] : DataW Unit))[i]? = some d →
      DataW.trod (fun _ => ()) Tryz.prog W 0 (fun _ => true) false m 226 c = some (d, q) → c = (Pinned.pow10Rows.map fun x : Nat × Nat => [Value.int .u64 x.1, Value.int .u64 x.2]).getD i [] := by
    intro i hi m c d q hdi ht
    rw [List.getElem?_map] at hdi
    obtain ⟨z, hz, rfl⟩ := Option.map_eq_some_iff.1 hdi
    have hg : (Pinned.pow10Rows.map fun x : Nat × Nat => [Value.int .u64 x.1, Value.int .u64 x.2]).getD i [] = [Value.int .u64 z.1, Value.int .u64 z.2] := by simp [List.getD, hz]
    rw [hg]
    exact pair_cells ht
  have := p10_cells p10_length hp hd
  rw [hv]
  refine congrArg some (Array.toList_inj.1 ?_)
  rw [this, List.flatMap_def]
theorem met_syn : ∃ te pe, W.var? Tryz.prog "strconv.ErrSyntax" = some #[.iface te pe] := by
  have h' := h.tail.tail.tail.tail.tail.tail.tail.tail.tail.tail.tail
  obtain ⟨a0, s0, hv0, -, -, -⟩ := laid_sentinel h' gSyn tSyn Tryz.underlying47 row196 Tryz.underlying196 Tryz.underlying198 rfl rfl Tryz.underlying9 cells198 cells9
  exact ⟨_, _, hv0⟩
theorem met_rng : ∃ te pe, W.var? Tryz.prog "strconv.ErrRange" = some #[.iface te pe] := by
  have h' := h.tail.tail.tail.tail.tail.tail.tail.tail.tail.tail
  obtain ⟨a0, s0, hv0, -, -, -⟩ := laid_sentinel h' gRng tRng Tryz.underlying47 row196 Tryz.underlying196 Tryz.underlying198 rfl rfl Tryz.underlying9 cells198 cells9
  exact ⟨_, _, hv0⟩
theorem laid_of_met : Laid W :=
  ⟨met_size h, met_syn h, met_rng h, met_opt h, met_inf h, met_u10 h, met_f10 h, met_p10 h, met_db h⟩
end
end Go.Proofs.YtjpiplplohapnaaGreatDoor
/- The wrap of a row with laid variables, the world's shape kept: two variables' blocks bear no mark. -/
namespace Go.Proofs.YtjpiplplohapnaaGreatDoor
open Go.ChangeShapes Go.WideShapes Go.ChangeAt Go.RowKit

theorem returns_shaped {H : Type} {enc : TypeId × Value → H} {a : Assume} {C : Checked} {os : Os} {f : FuncId} {fn : Func} {s : ChangeSpec} {conds : List PathCond} {apart fresh handsOn again : Bool} {X : World → Array Value → Prop}
    (hX : ∀ (w w' : World) (args : Array Value), w.heap = w'.heap → X w args → X w' args)
    (own : ownKnob C.prog.godebug = none) (started : os.Started) (noInit : C.prog.inits.idxOf? f = none) (hfn : C.prog.funcs[f]? = some fn)
    (witness : ∃ (w : World) (tape : Tape) (i : Input), w.os = os ∧ (w.forCall tape i).Shaped C.prog ∧ i.vars = [] ∧ Input.okWide C.prog (w.forCall tape i) .any w.heap.size f i ∧
      ((s.pre enc C.prog fn conds apart (w.forCall tape i).memory i.args ∧ X (w.forCall tape i).memory i.args) ∧ sizedMet enc C.prog fn (OpenSpec.ofChange s) apart (w.forCall tape i).memory i.args) ∧ a.holds C.prog (lone (Frame.enter C.prog f i.args .normal) [] (w.forCall tape i)))
    (contract : ∀ (W : World) (base : Nat) (args : Array Value) (ds gs : List (DataW H)) (before : List MemPlace),
      (∀ (j : Nat) t v, fn.params[j]? = some t → args[j]? = some v → Value.okWide C.prog W .any base t v) →
      DataW.Whole enc C.prog fn.params.toList s.vars apart W args.toList ds gs before →
      conds.all (PathCond.test C.prog ⟨fn.params.toList, ds, s.plain.varTypes C.prog, gs⟩) = true →
      (DataW.weightsEach C.prog (fn.params.toList ++ s.plain.varTypes C.prog) (ds ++ gs)).all (· ≤ reachBytes) = true → X W args →
      W.ShapedOpen C.prog →
      Calls C.prog f args W fun e W' => ∃ v, e = .returned v ∧ s.post enc C.prog fn apart fresh handsOn again W args v W') :
    ReturnsInHanded a C os f .any (fun w args => (s.pre enc C.prog fn conds apart w args ∧ X w args) ∧ sizedMet enc C.prog fn (OpenSpec.ofChange s) apart w args) (s.post enc C.prog fn apart fresh handsOn again) := by
  refine returnsInHanded_of_calls own started noInit witness ?_
  intro w tape i _ hsh _ hok hpre _
  obtain ⟨_, _, _, fn', hfn', _, _, _, _, hval⟩ := hok
  have e : fn' = fn := Option.some.inj (hfn'.symm.trans hfn)
  subst e
  obtain ⟨⟨⟨ds, gs, before, hw, hc⟩, hx⟩, hz⟩ := hpre
  have hw' := DataW.Whole.of_heap (w' := w.forCall tape i) (by rfl) hw
  refine (contract (w.forCall tape i) w.heap.size i.args ds gs before hval hw' hc (hz.weights hw) (hX _ _ _ (by rfl) hx) hsh).mono fun e W' ⟨v, he, hp⟩ => ?_
  subst he
  exact ChangeSpec.post_blind hp

theorem row5 : ∃ z t, ((begin Tryz.prog (fun _ _ => 0) default).world.heap[5]?).bind Obj.row? = some (z, t) := ⟨#[.int .u64 0, .int .u64 0, .int .i64 0], 182, by kernel_rfl⟩
theorem row6 : ∃ z t, ((begin Tryz.prog (fun _ _ => 0) default).world.heap[6]?).bind Obj.row? = some (z, t) := ⟨#[.int .u64 0, .int .u64 0, .int .i64 0], 182, by kernel_rfl⟩
theorem globals_size : 7 ≤ Tryz.prog.globals.size := by
  have : decide (7 ≤ Tryz.prog.globals.size) = true := by kernel_rfl
  exact of_decide_eq_true this
theorem laidB_of {W : World} (h : laidMet Tryz.prog laidL W) (hs : W.ShapedOpen Tryz.prog) : LaidB W := by
  refine ⟨laid_of_met h, ?_, ?_⟩
  · obtain ⟨z, t, hr⟩ := row5
    obtain ⟨cs, hc, -⟩ := hs.1 5 z t (by have := globals_size; omega) hr
    exact ⟨cs, t, hc⟩
  · obtain ⟨z, t, hr⟩ := row6
    obtain ⟨cs, hc, -⟩ := hs.1 6 z t (by have := globals_size; omega) hr
    exact ⟨cs, t, hc⟩
end Go.Proofs.YtjpiplplohapnaaGreatDoor
/- TextBack: the row proved. -/
namespace Go.Proofs.YtjpiplplohapnaaGreatDoor
open Go.ChangeShapes Go.WideShapes Go.ChangeAt Go.RowKit
open Go.ChangeMaps (open_string shut_string)

theorem ownB : ownKnob Tryz.prog.godebug = none := by kernel_rfl
theorem lt_of_wf {b : Nat} (h : (Lit.float .f64 b).wf = true) : b < 18446744073709551616 := by
  have h2 : decide (b < 2 ^ 64) = true := h
  exact of_decide_eq_true h2

set_option maxRecDepth 100000 in
theorem textBack_lifted (os : Os) (started : os.Started) (H : Type) (enc : TypeId × Value → H) :
    ReturnsInHanded {} Tryz.checked os 9 .any (fun w args => (Rows.textBackSpec.pre enc Tryz.prog Tryz.f9 Rows.textBackRow.domain false w args ∧ laidMetH Tryz.prog laidL w) ∧ sizedMet enc Tryz.prog Tryz.f9 (OpenSpec.ofChange Rows.textBackSpec) false w args)
      (Rows.textBackSpec.post enc Tryz.prog Tryz.f9 false true false false) := by
  refine returns_shaped (C := Tryz.checked) (X := fun w _ => laidMetH Tryz.prog laidL w) (fun _ _ _ hh h => h.of_heap hh) ownB started (by kernel_rfl) Tryz.func9
    (ChangeSpec.witness_shaped (enc := enc) (C := Tryz.checked) (os := os) (X := fun w _ => laidMetH Tryz.prog laidL w) false (World.laidAll Tryz.prog os laidL) #[.float .f64 0, .float .f64 0, .string ⟨#[]⟩] 8 (World.laidAll_os _ _ _)
      (World.shaped_of_ZipB (by kernel_rfl) (by kernel_rfl)) (by kernel_rfl) (by kernel_rfl) (by kernel_rfl)
      (by rw [MakeChecks.laidMetH_plain _ _ _ (by kernel_rfl)]; exact laidMet_laidAll _ (by kernel_rfl) (by kernel_rfl))) ?_
  intro W base args ds gs before hval0 hW hc hsz0 hL hsh
  clear hc hsz0
  have hval : ∀ (j : Nat) t v, Tryz.f9.params[j]? = some t → args[j]? = some v → Value.okWide Tryz.prog W .any base t v := hval0
  have hW' := hW
  obtain ⟨p, q, hA0, hV, rfl, _, _⟩ := hW
  have hA : DataW.TrodAll enc Tryz.prog W 0 (fun _ => true) true Tryz.f9.params.toList args.toList ds p := hA0
  rw [Tryz.params9] at hA hval
  obtain ⟨v0, v1, v2, d0, d1, d2, p0, p1, p2, rfl, rfl, rfl, h0, h1, h2⟩ := trodAll_three hA
  obtain ⟨rfl, rfl⟩ := trodVars_none hV
  obtain ⟨x, rfl, rfl, rfl, wx⟩ := open_float Tryz.underlying22 (hval 0 22 v0 rfl rfl) h0
  obtain ⟨y, rfl, rfl, rfl, wy⟩ := open_float Tryz.underlying22 (hval 1 22 v1 rfl rfl) h1
  obtain ⟨s, rfl, rfl, rfl, hs⟩ := open_string Tryz.underlying9 (hval 2 9 v2 rfl rfl) h2
  clear hA0 hval0
  simp only [List.append_nil] at hW'
  rw [MakeChecks.laidMetH_plain _ _ _ (by kernel_rfl)] at hL
  refine (textBack_walk x y (lt_of_wf wx) (lt_of_wf wy) s W (laidB_of hL hsh)).mono fun e W' ⟨he, hb⟩ => ?_
  subst he
  refine ⟨_, rfl, _, _, _, [], [], [], hW', ?_, ?_, rfl, hb.frame _, fun h => by cases h⟩
  · exact trodAll_mk1 (shut_bool Tryz.underlying4 _)
  · exact trodAll_mk3 (shut_float Tryz.underlying22 wx) (shut_float Tryz.underlying22 wy) (shut_string Tryz.underlying9 hs)

theorem textBack_holds : Rows.TextBackSaid :=
  OpenClaim.holds_of_wide 9 Tryz.f9 rfl rfl rfl rfl rfl rfl rfl ⟨rfl, rfl, rfl, rfl, rfl⟩ rfl rfl rfl rfl rfl (by kernel_rfl) Tryz.func9 (by kernel_rfl)
    (of_decide_eq_true (by kernel_rfl)) (by unfold Func.isWrapper; first | (rw [if_pos (by decide +kernel)]; kernel_rfl) | (rw [if_neg (by decide +kernel)]; exact ⟨rfl, rfl⟩))
    (fun os started H enc _ => textBack_lifted os started H enc)
#print axioms textBack_holds
end Go.Proofs.YtjpiplplohapnaaGreatDoor
namespace Go.Proofs.YtjpiplplohapnaaGreatDoor
open Go
theorem textBack_card : Rows.TextBackCardSaid :=
  Claim7.holds_tied_plain_at .later [] [.data, .data, .widerDeep, .widerDeep, .data, .data, .data, .data, .data, .data, .sentinel, .sentinel, .pinned, .pinned, .pinned] true (true, "88b106d7fc526b4d2f4990cd12e5310ed366ec0058fe55e1a106d0c7beb3aadc") true
    textBack_holds (fun _ h => by cases h) (by kernel_rfl) (fun _ h => by cases h) textBack_row_tie rfl ⟨rfl, rfl⟩ (by kernel_rfl) rfl
    (fun f fn hf hfn => by
      obtain rfl : f = 9 := Option.some.inj ((show Tryz.prog.funcNamed "tenor/tenorlaw2.TextBack" = some 9 by kernel_rfl).symm.trans hf) |>.symm
      obtain rfl : fn = Tryz.f9 := (Option.some.inj (Tryz.func9.symm.trans hfn)).symm
      exact ⟨by kernel_rfl, fun j t ht => by
        rw [Tryz.params9] at ht
        have hm : t ∈ [22, 22, 9] := by simpa using Array.mem_of_getElem? ht
        have hall : ([22, 22, 9].all fun u => !Tryz.prog.wantsStandIn u) = true := by kernel_rfl
        exact (show Tryz.prog.wantsStandIn t = false by simpa using List.all_eq_true.1 hall t hm)⟩)
    (by kernel_rfl)
#print axioms textBack_card
end Go.Proofs.YtjpiplplohapnaaGreatDoor
