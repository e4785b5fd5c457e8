/- Part 11 of the proof: RfPd, RfNd, PHy, AwK, BigA, BigB. -/
import Derived.Test.YtjpiplplohapnaaGreatDoorHx10
import Derived.IntWalk
set_option linter.unusedVariables false
set_option linter.unusedSimpArgs false
namespace Go.Proofs.YtjpiplplohapnaaGreatDoor
open Go.RowKit Go.Proofs.YtjpiplplohapnaaGreatDoorW.PrintWords Rf
set_option maxRecDepth 100000 in
set_option maxHeartbeats 8000000 in
theorem readFloat_pd (s : ByteArray) (hs : s.size ≤ 1000) (h0 : 0 < s.size) (h45 : s[0].toNat ≠ 45) (h43 : s[0].toNat ≠ 43) (hnx : ¬ (2 < s.size ∧ (s.data.toList.getD 0 0).toNat = 48 ∧ lw (s.data.toList.getD 1 0).toNat = 120)) (w : World) : Calls Tryz.prog 142 #[.string s] w (RfPost false false s (fin false (scan false (s.data.toList.drop 0) st0).1 (scan false (s.data.toList.drop 0) st0).2) w) := by
  obtain ⟨sF, rF, hsc⟩ : ∃ sF rF, scan false (s.data.toList.drop 0) st0 = (sF, rF) := ⟨_, _, rfl⟩
  rw [hsc]
  dsimp only
  have hne : ¬ s = ByteArray.empty := by rintro rfl; simp at h0
  have hz0 : 0 < s.size := by omega
  obtain ⟨c0, hc0⟩ : ∃ c0 : Nat, s[0].toNat = c0 := ⟨_, rfl⟩
  have e0 : (s[0].toNat : Int) = c0 := by rw [hc0]
  rw [hc0] at h45 h43
  have g1 : ((c0 : Int) == 45) = false := by simp; omega
  have g2 : ((c0 : Int) == 43) = false := by simp; omega
  have hg0 : (s.data.toList.getD 0 0).toNat = c0 := by rw [List.getD_eq_getElem?_getD, List.getElem?_eq_getElem (by simpa using h0)]; exact hc0
  clear h45 h43 hc0
  have hI0 : 0 ≤ s.size := by omega
  clear h0
  go_enter Tryz.func142, Tryz.ntmps142
  go_wp2_with fail
  go_step3
  go_upto_region 12 with (fail)
  go_cut [54] (fun v54 w' => v54 = .bool false ∧ w = w')
  case first =>
    by_cases hl2 : 2 < s.size
    · have hh : (0 : Int) + 2 < s.size := by omega
      have hh2 : (2 : Int) < s.size := by omega
      have hi1 : 1 < s.size := by omega
      obtain ⟨c1, hc1⟩ : ∃ c1 : Nat, s[1].toNat = c1 := ⟨_, rfl⟩
      have e1 : (s[1].toNat : Int) = c1 := by rw [hc1]
      have hg1 : (s.data.toList.getD 1 0).toNat = c1 := by rw [List.getD_eq_getElem?_getD, List.getElem?_eq_getElem (by simpa using hi1)]; exact hc1
      have hno : ¬ (c0 = 48 ∧ lw c1 = 120) := fun h => hnx ⟨hl2, by rw [hg0]; exact h.1, by rw [hg1]; exact h.2⟩
      clear hnx hg0 hg1 hc1
      have hlw : Go.bits .or .u8 (c1 : Int) 32 = lw c1 := rfl
      by_cases h48 : c0 = 48
      · have g3 : ((c0 : Int) == 48) = true := by simp [h48]
        have g4 : (lw c1 == 120) = false := by simp; exact fun h => hno ⟨h48, h⟩
        clear hno h48
        go_wp2_with (go_at_call 156; refine (Tryz.internal_strconv_lower _ _).mono ?_; rintro e w1 ⟨rfl, hw1⟩; obtain rfl := hw1.symm)
        go_meet
        case rel => exact ⟨rfl, rfl⟩
      · have g3 : ((c0 : Int) == 48) = false := by simp; omega
        clear hno h48
        go_wp2_with (go_at_call 156; refine (Tryz.internal_strconv_lower _ _).mono ?_; rintro e w1 ⟨rfl, hw1⟩; obtain rfl := hw1.symm)
        go_meet
        case rel => exact ⟨rfl, rfl⟩
    · have hh : ¬ (0 : Int) + 2 < s.size := by omega
      have hh2 : ¬ (2 : Int) < s.size := by omega
      have hh3 : (s.size : Int) ≤ 2 := by omega
      clear hnx
      go_wp2_with (go_at_call 156; refine (Tryz.internal_strconv_lower _ _).mono ?_; rintro e w1 ⟨rfl, hw1⟩; obtain rfl := hw1.symm)
      go_meet
      case rel => exact ⟨rfl, rfl⟩
  case rest =>
    obtain ⟨rfl, rfl⟩ := hcut
    clear e0 hnx g1 g2 hg0
    go_wp2_with fail
    go_step3
    go_upto_block 1 with (fail)
    have HI := Lib.hid (ok0 false 0)
    go_cut [2, 5, 7, 9, 13, 14, 15, 16, 17] (fun v2 v5 v7 v9 v13 v14 v15 v16 v17 w' => v2 = .int .u64 sF.m ∧ v5 = .bool sF.tr ∧ (∃ k : Nat, v7 = .int .i64 k ∧ Hid (s.data.toList.drop k = rF) ∧ k ≤ s.size ∧ Hid (Ok false sF k)) ∧ v9 = .bool sF.us ∧ v13 = .bool sF.dot ∧ v14 = .bool sF.sd ∧ v15 = .int .i64 sF.nd ∧ v16 = .int .i64 sF.nm ∧ v17 = .int .i64 sF.dp ∧ w = w')
    case first =>
      go_wp2_with fail
      have Hsc := Lib.hid hsc
      clear hsc
      go_loopg [2, 5, 7, 9, 13, 14, 15, 16, 17] (s.size - 0) (fun gn v2 v5 v7 v9 v13 v14 v15 v16 v17 w' => ∃ (k : Nat) (t : St), gn + k = s.size ∧ v2 = .int .u64 t.m ∧ v5 = .bool t.tr ∧ v7 = .int .i64 k ∧ Hid (scan false (s.data.toList.drop k) t = (sF, rF)) ∧ k ≤ s.size ∧ Hid (Ok false t k) ∧ v9 = .bool t.us ∧ v13 = .bool t.dot ∧ v14 = .bool t.sd ∧ v15 = .int .i64 t.nd ∧ v16 = .int .i64 t.nm ∧ v17 = .int .i64 t.dp ∧ w = w')
      case atStart => exact ⟨0, st0, by omega, rfl, rfl, rfl, Hsc, by omega, HI, rfl, rfl, rfl, rfl, rfl, rfl, rfl⟩
      case round =>
        obtain ⟨k, t, hg, rfl, rfl, rfl, hsc, hk, hok, rfl, rfl, rfl, rfl, rfl, rfl, rfl⟩ := hrel
        obtain ⟨us, dot, sd, nd, nm, dp, m, tr⟩ := t
        have hok := hok.out
        clear Hsc HI
        by_cases hkl : k < s.size
        · have hl : k < s.data.toList.length := by simpa using hkl
          have hsk : ((s[k].toNat : Nat) : Int) = ((s.data.toList[k].toNat : Nat) : Int) := rfl
          have hss := fun t' => @scan_some false s.data.toList k ⟨us, dot, sd, nd, nm, dp, m, tr⟩ t' hl
          have hsn := @scan_none false s.data.toList k ⟨us, dot, sd, nd, nm, dp, m, tr⟩ hl
          have hc256 : s.data.toList[k].toNat < 256 := UInt8.toNat_lt _
          obtain ⟨c, hc⟩ : ∃ c, c = s.data.toList[k].toNat := ⟨_, rfl⟩
          rw [← hc] at hsk hss hsn hc256
          clear hc
          by_cases h95 : c = 95
          · have f1 : ((c : Int) == 95) = true := by simp [h95]
            have HS := Lib.hid ((hss _ (by unfold stp; rw [if_pos h95])).symm.trans hsc.out)
            have HO : Hid (Ok false ⟨true, dot, sd, nd, nm, dp, m, tr⟩ (k + 1)) := Lib.hid ⟨by have := hok.nd; dsimp only at *; omega, hok.nm, hok.m, by have := hok.dp1; dsimp only at *; omega, by have := hok.dp2; dsimp only at *; omega⟩
            clear hss hsn hsc hok
            go_wp2_with fail
            go_roundg (gk - 1)
            case measure => omega
            case rel => exact ⟨k + 1, ⟨true, dot, sd, nd, nm, dp, m, tr⟩, by omega, rfl, rfl, by go_num, HS, by omega, HO, rfl, rfl, rfl, rfl, rfl, rfl, rfl⟩
          · have f1 : ((c : Int) == 95) = false := by simp; omega
            by_cases h46 : c = 46
            · have f2 : ((c : Int) == 46) = true := by simp [h46]
              cases dot
              ·
                have HS := Lib.hid ((hss _ (by unfold stp; rw [if_neg h95, if_pos h46]; rfl)).symm.trans hsc.out)
                have HO : Hid (Ok false ⟨us, true, sd, nd, nm, nd, m, tr⟩ (k + 1)) := Lib.hid ⟨by have := hok.nd; dsimp only at *; omega, hok.nm, hok.m, by have := hok.nd; dsimp only at *; omega, by have := hok.nd; dsimp only at *; omega⟩
                clear hss hsn hsc hok
                go_wp2_with fail
                go_roundg (gk - 1)
                case measure => omega
                case rel => exact ⟨k + 1, ⟨us, true, sd, nd, nm, nd, m, tr⟩, by omega, rfl, rfl, by go_num, HS, by omega, HO, rfl, rfl, rfl, rfl, rfl, rfl, rfl⟩
              ·
                have HS := Lib.hid ((hsn (by unfold stp; rw [if_neg h95, if_pos h46]; rfl)).symm.trans hsc.out)
                have HO := Lib.hid hok
                clear hss hsn hsc hok
                go_wp2_with fail
                go_meet
                case rel =>
                  obtain ⟨rfl, rfl⟩ := Prod.mk.inj HS.out
                  exact ⟨rfl, rfl, ⟨k, rfl, Lib.hid rfl, by omega, HO⟩, rfl, rfl, rfl, rfl, rfl, rfl, rfl⟩
            · have f2 : ((c : Int) == 46) = false := by simp; omega
              by_cases hd : 48 ≤ c ∧ c ≤ 57
              · have f3 : (48 : Int) ≤ c := by omega
                have f4 : (c : Int) ≤ 57 := by omega
                by_cases hz : c = 48 ∧ nd = 0
                · have f5 : ((c : Int) == 48) = true := by simp [hz.1]
                  have f6 : ((nd : Int) == 0) = true := by simp [hz.2]
                  have hw : IntKind.i64.wrap (dp - 1) = dp - 1 := by
                    have := hok.dp1
                    have := hok.dp2
                    dsimp only at *
                    rw [Go.IntKind.wrap_i64]; omega
                  have HS := Lib.hid ((hss _ (by unfold stp; rw [if_neg h95, if_neg h46, if_pos hd, if_pos hz])).symm.trans hsc.out)
                  have HO : Hid (Ok false ⟨us, dot, true, nd, nm, dp - 1, m, tr⟩ (k + 1)) := Lib.hid ⟨by have := hok.nd; dsimp only at *; omega, hok.nm, hok.m, by have := hok.dp1; dsimp only at *; omega, by have := hok.dp2; dsimp only at *; omega⟩
                  clear hss hsn hsc hok hz hd
                  go_wp2_with fail
                  go_roundg (gk - 1)
                  case measure => omega
                  case rel => exact ⟨k + 1, ⟨us, dot, true, nd, nm, dp - 1, m, tr⟩, by omega, rfl, rfl, by go_num, HS, by omega, HO, rfl, rfl, rfl, rfl, rfl, rfl, rfl⟩
                · have hnd : nd < 1000000 := by have := hok.nd; dsimp only at *; omega
                  have hnm : nm ≤ 19 := hok.nm
                  have hw15 : IntKind.i64.wrap ((nd : Int) + 1) = (nd : Int) + 1 := by rw [Go.IntKind.wrap_i64]; omega
                  have hw16 : IntKind.i64.wrap ((nm : Int) + 1) = (nm : Int) + 1 := by rw [Go.IntKind.wrap_i64]; omega
                  by_cases hm : nm < 19
                  · have f7 : (nm : Int) < 19 := by omega
                    have hroom := hok.room (d := c - 48) hm (by show c - 48 < 10; omega)
                    have hmb : m * 10 + (c - 48) < 18446744073709551616 := Nat.lt_of_lt_of_le hroom.1 hroom.2
                    have hw2 : IntKind.u64.wrap ((m : Int) * 10) = (m : Int) * 10 := by rw [Go.IntKind.wrap_u64]; omega
                    have hw3 : IntKind.u64.wrap ((m : Int) * 10 + ((c : Int) - 48)) = (m : Int) * 10 + ((c : Int) - 48) := by rw [Go.IntKind.wrap_u64]; omega
                    have hw4 : IntKind.u8.wrap ((c : Int) - 48) = (c : Int) - 48 := by rw [Go.IntKind.wrap_u8]; omega
                    have hw5 : IntKind.u64.wrap ((c : Int) - 48) = (c : Int) - 48 := by rw [Go.IntKind.wrap_u64]; omega
                    have hw6 : ((c : Int) - 48) % 256 = (c : Int) - 48 := by omega
                    have HS := Lib.hid ((hss _ (by unfold stp; rw [if_neg h95, if_neg h46, if_pos hd, if_neg hz, if_pos (show nm < mxd false from hm)])).symm.trans hsc.out)
                    have HO : Hid (Ok false ⟨us, dot, true, nd + 1, nm + 1, dp, m * 10 + (c - 48), tr⟩ (k + 1)) := Lib.hid ⟨by have := hok.nd; dsimp only at *; omega, hm, hroom.1, by have := hok.dp1; dsimp only at *; omega, by have := hok.dp2; dsimp only at *; omega⟩
                    clear hss hsn hsc hok hroom
                    by_cases h48 : c = 48
                    · have f5 : ((c : Int) == 48) = true := by simp [h48]
                      have f6 : ((nd : Int) == 0) = false := by simp; omega
                      clear hz hd h48
                      go_wp2_with fail
                      go_roundg (gk - 1)
                      case measure => omega
                      case rel => exact ⟨k + 1, ⟨us, dot, true, nd + 1, nm + 1, dp, m * 10 + (c - 48), tr⟩, by omega, congrArg (Value.int .u64) (by dsimp only; omega), rfl, by go_num, HS, by omega, HO, rfl, rfl, rfl, by go_num, by go_num, rfl, rfl⟩
                    · have f5 : ((c : Int) == 48) = false := by simp; omega
                      clear hz hd h48
                      go_wp2_with fail
                      go_roundg (gk - 1)
                      case measure => omega
                      case rel => exact ⟨k + 1, ⟨us, dot, true, nd + 1, nm + 1, dp, m * 10 + (c - 48), tr⟩, by omega, congrArg (Value.int .u64) (by dsimp only; omega), rfl, by go_num, HS, by omega, HO, rfl, rfl, rfl, by go_num, by go_num, rfl, rfl⟩
                  · have f7 : ¬ (nm : Int) < 19 := by omega
                    have HS := Lib.hid ((hss _ (by unfold stp; rw [if_neg h95, if_neg h46, if_pos hd, if_neg hz, if_neg (show ¬ nm < mxd false from hm)])).symm.trans hsc.out)
                    have HO : Hid (Ok false ⟨us, dot, true, nd + 1, nm, dp, m, tr || decide (c ≠ 48)⟩ (k + 1)) := Lib.hid ⟨by have := hok.nd; dsimp only at *; omega, hok.nm, hok.m, by have := hok.dp1; dsimp only at *; omega, by have := hok.dp2; dsimp only at *; omega⟩
                    clear hss hsn hsc hok
                    by_cases h48 : c = 48
                    · have f5 : ((c : Int) == 48) = true := by simp [h48]
                      have f8 : ((c : Int) != 48) = false := by simp [h48]
                      have f6 : ((nd : Int) == 0) = false := by simp; omega
                      have ht : (tr || decide (c ≠ 48)) = tr := by simp [h48]
                      rw [ht] at HS HO
                      clear hz hd h48 ht
                      go_wp2_with fail
                      go_roundg (gk - 1)
                      case measure => omega
                      case rel => exact ⟨k + 1, ⟨us, dot, true, nd + 1, nm, dp, m, tr⟩, by omega, rfl, rfl, by go_num, HS, by omega, HO, rfl, rfl, rfl, by go_num, rfl, rfl, rfl⟩
                    · have f5 : ((c : Int) == 48) = false := by simp; omega
                      have f8 : ((c : Int) != 48) = true := by simp; omega
                      have ht : (tr || decide (c ≠ 48)) = true := by simp [h48]
                      rw [ht] at HS HO
                      clear hz hd h48 ht
                      go_wp2_with fail
                      go_roundg (gk - 1)
                      case measure => omega
                      case rel => exact ⟨k + 1, ⟨us, dot, true, nd + 1, nm, dp, m, true⟩, by omega, rfl, rfl, by go_num, HS, by omega, HO, rfl, rfl, rfl, by go_num, rfl, rfl, rfl⟩
              ·
                by_cases h3 : 48 ≤ c
                · have f3 : (48 : Int) ≤ c := by omega
                  have f4 : ¬ (c : Int) ≤ 57 := by omega
                  have f4b : (57 : Int) < c := by omega
                  have HS := Lib.hid ((hsn (by unfold stp; rw [if_neg h95, if_neg h46, if_neg hd, if_neg (fun h => Bool.noConfusion h.1)])).symm.trans hsc.out)
                  have HO := Lib.hid hok
                  clear hss hsn hsc hok hd
                  go_wp2_with fail
                  go_meet
                  case rel =>
                    obtain ⟨rfl, rfl⟩ := Prod.mk.inj HS.out
                    exact ⟨rfl, rfl, ⟨k, rfl, Lib.hid rfl, by omega, HO⟩, rfl, rfl, rfl, rfl, rfl, rfl, rfl⟩
                · have f3 : ¬ (48 : Int) ≤ c := by omega
                  have f3b : (c : Int) < 48 := by omega
                  have HS := Lib.hid ((hsn (by unfold stp; rw [if_neg h95, if_neg h46, if_neg hd, if_neg (fun h => Bool.noConfusion h.1)])).symm.trans hsc.out)
                  have HO := Lib.hid hok
                  clear hss hsn hsc hok hd
                  go_wp2_with fail
                  go_meet
                  case rel =>
                    obtain ⟨rfl, rfl⟩ := Prod.mk.inj HS.out
                    exact ⟨rfl, rfl, ⟨k, rfl, Lib.hid rfl, by omega, HO⟩, rfl, rfl, rfl, rfl, rfl, rfl, rfl⟩
        · have hS := @scan_end false s.data.toList k ⟨us, dot, sd, nd, nm, dp, m, tr⟩ (by simp; omega)
          have HS := Lib.hid (hS.symm.trans hsc.out)
          have HO := Lib.hid hok
          have hkk : k = s.size := by omega
          clear hS hsc hok
          subst hkk
          go_wp2_with fail
          go_meet
          case rel =>
            obtain ⟨rfl, rfl⟩ := Prod.mk.inj HS.out
            exact ⟨rfl, rfl, ⟨s.size, rfl, Lib.hid rfl, by omega, HO⟩, rfl, rfl, rfl, rfl, rfl, rfl, rfl⟩
    case rest =>
      obtain ⟨rfl, rfl, ⟨k, rfl, hrF, hk, hO⟩, rfl, rfl, rfl, rfl, rfl, rfl, hww⟩ := hcut
      subst hww
      clear hsc HI
      obtain ⟨us, dot, sd, nd, nm, dp, m, tr⟩ := sF
      go_step
      exact rfTail_d' s hs k hk rF hrF.out false us dot sd nd nm dp m tr hO.out w
end Go.Proofs.YtjpiplplohapnaaGreatDoor
namespace Go.Proofs.YtjpiplplohapnaaGreatDoor
open Go.RowKit Go.Proofs.YtjpiplplohapnaaGreatDoorW.PrintWords Rf
set_option maxRecDepth 100000 in
set_option maxHeartbeats 8000000 in
theorem readFloat_nd (s : ByteArray) (hs : s.size ≤ 1000) (h0 : 1 < s.size) (h45 : s[0].toNat = 45) (hnx : ¬ (3 < s.size ∧ (s.data.toList.getD 1 0).toNat = 48 ∧ lw (s.data.toList.getD 2 0).toNat = 120)) (w : World) : Calls Tryz.prog 142 #[.string s] w (RfPost true false s (fin false (scan false (s.data.toList.drop 1) st0).1 (scan false (s.data.toList.drop 1) st0).2) w) := by
  obtain ⟨sF, rF, hsc⟩ : ∃ sF rF, scan false (s.data.toList.drop 1) st0 = (sF, rF) := ⟨_, _, rfl⟩
  rw [hsc]
  dsimp only
  have hne : ¬ s = ByteArray.empty := by rintro rfl; simp at h0
  have hz0 : 0 < s.size := by omega
  have e0 : (s[0].toNat : Int) = 45 := by rw [h45]; rfl
  have hi0 : 1 < s.size := h0
  have hI0 : 1 ≤ s.size := by omega
  clear h0 h45
  go_enter Tryz.func142, Tryz.ntmps142
  go_wp2_with fail
  go_step3
  go_upto_region 12 with (fail)
  go_cut [54] (fun v54 w' => v54 = .bool false ∧ w = w')
  case first =>
    by_cases hl2 : 3 < s.size
    · have hh : (1 : Int) + 2 < s.size := by omega
      have hh2 : (3 : Int) < s.size := by omega
      have hi1 : 2 < s.size := by omega
      obtain ⟨c1, hc1⟩ : ∃ c1 : Nat, s[2].toNat = c1 := ⟨_, rfl⟩
      have e1 : (s[2].toNat : Int) = c1 := by rw [hc1]
      have hg1 : (s.data.toList.getD 2 0).toNat = c1 := by rw [List.getD_eq_getElem?_getD, List.getElem?_eq_getElem (by simpa using hi1)]; exact hc1
      obtain ⟨c0, hc0⟩ : ∃ c0 : Nat, s[1].toNat = c0 := ⟨_, rfl⟩
      have e00 : (s[1].toNat : Int) = c0 := by rw [hc0]
      have hg0 : (s.data.toList.getD 1 0).toNat = c0 := by rw [List.getD_eq_getElem?_getD, List.getElem?_eq_getElem (by simpa using hi0)]; exact hc0
      clear hc0
      have hno : ¬ (c0 = 48 ∧ lw c1 = 120) := fun h => hnx ⟨hl2, by rw [hg0]; exact h.1, by rw [hg1]; exact h.2⟩
      clear hnx hg0 hg1 hc1
      have hlw : Go.bits .or .u8 (c1 : Int) 32 = lw c1 := rfl
      by_cases h48 : c0 = 48
      · have g3 : ((c0 : Int) == 48) = true := by simp [h48]
        have g4 : (lw c1 == 120) = false := by simp; exact fun h => hno ⟨h48, h⟩
        clear hno h48
        go_wp2_with (go_at_call 156; refine (Tryz.internal_strconv_lower _ _).mono ?_; rintro e w1 ⟨rfl, hw1⟩; obtain rfl := hw1.symm)
        go_meet
        case rel => exact ⟨rfl, rfl⟩
      · have g3 : ((c0 : Int) == 48) = false := by simp; omega
        clear hno h48
        go_wp2_with (go_at_call 156; refine (Tryz.internal_strconv_lower _ _).mono ?_; rintro e w1 ⟨rfl, hw1⟩; obtain rfl := hw1.symm)
        go_meet
        case rel => exact ⟨rfl, rfl⟩
    · have hh : ¬ (1 : Int) + 2 < s.size := by omega
      have hh2 : ¬ (3 : Int) < s.size := by omega
      have hh3 : (s.size : Int) ≤ 3 := by omega
      clear hnx
      go_wp2_with (go_at_call 156; refine (Tryz.internal_strconv_lower _ _).mono ?_; rintro e w1 ⟨rfl, hw1⟩; obtain rfl := hw1.symm)
      go_meet
      case rel => exact ⟨rfl, rfl⟩
  case rest =>
    obtain ⟨rfl, rfl⟩ := hcut
    clear e0 hnx
    go_wp2_with fail
    go_step3
    go_upto_block 1 with (fail)
    have HI := Lib.hid (ok0 false 1)
    go_cut [2, 5, 7, 9, 13, 14, 15, 16, 17] (fun v2 v5 v7 v9 v13 v14 v15 v16 v17 w' => v2 = .int .u64 sF.m ∧ v5 = .bool sF.tr ∧ (∃ k : Nat, v7 = .int .i64 k ∧ Hid (s.data.toList.drop k = rF) ∧ k ≤ s.size ∧ Hid (Ok false sF k)) ∧ v9 = .bool sF.us ∧ v13 = .bool sF.dot ∧ v14 = .bool sF.sd ∧ v15 = .int .i64 sF.nd ∧ v16 = .int .i64 sF.nm ∧ v17 = .int .i64 sF.dp ∧ w = w')
    case first =>
      go_wp2_with fail
      have Hsc := Lib.hid hsc
      clear hsc
      go_loopg [2, 5, 7, 9, 13, 14, 15, 16, 17] (s.size - 1) (fun gn v2 v5 v7 v9 v13 v14 v15 v16 v17 w' => ∃ (k : Nat) (t : St), gn + k = s.size ∧ v2 = .int .u64 t.m ∧ v5 = .bool t.tr ∧ v7 = .int .i64 k ∧ Hid (scan false (s.data.toList.drop k) t = (sF, rF)) ∧ k ≤ s.size ∧ Hid (Ok false t k) ∧ v9 = .bool t.us ∧ v13 = .bool t.dot ∧ v14 = .bool t.sd ∧ v15 = .int .i64 t.nd ∧ v16 = .int .i64 t.nm ∧ v17 = .int .i64 t.dp ∧ w = w')
      case atStart => exact ⟨1, st0, by omega, rfl, rfl, rfl, Hsc, by omega, HI, rfl, rfl, rfl, rfl, rfl, rfl, rfl⟩
      case round =>
        obtain ⟨k, t, hg, rfl, rfl, rfl, hsc, hk, hok, rfl, rfl, rfl, rfl, rfl, rfl, rfl⟩ := hrel
        obtain ⟨us, dot, sd, nd, nm, dp, m, tr⟩ := t
        have hok := hok.out
        clear Hsc HI
        by_cases hkl : k < s.size
        · have hl : k < s.data.toList.length := by simpa using hkl
          have hsk : ((s[k].toNat : Nat) : Int) = ((s.data.toList[k].toNat : Nat) : Int) := rfl
          have hss := fun t' => @scan_some false s.data.toList k ⟨us, dot, sd, nd, nm, dp, m, tr⟩ t' hl
          have hsn := @scan_none false s.data.toList k ⟨us, dot, sd, nd, nm, dp, m, tr⟩ hl
          have hc256 : s.data.toList[k].toNat < 256 := UInt8.toNat_lt _
          obtain ⟨c, hc⟩ : ∃ c, c = s.data.toList[k].toNat := ⟨_, rfl⟩
          rw [← hc] at hsk hss hsn hc256
          clear hc
          by_cases h95 : c = 95
          · have f1 : ((c : Int) == 95) = true := by simp [h95]
            have HS := Lib.hid ((hss _ (by unfold stp; rw [if_pos h95])).symm.trans hsc.out)
            have HO : Hid (Ok false ⟨true, dot, sd, nd, nm, dp, m, tr⟩ (k + 1)) := Lib.hid ⟨by have := hok.nd; dsimp only at *; omega, hok.nm, hok.m, by have := hok.dp1; dsimp only at *; omega, by have := hok.dp2; dsimp only at *; omega⟩
            clear hss hsn hsc hok
            go_wp2_with fail
            go_roundg (gk - 1)
            case measure => omega
            case rel => exact ⟨k + 1, ⟨true, dot, sd, nd, nm, dp, m, tr⟩, by omega, rfl, rfl, by go_num, HS, by omega, HO, rfl, rfl, rfl, rfl, rfl, rfl, rfl⟩
          · have f1 : ((c : Int) == 95) = false := by simp; omega
            by_cases h46 : c = 46
            · have f2 : ((c : Int) == 46) = true := by simp [h46]
              cases dot
              ·
                have HS := Lib.hid ((hss _ (by unfold stp; rw [if_neg h95, if_pos h46]; rfl)).symm.trans hsc.out)
                have HO : Hid (Ok false ⟨us, true, sd, nd, nm, nd, m, tr⟩ (k + 1)) := Lib.hid ⟨by have := hok.nd; dsimp only at *; omega, hok.nm, hok.m, by have := hok.nd; dsimp only at *; omega, by have := hok.nd; dsimp only at *; omega⟩
                clear hss hsn hsc hok
                go_wp2_with fail
                go_roundg (gk - 1)
                case measure => omega
                case rel => exact ⟨k + 1, ⟨us, true, sd, nd, nm, nd, m, tr⟩, by omega, rfl, rfl, by go_num, HS, by omega, HO, rfl, rfl, rfl, rfl, rfl, rfl, rfl⟩
              ·
                have HS := Lib.hid ((hsn (by unfold stp; rw [if_neg h95, if_pos h46]; rfl)).symm.trans hsc.out)
                have HO := Lib.hid hok
                clear hss hsn hsc hok
                go_wp2_with fail
                go_meet
                case rel =>
                  obtain ⟨rfl, rfl⟩ := Prod.mk.inj HS.out
                  exact ⟨rfl, rfl, ⟨k, rfl, Lib.hid rfl, by omega, HO⟩, rfl, rfl, rfl, rfl, rfl, rfl, rfl⟩
            · have f2 : ((c : Int) == 46) = false := by simp; omega
              by_cases hd : 48 ≤ c ∧ c ≤ 57
              · have f3 : (48 : Int) ≤ c := by omega
                have f4 : (c : Int) ≤ 57 := by omega
                by_cases hz : c = 48 ∧ nd = 0
                · have f5 : ((c : Int) == 48) = true := by simp [hz.1]
                  have f6 : ((nd : Int) == 0) = true := by simp [hz.2]
                  have hw : IntKind.i64.wrap (dp - 1) = dp - 1 := by
                    have := hok.dp1
                    have := hok.dp2
                    dsimp only at *
                    rw [Go.IntKind.wrap_i64]; omega
                  have HS := Lib.hid ((hss _ (by unfold stp; rw [if_neg h95, if_neg h46, if_pos hd, if_pos hz])).symm.trans hsc.out)
                  have HO : Hid (Ok false ⟨us, dot, true, nd, nm, dp - 1, m, tr⟩ (k + 1)) := Lib.hid ⟨by have := hok.nd; dsimp only at *; omega, hok.nm, hok.m, by have := hok.dp1; dsimp only at *; omega, by have := hok.dp2; dsimp only at *; omega⟩
                  clear hss hsn hsc hok hz hd
                  go_wp2_with fail
                  go_roundg (gk - 1)
                  case measure => omega
                  case rel => exact ⟨k + 1, ⟨us, dot, true, nd, nm, dp - 1, m, tr⟩, by omega, rfl, rfl, by go_num, HS, by omega, HO, rfl, rfl, rfl, rfl, rfl, rfl, rfl⟩
                · have hnd : nd < 1000000 := by have := hok.nd; dsimp only at *; omega
                  have hnm : nm ≤ 19 := hok.nm
                  have hw15 : IntKind.i64.wrap ((nd : Int) + 1) = (nd : Int) + 1 := by rw [Go.IntKind.wrap_i64]; omega
                  have hw16 : IntKind.i64.wrap ((nm : Int) + 1) = (nm : Int) + 1 := by rw [Go.IntKind.wrap_i64]; omega
                  by_cases hm : nm < 19
                  · have f7 : (nm : Int) < 19 := by omega
                    have hroom := hok.room (d := c - 48) hm (by show c - 48 < 10; omega)
                    have hmb : m * 10 + (c - 48) < 18446744073709551616 := Nat.lt_of_lt_of_le hroom.1 hroom.2
                    have hw2 : IntKind.u64.wrap ((m : Int) * 10) = (m : Int) * 10 := by rw [Go.IntKind.wrap_u64]; omega
                    have hw3 : IntKind.u64.wrap ((m : Int) * 10 + ((c : Int) - 48)) = (m : Int) * 10 + ((c : Int) - 48) := by rw [Go.IntKind.wrap_u64]; omega
                    have hw4 : IntKind.u8.wrap ((c : Int) - 48) = (c : Int) - 48 := by rw [Go.IntKind.wrap_u8]; omega
                    have hw5 : IntKind.u64.wrap ((c : Int) - 48) = (c : Int) - 48 := by rw [Go.IntKind.wrap_u64]; omega
                    have hw6 : ((c : Int) - 48) % 256 = (c : Int) - 48 := by omega
                    have HS := Lib.hid ((hss _ (by unfold stp; rw [if_neg h95, if_neg h46, if_pos hd, if_neg hz, if_pos (show nm < mxd false from hm)])).symm.trans hsc.out)
                    have HO : Hid (Ok false ⟨us, dot, true, nd + 1, nm + 1, dp, m * 10 + (c - 48), tr⟩ (k + 1)) := Lib.hid ⟨by have := hok.nd; dsimp only at *; omega, hm, hroom.1, by have := hok.dp1; dsimp only at *; omega, by have := hok.dp2; dsimp only at *; omega⟩
                    clear hss hsn hsc hok hroom
                    by_cases h48 : c = 48
                    · have f5 : ((c : Int) == 48) = true := by simp [h48]
                      have f6 : ((nd : Int) == 0) = false := by simp; omega
                      clear hz hd h48
                      go_wp2_with fail
                      go_roundg (gk - 1)
                      case measure => omega
                      case rel => exact ⟨k + 1, ⟨us, dot, true, nd + 1, nm + 1, dp, m * 10 + (c - 48), tr⟩, by omega, congrArg (Value.int .u64) (by dsimp only; omega), rfl, by go_num, HS, by omega, HO, rfl, rfl, rfl, by go_num, by go_num, rfl, rfl⟩
                    · have f5 : ((c : Int) == 48) = false := by simp; omega
                      clear hz hd h48
                      go_wp2_with fail
                      go_roundg (gk - 1)
                      case measure => omega
                      case rel => exact ⟨k + 1, ⟨us, dot, true, nd + 1, nm + 1, dp, m * 10 + (c - 48), tr⟩, by omega, congrArg (Value.int .u64) (by dsimp only; omega), rfl, by go_num, HS, by omega, HO, rfl, rfl, rfl, by go_num, by go_num, rfl, rfl⟩
                  · have f7 : ¬ (nm : Int) < 19 := by omega
                    have HS := Lib.hid ((hss _ (by unfold stp; rw [if_neg h95, if_neg h46, if_pos hd, if_neg hz, if_neg (show ¬ nm < mxd false from hm)])).symm.trans hsc.out)
                    have HO : Hid (Ok false ⟨us, dot, true, nd + 1, nm, dp, m, tr || decide (c ≠ 48)⟩ (k + 1)) := Lib.hid ⟨by have := hok.nd; dsimp only at *; omega, hok.nm, hok.m, by have := hok.dp1; dsimp only at *; omega, by have := hok.dp2; dsimp only at *; omega⟩
                    clear hss hsn hsc hok
                    by_cases h48 : c = 48
                    · have f5 : ((c : Int) == 48) = true := by simp [h48]
                      have f8 : ((c : Int) != 48) = false := by simp [h48]
                      have f6 : ((nd : Int) == 0) = false := by simp; omega
                      have ht : (tr || decide (c ≠ 48)) = tr := by simp [h48]
                      rw [ht] at HS HO
                      clear hz hd h48 ht
                      go_wp2_with fail
                      go_roundg (gk - 1)
                      case measure => omega
                      case rel => exact ⟨k + 1, ⟨us, dot, true, nd + 1, nm, dp, m, tr⟩, by omega, rfl, rfl, by go_num, HS, by omega, HO, rfl, rfl, rfl, by go_num, rfl, rfl, rfl⟩
                    · have f5 : ((c : Int) == 48) = false := by simp; omega
                      have f8 : ((c : Int) != 48) = true := by simp; omega
                      have ht : (tr || decide (c ≠ 48)) = true := by simp [h48]
                      rw [ht] at HS HO
                      clear hz hd h48 ht
                      go_wp2_with fail
                      go_roundg (gk - 1)
                      case measure => omega
                      case rel => exact ⟨k + 1, ⟨us, dot, true, nd + 1, nm, dp, m, true⟩, by omega, rfl, rfl, by go_num, HS, by omega, HO, rfl, rfl, rfl, by go_num, rfl, rfl, rfl⟩
              ·
                by_cases h3 : 48 ≤ c
                · have f3 : (48 : Int) ≤ c := by omega
                  have f4 : ¬ (c : Int) ≤ 57 := by omega
                  have f4b : (57 : Int) < c := by omega
                  have HS := Lib.hid ((hsn (by unfold stp; rw [if_neg h95, if_neg h46, if_neg hd, if_neg (fun h => Bool.noConfusion h.1)])).symm.trans hsc.out)
                  have HO := Lib.hid hok
                  clear hss hsn hsc hok hd
                  go_wp2_with fail
                  go_meet
                  case rel =>
                    obtain ⟨rfl, rfl⟩ := Prod.mk.inj HS.out
                    exact ⟨rfl, rfl, ⟨k, rfl, Lib.hid rfl, by omega, HO⟩, rfl, rfl, rfl, rfl, rfl, rfl, rfl⟩
                · have f3 : ¬ (48 : Int) ≤ c := by omega
                  have f3b : (c : Int) < 48 := by omega
                  have HS := Lib.hid ((hsn (by unfold stp; rw [if_neg h95, if_neg h46, if_neg hd, if_neg (fun h => Bool.noConfusion h.1)])).symm.trans hsc.out)
                  have HO := Lib.hid hok
                  clear hss hsn hsc hok hd
                  go_wp2_with fail
                  go_meet
                  case rel =>
                    obtain ⟨rfl, rfl⟩ := Prod.mk.inj HS.out
                    exact ⟨rfl, rfl, ⟨k, rfl, Lib.hid rfl, by omega, HO⟩, rfl, rfl, rfl, rfl, rfl, rfl, rfl⟩
        · have hS := @scan_end false s.data.toList k ⟨us, dot, sd, nd, nm, dp, m, tr⟩ (by simp; omega)
          have HS := Lib.hid (hS.symm.trans hsc.out)
          have HO := Lib.hid hok
          have hkk : k = s.size := by omega
          clear hS hsc hok
          subst hkk
          go_wp2_with fail
          go_meet
          case rel =>
            obtain ⟨rfl, rfl⟩ := Prod.mk.inj HS.out
            exact ⟨rfl, rfl, ⟨s.size, rfl, Lib.hid rfl, by omega, HO⟩, rfl, rfl, rfl, rfl, rfl, rfl, rfl⟩
    case rest =>
      obtain ⟨rfl, rfl, ⟨k, rfl, hrF, hk, hO⟩, rfl, rfl, rfl, rfl, rfl, rfl, hww⟩ := hcut
      subst hww
      clear hsc HI
      obtain ⟨us, dot, sd, nd, nm, dp, m, tr⟩ := sF
      go_step
      exact rfTail_d' s hs k hk rF hrF.out true us dot sd nd nm dp m tr hO.out w
end Go.Proofs.YtjpiplplohapnaaGreatDoor
namespace Go.Proofs.YtjpiplplohapnaaGreatDoor
open Go.RowKit Go.Proofs.YtjpiplplohapnaaGreatDoorW.PrintWords Rf Ah
def ZeroR (ng : Bool) (s : ByteArray) (q : Out) (x : Nat) (n : Int) (er : Option Int) : Prop := x = (if ng then 9223372036854775808 else 0) ∧ n = ((s.size - q.rest.length : Nat) : Int) ∧ er = none
theorem bool2_u64t (w : World) : Calls Tryz.prog 150 #[.bool true] w fun e w' => e = .returned (.int .u64 1) ∧ Below w.heap.size w w' :=
  (PText.strconv_bool2_uint64.calls true 1 w (by decide +kernel)).mono fun _ _ ⟨h1, h2⟩ => ⟨h1, h2.below⟩
set_option maxRecDepth 100000 in
set_option maxHeartbeats 2000000 in
theorem atof64_zero (ng : Bool) (s : ByteArray) (q : Out) (hm : q.m = 0) (hu : q.us = false) (hsp : ∀ w, Calls Tryz.prog 141 #[.string s] w (NoSpecial w)) (hrf : ∀ w, Calls Tryz.prog 142 #[.string s] w (RfPost ng false s (some q) w))
    (w : World) (hL : Laid w) : Calls Tryz.prog 112 #[.string s] w (AtPost (ZeroR ng s q) w) := by
  have HRF := Lib.hid hrf
  clear hrf
  have ho := hL.optCell
  obtain ⟨qm, qe, qt, qu, qr⟩ := q
  dsimp only at hm hu
  subst hm
  subst hu
  clear hL
  go_enter Tryz.func112, Tryz.ntmps112
  go_wp2_with fail
  refine (hsp _).mono ?_
  rintro e w' ⟨rfl, hww⟩
  obtain rfl := hww.symm
  clear hww hsp
  go_wp2_with fail
  refine (HRF.out _).mono ?_
  rintro e w' ⟨hww, ok, hok, rfl⟩
  obtain rfl := hww.symm
  obtain rfl := hok rfl
  clear hww HRF hok
  dsimp only
  obtain ⟨n, hn⟩ : ∃ n, n = s.size - qr.length := ⟨_, rfl⟩
  have HN := Lib.hid hn
  rw [← hn]
  clear hn
  have k1 : Go.bits .or .u64 0 0 = 0 := by decide +kernel
  have k2 : Go.bits .or .u64 9223372036854775808 0 = 9223372036854775808 := by decide +kernel
  have hf1 : ∀ W, (callFunc 151 #[.int .u64 0]).run Tryz.prog W = .ok (.value (.float .f64 0)) W := fun W => from151 0 W
  have hf2 : ∀ W, (callFunc 151 #[.int .u64 9223372036854775808]).run Tryz.prog W = .ok (.value (.float .f64 9223372036854775808)) W := fun W => from151 9223372036854775808 W
  cases ng
  · go_wp2_with fail
    refine (bool2_u64f _).mono ?_
    rintro e w1 ⟨rfl, hb1⟩
    go_wp2_with fail
    go_ret3
    exact ⟨0, n, none, ⟨rfl, by rw [HN.out], rfl⟩, Or.inl rfl, rfl, hb1⟩
  · go_wp2_with fail
    refine (bool2_u64t _).mono ?_
    rintro e w1 ⟨rfl, hb1⟩
    go_wp2_with fail
    go_ret3
    exact ⟨9223372036854775808, n, none, ⟨rfl, by rw [HN.out], rfl⟩, Or.inl rfl, rfl, hb1⟩
def UnR (s : ByteArray) (x : Nat) (er : Option Int) : Prop := x < 18446744073709551616 ∧ ∀ b, b < 18446744073709551616 → sz b < 9218868437227405312 → s.data.toList = hexOf b → x = b ∧ er = none
theorem hex_plain (b : Nat) (h : sz b < 9218868437227405312) : ∃ q : Out, fin true (scan true ((hexOf b).drop ((if neg b then 1 else 0) + 2)) st0).1 (scan true ((hexOf b).drop ((if neg b then 1 else 0) + 2)) st0).2 = some q ∧ q.us = false ∧ q.rest = [] ∧ (b < 18446744073709551616 → ah q.m q.e (neg b) q.tr = (b, false)) := by
  by_cases h0 : sz b = 0
  · have hl : (hexOf b).drop ((if neg b then 1 else 0) + 2) = [48, 112, 43, 48] := by
      unfold hexOf hexZ
      rw [if_pos h0]
      cases neg b <;> rfl
    rw [hl]
    refine ⟨⟨0, 0, false, false, []⟩, by kernel_rfl, rfl, rfl, fun hb => ?_⟩
    rw [ah_zero]
    have := bits_parts b hb
    rw [h0, Nat.add_zero] at this
    rw [this]
  · have hr := spM_range (sz b) (by omega)
    have he := spE_range (sz b) (by omega) h
    have hu := up_spec _ hr.1 hr.2
    have hup : up (spM (sz b)) ≤ 52 := by unfold up; omega
    have hl : (hexOf b).drop ((if neg b then 1 else 0) + 2) = [49] ++ (if spM (sz b) * 2 ^ up (spM (sz b)) = 4503599627370496 then [] else 46 :: frac (spM (sz b) * 2 ^ up (spM (sz b)) - 4503599627370496)) ++ (if 0 ≤ spE (sz b) - up (spM (sz b)) + 52 then [112, 43] else [112]) ++ Lib.itoa (spE (sz b) - up (spM (sz b)) + 52) := by
      unfold hexOf hexT
      rw [if_neg h0]
      cases neg b <;> rfl
    obtain ⟨v, k, hk, hv, hv2, hf⟩ := read_hex _ (spE (sz b) - up (spM (sz b)) + 52) hu.1 hu.2 (by omega) (by omega) _ hl
    exact ⟨_, hf, rfl, rfl, fun hb => ah_hex b hb h h0 v k hk hv⟩
theorem unR_of (s : ByteArray) (ng : Bool) (o : Option Out) (h : ∀ b, b < 18446744073709551616 → sz b < 9218868437227405312 → s.data.toList = hexOf b → neg b = ng ∧ o = fin true (scan true ((hexOf b).drop ((if ng then 1 else 0) + 2)) st0).1 (scan true ((hexOf b).drop ((if ng then 1 else 0) + 2)) st0).2)
    (x : Nat) (er : Option Int) (hw : whole s (HexR ng s o) x er) : UnR s x er := by
  refine ⟨?_, fun b hb hz hs => ?_⟩
  · rcases hw with hw | ⟨rfl, -⟩
    · exact hw.1
    · decide
  · obtain ⟨hn, ho⟩ := h b hb hz hs
    subst hn
    obtain ⟨q, hq, hus, hrs, hah⟩ := hex_plain b hz
    rw [hq] at ho
    subst ho
    have hah := hah hb
    rcases hw with ⟨-, h1, h2⟩ | ⟨-, -, y, n, r, ⟨-, h1, -⟩, hn⟩
    · rcases h2 with ⟨h3, -⟩ | ⟨h3, h4⟩
      · rw [hus] at h3; cases h3
      · rw [hah] at h3 h4
        exact ⟨h3, h4⟩
    · rw [hrs] at h1
      exact absurd h1 hn
theorem hexOf_head (b : Nat) : hexOf b = (if neg b then [45] else []) ++ [48, 120] ++ (hexOf b).drop ((if neg b then 1 else 0) + 2) := by
  unfold hexOf hexZ hexT
  by_cases h : sz b = 0
  · rw [if_pos h]; cases neg b <;> rfl
  · rw [if_neg h]; cases neg b <;> rfl
theorem digit_special (s : ByteArray) (h0 : 0 < s.size) (h : s[0].toNat = 48) (w : World) : Calls Tryz.prog 141 #[.string s] w (NoSpecial w) := special_digit s h0 (by omega) (by omega) w
theorem list0 {s : ByteArray} {a : UInt8} {l : List UInt8} (h : s.data.toList = a :: l) (h0 : 0 < s.size) : s[0] = a := by
  have : s.data.toList[0]? = some a := by rw [h]; rfl
  have h2 : s.data.toList[0]? = some s[0] := by
    rw [Array.getElem?_toList]; exact Array.getElem?_eq_getElem h0
  exact Option.some.inj (h2.symm.trans this)
theorem list1 {s : ByteArray} {a b : UInt8} {l : List UInt8} (h : s.data.toList = a :: b :: l) (h0 : 1 < s.size) : s[1] = b := by
  have : s.data.toList[1]? = some b := by rw [h]; rfl
  have h2 : s.data.toList[1]? = some s[1] := by
    rw [Array.getElem?_toList]; exact Array.getElem?_eq_getElem h0
  exact Option.some.inj (h2.symm.trans this)
theorem list2 {s : ByteArray} {a b c : UInt8} {l : List UInt8} (h : s.data.toList = a :: b :: c :: l) (h0 : 2 < s.size) : s[2] = c := by
  have : s.data.toList[2]? = some c := by rw [h]; rfl
  have h2 : s.data.toList[2]? = some s[2] := by
    rw [Array.getElem?_toList]; exact Array.getElem?_eq_getElem h0
  exact Option.some.inj (h2.symm.trans this)
theorem size_list (s : ByteArray) : s.data.toList.length = s.size := Array.length_toList
theorem parse_px (s : ByteArray) (hs : s.size ≤ 1000) (l : List UInt8) (hl : s.data.toList = 48 :: 120 :: l) (w : World) (hL : LaidB w) : Calls Tryz.prog 24 #[.string s, .int .i64 64] w (SpPost (UnR s) w) := by
  have hz := size_list s
  rw [hl] at hz
  simp only [List.length_cons] at hz
  have h0 : 0 < s.size := by omega
  have e0 := list0 hl h0
  have h48 : s[0].toNat = 48 := by rw [e0]; rfl
  have hno : ∀ b, s.data.toList = hexOf b → neg b = false ∧ l = (hexOf b).drop 2 := by
    intro b hb
    rw [hexOf_head, hl] at hb
    cases hn : neg b with
    | false =>
      rw [hn] at hb
      refine ⟨rfl, ?_⟩
      simpa using hb
    | true => rw [hn] at hb; simp at hb
  cases l with
  | nil =>
    have hsz : s.size = 2 := by simpa using hz.symm
    have hd : s.data.toList.drop 0 = [48, 120] := hl
    have hf : fin false (scan false (s.data.toList.drop 0) st0).1 (scan false (s.data.toList.drop 0) st0).2 = some ⟨0, 0, false, false, [120]⟩ := by rw [hd]; kernel_rfl
    have hrf : ∀ w, Calls Tryz.prog 142 #[.string s] w (RfPost false false s (some ⟨0, 0, false, false, [120]⟩) w) := fun w => by
      rw [← hf]
      exact readFloat_pd s hs h0 (by omega) (by omega) (fun h => by omega) w
    have ha := sparse_of s hs _ w hL.laid (iparse_of s _ w (atof64_zero false s _ rfl rfl (digit_special s h0 h48) hrf w hL.laid))
    refine ha.mono fun e w' ⟨x, er, hR, he, hb, hp⟩ => ⟨x, er, ?_, he, hb, hp⟩
    rcases hR with ⟨h1, h2, h3⟩ | ⟨h1, h2, -⟩
    · exfalso; simp [hsz] at h2
    · refine ⟨by omega, fun b hb hz hs => ?_⟩
      exfalso
      have := (hno b hs).2
      obtain ⟨q, hq, hus, hrs, -⟩ := hex_plain b hz
      rw [(hno b hs).1] at hq
      have h3 : fin true (scan true [] st0).1 (scan true [] st0).2 = none := by kernel_rfl
      rw [show (hexOf b).drop ((if false = true then 1 else 0) + 2) = [] from this.symm, h3] at hq
      cases hq
  | cons c l =>
    have h2 : 2 < s.size := by simp only [List.length_cons] at hz; omega
    have e1 := list1 hl (by omega)
    have hd : s.data.toList.drop 2 = c :: l := by rw [hl]; rfl
    have hrf : ∀ w, Calls Tryz.prog 142 #[.string s] w (RfPost false true s (fin true (scan true (s.data.toList.drop 2) st0).1 (scan true (s.data.toList.drop 2) st0).2) w) := fun w => readFloat_px s hs h2 h48 (by rw [e1]; rfl) w
    have ha := sparse_of s hs _ w hL.laid (iparse_of s _ w (atof64_hex false s hs _ (digit_special s h0 h48) hrf (fun q hq => fin_bound (by rw [hd]; omega) hq) w hL))
    refine ha.mono fun e w' ⟨x, er, hR, he, hb, hp⟩ => ⟨x, er, ?_, he, hb, hp⟩
    refine unR_of s false _ (fun b _ _ hs => ?_) x er hR
    obtain ⟨g1, g2⟩ := hno b hs
    exact ⟨g1, by rw [hd, g2]; rfl⟩
theorem parse_nx (s : ByteArray) (hs : s.size ≤ 1000) (l : List UInt8) (hl : s.data.toList = 45 :: 48 :: 120 :: l) (w : World) (hL : LaidB w) : Calls Tryz.prog 24 #[.string s, .int .i64 64] w (SpPost (UnR s) w) := by
  have hz := size_list s
  rw [hl] at hz
  simp only [List.length_cons] at hz
  have h0 : 1 < s.size := by omega
  have e0 := list0 hl (by omega)
  have e1 := list1 hl h0
  have h45 : s[0].toNat = 45 := by rw [e0]; rfl
  have h48 : s[1].toNat = 48 := by rw [e1]; rfl
  have hsp : ∀ w, Calls Tryz.prog 141 #[.string s] w (NoSpecial w) := fun w => special_minus s h0 hs h45 (by omega) (by omega) w
  have hno : ∀ b, s.data.toList = hexOf b → neg b = true ∧ l = (hexOf b).drop 3 := by
    intro b hb
    rw [hexOf_head, hl] at hb
    cases hn : neg b with
    | true =>
      rw [hn] at hb
      refine ⟨rfl, ?_⟩
      simpa using hb
    | false => rw [hn] at hb; simp at hb
  cases l with
  | nil =>
    have hsz : s.size = 3 := by simpa using hz.symm
    have hd : s.data.toList.drop 1 = [48, 120] := by rw [hl]; rfl
    have hf : fin false (scan false (s.data.toList.drop 1) st0).1 (scan false (s.data.toList.drop 1) st0).2 = some ⟨0, 0, false, false, [120]⟩ := by rw [hd]; kernel_rfl
    have hrf : ∀ w, Calls Tryz.prog 142 #[.string s] w (RfPost true false s (some ⟨0, 0, false, false, [120]⟩) w) := fun w => by
      rw [← hf]
      exact readFloat_nd s hs h0 h45 (fun h => by omega) w
    have ha := sparse_of s hs _ w hL.laid (iparse_of s _ w (atof64_zero true s _ rfl rfl hsp hrf w hL.laid))
    refine ha.mono fun e w' ⟨x, er, hR, he, hb, hp⟩ => ⟨x, er, ?_, he, hb, hp⟩
    rcases hR with ⟨h1, h2, h3⟩ | ⟨h1, h2, -⟩
    · exfalso; simp [hsz] at h2
    · refine ⟨by omega, fun b hb hz hs => ?_⟩
      exfalso
      have := (hno b hs).2
      obtain ⟨q, hq, hus, hrs, -⟩ := hex_plain b hz
      rw [(hno b hs).1] at hq
      have h3 : fin true (scan true [] st0).1 (scan true [] st0).2 = none := by kernel_rfl
      rw [show (hexOf b).drop ((if true = true then 1 else 0) + 2) = [] from this.symm, h3] at hq
      cases hq
  | cons c l =>
    have h2 : 3 < s.size := by simp only [List.length_cons] at hz; omega
    have e2 := list2 hl (by omega)
    have hd : s.data.toList.drop 3 = c :: l := by rw [hl]; rfl
    have hrf : ∀ w, Calls Tryz.prog 142 #[.string s] w (RfPost true true s (fin true (scan true (s.data.toList.drop 3) st0).1 (scan true (s.data.toList.drop 3) st0).2) w) := fun w => readFloat_nx s hs h2 h45 h48 (by rw [e2]; rfl) w
    have ha := sparse_of s hs _ w hL.laid (iparse_of s _ w (atof64_hex true s hs _ hsp hrf (fun q hq => fin_bound (by rw [hd]; omega) hq) w hL))
    refine ha.mono fun e w' ⟨x, er, hR, he, hb, hp⟩ => ⟨x, er, ?_, he, hb, hp⟩
    refine unR_of s true _ (fun b _ _ hs => ?_) x er hR
    obtain ⟨g1, g2⟩ := hno b hs
    exact ⟨g1, by rw [hd, g2]; rfl⟩
def UnPost (s : ByteArray) (w : World) (e : Ending) (w' : World) : Prop := Below w.heap.size w w' ∧
  ((∃ b, b < 18446744073709551616 ∧ sz b < 9218868437227405312 ∧ s.data.toList = hexOf b ∧ e = .returned (.tuple #[.float .f64 b, .int .i64 0])) ∨
   ((∀ b, b < 18446744073709551616 → sz b < 9218868437227405312 → s.data.toList ≠ hexOf b) ∧ e = .returned (.tuple #[.float .f64 0, .int .i64 20])))
theorem len_aux (ng p q : Bool) (f g : List UInt8) (hi : g.length ≤ 5) (hf : f.length ≤ 13) : ((if ng then [45] else []) ++ [48, 120, 49] ++ (if p then [] else 46 :: f) ++ (if q then [112, 43] else [112]) ++ g).length ≤ 40 := by
  cases ng <;> cases p <;> cases q <;> simp <;> omega
theorem hexT_len (ng : Bool) (M : Nat) (E : Int) (hi : (Lib.itoa E).length ≤ 5) (hf : (frac (M - 4503599627370496)).length ≤ 13) : (hexT ng M E).length ≤ 40 := by
  have h := len_aux ng (decide (M = 4503599627370496)) (decide (0 ≤ E)) _ _ hi hf
  simp only [decide_eq_true_eq] at h
  unfold hexT
  exact h
theorem hexOf_len (b : Nat) (h : sz b < 9218868437227405312) : (hexOf b).length ≤ 40 := by
  unfold hexOf
  by_cases h0 : sz b = 0
  · rw [if_pos h0]
    unfold hexZ
    cases neg b <;> decide
  · rw [if_neg h0]
    have hr := spM_range (sz b) (by omega)
    have he := spE_range (sz b) (by omega) h
    have hu := up_spec _ hr.1 hr.2
    have hup : up (spM (sz b)) ≤ 52 := by unfold up; omega
    exact hexT_len _ _ _ (itoa_len _ (by omega) (by omega)) (frac_len _ (by omega))
theorem shape_hex (l : List UInt8) (h : Lib.hasPrefix (Lib.trimPrefix l [45]) [48, 120] = true) : (∃ r, l = 48 :: 120 :: r) ∨ (∃ r, l = 45 :: 48 :: 120 :: r) := by
  unfold Lib.trimPrefix Lib.hasPrefix at h
  cases l with
  | nil => simp at h
  | cons a l =>
    by_cases ha : a = 45
    · subst ha
      rw [if_pos (by simp [List.isPrefixOf])] at h
      obtain ⟨r, hr⟩ := List.isPrefixOf_iff_prefix.1 h
      exact Or.inr ⟨r, by rw [show l = [48, 120] ++ r from hr.symm]; rfl⟩
    · have : ([45] : List UInt8).isPrefixOf (a :: l) = false := by simp [List.isPrefixOf]; exact fun h => ha h.symm
      rw [this, if_neg (by decide)] at h
      obtain ⟨r, hr⟩ := List.isPrefixOf_iff_prefix.1 h
      exact Or.inl ⟨r, hr.symm⟩
theorem hex_shape (b : Nat) : Lib.hasPrefix (Lib.trimPrefix (hexOf b) [45]) [48, 120] = true := by
  rw [hexOf_head]
  unfold Lib.trimPrefix Lib.hasPrefix
  cases neg b <;> simp [List.isPrefixOf]
set_option maxRecDepth 100000 in
set_option maxHeartbeats 2000000 in
theorem unhex_walk (s : ByteArray) (w : World) (hL : LaidB w) : Calls Tryz.prog 21 #[.string s] w (UnPost s w) := by
  have hz := size_list s
  by_cases hp : Lib.hasPrefix (Lib.trimPrefix s.data.toList [45]) [48, 120] = true
  · by_cases hlen : s.size ≤ 40
    · have hlen' : ¬ (40 : Int) < s.size := by omega
      have hlen2 : (s.size : Int) ≤ 40 := by omega
      have hpf : Calls Tryz.prog 24 #[.string s, .int .i64 64] w (SpPost (UnR s) w) := by
        rcases shape_hex _ hp with ⟨r, hr⟩ | ⟨r, hr⟩
        · exact parse_px s (by omega) r hr w hL
        · exact parse_nx s (by omega) r hr w hL
      have HPF := Lib.hid hpf
      have HL := Lib.hid hL
      clear hpf hL hz
      go_enter Tryz.func21, Tryz.ntmps21
      go_wp2_with fail
      refine (Tryz.strings_TrimPrefix s ⟨#[45]⟩ _).mono ?_
      rintro e w' ⟨rfl, hww⟩
      obtain rfl := hww.symm
      go_wp2_with fail
      refine (Tryz.strings_HasPrefix _ ⟨#[48, 120]⟩ _).mono ?_
      rintro e w' ⟨rfl, hww⟩
      obtain rfl := hww.symm
      rw [show Lib.hasPrefix (⟨(Lib.trimPrefix s.data.toList (⟨#[45]⟩ : ByteArray).data.toList).toArray⟩ : ByteArray).data.toList (⟨#[48, 120]⟩ : ByteArray).data.toList = true from hp]
      clear hww hp
      go_wp2_with fail
      refine HPF.out.mono ?_
      rintro e w1 ⟨x, er, ⟨hx, hR⟩, -, hb1, hcase⟩
      have HR := Lib.hid hR
      have HL1 := Lib.hid (HL.out.below hb1)
      clear hR HPF HL
      rcases hcase with ⟨rfl, rfl⟩ | ⟨hne, N, rfl⟩
      · have HX := Lib.hid (hex_walk x hx w1 HL1.out.laid)
        by_cases hn : sz x < 9218868437227405312
        · by_cases he : s.data.toList = hexOf x
          · have HE := Lib.hid he
            have et : ((hexOf x) == s.toList) = true := by simpa [ByteArray.toList_eq] using he.symm
            have et2 : ((hexOf x) != s.toList) = false := by simp [bne, et]
            have HX2 := HX.out
            rw [if_pos hn] at HX2
            have HX3 := Lib.hid HX2
            clear he HX HX2
            go_wp2_with fail
            refine HX3.out.mono ?_
            rintro e w2 ⟨rfl, hb2⟩
            have hb := hb1.trans (hb2.mono hb1.size)
            go_wp2_with fail
            go_ret2
            exact ⟨hb, Or.inl ⟨x, hx, hn, HE.out, rfl⟩⟩
          · have HE := Lib.hid he
            have et : ((hexOf x) == s.toList) = false := by simpa [ByteArray.toList_eq] using fun h => he h.symm
            have et2 : ((hexOf x) != s.toList) = true := by simp [bne, et]
            have HX2 := HX.out
            rw [if_pos hn] at HX2
            have HX3 := Lib.hid HX2
            clear he HX HX2
            go_wp2_with fail
            refine HX3.out.mono ?_
            rintro e w2 ⟨rfl, hb2⟩
            have hb := hb1.trans (hb2.mono hb1.size)
            go_wp2_with fail
            go_ret2
            exact ⟨hb, Or.inr ⟨fun b hb hz hs => HE.out (by rw [(HR.out b hb hz hs).1]; exact hs), rfl⟩⟩
        · have HX2 := HX.out
          rw [if_neg hn] at HX2
          have HX3 := Lib.hid HX2
          have HN := Lib.hid hn
          clear HX HX2 hn
          go_wp2_with fail
          refine HX3.out.mono ?_
          rintro e w2 ⟨rfl, hb2⟩
          have hb := hb1.trans (hb2.mono hb1.size)
          go_wp2_with fail
          go_ret2
          exact ⟨hb, Or.inr ⟨fun b hb hz hs => HN.out (by rw [(HR.out b hb hz hs).1]; exact hz), rfl⟩⟩
      · go_wp2_with fail
        go_ret2
        exact ⟨hb1, Or.inr ⟨fun b hb hz hs => hne (HR.out b hb hz hs).2, rfl⟩⟩
    · have hlen' : (40 : Int) < s.size := by omega
      have hlen2 : ¬ (s.size : Int) ≤ 40 := by omega
      have HN := Lib.hid (show ∀ b, b < 18446744073709551616 → sz b < 9218868437227405312 → s.data.toList ≠ hexOf b from fun b _ hzb he => by
        have := hexOf_len b hzb
        rw [← he, hz] at this
        omega)
      clear hL hz
      go_enter Tryz.func21, Tryz.ntmps21
      go_wp2_with fail
      refine (Tryz.strings_TrimPrefix s ⟨#[45]⟩ _).mono ?_
      rintro e w' ⟨rfl, hww⟩
      obtain rfl := hww.symm
      go_wp2_with fail
      refine (Tryz.strings_HasPrefix _ ⟨#[48, 120]⟩ _).mono ?_
      rintro e w' ⟨rfl, hww⟩
      obtain rfl := hww.symm
      rw [show Lib.hasPrefix (⟨(Lib.trimPrefix s.data.toList (⟨#[45]⟩ : ByteArray).data.toList).toArray⟩ : ByteArray).data.toList (⟨#[48, 120]⟩ : ByteArray).data.toList = true from hp]
      clear hww hp
      go_wp2_with fail
      go_ret2
      exact ⟨Below.refl _ _, Or.inr ⟨HN.out, rfl⟩⟩
  · have HN := Lib.hid (show ∀ b, b < 18446744073709551616 → sz b < 9218868437227405312 → s.data.toList ≠ hexOf b from fun b _ _ he => hp (by rw [he]; exact hex_shape b))
    have hp' : Lib.hasPrefix (Lib.trimPrefix s.data.toList [45]) [48, 120] = false := by simpa using hp
    clear hL hz hp
    go_enter Tryz.func21, Tryz.ntmps21
    go_wp2_with fail
    refine (Tryz.strings_TrimPrefix s ⟨#[45]⟩ _).mono ?_
    rintro e w' ⟨rfl, hww⟩
    obtain rfl := hww.symm
    go_wp2_with fail
    refine (Tryz.strings_HasPrefix _ ⟨#[48, 120]⟩ _).mono ?_
    rintro e w' ⟨rfl, hww⟩
    obtain rfl := hww.symm
    rw [show Lib.hasPrefix (⟨(Lib.trimPrefix s.data.toList (⟨#[45]⟩ : ByteArray).data.toList).toArray⟩ : ByteArray).data.toList (⟨#[48, 120]⟩ : ByteArray).data.toList = false from hp']
    clear hww hp'
    go_wp2_with fail
    go_ret2
    exact ⟨Below.refl _ _, Or.inr ⟨HN.out, rfl⟩⟩
end Go.Proofs.YtjpiplplohapnaaGreatDoor
namespace Go.Proofs.YtjpiplplohapnaaGreatDoor
open Go.RowKit Go.Sort Go.Proofs.YtjpiplplohapnaaGreatDoorW.PrintWords
theorem int_neg7 (w : World) (hL : Laid w) : Calls Tryz.prog 17 #[.string ⟨#[45, 55]⟩] w fun e w' => e = .returned (.tuple #[.int .i64 (-7), .bool true]) ∧ Below w.heap.size w w' := by
  have h := int_walk ⟨#[45, 55]⟩ (by decide) w hL
  have e0 : Num.progInt (⟨#[45, 55]⟩ : ByteArray).data.toList = (-7, true) := by
    rw [Num.progInt_eq]
    rfl
  rw [e0] at h
  exact h
set_option maxRecDepth 100000 in
set_option maxHeartbeats 1000000 in
theorem awake_true (w : World) (hL : Laid w) : Calls Tryz.prog 13 #[] w fun e w' => e = .returned (.bool true) ∧ Below w.heap.size w w' := by
  go_enter Tryz.func13, Tryz.ntmps13
  go_wp2_with fail
  refine (parse_01 _ hL).mono ?_
  rintro e w1 ⟨rfl, hb1⟩
  have hL1 := hL.below hb1
  go_wp2_with fail
  refine (print_375 _ hL1).mono ?_
  rintro e w2 ⟨rfl, hb2⟩
  have hL2 := hL1.below hb2
  have hb02 := hb1.trans (hb2.mono hb1.size)
  clear hL1 hb1 hb2
  go_wp2_with fail
  refine (hex_15 _ hL2).mono ?_
  rintro e w3 ⟨rfl, hb3⟩
  have hL3 := hL2.below hb3
  have hb03 := hb02.trans (hb3.mono hb02.size)
  clear hL2 hb02 hb3
  go_wp2_with fail
  refine (int_neg7 _ hL3).mono ?_
  rintro e w4 ⟨rfl, hb4⟩
  have hb04 := hb03.trans (hb4.mono hb03.size)
  clear hL3 hb03 hb4
  go_wp2_with fail
  go_ret
  exact ⟨rfl, hb04⟩
end Go.Proofs.YtjpiplplohapnaaGreatDoor
namespace Go.Proofs.YtjpiplplohapnaaGreatDoor.Big
open Go.Proofs.YtjpiplplohapnaaGreatDoorW.PrintWords Go.Proofs.YtjpiplplohapnaaGreatDoorW.PrintMore
abbrev B : Nat := 4294967296
theorem Bpos : 0 < B := by decide
theorem Bpow_pos (i : Nat) : 0 < B ^ i := Nat.pow_pos Bpos
def dig (m i : Nat) : Nat := m / B ^ i % B
theorem dig_lt (m i : Nat) : dig m i < B := Nat.mod_lt _ Bpos
def dgL : Nat → Nat → List Int
  | 0, _ => []
  | L + 1, n => ((n % B : Nat) : Int) :: dgL L (n / B)
@[simp] theorem dgL_length (L n : Nat) : (dgL L n).length = L := by
  induction L generalizing n with
  | zero => rfl
  | succ L ih => simp [dgL, ih]
theorem dig_zero (m : Nat) : dig m 0 = m % B := by simp [dig]
theorem dig_succ (m i : Nat) : dig m (i + 1) = dig (m / B) i := by
  unfold dig
  rw [Nat.pow_succ, Nat.mul_comm, ← Nat.div_div_eq_div_mul]
theorem dgL_getD (L n i : Nat) (h : i < L) : (dgL L n).getD i 0 = (dig n i : Nat) := by
  induction L generalizing n i with
  | zero => omega
  | succ L ih =>
    cases i with
    | zero => simp [dgL, dig_zero]
    | succ i => rw [dig_succ, ← ih (n / B) i (by omega)]; simp [dgL]
theorem rd_dgL (L n : Nat) (i : Nat) (h : i < L) : rd (dgL L n) (i : Int) = (dig n i : Nat) := by
  unfold rd; rw [Int.toNat_natCast]; exact dgL_getD L n i h
def setD (m j v : Nat) : Nat := m / B ^ (j + 1) * B ^ (j + 1) + v * B ^ j + m % B ^ j
theorem split_at (m j : Nat) : m = m / B ^ (j + 1) * B ^ (j + 1) + dig m j * B ^ j + m % B ^ j := by
  have h1 := Nat.div_add_mod m (B ^ j)
  have h2 := Nat.div_add_mod (m / B ^ j) B
  rw [Nat.div_div_eq_div_mul, ← Nat.pow_succ] at h2
  unfold dig
  have h3 : B ^ j * (m / B ^ j) = m / B ^ (j + 1) * B ^ (j + 1) + m / B ^ j % B * B ^ j := by
    rw [← h2, Nat.mul_add, Nat.pow_succ]
    have e : (B * (m / (B ^ j * B)) + m / B ^ j % B) / 1 = (B * (m / (B ^ j * B)) + m / B ^ j % B) := Nat.div_one _
    have e2 : (B * (m / (B ^ j * B)) + m / B ^ j % B) % B = m / B ^ j % B := by
      rw [Nat.mul_add_mod, Nat.mod_mod]
    rw [e2]
    rw [Nat.mul_comm (m / (B ^ j * B)) (B ^ j * B), Nat.mul_assoc, Nat.mul_comm (B ^ j) (m / B ^ j % B)]
  omega
theorem setD_eq (m j v : Nat) : setD m j v + dig m j * B ^ j = m + v * B ^ j := by
  have := split_at m j
  unfold setD
  omega
theorem setD_zero (m v : Nat) : setD m 0 v = B * (m / B) + v := by
  unfold setD; simp [Nat.mod_one, Nat.mul_comm]
theorem setD_succ (m j v : Nat) : setD m (j + 1) v = B * setD (m / B) j v + m % B := by
  unfold setD
  have e1 : m / B ^ (j + 1 + 1) = m / B / B ^ (j + 1) := by rw [Nat.div_div_eq_div_mul, ← Nat.pow_succ']
  have e2 : m % B ^ (j + 1) = B * (m / B % B ^ j) + m % B := by
    rw [Nat.pow_succ', Nat.mod_mul]; omega
  rw [e1, e2, Nat.mul_add, Nat.mul_add]
  have p1 : B ^ (j + 1 + 1) = B * B ^ (j + 1) := Nat.pow_succ'
  have p2 : B ^ (j + 1) = B * B ^ j := Nat.pow_succ'
  have q1 : m / B / B ^ (j + 1) * B ^ (j + 1 + 1) = B * (m / B / B ^ (j + 1) * B ^ (j + 1)) := by rw [p1, Nat.mul_left_comm]
  have q2 : v * B ^ (j + 1) = B * (v * B ^ j) := by rw [p2, Nat.mul_left_comm]
  rw [q1, q2]; omega
theorem set_dgL (L n j v : Nat) (hj : j < L) (hv : v < B) : (dgL L n).set j (v : Int) = dgL L (setD n j v) := by
  induction L generalizing n j with
  | zero => omega
  | succ L ih =>
    cases j with
    | zero =>
      rw [setD_zero]
      have a : (B * (n / B) + v) % B = v := by rw [Nat.mul_add_mod, Nat.mod_eq_of_lt hv]
      have b : (B * (n / B) + v) / B = n / B := by rw [Nat.mul_add_div Bpos, Nat.div_eq_of_lt hv]; omega
      simp only [dgL, List.set_cons_zero, a, b]
    | succ j =>
      rw [setD_succ]
      have a : (B * setD (n / B) j v + n % B) % B = n % B := by rw [Nat.mul_add_mod, Nat.mod_mod]
      have b : (B * setD (n / B) j v + n % B) / B = setD (n / B) j v := by rw [Nat.mul_add_div Bpos, Nat.div_eq_of_lt (Nat.mod_lt _ Bpos)]; omega
      simp only [dgL, List.set_cons_succ, a, b, ih (n / B) j (by omega)]
theorem dgL_zero (L : Nat) : dgL L 0 = List.replicate L 0 := by
  induction L with
  | zero => rfl
  | succ L ih => simp [dgL, List.replicate_succ, ih]
def ln (n : Nat) : Nat := if h : n = 0 then 0 else ln (n / B) + 1
termination_by n
decreasing_by exact Nat.div_lt_self (Nat.pos_of_ne_zero h) (by decide)
theorem ln_zero : ln 0 = 0 := by rw [ln]; simp
theorem ln_pos {n : Nat} (h : n ≠ 0) : ln n = ln (n / B) + 1 := by rw [ln]; simp [h]
def dg (n : Nat) : List Int := dgL (ln n) n
theorem dg_length (n : Nat) : (dg n).length = ln n := dgL_length _ _
theorem lt_pow_ln (n : Nat) : n < B ^ ln n := by
  induction n using Nat.strongRecOn with
  | ind n ih =>
    by_cases h : n = 0
    · subst h; rw [ln_zero]; decide
    · have := ih (n / B) (Nat.div_lt_self (Nat.pos_of_ne_zero h) (by decide))
      rw [ln_pos h, Nat.pow_succ]
      have h1 := Nat.div_add_mod n B
      have h2 := Nat.mod_lt n Bpos
      have : n / B + 1 ≤ B ^ ln (n / B) := this
      have := Nat.mul_le_mul_right B this
      rw [Nat.add_mul] at this
      rw [Nat.mul_comm B] at h1
      omega
theorem pow_ln_le (n : Nat) (h : n ≠ 0) : B ^ (ln n - 1) ≤ n := by
  induction n using Nat.strongRecOn with
  | ind n ih =>
    rw [ln_pos h, Nat.add_sub_cancel]
    by_cases h0 : n / B = 0
    · rw [h0, ln_zero]; simp; omega
    · have := ih (n / B) (Nat.div_lt_self (Nat.pos_of_ne_zero h) (by decide)) h0
      have e : ln (n / B) = ln (n / B) - 1 + 1 := by rw [ln_pos h0]; omega
      rw [e, Nat.pow_succ]
      exact Nat.le_trans (Nat.mul_le_mul_right B this) (Nat.div_mul_le_self n B)
theorem ln_le {n L : Nat} (h : n < B ^ L) : ln n ≤ L := by
  by_cases h0 : n = 0
  · subst h0; rw [ln_zero]; omega
  · have h1 := pow_ln_le n h0
    have h2 : B ^ (ln n - 1) < B ^ L := Nat.lt_of_le_of_lt h1 h
    have h3 := (Nat.pow_lt_pow_iff_right (by decide : 1 < B)).1 h2
    omega
theorem ln_mono {a b : Nat} (h : a ≤ b) : ln a ≤ ln b := ln_le (Nat.lt_of_le_of_lt h (lt_pow_ln b))
theorem dig_of_lt {n i : Nat} (h : n < B ^ i) : dig n i = 0 := by
  unfold dig; rw [Nat.div_eq_of_lt h]; rfl
theorem dig_ge_ln {n i : Nat} (h : ln n ≤ i) : dig n i = 0 :=
  dig_of_lt (Nat.lt_of_lt_of_le (lt_pow_ln n) (Nat.pow_le_pow_right Bpos h))
theorem dig_top {n : Nat} (h : n ≠ 0) : dig n (ln n - 1) ≠ 0 := by
  unfold dig
  have h1 := pow_ln_le n h
  have h2 := lt_pow_ln n
  have e : ln n = ln n - 1 + 1 := by rw [ln_pos h]; omega
  rw [e, Nat.pow_succ] at h2
  have h3 : n / B ^ (ln n - 1) < B := Nat.div_lt_of_lt_mul (by simpa using h2)
  rw [Nat.mod_eq_of_lt h3]
  have := Nat.div_pos h1 (Bpow_pos _)
  omega
theorem rd_dg (n i : Nat) (h : i < ln n) : rd (dg n) (i : Int) = (dig n i : Nat) := rd_dgL _ _ _ h
theorem take_dgL (L n i : Nat) (h : i ≤ L) : (dgL L n).take i = dgL i n := by
  induction L generalizing n i with
  | zero => obtain rfl : i = 0 := by omega
            rfl
  | succ L ih =>
    cases i with
    | zero => rfl
    | succ i => simp [dgL, ih (n / B) i (by omega)]
theorem w64 {x : Int} (h0 : -9223372036854775808 ≤ x) (h : x < 9223372036854775808) : Go.RowKit.wrap64 x = x := by unfold Go.RowKit.wrap64; omega
theorem wu {x : Int} (h0 : 0 ≤ x) (h : x < 18446744073709551616) : IntKind.u64.wrap x = x := IntWalk.u64_in x (by omega)
theorem wun (n : Nat) (h : n < 18446744073709551616) : IntKind.u64.wrap (n : Int) = (n : Int) := wu (by omega) (by omega)
end Go.Proofs.YtjpiplplohapnaaGreatDoor.Big
namespace Go.Proofs.YtjpiplplohapnaaGreatDoor.Big
open Go.RowKit Go.Proofs.YtjpiplplohapnaaGreatDoorW.PrintWords Go.Proofs.YtjpiplplohapnaaGreatDoorW.PrintLast Go.Proofs.YtjpiplplohapnaaGreatDoorW.PrintMore
open Go.Proofs.YtjpiplplohapnaaGreatDoor.PText
abbrev top : Nat := 1000000000
theorem trim_l0 (L n : Nat) (hL : L ≤ top) (i : Nat) (hi : i ≤ L) (hn : n < B ^ i) : Ev (fun k => tenorref1_trim.l0 k (dgL L n) (i : Int)) (dg n) := by
  induction i with
  | zero =>
    refine Ev.step (f := fun _ => some (dg n)) (fun k => ?_) (Ev.now _)
    have : n = 0 := by simpa using hn
    subst this
    simp only [tenorref1_trim.l0]
    rw [if_neg (by omega), if_pos (by omega), if_pos (by simp)]
    simp [dg, ln_zero, dgL]
  | succ i ih =>
    have e : wrap64 (((i + 1 : Nat) : Int) - 1) = (i : Int) := by rw [w64 (by omega) (by unfold top at hL; omega)]; omega
    by_cases h0 : dig n i = 0
    · have hn' : n < B ^ i := by
        have := split_at n i
        rw [h0, Nat.div_eq_of_lt hn] at this
        have h2 := Nat.mod_lt n (Bpow_pos i)
        omega
      refine Ev.step (fun k => ?_) (ih (by omega) hn')
      simp only [tenorref1_trim.l0]
      rw [e, if_pos (by omega), if_pos (by omega), if_pos (by simp; omega), rd_dgL _ _ _ (by omega), h0, if_pos (by simp)]
    · refine Ev.step (f := fun _ => some (dg n)) (fun k => ?_) (Ev.now _)
      simp only [tenorref1_trim.l0]
      rw [e, if_pos (by omega), if_pos (by omega), if_pos (by simp; omega), rd_dgL _ _ _ (by omega), if_neg (by omega), if_pos (by omega), if_pos (by simp; omega)]
      have hl : ln n = i + 1 := by
        have h1 := ln_le hn
        by_cases h2 : ln n ≤ i
        · exact absurd (dig_ge_ln h2) h0
        · omega
      rw [Int.toNat_natCast, take_dgL _ _ _ hi, dg, hl]
theorem trim_ev (L n : Nat) (hL : L ≤ top) (hn : n < B ^ L) : Ev (fun k => tenorref1_trim.f k (dgL L n)) (dg n) := by
  unfold tenorref1_trim.f
  rw [dgL_length]
  exact trim_l0 L n hL L (Nat.le_refl _) hn
theorem digit_dgL (L n i : Nat) : tenorref1_digit.f (dgL L n) (i : Int) = some (if i < L then ((dig n i : Nat) : Int) else 0) := by
  unfold tenorref1_digit.f
  rw [if_neg (by omega), dgL_length]
  by_cases h : i < L
  · rw [if_neg (by omega), if_pos (by omega), if_pos (by omega), rd_dgL _ _ _ h, if_pos h]
  · rw [if_pos (by omega), if_neg h]
theorem digit_dg (n i : Nat) : tenorref1_digit.f (dg n) (i : Int) = some ((dig n i : Nat) : Int) := by
  unfold dg
  rw [digit_dgL]
  by_cases h : i < ln n
  · rw [if_pos h]
  · rw [if_neg h, dig_ge_ln (by omega)]; rfl
theorem mod_step (b k : Nat) : b % B ^ (k + 1) = b % B ^ k + dig b k * B ^ k := by
  rw [Nat.pow_succ, Nat.mod_mul]; unfold dig; rw [Nat.mul_comm]
theorem divB_lt (s q : Nat) (h : s < q * 4294967296) : s / B < q := Nat.div_lt_of_lt_mul (by rw [Nat.mul_comm]; exact h)
theorem add_l0 (a b : Nat) (L : Nat) (hL : L = max (ln a) (ln b) + 1) (ht : L ≤ top) :
    ∀ (d i m c : Nat), d + i = L → m < B ^ i → c ≤ 1 → m + c * B ^ i = a % B ^ i + b % B ^ i →
    Ev (fun k => tenorref1_AddDigits.l0 k (dg a) (dg b) (L : Int) (dgL L m) (c : Int) (i : Int)) (dg (a + b)) := by
  intro d
  have hB : B = 4294967296 := rfl
  have haL : a < B ^ (L - 1) := Nat.lt_of_lt_of_le (lt_pow_ln a) (Nat.pow_le_pow_right Bpos (by omega))
  have hbL : b < B ^ (L - 1) := Nat.lt_of_lt_of_le (lt_pow_ln b) (Nat.pow_le_pow_right Bpos (by omega))
  have hp : B ^ L = B * B ^ (L - 1) := by rw [show L = (L - 1) + 1 by omega, Nat.pow_succ']; simp
  have h2B : 2 * B ^ (L - 1) ≤ B * B ^ (L - 1) := Nat.mul_le_mul_right _ (by decide)
  have hsum : a + b < B ^ L := by omega
  induction d with
  | zero =>
    intro i m c hd hm hc he
    obtain rfl : i = L := by omega
    have ha : a % B ^ i = a := Nat.mod_eq_of_lt (by omega)
    have hb : b % B ^ i = b := Nat.mod_eq_of_lt (by omega)
    rw [ha, hb] at he
    have hc0 : c = 0 := by
      rcases Nat.lt_or_ge 0 c with h | h
      · obtain rfl : c = 1 := by omega
        omega
      · omega
    subst hc0
    obtain rfl : m = a + b := by omega
    refine Ev.step (f := fun k => (tenorref1_trim.f k (dgL i (a + b))).bind fun t => some t) (fun k => ?_) (Ev.bind (f := fun _ t => some t) (trim_ev i _ ht hm) (Ev.now _))
    simp only [tenorref1_AddDigits.l0]
    rw [if_neg (by omega)]
  | succ d ih =>
    intro i m c hd hm hc he
    have x1 := dig_lt a i
    have x2 := dig_lt b i
    generalize hs : dig a i + dig b i + c = s
    have hset := setD_eq m i (s % B)
    have hz : dig m i = 0 := dig_of_lt hm
    rw [hz] at hset
    have hcs : s / B ≤ 1 := Nat.le_of_lt_succ (divB_lt s 2 (by omega))
    have hmi : setD m i (s % B) < B ^ (i + 1) := by
      have h1 := Nat.mod_lt s Bpos
      have h2 : (s % B + 1) * B ^ i ≤ B * B ^ i := Nat.mul_le_mul_right _ h1
      rw [Nat.add_mul] at h2
      rw [Nat.pow_succ']; omega
    refine Ev.step (fun k => ?_) (ih (i + 1) (setD m i (s % B)) (s / B) (by omega) hmi hcs ?_)
    · simp only [tenorref1_AddDigits.l0]
      rw [if_pos (by omega), digit_dg, digit_dg]
      simp only [Option.bind_some]
      rw [if_pos (by omega), dgL_length, if_pos (by omega), Int.toNat_natCast]
      have e3 : ((dig a i : Nat) : Int) + ((dig b i : Nat) : Int) = ((dig a i + dig b i : Nat) : Int) := by rw [Int.natCast_add]
      rw [e3, wun _ (by omega)]
      have e4 : ((dig a i + dig b i : Nat) : Int) + (c : Int) = (s : Int) := by rw [← hs]; omega
      rw [e4, wun _ (by omega)]
      have e5 : Int.tmod (s : Int) 4294967296 = ((s % B : Nat) : Int) := by rw [Int.tmod_eq_emod_of_nonneg (by omega)]; rfl
      have e6 : Int.tdiv (s : Int) 4294967296 = ((s / B : Nat) : Int) := by rw [Int.tdiv_eq_ediv_of_nonneg (by omega)]; rfl
      rw [e5, e6, wun _ (by omega), set_dgL _ _ _ _ (by omega) (Nat.mod_lt _ Bpos), w64 (by omega) (by unfold top at ht; omega)]
      rfl
    · rw [mod_step a i, mod_step b i, Nat.pow_succ']
      have hdm := Nat.div_add_mod s B
      have t1 : s / B * (B * B ^ i) = B * (s / B) * B ^ i := by rw [← Nat.mul_assoc, Nat.mul_comm (s / B)]
      have t2 : (B * (s / B) + s % B) * B ^ i = s * B ^ i := by rw [hdm]
      rw [Nat.add_mul] at t2
      have t3 : s * B ^ i = dig a i * B ^ i + dig b i * B ^ i + c * B ^ i := by rw [← hs, Nat.add_mul, Nat.add_mul]
      rw [t1]; omega
theorem add_ev (a b : Nat) (ht : max (ln a) (ln b) + 1 ≤ top) : Ev (fun k => tenorref1_AddDigits.f k (dg a) (dg b)) (dg (a + b)) := by
  refine Ev.congr (fun k => ?_) (add_l0 a b (max (ln a) (ln b) + 1) rfl ht (max (ln a) (ln b) + 1) 0 0 0 (by omega) (by simp) (by omega) (by simp [Nat.mod_one]))
  unfold tenorref1_AddDigits.f
  unfold top at ht
  have hm : mx ((dg a).length : Int) ((dg b).length : Int) = ((max (ln a) (ln b) : Nat) : Int) := by
    unfold mx; rw [dg_length, dg_length]; split <;> omega
  rw [hm, w64 (by omega) (by omega), if_pos (by omega), if_pos (by omega)]
  rw [show (((max (ln a) (ln b) : Nat) : Int) + 1).toNat = max (ln a) (ln b) + 1 by omega, dgL_zero]
  rfl
theorem ln_small {n : Nat} (h : n < B) : ln n ≤ 1 := ln_le (by simpa using h)
theorem ln_two {n : Nat} (h : n < B * B) : ln n ≤ 2 := ln_le (by rw [Nat.pow_two]; exact h)
theorem digits_ev (n : Nat) (h : n < 18446744073709551616) : Ev (fun k => tenorref1_Digits.f k (n : Int)) (dg n) := by
  have hB : B = 4294967296 := rfl
  have e5 : Int.tmod (n : Int) 4294967296 = ((n % B : Nat) : Int) := by rw [Int.tmod_eq_emod_of_nonneg (by omega)]; rfl
  have e6 : Int.tdiv (n : Int) 4294967296 = ((n / B : Nat) : Int) := by rw [Int.tdiv_eq_ediv_of_nonneg (by omega)]; rfl
  have e : ([Int.tmod (n : Int) 4294967296, IntKind.u64.wrap (Int.tdiv (n : Int) 4294967296)] : List Int) = dgL 2 n := by
    have hq : n / B < B := divB_lt n B (by omega)
    rw [e5, e6, wun _ (by omega)]
    have : n / B % B = n / B := Nat.mod_eq_of_lt hq
    simp [dgL, this]
  refine Ev.congr (fun k => ?_) (Ev.bind (f := fun _ t => some t) (trim_ev 2 n (by decide) (by omega)) (Ev.now _))
  unfold tenorref1_Digits.f
  rw [e]
theorem dg_of_lt {n : Nat} (h0 : n ≠ 0) (h : n < B) : dg n = [(n : Int)] := by
  have : ln n = 1 := by rw [ln_pos h0, Nat.div_eq_of_lt h, ln_zero]
  unfold dg; rw [this]; simp [dgL, Nat.mod_eq_of_lt h]
def bl (n : Nat) : Nat := if n = 0 then 0 else Nat.log2 n + 1
theorem bl_half {n : Nat} (h : n ≠ 0) : bl n = bl (n / 2) + 1 := by
  unfold bl
  rw [if_neg h]
  by_cases h1 : n / 2 = 0
  · rw [if_pos h1]
    have : n = 1 := by omega
    subst this; rfl
  · rw [if_neg h1]
    have h2 : 2 ≤ n := by omega
    rw [Nat.log2_def n, if_pos h2]
theorem lt_two_bl (n : Nat) : n < 2 ^ bl n := by
  unfold bl
  by_cases h : n = 0
  · subst h; decide
  · rw [if_neg h]; exact Nat.lt_log2_self
theorem two_bl_le {n : Nat} (h : n ≠ 0) : 2 ^ (bl n - 1) ≤ n := by
  unfold bl
  rw [if_neg h]
  exact Nat.log2_self_le h
theorem bl_le {n k : Nat} (h : n < 2 ^ k) : bl n ≤ k := by
  by_cases h0 : n = 0
  · subst h0; unfold bl; simp
  · have := two_bl_le h0
    have h2 : 2 ^ (bl n - 1) < 2 ^ k := Nat.lt_of_le_of_lt this h
    have h3 := (Nat.pow_lt_pow_iff_right (by decide : 1 < 2)).1 h2
    omega
theorem lt_bl {n k : Nat} (h : 2 ^ k ≤ n) : k < bl n := by
  have := lt_two_bl n
  have h2 : 2 ^ k < 2 ^ bl n := Nat.lt_of_le_of_lt h this
  exact (Nat.pow_lt_pow_iff_right (by decide : 1 < 2)).1 h2
theorem len_l0 (x : Nat) (hx : x < 18446744073709551616) : ∀ (a : Nat), a + bl x ≤ 40000000000 → Ev (fun k => tenorref1_Len.l0 k (a : Int) (x : Int)) ((a + bl x : Nat) : Int) := by
  induction x using Nat.strongRecOn with
  | ind x ih =>
    intro a ha
    by_cases h0 : x = 0
    · subst h0
      refine Ev.step (f := fun _ => some ((a + bl 0 : Nat) : Int)) (fun k => ?_) (Ev.now _)
      simp only [tenorref1_Len.l0]
      rw [if_neg (by omega)]
      simp [bl]
    · have hb := bl_half h0
      have h := ih (x / 2) (by omega) (by omega) (a + 1) (by omega)
      rw [show a + 1 + bl (x / 2) = a + bl x by omega] at h
      refine Ev.step (fun k => ?_) h
      simp only [tenorref1_Len.l0]
      rw [if_pos (by omega), w64 (by omega) (by omega)]
      have e6 : Int.tdiv (x : Int) 2 = ((x / 2 : Nat) : Int) := by rw [Int.tdiv_eq_ediv_of_nonneg (by omega)]; rfl
      rw [e6, wun _ (by omega)]
      rfl
theorem bl_add {a k r : Nat} (ha : a ≠ 0) (hr : r < 2 ^ k) : bl (a * 2 ^ k + r) = bl a + k := by
  have h1 := two_bl_le ha
  have h2 := lt_two_bl a
  have h0 : bl a ≠ 0 := by unfold bl; rw [if_neg ha]; omega
  have a1 : bl (a * 2 ^ k + r) ≤ bl a + k := bl_le (by
    rw [Nat.pow_add]
    have : (a + 1) * 2 ^ k ≤ 2 ^ bl a * 2 ^ k := Nat.mul_le_mul_right _ h2
    rw [Nat.add_mul] at this; omega)
  have b1 : bl a - 1 + k < bl (a * 2 ^ k + r) := lt_bl (by
    rw [Nat.pow_add]
    have : 2 ^ (bl a - 1) * 2 ^ k ≤ a * 2 ^ k := Nat.mul_le_mul_right _ h1
    omega)
  omega
theorem B_eq (i : Nat) : B ^ i = 2 ^ (32 * i) := by rw [Nat.pow_mul]
theorem bl_ln {n : Nat} (h : n ≠ 0) : bl n = bl (dig n (ln n - 1)) + 32 * (ln n - 1) := by
  have e : ln n = ln n - 1 + 1 := by rw [ln_pos h]; omega
  have h1 := split_at n (ln n - 1)
  have h2 := lt_pow_ln n
  rw [e] at h2
  rw [Nat.div_eq_of_lt h2, Nat.zero_mul, Nat.zero_add] at h1
  have h3 := Nat.mod_lt n (Bpow_pos (ln n - 1))
  rw [B_eq] at h1 h3
  have h4 := bl_add (r := n % 2 ^ (32 * (ln n - 1))) (dig_top h) h3
  rw [← h4, ← h1]
theorem len_ev (n : Nat) (ht : ln n ≤ top) : Ev (fun k => tenorref1_Len.f k (dg n)) ((bl n : Nat) : Int) := by
  unfold top at ht
  by_cases h : n = 0
  · subst h
    refine Ev.congr (f := fun _ => some ((bl 0 : Nat) : Int)) (fun k => ?_) (Ev.now _)
    unfold tenorref1_Len.f
    rw [dg_length, ln_zero, if_pos (by rfl)]
    rfl
  · have e : 1 ≤ ln n := by rw [ln_pos h]; omega
    have x1 := dig_lt n (ln n - 1)
    have hB : B = 4294967296 := rfl
    have hbt : bl (dig n (ln n - 1)) ≤ 32 := bl_le (by omega)
    have hl := len_l0 (dig n (ln n - 1)) (by omega) (32 * (ln n - 1)) (by omega)
    rw [show 32 * (ln n - 1) + bl (dig n (ln n - 1)) = bl n by rw [bl_ln h]; omega] at hl
    refine Ev.congr (fun k => ?_) hl
    unfold tenorref1_Len.f
    have e1 : ((ln n : Int) - 1) = ((ln n - 1 : Nat) : Int) := by omega
    rw [dg_length, if_neg (by omega), e1, w64 (by omega) (by omega), if_pos (by omega), if_pos (by omega), rd_dg _ _ (by omega), w64 (by omega) (by omega)]
    rw [show (32 : Int) * ((ln n - 1 : Nat) : Int) = ((32 * (ln n - 1) : Nat) : Int) by omega]
end Go.Proofs.YtjpiplplohapnaaGreatDoor.Big
