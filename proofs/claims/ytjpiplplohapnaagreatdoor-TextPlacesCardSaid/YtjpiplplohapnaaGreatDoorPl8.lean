/- Part 8 of the proof: RfPd, RfNd. -/
import Derived.Test.YtjpiplplohapnaaGreatDoorPl7
set_option linter.unusedVariables false
set_option linter.unusedSimpArgs false
namespace Go.Proofs.YtjpiplplohapnaaGreatDoor
open Go.RowKit Go.Proofs.YtjpiplplohapnaaGreatDoorW.PrintWords Rf
set_option maxRecDepth 100000 in
set_option maxHeartbeats 8000000 in
theorem readFloat_pd (s : ByteArray) (hs : s.size ≤ 1000) (h0 : 0 < s.size) (h45 : s[0].toNat ≠ 45) (h43 : s[0].toNat ≠ 43) (hnx : ¬ (2 < s.size ∧ (s.data.toList.getD 0 0).toNat = 48 ∧ lw (s.data.toList.getD 1 0).toNat = 120)) (w : World) : Calls Tryz.prog 142 #[.string s] w (RfPost false false s (fin false (scan false (s.data.toList.drop 0) st0).1 (scan false (s.data.toList.drop 0) st0).2) w) := by
  obtain ⟨sF, rF, hsc⟩ : ∃ sF rF, scan false (s.data.toList.drop 0) st0 = (sF, rF) := ⟨_, _, rfl⟩
  rw [hsc]
  dsimp only
  have hne : ¬ s = ByteArray.empty := by rintro rfl; simp at h0
  have hz0 : 0 < s.size := by omega
  obtain ⟨c0, hc0⟩ : ∃ c0 : Nat, s[0].toNat = c0 := ⟨_, rfl⟩
  have e0 : (s[0].toNat : Int) = c0 := by rw [hc0]
  rw [hc0] at h45 h43
  have g1 : ((c0 : Int) == 45) = false := by simp; omega
  have g2 : ((c0 : Int) == 43) = false := by simp; omega
  have hg0 : (s.data.toList.getD 0 0).toNat = c0 := by rw [List.getD_eq_getElem?_getD, List.getElem?_eq_getElem (by simpa using h0)]; exact hc0
  clear h45 h43 hc0
  have hI0 : 0 ≤ s.size := by omega
  clear h0
  go_enter Tryz.func142, Tryz.ntmps142
  go_wp2_with fail
  go_step3
  go_upto_region 12 with (fail)
  go_cut [54] (fun v54 w' => v54 = .bool false ∧ w = w')
  case first =>
    by_cases hl2 : 2 < s.size
    · have hh : (0 : Int) + 2 < s.size := by omega
      have hh2 : (2 : Int) < s.size := by omega
      have hi1 : 1 < s.size := by omega
      obtain ⟨c1, hc1⟩ : ∃ c1 : Nat, s[1].toNat = c1 := ⟨_, rfl⟩
      have e1 : (s[1].toNat : Int) = c1 := by rw [hc1]
      have hg1 : (s.data.toList.getD 1 0).toNat = c1 := by rw [List.getD_eq_getElem?_getD, List.getElem?_eq_getElem (by simpa using hi1)]; exact hc1
      have hno : ¬ (c0 = 48 ∧ lw c1 = 120) := fun h => hnx ⟨hl2, by rw [hg0]; exact h.1, by rw [hg1]; exact h.2⟩
      clear hnx hg0 hg1 hc1
      have hlw : Go.bits .or .u8 (c1 : Int) 32 = lw c1 := rfl
      by_cases h48 : c0 = 48
      · have g3 : ((c0 : Int) == 48) = true := by simp [h48]
        have g4 : (lw c1 == 120) = false := by simp; exact fun h => hno ⟨h48, h⟩
        clear hno h48
        go_wp2_with (go_at_call 156; refine (Tryz.internal_strconv_lower _ _).mono ?_; rintro e w1 ⟨rfl, hw1⟩; obtain rfl := hw1.symm)
        go_meet
        case rel => exact ⟨rfl, rfl⟩
      have g3 : ((c0 : Int) == 48) = false := by simp; omega
      clear hno h48
      go_wp2_with (go_at_call 156; refine (Tryz.internal_strconv_lower _ _).mono ?_; rintro e w1 ⟨rfl, hw1⟩; obtain rfl := hw1.symm)
      go_meet
      case rel => exact ⟨rfl, rfl⟩
    have hh : ¬ (0 : Int) + 2 < s.size := by omega
    have hh2 : ¬ (2 : Int) < s.size := by omega
    have hh3 : (s.size : Int) ≤ 2 := by omega
    clear hnx
    go_wp2_with (go_at_call 156; refine (Tryz.internal_strconv_lower _ _).mono ?_; rintro e w1 ⟨rfl, hw1⟩; obtain rfl := hw1.symm)
    go_meet
    case rel => exact ⟨rfl, rfl⟩
  obtain ⟨rfl, rfl⟩ := hcut
  clear e0 hnx g1 g2 hg0
  go_wp2_with fail
  go_step3
  go_upto_block 1 with (fail)
  have HI := Lib.hid (ok0 false 0)
  go_cut [2, 5, 7, 9, 13, 14, 15, 16, 17] (fun v2 v5 v7 v9 v13 v14 v15 v16 v17 w' => v2 = .int .u64 sF.m ∧ v5 = .bool sF.tr ∧ (∃ k : Nat, v7 = .int .i64 k ∧ Hid (s.data.toList.drop k = rF) ∧ k ≤ s.size ∧ Hid (Ok false sF k)) ∧ v9 = .bool sF.us ∧ v13 = .bool sF.dot ∧ v14 = .bool sF.sd ∧ v15 = .int .i64 sF.nd ∧ v16 = .int .i64 sF.nm ∧ v17 = .int .i64 sF.dp ∧ w = w')
  case first =>
    go_wp2_with fail
    have Hsc := Lib.hid hsc
    clear hsc
    go_loopg [2, 5, 7, 9, 13, 14, 15, 16, 17] (s.size - 0) (fun gn v2 v5 v7 v9 v13 v14 v15 v16 v17 w' => ∃ (k : Nat) (t : St), gn + k = s.size ∧ v2 = .int .u64 t.m ∧ v5 = .bool t.tr ∧ v7 = .int .i64 k ∧ Hid (scan false (s.data.toList.drop k) t = (sF, rF)) ∧ k ≤ s.size ∧ Hid (Ok false t k) ∧ v9 = .bool t.us ∧ v13 = .bool t.dot ∧ v14 = .bool t.sd ∧ v15 = .int .i64 t.nd ∧ v16 = .int .i64 t.nm ∧ v17 = .int .i64 t.dp ∧ w = w')
    case atStart => exact ⟨0, st0, by omega, rfl, rfl, rfl, Hsc, by omega, HI, rfl, rfl, rfl, rfl, rfl, rfl, rfl⟩
    case round =>
      obtain ⟨k, t, hg, rfl, rfl, rfl, hsc, hk, hok, rfl, rfl, rfl, rfl, rfl, rfl, rfl⟩ := hrel
      obtain ⟨us, dot, sd, nd, nm, dp, m, tr⟩ := t
      have hok := hok.out
      clear Hsc HI
      by_cases hkl : k < s.size
      · have hl : k < s.data.toList.length := by simpa using hkl
        have hsk : ((s[k].toNat : Nat) : Int) = ((s.data.toList[k].toNat : Nat) : Int) := rfl
        have hss := fun t' => @scan_some false s.data.toList k ⟨us, dot, sd, nd, nm, dp, m, tr⟩ t' hl
        have hsn := @scan_none false s.data.toList k ⟨us, dot, sd, nd, nm, dp, m, tr⟩ hl
        have hc256 : s.data.toList[k].toNat < 256 := UInt8.toNat_lt _
        obtain ⟨c, hc⟩ : ∃ c, c = s.data.toList[k].toNat := ⟨_, rfl⟩
        rw [← hc] at hsk hss hsn hc256
        clear hc
        by_cases h95 : c = 95
        · have f1 : ((c : Int) == 95) = true := by simp [h95]
          have HS := Lib.hid ((hss _ (by unfold stp; rw [if_pos h95])).symm.trans hsc.out)
          have HO : Hid (Ok false ⟨true, dot, sd, nd, nm, dp, m, tr⟩ (k + 1)) := Lib.hid ⟨by have := hok.nd; dsimp only at *; omega, hok.nm, hok.m, by have := hok.dp1; dsimp only at *; omega, by have := hok.dp2; dsimp only at *; omega⟩
          clear hss hsn hsc hok
          go_wp2_with fail
          go_roundg (gk - 1)
          case measure => omega
          case rel => exact ⟨k + 1, ⟨true, dot, sd, nd, nm, dp, m, tr⟩, by omega, rfl, rfl, by go_num, HS, by omega, HO, rfl, rfl, rfl, rfl, rfl, rfl, rfl⟩
        have f1 : ((c : Int) == 95) = false := by simp; omega
        by_cases h46 : c = 46
        · have f2 : ((c : Int) == 46) = true := by simp [h46]
          cases dot
          ·
            have HS := Lib.hid ((hss _ (by unfold stp; rw [if_neg h95, if_pos h46]; rfl)).symm.trans hsc.out)
            have HO : Hid (Ok false ⟨us, true, sd, nd, nm, nd, m, tr⟩ (k + 1)) := Lib.hid ⟨by have := hok.nd; dsimp only at *; omega, hok.nm, hok.m, by have := hok.nd; dsimp only at *; omega, by have := hok.nd; dsimp only at *; omega⟩
            clear hss hsn hsc hok
            go_wp2_with fail
            go_roundg (gk - 1)
            case measure => omega
            case rel => exact ⟨k + 1, ⟨us, true, sd, nd, nm, nd, m, tr⟩, by omega, rfl, rfl, by go_num, HS, by omega, HO, rfl, rfl, rfl, rfl, rfl, rfl, rfl⟩
          ·
            have HS := Lib.hid ((hsn (by unfold stp; rw [if_neg h95, if_pos h46]; rfl)).symm.trans hsc.out)
            have HO := Lib.hid hok
            clear hss hsn hsc hok
            go_wp2_with fail
            go_meet
            case rel =>
              obtain ⟨rfl, rfl⟩ := Prod.mk.inj HS.out
              exact ⟨rfl, rfl, ⟨k, rfl, Lib.hid rfl, by omega, HO⟩, rfl, rfl, rfl, rfl, rfl, rfl, rfl⟩
        have f2 : ((c : Int) == 46) = false := by simp; omega
        by_cases hd : 48 ≤ c ∧ c ≤ 57
        · have f3 : (48 : Int) ≤ c := by omega
          have f4 : (c : Int) ≤ 57 := by omega
          by_cases hz : c = 48 ∧ nd = 0
          · have f5 : ((c : Int) == 48) = true := by simp [hz.1]
            have f6 : ((nd : Int) == 0) = true := by simp [hz.2]
            have hw : IntKind.i64.wrap (dp - 1) = dp - 1 := by
              have := hok.dp1
              have := hok.dp2
              dsimp only at *
              rw [Go.IntKind.wrap_i64]; omega
            have HS := Lib.hid ((hss _ (by unfold stp; rw [if_neg h95, if_neg h46, if_pos hd, if_pos hz])).symm.trans hsc.out)
            have HO : Hid (Ok false ⟨us, dot, true, nd, nm, dp - 1, m, tr⟩ (k + 1)) := Lib.hid ⟨by have := hok.nd; dsimp only at *; omega, hok.nm, hok.m, by have := hok.dp1; dsimp only at *; omega, by have := hok.dp2; dsimp only at *; omega⟩
            clear hss hsn hsc hok hz hd
            go_wp2_with fail
            go_roundg (gk - 1)
            case measure => omega
            case rel => exact ⟨k + 1, ⟨us, dot, true, nd, nm, dp - 1, m, tr⟩, by omega, rfl, rfl, by go_num, HS, by omega, HO, rfl, rfl, rfl, rfl, rfl, rfl, rfl⟩
          have hnd : nd < 1000000 := by have := hok.nd; dsimp only at *; omega
          have hnm : nm ≤ 19 := hok.nm
          have hw15 : IntKind.i64.wrap ((nd : Int) + 1) = (nd : Int) + 1 := by rw [Go.IntKind.wrap_i64]; omega
          have hw16 : IntKind.i64.wrap ((nm : Int) + 1) = (nm : Int) + 1 := by rw [Go.IntKind.wrap_i64]; omega
          by_cases hm : nm < 19
          · have f7 : (nm : Int) < 19 := by omega
            have hroom := hok.room (d := c - 48) hm (by show c - 48 < 10; omega)
            have hmb : m * 10 + (c - 48) < 18446744073709551616 := Nat.lt_of_lt_of_le hroom.1 hroom.2
            have hw2 : IntKind.u64.wrap ((m : Int) * 10) = (m : Int) * 10 := by rw [Go.IntKind.wrap_u64]; omega
            have hw3 : IntKind.u64.wrap ((m : Int) * 10 + ((c : Int) - 48)) = (m : Int) * 10 + ((c : Int) - 48) := by rw [Go.IntKind.wrap_u64]; omega
            have hw4 : IntKind.u8.wrap ((c : Int) - 48) = (c : Int) - 48 := by rw [Go.IntKind.wrap_u8]; omega
            have hw5 : IntKind.u64.wrap ((c : Int) - 48) = (c : Int) - 48 := by rw [Go.IntKind.wrap_u64]; omega
            have hw6 : ((c : Int) - 48) % 256 = (c : Int) - 48 := by omega
            have HS := Lib.hid ((hss _ (by unfold stp; rw [if_neg h95, if_neg h46, if_pos hd, if_neg hz, if_pos (show nm < mxd false from hm)])).symm.trans hsc.out)
            have HO : Hid (Ok false ⟨us, dot, true, nd + 1, nm + 1, dp, m * 10 + (c - 48), tr⟩ (k + 1)) := Lib.hid ⟨by have := hok.nd; dsimp only at *; omega, hm, hroom.1, by have := hok.dp1; dsimp only at *; omega, by have := hok.dp2; dsimp only at *; omega⟩
            clear hss hsn hsc hok hroom
            by_cases h48 : c = 48
            · have f5 : ((c : Int) == 48) = true := by simp [h48]
              have f6 : ((nd : Int) == 0) = false := by simp; omega
              clear hz hd h48
              go_wp2_with fail
              go_roundg (gk - 1)
              case measure => omega
              case rel => exact ⟨k + 1, ⟨us, dot, true, nd + 1, nm + 1, dp, m * 10 + (c - 48), tr⟩, by omega, congrArg (Value.int .u64) (by dsimp only; omega), rfl, by go_num, HS, by omega, HO, rfl, rfl, rfl, by go_num, by go_num, rfl, rfl⟩
            have f5 : ((c : Int) == 48) = false := by simp; omega
            clear hz hd h48
            go_wp2_with fail
            go_roundg (gk - 1)
            case measure => omega
            case rel => exact ⟨k + 1, ⟨us, dot, true, nd + 1, nm + 1, dp, m * 10 + (c - 48), tr⟩, by omega, congrArg (Value.int .u64) (by dsimp only; omega), rfl, by go_num, HS, by omega, HO, rfl, rfl, rfl, by go_num, by go_num, rfl, rfl⟩
          have f7 : ¬ (nm : Int) < 19 := by omega
          have HS := Lib.hid ((hss _ (by unfold stp; rw [if_neg h95, if_neg h46, if_pos hd, if_neg hz, if_neg (show ¬ nm < mxd false from hm)])).symm.trans hsc.out)
          have HO : Hid (Ok false ⟨us, dot, true, nd + 1, nm, dp, m, tr || decide (c ≠ 48)⟩ (k + 1)) := Lib.hid ⟨by have := hok.nd; dsimp only at *; omega, hok.nm, hok.m, by have := hok.dp1; dsimp only at *; omega, by have := hok.dp2; dsimp only at *; omega⟩
          clear hss hsn hsc hok
          by_cases h48 : c = 48
          · have f5 : ((c : Int) == 48) = true := by simp [h48]
            have f8 : ((c : Int) != 48) = false := by simp [h48]
            have f6 : ((nd : Int) == 0) = false := by simp; omega
            have ht : (tr || decide (c ≠ 48)) = tr := by simp [h48]
            rw [ht] at HS HO
            clear hz hd h48 ht
            go_wp2_with fail
            go_roundg (gk - 1)
            case measure => omega
            case rel => exact ⟨k + 1, ⟨us, dot, true, nd + 1, nm, dp, m, tr⟩, by omega, rfl, rfl, by go_num, HS, by omega, HO, rfl, rfl, rfl, by go_num, rfl, rfl, rfl⟩
          have f5 : ((c : Int) == 48) = false := by simp; omega
          have f8 : ((c : Int) != 48) = true := by simp; omega
          have ht : (tr || decide (c ≠ 48)) = true := by simp [h48]
          rw [ht] at HS HO
          clear hz hd h48 ht
          go_wp2_with fail
          go_roundg (gk - 1)
          case measure => omega
          case rel => exact ⟨k + 1, ⟨us, dot, true, nd + 1, nm, dp, m, true⟩, by omega, rfl, rfl, by go_num, HS, by omega, HO, rfl, rfl, rfl, by go_num, rfl, rfl, rfl⟩
        ·
          by_cases h3 : 48 ≤ c
          · have f3 : (48 : Int) ≤ c := by omega
            have f4 : ¬ (c : Int) ≤ 57 := by omega
            have f4b : (57 : Int) < c := by omega
            have HS := Lib.hid ((hsn (by unfold stp; rw [if_neg h95, if_neg h46, if_neg hd, if_neg (fun h => Bool.noConfusion h.1)])).symm.trans hsc.out)
            have HO := Lib.hid hok
            clear hss hsn hsc hok hd
            go_wp2_with fail
            go_meet
            case rel =>
              obtain ⟨rfl, rfl⟩ := Prod.mk.inj HS.out
              exact ⟨rfl, rfl, ⟨k, rfl, Lib.hid rfl, by omega, HO⟩, rfl, rfl, rfl, rfl, rfl, rfl, rfl⟩
          have f3 : ¬ (48 : Int) ≤ c := by omega
          have f3b : (c : Int) < 48 := by omega
          have HS := Lib.hid ((hsn (by unfold stp; rw [if_neg h95, if_neg h46, if_neg hd, if_neg (fun h => Bool.noConfusion h.1)])).symm.trans hsc.out)
          have HO := Lib.hid hok
          clear hss hsn hsc hok hd
          go_wp2_with fail
          go_meet
          case rel =>
            obtain ⟨rfl, rfl⟩ := Prod.mk.inj HS.out
            exact ⟨rfl, rfl, ⟨k, rfl, Lib.hid rfl, by omega, HO⟩, rfl, rfl, rfl, rfl, rfl, rfl, rfl⟩
      have hS := @scan_end false s.data.toList k ⟨us, dot, sd, nd, nm, dp, m, tr⟩ (by simp; omega)
      have HS := Lib.hid (hS.symm.trans hsc.out)
      have HO := Lib.hid hok
      have hkk : k = s.size := by omega
      clear hS hsc hok
      subst hkk
      go_wp2_with fail
      go_meet
      case rel =>
        obtain ⟨rfl, rfl⟩ := Prod.mk.inj HS.out
        exact ⟨rfl, rfl, ⟨s.size, rfl, Lib.hid rfl, by omega, HO⟩, rfl, rfl, rfl, rfl, rfl, rfl, rfl⟩
  obtain ⟨rfl, rfl, ⟨k, rfl, hrF, hk, hO⟩, rfl, rfl, rfl, rfl, rfl, rfl, hww⟩ := hcut
  subst hww
  clear hsc HI
  obtain ⟨us, dot, sd, nd, nm, dp, m, tr⟩ := sF
  go_step
  exact rfTail_d' s hs k hk rF hrF.out false us dot sd nd nm dp m tr hO.out w
end Go.Proofs.YtjpiplplohapnaaGreatDoor
namespace Go.Proofs.YtjpiplplohapnaaGreatDoor
open Go.RowKit Go.Proofs.YtjpiplplohapnaaGreatDoorW.PrintWords Rf
set_option maxRecDepth 100000 in
set_option maxHeartbeats 8000000 in
theorem readFloat_nd (s : ByteArray) (hs : s.size ≤ 1000) (h0 : 1 < s.size) (h45 : s[0].toNat = 45) (hnx : ¬ (3 < s.size ∧ (s.data.toList.getD 1 0).toNat = 48 ∧ lw (s.data.toList.getD 2 0).toNat = 120)) (w : World) : Calls Tryz.prog 142 #[.string s] w (RfPost true false s (fin false (scan false (s.data.toList.drop 1) st0).1 (scan false (s.data.toList.drop 1) st0).2) w) := by
  obtain ⟨sF, rF, hsc⟩ : ∃ sF rF, scan false (s.data.toList.drop 1) st0 = (sF, rF) := ⟨_, _, rfl⟩
  rw [hsc]
  dsimp only
  have hne : ¬ s = ByteArray.empty := by rintro rfl; simp at h0
  have hz0 : 0 < s.size := by omega
  have e0 : (s[0].toNat : Int) = 45 := by rw [h45]; rfl
  have hi0 : 1 < s.size := h0
  have hI0 : 1 ≤ s.size := by omega
  clear h0 h45
  go_enter Tryz.func142, Tryz.ntmps142
  go_wp2_with fail
  go_step3
  go_upto_region 12 with (fail)
  go_cut [54] (fun v54 w' => v54 = .bool false ∧ w = w')
  case first =>
    by_cases hl2 : 3 < s.size
    · have hh : (1 : Int) + 2 < s.size := by omega
      have hh2 : (3 : Int) < s.size := by omega
      have hi1 : 2 < s.size := by omega
      obtain ⟨c1, hc1⟩ : ∃ c1 : Nat, s[2].toNat = c1 := ⟨_, rfl⟩
      have e1 : (s[2].toNat : Int) = c1 := by rw [hc1]
      have hg1 : (s.data.toList.getD 2 0).toNat = c1 := by rw [List.getD_eq_getElem?_getD, List.getElem?_eq_getElem (by simpa using hi1)]; exact hc1
      obtain ⟨c0, hc0⟩ : ∃ c0 : Nat, s[1].toNat = c0 := ⟨_, rfl⟩
      have e00 : (s[1].toNat : Int) = c0 := by rw [hc0]
      have hg0 : (s.data.toList.getD 1 0).toNat = c0 := by rw [List.getD_eq_getElem?_getD, List.getElem?_eq_getElem (by simpa using hi0)]; exact hc0
      clear hc0
      have hno : ¬ (c0 = 48 ∧ lw c1 = 120) := fun h => hnx ⟨hl2, by rw [hg0]; exact h.1, by rw [hg1]; exact h.2⟩
      clear hnx hg0 hg1 hc1
      have hlw : Go.bits .or .u8 (c1 : Int) 32 = lw c1 := rfl
      by_cases h48 : c0 = 48
      · have g3 : ((c0 : Int) == 48) = true := by simp [h48]
        have g4 : (lw c1 == 120) = false := by simp; exact fun h => hno ⟨h48, h⟩
        clear hno h48
        go_wp2_with (go_at_call 156; refine (Tryz.internal_strconv_lower _ _).mono ?_; rintro e w1 ⟨rfl, hw1⟩; obtain rfl := hw1.symm)
        go_meet
        case rel => exact ⟨rfl, rfl⟩
      have g3 : ((c0 : Int) == 48) = false := by simp; omega
      clear hno h48
      go_wp2_with (go_at_call 156; refine (Tryz.internal_strconv_lower _ _).mono ?_; rintro e w1 ⟨rfl, hw1⟩; obtain rfl := hw1.symm)
      go_meet
      case rel => exact ⟨rfl, rfl⟩
    have hh : ¬ (1 : Int) + 2 < s.size := by omega
    have hh2 : ¬ (3 : Int) < s.size := by omega
    have hh3 : (s.size : Int) ≤ 3 := by omega
    clear hnx
    go_wp2_with (go_at_call 156; refine (Tryz.internal_strconv_lower _ _).mono ?_; rintro e w1 ⟨rfl, hw1⟩; obtain rfl := hw1.symm)
    go_meet
    case rel => exact ⟨rfl, rfl⟩
  obtain ⟨rfl, rfl⟩ := hcut
  clear e0 hnx
  go_wp2_with fail
  go_step3
  go_upto_block 1 with (fail)
  have HI := Lib.hid (ok0 false 1)
  go_cut [2, 5, 7, 9, 13, 14, 15, 16, 17] (fun v2 v5 v7 v9 v13 v14 v15 v16 v17 w' => v2 = .int .u64 sF.m ∧ v5 = .bool sF.tr ∧ (∃ k : Nat, v7 = .int .i64 k ∧ Hid (s.data.toList.drop k = rF) ∧ k ≤ s.size ∧ Hid (Ok false sF k)) ∧ v9 = .bool sF.us ∧ v13 = .bool sF.dot ∧ v14 = .bool sF.sd ∧ v15 = .int .i64 sF.nd ∧ v16 = .int .i64 sF.nm ∧ v17 = .int .i64 sF.dp ∧ w = w')
  case first =>
    go_wp2_with fail
    have Hsc := Lib.hid hsc
    clear hsc
    go_loopg [2, 5, 7, 9, 13, 14, 15, 16, 17] (s.size - 1) (fun gn v2 v5 v7 v9 v13 v14 v15 v16 v17 w' => ∃ (k : Nat) (t : St), gn + k = s.size ∧ v2 = .int .u64 t.m ∧ v5 = .bool t.tr ∧ v7 = .int .i64 k ∧ Hid (scan false (s.data.toList.drop k) t = (sF, rF)) ∧ k ≤ s.size ∧ Hid (Ok false t k) ∧ v9 = .bool t.us ∧ v13 = .bool t.dot ∧ v14 = .bool t.sd ∧ v15 = .int .i64 t.nd ∧ v16 = .int .i64 t.nm ∧ v17 = .int .i64 t.dp ∧ w = w')
    case atStart => exact ⟨1, st0, by omega, rfl, rfl, rfl, Hsc, by omega, HI, rfl, rfl, rfl, rfl, rfl, rfl, rfl⟩
    case round =>
      obtain ⟨k, t, hg, rfl, rfl, rfl, hsc, hk, hok, rfl, rfl, rfl, rfl, rfl, rfl, rfl⟩ := hrel
      obtain ⟨us, dot, sd, nd, nm, dp, m, tr⟩ := t
      have hok := hok.out
      clear Hsc HI
      by_cases hkl : k < s.size
      · have hl : k < s.data.toList.length := by simpa using hkl
        have hsk : ((s[k].toNat : Nat) : Int) = ((s.data.toList[k].toNat : Nat) : Int) := rfl
        have hss := fun t' => @scan_some false s.data.toList k ⟨us, dot, sd, nd, nm, dp, m, tr⟩ t' hl
        have hsn := @scan_none false s.data.toList k ⟨us, dot, sd, nd, nm, dp, m, tr⟩ hl
        have hc256 : s.data.toList[k].toNat < 256 := UInt8.toNat_lt _
        obtain ⟨c, hc⟩ : ∃ c, c = s.data.toList[k].toNat := ⟨_, rfl⟩
        rw [← hc] at hsk hss hsn hc256
        clear hc
        by_cases h95 : c = 95
        · have f1 : ((c : Int) == 95) = true := by simp [h95]
          have HS := Lib.hid ((hss _ (by unfold stp; rw [if_pos h95])).symm.trans hsc.out)
          have HO : Hid (Ok false ⟨true, dot, sd, nd, nm, dp, m, tr⟩ (k + 1)) := Lib.hid ⟨by have := hok.nd; dsimp only at *; omega, hok.nm, hok.m, by have := hok.dp1; dsimp only at *; omega, by have := hok.dp2; dsimp only at *; omega⟩
          clear hss hsn hsc hok
          go_wp2_with fail
          go_roundg (gk - 1)
          case measure => omega
          case rel => exact ⟨k + 1, ⟨true, dot, sd, nd, nm, dp, m, tr⟩, by omega, rfl, rfl, by go_num, HS, by omega, HO, rfl, rfl, rfl, rfl, rfl, rfl, rfl⟩
        have f1 : ((c : Int) == 95) = false := by simp; omega
        by_cases h46 : c = 46
        · have f2 : ((c : Int) == 46) = true := by simp [h46]
          cases dot
          ·
            have HS := Lib.hid ((hss _ (by unfold stp; rw [if_neg h95, if_pos h46]; rfl)).symm.trans hsc.out)
            have HO : Hid (Ok false ⟨us, true, sd, nd, nm, nd, m, tr⟩ (k + 1)) := Lib.hid ⟨by have := hok.nd; dsimp only at *; omega, hok.nm, hok.m, by have := hok.nd; dsimp only at *; omega, by have := hok.nd; dsimp only at *; omega⟩
            clear hss hsn hsc hok
            go_wp2_with fail
            go_roundg (gk - 1)
            case measure => omega
            case rel => exact ⟨k + 1, ⟨us, true, sd, nd, nm, nd, m, tr⟩, by omega, rfl, rfl, by go_num, HS, by omega, HO, rfl, rfl, rfl, rfl, rfl, rfl, rfl⟩
          ·
            have HS := Lib.hid ((hsn (by unfold stp; rw [if_neg h95, if_pos h46]; rfl)).symm.trans hsc.out)
            have HO := Lib.hid hok
            clear hss hsn hsc hok
            go_wp2_with fail
            go_meet
            case rel =>
              obtain ⟨rfl, rfl⟩ := Prod.mk.inj HS.out
              exact ⟨rfl, rfl, ⟨k, rfl, Lib.hid rfl, by omega, HO⟩, rfl, rfl, rfl, rfl, rfl, rfl, rfl⟩
        have f2 : ((c : Int) == 46) = false := by simp; omega
        by_cases hd : 48 ≤ c ∧ c ≤ 57
        · have f3 : (48 : Int) ≤ c := by omega
          have f4 : (c : Int) ≤ 57 := by omega
          by_cases hz : c = 48 ∧ nd = 0
          · have f5 : ((c : Int) == 48) = true := by simp [hz.1]
            have f6 : ((nd : Int) == 0) = true := by simp [hz.2]
            have hw : IntKind.i64.wrap (dp - 1) = dp - 1 := by
              have := hok.dp1
              have := hok.dp2
              dsimp only at *
              rw [Go.IntKind.wrap_i64]; omega
            have HS := Lib.hid ((hss _ (by unfold stp; rw [if_neg h95, if_neg h46, if_pos hd, if_pos hz])).symm.trans hsc.out)
            have HO : Hid (Ok false ⟨us, dot, true, nd, nm, dp - 1, m, tr⟩ (k + 1)) := Lib.hid ⟨by have := hok.nd; dsimp only at *; omega, hok.nm, hok.m, by have := hok.dp1; dsimp only at *; omega, by have := hok.dp2; dsimp only at *; omega⟩
            clear hss hsn hsc hok hz hd
            go_wp2_with fail
            go_roundg (gk - 1)
            case measure => omega
            case rel => exact ⟨k + 1, ⟨us, dot, true, nd, nm, dp - 1, m, tr⟩, by omega, rfl, rfl, by go_num, HS, by omega, HO, rfl, rfl, rfl, rfl, rfl, rfl, rfl⟩
          have hnd : nd < 1000000 := by have := hok.nd; dsimp only at *; omega
          have hnm : nm ≤ 19 := hok.nm
          have hw15 : IntKind.i64.wrap ((nd : Int) + 1) = (nd : Int) + 1 := by rw [Go.IntKind.wrap_i64]; omega
          have hw16 : IntKind.i64.wrap ((nm : Int) + 1) = (nm : Int) + 1 := by rw [Go.IntKind.wrap_i64]; omega
          by_cases hm : nm < 19
          · have f7 : (nm : Int) < 19 := by omega
            have hroom := hok.room (d := c - 48) hm (by show c - 48 < 10; omega)
            have hmb : m * 10 + (c - 48) < 18446744073709551616 := Nat.lt_of_lt_of_le hroom.1 hroom.2
            have hw2 : IntKind.u64.wrap ((m : Int) * 10) = (m : Int) * 10 := by rw [Go.IntKind.wrap_u64]; omega
            have hw3 : IntKind.u64.wrap ((m : Int) * 10 + ((c : Int) - 48)) = (m : Int) * 10 + ((c : Int) - 48) := by rw [Go.IntKind.wrap_u64]; omega
            have hw4 : IntKind.u8.wrap ((c : Int) - 48) = (c : Int) - 48 := by rw [Go.IntKind.wrap_u8]; omega
            have hw5 : IntKind.u64.wrap ((c : Int) - 48) = (c : Int) - 48 := by rw [Go.IntKind.wrap_u64]; omega
            have hw6 : ((c : Int) - 48) % 256 = (c : Int) - 48 := by omega
            have HS := Lib.hid ((hss _ (by unfold stp; rw [if_neg h95, if_neg h46, if_pos hd, if_neg hz, if_pos (show nm < mxd false from hm)])).symm.trans hsc.out)
            have HO : Hid (Ok false ⟨us, dot, true, nd + 1, nm + 1, dp, m * 10 + (c - 48), tr⟩ (k + 1)) := Lib.hid ⟨by have := hok.nd; dsimp only at *; omega, hm, hroom.1, by have := hok.dp1; dsimp only at *; omega, by have := hok.dp2; dsimp only at *; omega⟩
            clear hss hsn hsc hok hroom
            by_cases h48 : c = 48
            · have f5 : ((c : Int) == 48) = true := by simp [h48]
              have f6 : ((nd : Int) == 0) = false := by simp; omega
              clear hz hd h48
              go_wp2_with fail
              go_roundg (gk - 1)
              case measure => omega
              case rel => exact ⟨k + 1, ⟨us, dot, true, nd + 1, nm + 1, dp, m * 10 + (c - 48), tr⟩, by omega, congrArg (Value.int .u64) (by dsimp only; omega), rfl, by go_num, HS, by omega, HO, rfl, rfl, rfl, by go_num, by go_num, rfl, rfl⟩
            have f5 : ((c : Int) == 48) = false := by simp; omega
            clear hz hd h48
            go_wp2_with fail
            go_roundg (gk - 1)
            case measure => omega
            case rel => exact ⟨k + 1, ⟨us, dot, true, nd + 1, nm + 1, dp, m * 10 + (c - 48), tr⟩, by omega, congrArg (Value.int .u64) (by dsimp only; omega), rfl, by go_num, HS, by omega, HO, rfl, rfl, rfl, by go_num, by go_num, rfl, rfl⟩
          have f7 : ¬ (nm : Int) < 19 := by omega
          have HS := Lib.hid ((hss _ (by unfold stp; rw [if_neg h95, if_neg h46, if_pos hd, if_neg hz, if_neg (show ¬ nm < mxd false from hm)])).symm.trans hsc.out)
          have HO : Hid (Ok false ⟨us, dot, true, nd + 1, nm, dp, m, tr || decide (c ≠ 48)⟩ (k + 1)) := Lib.hid ⟨by have := hok.nd; dsimp only at *; omega, hok.nm, hok.m, by have := hok.dp1; dsimp only at *; omega, by have := hok.dp2; dsimp only at *; omega⟩
          clear hss hsn hsc hok
          by_cases h48 : c = 48
          · have f5 : ((c : Int) == 48) = true := by simp [h48]
            have f8 : ((c : Int) != 48) = false := by simp [h48]
            have f6 : ((nd : Int) == 0) = false := by simp; omega
            have ht : (tr || decide (c ≠ 48)) = tr := by simp [h48]
            rw [ht] at HS HO
            clear hz hd h48 ht
            go_wp2_with fail
            go_roundg (gk - 1)
            case measure => omega
            case rel => exact ⟨k + 1, ⟨us, dot, true, nd + 1, nm, dp, m, tr⟩, by omega, rfl, rfl, by go_num, HS, by omega, HO, rfl, rfl, rfl, by go_num, rfl, rfl, rfl⟩
          have f5 : ((c : Int) == 48) = false := by simp; omega
          have f8 : ((c : Int) != 48) = true := by simp; omega
          have ht : (tr || decide (c ≠ 48)) = true := by simp [h48]
          rw [ht] at HS HO
          clear hz hd h48 ht
          go_wp2_with fail
          go_roundg (gk - 1)
          case measure => omega
          case rel => exact ⟨k + 1, ⟨us, dot, true, nd + 1, nm, dp, m, true⟩, by omega, rfl, rfl, by go_num, HS, by omega, HO, rfl, rfl, rfl, by go_num, rfl, rfl, rfl⟩
        ·
          by_cases h3 : 48 ≤ c
          · have f3 : (48 : Int) ≤ c := by omega
            have f4 : ¬ (c : Int) ≤ 57 := by omega
            have f4b : (57 : Int) < c := by omega
            have HS := Lib.hid ((hsn (by unfold stp; rw [if_neg h95, if_neg h46, if_neg hd, if_neg (fun h => Bool.noConfusion h.1)])).symm.trans hsc.out)
            have HO := Lib.hid hok
            clear hss hsn hsc hok hd
            go_wp2_with fail
            go_meet
            case rel =>
              obtain ⟨rfl, rfl⟩ := Prod.mk.inj HS.out
              exact ⟨rfl, rfl, ⟨k, rfl, Lib.hid rfl, by omega, HO⟩, rfl, rfl, rfl, rfl, rfl, rfl, rfl⟩
          have f3 : ¬ (48 : Int) ≤ c := by omega
          have f3b : (c : Int) < 48 := by omega
          have HS := Lib.hid ((hsn (by unfold stp; rw [if_neg h95, if_neg h46, if_neg hd, if_neg (fun h => Bool.noConfusion h.1)])).symm.trans hsc.out)
          have HO := Lib.hid hok
          clear hss hsn hsc hok hd
          go_wp2_with fail
          go_meet
          case rel =>
            obtain ⟨rfl, rfl⟩ := Prod.mk.inj HS.out
            exact ⟨rfl, rfl, ⟨k, rfl, Lib.hid rfl, by omega, HO⟩, rfl, rfl, rfl, rfl, rfl, rfl, rfl⟩
      have hS := @scan_end false s.data.toList k ⟨us, dot, sd, nd, nm, dp, m, tr⟩ (by simp; omega)
      have HS := Lib.hid (hS.symm.trans hsc.out)
      have HO := Lib.hid hok
      have hkk : k = s.size := by omega
      clear hS hsc hok
      subst hkk
      go_wp2_with fail
      go_meet
      case rel =>
        obtain ⟨rfl, rfl⟩ := Prod.mk.inj HS.out
        exact ⟨rfl, rfl, ⟨s.size, rfl, Lib.hid rfl, by omega, HO⟩, rfl, rfl, rfl, rfl, rfl, rfl, rfl⟩
  obtain ⟨rfl, rfl, ⟨k, rfl, hrF, hk, hO⟩, rfl, rfl, rfl, rfl, rfl, rfl, hww⟩ := hcut
  subst hww
  clear hsc HI
  obtain ⟨us, dot, sd, nd, nm, dp, m, tr⟩ := sF
  go_step
  exact rfTail_d' s hs k hk rF hrF.out true us dot sd nd nm dp m tr hO.out w
end Go.Proofs.YtjpiplplohapnaaGreatDoor
