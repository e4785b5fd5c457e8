/- Part 22 of the proof: Sp, Sn, Pt. -/
import Derived.Test.YtjpiplplohapnaaGreatDoorPs21
set_option linter.unusedVariables false
set_option linter.unusedSimpArgs false
namespace Go.Proofs.YtjpiplplohapnaaGreatDoor
open Go.RowKit Go.Proofs.YtjpiplplohapnaaGreatDoorW.PrintWords Rf Dc
set_option maxRecDepth 100000 in
set_option maxHeartbeats 8000000 in
theorem set_p (s : ByteArray) (hs : s.size ≤ 400) (h0 : 0 < s.size) (hsg : s[0].toNat ≠ 45 ∧ s[0].toNat ≠ 43) (w : World) (g : Nat) (d : Nat → Nat) (hD : z1d w g d 0 0 false false) (tF : Dst) (E : List UInt8) (hsc : z4m (s.data.toList.drop 0) (dst0 d) = (tF, E)) (hsd : tF.sd = true) (hE : E = [] ∨ ∃ p, E = 101 :: p ∧ powD (sgn p) = true) (hlen : tF.nd ≤ 800) :
    Calls Tryz.prog 148 #[.pointer (some ⟨g, 0, none⟩), .string s] w (SetPost g false tF E w) := by
  have hne : ¬ s = ByteArray.empty := by rintro rfl; simp at h0
  have hz0 : 0 < s.size := by omega
  have hz0I : (0 : Int) < s.size := by omega
  obtain ⟨c0, hc0⟩ : ∃ c0 : Nat, s[0].toNat = c0 := ⟨_, rfl⟩
  have e0 : (s[0].toNat : Int) = c0 := by rw [hc0]
  rw [hc0] at hsg
  have g1 : ((c0 : Int) == 45) = false := by simp; omega
  have g2 : ((c0 : Int) == 43) = false := by simp; omega
  have cng := hD.cng
  have ctr := hD.ctr
  have fr2 := hD.frozen 802
  have fr3 := hD.frozen 803
  have h2 := (hD.setNg false).setTr false
  have HD := Lib.hid h2
  have HB := Lib.hid (((Below.refl g w).setCell (p := ⟨g, 802, none⟩) (Nat.le_refl g) (.bool false)).setCell (p := ⟨g, 803, none⟩) (Nat.le_refl g) (.bool false))
  clear hsg hc0 hD h2
  go_enter Tryz.func148, Tryz.ntmps148
  go_upto_block 1 with (fail)
  clear e0 g1 g2 cng ctr fr2 fr3
  go_cut [5, 6, 7] (fun v5 v6 v7 w' => ∃ k : Nat, v5 = .int .i64 k ∧ v6 = .bool tF.dot ∧ v7 = .bool tF.sd ∧ Hid (s.data.toList.drop k = E ∧ k ≤ s.size ∧ DOk tF k) ∧ z1d w' g tF.d tF.nd tF.dp false false ∧ Hid (Below g w w'))
  case first =>
    go_wp2_with fail
    have Hsc := Lib.hid hsc
    clear hsc
    go_loopg [5, 6, 7] (s.size - 0) (fun gn v5 v6 v7 w' => ∃ (k : Nat) (t : Dst), v5 = .int .i64 k ∧ v6 = .bool t.dot ∧ v7 = .bool t.sd ∧ Hid (gn + k = s.size ∧ z4m (s.data.toList.drop k) t = (tF, E) ∧ DOk t k) ∧ z1d w' g t.d t.nd t.dp false false ∧ Hid (Below g w w'))
    case atStart => exact ⟨0, dst0 d, rfl, rfl, rfl, Lib.hid ⟨by omega, Hsc.out, ⟨by show 0 ≤ 0; omega, by show -((0 : Nat) : Int) ≤ 0; omega, by show (0 : Int) ≤ ((0 : Nat) : Int); omega⟩⟩, HD.out, HB⟩
    case round =>
      obtain ⟨k, t, rfl, rfl, rfl, hH, hdec, hb⟩ := hrel
      obtain ⟨hg, hsc, hok⟩ := hH.out
      obtain ⟨nd, dp, dot, sd, d'⟩ := t
      have o1 : nd ≤ k := hok.nd
      have o2 : -(k : Int) ≤ dp := hok.dp1
      have o3 : dp ≤ k := hok.dp2
      dsimp only at hdec
      clear Hsc hok HD HB
      by_cases hkl : k < s.size
      · have hl : k < s.data.toList.length := by simpa using hkl
        have hkI : (k : Int) < s.size := by omega
        have hsk : ((s[k].toNat : Nat) : Int) = ((s.data.toList[k].toNat : Nat) : Int) := rfl
        have hss := fun t' => @sscan_some s.data.toList k ⟨nd, dp, dot, sd, d'⟩ t' hl
        have hsn := @sscan_none s.data.toList k ⟨nd, dp, dot, sd, d'⟩ hl
        have hend0 : ∀ c : Nat, c = s.data.toList[k].toNat → sstp c ⟨nd, dp, dot, sd, d'⟩ = none → c = 101 ∧ tF = ⟨nd, dp, dot, sd, d'⟩ ∧ s.data.toList.drop k = E := by
          intro c hc hn
          have h1 := (hsn (by rw [← hc]; exact hn)).symm.trans hsc
          obtain ⟨h2, h3⟩ := Prod.mk.inj h1
          refine ⟨?_, h2.symm, h3⟩
          rcases hE with h | ⟨p, h, _⟩
          · rw [h, drop_at _ k hl] at h3; cases h3
          rw [h, drop_at _ k hl] at h3
          have := (List.cons.inj h3).1
          rw [hc, this]; rfl
        have hc256 : s.data.toList[k].toNat < 256 := UInt8.toNat_lt _
        obtain ⟨c, hc⟩ : ∃ c, c = s.data.toList[k].toNat := ⟨_, rfl⟩
        have hend := hend0 c hc
        rw [← hc] at hsk hss hc256
        clear hc hsn hend0
        have hw5 : IntKind.i64.wrap ((k : Int) + 1) = ((k + 1 : Nat) : Int) := by rw [Go.IntKind.wrap_i64]; omega
        by_cases h46 : c = 46
        · have f1 : ((c : Int) == 95) = false := by simp; omega
          have f2 : ((c : Int) == 46) = true := by simp [h46]
          cases dot
          · have HS := Lib.hid ((hss _ (by unfold sstp; rw [if_pos h46]; rfl)).symm.trans hsc)
            have cnd := hdec.cnd
            have cdp := hdec.cdp
            have fdp := hdec.frozen 801
            have HD2 := Lib.hid (hdec.z4g (nd : Int))
            have HB2 := Lib.hid (hb.out.setCell (p := ⟨g, 801, none⟩) (Nat.le_refl g) (.int .i64 (nd : Nat)))
            have HR : Hid (gk - 1 < gk ∧ gk - 1 + (k + 1) = s.size ∧ DOk ⟨nd, nd, true, sd, d'⟩ (k + 1)) := Lib.hid ⟨by omega, by omega, ⟨by show nd ≤ k + 1; omega, by show -((k + 1 : Nat) : Int) ≤ (nd : Int); omega, by show (nd : Int) ≤ ((k + 1 : Nat) : Int); omega⟩⟩
            clear hss hend hsc hH hdec hb hg o1 o2 o3 h46
            go_wp2_with fail
            go_roundg (gk - 1)
            case measure => exact HR.out.1
            case rel => exact ⟨k + 1, ⟨nd, nd, true, sd, d'⟩, by first | rfl | go_num, rfl, rfl, Lib.hid ⟨HR.out.2.1, HS.out, HR.out.2.2⟩, HD2.out, HB2⟩
          exfalso
          have := (hend (by unfold sstp; rw [if_pos h46]; rfl)).1
          omega
        have f2 : ((c : Int) == 46) = false := by simp; omega
        by_cases hd : 48 ≤ c ∧ c ≤ 57
        · have f1 : ((c : Int) == 95) = false := by simp; omega
          have f3 : (48 : Int) ≤ c := by omega
          have f4 : (c : Int) ≤ 57 := by omega
          by_cases hz : c = 48 ∧ nd = 0
          · have f5 : ((c : Int) == 48) = true := by simp [hz.1]
            have hnd0 : nd = 0 := hz.2
            have HS := Lib.hid ((hss _ (by unfold sstp; rw [if_neg h46, if_pos hd, if_pos hz])).symm.trans hsc)
            have cnd := hdec.cnd
            have cdp := hdec.cdp
            have fdp := hdec.frozen 801
            have HD2 := Lib.hid (hdec.z4g (dp - 1))
            have HB2 := Lib.hid (hb.out.setCell (p := ⟨g, 801, none⟩) (Nat.le_refl g) (.int .i64 (dp - 1)))
            have HR : Hid (gk - 1 < gk ∧ gk - 1 + (k + 1) = s.size ∧ DOk ⟨nd, dp - 1, dot, true, d'⟩ (k + 1)) := Lib.hid ⟨by omega, by omega, ⟨by show nd ≤ k + 1; omega, by show -((k + 1 : Nat) : Int) ≤ dp - 1; omega, by show dp - 1 ≤ ((k + 1 : Nat) : Int); omega⟩⟩
            have hw : IntKind.i64.wrap (dp - 1) = dp - 1 := by rw [Go.IntKind.wrap_i64]; omega
            have hwb : wrap64 (dp - 1) = dp - 1 := by unfold wrap64; omega
            clear hss hend hsc hH hdec hb hg o1 o2 o3 h46 hz hd
            subst hnd0
            go_wp2_with fail
            go_roundg (gk - 1)
            case measure => exact HR.out.1
            case rel => exact ⟨k + 1, ⟨0, dp - 1, dot, true, d'⟩, by first | rfl | go_num, rfl, rfl, Lib.hid ⟨HR.out.2.1, HS.out, HR.out.2.2⟩, HD2.out, HB2⟩
          have hcond : (((c : Int) == 48) = true ∧ ((nd : Int) == 0) = false) ∨ ((c : Int) == 48) = false := by
            by_cases h48 : c = 48
            · exact Or.inl ⟨by simp [h48], by simp; omega⟩
            exact Or.inr (by simp; omega)
          have n8 : (nd : Int) < 800 := by omega
          have n8b : decide ((nd : Int) < 800) = true := decide_eq_true n8
          have n8c : nd < 800 := by omega
          have HS := Lib.hid ((hss _ (by unfold sstp; rw [if_neg h46, if_pos hd, if_neg hz])).symm.trans hsc)
          have cnd := hdec.cnd
          have cb := hdec.byte nd n8c
          have fb := hdec.frozen nd
          generalize d' nd = bv at cb
          have HD2 := Lib.hid (hdec.z7w nd c n8c)
          have HB2 := Lib.hid (hb.out.setCell (p := ⟨g, nd, none⟩) (Nat.le_refl g) (.int .u8 (c : Nat)))
          have HR : Hid (gk - 1 < gk ∧ gk - 1 + (k + 1) = s.size ∧ DOk ⟨nd + 1, dp, dot, true, upd d' nd c⟩ (k + 1)) := Lib.hid ⟨by omega, by omega, ⟨by show nd + 1 ≤ k + 1; omega, by show -((k + 1 : Nat) : Int) ≤ dp; omega, by show dp ≤ ((k + 1 : Nat) : Int); omega⟩⟩
          have hwn : IntKind.i64.wrap ((nd : Int) + 1) = (nd : Int) + 1 := by rw [Go.IntKind.wrap_i64]; omega
          have hwnb : wrap64 ((nd : Int) + 1) = (nd : Int) + 1 := by unfold wrap64; omega
          clear hss hend hsc hH hdec hb hg o1 o2 o3 h46 hz hd
          rcases hcond with ⟨f5, f6⟩ | f5
          all_goals
            go_upto_region 25 with (fail)
            clear f1 f2 f3 f4 f5
            go_region_with fail
          all_goals
            have HE2 : Hid (z1d ((wr.setCell ⟨g, nd, none⟩ (.int .u8 (c : Nat))).drew) g (upd d' nd c) (nd : Nat) dp false false ∧ Below g w ((wr.setCell ⟨g, nd, none⟩ (.int .u8 (c : Nat))).drew)) := Lib.hid ⟨HD2.out, below_drewN HB2.out 1⟩
            clear HD2 HB2 cnd cb fb
            generalize (wr.setCell ⟨g, nd, none⟩ (.int .u8 (c : Nat))).drew = w5 at *
            have cnd : w5.cell? ⟨g, 800, none⟩ = some (.int .i64 (nd : Nat)) := HE2.out.1.cnd
            have fnd := HE2.out.1.frozen 800
            have HG := Lib.hid (And.intro (HE2.out.1.setNd ((nd : Int) + 1)) (HE2.out.2.setCell (p := ⟨g, 800, none⟩) (Nat.le_refl g) (.int .i64 ((nd : Int) + 1))))
            clear HE2
            go_wp2_with fail
            go_roundg (gk - 1)
            case measure => exact HR.out.1
            case rel => exact ⟨k + 1, ⟨nd + 1, dp, dot, true, upd d' nd c⟩, by first | rfl | go_num, rfl, rfl, Lib.hid ⟨HR.out.2.1, HS.out, HR.out.2.2⟩, HG.out.1, Lib.hid HG.out.2⟩
        obtain ⟨h101, h2, h3⟩ := hend (by unfold sstp; rw [if_neg h46, if_neg hd])
        have f1 : ((c : Int) == 95) = false := by simp; omega
        have f3 : (48 : Int) ≤ c := by omega
        have f4 : ¬ (c : Int) ≤ 57 := by omega
        have f4b : decide ((c : Int) ≤ 57) = false := decide_eq_false f4
        have HR : Hid (tF = ⟨nd, dp, dot, sd, d'⟩ ∧ s.data.toList.drop k = E ∧ k ≤ s.size ∧ DOk ⟨nd, dp, dot, sd, d'⟩ k) := Lib.hid ⟨h2, h3, by omega, ⟨o1, o2, o3⟩⟩
        have HDD := Lib.hid hdec
        clear hss hend hsc hH hdec hg o1 o2 o3 h46 hd h101 h2 h3
        go_wp2_with fail
        go_meet
        case rel => rw [HR.out.1]; exact ⟨k, rfl, rfl, rfl, Lib.hid HR.out.2, HDD.out, hb⟩
      have hkI : ¬ (k : Int) < s.size := by omega
      have hkb : decide ((k : Int) < (s.size : Int)) = false := decide_eq_false hkI
      have h1 := (sscan_end (l := s.data.toList) (k := k) (t := ⟨nd, dp, dot, sd, d'⟩) (by have : s.data.toList.length = s.size := by simp
                                                                                           omega)).symm.trans hsc
      obtain ⟨h2, h3⟩ := Prod.mk.inj h1
      have HR : Hid (tF = ⟨nd, dp, dot, sd, d'⟩ ∧ s.data.toList.drop k = E ∧ k ≤ s.size ∧ DOk ⟨nd, dp, dot, sd, d'⟩ k) := Lib.hid ⟨h2.symm, h3, by omega, ⟨o1, o2, o3⟩⟩
      have HDD := Lib.hid hdec
      clear hsc hH hdec hg o1 o2 o3 h1 h2 h3
      go_wp2_with fail
      go_meet
      case rel => rw [HR.out.1]; exact ⟨k, rfl, rfl, rfl, Lib.hid HR.out.2, HDD.out, hb⟩
  obtain ⟨k, rfl, rfl, rfl, hH, hdec, hb⟩ := hcut
  obtain ⟨hk1, hk2, hok⟩ := hH.out
  obtain ⟨nd, dp, dot, sd, d'⟩ := tF
  have o1 : nd ≤ k := hok.nd
  have o2 : -(k : Int) ≤ dp := hok.dp1
  have o3 : dp ≤ k := hok.dp2
  have hsd2 : sd = true := hsd
  subst hsd2
  obtain ⟨X, hX⟩ : ∃ X : Int, X = if dot then dp else (nd : Int) := ⟨_, rfl⟩
  have hXb0 : -(k : Int) ≤ X ∧ X ≤ k := by cases dot <;> simp at hX <;> omega
  have hXb : -400 ≤ X ∧ X ≤ 400 := by omega
  clear hXb0
  have HXX := Lib.hid hX
  have hdec' : z1d wc g d' nd dp false false := hdec
  have cnd := hdec'.cnd
  have cdp := hdec'.cdp
  have fdp := hdec'.frozen 801
  have HK := Lib.hid hk1
  have HDD := Lib.hid hdec'
  have HDE := Lib.hid (hdec'.z4g (nd : Int))
  have HBE := Lib.hid (hb.out.setCell (p := ⟨g, 801, none⟩) (Nat.le_refl g) (.int .i64 (nd : Nat)))
  have HEE := Lib.hid hE
  clear hsc hsd hE hlen hne hz0 hz0I h0 HD HB hH hdec hdec' hok o1 o2 o3 hX hk1
  go_step
  go_upto_if 120 with (fail)
  go_cut [5] (fun v5 w' => v5 = .int .i64 k ∧ z1d w' g d' nd X false false ∧ Hid (Below g w w'))
  case first =>
    cases dot
    · go_wp2_with fail
      go_meet
      case rel => exact ⟨rfl, by rw [show X = (nd : Int) from HXX.out]; exact HDE.out, HBE⟩
    go_wp2_with fail
    go_meet
    case rel => exact ⟨rfl, by rw [show X = dp from HXX.out]; exact HDD.out, hb⟩
  obtain ⟨rfl, hdec, hb2⟩ := hcut
  clear cnd cdp fdp HDD HDE HBE hb
  have HDC := Lib.hid hdec
  clear hdec
  have hsl : s.data.toList.length = s.size := by simp
  rcases HEE.out with hE | ⟨p, hE, hp⟩
  · have hks : k = s.size := by
      have h1 := HK.out
      rw [hE] at h1
      have := List.drop_eq_nil_iff.1 h1
      omega
    have HF : Hid (SetPost g false ⟨nd, dp, dot, true, d'⟩ E w (.returned (.bool true)) wc) := Lib.hid ⟨rfl, hb2.out, by
      have := HDC.out
      unfold z4g
      rw [hE]
      dsimp only [powE]
      rw [Int.add_zero, ← HXX.out]
      exact this⟩
    have f1 : ¬ (k : Int) < s.size := by omega
    have f2 : decide ((k : Int) < (s.size : Int)) = false := decide_eq_false f1
    have f3 : ((k : Int) != (s.size : Int)) = false := by simp; omega
    clear hE hk2 hXb hks
    go_step
    go_wp2_with fail
    go_ret
    exact HF.out
  have hpd := z8b hp
  have hlen1 : k < s.size := by
    rcases Nat.lt_or_ge k s.size with h | h
    · exact h
    exfalso
    have h1 := HK.out
    rw [hE, List.drop_of_length_le (by omega)] at h1
    cases h1
  have hdk := drop_at s.data.toList k (by omega)
  rw [HK.out, hE] at hdk
  obtain ⟨hd1, hd2⟩ := List.cons.inj hdk
  have e101 : ((s[k].toNat : Nat) : Int) = 101 := by
    show ((s.data.toList[k].toNat : Nat) : Int) = 101
    rw [← hd1]; rfl
  have hlw : Go.bits .or .u8 101 32 = 101 := by decide +kernel
  have hlen2 : k + 1 < s.size := by
    rcases Nat.lt_or_ge (k + 1) s.size with h | h
    · exact h
    exfalso
    rw [List.drop_of_length_le (by omega)] at hd2
    rw [hd2] at hpd
    have := hpd.2.1
    simp [sgn] at this
  have hlI : (k : Int) < s.size := by omega
  have hlIb : decide ((k : Int) < (s.size : Int)) = true := decide_eq_true hlI
  have hk5 : IntKind.i64.wrap ((k : Int) + 1) = ((k + 1 : Nat) : Int) := by rw [Go.IntKind.wrap_i64]; omega
  have hdk2 := drop_at s.data.toList (k + 1) (by omega)
  rw [← hd2] at hdk2
  obtain ⟨c1, hc1⟩ : ∃ c1 : Nat, c1 = s.data.toList[k + 1].toNat := ⟨_, rfl⟩
  obtain ⟨k1, hk1⟩ : ∃ k1, k1 = k + 1 := ⟨_, rfl⟩
  have ec1 : k1 < s.size := by omega
  have ec2 : ((s[k1].toNat : Nat) : Int) = (c1 : Int) := by
    subst hk1
    rw [hc1]; rfl
  have hsg : (c1 = 43 → sgn p = s.data.toList.drop (k1 + 1) ∧ (z2e p).1 = 1) ∧ (c1 = 45 → sgn p = s.data.toList.drop (k1 + 1) ∧ (z2e p).1 = -1) ∧ (c1 ≠ 43 → c1 ≠ 45 → sgn p = s.data.toList.drop k1 ∧ (z2e p).1 = 1) := by
    subst hk1
    rw [hdk2, hc1]
    refine ⟨fun h => ?_, fun h => ?_, fun h h' => ?_⟩
    · exact ⟨by unfold sgn; exact if_pos (Or.inl h), by unfold z2e; dsimp only; rw [if_pos h]⟩
    · exact ⟨by unfold sgn; exact if_pos (Or.inr h), by unfold z2e; dsimp only; rw [if_neg (by omega), if_pos h]⟩
    exact ⟨by unfold sgn; rw [drop_at s.data.toList (k + 1) (by omega)]; exact if_neg (by omega), by unfold z2e; dsimp only; rw [if_neg h, if_neg h']⟩
  rw [← hk1] at hk5
  have hk5b : (k : Int) + 1 = (k1 : Int) := by omega
  have HSG := Lib.hid hsg
  have HPD := Lib.hid hpd
  have HE := Lib.hid hE
  have hk1I : (k1 : Int) < s.size := by omega
  have hk1n : ¬ (s.size : Int) ≤ k1 := by omega
  have hk1b : decide ((s.size : Int) ≤ (k1 : Int)) = false := decide_eq_false hk1n
  have hw1 : IntKind.i64.wrap ((k1 : Int) + 1) = ((k1 + 1 : Nat) : Int) := by rw [Go.IntKind.wrap_i64]; omega
  clear hp hpd hdk hd1 hd2 hlen2 hdk2 hc1 hk1 hsg hE HEE hk2
  go_step
  go_upto_block 4 with (go_at_call 156; refine (Tryz.internal_strconv_lower _ _).mono ?_; rintro e w1 ⟨rfl, hw1⟩; obtain rfl := hw1.symm)
  clear e101 hlw hlI hlIb hk5 hk5b hk1n hk1b
  go_cut [5, 8] (fun v5 v8 w' => ∃ (k2 : Nat) (sg : Int), v5 = .int .i64 k2 ∧ v8 = .int .i64 sg ∧ Hid (sgn p = s.data.toList.drop k2 ∧ (z2e p).1 = sg ∧ (sg = 1 ∨ sg = -1)) ∧ wc = w')
  case first =>
    by_cases h43 : c1 = 43
    · have f1 : ((c1 : Int) == 43) = true := by simp [h43]
      have hh := HSG.out.1 h43
      have HR := Lib.hid hh
      clear hh h43
      go_wp2_with fail
      go_meet
      case rel => exact ⟨k1 + 1, 1, by first | rfl | go_num, rfl, Lib.hid ⟨HR.out.1, HR.out.2, Or.inl rfl⟩, rfl⟩
    have f1 : ((c1 : Int) == 43) = false := by simp; omega
    by_cases h45 : c1 = 45
    · have f2 : ((c1 : Int) == 45) = true := by simp [h45]
      have hh := HSG.out.2.1 h45
      have HR := Lib.hid hh
      clear hh h43 h45
      go_wp2_with fail
      go_meet
      case rel => exact ⟨k1 + 1, -1, by first | rfl | go_num, rfl, Lib.hid ⟨HR.out.1, HR.out.2, Or.inr rfl⟩, rfl⟩
    have f2 : ((c1 : Int) == 45) = false := by simp; omega
    have hh := HSG.out.2.2 h43 h45
    have HR := Lib.hid hh
    clear hh h43 h45
    go_wp2_with fail
    go_meet
    case rel => exact ⟨k1, 1, rfl, rfl, Lib.hid ⟨HR.out.1, HR.out.2, Or.inl rfl⟩, rfl⟩
  obtain ⟨k2, sg, rfl, rfl, hQ, hww⟩ := hcut
  subst hww
  obtain ⟨q1, q2, q3⟩ := hQ.out
  have hpd := HPD.out
  have hk2s : k2 < s.size := by
    rcases Nat.lt_or_ge k2 s.size with h | h
    · exact h
    exfalso
    rw [q1, List.drop_of_length_le (by omega)] at hpd
    have := hpd.2.1
    simp at this
  have hk2l : k2 < s.data.toList.length := by omega
  obtain ⟨c2, hc2⟩ : ∃ c2 : Nat, c2 = s.data.toList[k2].toNat := ⟨_, rfl⟩
  have ec3 : ((s[k2].toNat : Nat) : Int) = (c2 : Int) := by rw [hc2]; rfl
  have hd2 : 48 ≤ c2 ∧ c2 ≤ 57 := by
    rw [hc2]
    exact hpd.1 _ (by rw [q1, drop_at s.data.toList k2 hk2l]; simp)
  have hlen4 : (s.data.toList.drop k2).length ≤ 4 := by rw [← q1]; exact hpd.2.2
  rw [List.length_drop, hsl] at hlen4
  have hall : ∀ c ∈ s.data.toList.drop k2, Num.isD c := by rw [← q1]; exact hpd.1
  obtain ⟨V, hV⟩ : ∃ V, V = Num.dv 0 (s.data.toList.drop k2) := ⟨_, rfl⟩
  have hVp : powE E = sg * (V : Int) := by
    rw [HE.out]
    show powV p = _
    unfold powV
    rw [q2, z6m, q1, hV]
  have HVP := Lib.hid hVp
  have HV := Lib.hid hV
  have HAll := Lib.hid hall
  have k2I : (k2 : Int) < s.size := by omega
  have k2n : ¬ (s.size : Int) ≤ k2 := by omega
  have k2b : decide ((s.size : Int) ≤ (k2 : Int)) = false := decide_eq_false k2n
  have d1 : ¬ (c2 : Int) < 48 := by omega
  have d1b : decide ((c2 : Int) < 48) = false := decide_eq_false d1
  have d2 : ¬ (57 : Int) < c2 := by omega
  have d2b : decide ((57 : Int) < (c2 : Int)) = false := decide_eq_false d2
  clear q1 q2 hpd hc2 hd2 hall hV hVp hQ HSG HPD ec1 ec2 hk1I hw1 hlen1
  go_step
  go_upto_block 5 with (fail)
  clear d1 d1b d2 d2b ec3 k2n k2b
  go_cut [5, 9] (fun v5 v9 w' => v5 = .int .i64 s.size ∧ v9 = .int .i64 V ∧ Hid (V < 10000) ∧ wc = w')
  case first =>
    go_wp2_with fail
    go_loopg [5, 9] (s.size - k2) (fun gn v5 v9 w' => ∃ k3 e : Nat, v5 = .int .i64 k3 ∧ v9 = .int .i64 e ∧ Hid (gn + k3 = s.size ∧ Num.dv e (s.data.toList.drop k3) = V ∧ (∀ c ∈ s.data.toList.drop k3, Num.isD c) ∧ ∃ c, e < 10 ^ c ∧ c + (s.size - k3) ≤ 4) ∧ wc = w')
    case atStart => exact ⟨k2, 0, rfl, rfl, Lib.hid ⟨by omega, HV.out.symm, HAll.out, 0, by decide, by omega⟩, rfl⟩
    case round =>
      obtain ⟨k3, e, rfl, rfl, hH, hww⟩ := hrel
      subst hww
      obtain ⟨r1, r2, r3, cc, r4, r5⟩ := hH.out
      by_cases hk3 : k3 < s.size
      · have hk3l : k3 < s.data.toList.length := by omega
        obtain ⟨c3, hc3⟩ : ∃ c3 : Nat, c3 = s.data.toList[k3].toNat := ⟨_, rfl⟩
        have ec4 : ((s[k3].toNat : Nat) : Int) = (c3 : Int) := by rw [hc3]; rfl
        have hdk := drop_at s.data.toList k3 hk3l
        have hd3 : 48 ≤ c3 ∧ c3 ≤ 57 := by
          rw [hc3]
          exact r3 _ (by rw [hdk]; simp)
        have he : e < 1000 := by
          have : 10 ^ cc ≤ 10 ^ 3 := Nat.pow_le_pow_right (by decide) (by omega)
          omega
        obtain ⟨e2, he2⟩ : ∃ e2, e2 = 10 * e + (c3 - 48) := ⟨_, rfl⟩
        have HR : Hid (gk - 1 < gk ∧ gk - 1 + (k3 + 1) = s.size ∧ Num.dv e2 (s.data.toList.drop (k3 + 1)) = V ∧ (∀ c ∈ s.data.toList.drop (k3 + 1), Num.isD c) ∧ ∃ c, e2 < 10 ^ c ∧ c + (s.size - (k3 + 1)) ≤ 4) := Lib.hid ⟨by omega, by omega, by rw [hdk, Num.z2u, ← hc3, ← he2] at r2; exact r2, fun c h => r3 c (by rw [hdk]; exact List.mem_cons_of_mem _ h), cc + 1, by rw [Nat.pow_succ]; omega, by omega⟩
        have g1 : (k3 : Int) < s.size := by omega
        have g2 : (48 : Int) ≤ c3 := by omega
        have g3 : (c3 : Int) ≤ 57 := by omega
        have g4 : ((c3 : Int) == 95) = false := by simp; omega
        have g5 : (e : Int) < 10000 := by omega
        have g5b : decide ((e : Int) < 10000) = true := decide_eq_true g5
        have w1 : IntKind.i64.wrap ((e : Int) * 10) = (e : Int) * 10 := by rw [Go.IntKind.wrap_i64]; omega
        have w2 : IntKind.i64.wrap ((e : Int) * 10 + (c3 : Int)) = (e : Int) * 10 + (c3 : Int) := by rw [Go.IntKind.wrap_i64]; omega
        have w3 : IntKind.i64.wrap ((e : Int) * 10 + (c3 : Int) - 48) = (e2 : Int) := by rw [Go.IntKind.wrap_i64]; omega
        have w4 : IntKind.i64.wrap ((k3 : Int) + 1) = ((k3 + 1 : Nat) : Int) := by rw [Go.IntKind.wrap_i64]; omega
        have w5 : (e : Int) * 10 + (c3 : Int) - 48 = (e2 : Int) := by omega
        have w6 : IntKind.i64.wrap (c3 : Int) = (c3 : Int) := by rw [Go.IntKind.wrap_i64]; omega
        clear hH r1 r2 r3 r4 r5 hc3 hdk hd3 he he2
        go_wp2_with fail
        go_roundg (gk - 1)
        case measure => exact HR.out.1
        case rel => exact ⟨k3 + 1, e2, by first | rfl | go_num, by first | rfl | go_num, Lib.hid HR.out.2, rfl⟩
      have hk3e : k3 = s.size := by omega
      have hl3 : s.data.toList.drop k3 = [] := List.drop_of_length_le (by omega)
      rw [hl3, Num.z3q] at r2
      have HR : Hid (e = V ∧ V < 10000) := Lib.hid ⟨r2, by
        have : 10 ^ cc ≤ 10 ^ 4 := Nat.pow_le_pow_right (by decide) (by omega)
        omega⟩
      clear hH r1 r2 r3 r4 r5 hl3 hk3 k2I HV HVP
      subst hk3e
      have g1 : ¬ (s.size : Int) < s.size := by omega
      go_wp2_with fail
      go_meet
      case rel => exact ⟨rfl, by rw [HR.out.1], Lib.hid HR.out.2, rfl⟩
  obtain ⟨rfl, rfl, hVb, hww⟩ := hcut
  subst hww
  have hvb := hVb.out
  obtain ⟨P, hP⟩ : ∃ P : Int, P = sg * (V : Int) := ⟨_, rfl⟩
  have hPb : -10000 ≤ P ∧ P ≤ 10000 := by
    rcases q3 with h | h <;> subst h <;> omega
  have x1 : IntKind.i64.wrap ((V : Int) * sg) = P := by
    rw [hP, Int.mul_comm, Go.IntKind.wrap_i64]
    rw [← hP]; omega
  have x1b : wrap64 ((V : Int) * sg) = P := by
    rw [Int.mul_comm, ← hP]; unfold wrap64; omega
  have HFin : Hid (X + P = z4g ⟨nd, dp, dot, true, d'⟩ E) := Lib.hid (by
    unfold z4g
    rw [HVP.out, ← hP, HXX.out])
  obtain ⟨X2, hX2⟩ : ∃ X2, X2 = X + P := ⟨_, rfl⟩
  have x2 : IntKind.i64.wrap (X + P) = X2 := by rw [Go.IntKind.wrap_i64]; omega
  have x2b : wrap64 (X + P) = X2 := by unfold wrap64; omega
  have HX2 := Lib.hid hX2
  have cdp := HDC.out.cdp
  have fdp := HDC.out.frozen 801
  have f3 : ((s.size : Int) != (s.size : Int)) = false := by simp
  have HD3 := Lib.hid (HDC.out.z4g X2)
  have HB3 := Lib.hid (hb2.out.setCell (p := ⟨g, 801, none⟩) (Nat.le_refl g) (.int .i64 X2))
  clear q3 hvb hP hPb hX2 hVb HVP HV HAll hlen4 k2I hk2s hk2l hXb
  go_step
  go_wp2_with fail
  go_ret
  refine ⟨rfl, HB3.out, ?_⟩
  rw [← HFin.out, ← HX2.out]
  exact HD3.out
end Go.Proofs.YtjpiplplohapnaaGreatDoor
namespace Go.Proofs.YtjpiplplohapnaaGreatDoor
open Go.RowKit Go.Proofs.YtjpiplplohapnaaGreatDoorW.PrintWords Rf Dc
set_option maxRecDepth 100000 in
set_option maxHeartbeats 8000000 in
theorem set_n (s : ByteArray) (hs : s.size ≤ 400) (h0 : 1 < s.size) (hsg : s[0].toNat = 45) (w : World) (g : Nat) (d : Nat → Nat) (hD : z1d w g d 0 0 false false) (tF : Dst) (E : List UInt8) (hsc : z4m (s.data.toList.drop 1) (dst0 d) = (tF, E)) (hsd : tF.sd = true) (hE : E = [] ∨ ∃ p, E = 101 :: p ∧ powD (sgn p) = true) (hlen : tF.nd ≤ 800) :
    Calls Tryz.prog 148 #[.pointer (some ⟨g, 0, none⟩), .string s] w (SetPost g true tF E w) := by
  have hne : ¬ s = ByteArray.empty := by rintro rfl; simp at h0
  have hz0 : 0 < s.size := by omega
  have hz0I : (0 : Int) < s.size := by omega
  obtain ⟨c0, hc0⟩ : ∃ c0 : Nat, s[0].toNat = c0 := ⟨_, rfl⟩
  have e0 : (s[0].toNat : Int) = c0 := by rw [hc0]
  rw [hc0] at hsg
  have g1 : ((c0 : Int) == 45) = true := by simp; omega
  have g2 : ((c0 : Int) == 43) = false := by simp; omega
  have cng := hD.cng
  have ctr := hD.ctr
  have fr2 := hD.frozen 802
  have fr3 := hD.frozen 803
  have h2 := (hD.setNg false).setTr false
  have HD := Lib.hid h2
  have HB := Lib.hid (((Below.refl g w).setCell (p := ⟨g, 802, none⟩) (Nat.le_refl g) (.bool false)).setCell (p := ⟨g, 803, none⟩) (Nat.le_refl g) (.bool false))
  clear hsg hc0 hD h2
  go_enter Tryz.func148, Tryz.ntmps148
  go_upto_block 1 with (fail)
  clear e0 g1 g2 cng ctr fr2 fr3
  go_cut [5, 6, 7] (fun v5 v6 v7 w' => ∃ k : Nat, v5 = .int .i64 k ∧ v6 = .bool tF.dot ∧ v7 = .bool tF.sd ∧ Hid (s.data.toList.drop k = E ∧ k ≤ s.size ∧ DOk tF k) ∧ z1d w' g tF.d tF.nd tF.dp true false ∧ Hid (Below g w w'))
  case first =>
    go_wp2_with fail
    have Hsc := Lib.hid hsc
    clear hsc
    go_loopg [5, 6, 7] (s.size - 1) (fun gn v5 v6 v7 w' => ∃ (k : Nat) (t : Dst), v5 = .int .i64 k ∧ v6 = .bool t.dot ∧ v7 = .bool t.sd ∧ Hid (gn + k = s.size ∧ z4m (s.data.toList.drop k) t = (tF, E) ∧ DOk t k) ∧ z1d w' g t.d t.nd t.dp true false ∧ Hid (Below g w w'))
    case atStart => exact ⟨1, dst0 d, rfl, rfl, rfl, Lib.hid ⟨by omega, Hsc.out, ⟨by show 0 ≤ 1; omega, by show -((1 : Nat) : Int) ≤ 0; omega, by show (0 : Int) ≤ ((1 : Nat) : Int); omega⟩⟩, (HD.out.setNg true), Lib.hid (HB.out.setCell (p := ⟨g, 802, none⟩) (Nat.le_refl g) (.bool true))⟩
    case round =>
      obtain ⟨k, t, rfl, rfl, rfl, hH, hdec, hb⟩ := hrel
      obtain ⟨hg, hsc, hok⟩ := hH.out
      obtain ⟨nd, dp, dot, sd, d'⟩ := t
      have o1 : nd ≤ k := hok.nd
      have o2 : -(k : Int) ≤ dp := hok.dp1
      have o3 : dp ≤ k := hok.dp2
      dsimp only at hdec
      clear Hsc hok HD HB
      by_cases hkl : k < s.size
      · have hl : k < s.data.toList.length := by simpa using hkl
        have hkI : (k : Int) < s.size := by omega
        have hsk : ((s[k].toNat : Nat) : Int) = ((s.data.toList[k].toNat : Nat) : Int) := rfl
        have hss := fun t' => @sscan_some s.data.toList k ⟨nd, dp, dot, sd, d'⟩ t' hl
        have hsn := @sscan_none s.data.toList k ⟨nd, dp, dot, sd, d'⟩ hl
        have hend0 : ∀ c : Nat, c = s.data.toList[k].toNat → sstp c ⟨nd, dp, dot, sd, d'⟩ = none → c = 101 ∧ tF = ⟨nd, dp, dot, sd, d'⟩ ∧ s.data.toList.drop k = E := by
          intro c hc hn
          have h1 := (hsn (by rw [← hc]; exact hn)).symm.trans hsc
          obtain ⟨h2, h3⟩ := Prod.mk.inj h1
          refine ⟨?_, h2.symm, h3⟩
          rcases hE with h | ⟨p, h, _⟩
          · rw [h, drop_at _ k hl] at h3; cases h3
          rw [h, drop_at _ k hl] at h3
          have := (List.cons.inj h3).1
          rw [hc, this]; rfl
        have hc256 : s.data.toList[k].toNat < 256 := UInt8.toNat_lt _
        obtain ⟨c, hc⟩ : ∃ c, c = s.data.toList[k].toNat := ⟨_, rfl⟩
        have hend := hend0 c hc
        rw [← hc] at hsk hss hc256
        clear hc hsn hend0
        have hw5 : IntKind.i64.wrap ((k : Int) + 1) = ((k + 1 : Nat) : Int) := by rw [Go.IntKind.wrap_i64]; omega
        by_cases h46 : c = 46
        · have f1 : ((c : Int) == 95) = false := by simp; omega
          have f2 : ((c : Int) == 46) = true := by simp [h46]
          cases dot
          · have HS := Lib.hid ((hss _ (by unfold sstp; rw [if_pos h46]; rfl)).symm.trans hsc)
            have cnd := hdec.cnd
            have cdp := hdec.cdp
            have fdp := hdec.frozen 801
            have HD2 := Lib.hid (hdec.z4g (nd : Int))
            have HB2 := Lib.hid (hb.out.setCell (p := ⟨g, 801, none⟩) (Nat.le_refl g) (.int .i64 (nd : Nat)))
            have HR : Hid (gk - 1 < gk ∧ gk - 1 + (k + 1) = s.size ∧ DOk ⟨nd, nd, true, sd, d'⟩ (k + 1)) := Lib.hid ⟨by omega, by omega, ⟨by show nd ≤ k + 1; omega, by show -((k + 1 : Nat) : Int) ≤ (nd : Int); omega, by show (nd : Int) ≤ ((k + 1 : Nat) : Int); omega⟩⟩
            clear hss hend hsc hH hdec hb hg o1 o2 o3 h46
            go_wp2_with fail
            go_roundg (gk - 1)
            case measure => exact HR.out.1
            case rel => exact ⟨k + 1, ⟨nd, nd, true, sd, d'⟩, by first | rfl | go_num, rfl, rfl, Lib.hid ⟨HR.out.2.1, HS.out, HR.out.2.2⟩, HD2.out, HB2⟩
          exfalso
          have := (hend (by unfold sstp; rw [if_pos h46]; rfl)).1
          omega
        have f2 : ((c : Int) == 46) = false := by simp; omega
        by_cases hd : 48 ≤ c ∧ c ≤ 57
        · have f1 : ((c : Int) == 95) = false := by simp; omega
          have f3 : (48 : Int) ≤ c := by omega
          have f4 : (c : Int) ≤ 57 := by omega
          by_cases hz : c = 48 ∧ nd = 0
          · have f5 : ((c : Int) == 48) = true := by simp [hz.1]
            have hnd0 : nd = 0 := hz.2
            have HS := Lib.hid ((hss _ (by unfold sstp; rw [if_neg h46, if_pos hd, if_pos hz])).symm.trans hsc)
            have cnd := hdec.cnd
            have cdp := hdec.cdp
            have fdp := hdec.frozen 801
            have HD2 := Lib.hid (hdec.z4g (dp - 1))
            have HB2 := Lib.hid (hb.out.setCell (p := ⟨g, 801, none⟩) (Nat.le_refl g) (.int .i64 (dp - 1)))
            have HR : Hid (gk - 1 < gk ∧ gk - 1 + (k + 1) = s.size ∧ DOk ⟨nd, dp - 1, dot, true, d'⟩ (k + 1)) := Lib.hid ⟨by omega, by omega, ⟨by show nd ≤ k + 1; omega, by show -((k + 1 : Nat) : Int) ≤ dp - 1; omega, by show dp - 1 ≤ ((k + 1 : Nat) : Int); omega⟩⟩
            have hw : IntKind.i64.wrap (dp - 1) = dp - 1 := by rw [Go.IntKind.wrap_i64]; omega
            have hwb : wrap64 (dp - 1) = dp - 1 := by unfold wrap64; omega
            clear hss hend hsc hH hdec hb hg o1 o2 o3 h46 hz hd
            subst hnd0
            go_wp2_with fail
            go_roundg (gk - 1)
            case measure => exact HR.out.1
            case rel => exact ⟨k + 1, ⟨0, dp - 1, dot, true, d'⟩, by first | rfl | go_num, rfl, rfl, Lib.hid ⟨HR.out.2.1, HS.out, HR.out.2.2⟩, HD2.out, HB2⟩
          have hcond : (((c : Int) == 48) = true ∧ ((nd : Int) == 0) = false) ∨ ((c : Int) == 48) = false := by
            by_cases h48 : c = 48
            · exact Or.inl ⟨by simp [h48], by simp; omega⟩
            exact Or.inr (by simp; omega)
          have n8 : (nd : Int) < 800 := by omega
          have n8b : decide ((nd : Int) < 800) = true := decide_eq_true n8
          have n8c : nd < 800 := by omega
          have HS := Lib.hid ((hss _ (by unfold sstp; rw [if_neg h46, if_pos hd, if_neg hz])).symm.trans hsc)
          have cnd := hdec.cnd
          have cb := hdec.byte nd n8c
          have fb := hdec.frozen nd
          generalize d' nd = bv at cb
          have HD2 := Lib.hid (hdec.z7w nd c n8c)
          have HB2 := Lib.hid (hb.out.setCell (p := ⟨g, nd, none⟩) (Nat.le_refl g) (.int .u8 (c : Nat)))
          have HR : Hid (gk - 1 < gk ∧ gk - 1 + (k + 1) = s.size ∧ DOk ⟨nd + 1, dp, dot, true, upd d' nd c⟩ (k + 1)) := Lib.hid ⟨by omega, by omega, ⟨by show nd + 1 ≤ k + 1; omega, by show -((k + 1 : Nat) : Int) ≤ dp; omega, by show dp ≤ ((k + 1 : Nat) : Int); omega⟩⟩
          have hwn : IntKind.i64.wrap ((nd : Int) + 1) = (nd : Int) + 1 := by rw [Go.IntKind.wrap_i64]; omega
          have hwnb : wrap64 ((nd : Int) + 1) = (nd : Int) + 1 := by unfold wrap64; omega
          clear hss hend hsc hH hdec hb hg o1 o2 o3 h46 hz hd
          rcases hcond with ⟨f5, f6⟩ | f5
          all_goals
            go_upto_region 25 with (fail)
            clear f1 f2 f3 f4 f5
            go_region_with fail
          all_goals
            have HE2 : Hid (z1d ((wr.setCell ⟨g, nd, none⟩ (.int .u8 (c : Nat))).drew) g (upd d' nd c) (nd : Nat) dp true false ∧ Below g w ((wr.setCell ⟨g, nd, none⟩ (.int .u8 (c : Nat))).drew)) := Lib.hid ⟨HD2.out, below_drewN HB2.out 1⟩
            clear HD2 HB2 cnd cb fb
            generalize (wr.setCell ⟨g, nd, none⟩ (.int .u8 (c : Nat))).drew = w5 at *
            have cnd : w5.cell? ⟨g, 800, none⟩ = some (.int .i64 (nd : Nat)) := HE2.out.1.cnd
            have fnd := HE2.out.1.frozen 800
            have HG := Lib.hid (And.intro (HE2.out.1.setNd ((nd : Int) + 1)) (HE2.out.2.setCell (p := ⟨g, 800, none⟩) (Nat.le_refl g) (.int .i64 ((nd : Int) + 1))))
            clear HE2
            go_wp2_with fail
            go_roundg (gk - 1)
            case measure => exact HR.out.1
            case rel => exact ⟨k + 1, ⟨nd + 1, dp, dot, true, upd d' nd c⟩, by first | rfl | go_num, rfl, rfl, Lib.hid ⟨HR.out.2.1, HS.out, HR.out.2.2⟩, HG.out.1, Lib.hid HG.out.2⟩
        obtain ⟨h101, h2, h3⟩ := hend (by unfold sstp; rw [if_neg h46, if_neg hd])
        have f1 : ((c : Int) == 95) = false := by simp; omega
        have f3 : (48 : Int) ≤ c := by omega
        have f4 : ¬ (c : Int) ≤ 57 := by omega
        have f4b : decide ((c : Int) ≤ 57) = false := decide_eq_false f4
        have HR : Hid (tF = ⟨nd, dp, dot, sd, d'⟩ ∧ s.data.toList.drop k = E ∧ k ≤ s.size ∧ DOk ⟨nd, dp, dot, sd, d'⟩ k) := Lib.hid ⟨h2, h3, by omega, ⟨o1, o2, o3⟩⟩
        have HDD := Lib.hid hdec
        clear hss hend hsc hH hdec hg o1 o2 o3 h46 hd h101 h2 h3
        go_wp2_with fail
        go_meet
        case rel => rw [HR.out.1]; exact ⟨k, rfl, rfl, rfl, Lib.hid HR.out.2, HDD.out, hb⟩
      have hkI : ¬ (k : Int) < s.size := by omega
      have hkb : decide ((k : Int) < (s.size : Int)) = false := decide_eq_false hkI
      have h1 := (sscan_end (l := s.data.toList) (k := k) (t := ⟨nd, dp, dot, sd, d'⟩) (by have : s.data.toList.length = s.size := by simp
                                                                                           omega)).symm.trans hsc
      obtain ⟨h2, h3⟩ := Prod.mk.inj h1
      have HR : Hid (tF = ⟨nd, dp, dot, sd, d'⟩ ∧ s.data.toList.drop k = E ∧ k ≤ s.size ∧ DOk ⟨nd, dp, dot, sd, d'⟩ k) := Lib.hid ⟨h2.symm, h3, by omega, ⟨o1, o2, o3⟩⟩
      have HDD := Lib.hid hdec
      clear hsc hH hdec hg o1 o2 o3 h1 h2 h3
      go_wp2_with fail
      go_meet
      case rel => rw [HR.out.1]; exact ⟨k, rfl, rfl, rfl, Lib.hid HR.out.2, HDD.out, hb⟩
  obtain ⟨k, rfl, rfl, rfl, hH, hdec, hb⟩ := hcut
  obtain ⟨hk1, hk2, hok⟩ := hH.out
  obtain ⟨nd, dp, dot, sd, d'⟩ := tF
  have o1 : nd ≤ k := hok.nd
  have o2 : -(k : Int) ≤ dp := hok.dp1
  have o3 : dp ≤ k := hok.dp2
  have hsd2 : sd = true := hsd
  subst hsd2
  obtain ⟨X, hX⟩ : ∃ X : Int, X = if dot then dp else (nd : Int) := ⟨_, rfl⟩
  have hXb0 : -(k : Int) ≤ X ∧ X ≤ k := by cases dot <;> simp at hX <;> omega
  have hXb : -400 ≤ X ∧ X ≤ 400 := by omega
  clear hXb0
  have HXX := Lib.hid hX
  have hdec' : z1d wc g d' nd dp true false := hdec
  have cnd := hdec'.cnd
  have cdp := hdec'.cdp
  have fdp := hdec'.frozen 801
  have HK := Lib.hid hk1
  have HDD := Lib.hid hdec'
  have HDE := Lib.hid (hdec'.z4g (nd : Int))
  have HBE := Lib.hid (hb.out.setCell (p := ⟨g, 801, none⟩) (Nat.le_refl g) (.int .i64 (nd : Nat)))
  have HEE := Lib.hid hE
  clear hsc hsd hE hlen hne hz0 hz0I h0 HD HB hH hdec hdec' hok o1 o2 o3 hX hk1
  go_step
  go_upto_if 120 with (fail)
  go_cut [5] (fun v5 w' => v5 = .int .i64 k ∧ z1d w' g d' nd X true false ∧ Hid (Below g w w'))
  case first =>
    cases dot
    · go_wp2_with fail
      go_meet
      case rel => exact ⟨rfl, by rw [show X = (nd : Int) from HXX.out]; exact HDE.out, HBE⟩
    go_wp2_with fail
    go_meet
    case rel => exact ⟨rfl, by rw [show X = dp from HXX.out]; exact HDD.out, hb⟩
  obtain ⟨rfl, hdec, hb2⟩ := hcut
  clear cnd cdp fdp HDD HDE HBE hb
  have HDC := Lib.hid hdec
  clear hdec
  have hsl : s.data.toList.length = s.size := by simp
  rcases HEE.out with hE | ⟨p, hE, hp⟩
  · have hks : k = s.size := by
      have h1 := HK.out
      rw [hE] at h1
      have := List.drop_eq_nil_iff.1 h1
      omega
    have HF : Hid (SetPost g true ⟨nd, dp, dot, true, d'⟩ E w (.returned (.bool true)) wc) := Lib.hid ⟨rfl, hb2.out, by
      have := HDC.out
      unfold z4g
      rw [hE]
      dsimp only [powE]
      rw [Int.add_zero, ← HXX.out]
      exact this⟩
    have f1 : ¬ (k : Int) < s.size := by omega
    have f2 : decide ((k : Int) < (s.size : Int)) = false := decide_eq_false f1
    have f3 : ((k : Int) != (s.size : Int)) = false := by simp; omega
    clear hE hk2 hXb hks
    go_step
    go_wp2_with fail
    go_ret
    exact HF.out
  have hpd := z8b hp
  have hlen1 : k < s.size := by
    rcases Nat.lt_or_ge k s.size with h | h
    · exact h
    exfalso
    have h1 := HK.out
    rw [hE, List.drop_of_length_le (by omega)] at h1
    cases h1
  have hdk := drop_at s.data.toList k (by omega)
  rw [HK.out, hE] at hdk
  obtain ⟨hd1, hd2⟩ := List.cons.inj hdk
  have e101 : ((s[k].toNat : Nat) : Int) = 101 := by
    show ((s.data.toList[k].toNat : Nat) : Int) = 101
    rw [← hd1]; rfl
  have hlw : Go.bits .or .u8 101 32 = 101 := by decide +kernel
  have hlen2 : k + 1 < s.size := by
    rcases Nat.lt_or_ge (k + 1) s.size with h | h
    · exact h
    exfalso
    rw [List.drop_of_length_le (by omega)] at hd2
    rw [hd2] at hpd
    have := hpd.2.1
    simp [sgn] at this
  have hlI : (k : Int) < s.size := by omega
  have hlIb : decide ((k : Int) < (s.size : Int)) = true := decide_eq_true hlI
  have hk5 : IntKind.i64.wrap ((k : Int) + 1) = ((k + 1 : Nat) : Int) := by rw [Go.IntKind.wrap_i64]; omega
  have hdk2 := drop_at s.data.toList (k + 1) (by omega)
  rw [← hd2] at hdk2
  obtain ⟨c1, hc1⟩ : ∃ c1 : Nat, c1 = s.data.toList[k + 1].toNat := ⟨_, rfl⟩
  obtain ⟨k1, hk1⟩ : ∃ k1, k1 = k + 1 := ⟨_, rfl⟩
  have ec1 : k1 < s.size := by omega
  have ec2 : ((s[k1].toNat : Nat) : Int) = (c1 : Int) := by
    subst hk1
    rw [hc1]; rfl
  have hsg : (c1 = 43 → sgn p = s.data.toList.drop (k1 + 1) ∧ (z2e p).1 = 1) ∧ (c1 = 45 → sgn p = s.data.toList.drop (k1 + 1) ∧ (z2e p).1 = -1) ∧ (c1 ≠ 43 → c1 ≠ 45 → sgn p = s.data.toList.drop k1 ∧ (z2e p).1 = 1) := by
    subst hk1
    rw [hdk2, hc1]
    refine ⟨fun h => ?_, fun h => ?_, fun h h' => ?_⟩
    · exact ⟨by unfold sgn; exact if_pos (Or.inl h), by unfold z2e; dsimp only; rw [if_pos h]⟩
    · exact ⟨by unfold sgn; exact if_pos (Or.inr h), by unfold z2e; dsimp only; rw [if_neg (by omega), if_pos h]⟩
    exact ⟨by unfold sgn; rw [drop_at s.data.toList (k + 1) (by omega)]; exact if_neg (by omega), by unfold z2e; dsimp only; rw [if_neg h, if_neg h']⟩
  rw [← hk1] at hk5
  have hk5b : (k : Int) + 1 = (k1 : Int) := by omega
  have HSG := Lib.hid hsg
  have HPD := Lib.hid hpd
  have HE := Lib.hid hE
  have hk1I : (k1 : Int) < s.size := by omega
  have hk1n : ¬ (s.size : Int) ≤ k1 := by omega
  have hk1b : decide ((s.size : Int) ≤ (k1 : Int)) = false := decide_eq_false hk1n
  have hw1 : IntKind.i64.wrap ((k1 : Int) + 1) = ((k1 + 1 : Nat) : Int) := by rw [Go.IntKind.wrap_i64]; omega
  clear hp hpd hdk hd1 hd2 hlen2 hdk2 hc1 hk1 hsg hE HEE hk2
  go_step
  go_upto_block 4 with (go_at_call 156; refine (Tryz.internal_strconv_lower _ _).mono ?_; rintro e w1 ⟨rfl, hw1⟩; obtain rfl := hw1.symm)
  clear e101 hlw hlI hlIb hk5 hk5b hk1n hk1b
  go_cut [5, 8] (fun v5 v8 w' => ∃ (k2 : Nat) (sg : Int), v5 = .int .i64 k2 ∧ v8 = .int .i64 sg ∧ Hid (sgn p = s.data.toList.drop k2 ∧ (z2e p).1 = sg ∧ (sg = 1 ∨ sg = -1)) ∧ wc = w')
  case first =>
    by_cases h43 : c1 = 43
    · have f1 : ((c1 : Int) == 43) = true := by simp [h43]
      have hh := HSG.out.1 h43
      have HR := Lib.hid hh
      clear hh h43
      go_wp2_with fail
      go_meet
      case rel => exact ⟨k1 + 1, 1, by first | rfl | go_num, rfl, Lib.hid ⟨HR.out.1, HR.out.2, Or.inl rfl⟩, rfl⟩
    have f1 : ((c1 : Int) == 43) = false := by simp; omega
    by_cases h45 : c1 = 45
    · have f2 : ((c1 : Int) == 45) = true := by simp [h45]
      have hh := HSG.out.2.1 h45
      have HR := Lib.hid hh
      clear hh h43 h45
      go_wp2_with fail
      go_meet
      case rel => exact ⟨k1 + 1, -1, by first | rfl | go_num, rfl, Lib.hid ⟨HR.out.1, HR.out.2, Or.inr rfl⟩, rfl⟩
    have f2 : ((c1 : Int) == 45) = false := by simp; omega
    have hh := HSG.out.2.2 h43 h45
    have HR := Lib.hid hh
    clear hh h43 h45
    go_wp2_with fail
    go_meet
    case rel => exact ⟨k1, 1, rfl, rfl, Lib.hid ⟨HR.out.1, HR.out.2, Or.inl rfl⟩, rfl⟩
  obtain ⟨k2, sg, rfl, rfl, hQ, hww⟩ := hcut
  subst hww
  obtain ⟨q1, q2, q3⟩ := hQ.out
  have hpd := HPD.out
  have hk2s : k2 < s.size := by
    rcases Nat.lt_or_ge k2 s.size with h | h
    · exact h
    exfalso
    rw [q1, List.drop_of_length_le (by omega)] at hpd
    have := hpd.2.1
    simp at this
  have hk2l : k2 < s.data.toList.length := by omega
  obtain ⟨c2, hc2⟩ : ∃ c2 : Nat, c2 = s.data.toList[k2].toNat := ⟨_, rfl⟩
  have ec3 : ((s[k2].toNat : Nat) : Int) = (c2 : Int) := by rw [hc2]; rfl
  have hd2 : 48 ≤ c2 ∧ c2 ≤ 57 := by
    rw [hc2]
    exact hpd.1 _ (by rw [q1, drop_at s.data.toList k2 hk2l]; simp)
  have hlen4 : (s.data.toList.drop k2).length ≤ 4 := by rw [← q1]; exact hpd.2.2
  rw [List.length_drop, hsl] at hlen4
  have hall : ∀ c ∈ s.data.toList.drop k2, Num.isD c := by rw [← q1]; exact hpd.1
  obtain ⟨V, hV⟩ : ∃ V, V = Num.dv 0 (s.data.toList.drop k2) := ⟨_, rfl⟩
  have hVp : powE E = sg * (V : Int) := by
    rw [HE.out]
    show powV p = _
    unfold powV
    rw [q2, z6m, q1, hV]
  have HVP := Lib.hid hVp
  have HV := Lib.hid hV
  have HAll := Lib.hid hall
  have k2I : (k2 : Int) < s.size := by omega
  have k2n : ¬ (s.size : Int) ≤ k2 := by omega
  have k2b : decide ((s.size : Int) ≤ (k2 : Int)) = false := decide_eq_false k2n
  have d1 : ¬ (c2 : Int) < 48 := by omega
  have d1b : decide ((c2 : Int) < 48) = false := decide_eq_false d1
  have d2 : ¬ (57 : Int) < c2 := by omega
  have d2b : decide ((57 : Int) < (c2 : Int)) = false := decide_eq_false d2
  clear q1 q2 hpd hc2 hd2 hall hV hVp hQ HSG HPD ec1 ec2 hk1I hw1 hlen1
  go_step
  go_upto_block 5 with (fail)
  clear d1 d1b d2 d2b ec3 k2n k2b
  go_cut [5, 9] (fun v5 v9 w' => v5 = .int .i64 s.size ∧ v9 = .int .i64 V ∧ Hid (V < 10000) ∧ wc = w')
  case first =>
    go_wp2_with fail
    go_loopg [5, 9] (s.size - k2) (fun gn v5 v9 w' => ∃ k3 e : Nat, v5 = .int .i64 k3 ∧ v9 = .int .i64 e ∧ Hid (gn + k3 = s.size ∧ Num.dv e (s.data.toList.drop k3) = V ∧ (∀ c ∈ s.data.toList.drop k3, Num.isD c) ∧ ∃ c, e < 10 ^ c ∧ c + (s.size - k3) ≤ 4) ∧ wc = w')
    case atStart => exact ⟨k2, 0, rfl, rfl, Lib.hid ⟨by omega, HV.out.symm, HAll.out, 0, by decide, by omega⟩, rfl⟩
    case round =>
      obtain ⟨k3, e, rfl, rfl, hH, hww⟩ := hrel
      subst hww
      obtain ⟨r1, r2, r3, cc, r4, r5⟩ := hH.out
      by_cases hk3 : k3 < s.size
      · have hk3l : k3 < s.data.toList.length := by omega
        obtain ⟨c3, hc3⟩ : ∃ c3 : Nat, c3 = s.data.toList[k3].toNat := ⟨_, rfl⟩
        have ec4 : ((s[k3].toNat : Nat) : Int) = (c3 : Int) := by rw [hc3]; rfl
        have hdk := drop_at s.data.toList k3 hk3l
        have hd3 : 48 ≤ c3 ∧ c3 ≤ 57 := by
          rw [hc3]
          exact r3 _ (by rw [hdk]; simp)
        have he : e < 1000 := by
          have : 10 ^ cc ≤ 10 ^ 3 := Nat.pow_le_pow_right (by decide) (by omega)
          omega
        obtain ⟨e2, he2⟩ : ∃ e2, e2 = 10 * e + (c3 - 48) := ⟨_, rfl⟩
        have HR : Hid (gk - 1 < gk ∧ gk - 1 + (k3 + 1) = s.size ∧ Num.dv e2 (s.data.toList.drop (k3 + 1)) = V ∧ (∀ c ∈ s.data.toList.drop (k3 + 1), Num.isD c) ∧ ∃ c, e2 < 10 ^ c ∧ c + (s.size - (k3 + 1)) ≤ 4) := Lib.hid ⟨by omega, by omega, by rw [hdk, Num.z2u, ← hc3, ← he2] at r2; exact r2, fun c h => r3 c (by rw [hdk]; exact List.mem_cons_of_mem _ h), cc + 1, by rw [Nat.pow_succ]; omega, by omega⟩
        have g1 : (k3 : Int) < s.size := by omega
        have g2 : (48 : Int) ≤ c3 := by omega
        have g3 : (c3 : Int) ≤ 57 := by omega
        have g4 : ((c3 : Int) == 95) = false := by simp; omega
        have g5 : (e : Int) < 10000 := by omega
        have g5b : decide ((e : Int) < 10000) = true := decide_eq_true g5
        have w1 : IntKind.i64.wrap ((e : Int) * 10) = (e : Int) * 10 := by rw [Go.IntKind.wrap_i64]; omega
        have w2 : IntKind.i64.wrap ((e : Int) * 10 + (c3 : Int)) = (e : Int) * 10 + (c3 : Int) := by rw [Go.IntKind.wrap_i64]; omega
        have w3 : IntKind.i64.wrap ((e : Int) * 10 + (c3 : Int) - 48) = (e2 : Int) := by rw [Go.IntKind.wrap_i64]; omega
        have w4 : IntKind.i64.wrap ((k3 : Int) + 1) = ((k3 + 1 : Nat) : Int) := by rw [Go.IntKind.wrap_i64]; omega
        have w5 : (e : Int) * 10 + (c3 : Int) - 48 = (e2 : Int) := by omega
        have w6 : IntKind.i64.wrap (c3 : Int) = (c3 : Int) := by rw [Go.IntKind.wrap_i64]; omega
        clear hH r1 r2 r3 r4 r5 hc3 hdk hd3 he he2
        go_wp2_with fail
        go_roundg (gk - 1)
        case measure => exact HR.out.1
        case rel => exact ⟨k3 + 1, e2, by first | rfl | go_num, by first | rfl | go_num, Lib.hid HR.out.2, rfl⟩
      have hk3e : k3 = s.size := by omega
      have hl3 : s.data.toList.drop k3 = [] := List.drop_of_length_le (by omega)
      rw [hl3, Num.z3q] at r2
      have HR : Hid (e = V ∧ V < 10000) := Lib.hid ⟨r2, by
        have : 10 ^ cc ≤ 10 ^ 4 := Nat.pow_le_pow_right (by decide) (by omega)
        omega⟩
      clear hH r1 r2 r3 r4 r5 hl3 hk3 k2I HV HVP
      subst hk3e
      have g1 : ¬ (s.size : Int) < s.size := by omega
      go_wp2_with fail
      go_meet
      case rel => exact ⟨rfl, by rw [HR.out.1], Lib.hid HR.out.2, rfl⟩
  obtain ⟨rfl, rfl, hVb, hww⟩ := hcut
  subst hww
  have hvb := hVb.out
  obtain ⟨P, hP⟩ : ∃ P : Int, P = sg * (V : Int) := ⟨_, rfl⟩
  have hPb : -10000 ≤ P ∧ P ≤ 10000 := by
    rcases q3 with h | h <;> subst h <;> omega
  have x1 : IntKind.i64.wrap ((V : Int) * sg) = P := by
    rw [hP, Int.mul_comm, Go.IntKind.wrap_i64]
    rw [← hP]; omega
  have x1b : wrap64 ((V : Int) * sg) = P := by
    rw [Int.mul_comm, ← hP]; unfold wrap64; omega
  have HFin : Hid (X + P = z4g ⟨nd, dp, dot, true, d'⟩ E) := Lib.hid (by
    unfold z4g
    rw [HVP.out, ← hP, HXX.out])
  obtain ⟨X2, hX2⟩ : ∃ X2, X2 = X + P := ⟨_, rfl⟩
  have x2 : IntKind.i64.wrap (X + P) = X2 := by rw [Go.IntKind.wrap_i64]; omega
  have x2b : wrap64 (X + P) = X2 := by unfold wrap64; omega
  have HX2 := Lib.hid hX2
  have cdp := HDC.out.cdp
  have fdp := HDC.out.frozen 801
  have f3 : ((s.size : Int) != (s.size : Int)) = false := by simp
  have HD3 := Lib.hid (HDC.out.z4g X2)
  have HB3 := Lib.hid (hb2.out.setCell (p := ⟨g, 801, none⟩) (Nat.le_refl g) (.int .i64 X2))
  clear q3 hvb hP hPb hX2 hVb HVP HV HAll hlen4 k2I hk2s hk2l hXb
  go_step
  go_wp2_with fail
  go_ret
  refine ⟨rfl, HB3.out, ?_⟩
  rw [← HFin.out, ← HX2.out]
  exact HD3.out
end Go.Proofs.YtjpiplplohapnaaGreatDoor
namespace Go.Proofs.YtjpiplplohapnaaGreatDoor
open Go.RowKit Go.Proofs.YtjpiplplohapnaaGreatDoorW.PrintWords Rf Nr Us
theorem dN_ratio (m k : Nat) (p : Int) : dN (m * 10 ^ k) p * dD (k + p) = dN m (k + p) * dD p := by
  unfold dN dD
  have e : k + p.toNat + (-((k : Int) + p)).toNat = ((k : Int) + p).toNat + (-p).toNat := by omega
  have e2 : (10 : Nat) ^ k * 10 ^ p.toNat * 10 ^ (-((k : Int) + p)).toNat = 10 ^ ((k : Int) + p).toNat * 10 ^ (-p).toNat := by
    rw [← Nat.pow_add, ← Nat.pow_add, ← Nat.pow_add, e]
  generalize (10 : Nat) ^ k = a at *
  generalize (10 : Nat) ^ p.toNat = b at *
  generalize (10 : Nat) ^ (-((k : Int) + p)).toNat = c at *
  generalize (10 : Nat) ^ ((k : Int) + p).toNat = d at *
  generalize (10 : Nat) ^ (-p).toNat = f at *
  generalize (2 : Nat) ^ ex = g at *
  calc m * a * b * g * c = m * g * (a * b * c) := by grind
    _ = m * g * (d * f) := by rw [e2]
    _ = m * d * g * f := by grind
theorem near_move {m k r : Nat} {p : Int} (h : Near (dN m (k + p)) (dD (k + p)) r) : Near (dN (m * 10 ^ k) p) (dD p) r :=
  z4l (z3l _) (z3l _) (dN_ratio m k p).symm h
structure NumT (s : ByteArray) (ng : Bool) (l A D : List UInt8) (dot : Bool) (E : List UInt8) : Prop where
  eq : s.data.toList = if ng then 45 :: l else l
  form : Rf.Form l A D dot E
section
variable {s : ByteArray} {ng : Bool} {l A D E : List UInt8} {dot : Bool}
theorem NumT.len (h : NumT s ng l A D dot E) : s.size = (if ng then 1 else 0) + l.length := by
  have : s.data.toList.length = s.size := Array.length_toList
  rw [← this, h.eq]
  cases ng
  · simp
  simp; omega
theorem NumT.drop (h : NumT s ng l A D dot E) : s.data.toList.drop (if ng then 1 else 0) = l := by
  rw [h.eq]
  cases ng <;> rfl
theorem NumT.first (h : NumT s ng l A D dot E) : ∃ a r, l = a :: r ∧ 48 ≤ a.toNat ∧ a.toNat ≤ 57 := by
  cases hA : A with
  | nil => exact absurd hA h.form.nA
  | cons a A' =>
    have h1 := h.form.dA a (by rw [hA]; simp)
    have h2 := h.form.eq
    rw [hA, List.cons_append] at h2
    exact ⟨a, _, h2, h1.1, h1.2⟩
theorem NumT.digs (h : NumT s ng l A D dot E) : A.length + D.length ≤ l.length := by
  rw [h.form.eq]
  simp only [List.length_append]
  cases hd : dot
  · rw [h.form.eD hd]; simp
  rw [if_pos rfl]; simp; omega
theorem NumT.reads (h : NumT s ng l A D dot E) (hs : s.size ≤ 400) (q : Out) (hq : fin false (scan false l st0).1 (scan false l st0).2 = some q) (hr : q.rest = []) :
    (∀ w, Calls Tryz.prog 141 #[.string s] w (z5j w)) ∧ (∀ w, Calls Tryz.prog 142 #[.string s] w (z7g ng false s (some q) w)) := by
  obtain ⟨a, r, hl, ha1, ha2⟩ := h.first
  have hlen := h.len
  have hll : l.length = r.length + 1 := by rw [hl]; rfl
  have hdl : s.data.toList.length = s.size := Array.length_toList
  have heq := h.eq
  have hdr := h.drop
  cases hng : ng
  · rw [hng, if_neg (by decide)] at heq hlen hdr
    have e0 := list0 (s := s) (a := a) (l := r) (by rw [heq, hl]) (by omega)
    refine ⟨special_digit s (by omega) (by rw [e0]; exact ha1) (by rw [e0]; exact ha2), fun w => ?_⟩
    have hnx := not_hex hq hr
    rw [← heq, hdl] at hnx
    have := readFloat_pd s (by omega) (by omega) (by rw [e0]; omega) (by rw [e0]; omega) hnx w
    rw [hdr, hq] at this
    exact this
  rw [hng, if_pos rfl] at heq hlen hdr
  have e0 := list0 (s := s) (a := 45) (l := l) heq (by omega)
  have e1 := list1 (s := s) (a := 45) (b := a) (l := r) (by rw [heq, hl]) (by omega)
  refine ⟨special_minus s (by omega) (by omega) (by rw [e0]; rfl) (by rw [e1]; exact ha1) (by rw [e1]; exact ha2), fun w => ?_⟩
  have hnx := not_hex hq hr
  have g : ∀ i : Nat, l.getD i 0 = s.data.toList.getD (i + 1) 0 := by
    intro i
    rw [heq]; rfl
  rw [g 0, g 1] at hnx
  have := readFloat_nd s (by omega) (by omega) (by rw [e0]; rfl) (fun h => hnx ⟨by omega, h.2⟩) w
  rw [hdr, hq] at this
  exact this
theorem NumT.sets (h : NumT s ng l A D dot E) (hs : s.size ≤ 400) (hW : Num.dv 0 (A ++ D) ≠ 0) : ∃ S : Dc.St, Dc.Weak S ∧ S.tr = false ∧ S.nd ≤ 400 ∧ S.X = Num.dv 0 (A ++ D) ∧ S.dp - S.nd = powE E - D.length ∧
    ∀ w g, Dc.z1d w g (fun _ => 0) 0 0 false false → Calls Tryz.prog 148 #[.pointer (some ⟨g, 0, none⟩), .string s] w fun e w' => e = .returned (.bool true) ∧ Below g w w' ∧ S.is w' g ng := by
  obtain ⟨a, r, hl, ha1, ha2⟩ := h.first
  have hlen := h.len
  have hll : l.length = r.length + 1 := by rw [hl]; rfl
  have heq := h.eq
  have hdr := h.drop
  have hdg := h.digs
  obtain ⟨t, hsc, hsd, hI⟩ := set_form h.form (fun _ => 0)
  have h400 : A.length + D.length ≤ 400 := by
    cases ng
    · rw [if_neg (by decide)] at hlen; omega
    rw [if_pos rfl] at hlen; omega
  obtain ⟨hw, hx⟩ := set_weak hI (powE E) hW (by omega)
  have hdp : z4g t E = (setSt t D.length (powE E)).dp := by
    show (if t.dot then t.dp else (t.nd : Int)) + powE E = (t.nd : Int) - D.length + powE E
    cases hd : t.dot
    · rw [if_neg (by decide), hI.nopt hd]; omega
    rw [if_pos rfl, hI.pt hd]
  have htl := hI.len
  refine ⟨setSt t D.length (powE E), hw, rfl, Nat.le_trans htl h400, hx, ?_, fun w g hD => ?_⟩
  · show (t.nd : Int) - D.length + powE E - t.nd = powE E - D.length
    omega
  cases hng : ng
  · rw [hng, if_neg (by decide)] at heq hlen hdr
    have e0 := list0 (s := s) (a := a) (l := r) (by rw [heq, hl]) (by omega)
    refine (set_p s hs (by omega) ⟨by rw [e0]; omega, by rw [e0]; omega⟩ w g _ hD t E (by rw [hdr]; exact hsc) hsd h.form.pw (by omega)).mono fun e w' ⟨h1, h2, h3⟩ => ⟨h1, h2, ?_⟩
    rw [hdp] at h3
    exact h3
  rw [hng, if_pos rfl] at heq hlen hdr
  have e0 := list0 (s := s) (a := 45) (l := l) heq (by omega)
  refine (set_n s hs (by omega) (by rw [e0]; rfl) w g _ hD t E (by rw [hdr]; exact hsc) hsd h.form.pw (by omega)).mono fun e w' ⟨h1, h2, h3⟩ => ⟨h1, h2, ?_⟩
  rw [hdp] at h3
  exact h3
theorem digits_eq {X a b : Nat} (h1 : 10 ^ (a - 1) ≤ X) (h2 : X < 10 ^ a) (h3 : 10 ^ (b - 1) ≤ X) (h4 : X < 10 ^ b) (ha : 0 < a) (hb : 0 < b) : a = b := by
  rcases Nat.lt_trichotomy a b with h | h | h
  · have : (10 : Nat) ^ a ≤ 10 ^ (b - 1) := Nat.pow_le_pow_right (by decide) (by omega)
    omega
  · exact h
  have : (10 : Nat) ^ b ≤ 10 ^ (a - 1) := Nat.pow_le_pow_right (by decide) (by omega)
  omega
theorem NumT.atof (h : NumT s ng l A D dot E) (hs : s.size ≤ 400) (r : Nat) (hr : Near (dN (Num.dv 0 (A ++ D)) (powE E - D.length)) (dD (powE E - D.length)) r) (w : World) (hL : z5y w) :
    Calls Tryz.prog 112 #[.string s] w (AtPost (RungR ng s r) w) := by
  obtain ⟨o, k, hq, hu, hrest, hz, hnz, hlo, hhi, hwhole, hmore, hm19⟩ := fin_form h.form
  obtain ⟨hsp, hrf⟩ := h.reads hs o hq hrest
  have hlen := h.len
  have hlen2 : l.length ≤ 1000 := by
    cases ng
    · rw [if_neg (by decide)] at hlen; omega
    rw [if_pos rfl] at hlen; omega
  have hb := fin_bound hlen2 hq
  have hsz : ((s.size - o.rest.length : Nat) : Int) = (s.size : Int) := by rw [hrest]; rfl
  obtain ⟨p, hp⟩ : ∃ p : Int, p = powE E - D.length := ⟨_, rfl⟩
  rw [← hp] at hr
  by_cases hW : Num.dv 0 (A ++ D) = 0
  · refine (atof64_zero ng s o (hz hW) hu hsp hrf w hL.laid).mono fun e w' ⟨x, n, er, ⟨h1, h2, h3⟩, h4, h5, h6⟩ => ⟨x, n, er, ⟨by rw [h2, hsz], Or.inl ?_⟩, h4, h5, h6⟩
    rw [hW] at hr
    have e0 : dN 0 p = 0 := by unfold dN; rw [Nat.zero_mul, Nat.zero_mul]
    rw [e0] at hr
    have hr0 : r = 0 := z5a (z3l _) (z3l _) rfl hr (near_zero _ (z3l p))
    rw [hr0]
    refine ⟨by decide, ?_, h3⟩
    rw [h1, z4i]
    cases ng <;> rfl
  obtain ⟨hm0, he⟩ := hnz hW
  have he' : o.e = (k : Int) + p := by rw [he, hp]; omega
  cases htr : o.tr
  · have hWm := hwhole htr
    refine (atof64_dec ng s o hm0 hb.1 hb.2.1 hb.2.2 hu htr hsp hrf w hL.laid).mono fun e w' ⟨x, n, er, ⟨h1, r', h2, h3⟩, h4, h5, h6⟩ => ⟨x, n, er, ⟨by rw [h1, hsz], ?_⟩, h4, h5, h6⟩
    rw [he'] at h2
    have h7 := near_move h2
    rw [← hWm] at h7
    have h8 : r' = r := z5a (z3l _) (z3l _) rfl h7 hr
    rw [h8] at h3
    exact h3
  obtain ⟨hm1, hm2⟩ := hmore htr
  obtain ⟨S, hS, hStr, hSn, hSX, hSd, hset⟩ := h.sets hs hW
  have hnd : S.nd = 19 + k := by
    have b1 := Dc.X_low hS
    have b2 := Dc.X_high hS
    rw [hSX] at b1 b2
    refine digits_eq b1 b2 ?_ ?_ hS.pos (by omega)
    · have e : 19 + k - 1 = 18 + k := by omega
      rw [e, Nat.pow_add]
      exact Nat.le_trans (Nat.mul_le_mul_right _ hm2) hlo
    rw [Nat.pow_add]
    exact Nat.lt_of_lt_of_le hhi (Nat.mul_le_mul_right _ hm19)
  obtain ⟨qm, qe, qt, qu, qr⟩ := o
  dsimp only at hu hrest htr hm1 hm2 hm19 he' hlo hhi hb
  subst hu hrest htr
  refine atof64_tr ng s hs qm qe (by have : (10 : Nat) ^ 18 = 1000000000000000000 := by decide
                                     omega) (by have : (10 : Nat) ^ 19 = 10000000000000000000 := by decide
                                                omega) hb.2.1 hb.2.2 hsp hrf S hS hStr hSn (by omega) hset r ?_ (fun r1 h1 => ?_) (fun r2 h2 => ?_) w hL
  · unfold Dc.z5b
    rw [hSX, hSd, ← hp]
    exact hr
  · rw [he'] at h1
    exact z4n (z3l _) (z3l _) (Nat.mul_le_mul_right _ (dN_mono hlo p)) (near_move h1) hr
  rw [he'] at h2
  exact z4n (z3l _) (z3l _) (Nat.mul_le_mul_right _ (dN_mono (Nat.le_of_lt hhi) p)) hr (near_move h2)
end
set_option maxRecDepth 100000 in
set_option maxHeartbeats 1000000 in
theorem parse_formed2 (s : ByteArray) (hs : s.size ≤ 400) (hf : z5x s.data.toList = true) (R : Nat → Option Int → Prop) (w : World) (hL : z5y w) (hP : ∀ w, z5y w → Calls Tryz.prog 24 #[.string s, .int .i64 64] w (SpPost R w)) :
    Calls Tryz.prog 10 #[.string s] w fun e w' => Below w.heap.size w w' ∧ ∃ x er, R x er ∧ ((er = none ∧ e = .returned (.tuple #[.float .f64 x, .int .i64 0])) ∨ (er ≠ none ∧ e = .returned (.tuple #[.float .f64 0, .int .i64 20]))) := by
  have hF := formed_walk s (by omega)
  rw [hf] at hF
  have HF := Lib.hid hF
  have HP := Lib.hid hP
  have h1 : ¬ (400 : Int) < s.size := by omega
  clear hs hf hF hP
  go_enter Tryz.func10, Tryz.ntmps10
  go_wp2_with fail
  refine (HF.out _).mono ?_
  rintro e w1 ⟨rfl, hb1⟩
  have hL1 := hL.below hb1
  clear HF hL
  go_wp2_with fail
  refine (HP.out _ hL1).mono ?_
  rintro e w2 ⟨x, er, hR, -, hb2, hc⟩
  have hb02 := hb1.trans (hb2.mono hb1.size)
  have HR := Lib.hid hR
  clear hR HP hL1
  rcases hc with ⟨rfl, rfl⟩ | ⟨hne, N, rfl⟩
  · go_wp2_with fail
    go_ret2
    exact ⟨hb02, x, none, HR.out, Or.inl ⟨rfl, rfl⟩⟩
  have HNE := Lib.hid hne
  clear hne
  go_wp2_with fail
  go_ret2
  exact ⟨hb02, x, er, HR.out, Or.inr ⟨HNE.out, rfl⟩⟩
def paX (ng : Bool) (r : Nat) : Nat := if 9218868437227405312 ≤ r then 0 else Ieee.double.word ng r
def paC (r : Nat) : Int := if 9218868437227405312 ≤ r then 20 else 0
theorem parse_num {s : ByteArray} {ng : Bool} {l A D E : List UInt8} {dot : Bool} (h : NumT s ng l A D dot E) (hs : s.size ≤ 400) (hf : z5x s.data.toList = true) (r : Nat)
    (hr : Near (dN (Num.dv 0 (A ++ D)) (powE E - D.length)) (dD (powE E - D.length)) r) (w : World) (hL : z5y w) :
    Calls Tryz.prog 10 #[.string s] w fun e w' => e = .returned (.tuple #[.float .f64 (paX ng r), .int .i64 (paC r)]) ∧ Below w.heap.size w w' := by
  refine (parse_formed2 s hs hf (whole s (RungR ng s r)) w hL (fun w hL => sparse_of s (by omega) _ w hL.laid (iparse_of s _ w (h.atof hs r hr w hL)))).mono ?_
  rintro e w' ⟨hb, x, er, hR, hc⟩
  refine ⟨?_, hb⟩
  unfold paX paC
  rcases hR with ⟨-, ⟨h1, h2, h3⟩ | ⟨h1, h2, h3⟩⟩ | ⟨-, -, y, n, r', hh, hne⟩
  · rw [if_neg (by omega), if_neg (by omega)]
    rcases hc with ⟨-, rfl⟩ | ⟨h4, -⟩
    · rw [h2]
    exact absurd h3 h4
  · rw [if_pos h1, if_pos h1]
    rcases hc with ⟨h4, -⟩ | ⟨-, rfl⟩
    · rw [h3] at h4; cases h4
    rfl
  exact absurd hh.1 hne
end Go.Proofs.YtjpiplplohapnaaGreatDoor
