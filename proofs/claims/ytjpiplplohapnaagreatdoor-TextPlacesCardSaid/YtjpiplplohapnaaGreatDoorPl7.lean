/- Part 7 of the proof: RfTd, RfW, PHx. -/
import Derived.Test.YtjpiplplohapnaaGreatDoorPl6
set_option linter.unusedVariables false
set_option linter.unusedSimpArgs false
namespace Go.Proofs.YtjpiplplohapnaaGreatDoor
open Go.RowKit Go.Proofs.YtjpiplplohapnaaGreatDoorW.PrintWords Rf
set_option maxRecDepth 100000 in
set_option maxHeartbeats 4000000 in
theorem rfTail_d (s : ByteArray) (hs : s.size ≤ 1000) (k : Nat) (hk : k ≤ s.size) (ng us dot sd : Bool) (nd nm : Nat) (dp : Int) (m : Nat) (tr : Bool) (hO : Ok false ⟨us, dot, sd, nd, nm, dp, m, tr⟩ k) (w : World) {u1 u18 u19 u20 u21 u22 u23 u24 u25 u26 u27 u28 u29 u30 u31 u32 u33 u34 u35 u36 u37 u38 u39 u40 u41 u42 u43 u44 u45 u46 u47 u48 u49 u50 u51 u52 u53 u54 u55 u56 u57 u58 u59 u60 u61 u62 u63 u64 u65 u66 u67 u68 u69 u70 u71 u72 u73 u74 u75 u76 u77 u78 u79 u80 u81 u82 u83 u84 u85 u86 u87 u88 u89 u90 u91 u92 u93 u94 u95 u96 u97 u98 u99 u100 u101 u102 u103 u104 u105 u106 u107 u108 u109 u110 u111 u112 u113 u114 u115 u116 u117 u118 u119 u120 u121 u122 u123 u124 u125 u126 u127 u128 u129 u130 u131 u132 u133 u134 u135 u136 u137 u138 u139 u140 u141 u142 u143 u144 u145 u146 u147 u148 u149 u150 u151 u152 u153 u154 u155 u156 u157 u158 u159 u160 u161 u162 u163 u164 u165 u166 u167 u168 u169 u170 u171 u172 u173 u174 u175 u176 u177 u178 u179 u180 u181 u182 u183 u184 u185 u186 u187 u188 u189 u190 u191 u192 u193 u194 u195 u196 u197 u198 u199 u200 u201 u202 u203 u204 u205 u206 u207 u208 u209 u210 u211 u212 u213 u214 u215 u216 u217 u218 u219 u220 u221 u222 u223 u224 u225 u226 u227 u228 u229 u230 u231 u232 u233 u234 u235 u236 u237 u238 u239 u240 u241 u242 u243 u244 u245 u246 u247 u248 u249 u250 u251 u252 : Value} :
    rfCode51.wp Tryz.prog (Exit.noGoto (bodyPost Tryz.prog Tryz.f142 (RfPost ng false s (fin false ⟨us, dot, sd, nd, nm, dp, m, tr⟩ (s.data.toList.drop k)) w))) ⟨#[Value.string s, u1, Value.int .u64 m, Value.int .i64 0, Value.bool ng, Value.bool tr, Value.bool false, Value.int .i64 (k : Int), Value.bool false, Value.bool us, Value.int .u64 10, Value.int .i64 19, Value.int .u8 101, Value.bool dot, Value.bool sd, Value.int .i64 (nd : Int), Value.int .i64 (nm : Int), Value.int .i64 dp, u18, u19, u20, u21, u22, u23, u24, u25, u26, u27, u28, u29, u30, u31, u32, u33, u34, u35, u36, u37, u38, u39, u40, u41, u42, u43, u44, u45, u46, u47, u48, u49, u50, u51, u52, u53, u54, u55, u56, u57, u58, u59, u60, u61, u62, u63, u64, u65, u66, u67, u68, u69, u70, u71, u72, u73, u74, u75, u76, u77, u78, u79, u80, u81, u82, u83, u84, u85, u86, u87, u88, u89, u90, u91, u92, u93, u94, u95, u96, u97, u98, u99, u100, u101, u102, u103, u104, u105, u106, u107, u108, u109, u110, u111, u112, u113, u114, u115, u116, u117, u118, u119, u120, u121, u122, u123, u124, u125, u126, u127, u128, u129, u130, u131, u132, u133, u134, u135, u136, u137, u138, u139, u140, u141, u142, u143, u144, u145, u146, u147, u148, u149, u150, u151, u152, u153, u154, u155, u156, u157, u158, u159, u160, u161, u162, u163, u164, u165, u166, u167, u168, u169, u170, u171, u172, u173, u174, u175, u176, u177, u178, u179, u180, u181, u182, u183, u184, u185, u186, u187, u188, u189, u190, u191, u192, u193, u194, u195, u196, u197, u198, u199, u200, u201, u202, u203, u204, u205, u206, u207, u208, u209, u210, u211, u212, u213, u214, u215, u216, u217, u218, u219, u220, u221, u222, u223, u224, u225, u226, u227, u228, u229, u230, u231, u232, u233, u234, u235, u236, u237, u238, u239, u240, u241, u242, u243, u244, u245, u246, u247, u248, u249, u250, u251, u252], []⟩ w := by
  conv => arg 2; whnf
  have b1 : nd ≤ 1000 := by have := hO.nd; dsimp only at this; omega
  have b2 : nm ≤ 19 := hO.nm
  have b3 : -1000 ≤ dp := by have := hO.dp1; dsimp only at this; omega
  have b4 : dp ≤ 1000 := by have := hO.dp2; dsimp only at this; omega
  clear hO
  cases sd
  · go_wp2_with fail
    try rw [Exit.noGoto_ret]
    exact bodyPost_ret (v := .tuple #[.int .u64 m, .int .i64 0, .bool ng, .bool tr, .bool false, .int .i64 k, .bool false]) (by simp [results, Tryz.results142, go_sem]) rfl ⟨rfl, ⟨_, _, _, _, _, _, rfl⟩⟩
  obtain ⟨D, hD⟩ : ∃ D, D = dpv false ⟨us, dot, true, nd, nm, dp, m, tr⟩ := ⟨_, rfl⟩
  obtain ⟨N, hN⟩ : ∃ N, N = nmv false ⟨us, dot, true, nd, nm, dp, m, tr⟩ := ⟨_, rfl⟩
  have hD2 : (dot = true → D = dp * 1) ∧ (dot = false → D = nd * 1) := by rw [hD]; unfold dpv; cases dot <;> exact ⟨fun h => (by first | rfl | (cases h)), fun h => (by first | rfl | (cases h))⟩
  have hN2 : N = (nm : Int) * 1 := hN
  have d1 : -5000 ≤ D := by cases dot; (have := hD2.2 rfl; omega); (have := hD2.1 rfl; omega)
  have d2 : D ≤ 5000 := by cases dot; (have := hD2.2 rfl; omega); (have := hD2.1 rfl; omega)
  have n1 : 0 ≤ N := by omega
  have n2 : N ≤ 100 := by omega
  have HF := Lib.hid (show fin false ⟨us, dot, true, nd, nm, dp, m, tr⟩ (s.data.toList.drop k) = (expPart false us (s.data.toList.drop k)).map fun x => ⟨m, if m = 0 then 0 else D + x.1 - N, tr, x.2.1, x.2.2⟩ by rw [hD, hN]; rfl)
  clear hD hN
  obtain ⟨o, hofin⟩ : ∃ o, o = fin false ⟨us, dot, true, nd, nm, dp, m, tr⟩ (s.data.toList.drop k) := ⟨_, rfl⟩
  rw [← hofin]
  have HO := Lib.hid (hofin.trans HF.out)
  clear hofin HF
  go_upto_if 142 with (fail)
  go_cut [17] (fun v17 w' => (∃ q : Int, v17 = .int .i64 q ∧ Hid (D = q * 1) ∧ -1000 ≤ q ∧ q ≤ 1000) ∧ w = w')
  case first =>
    cases dot
    · have HQ := Lib.hid (hD2.2 rfl)
      clear hD2 hN2 d1 d2 n1 n2
      go_wp2_with fail
      go_meet
      case rel => exact ⟨⟨nd, rfl, HQ, by omega, by omega⟩, rfl⟩
    have HQ := Lib.hid (hD2.1 rfl)
    clear hD2 hN2 d1 d2 n1 n2
    go_wp2_with fail
    go_meet
    case rel => exact ⟨⟨dp, rfl, HQ, by omega, by omega⟩, rfl⟩
  obtain ⟨⟨q, rfl, hq, q1, q2⟩, rfl⟩ := hcut
  clear hD2 b1 b3 b4
  go_step
  go_step
  go_cut [16, 17] (fun v16 v17 w' => v16 = .int .i64 N ∧ v17 = .int .i64 D ∧ w = w')
  case first =>
    have hqq : q = D := by have := hq.out; omega
    have hnn : (nm : Int) = N := by omega
    have HQ := Lib.hid hqq
    have HN := Lib.hid hnn
    clear hqq hnn hN2
    go_wp2_with fail
    go_meet
    case rel => exact ⟨congrArg (Value.int .i64) HN.out, congrArg (Value.int .i64) HQ.out, rfl⟩
  obtain ⟨rfl, rfl, rfl⟩ := hcut
  clear hq hN2 q1 q2 b2
  go_step
  go_step
  go_cut [7, 9, 17] (fun v7 v9 v17 w' => (∃ (k3 : Nat) (u : Bool) (E : Int), v7 = .int .i64 k3 ∧ v9 = .bool u ∧ v17 = .int .i64 (D + E) ∧ -100000 ≤ E ∧ E ≤ 100000 ∧ k3 ≤ s.size ∧ Hid (expPart false us (s.data.toList.drop k) = some (E, u, s.data.toList.drop k3))) ∧ w = w')
  case rest =>
    obtain ⟨⟨k3, u, E, rfl, rfl, rfl, hE1, hE2, hk3, hX⟩, rfl⟩ := hcut
    go_step
    exact rfEnd s hs m k3 ng false tr u N (D + E) hk3 (by omega) (by omega) n1 n2 o (Lib.hid (by rw [HO.out, hX.out]; rfl)) w
  case first => as_aux_lemma =>
    clear n1 n2
    by_cases hkl : k < s.size
    · have hl : k < s.data.toList.length := by simpa using hkl
      have hr2 := drop_at s.data.toList k hl
      have hsk : ((s[k].toNat : Nat) : Int) = ((s.data.toList[k].toNat : Nat) : Int) := rfl
      obtain ⟨c, hc⟩ : ∃ c, c = s.data.toList[k].toNat := ⟨_, rfl⟩
      rw [← hc] at hsk
      have hlw : Go.bits .or .u8 (c : Int) 32 = lw c := rfl
      by_cases hX : lw c = 101
      · have HE := Lib.hid (show expPart false us (s.data.toList.drop k) = eat us (s.data.toList.drop (k + 1)) by rw [hr2]; exact expPart_hit_d (by rw [← hc]; exact hX))
        clear hr2 hc
        have f1 : (lw c == 101) = true := by simp [hX]
        have hwk : IntKind.i64.wrap ((k : Int) + 1) = (k : Int) + 1 := by rw [Go.IntKind.wrap_i64]; omega
        clear hX
        by_cases hk1 : k + 1 < s.size
        · have hk1i : (k : Int) + 1 < s.size := by omega
          have hk1n : ¬ (s.size : Int) ≤ (k : Int) + 1 := by omega
          go_upto_block 4 with (go_at_call 156; refine (Tryz.internal_strconv_lower _ _).mono ?_; rintro e w1 ⟨rfl, hw1⟩; obtain rfl := hw1.symm)
          go_cut [7, 19] (fun v7 v19 w' => (∃ (k2 : Nat) (sg : Int), v7 = .int .i64 k2 ∧ v19 = .int .i64 sg ∧ Hid (esign (s.data.toList.drop (k + 1)) = (sg, s.data.toList.drop k2)) ∧ k2 ≤ s.size ∧ (sg = 1 ∨ sg = -1)) ∧ w = w')
          case first => as_aux_lemma =>
            have hl1 : k + 1 < s.data.toList.length := by simpa using hk1
            have hes := drop_at s.data.toList (k + 1) hl1
            have hsk1 : ((s[k + 1].toNat : Nat) : Int) = ((s.data.toList[k + 1].toNat : Nat) : Int) := rfl
            obtain ⟨d, hd⟩ : ∃ d, d = s.data.toList[k + 1].toNat := ⟨_, rfl⟩
            rw [← hd] at hsk1
            by_cases h43 : d = 43
            · have HS := Lib.hid (show esign (s.data.toList.drop (k + 1)) = (1, s.data.toList.drop (k + 1 + 1)) by rw [hes, esign, ← hd, if_pos h43])
              have g1 : ((d : Int) == 43) = true := by simp [h43]
              have hwk2 : IntKind.i64.wrap ((k : Int) + 1 + 1) = (k : Int) + 1 + 1 := by rw [Go.IntKind.wrap_i64]; omega
              clear hes hd h43
              go_wp2_with fail
              go_meet
              case rel => exact ⟨⟨k + 1 + 1, 1, by go_num, rfl, HS, by omega, Or.inl rfl⟩, rfl⟩
            have g1 : ((d : Int) == 43) = false := by simp; omega
            by_cases h45 : d = 45
            · have HS := Lib.hid (show esign (s.data.toList.drop (k + 1)) = (-1, s.data.toList.drop (k + 1 + 1)) by rw [hes, esign, ← hd, if_neg h43, if_pos h45])
              have g2 : ((d : Int) == 45) = true := by simp [h45]
              have hwk2 : IntKind.i64.wrap ((k : Int) + 1 + 1) = (k : Int) + 1 + 1 := by rw [Go.IntKind.wrap_i64]; omega
              clear hes hd h43 h45
              go_wp2_with fail
              go_meet
              case rel => exact ⟨⟨k + 1 + 1, -1, by go_num, rfl, HS, by omega, Or.inr rfl⟩, rfl⟩
            have HS := Lib.hid (show esign (s.data.toList.drop (k + 1)) = (1, s.data.toList.drop (k + 1)) by rw [hes, esign, ← hd, if_neg h43, if_neg h45])
            have g2 : ((d : Int) == 45) = false := by simp; omega
            clear hes hd h43 h45
            go_wp2_with fail
            go_meet
            case rel => exact ⟨⟨k + 1, 1, by go_num, rfl, HS, by omega, Or.inl rfl⟩, rfl⟩
          case rest => as_aux_lemma =>
            obtain ⟨⟨k2, sg, rfl, rfl, hes, hk2, hsg⟩, hww⟩ := hcut
            subst hww
            clear hlw f1 hwk hk1n
            have hET : eat us (s.data.toList.drop (k + 1)) = if startsD (s.data.toList.drop k2) then some (sg * ((escan (s.data.toList.drop k2) 0 us).1 : Nat), (escan (s.data.toList.drop k2) 0 us).2.1, (escan (s.data.toList.drop k2) 0 us).2.2) else none := by unfold eat; rw [hes.out]
            have HT := Lib.hid (HE.out.trans hET)
            clear hET HE hes
            by_cases hk2l : k2 < s.size
            · have hl2 : k2 < s.data.toList.length := by simpa using hk2l
              have hd2 := drop_at s.data.toList k2 hl2
              have hsk2 : ((s[k2].toNat : Nat) : Int) = ((s.data.toList[k2].toNat : Nat) : Int) := rfl
              have hk2i : (k2 : Int) < s.size := by omega
              have hk2n : ¬ (s.size : Int) ≤ (k2 : Int) := by omega
              obtain ⟨d, hd⟩ : ∃ d, d = s.data.toList[k2].toNat := ⟨_, rfl⟩
              rw [← hd] at hsk2
              have hsd : startsD (s.data.toList.drop k2) = (decide (48 ≤ d) && decide (d ≤ 57)) := by rw [hd2, startsD, ← hd]
              clear hd2 hd
              by_cases hdd : 48 ≤ d ∧ d ≤ 57
              · rw [decide_eq_true hdd.1, decide_eq_true hdd.2] at hsd
                have HE := Lib.hid (HT.out.trans (if_pos hsd))
                have f3 : ¬ (d : Int) < 48 := by omega
                have f4 : ¬ (57 : Int) < (d : Int) := by omega
                have f3b : (48 : Int) ≤ (d : Int) := by omega
                have f4b : (d : Int) ≤ 57 := by omega
                clear HT hsd hdd
                obtain ⟨eF, uF, r3, hF⟩ : ∃ eF uF r3, escan (s.data.toList.drop k2) 0 us = (eF, uF, r3) := ⟨_, _, _, rfl⟩
                have HE2 := HE.out
                rw [hF] at HE2
                have HE3 := Lib.hid HE2
                have Hesc := Lib.hid hF
                clear hF HE HE2
                go_upto_block 5 with (fail)
                go_cut [7, 9, 20] (fun v7 v9 v20 w' => (∃ k3 : Nat, v7 = .int .i64 k3 ∧ Hid (s.data.toList.drop k3 = r3) ∧ k3 ≤ s.size) ∧ v9 = .bool uF ∧ v20 = .int .i64 eF ∧ eF ≤ 99999 ∧ w = w')
                case first => as_aux_lemma =>
                  go_wp2_with fail
                  clear hk2l hl2 hsk2 hk2i hk2n f3 f4 f3b f4b
                  go_loopg [7, 9, 20] (s.size - k2) (fun gn v7 v9 v20 w' => ∃ (k3 e : Nat) (u : Bool), gn + k3 = s.size ∧ v7 = .int .i64 k3 ∧ v9 = .bool u ∧ v20 = .int .i64 e ∧ e ≤ 99999 ∧ k3 ≤ s.size ∧ Hid (escan (s.data.toList.drop k3) e u = (eF, uF, r3)) ∧ w = w')
                  case atStart => exact ⟨k2, 0, us, by omega, rfl, rfl, rfl, by omega, hk2, Hesc, rfl⟩
                  case round =>
                    obtain ⟨k3, e, u, hg, rfl, rfl, rfl, he, hk3, hsc, rfl⟩ := hrel
                    clear Hesc HE3 HO
                    by_cases hkl : k3 < s.size
                    · have hl : k3 < s.data.toList.length := by simpa using hkl
                      have hsk : ((s[k3].toNat : Nat) : Int) = ((s.data.toList[k3].toNat : Nat) : Int) := rfl
                      have h1 := @escan_us s.data.toList k3 e u hl
                      have h2 := @escan_digit s.data.toList k3 e u hl
                      have h3 := @escan_stop s.data.toList k3 e u hl
                      obtain ⟨c, hc⟩ : ∃ c, c = s.data.toList[k3].toNat := ⟨_, rfl⟩
                      rw [← hc] at hsk h1 h2 h3
                      clear hc
                      have hwk : IntKind.i64.wrap ((k3 : Int) + 1) = (k3 : Int) + 1 := by rw [Go.IntKind.wrap_i64]; omega
                      by_cases h95 : c = 95
                      · have f1 : ((c : Int) == 95) = true := by simp [h95]
                        have f2 : ¬ (c : Int) ≤ 57 := by omega
                        have f2b : (57 : Int) < c := by omega
                        have f2c : (48 : Int) ≤ c := by omega
                        have HS := Lib.hid ((h1 h95).symm.trans hsc.out)
                        clear h1 h2 h3 hsc h95
                        go_wp2_with fail
                        go_roundg (gk - 1)
                        case measure => omega
                        case rel => exact ⟨k3 + 1, e, true, by omega, by go_num, rfl, rfl, he, by omega, HS, rfl⟩
                      have f1 : ((c : Int) == 95) = false := by simp; omega
                      by_cases hdd : 48 ≤ c ∧ c ≤ 57
                      · have f2 : (c : Int) ≤ 57 := by omega
                        have f2c : (48 : Int) ≤ c := by omega
                        have HS0 := (h2 h95 hdd).symm.trans hsc.out
                        clear h1 h2 h3 hsc h95 hdd
                        by_cases h10 : e < 10000
                        · rw [if_pos h10] at HS0
                          have HS := Lib.hid HS0
                          have f5 : (e : Int) < 10000 := by omega
                          have hw1 : IntKind.i64.wrap ((e : Int) * 10) = (e : Int) * 10 := by rw [Go.IntKind.wrap_i64]; omega
                          have hw2 : IntKind.i64.wrap ((e : Int) * 10 + c) = (e : Int) * 10 + c := by rw [Go.IntKind.wrap_i64]; omega
                          have hw3 : IntKind.i64.wrap ((e : Int) * 10 + c - 48) = (e : Int) * 10 + c - 48 := by rw [Go.IntKind.wrap_i64]; omega
                          have hw4 : IntKind.i64.wrap (c : Int) = c := by rw [Go.IntKind.wrap_i64]; omega
                          clear HS0
                          go_wp2_with fail
                          go_roundg (gk - 1)
                          case measure => omega
                          case rel => exact ⟨k3 + 1, e * 10 + (c - 48), u, by omega, by go_num, rfl, congrArg (Value.int .i64) (by omega), by omega, by omega, HS, rfl⟩
                        rw [if_neg h10] at HS0
                        have HS := Lib.hid HS0
                        have f5 : ¬ (e : Int) < 10000 := by omega
                        clear HS0
                        go_wp2_with fail
                        go_roundg (gk - 1)
                        case measure => omega
                        case rel => exact ⟨k3 + 1, e, u, by omega, by go_num, rfl, rfl, he, by omega, HS, rfl⟩
                      have HS := Lib.hid ((h3 h95 hdd).symm.trans hsc.out)
                      clear h1 h2 h3 hsc h95
                      by_cases h48 : 48 ≤ c
                      · have f2c : (48 : Int) ≤ c := by omega
                        have f2 : ¬ (c : Int) ≤ 57 := by omega
                        have f2b : (57 : Int) < c := by omega
                        clear hdd h48
                        go_wp2_with fail
                        go_meet
                        case rel =>
                          have hh := HS.out
                          simp only [Prod.mk.injEq] at hh
                          obtain ⟨rfl, rfl, hh3⟩ := hh
                          exact ⟨⟨k3, rfl, Lib.hid hh3, hk3⟩, rfl, rfl, he, rfl⟩
                      have f2c : ¬ (48 : Int) ≤ c := by omega
                      have f2b : (c : Int) < 48 := by omega
                      clear hdd h48
                      go_wp2_with fail
                      go_meet
                      case rel =>
                        have hh := HS.out
                        simp only [Prod.mk.injEq] at hh
                        obtain ⟨rfl, rfl, hh3⟩ := hh
                        exact ⟨⟨k3, rfl, Lib.hid hh3, hk3⟩, rfl, rfl, he, rfl⟩
                    have HS := Lib.hid ((@escan_end s.data.toList k3 e u (by simp; omega)).symm.trans hsc.out)
                    have hkn : ¬ (k3 : Int) < s.size := by omega
                    have hkn2 : (s.size : Int) ≤ k3 := by omega
                    clear hsc
                    go_wp2_with fail
                    go_meet
                    case rel =>
                      have hh := HS.out
                      simp only [Prod.mk.injEq] at hh
                      obtain ⟨rfl, rfl, hh3⟩ := hh
                      exact ⟨⟨k3, rfl, Lib.hid hh3, hk3⟩, rfl, rfl, he, rfl⟩
                case rest => as_aux_lemma =>
                  obtain ⟨⟨k3, rfl, hr3, hk3⟩, rfl, rfl, heF, hww⟩ := hcut
                  subst hww
                  obtain ⟨E, hE⟩ : ∃ E : Int, E = sg * eF := ⟨_, rfl⟩
                  have hE1 : -100000 ≤ E ∧ E ≤ 100000 := by rcases hsg with rfl | rfl <;> omega
                  have hE2 : (eF : Int) * sg = E := by rw [hE, Int.mul_comm]
                  have hw1 : IntKind.i64.wrap E = E := by rw [Go.IntKind.wrap_i64]; omega
                  have hw2 : IntKind.i64.wrap (D + E) = D + E := by rw [Go.IntKind.wrap_i64]; omega
                  have HX : Hid (expPart false us (s.data.toList.drop k) = some (E, uF, s.data.toList.drop k3)) := Lib.hid (by rw [HE3.out, hE, hr3.out])
                  clear HE3 hE hr3 Hesc hk2l hl2 hsk2 hk2i hk2n f3 f4 f3b f4b heF hsg hk2
                  go_wp2_with fail
                  go_meet
                  case rel => exact ⟨⟨k3, uF, E, rfl, rfl, rfl, hE1.1, hE1.2, hk3, HX⟩, rfl⟩
              have hsd2 : ¬ startsD (s.data.toList.drop k2) = true := by rw [hsd]; simp; omega
              have HE := Lib.hid (HT.out.trans (if_neg hsd2))
              clear HT hsd hsd2
              by_cases h48 : 48 ≤ d
              · have f3 : ¬ (d : Int) < 48 := by omega
                have f3b : (48 : Int) ≤ d := by omega
                have f4 : (57 : Int) < (d : Int) := by omega
                clear hdd h48
                have HN : Hid (o = none) := Lib.hid (by rw [HO.out, HE.out]; rfl)
                clear HO HE
                go_wp2_with fail
                try rw [Exit.noGoto_ret]
                refine bodyPost_ret (v := .tuple #[.int .u64 m, .int .i64 0, .bool ng, .bool tr, .bool false, .int .i64 k2, .bool false]) (by simp [results, Tryz.results142, go_sem]) rfl ⟨rfl, ?_⟩
                rw [HN.out]
                exact ⟨_, _, _, _, _, _, rfl⟩
              have f3 : (d : Int) < 48 := by omega
              clear hdd h48
              have HN : Hid (o = none) := Lib.hid (by rw [HO.out, HE.out]; rfl)
              clear HO HE
              go_wp2_with fail
              try rw [Exit.noGoto_ret]
              refine bodyPost_ret (v := .tuple #[.int .u64 m, .int .i64 0, .bool ng, .bool tr, .bool false, .int .i64 k2, .bool false]) (by simp [results, Tryz.results142, go_sem]) rfl ⟨rfl, ?_⟩
              rw [HN.out]
              exact ⟨_, _, _, _, _, _, rfl⟩
            have HE := Lib.hid (HT.out.trans (if_neg (by rw [List.drop_of_length_le (by simp; omega), startsD]; simp)))
            have hk2n : (s.size : Int) ≤ (k2 : Int) := by omega
            clear HT
            have HN : Hid (o = none) := Lib.hid (by rw [HO.out, HE.out]; rfl)
            clear HO HE
            go_wp2_with fail
            try rw [Exit.noGoto_ret]
            refine bodyPost_ret (v := .tuple #[.int .u64 m, .int .i64 0, .bool ng, .bool tr, .bool false, .int .i64 k2, .bool false]) (by simp [results, Tryz.results142, go_sem]) rfl ⟨rfl, ?_⟩
            rw [HN.out]
            exact ⟨_, _, _, _, _, _, rfl⟩
        have hk1i : (s.size : Int) ≤ (k : Int) + 1 := by omega
        have hdr : s.data.toList.drop (k + 1) = [] := List.drop_of_length_le (by simp; omega)
        have HN : Hid (o = none) := Lib.hid (by rw [HO.out, HE.out, hdr]; rfl)
        clear HO HE hdr
        go_wp2_with (go_at_call 156; refine (Tryz.internal_strconv_lower _ _).mono ?_; rintro e w1 ⟨rfl, hw1⟩; obtain rfl := hw1.symm)
        try rw [Exit.noGoto_ret]
        refine bodyPost_ret (v := .tuple #[.int .u64 m, .int .i64 0, .bool ng, .bool tr, .bool false, .int .i64 (k + 1), .bool false]) (by simp [results, Tryz.results142, go_sem]) rfl ⟨rfl, ?_⟩
        rw [HN.out]
        exact ⟨_, _, _, _, _, _, rfl⟩
      have f1 : (lw c == 101) = false := by simp [hX]
      have HE : Hid (expPart false us (s.data.toList.drop k) = some (0, us, s.data.toList.drop k)) := Lib.hid (by rw [hr2]; exact expPart_miss_d (by rw [← hc]; exact hX))
      have hD0 : D = D + 0 := by omega
      have HD0 := Lib.hid hD0
      clear hr2 hc hX hD0
      go_wp2_with (go_at_call 156; refine (Tryz.internal_strconv_lower _ _).mono ?_; rintro e w1 ⟨rfl, hw1⟩; obtain rfl := hw1.symm)
      go_meet
      case rel => exact ⟨⟨k, us, 0, rfl, rfl, congrArg (Value.int .i64) HD0.out, by omega, by omega, hk, HE⟩, rfl⟩
    have hkn : ¬ (k : Int) < s.size := by omega
    have hkn2 : (s.size : Int) ≤ k := by omega
    have hr2 : s.data.toList.drop k = [] := List.drop_of_length_le (by simp; omega)
    have HE : Hid (expPart false us (s.data.toList.drop k) = some (0, us, s.data.toList.drop k)) := Lib.hid (by rw [hr2]; rfl)
    have hD0 : D = D + 0 := by omega
    have HD0 := Lib.hid hD0
    clear hr2 hD0
    go_wp2_with fail
    go_meet
    case rel => exact ⟨⟨k, us, 0, rfl, rfl, congrArg (Value.int .i64) HD0.out, by omega, by omega, hk, HE⟩, rfl⟩
end Go.Proofs.YtjpiplplohapnaaGreatDoor
namespace Go.Proofs.YtjpiplplohapnaaGreatDoor
open Go.RowKit Go.Proofs.YtjpiplplohapnaaGreatDoorW.PrintWords Rf
set_option maxRecDepth 100000 in
theorem rfTail_d' (s : ByteArray) (hs : s.size ≤ 1000) (k : Nat) (hk : k ≤ s.size) (rF : List UInt8) (hrF : s.data.toList.drop k = rF) (ng us dot sd : Bool) (nd nm : Nat) (dp : Int) (m : Nat) (tr : Bool) (hO : Ok false ⟨us, dot, sd, nd, nm, dp, m, tr⟩ k) (w : World) {u1 u18 u19 u20 u21 u22 u23 u24 u25 u26 u27 u28 u29 u30 u31 u32 u33 u34 u35 u36 u37 u38 u39 u40 u41 u42 u43 u44 u45 u46 u47 u48 u49 u50 u51 u52 u53 u54 u55 u56 u57 u58 u59 u60 u61 u62 u63 u64 u65 u66 u67 u68 u69 u70 u71 u72 u73 u74 u75 u76 u77 u78 u79 u80 u81 u82 u83 u84 u85 u86 u87 u88 u89 u90 u91 u92 u93 u94 u95 u96 u97 u98 u99 u100 u101 u102 u103 u104 u105 u106 u107 u108 u109 u110 u111 u112 u113 u114 u115 u116 u117 u118 u119 u120 u121 u122 u123 u124 u125 u126 u127 u128 u129 u130 u131 u132 u133 u134 u135 u136 u137 u138 u139 u140 u141 u142 u143 u144 u145 u146 u147 u148 u149 u150 u151 u152 u153 u154 u155 u156 u157 u158 u159 u160 u161 u162 u163 u164 u165 u166 u167 u168 u169 u170 u171 u172 u173 u174 u175 u176 u177 u178 u179 u180 u181 u182 u183 u184 u185 u186 u187 u188 u189 u190 u191 u192 u193 u194 u195 u196 u197 u198 u199 u200 u201 u202 u203 u204 u205 u206 u207 u208 u209 u210 u211 u212 u213 u214 u215 u216 u217 u218 u219 u220 u221 u222 u223 u224 u225 u226 u227 u228 u229 u230 u231 u232 u233 u234 u235 u236 u237 u238 u239 u240 u241 u242 u243 u244 u245 u246 u247 u248 u249 u250 u251 u252 : Value} :
    rfCode51.wp Tryz.prog (Exit.noGoto (bodyPost Tryz.prog Tryz.f142 (RfPost ng false s (fin false ⟨us, dot, sd, nd, nm, dp, m, tr⟩ rF) w))) ⟨#[Value.string s, u1, Value.int .u64 m, Value.int .i64 0, Value.bool ng, Value.bool tr, Value.bool false, Value.int .i64 (k : Int), Value.bool false, Value.bool us, Value.int .u64 10, Value.int .i64 19, Value.int .u8 101, Value.bool dot, Value.bool sd, Value.int .i64 (nd : Int), Value.int .i64 (nm : Int), Value.int .i64 dp, u18, u19, u20, u21, u22, u23, u24, u25, u26, u27, u28, u29, u30, u31, u32, u33, u34, u35, u36, u37, u38, u39, u40, u41, u42, u43, u44, u45, u46, u47, u48, u49, u50, u51, u52, u53, u54, u55, u56, u57, u58, u59, u60, u61, u62, u63, u64, u65, u66, u67, u68, u69, u70, u71, u72, u73, u74, u75, u76, u77, u78, u79, u80, u81, u82, u83, u84, u85, u86, u87, u88, u89, u90, u91, u92, u93, u94, u95, u96, u97, u98, u99, u100, u101, u102, u103, u104, u105, u106, u107, u108, u109, u110, u111, u112, u113, u114, u115, u116, u117, u118, u119, u120, u121, u122, u123, u124, u125, u126, u127, u128, u129, u130, u131, u132, u133, u134, u135, u136, u137, u138, u139, u140, u141, u142, u143, u144, u145, u146, u147, u148, u149, u150, u151, u152, u153, u154, u155, u156, u157, u158, u159, u160, u161, u162, u163, u164, u165, u166, u167, u168, u169, u170, u171, u172, u173, u174, u175, u176, u177, u178, u179, u180, u181, u182, u183, u184, u185, u186, u187, u188, u189, u190, u191, u192, u193, u194, u195, u196, u197, u198, u199, u200, u201, u202, u203, u204, u205, u206, u207, u208, u209, u210, u211, u212, u213, u214, u215, u216, u217, u218, u219, u220, u221, u222, u223, u224, u225, u226, u227, u228, u229, u230, u231, u232, u233, u234, u235, u236, u237, u238, u239, u240, u241, u242, u243, u244, u245, u246, u247, u248, u249, u250, u251, u252], []⟩ w := by
  subst hrF
  exact rfTail_d s hs k hk ng us dot sd nd nm dp m tr hO w
end Go.Proofs.YtjpiplplohapnaaGreatDoor
namespace Go.Proofs.YtjpiplplohapnaaGreatDoor
open Go.RowKit Go.Proofs.YtjpiplplohapnaaGreatDoorW.PrintWords Rf Ah
def erW : Option Int → Value
  | none => .nilIface
  | some c => .iface 113 (.int .i64 c)
def ErOk (er : Option Int) : Prop := er = none ∨ er = some 1 ∨ er = some 2
def AtPost (R : Nat → Int → Option Int → Prop) (w : World) (e : Ending) (w' : World) : Prop :=
  ∃ x n er, R x n er ∧ ErOk er ∧ e = .returned (.tuple #[.float .f64 x, .int .i64 n, erW er]) ∧ Below w.heap.size w w'
def PfPost (R : Nat → Option Int → Prop) (w : World) (e : Ending) (w' : World) : Prop :=
  ∃ x er, R x er ∧ ErOk er ∧ e = .returned (.tuple #[.float .f64 x, erW er]) ∧ Below w.heap.size w w'
def whole (s : ByteArray) (R : Nat → Int → Option Int → Prop) (x : Nat) (er : Option Int) : Prop :=
  (R x s.size er) ∨ (x = 0 ∧ er = some 2 ∧ ∃ y n r, R y n r ∧ n ≠ (s.size : Int))
set_option maxRecDepth 100000 in
set_option maxHeartbeats 1000000 in
theorem prefix_of (s : ByteArray) (R : Nat → Int → Option Int → Prop) (w : World) (h : Calls Tryz.prog 112 #[.string s] w (AtPost R w)) : Calls Tryz.prog 87 #[.string s, .int .i64 64] w (AtPost R w) := by
  go_enter Tryz.func87, Tryz.ntmps87
  go_wp2_with fail
  refine h.mono ?_
  rintro e w1 ⟨x, n, er, hR, he, rfl, hb1⟩
  have H := Lib.hid hR
  have HE := Lib.hid he
  clear hR he
  go_wp2_with fail
  go_ret3
  exact ⟨x, n, er, H.out, HE.out, rfl, hb1⟩
set_option maxRecDepth 100000 in
set_option maxHeartbeats 1000000 in
theorem iparse_of (s : ByteArray) (R : Nat → Int → Option Int → Prop) (w : World) (h : Calls Tryz.prog 112 #[.string s] w (AtPost R w)) : Calls Tryz.prog 60 #[.string s, .int .i64 64] w (PfPost (whole s R) w) := by
  have h' := prefix_of s R w h
  clear h
  go_enter Tryz.func60, Tryz.ntmps60
  go_wp2_with fail
  refine h'.mono ?_
  rintro e w1 ⟨x, n, er, hR, he, rfl, hb1⟩
  have H := Lib.hid hR
  have HE := Lib.hid he
  clear hR he h'
  by_cases hn : n = (s.size : Int)
  · have f1 : (n != (s.size : Int)) = false := by simp [hn]
    have HN := Lib.hid hn
    clear hn
    go_wp2_with fail
    go_ret2
    exact ⟨x, er, Or.inl (HN.out ▸ H.out), HE.out, rfl, hb1⟩
  have f1 : (n != (s.size : Int)) = true := by simp; omega
  have HN := Lib.hid hn
  clear hn
  go_wp2_with fail
  go_ret2
  exact ⟨0, some 2, Or.inr ⟨rfl, rfl, x, n, er, H.out, HN.out⟩, Or.inr (Or.inr rfl), rfl, hb1⟩
def SpPost (R : Nat → Option Int → Prop) (w : World) (e : Ending) (w' : World) : Prop :=
  ∃ x er, R x er ∧ ErOk er ∧ Below w.heap.size w w' ∧ ((er = none ∧ e = .returned (.tuple #[.float .f64 x, .nilIface])) ∨ (er ≠ none ∧ ∃ N : Nat, e = .returned (.tuple #[.float .f64 x, .iface 114 (.pointer (some ⟨N, 0, none⟩))])))
set_option maxRecDepth 100000 in
set_option maxHeartbeats 1000000 in
theorem sparse_of (s : ByteArray) (hs : s.size ≤ 1000) (R : Nat → Option Int → Prop) (w : World) (hL : Laid w) (h : Calls Tryz.prog 60 #[.string s, .int .i64 64] w (PfPost R w)) : Calls Tryz.prog 24 #[.string s, .int .i64 64] w (SpPost R w) := by
  go_enter Tryz.func24, Tryz.ntmps24
  go_wp2_with fail
  refine h.mono ?_
  rintro e w1 ⟨x, er, hR, he, rfl, hb1⟩
  have H := Lib.hid hR
  have hL1 := hL.below hb1
  clear hR h hL
  rcases he with rfl | rfl | rfl
  · have e0 : erW none = .nilIface := rfl
    go_wp2_with fail
    go_ret2
    exact ⟨x, none, H.out, Or.inl rfl, hb1, Or.inl ⟨rfl, rfl⟩⟩
  · have e0 : erW (some 1) = .iface 113 (.int .i64 1) := rfl
    obtain ⟨te, pe, hv⟩ := hL1.rng
    have hv' := World.var?_cell gRng hv 0
    have HT := Lib.hid (Tryz.strconv_toError_range ⟨#[80, 97, 114, 115, 101, 70, 108, 111, 97, 116]⟩ s 0 64 (.iface te pe) w1 (by omega) (by simpa using hv') (Or.inr ⟨te, pe, rfl⟩))
    clear hL1 hv hv'
    go_wp2_with fail
    refine HT.out.mono ?_
    rintro e w2 ⟨N, rfl, -, -, hb2⟩
    have hb := hb1.trans (hb2.mono hb1.size)
    go_wp2_with fail
    go_ret2
    exact ⟨x, some 1, H.out, Or.inr (Or.inl rfl), hb, Or.inr ⟨by simp, N, rfl⟩⟩
  have e0 : erW (some 2) = .iface 113 (.int .i64 2) := rfl
  obtain ⟨te, pe, hv⟩ := hL1.syn
  have hv' := World.var?_cell gSyn hv 0
  have HT := Lib.hid (Tryz.strconv_toError_syntax ⟨#[80, 97, 114, 115, 101, 70, 108, 111, 97, 116]⟩ s 0 64 (.iface te pe) w1 (by omega) (by simpa using hv') (Or.inr ⟨te, pe, rfl⟩))
  clear hL1 hv hv'
  go_wp2_with fail
  refine HT.out.mono ?_
  rintro e w2 ⟨N, rfl, -, -, hb2⟩
  have hb := hb1.trans (hb2.mono hb1.size)
  go_wp2_with fail
  go_ret2
  exact ⟨x, some 2, H.out, Or.inr (Or.inr rfl), hb, Or.inr ⟨by simp, N, rfl⟩⟩
end Go.Proofs.YtjpiplplohapnaaGreatDoor
