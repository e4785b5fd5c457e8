/- Part 13 of the proof: Fb, Fc, Fs, Fq, Da, Fy. -/
import Derived.Test.YtjpiplplohapnaaGreatDoorPl12
set_option linter.unusedVariables false
set_option linter.unusedSimpArgs false
namespace Go.Proofs.YtjpiplplohapnaaGreatDoor
open Go.RowKit Go.Proofs.YtjpiplplohapnaaGreatDoorW.PrintWords Dc Nr Us
structure LaidD (w : World) : Prop where
  laid : Laid w
  cheats : Cheats w
  powt : PowT w
theorem LaidD.below {w w' : World} (h : LaidD w) (hb : Below w.heap.size w w') : LaidD w' := ⟨h.laid.below hb, h.cheats.below hb, h.powt.below hb⟩
def FbAns (s : St) (ng : Bool) (u : Nat) (ovf : Bool) : Prop := ∀ r, NearS s r → (r < 9218868437227405312 ∧ u = Ieee.double.word ng r ∧ ovf = false) ∨ (9218868437227405312 ≤ r ∧ u = Ieee.double.word ng 9218868437227405312 ∧ ovf = true)
def FbPost (g B : Nat) (s : St) (ng : Bool) (w : World) (e : Ending) (w' : World) : Prop := ∃ (u : Nat) (ovf : Bool), e = .returned (.tuple #[.int .u64 u, .bool ovf]) ∧ FbAns s ng u ovf ∧ Below B w w'
theorem tab_cell {w : World} (h : PowT w) : ∃ a : Addr, w.cell? ⟨9, 0, none⟩ = some (.slice (some a) 9 9) ∧ ∀ i, i < 9 → w.cell? (a.add i) = some (.int .i64 (tabN i : Nat)) := by
  obtain ⟨a, h1, h2⟩ := h
  refine ⟨a, h1, fun i hi => ?_⟩
  rw [h2 i hi]
  unfold tabN
  rw [if_neg (by omega)]
  rfl
def FinE (s : St) (y : Int) (s3 : St) : Prop := Weak s3 ∧ -100 ≤ s3.dp ∧ s3.dp ≤ 10 ∧ ((1024 ≤ y ∧ y ≤ 200000 ∧ ∀ R, NearS s R → 9218868437227405312 ≤ R) ∨
  (-1022 ≤ y ∧ y ≤ 1023 ∧ ∀ s4, LStep 53 s3 s4 → Norm s4 → -100 ≤ s4.dp ∧ s4.dp ≤ 16 ∧ mantN s4 ≤ 9007199254740992 ∧ (y ≠ -1022 → 4503599627370496 ≤ mantN s4) ∧ ∃ l : Nat, (l : Int) = y + 1022 ∧ NearS s (l * 4503599627370496 + mantN s4)))
theorem fin_mid {s s2 : St} {r l : Nat} (hT : Dc.Told s s2 r l) (hw : Weak s2) (h : l ≤ r + 1021) (y : Int) (hy : y = (r : Int) - l - 1) : FinE s y s2 := by
  have hd := hT.dp
  have hr := hT.rr
  refine ⟨hw, by omega, by omega, ?_⟩
  by_cases hi : l + 1025 ≤ r
  · exact Or.inl ⟨by omega, by omega, hT.inf hi⟩
  refine Or.inr ⟨by omega, by omega, fun s4 h4 _ => ?_⟩
  obtain ⟨a1, a2, a3, a4, a5⟩ := hT.mid h s4 h4
  refine ⟨by omega, a2, a4, fun _ => a3, (y + 1022).toNat, by omega, a5 _ ?_⟩
  rw [ex_eq]; omega
theorem fin_den {s s2 s3 : St} {r l : Nat} (hT : Dc.Told s s2 r l) (h : r + 1021 < l) (hR : Rights (l - 1021) s2 s3) (hn : Norm s3) : FinE s (-1022) s3 := by
  obtain ⟨rfl, -, -, hd⟩ := hT.den h
  obtain ⟨a1, a2, a3⟩ := hd s3 hR hn
  refine ⟨hn.weak, a1, by omega, Or.inr ⟨by omega, by omega, fun s4 h4 _ => ?_⟩⟩
  obtain ⟨b1, b2, b3, b4⟩ := a3 s4 h4
  exact ⟨b1, b2, by omega, fun h => absurd rfl h, 0, rfl, by rw [Nat.zero_mul, Nat.zero_add]; exact b4⟩
theorem out_facts2 (x0 E : Nat) (hx : x0 < 4503599627370496) (hE : E < 2048) : ∃ zz yy y63 : Nat, Go.bits .and .i64 (E : Int) 2047 = (E : Int) ∧ IntKind.u64.wrap (E : Int) = (E : Int) ∧ IntKind.u64.wrap ((E : Int) * 4503599627370496) = (zz : Int) ∧
    Go.bits .or .u64 (x0 : Int) (zz : Int) = (yy : Int) ∧ Go.bits .or .u64 (yy : Int) 9223372036854775808 = (y63 : Int) ∧ Hid (yy = E * 4503599627370496 + x0 ∧ y63 = 9223372036854775808 + yy) := by
  obtain ⟨a1, a2, a3, a4, a5⟩ := out_facts x0 E hx hE
  exact ⟨_, _, _, a1, a2, a3, a4, a5, Lib.hid ⟨rfl, rfl⟩⟩
theorem near_one {s : St} {r R : Nat} (h1 : NearS s r) (h2 : NearS s R) : R = r := near_unique (dD_pos _) (dD_pos _) rfl h2 h1
theorem ans_fin {s : St} {ng : Bool} {r u : Nat} (h : NearS s r) (hr : r < 9218868437227405312) (hu : u = Ieee.double.word ng r) : FbAns s ng u false := fun R hR => by
  rw [near_one h hR]; exact Or.inl ⟨hr, hu, rfl⟩
theorem ans_inf {s : St} {ng : Bool} {u : Nat} (h : ∀ R, NearS s R → 9218868437227405312 ≤ R) (hu : u = Ieee.double.word ng 9218868437227405312) : FbAns s ng u true := fun R hR => Or.inr ⟨h R hR, hu, rfl⟩
set_option maxRecDepth 100000 in
set_option maxHeartbeats 8000000 in
theorem fb_walk (w : World) (g B : Nat) (hB : B ≤ g) (hLB : ∀ w', Below B w w' → LaidD w') (s : St) (hs : Weak s) (htr : s.tr = false) (hnd : s.nd ≤ 400) (ng : Bool) (hdp1 : -326 ≤ s.dp) (hdp2 : s.dp ≤ 310) (h : s.is w g ng) :
    Calls Tryz.prog 149 #[.pointer (some ⟨g, 0, none⟩), .pointer (some ⟨6, 0, none⟩)] w (FbPost g B s ng w) := by
  have cnd : w.cell? ⟨g, 800, none⟩ = some (.int .i64 (s.nd : Nat)) := IsDec.cnd h
  have cdp : w.cell? ⟨g, 801, none⟩ = some (.int .i64 s.dp) := IsDec.cdp h
  have f0 : (((s.nd : Nat) : Int) == 0) = false := by have := hs.pos; simp; omega
  have f1 : ¬ 310 < s.dp := by omega
  have f2 : decide (310 < s.dp) = false := decide_eq_false f1
  have f3 : ¬ s.dp < -330 := by omega
  have f4 : decide (s.dp < -330) = false := decide_eq_false f3
  have HS := Lib.hid h
  have HLB := Lib.hid hLB
  have HW := Lib.hid hs
  have HD : Hid (-326 ≤ s.dp ∧ s.dp ≤ 310 ∧ s.nd ≤ 400 ∧ s.tr = false) := Lib.hid ⟨hdp1, hdp2, hnd, htr⟩
  clear hLB hs h hnd htr
  go_enter Tryz.func149, Tryz.ntmps149
  go_wp2_with fail
  refine wp_scope_hop 3 ?_
  go_upto_block 0 with (fail)
  clear cnd cdp f0 f1 f2 f3 f4 hdp1 hdp2
  go_cut [6] (fun v6 w' => ∃ (r : Nat) (t : St), v6 = .int .i64 r ∧ Hid (Down r s t ∧ t.dp ≤ 0 ∧ -400 ≤ t.dp ∧ Weak t ∧ r ≤ 27 * 4000) ∧ t.is w' g ng ∧ Hid (Below B w w'))
  case first =>
    go_wp2_with fail
    go_loopg [6] (10 * s.dp + s.hd).toNat (fun gn v6 w' => ∃ (r : Nat) (t : St), v6 = .int .i64 r ∧ Hid (Down r s t ∧ -326 ≤ t.dp ∧ t.dp ≤ 310 ∧ Weak t ∧ (10 * t.dp + t.hd).toNat ≤ gn ∧ r + 27 * (10 * t.dp + t.hd).toNat ≤ 27 * 3109) ∧ t.is w' g ng ∧ Hid (Below B w w'))
    case atStart =>
      have h9 := HW.out.hd9
      have hd := HD.out
      exact ⟨0, s, rfl, Lib.hid ⟨Down.nil s, by omega, by omega, HW.out, Nat.le_refl _, by omega⟩, HS.out, Lib.hid (Below.refl _ _)⟩
    case round =>
      obtain ⟨r, t, rfl, hH, ht, hb⟩ := hrel
      obtain ⟨h1, h2, h3, h4, h5, h6⟩ := hH.out
      have cdp : wr.cell? ⟨g, 801, none⟩ = some (.int .i64 t.dp) := IsDec.cdp ht
      by_cases hd : 0 < t.dp
      · obtain ⟨a, p1, p2⟩ := tab_cell (HLB.out _ hb.out).powt
        obtain ⟨n, hn⟩ : ∃ n : Nat, t.dp = n := ⟨t.dp.toNat, by omega⟩
        have hn0 : t.dp.toNat = n := by omega
        rw [hn] at cdp
        have h9 := h4.hd9
        have hk := tab_range n
        have HRel : Hid (∀ u, RStep (tabN n) t u → Norm u → Down (r + tabN n) s u ∧ -326 ≤ u.dp ∧ u.dp ≤ 310 ∧ Weak u ∧ (10 * u.dp + u.hd).toNat < gk ∧ (10 * u.dp + u.hd).toNat ≤ gk - 1 ∧ r + tabN n + 27 * (10 * u.dp + u.hd).toNat ≤ 27 * 3109) := Lib.hid fun u hu1 hu2 => by
          have hst := hu1
          rw [← hn0] at hst
          obtain ⟨⟨r0, hq⟩, -⟩ := right_q h4 (by rw [hn0]; omega) hst
          obtain ⟨q1, q2, q3⟩ := right_tab h4 hd hq
          have hD := Down.snoc h1 hd hst hu2
          rw [hn0] at hD
          have hu9 := hu2.weak.hd9
          have hm : (10 * u.dp + u.hd).toNat + 1 ≤ (10 * t.dp + t.hd).toNat := by
            by_cases he : u.dp = t.dp
            · have := q3 he; omega
            omega
          exact ⟨hD, by omega, by omega, hu2.weak, by omega, by omega, by omega⟩
        have g1 : (0 : Int) < n := by omega
        have g1b : decide ((0 : Int) < (n : Int)) = true := decide_eq_true g1
        have hr : r ≤ 100000 := by omega
        by_cases h9n : 9 ≤ n
        · have g2 : (9 : Int) ≤ n := by omega
          have g2b : decide ((9 : Int) ≤ (n : Int)) = true := decide_eq_true g2
          have hk27 : tabN n = 27 := by unfold tabN; rw [if_pos h9n]
          rw [hk27] at HRel
          have HC : Hid (∀ m, Calls Tryz.prog 129 #[.pointer (some ⟨g, 0, none⟩), .int .i64 (-27)] (wr.drewN m) (Sh1 g B ng t (RStep 27 t) (wr.drewN m))) := Lib.hid fun m => shift_right1 (wr.drewN m) g B hB t h4 ng 27 (by decide) (by decide) (by omega) (by omega) (ht.drewN m)
          have x1 : IntKind.i64.wrap ((r : Int) + 27) = ((r + 27 : Nat) : Int) := by rw [Go.IntKind.wrap_i64]; omega
          obtain ⟨r2, hr2⟩ : ∃ r2, r2 = r + 27 := ⟨_, rfl⟩
          rw [← hr2] at x1 HRel
          clear hH h1 h2 h3 h4 h5 h6 ht hn hn0 h9 hk h9n hk27 hd p2 hr2
          go_wp2_with fail
          go_quiet (fail)
          go_wp2_with fail
          try go_quiet (fail)
          try go_wp2_with fail
          refine (HC.out _).mono ?_
          rintro e w2 ⟨rfl, hb2, u, hu1, hu2, hu3, hu4⟩
          have HU := Lib.hid (HRel.out u hu1 hu2)
          have HB2 := Lib.hid ((below_drewN hb.out _).trans hb2)
          clear hu1 hu2 hu4 HRel HC hb2
          have HU3 := Lib.hid hu3
          go_wp2_with fail
          go_roundg (gk - 1)
          case measure => have := HU.out; omega
          case rel => exact ⟨r2, u, by first | rfl | go_num, Lib.hid ⟨HU.out.1, HU.out.2.1, HU.out.2.2.1, HU.out.2.2.2.1, HU.out.2.2.2.2.2.1, HU.out.2.2.2.2.2.2⟩, HU3.out, HB2⟩
        have g2 : ¬ (9 : Int) ≤ n := by omega
        have g2b : decide ((9 : Int) ≤ (n : Int)) = false := decide_eq_false g2
        have g3 : (n : Int) < 9 := by omega
        have hc := p2 n (by omega)
        have HC := Lib.hid fun m => shift_right1 (wr.drewN m) g B hB t h4 ng (tabN n) (by omega) (by omega) (by omega) (by omega) (ht.drewN m)
        generalize tabN n = k at *
        have x1 : IntKind.i64.wrap ((r : Int) + (k : Int)) = ((r + k : Nat) : Int) := by rw [Go.IntKind.wrap_i64]; omega
        obtain ⟨r2, hr2⟩ : ∃ r2, r2 = r + k := ⟨_, rfl⟩
        rw [← hr2] at x1 HRel
        obtain ⟨m, hm⟩ : ∃ m : Int, m = -(k : Int) := ⟨_, rfl⟩
        rw [← hm] at HC
        have x2 : IntKind.i64.wrap (0 - (k : Int)) = m := by rw [hm, Go.IntKind.wrap_i64]; omega
        have x3 : wrap64 (0 - (k : Int)) = m := by rw [hm]; unfold wrap64; omega
        have x4 : wrap64 (-(k : Int)) = m := by rw [hm]; unfold wrap64; omega
        have x5 : IntKind.i64.wrap (-(k : Int)) = m := by rw [hm, Go.IntKind.wrap_i64]; omega
        clear hH h1 h2 h3 h4 h5 h6 ht hn hn0 h9 hk h9n hd p2 hr2 hm
        go_wp2_with fail
        go_quiet (fail)
        go_wp2_with fail
        try go_quiet (fail)
        try go_wp2_with fail
        refine (HC.out _).mono ?_
        rintro e w2 ⟨rfl, hb2, u, hu1, hu2, hu3, hu4⟩
        have HU := Lib.hid (HRel.out u hu1 hu2)
        have HB2 := Lib.hid ((below_drewN hb.out _).trans hb2)
        clear hu1 hu2 hu4 HRel HC hb2
        have HU3 := Lib.hid hu3
        go_wp2_with fail
        go_roundg (gk - 1)
        case measure => have := HU.out; omega
        case rel => exact ⟨r2, u, by first | rfl | go_num, Lib.hid ⟨HU.out.1, HU.out.2.1, HU.out.2.2.1, HU.out.2.2.2.1, HU.out.2.2.2.2.2.1, HU.out.2.2.2.2.2.2⟩, HU3.out, HB2⟩
      have g1 : ¬ (0 : Int) < t.dp := hd
      have g1b : decide (0 < t.dp) = false := decide_eq_false g1
      have HR : Hid (Down r s t ∧ t.dp ≤ 0 ∧ -400 ≤ t.dp ∧ Weak t ∧ r ≤ 27 * 4000) := Lib.hid ⟨h1, by omega, by omega, h4, by omega⟩
      have HT := Lib.hid ht
      clear hH h1 h2 h3 h4 h5 h6 ht hd
      go_wp2_with fail
      go_meet
      case rel => exact ⟨r, t, rfl, HR, HT.out, hb⟩
  obtain ⟨r, s1, rfl, hH1, hs1, hb1⟩ := hcut
  have HS1 := Lib.hid hs1
  clear hs1 HS
  go_step
  go_upto_block 2 with (fail)
  go_cut [6] (fun v6 w' => ∃ (x : Int) (t : St), v6 = .int .i64 x ∧ Hid (∃ l : Nat, x = (r : Int) - l ∧ Upw l s1 t ∧ 0 ≤ t.dp ∧ (t.dp = 0 → 53 ≤ t.d 0) ∧ l ≤ 27 * 5000) ∧ t.is w' g ng ∧ Hid (Below B w w'))
  case first =>
    go_wp2_with fail
    go_loopg [6] (10 * (-s1.dp) + (9 - s1.hd)).toNat (fun gn v6 w' => ∃ (x : Int) (l : Nat) (t : St), v6 = .int .i64 x ∧ Hid (x = (r : Int) - l ∧ Upw l s1 t ∧ t.dp ≤ 0 ∧ -400 ≤ t.dp ∧ Weak t ∧ (10 * (-t.dp) + (9 - t.hd)).toNat ≤ gn ∧ l + 27 * (10 * (-t.dp) + (9 - t.hd)).toNat ≤ 27 * 4010 ∧ r ≤ 27 * 4000) ∧ t.is w' g ng ∧ Hid (Below B w w'))
    case atStart =>
      obtain ⟨a1, a2, a3, a4, a5⟩ := hH1.out
      have h9 := a4.hd9
      exact ⟨r, 0, s1, rfl, Lib.hid ⟨by omega, Upw.nil s1, a2, a3, a4, Nat.le_refl _, by omega, a5⟩, HS1.out, hb1⟩
    case round =>
      obtain ⟨x, l, t, rfl, hH, ht, hb⟩ := hrel
      obtain ⟨h1, h2, h3, h4, h5, h6, h7, h8⟩ := hH.out
      have h9 := h5.hd9
      have cdp : wr.cell? ⟨g, 801, none⟩ = some (.int .i64 t.dp) := IsDec.cdp ht
      have cb : wr.cell? ⟨g, 0, none⟩ = some (.int .u8 (t.d 0 : Nat)) := IsDec.byte ht 0 (by decide)
      obtain ⟨m, hm⟩ : ∃ m, m = t.dp := ⟨_, rfl⟩
      obtain ⟨c, hc⟩ : ∃ c, c = t.d 0 := ⟨_, rfl⟩
      rw [← hm] at cdp
      rw [← hc] at cb
      by_cases hgo : m < 0 ∨ (m = 0 ∧ c < 53)
      · obtain ⟨a, p1, p2⟩ := tab_cell (HLB.out _ hb.out).powt
        obtain ⟨n, hn⟩ : ∃ n : Nat, t.dp = -(n : Int) := ⟨(-t.dp).toNat, by omega⟩
        have hn0 : (-t.dp).toNat = n := by omega
        have hk := tab_range n
        have HRel : Hid (∀ u, LStep (tabN n) t u → Norm u → x - (tabN n : Nat) = (r : Int) - ((l + tabN n : Nat) : Int) ∧ Upw (l + tabN n) s1 u ∧ u.dp ≤ 0 ∧ -400 ≤ u.dp ∧ Weak u ∧ (10 * (-u.dp) + (9 - u.hd)).toNat < gk ∧ (10 * (-u.dp) + (9 - u.hd)).toNat ≤ gk - 1 ∧ l + tabN n + 27 * (10 * (-u.dp) + (9 - u.hd)).toNat ≤ 27 * 4010) := Lib.hid fun u hu1 hu2 => by
          have hst := hu1
          rw [← hn0] at hst
          have h53 : t.dp = 0 → t.d 0 < 53 := fun h => by omega
          obtain ⟨⟨L, hq⟩, -⟩ := left_q h5 hst
          obtain ⟨q0, q1, q2, q3⟩ := left_tab h5 h3 h53 hq
          have hU := Upw.snoc h2 h3 h53 hst hu2
          rw [hn0] at hU
          have hu9 := hu2.weak.hd9
          have hmm : (10 * (-u.dp) + (9 - u.hd)).toNat + 1 ≤ (10 * (-t.dp) + (9 - t.hd)).toNat := by
            by_cases he : u.dp = t.dp
            · have := q3 he; omega
            omega
          exact ⟨by omega, hU, q1, by omega, hu2.weak, by omega, by omega, by omega⟩
        have hx : -200000 ≤ x ∧ x ≤ 200000 := by omega
        have y1 : IntKind.i64.wrap (0 - m) = (n : Int) := by rw [Go.IntKind.wrap_i64]; omega
        have y2 : wrap64 (0 - m) = (n : Int) := by unfold wrap64; omega
        have y3 : wrap64 (-m) = (n : Int) := by unfold wrap64; omega
        have y4 : IntKind.i64.wrap (-m) = (n : Int) := by rw [Go.IntKind.wrap_i64]; omega
        have hcond : (m < 0 ∧ decide (m < 0) = true) ∨ (m = 0 ∧ (c : Int) < 53 ∧ decide ((c : Int) < 53) = true) := by
          rcases hgo with h | h
          · exact Or.inl ⟨h, decide_eq_true h⟩
          exact Or.inr ⟨h.1, by omega, decide_eq_true (by omega)⟩
        by_cases h9n : 9 ≤ n
        · have g2 : (9 : Int) ≤ n := by omega
          have g2b : decide ((9 : Int) ≤ (n : Int)) = true := decide_eq_true g2
          have hk27 : tabN n = 27 := by unfold tabN; rw [if_pos h9n]
          rw [hk27] at HRel
          have HC : Hid (∀ m, Calls Tryz.prog 129 #[.pointer (some ⟨g, 0, none⟩), .int .i64 27] (wr.drewN m) (Sh1 g B ng t (LStep 27 t) (wr.drewN m))) := Lib.hid fun m => shift_left1 (wr.drewN m) g B hB (HLB.out _ (below_drewN hb.out m)).cheats t h5 ng 27 (by decide) (by decide) (by omega) (by omega) (ht.drewN m)
          obtain ⟨x2, hx2⟩ : ∃ x2, x2 = x - 27 := ⟨_, rfl⟩
          have x1 : IntKind.i64.wrap (x - 27) = x2 := by rw [Go.IntKind.wrap_i64]; omega
          have x1w : wrap64 (x - 27) = x2 := by unfold wrap64; omega
          have HR8 := Lib.hid h8
          have HX2 := Lib.hid hx2
          have z1 : m < 0 := by omega
          have z2 : decide (m < 0) = true := decide_eq_true z1
          clear hH h1 h2 h3 h4 h5 h6 h7 h8 ht hn hn0 h9 hk h9n hk27 p2 hx2 hcond hgo hm hc hx
          go_wp2_with fail
          go_quiet (fail)
          go_wp2_with fail
          try go_quiet (fail)
          try go_wp2_with fail
          refine (HC.out _).mono ?_
          rintro e w2 ⟨rfl, hb2, u, hu1, hu2, hu3, hu4⟩
          have HU := Lib.hid (HRel.out u hu1 hu2)
          have HB2 := Lib.hid ((below_drewN hb.out _).trans hb2)
          clear hu1 hu2 hu4 HRel HC hb2
          have HU3 := Lib.hid hu3
          go_wp2_with fail
          go_roundg (gk - 1)
          case measure => have := HU.out; omega
          case rel => exact ⟨x2, l + 27, u, by first | rfl | go_num, Lib.hid ⟨HX2.out.trans HU.out.1, HU.out.2.1, HU.out.2.2.1, HU.out.2.2.2.1, HU.out.2.2.2.2.1, HU.out.2.2.2.2.2.2.1, HU.out.2.2.2.2.2.2.2, HR8.out⟩, HU3.out, HB2⟩
        have g2 : ¬ (9 : Int) ≤ n := by omega
        have g2b : decide ((9 : Int) ≤ (n : Int)) = false := decide_eq_false g2
        have g3 : (n : Int) < 9 := by omega
        have hcl := p2 n (by omega)
        have HC : Hid (∀ m, Calls Tryz.prog 129 #[.pointer (some ⟨g, 0, none⟩), .int .i64 (tabN n : Nat)] (wr.drewN m) (Sh1 g B ng t (LStep (tabN n) t) (wr.drewN m))) := Lib.hid fun m => shift_left1 (wr.drewN m) g B hB (HLB.out _ (below_drewN hb.out m)).cheats t h5 ng (tabN n) (by omega) (by omega) (by omega) (by omega) (ht.drewN m)
        generalize tabN n = k at *
        obtain ⟨x2, hx2⟩ : ∃ x2, x2 = x - (k : Int) := ⟨_, rfl⟩
        have x1 : IntKind.i64.wrap (x - (k : Int)) = x2 := by rw [Go.IntKind.wrap_i64]; omega
        have x1w : wrap64 (x - (k : Int)) = x2 := by unfold wrap64; omega
        have HR8 := Lib.hid h8
        have HX2 := Lib.hid hx2
        rcases hcond with ⟨z1, z2⟩ | ⟨z0, z1, z2⟩
        · clear hH h1 h2 h3 h4 h5 h6 h7 h8 ht hn hn0 h9 hk h9n p2 hx2 hgo hm hc hx
          go_wp2_with fail
          go_quiet (fail)
          go_wp2_with fail
          try go_quiet (fail)
          try go_wp2_with fail
          refine (HC.out _).mono ?_
          rintro e w2 ⟨rfl, hb2, u, hu1, hu2, hu3, hu4⟩
          have HU := Lib.hid (HRel.out u hu1 hu2)
          have HB2 := Lib.hid ((below_drewN hb.out _).trans hb2)
          clear hu1 hu2 hu4 HRel HC hb2
          have HU3 := Lib.hid hu3
          go_wp2_with fail
          go_roundg (gk - 1)
          case measure => have := HU.out; omega
          case rel => exact ⟨x2, l + k, u, by first | rfl | go_num, Lib.hid ⟨HX2.out.trans HU.out.1, HU.out.2.1, HU.out.2.2.1, HU.out.2.2.2.1, HU.out.2.2.2.2.1, HU.out.2.2.2.2.2.2.1, HU.out.2.2.2.2.2.2.2, HR8.out⟩, HU3.out, HB2⟩
        have hn00 : n = 0 := by omega
        clear hH h1 h2 h3 h4 h5 h6 h7 h8 ht hn hn0 h9 hk h9n p2 hx2 hgo hm hc hx
        subst z0 hn00
        have e0 : a.add 0 = a := by simp [Addr.add]
        have hcl0 : wr.cell? a = some (.int .i64 (k : Nat)) := by rw [← hcl, e0]
        clear y1 y2 y3 y4 g2 g2b g3
        go_wp2_with fail
        go_quiet (fail)
        go_wp2_with fail
        try go_quiet (fail)
        try go_wp2_with fail
        refine (HC.out _).mono ?_
        rintro e w2 ⟨rfl, hb2, u, hu1, hu2, hu3, hu4⟩
        have HU := Lib.hid (HRel.out u hu1 hu2)
        have HB2 := Lib.hid ((below_drewN hb.out _).trans hb2)
        clear hu1 hu2 hu4 HRel HC hb2
        have HU3 := Lib.hid hu3
        go_wp2_with fail
        go_roundg (gk - 1)
        case measure => have := HU.out; omega
        case rel => exact ⟨x2, l + k, u, by first | rfl | go_num, Lib.hid ⟨HX2.out.trans HU.out.1, HU.out.2.1, HU.out.2.2.1, HU.out.2.2.2.1, HU.out.2.2.2.2.1, HU.out.2.2.2.2.2.2.1, HU.out.2.2.2.2.2.2.2, HR8.out⟩, HU3.out, HB2⟩
      have HR : Hid (∃ l : Nat, x = (r : Int) - l ∧ Upw l s1 t ∧ 0 ≤ t.dp ∧ (t.dp = 0 → 53 ≤ t.d 0) ∧ l ≤ 27 * 5000) := Lib.hid ⟨l, h1, h2, by omega, fun _ => by omega, by omega⟩
      have HT := Lib.hid ht
      have hm0 : m = 0 := by omega
      have g1 : ¬ (c : Int) < 53 := by omega
      have g1b : decide ((c : Int) < 53) = false := decide_eq_false g1
      clear hH h1 h2 h3 h4 h5 h6 h7 h8 h9 ht hgo hm hc
      subst hm0
      go_wp2_with fail
      go_meet
      case rel => exact ⟨x, t, rfl, HR, HT.out, hb⟩
  obtain ⟨x, s2, rfl, hH2, hs2, hb2⟩ := hcut
  obtain ⟨l, hx, hU, he1, he2, hlb⟩ := hH2.out
  obtain ⟨d1, d2, d3, d4, d5⟩ := hH1.out
  have hD := HD.out
  have hT := fb_told HW.out hD.2.2.2 hD.1 hD.2.1 hD.2.2.1 d1 d2 hU he1 he2
  have hw2 := hU.weak d4
  have hrr := hT.rr
  have hll := hT.ll
  have hdd := hT.dp
  obtain ⟨y, hy⟩ : ∃ y, y = x - 1 := ⟨_, rfl⟩
  have x1 : IntKind.i64.wrap (x - 1) = y := by rw [Go.IntKind.wrap_i64]; omega
  have x1w : wrap64 (x - 1) = y := by unfold wrap64; omega
  have hyb : -2000 ≤ y ∧ y ≤ 2000 := by omega
  have HT := Lib.hid hT
  have HS2 := Lib.hid hs2
  have HW2 := Lib.hid hw2
  have HY : Hid (y = (r : Int) - l - 1 ∧ s2.dp = 0) := Lib.hid ⟨by omega, hdd⟩
  obtain ⟨i0, i1, i2⟩ := (HLB.out _ hb2.out).laid.infCell
  clear hH2 hx hU he1 he2 hlb d1 d2 d3 d4 d5 hD hT hw2 hrr hll hdd hs2 hy hH1 hb1 HS1 HD
  go_step
  go_upto_if 111 with (fail)
  clear x1 x1w
  go_cut [6] (fun v6 w' => ∃ (y' : Int) (s3 : St), v6 = .int .i64 y' ∧ Hid (FinE s y' s3) ∧ s3.is w' g ng ∧ Hid (Below B w w'))
  case first =>
    by_cases hden : y < -1022
    · obtain ⟨n, hn⟩ : ∃ n, n = l - 1021 := ⟨_, rfl⟩
      have hY := HY.out
      have hdn := HT.out.den (by omega)
      have HR : Hid (∀ s3, Rights n s2 s3 → Norm s3 → FinE s (-1022) s3) := Lib.hid fun s3 h1 h2 => fin_den (r := r) (l := l) HT.out (by omega) (by rw [← hn]; exact h1) h2
      obtain ⟨m, hm⟩ : ∃ m : Int, m = -(n : Int) := ⟨_, rfl⟩
      have HC := Lib.hid fun W (h : s2.is W g ng) => shift_right W g B hB s2 hdn.2.2.1 ng n (by omega) (by omega) (by omega) (by omega) h
      rw [← hm] at HC
      have g1 : decide (y < -1022) = true := decide_eq_true hden
      have y1 : IntKind.i64.wrap (-1022 - y) = (n : Int) := by rw [Go.IntKind.wrap_i64]; omega
      have y2 : wrap64 (-1022 - y) = (n : Int) := by unfold wrap64; omega
      have y3 : IntKind.i64.wrap (0 - (n : Int)) = m := by rw [hm, Go.IntKind.wrap_i64]; omega
      have y4 : wrap64 (0 - (n : Int)) = m := by rw [hm]; unfold wrap64; omega
      have y5 : wrap64 (-(n : Int)) = m := by rw [hm]; unfold wrap64; omega
      have y6 : IntKind.i64.wrap (-(n : Int)) = m := by rw [hm, Go.IntKind.wrap_i64]; omega
      have y7 : IntKind.i64.wrap (y + (n : Int)) = -1022 := by rw [Go.IntKind.wrap_i64]; omega
      have y8 : wrap64 (y + (n : Int)) = -1022 := by unfold wrap64; omega
      clear hn hY hdn hm hyb
      go_wp2_with fail
      refine (HC.out _ HS2.out).mono ?_
      rintro e w3 ⟨rfl, hb3, s3, hR3, hN3, hs3, -, -⟩
      have HF := Lib.hid (HR.out s3 hR3 hN3)
      have HB3 := Lib.hid (hb2.out.trans hb3)
      have HS3 := Lib.hid hs3
      clear hR3 hN3 hs3 hb3 HC HR
      go_wp2_with fail
      go_meet
      case rel => exact ⟨-1022, s3, by first | rfl | go_num, HF, HS3.out, HB3⟩
    have g1 : decide (y < -1022) = false := decide_eq_false hden
    have HF : Hid (FinE s y s2) := Lib.hid (fin_mid HT.out HW2.out (by have := HY.out; omega) y HY.out.1)
    clear hyb
    go_wp2_with fail
    go_meet
    case rel => exact ⟨y, s2, rfl, HF, HS2.out, hb2⟩
  obtain ⟨z, s3, rfl, hF, hs3, hb3⟩ := hcut
  clear i0 i1 i2 HS2 HW2 HY HT hyb
  have HS3 := Lib.hid hs3
  clear hs3
  obtain ⟨i0, i1, i2⟩ := (HLB.out _ hb3.out).laid.infCell
  obtain ⟨e1, e2, e3, e4⟩ := hF.out
  have k1 : Go.bits .and .u64 0 4503599627370495 = 0 := by decide +kernel
  have k2 : Go.bits .and .i64 2047 2047 = 2047 := by decide +kernel
  have k3 : Go.bits .or .u64 0 9218868437227405312 = 9218868437227405312 := by decide +kernel
  have k4 : Go.bits .or .u64 9218868437227405312 9223372036854775808 = 18442240474082181120 := by decide +kernel
  rcases e4 with ⟨e4, e5, e6⟩ | ⟨e4, e5, e6⟩
  · have HI := Lib.hid e6
    have x1 : IntKind.i64.wrap (z + 1023) = z + 1023 := by rw [Go.IntKind.wrap_i64]; omega
    have x2 : (2047 : Int) ≤ z + 1023 := by omega
    have x3 : decide ((2047 : Int) ≤ z + 1023) = true := decide_eq_true x2
    have cng := IsDec.cng HS3.out
    clear e1 e2 e3 e6 hF
    go_step
    go_wp2_with fail
    go_quiet (fail)
    go_wp2_with fail
    go_step3
    refine Exit.hop_goto _ _ rfl ?_
    go_wp2_with fail
    go_quiet (fail)
    go_wp2_with fail
    go_step3
    go_wp2_with fail
    go_quiet (fail)
    cases ng
    · go_wp2_with fail
      try rw [Exit.hop_ret]
      go_ret2
      first | exact ⟨_, true, rfl, ans_inf HI.out (by decide +kernel), below_drewN hb3.out _⟩ | exact ⟨_, true, rfl, ans_inf HI.out (by decide +kernel), below_drewN (below_drewN hb3.out _) _⟩
    go_wp2_with fail
    go_quiet (fail)
    go_wp2_with fail
    try rw [Exit.hop_ret]
    go_ret2
    first | exact ⟨_, true, rfl, ans_inf HI.out (by decide +kernel), below_drewN hb3.out _⟩ | exact ⟨_, true, rfl, ans_inf HI.out (by decide +kernel), below_drewN (below_drewN hb3.out _) _⟩
  have HC := Lib.hid fun W (hW : Below B w W) (h : s3.is W g ng) => shift_left1 W g B hB (HLB.out _ hW).cheats s3 e1 ng 53 (by decide) (by decide) (by omega) (by omega) h
  have HE := Lib.hid e6
  have x1 : IntKind.i64.wrap (z + 1023) = z + 1023 := by rw [Go.IntKind.wrap_i64]; omega
  have x2 : ¬ (2047 : Int) ≤ z + 1023 := by omega
  have x3 : decide ((2047 : Int) ≤ z + 1023) = false := decide_eq_false x2
  have HZ : Hid (-1022 ≤ z ∧ z ≤ 1023) := Lib.hid ⟨e4, e5⟩
  clear e1 e2 e3 e6 hF k1 k2 k3 k4
  go_step
  go_wp2_with fail
  go_quiet (fail)
  go_wp2_with fail
  refine (HC.out _ (below_drewN hb3.out _) (HS3.out.drewN _)).mono ?_
  rintro e w4 ⟨rfl, hb4, s4, hL4, hN4, hs4, hd4⟩
  have HB4 := Lib.hid ((below_drewN hb3.out _).trans hb4)
  obtain ⟨m1, m2, m3, m4, l0, hl, hN⟩ := HE.out s4 hL4 hN4
  have HRo := Lib.hid (rounded_all w4 g s4 hN4 ng (by omega) (by omega) hs4)
  generalize mantN s4 = M at *
  have cng := IsDec.cng hs4
  clear i0 i1 i2 HC HE HS3 hL4 hN4 hs4 hd4 hb4 m1 m2 x1 x2 x3 e4 e5
  obtain ⟨i0, i1, i2⟩ := (HLB.out _ HB4.out).laid.infCell
  have HL0 := Lib.hid hl
  have HN0 := Lib.hid hN
  have HM : Hid (M ≤ 9007199254740992 ∧ (z ≠ -1022 → 4503599627370496 ≤ M)) := Lib.hid ⟨m3, m4⟩
  clear hl hN m3 m4 hb3
  go_wp2_with fail
  refine HRo.out.mono ?_
  rintro e w5 ⟨rfl, n5, rfl⟩
  clear HRo
  have k0 : Go.bits .and .u64 4503599627370496 4503599627370496 = 4503599627370496 := by decide +kernel
  by_cases h53 : M = 9007199254740992
  · obtain ⟨z1, hz1⟩ : ∃ z1, z1 = z + 1 := ⟨_, rfl⟩
    have hZ := HZ.out
    have hl := HL0.out
    have y1 : IntKind.i64.wrap (z + 1) = z1 := by rw [Go.IntKind.wrap_i64]; omega
    have y2 : wrap64 (z + 1) = z1 := by unfold wrap64; omega
    by_cases hinf : z = 1023
    · have HI : Hid (∀ R, NearS s R → 9218868437227405312 ≤ R) := Lib.hid fun R hR => by
        rw [near_one HN0.out hR]; omega
      have x1 : IntKind.i64.wrap (z1 + 1023) = z1 + 1023 := by rw [Go.IntKind.wrap_i64]; omega
      have x2 : (2047 : Int) ≤ z1 + 1023 := by omega
      have x3 : decide ((2047 : Int) ≤ z1 + 1023) = true := decide_eq_true x2
      have k1 : Go.bits .and .u64 0 4503599627370495 = 0 := by decide +kernel
      have k2 : Go.bits .and .i64 2047 2047 = 2047 := by decide +kernel
      have k3 : Go.bits .or .u64 0 9218868437227405312 = 9218868437227405312 := by decide +kernel
      have k4 : Go.bits .or .u64 9218868437227405312 9223372036854775808 = 18442240474082181120 := by decide +kernel
      clear hz1 hZ hl hinf
      subst h53
      go_wp2_with fail
      go_quiet (fail)
      go_wp2_with fail
      go_step3
      refine Exit.hop_goto _ _ rfl ?_
      go_wp2_with fail
      go_quiet (fail)
      go_wp2_with fail
      go_step3
      go_wp2_with fail
      go_quiet (fail)
      cases ng
      · go_wp2_with fail
        try rw [Exit.hop_ret]
        go_ret2
        first | exact ⟨_, true, rfl, ans_inf HI.out (by decide +kernel), below_drewN HB4.out _⟩ | exact ⟨_, true, rfl, ans_inf HI.out (by decide +kernel), below_drewN (below_drewN HB4.out _) _⟩
      go_wp2_with fail
      go_quiet (fail)
      go_wp2_with fail
      try rw [Exit.hop_ret]
      go_ret2
      first | exact ⟨_, true, rfl, ans_inf HI.out (by decide +kernel), below_drewN HB4.out _⟩ | exact ⟨_, true, rfl, ans_inf HI.out (by decide +kernel), below_drewN (below_drewN HB4.out _) _⟩
    obtain ⟨E, hE⟩ : ∃ E, E = l0 + 2 := ⟨_, rfl⟩
    obtain ⟨r, hr⟩ : ∃ r, r = l0 * 4503599627370496 + M := ⟨_, rfl⟩
    have hN := HN0.out
    rw [← hr] at hN
    have HN := Lib.hid hN
    have HR : Hid (r < 9218868437227405312) := Lib.hid (by omega)
    obtain ⟨zz, yy, y63, o1, o2, o3, o4, o5, HO⟩ := out_facts2 0 E (by decide) (by omega)
    have HU : Hid (∀ ng, Ieee.double.word ng r = if ng then y63 else yy) := Lib.hid fun ng => by
      obtain ⟨q1, q2⟩ := HO.out
      rw [word_sgB]
      cases ng
      · rw [show sgB false = 0 from rfl, if_neg (by decide)]; omega
      rw [show sgB true = 9223372036854775808 from rfl, if_pos rfl]; omega
    have x1 : IntKind.i64.wrap (z1 + 1023) = (E : Int) := by rw [Go.IntKind.wrap_i64]; omega
    have x1b : z1 + 1023 = (E : Int) := by omega
    have x2 : ¬ (2047 : Int) ≤ (E : Int) := by omega
    have x3 : decide ((2047 : Int) ≤ (E : Int)) = false := decide_eq_false x2
    have k1 : Go.bits .and .u64 4503599627370496 4503599627370495 = 0 := by decide +kernel
    have o4' : Go.bits .or .u64 0 (zz : Int) = (yy : Int) := o4
    clear hz1 hZ hl hinf hE hr hN o4 HN0 HM HL0 HO
    subst h53
    go_wp2_with fail
    go_quiet (fail)
    go_wp2_with fail
    go_step3
    refine Exit.hop_goto _ _ rfl ?_
    go_wp2_with fail
    go_quiet (fail)
    cases ng
    · go_wp2_with fail
      try rw [Exit.hop_ret]
      go_ret2
      first | exact ⟨_, false, rfl, ans_fin HN.out HR.out (by rw [HU.out]; rfl), below_drewN HB4.out _⟩ | exact ⟨_, false, rfl, ans_fin HN.out HR.out (by rw [HU.out]; rfl), below_drewN (below_drewN HB4.out _) _⟩
    go_wp2_with fail
    go_quiet (fail)
    go_wp2_with fail
    try rw [Exit.hop_ret]
    go_ret2
    first | exact ⟨_, false, rfl, ans_fin HN.out HR.out (by rw [HU.out]; rfl), below_drewN HB4.out _⟩ | exact ⟨_, false, rfl, ans_fin HN.out HR.out (by rw [HU.out]; rfl), below_drewN (below_drewN HB4.out _) _⟩
  have hM := HM.out
  have hZ := HZ.out
  have hl := HL0.out
  have f53 : ((M : Int) == 9007199254740992) = false := by simp; omega
  obtain ⟨r, hr⟩ : ∃ r, r = l0 * 4503599627370496 + M := ⟨_, rfl⟩
  have hN := HN0.out
  rw [← hr] at hN
  have HN := Lib.hid hN
  have HR : Hid (r < 9218868437227405312) := Lib.hid (by omega)
  by_cases hlo : 4503599627370496 ≤ M
  · obtain ⟨E, hE⟩ : ∃ E, E = l0 + 1 := ⟨_, rfl⟩
    obtain ⟨x0, hx0⟩ : ∃ x0, x0 = M % 4503599627370496 := ⟨_, rfl⟩
    have k1 := and_low52 M (by omega)
    rw [← hx0] at k1
    have k5 : Go.bits .and .u64 (M : Int) 4503599627370496 = 4503599627370496 := by rw [and52 M (by omega), show M / 4503599627370496 % 2 * 4503599627370496 = 4503599627370496 by omega]; rfl
    obtain ⟨zz, yy, y63, o1, o2, o3, o4, o5, HO⟩ := out_facts2 x0 E (by omega) (by omega)
    have HU : Hid (∀ ng, Ieee.double.word ng r = if ng then y63 else yy) := Lib.hid fun ng => by
      obtain ⟨q1, q2⟩ := HO.out
      rw [word_sgB]
      cases ng
      · rw [show sgB false = 0 from rfl, if_neg (by decide)]; omega
      rw [show sgB true = 9223372036854775808 from rfl, if_pos rfl]; omega
    have x1 : IntKind.i64.wrap (z + 1023) = (E : Int) := by rw [Go.IntKind.wrap_i64]; omega
    have x1b : z + 1023 = (E : Int) := by omega
    have x1c : wrap64 (E : Int) = (E : Int) := by unfold wrap64; omega
    clear hM hZ hl hE hr hN HN0 HM HL0 HO hx0 hlo h53 k0
    go_wp2_with fail
    go_step3
    refine Exit.hop_goto _ _ rfl ?_
    go_wp2_with fail
    go_quiet (fail)
    cases ng
    · go_wp2_with fail
      try rw [Exit.hop_ret]
      go_ret2
      first | exact ⟨_, false, rfl, ans_fin HN.out HR.out (by rw [HU.out]; rfl), below_drewN HB4.out _⟩ | exact ⟨_, false, rfl, ans_fin HN.out HR.out (by rw [HU.out]; rfl), below_drewN (below_drewN HB4.out _) _⟩
    go_wp2_with fail
    go_quiet (fail)
    go_wp2_with fail
    try rw [Exit.hop_ret]
    go_ret2
    first | exact ⟨_, false, rfl, ans_fin HN.out HR.out (by rw [HU.out]; rfl), below_drewN HB4.out _⟩ | exact ⟨_, false, rfl, ans_fin HN.out HR.out (by rw [HU.out]; rfl), below_drewN (below_drewN HB4.out _) _⟩
  have hz : z = -1022 := by omega
  obtain ⟨y63, h63⟩ : ∃ y63, y63 = 9223372036854775808 + M := ⟨_, rfl⟩
  have k1 := and_low52 M (by omega)
  rw [Nat.mod_eq_of_lt (by omega)] at k1
  have k5 : Go.bits .and .u64 (M : Int) 4503599627370496 = 0 := by rw [and52 M (by omega), show M / 4503599627370496 % 2 * 4503599627370496 = 0 by omega]; rfl
  have k2 : Go.bits .and .i64 0 2047 = 0 := by decide +kernel
  have k3 : Go.bits .or .u64 (M : Int) 0 = (M : Int) := or_zero64 M (by omega)
  have k4 : Go.bits .or .u64 (M : Int) 9223372036854775808 = (y63 : Int) := by
    have := Go.u64_or_nat M 9223372036854775808 (by omega) (by omega)
    rw [show ((9223372036854775808 : Nat) : Int) = 9223372036854775808 from rfl] at this
    rw [this, Nat.or_comm, Go.nat_join 63 9223372036854775808 M (by decide) (by omega), h63]
  have HU : Hid (∀ ng, Ieee.double.word ng r = if ng then y63 else M) := Lib.hid fun ng => by
    rw [word_sgB]
    cases ng
    · rw [show sgB false = 0 from rfl, if_neg (by decide)]; omega
    rw [show sgB true = 9223372036854775808 from rfl, if_pos rfl]; omega
  clear hM hZ hl hr hN HN0 HM HL0 hlo h53 k0 h63
  go_wp2_with fail
  go_step3
  refine Exit.hop_goto _ _ rfl ?_
  go_wp2_with fail
  go_quiet (fail)
  cases ng
  · go_wp2_with fail
    try rw [Exit.hop_ret]
    go_ret2
    first | exact ⟨_, false, rfl, ans_fin HN.out HR.out (by rw [HU.out]; rfl), below_drewN HB4.out _⟩ | exact ⟨_, false, rfl, ans_fin HN.out HR.out (by rw [HU.out]; rfl), below_drewN (below_drewN HB4.out _) _⟩
  go_wp2_with fail
  go_quiet (fail)
  go_wp2_with fail
  try rw [Exit.hop_ret]
  go_ret2
  first | exact ⟨_, false, rfl, ans_fin HN.out HR.out (by rw [HU.out]; rfl), below_drewN HB4.out _⟩ | exact ⟨_, false, rfl, ans_fin HN.out HR.out (by rw [HU.out]; rfl), below_drewN (below_drewN HB4.out _) _⟩
end Go.Proofs.YtjpiplplohapnaaGreatDoor
namespace Go.Proofs.YtjpiplplohapnaaGreatDoor
open Go.RowKit Go.Proofs.YtjpiplplohapnaaGreatDoorW.PrintWords Dc Nr Us
set_option maxRecDepth 100000 in
set_option maxHeartbeats 2000000 in
theorem fb_over (w : World) (g B : Nat) (hLB : LaidD w) (s : St) (hs : Weak s) (ng : Bool) (hdp1 : 310 < s.dp) (hdp2 : s.dp ≤ 1000) (h : s.is w g ng) (hb0 : B ≤ w.heap.size) :
    Calls Tryz.prog 149 #[.pointer (some ⟨g, 0, none⟩), .pointer (some ⟨6, 0, none⟩)] w (FbPost g B s ng w) := by
  have cnd : w.cell? ⟨g, 800, none⟩ = some (.int .i64 (s.nd : Nat)) := IsDec.cnd h
  have cdp : w.cell? ⟨g, 801, none⟩ = some (.int .i64 s.dp) := IsDec.cdp h
  have cng := IsDec.cng h
  have f0 : (((s.nd : Nat) : Int) == 0) = false := by have := hs.pos; simp; omega
  have f2 : decide (310 < s.dp) = true := decide_eq_true hdp1
  have HI := Lib.hid (fb_great hs hdp1 hdp2)
  obtain ⟨i0, i1, i2⟩ := hLB.laid.infCell
  have k1 : Go.bits .and .u64 0 4503599627370495 = 0 := by decide +kernel
  have k2 : Go.bits .and .i64 2047 2047 = 2047 := by decide +kernel
  have k3 : Go.bits .or .u64 0 9218868437227405312 = 9218868437227405312 := by decide +kernel
  have k4 : Go.bits .or .u64 9218868437227405312 9223372036854775808 = 18442240474082181120 := by decide +kernel
  clear hs h hLB hdp2 hb0
  generalize s.dp = p at *
  go_enter Tryz.func149, Tryz.ntmps149
  go_wp2_with fail
  refine wp_scope_hop 3 ?_
  go_wp2_with fail
  go_step3
  refine Exit.hop_goto _ _ rfl ?_
  go_wp2_with fail
  go_quiet (fail)
  go_wp2_with fail
  go_step3
  go_wp2_with fail
  go_quiet (fail)
  cases ng
  · go_wp2_with fail
    try rw [Exit.hop_ret]
    go_ret2
    exact ⟨_, true, rfl, ans_inf HI.out (by decide +kernel), below_drewN (Below.refl _ _) _⟩
  go_wp2_with fail
  go_quiet (fail)
  go_wp2_with fail
  try rw [Exit.hop_ret]
  go_ret2
  first | exact ⟨_, true, rfl, ans_inf HI.out (by decide +kernel), below_drewN (Below.refl _ _) _⟩ | exact ⟨_, true, rfl, ans_inf HI.out (by decide +kernel), below_drewN (below_drewN (Below.refl _ _) _) _⟩
theorem fb_all (w : World) (g B : Nat) (hB : B ≤ g) (hB2 : B ≤ w.heap.size) (hLB : ∀ w', Below B w w' → LaidD w') (s : St) (hs : Weak s) (htr : s.tr = false) (hnd : s.nd ≤ 400) (ng : Bool) (hdp1 : -326 ≤ s.dp) (hdp2 : s.dp ≤ 1000) (h : s.is w g ng) :
    Calls Tryz.prog 149 #[.pointer (some ⟨g, 0, none⟩), .pointer (some ⟨6, 0, none⟩)] w (FbPost g B s ng w) := by
  by_cases h310 : 310 < s.dp
  · exact fb_over w g B (hLB w (Below.refl _ _)) s hs ng h310 hdp2 h hB2
  exact fb_walk w g B hB hLB s hs htr hnd ng hdp1 (by omega) h
end Go.Proofs.YtjpiplplohapnaaGreatDoor
namespace Go.Proofs.YtjpiplplohapnaaGreatDoor.Dc
theorem assign_val {d' : Nat → Nat} {v L : Nat} {tr : Bool} (hd : ∀ i, i < L → d' i = 48 + v / 10 ^ (L - 1 - i) % 10) (hv1 : 10 ^ (L - 1) ≤ v) (hv2 : v < 10 ^ L) (hL0 : 1 ≤ L) (hL : L ≤ 20) :
    Norm ⟨d', tl d' L, L, tr⟩ ∧ IsV ⟨d', tl d' L, L, tr⟩ v 0 ∧ tl d' L ≠ 0 := by
  have hpos : 0 < 10 ^ (L - 1) := Nat.pow_pos (by decide)
  have h0 : d' 0 ≠ 48 := by
    rw [hd 0 hL0, Nat.sub_zero]
    have h1 : 1 ≤ v / 10 ^ (L - 1) := Nat.div_pos hv1 hpos
    have h2 : v / 10 ^ (L - 1) < 10 := by
      rw [Nat.div_lt_iff_lt_mul hpos, Nat.mul_comm, ← Nat.pow_succ]
      rw [show (L - 1).succ = L by omega]; exact hv2
    omega
  have hn := norm_of (dp := L) (tr := tr) hL0 (by omega) h0 (fun i hi => ⟨_, hd i hi⟩)
  have hle := tl_le d' L
  refine ⟨hn, ?_, by have := tl_pos d' h0 L hL0; omega⟩
  intro a b hab
  have hab' : (a : Int) - b = (L : Int) - (tl d' L : Nat) := hab
  have h1 := N_tail d' hle (fun i h1 h2 => tl_zero d' L i h1 h2)
  have h2 : N (fun i => d' i - 48) L = v / 10 ^ (L - L) := N_cut hv2 L (Nat.le_refl _) (fun i hi => by rw [hd i hi]; omega)
  rw [Nat.sub_self, Nat.pow_zero, Nat.div_one] at h2
  rw [h2] at h1
  show N (dig d' (tl d' L)) (tl d' L) * 10 ^ a * 2 ^ 0 = v * 10 ^ b
  rw [Nat.pow_zero, Nat.mul_one, h1, show a = L - tl d' L + b by omega, Nat.pow_add, Nat.mul_assoc]
theorem lefts_val {k : Nat} {s t : St} (h : Lefts k s t) : Norm s → s.tr = false → ∀ n K, IsV s n 0 → n * 2 ^ k < 10 ^ K → K ≤ 799 → IsV t (n * 2 ^ k) 0 ∧ t.tr = false := by
  have step : ∀ {k : Nat} {s t : St}, Norm s → s.tr = false → ∀ n K, IsV s n 0 → n * 2 ^ k < 10 ^ K → K ≤ 799 → LStep k s t → IsV t (n * 2 ^ k) 0 ∧ t.tr = false := by
    intro k s t hs htr n K hv hb hK ⟨L, W, h1, h2, h3, h4⟩
    have hpl := places_le hs hv
    have hX : s.X ≤ n := by
      have := hv ((s.dp - s.nd).toNat) 0 (by omega)
      simp only [Nat.pow_zero, Nat.mul_one] at this
      rw [← this]
      exact Nat.le_mul_of_pos_right _ (Nat.pow_pos (by decide))
    have hlo : 10 ^ (L - 1) < 10 ^ K := by
      have h5 : 10 ^ (L - 1) ≤ s.X * 2 ^ k := h1.lo
      have h6 : s.X * 2 ^ k ≤ n * 2 ^ k := Nat.mul_le_mul_right _ hX
      exact Nat.lt_of_le_of_lt (Nat.le_trans h5 h6) hb
    have hL : L ≤ 800 := by
      rcases Nat.lt_or_ge 800 L with h | h
      · exfalso
        have : 10 ^ K ≤ 10 ^ (L - 1) := Nat.pow_le_pow_right (by decide) (by omega)
        exact absurd hlo (Nat.not_lt.2 this)
      exact h
    refine ⟨left_val hs h1 h2 h3 hL hv, ?_⟩
    rw [h4, htr, lostL_none _ L hL L (by have := h1.wide; have := hs.pos; omega)]; rfl
  induction h with
  | one _ _ hst => intro hs htr n K hv hb hK; exact step hs htr n K hv hb hK hst
  | @more k s t u hk hst hn _ ih =>
    intro hs htr n K hv hb hK
    rw [Nat.add_comm, Nat.pow_add, ← Nat.mul_assoc] at hb
    obtain ⟨h1, h2⟩ := step hs htr n K hv (Nat.lt_of_le_of_lt (Nat.le_mul_of_pos_right _ (Nat.pow_pos (by decide))) hb) hK hst
    obtain ⟨h3, h4⟩ := ih hn h2 _ K h1 hb hK
    rw [Nat.add_comm k 60, Nat.pow_add, ← Nat.mul_assoc]
    exact ⟨h3, h4⟩
theorem rights_val {k : Nat} {s t : St} (h : Rights k s t) : Norm s → s.tr = false → ∀ n r, IsV s n r → 10 * s.dp + 3 * (r : Int) ≤ 170 → r + k ≤ 1074 → IsV t n (r + k) ∧ t.tr = false := by
  have step : ∀ {k : Nat} {s t : St}, k ≤ 60 → Norm s → s.tr = false → ∀ n r, IsV s n r → 10 * s.dp + 3 * (r : Int) ≤ 170 → r + k ≤ 1074 → RStep k s t → (IsV t n (r + k) ∧ t.tr = false) ∧ (k = 60 → t.dp ≤ s.dp - 18) := by
    intro k s t hk hs htr n r hv hb hr ⟨r0, T, W, h1, h2, h3, h4⟩
    have hpl := places_le hs hv
    have hbd : s.nd + k + 1 ≤ r0 + 800 := by omega
    obtain ⟨T', hT1, hT2⟩ := rs_cut h1 hbd
    refine ⟨⟨right_val hs hk hT1 h2 h3 hT2 hv, ?_⟩, fun h60 => ?_⟩
    · rw [h4, htr, lost_none hbd]; rfl
    have h5 := h1.lead.hi
    have h6 := N_lt (fun i => hs.dig9 i) r0
    have h7 : 19 ≤ r0 := by
      rcases Nat.lt_or_ge r0 19 with h | h
      · exfalso
        have h8 : 10 ^ r0 ≤ 10 ^ 18 := Nat.pow_le_pow_right (by decide) (by omega)
        have h9 : (10 : Nat) ^ 18 < 2 ^ 60 := by decide
        rw [h60] at h5
        omega
      exact h
    rw [h3]; omega
  induction h with
  | one _ hk hst => intro hs htr n r hv hb hr; exact (step hk hs htr n r hv hb hr hst).1
  | @more k s t u hk hst hn _ ih =>
    intro hs htr n r hv hb hr
    obtain ⟨⟨h1, h2⟩, h3⟩ := step (Nat.le_refl _) hs htr n r hv hb (by omega) hst
    have h4 := h3 rfl
    obtain ⟨h5, h6⟩ := ih hn h2 n (r + 60) h1 (by omega) (by omega)
    rw [show r + (k + 60) = r + 60 + k by omega]
    exact ⟨h5, h6⟩
end Go.Proofs.YtjpiplplohapnaaGreatDoor.Dc
namespace Go.Proofs.YtjpiplplohapnaaGreatDoor.Us
open Nr Dc
def l2 (e : Int) : Int := e * 78913 / 262144
def dgF (x c : Int) : Int := if 0 ≤ x then 1 + l2 (1 + x) + c else 1 + c - l2 (-x)
def wN (m : Nat) (x : Int) : Nat := m * 2 ^ (x - 52).toNat
def wR (x : Int) : Nat := (52 - x).toNat
def fP (x c : Int) : Int := dgF x c - 1 - l2 x
def fS (x c : Int) : Int := 60 - x - lp (fP x c)
def fD (x c : Int) : Nat := den (fP x c) * (340282366920938463463374607431768211456 * 2 ^ (fS x c).toNat)
def fcheck (x c : Int) : Bool :=
  !(decide (1 ≤ dgF x c) && decide (dgF x c ≤ 18)) || decide ((fP x c = c ∨ fP x c = c + 1) ∧ 0 ≤ fS x c ∧ fS x c ≤ 63 ∧ fP x c ≤ 31 ∧
    18446744073709551616 * num (fP x c) ≤ 9223372036854775808 * fD x c ∧ (fP x c = c → 18446744073709551616 * num (fP x c) ≤ (4 * 10 ^ (dgF x c).toNat - 4) * fD x c))
set_option maxRecDepth 100000 in
theorem fchecks : ∀ i : Fin 161, ∀ c : Fin 31, fcheck ((i.val : Int) - 102) (c.val : Int) = true := by decide +kernel
theorem fast_ok {x : Int} {c : Nat} (hc : c ≤ 30) (h1 : 1 ≤ dgF x c) (h18 : dgF x c ≤ 18) :
    (fP x c = c ∨ fP x c = c + 1) ∧ 0 ≤ fS x c ∧ fS x c ≤ 63 ∧ fP x c ≤ 31 ∧ 18446744073709551616 * num (fP x c) ≤ 9223372036854775808 * fD x c ∧ (fP x c = c → 18446744073709551616 * num (fP x c) ≤ (4 * 10 ^ (dgF x c).toNat - 4) * fD x c) := by
  have hx : -102 ≤ x ∧ x ≤ 58 := by
    unfold dgF l2 at h1 h18
    by_cases h : 0 ≤ x
    · rw [if_pos h] at h1 h18; omega
    rw [if_neg h] at h1 h18; omega
  have h := fchecks ⟨(x + 102).toNat, by omega⟩ ⟨c, by omega⟩
  have e : (((⟨(x + 102).toNat, by omega⟩ : Fin 161).val : Nat) : Int) - 102 = x := by
    show (((x + 102).toNat : Nat) : Int) - 102 = x
    omega
  rw [e] at h
  have h' : fcheck x (c : Int) = true := h
  unfold fcheck at h'
  rw [decide_eq_true h1, decide_eq_true h18] at h'
  simp only [Bool.and_self, Bool.not_true, Bool.false_or] at h'
  exact of_decide_eq_true h'
theorem unr_le (N D : Nat) : unr N D ≤ N / D + 1 := by
  rcases unr_parts N D with ⟨_, h⟩ | ⟨_, h⟩ <;> rw [h] <;> omega
theorem rhe_cross {A Q A' Q' n : Nat} (hQ : 0 < Q) (hQ' : 0 < Q') (h : A * Q' = A' * Q) (hr : Rhe A Q n) : Rhe A' Q' n := by
  have h1 := rhe_scale' Q' hQ' hr
  rw [h, Nat.mul_comm Q Q'] at h1
  exact rhe_scale Q hQ h1
theorem fast_cross {x : Int} {c m j : Nat} (hc : c ≤ 30) (h1 : 1 ≤ dgF x c) (h18 : dgF x c ≤ 18) (hj : fP x c = c + j) : m * 2048 * num (fP x c) * 2 ^ wR x = wN m x * 10 ^ c * (4 * (fD x c * 10 ^ j)) := by
  obtain ⟨-, hs0, hs1, hP, -⟩ := fast_ok hc h1 h18
  have hx : -102 ≤ x ∧ x ≤ 58 := by
    unfold dgF l2 at h1 h18
    by_cases h : 0 ≤ x
    · rw [if_pos h] at h1 h18; omega
    rw [if_neg h] at h1 h18; omega
  have hden : den (fP x c) = 1 := den_nonneg (by omega) hP
  have hlp : lp (fP x c) ≤ 103 := by unfold lp; omega
  have hlp0 : 0 ≤ lp (fP x c) := by unfold lp; omega
  have hS : fS x c = 60 - x - lp (fP x c) := rfl
  unfold num fD wN wR
  rw [hden]
  rw [hj] at hP hlp hlp0 hS ⊢
  generalize fS x c = S at hs0 hs1 hS ⊢
  have hlpj : ∃ l : Nat, lp ((c : Int) + j) = l := ⟨(lp ((c : Int) + j)).toNat, by omega⟩
  obtain ⟨l, hl⟩ := hlpj
  rw [hl] at hlp hlp0 hS ⊢
  rw [show ((c : Int) + (j : Int)).toNat = c + j by omega, Nat.pow_add, show ((127 : Int) - (l : Int)).toNat = 127 - l by omega]
  have hW : (340282366920938463463374607431768211456 : Nat) = 2 ^ 128 := by decide
  have h2048 : (2048 : Nat) = 2 ^ 11 := by decide
  have h4 : (4 : Nat) = 2 ^ 2 := by decide
  rw [hW, h2048, h4, Nat.one_mul]
  have e : 2 ^ 11 * 2 ^ (127 - l) * 2 ^ (52 - x).toNat = 2 ^ (x - 52).toNat * 2 ^ 2 * 2 ^ 128 * 2 ^ S.toNat := by
    rw [← Nat.pow_add, ← Nat.pow_add, ← Nat.pow_add, ← Nat.pow_add, ← Nat.pow_add]
    congr 1; omega
  generalize 2 ^ 11 = u1 at *
  generalize 2 ^ (127 - l) = u2 at *
  generalize 2 ^ (52 - x).toNat = u3 at *
  generalize 2 ^ (x - 52).toNat = u4 at *
  generalize 2 ^ 2 = u5 at *
  generalize 2 ^ 128 = u6 at *
  generalize 2 ^ S.toNat = u7 at *
  generalize 10 ^ c = v1 at *
  generalize 10 ^ j = v2 at *
  calc m * u1 * (v1 * v2 * u2) * u3 = m * v1 * v2 * (u1 * u2 * u3) := by grind
    _ = m * v1 * v2 * (u4 * u5 * u6 * u7) := by rw [e]
    _ = m * u4 * v1 * (u5 * (u6 * u7 * v2)) := by grind
def fU (x : Int) (c m : Nat) (r : Nat × Nat) : Nat := usc (m * 2048) r.1 r.2 (fS x c).toNat
theorem fU_eq {x : Int} {c m : Nat} (hc : c ≤ 30) (hm1 : 4503599627370496 ≤ m) (hm2 : m < 9007199254740992) (h1 : 1 ≤ dgF x c) (h18 : dgF x c ≤ 18) {i : Nat} {r : Nat × Nat} (hi : Pinned.pow10Rows[i]? = some r) (hP : fP x c = (i : Int) - 348) :
    fU x c m r = unr (m * 2048 * num (fP x c)) (fD x c) := by
  obtain ⟨h0, hs0, hs1, hP31, -⟩ := fast_ok hc h1 h18
  obtain ⟨hr, -⟩ := row_ok hi
  have hcl := clean_print (x := m * 2048) (s := (fS x c).toNat) hi (by rw [← hP]; omega) (by omega)
  have := usc_ok (by omega) (by omega) hr hcl
  unfold fU fD
  rw [this, hP]
theorem fast_main {x : Int} {c m : Nat} (hc : c ≤ 30) (hm1 : 4503599627370496 ≤ m) (hm2 : m < 9007199254740992) (h1 : 1 ≤ dgF x c) (h18 : dgF x c ≤ 18) {i : Nat} {r : Nat × Nat} (hi : Pinned.pow10Rows[i]? = some r) (hP : fP x c = (i : Int) - 348) :
    fU x c m r ≤ 9223372036854775808 ∧
    ((fP x c = c ∧ fU x c m r < 4 * 10 ^ (dgF x c).toNat - 2 ∧ Rhe (wN m x * 10 ^ c) (2 ^ wR x) (rnd (fU x c m r))) ∨
     (fP x c = c + 1 ∧ Rhe (wN m x * 10 ^ c) (2 ^ wR x) (rnd (stick (fU x c m r / 10) (decide (fU x c m r % 2 = 1) || decide (fU x c m r % 10 ≠ 0)))))) := by
  obtain ⟨h0, hs0, hs1, hP31, hb1, hb2⟩ := fast_ok hc h1 h18
  have hU := fU_eq hc hm1 hm2 h1 h18 hi hP
  have hnum : 0 < num (fP x c) := Nat.mul_pos (Nat.pow_pos (by decide)) (Nat.pow_pos (by decide))
  have hden : 0 < fD x c := Nat.mul_pos (Nat.mul_pos (Nat.pow_pos (by decide)) (Nat.pow_pos (by decide))) (Nat.mul_pos (by decide) (Nat.pow_pos (by decide)))
  have hlt : m * 2048 * num (fP x c) < 18446744073709551616 * num (fP x c) := Nat.mul_lt_mul_of_pos_right (by omega) hnum
  have hul := unr_le (m * 2048 * num (fP x c)) (fD x c)
  refine ⟨?_, ?_⟩
  · rw [hU]
    have : m * 2048 * num (fP x c) / fD x c < 9223372036854775808 := by
      rw [Nat.div_lt_iff_lt_mul hden]; omega
    omega
  rcases h0 with h | h
  · left
    refine ⟨h, ?_, ?_⟩
    · have hb := hb2 h
      have h10 : 10 ≤ 10 ^ (dgF x c).toNat := by
        obtain ⟨k, hk⟩ : ∃ k, (dgF x c).toNat = k + 1 := ⟨(dgF x c).toNat - 1, by omega⟩
        rw [hk, Nat.pow_succ]
        have := Nat.pow_pos (a := 10) (n := k) (by decide)
        omega
      have : m * 2048 * num (fP x c) / fD x c < 4 * 10 ^ (dgF x c).toNat - 4 := by
        rw [Nat.div_lt_iff_lt_mul hden]; omega
      rw [hU]
      omega
    rw [hU]
    have hr := rnd_rhe (N := m * 2048 * num (fP x c)) hden
    refine rhe_cross (Nat.mul_pos (by decide) hden) (Nat.pow_pos (by decide)) ?_ hr
    have := fast_cross (m := m) (j := 0) hc h1 h18 (by omega)
    rw [Nat.pow_zero, Nat.mul_one] at this
    exact this
  right
  refine ⟨h, ?_⟩
  rw [hU, ← unr_scale hden (by decide) (by decide)]
  have hr := rnd_rhe (N := m * 2048 * num (fP x c)) (D := fD x c * 10) (Nat.mul_pos hden (by decide))
  refine rhe_cross (Nat.mul_pos (by decide) (Nat.mul_pos hden (by decide))) (Nat.pow_pos (by decide)) ?_ hr
  exact fast_cross (m := m) (j := 1) hc h1 h18 (by omega)
set_option maxRecDepth 100000 in
theorem l2_ok : ∀ i : Fin 1100, 10 ^ (l2 (i.val : Int)).toNat ≤ 2 ^ i.val := by decide +kernel
theorem fast_none {x : Int} {c m : Nat} (hx : -1022 ≤ x) (hm2 : m < 9007199254740992) (h : dgF x c ≤ 0) : Rhe (wN m x * 10 ^ c) (2 ^ wR x) 0 := by
  have hx0 : x < 0 := by
    unfold dgF l2 at h
    by_cases h' : 0 ≤ x
    · rw [if_pos h'] at h; omega
    omega
  unfold dgF at h
  rw [if_neg (by omega)] at h
  obtain ⟨E, hE⟩ : ∃ E : Nat, -x = E := ⟨(-x).toNat, by omega⟩
  have hl := l2_ok ⟨E, by omega⟩
  have hl' : 10 ^ (l2 (E : Int)).toNat ≤ 2 ^ E := hl
  rw [hE] at h
  have h2 : 10 ^ (c + 1) ≤ 10 ^ (l2 (E : Int)).toNat := Nat.pow_le_pow_right (by decide) (by omega)
  unfold wN wR
  rw [show (x - 52).toNat = 0 by omega, Nat.pow_zero, Nat.mul_one, show (52 - x).toNat = 52 + E by omega, Nat.pow_add]
  have h52 : (2 : Nat) ^ 52 = 4503599627370496 := by decide
  rw [h52]
  rw [Nat.pow_succ] at h2
  have h3 : m * 10 ^ c ≤ 9007199254740992 * 10 ^ c := Nat.mul_le_mul_right _ (by omega)
  have h4 : 0 < 2 ^ E := Nat.pow_pos (by decide)
  exact rhe_down (q := 0) (R := m * 10 ^ c) (by omega) (by omega) (by omega) (fun _ => rfl)
theorem set_atP {d : Nat → Nat} {Q L c : Nat} (hd : ∀ i, i < L → d i = 48 + Q / 10 ^ (L - 1 - i) % 10) (h1 : 10 ^ (L - 1) ≤ Q) (h2 : Q < 10 ^ L) (hL0 : 1 ≤ L) (hL : L ≤ 20) :
    atP d (tl d L) ((L : Int) - c) c = Q ∧ (∀ i, i < tl d L → 48 ≤ d i ∧ d i ≤ 57) ∧ 0 < tl d L ∧ d 0 ≠ 48 := by
  obtain ⟨hn, hv, h0⟩ := assign_val (tr := false) hd h1 h2 hL0 hL
  refine ⟨?_, hn.dgs, hn.pos, hn.first⟩
  unfold atP
  rw [if_pos (by omega), show ((L : Int) - (c : Int) + (c : Int)).toNat = L by omega]
  have hle := tl_le d L
  have h3 := N_tail d hle (fun i h1 h2 => tl_zero d L i h1 h2)
  have h4 : N (fun i => d i - 48) L = Q / 10 ^ (L - L) := N_cut h2 L (Nat.le_refl _) (fun i hi => by rw [hd i hi]; omega)
  rw [Nat.sub_self, Nat.pow_zero, Nat.div_one] at h4
  rw [h4] at h3
  have h5 := N_pow d (tl d L) (L - tl d L)
  rw [show tl d L + (L - tl d L) = L by omega] at h5
  rw [h5, ← h3]
end Go.Proofs.YtjpiplplohapnaaGreatDoor.Us
namespace Go.Proofs.YtjpiplplohapnaaGreatDoor
open Go.RowKit Go.Proofs.YtjpiplplohapnaaGreatDoorW.PrintWords Dc
namespace Dc
def bcells (b : Nat → Nat) : Array Value := Array.ofFn (n := 24) fun i => .int .u8 (b i.val : Nat)
def IsBuf (w : World) (h : Nat) (b : Nat → Nat) : Prop := w.heap[h]? = some (.cells (bcells b) 126 (0, 0))
theorem bcells_get (b : Nat → Nat) (i : Nat) (h : i < 24) : (bcells b)[i]? = some (.int .u8 (b i : Nat)) := by
  unfold bcells
  rw [Array.getElem?_ofFn, dif_pos h]
theorem bcells_size (b : Nat → Nat) : (bcells b).size = 24 := Array.size_ofFn
theorem bcells_set (b : Nat → Nat) (i v : Nat) (hi : i < 24) : (bcells b).setIfInBounds i (.int .u8 (v : Nat)) = bcells (upd b i v) := by
  apply Array.ext_getElem?
  intro j
  by_cases hj : j < 24
  · rw [bcells_get _ j hj, Array.getElem?_setIfInBounds, bcells_get _ j hj, bcells_size]
    unfold upd
    by_cases e : i = j
    · rw [if_pos e, if_pos hi, if_pos e.symm]
    rw [if_neg e, if_neg (c := j = i) (fun h => e h.symm)]
  rw [Array.getElem?_eq_none (by rw [Array.size_setIfInBounds, bcells_size]; omega), Array.getElem?_eq_none (by rw [bcells_size]; omega)]
theorem IsBuf.byte {w : World} {h : Nat} {b : Nat → Nat} (hb : IsBuf w h b) (i : Nat) (hi : i < 24) : w.cell? ⟨h, i, none⟩ = some (.int .u8 (b i : Nat)) := (blk_cell hb i).trans (bcells_get b i hi)
theorem IsBuf.setByte {w : World} {h : Nat} {b : Nat → Nat} (hb : IsBuf w h b) (i v : Nat) (hi : i < 24) : IsBuf (w.setCell ⟨h, i, none⟩ (.int .u8 (v : Nat))) h (upd b i v) := blk_put hb i _ (bcells_set b i v hi)
theorem IsBuf.far {w : World} {h g : Nat} {b : Nat → Nat} (hb : IsBuf w h b) (hne : h ≠ g) (i : Nat) (u : Value) : IsBuf (w.setCell ⟨g, i, none⟩ u) h b := (Below.heap_setCell w ⟨g, i, none⟩ u h hne).trans hb
theorem IsDec.far {w : World} {g h : Nat} {d : Nat → Nat} {nd dp : Int} {ng tr : Bool} (hd : IsDec w g d nd dp ng tr) (hne : g ≠ h) (i : Nat) (u : Value) : IsDec (w.setCell ⟨h, i, none⟩ u) g d nd dp ng tr := (Below.heap_setCell w ⟨h, i, none⟩ u g hne).trans hd
theorem IsBuf.frozen {w : World} {h : Nat} {b : Nat → Nat} (hb : IsBuf w h b) (i : Nat) : w.frozen? ⟨h, i, none⟩ = false := blk_frozen hb i
theorem bzero : bcells (fun _ => 0) = #[.int .u8 0, .int .u8 0, .int .u8 0, .int .u8 0, .int .u8 0, .int .u8 0, .int .u8 0, .int .u8 0, .int .u8 0, .int .u8 0, .int .u8 0, .int .u8 0, .int .u8 0, .int .u8 0, .int .u8 0, .int .u8 0, .int .u8 0, .int .u8 0, .int .u8 0, .int .u8 0, .int .u8 0, .int .u8 0, .int .u8 0, .int .u8 0] := by rfl
end Dc
set_option maxRecDepth 100000 in
set_option maxHeartbeats 1500000 in
theorem assign_walk (w : World) (g B : Nat) (hB : B ≤ g) (d : Nat → Nat) (nd dp : Int) (ng tr : Bool) (v L : Nat) (hv1 : 10 ^ (L - 1) ≤ v) (hv2 : v < 10 ^ L) (hL0 : 1 ≤ L) (hL : L ≤ 20) (hv : v < 18446744073709551616) (h : IsDec w g d nd dp ng tr) :
    Calls Tryz.prog 128 #[.pointer (some ⟨g, 0, none⟩), .int .u64 v] w fun e w' => e = .returned (.tuple #[]) ∧ Below B w w' ∧ ∃ d', (∀ i, i < L → d' i = 48 + v / 10 ^ (L - 1 - i) % 10) ∧ IsDec w' g d' (tl d' L : Nat) (dpz (tl d' L) L) ng tr := by
  have hlt : g < w.heap.size := IsDec.lt h
  have HV := Lib.hid (And.intro hv1 hv2)
  have hd0 : IsDec (w.alloc (.cells (bcells fun _ => 0) 126)) g d nd dp ng tr := blk_below h (below_alloc (Below.refl _ _) _)
  have hbuf0 : IsBuf (w.alloc (.cells (bcells fun _ => 0) 126)) w.heap.size (fun _ => 0) := blk_new _ _
  have hb0 : Below B w (w.alloc (.cells (bcells fun _ => 0) 126)) := (below_alloc (Below.refl _ _) _).mono (by omega)
  rw [bzero] at hd0 hbuf0 hb0
  have HW := Lib.hid (And.intro hd0 (And.intro hbuf0 hb0))
  have hne : w.heap.size ≠ g := by omega
  clear hd0 hbuf0 hb0 hv1 hv2 h
  go_enter Tryz.func128, Tryz.ntmps128
  go_upto_block 0 with (fail)
  go_cut [5] (fun v5 w' => v5 = .int .i64 L ∧ ∃ b : Nat → Nat, Hid (∀ i, i < L → b i = 48 + v / 10 ^ i % 10) ∧ IsDec w' g d nd dp ng tr ∧ IsBuf w' w.heap.size b ∧ Below B w w')
  case first =>
    go_wp2_with fail
    go_loopg [1, 5] L (fun gn v1 v5 w' => ∃ (x j : Nat) (b : Nat → Nat), v1 = .int .u64 x ∧ v5 = .int .i64 j ∧ Hid (gn + j = L ∧ x = v / 10 ^ j ∧ (∀ i, i < j → b i = 48 + v / 10 ^ i % 10)) ∧ IsDec w' g d nd dp ng tr ∧ IsBuf w' w.heap.size b ∧ Below B w w')
    case atStart => exact ⟨v, 0, fun _ => 0, rfl, rfl, Lib.hid ⟨by omega, by simp, fun i hi => absurd hi (by omega)⟩, HW.out.1, HW.out.2.1, HW.out.2.2⟩
    case round =>
      obtain ⟨x, j, b, rfl, rfl, hH, hd, hbf, hb⟩ := hrel
      obtain ⟨hg, hx, hq⟩ := hH.out
      by_cases hz : x = 0
      · subst hz
        have hj : j = L := by
          rcases Nat.lt_or_ge j L with h1 | h1
          · exfalso
            have h2 : 10 ^ j ≤ 10 ^ (L - 1) := Nat.pow_le_pow_right (by decide) (by omega)
            have h3 : 0 < v / 10 ^ j := Nat.div_pos (Nat.le_trans h2 HV.out.1) (Nat.pow_pos (by decide))
            omega
          omega
        subst hj
        have HR := Lib.hid hq
        clear hH hg hx hq
        go_wp2_with fail
        go_meet
        case rel => exact ⟨rfl, b, HR, hd, hbf, hb⟩
      have hj : j < L := by
        rcases Nat.lt_or_ge j L with h1 | h1
        · exact h1
        exfalso
        have h2 : 10 ^ L ≤ 10 ^ j := Nat.pow_le_pow_right (by decide) h1
        have h3 : v / 10 ^ j = 0 := Nat.div_eq_of_lt (Nat.lt_of_lt_of_le HV.out.2 h2)
        omega
      have hxv : x ≤ v := by rw [hx]; exact Nat.div_le_self _ _
      obtain ⟨q, hqq⟩ : ∃ q, q = x / 10 := ⟨_, rfl⟩
      obtain ⟨m, hm⟩ : ∃ m, m = x % 10 := ⟨_, rfl⟩
      have hqn : q = v / 10 ^ (j + 1) := by rw [hqq, hx, Nat.div_div_eq_div_mul, ← Nat.pow_succ]
      have cv := hbf.byte j (by omega)
      have fb := hbf.frozen j
      generalize b j = bv at cv
      have x4 : (x : Int) / 10 = (q : Int) := by omega
      have x4b : Int.tdiv (x : Int) 10 = (q : Int) := by rw [Int.tdiv_eq_ediv_of_nonneg (by omega)]; omega
      have xq : IntKind.u64.wrap (q : Int) = (q : Int) := by rw [Go.IntKind.wrap_u64]; omega
      have x5 : IntKind.u64.wrap (10 * (q : Int)) = 10 * (q : Int) := by rw [Go.IntKind.wrap_u64]; omega
      have x6 : IntKind.u64.wrap ((x : Int) - 10 * (q : Int)) = (m : Int) := by rw [Go.IntKind.wrap_u64]; omega
      have x6b : (x : Int) - 10 * (q : Int) = (m : Int) := by omega
      have xm : IntKind.u64.wrap (m : Int) = (m : Int) := by rw [Go.IntKind.wrap_u64]; omega
      have x8 : IntKind.u64.wrap ((m : Int) + 48) = (m : Int) + 48 := by rw [Go.IntKind.wrap_u64]; omega
      have x9 : IntKind.u8.wrap ((m : Int) + 48) = ((48 + m : Nat) : Int) := by rw [Go.IntKind.wrap_u8]; omega
      have x9b : ((m : Int) + 48) % 256 = ((48 + m : Nat) : Int) := by omega
      have g0 : (0 : Int) < x := by omega
      have jI : (j : Int) < 24 := by omega
      have HR : Hid (gk - 1 < gk ∧ gk - 1 + (j + 1) = L ∧ q = v / 10 ^ (j + 1) ∧ (∀ i, i < j + 1 → upd b j (48 + m) i = 48 + v / 10 ^ i % 10)) := Lib.hid ⟨by omega, by omega, hqn, fun i hi => by
        unfold upd
        by_cases e : i = j
        · rw [if_pos e, e, hm, hx]
        rw [if_neg e]; exact hq i (by omega)⟩
      have HD2 := Lib.hid (hd.far (h := w.heap.size) (by omega) j (.int .u8 ((48 + m : Nat) : Int)))
      have HB2 := Lib.hid (hbf.setByte j (48 + m) (by omega))
      have HB3 := Lib.hid (hb.setCell (p := ⟨w.heap.size, j, none⟩) (by show B ≤ w.heap.size; omega) (.int .u8 ((48 + m : Nat) : Int)))
      clear hH hg hx hq hz hj hxv hqq hm hqn hd hbf hb
      go_wp2_with fail
      go_roundg (gk - 1)
      case measure => exact HR.out.1
      case rel => exact ⟨q, j + 1, upd b j (48 + m), rfl, by go_num, Lib.hid HR.out.2, HD2.out, HB2.out, HB3.out⟩
  obtain ⟨rfl, b, hH, hd, hbf, hb⟩ := hcut
  have cnd := hd.cnd
  have fnd := hd.frozen 800
  have xl : wrap64 ((L : Int) - 1) = (L : Int) - 1 := by unfold wrap64; omega
  have HI := Lib.hid (And.intro (hd.setNd 0) (And.intro (hbf.far (g := g) hne 800 (.int .i64 0)) (hb.setCell (p := ⟨g, 800, none⟩) hB (.int .i64 0))))
  clear hd hbf hb
  go_step
  go_wp2_with fail
  clear cnd fnd xl
  go_loopg [5] L (fun gn v5 w' => ∃ (t : Nat) (m : Int) (d' : Nat → Nat), v5 = .int .i64 m ∧ Hid (gn + t = L ∧ m = (L : Int) - 1 - t ∧ (∀ i, i < t → d' i = 48 + v / 10 ^ (L - 1 - i) % 10)) ∧ IsDec w' g d' (t : Nat) dp ng tr ∧ IsBuf w' w.heap.size b ∧ Below B w w')
  case atStart => exact ⟨0, (L : Int) - 1, d, rfl, Lib.hid ⟨by omega, by omega, fun i hi => absurd hi (by omega)⟩, HI.out.1, HI.out.2.1, HI.out.2.2⟩
  case round =>
    obtain ⟨t, m, d', rfl, hR, hd, hbf, hb⟩ := hrel
    obtain ⟨h1, h2, h3⟩ := hR.out
    have cnd := hd.cnd
    have fnd := hd.frozen 800
    by_cases ht : t < L
    · obtain ⟨j, hj⟩ : ∃ j : Nat, j = L - 1 - t := ⟨_, rfl⟩
      have hm : m = (j : Int) := by omega
      subst hm
      have k1 : (0 : Int) ≤ j := by omega
      have k2 : (j : Int) < 24 := by omega
      have k3 : (t : Int) < 800 := by omega
      have cbuf := hbf.byte j (by omega)
      have cd := hd.byte t (by omega)
      have fd := hd.frozen t
      generalize d' t = dv at cd
      have HRa : Hid (gk - 1 < gk ∧ gk - 1 + (t + 1) = L ∧ (j : Int) - 1 = (L : Int) - 1 - ((t + 1 : Nat) : Int)) := Lib.hid ⟨by omega, by omega, by omega⟩
      have xt : wrap64 ((t : Int) + 1) = (t : Int) + 1 := by unfold wrap64; omega
      have hbj : b j = 48 + v / 10 ^ (L - 1 - t) % 10 := by rw [← hj]; exact hH.out j (by omega)
      obtain ⟨c, hc⟩ : ∃ c, c = b j := ⟨_, rfl⟩
      rw [← hc] at cbuf hbj
      have HRb : Hid (∀ i, i < t + 1 → upd d' t c i = 48 + v / 10 ^ (L - 1 - i) % 10) := Lib.hid fun i hi => by
        unfold upd
        by_cases e : i = t
        · rw [if_pos e, e]; exact hbj
        rw [if_neg e]; exact h3 i (Nat.lt_of_le_of_ne (Nat.le_of_lt_succ hi) e)
      have HD := Lib.hid (And.intro (hd.setByte t c (by omega)) (And.intro (hbf.far (g := g) hne t (.int .u8 (c : Nat))) (hb.setCell (p := ⟨g, t, none⟩) hB (.int .u8 (c : Nat)))))
      clear hR h1 h2 h3 ht hj hd hbf hb hbj hc fnd
      go_wp2_with fail
      go_region_with fail
      all_goals
        have HE : Hid (IsDec ((wr.setCell ⟨g, t, none⟩ (.int .u8 (c : Nat))).drew) g (upd d' t c) (t : Nat) dp ng tr ∧ IsBuf ((wr.setCell ⟨g, t, none⟩ (.int .u8 (c : Nat))).drew) w.heap.size b ∧ Below B w ((wr.setCell ⟨g, t, none⟩ (.int .u8 (c : Nat))).drew)) := Lib.hid ⟨HD.out.1, HD.out.2.1, below_drewN HD.out.2.2 1⟩
        clear HD cnd cd fd cbuf
        generalize (wr.setCell ⟨g, t, none⟩ (.int .u8 (c : Nat))).drew = w5 at *
        have cnd : w5.cell? ⟨g, 800, none⟩ = some (.int .i64 (t : Nat)) := HE.out.1.cnd
        have fnd := HE.out.1.frozen 800
        have HG := Lib.hid (And.intro (HE.out.1.setNd ((t : Int) + 1)) (And.intro (HE.out.2.1.far (g := g) hne 800 (.int .i64 ((t : Int) + 1))) (HE.out.2.2.setCell (p := ⟨g, 800, none⟩) hB (.int .i64 ((t : Int) + 1)))))
        clear HE
        go_wp2_with fail
        go_roundg (gk - 1)
        case measure => exact HRa.out.1
        case rel => exact ⟨t + 1, (j : Int) - 1, upd d' t c, by first | rfl | go_num, Lib.hid ⟨HRa.out.2.1, HRa.out.2.2, HRb.out⟩, HG.out.1, HG.out.2.1, HG.out.2.2⟩
    have hte : t = L := by omega
    subst hte
    have k1 : ¬ (0 : Int) ≤ m := by omega
    have k2 : decide ((0 : Int) ≤ m) = false := decide_eq_false k1
    have cdp := hd.cdp
    have fdp := hd.frozen 801
    have HT := Lib.hid (fun w1 h1 => trim_walk w1 g B hB d' t (t : Int) ng tr (by omega) h1)
    have HD := Lib.hid (hd.setDp (t : Int))
    have HB4 := Lib.hid (hb.setCell (p := ⟨g, 801, none⟩) hB (.int .i64 (t : Nat)))
    have HQ := Lib.hid h3
    clear hR h1 h2 h3 ht hd hbf hb
    go_wp2_with fail
    refine (HT.out _ HD.out).mono ?_
    rintro e w2 ⟨rfl, hb2, hd2⟩
    have HF := Lib.hid hd2
    clear hd2 HT
    have hb3 := HB4.out.trans hb2
    go_wp2_with fail
    go_end0
    exact ⟨rfl, hb3, d', HQ.out, HF.out⟩
end Go.Proofs.YtjpiplplohapnaaGreatDoor
namespace Go.Proofs.YtjpiplplohapnaaGreatDoor
open Go.RowKit Go.Proofs.YtjpiplplohapnaaGreatDoorW.PrintWords Dc Us
theorem zero162 : Tryz.zeroCells162 = dcells (fun _ => 0) 0 0 false false := by kernel_rfl
theorem digits_of : ∀ (K m : Nat), 1 ≤ m → m < 10 ^ K → ∃ L, 1 ≤ L ∧ L ≤ K ∧ 10 ^ (L - 1) ≤ m ∧ m < 10 ^ L
  | 0, m, h1, h2 => by simp at h2; omega
  | K + 1, m, h1, h2 => by
    rcases Nat.lt_or_ge m (10 ^ K) with h | h
    · obtain ⟨L, a, b, c, d⟩ := digits_of K m h1 h
      exact ⟨L, a, by omega, c, d⟩
    exact ⟨K + 1, by omega, Nat.le_refl _, h, h2⟩
theorem nd_low (u : Nat) (h : 1 ≤ u) : 10 ^ (Lib.nDigits u - 1) ≤ u := by
  induction u using Nat.strongRecOn with
  | ind u ih =>
    by_cases h10 : u < 10
    · rw [Lib.nDigits_small h10]; exact h
    rw [Lib.nDigits_big h10]
    have := ih (u / 10) (by omega) (by omega)
    have hp := Lib.nDigits_pos (u / 10)
    rw [show Lib.nDigits (u / 10) + 1 - 1 = Lib.nDigits (u / 10) - 1 + 1 by omega, Nat.pow_succ]
    omega
theorem assign_calls (W : World) (g m : Nat) (hm1 : 1 ≤ m) (hm2 : m < 9007199254740992) (h : IsDec W g (fun _ => 0) 0 0 false false) :
    Calls Tryz.prog 128 #[.pointer (some ⟨g, 0, none⟩), .int .u64 (m : Int)] W fun e w' => e = .returned (.tuple #[]) ∧ Below g W w' ∧ ∃ s : St, Norm s ∧ s.tr = false ∧ IsV s m 0 ∧ s.is w' g false ∧ 1 ≤ s.dp ∧ s.dp ≤ 17 := by
  obtain ⟨L, a, b, c, d⟩ := digits_of 17 m hm1 (Nat.lt_of_lt_of_le hm2 (by decide))
  refine (assign_walk W g g (Nat.le_refl _) (fun _ => 0) 0 0 false false m L c d a (by omega) (by omega) h).mono ?_
  rintro e w' ⟨h1, h2, d', h3, h4⟩
  obtain ⟨n1, n2, n3⟩ := assign_val (tr := false) h3 c d a (by omega)
  refine ⟨h1, h2, ⟨d', tl d' L, L, false⟩, n1, rfl, n2, ?_, by show (1 : Int) ≤ L; omega, by show (L : Int) ≤ 17; omega⟩
  have hz : dpz (tl d' L) (L : Int) = (L : Int) := by unfold dpz; rw [if_neg n3]
  rw [hz] at h4
  exact h4
set_option maxRecDepth 100000 in
set_option maxHeartbeats 1000000 in
theorem shift_zero (w : World) (g : Nat) (s : St) (hs : Norm s) (ng : Bool) (h : s.is w g ng) :
    Calls Tryz.prog 129 #[.pointer (some ⟨g, 0, none⟩), .int .i64 0] w fun e w' => e = .returned (.tuple #[]) ∧ w' = w := by
  have cnd : w.cell? ⟨g, 800, none⟩ = some (.int .i64 (s.nd : Nat)) := IsDec.cnd h
  have f0 : (((s.nd : Nat) : Int) == 0) = false := by have := hs.pos; simp; omega
  clear h hs
  go_enter Tryz.func129, Tryz.ntmps129
  go_wp2_with fail
  go_end0
  exact ⟨rfl, rfl⟩
def ShV (n r g : Nat) (W : World) (e : Ending) (w' : World) : Prop := e = .returned (.tuple #[]) ∧ Below g W w' ∧ ∃ t : St, Norm t ∧ t.tr = false ∧ IsV t n r ∧ t.is w' g false ∧ -95000 ≤ t.dp ∧ t.dp ≤ 95000
theorem shift_calls (W : World) (hCW : Cheats W) (g : Nat) (hg : ∀ w', Below g W w' → Cheats w') (s : St) (hs : Norm s) (htr : s.tr = false) (m : Nat) (hm2 : m < 9007199254740992) (hv : IsV s m 0) (hdp1 : 1 ≤ s.dp) (hdp2 : s.dp ≤ 17) (x : Int) (hx1 : -1022 ≤ x) (hx2 : x ≤ 1023) (h : s.is W g false) :
    Calls Tryz.prog 129 #[.pointer (some ⟨g, 0, none⟩), .int .i64 (x - 52)] W (ShV (wN m x) (wR x) g W) := by
  unfold ShV wN wR
  rcases Int.lt_trichotomy (x - 52) 0 with h0 | h0 | h0
  · obtain ⟨k, hk⟩ : ∃ k : Nat, x - 52 = -(k : Int) := ⟨(52 - x).toNat, by omega⟩
    rw [show (x - 52).toNat = 0 by omega, show (52 - x).toNat = k by omega, hk, Nat.pow_zero, Nat.mul_one]
    refine (shift_right W g g (Nat.le_refl _) s hs false k (by omega) (by omega) (by omega) (by omega) h).mono ?_
    rintro e w' ⟨h1, h2, t, ht1, ht2, ht3, ht4, ht5⟩
    obtain ⟨v1, v2⟩ := rights_val ht1 hs htr m 0 hv (by omega) (by omega)
    rw [Nat.zero_add] at v1
    exact ⟨h1, h2, t, ht2, v2, v1, ht3, ht4, ht5⟩
  · rw [show (x - 52).toNat = 0 by omega, show (52 - x).toNat = 0 by omega, h0, Nat.pow_zero, Nat.mul_one]
    refine (shift_zero W g s hs false h).mono ?_
    rintro e w' ⟨h1, h2⟩
    subst h2
    exact ⟨h1, Below.refl _ _, s, hs, htr, hv, h, by omega, by omega⟩
  obtain ⟨k, hk⟩ : ∃ k : Nat, x - 52 = (k : Int) := ⟨(x - 52).toNat, by omega⟩
  rw [show (x - 52).toNat = k by omega, show (52 - x).toNat = 0 by omega, hk]
  refine (shift_left W g g (Nat.le_refl _) hg s hs false k (by omega) (by omega) (by omega) (by omega) h).mono ?_
  rintro e w' ⟨h1, h2, t, ht1, ht2, ht3, ht4, ht5⟩
  obtain ⟨K, hK⟩ : ∃ K, K = 342 := ⟨_, rfl⟩
  have hb : m * 2 ^ k < 10 ^ K := by
    have h3 : m * 2 ^ k < 2 ^ 53 * 2 ^ k := Nat.mul_lt_mul_of_pos_right (by have : (2 : Nat) ^ 53 = 9007199254740992 := by decide
                                                                            omega) (Nat.pow_pos (by decide))
    have h4 : 2 ^ 53 * 2 ^ k ≤ 2 ^ (3 * K) := by rw [← Nat.pow_add]; exact Nat.pow_le_pow_right (by decide) (by omega)
    have h5 : 2 ^ (3 * K) ≤ 10 ^ K := by rw [Nat.pow_mul]; exact Nat.pow_le_pow_left (by decide) K
    exact Nat.lt_of_lt_of_le h3 (Nat.le_trans h4 h5)
  obtain ⟨v1, v2⟩ := lefts_val ht1 hs htr m K hv hb (by omega)
  exact ⟨h1, h2, t, ht2, v2, v1, ht3, ht4, ht5⟩
theorem rd_range {s : St} (hs : Norm s) (p : Nat) (h1 : -95000 ≤ s.dp) (h2 : s.dp ≤ 95000) : (rdSt s p).nd ≤ 800 ∧ -100000 ≤ (rdSt s p).dp ∧ (rdSt s p).dp ≤ 100000 := by
  have hle := hs.le
  unfold rdSt
  by_cases h : 0 ≤ s.dp + p ∧ (s.dp + p).toNat < s.nd
  · rw [if_pos h]
    generalize (s.dp + p).toNat = k at *
    unfold rnSt
    cases upB s k
    · rw [if_neg (by decide)]
      have := tl_le s.d k
      refine ⟨by show tl s.d k ≤ 800; omega, ?_, ?_⟩
      · show -100000 ≤ dpz (tl s.d k) s.dp
        unfold dpz; split <;> omega
      show dpz (tl s.d k) s.dp ≤ 100000
      unfold dpz; split <;> omega
    rw [if_pos rfl]
    unfold upSt
    cases hn : noNine s.d k with
    | none => exact ⟨by show 1 ≤ 800; decide, by show -100000 ≤ s.dp + 1; omega, by show s.dp + 1 ≤ 100000; omega⟩
    | some i =>
      have := (noNine_some k hn).1
      exact ⟨by show i + 1 ≤ 800; omega, by show -100000 ≤ s.dp; omega, by show s.dp ≤ 100000; omega⟩
  rw [if_neg h]; exact ⟨hle, by omega, by omega⟩
theorem roundp_calls (W : World) (g : Nat) (s : St) (hs : Norm s) (p : Nat) (h1 : -95000 ≤ s.dp) (h2 : s.dp ≤ 95000) (h : s.is W g false) :
    Calls Tryz.prog 130 #[.pointer (some ⟨g, 0, none⟩), .int .i64 (s.dp + (p : Int))] W fun e w' => e = .returned (.tuple #[]) ∧ Below g W w' ∧ (rdSt s p).is w' g false := by
  unfold rdSt
  by_cases hc : 0 ≤ s.dp + p ∧ (s.dp + p).toNat < s.nd
  · rw [if_pos hc]
    obtain ⟨k, hk⟩ : ∃ k : Nat, s.dp + p = k := ⟨(s.dp + p).toNat, by omega⟩
    rw [hk, Int.toNat_natCast] at hc ⊢
    exact round_walk W g g (Nat.le_refl _) s hs false k hc.2 (by omega) (by omega) h
  rw [if_neg hc]
  refine (round_none W g s false (s.dp + p) (by omega) h).mono ?_
  rintro e w' ⟨a, b⟩
  subst b
  exact ⟨a, Below.refl _ _, h⟩
end Go.Proofs.YtjpiplplohapnaaGreatDoor
