/- Part 11 of the proof: Di, Do, Fr, Sw, Sc, Sl. -/
import Derived.Test.YtjpiplplohapnaaGreatDoorPl10
import Derived.Deep.RegionWith
set_option linter.unusedVariables false
set_option linter.unusedSimpArgs false
namespace Go.Proofs.YtjpiplplohapnaaGreatDoor
open Go.RowKit Go.Proofs.YtjpiplplohapnaaGreatDoorW.PrintWords Dc
set_option maxRecDepth 100000 in
set_option maxHeartbeats 1500000 in
theorem rounded_walk (w : World) (g : Nat) (s : St) (hs : Norm s) (ng : Bool) (p : Nat) (hp : s.dp = p) (hp18 : p ≤ 18) (h : s.is w g ng) :
    Calls Tryz.prog 185 #[.pointer (some ⟨g, 0, none⟩)] w fun e w' => e = .returned (.int .u64 ((N (dig s.d s.nd) p + (if upB s p then 1 else 0) : Nat) : Int)) ∧ ∃ n, w' = w.drewN n := by
  obtain ⟨ans, hans⟩ : ∃ a : Nat, a = N (dig s.d s.nd) p + (if upB s p then 1 else 0) := ⟨_, rfl⟩
  rw [← hans]
  have HA := Lib.hid hans
  clear hans
  have he9 := hs.dig9
  have hN18 : ∀ i, i ≤ 18 → N (dig s.d s.nd) i < 1000000000000000000 := by
    intro i hi
    have h1 := N_lt he9 i
    have h2 : 10 ^ i ≤ 10 ^ 18 := Nat.pow_le_pow_right (by decide) hi
    have h3 : (10 : Nat) ^ 18 = 1000000000000000000 := by decide
    omega
  have HN18 := Lib.hid hN18
  have HU := Lib.hid (fun m => up_walk (w.drewN m) g s hs ng p (by omega) (h.drewN m))
  have HS := Lib.hid h
  have HB := Lib.hid hs.dgs
  have HLe := Lib.hid hs.le
  have HPos := Lib.hid hs.pos
  have HF := Lib.hid (And.intro hs.first hs.last)
  have cdp : w.cell? ⟨g, 801, none⟩ = some (.int .i64 (p : Nat)) := by rw [← hp]; exact IsDec.cdp h
  have f1 : ¬ (20 : Int) < p := by omega
  have f2 : decide ((20 : Int) < (p : Int)) = false := decide_eq_false f1
  clear h hN18 he9
  have HP := Lib.hid hp
  have H18 := Lib.hid hp18
  clear hp hs
  go_enter Tryz.func185, Tryz.ntmps185
  go_upto_block 0 with (fail)
  clear f1 f2
  go_cut [3, 4] (fun v3 v4 w' => ∃ i n : Nat, v3 = .int .i64 i ∧ v4 = .int .u64 n ∧ Hid (i = min p s.nd ∧ n = N (dig s.d s.nd) i) ∧ w = w')
  case first =>
    go_wp2_with fail
    go_loopg [3, 4] (min p s.nd) (fun gn v3 v4 w' => ∃ i n : Nat, v3 = .int .i64 i ∧ v4 = .int .u64 n ∧ Hid (gn + i = min p s.nd ∧ n = N (dig s.d s.nd) i) ∧ w = w')
    case atStart => exact ⟨0, 0, rfl, rfl, Lib.hid ⟨by omega, rfl⟩, rfl⟩
    case round =>
      obtain ⟨i, n, rfl, rfl, hH, hww⟩ := hrel
      subst hww
      obtain ⟨hg, hn⟩ := hH.out
      have cnd : w.cell? ⟨g, 800, none⟩ = some (.int .i64 (s.nd : Nat)) := IsDec.cnd HS.out
      have hle := HLe.out
      by_cases hip : i < p
      · have g1 : (i : Int) < p := by omega
        have g2 : decide ((i : Int) < (p : Int)) = true := decide_eq_true g1
        by_cases hin : i < s.nd
        · have g3 : (i : Int) < ((s.nd : Nat) : Int) := by omega
          have g4 : decide ((i : Int) < ((s.nd : Nat) : Int)) = true := decide_eq_true g3
          have cb : w.cell? ⟨g, i, none⟩ = some (.int .u8 (s.d i : Nat)) := IsDec.byte HS.out i (by omega)
          have hby := HB.out i hin
          have hnx : N (dig s.d s.nd) (i + 1) = 10 * n + (s.d i - 48) := by rw [N_succ, ← hn]; unfold dig; rw [if_pos hin]
          have hlt := HN18.out i (by have := H18.out; omega)
          rw [← hn] at hlt
          obtain ⟨c, hc⟩ : ∃ c, c = s.d i := ⟨_, rfl⟩
          rw [← hc] at cb hby hnx
          obtain ⟨f, hf⟩ : ∃ f, f = c - 48 := ⟨_, rfl⟩
          rw [← hf] at hnx
          obtain ⟨n2, hn2⟩ : ∃ n2, n2 = 10 * n + f := ⟨_, rfl⟩
          rw [← hn2] at hnx
          have x1 : IntKind.u64.wrap ((n : Int) * 10) = (n : Int) * 10 := by rw [Go.IntKind.wrap_u64]; omega
          have x2 : IntKind.u8.wrap ((c : Int) - 48) = (f : Int) := by rw [Go.IntKind.wrap_u8]; omega
          have x2b : ((c : Int) - 48) % 256 = (f : Int) := by omega
          have x3 : IntKind.u64.wrap (f : Int) = (f : Int) := by rw [Go.IntKind.wrap_u64]; omega
          have x4 : IntKind.u64.wrap ((n : Int) * 10 + (f : Int)) = (n2 : Int) := by rw [Go.IntKind.wrap_u64]; omega
          have x5 : (i : Int) < 800 := by omega
          have HR : Hid (gk - 1 < gk ∧ gk - 1 + (i + 1) = min p s.nd ∧ n2 = N (dig s.d s.nd) (i + 1)) := Lib.hid ⟨by omega, by omega, hnx.symm⟩
          clear hH hg hn hle hip hin hby hnx hlt hc hf hn2
          go_wp2_with fail
          go_roundg (gk - 1)
          case measure => exact HR.out.1
          case rel => exact ⟨i + 1, n2, by go_num, rfl, Lib.hid HR.out.2, rfl⟩
        have g3 : ¬ (i : Int) < ((s.nd : Nat) : Int) := by omega
        have g4 : decide ((i : Int) < ((s.nd : Nat) : Int)) = false := decide_eq_false g3
        have HR : Hid (i = min p s.nd ∧ n = N (dig s.d s.nd) i) := Lib.hid ⟨by omega, hn⟩
        clear hH hg hn hle hip hin
        go_wp2_with fail
        go_meet
        case rel => exact ⟨i, n, rfl, rfl, HR, rfl⟩
      have g1 : ¬ (i : Int) < p := by omega
      have g2 : decide ((i : Int) < (p : Int)) = false := decide_eq_false g1
      have HR : Hid (i = min p s.nd ∧ n = N (dig s.d s.nd) i) := Lib.hid ⟨by omega, hn⟩
      clear hH hg hn hle hip
      go_wp2_with fail
      go_meet
      case rel => exact ⟨i, n, rfl, rfl, HR, rfl⟩
  obtain ⟨i0, n0, rfl, rfl, hH0, hww⟩ := hcut
  subst hww
  go_step
  go_wp2_with fail
  go_loopg [3, 4] p (fun gn v3 v4 w' => ∃ i n : Nat, v3 = .int .i64 i ∧ v4 = .int .u64 n ∧ Hid (gn + i = p ∨ p ≤ gn) ∧ Hid (min p s.nd ≤ i ∧ i ≤ p ∧ n = N (dig s.d s.nd) i) ∧ w = w')
  case atStart => exact ⟨i0, n0, rfl, rfl, Lib.hid (Or.inr (Nat.le_refl _)), Lib.hid ⟨by rw [hH0.out.1]; exact Nat.le_refl _, by rw [hH0.out.1]; exact Nat.min_le_left _ _, hH0.out.2⟩, rfl⟩
  case round =>
    obtain ⟨i, n, rfl, rfl, hG, hH, hww⟩ := hrel
    subst hww
    obtain ⟨h1, h2, hn⟩ := hH.out
    clear hH0
    by_cases hip : i < p
    · have g1 : (i : Int) < p := by omega
      have g2 : decide ((i : Int) < (p : Int)) = true := decide_eq_true g1
      have hnx : N (dig s.d s.nd) (i + 1) = 10 * n := by rw [N_ext (by omega), ← hn]
      have hlt := HN18.out i (by have := H18.out; omega)
      rw [← hn] at hlt
      obtain ⟨n2, hn2⟩ : ∃ n2, n2 = 10 * n := ⟨_, rfl⟩
      rw [← hn2] at hnx
      have x1 : IntKind.u64.wrap ((n : Int) * 10) = (n2 : Int) := by rw [Go.IntKind.wrap_u64]; omega
      have x5 : (i : Int) < 20 := by have := H18.out; omega
      have HR : Hid (p - (i + 1) < gk ∧ min p s.nd ≤ i + 1 ∧ i + 1 ≤ p ∧ n2 = N (dig s.d s.nd) (i + 1)) := Lib.hid ⟨by have := hG.out; omega, by omega, by omega, hnx.symm⟩
      have HG2 : Hid (p - (i + 1) + (i + 1) = p ∨ p ≤ p - (i + 1)) := Lib.hid (Or.inl (by omega))
      clear hH h1 h2 hn hip hnx hlt hn2 hG
      go_wp2_with fail
      go_roundg (p - (i + 1))
      case measure => exact HR.out.1
      case rel => exact ⟨i + 1, n2, by go_num, rfl, HG2, Lib.hid HR.out.2, rfl⟩
    have hie : i = p := by omega
    subst hie
    have g1 : ¬ (i : Int) < i := by omega
    have g2 : decide ((i : Int) < (i : Int)) = false := decide_eq_false g1
    obtain ⟨ub, hub⟩ : ∃ ub, ub = upB s i := ⟨_, rfl⟩
    have hlt := HN18.out i H18.out
    have HA2 := Lib.hid (show ans = n + (if ub then 1 else 0) by rw [HA.out, hn, hub])
    have HU2 : Hid (∀ m, Calls Tryz.prog 170 #[.pointer (some ⟨g, 0, none⟩), .int .i64 i] (w.drewN m) fun e w' => e = .returned (.bool ub) ∧ w' = w.drewN m) := Lib.hid fun m => by rw [hub]; exact HU.out m
    have HU0 : Hid (Calls Tryz.prog 170 #[.pointer (some ⟨g, 0, none⟩), .int .i64 i] w fun e w' => e = .returned (.bool ub) ∧ w' = w) := Lib.hid (by
      have := up_walk w g s ⟨by have := HPos.out; omega, HLe.out, HB.out, HF.out.1, HF.out.2⟩ ng i (by have := H18.out; omega) HS.out
      rw [hub]; exact this)
    rw [← hn] at hlt
    have x1 : IntKind.u64.wrap ((n : Int) + 1) = ((n + 1 : Nat) : Int) := by rw [Go.IntKind.wrap_u64]; omega
    obtain ⟨n1, hn1⟩ : ∃ n1, n1 = n + 1 := ⟨_, rfl⟩
    rw [← hn1] at x1
    have HN1 := Lib.hid hn1
    clear hH h1 h2 hG hlt hn hub HU g1 hn1
    go_wp2_with fail
    refine HU0.out.mono ?_
    rintro e w' ⟨rfl, hww⟩
    obtain rfl := hww.symm
    clear hww HU0 HU2
    cases ub
    · go_wp2_with fail
      go_ret
      exact ⟨by rw [show ans = n from HA2.out.trans (by simp)]; rfl, 0, rfl⟩
    go_wp2_with fail
    go_ret
    exact ⟨by rw [show ans = n1 by rw [HN1.out]; exact HA2.out.trans (by simp)]; rfl, 0, rfl⟩
end Go.Proofs.YtjpiplplohapnaaGreatDoor
namespace Go.Proofs.YtjpiplplohapnaaGreatDoor
open Go.RowKit Go.Proofs.YtjpiplplohapnaaGreatDoorW.PrintWords Dc
set_option maxRecDepth 100000 in
set_option maxHeartbeats 1000000 in
theorem down_walk (w : World) (g B : Nat) (hB : B ≤ g) (s : St) (hs : Norm s) (ng : Bool) (n : Nat) (hn : n < s.nd) (h : s.is w g ng) :
    Calls Tryz.prog 172 #[.pointer (some ⟨g, 0, none⟩), .int .i64 n] w fun e w' => e = .returned (.tuple #[]) ∧ Below B w w' ∧ IsDec w' g s.d (tl s.d n : Nat) (dpz (tl s.d n) s.dp) ng s.tr := by
  have hle := hs.le
  have cnd : w.cell? ⟨g, 800, none⟩ = some (.int .i64 (s.nd : Nat)) := IsDec.cnd h
  have fnd : w.frozen? ⟨g, 800, none⟩ = false := IsDec.frozen h 800
  have f1 : ¬ (n : Int) < 0 := by omega
  have g1 : ¬ ((s.nd : Nat) : Int) ≤ n := by omega
  have g2 : decide (((s.nd : Nat) : Int) ≤ (n : Int)) = false := decide_eq_false g1
  have HT := Lib.hid (fun w1 h1 => trim_walk w1 g B hB s.d n s.dp ng s.tr (by omega) h1)
  have HD := Lib.hid (IsDec.setNd h (n : Int))
  have HB := Lib.hid ((Below.refl B w).setCell (p := ⟨g, 800, none⟩) hB (.int .i64 n))
  clear h hs hn hle
  go_enter Tryz.func172, Tryz.ntmps172
  go_wp2_with fail
  refine (HT.out _ HD.out).mono ?_
  rintro e w2 ⟨rfl, hb2, hd2⟩
  have HF := Lib.hid hd2
  clear hd2 HT
  have hb3 := HB.out.trans hb2
  go_wp2_with fail
  go_end0
  exact ⟨rfl, hb3, HF.out⟩
namespace Dc
def noNine (d : Nat → Nat) : Nat → Option Nat
  | 0 => none
  | n + 1 => if d n < 57 then some n else noNine d n
def upSt (s : St) (n : Nat) : St := match noNine s.d n with
  | some i => ⟨upd s.d i (s.d i + 1), i + 1, s.dp, s.tr⟩
  | none => ⟨upd s.d 0 49, 1, s.dp + 1, s.tr⟩
end Dc
set_option maxRecDepth 100000 in
set_option maxHeartbeats 1000000 in
theorem raise_walk (w : World) (g B : Nat) (hB : B ≤ g) (s : St) (hs : Norm s) (ng : Bool) (n : Nat) (hn : n < s.nd) (hdp1 : -100000 ≤ s.dp) (hdp2 : s.dp ≤ 100000) (h : s.is w g ng) :
    Calls Tryz.prog 171 #[.pointer (some ⟨g, 0, none⟩), .int .i64 n] w fun e w' => e = .returned (.tuple #[]) ∧ Below B w w' ∧ (upSt s n).is w' g ng := by
  have hle := hs.le
  have cnd : w.cell? ⟨g, 800, none⟩ = some (.int .i64 (s.nd : Nat)) := IsDec.cnd h
  have f1 : ¬ (n : Int) < 0 := by omega
  have g1 : ¬ ((s.nd : Nat) : Int) ≤ n := by omega
  have g2 : decide (((s.nd : Nat) : Int) ≤ (n : Int)) = false := decide_eq_false g1
  have HS := Lib.hid h
  have HD := Lib.hid hs.dgs
  obtain ⟨r, hr⟩ : ∃ r, r = upSt s n := ⟨_, rfl⟩
  have HR := Lib.hid hr
  rw [← hr]
  have xn : wrap64 ((n : Int) - 1) = (n : Int) - 1 := by unfold wrap64; omega
  have HN := Lib.hid (show n < s.nd ∧ s.nd ≤ 800 from ⟨hn, hle⟩)
  have HDp := Lib.hid (And.intro hdp1 hdp2)
  clear h hs hn hle hr hdp1 hdp2
  go_enter Tryz.func171, Tryz.ntmps171
  go_wp2_with fail
  clear cnd f1 g1 g2 xn
  go_loopg [4] n (fun gn v4 w' => ∃ m : Int, v4 = .int .i64 m ∧ Hid (m = (gn : Int) - 1 ∧ gn ≤ n ∧ noNine s.d gn = noNine s.d n) ∧ s.is w' g ng ∧ Hid (Below B w w'))
  case atStart => exact ⟨(n : Int) - 1, rfl, Lib.hid ⟨rfl, Nat.le_refl _, rfl⟩, HS.out, Lib.hid (Below.refl _ _)⟩
  case round =>
    obtain ⟨m, rfl, hH, ht, hb⟩ := hrel
    obtain ⟨h1, h2, h3⟩ := hH.out
    cases gk with
    | zero =>
      have k1 : ¬ (0 : Int) ≤ m := by omega
      have k2 : decide ((0 : Int) ≤ m) = false := decide_eq_false k1
      have c0 : wr.cell? ⟨g, 0, none⟩ = some (.int .u8 (s.d 0 : Nat)) := IsDec.byte ht 0 (by decide)
      have cnd : wr.cell? ⟨g, 800, none⟩ = some (.int .i64 (s.nd : Nat)) := IsDec.cnd ht
      have cdp : wr.cell? ⟨g, 801, none⟩ = some (.int .i64 s.dp) := IsDec.cdp ht
      have q0 : wr.frozen? ⟨g, 0, none⟩ = false := IsDec.frozen ht 0
      have q1 : wr.frozen? ⟨g, 800, none⟩ = false := IsDec.frozen ht 800
      have q2 : wr.frozen? ⟨g, 801, none⟩ = false := IsDec.frozen ht 801
      have hrr : r = ⟨upd s.d 0 49, 1, s.dp + 1, s.tr⟩ := by
        rw [HR.out]; unfold upSt; rw [← h3]; rfl
      have HF : Hid (r.is (((wr.setCell ⟨g, 0, none⟩ (.int .u8 49)).setCell ⟨g, 800, none⟩ (.int .i64 1)).setCell ⟨g, 801, none⟩ (.int .i64 (s.dp + 1))) g ng) := Lib.hid (by
        rw [hrr]
        exact ((IsDec.setByte ht 0 49 (by decide)).setNd 1).setDp (s.dp + 1))
      have HB3 := Lib.hid (((hb.out.setCell (p := ⟨g, 0, none⟩) hB (.int .u8 49)).setCell (p := ⟨g, 800, none⟩) hB (.int .i64 1)).setCell (p := ⟨g, 801, none⟩) hB (.int .i64 (s.dp + 1)))
      obtain ⟨p1, p2⟩ := HDp.out
      clear hH h1 h2 h3 ht hrr
      go_wp2_with fail
      go_end0
      exact ⟨rfl, HB3.out, HF.out⟩
    | succ i =>
      have hm : m = (i : Int) := by omega
      subst hm
      have hi := HN.out
      have k1 : (0 : Int) ≤ i := by omega
      have k3 : (i : Int) < 800 := by omega
      have cb : wr.cell? ⟨g, i, none⟩ = some (.int .u8 (s.d i : Nat)) := IsDec.byte ht i (by omega)
      have hby := HD.out i (by omega)
      have fb : wr.frozen? ⟨g, i, none⟩ = false := IsDec.frozen ht i
      have cnd : wr.cell? ⟨g, 800, none⟩ = some (.int .i64 (s.nd : Nat)) := IsDec.cnd ht
      have q1 : wr.frozen? ⟨g, 800, none⟩ = false := IsDec.frozen ht 800
      rw [noNine] at h3
      obtain ⟨c, hc⟩ : ∃ c, c = s.d i := ⟨_, rfl⟩
      rw [← hc] at cb hby h3
      by_cases h57 : c < 57
      · have f1 : (c : Int) < 57 := by omega
        have f2 : decide ((c : Int) < 57) = true := decide_eq_true f1
        rw [if_pos h57] at h3
        have hrr : r = ⟨upd s.d i (c + 1), i + 1, s.dp, s.tr⟩ := by
          rw [HR.out]; unfold upSt; rw [← h3, hc]
        have x1 : IntKind.u8.wrap ((c : Int) + 1) = ((c + 1 : Nat) : Int) := by rw [Go.IntKind.wrap_u8]; omega
        have HT := Lib.hid ht
        have HRR := Lib.hid hrr
        clear hH h1 h2 h3 ht hi hby hc hrr
        go_wp2_with fail
        have HW : Hid (IsDec ((wr.setCell ⟨g, i, none⟩ (.int .u8 ((c : Int) + 1))).drew) g (upd s.d i (c + 1)) (s.nd : Nat) s.dp ng s.tr ∧ Below B w ((wr.setCell ⟨g, i, none⟩ (.int .u8 ((c : Int) + 1))).drew)) := Lib.hid ⟨IsDec.setByte HT.out i (c + 1) (by omega), below_drewN (hb.out.setCell hB _) 1⟩
        go_region_with fail
        have cn2 : ((wr.setCell ⟨g, i, none⟩ (.int .u8 ((c : Int) + 1))).drew).cell? ⟨g, 800, none⟩ = some (.int .i64 (s.nd : Nat)) := IsDec.cnd HW.out.1
        have qn2 : ((wr.setCell ⟨g, i, none⟩ (.int .u8 ((c : Int) + 1))).drew).frozen? ⟨g, 800, none⟩ = false := IsDec.frozen HW.out.1 800
        generalize (wr.setCell ⟨g, i, none⟩ (.int .u8 ((c : Int) + 1))).drew = w5 at *
        have x6 : wrap64 ((i : Int) + 1) = (i : Int) + 1 := by unfold wrap64; omega
        have HF : Hid (r.is (w5.setCell ⟨g, 800, none⟩ (.int .i64 ((i : Int) + 1))) g ng) := Lib.hid (by
          rw [HRR.out]
          exact IsDec.setNd HW.out.1 ((i : Int) + 1))
        have HB3 := Lib.hid (HW.out.2.setCell (p := ⟨g, 800, none⟩) hB (.int .i64 ((i : Int) + 1)))
        clear cb fb cnd q1 x1
        go_wp2_with fail
        exact bodyPost_ret (v := .tuple #[]) (by simp [results, Tryz.results171, go_sem]) rfl ⟨rfl, HB3.out, HF.out⟩
      have f1 : ¬ (c : Int) < 57 := by omega
      have f2 : decide ((c : Int) < 57) = false := decide_eq_false f1
      rw [if_neg h57] at h3
      have HX : Hid (i ≤ n ∧ noNine s.d i = noNine s.d n) := Lib.hid ⟨by omega, h3⟩
      clear hH h1 h2 h3 hi hby hc h57
      go_wp2_with fail
      go_roundg i
      case measure => omega
      case rel => exact ⟨(i : Int) - 1, by first | rfl | go_num, Lib.hid ⟨rfl, HX.out.1, HX.out.2⟩, ht, hb⟩
namespace Dc
def rnSt (s : St) (n : Nat) : St := if upB s n then upSt s n else ⟨s.d, tl s.d n, dpz (tl s.d n) s.dp, s.tr⟩
end Dc
set_option maxRecDepth 100000 in
set_option maxHeartbeats 1000000 in
theorem round_walk (w : World) (g B : Nat) (hB : B ≤ g) (s : St) (hs : Norm s) (ng : Bool) (n : Nat) (hn : n < s.nd) (hdp1 : -100000 ≤ s.dp) (hdp2 : s.dp ≤ 100000) (h : s.is w g ng) :
    Calls Tryz.prog 130 #[.pointer (some ⟨g, 0, none⟩), .int .i64 n] w fun e w' => e = .returned (.tuple #[]) ∧ Below B w w' ∧ (rnSt s n).is w' g ng := by
  have hle := hs.le
  have cnd : w.cell? ⟨g, 800, none⟩ = some (.int .i64 (s.nd : Nat)) := IsDec.cnd h
  have f1 : ¬ (n : Int) < 0 := by omega
  have g1 : ¬ ((s.nd : Nat) : Int) ≤ n := by omega
  have g2 : decide (((s.nd : Nat) : Int) ≤ (n : Int)) = false := decide_eq_false g1
  have HU := Lib.hid (up_walk w g s hs ng n (by omega) h)
  have HD := Lib.hid (down_walk w g B hB s hs ng n hn h)
  have HR := Lib.hid (raise_walk w g B hB s hs ng n hn hdp1 hdp2 h)
  obtain ⟨r, hr⟩ : ∃ r, r = rnSt s n := ⟨_, rfl⟩
  rw [← hr]
  unfold rnSt at hr
  obtain ⟨ub, hub⟩ : ∃ ub, ub = upB s n := ⟨_, rfl⟩
  rw [← hub] at HU hr
  cases ub
  · have hr' : r = ⟨s.d, tl s.d n, dpz (tl s.d n) s.dp, s.tr⟩ := hr
    have HE := Lib.hid hr'
    clear h hs hn hle hr hr' hub HR hdp1 hdp2
    go_enter Tryz.func130, Tryz.ntmps130
    go_wp2_with fail
    refine HU.out.mono ?_
    rintro e w' ⟨rfl, hww⟩
    obtain rfl := hww.symm
    clear hww HU
    go_wp2_with fail
    refine HD.out.mono ?_
    rintro e w2 ⟨rfl, hb2, hd2⟩
    have HF := Lib.hid hd2
    clear hd2 HD
    go_wp2_with fail
    go_end0
    exact ⟨rfl, hb2, by rw [HE.out]; exact HF.out⟩
  have hr' : r = upSt s n := hr
  have HE := Lib.hid hr'
  clear h hs hn hle hr hr' hub HD hdp1 hdp2
  go_enter Tryz.func130, Tryz.ntmps130
  go_wp2_with fail
  refine HU.out.mono ?_
  rintro e w' ⟨rfl, hww⟩
  obtain rfl := hww.symm
  clear hww HU
  go_wp2_with fail
  refine HR.out.mono ?_
  rintro e w2 ⟨rfl, hb2, hd2⟩
  have HF := Lib.hid hd2
  clear hd2 HR
  go_wp2_with fail
  go_end0
  exact ⟨rfl, hb2, by rw [HE.out]; exact HF.out⟩
set_option maxRecDepth 100000 in
set_option maxHeartbeats 1000000 in
theorem round_none (w : World) (g : Nat) (s : St) (ng : Bool) (n : Int) (hn : n < 0 ∨ (s.nd : Int) ≤ n) (h : s.is w g ng) :
    Calls Tryz.prog 130 #[.pointer (some ⟨g, 0, none⟩), .int .i64 n] w fun e w' => e = .returned (.tuple #[]) ∧ w' = w := by
  have cnd : w.cell? ⟨g, 800, none⟩ = some (.int .i64 (s.nd : Nat)) := IsDec.cnd h
  by_cases h0 : n < 0
  · have f2 : decide (n < 0) = true := decide_eq_true h0
    clear hn
    go_enter Tryz.func130, Tryz.ntmps130
    go_wp2_with fail
    exact bodyPost_ret (v := .tuple #[]) (by simp [results, Tryz.results130, go_sem]) rfl ⟨rfl, rfl⟩
  have f2 : decide (n < 0) = false := decide_eq_false h0
  have g1 : ((s.nd : Nat) : Int) ≤ n := by omega
  have g2 : decide (((s.nd : Nat) : Int) ≤ n) = true := decide_eq_true g1
  clear hn
  go_enter Tryz.func130, Tryz.ntmps130
  go_wp2_with fail
  exact bodyPost_ret (v := .tuple #[]) (by simp [results, Tryz.results130, go_sem]) rfl ⟨rfl, rfl⟩
end Go.Proofs.YtjpiplplohapnaaGreatDoor
namespace Go.Proofs.YtjpiplplohapnaaGreatDoor.Dc
open Nr
theorem rhe_le {A Q a b : Nat} (hQ : 0 < Q) (h1 : Rhe A Q a) (h2 : Rhe A Q b) : a ≤ b := by
  rcases Nat.lt_or_ge b a with h | h
  · exfalso
    obtain ⟨-, a2, -, a4⟩ := h1
    obtain ⟨b1, -, b3, -⟩ := h2
    obtain ⟨c, rfl⟩ : ∃ c, a = b + 1 + c := ⟨a - b - 1, by omega⟩
    have e1 : 2 * (b + 1 + c) * Q = (2 * b + 1) * Q + Q + 2 * (c * Q) := by grind
    have hc : c = 0 := by
      rcases Nat.eq_zero_or_pos c with h | h
      · exact h
      have : 1 * Q ≤ c * Q := Nat.mul_le_mul_right _ h
      omega
    subst hc
    have f1 : 2 * A = (2 * b + 1) * Q := by omega
    have f2 : 2 * (b + 1 + 0) * Q = 2 * A + Q := by omega
    have := b3 f1
    have := a4 f2
    omega
  exact h
theorem rhe_one {A Q a b : Nat} (hQ : 0 < Q) (h1 : Rhe A Q a) (h2 : Rhe A Q b) : a = b := Nat.le_antisymm (rhe_le hQ h1 h2) (rhe_le hQ h2 h1)
theorem rhe_exact (Q n : Nat) (_hQ : 0 < Q) : Rhe (n * Q) Q n := by
  have e1 : (2 * n + 1) * Q = 2 * (n * Q) + Q := by grind
  have e2 : 2 * n * Q = 2 * (n * Q) := Nat.mul_assoc _ _ _
  unfold Rhe
  rw [e1, e2]
  exact ⟨by omega, by omega, fun h => by omega, fun h => by omega⟩
theorem rhe_down {X P q R : Nat} (h : X = q * P + R) (hR : 2 * R ≤ P) (hP : 0 < P) (he : 2 * R = P → q % 2 = 0) : Rhe X P q := by
  have e1 : (2 * q + 1) * P = 2 * (q * P) + P := by grind
  have e2 : 2 * q * P = 2 * (q * P) := Nat.mul_assoc _ _ _
  unfold Rhe
  rw [e1, e2, h]
  exact ⟨by omega, by omega, fun h => he (by omega), fun h => by omega⟩
theorem rhe_up {X P q R : Nat} (h : X = q * P + R) (hR : R < P) (hR2 : P ≤ 2 * R) (he : 2 * R = P → q % 2 = 1) : Rhe X P (q + 1) := by
  have e1 : (2 * (q + 1) + 1) * P = 2 * (q * P) + 3 * P := by grind
  have e2 : 2 * (q + 1) * P = 2 * (q * P) + 2 * P := by grind
  unfold Rhe
  rw [e1, e2, h]
  exact ⟨by omega, by omega, fun h => by omega, fun h => by have := he (by omega); omega⟩
theorem N_split (e : Nat → Nat) (k : Nat) : ∀ j, N e (k + j) = N e k * 10 ^ j + N (fun i => e (k + i)) j
  | 0 => by simp [N]
  | j + 1 => by
    rw [← Nat.add_assoc, N_succ, N_split e k j, N_succ, Nat.pow_succ]
    generalize N e k = a
    generalize (10 : Nat) ^ j = b
    generalize N (fun i => e (k + i)) j = c
    grind
theorem N_zero {e : Nat → Nat} : ∀ n, (∀ i, i < n → e i = 0) → N e n = 0
  | 0, _ => rfl
  | n + 1, h => by rw [N_succ, N_zero n (fun i hi => h i (by omega)), h n (by omega)]
theorem N_nines {e : Nat → Nat} : ∀ n, (∀ i, i < n → e i = 9) → N e n + 1 = 10 ^ n
  | 0, _ => rfl
  | n + 1, h => by
    have := N_nines n (fun i hi => h i (by omega))
    rw [N_succ, h n (by omega), Nat.pow_succ]
    omega
theorem noNine_none {d : Nat → Nat} : ∀ n, noNine d n = none → ∀ i, i < n → 57 ≤ d i
  | 0, _, i, hi => by omega
  | n + 1, h, i, hi => by
    rw [noNine] at h
    by_cases c : d n < 57
    · rw [if_pos c] at h; cases h
    rw [if_neg c] at h
    by_cases e : i = n
    · rw [e]; omega
    exact noNine_none n h i (by omega)
theorem noNine_some {d : Nat → Nat} {j : Nat} : ∀ n, noNine d n = some j → j < n ∧ d j < 57 ∧ ∀ i, j < i → i < n → 57 ≤ d i
  | 0, h => by cases h
  | n + 1, h => by
    rw [noNine] at h
    by_cases c : d n < 57
    · rw [if_pos c] at h
      injection h with h
      subst h
      exact ⟨by omega, c, fun i h1 h2 => by omega⟩
    rw [if_neg c] at h
    obtain ⟨h1, h2, h3⟩ := noNine_some n h
    refine ⟨by omega, h2, fun i h4 h5 => ?_⟩
    by_cases e : i = n
    · rw [e]; omega
    exact h3 i h4 (by omega)
def rdSt (s : St) (p : Nat) : St := if 0 ≤ s.dp + p ∧ (s.dp + p).toNat < s.nd then rnSt s (s.dp + p).toNat else s
structure Fine (t : St) : Prop where
  dgs : ∀ i, i < t.nd → 48 ≤ t.d i ∧ t.d i ≤ 57
  first : 0 < t.dp → 0 < t.nd ∧ t.d 0 ≠ 48
theorem Norm.fine {s : St} (h : Norm s) : Fine s := ⟨h.dgs, fun _ => ⟨h.pos, h.first⟩⟩
theorem rest_dgs {s : St} (hs : Norm s) {k j : Nat} (hk : k + (j + 1) = s.nd) :
    s.X = N (dig s.d s.nd) k * 10 ^ (j + 1) + ((s.d k - 48) * 10 ^ j + N (fun i => dig s.d s.nd (k + (1 + i))) j) ∧ N (fun i => dig s.d s.nd (k + (1 + i))) j < 10 ^ j ∧ (0 < j → 1 ≤ N (fun i => dig s.d s.nd (k + (1 + i))) j) := by
  refine ⟨?_, N_lt (fun i => hs.dig9 _) j, fun hj => ?_⟩
  · have h1 := N_split (dig s.d s.nd) k (j + 1)
    have h2 := N_split (fun i => dig s.d s.nd (k + i)) 1 j
    rw [hk] at h1
    unfold St.X
    rw [h1, Nat.add_comm j 1, h2]
    have h3 : N (fun i => dig s.d s.nd (k + i)) 1 = s.d k - 48 := by
      show 10 * 0 + dig s.d s.nd (k + 0) = _
      unfold dig
      rw [if_pos (by omega)]; simp
    rw [h3]
  obtain ⟨i, rfl⟩ : ∃ i, j = i + 1 := ⟨j - 1, by omega⟩
  rw [N_succ]
  have h1 : dig s.d s.nd (k + (1 + i)) = s.d (s.nd - 1) - 48 := by
    unfold dig
    rw [if_pos (by omega)]
    congr 2; omega
  have h2 := hs.last
  have h3 := hs.dgs (s.nd - 1) (by have := hs.pos; omega)
  show 1 ≤ 10 * N (fun i => dig s.d s.nd (k + (1 + i))) i + dig s.d s.nd (k + (1 + i))
  omega
theorem up_rhe {s : St} (hs : Norm s) (ht : s.tr = false) {k j : Nat} (hk : k + (j + 1) = s.nd) : Rhe s.X (10 ^ (j + 1)) (N (dig s.d s.nd) k + if upB s k then 1 else 0) := by
  obtain ⟨h1, h2, h3⟩ := rest_dgs hs hk
  have hb := hs.dgs k (by omega)
  have hP : 0 < 10 ^ j := Nat.pow_pos (by decide)
  have hodd : 0 < k → N (dig s.d s.nd) k % 2 = (s.d (k - 1) - 48) % 2 := by
    intro h
    obtain ⟨i, rfl⟩ : ∃ i, k = i + 1 := ⟨k - 1, by omega⟩
    rw [N_succ, Nat.add_sub_cancel]
    unfold dig
    rw [if_pos (by omega)]
    omega
  unfold upB
  rw [if_neg (show ¬ s.nd ≤ k by omega), ht, Bool.false_or]
  generalize N (fun i => dig s.d s.nd (k + (1 + i))) j = R at *
  obtain ⟨q, hq⟩ : ∃ q, q = N (dig s.d s.nd) k := ⟨_, rfl⟩
  rw [← hq] at h1 hodd ⊢
  have hPs : (10 : Nat) ^ (j + 1) = 10 ^ j * 10 := Nat.pow_succ ..
  generalize hPj : (10 : Nat) ^ j = P at *
  obtain ⟨c, hc⟩ : ∃ c, c = s.d k := ⟨_, rfl⟩
  rw [← hc] at hb h1 ⊢
  obtain ⟨f, rfl⟩ : ∃ f, c = 48 + f := ⟨c - 48, by omega⟩
  rw [show 48 + f - 48 = f by omega] at h1
  by_cases h5 : 48 + f = 53 ∧ k + 1 = s.nd
  · rw [if_pos h5]
    have hj : j = 0 := by omega
    subst hj
    have hP1 : P = 1 := by rw [← hPj]
    subst hP1
    have hR : R = 0 := by omega
    have hf : f = 5 := by omega
    subst hR hf
    rw [hPs]
    by_cases hk0 : 0 < k
    · have ho := hodd hk0
      rw [decide_eq_true hk0, Bool.true_and]
      by_cases hd : (s.d (k - 1) - 48) % 2 = 1
      · rw [decide_eq_true hd, if_pos rfl]
        exact rhe_up (R := 5) (by rw [h1, hPs]) (by decide) (by decide) (fun _ => by omega)
      rw [decide_eq_false hd, if_neg (by decide)]
      exact rhe_down (R := 5) (by rw [h1, hPs]; rfl) (by decide) (by decide) (fun _ => by omega)
    have hq0 : q = 0 := by rw [hq, show k = 0 by omega]; rfl
    rw [decide_eq_false hk0, Bool.false_and, if_neg (by decide)]
    exact rhe_down (R := 5) (by rw [h1, hPs]; rfl) (by decide) (by decide) (fun _ => by rw [hq0])
  rw [if_neg h5]
  by_cases hge : 53 ≤ 48 + f
  · rw [decide_eq_true hge, if_pos rfl, hPs]
    have hf : f = 5 ∨ 6 ≤ f := by omega
    have hb1 : f * P ≤ 9 * P := Nat.mul_le_mul_right _ (by omega)
    refine rhe_up (R := f * P + R) (by rw [h1, hPs]) (by omega) ?_ (fun h => ?_)
    · rcases hf with rfl | hf
      · omega
      have : 6 * P ≤ f * P := Nat.mul_le_mul_right _ hf
      omega
    exfalso
    rcases hf with rfl | hf
    · have := h3 (by omega)
      omega
    have : 6 * P ≤ f * P := Nat.mul_le_mul_right _ hf
    omega
  rw [decide_eq_false hge, if_neg (by decide), hPs]
  have : f * P ≤ 4 * P := Nat.mul_le_mul_right _ (by omega)
  exact rhe_down (R := f * P + R) (by rw [h1, hPs]; rfl) (by omega) (by omega) (fun h => by omega)
theorem rn_atP {s : St} (hs : Norm s) {k p : Nat} (hk : k < s.nd) (hkp : s.dp + p = k) : atP (rnSt s k).d (rnSt s k).nd (rnSt s k).dp p = N (dig s.d s.nd) k + (if upB s k then 1 else 0) ∧ Fine (rnSt s k) := by
  unfold rnSt
  cases hu : upB s k
  · have hle := tl_le s.d k
    rw [if_neg (by decide), if_neg (by decide)]
    refine ⟨?_, ?_, ?_⟩
    · show atP s.d (tl s.d k) (dpz (tl s.d k) s.dp) p = _
      have e1 : N (dig s.d (tl s.d k)) k = N (dig s.d s.nd) k := N_congr k fun i hi => by
        unfold dig
        rw [if_pos (show i < s.nd by omega)]
        by_cases c : i < tl s.d k
        · rw [if_pos c]
        rw [if_neg c, tl_zero s.d k i (by omega) hi]
      unfold atP dpz
      by_cases c : tl s.d k = 0
      · rw [if_pos c, if_pos (by omega)]
        rw [c] at e1
        have z : ∀ n, N (dig s.d 0) n = 0 := fun n => N_zero n fun i _ => by unfold dig; rw [if_neg (by omega)]
        rw [c, z, Nat.add_zero, ← e1, z]
      rw [if_neg c, if_pos (by omega), hkp, Int.toNat_natCast, e1, Nat.add_zero]
    · intro i hi
      exact hs.dgs i (by have : i < tl s.d k := hi; omega)
    intro h
    have h' : 0 < dpz (tl s.d k) s.dp := h
    unfold dpz at h'
    by_cases c : tl s.d k = 0
    · rw [if_pos c] at h'; omega
    exact ⟨by show 0 < tl s.d k; omega, hs.first⟩
  rw [if_pos rfl, if_pos rfl]
  unfold upSt
  cases hn : noNine s.d k with
  | none =>
    have h9 := noNine_none k hn
    have e1 : N (dig s.d s.nd) k + 1 = 10 ^ k := N_nines k fun i hi => by
      have h1 := h9 i hi
      have h2 := hs.dgs i (by omega)
      unfold dig
      rw [if_pos (by omega)]; omega
    refine ⟨?_, ?_, ?_⟩
    · show atP (upd s.d 0 49) 1 (s.dp + 1) p = _
      unfold atP
      rw [if_pos (by omega), show (s.dp + 1 + (p : Int)).toNat = 1 + k by omega, N_pow, e1]
      show (10 * 0 + dig (upd s.d 0 49) 1 0) * 10 ^ k = 10 ^ k
      have : dig (upd s.d 0 49) 1 0 = 1 := rfl
      rw [this]; omega
    · intro i hi
      have : i = 0 := by have : i < 1 := hi; omega
      subst this
      show 48 ≤ upd s.d 0 49 0 ∧ upd s.d 0 49 0 ≤ 57
      unfold upd; rw [if_pos rfl]; omega
    intro _
    refine ⟨Nat.one_pos, ?_⟩
    show upd s.d 0 49 0 ≠ 48
    unfold upd; rw [if_pos rfl]; decide
  | some i =>
    obtain ⟨h1, h2, h3⟩ := noNine_some k hn
    have hbi := hs.dgs i (by omega)
    refine ⟨?_, ?_, ?_⟩
    · show atP (upd s.d i (s.d i + 1)) (i + 1) s.dp p = _
      unfold atP
      rw [if_pos (by omega), hkp, Int.toNat_natCast]
      obtain ⟨j, hj⟩ : ∃ j, k = i + 1 + j := ⟨k - (i + 1), by omega⟩
      rw [hj, N_pow, N_split (dig s.d s.nd) (i + 1) j]
      have e1 : N (fun l => dig s.d s.nd (i + 1 + l)) j + 1 = 10 ^ j := N_nines j fun l hl => by
        have a1 := h3 (i + 1 + l) (by omega) (by omega)
        have a2 := hs.dgs (i + 1 + l) (by omega)
        show dig s.d s.nd (i + 1 + l) = 9
        unfold dig
        rw [if_pos (by omega)]; omega
      have e2 : N (dig (upd s.d i (s.d i + 1)) (i + 1)) (i + 1) = N (dig s.d s.nd) (i + 1) + 1 := by
        rw [N_succ, N_succ]
        have a1 : N (dig (upd s.d i (s.d i + 1)) (i + 1)) i = N (dig s.d s.nd) i := N_congr i fun l hl => by
          unfold dig upd
          rw [if_pos (show l < i + 1 by omega), if_neg (show ¬ l = i by omega), if_pos (show l < s.nd by omega)]
        have a2 : dig (upd s.d i (s.d i + 1)) (i + 1) i = dig s.d s.nd i + 1 := by
          unfold dig upd
          rw [if_pos (show i < i + 1 by omega), if_pos rfl, if_pos (show i < s.nd by omega)]; omega
        rw [a1, a2]; omega
      rw [e2, Nat.add_mul]
      omega
    · intro l hl
      have hl' : l < i + 1 := hl
      show 48 ≤ upd s.d i (s.d i + 1) l ∧ upd s.d i (s.d i + 1) l ≤ 57
      unfold upd
      by_cases c : l = i
      · rw [if_pos c]; omega
      rw [if_neg c]; exact hs.dgs l (by omega)
    intro _
    refine ⟨by show 0 < i + 1; omega, ?_⟩
    show upd s.d i (s.d i + 1) 0 ≠ 48
    unfold upd
    by_cases c : 0 = i
    · rw [if_pos c]; omega
    rw [if_neg c]; exact hs.first
theorem rd_rhe {s : St} (hs : Norm s) (ht : s.tr = false) {n r : Nat} (hv : IsV s n r) (p : Nat) : Rhe (n * 10 ^ p) (2 ^ r) (atP (rdSt s p).d (rdSt s p).nd (rdSt s p).dp p) ∧ Fine (rdSt s p) := by
  have hr : 0 < 2 ^ r := Nat.pow_pos (by decide)
  unfold rdSt
  by_cases h : 0 ≤ s.dp + p ∧ (s.dp + p).toNat < s.nd
  · rw [if_pos h]
    obtain ⟨k, hk⟩ : ∃ k : Nat, s.dp + p = k := ⟨(s.dp + p).toNat, by omega⟩
    rw [hk, Int.toNat_natCast] at h ⊢
    obtain ⟨h1, h2⟩ := rn_atP hs h.2 hk
    refine ⟨?_, h2⟩
    rw [h1]
    obtain ⟨j, hj⟩ : ∃ j, k + (j + 1) = s.nd := ⟨s.nd - k - 1, by omega⟩
    have hu := up_rhe hs ht hj
    have he := hv 0 (p + (j + 1)) (by omega)
    rw [Nat.pow_zero, Nat.mul_one, Nat.pow_add, ← Nat.mul_assoc] at he
    have h3 := rhe_scale' (2 ^ r) hr hu
    rw [he, Nat.mul_comm (10 ^ (j + 1))] at h3
    exact rhe_scale (10 ^ (j + 1)) (Nat.pow_pos (by decide)) h3
  rw [if_neg h]
  refine ⟨?_, hs.fine⟩
  unfold atP
  by_cases h0 : 0 ≤ s.dp + p
  · rw [if_pos h0]
    obtain ⟨k, hk⟩ : ∃ k : Nat, s.dp + p = k := ⟨(s.dp + p).toNat, by omega⟩
    rw [hk, Int.toNat_natCast] at h ⊢
    obtain ⟨j, hj⟩ : ∃ j, k = s.nd + j := ⟨k - s.nd, by omega⟩
    have he := hv j p (by omega)
    have e : N (dig s.d s.nd) k = s.X * 10 ^ j := by rw [hj, N_pow]; rfl
    rw [e, ← he]
    exact rhe_exact _ _ hr
  rw [if_neg h0]
  have hX : s.X < 10 ^ s.nd := N_lt (fun i => hs.dig9 i) s.nd
  obtain ⟨c, hc⟩ : ∃ c : Nat, (c : Int) = -s.dp - p - 1 := ⟨(-s.dp - p - 1).toNat, by omega⟩
  have he := hv 0 (s.nd + (p + (1 + c))) (by omega)
  rw [Nat.pow_zero, Nat.mul_one] at he
  have h1 : n * 10 ^ (s.nd + (p + (1 + c))) < 10 ^ s.nd * 2 ^ r := by rw [← he]; exact Nat.mul_lt_mul_of_pos_right hX hr
  have h2 : n * 10 ^ (p + 1) * 10 ^ s.nd ≤ n * 10 ^ (s.nd + (p + (1 + c))) := by
    rw [Nat.mul_assoc, ← Nat.pow_add]
    exact Nat.mul_le_mul_left _ (Nat.pow_le_pow_right (by decide) (by omega))
  have h3 : n * 10 ^ (p + 1) < 2 ^ r := by
    refine Nat.lt_of_mul_lt_mul_right (a := 10 ^ s.nd) ?_
    rw [Nat.mul_comm (2 ^ r)]
    omega
  rw [Nat.pow_succ, ← Nat.mul_assoc] at h3
  exact rhe_down (q := 0) (R := n * 10 ^ p) (by omega) (by omega) hr (fun h => by omega)
end Go.Proofs.YtjpiplplohapnaaGreatDoor.Dc
namespace Go.Proofs.YtjpiplplohapnaaGreatDoor.Dc
def cap : Nat := 800
theorem cap_eq : cap = 800 := rfl
structure Weak (s : St) : Prop where
  pos : 0 < s.nd
  le : s.nd ≤ 800
  dgs : ∀ i, i < s.nd → 48 ≤ s.d i ∧ s.d i ≤ 57
  first : s.d 0 ≠ 48
theorem Norm.weak {s : St} (h : Norm s) : Weak s := ⟨h.pos, h.le, h.dgs, h.first⟩
theorem Weak.dig9 {s : St} (h : Weak s) (i : Nat) : dig s.d s.nd i ≤ 9 := dig_le h.dgs i
theorem Weak.dig0 {s : St} (h : Weak s) : 1 ≤ dig s.d s.nd 0 := by
  unfold dig; rw [if_pos h.pos]; have := h.dgs 0 h.pos; have := h.first; omega
theorem N_far {s : St} {r : Nat} (h : s.nd ≤ r) : N (dig s.d s.nd) r = s.X * 10 ^ (r - s.nd) := by
  have := N_pow s.d s.nd (r - s.nd)
  rw [show s.nd + (r - s.nd) = r by omega] at this
  exact this
theorem X_low {s : St} (hs : Weak s) : 10 ^ (s.nd - 1) ≤ s.X := by
  obtain ⟨j, hj⟩ : ∃ j, s.nd = j + 1 := ⟨s.nd - 1, by have := hs.pos; omega⟩
  have h := N_big hs.dig0 j
  rw [← hj] at h
  rw [show s.nd - 1 = j by omega]
  exact h
theorem X_high {s : St} (hs : Weak s) : s.X < 10 ^ s.nd := N_lt hs.dig9 s.nd
theorem N_ge (e : Nat → Nat) (r : Nat) : ∀ j, N e r * 10 ^ j ≤ N e (r + j)
  | 0 => by simp
  | j + 1 => by
    have h := N_ge e r j
    rw [← Nat.add_assoc, N_succ, Nat.pow_succ, ← Nat.mul_assoc]
    omega
theorem quo_next {e : Nat → Nat} (he : ∀ i, e i ≤ 9) (P r : Nat) : N e (r + 1) / P = 10 * (N e r / P) + N e (r + 1) / P % 10 := by
  have h : N e (r + 1) / P / 10 = N e r / P := by
    rw [N_succ, Nat.div_div_eq_div_mul, Nat.mul_comm P 10, ← Nat.div_div_eq_div_mul]
    have := he r
    rw [show (10 * N e r + e r) / 10 = N e r by omega]
  omega
theorem lost_iff {s : St} (hs : Weak s) {P r0 T : Nat} (hP : 0 < P) (h1 : 1 ≤ r0) (hT : r0 + 800 ≤ T) (hf : N (dig s.d s.nd) T % (10 * P) = 0) :
    lost (dig s.d s.nd) P r0 (T - r0) = decide (N (dig s.d s.nd) (r0 + 799) % P ≠ 0) := by
  have hle := hs.le
  have he := hs.dig9
  have hM : ∀ i, N (dig s.d s.nd) (r0 + 799 + i) = N (dig s.d s.nd) (r0 + 799) * 10 ^ i := by
    intro i
    rw [N_far (s := s) (by omega), N_far (s := s) (by omega), Nat.mul_assoc, ← Nat.pow_add]
    congr 2; omega
  obtain ⟨M, hMd⟩ : ∃ M, M = N (dig s.d s.nd) (r0 + 799) := ⟨_, rfl⟩
  rw [← hMd] at hM ⊢
  by_cases hz : M % P = 0
  · rw [decide_eq_false (fun h => h hz)]
    have hq : ∀ j, 800 ≤ j → qd (dig s.d s.nd) P r0 j = 0 := by
      intro j hj
      unfold qd
      obtain ⟨i, rfl⟩ : ∃ i, j = 799 + (i + 1) := ⟨j - 800, by omega⟩
      rw [← Nat.add_assoc, hM, Nat.pow_succ, ← Nat.mul_assoc]
      have hMP : M = P * (M / P) := by have := Nat.div_add_mod M P; omega
      have e : M * 10 ^ i * 10 = P * (M / P * 10 ^ i * 10) := by
        conv => lhs; rw [hMP]
        rw [Nat.mul_assoc, Nat.mul_assoc, Nat.mul_assoc]
      rw [e, Nat.mul_div_cancel_left _ hP, Nat.mul_mod_left]
    generalize T - r0 = n
    induction n with
    | zero => rfl
    | succ j ih =>
      rw [lost, ih, Bool.false_or]
      by_cases h8 : 800 ≤ j
      · rw [hq j h8]; simp
      rw [decide_eq_false h8, Bool.false_and]
  rw [decide_eq_true hz]
  cases hl : lost (dig s.d s.nd) P r0 (T - r0)
  · exfalso
    have hq : ∀ n, lost (dig s.d s.nd) P r0 n = false → ∀ j, j < n → 800 ≤ j → qd (dig s.d s.nd) P r0 j = 0 := by
      intro n
      induction n with
      | zero => intro _ j hj; omega
      | succ n ih =>
        intro h j hj h8
        rw [lost, Bool.or_eq_false_iff] at h
        by_cases hjn : j < n
        · exact ih h.1 j hjn h8
        have : j = n := by omega
        subst this
        have h2 := h.2
        rw [decide_eq_true h8, Bool.true_and] at h2
        exact Decidable.not_not.1 (of_decide_eq_false h2)
    have hQ : ∀ i, r0 + 799 + i ≤ T - 1 → N (dig s.d s.nd) (r0 + 799 + i) / P = M / P * 10 ^ i := by
      intro i
      induction i with
      | zero => intro _; rw [Nat.add_zero, ← hMd, Nat.pow_zero, Nat.mul_one]
      | succ i ih =>
        intro h
        have h3 := quo_next he P (r0 + 799 + i)
        have h4 := hq _ hl (799 + i + 1) (by omega) (by omega)
        unfold qd at h4
        rw [show r0 + (799 + i + 1) = r0 + 799 + i + 1 by omega] at h4
        rw [ih (by omega), h4, Nat.add_zero] at h3
        rw [← Nat.add_assoc, h3, Nat.pow_succ, Nat.mul_comm 10, Nat.mul_assoc, Nat.add_zero]
    obtain ⟨i, hi⟩ : ∃ i, T - 1 = r0 + 799 + i := ⟨T - 1 - (r0 + 799), by omega⟩
    have h5 := hQ i (by omega)
    have h6 : N (dig s.d s.nd) (T - 1) % P = 0 := by
      have e : T = T - 1 + 1 := by omega
      rw [e, N_ext (by omega)] at hf
      have h7 : 10 * N (dig s.d s.nd) (T - 1) % (10 * P) = 10 * (N (dig s.d s.nd) (T - 1) % P) := Nat.mul_mod_mul_left _ _ _
      omega
    rw [hi, hM] at h6
    rw [hM] at h5
    have h7 := Nat.div_add_mod (M * 10 ^ i) P
    rw [h6, h5, Nat.add_zero, ← Nat.mul_assoc] at h7
    have h8 := Nat.eq_of_mul_eq_mul_right (Nat.pow_pos (by decide)) h7
    have h9 := Nat.div_add_mod M P
    omega
  rfl
structure RQ (s t : St) (k r0 : Nat) : Prop where
  r1 : 1 ≤ r0
  r20 : r0 ≤ 20
  dp : t.dp = s.dp - ((r0 : Int) - 1)
  val : t.X * 10 ^ (cap - t.nd) = s.X * 10 ^ (r0 + 799 - s.nd) / 2 ^ k
  tr : t.tr = (s.tr || decide (s.X * 10 ^ (r0 + 799 - s.nd) % 2 ^ k ≠ 0))
  big : 10 ^ (cap - 1) ≤ s.X * 10 ^ (r0 + 799 - s.nd) / 2 ^ k
  lead : Lead (dig s.d s.nd) (2 ^ k) r0
  head : t.d 0 = 48 + N (dig s.d s.nd) r0 / 2 ^ k % 10
theorem two60 {k : Nat} (hk : k ≤ 60) : 2 ^ k ≤ 1152921504606846976 := by
  have hp : 2 ^ k ≤ 2 ^ 60 := Nat.pow_le_pow_right (by decide) hk
  have h60 : (2 : Nat) ^ 60 = 1152921504606846976 := by decide
  omega
theorem right_q {s t : St} (hs : Weak s) {k : Nat} (hk : k ≤ 60) (h : RStep k s t) : (∃ r0, RQ s t k r0) ∧ Norm t := by
  obtain ⟨r0, T, W, hR, hnd, hdp, htr⟩ := h
  have hcap := cap_eq
  have hP : 0 < 2 ^ k := Nat.pow_pos (by decide)
  have h1 := hR.lead.one
  have h20 := hR.lead.le20 hs.dig0 (two60 hk)
  have hlt : N (dig s.d s.nd) r0 < 10 * 2 ^ k := by
    obtain ⟨j, hj⟩ : ∃ j, r0 = j + 1 := ⟨r0 - 1, by omega⟩
    have h1 := hR.lead.lo
    rw [hj, Nat.add_sub_cancel] at h1
    rw [hj, N_succ]
    have := hs.dig9 j
    omega
  have hfar := hR.far
  have hrT : r0 < T := by
    rcases Nat.lt_or_ge r0 T with h1 | h1
    · exact h1
    exfalso
    have e : T = r0 := by omega
    have h2 := hR.fin
    rw [e, Nat.mod_eq_of_lt hlt] at h2
    have h3 := hR.lead.hi
    omega
  have hle := hs.le
  have hwid := hR.wid
  have htl : t.nd ≤ W := by rw [hnd]; exact tl_le _ _
  have hfarN := N_far (s := s) (r := r0 + 799) (by omega)
  have htail := N_tail t.d (W := W) htl (fun i h1 h2 => tl_zero t.d W i (by rw [← hnd]; exact h1) h2)
  obtain ⟨n, hn⟩ : ∃ n, W = n + 1 := ⟨W - 1, by omega⟩
  have hquo : N (fun i => t.d i - 48) W = N (dig s.d s.nd) (r0 + n) / 2 ^ k := by
    rw [hn]; exact N_quo hs.dig9 hP hlt h1 n (fun i hi => by rw [hR.dgs i (by omega)]; omega)
  have hX : t.X * 10 ^ (W - t.nd) = N (dig s.d s.nd) (r0 + n) / 2 ^ k := by rw [← hquo, htail]; rfl
  have hbig : 10 ^ (cap - 1) ≤ N (dig s.d s.nd) (r0 + 799) / 2 ^ k := by
    rw [Nat.le_div_iff_mul_le hP]
    have a := N_ge (dig s.d s.nd) r0 (cap - 1)
    rw [show r0 + (cap - 1) = r0 + 799 by omega] at a
    have b := Nat.mul_le_mul_right (10 ^ (cap - 1)) hR.lead.hi
    rw [Nat.mul_comm]
    exact Nat.le_trans b a
  have hhead : t.d 0 = 48 + N (dig s.d s.nd) r0 / 2 ^ k % 10 := hR.dgs 0 (by omega)
  have hd0 : t.d 0 ≠ 48 := by
    rw [hR.dgs 0 (by omega)]
    unfold qd
    rw [Nat.add_zero]
    have h1 : 1 ≤ N (dig s.d s.nd) r0 / 2 ^ k := Nat.div_pos hR.lead.hi hP
    have h2 : N (dig s.d s.nd) r0 / 2 ^ k < 10 := by
      rw [Nat.div_lt_iff_lt_mul hP]; exact hlt
    omega
  have hnorm := norm_of (dp := t.dp) (tr := t.tr) (show 0 < W by omega) (by omega) hd0 (fun i hi => ⟨_, hR.dgs i hi⟩)
  rw [← hnd] at hnorm
  refine ⟨⟨r0, ?_⟩, hnorm⟩
  rw [hfarN] at hbig
  by_cases hc : r0 + 800 ≤ T
  · have hW : W = cap := by omega
    refine ⟨h1, h20, hdp, ?_, ?_, hbig, hR.lead, hhead⟩
    · rw [← hfarN, ← hW, hX, show n = 799 by omega]
    rw [htr, lost_iff hs hP h1 hc hR.fin, hfarN]
  have hW : W = T - r0 := by omega
  have hNT := N_far (s := s) (r := T) hfar.1
  have hM : N (dig s.d s.nd) (r0 + 799) = N (dig s.d s.nd) T * 10 ^ (r0 + 799 - T) := by
    rw [hfarN, hNT, Nat.mul_assoc, ← Nat.pow_add]
    congr 2; omega
  have hdm := Nat.div_add_mod (N (dig s.d s.nd) T) (10 * 2 ^ k)
  rw [hR.fin, Nat.add_zero] at hdm
  obtain ⟨c, hc2⟩ : ∃ c, c = N (dig s.d s.nd) T / (10 * 2 ^ k) := ⟨_, rfl⟩
  rw [← hc2] at hdm
  have hNk : N (dig s.d s.nd) T = 2 ^ k * (10 * c) := by rw [← hdm, Nat.mul_comm 10, Nat.mul_assoc]
  have hq := quo_next hs.dig9 (2 ^ k) (T - 1)
  rw [show T - 1 + 1 = T by omega, hNk, Nat.mul_div_cancel_left _ hP] at hq
  have hq2 : N (dig s.d s.nd) (T - 1) / 2 ^ k = c := by omega
  rw [show r0 + n = T - 1 by omega, hq2] at hX
  have hM2 : s.X * 10 ^ (r0 + 799 - s.nd) = 2 ^ k * (10 * c * 10 ^ (r0 + 799 - T)) := by
    rw [← hfarN, hM, hNk, Nat.mul_assoc]
  refine ⟨h1, h20, hdp, ?_, ?_, hbig, hR.lead, hhead⟩
  · rw [hM2, Nat.mul_div_cancel_left _ hP, ← hX]
    have e : cap - t.nd = (W - t.nd) + (r0 + 799 - T) + 1 := by omega
    rw [e, Nat.pow_succ, Nat.pow_add]
    generalize 10 ^ (W - t.nd) = a
    generalize 10 ^ (r0 + 799 - T) = b
    grind
  rw [htr, lost_small _ _ _ _ (by omega), hM2, Nat.mul_mod_right]
  simp
theorem lostL_all (Y L : Nat) (hL : 800 < L) : lostL Y L L = decide (Y % 10 ^ (L - 800) ≠ 0) := by
  have h1 : ∀ n, n ≤ L - 800 → lostL Y L n = decide (Y % 10 ^ n ≠ 0) := by
    intro n
    induction n with
    | zero => intro _; rw [Nat.pow_zero, Nat.mod_one]; rfl
    | succ j ih =>
      intro h
      rw [lostL, ih (by omega), decide_eq_true (by omega : 800 ≤ L - (j + 1)), Bool.true_and, mod_succ]
      have hp : 0 < 10 ^ j := Nat.pow_pos (by decide)
      by_cases a : Y / 10 ^ j % 10 = 0
      · rw [a, Nat.zero_mul, Nat.zero_add]; simp
      have : Y / 10 ^ j % 10 * 10 ^ j + Y % 10 ^ j ≠ 0 := by
        have := Nat.mul_pos (Nat.pos_of_ne_zero a) hp
        omega
      rw [decide_eq_true a, decide_eq_true this, Bool.or_true]
  have h2 : ∀ j, lostL Y L (L - 800 + j) = lostL Y L (L - 800) := by
    intro j
    induction j with
    | zero => rw [Nat.add_zero]
    | succ j ih =>
      rw [← Nat.add_assoc, lostL, ih, decide_eq_false (by omega : ¬ 800 ≤ L - (L - 800 + j + 1)), Bool.false_and, Bool.or_false]
  have h3 := h2 800
  rw [show L - 800 + 800 = L by omega] at h3
  rw [h3, h1 _ (Nat.le_refl _)]
structure LQ (s t : St) (k L : Nat) : Prop where
  wide : s.nd ≤ L ∧ L ≤ s.nd + 19
  dp : t.dp = s.dp + ((L - s.nd : Nat) : Int)
  lo : 10 ^ (L - 1) ≤ s.X * 2 ^ k
  hi : s.X * 2 ^ k < 10 ^ L
  val : t.X * 10 ^ (cap - t.nd) = s.X * 2 ^ k * 10 ^ cap / 10 ^ L
  tr : t.tr = (s.tr || decide (s.X * 2 ^ k * 10 ^ cap % 10 ^ L ≠ 0))
  big : 10 ^ (cap - 1) ≤ s.X * 2 ^ k * 10 ^ cap / 10 ^ L
  head : t.d 0 = 48 + s.X * 2 ^ k / 10 ^ (L - 1) % 10
  nd : t.nd ≤ L
theorem left_q {s t : St} (hs : Weak s) {k : Nat} (h : LStep k s t) : (∃ L, LQ s t k L) ∧ Norm t := by
  obtain ⟨L, W, hL, hnd, hdp, htr⟩ := h
  have hcap := cap_eq
  have hpos := hs.pos
  have hwide := hL.wide
  have hwid := hL.wid
  have hlo : 10 ^ (L - 1) ≤ s.X * 2 ^ k := hL.lo
  have hhi : s.X * 2 ^ k < 10 ^ L := hL.hi
  have hdgs : ∀ i, i < W → t.d i = 48 + s.X * 2 ^ k / 10 ^ (L - 1 - i) % 10 := hL.dgs
  have htr' : t.tr = (s.tr || lostL (s.X * 2 ^ k) L L) := htr
  have htl : t.nd ≤ W := by rw [hnd]; exact tl_le _ _
  have htail := N_tail t.d (W := W) htl (fun i h1 h2 => tl_zero t.d W i (by rw [← hnd]; exact h1) h2)
  have hd0 : t.d 0 ≠ 48 := by
    rw [hdgs 0 (by omega), Nat.sub_zero]
    have hp : 0 < 10 ^ (L - 1) := Nat.pow_pos (by decide)
    have h1 : 1 ≤ s.X * 2 ^ k / 10 ^ (L - 1) := Nat.div_pos hlo hp
    have h2 : s.X * 2 ^ k / 10 ^ (L - 1) < 10 := by
      rw [Nat.div_lt_iff_lt_mul hp]
      have e : 10 * 10 ^ (L - 1) = 10 ^ L := by
        rw [Nat.mul_comm, ← Nat.pow_succ]
        congr 1; omega
      rw [e]
      exact hhi
    omega
  have hnorm := norm_of (dp := t.dp) (tr := t.tr) (show 0 < W by omega) (by omega) hd0 (fun i hi => ⟨_, hdgs i hi⟩)
  rw [← hnd] at hnorm
  refine ⟨⟨L, ?_⟩, hnorm⟩
  obtain ⟨Y, hY⟩ : ∃ Y, Y = s.X * 2 ^ k := ⟨_, rfl⟩
  rw [← hY] at hlo hhi hdgs htr'
  have hhead : t.d 0 = 48 + Y / 10 ^ (L - 1) % 10 := by
    have := hdgs 0 (by omega)
    rw [Nat.sub_zero] at this
    exact this
  have hX : t.X * 10 ^ (W - t.nd) = Y / 10 ^ (L - W) := by
    have h2 : N (fun i => t.d i - 48) W = Y / 10 ^ (L - W) := N_cut hhi W (by omega) (fun i hi => by rw [hdgs i hi]; omega)
    rw [← h2, htail]; rfl
  have hbig : 10 ^ (cap - 1) ≤ Y * 10 ^ cap / 10 ^ L := by
    rw [Nat.le_div_iff_mul_le (Nat.pow_pos (by decide)), ← Nat.pow_add]
    have e : cap - 1 + L = L - 1 + cap := by omega
    rw [e, Nat.pow_add]
    exact Nat.mul_le_mul_right _ hlo
  by_cases hc : L ≤ 800
  · have hW : W = L := by omega
    rw [hW, Nat.sub_self, Nat.pow_zero, Nat.div_one] at hX
    have e : (10 : Nat) ^ cap = 10 ^ (cap - L) * 10 ^ L := by rw [← Nat.pow_add]; congr 1; omega
    have hp : 0 < 10 ^ L := Nat.pow_pos (by decide)
    refine ⟨hwide, hdp, by rw [← hY]; exact hlo, by rw [← hY]; exact hhi, ?_, ?_, by rw [← hY]; exact hbig, by rw [← hY]; exact hhead, by omega⟩
    · rw [← hY, e, ← Nat.mul_assoc, Nat.mul_div_cancel _ hp, ← hX, Nat.mul_assoc, ← Nat.pow_add, show cap - t.nd = L - t.nd + (cap - L) by omega]
    rw [htr', lostL_none _ L hc L (by omega), ← hY, e, ← Nat.mul_assoc, Nat.mul_mod_left]
    simp
  have hW : W = 800 := by omega
  have e : (10 : Nat) ^ L = 10 ^ (L - 800) * 10 ^ cap := by rw [← Nat.pow_add]; congr 1; omega
  have hp : 0 < 10 ^ cap := Nat.pow_pos (by decide)
  refine ⟨hwide, hdp, by rw [← hY]; exact hlo, by rw [← hY]; exact hhi, ?_, ?_, by rw [← hY]; exact hbig, by rw [← hY]; exact hhead, by omega⟩
  · rw [← hY, e, Nat.mul_div_mul_right _ _ hp, ← hW, ← hX, hW, ← hcap]
  rw [htr', lostL_all Y L (by omega), ← hY, e, Nat.mul_mod_mul_right]
  have hz : Y % 10 ^ (L - 800) * 10 ^ cap ≠ 0 ↔ Y % 10 ^ (L - 800) ≠ 0 := by
    constructor
    · intro h1 h2; rw [h2, Nat.zero_mul] at h1; exact h1 rfl
    intro h1 h2
    rcases Nat.mul_eq_zero.1 h2 with h3 | h3
    · exact h1 h3
    omega
  rw [decide_eq_decide.2 hz]
def St.w (K : Nat) (s : St) : Nat := s.X * 10 ^ (s.dp - s.nd + K).toNat
structure Cut (K : Nat) (s t : St) (P Q : Nat) : Prop where
  le : t.w K * P ≤ s.w K * Q
  ex : t.tr = false → s.tr = false ∧ t.w K * P = s.w K * Q
  lt : t.tr = true → s.tr = true ∨ t.w K * P < s.w K * Q
  near : 10 ^ (cap - 1) * (s.w K * Q) ≤ 10 ^ (cap - 1) * (t.w K * P) + s.w K * Q
  dv : s.tr = false → t.tr = true → ∀ c : Nat, c ≤ K → (c : Int) + t.dp ≤ 800 → ¬ (P * 10 ^ (K - c)) ∣ (s.w K * Q)
theorem cut_gen {x y z U D G T : Nat} (hz : 0 < z) (hD : 0 < D) (hG : 0 < G) (h1 : x * z = U * G) (h2 : y * z = U / D * D * G) (hT : T ≤ U / D) :
    y ≤ x ∧ (U % D = 0 → y = x) ∧ (U % D ≠ 0 → y < x) ∧ T * x ≤ T * y + x := by
  have hdm := Nat.div_add_mod U D
  have hml := Nat.mod_lt U hD
  obtain ⟨q, hq⟩ : ∃ q, q = U / D := ⟨_, rfl⟩
  obtain ⟨r, hr⟩ : ∃ r, r = U % D := ⟨_, rfl⟩
  rw [← hq] at hdm h2 hT
  rw [← hr] at hdm hml ⊢
  have e1 : x * z = (q * D + r) * G := by rw [h1, ← hdm, Nat.mul_comm D q]
  have e2 : x * z = y * z + r * G := by rw [e1, h2, Nat.add_mul]
  refine ⟨?_, fun h => ?_, fun h => ?_, ?_⟩
  · exact Nat.le_of_mul_le_mul_right (by omega) hz
  · rw [h, Nat.zero_mul, Nat.add_zero] at e2
    exact (Nat.eq_of_mul_eq_mul_right hz e2).symm
  · have := Nat.mul_pos (Nat.pos_of_ne_zero h) hG
    exact Nat.lt_of_mul_lt_mul_right (a := z) (by omega)
  refine Nat.le_of_mul_le_mul_right ?_ hz
  have e3 : T * r * G ≤ x * z := by
    rw [e1]
    refine Nat.mul_le_mul_right _ ?_
    have a : T * r ≤ q * D := Nat.mul_le_mul hT (Nat.le_of_lt hml)
    omega
  have e4 : T * x * z = T * y * z + T * r * G := by
    rw [Nat.mul_assoc, e2, Nat.mul_add, Nat.mul_assoc, Nat.mul_assoc]
  rw [e4, Nat.add_mul]
  omega
theorem right_cut {s t : St} (hs : Weak s) {k r0 K : Nat} (ht : Norm t) (h : RQ s t k r0) (hK : 800 ≤ t.dp + K) : Cut K s t (2 ^ k) 1 := by
  have hcap := cap_eq
  have hP : 0 < 2 ^ k := Nat.pow_pos (by decide)
  have hdp := h.dp
  have hle := hs.le
  have htle := ht.le
  have hr1 := h.r1
  obtain ⟨g, hg⟩ : ∃ g : Nat, (g : Int) = t.dp - 800 + K := ⟨(t.dp - 800 + K).toNat, by omega⟩
  obtain ⟨U, hU⟩ : ∃ U, U = s.X * 10 ^ (r0 + 799 - s.nd) := ⟨_, rfl⟩
  have hval := h.val
  have htr := h.tr
  have hbig := h.big
  rw [← hU] at hval htr hbig
  have hG : 0 < 10 ^ g := Nat.pow_pos (by decide)
  have e1 : s.w K * 1 * 1 = U * 10 ^ g := by
    rw [Nat.mul_one, Nat.mul_one, hU, Nat.mul_assoc, ← Nat.pow_add]
    unfold St.w
    congr 2; omega
  have e2 : t.w K * 2 ^ k * 1 = U / 2 ^ k * 2 ^ k * 10 ^ g := by
    have : t.w K = U / 2 ^ k * 10 ^ g := by
      rw [← hval, Nat.mul_assoc, ← Nat.pow_add]
      unfold St.w
      congr 2; omega
    rw [Nat.mul_one, this, Nat.mul_right_comm]
  obtain ⟨c1, c2, c3, c4⟩ := cut_gen (by decide) hP hG e1 e2 hbig
  refine ⟨c1, fun hf => ?_, fun hf => ?_, c4, fun hsf hf c hcK hc hdv => ?_⟩
  · rw [htr, Bool.or_eq_false_iff] at hf
    exact ⟨hf.1, c2 (Decidable.not_not.1 (of_decide_eq_false hf.2))⟩
  · rw [htr, Bool.or_eq_true] at hf
    rcases hf with hf | hf
    · exact Or.inl hf
    exact Or.inr (c3 (of_decide_eq_true hf))
  rw [htr, hsf, Bool.false_or] at hf
  have hne := of_decide_eq_true hf
  apply hne
  rw [Nat.mul_one] at e1
  rw [e1] at hdv
  have e3 : 10 ^ (K - c) = 10 ^ (K - c - g) * 10 ^ g := by rw [← Nat.pow_add]; congr 1; omega
  rw [e3, ← Nat.mul_assoc] at hdv
  have h5 := Nat.dvd_of_mul_dvd_mul_right hG hdv
  exact Nat.mod_eq_zero_of_dvd (Nat.dvd_trans (Nat.dvd_mul_right _ _) h5)
theorem left_cut {s t : St} (hs : Weak s) {k L K : Nat} (ht : Norm t) (h : LQ s t k L) (hK : 800 ≤ t.dp + K) (hK2 : 0 ≤ s.dp - s.nd + K) : Cut K s t 1 (2 ^ k) := by
  have hcap := cap_eq
  have hdp := h.dp
  have hle := hs.le
  have htle := ht.le
  have hwide := h.wide
  obtain ⟨g, hg⟩ : ∃ g : Nat, (g : Int) = t.dp - 800 + K := ⟨(t.dp - 800 + K).toNat, by omega⟩
  obtain ⟨U, hU⟩ : ∃ U, U = s.X * 2 ^ k * 10 ^ cap := ⟨_, rfl⟩
  have hval := h.val
  have htr := h.tr
  have hbig := h.big
  rw [← hU] at hval htr hbig
  have hG : 0 < 10 ^ g := Nat.pow_pos (by decide)
  have hD : 0 < 10 ^ L := Nat.pow_pos (by decide)
  have e1 : s.w K * 2 ^ k * 10 ^ L = U * 10 ^ g := by
    have e : (10 : Nat) ^ (s.dp - s.nd + K).toNat * 10 ^ L = 10 ^ cap * 10 ^ g := by
      rw [← Nat.pow_add, ← Nat.pow_add]; congr 1; omega
    rw [hU]
    unfold St.w
    calc s.X * 10 ^ (s.dp - s.nd + K).toNat * 2 ^ k * 10 ^ L = s.X * 2 ^ k * (10 ^ (s.dp - s.nd + K).toNat * 10 ^ L) := by
          generalize 10 ^ (s.dp - s.nd + K).toNat = a
          generalize (10 : Nat) ^ L = b
          generalize (2 : Nat) ^ k = c
          grind
      _ = s.X * 2 ^ k * (10 ^ cap * 10 ^ g) := by rw [e]
      _ = s.X * 2 ^ k * 10 ^ cap * 10 ^ g := (Nat.mul_assoc _ _ _).symm
  have e2 : t.w K * 1 * 10 ^ L = U / 10 ^ L * 10 ^ L * 10 ^ g := by
    have : t.w K = U / 10 ^ L * 10 ^ g := by
      rw [← hval, Nat.mul_assoc, ← Nat.pow_add]
      unfold St.w
      congr 2; omega
    rw [Nat.mul_one, this, Nat.mul_right_comm]
  obtain ⟨c1, c2, c3, c4⟩ := cut_gen hD hD hG e1 e2 hbig
  refine ⟨c1, fun hf => ?_, fun hf => ?_, c4, fun hsf hf c hcK hc hdv => ?_⟩
  · rw [htr, Bool.or_eq_false_iff] at hf
    exact ⟨hf.1, c2 (Decidable.not_not.1 (of_decide_eq_false hf.2))⟩
  · rw [htr, Bool.or_eq_true] at hf
    rcases hf with hf | hf
    · exact Or.inl hf
    exact Or.inr (c3 (of_decide_eq_true hf))
  rw [htr, hsf, Bool.false_or] at hf
  have hne := of_decide_eq_true hf
  apply hne
  have hdv2 := Nat.mul_dvd_mul_right hdv (10 ^ L)
  rw [e1, Nat.one_mul] at hdv2
  have e3 : 10 ^ (K - c) = 10 ^ (K - c - g) * 10 ^ g := by rw [← Nat.pow_add]; congr 1; omega
  rw [e3, Nat.mul_comm _ (10 ^ L), ← Nat.mul_assoc] at hdv2
  have h5 := Nat.dvd_of_mul_dvd_mul_right hG hdv2
  exact Nat.mod_eq_zero_of_dvd (Nat.dvd_trans (Nat.dvd_mul_right _ _) h5)
end Go.Proofs.YtjpiplplohapnaaGreatDoor.Dc
namespace Go.Proofs.YtjpiplplohapnaaGreatDoor.Dc
def tabN (n : Nat) : Nat := if 9 ≤ n then 27 else [1, 3, 6, 9, 13, 16, 19, 23, 26].getD n 0
theorem tab_facts : ∀ n : Fin 9, 1 ≤ tabN n.val ∧ tabN n.val ≤ 26 ∧ (1 ≤ n.val → 2 ^ tabN n.val ≤ 10 ^ n.val) := by decide +kernel
theorem tab_range (n : Nat) : 1 ≤ tabN n ∧ tabN n ≤ 27 := by
  by_cases h : 9 ≤ n
  · unfold tabN; rw [if_pos h]; exact ⟨by decide, by decide⟩
  have := tab_facts ⟨n, by omega⟩
  exact ⟨this.1, Nat.le_trans this.2.1 (by decide)⟩
theorem tab_pow (n : Nat) (h1 : 1 ≤ n) : 2 ^ tabN n ≤ 10 ^ n := by
  by_cases h : 9 ≤ n
  · unfold tabN
    rw [if_pos h]
    have a : (10 : Nat) ^ 9 ≤ 10 ^ n := Nat.pow_le_pow_right (by decide) h
    have b : (2 : Nat) ^ 27 ≤ 10 ^ 9 := by decide
    omega
  exact (tab_facts ⟨n, by omega⟩).2.2 h1
theorem tab_zero : tabN 0 = 1 := by decide
inductive Down : Nat → St → St → Prop
  | nil (s : St) : Down 0 s s
  | snoc {r : Nat} {s t u : St} : Down r s t → 0 < t.dp → RStep (tabN t.dp.toNat) t u → Norm u → Down (r + tabN t.dp.toNat) s u
inductive Upw : Nat → St → St → Prop
  | nil (s : St) : Upw 0 s s
  | snoc {l : Nat} {s t u : St} : Upw l s t → t.dp ≤ 0 → (t.dp = 0 → t.d 0 < 53) → LStep (tabN (-t.dp).toNat) t u → Norm u → Upw (l + tabN (-t.dp).toNat) s u
theorem Down.weak {r : Nat} {s t : St} (h : Down r s t) (hs : Weak s) : Weak t := by
  cases h with
  | nil => exact hs
  | snoc _ _ _ h => exact h.weak
theorem Upw.weak {r : Nat} {s t : St} (h : Upw r s t) (hs : Weak s) : Weak t := by
  cases h with
  | nil => exact hs
  | snoc _ _ _ _ h => exact h.weak
def St.hd (s : St) : Nat := s.d 0 - 48
theorem Weak.hd9 {s : St} (h : Weak s) : 1 ≤ s.hd ∧ s.hd ≤ 9 ∧ s.d 0 = 48 + s.hd := by
  unfold St.hd
  have := h.dgs 0 h.pos
  have := h.first
  omega
theorem Weak.lo {s : St} (h : Weak s) : s.hd * 10 ^ (s.nd - 1) ≤ s.X ∧ s.X < (s.hd + 1) * 10 ^ (s.nd - 1) := by
  obtain ⟨j, hj⟩ : ∃ j, s.nd = j + 1 := ⟨s.nd - 1, by have := h.pos; omega⟩
  have h1 := N_split (dig s.d s.nd) 1 j
  rw [show 1 + j = s.nd by omega] at h1
  have h2 : N (dig s.d s.nd) 1 = s.hd := by
    show 10 * 0 + dig s.d s.nd 0 = _
    unfold dig St.hd
    rw [if_pos h.pos]; omega
  have h3 : N (fun i => dig s.d s.nd (1 + i)) j < 10 ^ j := N_lt (fun i => h.dig9 _) j
  rw [h2] at h1
  rw [show s.nd - 1 = j by omega, Nat.add_mul, Nat.one_mul]
  unfold St.X
  rw [h1]
  omega
theorem right_tab {s t : St} (hs : Weak s) {r0 : Nat} (hd : 0 < s.dp) (h : RQ s t (tabN s.dp.toNat) r0) :
    0 ≤ t.dp ∧ t.dp ≤ s.dp ∧ (t.dp = s.dp → t.hd < s.hd) := by
  have hdp := h.dp
  have h1 := h.r1
  obtain ⟨n, hn⟩ : ∃ n : Nat, s.dp = n := ⟨s.dp.toNat, by omega⟩
  have hn0 : s.dp.toNat = n := by omega
  have hk := tab_range n
  have htp := tab_pow n (by omega)
  have hlo := h.lead.lo
  have hhead := h.head
  rw [hn0] at hlo hhead
  refine ⟨?_, by omega, fun he => ?_⟩
  · rcases Nat.lt_or_ge (n + 1) r0 with g | g
    · exfalso
      obtain ⟨j, hj⟩ : ∃ j, r0 - 1 = j + 1 := ⟨r0 - 2, by omega⟩
      have h2 := N_big hs.dig0 j
      rw [hj] at hlo
      have h3 : (10 : Nat) ^ n ≤ 10 ^ j := Nat.pow_le_pow_right (by decide) (by omega)
      omega
    omega
  have hr : r0 = 1 := by omega
  subst hr
  have h2 : N (dig s.d s.nd) 1 = s.hd := by
    show 10 * 0 + dig s.d s.nd 0 = _
    unfold dig St.hd
    rw [if_pos hs.pos]; omega
  have h9 := hs.hd9
  rw [h2] at hhead
  have h4 : s.hd / 2 ^ tabN n < s.hd := by
    refine Nat.div_lt_self (by omega) ?_
    have : 2 ^ 1 ≤ 2 ^ tabN n := Nat.pow_le_pow_right (by decide) hk.1
    omega
  show t.d 0 - 48 < s.hd
  rw [hhead]
  generalize s.hd / 2 ^ tabN n = a at *
  omega
theorem left_tab {s t : St} (hs : Weak s) {L : Nat} (hd : s.dp ≤ 0) (h5 : s.dp = 0 → s.d 0 < 53) (h : LQ s t (tabN (-s.dp).toNat) L) :
    (L : Int) ≤ s.nd - s.dp ∧ t.dp ≤ 0 ∧ s.dp ≤ t.dp ∧ (t.dp = s.dp → s.hd < t.hd) := by
  have hdp := h.dp
  have hw := h.wide
  have hpos := hs.pos
  obtain ⟨n, hn⟩ : ∃ n : Nat, s.dp = -(n : Int) := ⟨(-s.dp).toNat, by omega⟩
  have hn0 : (-s.dp).toNat = n := by omega
  have hk := tab_range n
  have h9 := hs.hd9
  obtain ⟨hX1, hX2⟩ := hs.lo
  have hlo := h.lo
  have hhi := h.hi
  have hhead := h.head
  rw [hn0] at hlo hhead hhi
  have hY : s.X * 2 ^ tabN n < 10 ^ (s.nd + n) := by
    rcases Nat.eq_zero_or_pos n with e | e
    · subst e
      rw [tab_zero]
      have h6 := h5 (by omega)
      have e1 : 10 ^ s.nd = 10 ^ (s.nd - 1) * 10 := by rw [← Nat.pow_succ]; congr 1; omega
      have h7 : (s.hd + 1) * 10 ^ (s.nd - 1) ≤ 5 * 10 ^ (s.nd - 1) := Nat.mul_le_mul_right _ (by omega)
      rw [Nat.add_zero, e1, Nat.pow_one]
      omega
    have h6 := tab_pow n e
    have h7 := X_high hs
    rw [Nat.pow_add]
    exact Nat.lt_of_lt_of_le (Nat.mul_lt_mul_of_pos_right h7 (Nat.pow_pos (by decide))) (Nat.mul_le_mul_left _ h6)
  have hL : L ≤ s.nd + n := by
    rcases Nat.lt_or_ge (s.nd + n) L with g | g
    · exfalso
      have : (10 : Nat) ^ (s.nd + n) ≤ 10 ^ (L - 1) := Nat.pow_le_pow_right (by decide) (by omega)
      omega
    exact g
  refine ⟨by omega, by omega, by omega, fun he => ?_⟩
  have hLn : L = s.nd := by omega
  subst hLn
  have hp : 0 < 10 ^ (s.nd - 1) := Nat.pow_pos (by decide)
  have e1 : 10 ^ s.nd = 10 * 10 ^ (s.nd - 1) := by rw [Nat.mul_comm, ← Nat.pow_succ]; congr 1; omega
  have h6 : 2 * s.hd ≤ s.X * 2 ^ tabN n / 10 ^ (s.nd - 1) := by
    rw [Nat.le_div_iff_mul_le hp]
    have h7 : 2 ^ 1 ≤ 2 ^ tabN n := Nat.pow_le_pow_right (by decide) hk.1
    have h8 := Nat.mul_le_mul hX1 h7
    rw [Nat.pow_one] at h8
    rw [Nat.mul_comm 2, Nat.mul_right_comm]
    exact h8
  have h7 : s.X * 2 ^ tabN n / 10 ^ (s.nd - 1) < 10 := by
    rw [Nat.div_lt_iff_lt_mul hp, ← e1]; exact hhi
  show s.hd < t.d 0 - 48
  rw [hhead]
  omega
structure Ap (K w0 : Nat) (s : St) (P Q E c : Nat) : Prop where
  le : s.w K * P ≤ w0 * Q
  ex : s.tr = false → s.w K * P = w0 * Q
  lt : s.tr = true → s.w K * P < w0 * Q
  near : 10 ^ (cap - 1) * (w0 * Q) ≤ 10 ^ (cap - 1) * (s.w K * P) + E * (w0 * Q)
  dv : s.tr = true → ¬ (P * 10 ^ (K - c)) ∣ (w0 * Q)
theorem Ap.start (K : Nat) {s : St} (h : s.tr = false) (c : Nat) : Ap K (s.w K) s 1 1 0 c :=
  ⟨Nat.le_refl _, fun _ => rfl, (fun h2 => by rw [h] at h2; cases h2), by omega, fun h2 => by rw [h] at h2; cases h2⟩
theorem Ap.step {K w0 : Nat} {s t : St} {P Q E c P' Q' c' : Nat} (h : Ap K w0 s P Q E c) (hc : Cut K s t P' Q') (hP : 0 < P) (hQ : 0 < Q') (hcK : c' ≤ K) (hc8 : (c' : Int) + t.dp ≤ 800)
    (hdv : (Q' * 10 ^ (K - c)) ∣ (P' * 10 ^ (K - c'))) (hp' : 0 < P') : Ap K w0 t (P * P') (Q * Q') (E + 1) c' := by
  have e1 : t.w K * (P * P') = t.w K * P' * P := by rw [Nat.mul_comm P, Nat.mul_assoc]
  have e2 : w0 * (Q * Q') = w0 * Q * Q' := by rw [Nat.mul_assoc]
  have e3 : s.w K * Q' * P = s.w K * P * Q' := Nat.mul_right_comm _ _ _
  have hle : s.w K * P * Q' ≤ w0 * Q * Q' := Nat.mul_le_mul_right _ h.le
  refine ⟨?_, fun hf => ?_, fun hf => ?_, ?_, fun hf hd => ?_⟩
  · rw [e1, e2]
    have := Nat.mul_le_mul_right P hc.le
    rw [e3] at this
    exact Nat.le_trans this hle
  · obtain ⟨h1, h2⟩ := hc.ex hf
    rw [e1, e2, h2, e3, h.ex h1]
  · rw [e1, e2]
    have h3 := Nat.mul_le_mul_right P hc.le
    rw [e3] at h3
    rcases hc.lt hf with h1 | h1
    · have := Nat.mul_lt_mul_of_pos_right (h.lt h1) hQ
      exact Nat.lt_of_le_of_lt h3 this
    have := Nat.mul_lt_mul_of_pos_right h1 hP
    rw [e3] at this
    exact Nat.lt_of_lt_of_le this hle
  · rw [e1, e2]
    have h3 := Nat.mul_le_mul_right Q' h.near
    have h4 := Nat.mul_le_mul_right P hc.near
    generalize 10 ^ (cap - 1) = T at *
    have a1 : T * (w0 * Q) * Q' = T * (w0 * Q * Q') := Nat.mul_assoc _ _ _
    have a2 : (T * (s.w K * P) + E * (w0 * Q)) * Q' = T * (s.w K * P * Q') + E * (w0 * Q * Q') := by rw [Nat.add_mul, Nat.mul_assoc T, Nat.mul_assoc E]
    have a3 : T * (s.w K * Q') * P = T * (s.w K * P * Q') := by rw [Nat.mul_assoc T, e3]
    have a4 : (T * (t.w K * P') + s.w K * Q') * P = T * (t.w K * P' * P) + s.w K * P * Q' := by rw [Nat.add_mul, Nat.mul_assoc T, e3]
    rw [a1, a2] at h3
    rw [a3, a4] at h4
    rw [Nat.add_mul E 1, Nat.one_mul]
    omega
  rw [e2] at hd
  cases hst : s.tr
  · have h1 := h.ex hst
    have h2 := hc.dv hst hf c' hcK hc8
    apply h2
    have e4 : P' * 10 ^ (K - c') * P = P * P' * 10 ^ (K - c') := by rw [Nat.mul_comm _ P, Nat.mul_assoc]
    have hd2 : P' * 10 ^ (K - c') * P ∣ s.w K * Q' * P := by rw [e3, h1, e4]; exact hd
    exact Nat.dvd_of_mul_dvd_mul_right hP hd2
  apply h.dv hst
  have h1 : P * 10 ^ (K - c) * Q' ∣ w0 * Q * Q' := by
    refine Nat.dvd_trans ?_ hd
    have h2 := Nat.mul_dvd_mul_left P hdv
    rw [Nat.mul_comm Q', ← Nat.mul_assoc, ← Nat.mul_assoc] at h2
    exact h2
  exact Nat.dvd_of_mul_dvd_mul_right hQ h1
theorem down_ap {K r : Nat} {s t : St} (h : Down r s t) : Weak s → s.tr = false → 0 < s.dp → s.dp ≤ 310 → 2000 ≤ K →
    ∃ E, Ap K (s.w K) t (2 ^ r) 1 E 200 ∧ 0 ≤ t.dp ∧ t.dp ≤ 310 ∧ (E : Int) + (10 * t.dp + t.hd) ≤ 3109 := by
  induction h with
  | nil s =>
    intro hs htr hd1 hd2 hK
    exact ⟨0, by rw [Nat.pow_zero]; exact Ap.start K htr 200, by omega, hd2, by have := hs.hd9; omega⟩
  | @snoc r s t u hD hd hR hn ih =>
    intro hs htr hd1 hd2 hK
    obtain ⟨E, h1, h2, h3, h4⟩ := ih hs htr hd1 hd2 hK
    have hw := hD.weak hs
    obtain ⟨⟨r0, hq⟩, -⟩ := right_q hw (by have := tab_range t.dp.toNat; omega) hR
    obtain ⟨g1, g2, g3⟩ := right_tab hw hd hq
    have hc := right_cut (K := K) hw hn hq (by omega)
    have hA := h1.step (c' := 200) hc (Nat.pow_pos (by decide)) (by decide) (by omega) (by omega) (by rw [Nat.one_mul]; exact Nat.dvd_mul_left _ _) (Nat.pow_pos (by decide))
    rw [← Nat.pow_add, Nat.mul_one] at hA
    refine ⟨E + 1, hA, g1, by omega, ?_⟩
    have ht9 := hw.hd9
    have hu9 := hn.weak.hd9
    by_cases he : u.dp = t.dp
    · have := g3 he; omega
    omega
theorem up_ap {K l : Nat} {s t : St} (h : Upw l s t) {w0 P E : Nat} : Weak s → s.dp = 0 → 2000 ≤ K → 0 < P → Ap K w0 s P 1 E 200 → E ≤ 3109 →
    ∃ E', Ap K w0 t P (2 ^ l) E' (200 - l) ∧ t.dp = 0 ∧ l + s.hd ≤ t.hd ∧ E' ≤ 3109 + l := by
  induction h with
  | nil s =>
    intro hs hd hK hP hA hE
    exact ⟨E, by rw [Nat.pow_zero]; exact hA, hd, by omega, by omega⟩
  | @snoc l s t u hU hd h5 hL hn ih =>
    intro hs hd0 hK hP hA hE
    obtain ⟨E', h1, h2, h3, h4⟩ := ih hs hd0 hK hP hA hE
    have hw := hU.weak hs
    obtain ⟨⟨L, hq⟩, -⟩ := left_q hw hL
    obtain ⟨g0, g1, g2, g3⟩ := left_tab hw hd h5 hq
    have hud : u.dp = 0 := by omega
    have hlt := g3 (by omega)
    have h9 := hn.weak.hd9
    have hle := hw.le
    have hk : tabN (-t.dp).toNat = 1 := by rw [h2]; exact tab_zero
    have hc := left_cut (K := K) hw hn hq (by omega) (by omega)
    have hl : 200 - l = (200 - (l + 1)) + 1 := by omega
    have hA := h1.step (c' := 200 - (l + 1)) hc hP (Nat.pow_pos (by decide)) (by omega) (by omega) (by
      rw [hk, Nat.one_mul, Nat.pow_one]
      have e : K - (200 - (l + 1)) = K - (200 - l) + 1 := by omega
      rw [e, Nat.pow_succ, Nat.mul_comm]
      exact Nat.mul_dvd_mul_left _ (by decide)) (by decide)
    rw [Nat.mul_one, ← Nat.pow_add, hk] at hA
    rw [hk]
    exact ⟨E' + 1, hA, hud, by omega, by omega⟩
end Go.Proofs.YtjpiplplohapnaaGreatDoor.Dc
namespace Go.Proofs.YtjpiplplohapnaaGreatDoor.Dc
open Nr Us
def mantN (s : St) : Nat := if s.dp < 0 then 0 else N (dig s.d s.nd) s.dp.toNat + (if upB s s.dp.toNat then 1 else 0)
def halfB (s : St) (p : Nat) : Nat := if 5 ≤ dig s.d s.nd p then 1 else 0
theorem w_split {s : St} (hs : Weak s) {K p : Nat} (hp : s.dp = p) (hK : 2000 ≤ K) :
    N (dig s.d s.nd) p * 10 ^ K ≤ s.w K ∧ s.w K < (N (dig s.d s.nd) p + 1) * 10 ^ K ∧
    (2 * N (dig s.d s.nd) p + halfB s p) * 10 ^ K ≤ 2 * s.w K ∧ 2 * s.w K < (2 * N (dig s.d s.nd) p + halfB s p + 1) * 10 ^ K := by
  have hle := hs.le
  have h9 := hs.dig9
  have h1 := N_far (s := s) (r := p + K) (by omega)
  have hw : s.w K = N (dig s.d s.nd) (p + K) := by
    rw [h1]; unfold St.w; congr 2; omega
  obtain ⟨j, hj⟩ : ∃ j, K = 1 + j := ⟨K - 1, by omega⟩
  have h2 := N_split (dig s.d s.nd) p K
  have h3 := N_split (fun i => dig s.d s.nd (p + i)) 1 j
  have h4 : N (fun i => dig s.d s.nd (p + i)) 1 = dig s.d s.nd p := by
    show 10 * 0 + dig s.d s.nd (p + 0) = _
    rw [Nat.add_zero]; omega
  have h5 : N (fun i => dig s.d s.nd (p + (1 + i))) j < 10 ^ j := N_lt (fun i => h9 _) j
  rw [← hj, h4] at h3
  rw [h3] at h2
  rw [← hw] at h2
  have hp10 : (10 : Nat) ^ K = 10 * 10 ^ j := by rw [hj, Nat.add_comm, Nat.pow_succ, Nat.mul_comm]
  have h9p := h9 p
  rw [h2, hp10]
  unfold halfB
  generalize N (fun i => dig s.d s.nd (p + (1 + i))) j = R at *
  generalize N (dig s.d s.nd) p = M at *
  generalize dig s.d s.nd p = f at *
  generalize (10 : Nat) ^ j = Z at *
  have e1 : M * (10 * Z) = 10 * (M * Z) := by grind
  have e2 : (M + 1) * (10 * Z) = 10 * (M * Z) + 10 * Z := by grind
  have e3 : f * Z ≤ 9 * Z := Nat.mul_le_mul_right _ h9p
  rw [e1, e2]
  refine ⟨by omega, by omega, ?_, ?_⟩
  · split
    · have : 5 * Z ≤ f * Z := Nat.mul_le_mul_right _ (by assumption)
      have e4 : (2 * M + 1) * (10 * Z) = 20 * (M * Z) + 10 * Z := by grind
      rw [e4]; omega
    have e4 : (2 * M + 0) * (10 * Z) = 20 * (M * Z) := by grind
    rw [e4]; omega
  split
  · have e4 : (2 * M + 1 + 1) * (10 * Z) = 20 * (M * Z) + 20 * Z := by grind
    rw [e4]; omega
  have : f * Z ≤ 4 * Z := Nat.mul_le_mul_right _ (by omega)
  have e4 : (2 * M + 0 + 1) * (10 * Z) = 20 * (M * Z) + 10 * Z := by grind
  rw [e4]; omega
theorem mant_cut {s : St} (hs : Norm s) (ht : s.tr = true) {p : Nat} (hp : s.dp = p) : mantN s = N (dig s.d s.nd) p + halfB s p := by
  unfold mantN halfB
  rw [if_neg (by omega), hp, Int.toNat_natCast]
  congr 1
  unfold upB dig
  by_cases h1 : s.nd ≤ p
  · rw [if_pos h1, if_neg (by omega : ¬ p < s.nd)]; rfl
  rw [if_neg h1, if_pos (by omega : p < s.nd)]
  have hb := hs.dgs p (by omega)
  by_cases h2 : s.d p = 53 ∧ p + 1 = s.nd
  · rw [if_pos h2, ht, Bool.true_or, if_pos rfl, if_pos (by omega)]
  rw [if_neg h2]
  by_cases h3 : 53 ≤ s.d p
  · rw [decide_eq_true h3, if_pos rfl, if_pos (by omega)]
  rw [decide_eq_false h3, if_neg (by decide), if_neg (by omega)]
theorem mant_rhe {s : St} (hs : Norm s) (ht : s.tr = false) {K : Nat} (hK : 2000 ≤ K) (hdp : -1000 ≤ s.dp) : Rhe (s.w K) (10 ^ K) (mantN s) := by
  have hle := hs.le
  have hpos := hs.pos
  unfold mantN
  by_cases h0 : s.dp < 0
  · rw [if_pos h0]
    have h1 : s.X < 10 ^ s.nd := X_high hs.weak
    have h2 : s.w K < 10 ^ (K - 1) := by
      unfold St.w
      have h3 := Nat.mul_lt_mul_of_pos_right h1 (Nat.pow_pos (a := 10) (n := (s.dp - s.nd + K).toNat) (by decide))
      rw [← Nat.pow_add] at h3
      exact Nat.lt_of_lt_of_le h3 (Nat.pow_le_pow_right (by decide) (by omega))
    have h3 : (10 : Nat) ^ K = 10 ^ (K - 1) * 10 := by rw [← Nat.pow_succ]; congr 1; omega
    unfold Rhe
    rw [h3]
    generalize (10 : Nat) ^ (K - 1) = Z at *
    refine ⟨by omega, by omega, by omega, by omega⟩
  rw [if_neg h0]
  obtain ⟨p, hp⟩ : ∃ p : Nat, s.dp = p := ⟨s.dp.toNat, by omega⟩
  rw [hp, Int.toNat_natCast]
  by_cases h1 : p < s.nd
  · have h2 := up_rhe hs ht (k := p) (j := s.nd - p - 1) (by omega)
    have h3 := rhe_scale' (10 ^ (p + K - s.nd)) (Nat.pow_pos (by decide)) h2
    have e1 : s.X * 10 ^ (p + K - s.nd) = s.w K := by unfold St.w; congr 2; omega
    have e2 : (10 : Nat) ^ (s.nd - p - 1 + 1) * 10 ^ (p + K - s.nd) = 10 ^ K := by rw [← Nat.pow_add]; congr 1; omega
    rw [e1, e2] at h3
    exact h3
  have hu : upB s p = false := by unfold upB; rw [if_pos (by omega)]
  rw [hu, if_neg (by decide), Nat.add_zero, N_far (by omega)]
  have e1 : s.w K = s.X * 10 ^ (p - s.nd) * 10 ^ K := by
    rw [Nat.mul_assoc, ← Nat.pow_add]; unfold St.w; congr 2; omega
  rw [e1]
  exact rhe_exact _ _ (Nat.pow_pos (by decide))
theorem gap_rhe {K w0 : Nat} {s : St} {P Q E c : Nat} (hA : Ap K w0 s P Q E c) (hs : Norm s) (hK : 2000 ≤ K) (hdp : 0 ≤ s.dp) (hP : 0 < P) (hc : 1 ≤ c) (hcK : c ≤ K) (hg : 10 ^ (K - 400) ∣ w0)
    (hE : 2 * (E * (w0 * Q)) < 10 ^ (cap - 1) * 10 ^ (K - 400)) : Rhe (w0 * Q) (10 ^ K * P) (mantN s) := by
  cases ht : s.tr
  · have h1 := rhe_scale' P hP (mant_rhe hs ht hK (by omega))
    rw [hA.ex ht] at h1
    exact h1
  obtain ⟨p, hp⟩ : ∃ p : Nat, s.dp = p := ⟨s.dp.toNat, by omega⟩
  obtain ⟨-, -, b1, b2⟩ := w_split hs.weak hp hK
  rw [mant_cut hs ht hp]
  have hb : halfB s p ≤ 1 := by unfold halfB; split <;> omega
  have hlt := hA.lt ht
  have hdv := hA.dv ht
  have hnear := hA.near
  generalize halfB s p = b at *
  generalize N (dig s.d s.nd) p = M at *
  generalize s.w K = w at *
  have hgK : (10 : Nat) ^ K = 10 ^ (K - 400) * 10 ^ (K - (K - 400)) := by rw [← Nat.pow_add, show K - 400 + (K - (K - 400)) = K by omega]
  have key : 2 * (w0 * Q) < (2 * M + b + 1) * 10 ^ K * P := by
    rcases Nat.lt_or_ge (2 * (w0 * Q)) ((2 * M + b + 1) * 10 ^ K * P) with h | h
    · exact h
    exfalso
    obtain ⟨D, hD⟩ : ∃ D, 2 * (w0 * Q) = (2 * M + b + 1) * 10 ^ K * P + D := ⟨2 * (w0 * Q) - (2 * M + b + 1) * 10 ^ K * P, by omega⟩
    have hD0 : D ≠ 0 := by
      intro h0
      rw [h0, Nat.add_zero] at hD
      apply hdv
      have e : (10 : Nat) ^ K = 10 ^ (K - c) * 10 ^ (c - 1) * 10 := by rw [← Nat.pow_add, ← Nat.pow_succ]; congr 1; omega
      refine ⟨(2 * M + b + 1) * 10 ^ (c - 1) * 5, ?_⟩
      rw [e] at hD
      generalize (10 : Nat) ^ (K - c) = y at *
      generalize (10 : Nat) ^ (c - 1) = z at *
      have : 2 * (w0 * Q) = 2 * (P * y * ((2 * M + b + 1) * z * 5)) := by rw [hD]; grind
      omega
    have hDd : 10 ^ (K - 400) ∣ D := by
      have h1 : 10 ^ (K - 400) ∣ 2 * (w0 * Q) := Nat.dvd_trans (Nat.dvd_trans hg (Nat.dvd_mul_right w0 Q)) (Nat.dvd_mul_left _ _)
      have h2 : 10 ^ (K - 400) ∣ (2 * M + b + 1) * 10 ^ K * P := Nat.dvd_trans (Nat.dvd_trans (by rw [hgK]; exact Nat.dvd_mul_right _ _) (Nat.dvd_mul_left (10 ^ K) (2 * M + b + 1))) (Nat.dvd_mul_right _ _)
      rw [hD] at h1
      exact (Nat.dvd_add_right h2).1 h1
    have hDge : 10 ^ (K - 400) ≤ D := Nat.le_of_dvd (by omega) hDd
    have h3 : 2 * (w * P) ≤ (2 * M + b + 1) * 10 ^ K * P := by
      rw [← Nat.mul_assoc]; exact Nat.mul_le_mul_right _ (Nat.le_of_lt b2)
    have h4 : 2 * (w * P) + 10 ^ (K - 400) ≤ 2 * (w0 * Q) := by omega
    have h5 := Nat.mul_le_mul_left (10 ^ (cap - 1)) h4
    generalize 10 ^ (cap - 1) = T at *
    rw [Nat.mul_add] at h5
    have e1 : T * (2 * (w * P)) = 2 * (T * (w * P)) := by grind
    have e2 : T * (2 * (w0 * Q)) = 2 * (T * (w0 * Q)) := by grind
    rw [e1, e2] at h5
    omega
  have h3 : (2 * M + b) * 10 ^ K * P < 2 * (w0 * Q) := by
    have h4 := Nat.mul_le_mul_right P b1
    have h5 : 2 * w * P = 2 * (w * P) := Nat.mul_assoc _ _ _
    omega
  generalize (10 : Nat) ^ K = Z at *
  have e1 : (2 * M + b + 1) * Z * P = 2 * (M * (Z * P)) + b * (Z * P) + Z * P := by grind
  have e2 : (2 * M + b) * Z * P = 2 * (M * (Z * P)) + b * (Z * P) := by grind
  have e3 : (2 * (M + b) + 1) * (Z * P) = 2 * (M * (Z * P)) + 2 * (b * (Z * P)) + Z * P := by grind
  have e4 : 2 * (M + b) * (Z * P) = 2 * (M * (Z * P)) + 2 * (b * (Z * P)) := by grind
  have e5 : b * (Z * P) ≤ Z * P := by
    have := Nat.mul_le_mul_right (Z * P) hb
    rw [Nat.one_mul] at this
    exact this
  unfold Rhe
  rw [e3, e4]
  rw [e1] at key
  rw [e2] at h3
  generalize M * (Z * P) = x at *
  generalize b * (Z * P) = y at *
  generalize Z * P = z at *
  generalize w0 * Q = u at *
  exact ⟨by omega, by omega, fun h => by omega, fun h => by omega⟩
theorem left53 {s t : St} (hs : Weak s) (hd : s.dp = 0) (h5 : 53 ≤ s.d 0) {L K : Nat} (h : LQ s t 53 L) (ht : Norm t) (hK : 2000 ≤ K) :
    0 ≤ t.dp ∧ t.dp ≤ 16 ∧ 4503599627370496 * 10 ^ K ≤ t.w K ∧ t.w K < 9007199254740992 * 10 ^ K ∧ L ≤ s.nd + 16 := by
  have hcap := cap_eq
  have h53 : (2 : Nat) ^ 53 = 9007199254740992 := by decide
  have hwide := h.wide
  have hdp := h.dp
  have hle := hs.le
  have htle := ht.le
  have hlo := h.lo
  have hX := X_high hs
  have h9 := hs.hd9
  have hL : L ≤ s.nd + 16 := by
    rcases Nat.lt_or_ge (s.nd + 16) L with g | g
    · exfalso
      have h1 : (10 : Nat) ^ (s.nd + 16) ≤ 10 ^ (L - 1) := Nat.pow_le_pow_right (by decide) (by omega)
      have h2 : s.X * 2 ^ 53 < 10 ^ (s.nd + 16) := by
        rw [Nat.pow_add]
        exact Nat.lt_of_lt_of_le (Nat.mul_lt_mul_of_pos_right hX (by decide)) (Nat.mul_le_mul_left _ (by decide))
      omega
    exact g
  have hc := (left_cut (K := K) hs ht h (by omega) (by omega)).le
  rw [Nat.mul_one, h53] at hc
  have hw0 : s.w K < 10 ^ K := by
    unfold St.w
    have h3 := Nat.mul_lt_mul_of_pos_right hX (Nat.pow_pos (a := 10) (n := (s.dp - s.nd + K).toNat) (by decide))
    rw [← Nat.pow_add] at h3
    exact Nat.lt_of_lt_of_le h3 (Nat.pow_le_pow_right (by decide) (by omega))
  refine ⟨by omega, by omega, ?_, by omega, hL⟩
  obtain ⟨p, hp⟩ : ∃ p, L = s.nd + p := ⟨L - s.nd, by omega⟩
  have e1 : t.w K = s.X * 2 ^ 53 * 10 ^ cap / 10 ^ L * 10 ^ (K - cap + p) := by
    rw [← h.val, Nat.mul_assoc, ← Nat.pow_add]
    unfold St.w
    congr 2; omega
  have hX5 : 5 * 10 ^ (s.nd - 1) ≤ s.X := Nat.le_trans (Nat.mul_le_mul_right _ (by omega)) hs.lo.1
  have hpos := hs.pos
  have hY : 4503599627370496 * 10 ^ s.nd ≤ s.X * 2 ^ 53 := by
    have e : (10 : Nat) ^ s.nd = 10 ^ (s.nd - 1) * 10 := by rw [← Nat.pow_succ]; congr 1; omega
    rw [e, h53]
    generalize (10 : Nat) ^ (s.nd - 1) = z at *
    omega
  have h6 : 4503599627370496 * 10 ^ (cap - p) ≤ s.X * 2 ^ 53 * 10 ^ cap / 10 ^ L := by
    rw [Nat.le_div_iff_mul_le (Nat.pow_pos (by decide))]
    have e : 4503599627370496 * 10 ^ (cap - p) * 10 ^ L = 4503599627370496 * 10 ^ s.nd * 10 ^ cap := by
      rw [Nat.mul_assoc, Nat.mul_assoc, ← Nat.pow_add, ← Nat.pow_add, show cap - p + L = s.nd + cap by omega]
    rw [e]
    exact Nat.mul_le_mul_right _ hY
  rw [e1]
  have e2 : 4503599627370496 * 10 ^ K = 4503599627370496 * 10 ^ (cap - p) * 10 ^ (K - cap + p) := by
    rw [Nat.mul_assoc, ← Nat.pow_add, show cap - p + (K - cap + p) = K by omega]
  rw [e2]
  exact Nat.mul_le_mul_right _ h6
theorem mant_range {s : St} (hs : Norm s) {K a b : Nat} (hK : 2000 ≤ K) (hdp : 0 ≤ s.dp) (h1 : a * 10 ^ K ≤ s.w K) (h2 : s.w K < b * 10 ^ K) : a ≤ mantN s ∧ mantN s ≤ b := by
  obtain ⟨p, hp⟩ : ∃ p : Nat, s.dp = p := ⟨s.dp.toNat, by omega⟩
  obtain ⟨c1, c2, -, -⟩ := w_split hs.weak hp hK
  have hz : 0 < 10 ^ K := Nat.pow_pos (by decide)
  unfold mantN
  rw [if_neg (by omega), hp, Int.toNat_natCast]
  have h3 : a < N (dig s.d s.nd) p + 1 := Nat.lt_of_mul_lt_mul_right (Nat.lt_of_le_of_lt h1 c2)
  have h4 : N (dig s.d s.nd) p < b := Nat.lt_of_mul_lt_mul_right (Nat.lt_of_le_of_lt c1 h2)
  split <;> omega
theorem near_fin {w0 K a b m l : Nat} (h : Rhe (w0 * 2 ^ a) (10 ^ K * 2 ^ b) m) (hl : l + a = ex + b)
    (hf : (4503599627370496 ≤ m ∧ m ≤ 9007199254740992 ∧ 4503599627370496 * (10 ^ K * 2 ^ b) ≤ w0 * 2 ^ a) ∨ (l = 0 ∧ m ≤ 9007199254740992)) : Near (w0 * 2 ^ ex) (10 ^ K) (l * 4503599627370496 + m) := by
  have hb : 0 < 2 ^ b := Nat.pow_pos (by decide)
  have e1 : w0 * 2 ^ a * 2 ^ l = w0 * 2 ^ ex * 2 ^ b := by
    rw [Nat.mul_assoc, Nat.mul_assoc, ← Nat.pow_add, ← Nat.pow_add, Nat.add_comm a, hl]
  have e2 : 10 ^ K * 2 ^ b * 2 ^ l = 10 ^ K * 2 ^ l * 2 ^ b := Nat.mul_right_comm _ _ _
  have h1 := rhe_scale' (2 ^ l) (Nat.pow_pos (by decide)) h
  rw [e1, e2] at h1
  refine near_of_rhe (Nat.pow_pos (by decide)) (rhe_scale _ hb h1) ?_
  rcases hf with ⟨f1, f2, f3⟩ | ⟨f1, f2⟩
  · refine Or.inl ⟨f1, f2, fun _ => ?_⟩
    refine Nat.le_of_mul_le_mul_right ?_ hb
    rw [← e1, Nat.mul_assoc, ← e2, ← Nat.mul_assoc]
    exact Nat.mul_le_mul_right _ f3
  exact Or.inr ⟨f1, f2⟩
end Go.Proofs.YtjpiplplohapnaaGreatDoor.Dc
