/- Part 14 of the proof: Do, Fr, Fs, Fq, LPr, Fe, Rf, RfE, Ff. -/
import Derived.Test.YtjpiplplohapnaaGreatDoorPr13
import Derived.Deep.RegionWith
import Derived.WalkKit
import Derived.Deep.CutBlock
import Derived.Deep.DeepCutAuto
import Derived.LoopTactic
set_option linter.unusedVariables false
set_option linter.unusedSimpArgs false
namespace Go.Proofs.YtjpiplplohapnaaGreatDoor
open Go.RowKit Go.Proofs.YtjpiplplohapnaaGreatDoorW.PrintWords Dc
set_option maxRecDepth 100000 in
set_option maxHeartbeats 1000000 in
theorem down_walk (w : World) (g B : Nat) (hB : B ≤ g) (s : St) (hs : Norm s) (ng : Bool) (n : Nat) (hn : n < s.nd) (h : s.is w g ng) :
    Calls Tryz.prog 172 #[.pointer (some ⟨g, 0, none⟩), .int .i64 n] w fun e w' => e = .returned (.tuple #[]) ∧ Below B w w' ∧ IsDec w' g s.d (tl s.d n : Nat) (dpz (tl s.d n) s.dp) ng s.tr := by
  have hle := hs.le
  have cnd : w.cell? ⟨g, 800, none⟩ = some (.int .i64 (s.nd : Nat)) := IsDec.cnd h
  have fnd : w.frozen? ⟨g, 800, none⟩ = false := IsDec.frozen h 800
  have f1 : ¬ (n : Int) < 0 := by omega
  have g1 : ¬ ((s.nd : Nat) : Int) ≤ n := by omega
  have g2 : decide (((s.nd : Nat) : Int) ≤ (n : Int)) = false := decide_eq_false g1
  have HT := Lib.hid (fun w1 h1 => trim_walk w1 g B hB s.d n s.dp ng s.tr (by omega) h1)
  have HD := Lib.hid (IsDec.setNd h (n : Int))
  have HB := Lib.hid ((Below.refl B w).setCell (p := ⟨g, 800, none⟩) hB (.int .i64 n))
  clear h hs hn hle
  go_enter Tryz.func172, Tryz.ntmps172
  go_wp2_with fail
  refine (HT.out _ HD.out).mono ?_
  rintro e w2 ⟨rfl, hb2, hd2⟩
  have HF := Lib.hid hd2
  clear hd2 HT
  have hb3 := HB.out.trans hb2
  go_wp2_with fail
  go_end0
  exact ⟨rfl, hb3, HF.out⟩
namespace Dc
def noNine (d : Nat → Nat) : Nat → Option Nat
  | 0 => none
  | n + 1 => if d n < 57 then some n else noNine d n
def upSt (s : St) (n : Nat) : St := match noNine s.d n with
  | some i => ⟨upd s.d i (s.d i + 1), i + 1, s.dp, s.tr⟩
  | none => ⟨upd s.d 0 49, 1, s.dp + 1, s.tr⟩
end Dc
set_option maxRecDepth 100000 in
set_option maxHeartbeats 1000000 in
theorem raise_walk (w : World) (g B : Nat) (hB : B ≤ g) (s : St) (hs : Norm s) (ng : Bool) (n : Nat) (hn : n < s.nd) (hdp1 : -100000 ≤ s.dp) (hdp2 : s.dp ≤ 100000) (h : s.is w g ng) :
    Calls Tryz.prog 171 #[.pointer (some ⟨g, 0, none⟩), .int .i64 n] w fun e w' => e = .returned (.tuple #[]) ∧ Below B w w' ∧ (upSt s n).is w' g ng := by
  have hle := hs.le
  have cnd : w.cell? ⟨g, 800, none⟩ = some (.int .i64 (s.nd : Nat)) := IsDec.cnd h
  have f1 : ¬ (n : Int) < 0 := by omega
  have g1 : ¬ ((s.nd : Nat) : Int) ≤ n := by omega
  have g2 : decide (((s.nd : Nat) : Int) ≤ (n : Int)) = false := decide_eq_false g1
  have HS := Lib.hid h
  have HD := Lib.hid hs.dgs
  obtain ⟨r, hr⟩ : ∃ r, r = upSt s n := ⟨_, rfl⟩
  have HR := Lib.hid hr
  rw [← hr]
  have xn : wrap64 ((n : Int) - 1) = (n : Int) - 1 := by unfold wrap64; omega
  have HN := Lib.hid (show n < s.nd ∧ s.nd ≤ 800 from ⟨hn, hle⟩)
  have HDp := Lib.hid (And.intro hdp1 hdp2)
  clear h hs hn hle hr hdp1 hdp2
  go_enter Tryz.func171, Tryz.ntmps171
  go_wp2_with fail
  clear cnd f1 g1 g2 xn
  go_loopg [4] n (fun gn v4 w' => ∃ m : Int, v4 = .int .i64 m ∧ Hid (m = (gn : Int) - 1 ∧ gn ≤ n ∧ noNine s.d gn = noNine s.d n) ∧ s.is w' g ng ∧ Hid (Below B w w'))
  case atStart => exact ⟨(n : Int) - 1, rfl, Lib.hid ⟨rfl, Nat.le_refl _, rfl⟩, HS.out, Lib.hid (Below.refl _ _)⟩
  case round =>
    obtain ⟨m, rfl, hH, ht, hb⟩ := hrel
    obtain ⟨h1, h2, h3⟩ := hH.out
    cases gk with
    | zero =>
      have k1 : ¬ (0 : Int) ≤ m := by omega
      have k2 : decide ((0 : Int) ≤ m) = false := decide_eq_false k1
      have c0 : wr.cell? ⟨g, 0, none⟩ = some (.int .u8 (s.d 0 : Nat)) := IsDec.byte ht 0 (by decide)
      have cnd : wr.cell? ⟨g, 800, none⟩ = some (.int .i64 (s.nd : Nat)) := IsDec.cnd ht
      have cdp : wr.cell? ⟨g, 801, none⟩ = some (.int .i64 s.dp) := IsDec.cdp ht
      have q0 : wr.frozen? ⟨g, 0, none⟩ = false := IsDec.frozen ht 0
      have q1 : wr.frozen? ⟨g, 800, none⟩ = false := IsDec.frozen ht 800
      have q2 : wr.frozen? ⟨g, 801, none⟩ = false := IsDec.frozen ht 801
      have hrr : r = ⟨upd s.d 0 49, 1, s.dp + 1, s.tr⟩ := by
        rw [HR.out]; unfold upSt; rw [← h3]; rfl
      have HF : Hid (r.is (((wr.setCell ⟨g, 0, none⟩ (.int .u8 49)).setCell ⟨g, 800, none⟩ (.int .i64 1)).setCell ⟨g, 801, none⟩ (.int .i64 (s.dp + 1))) g ng) := Lib.hid (by
        rw [hrr]
        exact ((IsDec.setByte ht 0 49 (by decide)).setNd 1).setDp (s.dp + 1))
      have HB3 := Lib.hid (((hb.out.setCell (p := ⟨g, 0, none⟩) hB (.int .u8 49)).setCell (p := ⟨g, 800, none⟩) hB (.int .i64 1)).setCell (p := ⟨g, 801, none⟩) hB (.int .i64 (s.dp + 1)))
      obtain ⟨p1, p2⟩ := HDp.out
      clear hH h1 h2 h3 ht hrr
      go_wp2_with fail
      go_end0
      exact ⟨rfl, HB3.out, HF.out⟩
    | succ i =>
      have hm : m = (i : Int) := by omega
      subst hm
      have hi := HN.out
      have k1 : (0 : Int) ≤ i := by omega
      have k3 : (i : Int) < 800 := by omega
      have cb : wr.cell? ⟨g, i, none⟩ = some (.int .u8 (s.d i : Nat)) := IsDec.byte ht i (by omega)
      have hby := HD.out i (by omega)
      have fb : wr.frozen? ⟨g, i, none⟩ = false := IsDec.frozen ht i
      have cnd : wr.cell? ⟨g, 800, none⟩ = some (.int .i64 (s.nd : Nat)) := IsDec.cnd ht
      have q1 : wr.frozen? ⟨g, 800, none⟩ = false := IsDec.frozen ht 800
      rw [noNine] at h3
      obtain ⟨c, hc⟩ : ∃ c, c = s.d i := ⟨_, rfl⟩
      rw [← hc] at cb hby h3
      by_cases h57 : c < 57
      · have f1 : (c : Int) < 57 := by omega
        have f2 : decide ((c : Int) < 57) = true := decide_eq_true f1
        rw [if_pos h57] at h3
        have hrr : r = ⟨upd s.d i (c + 1), i + 1, s.dp, s.tr⟩ := by
          rw [HR.out]; unfold upSt; rw [← h3, hc]
        have x1 : IntKind.u8.wrap ((c : Int) + 1) = ((c + 1 : Nat) : Int) := by rw [Go.IntKind.wrap_u8]; omega
        have HT := Lib.hid ht
        have HRR := Lib.hid hrr
        clear hH h1 h2 h3 ht hi hby hc hrr
        go_wp2_with fail
        have HW : Hid (IsDec ((wr.setCell ⟨g, i, none⟩ (.int .u8 ((c : Int) + 1))).drew) g (upd s.d i (c + 1)) (s.nd : Nat) s.dp ng s.tr ∧ Below B w ((wr.setCell ⟨g, i, none⟩ (.int .u8 ((c : Int) + 1))).drew)) := Lib.hid ⟨IsDec.setByte HT.out i (c + 1) (by omega), below_drewN (hb.out.setCell hB _) 1⟩
        go_region_with fail
        have cn2 : ((wr.setCell ⟨g, i, none⟩ (.int .u8 ((c : Int) + 1))).drew).cell? ⟨g, 800, none⟩ = some (.int .i64 (s.nd : Nat)) := IsDec.cnd HW.out.1
        have qn2 : ((wr.setCell ⟨g, i, none⟩ (.int .u8 ((c : Int) + 1))).drew).frozen? ⟨g, 800, none⟩ = false := IsDec.frozen HW.out.1 800
        generalize (wr.setCell ⟨g, i, none⟩ (.int .u8 ((c : Int) + 1))).drew = w5 at *
        have x6 : wrap64 ((i : Int) + 1) = (i : Int) + 1 := by unfold wrap64; omega
        have HF : Hid (r.is (w5.setCell ⟨g, 800, none⟩ (.int .i64 ((i : Int) + 1))) g ng) := Lib.hid (by
          rw [HRR.out]
          exact IsDec.setNd HW.out.1 ((i : Int) + 1))
        have HB3 := Lib.hid (HW.out.2.setCell (p := ⟨g, 800, none⟩) hB (.int .i64 ((i : Int) + 1)))
        clear cb fb cnd q1 x1
        go_wp2_with fail
        exact bodyPost_ret (v := .tuple #[]) (by simp [results, Tryz.results171, go_sem]) rfl ⟨rfl, HB3.out, HF.out⟩
      · have f1 : ¬ (c : Int) < 57 := by omega
        have f2 : decide ((c : Int) < 57) = false := decide_eq_false f1
        rw [if_neg h57] at h3
        have HX : Hid (i ≤ n ∧ noNine s.d i = noNine s.d n) := Lib.hid ⟨by omega, h3⟩
        clear hH h1 h2 h3 hi hby hc h57
        go_wp2_with fail
        go_roundg i
        case measure => omega
        case rel => exact ⟨(i : Int) - 1, by first | rfl | go_num, Lib.hid ⟨rfl, HX.out.1, HX.out.2⟩, ht, hb⟩
namespace Dc
def rnSt (s : St) (n : Nat) : St := if upB s n then upSt s n else ⟨s.d, tl s.d n, dpz (tl s.d n) s.dp, s.tr⟩
end Dc
set_option maxRecDepth 100000 in
set_option maxHeartbeats 1000000 in
theorem round_walk (w : World) (g B : Nat) (hB : B ≤ g) (s : St) (hs : Norm s) (ng : Bool) (n : Nat) (hn : n < s.nd) (hdp1 : -100000 ≤ s.dp) (hdp2 : s.dp ≤ 100000) (h : s.is w g ng) :
    Calls Tryz.prog 130 #[.pointer (some ⟨g, 0, none⟩), .int .i64 n] w fun e w' => e = .returned (.tuple #[]) ∧ Below B w w' ∧ (rnSt s n).is w' g ng := by
  have hle := hs.le
  have cnd : w.cell? ⟨g, 800, none⟩ = some (.int .i64 (s.nd : Nat)) := IsDec.cnd h
  have f1 : ¬ (n : Int) < 0 := by omega
  have g1 : ¬ ((s.nd : Nat) : Int) ≤ n := by omega
  have g2 : decide (((s.nd : Nat) : Int) ≤ (n : Int)) = false := decide_eq_false g1
  have HU := Lib.hid (up_walk w g s hs ng n (by omega) h)
  have HD := Lib.hid (down_walk w g B hB s hs ng n hn h)
  have HR := Lib.hid (raise_walk w g B hB s hs ng n hn hdp1 hdp2 h)
  obtain ⟨r, hr⟩ : ∃ r, r = rnSt s n := ⟨_, rfl⟩
  rw [← hr]
  unfold rnSt at hr
  obtain ⟨ub, hub⟩ : ∃ ub, ub = upB s n := ⟨_, rfl⟩
  rw [← hub] at HU hr
  cases ub
  · have hr' : r = ⟨s.d, tl s.d n, dpz (tl s.d n) s.dp, s.tr⟩ := hr
    have HE := Lib.hid hr'
    clear h hs hn hle hr hr' hub HR hdp1 hdp2
    go_enter Tryz.func130, Tryz.ntmps130
    go_wp2_with fail
    refine HU.out.mono ?_
    rintro e w' ⟨rfl, hww⟩
    obtain rfl := hww.symm
    clear hww HU
    go_wp2_with fail
    refine HD.out.mono ?_
    rintro e w2 ⟨rfl, hb2, hd2⟩
    have HF := Lib.hid hd2
    clear hd2 HD
    go_wp2_with fail
    go_end0
    exact ⟨rfl, hb2, by rw [HE.out]; exact HF.out⟩
  · have hr' : r = upSt s n := hr
    have HE := Lib.hid hr'
    clear h hs hn hle hr hr' hub HD hdp1 hdp2
    go_enter Tryz.func130, Tryz.ntmps130
    go_wp2_with fail
    refine HU.out.mono ?_
    rintro e w' ⟨rfl, hww⟩
    obtain rfl := hww.symm
    clear hww HU
    go_wp2_with fail
    refine HR.out.mono ?_
    rintro e w2 ⟨rfl, hb2, hd2⟩
    have HF := Lib.hid hd2
    clear hd2 HR
    go_wp2_with fail
    go_end0
    exact ⟨rfl, hb2, by rw [HE.out]; exact HF.out⟩
set_option maxRecDepth 100000 in
set_option maxHeartbeats 1000000 in
theorem round_none (w : World) (g : Nat) (s : St) (ng : Bool) (n : Int) (hn : n < 0 ∨ (s.nd : Int) ≤ n) (h : s.is w g ng) :
    Calls Tryz.prog 130 #[.pointer (some ⟨g, 0, none⟩), .int .i64 n] w fun e w' => e = .returned (.tuple #[]) ∧ w' = w := by
  have cnd : w.cell? ⟨g, 800, none⟩ = some (.int .i64 (s.nd : Nat)) := IsDec.cnd h
  by_cases h0 : n < 0
  · have f2 : decide (n < 0) = true := decide_eq_true h0
    clear hn
    go_enter Tryz.func130, Tryz.ntmps130
    go_wp2_with fail
    exact bodyPost_ret (v := .tuple #[]) (by simp [results, Tryz.results130, go_sem]) rfl ⟨rfl, rfl⟩
  · have f2 : decide (n < 0) = false := decide_eq_false h0
    have g1 : ((s.nd : Nat) : Int) ≤ n := by omega
    have g2 : decide (((s.nd : Nat) : Int) ≤ n) = true := decide_eq_true g1
    clear hn
    go_enter Tryz.func130, Tryz.ntmps130
    go_wp2_with fail
    exact bodyPost_ret (v := .tuple #[]) (by simp [results, Tryz.results130, go_sem]) rfl ⟨rfl, rfl⟩
end Go.Proofs.YtjpiplplohapnaaGreatDoor
namespace Go.Proofs.YtjpiplplohapnaaGreatDoor.Dc
open Nr
theorem rhe_le {A Q a b : Nat} (hQ : 0 < Q) (h1 : Rhe A Q a) (h2 : Rhe A Q b) : a ≤ b := by
  rcases Nat.lt_or_ge b a with h | h
  · exfalso
    obtain ⟨-, a2, -, a4⟩ := h1
    obtain ⟨b1, -, b3, -⟩ := h2
    obtain ⟨c, rfl⟩ : ∃ c, a = b + 1 + c := ⟨a - b - 1, by omega⟩
    have e1 : 2 * (b + 1 + c) * Q = (2 * b + 1) * Q + Q + 2 * (c * Q) := by grind
    have hc : c = 0 := by
      rcases Nat.eq_zero_or_pos c with h | h
      · exact h
      · have : 1 * Q ≤ c * Q := Nat.mul_le_mul_right _ h
        omega
    subst hc
    have f1 : 2 * A = (2 * b + 1) * Q := by omega
    have f2 : 2 * (b + 1 + 0) * Q = 2 * A + Q := by omega
    have := b3 f1
    have := a4 f2
    omega
  · exact h
theorem rhe_one {A Q a b : Nat} (hQ : 0 < Q) (h1 : Rhe A Q a) (h2 : Rhe A Q b) : a = b := Nat.le_antisymm (rhe_le hQ h1 h2) (rhe_le hQ h2 h1)
theorem rhe_exact (Q n : Nat) (_hQ : 0 < Q) : Rhe (n * Q) Q n := by
  have e1 : (2 * n + 1) * Q = 2 * (n * Q) + Q := by grind
  have e2 : 2 * n * Q = 2 * (n * Q) := Nat.mul_assoc _ _ _
  unfold Rhe
  rw [e1, e2]
  exact ⟨by omega, by omega, fun h => by omega, fun h => by omega⟩
theorem rhe_down {X P q R : Nat} (h : X = q * P + R) (hR : 2 * R ≤ P) (hP : 0 < P) (he : 2 * R = P → q % 2 = 0) : Rhe X P q := by
  have e1 : (2 * q + 1) * P = 2 * (q * P) + P := by grind
  have e2 : 2 * q * P = 2 * (q * P) := Nat.mul_assoc _ _ _
  unfold Rhe
  rw [e1, e2, h]
  exact ⟨by omega, by omega, fun h => he (by omega), fun h => by omega⟩
theorem rhe_up {X P q R : Nat} (h : X = q * P + R) (hR : R < P) (hR2 : P ≤ 2 * R) (he : 2 * R = P → q % 2 = 1) : Rhe X P (q + 1) := by
  have e1 : (2 * (q + 1) + 1) * P = 2 * (q * P) + 3 * P := by grind
  have e2 : 2 * (q + 1) * P = 2 * (q * P) + 2 * P := by grind
  unfold Rhe
  rw [e1, e2, h]
  exact ⟨by omega, by omega, fun h => by omega, fun h => by have := he (by omega); omega⟩
theorem N_split (e : Nat → Nat) (k : Nat) : ∀ j, N e (k + j) = N e k * 10 ^ j + N (fun i => e (k + i)) j
  | 0 => by simp [N]
  | j + 1 => by
    rw [← Nat.add_assoc, N_succ, N_split e k j, N_succ, Nat.pow_succ]
    generalize N e k = a
    generalize (10 : Nat) ^ j = b
    generalize N (fun i => e (k + i)) j = c
    grind
theorem N_zero {e : Nat → Nat} : ∀ n, (∀ i, i < n → e i = 0) → N e n = 0
  | 0, _ => rfl
  | n + 1, h => by rw [N_succ, N_zero n (fun i hi => h i (by omega)), h n (by omega)]
theorem N_nines {e : Nat → Nat} : ∀ n, (∀ i, i < n → e i = 9) → N e n + 1 = 10 ^ n
  | 0, _ => rfl
  | n + 1, h => by
    have := N_nines n (fun i hi => h i (by omega))
    rw [N_succ, h n (by omega), Nat.pow_succ]
    omega
theorem noNine_none {d : Nat → Nat} : ∀ n, noNine d n = none → ∀ i, i < n → 57 ≤ d i
  | 0, _, i, hi => by omega
  | n + 1, h, i, hi => by
    rw [noNine] at h
    by_cases c : d n < 57
    · rw [if_pos c] at h; cases h
    · rw [if_neg c] at h
      by_cases e : i = n
      · rw [e]; omega
      · exact noNine_none n h i (by omega)
theorem noNine_some {d : Nat → Nat} {j : Nat} : ∀ n, noNine d n = some j → j < n ∧ d j < 57 ∧ ∀ i, j < i → i < n → 57 ≤ d i
  | 0, h => by cases h
  | n + 1, h => by
    rw [noNine] at h
    by_cases c : d n < 57
    · rw [if_pos c] at h
      injection h with h
      subst h
      exact ⟨by omega, c, fun i h1 h2 => by omega⟩
    · rw [if_neg c] at h
      obtain ⟨h1, h2, h3⟩ := noNine_some n h
      refine ⟨by omega, h2, fun i h4 h5 => ?_⟩
      by_cases e : i = n
      · rw [e]; omega
      · exact h3 i h4 (by omega)
def rdSt (s : St) (p : Nat) : St := if 0 ≤ s.dp + p ∧ (s.dp + p).toNat < s.nd then rnSt s (s.dp + p).toNat else s
structure Fine (t : St) : Prop where
  dgs : ∀ i, i < t.nd → 48 ≤ t.d i ∧ t.d i ≤ 57
  first : 0 < t.dp → 0 < t.nd ∧ t.d 0 ≠ 48
theorem Norm.fine {s : St} (h : Norm s) : Fine s := ⟨h.dgs, fun _ => ⟨h.pos, h.first⟩⟩
theorem rest_dgs {s : St} (hs : Norm s) {k j : Nat} (hk : k + (j + 1) = s.nd) :
    s.X = N (dig s.d s.nd) k * 10 ^ (j + 1) + ((s.d k - 48) * 10 ^ j + N (fun i => dig s.d s.nd (k + (1 + i))) j) ∧ N (fun i => dig s.d s.nd (k + (1 + i))) j < 10 ^ j ∧ (0 < j → 1 ≤ N (fun i => dig s.d s.nd (k + (1 + i))) j) := by
  refine ⟨?_, N_lt (fun i => hs.dig9 _) j, fun hj => ?_⟩
  · have h1 := N_split (dig s.d s.nd) k (j + 1)
    have h2 := N_split (fun i => dig s.d s.nd (k + i)) 1 j
    rw [hk] at h1
    unfold St.X
    rw [h1, Nat.add_comm j 1, h2]
    have h3 : N (fun i => dig s.d s.nd (k + i)) 1 = s.d k - 48 := by
      show 10 * 0 + dig s.d s.nd (k + 0) = _
      unfold dig
      rw [if_pos (by omega)]; simp
    rw [h3]
  · obtain ⟨i, rfl⟩ : ∃ i, j = i + 1 := ⟨j - 1, by omega⟩
    rw [N_succ]
    have h1 : dig s.d s.nd (k + (1 + i)) = s.d (s.nd - 1) - 48 := by
      unfold dig
      rw [if_pos (by omega)]
      congr 2; omega
    have h2 := hs.last
    have h3 := hs.dgs (s.nd - 1) (by have := hs.pos; omega)
    show 1 ≤ 10 * N (fun i => dig s.d s.nd (k + (1 + i))) i + dig s.d s.nd (k + (1 + i))
    omega
theorem up_rhe {s : St} (hs : Norm s) (ht : s.tr = false) {k j : Nat} (hk : k + (j + 1) = s.nd) : Rhe s.X (10 ^ (j + 1)) (N (dig s.d s.nd) k + if upB s k then 1 else 0) := by
  obtain ⟨h1, h2, h3⟩ := rest_dgs hs hk
  have hb := hs.dgs k (by omega)
  have hP : 0 < 10 ^ j := Nat.pow_pos (by decide)
  have hodd : 0 < k → N (dig s.d s.nd) k % 2 = (s.d (k - 1) - 48) % 2 := by
    intro h
    obtain ⟨i, rfl⟩ : ∃ i, k = i + 1 := ⟨k - 1, by omega⟩
    rw [N_succ, Nat.add_sub_cancel]
    unfold dig
    rw [if_pos (by omega)]
    omega
  unfold upB
  rw [if_neg (show ¬ s.nd ≤ k by omega), ht, Bool.false_or]
  generalize N (fun i => dig s.d s.nd (k + (1 + i))) j = R at *
  obtain ⟨q, hq⟩ : ∃ q, q = N (dig s.d s.nd) k := ⟨_, rfl⟩
  rw [← hq] at h1 hodd ⊢
  have hPs : (10 : Nat) ^ (j + 1) = 10 ^ j * 10 := Nat.pow_succ ..
  generalize hPj : (10 : Nat) ^ j = P at *
  obtain ⟨c, hc⟩ : ∃ c, c = s.d k := ⟨_, rfl⟩
  rw [← hc] at hb h1 ⊢
  obtain ⟨f, rfl⟩ : ∃ f, c = 48 + f := ⟨c - 48, by omega⟩
  rw [show 48 + f - 48 = f by omega] at h1
  by_cases h5 : 48 + f = 53 ∧ k + 1 = s.nd
  · rw [if_pos h5]
    have hj : j = 0 := by omega
    subst hj
    have hP1 : P = 1 := by rw [← hPj]
    subst hP1
    have hR : R = 0 := by omega
    have hf : f = 5 := by omega
    subst hR hf
    rw [hPs]
    by_cases hk0 : 0 < k
    · have ho := hodd hk0
      rw [decide_eq_true hk0, Bool.true_and]
      by_cases hd : (s.d (k - 1) - 48) % 2 = 1
      · rw [decide_eq_true hd, if_pos rfl]
        exact rhe_up (R := 5) (by rw [h1, hPs]) (by decide) (by decide) (fun _ => by omega)
      · rw [decide_eq_false hd, if_neg (by decide)]
        exact rhe_down (R := 5) (by rw [h1, hPs]; rfl) (by decide) (by decide) (fun _ => by omega)
    · have hq0 : q = 0 := by rw [hq, show k = 0 by omega]; rfl
      rw [decide_eq_false hk0, Bool.false_and, if_neg (by decide)]
      exact rhe_down (R := 5) (by rw [h1, hPs]; rfl) (by decide) (by decide) (fun _ => by rw [hq0])
  · rw [if_neg h5]
    by_cases hge : 53 ≤ 48 + f
    · rw [decide_eq_true hge, if_pos rfl, hPs]
      have hf : f = 5 ∨ 6 ≤ f := by omega
      have hb1 : f * P ≤ 9 * P := Nat.mul_le_mul_right _ (by omega)
      refine rhe_up (R := f * P + R) (by rw [h1, hPs]) (by omega) ?_ (fun h => ?_)
      · rcases hf with rfl | hf
        · omega
        · have : 6 * P ≤ f * P := Nat.mul_le_mul_right _ hf
          omega
      · exfalso
        rcases hf with rfl | hf
        · have := h3 (by omega)
          omega
        · have : 6 * P ≤ f * P := Nat.mul_le_mul_right _ hf
          omega
    · rw [decide_eq_false hge, if_neg (by decide), hPs]
      have : f * P ≤ 4 * P := Nat.mul_le_mul_right _ (by omega)
      exact rhe_down (R := f * P + R) (by rw [h1, hPs]; rfl) (by omega) (by omega) (fun h => by omega)
theorem rn_atP {s : St} (hs : Norm s) {k p : Nat} (hk : k < s.nd) (hkp : s.dp + p = k) : atP (rnSt s k).d (rnSt s k).nd (rnSt s k).dp p = N (dig s.d s.nd) k + (if upB s k then 1 else 0) ∧ Fine (rnSt s k) := by
  unfold rnSt
  cases hu : upB s k
  · have hle := tl_le s.d k
    rw [if_neg (by decide), if_neg (by decide)]
    refine ⟨?_, ?_, ?_⟩
    · show atP s.d (tl s.d k) (dpz (tl s.d k) s.dp) p = _
      have e1 : N (dig s.d (tl s.d k)) k = N (dig s.d s.nd) k := N_congr k fun i hi => by
        unfold dig
        rw [if_pos (show i < s.nd by omega)]
        by_cases c : i < tl s.d k
        · rw [if_pos c]
        · rw [if_neg c, tl_zero s.d k i (by omega) hi]
      unfold atP dpz
      by_cases c : tl s.d k = 0
      · rw [if_pos c, if_pos (by omega)]
        rw [c] at e1
        have z : ∀ n, N (dig s.d 0) n = 0 := fun n => N_zero n fun i _ => by unfold dig; rw [if_neg (by omega)]
        rw [c, z, Nat.add_zero, ← e1, z]
      · rw [if_neg c, if_pos (by omega), hkp, Int.toNat_natCast, e1, Nat.add_zero]
    · intro i hi
      exact hs.dgs i (by have : i < tl s.d k := hi; omega)
    · intro h
      have h' : 0 < dpz (tl s.d k) s.dp := h
      unfold dpz at h'
      by_cases c : tl s.d k = 0
      · rw [if_pos c] at h'; omega
      · exact ⟨by show 0 < tl s.d k; omega, hs.first⟩
  · rw [if_pos rfl, if_pos rfl]
    unfold upSt
    cases hn : noNine s.d k with
    | none =>
      have h9 := noNine_none k hn
      have e1 : N (dig s.d s.nd) k + 1 = 10 ^ k := N_nines k fun i hi => by
        have h1 := h9 i hi
        have h2 := hs.dgs i (by omega)
        unfold dig
        rw [if_pos (by omega)]; omega
      refine ⟨?_, ?_, ?_⟩
      · show atP (upd s.d 0 49) 1 (s.dp + 1) p = _
        unfold atP
        rw [if_pos (by omega), show (s.dp + 1 + (p : Int)).toNat = 1 + k by omega, N_pow, e1]
        show (10 * 0 + dig (upd s.d 0 49) 1 0) * 10 ^ k = 10 ^ k
        have : dig (upd s.d 0 49) 1 0 = 1 := rfl
        rw [this]; omega
      · intro i hi
        have : i = 0 := by have : i < 1 := hi; omega
        subst this
        show 48 ≤ upd s.d 0 49 0 ∧ upd s.d 0 49 0 ≤ 57
        unfold upd; rw [if_pos rfl]; omega
      · intro _
        refine ⟨Nat.one_pos, ?_⟩
        show upd s.d 0 49 0 ≠ 48
        unfold upd; rw [if_pos rfl]; decide
    | some i =>
      obtain ⟨h1, h2, h3⟩ := noNine_some k hn
      have hbi := hs.dgs i (by omega)
      refine ⟨?_, ?_, ?_⟩
      · show atP (upd s.d i (s.d i + 1)) (i + 1) s.dp p = _
        unfold atP
        rw [if_pos (by omega), hkp, Int.toNat_natCast]
        obtain ⟨j, hj⟩ : ∃ j, k = i + 1 + j := ⟨k - (i + 1), by omega⟩
        rw [hj, N_pow, N_split (dig s.d s.nd) (i + 1) j]
        have e1 : N (fun l => dig s.d s.nd (i + 1 + l)) j + 1 = 10 ^ j := N_nines j fun l hl => by
          have a1 := h3 (i + 1 + l) (by omega) (by omega)
          have a2 := hs.dgs (i + 1 + l) (by omega)
          show dig s.d s.nd (i + 1 + l) = 9
          unfold dig
          rw [if_pos (by omega)]; omega
        have e2 : N (dig (upd s.d i (s.d i + 1)) (i + 1)) (i + 1) = N (dig s.d s.nd) (i + 1) + 1 := by
          rw [N_succ, N_succ]
          have a1 : N (dig (upd s.d i (s.d i + 1)) (i + 1)) i = N (dig s.d s.nd) i := N_congr i fun l hl => by
            unfold dig upd
            rw [if_pos (show l < i + 1 by omega), if_neg (show ¬ l = i by omega), if_pos (show l < s.nd by omega)]
          have a2 : dig (upd s.d i (s.d i + 1)) (i + 1) i = dig s.d s.nd i + 1 := by
            unfold dig upd
            rw [if_pos (show i < i + 1 by omega), if_pos rfl, if_pos (show i < s.nd by omega)]; omega
          rw [a1, a2]; omega
        rw [e2, Nat.add_mul]
        omega
      · intro l hl
        have hl' : l < i + 1 := hl
        show 48 ≤ upd s.d i (s.d i + 1) l ∧ upd s.d i (s.d i + 1) l ≤ 57
        unfold upd
        by_cases c : l = i
        · rw [if_pos c]; omega
        · rw [if_neg c]; exact hs.dgs l (by omega)
      · intro _
        refine ⟨by show 0 < i + 1; omega, ?_⟩
        show upd s.d i (s.d i + 1) 0 ≠ 48
        unfold upd
        by_cases c : 0 = i
        · rw [if_pos c]; omega
        · rw [if_neg c]; exact hs.first
theorem rd_rhe {s : St} (hs : Norm s) (ht : s.tr = false) {n r : Nat} (hv : IsV s n r) (p : Nat) : Rhe (n * 10 ^ p) (2 ^ r) (atP (rdSt s p).d (rdSt s p).nd (rdSt s p).dp p) ∧ Fine (rdSt s p) := by
  have hr : 0 < 2 ^ r := Nat.pow_pos (by decide)
  unfold rdSt
  by_cases h : 0 ≤ s.dp + p ∧ (s.dp + p).toNat < s.nd
  · rw [if_pos h]
    obtain ⟨k, hk⟩ : ∃ k : Nat, s.dp + p = k := ⟨(s.dp + p).toNat, by omega⟩
    rw [hk, Int.toNat_natCast] at h ⊢
    obtain ⟨h1, h2⟩ := rn_atP hs h.2 hk
    refine ⟨?_, h2⟩
    rw [h1]
    obtain ⟨j, hj⟩ : ∃ j, k + (j + 1) = s.nd := ⟨s.nd - k - 1, by omega⟩
    have hu := up_rhe hs ht hj
    have he := hv 0 (p + (j + 1)) (by omega)
    rw [Nat.pow_zero, Nat.mul_one, Nat.pow_add, ← Nat.mul_assoc] at he
    have h3 := rhe_scale' (2 ^ r) hr hu
    rw [he, Nat.mul_comm (10 ^ (j + 1))] at h3
    exact rhe_scale (10 ^ (j + 1)) (Nat.pow_pos (by decide)) h3
  · rw [if_neg h]
    refine ⟨?_, hs.fine⟩
    unfold atP
    by_cases h0 : 0 ≤ s.dp + p
    · rw [if_pos h0]
      obtain ⟨k, hk⟩ : ∃ k : Nat, s.dp + p = k := ⟨(s.dp + p).toNat, by omega⟩
      rw [hk, Int.toNat_natCast] at h ⊢
      obtain ⟨j, hj⟩ : ∃ j, k = s.nd + j := ⟨k - s.nd, by omega⟩
      have he := hv j p (by omega)
      have e : N (dig s.d s.nd) k = s.X * 10 ^ j := by rw [hj, N_pow]; rfl
      rw [e, ← he]
      exact rhe_exact _ _ hr
    · rw [if_neg h0]
      have hX : s.X < 10 ^ s.nd := N_lt (fun i => hs.dig9 i) s.nd
      obtain ⟨c, hc⟩ : ∃ c : Nat, (c : Int) = -s.dp - p - 1 := ⟨(-s.dp - p - 1).toNat, by omega⟩
      have he := hv 0 (s.nd + (p + (1 + c))) (by omega)
      rw [Nat.pow_zero, Nat.mul_one] at he
      have h1 : n * 10 ^ (s.nd + (p + (1 + c))) < 10 ^ s.nd * 2 ^ r := by rw [← he]; exact Nat.mul_lt_mul_of_pos_right hX hr
      have h2 : n * 10 ^ (p + 1) * 10 ^ s.nd ≤ n * 10 ^ (s.nd + (p + (1 + c))) := by
        rw [Nat.mul_assoc, ← Nat.pow_add]
        exact Nat.mul_le_mul_left _ (Nat.pow_le_pow_right (by decide) (by omega))
      have h3 : n * 10 ^ (p + 1) < 2 ^ r := by
        refine Nat.lt_of_mul_lt_mul_right (a := 10 ^ s.nd) ?_
        rw [Nat.mul_comm (2 ^ r)]
        omega
      rw [Nat.pow_succ, ← Nat.mul_assoc] at h3
      exact rhe_down (q := 0) (R := n * 10 ^ p) (by omega) (by omega) hr (fun h => by omega)
end Go.Proofs.YtjpiplplohapnaaGreatDoor.Dc
namespace Go.Proofs.YtjpiplplohapnaaGreatDoor.Dc
theorem assign_val {d' : Nat → Nat} {v L : Nat} {tr : Bool} (hd : ∀ i, i < L → d' i = 48 + v / 10 ^ (L - 1 - i) % 10) (hv1 : 10 ^ (L - 1) ≤ v) (hv2 : v < 10 ^ L) (hL0 : 1 ≤ L) (hL : L ≤ 20) :
    Norm ⟨d', tl d' L, L, tr⟩ ∧ IsV ⟨d', tl d' L, L, tr⟩ v 0 ∧ tl d' L ≠ 0 := by
  have hpos : 0 < 10 ^ (L - 1) := Nat.pow_pos (by decide)
  have h0 : d' 0 ≠ 48 := by
    rw [hd 0 hL0, Nat.sub_zero]
    have h1 : 1 ≤ v / 10 ^ (L - 1) := Nat.div_pos hv1 hpos
    have h2 : v / 10 ^ (L - 1) < 10 := by
      rw [Nat.div_lt_iff_lt_mul hpos, Nat.mul_comm, ← Nat.pow_succ]
      rw [show (L - 1).succ = L by omega]; exact hv2
    omega
  have hn := norm_of (dp := L) (tr := tr) hL0 (by omega) h0 (fun i hi => ⟨_, hd i hi⟩)
  have hle := tl_le d' L
  refine ⟨hn, ?_, by have := tl_pos d' h0 L hL0; omega⟩
  intro a b hab
  have hab' : (a : Int) - b = (L : Int) - (tl d' L : Nat) := hab
  have h1 := N_tail d' hle (fun i h1 h2 => tl_zero d' L i h1 h2)
  have h2 : N (fun i => d' i - 48) L = v / 10 ^ (L - L) := N_cut hv2 L (Nat.le_refl _) (fun i hi => by rw [hd i hi]; omega)
  rw [Nat.sub_self, Nat.pow_zero, Nat.div_one] at h2
  rw [h2] at h1
  show N (dig d' (tl d' L)) (tl d' L) * 10 ^ a * 2 ^ 0 = v * 10 ^ b
  rw [Nat.pow_zero, Nat.mul_one, h1, show a = L - tl d' L + b by omega, Nat.pow_add, Nat.mul_assoc]
theorem lefts_val {k : Nat} {s t : St} (h : Lefts k s t) : Norm s → s.tr = false → ∀ n K, IsV s n 0 → n * 2 ^ k < 10 ^ K → K ≤ 799 → IsV t (n * 2 ^ k) 0 ∧ t.tr = false := by
  have step : ∀ {k : Nat} {s t : St}, Norm s → s.tr = false → ∀ n K, IsV s n 0 → n * 2 ^ k < 10 ^ K → K ≤ 799 → LStep k s t → IsV t (n * 2 ^ k) 0 ∧ t.tr = false := by
    intro k s t hs htr n K hv hb hK ⟨L, W, h1, h2, h3, h4⟩
    have hpl := places_le hs hv
    have hX : s.X ≤ n := by
      have := hv ((s.dp - s.nd).toNat) 0 (by omega)
      simp only [Nat.pow_zero, Nat.mul_one] at this
      rw [← this]
      exact Nat.le_mul_of_pos_right _ (Nat.pow_pos (by decide))
    have hlo : 10 ^ (L - 1) < 10 ^ K := by
      have h5 : 10 ^ (L - 1) ≤ s.X * 2 ^ k := h1.lo
      have h6 : s.X * 2 ^ k ≤ n * 2 ^ k := Nat.mul_le_mul_right _ hX
      exact Nat.lt_of_le_of_lt (Nat.le_trans h5 h6) hb
    have hL : L ≤ 800 := by
      rcases Nat.lt_or_ge 800 L with h | h
      · exfalso
        have : 10 ^ K ≤ 10 ^ (L - 1) := Nat.pow_le_pow_right (by decide) (by omega)
        exact absurd hlo (Nat.not_lt.2 this)
      · exact h
    refine ⟨left_val hs h1 h2 h3 hL hv, ?_⟩
    rw [h4, htr, lostL_none _ L hL L (by have := h1.wide; have := hs.pos; omega)]; rfl
  induction h with
  | one _ _ hst => intro hs htr n K hv hb hK; exact step hs htr n K hv hb hK hst
  | @more k s t u hk hst hn _ ih =>
    intro hs htr n K hv hb hK
    rw [Nat.add_comm, Nat.pow_add, ← Nat.mul_assoc] at hb
    obtain ⟨h1, h2⟩ := step hs htr n K hv (Nat.lt_of_le_of_lt (Nat.le_mul_of_pos_right _ (Nat.pow_pos (by decide))) hb) hK hst
    obtain ⟨h3, h4⟩ := ih hn h2 _ K h1 hb hK
    rw [Nat.add_comm k 60, Nat.pow_add, ← Nat.mul_assoc]
    exact ⟨h3, h4⟩
theorem rights_val {k : Nat} {s t : St} (h : Rights k s t) : Norm s → s.tr = false → ∀ n r, IsV s n r → 10 * s.dp + 3 * (r : Int) ≤ 170 → r + k ≤ 1074 → IsV t n (r + k) ∧ t.tr = false := by
  have step : ∀ {k : Nat} {s t : St}, k ≤ 60 → Norm s → s.tr = false → ∀ n r, IsV s n r → 10 * s.dp + 3 * (r : Int) ≤ 170 → r + k ≤ 1074 → RStep k s t → (IsV t n (r + k) ∧ t.tr = false) ∧ (k = 60 → t.dp ≤ s.dp - 18) := by
    intro k s t hk hs htr n r hv hb hr ⟨r0, T, W, h1, h2, h3, h4⟩
    have hpl := places_le hs hv
    have hbd : s.nd + k + 1 ≤ r0 + 800 := by omega
    obtain ⟨T', hT1, hT2⟩ := rs_cut h1 hbd
    refine ⟨⟨right_val hs hk hT1 h2 h3 hT2 hv, ?_⟩, fun h60 => ?_⟩
    · rw [h4, htr, lost_none hbd]; rfl
    · have h5 := h1.lead.hi
      have h6 := N_lt (fun i => hs.dig9 i) r0
      have h7 : 19 ≤ r0 := by
        rcases Nat.lt_or_ge r0 19 with h | h
        · exfalso
          have h8 : 10 ^ r0 ≤ 10 ^ 18 := Nat.pow_le_pow_right (by decide) (by omega)
          have h9 : (10 : Nat) ^ 18 < 2 ^ 60 := by decide
          rw [h60] at h5
          omega
        · exact h
      rw [h3]; omega
  induction h with
  | one _ hk hst => intro hs htr n r hv hb hr; exact (step hk hs htr n r hv hb hr hst).1
  | @more k s t u hk hst hn _ ih =>
    intro hs htr n r hv hb hr
    obtain ⟨⟨h1, h2⟩, h3⟩ := step (Nat.le_refl _) hs htr n r hv hb (by omega) hst
    have h4 := h3 rfl
    obtain ⟨h5, h6⟩ := ih hn h2 n (r + 60) h1 (by omega) (by omega)
    rw [show r + (k + 60) = r + 60 + k by omega]
    exact ⟨h5, h6⟩
end Go.Proofs.YtjpiplplohapnaaGreatDoor.Dc
namespace Go.Proofs.YtjpiplplohapnaaGreatDoor.Us
open Nr Dc
def l2 (e : Int) : Int := e * 78913 / 262144
def dgF (x c : Int) : Int := if 0 ≤ x then 1 + l2 (1 + x) + c else 1 + c - l2 (-x)
def wN (m : Nat) (x : Int) : Nat := m * 2 ^ (x - 52).toNat
def wR (x : Int) : Nat := (52 - x).toNat
def fP (x c : Int) : Int := dgF x c - 1 - l2 x
def fS (x c : Int) : Int := 60 - x - lp (fP x c)
def fD (x c : Int) : Nat := den (fP x c) * (340282366920938463463374607431768211456 * 2 ^ (fS x c).toNat)
def fcheck (x c : Int) : Bool :=
  !(decide (1 ≤ dgF x c) && decide (dgF x c ≤ 18)) || decide ((fP x c = c ∨ fP x c = c + 1) ∧ 0 ≤ fS x c ∧ fS x c ≤ 63 ∧ fP x c ≤ 31 ∧
    18446744073709551616 * num (fP x c) ≤ 9223372036854775808 * fD x c ∧ (fP x c = c → 18446744073709551616 * num (fP x c) ≤ (4 * 10 ^ (dgF x c).toNat - 4) * fD x c))
set_option maxRecDepth 100000 in
theorem fchecks : ∀ i : Fin 161, ∀ c : Fin 31, fcheck ((i.val : Int) - 102) (c.val : Int) = true := by decide +kernel
theorem fast_ok {x : Int} {c : Nat} (hc : c ≤ 30) (h1 : 1 ≤ dgF x c) (h18 : dgF x c ≤ 18) :
    (fP x c = c ∨ fP x c = c + 1) ∧ 0 ≤ fS x c ∧ fS x c ≤ 63 ∧ fP x c ≤ 31 ∧ 18446744073709551616 * num (fP x c) ≤ 9223372036854775808 * fD x c ∧ (fP x c = c → 18446744073709551616 * num (fP x c) ≤ (4 * 10 ^ (dgF x c).toNat - 4) * fD x c) := by
  have hx : -102 ≤ x ∧ x ≤ 58 := by
    unfold dgF l2 at h1 h18
    by_cases h : 0 ≤ x
    · rw [if_pos h] at h1 h18; omega
    · rw [if_neg h] at h1 h18; omega
  have h := fchecks ⟨(x + 102).toNat, by omega⟩ ⟨c, by omega⟩
  have e : (((⟨(x + 102).toNat, by omega⟩ : Fin 161).val : Nat) : Int) - 102 = x := by
    show (((x + 102).toNat : Nat) : Int) - 102 = x
    omega
  rw [e] at h
  have h' : fcheck x (c : Int) = true := h
  unfold fcheck at h'
  rw [decide_eq_true h1, decide_eq_true h18] at h'
  simp only [Bool.and_self, Bool.not_true, Bool.false_or] at h'
  exact of_decide_eq_true h'
theorem unr_le (N D : Nat) : unr N D ≤ N / D + 1 := by
  rcases unr_parts N D with ⟨_, h⟩ | ⟨_, h⟩ <;> rw [h] <;> omega
theorem rhe_cross {A Q A' Q' n : Nat} (hQ : 0 < Q) (hQ' : 0 < Q') (h : A * Q' = A' * Q) (hr : Rhe A Q n) : Rhe A' Q' n := by
  have h1 := rhe_scale' Q' hQ' hr
  rw [h, Nat.mul_comm Q Q'] at h1
  exact rhe_scale Q hQ h1
theorem fast_cross {x : Int} {c m j : Nat} (hc : c ≤ 30) (h1 : 1 ≤ dgF x c) (h18 : dgF x c ≤ 18) (hj : fP x c = c + j) : m * 2048 * num (fP x c) * 2 ^ wR x = wN m x * 10 ^ c * (4 * (fD x c * 10 ^ j)) := by
  obtain ⟨-, hs0, hs1, hP, -⟩ := fast_ok hc h1 h18
  have hx : -102 ≤ x ∧ x ≤ 58 := by
    unfold dgF l2 at h1 h18
    by_cases h : 0 ≤ x
    · rw [if_pos h] at h1 h18; omega
    · rw [if_neg h] at h1 h18; omega
  have hden : den (fP x c) = 1 := den_nonneg (by omega) hP
  have hlp : lp (fP x c) ≤ 103 := by unfold lp; omega
  have hlp0 : 0 ≤ lp (fP x c) := by unfold lp; omega
  have hS : fS x c = 60 - x - lp (fP x c) := rfl
  unfold num fD wN wR
  rw [hden]
  rw [hj] at hP hlp hlp0 hS ⊢
  generalize fS x c = S at hs0 hs1 hS ⊢
  have hlpj : ∃ l : Nat, lp ((c : Int) + j) = l := ⟨(lp ((c : Int) + j)).toNat, by omega⟩
  obtain ⟨l, hl⟩ := hlpj
  rw [hl] at hlp hlp0 hS ⊢
  rw [show ((c : Int) + (j : Int)).toNat = c + j by omega, Nat.pow_add, show ((127 : Int) - (l : Int)).toNat = 127 - l by omega]
  have hW : (340282366920938463463374607431768211456 : Nat) = 2 ^ 128 := by decide
  have h2048 : (2048 : Nat) = 2 ^ 11 := by decide
  have h4 : (4 : Nat) = 2 ^ 2 := by decide
  rw [hW, h2048, h4, Nat.one_mul]
  have e : 2 ^ 11 * 2 ^ (127 - l) * 2 ^ (52 - x).toNat = 2 ^ (x - 52).toNat * 2 ^ 2 * 2 ^ 128 * 2 ^ S.toNat := by
    rw [← Nat.pow_add, ← Nat.pow_add, ← Nat.pow_add, ← Nat.pow_add, ← Nat.pow_add]
    congr 1; omega
  generalize 2 ^ 11 = u1 at *
  generalize 2 ^ (127 - l) = u2 at *
  generalize 2 ^ (52 - x).toNat = u3 at *
  generalize 2 ^ (x - 52).toNat = u4 at *
  generalize 2 ^ 2 = u5 at *
  generalize 2 ^ 128 = u6 at *
  generalize 2 ^ S.toNat = u7 at *
  generalize 10 ^ c = v1 at *
  generalize 10 ^ j = v2 at *
  calc m * u1 * (v1 * v2 * u2) * u3 = m * v1 * v2 * (u1 * u2 * u3) := by grind
    _ = m * v1 * v2 * (u4 * u5 * u6 * u7) := by rw [e]
    _ = m * u4 * v1 * (u5 * (u6 * u7 * v2)) := by grind
def fU (x : Int) (c m : Nat) (r : Nat × Nat) : Nat := usc (m * 2048) r.1 r.2 (fS x c).toNat
theorem fU_eq {x : Int} {c m : Nat} (hc : c ≤ 30) (hm1 : 4503599627370496 ≤ m) (hm2 : m < 9007199254740992) (h1 : 1 ≤ dgF x c) (h18 : dgF x c ≤ 18) {i : Nat} {r : Nat × Nat} (hi : Pinned.pow10Rows[i]? = some r) (hP : fP x c = (i : Int) - 348) :
    fU x c m r = unr (m * 2048 * num (fP x c)) (fD x c) := by
  obtain ⟨h0, hs0, hs1, hP31, -⟩ := fast_ok hc h1 h18
  obtain ⟨hr, -⟩ := row_ok hi
  have hcl := clean_print (x := m * 2048) (s := (fS x c).toNat) hi (by rw [← hP]; omega) (by omega)
  have := usc_ok (by omega) (by omega) hr hcl
  unfold fU fD
  rw [this, hP]
theorem fast_main {x : Int} {c m : Nat} (hc : c ≤ 30) (hm1 : 4503599627370496 ≤ m) (hm2 : m < 9007199254740992) (h1 : 1 ≤ dgF x c) (h18 : dgF x c ≤ 18) {i : Nat} {r : Nat × Nat} (hi : Pinned.pow10Rows[i]? = some r) (hP : fP x c = (i : Int) - 348) :
    fU x c m r ≤ 9223372036854775808 ∧
    ((fP x c = c ∧ fU x c m r < 4 * 10 ^ (dgF x c).toNat - 2 ∧ Rhe (wN m x * 10 ^ c) (2 ^ wR x) (rnd (fU x c m r))) ∨
     (fP x c = c + 1 ∧ Rhe (wN m x * 10 ^ c) (2 ^ wR x) (rnd (stick (fU x c m r / 10) (decide (fU x c m r % 2 = 1) || decide (fU x c m r % 10 ≠ 0)))))) := by
  obtain ⟨h0, hs0, hs1, hP31, hb1, hb2⟩ := fast_ok hc h1 h18
  have hU := fU_eq hc hm1 hm2 h1 h18 hi hP
  have hnum : 0 < num (fP x c) := Nat.mul_pos (Nat.pow_pos (by decide)) (Nat.pow_pos (by decide))
  have hden : 0 < fD x c := Nat.mul_pos (Nat.mul_pos (Nat.pow_pos (by decide)) (Nat.pow_pos (by decide))) (Nat.mul_pos (by decide) (Nat.pow_pos (by decide)))
  have hlt : m * 2048 * num (fP x c) < 18446744073709551616 * num (fP x c) := Nat.mul_lt_mul_of_pos_right (by omega) hnum
  have hul := unr_le (m * 2048 * num (fP x c)) (fD x c)
  refine ⟨?_, ?_⟩
  · rw [hU]
    have : m * 2048 * num (fP x c) / fD x c < 9223372036854775808 := by
      rw [Nat.div_lt_iff_lt_mul hden]; omega
    omega
  · rcases h0 with h | h
    · left
      refine ⟨h, ?_, ?_⟩
      · have hb := hb2 h
        have h10 : 10 ≤ 10 ^ (dgF x c).toNat := by
          obtain ⟨k, hk⟩ : ∃ k, (dgF x c).toNat = k + 1 := ⟨(dgF x c).toNat - 1, by omega⟩
          rw [hk, Nat.pow_succ]
          have := Nat.pow_pos (a := 10) (n := k) (by decide)
          omega
        have : m * 2048 * num (fP x c) / fD x c < 4 * 10 ^ (dgF x c).toNat - 4 := by
          rw [Nat.div_lt_iff_lt_mul hden]; omega
        rw [hU]
        omega
      · rw [hU]
        have hr := rnd_rhe (N := m * 2048 * num (fP x c)) hden
        refine rhe_cross (Nat.mul_pos (by decide) hden) (Nat.pow_pos (by decide)) ?_ hr
        have := fast_cross (m := m) (j := 0) hc h1 h18 (by omega)
        rw [Nat.pow_zero, Nat.mul_one] at this
        exact this
    · right
      refine ⟨h, ?_⟩
      rw [hU, ← unr_scale hden (by decide) (by decide)]
      have hr := rnd_rhe (N := m * 2048 * num (fP x c)) (D := fD x c * 10) (Nat.mul_pos hden (by decide))
      refine rhe_cross (Nat.mul_pos (by decide) (Nat.mul_pos hden (by decide))) (Nat.pow_pos (by decide)) ?_ hr
      exact fast_cross (m := m) (j := 1) hc h1 h18 (by omega)
set_option maxRecDepth 100000 in
theorem l2_ok : ∀ i : Fin 1100, 10 ^ (l2 (i.val : Int)).toNat ≤ 2 ^ i.val := by decide +kernel
theorem fast_none {x : Int} {c m : Nat} (hx : -1022 ≤ x) (hm2 : m < 9007199254740992) (h : dgF x c ≤ 0) : Rhe (wN m x * 10 ^ c) (2 ^ wR x) 0 := by
  have hx0 : x < 0 := by
    unfold dgF l2 at h
    by_cases h' : 0 ≤ x
    · rw [if_pos h'] at h; omega
    · omega
  unfold dgF at h
  rw [if_neg (by omega)] at h
  obtain ⟨E, hE⟩ : ∃ E : Nat, -x = E := ⟨(-x).toNat, by omega⟩
  have hl := l2_ok ⟨E, by omega⟩
  have hl' : 10 ^ (l2 (E : Int)).toNat ≤ 2 ^ E := hl
  rw [hE] at h
  have h2 : 10 ^ (c + 1) ≤ 10 ^ (l2 (E : Int)).toNat := Nat.pow_le_pow_right (by decide) (by omega)
  unfold wN wR
  rw [show (x - 52).toNat = 0 by omega, Nat.pow_zero, Nat.mul_one, show (52 - x).toNat = 52 + E by omega, Nat.pow_add]
  have h52 : (2 : Nat) ^ 52 = 4503599627370496 := by decide
  rw [h52]
  rw [Nat.pow_succ] at h2
  have h3 : m * 10 ^ c ≤ 9007199254740992 * 10 ^ c := Nat.mul_le_mul_right _ (by omega)
  have h4 : 0 < 2 ^ E := Nat.pow_pos (by decide)
  exact rhe_down (q := 0) (R := m * 10 ^ c) (by omega) (by omega) (by omega) (fun _ => rfl)
theorem set_atP {d : Nat → Nat} {Q L c : Nat} (hd : ∀ i, i < L → d i = 48 + Q / 10 ^ (L - 1 - i) % 10) (h1 : 10 ^ (L - 1) ≤ Q) (h2 : Q < 10 ^ L) (hL0 : 1 ≤ L) (hL : L ≤ 20) :
    atP d (tl d L) ((L : Int) - c) c = Q ∧ (∀ i, i < tl d L → 48 ≤ d i ∧ d i ≤ 57) ∧ 0 < tl d L ∧ d 0 ≠ 48 := by
  obtain ⟨hn, hv, h0⟩ := assign_val (tr := false) hd h1 h2 hL0 hL
  refine ⟨?_, hn.dgs, hn.pos, hn.first⟩
  unfold atP
  rw [if_pos (by omega), show ((L : Int) - (c : Int) + (c : Int)).toNat = L by omega]
  have hle := tl_le d L
  have h3 := N_tail d hle (fun i h1 h2 => tl_zero d L i h1 h2)
  have h4 : N (fun i => d i - 48) L = Q / 10 ^ (L - L) := N_cut h2 L (Nat.le_refl _) (fun i hi => by rw [hd i hi]; omega)
  rw [Nat.sub_self, Nat.pow_zero, Nat.div_one] at h4
  rw [h4] at h3
  have h5 := N_pow d (tl d L) (L - tl d L)
  rw [show tl d L + (L - tl d L) = L by omega] at h5
  rw [h5, ← h3]
end Go.Proofs.YtjpiplplohapnaaGreatDoor.Us
namespace Go.Proofs.YtjpiplplohapnaaGreatDoor.Big
open Go.RowKit Go.Proofs.YtjpiplplohapnaaGreatDoorW.PrintWords Go.Proofs.YtjpiplplohapnaaGreatDoorW.PrintLast Go.Proofs.YtjpiplplohapnaaGreatDoorW.PrintMore
open Go.Proofs.YtjpiplplohapnaaGreatDoor.PText Nr Us Dc
theorem ba_size (l : List UInt8) : (⟨l.toArray⟩ : ByteArray).size = l.length := by
  show l.toArray.size = _
  rw [List.size_toArray]
theorem ba_app (a b : List UInt8) : (⟨a.toArray⟩ : ByteArray) ++ (⟨b.toArray⟩ : ByteArray) = ⟨(a ++ b).toArray⟩ := ByteArray.ext (by simp)
theorem ba_ext (l : List UInt8) (i j : Nat) : (⟨l.toArray⟩ : ByteArray).extract i j = ⟨((l.take j).drop i).toArray⟩ := ByteArray.ext (by
  simp [List.extract_eq_take_drop, List.drop_take])
theorem neg_of (b : Nat) : tenorref1_Negative.f (b : Int) = some (Go.Proofs.YtjpiplplohapnaaGreatDoor.neg b) := by
  unfold tenorref1_Negative.f Go.Proofs.YtjpiplplohapnaaGreatDoor.neg
  congr 1
  exact decide_eq_decide.2 (by omega)
theorem padL_more (c : Nat) (l : List UInt8) (h : l.length ≤ c) : padL c (48 :: l) = padL c l := by
  unfold padL
  rw [List.length_cons, show c + 1 - l.length = c + 1 - (l.length + 1) + 1 by omega, List.replicate_succ', List.append_assoc]
  rfl
theorem print_l0 (b c : Nat) (hc : c ≤ 30) : ∀ (j : Nat) (l : List UInt8), c + 1 - l.length = j → l.length ≤ 100000 →
    Ev (fun k => tenorref2_Print.l0 k (b : Int) (c : Int) ⟨l.toArray⟩) (⟨((if Go.Proofs.YtjpiplplohapnaaGreatDoor.neg b then [45] else []) ++ dot c (padL c l)).toArray⟩, 0)
  | j + 1, l, hj, hl => by
    have ih := print_l0 b c hc j (48 :: l) (by rw [List.length_cons]; omega) (by rw [List.length_cons]; omega)
    rw [padL_more c l (by omega)] at ih
    refine Ev.step (f := fun k => tenorref2_Print.l0 k (b : Int) (c : Int) ⟨(48 :: l).toArray⟩) (fun k => ?_) ih
    rw [tenorref2_Print.l0, ba_size, if_pos (by omega), if_pos (by omega)]
    congr 1
  | 0, l, hj, hl => by
    have hlen : c + 1 ≤ l.length := by omega
    rw [padL_long hlen]
    refine Ev.step (f := fun _ => some ((⟨((if Go.Proofs.YtjpiplplohapnaaGreatDoor.neg b then [45] else []) ++ dot c l).toArray⟩ : ByteArray), (0 : Int))) (fun k => ?_) (Ev.now _)
    rw [tenorref2_Print.l0, ba_size, if_neg (by omega)]
    by_cases h0 : 0 < c
    · have hw : wrap64 ((l.length : Int) - (c : Int)) = ((l.length - c : Nat) : Int) := by rw [w64 (by omega) (by omega)]; omega
      rw [if_pos (by omega), hw, if_pos (by omega), if_pos (by omega), Int.toNat_natCast, ba_ext, ba_ext, neg_of]
      have e46 : (⟨#[46]⟩ : ByteArray) = ⟨[46].toArray⟩ := rfl
      have e45 : (⟨#[45]⟩ : ByteArray) = ⟨[45].toArray⟩ := rfl
      rw [e46, e45, ba_app, ba_app, ba_app, ba_size, ba_size, ba_size, ba_size, Option.bind_some]
      rw [List.drop_zero, List.take_length]
      have hd : dot c l = List.take (l.length - c) l ++ [46] ++ List.drop (l.length - c) l := by
        unfold dot
        rw [if_pos h0, List.append_assoc]; rfl
      rw [hd]
      have k1 : (List.take (l.length - c) l).length ≤ l.length := by rw [List.length_take]; omega
      have k2 : (List.drop (l.length - c) l).length ≤ l.length := by rw [List.length_drop]; omega
      rw [if_pos (by omega), if_pos (by rw [List.length_append]; simp only [List.length_cons, List.length_nil]; omega)]
      cases Go.Proofs.YtjpiplplohapnaaGreatDoor.neg b
      · rw [if_neg (by decide), if_neg (by decide)]; rfl
      · rw [if_pos rfl, if_pos rfl, if_pos (by rw [List.length_append, List.length_append]; simp only [List.length_cons, List.length_nil]; omega)]
    · have hd : dot c l = l := by unfold dot; rw [if_neg h0]
      rw [if_neg (by omega), hd, neg_of, Option.bind_some]
      have e45 : (⟨#[45]⟩ : ByteArray) = ⟨[45].toArray⟩ := rfl
      rw [e45, ba_app]
      cases Go.Proofs.YtjpiplplohapnaaGreatDoor.neg b
      · rw [if_neg (by decide), if_neg (by decide)]; rfl
      · rw [if_pos rfl, if_pos rfl, if_pos (by omega)]
theorem print_j1 (b c Q n : Nat) (hc : c ≤ 30) (hQ : Q < 10 ^ (n + 1)) (hn : n ≤ 3000) (hl : ln Q ≤ 100000) :
    Ev (fun k => tenorref2_Print.j1 k (b : Int) (c : Int) (dg Q)) (⟨(fixT (Go.Proofs.YtjpiplplohapnaaGreatDoor.neg b) Q c).toArray⟩, 0) := by
  have hs : (Lib.decDigits Q).length ≤ n + 1 := dec_short n Q hQ
  refine Ev.step (f := fun k => (tenorref2_Decimal.f k (dg Q)).bind fun t => tenorref2_Print.l0 k (b : Int) (c : Int) t) (fun k => by rw [tenorref2_Print.j1]) ?_
  exact Ev.bind (decimal_ev Q (by omega) (by omega)) (print_l0 b c hc _ (Lib.decDigits Q) rfl (by omega))
theorem ten_l0 (c : Nat) (hc : c ≤ 30) : ∀ (j i : Nat), i + j = c → Ev (fun k => tenorref2_ten.l0 k (c : Int) (dg (10 ^ i)) (i : Int)) (dg (10 ^ c))
  | 0, i, h => by
    have : i = c := by omega
    subst this
    refine Ev.step (f := fun _ => some (dg (10 ^ i))) (fun k => ?_) (Ev.now _)
    rw [tenorref2_ten.l0, if_neg (by omega)]
  | j + 1, i, h => by
    have ih := ten_l0 c hc j (i + 1) (by omega)
    have h10 : dg 10 = [10] := dg_of_lt (by decide) (by decide)
    have hb : 10 ^ i < B ^ 4 := Nat.lt_of_le_of_lt (Nat.pow_le_pow_right (by decide) (show i ≤ 30 by omega)) (by decide)
    have hm := mul_ev (10 ^ i) 10 (by have := ln_le hb; have := ln_small (n := 10) (by decide); have : (5 : Nat) + 1 + 1 ≤ top := by decide
                                      omega)
    rw [h10, ← Nat.pow_succ] at hm
    refine Ev.step (f := fun k => (tenorref1_MulDigits.f k (dg (10 ^ i)) [10]).bind fun t => tenorref2_ten.l0 k (c : Int) t ((i + 1 : Nat) : Int)) (fun k => ?_) (Ev.bind hm ih)
    rw [tenorref2_ten.l0, if_pos (by omega), w64 (by omega) (by omega)]
    rfl
theorem ten_ev (c : Nat) (hc : c ≤ 30) : Ev (fun k => tenorref2_ten.f k (c : Int)) (dg (10 ^ c)) := by
  have h := ten_l0 c hc c 0 (by omega)
  have h1 : dg (10 ^ 0) = [1] := dg_of_lt (by decide) (by decide)
  rw [h1] at h
  exact h
theorem dig0_t (m : Nat) : Int.tmod ((dig m 0 : Nat) : Int) 2 = ((m % 2 : Nat) : Int) := by
  rw [dig_zero]
  exact tmod2 (by show m % 4294967296 % 2 = m % 2; omega)
theorem odd_dg (n : Nat) : tenorref2_odd.f (dg n) = some (decide (n % 2 = 1)) := by
  unfold tenorref2_odd.f
  by_cases h : n = 0
  · subst h
    have : dg 0 = [] := by unfold dg; rw [ln_zero]; rfl
    rw [this]; rfl
  · have hl : 0 < ln n := by rw [ln_pos h]; omega
    rw [dg_length, if_pos (by omega), if_pos (by omega)]
    have h0 := rd_dg n 0 hl
    rw [show ((0 : Nat) : Int) = 0 from rfl] at h0
    rw [h0, dig0_t]
    congr 1
    by_cases c : n % 2 = 1
    · rw [c]; rfl
    · rw [show n % 2 = 0 by omega]; rfl
theorem half_rhe (A H : Nat) (hH : 0 < H) : Rhe A (2 * H) (if A / H % 2 = 1 ∧ (A % H ≠ 0 ∨ A / (2 * H) % 2 = 1) then A / (2 * H) + 1 else A / (2 * H)) := by
  have e1 := Nat.div_add_mod A (2 * H)
  have e2 := Nat.div_add_mod A H
  have e3 : A / (2 * H) = A / H / 2 := by rw [Nat.mul_comm 2 H, ← Nat.div_div_eq_div_mul]
  have m2 := Nat.mod_lt A hH
  obtain ⟨q, hq⟩ : ∃ q, q = A / H / 2 := ⟨_, rfl⟩
  obtain ⟨t, ht⟩ : ∃ t, t = A / H % 2 := ⟨_, rfl⟩
  have e4 : A / H = 2 * q + t := by omega
  rw [e3, ← ht, ← hq]
  obtain ⟨r, hr⟩ : ∃ r, r = A % H := ⟨_, rfl⟩
  rw [← hr] at e2 m2 ⊢
  have hA : A = q * (2 * H) + (t * H + r) := by rw [← e2, e4]; grind
  have ht2 : t = 0 ∨ t = 1 := by omega
  rcases ht2 with h | h
  · rw [if_neg (by omega)]
    rw [h, Nat.zero_mul, Nat.zero_add] at hA
    exact rhe_down hA (by omega) (by omega) (fun hh => by omega)
  · rw [h, Nat.one_mul] at hA
    by_cases hc : r ≠ 0 ∨ q % 2 = 1
    · rw [if_pos ⟨h, hc⟩]
      exact rhe_up hA (by omega) (by omega) (fun hh => by rcases hc with h1 | h1 <;> omega)
    · rw [if_neg (fun hh => hc hh.2)]
      exact rhe_down hA (by omega) (by omega) (fun hh => by omega)
theorem dg_zero : dg 0 = [] := by unfold dg; rw [ln_zero]; rfl
theorem of_zero (k : Nat) : tenorref1_Of.f k 0 = some (false, [], 0) := by
  have h1 : Go.bits .and .u64 (0 : Int) 4503599627370495 = 0 := by decide +kernel
  have h2 : Go.bits .and .u64 ((0 : Int) / 4503599627370496) 2047 = 0 := by decide +kernel
  unfold tenorref1_Of.f
  rw [h1, h2, w64 (by omega) (by omega), if_neg (by omega), if_pos rfl]
theorem size_of (b : Nat) (hb : b < 18446744073709551616) : tenorref1_Size.f (b : Int) = some ((sz b : Nat) : Int) := by
  unfold tenorref1_Size.f
  rw [sz_bits b hb]
theorem one_dg : dg 1 = [1] := dg_of_lt (by decide) (by decide)
theorem ln_of_bits' {n k : Nat} (L : Nat) (h : n < 2 ^ k) (hk : k ≤ 32 * L) : ln n ≤ L := by
  refine ln_le (Nat.lt_of_lt_of_le h ?_)
  rw [B_eq]
  exact Nat.pow_le_pow_right (by decide) hk
theorem ln_of_bits {n k : Nat} (h : n < 2 ^ k) (hk : k ≤ 320000) : ln n ≤ 10000 := ln_of_bits' 10000 h (Nat.le_trans hk (by decide))
end Go.Proofs.YtjpiplplohapnaaGreatDoor.Big
namespace Go.Proofs.YtjpiplplohapnaaGreatDoor
open Go.RowKit Go.Sort Go.Proofs.YtjpiplplohapnaaGreatDoorW.PrintWords
namespace Dc
structure Out (B : Nat) (w0 : World) (g nd : Nat) (d : Nat → Nat) (v : Value) (l : List UInt8) (w : World) : Prop where
  own : w.ownsRow B 5 1 v l.length (l.map encB)
  src : 0 < nd → ∃ (cs : Array Value) (T : TypeId), w.heap[g]? = some (.cells cs T (0, 0)) ∧ T ≠ 5 ∧ ∀ i, i < nd → cs[i]? = some (.int .u8 (d i : Nat))
  below : Below B w0 w
  base : B ≤ w.heap.size
variable {B g nd : Nat} {w0 w w1 : World} {d : Nat → Nat} {v v' : Value} {l : List UInt8} {c : UInt8}
theorem Out.cell (h : Out B w0 g nd d v l w) (i : Nat) (hi : i < nd) : w.cell? ⟨g, i, none⟩ = some (.int .u8 (d i : Nat)) := by
  obtain ⟨cs, T, h1, h2, h3⟩ := h.src (by omega)
  exact (blk_cell h1 i).trans (h3 i hi)
theorem Out.app (h : Out B w0 g nd d v l w) {o : Obj} (hown : w1.ownsRow B 5 1 v' (l.length + 1) (l.map encB ++ [encB c])) (hg : (w.alloc o).grownBy w1 v.ownBlock) : Out B w0 g nd d v' (l ++ [c]) w1 := by
  have hsz : (w.alloc o).heap.size = w.heap.size + 1 := by simp
  refine ⟨by simpa using hown, fun hn => ?_, (h.below.alloc h.base o).grown hg (by have := h.base; omega) (fun k hk => (h.own.lt k hk).1), by have := hg.size; have := h.base; omega⟩
  obtain ⟨cs, T, h1, h2, h3⟩ := h.src hn
  refine ⟨cs, T, ?_, h2, h3⟩
  have hlt : g < w.heap.size := (Array.getElem?_eq_some_iff.1 h1).1
  have hne : some g ≠ v.ownBlock := by
    intro he
    rcases h.own.2 with ⟨rfl, _⟩ | ⟨g', cap, cur, rfl, _, hgg, _⟩
    · cases he
    · injection he with he
      subst he
      rw [h1] at hgg
      injection hgg with hgg
      injection hgg with _ hT
      exact h2 hT
  rw [hg.block g (by omega) hne]
  exact (Below.heap_alloc w o g hlt).trans h1
theorem Out.drewN (h : Out B w0 g nd d v l w) (n : Nat) : Out B w0 g nd d v l (w.drewN n) := ⟨h.own, h.src, below_drewN h.below n, h.base⟩
end Dc
open Dc
theorem Tryz.info5 : (Tryz.prog.info? 5).map (fun i => (i.zero, i.size, i.bytes)) = some (some (.int .u8 0), 1, 1) := by kernel_rfl
theorem step_app {ops : Array Oper} {rest : List Oper} {o : Oper} {a : Act} {Q : Exit → Act → World → Prop} (hgd : o.guard = none) (s x : Operand)
    (ho : o.op = .call { callee := .builtin .append, args := #[s, x], argTypes := #[94, 94] })
    {B : Nat} {w0 w : World} {g nd : Nat} {d : Nat → Nat} {v : Value} {l : List UInt8} (h : Out B w0 g nd d v l w) (hs : a.eval s = v) (c : UInt8) (vc : Int) (hc : (c.toNat : Int) = vc)
    (hx : a.eval x = .slice (some ⟨w.heap.size, 0, none⟩) 1 1) (hl : l.length ≤ 1000000)
    (k : ∀ v' w', Out B w0 g nd d v' (l ++ [c]) w' → wpList Tryz.prog ops Q rest (a.put o.dst v') w') : wpList Tryz.prog ops Q (o :: rest) a (w.alloc (.cells #[.int .u8 vc] 5)) := by
  obtain ⟨i5, hi, hz0, hz1, hz2⟩ := info_parts Tryz.info5
  have hb := h.base
  refine wpList_append_own _ hgd s x 94 ho B 5 i5 (.int .u8 0) 1 1 Tryz.underlying94 hi hz0 hz1 hz2 rfl (by decide) v l.length (l.map encB) hs (h.own.alloc _) ⟨w.heap.size, 0, none⟩ 1 1 [.int .u8 vc] hx rfl ?_ ?_ ?_ ?_ ?_ ?_
  · intro j u hj
    match j, hj with
    | 0, hj =>
      simp at hj
      subst hj
      simp [Addr.add]
  · intro u hu
    simp at hu
    subst hu
    rfl
  · unfold maxLen; omega
  · omega
  · simp; omega
  · intro v' w1 hown hg _
    refine k v' w1 (h.app (c := c) ?_ hg)
    rw [show encB c = .int .u8 vc by rw [← hc]]
    exact hown
end Go.Proofs.YtjpiplplohapnaaGreatDoor
namespace Go.Proofs.YtjpiplplohapnaaGreatDoor.Rf
structure St where
  us : Bool
  dot : Bool
  sd : Bool
  nd : Nat
  nm : Nat
  dp : Int
  m : Nat
  tr : Bool
def lw (c : Nat) : Int := Go.bits .or .u8 (c : Int) 32
def escan : List UInt8 → Nat → Bool → Nat × Bool × List UInt8
  | [], e, us => (e, us, [])
  | c :: l, e, us => if c.toNat = 95 then escan l e true else if 48 ≤ c.toNat ∧ c.toNat ≤ 57 then escan l (if e < 10000 then e * 10 + (c.toNat - 48) else e) us else (e, us, c :: l)
def esign : List UInt8 → Int × List UInt8
  | [] => (1, [])
  | c :: l => if c.toNat = 43 then (1, l) else if c.toNat = 45 then (-1, l) else (1, c :: l)
def startsD : List UInt8 → Bool
  | [] => false
  | d :: _ => decide (48 ≤ d.toNat) && decide (d.toNat ≤ 57)
def eat (us : Bool) (r : List UInt8) : Option (Int × Bool × List UInt8) :=
  if startsD (esign r).2 then some ((esign r).1 * ((escan (esign r).2 0 us).1 : Nat), (escan (esign r).2 0 us).2.1, (escan (esign r).2 0 us).2.2) else none
def expPart (hx us : Bool) : List UInt8 → Option (Int × Bool × List UInt8)
  | [] => if hx then none else some (0, us, [])
  | c :: r => if lw c.toNat = (if hx then 112 else 101) then eat us r else if hx then none else some (0, us, c :: r)
structure Out where
  m : Nat
  e : Int
  tr : Bool
  us : Bool
  rest : List UInt8
def dpv (hx : Bool) (t : St) : Int := (if t.dot then t.dp else t.nd) * (if hx then 4 else 1)
def nmv (hx : Bool) (t : St) : Int := t.nm * (if hx then 4 else 1)
def fin (hx : Bool) (t : St) (r : List UInt8) : Option Out :=
  if t.sd then (expPart hx t.us r).map fun x => ⟨t.m, if t.m = 0 then 0 else dpv hx t + x.1 - nmv hx t, t.tr, x.2.1, x.2.2⟩ else none
end Go.Proofs.YtjpiplplohapnaaGreatDoor.Rf
namespace Go.Proofs.YtjpiplplohapnaaGreatDoor
open Go.RowKit Go.Proofs.YtjpiplplohapnaaGreatDoorW.PrintWords Rf
def headR : Code → Option Nat
  | .region n _ _ => some n
  | .seq a _ => headR a
  | _ => none
def fromR (n : Nat) : Code → Option Code
  | .seq a b => if headR a = some n then some (.seq a b) else match fromR n a with
    | some c => some c
    | none => fromR n b
  | .cond _ a b => match fromR n a with
    | some c => some c
    | none => fromR n b
  | .block _ c => fromR n c
  | .scope c => fromR n c
  | .loop c => fromR n c
  | _ => none
end Go.Proofs.YtjpiplplohapnaaGreatDoor
namespace Go.Proofs.YtjpiplplohapnaaGreatDoor
open Go.RowKit Go.Sort Go.Proofs.YtjpiplplohapnaaGreatDoorW.PrintWords Dc
noncomputable def fwCode67 : Code := ((Tryz.f122.body.bind (fromR 67)).getD .skip)
def FePost (B : Nat) (w0 : World) (g nd : Nat) (d : Nat → Nat) (T : List UInt8) (e : Ending) (w' : World) : Prop := ∃ v', e = .returned v' ∧ Out B w0 g nd d v' T w'
def frT (d : Nat → Nat) (nd : Nat) (dp : Int) (p : Nat) : List UInt8 :=
  if 0 < p then 46 :: (List.replicate (min p (-dp).toNat) 48 ++ (seg (fun i => d ((dp + (min p (-dp).toNat : Nat)).toNat + i)) (min (p - min p (-dp).toNat) (nd - (dp + (min p (-dp).toNat : Nat)).toNat)) ++
    List.replicate (p - min p (-dp).toNat - min (p - min p (-dp).toNat) (nd - (dp + (min p (-dp).toNat : Nat)).toNat)) 48)) else []
theorem fr_lead (dp : Int) (p : Nat) : ∃ lz : Nat, lz = min p (-dp).toNat ∧ max 0 (-dp) = ((-dp).toNat : Int) ∧ min (p : Int) ((-dp).toNat : Int) = (lz : Int) ∧ lz ≤ p ∧ (lz = p ∨ 0 ≤ dp + (lz : Int)) ∧ (dp + (lz : Int) ≤ dp ∨ dp + (lz : Int) ≤ 0) := by
  refine ⟨min p (-dp).toNat, rfl, by omega, by omega, Nat.min_le_left _ _, ?_, ?_⟩
  · rcases Nat.le_total p (-dp).toNat with h | h
    · left; exact Nat.min_eq_left h
    · right; rw [Nat.min_eq_right h]; omega
  · rcases Nat.le_total p (-dp).toNat with h | h
    · rw [Nat.min_eq_left h]; omega
    · rw [Nat.min_eq_right h]; omega
theorem fr_mid (off : Int) (pl nd : Nat) (h : pl = 0 ∨ 0 ≤ off) : ∃ m : Nat, m = min pl (nd - off.toNat) ∧ max 0 ((nd : Int) - off) = (((nd : Int) - off).toNat : Int) ∧ min (pl : Int) (((nd : Int) - off).toNat : Int) = (m : Int) ∧ m ≤ pl ∧ (0 < m → off.toNat + m ≤ nd ∧ off = (off.toNat : Int)) := by
  refine ⟨min pl (nd - off.toNat), rfl, by omega, ?_, Nat.min_le_left _ _, ?_⟩
  · rcases h with h | h
    · subst h; simp; omega
    · have e : ((nd : Int) - off).toNat = nd - off.toNat := by omega
      rw [e]; omega
  · intro hm
    rcases h with h | h
    · subst h; simp at hm
    · have := Nat.min_le_right pl (nd - off.toNat); omega
set_option maxRecDepth 100000 in
set_option maxHeartbeats 4000000 in
theorem fmt_frac (w : World) (B g nd : Nat) (d : Nat → Nat) (v sv : Value) (ng : Bool) (dp : Int) (p c : Nat) (l : List UInt8) (w0 : World) (HO : Hid (Out B w0 g nd d v l w)) (hnd : nd ≤ 800) (hdp1 : -100000 ≤ dp) (hdp2 : dp ≤ 100000) (hp : p ≤ 30) (HD : Hid (∀ i, i < nd → d i < 256))
    (HS : Hid (0 < nd → sv = .slice (some ⟨g, 0, none⟩) c c ∧ nd ≤ c ∧ c ≤ 800)) (HLn : Hid (l.length ≤ 200000)) (T : List UInt8) (HT : Hid (T = l ++ frT d nd dp p)) (K : Act → World → Prop) {u8 u9 u10 u11 u12 u13 u14 u15 u16 u17 u18 u19 u20 u21 u22 u23 u24 u25 u26 u27 u28 u29 u30 u31 u32 u33 u34 u35 u36 u37 u38 u39 u40 u41 u42 u43 u44 u45 u46 u47 u48 u49 u50 u51 u52 u53 u54 u55 u56 u57 u58 u59 u60 u61 u62 u63 u64 u65 u66 u67 u68 u69 u70 u71 u72 u73 u74 u75 u76 u77 u78 u79 u80 u81 u82 u83 u84 u85 u86 u87 u88 u89 u90 u91 u92 u93 u94 u95 u96 u97 u98 u99 u100 u101 u102 u103 u104 u105 u106 u107 u108 u109 u110 u111 u112 u113 u114 u115 u116 u117 u118 u119 u120 u121 u122 u123 u124 u125 u126 u127 u128 u129 u130 u131 u132 u133 u134 u135 u136 u137 u138 u139 u140 u141 u142 u143 u144 u145 u146 u147 u148 u149 u150 u151 u152 u153 u154 u155 u156 u157 u158 u159 u160 u161 u162 u163 u164 u165 u166 u167 u168 u169 u170 u171 u172 u173 u174 u175 u176 u177 u178 u179 u180 u181 u182 u183 u184 u185 u186 u187 u188 u189 u190 u191 u192 u193 u194 u195 u196 u197 u198 u199 u200 u201 u202 u203 u204 u205 u206 u207 u208 u209 u210 u211 u212 u213 u214 u215 u216 u217 u218 u219 u220 u221 u222 u223 u224 u225 u226 u227 u228 u229 u230 u231 u232 u233 u234 u235 u236 u237 u238 u239 u240 u241 u242 u243 u244 u245 u246 u247 u248 u249 u250 u251 u252 u253 u254 u255 u256 u257 u258 u259 u260 u261 u262 u263 u264 u265 u266 u267 u268 u269 u270 u271 : Value} :
    fwCode67.wp Tryz.prog (Exit.inBlock 0 (Exit.then K (bodyPost Tryz.prog Tryz.f122 (FePost B w0 g nd d T)))) ⟨#[v, .bool ng, sv, .int .i64 dp, .int .i64 (nd : Int), .int .i64 (p : Int), .int .u8 102, .bool false, u8, u9, u10, u11, u12, u13, u14, u15, u16, u17, u18, u19, u20, u21, u22, u23, u24, u25, u26, u27, u28, u29, u30, u31, u32, u33, u34, u35, u36, u37, u38, u39, u40, u41, u42, u43, u44, u45, u46, u47, u48, u49, u50, u51, u52, u53, u54, u55, u56, u57, u58, u59, u60, u61, u62, u63, u64, u65, u66, u67, u68, u69, u70, u71, u72, u73, u74, u75, u76, u77, u78, u79, u80, u81, u82, u83, u84, u85, u86, u87, u88, u89, u90, u91, u92, u93, u94, u95, u96, u97, u98, u99, u100, u101, u102, u103, u104, u105, u106, u107, u108, u109, u110, u111, u112, u113, u114, u115, u116, u117, u118, u119, u120, u121, u122, u123, u124, u125, u126, u127, u128, u129, u130, u131, u132, u133, u134, u135, u136, u137, u138, u139, u140, u141, u142, u143, u144, u145, u146, u147, u148, u149, u150, u151, u152, u153, u154, u155, u156, u157, u158, u159, u160, u161, u162, u163, u164, u165, u166, u167, u168, u169, u170, u171, u172, u173, u174, u175, u176, u177, u178, u179, u180, u181, u182, u183, u184, u185, u186, u187, u188, u189, u190, u191, u192, u193, u194, u195, u196, u197, u198, u199, u200, u201, u202, u203, u204, u205, u206, u207, u208, u209, u210, u211, u212, u213, u214, u215, u216, u217, u218, u219, u220, u221, u222, u223, u224, u225, u226, u227, u228, u229, u230, u231, u232, u233, u234, u235, u236, u237, u238, u239, u240, u241, u242, u243, u244, u245, u246, u247, u248, u249, u250, u251, u252, u253, u254, u255, u256, u257, u258, u259, u260, u261, u262, u263, u264, u265, u266, u267, u268, u269, u270, u271], []⟩ w := by
  conv => arg 2; whnf
  have HT2 := HT.out
  unfold frT at HT2
  clear HT
  by_cases h0 : 0 < p
  · rw [if_pos h0] at HT2
    obtain ⟨lz, hlz, a3, a4, hb1, hb2, hb3⟩ := fr_lead dp p
    rw [← hlz] at HT2
    clear hlz
    generalize (-dp).toNat = z at a3 a4
    obtain ⟨q, a1⟩ : ∃ q : Int, -dp = q := ⟨_, rfl⟩
    have a2 : -100000 ≤ q ∧ q ≤ 100000 := by omega
    have Ha2 := Lib.hid a2
    clear a2
    rw [a1] at a3
    have A34 := Lib.hid (And.intro a3 a4)
    clear a3 a4
    obtain ⟨off, a5⟩ : ∃ off : Int, dp + (lz : Int) = off := ⟨_, rfl⟩
    rw [a5] at HT2 hb2 hb3
    have ho2 : -100000 ≤ off ∧ off ≤ 100000 := by omega
    have a6 : -100000 ≤ off ∧ off ≤ 100000 := ho2
    have Ha6 := Lib.hid a6
    clear a6
    obtain ⟨pl, hpl⟩ : ∃ pl, pl = p - lz := ⟨_, rfl⟩
    rw [← hpl] at HT2
    have a7 : (p : Int) - (lz : Int) = (pl : Int) := by omega
    have a8 : wrap64 (pl : Int) = (pl : Int) := by unfold wrap64; omega
    have Ha8 := Lib.hid a8
    clear a8
    have h0' : pl = 0 ∨ 0 ≤ off := hb2.elim (fun h => Or.inl (by rw [hpl, h, Nat.sub_self])) Or.inr
    clear hb2 hb3
    obtain ⟨y, a9⟩ : ∃ y : Int, (nd : Int) - off = y := ⟨_, rfl⟩
    have a10 : -200000 ≤ y ∧ y ≤ 200000 := by clear hb1; omega
    have Ha10 := Lib.hid a10
    clear a10
    obtain ⟨m, hm, a11, a12, hm1, hm2⟩ := fr_mid off pl nd h0'
    rw [← hm] at HT2
    clear hm h0'
    rw [a9] at a11 a12
    generalize y.toNat = y2 at a11 a12
    have A112 := Lib.hid (And.intro a11 a12)
    clear a11 a12
    have HM2 := Lib.hid hm2
    clear hm2
    obtain ⟨tz, htz⟩ : ∃ tz, tz = pl - m := ⟨_, rfl⟩
    rw [← htz] at HT2
    have a13 : (pl : Int) - (m : Int) = (tz : Int) := by omega
    have htz2 : tz ≤ 30 := by omega
    have hlz2 : lz ≤ 30 := by omega
    have a14 : wrap64 (tz : Int) = (tz : Int) := by unfold wrap64; omega
    have Ha14 := Lib.hid a14
    clear a14
    have a15 : max 0 (tz : Int) = (tz : Int) := Int.max_eq_right (by omega)
    have a16 : (0 : Int) < p := by omega
    have a17 : decide ((0 : Int) < (p : Int)) = true := decide_eq_true a16
    obtain ⟨o, ho⟩ : ∃ o, o = off.toNat := ⟨_, rfl⟩
    have hm2 := HM2.out
    rw [← ho] at HT2 hm2
    have HTT := Lib.hid HT2
    have HB : Hid (lz ≤ 30 ∧ m ≤ 30 ∧ tz ≤ 30 ∧ (0 < m → 0 ≤ off ∧ o + m ≤ nd ∧ off = (o : Int))) := Lib.hid ⟨hlz2, Nat.le_trans hm1 (by rw [hpl]; exact Nat.le_trans (Nat.sub_le _ _) hp), htz2, fun hm0 => ⟨by rw [(hm2 hm0).2]; exact Int.natCast_nonneg _, hm2 hm0⟩⟩
    have HLn4 : Hid (l.length ≤ 1000000) := Lib.hid (by have := HLn.out; omega)
    have A69 := Lib.hid (And.intro a1 (And.intro Ha2.out A34.out))
    have A70 := Lib.hid (And.intro a5 Ha6.out)
    have A71 := Lib.hid (And.intro a7 (And.intro Ha8.out (And.intro a9 (And.intro Ha10.out A112.out))))
    have A72 := Lib.hid (And.intro a7 (And.intro Ha8.out (And.intro a13 (And.intro Ha14.out a15))))
    clear ho hpl htz HT2 h0 hdp1 hdp2 hb1 ho2 hm1 hm2 HM2 htz2 hlz2 a1 Ha2 A34 a5 Ha6 a7 Ha8 a9 Ha10 A112 a13 Ha14 a15
    go_upto_region 69 with (at_builtin; refine step_app rfl (.tmp 214) (.tmp 215) rfl HO.out rfl 46 46 rfl rfl HLn4.out ?_; intro v1 w1 HO1)
    clear a16 a17
    obtain ⟨a1, ⟨a2, a2b⟩, a3, a4⟩ := A69.out
    go_upto_region 70 with (fail)
    clear a1 a2 a2b a3 a4
    obtain ⟨a5, a6, a6b⟩ := A70.out
    go_upto_region 71 with (fail)
    clear a5 a6 a6b
    obtain ⟨a7, a8, a9, ⟨a10, a10b⟩, a11, a12⟩ := A71.out
    go_upto_region 72 with (fail)
    clear a9 a10 a10b a11 a12
    obtain ⟨-, -, a13, a14, a15⟩ := A72.out
    go_upto_region 73 with (fail)
    clear a7 a8 a13 a14 a15
    go_wp2_with fail
    have HO4 := Lib.hid HO1
    clear HO1 HO
    go_loopg [0, 240] lz (fun gn v0 v240 w' => ∃ k : Nat, v240 = .int .i64 k ∧ Hid (gn + k = lz) ∧ Hid (Out B w0 g nd d v0 (l ++ [46] ++ List.replicate k 48) w'))
    case atStart => exact ⟨0, rfl, Lib.hid rfl, by rw [show l ++ [46] ++ List.replicate 0 48 = l ++ [46] from List.append_nil _]; exact HO4⟩
    case round =>
      obtain ⟨k, rfl, hg2, hO2⟩ := hrel
      by_cases hkz : k < lz
      · have g3 : (k : Int) < lz := by omega
        have g4 : decide ((k : Int) < (lz : Int)) = true := decide_eq_true g3
        have HLk : Hid ((l ++ [46] ++ List.replicate k 48).length ≤ 1000000) := Lib.hid (by rw [List.length_append, List.length_append, List.length_replicate]; have := HLn.out; have := HB.out; simp only [List.length_cons, List.length_nil]; omega)
        have HXX : Hid (gk - 1 < gk ∧ gk - 1 + (k + 1) = lz) := Lib.hid ⟨by have := hg2.out; omega, by have := hg2.out; omega⟩
        have x1 : wrap64 ((k : Int) + 1) = (k : Int) + 1 := by have := HB.out; unfold wrap64; omega
        clear hg2 hkz
        go_wp2_with (at_builtin; refine step_app rfl (.tmp 242) (.tmp 243) rfl hO2.out rfl 48 48 rfl rfl HLk.out ?_; intro v1 w1 HO1)
        go_roundg (gk - 1)
        case measure => exact HXX.out.1
        case rel => exact ⟨k + 1, by first | rfl | go_num, Lib.hid HXX.out.2, by rw [List.replicate_succ', ← List.append_assoc]; exact HO1⟩
      · have hk : k = lz := by have := hg2.out; omega
        subst hk
        have g3 : ¬ (k : Int) < k := by omega
        have g4 : decide ((k : Int) < (k : Int)) = false := decide_eq_false g3
        clear hg2 hkz
        go_wp2_with fail
        clear g3 g4
        go_loopg [0, 30, 247] m (fun gn v0 v30 v247 w' => ∃ i : Nat, v247 = .int .i64 i ∧ Hid (gn + i = m) ∧ Hid (Out B w0 g nd d v0 (l ++ [46] ++ List.replicate k 48 ++ seg (fun i => d (o + i)) i) w'))
        case atStart => exact ⟨0, rfl, Lib.hid rfl, by rw [show l ++ [46] ++ List.replicate k 48 ++ seg (fun i => d (o + i)) 0 = l ++ [46] ++ List.replicate k 48 from List.append_nil _]; exact hO2⟩
        case round =>
          obtain ⟨i, rfl, hg3, hO3⟩ := hrel
          by_cases him : i < m
          · have g1 : (i : Int) < m := by omega
            have g2 : decide ((i : Int) < (m : Int)) = true := decide_eq_true g1
            obtain ⟨b1, b2, b3⟩ := HB.out.2.2.2 (by omega)
            obtain ⟨hsv, hc1, hc2⟩ := HS.out (by omega)
            subst hsv
            obtain ⟨j, hj⟩ : ∃ j, j = o + i := ⟨_, rfl⟩
            have cb := hO3.out.cell j (by omega)
            have hlt := HD.out j (by omega)
            have x1 : off + (i : Int) = (j : Int) := by omega
            have x2 : wrap64 (j : Int) = (j : Int) := by unfold wrap64; omega
            have x3 : (j : Int) < c := by omega
            have x4 : wrap64 ((i : Int) + 1) = (i : Int) + 1 := by have := HB.out; unfold wrap64; omega
            obtain ⟨x, hx⟩ : ∃ x, x = d j := ⟨_, rfl⟩
            rw [← hx] at cb hlt
            have HX : Hid (((UInt8.ofNat x).toNat : Int) = (x : Int)) := Lib.hid (by rw [UInt8.toNat_ofNat']; omega)
            have HLk : Hid ((l ++ [46] ++ List.replicate k 48 ++ seg (fun i => d (o + i)) i).length ≤ 1000000) := Lib.hid (by rw [List.length_append, List.length_append, List.length_append, List.length_replicate, seg_length]; have := HLn.out; have := HB.out; simp only [List.length_cons, List.length_nil]; omega)
            have HXX : Hid (x = d (o + i) ∧ gk - 1 < gk ∧ gk - 1 + (i + 1) = m) := Lib.hid ⟨by rw [hx, hj], by have := hg3.out; omega, by have := hg3.out; omega⟩
            clear hlt hx hg3 him hj b1 b2 b3 hc1 hc2
            go_wp2_with (at_builtin; refine step_app rfl (.tmp 250) (.tmp 257) rfl hO3.out rfl (UInt8.ofNat x) (x : Int) HX.out rfl HLk.out ?_; intro v1 w1 HO1)
            go_roundg (gk - 1)
            case measure => exact HXX.out.2.1
            case rel => exact ⟨i + 1, by first | rfl | go_num, Lib.hid HXX.out.2.2, by rw [seg, ← HXX.out.1, ← List.append_assoc]; exact HO1⟩
          · have hi : i = m := by have := hg3.out; omega
            subst hi
            have g1 : ¬ (i : Int) < i := by omega
            have g2 : decide ((i : Int) < (i : Int)) = false := decide_eq_false g1
            clear hg3 him
            go_wp2_with fail
            clear g1 g2
            go_loopg [0, 261] tz (fun gn v0 v261 w' => ∃ t : Nat, v261 = .int .i64 t ∧ Hid (gn + t = tz) ∧ Hid (Out B w0 g nd d v0 (l ++ [46] ++ List.replicate k 48 ++ seg (fun i => d (o + i)) i ++ List.replicate t 48) w'))
            case atStart => exact ⟨0, rfl, Lib.hid rfl, by rw [show l ++ [46] ++ List.replicate k 48 ++ seg (fun i => d (o + i)) i ++ List.replicate 0 48 = l ++ [46] ++ List.replicate k 48 ++ seg (fun i => d (o + i)) i from List.append_nil _]; exact hO3⟩
            case round =>
              obtain ⟨t, rfl, hg4, hO4⟩ := hrel
              by_cases htz : t < tz
              · have g3 : (t : Int) < tz := by omega
                have g4 : decide ((t : Int) < (tz : Int)) = true := decide_eq_true g3
                have HLk : Hid ((l ++ [46] ++ List.replicate k 48 ++ seg (fun i => d (o + i)) i ++ List.replicate t 48).length ≤ 1000000) := Lib.hid (by rw [List.length_append, List.length_append, List.length_append, List.length_append, List.length_replicate, List.length_replicate, seg_length]; have := HLn.out; have := HB.out; simp only [List.length_cons, List.length_nil]; omega)
                have HXX : Hid (gk - 1 < gk ∧ gk - 1 + (t + 1) = tz) := Lib.hid ⟨by have := hg4.out; omega, by have := hg4.out; omega⟩
                have x1 : wrap64 ((t : Int) + 1) = (t : Int) + 1 := by have := HB.out; unfold wrap64; omega
                clear hg4 htz
                go_wp2_with (at_builtin; refine step_app rfl (.tmp 263) (.tmp 264) rfl hO4.out rfl 48 48 rfl rfl HLk.out ?_; intro v1 w1 HO1)
                go_roundg (gk - 1)
                case measure => exact HXX.out.1
                case rel => exact ⟨t + 1, by first | rfl | go_num, Lib.hid HXX.out.2, by rw [List.replicate_succ', ← List.append_assoc]; exact HO1⟩
              · have ht : t = tz := by have := hg4.out; omega
                subst ht
                have g3 : ¬ (t : Int) < t := by omega
                have g4 : decide ((t : Int) < (t : Int)) = false := decide_eq_false g3
                clear hg4 htz
                have hfin := hO4.out
                have hTe : T = l ++ [46] ++ List.replicate k 48 ++ seg (fun i => d (o + i)) i ++ List.replicate t 48 := by rw [HTT.out]; simp
                rw [← hTe] at hfin
                have HF := Lib.hid hfin
                clear hfin hTe
                go_wp2_with fail
                go_ret
                exact ⟨_, rfl, HF.out⟩
  · rw [if_neg h0, List.append_nil] at HT2
    have g1 : ¬ (0 : Int) < p := by omega
    have g2 : decide ((0 : Int) < (p : Int)) = false := decide_eq_false g1
    have HTT := Lib.hid HT2
    clear HT2 h0
    go_wp2_with fail
    go_ret
    exact ⟨_, rfl, by rw [HTT.out]; exact HO.out⟩
end Go.Proofs.YtjpiplplohapnaaGreatDoor
