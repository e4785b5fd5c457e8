/- TextPrints: text.Print answers what the document answers, of every float and every number of places. Conditions: those of the given card alone. -/
import Derived.Test.YtjpiplplohapnaaGreatDoorPr15
import Derived.Deep.RegionWith
import Derived.Test.YtjpiplplohapnaaGreatDoorCards
import Derived.SizedLaws
import Derived.Lay
import Derived.SevenTiedAt
set_option linter.unusedVariables false
set_option linter.unusedSimpArgs false
namespace Go.Proofs.YtjpiplplohapnaaGreatDoor
open Go.RowKit Go.Proofs.YtjpiplplohapnaaGreatDoorW.PrintWords Dc
namespace Dc
def bcells (b : Nat → Nat) : Array Value := Array.ofFn (n := 24) fun i => .int .u8 (b i.val : Nat)
def IsBuf (w : World) (h : Nat) (b : Nat → Nat) : Prop := w.heap[h]? = some (.cells (bcells b) 126 (0, 0))
theorem bcells_get (b : Nat → Nat) (i : Nat) (h : i < 24) : (bcells b)[i]? = some (.int .u8 (b i : Nat)) := by
  unfold bcells
  rw [Array.getElem?_ofFn, dif_pos h]
theorem bcells_size (b : Nat → Nat) : (bcells b).size = 24 := Array.size_ofFn
theorem bcells_set (b : Nat → Nat) (i v : Nat) (hi : i < 24) : (bcells b).setIfInBounds i (.int .u8 (v : Nat)) = bcells (upd b i v) := by
  apply Array.ext_getElem?
  intro j
  by_cases hj : j < 24
  · rw [bcells_get _ j hj, Array.getElem?_setIfInBounds, bcells_get _ j hj, bcells_size]
    unfold upd
    by_cases e : i = j
    · rw [if_pos e, if_pos hi, if_pos e.symm]
    · rw [if_neg e, if_neg (c := j = i) (fun h => e h.symm)]
  · rw [Array.getElem?_eq_none (by rw [Array.size_setIfInBounds, bcells_size]; omega), Array.getElem?_eq_none (by rw [bcells_size]; omega)]
theorem IsBuf.byte {w : World} {h : Nat} {b : Nat → Nat} (hb : IsBuf w h b) (i : Nat) (hi : i < 24) : w.cell? ⟨h, i, none⟩ = some (.int .u8 (b i : Nat)) := (blk_cell hb i).trans (bcells_get b i hi)
theorem IsBuf.setByte {w : World} {h : Nat} {b : Nat → Nat} (hb : IsBuf w h b) (i v : Nat) (hi : i < 24) : IsBuf (w.setCell ⟨h, i, none⟩ (.int .u8 (v : Nat))) h (upd b i v) := blk_put hb i _ (bcells_set b i v hi)
theorem IsBuf.far {w : World} {h g : Nat} {b : Nat → Nat} (hb : IsBuf w h b) (hne : h ≠ g) (i : Nat) (u : Value) : IsBuf (w.setCell ⟨g, i, none⟩ u) h b := (Below.heap_setCell w ⟨g, i, none⟩ u h hne).trans hb
theorem IsDec.far {w : World} {g h : Nat} {d : Nat → Nat} {nd dp : Int} {ng tr : Bool} (hd : IsDec w g d nd dp ng tr) (hne : g ≠ h) (i : Nat) (u : Value) : IsDec (w.setCell ⟨h, i, none⟩ u) g d nd dp ng tr := (Below.heap_setCell w ⟨h, i, none⟩ u g hne).trans hd
theorem IsBuf.frozen {w : World} {h : Nat} {b : Nat → Nat} (hb : IsBuf w h b) (i : Nat) : w.frozen? ⟨h, i, none⟩ = false := blk_frozen hb i
theorem bzero : bcells (fun _ => 0) = #[.int .u8 0, .int .u8 0, .int .u8 0, .int .u8 0, .int .u8 0, .int .u8 0, .int .u8 0, .int .u8 0, .int .u8 0, .int .u8 0, .int .u8 0, .int .u8 0, .int .u8 0, .int .u8 0, .int .u8 0, .int .u8 0, .int .u8 0, .int .u8 0, .int .u8 0, .int .u8 0, .int .u8 0, .int .u8 0, .int .u8 0, .int .u8 0] := by rfl
end Dc
set_option maxRecDepth 100000 in
set_option maxHeartbeats 1500000 in
theorem assign_walk (w : World) (g B : Nat) (hB : B ≤ g) (d : Nat → Nat) (nd dp : Int) (ng tr : Bool) (v L : Nat) (hv1 : 10 ^ (L - 1) ≤ v) (hv2 : v < 10 ^ L) (hL0 : 1 ≤ L) (hL : L ≤ 20) (hv : v < 18446744073709551616) (h : IsDec w g d nd dp ng tr) :
    Calls Tryz.prog 128 #[.pointer (some ⟨g, 0, none⟩), .int .u64 v] w fun e w' => e = .returned (.tuple #[]) ∧ Below B w w' ∧ ∃ d', (∀ i, i < L → d' i = 48 + v / 10 ^ (L - 1 - i) % 10) ∧ IsDec w' g d' (tl d' L : Nat) (dpz (tl d' L) L) ng tr := by
  have hlt : g < w.heap.size := IsDec.lt h
  have HV := Lib.hid (And.intro hv1 hv2)
  have hd0 : IsDec (w.alloc (.cells (bcells fun _ => 0) 126)) g d nd dp ng tr := blk_below h (below_alloc (Below.refl _ _) _)
  have hbuf0 : IsBuf (w.alloc (.cells (bcells fun _ => 0) 126)) w.heap.size (fun _ => 0) := blk_new _ _
  have hb0 : Below B w (w.alloc (.cells (bcells fun _ => 0) 126)) := (below_alloc (Below.refl _ _) _).mono (by omega)
  rw [bzero] at hd0 hbuf0 hb0
  have HW := Lib.hid (And.intro hd0 (And.intro hbuf0 hb0))
  have hne : w.heap.size ≠ g := by omega
  clear hd0 hbuf0 hb0 hv1 hv2 h
  go_enter Tryz.func128, Tryz.ntmps128
  go_upto_block 0 with (fail)
  go_cut [5] (fun v5 w' => v5 = .int .i64 L ∧ ∃ b : Nat → Nat, Hid (∀ i, i < L → b i = 48 + v / 10 ^ i % 10) ∧ IsDec w' g d nd dp ng tr ∧ IsBuf w' w.heap.size b ∧ Below B w w')
  case first =>
    go_wp2_with fail
    go_loopg [1, 5] L (fun gn v1 v5 w' => ∃ (x j : Nat) (b : Nat → Nat), v1 = .int .u64 x ∧ v5 = .int .i64 j ∧ Hid (gn + j = L ∧ x = v / 10 ^ j ∧ (∀ i, i < j → b i = 48 + v / 10 ^ i % 10)) ∧ IsDec w' g d nd dp ng tr ∧ IsBuf w' w.heap.size b ∧ Below B w w')
    case atStart => exact ⟨v, 0, fun _ => 0, rfl, rfl, Lib.hid ⟨by omega, by simp, fun i hi => absurd hi (by omega)⟩, HW.out.1, HW.out.2.1, HW.out.2.2⟩
    case round =>
      obtain ⟨x, j, b, rfl, rfl, hH, hd, hbf, hb⟩ := hrel
      obtain ⟨hg, hx, hq⟩ := hH.out
      by_cases hz : x = 0
      · subst hz
        have hj : j = L := by
          rcases Nat.lt_or_ge j L with h1 | h1
          · exfalso
            have h2 : 10 ^ j ≤ 10 ^ (L - 1) := Nat.pow_le_pow_right (by decide) (by omega)
            have h3 : 0 < v / 10 ^ j := Nat.div_pos (Nat.le_trans h2 HV.out.1) (Nat.pow_pos (by decide))
            omega
          · omega
        subst hj
        have HR := Lib.hid hq
        clear hH hg hx hq
        go_wp2_with fail
        go_meet
        case rel => exact ⟨rfl, b, HR, hd, hbf, hb⟩
      · have hj : j < L := by
          rcases Nat.lt_or_ge j L with h1 | h1
          · exact h1
          · exfalso
            have h2 : 10 ^ L ≤ 10 ^ j := Nat.pow_le_pow_right (by decide) h1
            have h3 : v / 10 ^ j = 0 := Nat.div_eq_of_lt (Nat.lt_of_lt_of_le HV.out.2 h2)
            omega
        have hxv : x ≤ v := by rw [hx]; exact Nat.div_le_self _ _
        obtain ⟨q, hqq⟩ : ∃ q, q = x / 10 := ⟨_, rfl⟩
        obtain ⟨m, hm⟩ : ∃ m, m = x % 10 := ⟨_, rfl⟩
        have hqn : q = v / 10 ^ (j + 1) := by rw [hqq, hx, Nat.div_div_eq_div_mul, ← Nat.pow_succ]
        have cv := hbf.byte j (by omega)
        have fb := hbf.frozen j
        generalize b j = bv at cv
        have x4 : (x : Int) / 10 = (q : Int) := by omega
        have x4b : Int.tdiv (x : Int) 10 = (q : Int) := by rw [Int.tdiv_eq_ediv_of_nonneg (by omega)]; omega
        have xq : IntKind.u64.wrap (q : Int) = (q : Int) := by rw [Go.IntKind.wrap_u64]; omega
        have x5 : IntKind.u64.wrap (10 * (q : Int)) = 10 * (q : Int) := by rw [Go.IntKind.wrap_u64]; omega
        have x6 : IntKind.u64.wrap ((x : Int) - 10 * (q : Int)) = (m : Int) := by rw [Go.IntKind.wrap_u64]; omega
        have x6b : (x : Int) - 10 * (q : Int) = (m : Int) := by omega
        have xm : IntKind.u64.wrap (m : Int) = (m : Int) := by rw [Go.IntKind.wrap_u64]; omega
        have x8 : IntKind.u64.wrap ((m : Int) + 48) = (m : Int) + 48 := by rw [Go.IntKind.wrap_u64]; omega
        have x9 : IntKind.u8.wrap ((m : Int) + 48) = ((48 + m : Nat) : Int) := by rw [Go.IntKind.wrap_u8]; omega
        have x9b : ((m : Int) + 48) % 256 = ((48 + m : Nat) : Int) := by omega
        have g0 : (0 : Int) < x := by omega
        have jI : (j : Int) < 24 := by omega
        have HR : Hid (gk - 1 < gk ∧ gk - 1 + (j + 1) = L ∧ q = v / 10 ^ (j + 1) ∧ (∀ i, i < j + 1 → upd b j (48 + m) i = 48 + v / 10 ^ i % 10)) := Lib.hid ⟨by omega, by omega, hqn, fun i hi => by
          unfold upd
          by_cases e : i = j
          · rw [if_pos e, e, hm, hx]
          · rw [if_neg e]; exact hq i (by omega)⟩
        have HD2 := Lib.hid (hd.far (h := w.heap.size) (by omega) j (.int .u8 ((48 + m : Nat) : Int)))
        have HB2 := Lib.hid (hbf.setByte j (48 + m) (by omega))
        have HB3 := Lib.hid (hb.setCell (p := ⟨w.heap.size, j, none⟩) (by show B ≤ w.heap.size; omega) (.int .u8 ((48 + m : Nat) : Int)))
        clear hH hg hx hq hz hj hxv hqq hm hqn hd hbf hb
        go_wp2_with fail
        go_roundg (gk - 1)
        case measure => exact HR.out.1
        case rel => exact ⟨q, j + 1, upd b j (48 + m), rfl, by go_num, Lib.hid HR.out.2, HD2.out, HB2.out, HB3.out⟩
  case rest =>
    obtain ⟨rfl, b, hH, hd, hbf, hb⟩ := hcut
    have cnd := hd.cnd
    have fnd := hd.frozen 800
    have xl : wrap64 ((L : Int) - 1) = (L : Int) - 1 := by unfold wrap64; omega
    have HI := Lib.hid (And.intro (hd.setNd 0) (And.intro (hbf.far (g := g) hne 800 (.int .i64 0)) (hb.setCell (p := ⟨g, 800, none⟩) hB (.int .i64 0))))
    clear hd hbf hb
    go_step
    go_wp2_with fail
    clear cnd fnd xl
    go_loopg [5] L (fun gn v5 w' => ∃ (t : Nat) (m : Int) (d' : Nat → Nat), v5 = .int .i64 m ∧ Hid (gn + t = L ∧ m = (L : Int) - 1 - t ∧ (∀ i, i < t → d' i = 48 + v / 10 ^ (L - 1 - i) % 10)) ∧ IsDec w' g d' (t : Nat) dp ng tr ∧ IsBuf w' w.heap.size b ∧ Below B w w')
    case atStart => exact ⟨0, (L : Int) - 1, d, rfl, Lib.hid ⟨by omega, by omega, fun i hi => absurd hi (by omega)⟩, HI.out.1, HI.out.2.1, HI.out.2.2⟩
    case round =>
      obtain ⟨t, m, d', rfl, hR, hd, hbf, hb⟩ := hrel
      obtain ⟨h1, h2, h3⟩ := hR.out
      have cnd := hd.cnd
      have fnd := hd.frozen 800
      by_cases ht : t < L
      · obtain ⟨j, hj⟩ : ∃ j : Nat, j = L - 1 - t := ⟨_, rfl⟩
        have hm : m = (j : Int) := by omega
        subst hm
        have k1 : (0 : Int) ≤ j := by omega
        have k2 : (j : Int) < 24 := by omega
        have k3 : (t : Int) < 800 := by omega
        have cbuf := hbf.byte j (by omega)
        have cd := hd.byte t (by omega)
        have fd := hd.frozen t
        generalize d' t = dv at cd
        have HRa : Hid (gk - 1 < gk ∧ gk - 1 + (t + 1) = L ∧ (j : Int) - 1 = (L : Int) - 1 - ((t + 1 : Nat) : Int)) := Lib.hid ⟨by omega, by omega, by omega⟩
        have xt : wrap64 ((t : Int) + 1) = (t : Int) + 1 := by unfold wrap64; omega
        have hbj : b j = 48 + v / 10 ^ (L - 1 - t) % 10 := by rw [← hj]; exact hH.out j (by omega)
        obtain ⟨c, hc⟩ : ∃ c, c = b j := ⟨_, rfl⟩
        rw [← hc] at cbuf hbj
        have HRb : Hid (∀ i, i < t + 1 → upd d' t c i = 48 + v / 10 ^ (L - 1 - i) % 10) := Lib.hid fun i hi => by
          unfold upd
          by_cases e : i = t
          · rw [if_pos e, e]; exact hbj
          · rw [if_neg e]; exact h3 i (Nat.lt_of_le_of_ne (Nat.le_of_lt_succ hi) e)
        have HD := Lib.hid (And.intro (hd.setByte t c (by omega)) (And.intro (hbf.far (g := g) hne t (.int .u8 (c : Nat))) (hb.setCell (p := ⟨g, t, none⟩) hB (.int .u8 (c : Nat)))))
        clear hR h1 h2 h3 ht hj hd hbf hb hbj hc fnd
        go_wp2_with fail
        go_region_with fail
        all_goals
          have HE : Hid (IsDec ((wr.setCell ⟨g, t, none⟩ (.int .u8 (c : Nat))).drew) g (upd d' t c) (t : Nat) dp ng tr ∧ IsBuf ((wr.setCell ⟨g, t, none⟩ (.int .u8 (c : Nat))).drew) w.heap.size b ∧ Below B w ((wr.setCell ⟨g, t, none⟩ (.int .u8 (c : Nat))).drew)) := Lib.hid ⟨HD.out.1, HD.out.2.1, below_drewN HD.out.2.2 1⟩
          clear HD cnd cd fd cbuf
          generalize (wr.setCell ⟨g, t, none⟩ (.int .u8 (c : Nat))).drew = w5 at *
          have cnd : w5.cell? ⟨g, 800, none⟩ = some (.int .i64 (t : Nat)) := HE.out.1.cnd
          have fnd := HE.out.1.frozen 800
          have HG := Lib.hid (And.intro (HE.out.1.setNd ((t : Int) + 1)) (And.intro (HE.out.2.1.far (g := g) hne 800 (.int .i64 ((t : Int) + 1))) (HE.out.2.2.setCell (p := ⟨g, 800, none⟩) hB (.int .i64 ((t : Int) + 1)))))
          clear HE
          go_wp2_with fail
          go_roundg (gk - 1)
          case measure => exact HRa.out.1
          case rel => exact ⟨t + 1, (j : Int) - 1, upd d' t c, by first | rfl | go_num, Lib.hid ⟨HRa.out.2.1, HRa.out.2.2, HRb.out⟩, HG.out.1, HG.out.2.1, HG.out.2.2⟩
      · have hte : t = L := by omega
        subst hte
        have k1 : ¬ (0 : Int) ≤ m := by omega
        have k2 : decide ((0 : Int) ≤ m) = false := decide_eq_false k1
        have cdp := hd.cdp
        have fdp := hd.frozen 801
        have HT := Lib.hid (fun w1 h1 => trim_walk w1 g B hB d' t (t : Int) ng tr (by omega) h1)
        have HD := Lib.hid (hd.setDp (t : Int))
        have HB4 := Lib.hid (hb.setCell (p := ⟨g, 801, none⟩) hB (.int .i64 (t : Nat)))
        have HQ := Lib.hid h3
        clear hR h1 h2 h3 ht hd hbf hb
        go_wp2_with fail
        refine (HT.out _ HD.out).mono ?_
        rintro e w2 ⟨rfl, hb2, hd2⟩
        have HF := Lib.hid hd2
        clear hd2 HT
        have hb3 := HB4.out.trans hb2
        go_wp2_with fail
        go_end0
        exact ⟨rfl, hb3, d', HQ.out, HF.out⟩
end Go.Proofs.YtjpiplplohapnaaGreatDoor
namespace Go.Proofs.YtjpiplplohapnaaGreatDoor
open Go.RowKit Go.Proofs.YtjpiplplohapnaaGreatDoorW.PrintWords Dc Us
theorem zero162 : Tryz.zeroCells162 = dcells (fun _ => 0) 0 0 false false := by kernel_rfl
theorem digits_of : ∀ (K m : Nat), 1 ≤ m → m < 10 ^ K → ∃ L, 1 ≤ L ∧ L ≤ K ∧ 10 ^ (L - 1) ≤ m ∧ m < 10 ^ L
  | 0, m, h1, h2 => by simp at h2; omega
  | K + 1, m, h1, h2 => by
    rcases Nat.lt_or_ge m (10 ^ K) with h | h
    · obtain ⟨L, a, b, c, d⟩ := digits_of K m h1 h
      exact ⟨L, a, by omega, c, d⟩
    · exact ⟨K + 1, by omega, Nat.le_refl _, h, h2⟩
theorem nd_low (u : Nat) (h : 1 ≤ u) : 10 ^ (Lib.nDigits u - 1) ≤ u := by
  induction u using Nat.strongRecOn with
  | ind u ih =>
    by_cases h10 : u < 10
    · rw [Lib.nDigits_small h10]; exact h
    · rw [Lib.nDigits_big h10]
      have := ih (u / 10) (by omega) (by omega)
      have hp := Lib.nDigits_pos (u / 10)
      rw [show Lib.nDigits (u / 10) + 1 - 1 = Lib.nDigits (u / 10) - 1 + 1 by omega, Nat.pow_succ]
      omega
theorem assign_calls (W : World) (g m : Nat) (hm1 : 1 ≤ m) (hm2 : m < 9007199254740992) (h : IsDec W g (fun _ => 0) 0 0 false false) :
    Calls Tryz.prog 128 #[.pointer (some ⟨g, 0, none⟩), .int .u64 (m : Int)] W fun e w' => e = .returned (.tuple #[]) ∧ Below g W w' ∧ ∃ s : St, Norm s ∧ s.tr = false ∧ IsV s m 0 ∧ s.is w' g false ∧ 1 ≤ s.dp ∧ s.dp ≤ 17 := by
  obtain ⟨L, a, b, c, d⟩ := digits_of 17 m hm1 (Nat.lt_of_lt_of_le hm2 (by decide))
  refine (assign_walk W g g (Nat.le_refl _) (fun _ => 0) 0 0 false false m L c d a (by omega) (by omega) h).mono ?_
  rintro e w' ⟨h1, h2, d', h3, h4⟩
  obtain ⟨n1, n2, n3⟩ := assign_val (tr := false) h3 c d a (by omega)
  refine ⟨h1, h2, ⟨d', tl d' L, L, false⟩, n1, rfl, n2, ?_, by show (1 : Int) ≤ L; omega, by show (L : Int) ≤ 17; omega⟩
  have hz : dpz (tl d' L) (L : Int) = (L : Int) := by unfold dpz; rw [if_neg n3]
  rw [hz] at h4
  exact h4
set_option maxRecDepth 100000 in
set_option maxHeartbeats 1000000 in
theorem shift_zero (w : World) (g : Nat) (s : St) (hs : Norm s) (ng : Bool) (h : s.is w g ng) :
    Calls Tryz.prog 129 #[.pointer (some ⟨g, 0, none⟩), .int .i64 0] w fun e w' => e = .returned (.tuple #[]) ∧ w' = w := by
  have cnd : w.cell? ⟨g, 800, none⟩ = some (.int .i64 (s.nd : Nat)) := IsDec.cnd h
  have f0 : (((s.nd : Nat) : Int) == 0) = false := by have := hs.pos; simp; omega
  clear h hs
  go_enter Tryz.func129, Tryz.ntmps129
  go_wp2_with fail
  go_end0
  exact ⟨rfl, rfl⟩
def ShV (n r g : Nat) (W : World) (e : Ending) (w' : World) : Prop := e = .returned (.tuple #[]) ∧ Below g W w' ∧ ∃ t : St, Norm t ∧ t.tr = false ∧ IsV t n r ∧ t.is w' g false ∧ -95000 ≤ t.dp ∧ t.dp ≤ 95000
theorem shift_calls (W : World) (hCW : Cheats W) (g : Nat) (hg : ∀ w', Below g W w' → Cheats w') (s : St) (hs : Norm s) (htr : s.tr = false) (m : Nat) (hm2 : m < 9007199254740992) (hv : IsV s m 0) (hdp1 : 1 ≤ s.dp) (hdp2 : s.dp ≤ 17) (x : Int) (hx1 : -1022 ≤ x) (hx2 : x ≤ 1023) (h : s.is W g false) :
    Calls Tryz.prog 129 #[.pointer (some ⟨g, 0, none⟩), .int .i64 (x - 52)] W (ShV (wN m x) (wR x) g W) := by
  unfold ShV wN wR
  rcases Int.lt_trichotomy (x - 52) 0 with h0 | h0 | h0
  · obtain ⟨k, hk⟩ : ∃ k : Nat, x - 52 = -(k : Int) := ⟨(52 - x).toNat, by omega⟩
    rw [show (x - 52).toNat = 0 by omega, show (52 - x).toNat = k by omega, hk, Nat.pow_zero, Nat.mul_one]
    refine (shift_right W g g (Nat.le_refl _) s hs false k (by omega) (by omega) (by omega) (by omega) h).mono ?_
    rintro e w' ⟨h1, h2, t, ht1, ht2, ht3, ht4, ht5⟩
    obtain ⟨v1, v2⟩ := rights_val ht1 hs htr m 0 hv (by omega) (by omega)
    rw [Nat.zero_add] at v1
    exact ⟨h1, h2, t, ht2, v2, v1, ht3, ht4, ht5⟩
  · rw [show (x - 52).toNat = 0 by omega, show (52 - x).toNat = 0 by omega, h0, Nat.pow_zero, Nat.mul_one]
    refine (shift_zero W g s hs false h).mono ?_
    rintro e w' ⟨h1, h2⟩
    subst h2
    exact ⟨h1, Below.refl _ _, s, hs, htr, hv, h, by omega, by omega⟩
  · obtain ⟨k, hk⟩ : ∃ k : Nat, x - 52 = (k : Int) := ⟨(x - 52).toNat, by omega⟩
    rw [show (x - 52).toNat = k by omega, show (52 - x).toNat = 0 by omega, hk]
    refine (shift_left W g g (Nat.le_refl _) hg s hs false k (by omega) (by omega) (by omega) (by omega) h).mono ?_
    rintro e w' ⟨h1, h2, t, ht1, ht2, ht3, ht4, ht5⟩
    obtain ⟨K, hK⟩ : ∃ K, K = 342 := ⟨_, rfl⟩
    have hb : m * 2 ^ k < 10 ^ K := by
      have h3 : m * 2 ^ k < 2 ^ 53 * 2 ^ k := Nat.mul_lt_mul_of_pos_right (by have : (2 : Nat) ^ 53 = 9007199254740992 := by decide
                                                                              omega) (Nat.pow_pos (by decide))
      have h4 : 2 ^ 53 * 2 ^ k ≤ 2 ^ (3 * K) := by rw [← Nat.pow_add]; exact Nat.pow_le_pow_right (by decide) (by omega)
      have h5 : 2 ^ (3 * K) ≤ 10 ^ K := by rw [Nat.pow_mul]; exact Nat.pow_le_pow_left (by decide) K
      exact Nat.lt_of_lt_of_le h3 (Nat.le_trans h4 h5)
    obtain ⟨v1, v2⟩ := lefts_val ht1 hs htr m K hv hb (by omega)
    exact ⟨h1, h2, t, ht2, v2, v1, ht3, ht4, ht5⟩
theorem rd_range {s : St} (hs : Norm s) (p : Nat) (h1 : -95000 ≤ s.dp) (h2 : s.dp ≤ 95000) : (rdSt s p).nd ≤ 800 ∧ -100000 ≤ (rdSt s p).dp ∧ (rdSt s p).dp ≤ 100000 := by
  have hle := hs.le
  unfold rdSt
  by_cases h : 0 ≤ s.dp + p ∧ (s.dp + p).toNat < s.nd
  · rw [if_pos h]
    generalize (s.dp + p).toNat = k at *
    unfold rnSt
    cases upB s k
    · rw [if_neg (by decide)]
      have := tl_le s.d k
      refine ⟨by show tl s.d k ≤ 800; omega, ?_, ?_⟩
      · show -100000 ≤ dpz (tl s.d k) s.dp
        unfold dpz; split <;> omega
      · show dpz (tl s.d k) s.dp ≤ 100000
        unfold dpz; split <;> omega
    · rw [if_pos rfl]
      unfold upSt
      cases hn : noNine s.d k with
      | none => exact ⟨by show 1 ≤ 800; decide, by show -100000 ≤ s.dp + 1; omega, by show s.dp + 1 ≤ 100000; omega⟩
      | some i =>
        have := (noNine_some k hn).1
        exact ⟨by show i + 1 ≤ 800; omega, by show -100000 ≤ s.dp; omega, by show s.dp ≤ 100000; omega⟩
  · rw [if_neg h]; exact ⟨hle, by omega, by omega⟩
theorem roundp_calls (W : World) (g : Nat) (s : St) (hs : Norm s) (p : Nat) (h1 : -95000 ≤ s.dp) (h2 : s.dp ≤ 95000) (h : s.is W g false) :
    Calls Tryz.prog 130 #[.pointer (some ⟨g, 0, none⟩), .int .i64 (s.dp + (p : Int))] W fun e w' => e = .returned (.tuple #[]) ∧ Below g W w' ∧ (rdSt s p).is w' g false := by
  unfold rdSt
  by_cases hc : 0 ≤ s.dp + p ∧ (s.dp + p).toNat < s.nd
  · rw [if_pos hc]
    obtain ⟨k, hk⟩ : ∃ k : Nat, s.dp + p = k := ⟨(s.dp + p).toNat, by omega⟩
    rw [hk, Int.toNat_natCast] at hc ⊢
    exact round_walk W g g (Nat.le_refl _) s hs false k hc.2 (by omega) (by omega) h
  · rw [if_neg hc]
    refine (round_none W g s false (s.dp + p) (by omega) h).mono ?_
    rintro e w' ⟨a, b⟩
    subst b
    exact ⟨a, Below.refl _ _, h⟩
end Go.Proofs.YtjpiplplohapnaaGreatDoor
namespace Go.Proofs.YtjpiplplohapnaaGreatDoor
open Go.RowKit Go.Sort Go.Proofs.YtjpiplplohapnaaGreatDoorW.PrintWords Dc Us Nr
def FtPost (B c m : Nat) (x : Int) (ng : Bool) (w0 : World) (e : Ending) (w' : World) : Prop :=
  ∃ (v' : Value) (Q : Nat), Rhe (wN m x * 10 ^ c) (2 ^ wR x) Q ∧ e = .returned v' ∧ w'.ownsRow B 5 1 v' (fixT ng Q c).length ((fixT ng Q c).map encB) ∧ Below B w0 w'
theorem own_below {w w' : World} {B : Nat} {v : Value} {n : Nat} {xs : List Value} (h : w.ownsRow B 5 1 v n xs) (hb : Below w.heap.size w w') : w'.ownsRow B 5 1 v n xs :=
  h.kept (row := none) ⟨hb.os, hb.tape, hb.output, hb.size, fun k hk _ => hb.block k hk⟩ (by cases hv : v.ownBlock <;> simp)
theorem own_below2 {w w' : World} {B g : Nat} {v : Value} (h : w.ownsRow B 5 1 v 0 []) (hv : ∀ k, v.ownBlock = some k → k < g) (hb : Below g w w') : w'.ownsRow B 5 1 v 0 [] := by
  refine ⟨h.1, ?_⟩
  rcases h.2 with h2 | ⟨g', cap, cur, rfl, h3, h4, h5⟩
  · exact .inl h2
  · exact .inr ⟨g', cap, cur, rfl, h3, (hb.block g' (hv g' rfl)).trans h4, h5⟩
set_option maxRecDepth 100000 in
theorem and2047i : ∀ k : Fin 4096, Go.bits .and .i64 (k.val : Int) 2047 = ((k.val % 2048 : Nat) : Int) := by decide +kernel
def ftX (b : Nat) : Int := (if sz b = 0 then -1074 else spE (sz b)) + 52
def ftM (b : Nat) : Nat := if sz b = 0 then 0 else spM (sz b)
structure FtF (b N E4 E M : Nat) : Prop where
  s1 : (b : Int) / 9223372036854775808 = (N : Int)
  s2 : (b : Int) / 4503599627370496 = (E4 : Int)
  a0 : wrap64 (E4 : Int) = (E4 : Int)
  a1 : Go.bits .and .i64 (E4 : Int) 2047 = (E : Int)
  a2 : Go.bits .and .u64 (b : Int) 4503599627370495 = (M : Int)
  a3 : Go.bits .or .u64 (M : Int) 4503599627370496 = ((M + 4503599627370496 : Nat) : Int)
  n1 : ((N : Int) != 0) = neg b
  e1 : ((E : Int) == 2047) = false
  hx : ftX b = (if E = 0 then 1 else (E : Int)) - 1023
  hm : ftM b = if E = 0 then M else M + 4503599627370496
  hE : E < 2047
  hM : M < 4503599627370496
theorem ft_x {b E M : Nat} (hE : E = b % 9223372036854775808 / 4503599627370496) (hM : M = b % 9223372036854775808 % 4503599627370496) : ftX b = (if E = 0 then 1 else (E : Int)) - 1023 ∧ ftM b = if E = 0 then M else M + 4503599627370496 := by
  unfold ftX ftM spE spM sz
  generalize b % 9223372036854775808 = u at *
  by_cases h0 : u = 0
  · have hE0 : E = 0 := by omega
    rw [if_pos h0, if_pos h0, if_pos hE0, if_pos hE0]
    exact ⟨rfl, by omega⟩
  · rw [if_neg h0, if_neg h0, if_neg h0]
    by_cases h1 : u < 4503599627370496
    · have hE0 : E = 0 := by omega
      rw [if_pos h1, if_pos h1, if_pos hE0, if_pos hE0]
      exact ⟨rfl, by omega⟩
    · have hE0 : ¬ E = 0 := by omega
      rw [if_neg h1, if_neg h1, if_neg hE0, if_neg hE0]
      exact ⟨by omega, by omega⟩
theorem ft_facts (b : Nat) (hb : b < 18446744073709551616) (hsz : sz b < 9218868437227405312) : ∃ N E4 E M, FtF b N E4 E M := by
  have hE : sz b / 4503599627370496 = b % 9223372036854775808 / 4503599627370496 := rfl
  have hM : sz b % 4503599627370496 = b % 9223372036854775808 % 4503599627370496 := rfl
  obtain ⟨h1, h2⟩ := ft_x hE hM
  have h3 : sz b / 4503599627370496 = b / 4503599627370496 % 2048 := by rw [hE]; clear h1 h2 hE hM hsz; omega
  have h4 : sz b % 4503599627370496 = b % 4503599627370496 := by rw [hM]; clear h1 h2 h3 hE hM hsz; omega
  have h5 : b / 4503599627370496 < 4096 := by clear h1 h2 h3 h4 hE hM hsz; omega
  have h6 : sz b / 4503599627370496 < 2047 := by clear h1 h2 h3 h4 h5 hE hM; omega
  refine ⟨b / 9223372036854775808, b / 4503599627370496, sz b / 4503599627370496, sz b % 4503599627370496, ⟨by omega, by omega, by unfold wrap64; omega, ?_, ?_, (norm_facts (sz b) hsz).2, ?_, ?_, h1, h2, h6, Nat.mod_lt _ (by decide)⟩⟩
  · rw [h3]; exact and2047i ⟨_, h5⟩
  · rw [h4, show ((4503599627370495 : Int)) = ((4503599627370495 : Nat) : Int) from rfl, Go.u64_and_nat b 4503599627370495 hb (by decide)]
    exact congrArg Nat.cast (Nat.and_two_pow_sub_one_eq_mod b 52)
  · unfold neg
    by_cases h : 9223372036854775808 ≤ b
    · rw [decide_eq_true h]; exact bne_iff_ne.2 (by omega)
    · rw [decide_eq_false h, show b / 9223372036854775808 = 0 by omega]; rfl
  · simp; omega
set_option maxRecDepth 100000 in
set_option maxHeartbeats 4000000 in
theorem ftoa_walk (w : World) (hL : Laid w) (hC : Cheats w) (B b c : Nat) (v : Value) (hown : w.ownsRow B 5 1 v 0 []) (hB : B ≤ w.heap.size) (hb : b < 18446744073709551616) (hsz : sz b < 9218868437227405312) (hc : c ≤ 30) :
    Calls Tryz.prog 95 #[v, .float .f64 b, .int .u8 102, .int .i64 c] w (FtPost B c (ftM b) (ftX b) (neg b) w) := by
  have hbits := bits119 b
  have ho := hL.optCell
  obtain ⟨N, E4, E, M, hF⟩ := ft_facts b hb hsz
  obtain ⟨s1, s2, a0, a1, a2, a3, n1, e1, hx, hm, hEb, hMb⟩ := hF
  have s3 : ∀ W, (Op.shift BinOp.shl .i64 1 .i64 11).run Tryz.prog W = .ok (.int .i64 2048) W := fun W => by kernel_rfl
  have s4 : ∀ W, (Op.shift BinOp.shl .u64 1 .i64 52).run Tryz.prog W = .ok (.int .u64 4503599627370496) W := fun W => by kernel_rfl
  generalize ftX b = x at *
  generalize ftM b = m at *
  have HX : Hid (x = (if E = 0 then 1 else (E : Int)) - 1023 ∧ m = if E = 0 then M else M + 4503599627370496) := Lib.hid ⟨hx, hm⟩
  generalize neg b = ng at *
  have HE := Lib.hid hEb
  have HOwn := Lib.hid hown
  have HLd := Lib.hid hL
  have HC := Lib.hid hC
  have HMb := Lib.hid hMb
  clear hx hm hown hL hC hb hsz hEb hMb
  go_enter Tryz.func95, Tryz.ntmps95
  go_wp2_with fail
  go_quiet (fail)
  go_upto_region 22 with (fail)
  have hb1 : Below w.heap.size w (w.drewN nq) := below_drewN (Below.refl _ _) _
  have HLd1 := Lib.hid (HLd.out.below hb1)
  have HC1 := Lib.hid (HC.out.below hb1)
  have HOwn1 := Lib.hid (own_below HOwn.out hb1)
  have hsz1 : (w.drewN nq).heap.size = w.heap.size := rfl
  have HB1 := Lib.hid (And.intro hb1 hsz1)
  clear hb1 hsz1 HLd HC HOwn ho
  generalize w.drewN nq = w1 at *
  clear s1 s2 s3 a0 a1 a2 n1 e1
  go_upto_if 78 with (fail)
  have HMb2 : Hid (m < 9007199254740992 ∧ (4503599627370496 ≤ m ∨ x = -1022) ∧ -1022 ≤ x ∧ x ≤ 1023) := Lib.hid (by
    have h := HX.out
    have h1 := HMb.out
    have h2 := HE.out
    by_cases h0 : E = 0
    · rw [if_pos h0, if_pos h0] at h; omega
    · rw [if_neg h0, if_neg h0] at h; omega)
  go_cut [14, 15] (fun v14 v15 w' => v14 = .int .i64 (x + 1023) ∧ v15 = .int .u64 (m : Int) ∧ w1 = w')
  case first =>
    by_cases h0 : E = 0
    · have hx := HX.out
      rw [if_pos h0, if_pos h0] at hx
      obtain ⟨hx, hm⟩ := hx
      have HXX := Lib.hid (And.intro (show (1 : Int) = x + 1023 by omega) hm)
      clear hx hm
      have f1 : ((E : Int) == 0) = true := by simp [h0]
      subst h0
      go_wp2_with fail
      go_meet
      case rel => exact ⟨by rw [← HXX.out.1], by first | (rw [HXX.out.2]; done) | (rw [HXX.out.2]; go_num), rfl⟩
    · have hx := HX.out
      rw [if_neg h0, if_neg h0] at hx
      obtain ⟨hx, hm⟩ := hx
      have HXX := Lib.hid (And.intro (show (E : Int) = x + 1023 by omega) hm)
      clear hx hm
      have f1 : ((E : Int) == 0) = false := by simp [h0]
      clear h0
      go_wp2_with fail
      go_meet
      case rel => exact ⟨by first | (rw [← HXX.out.1]; done) | (rw [← HXX.out.1]; go_num), by first | (rw [HXX.out.2]; done) | (rw [HXX.out.2]; go_num), rfl⟩
  case rest =>
    obtain ⟨rfl, rfl, hww⟩ := hcut
    subst hww
    clear a3 s4 HX HE HMb
    have y1 : x + 1023 + -1023 = x := by omega
    have y2 : x + 1023 - 1023 = x := by omega
    have y3 : -1022 ≤ x := HMb2.out.2.2.1
    have y4 : x ≤ 1023 := HMb2.out.2.2.2
    have y5 : ¬ (c : Int) < 0 := by omega
    have y6 : decide ((c : Int) < 0) = false := decide_eq_false y5
    go_step
    by_cases hm0 : m = 0
    · subst hm0
      have HF := Lib.hid (fmt_walk w1 B 0 0 (fun _ => 48) v (.slice none 0 0) ng 0 c 0 ⟨HOwn1.out, fun h => absurd h (by decide), Below.refl _ _, by have := HB1.out.2; omega⟩ (by decide) (by decide) (by decide) hc (fun i hi => absurd hi (by omega)) (fun h => absurd h (by decide)) (fun h => absurd h (by decide)))
      go_wp2_with fail
      refine HF.out.mono ?_
      rintro e w2 ⟨v', rfl, hO⟩
      have HO := Lib.hid hO
      clear hO HF
      go_wp2_with fail
      go_ret
      rw [ef_fix (fun i hi => absurd hi (by omega)) (fun h => absurd h (by decide))] at HO
      have hz : atP (fun _ => 48) 0 0 c = 0 := by
        unfold atP
        rw [if_pos (by omega)]
        exact N_zero _ fun i _ => by unfold dig; rw [if_neg (by omega)]
      rw [hz] at HO
      refine ⟨v', 0, ?_, rfl, HO.out.own, (HB1.out.1.mono hB).trans HO.out.below⟩
      have := rhe_exact (2 ^ wR x) 0 (Nat.pow_pos (by decide))
      unfold wN
      rw [Nat.zero_mul, Nat.zero_mul]
      rw [Nat.zero_mul] at this
      exact this
    · have f1 : ((m : Int) == 0) = false := by simp; omega
      have ho : w1.cell? ⟨3, 0, none⟩ = some (.bool true) := HLd1.out.optCell
      have HL3 := HLd1.out
      clear ho
      have ho : w1.cell? ⟨3, 0, none⟩ = some (.bool true) := HL3.optCell
      clear HL3
      go_upto_block 2 with (fail)
      go_cut [3, 24] (fun v3 v24 w' => v3 = .int .i64 (c : Int) ∧ v24 = .int .i64 (dgF x c) ∧ Hid (Below w1.heap.size w1 w'))
      case first =>
        by_cases h0 : 0 ≤ x
        · have g1 : decide (0 ≤ x) = true := decide_eq_true h0
          have HLog := Lib.hid (log10_calls (1 + x) (l2 (1 + x)) (log10_f _ (by omega) (by omega)))
          have hl : 0 ≤ l2 (1 + x) ∧ l2 (1 + x) ≤ 400 := by unfold l2; omega
          have hD : 1 + l2 (1 + x) + c = dgF x c := by unfold dgF; rw [if_pos h0]
          generalize l2 (1 + x) = y at *
          obtain ⟨hl1, hl3⟩ := hl
          obtain ⟨n, hn⟩ : ∃ n, n = dgF x c := ⟨_, rfl⟩
          rw [← hn] at hD
          have HN := Lib.hid hn
          clear hn
          go_wp2_with fail
          refine (HLog.out _).mono ?_
          rintro e w2 ⟨rfl, hb2⟩
          have HB2 := Lib.hid hb2
          clear hb2 HLog
          go_wp2_with fail
          go_meet
          case rel => exact ⟨rfl, by rw [← HN.out], HB2⟩
        · have g1 : decide (0 ≤ x) = false := decide_eq_false h0
          have HLog := Lib.hid (log10_calls (-x) (l2 (-x)) (log10_f _ (by omega) (by omega)))
          have hl : 0 ≤ l2 (-x) ∧ l2 (-x) ≤ 400 := by unfold l2; omega
          have hD : 1 + (c : Int) - l2 (-x) = dgF x c := by unfold dgF; rw [if_neg h0]
          generalize l2 (-x) = y at *
          obtain ⟨hl1, hl3⟩ := hl
          obtain ⟨n, hn⟩ : ∃ n, n = dgF x c := ⟨_, rfl⟩
          rw [← hn] at hD
          have HN := Lib.hid hn
          clear hn
          go_wp2_with fail
          refine (HLog.out _).mono ?_
          rintro e w2 ⟨rfl, hb2⟩
          have HB2 := Lib.hid hb2
          clear hb2 HLog
          go_wp2_with fail
          go_meet
          case rel => exact ⟨rfl, by rw [← HN.out], HB2⟩
      case rest =>
        obtain ⟨rfl, rfl, HB2⟩ := hcut
        go_step
        obtain ⟨n, hn⟩ : ∃ n, n = dgF x c := ⟨_, rfl⟩
        rw [← hn]
        have HN := Lib.hid hn
        clear hn ho
        have HLd2 := Lib.hid (HLd1.out.below HB2.out)
        have HC2 := Lib.hid (HC1.out.below HB2.out)
        have HOwn2 := Lib.hid (own_below HOwn1.out HB2.out)
        have HB02 : Hid (Below w.heap.size w wc ∧ B ≤ wc.heap.size) := Lib.hid ⟨HB1.out.1.trans (HB2.out.mono (by have := HB1.out.2; omega)), by have := HB1.out.2; have := HB2.out.size; omega⟩
        clear HLd1 HC1 HOwn1 HB1 HB2 y1 y2 y5 y6 f1
        have HFz : Hid (∀ (W : World) (sv : Value), W.ownsRow B 5 1 v 0 [] → B ≤ W.heap.size → Calls Tryz.prog 122 #[v, .bool ng, sv, .int .i64 0, .int .i64 0, .int .i64 c, .int .u8 102, .bool false] W (FePost B W 0 0 (fun _ => 48) (fixT ng 0 c))) := Lib.hid fun W sv ho hb => by
          have h := fmt_walk W B 0 0 (fun _ => 48) v sv ng 0 c 0 ⟨ho, fun h => absurd h (by decide), Below.refl _ _, hb⟩ (by decide) (by decide) (by decide) hc (fun i hi => absurd hi (by omega)) (fun h => absurd h (by decide)) (fun h => absurd h (by decide))
          rw [ef_fix (fun i hi => absurd hi (by omega)) (fun h => absurd h (by decide))] at h
          have hz : atP (fun _ => 48) 0 0 c = 0 := by
            unfold atP
            rw [if_pos (by omega)]
            exact N_zero _ fun i _ => by unfold dig; rw [if_neg (by omega)]
          rw [hz] at h
          exact h
        by_cases h18 : n ≤ 18
        · have g2 : decide (n ≤ 18) = true := decide_eq_true h18
          by_cases hn0 : n ≤ 0
          · have g3 : decide (0 < n) = false := decide_eq_false (by omega)
            have HR : Hid (Rhe (wN m x * 10 ^ c) (2 ^ wR x) 0) := Lib.hid (fast_none (by omega) HMb2.out.1 (by rw [← HN.out]; exact hn0))
            have HOw3 := Lib.hid (HOwn2.out.alloc (.cells (Array.replicate 24 (.int .u8 0)) 126 (0, 0)))
            have hb3 : Below w.heap.size w (wc.alloc (.cells (Array.replicate 24 (.int .u8 0)) 126 (0, 0))) := HB02.out.1.alloc HB02.out.1.size _
            have HB3 := Lib.hid hb3
            have HZ3 : Hid (B ≤ (wc.alloc (.cells (Array.replicate 24 (.int .u8 0)) 126 (0, 0))).heap.size) := Lib.hid (by have := HB02.out.2; simp; omega)
            clear hb3 HLd2 HC2 HMb2 HN
            go_wp2_with fail
            refine (HFz.out _ _ HOw3.out HZ3.out).mono ?_
            rintro e w3 ⟨v', rfl, hO⟩
            have HO := Lib.hid hO
            clear hO HFz
            go_wp2_with fail
            go_ret
            exact ⟨v', 0, HR.out, rfl, HO.out.own, (HB3.out.mono hB).trans HO.out.below⟩
          · have g3 : decide (0 < n) = true := decide_eq_true (by omega)
            have hdg1 : 1 ≤ dgF x c := by have := HN.out; omega
            have hdg2 : dgF x c ≤ 18 := by have := HN.out; omega
            have hm1 : 4503599627370496 ≤ m := by
              rcases HMb2.out.2.1 with h | h
              · exact h
              · exfalso
                unfold dgF l2 at hdg1
                rw [h, if_neg (by decide)] at hdg1
                omega
            have hm2 := HMb2.out.1
            have hbl : bln m = 53 := by
              obtain ⟨b1, b2, b3⟩ := bln_spec hm0
              have b4 : bln m ≤ 53 := Us.bln_le (by have : (2 : Nat) ^ 53 = 9007199254740992 := by decide
                                                    omega)
              rcases Nat.lt_or_ge (bln m) 53 with h | h
              · exfalso
                have : 2 ^ bln m ≤ 2 ^ 52 := Nat.pow_le_pow_right (by decide) (by omega)
                have h52 : (2 : Nat) ^ 52 = 4503599627370496 := by decide
                omega
              · omega
            have HLen := Lib.hid (len64_bln m (by omega))
            rw [hbl] at HLen
            obtain ⟨M2, hM2⟩ : ∃ M2, M2 = m * 2048 := ⟨_, rfl⟩
            have z1 : (m : Int) * 2048 = (M2 : Int) := by omega
            have z2 : IntKind.u64.wrap (M2 : Int) = (M2 : Int) := by rw [Go.IntKind.wrap_u64]; omega
            have z3 : x - 11 - 52 = x - 63 := by omega
            have HFx : Hid (∀ W, Laid W → Calls Tryz.prog 127 #[.int .u64 (M2 : Int), .int .i64 (x - 63), .int .i64 n, .int .i64 (c : Int), .int .u8 102] W (FwPost m c x W)) := Lib.hid fun W hW => by
              have h := fixed_walk W hW x c m hc hm1 hm2 hdg1 hdg2
              rw [← hM2, ← HN.out] at h
              exact h
            have HG := Lib.hid (blk_new wc (.cells (Array.replicate 24 (.int .u8 0)) 126 (0, 0)))
            have hb3 : Below wc.heap.size wc (wc.alloc (.cells (Array.replicate 24 (.int .u8 0)) 126 (0, 0))) := below_alloc (Below.refl _ _) _
            have HB3 := Lib.hid hb3
            have HL3 := Lib.hid (HLd2.out.below hb3)
            have HOw3 := Lib.hid (own_below HOwn2.out hb3)
            have HVk : Hid (∀ k, v.ownBlock = some k → k < wc.heap.size) := Lib.hid (fun k hk => (HOwn2.out.lt k hk).2)
            have hz3 : (wc.alloc (.cells (Array.replicate 24 (.int .u8 0)) 126 (0, 0))).heap.size = wc.heap.size + 1 := by simp
            have HZ3 := Lib.hid hz3
            clear hdg1 hdg2 hm1 hm2 hbl hM2 hb3 hz3 HLd2 HC2 HMb2 HN HOwn2
            go_wp2_with fail
            obtain ⟨g, hg⟩ : ∃ g, g = wc.heap.size := ⟨_, rfl⟩
            have HGg := Lib.hid hg
            rw [← hg] at HG HZ3 HB3 HVk ⊢
            clear hg
            refine (HLen.out _).mono ?_
            rintro e w3 ⟨rfl, hw3⟩
            obtain rfl := hw3.symm
            clear hw3 HLen
            go_wp2_with fail
            refine (HFx.out _ HL3.out).mono ?_
            rintro e w4 ⟨Q, hQ1, hQ2, rfl, hb4⟩
            have HQ1 := Lib.hid hQ1
            have hb4' : Below (g + 1) (wc.alloc (.cells (Array.replicate 24 (.int .u8 0)) 126 (0, 0))) w4 := hb4.mono (by have := HZ3.out; omega)
            have HG4 : Hid (w4.heap[g]? = some (.cells (Array.replicate 24 (.int .u8 0)) 126 (0, 0))) := Lib.hid ((hb4'.block g (by omega)).trans HG.out)
            have HB4 : Hid (Below g wc w4) := Lib.hid (HB3.out.trans (hb4'.mono (by omega)))
            have HL4 := Lib.hid (HL3.out.below hb4)
            have HOw4 := Lib.hid (own_below HOw3.out hb4)
            clear hQ1 hb4 hb4' HFx HG HB3 HL3 HOw3 HZ3
            have HB04 : Hid (Below B w w4 ∧ B ≤ w4.heap.size) := Lib.hid ⟨(HB02.out.1.mono hB).trans (HB4.out.mono (by have := HB02.out.2; have := HGg.out; omega)), by have := HB02.out.2; have := HB4.out.size; omega⟩
            have HBg : Hid (B ≤ g) := Lib.hid (by have := HB02.out.2; have := HGg.out; omega)
            clear HB4 HB02
            by_cases hQ0 : Q = 0
            · subst hQ0
              go_wp2_with fail
              refine (HFz.out _ _ HOw4.out HB04.out.2).mono ?_
              rintro e w5 ⟨v', rfl, hO⟩
              have HO := Lib.hid hO
              clear hO HFz
              go_wp2_with fail
              go_ret
              exact ⟨v', 0, HQ1.out, rfl, HO.out.own, HB04.out.1.trans HO.out.below⟩
            · have q1 : ((Q : Int) != 0) = true := bne_iff_ne.2 (by omega)
              obtain ⟨L, hLd⟩ : ∃ L, L = Lib.nDigits Q := ⟨_, rfl⟩
              have l1 : 1 ≤ L := by rw [hLd]; exact Lib.nDigits_pos Q
              have l4' : 10 ^ (L - 1) ≤ Q := by rw [hLd]; exact nd_low Q (by omega)
              have l2 : L ≤ 20 := by
                rcases Nat.lt_or_ge 20 L with h | h
                · exfalso
                  have a1 : 10 ^ 20 ≤ 10 ^ (L - 1) := Nat.pow_le_pow_right (by decide) (by omega)
                  have a2 : (10 : Nat) ^ 20 = 100000000000000000000 := by decide
                  omega
                · exact h
              have l3 : Q < 10 ^ L := by rw [hLd]; exact Lib.lt_pow_nDigits Q
              have l4 : 10 ^ (L - 1) ≤ Q := by rw [hLd]; exact nd_low Q (by omega)
              have HND := Lib.hid (fun W ht => Tryz.internal_strconv_numDigits Q (by omega) (by omega) W ht)
              have HT4 := Lib.hid HL4.out.u10
              rw [← hLd] at HND
              obtain ⟨q1', q2', q3', q4'⟩ := set_atP (c := c) (d := dgs Q L) (fun i _ => rfl) l4 l3 l1 l2
              have HSD := Lib.hid (fun W hg => setDigits_walk W g g (Nat.le_refl _) hg Q L c l3 l1 l2 hc (by omega))
              have HT : Hid (efT ng (dgs Q L) (tl (dgs Q L) L) ((L : Int) - c) c = fixT ng Q c) := Lib.hid (by rw [ef_fix q2' (fun _ => ⟨q3', q4'⟩), q1'])
              have htl := tl_le (dgs Q L) L
              have HDd : Hid (∀ i, i < tl (dgs Q L) L → dgs Q L i < 256) := Lib.hid (fun i hi => by have := (q2' i hi).2; omega)
              have HFn : Hid (∀ (W : World), W.ownsRow B 5 1 v 0 [] → B ≤ W.heap.size → (∃ cs : Array Value, W.heap[g]? = some (.cells cs 126 (0, 0)) ∧ ∀ i, i < L → cs[i]? = some (.int .u8 (dgs Q L i : Nat))) → Calls Tryz.prog 122 #[v, .bool ng, .slice (some ⟨g, 0, none⟩) 24 24, .int .i64 ((L : Int) - c), .int .i64 ((tl (dgs Q L) L : Nat) : Int), .int .i64 c, .int .u8 102, .bool false] W (FePost B W g (tl (dgs Q L) L) (dgs Q L) (fixT ng Q c))) := Lib.hid fun W ho hb hcs => by
                have h := fmt_walk W B g (tl (dgs Q L) L) (dgs Q L) v (.slice (some ⟨g, 0, none⟩) 24 24) ng ((L : Int) - c) c 24 ⟨ho, fun _ => by
                  obtain ⟨cs, h1, h2⟩ := hcs
                  exact ⟨cs, 126, h1, by decide, fun i hi => h2 i (by omega)⟩, Below.refl _ _, hb⟩ (by omega) (by omega) (by omega) hc HDd.out (fun _ => ⟨rfl, by omega, by decide⟩) (fun _ => q3')
                rw [HT.out] at h
                exact h
              clear q1' q2' q3' q4' htl HDd HT l3 l4 l4' hLd HFz
              generalize tl (dgs Q L) L = nd at *
              generalize dgs Q L = dd at *
              go_wp2_with fail
              go_region_with (first | (go_at_call 101; refine (HND.out _ (by exact HT4.out)).mono ?_; rintro e w' ⟨rfl, rfl⟩) | (go_at_call 125; refine (HSD.out _ (by exact HG4.out)).mono ?_; rintro e w5 ⟨rfl, hb5, hcs5⟩))
              have HOw5 := Lib.hid (own_below2 (w := w4.drew) HOw4.out HVk.out hb5)
              have HB5 : Hid (Below B w w5 ∧ B ≤ w5.heap.size) := Lib.hid ⟨HB04.out.1.trans ((below_drewN (Below.refl B w4) 1).trans (hb5.mono HBg.out)), Nat.le_trans HB04.out.2 hb5.size⟩
              have HCs := Lib.hid hcs5
              clear hb5 hcs5 HND HSD HT4 HG4 HOw4 HL4 HB04
              go_wp2_with fail
              refine (HFn.out _ HOw5.out HB5.out.2 HCs.out).mono ?_
              rintro e w6 ⟨v', rfl, hO⟩
              have HO := Lib.hid hO
              clear hO HFn
              go_wp2_with fail
              go_ret
              exact ⟨v', Q, HQ1.out, rfl, HO.out.own, HB5.out.1.trans HO.out.below⟩
        · have g2 : decide (n ≤ 18) = false := decide_eq_false h18
          have HD0 : Hid (IsDec (wc.alloc (.cells Tryz.zeroCells162 162 (0, 0))) wc.heap.size (fun _ => 0) 0 0 false false) := Lib.hid (by unfold IsDec; rw [← zero162]; exact blk_new _ _)
          have hb3 : Below wc.heap.size wc (wc.alloc (.cells Tryz.zeroCells162 162 (0, 0))) := below_alloc (Below.refl _ _) _
          have HB3 := Lib.hid hb3
          have HC3 := Lib.hid (fun (W : World) (hW : Below wc.heap.size wc W) => HC2.out.below hW)
          have HVk : Hid (∀ k, v.ownBlock = some k → k < wc.heap.size) := Lib.hid (fun k hk => (HOwn2.out.lt k hk).2)
          have HA := Lib.hid (fun W g h => assign_calls W g m (by omega) HMb2.out.1 h)
          have HM2 := Lib.hid HMb2.out.1
          have HXr : Hid (-1022 ≤ x ∧ x ≤ 1023) := Lib.hid ⟨by omega, by omega⟩
          clear hb3 HFz HMb2 HLd2 HN HC2
          go_wp2_with fail
          obtain ⟨g, hg⟩ : ∃ g, g = wc.heap.size := ⟨_, rfl⟩
          have HGg := Lib.hid hg
          rw [← hg] at HD0 HB3 HC3 HVk ⊢
          clear hg
          refine (HA.out _ g HD0.out).mono ?_
          rintro e w3 ⟨rfl, hb, s, hs1, hs2, hs3, hs4, hs5, hs6⟩
          have HB03 := Lib.hid (HB3.out.trans hb)
          have HSh := Lib.hid (shift_calls w3 (HC3.out _ HB03.out) g (fun w' hw => HC3.out _ (HB03.out.trans hw)) s hs1 hs2 m HM2.out hs3 hs5 hs6 x HXr.out.1 HXr.out.2 hs4)
          clear hb hs1 hs2 hs3 hs4 hs5 hs6 HA HD0 HB3 HC3
          go_wp2_with fail
          refine HSh.out.mono ?_
          rintro e w4 ⟨rfl, hb4, t, ht1, ht2, ht3, ht4, ht5, ht6⟩
          have HB04 := Lib.hid (HB03.out.trans hb4)
          have cdp : w4.cell? ⟨g, 801, none⟩ = some (.int .i64 t.dp) := IsDec.cdp ht4
          have HRd := Lib.hid (roundp_calls w4 g t ht1 c ht5 ht6 ht4)
          obtain ⟨r1, r2⟩ := rd_rhe ht1 ht2 ht3 c
          have HR := Lib.hid r1
          have HRr := Lib.hid (And.intro r2 (rd_range ht1 c ht5 ht6))
          clear r1 r2 ht1 ht2 ht3 ht4 hb4 HSh HB03
          obtain ⟨td, htd⟩ : ∃ td : Int, td = t.dp := ⟨_, rfl⟩
          rw [← htd] at cdp HRd ht5 ht6
          clear htd
          go_wp2_with fail
          refine HRd.out.mono ?_
          rintro e w5 ⟨rfl, hb5, hd5⟩
          have HB05 := Lib.hid (HB04.out.trans hb5)
          clear HRd cdp ht5 ht6 hb5 HB04
          generalize rdSt t c = rd at *
          have HD5 := Lib.hid hd5
          have cdp : w5.cell? ⟨g, 801, none⟩ = some (.int .i64 rd.dp) := IsDec.cdp hd5
          have cnd : w5.cell? ⟨g, 800, none⟩ = some (.int .i64 (rd.nd : Nat)) := IsDec.cnd hd5
          have HOw5 := Lib.hid (own_below2 HOwn2.out HVk.out HB05.out)
          have HBB : Hid (Below B w w5 ∧ B ≤ w5.heap.size) := Lib.hid ⟨(HB02.out.1.mono hB).trans (HB05.out.mono (by have := HB02.out.2; have := HGg.out; omega)), Nat.le_trans HB02.out.2 HB05.out.size⟩
          have HFn : Hid (∀ (W : World), W.ownsRow B 5 1 v 0 [] → B ≤ W.heap.size → rd.is W g false → Calls Tryz.prog 122 #[v, .bool ng, .slice (some ⟨g, 0, none⟩) 800 800, .int .i64 rd.dp, .int .i64 ((rd.nd : Nat) : Int), .int .i64 c, .int .u8 102, .bool false] W (FePost B W g rd.nd rd.d (fixT ng (atP rd.d rd.nd rd.dp c) c))) := Lib.hid fun W ho hb hcs => by
            obtain ⟨f1, f2, f3, f4⟩ := HRr.out
            have h := fmt_walk W B g rd.nd rd.d v (.slice (some ⟨g, 0, none⟩) 800 800) ng rd.dp c 800 ⟨ho, fun _ => ⟨_, 162, hcs, by decide, fun i hi => by
              rw [dcells_get _ _ _ _ _ i (by omega)]
              unfold dcell
              rw [if_pos (by omega)]⟩, Below.refl _ _, hb⟩ f2 f3 f4 hc (fun i hi => by have := (f1.dgs i hi).2; omega) (fun _ => ⟨rfl, f2, by decide⟩) (fun h => (f1.first h).1)
            rw [ef_fix f1.dgs f1.first] at h
            exact h
          generalize atP rd.d rd.nd rd.dp c = Q at *
          clear hd5 HRr HB05 HVk HOwn2 HB02
          obtain ⟨rdp, hrdp⟩ : ∃ z, z = rd.dp := ⟨_, rfl⟩
          obtain ⟨rnd', hrnd⟩ : ∃ z, z = rd.nd := ⟨_, rfl⟩
          rw [← hrdp] at cdp HFn
          rw [← hrnd] at cnd HFn
          clear hrdp hrnd
          go_wp2_with fail
          go_region_with (go_at_call 122; refine (HFn.out _ (by exact HOw5.out) (by exact HBB.out.2) (by exact HD5.out)).mono ?_; rintro e w6 ⟨v', rfl, hO⟩)
          all_goals
            have HO := Lib.hid hO
            clear hO HFn
            go_wp2_with fail
            go_ret
            exact ⟨v', Q, HR.out, rfl, HO.out.own, HBB.out.1.trans ((below_drewN (Below.refl B w5) 1).trans HO.out.below)⟩
end Go.Proofs.YtjpiplplohapnaaGreatDoor
namespace Go.Proofs.YtjpiplplohapnaaGreatDoor.Big
open Go.RowKit Go.Proofs.YtjpiplplohapnaaGreatDoorW.PrintWords Go.Proofs.YtjpiplplohapnaaGreatDoorW.PrintLast Go.Proofs.YtjpiplplohapnaaGreatDoorW.PrintMore
open Go.Proofs.YtjpiplplohapnaaGreatDoor.PText Nr Us Dc
def PrR (b c : Nat) : Prop := ∃ Q : Nat, Rhe (wN (ftM b) (ftX b) * 10 ^ c) (2 ^ wR (ftX b)) Q ∧ Ev (fun k => tenorref2_Print.f k (b : Int) (c : Int)) (⟨(fixT (Go.Proofs.YtjpiplplohapnaaGreatDoor.neg b) Q c).toArray⟩, 0)
theorem lt_ten {n k : Nat} (h : n < 2 ^ k) : n < 10 ^ (k + 1) :=
  Nat.lt_of_lt_of_le h (Nat.le_trans (Nat.pow_le_pow_left (by decide) k) (Nat.pow_le_pow_right (by decide) (Nat.le_succ k)))
theorem print_head (b c : Nat) (hb : b < 18446744073709551616) (h : sz b < 9218868437227405312) (hc : c ≤ 30) (k : Nat) : tenorref2_Print.f k (b : Int) (c : Int) = tenorref2_Print.j0 k (b : Int) (c : Int) false := by
  unfold tenorref2_Print.f tenorref1_Number.f
  rw [sz_bits b hb, Option.bind_some, decide_eq_true (by omega), if_pos rfl, if_neg (by omega), decide_eq_false (by omega)]
theorem refPrint_ev (b c : Nat) (hb : b < 18446744073709551616) (h : sz b < 9218868437227405312) (hc : c ≤ 30) : PrR b c := by
  have hs := size_of b hb
  obtain ⟨K1, k1⟩ := ten_ev c hc
  have h100 : 10 ^ c < 2 ^ 100 := Nat.lt_of_le_of_lt (Nat.pow_le_pow_right (by decide) (show c ≤ 30 by omega)) (by decide)
  have htop : 100000 ≤ top := by decide
  by_cases h0 : sz b = 0
  · refine ⟨0, ?_, ?_⟩
    · unfold ftM wN
      rw [if_pos h0, Nat.zero_mul, Nat.zero_mul]
      have := rhe_exact (2 ^ wR (ftX b)) 0 (Nat.pow_pos (by decide))
      rw [Nat.zero_mul] at this
      exact this
    · have hm := mul_ev 0 (10 ^ c) (by have := ln_of_bits h100 (by decide); rw [ln_zero]; omega)
      have hu := up_ev 0 0 (by decide) (by rw [ln_zero]; decide)
      rw [Nat.zero_mul] at hm hu
      obtain ⟨K2, k2⟩ := hm
      obtain ⟨K3, k3⟩ := hu
      obtain ⟨K4, k4⟩ := print_j1 b c 0 0 hc (Nat.pow_pos (by decide)) (by decide) (by rw [ln_zero]; decide)
      rw [dg_zero] at k2 k3 k4
      refine ⟨K1 + K2 + K3 + K4 + 1, fun k hk => ?_⟩
      obtain ⟨n, rfl⟩ : ∃ n, k = n + 1 := ⟨k - 1, by omega⟩
      rw [h0] at hs
      have hs' : tenorref1_Size.f (b : Int) = some 0 := hs
      have k3' : tenorref1_ShiftUp.f n [] 0 = some [] := k3 n (by omega)
      dsimp only at k1 k2 k4
      show tenorref2_Print.f (n + 1) (b : Int) (c : Int) = _
      rw [print_head b c hb h hc, tenorref2_Print.j0]
      rw [if_neg (show ¬ (false = true) by decide), hs', Option.bind_some, of_zero n, Option.bind_some, k1 n (by omega), Option.bind_some]
      dsimp only
      rw [k2 n (by omega), Option.bind_some, if_pos (Int.le_refl 0), k3', Option.bind_some, k4 n (by omega)]
  · have hr := spM_range (sz b) (by omega)
    have he := spE_range (sz b) (by omega) h
    obtain ⟨K2, k2⟩ := of_ev (sz b) (by omega) h
    have hM : ftM b = spM (sz b) := by unfold ftM; rw [if_neg h0]
    have hX : ftX b = spE (sz b) + 52 := by unfold ftX; rw [if_neg h0]
    unfold PrR
    rw [hM, hX]
    generalize spM (sz b) = M at *
    generalize spE (sz b) = E at *
    have hM53 : M < 2 ^ 53 := by have : (2 : Nat) ^ 53 = 9007199254740992 := by decide
                                 omega
    obtain ⟨A, hA⟩ : ∃ A, A = M * 10 ^ c := ⟨_, rfl⟩
    have hAb : A < 2 ^ 153 := by
      rw [hA, show (153 : Nat) = 53 + 100 from rfl, Nat.pow_add]
      exact Nat.mul_lt_mul'' hM53 h100
    have hm := mul_ev M (10 ^ c) (by have := ln_of_bits h100 (by decide); have := ln_of_bits hM53 (by decide); omega)
    rw [← hA] at hm
    obtain ⟨K3, k3⟩ := hm
    have hlA := ln_of_bits hAb (by decide)
    by_cases hE : 0 ≤ E
    · obtain ⟨n, rfl⟩ : ∃ n : Nat, E = n := ⟨E.toNat, by omega⟩
      obtain ⟨J, hJ⟩ : ∃ J, J = 971 := ⟨_, rfl⟩
      have hQb : A * 2 ^ n < 2 ^ (153 + J) := by
        rw [Nat.pow_add]
        exact Nat.lt_of_lt_of_le (Nat.mul_lt_mul_of_pos_right hAb (Nat.pow_pos (by decide))) (Nat.mul_le_mul_left _ (Nat.pow_le_pow_right (by decide) (by omega)))
      refine ⟨A * 2 ^ n, ?_, ?_⟩
      · unfold wN wR
        rw [show ((n : Int) + 52 - 52).toNat = n by omega, show (52 - ((n : Int) + 52)).toNat = 0 by omega, Nat.pow_zero, show M * 2 ^ n * 10 ^ c = A * 2 ^ n * 1 by rw [hA]; grind]
        exact rhe_exact 1 _ (by decide)
      · obtain ⟨K4, k4⟩ := up_ev A n (by omega) (by omega)
        obtain ⟨K5, k5⟩ := print_j1 b c (A * 2 ^ n) (153 + J) hc (lt_ten hQb) (by omega) (by have := ln_of_bits hQb (by omega); omega)
        refine ⟨K1 + K2 + K3 + K4 + K5 + 1, fun k hk => ?_⟩
        obtain ⟨j, rfl⟩ : ∃ j, k = j + 1 := ⟨k - 1, by omega⟩
        dsimp only at k1 k2 k3 k4 k5
        show tenorref2_Print.f (j + 1) (b : Int) (c : Int) = _
        rw [print_head b c hb h hc, tenorref2_Print.j0]
        rw [if_neg (show ¬ (false = true) by decide), hs, Option.bind_some, k2 j (by omega), Option.bind_some, k1 j (by omega), Option.bind_some]
        dsimp only
        rw [k3 j (by omega), Option.bind_some, if_pos hE, k4 j (by omega), Option.bind_some, k5 j (by omega)]
    · obtain ⟨n, hn⟩ : ∃ n : Nat, E = -((n + 1 : Nat) : Int) := ⟨(-E).toNat - 1, by omega⟩
      have hnb : n ≤ 1074 := by omega
      have w1 : wrap64 (-E) = ((n + 1 : Nat) : Int) := by rw [w64 (by omega) (by omega)]; omega
      have w2 : wrap64 (((n + 1 : Nat) : Int) - 1) = (n : Int) := by rw [w64 (by omega) (by omega)]; omega
      obtain ⟨K4, k4⟩ := down_ev A (n + 1) (by omega) (by omega)
      obtain ⟨K5, k5⟩ := down_ev A n (by omega) (by omega)
      obtain ⟨H, hH⟩ : ∃ H, H = 2 ^ n := ⟨_, rfl⟩
      have hHp : 0 < H := by rw [hH]; exact Nat.pow_pos (by decide)
      have h2H : 2 ^ (n + 1) = 2 * H := by rw [hH, Nat.pow_succ, Nat.mul_comm]
      have hrh := half_rhe A H hHp
      rw [h2H] at k4
      rw [← hH] at k5
      have hqA : A / (2 * H) ≤ A := Nat.div_le_self _ _
      have hQ1 : A / (2 * H) + 1 < 2 ^ 154 := by
        have e : (2 : Nat) ^ 154 = 2 ^ 153 * 2 := Nat.pow_succ ..
        omega
      have hlq := ln_of_bits (n := A / (2 * H)) (Nat.lt_of_le_of_lt hqA hAb) (by decide)
      obtain ⟨K6, k6⟩ := add_ev (A / (2 * H)) 1 (by have := ln_small (n := 1) (by decide); omega)
      rw [one_dg] at k6
      obtain ⟨K7, k7⟩ := print_j1 b c (A / (2 * H)) 153 hc (lt_ten (Nat.lt_of_le_of_lt hqA hAb)) (by decide) (by omega)
      obtain ⟨K8, k8⟩ := print_j1 b c (A / (2 * H) + 1) 154 hc (lt_ten hQ1) (by decide) (by have := ln_of_bits hQ1 (by decide); omega)
      refine ⟨if A / H % 2 = 1 ∧ (A % H ≠ 0 ∨ A / (2 * H) % 2 = 1) then A / (2 * H) + 1 else A / (2 * H), ?_, ⟨K1 + K2 + K3 + K4 + K5 + K6 + K7 + K8 + 1, fun k hk => ?_⟩⟩
      · unfold wN wR
        rw [show (E + 52 - 52).toNat = 0 by omega, show (52 - (E + 52)).toNat = n + 1 by omega, Nat.pow_zero, Nat.mul_one, ← hA, h2H]
        exact hrh
      · obtain ⟨j, rfl⟩ : ∃ j, k = j + 1 := ⟨k - 1, by omega⟩
        dsimp only at k1 k2 k3 k4 k5 k6 k7 k8
        show tenorref2_Print.f (j + 1) (b : Int) (c : Int) = _
        rw [print_head b c hb h hc, tenorref2_Print.j0]
        rw [if_neg (show ¬ (false = true) by decide), hs, Option.bind_some, k2 j (by omega), Option.bind_some, k1 j (by omega), Option.bind_some]
        dsimp only
        rw [k3 j (by omega), Option.bind_some, if_neg (show ¬ (E ≥ 0) from hE), w1, w2, k4 j (by omega), Option.bind_some, k5 j (by omega), Option.bind_some]
        dsimp only
        rw [odd_dg, Option.bind_some]
        by_cases c1 : A / H % 2 = 1
        · rw [decide_eq_true c1, if_pos rfl]
          by_cases c2 : A % H ≠ 0
          · rw [if_pos (show A / H % 2 = 1 ∧ (A % H ≠ 0 ∨ A / (2 * H) % 2 = 1) from ⟨c1, Or.inl c2⟩), decide_eq_true c2, if_pos rfl, k6 j (by omega), Option.bind_some, k8 j (by omega)]
          · rw [decide_eq_false c2, if_neg (show ¬ (false = true) by decide), odd_dg, Option.bind_some]
            by_cases c3 : A / (2 * H) % 2 = 1
            · rw [if_pos (show A / H % 2 = 1 ∧ (A % H ≠ 0 ∨ A / (2 * H) % 2 = 1) from ⟨c1, Or.inr c3⟩), decide_eq_true c3, if_pos rfl, k6 j (by omega), Option.bind_some, k8 j (by omega)]
            · rw [if_neg (show ¬ (A / H % 2 = 1 ∧ (A % H ≠ 0 ∨ A / (2 * H) % 2 = 1)) from fun hh => hh.2.elim c2 c3), decide_eq_false c3, if_neg (show ¬ (false = true) by decide), k7 j (by omega)]
        · rw [if_neg (show ¬ (A / H % 2 = 1 ∧ (A % H ≠ 0 ∨ A / (2 * H) % 2 = 1)) from fun hh => c1 hh.1), decide_eq_false c1, if_neg (show ¬ (false = true) by decide), k7 j (by omega)]
end Go.Proofs.YtjpiplplohapnaaGreatDoor.Big
namespace Go.Proofs.YtjpiplplohapnaaGreatDoor
open Go.RowKit Go.Sort Go.Proofs.YtjpiplplohapnaaGreatDoorW.PrintWords Dc Us Nr
theorem bytes_of_own {w : World} {B : Nat} {v : Value} {l : List UInt8} (h : w.ownsRow B 5 1 v l.length (l.map encB)) (hl : l ≠ []) :
    (convert 94 9 v).run Tryz.prog w = .ok (.string ⟨l.toArray⟩) w := by
  have hcc := h.2
  rcases hcc with ⟨rfl, h0⟩ | ⟨g, cap, cur, rfl, _⟩
  · exact absurd (List.length_eq_zero_iff.1 h0) hl
  · have hcell := h.cells (g := g) rfl
    rw [run_convert_bytes_string w 94 9 5 _ _ _ Tryz.underlying94 Tryz.underlying5 Tryz.underlying9]
    have hq := run_loadCells_list (P := Tryz.prog) (w := w) ⟨g, 0, none⟩ (l.map encB) (fun j v hv => hcell j v hv)
    rw [List.length_map] at hq
    rw [run_bytesToString w _ _ _ (l.map fun b => (b.toNat : Int)) (by rw [hq, List.map_map]; rfl)]
    congr 2
    rw [List.foldl_map]
    have : ∀ (l : List UInt8) (acc : ByteArray), l.foldl (fun r n => r.push (UInt8.ofNat ((n.toNat : Int)).toNat)) acc = ⟨acc.data ++ l.toArray⟩ := by
      intro l
      induction l with
      | nil => intro acc; simp
      | cons b l ih => intro acc; rw [List.foldl_cons, ih]; simp [ByteArray.push]
    rw [this]
    simp
theorem fixT_ne (ng : Bool) (q p : Nat) : fixT ng q p ≠ [] := by
  unfold fixT
  intro h
  have h2 : dot p (padL p (Lib.decDigits q)) = [] := (List.append_eq_nil_iff.1 h).2
  unfold dot at h2
  have h3 : padL p (Lib.decDigits q) ≠ [] := by
    unfold padL
    intro e
    exact Num.dec_ne q (List.append_eq_nil_iff.1 e).2
  by_cases hp : 0 < p
  · rw [if_pos hp] at h2
    have := (List.append_eq_nil_iff.1 h2).2
    cases this
  · rw [if_neg hp] at h2
    exact h3 h2
theorem make_24 (W : World) : (Instr.makeSlice 94 (.int .i64 0) (.int .i64 24)).run Tryz.prog W = .ok (.slice (some ⟨W.heap.size, 0, none⟩) 0 24) (W.alloc (.cells (Array.replicate 24 (.int .u8 0)) 5)) := by kernel_rfl
theorem make_25 (W : World) : (Instr.makeSlice 94 (.int .i64 0) (.int .i64 25)).run Tryz.prog W = .ok (.slice (some ⟨W.heap.size, 0, none⟩) 0 25) (W.alloc (.cells (Array.replicate 25 (.int .u8 0)) 5)) := by kernel_rfl
theorem make_26 (W : World) : (Instr.makeSlice 94 (.int .i64 0) (.int .i64 26)).run Tryz.prog W = .ok (.slice (some ⟨W.heap.size, 0, none⟩) 0 26) (W.alloc (.cells (Array.replicate 26 (.int .u8 0)) 5)) := by kernel_rfl
theorem make_27 (W : World) : (Instr.makeSlice 94 (.int .i64 0) (.int .i64 27)).run Tryz.prog W = .ok (.slice (some ⟨W.heap.size, 0, none⟩) 0 27) (W.alloc (.cells (Array.replicate 27 (.int .u8 0)) 5)) := by kernel_rfl
theorem make_28 (W : World) : (Instr.makeSlice 94 (.int .i64 0) (.int .i64 28)).run Tryz.prog W = .ok (.slice (some ⟨W.heap.size, 0, none⟩) 0 28) (W.alloc (.cells (Array.replicate 28 (.int .u8 0)) 5)) := by kernel_rfl
theorem make_29 (W : World) : (Instr.makeSlice 94 (.int .i64 0) (.int .i64 29)).run Tryz.prog W = .ok (.slice (some ⟨W.heap.size, 0, none⟩) 0 29) (W.alloc (.cells (Array.replicate 29 (.int .u8 0)) 5)) := by kernel_rfl
theorem make_30 (W : World) : (Instr.makeSlice 94 (.int .i64 0) (.int .i64 30)).run Tryz.prog W = .ok (.slice (some ⟨W.heap.size, 0, none⟩) 0 30) (W.alloc (.cells (Array.replicate 30 (.int .u8 0)) 5)) := by kernel_rfl
theorem make_31 (W : World) : (Instr.makeSlice 94 (.int .i64 0) (.int .i64 31)).run Tryz.prog W = .ok (.slice (some ⟨W.heap.size, 0, none⟩) 0 31) (W.alloc (.cells (Array.replicate 31 (.int .u8 0)) 5)) := by kernel_rfl
theorem make_32 (W : World) : (Instr.makeSlice 94 (.int .i64 0) (.int .i64 32)).run Tryz.prog W = .ok (.slice (some ⟨W.heap.size, 0, none⟩) 0 32) (W.alloc (.cells (Array.replicate 32 (.int .u8 0)) 5)) := by kernel_rfl
theorem make_33 (W : World) : (Instr.makeSlice 94 (.int .i64 0) (.int .i64 33)).run Tryz.prog W = .ok (.slice (some ⟨W.heap.size, 0, none⟩) 0 33) (W.alloc (.cells (Array.replicate 33 (.int .u8 0)) 5)) := by kernel_rfl
theorem make_34 (W : World) : (Instr.makeSlice 94 (.int .i64 0) (.int .i64 34)).run Tryz.prog W = .ok (.slice (some ⟨W.heap.size, 0, none⟩) 0 34) (W.alloc (.cells (Array.replicate 34 (.int .u8 0)) 5)) := by kernel_rfl
theorem make_k (k : Nat) (h1 : 24 ≤ k) (h2 : k ≤ 34) (W : World) : (Instr.makeSlice 94 (.int .i64 0) (.int .i64 (k : Int))).run Tryz.prog W = .ok (.slice (some ⟨W.heap.size, 0, none⟩) 0 k) (W.alloc (.cells (Array.replicate k (.int .u8 0)) 5)) := by
  have h : k = 24 ∨ k = 25 ∨ k = 26 ∨ k = 27 ∨ k = 28 ∨ k = 29 ∨ k = 30 ∨ k = 31 ∨ k = 32 ∨ k = 33 ∨ k = 34 := by omega
  rcases h with rfl | rfl | rfl | rfl | rfl | rfl | rfl | rfl | rfl | rfl | rfl
  · exact make_24 W
  · exact make_25 W
  · exact make_26 W
  · exact make_27 W
  · exact make_28 W
  · exact make_29 W
  · exact make_30 W
  · exact make_31 W
  · exact make_32 W
  · exact make_33 W
  · exact make_34 W
def FmPost (b c : Nat) (w : World) (e : Ending) (w' : World) : Prop :=
  ∃ Q : Nat, Rhe (wN (ftM b) (ftX b) * 10 ^ c) (2 ^ wR (ftX b)) Q ∧ e = .returned (.string ⟨(fixT (neg b) Q c).toArray⟩) ∧ Below w.heap.size w w'
set_option maxRecDepth 100000 in
set_option maxHeartbeats 1000000 in
theorem iformat_walk (w : World) (hL : Laid w) (hC : Cheats w) (b c : Nat) (hb : b < 18446744073709551616) (hsz : sz b < 9218868437227405312) (hc : c ≤ 30) :
    Calls Tryz.prog 67 #[.float .f64 b, .int .u8 102, .int .i64 c, .int .i64 64] w (FmPost b c w) := by
  obtain ⟨k, hk⟩ : ∃ k, k = max (c + 4) 24 := ⟨_, rfl⟩
  have hk1 : 24 ≤ k := by omega
  have hk2 : k ≤ 34 := by omega
  have m1 : max ((c : Int) + 4) 24 = (k : Int) := by omega
  have hmk := make_k k hk1 hk2
  have hbl : Below w.heap.size w (w.alloc (.cells (Array.replicate k (.int .u8 0)) 5)) := below_alloc (Below.refl _ _) _
  have HF := Lib.hid (ftoa_walk (w.alloc (.cells (Array.replicate k (.int .u8 0)) 5)) (hL.below hbl) (hC.below hbl) w.heap.size b c (.slice (some ⟨w.heap.size, 0, none⟩) 0 k) (World.ownsRow_made w _ k (Nat.le_refl _) (by unfold maxLen; omega) (by simp)) (by simp) hb hsz hc)
  have HB := Lib.hid hbl
  clear hk hk1 hk2 hbl hL hC hb hsz
  go_enter Tryz.func67, Tryz.ntmps67
  go_wp2_with fail
  refine HF.out.mono ?_
  rintro e w2 ⟨v', Q, hQ, rfl, hown, hb2⟩
  have HQ := Lib.hid hQ
  have HB2 := Lib.hid (HB.out.trans hb2)
  have hcv := bytes_of_own hown (fixT_ne _ _ _)
  clear hQ hb2 hown HF hmk
  obtain ⟨T, hT⟩ : ∃ T, T = fixT (neg b) Q c := ⟨_, rfl⟩
  rw [← hT] at hcv
  have HT := Lib.hid hT
  clear hT
  go_wp2_with fail
  go_ret
  exact ⟨Q, HQ.out, by rw [← HT.out]; rfl, HB2.out⟩
set_option maxHeartbeats 1000000 in
theorem sformat_walk (w : World) (hL : Laid w) (hC : Cheats w) (b c : Nat) (hb : b < 18446744073709551616) (hsz : sz b < 9218868437227405312) (hc : c ≤ 30) :
    Calls Tryz.prog 31 #[.float .f64 b, .int .u8 102, .int .i64 c, .int .i64 64] w (FmPost b c w) := by
  have HF := Lib.hid (iformat_walk w hL hC b c hb hsz hc)
  clear hL hC hb hsz hc
  go_enter Tryz.func31, Tryz.ntmps31
  go_wp2_with fail
  refine HF.out.mono ?_
  rintro e w2 ⟨Q, hQ, rfl, hb2⟩
  have HQ := Lib.hid hQ
  clear hQ HF
  go_wp2_with fail
  go_ret
  exact ⟨Q, HQ.out, rfl, hb2⟩
theorem print_both (b : Nat) (hb : b < 18446744073709551616) (p : Int) : ∃ (t : ByteArray) (c : Int),
    (∀ w, Laid w → Cheats w → Calls Tryz.prog 14 #[.float .f64 b, .int .i64 p] w fun e w' => e = .returned (.tuple #[.string t, .int .i64 c]) ∧ Below w.heap.size w w') ∧
    (∀ w, Calls Tryz.prog 15 #[.int .u64 b, .int .i64 p] w fun e w' => e = .returned (.tuple #[.string t, .int .i64 c]) ∧ Below w.heap.size w w') := by
  have HN := Lib.hid (number_calls b hb)
  by_cases hsz : sz b < 9218868437227405312
  · rw [decide_eq_true hsz] at HN
    by_cases h0 : p < 0
    · refine ⟨⟨#[]⟩, 20, fun w hL hC => ?_, fun w => ?_⟩
      · have g1 : decide (p < 0) = true := decide_eq_true h0
        clear hL hC hsz
        go_enter Tryz.func14, Tryz.ntmps14
        go_wp2_with fail
        refine (HN.out _).mono ?_
        rintro e w1 ⟨rfl, hw1⟩
        obtain rfl := hw1.symm
        clear hw1 HN
        go_wp2_with fail
        go_ret2
        exact ⟨rfl, Below.refl _ _⟩
      · refine PText.tenorref2_Print.calls 1 _ _ _ _ w ?_
        unfold PText.tenorref2_Print.f PText.tenorref1_Number.f
        rw [sz_bits b hb, Option.bind_some, decide_eq_true (by omega), if_pos rfl, if_pos h0, PText.tenorref2_Print.j0, if_pos rfl]
    · by_cases h30 : 30 < p
      · refine ⟨⟨#[]⟩, 20, fun w hL hC => ?_, fun w => ?_⟩
        · have g1 : decide (p < 0) = false := decide_eq_false h0
          have g2 : decide (30 < p) = true := decide_eq_true h30
          clear hL hC hsz
          go_enter Tryz.func14, Tryz.ntmps14
          go_wp2_with fail
          refine (HN.out _).mono ?_
          rintro e w1 ⟨rfl, hw1⟩
          obtain rfl := hw1.symm
          clear hw1 HN
          go_wp2_with fail
          go_ret2
          exact ⟨rfl, Below.refl _ _⟩
        · refine PText.tenorref2_Print.calls 1 _ _ _ _ w ?_
          unfold PText.tenorref2_Print.f PText.tenorref1_Number.f
          rw [sz_bits b hb, Option.bind_some, decide_eq_true (by omega), if_pos rfl, if_neg h0, decide_eq_true (show p > 30 from h30), PText.tenorref2_Print.j0, if_pos rfl]
      · obtain ⟨c, hc⟩ : ∃ c : Nat, p = c := ⟨p.toNat, by omega⟩
        subst hc
        obtain ⟨Q, hQ, hev⟩ := Big.refPrint_ev b c hb hsz (by omega)
        obtain ⟨k, hk⟩ := hev.rounds
        refine ⟨⟨(fixT (neg b) Q c).toArray⟩, 0, fun w hL hC => ?_, fun w => PText.tenorref2_Print.calls k _ _ _ _ w hk⟩
        have HF := Lib.hid (sformat_walk w hL hC b c hb hsz (by omega))
        have HQ := Lib.hid hQ
        have g1 : decide ((c : Int) < 0) = false := decide_eq_false h0
        have g2 : decide (30 < (c : Int)) = false := decide_eq_false h30
        have g3 : ¬ (30 : Int) < c := h30
        clear hL hC hsz hQ hev hk
        go_enter Tryz.func14, Tryz.ntmps14
        go_wp2_with fail
        refine (HN.out _).mono ?_
        rintro e w1 ⟨rfl, hw1⟩
        obtain rfl := hw1.symm
        clear hw1 HN
        go_wp2_with fail
        refine HF.out.mono ?_
        rintro e w2 ⟨Q2, hQ2, rfl, hb2⟩
        obtain rfl : Q2 = Q := rhe_one (Nat.pow_pos (by decide)) hQ2 HQ.out
        clear hQ2 HF
        go_wp2_with fail
        go_ret2
        exact ⟨rfl, hb2⟩
  · rw [decide_eq_false hsz] at HN
    refine ⟨⟨#[]⟩, 20, fun w hL hC => ?_, fun w => ?_⟩
    · clear hL hC hsz
      go_enter Tryz.func14, Tryz.ntmps14
      go_wp2_with fail
      refine (HN.out _).mono ?_
      rintro e w1 ⟨rfl, hw1⟩
      obtain rfl := hw1.symm
      clear hw1 HN
      go_wp2_with fail
      go_ret2
      exact ⟨rfl, Below.refl _ _⟩
    · refine PText.tenorref2_Print.calls 1 _ _ _ _ w ?_
      unfold PText.tenorref2_Print.f PText.tenorref1_Number.f
      rw [sz_bits b hb, Option.bind_some, decide_eq_false (by omega), if_neg (by decide), PText.tenorref2_Print.j0, if_pos rfl]
end Go.Proofs.YtjpiplplohapnaaGreatDoor
namespace Go.Proofs.YtjpiplplohapnaaGreatDoor
open Go.RowKit Go.Sort Go.Proofs.YtjpiplplohapnaaGreatDoorW.PrintWords
theorem int_neg7 (w : World) (hL : Laid w) : Calls Tryz.prog 17 #[.string ⟨#[45, 55]⟩] w fun e w' => e = .returned (.tuple #[.int .i64 (-7), .bool true]) ∧ Below w.heap.size w w' := by
  have h := int_walk ⟨#[45, 55]⟩ (by decide) w hL
  have e0 : Num.progInt (⟨#[45, 55]⟩ : ByteArray).data.toList = (-7, true) := by
    rw [Num.progInt_eq]
    rfl
  rw [e0] at h
  exact h
set_option maxRecDepth 100000 in
set_option maxHeartbeats 1000000 in
theorem awake_true (w : World) (hL : Laid w) : Calls Tryz.prog 13 #[] w fun e w' => e = .returned (.bool true) ∧ Below w.heap.size w w' := by
  go_enter Tryz.func13, Tryz.ntmps13
  go_wp2_with fail
  refine (parse_01 _ hL).mono ?_
  rintro e w1 ⟨rfl, hb1⟩
  have hL1 := hL.below hb1
  go_wp2_with fail
  refine (print_375 _ hL1).mono ?_
  rintro e w2 ⟨rfl, hb2⟩
  have hL2 := hL1.below hb2
  have hb02 := hb1.trans (hb2.mono hb1.size)
  clear hL1 hb1 hb2
  go_wp2_with fail
  refine (hex_15 _ hL2).mono ?_
  rintro e w3 ⟨rfl, hb3⟩
  have hL3 := hL2.below hb3
  have hb03 := hb02.trans (hb3.mono hb02.size)
  clear hL2 hb02 hb3
  go_wp2_with fail
  refine (int_neg7 _ hL3).mono ?_
  rintro e w4 ⟨rfl, hb4⟩
  have hb04 := hb03.trans (hb4.mono hb03.size)
  clear hL3 hb03 hb4
  go_wp2_with fail
  go_ret
  exact ⟨rfl, hb04⟩
end Go.Proofs.YtjpiplplohapnaaGreatDoor
namespace Go.Proofs.YtjpiplplohapnaaGreatDoor
open Go.RowKit Go.Sort Go.Proofs.YtjpiplplohapnaaGreatDoorW.PrintWords
set_option maxRecDepth 100000 in
theorem textPrints_walk (x : Nat) (hx : x < 18446744073709551616) (p : Int) (w : World) (hL : Laid w) (hC : Cheats w) : Calls Tryz.prog 4 #[.float .f64 x, .int .i64 p] w fun e w' => e = .returned (.bool true) ∧ Below w.heap.size w w' := by
  obtain ⟨t, c, H1, H2⟩ := print_both x hx p
  have h0 := apiBits
  clear hx
  go_enter Tryz.func4, Tryz.ntmps4
  go_wp2_with fail
  refine (H1 _ hL hC).mono ?_
  rintro e w1 ⟨rfl, hb1⟩
  have hL1 := hL.below hb1
  go_wp2_with (go_at_call 16; refine (apiBits _ _).mono ?_; rintro e w1 ⟨rfl, hw1⟩; obtain rfl := hw1.symm)
  refine (H2 _).mono ?_
  rintro e w2 ⟨rfl, hb2⟩
  have hL2 := hL1.below hb2
  have hb02 := hb1.trans (hb2.mono hb1.size)
  clear hL1 hb1 hb2
  go_wp2_with fail
  refine (awake_true _ hL2).mono ?_
  rintro e w6 ⟨rfl, hb6⟩
  have hb06 := hb02.trans (hb6.mono hb02.size)
  go_wp2_with fail
  go_ret
  exact ⟨rfl, hb06⟩
end Go.Proofs.YtjpiplplohapnaaGreatDoor
namespace Go.Proofs.YtjpiplplohapnaaGreatDoor
open Go.ChangeShapes Go.WideShapes Go.ChangeAt Go.RowKit
open Go.ChangeMaps (open_string shut_string)
theorem ownP : ownKnob Tryz.prog.godebug = none := by kernel_rfl
theorem lt_of_wf {b : Nat} (h : (Lit.float .f64 b).wf = true) : b < 18446744073709551616 := by
  have h2 : decide (b < 2 ^ 64) = true := h
  exact of_decide_eq_true h2
set_option maxRecDepth 100000 in
theorem textPrints_lifted (os : Os) (started : os.Started) (H : Type) (enc : TypeId × Value → H) :
    ReturnsInHanded {} Tryz.checked os 4 .any (fun w args => (Rows.textPrintsSpec.pre enc Tryz.prog Tryz.f4 Rows.textPrintsRow.domain false w args ∧ laidMetH Tryz.prog laidL w) ∧ sizedMet enc Tryz.prog Tryz.f4 (OpenSpec.ofChange Rows.textPrintsSpec) false w args)
      (Rows.textPrintsSpec.post enc Tryz.prog Tryz.f4 false true false false) := by
  refine returnsInHanded_of_change_and (C := Tryz.checked) (X := fun w _ => laidMetH Tryz.prog laidL w) (fun _ _ _ hh h => h.of_heap hh) ownP started (by kernel_rfl) Tryz.func4
    (ChangeSpec.witness_shaped (enc := enc) (C := Tryz.checked) (os := os) (X := fun w _ => laidMetH Tryz.prog laidL w) false (World.laidAll Tryz.prog os laidL) #[.float .f64 0, .int .i64 0] 8 (World.laidAll_os _ _ _)
      (World.shaped_of_ZipB (by kernel_rfl) (by kernel_rfl)) (by kernel_rfl) (by kernel_rfl) (by kernel_rfl)
      (by rw [MakeChecks.laidMetH_plain _ _ _ (by kernel_rfl)]; exact laidMet_laidAll _ (by kernel_rfl) (by kernel_rfl))) ?_
  intro W base args ds gs before hval0 hW hc hsz0 hL _
  clear hc hsz0
  have hval : ∀ (j : Nat) t v, Tryz.f4.params[j]? = some t → args[j]? = some v → Value.okWide Tryz.prog W .any base t v := hval0
  have hW' := hW
  obtain ⟨p, q, hA0, hV, rfl, _, _⟩ := hW
  have hA : DataW.TrodAll enc Tryz.prog W 0 (fun _ => true) true Tryz.f4.params.toList args.toList ds p := hA0
  rw [Tryz.params4] at hA hval
  obtain ⟨v0, v1, d0, d1, p0, p1, rfl, rfl, rfl, h0, h1⟩ := trodAll_two hA
  obtain ⟨rfl, rfl⟩ := trodVars_none hV
  obtain ⟨x, rfl, rfl, rfl, wx⟩ := open_float Tryz.underlying22 (hval 0 22 v0 rfl rfl) h0
  obtain ⟨n, rfl, rfl, rfl, wn⟩ := open_int Tryz.underlying3 (hval 1 3 v1 rfl rfl) h1
  clear hA0 hval0
  simp only [List.append_nil] at hW'
  rw [MakeChecks.laidMetH_plain _ _ _ (by kernel_rfl)] at hL
  refine (textPrints_walk x (lt_of_wf wx) n W (laid_of_met hL) (met_cheats hL)).mono fun e W' ⟨he, hb⟩ => ?_
  subst he
  refine ⟨_, rfl, _, _, _, [], [], [], hW', ?_, ?_, rfl, hb.frame _, fun h => by cases h⟩
  · exact trodAll_mk1 (shut_bool Tryz.underlying4 _)
  · exact trodAll_mk2 (shut_float Tryz.underlying22 wx) (shut_int Tryz.underlying3 wn)
theorem textPrints_holds : Rows.TextPrintsSaid :=
  OpenClaim.holds_of_wide 4 Tryz.f4 rfl rfl rfl rfl rfl rfl rfl ⟨rfl, rfl, rfl, rfl, rfl⟩ rfl rfl rfl rfl rfl (by kernel_rfl) Tryz.func4 (by kernel_rfl)
    (of_decide_eq_true (by kernel_rfl)) (by unfold Func.isWrapper; first | (rw [if_pos (by decide +kernel)]; kernel_rfl) | (rw [if_neg (by decide +kernel)]; exact ⟨rfl, rfl⟩))
    (fun os started H enc _ => textPrints_lifted os started H enc)
#print axioms textPrints_holds
end Go.Proofs.YtjpiplplohapnaaGreatDoor
namespace Go.Proofs.YtjpiplplohapnaaGreatDoor
open Go
theorem textPrints_card : Rows.TextPrintsCardSaid :=
  Claim7.holds_tied_plain_at .later [] [.data, .data, .widerDeep, .widerDeep, .data, .data, .data, .data, .data, .data, .sentinel, .sentinel, .pinned, .pinned, .pinned] true (true, "88b106d7fc526b4d2f4990cd12e5310ed366ec0058fe55e1a106d0c7beb3aadc") true
    textPrints_holds (fun _ h => by cases h) (by kernel_rfl) (fun _ h => by cases h) textPrints_row_tie rfl ⟨rfl, rfl⟩ (by kernel_rfl) rfl
    (fun f fn hf hfn => by
      obtain rfl : f = 4 := Option.some.inj ((show Tryz.prog.funcNamed "tenor/tenorlaw2.TextPrints" = some 4 by kernel_rfl).symm.trans hf) |>.symm
      obtain rfl : fn = Tryz.f4 := (Option.some.inj (Tryz.func4.symm.trans hfn)).symm
      exact ⟨by kernel_rfl, fun j t ht => by
        rw [Tryz.params4] at ht
        have hm : t ∈ [22, 3] := by simpa using Array.mem_of_getElem? ht
        have hall : ([22, 3].all fun u => !Tryz.prog.wantsStandIn u) = true := by kernel_rfl
        exact (show Tryz.prog.wantsStandIn t = false by simpa using List.all_eq_true.1 hall t hm)⟩)
    (by kernel_rfl)
#print axioms textPrints_card
end Go.Proofs.YtjpiplplohapnaaGreatDoor
