/- Part 10 of the proof: Dm, Ds, Dv, Dw, Fx, Du. -/
import Derived.Test.YtjpiplplohapnaaGreatDoorPl9
set_option linter.unusedVariables false
set_option linter.unusedSimpArgs false
namespace Go.Proofs.YtjpiplplohapnaaGreatDoor
open Go.RowKit Go.Proofs.YtjpiplplohapnaaGreatDoorW.PrintWords
def Cheats (w : World) : Prop := ∃ a : Addr, w.cell? ⟨12, 0, none⟩ = some (.slice (some a) 61 61) ∧ ∀ k x, Pinned.cheatRows[k]? = some x → w.cell? (a.add (k * 2)) = some (.int .i64 x.1) ∧ w.cell? ⟨(a.add (k * 2)).block, (a.add (k * 2)).off + 1, none⟩ = some (.string ⟨x.2.toArray⟩)
theorem Cheats.below {w w' : World} (h : Cheats w) (hb : Below w.heap.size w w') : Cheats w' := by
  obtain ⟨a, h1, h2⟩ := h
  exact ⟨a, (hb.cell (World.block_lt_of_cell? w _ h1)).trans h1, fun k x hx => ⟨(hb.cell (World.block_lt_of_cell? w _ (h2 k x hx).1)).trans (h2 k x hx).1, (hb.cell (World.block_lt_of_cell? w _ (h2 k x hx).2)).trans (h2 k x hx).2⟩⟩
open Dc
structure Dc.Ls (d : Nat → Nat) (nd k : Nat) (d' : Nat → Nat) (L W : Nat) : Prop where
  lo : 10 ^ (L - 1) ≤ N (dig d nd) nd * 2 ^ k
  hi : N (dig d nd) nd * 2 ^ k < 10 ^ L
  wide : nd ≤ L ∧ L ≤ nd + 19
  wid : W = min 800 L
  dgs : ∀ i, i < W → d' i = 48 + N (dig d nd) nd * 2 ^ k / 10 ^ (L - 1 - i) % 10
def LsPost (g B : Nat) (d : Nat → Nat) (nd k : Nat) (dp : Int) (ng tr : Bool) (w : World) (e : Ending) (w' : World) : Prop :=
  e = .returned (.tuple #[]) ∧ Below B w w' ∧ ∃ d' L W, Ls d nd k d' L W ∧ IsDec w' g d' (tl d' W : Nat) (dpz (tl d' W) (dp + ((L - nd : Nat) : Int))) ng (tr || lostL (N (dig d nd) nd * 2 ^ k) L L)
set_option maxRecDepth 100000 in
set_option maxHeartbeats 2000000 in
theorem leftShift_walk (w : World) (hC : Cheats w) (g B : Nat) (hB : B ≤ g) (d : Nat → Nat) (nd k : Nat) (dp : Int) (ng tr : Bool) (hk1 : 1 ≤ k) (hk : k ≤ 60) (hnd0 : 0 < nd) (hnd : nd ≤ 800) (hdp1 : -100000 ≤ dp) (hdp2 : dp ≤ 100000)
    (hd : ∀ i, i < nd → 48 ≤ d i ∧ d i ≤ 57) (h0 : d 0 ≠ 48) (h : IsDec w g d nd dp ng tr) :
    Calls Tryz.prog 168 #[.pointer (some ⟨g, 0, none⟩), .int .u64 k] w (LsPost g B d nd k dp ng tr w) := by
  obtain ⟨x, hx, hrow⟩ := cheat_row k hk1 hk
  obtain ⟨a, hc0, hcs⟩ := hC
  obtain ⟨hc1, hc2⟩ := hcs k x hx
  clear hcs hx
  obtain ⟨delta, cut⟩ := x
  have hsum := hrow.sum
  have hone := hrow.one
  have hd1 := hrow.d1
  have hd2 := hrow.d2
  have hlen := hrow.len
  dsimp only at hc1 hc2 hsum hone hd1 hd2 hlen
  obtain ⟨s, hs⟩ : ∃ s : ByteArray, s = ⟨cut.toArray⟩ := ⟨_, rfl⟩
  have hsl : s.data.toList = cut := by rw [hs]
  have hss : s.size = cut.length := by rw [hs]; simp [ByteArray.size]
  rw [← hs] at hc2
  have he9 := dig_le hd
  have he0 : 1 ≤ dig d nd 0 := by unfold dig; rw [if_pos hnd0]; have := hd 0 hnd0; omega
  have hldl : ld s.data.toList (s.size - 1) ≠ 0 := by
    have h1 := hrow.last
    dsimp only at h1
    rw [hsl, hss]
    unfold ld
    rw [List.getLast?_eq_getElem?] at h1
    rw [List.getD_eq_getElem?_getD]
    have hlt : cut.length - 1 < cut.length := by omega
    rw [List.getElem?_eq_getElem hlt] at h1 ⊢
    have h2 := hrow.dgs cut[cut.length - 1] (List.getElem_mem hlt)
    show (cut[cut.length - 1]).toNat - 48 ≠ 0
    intro h3
    apply h1
    have h4 : cut[cut.length - 1] = 48 := UInt8.toNat_inj.1 (by show _ = 48; omega)
    rw [h4]
  have hval : N (ld s.data.toList) s.size = 5 ^ k := by
    rw [hss, hsl, ld_all]; exact hrow.val
  obtain ⟨X, hX⟩ : ∃ X, X = N (dig d nd) nd := ⟨_, rfl⟩
  have hX1 : 10 ^ (nd - 1) ≤ X := by
    obtain ⟨j, hj⟩ : ∃ j, nd = j + 1 := ⟨nd - 1, by omega⟩
    rw [hX, hj, Nat.add_sub_cancel]
    rw [hj] at he0
    exact N_big he0 j
  have hX2 : X < 10 ^ nd := by rw [hX]; exact N_lt he9 nd
  obtain ⟨less, hless⟩ : ∃ b, b = decide (N (dig d nd) cut.length < 5 ^ k) := ⟨_, rfl⟩
  have hPre : ∀ m, Calls Tryz.prog 188 #[.slice (some ⟨g, 0, none⟩) nd 800, .string s] (w.drewN m) fun e w' => e = .returned (.bool less) ∧ ∃ n, w' = (w.drewN m).drewN n := fun m => by
    have := prefix_walk (w.drewN m) g d nd dp ng tr hnd hd (h.drewN m) s (by rw [hss]; exact hlen) (by rw [hss]; exact hone) (by rw [hsl]; exact hrow.dgs) hldl
    rw [hval, hss, ← hless] at this
    exact this
  obtain ⟨dl, hdl⟩ : ∃ dl : Nat, dl = if less then delta - 1 else delta := ⟨_, rfl⟩
  have hcmp := lead_cmp he9 (nd := nd) (L := cut.length) (C := 5 ^ k) (fun i hi => by unfold dig; rw [if_neg (by omega)])
  rw [← hX] at hcmp
  have hY : 10 ^ (nd + dl - 1) ≤ X * 2 ^ k ∧ X * 2 ^ k < 10 ^ (nd + dl) := by
    by_cases hc : N (dig d nd) cut.length < 5 ^ k
    · rw [hdl, hless, decide_eq_true hc, if_pos rfl]
      exact width_less hnd0 hX1 hsum hd1 hrow.hi (hcmp.2 hc)
    rw [hdl, hless, decide_eq_false hc, if_neg (by decide)]
    exact width_more hnd0 hX1 hX2 hsum hone hrow.lo (hcmp.1 (by omega))
  have hdl19 : dl ≤ 19 := by rw [hdl]; split <;> omega
  obtain ⟨P, hP⟩ : ∃ P, P = 2 ^ k := ⟨_, rfl⟩
  have hPp : 0 < P := by rw [hP]; exact Nat.pow_pos (by decide)
  have hP60 : P ≤ 1152921504606846976 := by
    have hp : 2 ^ k ≤ 2 ^ 60 := Nat.pow_le_pow_right (by decide) hk
    have h60 : (2 : Nat) ^ 60 = 1152921504606846976 := by decide
    omega
  have hdlI : (delta : Int) - 1 = ((delta - 1 : Nat) : Int) := by omega
  have hdlW : IntKind.i64.wrap ((delta : Int) - 1) = ((delta - 1 : Nat) : Int) := by rw [Go.IntKind.wrap_i64]; omega
  have HPre := Lib.hid hPre
  have HD := Lib.hid h
  have HdD := Lib.hid hd
  have HX := Lib.hid hX
  have HX2 := Lib.hid hX2
  have HY := Lib.hid hY
  have HP := Lib.hid hP
  have HDl := Lib.hid hdl
  have cnd := h.cnd
  have kI : (k : Int) < 61 := by omega
  have kI2 : (k : Int) ≤ 64 := by omega
  have kI0 : (0 : Int) ≤ k := by omega
  have ndI : (nd : Int) ≤ 800 := by omega
  have ndI0 : (0 : Int) ≤ nd := by omega
  clear hPre h hd hX hX1 hX2 hY hP hdl hcmp hless hrow hsum hone hlen hs hsl hss hldl hval h0
  go_enter Tryz.func168, Tryz.ntmps168
  go_wp2_with fail
  go_quiet ((go_at_call 188; (refine (HPre.out _).mono ?_); rintro e w' ⟨rfl, ⟨nd, rfl⟩⟩; first | exact ⟨rfl, _, World.drewN_drewN _ _ _⟩ | exact ⟨rfl, _, Eq.trans (World.drewN_drewN _ _ _) (congrArg (World.drewN _) (Nat.add_assoc _ _ _))⟩))
  clear HPre
  go_upto_if 30 with (fail)
  go_cut [4] (fun v4 w' => v4 = .int .i64 dl ∧ IsDec w' g d nd dp ng tr ∧ Below B w w')
  case first =>
    have hb0 := below_drewN (Below.refl B w) nq
    have hd0 := HD.out.drewN nq
    cases less
    · have hdv : delta = dl := by rw [HDl.out]; rfl
      subst hdv
      go_wp2_with fail
      go_meet
      case rel => exact ⟨rfl, hd0, hb0⟩
    have hdv : delta - 1 = dl := by rw [HDl.out]; rfl
    rw [hdv] at hdlW hdlI
    have HV := Lib.hid hdv
    clear hdv
    go_wp2_with fail
    go_meet
    case rel => exact ⟨rfl, hd0, hb0⟩
  obtain ⟨rfl, hD0, hb0⟩ := hcut
  clear hdlI hdlW hc0 hc1 hc2 cnd
  have cnd := hD0.cnd
  obtain ⟨L, hL⟩ : ∃ L, L = nd + dl := ⟨_, rfl⟩
  have wL : IntKind.i64.wrap ((nd : Int) + dl) = (L : Int) := by rw [Go.IntKind.wrap_i64]; omega
  have wL2 : (nd : Int) + dl = (L : Int) := by omega
  have wN : IntKind.i64.wrap ((nd : Int) - 1) = (nd : Int) - 1 := by rw [Go.IntKind.wrap_i64]; omega
  have HL : Hid (L = nd + dl) := Lib.hid hL
  have hY1 : 10 ^ (L - 1) ≤ X * P := by rw [hL, HP.out]; exact HY.out.1
  have hY2 : X * P < 10 ^ L := by rw [hL, HP.out]; exact HY.out.2
  have HY1 := Lib.hid hY1
  have HY2 := Lib.hid hY2
  clear hL hY1 hY2 HDl
  go_step
  go_upto_block 0 with (fail)
  go_cut [6, 7] (fun v6 v7 w' => ∃ (v n : Nat) (d' : Nat → Nat), v6 = .int .i64 v ∧ v7 = .int .u64 n ∧ Hid (v + nd = L ∧ n = cr X P nd ∧ (∀ i, v ≤ i → i < min 800 L → d' i = 48 + X * P / 10 ^ (L - 1 - i) % 10)) ∧ IsDec w' g d' nd dp ng (tr || lostL (X * P) L nd) ∧ Below B w w')
  case first =>
    go_wp2_with fail
    go_loopg [5, 6, 7] nd (fun gn v5 v6 v7 w' => ∃ (j v n : Nat) (r : Int) (d' : Nat → Nat), v5 = .int .i64 r ∧ v6 = .int .i64 v ∧ v7 = .int .u64 n ∧ Hid (gn + j = nd ∧ r = (nd : Int) - 1 - j ∧ v + j = L ∧ n = cr X P j ∧ (∀ i, v ≤ i → i < min 800 L → d' i = 48 + X * P / 10 ^ (L - 1 - i) % 10) ∧ (∀ i, i < nd - j → d' i = d i)) ∧ IsDec w' g d' nd dp ng (tr || lostL (X * P) L j) ∧ Below B w w')
    case atStart => exact ⟨0, L, 0, (nd : Int) - 1, d, rfl, rfl, rfl, Lib.hid ⟨by omega, by omega, by omega, (cr_zero X P).symm, fun i h1 h2 => absurd h2 (by omega), fun i _ => rfl⟩, by rw [lostL, Bool.or_false]; exact hD0, hb0⟩
    case round =>
      obtain ⟨j, v, n, r, d', rfl, rfl, rfl, hH, hD', hb⟩ := hrel
      obtain ⟨hg, hr, hv, hn, hq, hun⟩ := hH.out
      by_cases hj : j < nd
      · obtain ⟨rn, hrn⟩ : ∃ rn : Nat, rn = nd - 1 - j := ⟨_, rfl⟩
        have hre : r = (rn : Int) := by omega
        subst hre
        have g0 : (0 : Int) ≤ rn := by omega
        have rI : (rn : Int) < 800 := by omega
        have cb := hD'.byte rn (by omega)
        rw [hun rn (by omega)] at cb
        have hby := HdD.out rn (by omega)
        have hfd : d rn - 48 = X / 10 ^ j % 10 := by
          have h1 := N_div he9 (nd - j) j
          rw [show nd - j + j = nd by omega, ← HX.out] at h1
          rw [h1, show nd - j = rn + 1 by omega, N_succ]
          have h2 := he9 rn
          have h3 : dig d nd rn = d rn - 48 := by unfold dig; rw [if_pos (by omega)]
          omega
        have hcn := cr_next X P j
        have hcd := cr_digit X P j
        have hcl := cr_lt X P j hPp
        rw [← hn, ← hfd] at hcn hcd
        rw [← hn] at hcl
        obtain ⟨c, hc⟩ : ∃ c, c = d rn := ⟨_, rfl⟩
        rw [← hc] at cb hby hcn hcd
        obtain ⟨f, hf⟩ : ∃ f, f = c - 48 := ⟨_, rfl⟩
        rw [← hf] at hcn hcd
        obtain ⟨S, hS⟩ : ∃ S, S = f * P := ⟨_, rfl⟩
        rw [← hS] at hcn hcd
        have hS9 : S ≤ 9 * P := by rw [hS]; exact Nat.mul_le_mul_right _ (by omega)
        have x0 : IntKind.u64.wrap (c : Int) = (c : Int) := by rw [Go.IntKind.wrap_u64]; omega
        have x1 : IntKind.u64.wrap ((c : Int) - 48) = (f : Int) := by rw [Go.IntKind.wrap_u64]; omega
        have x1b : (c : Int) - 48 = (f : Int) := by omega
        have x2 : IntKind.u64.wrap ((f : Int) * 2 ^ k) = (S : Int) := by
          have e : ((2 : Int) ^ k) = ((P : Nat) : Int) := by rw [HP.out, Int.natCast_pow]; rfl
          have e2 : (f : Int) * (P : Int) = (S : Int) := by rw [hS, Int.natCast_mul]
          rw [e, e2, Go.IntKind.wrap_u64]; omega
        obtain ⟨n2, hn2⟩ : ∃ n2, n2 = n + S := ⟨_, rfl⟩
        rw [← hn2] at hcn hcd
        have x3 : IntKind.u64.wrap ((n : Int) + (S : Int)) = (n2 : Int) := by rw [Go.IntKind.wrap_u64]; omega
        have x3b : (n : Int) + (S : Int) = (n2 : Int) := by omega
        have xf : IntKind.u64.wrap (f : Int) = (f : Int) := by rw [Go.IntKind.wrap_u64]; omega
        have xS : IntKind.u64.wrap (S : Int) = (S : Int) := by rw [Go.IntKind.wrap_u64]; omega
        have xn2 : IntKind.u64.wrap (n2 : Int) = (n2 : Int) := by rw [Go.IntKind.wrap_u64]; omega
        have XR := Lib.hid (show IntKind.i64.wrap ((rn : Int) - 1) = (rn : Int) - 1 by rw [Go.IntKind.wrap_i64]; omega)
        obtain ⟨q, hqq⟩ : ∃ q, q = n2 / 10 := ⟨_, rfl⟩
        obtain ⟨m, hm⟩ : ∃ m, m = n2 % 10 := ⟨_, rfl⟩
        rw [← hqq] at hcn
        rw [← hm] at hcd
        have F2 : Hid ((n2 : Int) / 10 = (q : Int) ∧ Int.tdiv (n2 : Int) 10 = (q : Int) ∧ IntKind.u64.wrap (q : Int) = (q : Int)) := Lib.hid ⟨by omega, by rw [Int.tdiv_eq_ediv_of_nonneg (by omega)]; omega, by rw [Go.IntKind.wrap_u64]; omega⟩
        have F3 : Hid (IntKind.u64.wrap (10 * (q : Int)) = 10 * (q : Int) ∧ IntKind.u64.wrap ((n2 : Int) - 10 * (q : Int)) = (m : Int) ∧ (n2 : Int) - 10 * (q : Int) = (m : Int) ∧ IntKind.u64.wrap (m : Int) = (m : Int)) := Lib.hid ⟨by rw [Go.IntKind.wrap_u64]; omega, by rw [Go.IntKind.wrap_u64]; omega, by omega, by rw [Go.IntKind.wrap_u64]; omega⟩
        obtain ⟨v2, hv2⟩ : ∃ v2, v2 = v - 1 := ⟨_, rfl⟩
        have hL819 : L ≤ 819 := by have := HL.out; omega
        have F4 : Hid (IntKind.i64.wrap ((v : Int) - 1) = (v2 : Int) ∧ (v : Int) - 1 = (v2 : Int) ∧ (v2 : Int) < 1000 ∧ wrap64 ((v : Int) - 1) = (v2 : Int) ∧ v2 < 1000 ∧ (0 : Int) ≤ v2) := Lib.hid ⟨by rw [Go.IntKind.wrap_i64]; omega, by omega, by omega, by unfold wrap64; omega, by omega, by omega⟩
        have F5 : Hid (IntKind.u64.wrap ((m : Int) + 48) = (m : Int) + 48 ∧ IntKind.u8.wrap ((m : Int) + 48) = ((48 + m : Nat) : Int) ∧ ((m : Int) + 48) % 256 = ((48 + m : Nat) : Int)) := Lib.hid ⟨by rw [Go.IntKind.wrap_u64]; omega, by rw [Go.IntKind.wrap_u8]; omega, by omega⟩
        have hpos : X * P / 10 ^ (L - 1 - v2) % 10 = m := by rw [show L - 1 - v2 = j by omega]; exact hcd.symm
        have hLj : L - (j + 1) = v2 := by omega
        have hvj : v2 + (j + 1) = L := by omega
        have HQ8 : Hid (v2 < 800 → ∀ i, v2 ≤ i → i < min 800 L → upd d' v2 (48 + m) i = 48 + X * P / 10 ^ (L - 1 - i) % 10) := Lib.hid fun h8 i h1 h2 => by
          unfold upd
          by_cases e : i = v2
          · rw [if_pos e, e, hpos]
          rw [if_neg e]; exact hq i (by omega) h2
        have HL8 : Hid (v2 < 800 → lostL (X * P) L (j + 1) = lostL (X * P) L j) := Lib.hid fun h8 => by
          rw [lostL, hLj, decide_eq_false (show ¬ 800 ≤ v2 by omega)]; simp
        obtain ⟨bz, hbz⟩ : ∃ b : Bool, ((m : Int) != 0) = b := ⟨_, rfl⟩
        have HLz : Hid (800 ≤ v2 → lostL (X * P) L (j + 1) = (lostL (X * P) L j || bz)) := Lib.hid fun h8 => by
          rw [lostL, hLj, ← hcd, decide_eq_true h8, Bool.true_and, ← hbz]
          congr 1
          by_cases h0 : m = 0
          · rw [h0]; rfl
          rw [decide_eq_true h0]; simp; omega
        have HR : Hid ((gk - 1 < gk ∧ gk - 1 + (j + 1) = nd ∧ (rn : Int) - 1 = (nd : Int) - 1 - ((j + 1 : Nat) : Int) ∧ v2 + (j + 1) = L) ∧ q = cr X P (j + 1) ∧ (∀ i, i < nd - (j + 1) → d' i = d i) ∧ (∀ i, i < nd - (j + 1) → upd d' v2 (48 + m) i = d i)) := Lib.hid ⟨⟨by omega, by omega, by omega, by omega⟩, hcn, fun i hi => hun i (by omega), fun i hi => by unfold upd; rw [if_neg (by omega)]; exact hun i (by omega)⟩
        have HBZ := Lib.hid hbz
        have HD' := Lib.hid hD'
        clear hH hg hr hv hn hq hun hj hrn hby hfd hcn hcd hcl hc hf hS hS9 hn2 hqq hm hv2 hpos hLj hvj hD' hbz hL819
        go_upto_region 10 with (fail)
        clear x0 x1 x1b x2 x3 x3b xf xS cb g0 rI
        obtain ⟨x4, x4b, xq⟩ := F2.out
        go_upto_region 11 with (fail)
        clear x4 x4b
        obtain ⟨x5, x6, x6b, xm⟩ := F3.out
        go_upto_region 12 with (fail)
        clear x5 x6 x6b xn2
        obtain ⟨x7, x7b, xv, xw, xv2, xv0⟩ := F4.out
        go_upto_region 13 with (fail)
        clear x7 x7b xq xw
        by_cases h8 : v2 < 800
        · have vI : (v2 : Int) < 800 := by omega
          have vI0 : (0 : Int) ≤ v2 := by omega
          have cv := HD'.out.byte v2 h8
          have fb := HD'.out.frozen v2
          generalize d' v2 = dv at cv
          obtain ⟨x8, x9, x9b⟩ := F5.out
          go_upto_region 17 with (fail)
          clear x8 x9 x9b cv fb vI vI0
          have xr := XR.out
          go_wp2_with fail
          go_roundg (gk - 1)
          case measure => exact HR.out.1.1
          case rel => exact ⟨j + 1, v2, q, (rn : Int) - 1, upd d' v2 (48 + m), rfl, rfl, rfl, Lib.hid ⟨HR.out.1.2.1, HR.out.1.2.2.1, HR.out.1.2.2.2, HR.out.2.1, HQ8.out h8, HR.out.2.2.2⟩, by rw [HL8.out h8]; exact HD'.out.setByte _ _ h8, hb.setCell hB _⟩
        have vI : ¬ (v2 : Int) < 800 := by omega
        have hbz := HBZ.out
        go_upto_if 80 with (fail)
        clear hbz vI xm
        have ctr := HD'.out.ctr
        have ftr := HD'.out.frozen 803
        have xr := XR.out
        have HQ : Hid (∀ i, v2 ≤ i → i < min 800 L → d' i = 48 + X * P / 10 ^ (L - 1 - i) % 10) := Lib.hid fun i h1 h2 => absurd h2 (by omega)
        cases bz
        · go_wp2_with fail
          go_roundg (gk - 1)
          case measure => exact HR.out.1.1
          case rel => exact ⟨j + 1, v2, q, (rn : Int) - 1, d', rfl, rfl, rfl, Lib.hid ⟨HR.out.1.2.1, HR.out.1.2.2.1, HR.out.1.2.2.2, HR.out.2.1, HQ.out, HR.out.2.2.1⟩, by rw [HLz.out (by omega), Bool.or_false]; exact HD'.out, hb⟩
        go_wp2_with fail
        go_roundg (gk - 1)
        case measure => exact HR.out.1.1
        case rel => exact ⟨j + 1, v2, q, (rn : Int) - 1, d', rfl, rfl, rfl, Lib.hid ⟨HR.out.1.2.1, HR.out.1.2.2.1, HR.out.1.2.2.2, HR.out.2.1, HQ.out, HR.out.2.2.1⟩, by rw [HLz.out (by omega), Bool.or_true, Bool.or_true]; exact HD'.out.setTr true, hb.setCell hB _⟩
      have hje : j = nd := by omega
      subst hje
      have g0 : ¬ (0 : Int) ≤ r := by omega
      have HR : Hid (v + j = L ∧ n = cr X P j ∧ (∀ i, v ≤ i → i < min 800 L → d' i = 48 + X * P / 10 ^ (L - 1 - i) % 10)) := Lib.hid ⟨hv, hn, hq⟩
      clear hH hg hr hv hn hq hun hj
      go_wp2_with fail
      go_meet
      case rel => exact ⟨v, n, d', rfl, rfl, HR, hD', hb⟩
  obtain ⟨v1, n1, d1, rfl, rfl, hH1, hD1, hb1⟩ := hcut
  clear hD0 hb0 cnd wL wL2 wN
  go_step
  go_upto_block 2 with (fail)
  go_cut [] (fun w' => ∃ (d' : Nat → Nat), Hid (∀ i, i < min 800 L → d' i = 48 + X * P / 10 ^ (L - 1 - i) % 10) ∧ IsDec w' g d' nd dp ng (tr || lostL (X * P) L L) ∧ Below B w w')
  case first =>
    go_wp2_with fail
    go_loopg [6, 7] L (fun gn v6 v7 w' => ∃ (j v n : Nat) (d' : Nat → Nat), v6 = .int .i64 v ∧ v7 = .int .u64 n ∧ Hid (gn = v ∨ L ≤ gn) ∧ Hid (v + j = L ∧ nd ≤ j ∧ n = cr X P j ∧ (∀ i, v ≤ i → i < min 800 L → d' i = 48 + X * P / 10 ^ (L - 1 - i) % 10)) ∧ IsDec w' g d' nd dp ng (tr || lostL (X * P) L j) ∧ Below B w w')
    case atStart => exact ⟨nd, v1, n1, d1, rfl, rfl, Lib.hid (Or.inr (Nat.le_refl _)), Lib.hid ⟨hH1.out.1, Nat.le_refl _, hH1.out.2.1, hH1.out.2.2⟩, hD1, hb1⟩
    case round =>
      obtain ⟨j, v, n, d', rfl, rfl, hG, hH, hD', hb⟩ := hrel
      obtain ⟨hv, hnj, hn, hq⟩ := hH.out
      have hend := cr_end (P := P) HX2.out j hnj
      rw [← hn] at hend
      clear hH1 hD1 hb1
      by_cases hz : n = 0
      · subst hz
        have hv0 : v = 0 := by
          rcases Nat.eq_zero_or_pos v with h1 | h1
          · exact h1
          exfalso
          have h2 : 10 ^ j ≤ 10 ^ (L - 1) := Nat.pow_le_pow_right (by decide) (by omega)
          have h3 : 0 < X * P / 10 ^ j := Nat.div_pos (Nat.le_trans h2 HY1.out) (Nat.pow_pos (by decide))
          omega
        have hjL : j = L := by omega
        subst hjL
        have HR : Hid (∀ i, i < min 800 j → d' i = 48 + X * P / 10 ^ (j - 1 - i) % 10) := Lib.hid fun i hi => hq i (by omega) hi
        clear hH hv hnj hn hq hend hv0 hG
        go_wp2_with fail
        go_meet
        case rel => exact ⟨d', HR, hD', hb⟩
      have hjL : j < L := by
        rcases Nat.lt_or_ge j L with h1 | h1
        · exact h1
        exfalso
        have h2 : 10 ^ L ≤ 10 ^ j := Nat.pow_le_pow_right (by decide) h1
        have h3 : X * P / 10 ^ j = 0 := Nat.div_eq_of_lt (Nat.lt_of_lt_of_le HY2.out h2)
        omega
      have hf0 : X / 10 ^ j % 10 = 0 := by
        rw [Nat.div_eq_of_lt (Nat.lt_of_lt_of_le HX2.out (Nat.pow_le_pow_right (by decide) hnj))]
      have hcn := cr_next X P j
      have hcd := cr_digit X P j
      have hcl := cr_lt X P j hPp
      rw [hf0, Nat.zero_mul, Nat.add_zero, ← hn] at hcn hcd
      rw [← hn] at hcl
      obtain ⟨n2, hn2⟩ : ∃ n2, n2 = n := ⟨_, rfl⟩
      rw [← hn2] at hcn hcd
      have hS9 : n2 < 1152921504606846976 := by omega
      obtain ⟨q, hqq⟩ : ∃ q, q = n2 / 10 := ⟨_, rfl⟩
      obtain ⟨m, hm⟩ : ∃ m, m = n2 % 10 := ⟨_, rfl⟩
      rw [← hqq] at hcn
      rw [← hm] at hcd
      have F2 : Hid ((n2 : Int) / 10 = (q : Int) ∧ Int.tdiv (n2 : Int) 10 = (q : Int) ∧ IntKind.u64.wrap (q : Int) = (q : Int)) := Lib.hid ⟨by omega, by rw [Int.tdiv_eq_ediv_of_nonneg (by omega)]; omega, by rw [Go.IntKind.wrap_u64]; omega⟩
      have F3 : Hid (IntKind.u64.wrap (10 * (q : Int)) = 10 * (q : Int) ∧ IntKind.u64.wrap ((n2 : Int) - 10 * (q : Int)) = (m : Int) ∧ (n2 : Int) - 10 * (q : Int) = (m : Int) ∧ IntKind.u64.wrap (m : Int) = (m : Int)) := Lib.hid ⟨by rw [Go.IntKind.wrap_u64]; omega, by rw [Go.IntKind.wrap_u64]; omega, by omega, by rw [Go.IntKind.wrap_u64]; omega⟩
      obtain ⟨v2, hv2⟩ : ∃ v2, v2 = v - 1 := ⟨_, rfl⟩
      have hL819 : L ≤ 819 := by have := HL.out; omega
      have F4 : Hid (IntKind.i64.wrap ((v : Int) - 1) = (v2 : Int) ∧ (v : Int) - 1 = (v2 : Int) ∧ (v2 : Int) < 1000 ∧ wrap64 ((v : Int) - 1) = (v2 : Int) ∧ v2 < 1000 ∧ (0 : Int) ≤ v2) := Lib.hid ⟨by rw [Go.IntKind.wrap_i64]; omega, by omega, by omega, by unfold wrap64; omega, by omega, by omega⟩
      have F5 : Hid (IntKind.u64.wrap ((m : Int) + 48) = (m : Int) + 48 ∧ IntKind.u8.wrap ((m : Int) + 48) = ((48 + m : Nat) : Int) ∧ ((m : Int) + 48) % 256 = ((48 + m : Nat) : Int)) := Lib.hid ⟨by rw [Go.IntKind.wrap_u64]; omega, by rw [Go.IntKind.wrap_u8]; omega, by omega⟩
      have hpos : X * P / 10 ^ (L - 1 - v2) % 10 = m := by rw [show L - 1 - v2 = j by omega]; exact hcd.symm
      have hLj : L - (j + 1) = v2 := by omega
      have HQ8 : Hid (v2 < 800 → ∀ i, v2 ≤ i → i < min 800 L → upd d' v2 (48 + m) i = 48 + X * P / 10 ^ (L - 1 - i) % 10) := Lib.hid fun h8 i h1 h2 => by
        unfold upd
        by_cases e : i = v2
        · rw [if_pos e, e, hpos]
        rw [if_neg e]; exact hq i (by omega) h2
      have HL8 : Hid (v2 < 800 → lostL (X * P) L (j + 1) = lostL (X * P) L j) := Lib.hid fun h8 => by
        rw [lostL, hLj, decide_eq_false (show ¬ 800 ≤ v2 by omega)]; simp
      obtain ⟨bz, hbz⟩ : ∃ b : Bool, ((m : Int) != 0) = b := ⟨_, rfl⟩
      have HLz : Hid (800 ≤ v2 → lostL (X * P) L (j + 1) = (lostL (X * P) L j || bz)) := Lib.hid fun h8 => by
        rw [lostL, hLj, ← hcd, decide_eq_true h8, Bool.true_and, ← hbz]
        congr 1
        by_cases h0 : m = 0
        · rw [h0]; rfl
        rw [decide_eq_true h0]; simp; omega
      have HR : Hid (v2 < gk ∧ v2 + (j + 1) = L ∧ nd ≤ j + 1 ∧ q = cr X P (j + 1)) := Lib.hid ⟨by have := hG.out; omega, by omega, by omega, hcn⟩
      have HBZ := Lib.hid hbz
      have HD' := Lib.hid hD'
      have g0 : (0 : Int) < n := by omega
      have HN2 := Lib.hid hn2
      clear hH hv hnj hn hq hend hz hjL hf0 hcn hcd hcl hS9 hqq hm hv2 hL819 hpos hLj hD' hbz hG
      subst hn2
      go_upto_region 19 with (fail)
      clear g0
      obtain ⟨x4, x4b, xq⟩ := F2.out
      go_upto_region 20 with (fail)
      clear x4 x4b
      obtain ⟨x5, x6, x6b, xm⟩ := F3.out
      go_upto_region 21 with (fail)
      clear x5 x6 x6b
      obtain ⟨x7, x7b, xv, xw, xv2, xv0⟩ := F4.out
      go_upto_region 22 with (fail)
      clear x7 x7b xq xw
      by_cases h8 : v2 < 800
      · have vI : (v2 : Int) < 800 := by omega
        have vI0 : (0 : Int) ≤ v2 := by omega
        have cv := HD'.out.byte v2 h8
        have fb := HD'.out.frozen v2
        generalize d' v2 = dv at cv
        obtain ⟨x8, x9, x9b⟩ := F5.out
        go_upto_region 26 with (fail)
        clear x8 x9 x9b cv fb vI vI0
        go_wp2_with fail
        go_roundg v2
        case measure => exact HR.out.1
        case rel => exact ⟨j + 1, v2, q, upd d' v2 (48 + m), rfl, rfl, Lib.hid (Or.inl rfl), Lib.hid ⟨HR.out.2.1, HR.out.2.2.1, HR.out.2.2.2, HQ8.out h8⟩, by rw [HL8.out h8]; exact HD'.out.setByte _ _ h8, hb.setCell hB _⟩
      have vI : ¬ (v2 : Int) < 800 := by omega
      have hbz := HBZ.out
      go_upto_if 106 with (fail)
      clear hbz vI xm
      have ctr := HD'.out.ctr
      have ftr := HD'.out.frozen 803
      have HQ : Hid (∀ i, v2 ≤ i → i < min 800 L → d' i = 48 + X * P / 10 ^ (L - 1 - i) % 10) := Lib.hid fun i h1 h2 => absurd h2 (by omega)
      cases bz
      · go_wp2_with fail
        go_roundg v2
        case measure => exact HR.out.1
        case rel => exact ⟨j + 1, v2, q, d', rfl, rfl, Lib.hid (Or.inl rfl), Lib.hid ⟨HR.out.2.1, HR.out.2.2.1, HR.out.2.2.2, HQ.out⟩, by rw [HLz.out (by omega), Bool.or_false]; exact HD'.out, hb⟩
      go_wp2_with fail
      go_roundg v2
      case measure => exact HR.out.1
      case rel => exact ⟨j + 1, v2, q, d', rfl, rfl, Lib.hid (Or.inl rfl), Lib.hid ⟨HR.out.2.1, HR.out.2.2.1, HR.out.2.2.2, HQ.out⟩, by rw [HLz.out (by omega), Bool.or_true, Bool.or_true]; exact HD'.out.setTr true, hb.setCell hB _⟩
  obtain ⟨d', hH, hD', hb⟩ := hcut
  clear hH1 hD1 hb1
  have cnd := hD'.cnd
  have fnd := hD'.frozen 800
  have cdp := hD'.cdp
  have fdp := hD'.frozen 801
  obtain ⟨W, hW⟩ : ∃ W, W = min 800 L := ⟨_, rfl⟩
  have hW8 : W ≤ 800 := by omega
  have hL8 : L ≤ 819 := by have := HL.out; omega
  have hLdl : L - nd = dl := by have := HL.out; omega
  obtain ⟨dp', hdp'⟩ : ∃ dp' : Int, dp' = dp + (dl : Int) := ⟨_, rfl⟩
  have W1 : Hid (IntKind.i64.wrap (dp + (dl : Int)) = dp' ∧ wrap64 (dp + (dl : Int)) = dp') := Lib.hid ⟨by rw [hdp', Go.IntKind.wrap_i64]; omega, by unfold wrap64; omega⟩
  have WL : Hid (IntKind.i64.wrap ((nd : Int) + dl) = (L : Int) ∧ wrap64 ((nd : Int) + dl) = (L : Int)) := Lib.hid ⟨by have := HL.out; rw [Go.IntKind.wrap_i64]; omega, by have := HL.out; unfold wrap64; omega⟩
  have HTrim := Lib.hid (fun w1 h1 => trim_walk w1 g B hB d' W dp' ng (tr || lostL (X * P) L L) hW8 h1)
  have HLs : Hid (Ls d nd k d' L W) := Lib.hid ⟨by rw [← HX.out, ← HP.out]; exact HY1.out, by rw [← HX.out, ← HP.out]; exact HY2.out, by have := HL.out; omega, hW, by rw [← HX.out, ← HP.out, hW]; exact hH.out⟩
  have HF : Hid (dpz (tl d' W) (dp + ((L - nd : Nat) : Int)) = dpz (tl d' W) dp' ∧ lostL (N (dig d nd) nd * 2 ^ k) L L = lostL (X * P) L L) := Lib.hid ⟨by rw [hLdl, hdp'], by rw [← HX.out, ← HP.out]⟩
  have HW := Lib.hid hW
  by_cases hge : 800 ≤ L
  · have g1 : (800 : Int) ≤ L := by omega
    have g2 : decide ((800 : Int) ≤ (L : Int)) = true := decide_eq_true g1
    have hWe : W = 800 := by omega
    subst hWe
    have HD' := Lib.hid (((hD'.setNd (L : Int)).setNd 800).setDp dp')
    have HB3 := Lib.hid (((hb.setCell (p := ⟨g, 800, none⟩) hB (.int .i64 L)).setCell (p := ⟨g, 800, none⟩) hB (.int .i64 800)).setCell (p := ⟨g, 801, none⟩) hB (.int .i64 dp'))
    have G := Lib.hid (And.intro g1 g2)
    clear hH hW hdp' hLdl hD' hW8 hL8 hge g1 g2 hdp1 hdp2
    obtain ⟨wL, wL3⟩ := WL.out
    go_upto_region 28 with (fail)
    clear wL wL3
    obtain ⟨g1, g2⟩ := G.out
    go_upto_region 30 with (fail)
    clear g1 g2
    obtain ⟨w1, w2⟩ := W1.out
    go_upto_region 31 with (fail)
    clear w1 w2
    go_wp2_with fail
    refine (HTrim.out _ HD'.out).mono ?_
    rintro e w2 ⟨rfl, hb2, hd2⟩
    have HFin := Lib.hid hd2
    clear hd2 HTrim
    have hb3 := HB3.out.trans hb2
    go_wp2_with fail
    go_end0
    refine ⟨rfl, hb3, d', L, 800, HLs.out, ?_⟩
    rw [HF.out.1, HF.out.2]
    exact HFin.out
  have g1 : ¬ (800 : Int) ≤ L := by omega
  have g2 : decide ((800 : Int) ≤ (L : Int)) = false := decide_eq_false g1
  have hWe : W = L := by omega
  subst hWe
  have HD' := Lib.hid ((hD'.setNd (W : Int)).setDp dp')
  have HB3 := Lib.hid ((hb.setCell (p := ⟨g, 800, none⟩) hB (.int .i64 W)).setCell (p := ⟨g, 801, none⟩) hB (.int .i64 dp'))
  have G := Lib.hid (And.intro g1 g2)
  clear hH hW hdp' hLdl hD' hW8 hL8 hge g1 g2 hdp1 hdp2
  obtain ⟨wL, wL3⟩ := WL.out
  go_upto_region 28 with (fail)
  clear wL wL3
  obtain ⟨g1, g2⟩ := G.out
  go_upto_region 30 with (fail)
  clear g1 g2
  obtain ⟨w1, w2⟩ := W1.out
  go_upto_region 31 with (fail)
  clear w1 w2
  go_wp2_with fail
  refine (HTrim.out _ HD'.out).mono ?_
  rintro e w2 ⟨rfl, hb2, hd2⟩
  have HFin := Lib.hid hd2
  clear hd2 HTrim
  have hb3 := HB3.out.trans hb2
  go_wp2_with fail
  go_end0
  refine ⟨rfl, hb3, d', W, W, HLs.out, ?_⟩
  rw [HF.out.1, HF.out.2]
  exact HFin.out
end Go.Proofs.YtjpiplplohapnaaGreatDoor
namespace Go.Proofs.YtjpiplplohapnaaGreatDoor
open Go.RowKit Go.Proofs.YtjpiplplohapnaaGreatDoorW.PrintWords
namespace Dc
structure St where
  d : Nat → Nat
  nd : Nat
  dp : Int
  tr : Bool
structure Norm (s : St) : Prop where
  pos : 0 < s.nd
  le : s.nd ≤ 800
  dgs : ∀ i, i < s.nd → 48 ≤ s.d i ∧ s.d i ≤ 57
  first : s.d 0 ≠ 48
  last : s.d (s.nd - 1) ≠ 48
def St.is (s : St) (w : World) (g : Nat) (ng : Bool) : Prop := IsDec w g s.d s.nd s.dp ng s.tr
def RStep (k : Nat) (s t : St) : Prop := ∃ r0 T W, Rs s.d s.nd k t.d r0 T W ∧ t.nd = tl t.d W ∧ t.dp = s.dp - ((r0 : Int) - 1) ∧ t.tr = (s.tr || lost (dig s.d s.nd) (2 ^ k) r0 (T - r0))
def LStep (k : Nat) (s t : St) : Prop := ∃ L W, Ls s.d s.nd k t.d L W ∧ t.nd = tl t.d W ∧ t.dp = s.dp + ((L - s.nd : Nat) : Int) ∧ t.tr = (s.tr || lostL (N (dig s.d s.nd) s.nd * 2 ^ k) L L)
theorem tl_pos (d : Nat → Nat) (h : d 0 ≠ 48) : ∀ n, 0 < n → 0 < tl d n
  | 0, h0 => absurd h0 (by omega)
  | n + 1, _ => by
    rw [tl]
    by_cases hd : d n = 48
    · rw [if_pos hd]
      exact tl_pos d h n (by rcases Nat.eq_zero_or_pos n with e | e
                             · subst e; exact absurd hd h
                             exact e)
    rw [if_neg hd]; omega
theorem norm_of {d : Nat → Nat} {W : Nat} {dp : Int} {tr : Bool} (hW : 0 < W) (hW2 : W ≤ 800) (h0 : d 0 ≠ 48) (hd : ∀ i, i < W → ∃ q, d i = 48 + q % 10) : Norm ⟨d, tl d W, dp, tr⟩ := by
  have hp := tl_pos d h0 W hW
  have hle := tl_le d W
  refine ⟨hp, by show tl d W ≤ 800; omega, fun i hi => ?_, h0, tl_last d W (by omega)⟩
  have hi' : i < tl d W := hi
  obtain ⟨q, hq⟩ := hd i (by omega)
  rw [show (St.mk d (tl d W) dp tr).d i = d i from rfl, hq]
  omega
theorem Norm.dig9 {s : St} (h : Norm s) (i : Nat) : dig s.d s.nd i ≤ 9 := dig_le h.dgs i
theorem Norm.dig0 {s : St} (h : Norm s) : 1 ≤ dig s.d s.nd 0 := by
  unfold dig; rw [if_pos h.pos]; have := h.dgs 0 h.pos; have := h.first; omega
theorem rs_norm {s : St} (hs : Norm s) {k : Nat} (hk : k ≤ 60) {d' : Nat → Nat} {r0 T W : Nat} {dp : Int} {tr : Bool} (h : Rs s.d s.nd k d' r0 T W) : Norm ⟨d', tl d' W, dp, tr⟩ ∧ tl d' W ≠ 0 := by
  have hP : 0 < 2 ^ k := Nat.pow_pos (by decide)
  have hP60 : 2 ^ k ≤ 1152921504606846976 := by
    have hp : 2 ^ k ≤ 2 ^ 60 := Nat.pow_le_pow_right (by decide) hk
    have h60 : (2 : Nat) ^ 60 = 1152921504606846976 := by decide
    omega
  have hlt : N (dig s.d s.nd) r0 < 10 * 2 ^ k := by
    obtain ⟨j, hj⟩ : ∃ j, r0 = j + 1 := ⟨r0 - 1, by have := h.lead.one; omega⟩
    have h1 := h.lead.lo
    rw [hj, Nat.add_sub_cancel] at h1
    rw [hj, N_succ]
    have := hs.dig9 j
    omega
  have hT : r0 < T := by
    rcases Nat.lt_or_ge r0 T with h1 | h1
    · exact h1
    exfalso
    have e : T = r0 := by have := h.far; omega
    have h2 := h.fin
    rw [e, Nat.mod_eq_of_lt hlt] at h2
    have h3 := h.lead.hi
    omega
  have hW : 0 < W ∧ W ≤ 800 := by have := h.wid; omega
  have h0 : d' 0 ≠ 48 := by
    rw [h.dgs 0 hW.1]
    unfold qd
    rw [Nat.add_zero]
    have h1 : 1 ≤ N (dig s.d s.nd) r0 / 2 ^ k := Nat.div_pos h.lead.hi hP
    have h2 : N (dig s.d s.nd) r0 / 2 ^ k < 10 := by
      rw [Nat.div_lt_iff_lt_mul hP]; exact hlt
    omega
  exact ⟨norm_of hW.1 hW.2 h0 (fun i hi => ⟨_, h.dgs i hi⟩), by have := tl_pos d' h0 W hW.1; omega⟩
theorem ls_norm {s : St} (hs : Norm s) {k : Nat} {d' : Nat → Nat} {L W : Nat} {dp : Int} {tr : Bool} (h : Ls s.d s.nd k d' L W) : Norm ⟨d', tl d' W, dp, tr⟩ ∧ tl d' W ≠ 0 := by
  have hp := hs.pos
  have hW : 0 < W ∧ W ≤ 800 := by have := h.wid; have := h.wide; omega
  have h0 : d' 0 ≠ 48 := by
    rw [h.dgs 0 hW.1, Nat.sub_zero]
    have hpos : 0 < 10 ^ (L - 1) := Nat.pow_pos (by decide)
    have h1 : 1 ≤ N (dig s.d s.nd) s.nd * 2 ^ k / 10 ^ (L - 1) := Nat.div_pos h.lo hpos
    have h2 : N (dig s.d s.nd) s.nd * 2 ^ k / 10 ^ (L - 1) < 10 := by
      rw [Nat.div_lt_iff_lt_mul hpos]
      have e : 10 * 10 ^ (L - 1) = 10 ^ L := by
        rw [Nat.mul_comm, ← Nat.pow_succ]
        congr 1; have := h.wide; omega
      rw [e]
      exact h.hi
    omega
  exact ⟨norm_of hW.1 hW.2 h0 (fun i hi => ⟨_, h.dgs i hi⟩), by have := tl_pos d' h0 W hW.1; omega⟩
theorem Lead.le20' {s : St} (hs : Norm s) {k r0 : Nat} (hk : k ≤ 60) (h : Lead (dig s.d s.nd) (2 ^ k) r0) : 1 ≤ r0 ∧ r0 ≤ 20 := by
  have hP60 : 2 ^ k ≤ 1152921504606846976 := by
    have hp : 2 ^ k ≤ 2 ^ 60 := Nat.pow_le_pow_right (by decide) hk
    have h60 : (2 : Nat) ^ 60 = 1152921504606846976 := by decide
    omega
  exact ⟨h.one, h.le20 hs.dig0 hP60⟩
end Dc
open Dc
theorem right_step (w : World) (g B : Nat) (hB : B ≤ g) (s : St) (hs : Norm s) (ng : Bool) (k : Nat) (hk1 : 1 ≤ k) (hk : k ≤ 60) (hdp1 : -100000 ≤ s.dp) (hdp2 : s.dp ≤ 100000) (h : s.is w g ng) :
    Calls Tryz.prog 169 #[.pointer (some ⟨g, 0, none⟩), .int .u64 k] w fun e w' => e = .returned (.tuple #[]) ∧ Below B w w' ∧ ∃ t, RStep k s t ∧ Norm t ∧ t.is w' g ng ∧ s.dp - 19 ≤ t.dp ∧ t.dp ≤ s.dp := by
  refine (rightShift_walk w g B hB s.d s.nd k s.dp ng s.tr hk1 hk hs.pos hs.le hdp1 hdp2 hs.dgs hs.first h).mono fun e w' ⟨h1, h2, d', r0, T, W, h3, h4⟩ => ⟨h1, h2, ?_⟩
  have hn := rs_norm (dp := s.dp - ((r0 : Int) - 1)) (tr := s.tr || lost (dig s.d s.nd) (2 ^ k) r0 (T - r0)) hs hk h3
  have hr := Lead.le20' hs hk h3.lead
  have hz : dpz (tl d' W) (s.dp - ((r0 : Int) - 1)) = s.dp - ((r0 : Int) - 1) := by unfold dpz; rw [if_neg hn.2]
  rw [hz] at h4
  exact ⟨⟨d', tl d' W, s.dp - ((r0 : Int) - 1), s.tr || lost (dig s.d s.nd) (2 ^ k) r0 (T - r0)⟩, ⟨r0, T, W, h3, rfl, rfl, rfl⟩, hn.1, h4, by show s.dp - 19 ≤ s.dp - ((r0 : Int) - 1); omega, by show s.dp - ((r0 : Int) - 1) ≤ s.dp; omega⟩
theorem left_step (w : World) (hC : Cheats w) (g B : Nat) (hB : B ≤ g) (s : St) (hs : Norm s) (ng : Bool) (k : Nat) (hk1 : 1 ≤ k) (hk : k ≤ 60) (hdp1 : -100000 ≤ s.dp) (hdp2 : s.dp ≤ 100000) (h : s.is w g ng) :
    Calls Tryz.prog 168 #[.pointer (some ⟨g, 0, none⟩), .int .u64 k] w fun e w' => e = .returned (.tuple #[]) ∧ Below B w w' ∧ ∃ t, LStep k s t ∧ Norm t ∧ t.is w' g ng ∧ s.dp ≤ t.dp ∧ t.dp ≤ s.dp + 19 := by
  refine (leftShift_walk w hC g B hB s.d s.nd k s.dp ng s.tr hk1 hk hs.pos hs.le hdp1 hdp2 hs.dgs hs.first h).mono fun e w' ⟨h1, h2, d', L, W, h3, h4⟩ => ⟨h1, h2, ?_⟩
  have hn := ls_norm (dp := s.dp + ((L - s.nd : Nat) : Int)) (tr := s.tr || lostL (N (dig s.d s.nd) s.nd * 2 ^ k) L L) hs h3
  have hz : dpz (tl d' W) (s.dp + ((L - s.nd : Nat) : Int)) = s.dp + ((L - s.nd : Nat) : Int) := by unfold dpz; rw [if_neg hn.2]
  rw [hz] at h4
  have hwd := h3.wide
  exact ⟨⟨d', tl d' W, s.dp + ((L - s.nd : Nat) : Int), s.tr || lostL (N (dig s.d s.nd) s.nd * 2 ^ k) L L⟩, ⟨L, W, h3, rfl, rfl, rfl⟩, hn.1, h4, by show s.dp ≤ s.dp + ((L - s.nd : Nat) : Int); omega, by show s.dp + ((L - s.nd : Nat) : Int) ≤ s.dp + 19; omega⟩
namespace Dc
inductive Lefts : Nat → St → St → Prop
  | one {k : Nat} {s t : St} : 1 ≤ k → k ≤ 60 → LStep k s t → Lefts k s t
  | more {k : Nat} {s t u : St} : 1 ≤ k → LStep 60 s t → Norm t → Lefts k t u → Lefts (k + 60) s u
inductive Rights : Nat → St → St → Prop
  | one {k : Nat} {s t : St} : 1 ≤ k → k ≤ 60 → RStep k s t → Rights k s t
  | more {k : Nat} {s t u : St} : 1 ≤ k → RStep 60 s t → Norm t → Rights k t u → Rights (k + 60) s u
end Dc
def ShPost (g B : Nat) (ng : Bool) (R : St → Prop) (w : World) (e : Ending) (w' : World) : Prop := e = .returned (.tuple #[]) ∧ Below B w w' ∧ ∃ t, R t ∧ Norm t ∧ t.is w' g ng ∧ -95000 ≤ t.dp ∧ t.dp ≤ 95000
set_option maxRecDepth 100000 in
set_option maxHeartbeats 1000000 in
theorem shift_left (w : World) (g B : Nat) (hB : B ≤ g) (hCB : ∀ w', Below B w w' → Cheats w') (s : St) (hs : Norm s) (ng : Bool) (k : Nat) (hk1 : 1 ≤ k) (hk : k ≤ 40000) (hdp1 : -50000 ≤ s.dp) (hdp2 : s.dp ≤ 50000) (h : s.is w g ng) :
    Calls Tryz.prog 129 #[.pointer (some ⟨g, 0, none⟩), .int .i64 k] w (ShPost g B ng (Lefts k s) w) := by
  have cnd : w.cell? ⟨g, 800, none⟩ = some (.int .i64 (s.nd : Nat)) := IsDec.cnd h
  have HS := Lib.hid h
  have HCB := Lib.hid hCB
  have f0 : (((s.nd : Nat) : Int) == 0) = false := by have := hs.pos; simp; omega
  have f1 : (0 : Int) < k := by omega
  have f2 : decide ((0 : Int) < (k : Int)) = true := decide_eq_true f1
  have f3 : decide (0 < k) = true := decide_eq_true (by omega)
  have HN := Lib.hid hs
  have HI : Hid (-50000 ≤ s.dp ∧ s.dp ≤ 50000 ∧ 1 ≤ k ∧ k ≤ 40000) := Lib.hid ⟨hdp1, hdp2, hk1, hk⟩
  clear h hCB hs hdp1 hdp2
  go_enter Tryz.func129, Tryz.ntmps129
  go_wp2_with fail
  clear cnd f0 f1 f2 f3
  go_loopg [1] k (fun gn v1 w' => ∃ (k' : Nat) (t : St), v1 = .int .i64 k' ∧ Hid (k' ≤ gn ∧ 1 ≤ k' ∧ k' ≤ k ∧ Norm t ∧ (∀ u, Lefts k' t u → Lefts k s u) ∧ -50000 - ((k - k' : Nat) : Int) ≤ t.dp ∧ t.dp ≤ 50000 + ((k - k' : Nat) : Int)) ∧ t.is w' g ng ∧ Hid (Below B w w'))
  case atStart => exact ⟨k, s, rfl, Lib.hid ⟨Nat.le_refl _, HI.out.2.2.1, Nat.le_refl _, HN.out, fun u hu => hu, by have := HI.out; omega, by have := HI.out; omega⟩, HS.out, Lib.hid (Below.refl _ _)⟩
  case round =>
    obtain ⟨k', t, rfl, hH, ht, hb⟩ := hrel
    obtain ⟨h1, h2, h3, h4, h5, h6, h7⟩ := hH.out
    by_cases hk60 : 60 < k'
    · have g1 : (60 : Int) < k' := by omega
      have g2 : decide ((60 : Int) < (k' : Int)) = true := decide_eq_true g1
      have HC := Lib.hid (left_step wr (HCB.out _ hb.out) g B hB t h4 ng 60 (by decide) (by decide) (by omega) (by omega) ht)
      have HX := Lib.hid h5
      have HB := Lib.hid (show 1 ≤ k' - 60 ∧ k' - 60 < gk ∧ k' - 60 ≤ k ∧ 60 < k' ∧ k' ≤ k ∧ -50000 - ((k - k' : Nat) : Int) ≤ t.dp ∧ t.dp ≤ 50000 + ((k - k' : Nat) : Int) by omega)
      have w1 : IntKind.i64.wrap ((k' : Int) - 60) = ((k' - 60 : Nat) : Int) := by rw [Go.IntKind.wrap_i64]; omega
      have w2 : wrap64 ((k' : Int) - 60) = ((k' - 60 : Nat) : Int) := by unfold wrap64; omega
      obtain ⟨k2, hk2⟩ : ∃ k2, k2 = k' - 60 := ⟨_, rfl⟩
      rw [← hk2] at w1 w2
      have HK2 := Lib.hid hk2
      clear hH h1 h2 h3 h4 h5 h6 h7 hk60 hk2 ht
      go_wp2_with fail
      refine HC.out.mono ?_
      rintro e w2 ⟨rfl, hb2, u, hu1, hu2, hu3, hu4, hu5⟩
      have HU := Lib.hid (And.intro hu1 (And.intro hu2 (And.intro hu4 hu5)))
      have HU3 := Lib.hid hu3
      clear HC hu1 hu2 hu3 hu4 hu5
      have HB2 := Lib.hid (hb.out.trans hb2)
      clear hb2
      go_wp2_with fail
      go_roundg k2
      case measure => have := HB.out; have := HK2.out; omega
      case rel => exact ⟨k2, u, by first | rfl | go_num, Lib.hid ⟨Nat.le_refl _, by have := HB.out; have := HK2.out; omega, by have := HB.out; have := HK2.out; omega, HU.out.2.1, fun v hv => HX.out v (by
        have := Lefts.more (by have := HB.out; have := HK2.out; omega) HU.out.1 HU.out.2.1 hv
        rw [show k2 + 60 = k' by have := HB.out; have := HK2.out; omega] at this
        exact this), by have := HB.out; have := HK2.out; have := HU.out.2.2; omega, by have := HB.out; have := HK2.out; have := HU.out.2.2; omega⟩, HU3.out, HB2⟩
    have g1 : ¬ (60 : Int) < k' := by omega
    have g2 : decide ((60 : Int) < (k' : Int)) = false := decide_eq_false g1
    have HC := Lib.hid (left_step wr (HCB.out _ hb.out) g B hB t h4 ng k' h2 (by omega) (by omega) (by omega) ht)
    have HX := Lib.hid (fun u hu => h5 u (Lefts.one h2 (by omega) hu))
    have HB := Lib.hid (show -90000 ≤ t.dp ∧ t.dp ≤ 90000 by omega)
    have w1 : IntKind.u64.wrap (k' : Int) = (k' : Int) := by rw [Go.IntKind.wrap_u64]; omega
    clear hH h1 h2 h3 h4 h5 h6 h7 hk60 ht
    go_wp2_with fail
    refine HC.out.mono ?_
    rintro e w2 ⟨rfl, hb2, u, hu1, hu2, hu3, hu4, hu5⟩
    have HU := Lib.hid (And.intro hu1 (And.intro hu2 (And.intro hu4 hu5)))
    have HU3 := Lib.hid hu3
    clear HC hu1 hu2 hu3 hu4 hu5
    have HB2 := Lib.hid (hb.out.trans hb2)
    clear hb2
    go_wp2_with fail
    go_end0
    exact ⟨rfl, HB2.out, u, HX.out u HU.out.1, HU.out.2.1, HU3.out, by have := HB.out; have := HU.out.2.2; omega, by have := HB.out; have := HU.out.2.2; omega⟩
set_option maxRecDepth 100000 in
set_option maxHeartbeats 1000000 in
theorem shift_right (w : World) (g B : Nat) (hB : B ≤ g) (s : St) (hs : Norm s) (ng : Bool) (k : Nat) (hk1 : 1 ≤ k) (hk : k ≤ 40000) (hdp1 : -50000 ≤ s.dp) (hdp2 : s.dp ≤ 50000) (h : s.is w g ng) :
    Calls Tryz.prog 129 #[.pointer (some ⟨g, 0, none⟩), .int .i64 (-(k : Int))] w (ShPost g B ng (Rights k s) w) := by
  have cnd : w.cell? ⟨g, 800, none⟩ = some (.int .i64 (s.nd : Nat)) := IsDec.cnd h
  have HS := Lib.hid h
  have f0 : (((s.nd : Nat) : Int) == 0) = false := by have := hs.pos; simp; omega
  obtain ⟨kn, hkn⟩ : ∃ kn : Int, kn = -(k : Int) := ⟨_, rfl⟩
  have f1 : ¬ (0 : Int) < kn := by omega
  have f2 : decide ((0 : Int) < kn) = false := decide_eq_false f1
  have f3 : kn < 0 := by omega
  have f4 : decide (kn < 0) = true := decide_eq_true f3
  have HKN := Lib.hid hkn
  rw [← hkn]
  have HN := Lib.hid hs
  have HI : Hid (-50000 ≤ s.dp ∧ s.dp ≤ 50000 ∧ 1 ≤ k ∧ k ≤ 40000) := Lib.hid ⟨hdp1, hdp2, hk1, hk⟩
  clear h hs hdp1 hdp2 hkn
  go_enter Tryz.func129, Tryz.ntmps129
  go_wp2_with fail
  clear cnd f0 f1 f2 f3 f4
  go_loopg [1] k (fun gn v1 w' => ∃ (k' : Nat) (m : Int) (t : St), v1 = .int .i64 m ∧ Hid (m = -(k' : Int)) ∧ Hid (k' ≤ gn ∧ 1 ≤ k' ∧ k' ≤ k ∧ Norm t ∧ (∀ u, Rights k' t u → Rights k s u) ∧ -50000 - ((k - k' : Nat) : Int) ≤ t.dp ∧ t.dp ≤ 50000 + ((k - k' : Nat) : Int)) ∧ t.is w' g ng ∧ Hid (Below B w w'))
  case atStart => exact ⟨k, kn, s, rfl, HKN, Lib.hid ⟨Nat.le_refl _, HI.out.2.2.1, Nat.le_refl _, HN.out, fun u hu => hu, by have := HI.out; omega, by have := HI.out; omega⟩, HS.out, Lib.hid (Below.refl _ _)⟩
  case round =>
    obtain ⟨k', m, t, rfl, hm, hH, ht, hb⟩ := hrel
    have hm' := hm.out
    obtain ⟨h1, h2, h3, h4, h5, h6, h7⟩ := hH.out
    by_cases hk60 : 60 < k'
    · have g1 : m < -60 := by omega
      have g2 : decide (m < -60) = true := decide_eq_true g1
      have HC := Lib.hid (right_step wr g B hB t h4 ng 60 (by decide) (by decide) (by omega) (by omega) ht)
      have HX := Lib.hid h5
      have HB := Lib.hid (show 1 ≤ k' - 60 ∧ k' - 60 < gk ∧ k' - 60 ≤ k ∧ 60 < k' ∧ k' ≤ k ∧ -50000 - ((k - k' : Nat) : Int) ≤ t.dp ∧ t.dp ≤ 50000 + ((k - k' : Nat) : Int) by omega)
      obtain ⟨k2, hk2⟩ : ∃ k2, k2 = k' - 60 := ⟨_, rfl⟩
      obtain ⟨m2, hm2⟩ : ∃ m2 : Int, m2 = m + 60 := ⟨_, rfl⟩
      have w1 : IntKind.i64.wrap (m + 60) = m2 := by rw [hm2, Go.IntKind.wrap_i64]; omega
      have w2 : wrap64 (m + 60) = m2 := by unfold wrap64; omega
      have HM2 : Hid (m2 = -(k2 : Int)) := Lib.hid (by omega)
      have HK2 := Lib.hid hk2
      clear hH h1 h2 h3 h4 h5 h6 h7 hk60 hk2 ht hm' hm2
      go_wp2_with fail
      refine HC.out.mono ?_
      rintro e w2 ⟨rfl, hb2, u, hu1, hu2, hu3, hu4, hu5⟩
      have HU := Lib.hid (And.intro hu1 (And.intro hu2 (And.intro hu4 hu5)))
      have HU3 := Lib.hid hu3
      clear HC hu1 hu2 hu3 hu4 hu5
      have HB2 := Lib.hid (hb.out.trans hb2)
      clear hb2
      go_wp2_with fail
      go_roundg k2
      case measure => have := HB.out; have := HK2.out; omega
      case rel => exact ⟨k2, m2, u, by first | rfl | go_num, HM2, Lib.hid ⟨Nat.le_refl _, by have := HB.out; have := HK2.out; omega, by have := HB.out; have := HK2.out; omega, HU.out.2.1, fun v hv => HX.out v (by
        have := Rights.more (by have := HB.out; have := HK2.out; omega) HU.out.1 HU.out.2.1 hv
        rw [show k2 + 60 = k' by have := HB.out; have := HK2.out; omega] at this
        exact this), by have := HB.out; have := HK2.out; have := HU.out.2.2; omega, by have := HB.out; have := HK2.out; have := HU.out.2.2; omega⟩, HU3.out, HB2⟩
    have g1 : ¬ m < -60 := by omega
    have g2 : decide (m < -60) = false := decide_eq_false g1
    have HC := Lib.hid (right_step wr g B hB t h4 ng k' h2 (by omega) (by omega) (by omega) ht)
    have HX := Lib.hid (fun u hu => h5 u (Rights.one h2 (by omega) hu))
    have HB := Lib.hid (show -90000 ≤ t.dp ∧ t.dp ≤ 90000 by omega)
    have w0 : IntKind.i64.wrap (0 - m) = (k' : Int) := by rw [Go.IntKind.wrap_i64]; omega
    have w2 : wrap64 (0 - m) = (k' : Int) := by unfold wrap64; omega
    have w3 : wrap64 (-m) = (k' : Int) := by unfold wrap64; omega
    have w4 : IntKind.i64.wrap (-m) = (k' : Int) := by rw [Go.IntKind.wrap_i64]; omega
    have w1 : IntKind.u64.wrap (k' : Int) = (k' : Int) := by rw [Go.IntKind.wrap_u64]; omega
    clear hH h1 h2 h3 h4 h5 h6 h7 hk60 ht hm'
    go_wp2_with fail
    refine HC.out.mono ?_
    rintro e w2 ⟨rfl, hb2, u, hu1, hu2, hu3, hu4, hu5⟩
    have HU := Lib.hid (And.intro hu1 (And.intro hu2 (And.intro hu4 hu5)))
    have HU3 := Lib.hid hu3
    clear HC hu1 hu2 hu3 hu4 hu5
    have HB2 := Lib.hid (hb.out.trans hb2)
    clear hb2
    go_wp2_with fail
    go_end0
    exact ⟨rfl, HB2.out, u, HX.out u HU.out.1, HU.out.2.1, HU3.out, by have := HB.out; have := HU.out.2.2; omega, by have := HB.out; have := HU.out.2.2; omega⟩
end Go.Proofs.YtjpiplplohapnaaGreatDoor
namespace Go.Proofs.YtjpiplplohapnaaGreatDoor.Dc
def St.X (s : St) : Nat := N (dig s.d s.nd) s.nd
theorem N_congr {e f : Nat → Nat} : ∀ n, (∀ i, i < n → e i = f i) → N e n = N f n
  | 0, _ => rfl
  | n + 1, h => by rw [N_succ, N_succ, N_congr n (fun i hi => h i (by omega)), h n (by omega)]
theorem N_tail (d : Nat → Nat) {n W : Nat} (hn : n ≤ W) (hz : ∀ i, n ≤ i → i < W → d i = 48) : N (fun i => d i - 48) W = N (dig d n) n * 10 ^ (W - n) := by
  have h1 : N (fun i => d i - 48) W = N (dig d n) W := N_congr W fun i hi => by
    unfold dig
    by_cases h : i < n
    · rw [if_pos h]
    rw [if_neg h, hz i (by omega) hi]
  rw [h1]
  have h2 := N_pow d n (W - n)
  rw [show n + (W - n) = W by omega] at h2
  exact h2
theorem N_cut {e : Nat → Nat} {Y L : Nat} (hY : Y < 10 ^ L) : ∀ n, n ≤ L → (∀ i, i < n → e i = Y / 10 ^ (L - 1 - i) % 10) → N e n = Y / 10 ^ (L - n)
  | 0, _, _ => by
    rw [Nat.sub_zero, Nat.div_eq_of_lt hY]; rfl
  | n + 1, hn, h => by
    rw [N_succ, N_cut hY n (by omega) (fun i hi => h i (by omega)), h n (by omega)]
    have e1 : L - n = L - (n + 1) + 1 := by omega
    have e2 : L - 1 - n = L - (n + 1) := by omega
    rw [e1, e2, Nat.pow_succ, ← Nat.div_div_eq_div_mul]
    omega
theorem N_quo {e f : Nat → Nat} {P r0 : Nat} (he : ∀ i, e i ≤ 9) (hP : 0 < P) (hl : N e r0 < 10 * P) (h1 : 1 ≤ r0) : ∀ n, (∀ i, i < n + 1 → f i = qd e P r0 i) → N f (n + 1) = N e (r0 + n) / P
  | 0, h => by
    rw [N_succ, h 0 (by omega)]
    unfold qd
    rw [Nat.add_zero, show N f 0 = 0 from rfl, Nat.mod_eq_of_lt (by rw [Nat.div_lt_iff_lt_mul hP]; exact hl)]
    omega
  | n + 1, h => by
    rw [N_succ, N_quo he hP hl h1 n (fun i hi => h i (by omega)), h (n + 1) (by omega)]
    unfold qd
    have e1 : N e (r0 + n) / P = N e (r0 + (n + 1)) / P / 10 := by
      rw [← Nat.add_assoc, N_succ, Nat.div_div_eq_div_mul, Nat.mul_comm P 10, ← Nat.div_div_eq_div_mul]
      have := he (r0 + n)
      rw [show (10 * N e (r0 + n) + e (r0 + n)) / 10 = N e (r0 + n) by omega]
    rw [e1]
    omega
theorem left_exact {s t : St} (hs : Norm s) {k L W : Nat} (h : Ls s.d s.nd k t.d L W) (ht : t.nd = tl t.d W) (hL : L ≤ 800) : t.X * 10 ^ (L - t.nd) = s.X * 2 ^ k ∧ t.nd ≤ L := by
  have hW : W = L := by have := h.wid; omega
  subst hW
  have hle : t.nd ≤ W := by rw [ht]; exact tl_le _ _
  refine ⟨?_, hle⟩
  have h1 := N_tail t.d hle (fun i h1 h2 => tl_zero t.d W i (by rw [← ht]; exact h1) h2)
  have h2 : N (fun i => t.d i - 48) W = N (dig s.d s.nd) s.nd * 2 ^ k / 10 ^ (W - W) := N_cut h.hi W (Nat.le_refl _) (fun i hi => by rw [h.dgs i hi]; omega)
  rw [Nat.sub_self, Nat.pow_zero, Nat.div_one] at h2
  unfold St.X
  rw [← h1, h2]
theorem right_exact {s t : St} (hs : Norm s) {k r0 T W : Nat} (hk : k ≤ 60) (h : Rs s.d s.nd k t.d r0 T W) (ht : t.nd = tl t.d W) (hT : T - r0 ≤ 800) :
    t.X * 10 ^ (T - r0 - t.nd) * 2 ^ k = s.X * 10 ^ (T - 1 - s.nd) ∧ t.nd ≤ T - r0 ∧ s.nd < T ∧ r0 < T := by
  have hP : 0 < 2 ^ k := Nat.pow_pos (by decide)
  have hW : W = T - r0 := by have := h.wid; omega
  have hlt : N (dig s.d s.nd) r0 < 10 * 2 ^ k := by
    obtain ⟨j, hj⟩ : ∃ j, r0 = j + 1 := ⟨r0 - 1, by have := h.lead.one; omega⟩
    have h1 := h.lead.lo
    rw [hj, Nat.add_sub_cancel] at h1
    rw [hj, N_succ]
    have := hs.dig9 j
    omega
  have hrT : r0 < T := by
    rcases Nat.lt_or_ge r0 T with h1 | h1
    · exact h1
    exfalso
    have e : T = r0 := by have := h.far; omega
    have h2 := h.fin
    rw [e, Nat.mod_eq_of_lt hlt] at h2
    have h3 := h.lead.hi
    omega
  have hnT : s.nd < T := by
    rcases Nat.lt_or_ge s.nd T with h1 | h1
    · exact h1
    exfalso
    have e : T = s.nd := by have := h.far; omega
    have h2 := h.fin
    obtain ⟨j, hj⟩ : ∃ j, s.nd = j + 1 := ⟨s.nd - 1, by have := hs.pos; omega⟩
    have h3 : N (dig s.d s.nd) s.nd % 10 = 0 := by
      rw [e] at h2
      have := Nat.mod_mul_right_mod (N (dig s.d s.nd) s.nd) 10 (2 ^ k)
      rw [h2] at this
      exact this.symm
    have h4 : N (dig s.d s.nd) s.nd = 10 * N (dig s.d s.nd) j + (s.d j - 48) := by
      conv => lhs; arg 2; rw [hj]
      rw [N_succ]
      congr 1
      unfold dig
      rw [if_pos (by omega)]
    have h5 := hs.last
    rw [show s.nd - 1 = j by omega] at h5
    have h6 := hs.dgs j (by omega)
    omega
  have hle : t.nd ≤ T - r0 := by rw [ht, ← hW]; exact tl_le _ _
  refine ⟨?_, hle, hnT, hrT⟩
  have h1 := N_tail t.d (W := T - r0) hle (fun i h1 h2 => tl_zero t.d W i (by rw [← ht]; exact h1) (by omega))
  obtain ⟨n, hn⟩ : ∃ n, T - r0 = n + 1 := ⟨T - r0 - 1, by omega⟩
  have h2 : N (fun i => t.d i - 48) (T - r0) = N (dig s.d s.nd) (T - 1) / 2 ^ k := by
    rw [hn, N_quo hs.dig9 hP hlt h.lead.one n (fun i hi => by rw [h.dgs i (by omega)]; omega)]
    congr 2; omega
  have h3 : N (dig s.d s.nd) (T - 1) % 2 ^ k = 0 := by
    have e : T = T - 1 + 1 := by omega
    have h4 := h.fin
    rw [e, N_ext (by omega)] at h4
    have h5 : 10 * N (dig s.d s.nd) (T - 1) % (10 * 2 ^ k) = 10 * (N (dig s.d s.nd) (T - 1) % 2 ^ k) := Nat.mul_mod_mul_left _ _ _
    omega
  have h4 : N (dig s.d s.nd) (T - 1) / 2 ^ k * 2 ^ k = N (dig s.d s.nd) (T - 1) := by
    have := Nat.div_add_mod (N (dig s.d s.nd) (T - 1)) (2 ^ k)
    rw [h3, Nat.add_zero, Nat.mul_comm] at this
    exact this
  have h5 := N_pow s.d s.nd (T - 1 - s.nd)
  rw [show s.nd + (T - 1 - s.nd) = T - 1 by omega] at h5
  unfold St.X
  rw [← h1, h2, h4, h5]
end Go.Proofs.YtjpiplplohapnaaGreatDoor.Dc
namespace Go.Proofs.YtjpiplplohapnaaGreatDoor.Dc
def IsV (s : St) (n r : Nat) : Prop := ∀ a b : Nat, (a : Int) - b = s.dp - s.nd → s.X * 10 ^ a * 2 ^ r = n * 10 ^ b
theorem rs_cut {s : St} {k : Nat} {d' : Nat → Nat} {r0 T W : Nat} (h : Rs s.d s.nd k d' r0 T W) (hb : s.nd + k + 1 ≤ r0 + 800) : ∃ T', Rs s.d s.nd k d' r0 T' W ∧ T' - r0 ≤ 800 := by
  by_cases hT : T - r0 ≤ 800
  · exact ⟨T, h, hT⟩
  have hw := h.wid
  refine ⟨r0 + 800, ⟨h.lead, ⟨by omega, by omega⟩, rest_end s.d s.nd k (r0 + 800) hb, by omega, h.dgs⟩, by omega⟩
theorem lost_none {s : St} {k r0 : Nat} (hb : s.nd + k + 1 ≤ r0 + 800) : ∀ j, lost (dig s.d s.nd) (2 ^ k) r0 j = false
  | 0 => rfl
  | j + 1 => by
    rw [lost, lost_none hb j, Bool.false_or]
    by_cases h8 : 800 ≤ j
    · have h1 := rest_end s.d s.nd k (r0 + j) (by omega)
      have h2 := qd_rest (dig s.d s.nd) (2 ^ k) r0 j (Nat.pow_pos (by decide))
      rw [h1, Nat.zero_div] at h2
      rw [← h2]
      simp
    rw [decide_eq_false h8, Bool.false_and]
theorem lostL_none (Y L : Nat) (hL : L ≤ 800) : ∀ j, 1 ≤ L → lostL Y L j = false
  | 0, _ => rfl
  | j + 1, h => by
    rw [lostL, lostL_none Y L hL j h, Bool.false_or, decide_eq_false (by omega), Bool.false_and]
theorem right_val {s t : St} (hs : Norm s) {k : Nat} (hk : k ≤ 60) {r0 T W : Nat} (h : Rs s.d s.nd k t.d r0 T W) (ht : t.nd = tl t.d W) (hdp : t.dp = s.dp - ((r0 : Int) - 1)) (hT : T - r0 ≤ 800) {n r : Nat} (hv : IsV s n r) : IsV t n (r + k) := by
  obtain ⟨h1, h2, h3, h4⟩ := right_exact hs hk h ht hT
  intro a b hab
  have h5 := hv (a + (T - 1 - s.nd)) (b + (T - r0 - t.nd)) (by omega)
  have hp : 0 < 10 ^ (T - r0 - t.nd) := Nat.pow_pos (by decide)
  refine Nat.eq_of_mul_eq_mul_right hp ?_
  rw [Nat.pow_add, Nat.pow_add] at h5
  rw [Nat.pow_add]
  generalize 10 ^ (T - r0 - t.nd) = A at *
  generalize 10 ^ (T - 1 - s.nd) = C at *
  generalize (10 : Nat) ^ a = D at *
  generalize (10 : Nat) ^ b = E at *
  generalize (2 : Nat) ^ k = F at *
  generalize (2 : Nat) ^ r = G at *
  calc t.X * D * (G * F) * A = t.X * A * F * (D * G) := by grind
    _ = s.X * C * (D * G) := by rw [h1]
    _ = s.X * (D * C) * G := by grind
    _ = n * (E * A) := h5
    _ = n * E * A := by grind
theorem left_val {s t : St} (hs : Norm s) {k L W : Nat} (h : Ls s.d s.nd k t.d L W) (ht : t.nd = tl t.d W) (hdp : t.dp = s.dp + ((L - s.nd : Nat) : Int)) (hL : L ≤ 800) {n r : Nat} (hv : IsV s n r) : IsV t (n * 2 ^ k) r := by
  obtain ⟨h1, h2⟩ := left_exact hs h ht hL
  intro a b hab
  have hw := h.wide
  have h5 := hv a (b + (L - t.nd)) (by omega)
  have hp : 0 < 10 ^ (L - t.nd) := Nat.pow_pos (by decide)
  refine Nat.eq_of_mul_eq_mul_right hp ?_
  rw [Nat.pow_add] at h5
  generalize 10 ^ (L - t.nd) = A at *
  generalize (10 : Nat) ^ a = D at *
  generalize (10 : Nat) ^ b = E at *
  generalize (2 : Nat) ^ k = F at *
  generalize (2 : Nat) ^ r = G at *
  calc t.X * D * G * A = t.X * A * (D * G) := by grind
    _ = s.X * F * (D * G) := by rw [h1]
    _ = s.X * D * G * F := by grind
    _ = n * (E * A) * F := by rw [h5]
    _ = n * F * E * A := by grind
theorem places_le {s : St} (hs : Norm s) {n r : Nat} (hv : IsV s n r) : (s.nd : Int) - s.dp ≤ r := by
  rcases Int.lt_or_le (r : Int) ((s.nd : Int) - s.dp) with h | h
  · exfalso
    obtain ⟨c, hc⟩ : ∃ c : Nat, (c : Int) = (s.nd : Int) - s.dp - r - 1 := ⟨((s.nd : Int) - s.dp - r - 1).toNat, by omega⟩
    have h1 := hv 0 (c + 1 + r) (by omega)
    rw [Nat.pow_zero, Nat.mul_one] at h1
    have e : (10 : Nat) ^ (c + 1 + r) = 2 ^ r * (5 ^ r * 10 ^ c * 10) := by
      rw [Nat.pow_add, Nat.pow_succ]
      have e10 : (10 : Nat) ^ r = 2 ^ r * 5 ^ r := by rw [← Nat.mul_pow]
      rw [e10]
      generalize (10 : Nat) ^ c = a
      generalize (2 : Nat) ^ r = b
      generalize (5 : Nat) ^ r = d
      grind
    rw [e] at h1
    have h2 : s.X = n * (5 ^ r * 10 ^ c) * 10 := by
      refine Nat.eq_of_mul_eq_mul_right (Nat.pow_pos (a := 2) (n := r) (by decide)) ?_
      rw [h1]
      generalize (10 : Nat) ^ c = a
      generalize (2 : Nat) ^ r = b
      generalize (5 : Nat) ^ r = d
      grind
    have h3 : s.X % 10 = 0 := by rw [h2, Nat.mul_mod_left]
    obtain ⟨j, hj⟩ : ∃ j, s.nd = j + 1 := ⟨s.nd - 1, by have := hs.pos; omega⟩
    have h4 : s.X = 10 * N (dig s.d s.nd) j + (s.d j - 48) := by
      unfold St.X
      conv => lhs; arg 2; rw [hj]
      rw [N_succ]
      congr 1
      unfold dig
      rw [if_pos (by omega)]
    have h5 := hs.last
    rw [show s.nd - 1 = j by omega] at h5
    have h6 := hs.dgs j (by omega)
    omega
  exact h
end Go.Proofs.YtjpiplplohapnaaGreatDoor.Dc
namespace Go.Proofs.YtjpiplplohapnaaGreatDoor.Dc
open Num
def padL (p : Nat) (l : List UInt8) : List UInt8 := List.replicate (p + 1 - l.length) 48 ++ l
def dot (p : Nat) (l : List UInt8) : List UInt8 := if 0 < p then l.take (l.length - p) ++ 46 :: l.drop (l.length - p) else l
def fixT (ng : Bool) (q p : Nat) : List UInt8 := (if ng then [45] else []) ++ dot p (padL p (Lib.decDigits q))
def seg (f : Nat → Nat) : Nat → List UInt8
  | 0 => []
  | n + 1 => seg f n ++ [UInt8.ofNat (f n)]
theorem seg_length (f : Nat → Nat) : ∀ n, (seg f n).length = n
  | 0 => rfl
  | n + 1 => by rw [seg, List.length_append, seg_length f n]; rfl
theorem seg_congr {f g : Nat → Nat} : ∀ n, (∀ i, i < n → f i = g i) → seg f n = seg g n
  | 0, _ => rfl
  | n + 1, h => by rw [seg, seg, seg_congr n (fun i hi => h i (by omega)), h n (by omega)]
theorem seg_add (f : Nat → Nat) (a : Nat) : ∀ b, seg f (a + b) = seg f a ++ seg (fun i => f (a + i)) b
  | 0 => by rw [seg, List.append_nil]; rfl
  | b + 1 => by rw [← Nat.add_assoc, seg, seg, seg_add f a b, List.append_assoc]
theorem seg_const {f : Nat → Nat} : ∀ n, (∀ i, i < n → f i = 48) → seg f n = List.replicate n 48
  | 0, _ => rfl
  | n + 1, h => by rw [seg, seg_const n (fun i hi => h i (by omega)), h n (by omega), List.replicate_succ']; rfl
theorem seg_isD {f : Nat → Nat} : ∀ n, (∀ i, i < n → 48 ≤ f i ∧ f i ≤ 57) → ∀ c ∈ seg f n, isD c
  | 0, _ => by intro c hc; cases hc
  | n + 1, h => by
    intro c hc
    rcases List.mem_append.1 hc with h1 | h1
    · exact seg_isD n (fun i hi => h i (by omega)) c h1
    obtain rfl := List.mem_singleton.1 h1
    have := h n (by omega)
    unfold isD
    rw [UInt8.toNat_ofNat', Nat.mod_eq_of_lt (by omega)]
    exact this
theorem dv_seg {f : Nat → Nat} : ∀ n, (∀ i, i < n → 48 ≤ f i ∧ f i ≤ 57) → dv 0 (seg f n) = N (fun i => f i - 48) n
  | 0, _ => rfl
  | n + 1, h => by
    have := h n (by omega)
    rw [seg, dv_snoc, dv_seg n (fun i hi => h i (by omega)), N_succ, UInt8.toNat_ofNat', Nat.mod_eq_of_lt (by omega)]
theorem seg_head (f : Nat → Nat) : ∀ n, 0 < n → (seg f n).head? = some (UInt8.ofNat (f 0))
  | 1, _ => rfl
  | n + 2, _ => by
    rw [seg, List.head?_append, seg_head f (n + 1) (by omega)]; rfl
theorem dv_inj : ∀ (n : Nat) (l m : List UInt8), l.length = n → m.length = n → (∀ c ∈ l, isD c) → (∀ c ∈ m, isD c) → dv 0 l = dv 0 m → l = m
  | 0, l, m, h1, h2, _, _, _ => by rw [List.length_eq_zero_iff.1 h1, List.length_eq_zero_iff.1 h2]
  | n + 1, l, m, h1, h2, hl, hm, hv => by
    have hln : l ≠ [] := by intro h; rw [h] at h1; simp at h1
    have hmn : m ≠ [] := by intro h; rw [h] at h2; simp at h2
    obtain ⟨a, x, rfl⟩ : ∃ a x, l = a ++ [x] := ⟨l.dropLast, l.getLast hln, (List.dropLast_concat_getLast hln).symm⟩
    obtain ⟨b, y, rfl⟩ : ∃ b y, m = b ++ [y] := ⟨m.dropLast, m.getLast hmn, (List.dropLast_concat_getLast hmn).symm⟩
    have hx : isD x := hl x (by simp)
    have hy : isD y := hm y (by simp)
    rw [dv_snoc, dv_snoc] at hv
    have ex := digit_of hx
    have ey := digit_of hy
    unfold isD at hx hy
    have e1 : x.toNat - 48 = y.toNat - 48 := by omega
    have e2 : dv 0 a = dv 0 b := by omega
    rw [dv_inj n a b (by simpa using h1) (by simpa using h2) (fun c hc => hl c (by simp [hc])) (fun c hc => hm c (by simp [hc])) e2, ← ex, ← ey, e1]
theorem padL_length {p : Nat} {l : List UInt8} (h : l.length ≤ p + 1) : (padL p l).length = p + 1 := by
  unfold padL; rw [List.length_append, List.length_replicate]; omega
theorem padL_long {p : Nat} {l : List UInt8} (h : p + 1 ≤ l.length) : padL p l = l := by
  unfold padL; rw [show p + 1 - l.length = 0 by omega]; rfl
theorem dv_noughts (l : List UInt8) : ∀ k, dv 0 (List.replicate k 48 ++ l) = dv 0 l
  | 0 => rfl
  | k + 1 => by rw [List.replicate_succ, List.cons_append, dv_cons]; exact dv_noughts l k
theorem padL_isD {p : Nat} {l : List UInt8} (h : ∀ c ∈ l, isD c) : ∀ c ∈ padL p l, isD c := by
  intro c hc
  rcases List.mem_append.1 hc with h1 | h1
  · rw [(List.mem_replicate.1 h1).2]; unfold isD; decide
  exact h c h1
theorem dec_sh : ∀ (n x : Nat), x < 10 ^ (n + 1) → (Lib.decDigits x).length ≤ n + 1
  | 0, x, h => by rw [Lib.decDigits, dif_pos (by omega)]; simp
  | n + 1, x, h => by
    rcases Nat.lt_or_ge x 10 with h1 | h1
    · rw [Lib.decDigits, dif_pos h1]; simp
    rw [Lib.decDigits, dif_neg (by omega), List.length_append]
    have := dec_sh n (x / 10) (by rw [Nat.div_lt_iff_lt_mul (by omega)]; rw [Nat.pow_succ] at h; exact h)
    simp; omega
def pl (d : Nat → Nat) (nd i : Nat) : Nat := if i < nd then d i else 48
def atP (d : Nat → Nat) (nd : Nat) (dp : Int) (p : Nat) : Nat := if 0 ≤ dp + p then N (dig d nd) (dp + p).toNat else 0
def efT (ng : Bool) (d : Nat → Nat) (nd : Nat) (dp : Int) (p : Nat) : List UInt8 :=
  (if ng then [45] else []) ++
  ((if 0 < dp then seg d (min nd dp.toNat) ++ List.replicate (dp.toNat - min nd dp.toNat) 48 else [48]) ++
  (if 0 < p then 46 :: (List.replicate (min p (-dp).toNat) 48 ++ (seg (fun i => d ((dp + (min p (-dp).toNat : Nat)).toNat + i)) (min (p - min p (-dp).toNat) (nd - (dp + (min p (-dp).toNat : Nat)).toNat)) ++
    List.replicate (p - min p (-dp).toNat - min (p - min p (-dp).toNat) (nd - (dp + (min p (-dp).toNat : Nat)).toNat)) 48)) else []))
theorem pl_seg (d : Nat → Nat) (nd n : Nat) : seg (pl d nd) n = seg d (min nd n) ++ List.replicate (n - min nd n) 48 := by
  have e : n = min nd n + (n - min nd n) := by omega
  conv => lhs; rw [e]
  rw [seg_add]
  congr 1
  · refine seg_congr _ fun i hi => ?_
    unfold pl; rw [if_pos (by omega)]
  refine seg_const _ fun i hi => ?_
  show pl d nd (min nd n + i) = 48
  unfold pl; rw [if_neg (by omega)]
theorem pl_seg2 (d : Nat → Nat) (nd a n : Nat) : seg (fun i => pl d nd (a + i)) n = seg (fun i => d (a + i)) (min n (nd - a)) ++ List.replicate (n - min n (nd - a)) 48 := by
  have e : n = min n (nd - a) + (n - min n (nd - a)) := by omega
  conv => lhs; rw [e]
  rw [seg_add]
  congr 1
  · refine seg_congr _ fun i hi => ?_
    show pl d nd (a + i) = d (a + i)
    unfold pl; rw [if_pos (by omega)]
  refine seg_const _ fun i hi => ?_
  show pl d nd (a + (min n (nd - a) + i)) = 48
  unfold pl; rw [if_neg (by omega)]
theorem pl_digit {d : Nat → Nat} {nd : Nat} (hd : ∀ i, i < nd → 48 ≤ d i ∧ d i ≤ 57) (i : Nat) : 48 ≤ pl d nd i ∧ pl d nd i ≤ 57 := by
  unfold pl
  split
  · exact hd i (by assumption)
  omega
theorem dv_pl {d : Nat → Nat} {nd : Nat} (hd : ∀ i, i < nd → 48 ≤ d i ∧ d i ≤ 57) (n : Nat) : dv 0 (seg (pl d nd) n) = N (dig d nd) n := by
  rw [dv_seg n (fun i _ => pl_digit hd i)]
  refine N_congr n fun i _ => ?_
  unfold pl dig
  split
  · rfl
  rfl
theorem ef_fix {ng : Bool} {d : Nat → Nat} {nd : Nat} {dp : Int} {p : Nat} (hd : ∀ i, i < nd → 48 ≤ d i ∧ d i ≤ 57) (h0 : 0 < dp → 0 < nd ∧ d 0 ≠ 48) : efT ng d nd dp p = fixT ng (atP d nd dp p) p := by
  unfold efT fixT
  congr 1
  by_cases h : 0 < dp
  · obtain ⟨D, hD⟩ : ∃ D : Nat, dp = D := ⟨dp.toNat, by omega⟩
    subst hD
    obtain ⟨hn, hf⟩ := h0 h
    rw [if_pos h, Int.toNat_natCast, show (-(D : Int)).toNat = 0 by omega, Nat.min_zero, Nat.sub_zero, show ((D : Int) + ((0 : Nat) : Int)).toNat = D by omega, ← pl_seg, List.replicate_zero, List.nil_append, ← pl_seg2]
    have hq : atP d nd D p = N (dig d nd) (D + p) := by
      unfold atP; rw [if_pos (by omega), show ((D : Int) + (p : Int)).toNat = D + p by omega]
    rw [hq, ← dv_pl hd]
    have hc : canon (seg (pl d nd) (D + p)) := by
      refine ⟨?_, seg_isD _ (fun i _ => pl_digit hd i), ?_⟩
      · intro e
        have := seg_length (pl d nd) (D + p)
        rw [e] at this; simp at this; omega
      intro e
      rw [seg_head _ _ (by omega)] at e
      exfalso
      have e1 : UInt8.ofNat (pl d nd 0) = 48 := by simpa using e
      have e2 : (UInt8.ofNat (pl d nd 0)).toNat = 48 := by rw [e1]; rfl
      have e3 : pl d nd 0 = d 0 := by unfold pl; rw [if_pos hn]
      have := hd 0 hn
      rw [UInt8.toNat_ofNat', e3, Nat.mod_eq_of_lt (by omega)] at e2
      exact hf e2
    rw [dec_of_canon _ hc, padL_long (by rw [seg_length]; omega)]
    unfold dot
    rw [seg_length, Nat.add_sub_cancel]
    by_cases hp : 0 < p
    · rw [if_pos hp, if_pos hp, seg_add]
      have hl := seg_length (pl d nd) D
      rw [List.take_left' hl, List.drop_left' hl]
    rw [if_neg hp, if_neg hp, show p = 0 by omega, List.append_nil]; rfl
  rw [if_neg h]
  obtain ⟨z, hz⟩ : ∃ z : Nat, dp = -(z : Int) := ⟨(-dp).toNat, by omega⟩
  subst hz
  rw [show (-(-(z : Int))).toNat = z by omega]
  have hlen : (Lib.decDigits (atP d nd (-(z : Int)) p)).length ≤ p + 1 := by
    refine dec_sh p _ ?_
    unfold atP
    by_cases hc : 0 ≤ -(z : Int) + p
    · rw [if_pos hc]
      refine Nat.lt_of_lt_of_le (N_lt (fun i => dig_le hd i) _) (Nat.pow_le_pow_right (by decide) (by omega))
    rw [if_neg hc]; exact Nat.pow_pos (by decide)
  have key : ∀ r : List UInt8, r.length = p → (∀ c ∈ r, isD c) → dv 0 r = atP d nd (-(z : Int)) p → padL p (Lib.decDigits (atP d nd (-(z : Int)) p)) = 48 :: r := by
    intro r h1 h2 h3
    refine dv_inj (p + 1) _ _ (padL_length hlen) (by rw [List.length_cons, h1]) (padL_isD (dec_digits _)) ?_ ?_
    · intro c hc
      rcases List.mem_cons.1 hc with h4 | h4
      · rw [h4]; unfold isD; decide
      exact h2 c h4
    unfold padL
    rw [dv_noughts, dv_dec, dv_cons]
    exact h3.symm
  by_cases hzp : z < p
  · have e1 : min p z = z := by omega
    rw [e1, show (-(z : Int) + (z : Nat)).toNat = 0 by omega, ← pl_seg2]
    have ez : seg (fun i => pl d nd (0 + i)) (p - z) = seg (pl d nd) (p - z) := seg_congr _ fun i _ => by rw [Nat.zero_add]
    rw [ez, key (List.replicate z 48 ++ seg (pl d nd) (p - z)) (by rw [List.length_append, List.length_replicate, seg_length]; omega) (by
      intro c hc
      rcases List.mem_append.1 hc with h1 | h1
      · rw [(List.mem_replicate.1 h1).2]; unfold isD; decide
      · exact seg_isD _ (fun i _ => pl_digit hd i) c h1) (by
      rw [dv_noughts, dv_pl hd]
      unfold atP
      rw [if_pos (by omega), show (-(z : Int) + (p : Int)).toNat = p - z by omega])]
    unfold dot
    have hl : (48 :: (List.replicate z 48 ++ seg (pl d nd) (p - z)) : List UInt8).length = p + 1 := by rw [List.length_cons, List.length_append, List.length_replicate, seg_length]; omega
    rw [if_pos (by omega), if_pos (by omega), hl, show p + 1 - p = 1 by omega]
    rfl
  have e1 : min p z = p := by omega
  rw [e1, Nat.sub_self, Nat.zero_min, Nat.sub_self]
  have hq : atP d nd (-(z : Int)) p = 0 := by
    unfold atP
    by_cases hc : 0 ≤ -(z : Int) + p
    · rw [if_pos hc, show (-(z : Int) + (p : Int)).toNat = 0 by omega]; rfl
    rw [if_neg hc]
  have e2 : (seg (fun i => d ((-(z : Int) + (p : Nat)).toNat + i)) 0 ++ List.replicate 0 48 : List UInt8) = [] := rfl
  rw [e2, List.append_nil]
  rw [key (List.replicate p 48) (List.length_replicate ..) (by intro c hc; rw [(List.mem_replicate.1 hc).2]; unfold isD; decide) (by
    rw [hq]
    have := dv_noughts [] p
    rw [List.append_nil] at this
    rw [this]; rfl)]
  unfold dot
  by_cases hp : 0 < p
  · rw [if_pos hp, if_pos hp, List.length_cons, List.length_replicate, show p + 1 - p = 1 by omega]
    rfl
  rw [if_neg hp, if_neg hp, show p = 0 by omega]; rfl
end Go.Proofs.YtjpiplplohapnaaGreatDoor.Dc
namespace Go.Proofs.YtjpiplplohapnaaGreatDoor
open Go.RowKit Go.Proofs.YtjpiplplohapnaaGreatDoorW.PrintWords
namespace Dc
def upB (s : St) (n : Nat) : Bool :=
  if s.nd ≤ n then false
  else if s.d n = 53 ∧ n + 1 = s.nd then (s.tr || (decide (0 < n) && decide ((s.d (n - 1) - 48) % 2 = 1)))
  else decide (53 ≤ s.d n)
end Dc
open Dc
set_option maxRecDepth 100000 in
set_option maxHeartbeats 1000000 in
theorem up_neg (w : World) (g : Nat) (s : St) (ng : Bool) (n : Int) (hn : n < 0) (h : s.is w g ng) :
    Calls Tryz.prog 170 #[.pointer (some ⟨g, 0, none⟩), .int .i64 n] w fun e w' => e = .returned (.bool false) ∧ w' = w := by
  have cnd : w.cell? ⟨g, 800, none⟩ = some (.int .i64 (s.nd : Nat)) := IsDec.cnd h
  have f1 : decide (n < 0) = true := decide_eq_true hn
  go_enter Tryz.func170, Tryz.ntmps170
  go_wp2_with fail
  go_ret
  exact ⟨rfl, rfl⟩
set_option maxRecDepth 100000 in
set_option maxHeartbeats 1000000 in
theorem up_walk (w : World) (g : Nat) (s : St) (hs : Norm s) (ng : Bool) (n : Nat) (hn2 : n ≤ 1000000) (h : s.is w g ng) :
    Calls Tryz.prog 170 #[.pointer (some ⟨g, 0, none⟩), .int .i64 n] w fun e w' => e = .returned (.bool (upB s n)) ∧ w' = w := by
  have cnd : w.cell? ⟨g, 800, none⟩ = some (.int .i64 (s.nd : Nat)) := IsDec.cnd h
  have ctr : w.cell? ⟨g, 803, none⟩ = some (.bool s.tr) := IsDec.ctr h
  obtain ⟨ans, hans⟩ : ∃ b, b = upB s n := ⟨_, rfl⟩
  rw [← hans]
  unfold upB at hans
  have hle := hs.le
  have f1 : ¬ (n : Int) < 0 := by omega
  by_cases h1 : s.nd ≤ n
  · have g1 : ((s.nd : Nat) : Int) ≤ n := by omega
    have g2 : decide (((s.nd : Nat) : Int) ≤ (n : Int)) = true := decide_eq_true g1
    rw [if_pos h1] at hans
    have HA := Lib.hid hans
    clear hans h h1 hs
    go_enter Tryz.func170, Tryz.ntmps170
    go_wp2_with fail
    go_ret
    exact ⟨by rw [HA.out]; rfl, rfl⟩
  have g1 : ¬ ((s.nd : Nat) : Int) ≤ n := by omega
  have g2 : decide (((s.nd : Nat) : Int) ≤ (n : Int)) = false := decide_eq_false g1
  have g3 : (n : Int) < 800 := by omega
  rw [if_neg h1] at hans
  have cb : w.cell? ⟨g, n, none⟩ = some (.int .u8 (s.d n : Nat)) := IsDec.byte h n (by omega)
  have hby := hs.dgs n (by omega)
  obtain ⟨c, hc⟩ : ∃ c, c = s.d n := ⟨_, rfl⟩
  rw [← hc] at cb hby hans
  by_cases h53 : c = 53
  · have f2 : ((c : Int) == 53) = true := by simp [h53]
    have f3 : (53 : Int) ≤ c := by omega
    have f4 : decide ((53 : Int) ≤ (c : Int)) = true := decide_eq_true f3
    have w1 : IntKind.i64.wrap ((n : Int) + 1) = (n : Int) + 1 := by rw [Go.IntKind.wrap_i64]; omega
    by_cases hl : n + 1 = s.nd
    · have f5 : ((n : Int) + 1 == ((s.nd : Nat) : Int)) = true := by simp; omega
      rw [if_pos ⟨h53, hl⟩] at hans
      obtain ⟨tr, htr⟩ : ∃ t, t = s.tr := ⟨_, rfl⟩
      rw [← htr] at ctr hans
      cases tr
      · rw [Bool.false_or] at hans
        by_cases h0 : n = 0
        · have k0 : ¬ (0 : Int) < n := by omega
          have k1 : decide ((0 : Int) < (n : Int)) = false := decide_eq_false k0
          rw [decide_eq_false (show ¬ 0 < n by omega), Bool.false_and] at hans
          have HA := Lib.hid hans
          subst h0
          clear hans h h1 hs hc h53 hl htr hby
          go_enter Tryz.func170, Tryz.ntmps170
          go_wp2_with fail
          go_ret
          exact ⟨by rw [HA.out]; rfl, rfl⟩
        obtain ⟨j, hj⟩ : ∃ j, n = j + 1 := ⟨n - 1, by omega⟩
        have k0 : (0 : Int) < n := by omega
        have k1 : decide ((0 : Int) < (n : Int)) = true := decide_eq_true k0
        have cb2 : w.cell? ⟨g, j, none⟩ = some (.int .u8 (s.d j : Nat)) := IsDec.byte h j (by omega)
        have hb2 := hs.dgs j (by omega)
        rw [decide_eq_true (show 0 < n by omega), Bool.true_and, show n - 1 = j by omega] at hans
        obtain ⟨b, hb⟩ : ∃ b, b = s.d j := ⟨_, rfl⟩
        rw [← hb] at cb2 hb2 hans
        obtain ⟨f, hf⟩ : ∃ f, f = b - 48 := ⟨_, rfl⟩
        obtain ⟨m, hm⟩ : ∃ m, m = f % 2 := ⟨_, rfl⟩
        rw [← hf, ← hm] at hans
        have x1 : IntKind.i64.wrap ((n : Int) - 1) = (j : Int) := by rw [Go.IntKind.wrap_i64]; omega
        have x2 : wrap64 ((n : Int) - 1) = (j : Int) := by unfold wrap64; omega
        have x3 : IntKind.u8.wrap ((b : Int) - 48) = (f : Int) := by rw [Go.IntKind.wrap_u8]; omega
        have x3b : ((b : Int) - 48) % 256 = (f : Int) := by omega
        have x4 : Int.tmod (f : Int) 2 = (m : Int) := by rw [Int.tmod_eq_emod_of_nonneg (by omega)]; omega
        have x4b : (f : Int) % 2 = (m : Int) := by omega
        have x4c : IntKind.u8.wrap (m : Int) = (m : Int) := by rw [Go.IntKind.wrap_u8]; omega
        have x5 : (j : Int) < 800 := by omega
        obtain ⟨bz, hbz⟩ : ∃ z : Bool, ((m : Int) != 0) = z := ⟨_, rfl⟩
        have HA : Hid (ans = bz) := Lib.hid (by
          rw [hans, ← hbz]
          by_cases h2 : m = 1
          · rw [decide_eq_true h2, h2]; rfl
          rw [decide_eq_false h2, show m = 0 by omega]; rfl)
        clear hans h h1 hs hc h53 hl htr hby hb hb2 hf hm hj h0
        go_enter Tryz.func170, Tryz.ntmps170
        go_wp2_with fail
        go_ret
        exact ⟨by rw [HA.out]; rfl, rfl⟩
      rw [Bool.true_or] at hans
      have HA := Lib.hid hans
      clear hans h h1 hs hc h53 hl htr hby
      go_enter Tryz.func170, Tryz.ntmps170
      go_wp2_with fail
      go_ret
      exact ⟨by rw [HA.out]; rfl, rfl⟩
    have f5 : ((n : Int) + 1 == ((s.nd : Nat) : Int)) = false := by simp; omega
    rw [if_neg (fun hx => hl hx.2), decide_eq_true (by omega)] at hans
    have HA := Lib.hid hans
    clear hans h h1 hs hc h53 hl hby
    go_enter Tryz.func170, Tryz.ntmps170
    go_wp2_with fail
    go_ret
    exact ⟨by rw [HA.out]; rfl, rfl⟩
  have f2 : ((c : Int) == 53) = false := by simp; omega
  rw [if_neg (fun hx => h53 hx.1)] at hans
  by_cases hge : 53 ≤ c
  · have f3 : (53 : Int) ≤ c := by omega
    have f4 : decide ((53 : Int) ≤ (c : Int)) = true := decide_eq_true f3
    rw [decide_eq_true hge] at hans
    have HA := Lib.hid hans
    clear hans h h1 hs hc h53 hby
    go_enter Tryz.func170, Tryz.ntmps170
    go_wp2_with fail
    go_ret
    exact ⟨by rw [HA.out]; rfl, rfl⟩
  have f3 : ¬ (53 : Int) ≤ c := by omega
  have f4 : decide ((53 : Int) ≤ (c : Int)) = false := decide_eq_false f3
  rw [decide_eq_false hge] at hans
  have HA := Lib.hid hans
  clear hans h h1 hs hc h53 hby
  go_enter Tryz.func170, Tryz.ntmps170
  go_wp2_with fail
  go_ret
  exact ⟨by rw [HA.out]; rfl, rfl⟩
end Go.Proofs.YtjpiplplohapnaaGreatDoor
