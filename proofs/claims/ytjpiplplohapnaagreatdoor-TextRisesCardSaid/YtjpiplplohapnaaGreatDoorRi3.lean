/- Part 3 of the proof: Uz, Rf, LRb, AwE, AwF, AwG, AwH, GB, Num, TInt, GH, GI, LRx, Pf1, RfE. -/
import Derived.Test.YtjpiplplohapnaaGreatDoorRi2
import Derived.Lib.OwnBridge
import Derived.Deep.RegionHeld
import Derived.Deep.RegionWith
import Derived.Laws.BytesString
import Derived.LoopTactic
import Derived.Lib.AtoiAll
import Derived.Lib.ItoaNum
import Derived.Deep.CutBlock
import Derived.Deep.DeepCutAuto
set_option linter.unusedVariables false
set_option linter.unusedSimpArgs false
namespace Go.Proofs.YtjpiplplohapnaaGreatDoor
open Go.RowKit Go.Proofs.YtjpiplplohapnaaGreatDoorW.PrintWords Go.Proofs.YtjpiplplohapnaaGreatDoorW.PrintMore Nr Us
attribute [local go_sem] max2_int min2_int
theorem bool2_int (b : Bool) (w : World) : Calls Tryz.prog 133 #[.bool b] w fun e w' => e = .returned (.int .i64 (if b then 1 else 0)) ∧ Below w.heap.size w w' := by
  cases b
  · exact (PText.strconv_bool2_int.calls false 0 w (by decide +kernel)).mono fun _ _ ⟨h1, h2⟩ => ⟨h1, h2.below⟩
  · exact (PText.strconv_bool2_int.calls true 1 w (by decide +kernel)).mono fun _ _ ⟨h1, h2⟩ => ⟨h1, h2.below⟩
theorem len64_bln (d : Nat) (hd : d < 18446744073709551616) (w : World) : Calls Tryz.prog 123 #[.int .u64 (d : Int)] w fun e w' => e = .returned (.int .i64 ((bln d : Nat) : Int)) ∧ w' = w := by
  have := Tryz.bits_Len64 (d : Int) w (by omega) (by omega)
  rw [Int.toNat_natCast, bitLen_eq d hd] at this
  exact this
set_option maxRecDepth 100000 in
set_option maxHeartbeats 2000000 in
theorem parse64_walk (w : World) (hL : Laid w) (d : Nat) (h0 : d ≠ 0) (hd : d < 18446744073709551616) (p : Int) (i : Nat) (r : Nat × Nat) (hi : Pinned.pow10Rows[i]? = some r) (hp : p + 348 = i) (ng : Bool) :
    Calls Tryz.prog 153 #[.int .u64 d, .int .i64 p, .int .u64 (sgB ng : Int)] w (PrPost d p ng w) := by
  obtain ⟨hnear, hcase⟩ := parse64_near hi h0 hd
  rw [show (i : Int) - 348 = p by omega] at hnear hcase
  have hlen := rows_len
  have hi2 : i < 696 := by
    have := (List.getElem?_eq_some_iff.1 hi).1
    omega
  have HLen := Lib.hid (len64_bln d hd)
  have HLog := Lib.hid (log2_calls p (lp p) (log2_f p (by omega) (by omega)))
  obtain ⟨hb1, hb2, hb3⟩ := bln_spec h0
  have hb4 : bln d ≤ 64 := bln_le hd
  obtain ⟨hx1, hx2⟩ := left_just h0 hd
  obtain ⟨hrow, hr1, hr2, -⟩ := row_ok hi
  have hl := lp_range p (by omega) (by omega)
  have hEdef : pE d p = min 1074 (53 - (bln d : Int) - lp p) := rfl
  have hSdef : pS d p = -(pE d p - (64 - (bln d : Int)) + lp p + 3) := rfl
  unfold parse64 pU at hnear
  unfold pU at hcase
  generalize bln d = b at *
  generalize lp p = l at *
  generalize pE d p = E at *
  generalize pS d p = S at *
  obtain ⟨x, hx⟩ : ∃ x, x = d * 2 ^ (64 - b) := ⟨_, rfl⟩
  rw [← hx] at hx1 hx2 hnear hcase
  obtain ⟨y, hy⟩ : ∃ y, y = 64 - b := ⟨_, rfl⟩
  rw [← hy] at hx
  have hshl : IntKind.u64.wrap ((d : Int) * 2 ^ y) = (x : Int) := by rw [hx]; exact int_shl d y (by rw [← hx]; exact hx2)
  have hy1 : (64 : Int) - b = y := by omega
  have hy2 : y < 64 := by omega
  have hmin : min 1074 (53 - (b : Int) - l) = E := hEdef.symm
  have hE1 : E ≤ 1074 := by omega
  have hE2 : -2000 ≤ E := by omega
  have hS1 : -(E - (64 - (b : Int)) + l + 3) = S := hSdef.symm
  have hrlt : r.2 < 18446744073709551616 := hrow.small
  have HNear := Lib.hid hnear
  have HCase := Lib.hid hcase
  have HPre := Lib.hid (fun (W : World) (hLW : Laid W) (g B : Nat) hB hg h17 => prescale_walk W hLW g B hB hg h17 (E - (64 - (b : Int))) l p i r hi hp (by omega) (by omega) (by omega) (by omega))
  rw [hS1, hy1] at HPre
  have HS1 := Lib.hid hS1
  clear hS1 hy hb1 hb2 hnear hcase hEdef hSdef hrow hx hi hp hlen hi2 h0 hd
  obtain ⟨rh, rl⟩ := r
  dsimp only at hr1 hr2 hrlt HNear HCase HPre
  go_enter Tryz.func153, Tryz.ntmps153
  go_wp2_with fail
  refine (HLen.out _).mono ?_
  rintro e w1 ⟨rfl, hw1⟩
  obtain rfl := hw1.symm
  clear hw1 HLen
  go_wp2_with fail
  refine (HLog.out _).mono ?_
  rintro e w2 ⟨rfl, hb2⟩
  clear HLog
  have hL2 := hL.below hb2
  have hba := below_alloc (Below.refl w2.heap.size w2) (Obj.cells #[.int .u64 0, .int .u64 0, .int .i64 0] 203)
  have HP := Lib.hid (HPre.out _ (hL2.below hba) w2.heap.size w2.heap.size (Nat.le_refl _) (blk_new _ _) (by have := hL2.size; omega))
  clear HPre
  go_wp2_with fail
  refine HP.out.mono ?_
  rintro e w3 ⟨rfl, hb3', hg3⟩
  clear HP
  have hb03 := hb2.trans ((hba.trans hb3').mono hb2.size)
  have c2 : w3.cell? ⟨w2.heap.size, 2, none⟩ = some (.int .i64 S) := (blk_cell hg3 2).trans rfl
  by_cases c1 : 64 ≤ S
  · have hf := from151i (Ieee.double.word ng 0)
    have ho : Go.bits .or .u64 (sgB ng : Int) 0 = ((Ieee.double.word ng 0 : Nat) : Int) := by
      rw [word_sgB]; exact or_sgB ng 0 (by decide)
    obtain ⟨Z, hZ⟩ : ∃ Z, Z = Ieee.double.word ng 0 := ⟨_, rfl⟩
    have HX := Lib.hid hZ
    rw [← hZ] at ho hf
    have HN := HNear.out
    rw [if_pos c1] at HN
    have HN := Lib.hid HN
    clear hZ HNear HCase
    go_wp2_with fail
    go_ret2
    exact ⟨0, HN.out, hb03, Or.inl ⟨by decide, by rw [← HX.out]; rfl⟩⟩
  · obtain ⟨h8, hA, hB⟩ := HCase.out.resolve_left c1
    have HN := HNear.out
    rw [if_neg c1] at HN
    clear HNear HCase
    obtain ⟨s, rfl⟩ : ∃ s : Nat, S = s := ⟨S.toNat, by omega⟩
    rw [Int.toNat_natCast] at hA hB HN
    have hs64 : s < 64 := by omega
    have hpos : 0 < x * rh / 18446744073709551616 := by
      have h1 : 9223372036854775808 * 9223372036854775808 ≤ x * rh := Nat.mul_le_mul hx1 hr1
      exact Nat.div_pos (by omega) (by decide)
    have hult := usc_lt x rh rl s hx2 (by omega) (by omega)
    have HU := Lib.hid (uscale_walk w3 w2.heap.size x rh rl s hx2 (by omega) hrlt hs64 hpos hg3)
    generalize usc x rh rl s = u at *
    obtain ⟨U, hU⟩ : ∃ U : Int, U = 36028797018963966 := ⟨_, rfl⟩
    have HM := Lib.hid (unmin_calls 9007199254740992 36028797018963966 unmin_f)
    rw [← hU] at HM
    by_cases c3 : u < 36028797018963966
    · obtain ⟨hv1, hv2⟩ := hA c3
      rw [if_pos c3] at HN
      have HNN := Lib.hid HN
      have c4 : ¬ U ≤ (u : Int) := by omega
      have c5 : decide (U ≤ (u : Int)) = false := decide_eq_false c4
      have HB2 : Hid (∀ w : World, Calls Tryz.prog 133 #[.bool false] w fun e w' => e = .returned (.int .i64 0) ∧ Below w.heap.size w w') := Lib.hid (bool2_int false)
      have HR := Lib.hid (round_calls (u : Int) _ (round_f u (by omega)))
      have ha1 := and1_bits u (by omega)
      have ho1 := self_or u (by omega)
      have ho2 := or_sgB ng (rnd u) (by omega)
      obtain ⟨k, hk⟩ : ∃ k : Nat, (k : Int) = 1074 - E := ⟨(1074 - E).toNat, by omega⟩
      have HPk := Lib.hid (fun W => pack_walk W ng (rnd u) k hv1 (fun h => hv2 (by omega)) (-E) (by omega))
      rw [show (1074 - E).toNat = k by omega] at HNN
      generalize rnd u = v at *
      generalize u % 2 = u2 at *
      generalize sgB ng + v = sv at *
      clear hU hA hB HN hv1 hv2 c3 hx1 hx2 hr1 hr2 hrlt hpos hult hk hl hmin hg3 hb4 hb3 hs64 h8
      go_wp2_with fail
      refine HU.out.mono ?_
      rintro e w4 ⟨rfl, hb4'⟩
      have hb04 := hb03.trans (hb4'.mono hb03.size)
      clear HU
      go_wp2_with fail
      refine (HM.out _).mono ?_
      rintro e w5 ⟨rfl, hb5⟩
      have hb05 := hb04.trans (hb5.mono hb04.size)
      clear HM
      go_wp2_with fail
      refine (HB2.out _).mono ?_
      rintro e w6 ⟨rfl, hb6⟩
      have hb06 := hb05.trans (hb6.mono hb05.size)
      clear HB2
      go_wp2_with fail
      refine (HR.out _).mono ?_
      rintro e w7 ⟨rfl, hb7⟩
      have hb07 := hb06.trans (hb7.mono hb06.size)
      clear HR
      go_wp2_with fail
      refine (HPk.out _).mono ?_
      rintro e w8 ⟨hb8, hres⟩
      have hb08 := hb07.trans (hb8.mono hb07.size)
      rcases hres with ⟨hr1, rfl⟩ | ⟨hr1, rfl⟩
      · have HR1 := Lib.hid hr1
        clear hr1 HPk
        obtain ⟨Z, hZ⟩ : ∃ Z, Z = Ieee.double.word ng (k * 4503599627370496 + v) := ⟨_, rfl⟩
        have HX := Lib.hid hZ
        rw [← hZ]
        clear hZ
        go_wp2_with fail
        go_ret2
        exact ⟨_, HNN.out, hb08, Or.inl ⟨HR1.out, by rw [← HX.out]; rfl⟩⟩
      · have HR1 := Lib.hid hr1
        clear hr1 HPk
        obtain ⟨Z, hZ⟩ : ∃ Z, Z = Ieee.double.word ng 9218868437227405312 := ⟨_, rfl⟩
        have HX := Lib.hid hZ
        rw [← hZ]
        clear hZ
        go_wp2_with fail
        go_ret2
        exact ⟨_, HNN.out, hb08, Or.inr ⟨HR1.out, by rw [← HX.out]; rfl⟩⟩
    · obtain ⟨hv1, hv2⟩ := hB (by omega)
      rw [if_neg c3] at HN
      have HNN := Lib.hid HN
      have c4 : U ≤ (u : Int) := by omega
      have c5 : decide (U ≤ (u : Int)) = true := decide_eq_true c4
      have HB2 : Hid (∀ w : World, Calls Tryz.prog 133 #[.bool true] w fun e w' => e = .returned (.int .i64 1) ∧ Below w.heap.size w w') := Lib.hid (bool2_int true)
      have hst := stick_or u (by omega)
      have hstl : stick (u / 2) (decide (u % 2 = 1)) < 18446744073709551610 := by
        unfold stick; split <;> omega
      generalize stick (u / 2) (decide (u % 2 = 1)) = t at *
      have HR := Lib.hid (round_calls (t : Int) _ (round_f t hstl))
      have ha1 := and1_bits u (by omega)
      have ha2 : (u : Int) / 2 = ((u / 2 : Nat) : Int) := by omega
      have ho2 := or_sgB ng (rnd t) (by omega)
      obtain ⟨k, hk⟩ : ∃ k : Nat, (k : Int) = 1075 - E := ⟨(1075 - E).toNat, by omega⟩
      have HPk := Lib.hid (fun W => pack_walk W ng (rnd t) k hv1 (fun _ => hv2) (-(E - 1)) (by omega))
      rw [show (1075 - E).toNat = k by omega] at HNN
      have he1 : -2001 ≤ E - 1 := by omega
      have he2 : E - 1 ≤ 1073 := by omega
      have hw1 : IntKind.i64.wrap (E - 1) = E - 1 := by rw [Go.IntKind.wrap_i64]; omega
      generalize rnd t = v at *
      generalize u % 2 = u2 at *
      generalize u / 2 = u3 at *
      generalize sgB ng + v = sv at *
      clear hU hA hB HN hv1 hv2 c3 hx1 hx2 hr1 hr2 hrlt hpos hult hk hl hmin hg3 hb4 hb3 hs64 h8 hstl
      go_wp2_with fail
      refine HU.out.mono ?_
      rintro e w4 ⟨rfl, hb4'⟩
      have hb04 := hb03.trans (hb4'.mono hb03.size)
      clear HU
      go_wp2_with fail
      refine (HM.out _).mono ?_
      rintro e w5 ⟨rfl, hb5⟩
      have hb05 := hb04.trans (hb5.mono hb04.size)
      clear HM
      go_wp2_with fail
      refine (HB2.out _).mono ?_
      rintro e w6 ⟨rfl, hb6⟩
      have hb06 := hb05.trans (hb6.mono hb05.size)
      clear HB2
      go_wp2_with fail
      refine (HR.out _).mono ?_
      rintro e w7 ⟨rfl, hb7⟩
      have hb07 := hb06.trans (hb7.mono hb06.size)
      clear HR
      go_wp2_with fail
      refine (HPk.out _).mono ?_
      rintro e w8 ⟨hb8, hres⟩
      have hb08 := hb07.trans (hb8.mono hb07.size)
      rcases hres with ⟨hr1, rfl⟩ | ⟨hr1, rfl⟩
      · have HR1 := Lib.hid hr1
        clear hr1 HPk
        obtain ⟨Z, hZ⟩ : ∃ Z, Z = Ieee.double.word ng (k * 4503599627370496 + v) := ⟨_, rfl⟩
        have HX := Lib.hid hZ
        rw [← hZ]
        clear hZ
        go_wp2_with fail
        go_ret2
        exact ⟨_, HNN.out, hb08, Or.inl ⟨HR1.out, by rw [← HX.out]; rfl⟩⟩
      · have HR1 := Lib.hid hr1
        clear hr1 HPk
        obtain ⟨Z, hZ⟩ : ∃ Z, Z = Ieee.double.word ng 9218868437227405312 := ⟨_, rfl⟩
        have HX := Lib.hid hZ
        rw [← hZ]
        clear hZ
        go_wp2_with fail
        go_ret2
        exact ⟨_, HNN.out, hb08, Or.inr ⟨HR1.out, by rw [← HX.out]; rfl⟩⟩
end Go.Proofs.YtjpiplplohapnaaGreatDoor
namespace Go.Proofs.YtjpiplplohapnaaGreatDoor.Rf
structure St where
  us : Bool
  dot : Bool
  sd : Bool
  nd : Nat
  nm : Nat
  dp : Int
  m : Nat
  tr : Bool
def st0 : St := ⟨false, false, false, 0, 0, 0, 0, false⟩
def bs (hx : Bool) : Nat := if hx then 16 else 10
def mxd (hx : Bool) : Nat := if hx then 16 else 19
def lw (c : Nat) : Int := Go.bits .or .u8 (c : Int) 32
def stp (hx : Bool) (c : Nat) (t : St) : Option St :=
  if c = 95 then some { t with us := true }
  else if c = 46 then (if t.dot then none else some { t with dot := true, dp := t.nd })
  else if 48 ≤ c ∧ c ≤ 57 then
    if c = 48 ∧ t.nd = 0 then some { t with sd := true, dp := t.dp - 1 }
    else if t.nm < mxd hx then some { t with sd := true, nd := t.nd + 1, nm := t.nm + 1, m := t.m * bs hx + (c - 48) }
    else some { t with sd := true, nd := t.nd + 1, tr := t.tr || decide (c ≠ 48) }
  else if hx = true ∧ 97 ≤ lw c ∧ lw c ≤ 102 then
    if t.nm < mxd hx then some { t with sd := true, nd := t.nd + 1, nm := t.nm + 1, m := t.m * bs hx + (lw c - 87).toNat }
    else some { t with sd := true, nd := t.nd + 1, tr := true }
  else none
def scan (hx : Bool) : List UInt8 → St → St × List UInt8
  | [], t => (t, [])
  | c :: l, t => match stp hx c.toNat t with
    | some t' => scan hx l t'
    | none => (t, c :: l)
structure Ok (hx : Bool) (t : St) (k : Nat) : Prop where
  nd : t.nd ≤ k
  nm : t.nm ≤ mxd hx
  m : t.m < bs hx ^ t.nm
  dp1 : -(k : Int) ≤ t.dp
  dp2 : t.dp ≤ k
theorem ok0 (hx : Bool) (k : Nat) : Ok hx st0 k := ⟨Nat.zero_le _, Nat.zero_le _, by show 0 < _; exact Nat.pow_pos (by cases hx <;> decide), by show -(k : Int) ≤ 0; omega, by show (0 : Int) ≤ k; omega⟩
theorem pow_max (hx : Bool) : bs hx ^ mxd hx ≤ 18446744073709551616 := by cases hx <;> decide
theorem Ok.room {hx : Bool} {t : St} {k d : Nat} (h : Ok hx t k) (hn : t.nm < mxd hx) (hd : d < bs hx) : t.m * bs hx + d < bs hx ^ (t.nm + 1) ∧ bs hx ^ (t.nm + 1) ≤ 18446744073709551616 := by
  have hb : 0 < bs hx := by cases hx <;> decide
  constructor
  · have : (t.m + 1) * bs hx ≤ bs hx ^ t.nm * bs hx := Nat.mul_le_mul_right _ h.m
    rw [← Nat.pow_succ, Nat.add_mul, Nat.one_mul, Nat.succ_eq_add_one] at this
    omega
  · exact Nat.le_trans (Nat.pow_le_pow_right hb hn) (pow_max hx)
theorem drop_at (l : List UInt8) (k : Nat) (h : k < l.length) : l.drop k = l[k] :: l.drop (k + 1) := List.drop_eq_getElem_cons h
theorem scan_some {hx : Bool} {l : List UInt8} {k : Nat} {t t' : St} (h : k < l.length) (hs : stp hx l[k].toNat t = some t') : scan hx (l.drop k) t = scan hx (l.drop (k + 1)) t' := by
  rw [drop_at l k h, scan, hs]
theorem scan_none {hx : Bool} {l : List UInt8} {k : Nat} {t : St} (h : k < l.length) (hs : stp hx l[k].toNat t = none) : scan hx (l.drop k) t = (t, l.drop k) := by
  rw [drop_at l k h, scan, hs]
theorem scan_end {hx : Bool} {l : List UInt8} {k : Nat} {t : St} (h : l.length ≤ k) : scan hx (l.drop k) t = (t, l.drop k) := by
  rw [List.drop_of_length_le h, scan]
def escan : List UInt8 → Nat → Bool → Nat × Bool × List UInt8
  | [], e, us => (e, us, [])
  | c :: l, e, us => if c.toNat = 95 then escan l e true else if 48 ≤ c.toNat ∧ c.toNat ≤ 57 then escan l (if e < 10000 then e * 10 + (c.toNat - 48) else e) us else (e, us, c :: l)
def esign : List UInt8 → Int × List UInt8
  | [] => (1, [])
  | c :: l => if c.toNat = 43 then (1, l) else if c.toNat = 45 then (-1, l) else (1, c :: l)
def startsD : List UInt8 → Bool
  | [] => false
  | d :: _ => decide (48 ≤ d.toNat) && decide (d.toNat ≤ 57)
def eat (us : Bool) (r : List UInt8) : Option (Int × Bool × List UInt8) :=
  if startsD (esign r).2 then some ((esign r).1 * ((escan (esign r).2 0 us).1 : Nat), (escan (esign r).2 0 us).2.1, (escan (esign r).2 0 us).2.2) else none
def expPart (hx us : Bool) : List UInt8 → Option (Int × Bool × List UInt8)
  | [] => if hx then none else some (0, us, [])
  | c :: r => if lw c.toNat = (if hx then 112 else 101) then eat us r else if hx then none else some (0, us, c :: r)
structure Out where
  m : Nat
  e : Int
  tr : Bool
  us : Bool
  rest : List UInt8
def dpv (hx : Bool) (t : St) : Int := (if t.dot then t.dp else t.nd) * (if hx then 4 else 1)
def nmv (hx : Bool) (t : St) : Int := t.nm * (if hx then 4 else 1)
def fin (hx : Bool) (t : St) (r : List UInt8) : Option Out :=
  if t.sd then (expPart hx t.us r).map fun x => ⟨t.m, if t.m = 0 then 0 else dpv hx t + x.1 - nmv hx t, t.tr, x.2.1, x.2.2⟩ else none
theorem escan_us {l : List UInt8} {k e : Nat} {us : Bool} (h : k < l.length) (hc : l[k].toNat = 95) : escan (l.drop k) e us = escan (l.drop (k + 1)) e true := by
  rw [drop_at l k h, escan, if_pos hc]
theorem escan_digit {l : List UInt8} {k e : Nat} {us : Bool} (h : k < l.length) (hc : ¬ l[k].toNat = 95) (hd : 48 ≤ l[k].toNat ∧ l[k].toNat ≤ 57) : escan (l.drop k) e us = escan (l.drop (k + 1)) (if e < 10000 then e * 10 + (l[k].toNat - 48) else e) us := by
  rw [drop_at l k h, escan, if_neg hc, if_pos hd]
theorem escan_stop {l : List UInt8} {k e : Nat} {us : Bool} (h : k < l.length) (hc : ¬ l[k].toNat = 95) (hd : ¬ (48 ≤ l[k].toNat ∧ l[k].toNat ≤ 57)) : escan (l.drop k) e us = (e, us, l.drop k) := by
  rw [drop_at l k h, escan, if_neg hc, if_neg hd]
theorem escan_end {l : List UInt8} {k e : Nat} {us : Bool} (h : l.length ≤ k) : escan (l.drop k) e us = (e, us, l.drop k) := by
  rw [List.drop_of_length_le h, escan]
theorem expPart_hit_d {us : Bool} {c : UInt8} {r : List UInt8} (h : lw c.toNat = 101) : expPart false us (c :: r) = eat us r := by unfold expPart; exact if_pos h
theorem expPart_hit_x {us : Bool} {c : UInt8} {r : List UInt8} (h : lw c.toNat = 112) : expPart true us (c :: r) = eat us r := by unfold expPart; exact if_pos h
theorem expPart_miss_d {us : Bool} {c : UInt8} {r : List UInt8} (h : ¬ lw c.toNat = 101) : expPart false us (c :: r) = some (0, us, c :: r) := by unfold expPart; exact if_neg h
theorem expPart_miss_x {us : Bool} {c : UInt8} {r : List UInt8} (h : ¬ lw c.toNat = 112) : expPart true us (c :: r) = none := by unfold expPart; exact if_neg h
end Go.Proofs.YtjpiplplohapnaaGreatDoor.Rf
namespace Go.Proofs.YtjpiplplohapnaaGreatDoor.Rf
theorem stp_ok {hx : Bool} {c : Nat} (hc : c < 256) {t t' : St} {k : Nat} (h : Ok hx t k) (hs : stp hx c t = some t') : Ok hx t' (k + 1) := by
  obtain ⟨h1, h2, h3, h4, h5⟩ := h
  have hb10 : 10 ≤ bs hx := by cases hx <;> decide
  have hb16 : bs true = 16 := rfl
  unfold stp at hs
  split at hs
  · cases hs; exact ⟨by dsimp only; omega, h2, h3, by dsimp only; omega, by dsimp only; omega⟩
  · split at hs
    · split at hs
      · cases hs
      · cases hs; exact ⟨by dsimp only; omega, h2, h3, by dsimp only; omega, by dsimp only; omega⟩
    · split at hs
      · rename_i hd
        split at hs
        · cases hs; exact ⟨by dsimp only; omega, h2, h3, by dsimp only; omega, by dsimp only; omega⟩
        · split at hs
          · rename_i hn
            have := (⟨h1, h2, h3, h4, h5⟩ : Ok hx t k).room (d := c - 48) hn (by omega)
            cases hs; exact ⟨by dsimp only; omega, by dsimp only; omega, this.1, by dsimp only; omega, by dsimp only; omega⟩
          · cases hs; exact ⟨by dsimp only; omega, h2, h3, by dsimp only; omega, by dsimp only; omega⟩
      · split at hs
        · rename_i hl
          obtain ⟨rfl, hl1, hl2⟩ := hl
          split at hs
          · rename_i hn
            have := (⟨h1, h2, h3, h4, h5⟩ : Ok true t k).room (d := (lw c - 87).toNat) hn (by rw [hb16]; omega)
            cases hs; exact ⟨by dsimp only; omega, by dsimp only; omega, this.1, by dsimp only; omega, by dsimp only; omega⟩
          · cases hs; exact ⟨by dsimp only; omega, h2, h3, by dsimp only; omega, by dsimp only; omega⟩
        · cases hs
theorem scan_ok {hx : Bool} : ∀ (l : List UInt8) (t : St) (k : Nat), Ok hx t k → Ok hx (scan hx l t).1 (k + l.length)
  | [], t, k, h => h
  | c :: l, t, k, h => by
    rw [scan]
    cases hs : stp hx c.toNat t with
    | none =>
      dsimp only
      obtain ⟨h1, h2, h3, h4, h5⟩ := h
      exact ⟨by simp; omega, h2, h3, by simp; omega, by simp; omega⟩
    | some t' =>
      dsimp only
      have := scan_ok l t' (k + 1) (stp_ok (UInt8.toNat_lt c) h hs)
      rw [List.length_cons, show k + (l.length + 1) = k + 1 + l.length by omega]
      exact this
theorem escan_le : ∀ (l : List UInt8) (e : Nat) (us : Bool), e ≤ 99999 → (escan l e us).1 ≤ 99999
  | [], e, us, h => h
  | c :: l, e, us, h => by
    rw [escan]
    split
    · exact escan_le l e true h
    · split
      · rename_i hd
        refine escan_le l _ us ?_
        split <;> omega
      · exact h
theorem esign_one (l : List UInt8) : (esign l).1 = 1 ∨ (esign l).1 = -1 := by
  cases l with
  | nil => exact Or.inl rfl
  | cons c l =>
    show (if c.toNat = 43 then ((1 : Int), l) else if c.toNat = 45 then (-1, l) else (1, c :: l)).1 = 1 ∨ (if c.toNat = 43 then ((1 : Int), l) else if c.toNat = 45 then (-1, l) else (1, c :: l)).1 = -1
    by_cases h1 : c.toNat = 43
    · rw [if_pos h1]; exact Or.inl rfl
    · rw [if_neg h1]
      by_cases h2 : c.toNat = 45
      · rw [if_pos h2]; exact Or.inr rfl
      · rw [if_neg h2]; exact Or.inl rfl
theorem eat_bound {us : Bool} {r : List UInt8} {x : Int × Bool × List UInt8} (h : eat us r = some x) : -99999 ≤ x.1 ∧ x.1 ≤ 99999 := by
  unfold eat at h
  split at h
  · cases h
    dsimp only
    have h1 := escan_le (esign r).2 0 us (by omega)
    generalize (escan (esign r).2 0 us).1 = e at *
    rcases esign_one r with h | h <;> rw [h] <;> omega
  · cases h
theorem expPart_bound {hx us : Bool} {r : List UInt8} {x : Int × Bool × List UInt8} (h : expPart hx us r = some x) : -99999 ≤ x.1 ∧ x.1 ≤ 99999 := by
  cases r with
  | nil =>
    cases hx
    · rw [show expPart false us [] = some (0, us, []) from rfl] at h
      cases h; exact ⟨by dsimp only; omega, by dsimp only; omega⟩
    · rw [show expPart true us [] = none from rfl] at h
      cases h
  | cons c r =>
    cases hx
    · by_cases h1 : lw c.toNat = 101
      · rw [expPart_hit_d h1] at h; exact eat_bound h
      · rw [expPart_miss_d h1] at h; cases h; exact ⟨by dsimp only; omega, by dsimp only; omega⟩
    · by_cases h1 : lw c.toNat = 112
      · rw [expPart_hit_x h1] at h; exact eat_bound h
      · rw [expPart_miss_x h1] at h; cases h
theorem fin_bound {hx : Bool} {l : List UInt8} (hl : l.length ≤ 1000) {o : Out} (h : fin hx (scan hx l st0).1 (scan hx l st0).2 = some o) : o.m < 18446744073709551616 ∧ -300000 ≤ o.e ∧ o.e ≤ 300000 := by
  have hk := scan_ok (hx := hx) l st0 0 (ok0 hx 0)
  generalize (scan hx l st0).1 = t at *
  generalize (scan hx l st0).2 = r at *
  obtain ⟨h1, h2, h3, h4, h5⟩ := hk
  unfold fin at h
  split at h
  · cases he : expPart hx t.us r with
    | none => rw [he] at h; cases h
    | some x =>
      rw [he] at h
      cases h
      have hb := expPart_bound he
      have hm : t.m < 18446744073709551616 := Nat.lt_of_lt_of_le h3 (Nat.le_trans (Nat.pow_le_pow_right (by cases hx <;> decide) h2) (pow_max hx))
      refine ⟨hm, ?_⟩
      dsimp only
      have hn : t.nm ≤ 19 := Nat.le_trans h2 (by cases hx <;> decide)
      have hD : -5000 ≤ dpv hx t ∧ dpv hx t ≤ 5000 := by
        unfold dpv
        cases hx <;> cases t.dot <;> simp <;> omega
      have hN : 0 ≤ nmv hx t ∧ nmv hx t ≤ 100 := by
        unfold nmv
        cases hx <;> simp <;> omega
      split <;> omega
  · cases h
end Go.Proofs.YtjpiplplohapnaaGreatDoor.Rf
namespace Go.Proofs.YtjpiplplohapnaaGreatDoor
open Go.RowKit Go.Sort Go.Proofs.YtjpiplplohapnaaGreatDoorW.PrintWords
abbrev encB (b : UInt8) : Value := .int .u8 (b.toNat : Int)
theorem below_putRow2 {B : Nat} {w0 w : World} {g n : Nat} {d : Array UInt8} (h : Below B w0 w) (hg : B ≤ g) : Below B w0 ((putRow encB w g 0 d).drewN n) := by
  have := Lib.below_putRow (enc := encB) (q := 0) (d := d) h hg
  exact below_drewN (by simpa [Sort.ahead] using this) n
set_option maxRecDepth 100000 in
set_option maxHeartbeats 1000000 in
theorem setDigits_38 (w : World) (g B : Nat) (hB : B ≤ g) (h0 : w.cell? ⟨g, 0, none⟩ = some (.int .u8 0)) (h1 : w.cell? ⟨g, 1, none⟩ = some (.int .u8 0)) (f0 : w.frozen? ⟨g, 0, none⟩ = false) (f1 : w.frozen? ⟨g, 1, none⟩ = false) :
    Calls Tryz.prog 125 #[.slice (some ⟨g, 0, none⟩) 24 24, .int .u64 38, .int .i64 (-2), .int .i64 2] w fun e w' => e = .returned (.tuple #[.int .i64 0, .int .i64 2]) ∧ Below B w w' ∧ w'.cell? ⟨g, 0, none⟩ = some (.int .u8 51) ∧ w'.cell? ⟨g, 1, none⟩ = some (.int .u8 56) := by
  have hH : Holds encB w g 0 #[0, 0] := by
    intro j hj
    have : j = 0 ∨ j = 1 := by simp at hj; omega
    rcases this with rfl | rfl
    · exact ⟨h0, f0⟩
    · exact ⟨h1, f1⟩
  go_enter Tryz.func125, Tryz.ntmps125
  go_wp2_with fail
  refine (Tryz.internal_strconv_formatBase10 g 0 24 38 #[0, 0] _ hH (by decide) (by decide) (by decide)).mono ?_
  rintro e w1 ⟨rfl, n, v', dk, rfl, hF⟩
  have e0 : dk[0]! = 51 := (hF.done 0 (by decide) (by decide)).trans (by decide)
  have e1 : dk[1]! = 56 := (hF.done 1 (by decide) (by decide)).trans (by decide)
  have hs : dk.size = 2 := hF.size
  have hbw : Below B w ((putRow encB w g 0 dk).drewN n) := below_putRow2 (Below.refl _ _) hB
  have k0 : ((putRow encB w g 0 dk).drewN n).cell? ⟨g, 0, none⟩ = some (.int .u8 51) := by
    have := cell?_putRow encB w g 0 #[0, 0] dk hH hs 0 (by omega)
    rw [e0] at this; exact this
  have k1 : ((putRow encB w g 0 dk).drewN n).cell? ⟨g, 1, none⟩ = some (.int .u8 56) := by
    have := cell?_putRow encB w g 0 #[0, 0] dk hH hs 1 (by omega)
    rw [e1] at this; exact this
  generalize (putRow encB w g 0 dk).drewN n = w2 at *
  clear hF e0 e1 hs hH
  go_wp2_with fail
  refine wp_loop_rounds 1 ?_
  rw [rounds_succ]
  go_wp2_with fail
  go_ret2
  exact ⟨rfl, hbw, k0, k1⟩
structure Two (B : Nat) (w0 : World) (gd g : Nat) (T : TypeId) (cs : Array Value) (w : World) : Prop where
  row : w.heap[gd]? = some (.cells cs T (0, 0))
  k0 : w.cell? ⟨g, 0, none⟩ = some (.int .u8 51)
  k1 : w.cell? ⟨g, 1, none⟩ = some (.int .u8 56)
  below : Below B w0 w
theorem Two.put {B gd g : Nat} {w0 w : World} {T : TypeId} {cs cs' : Array Value} (h : Two B w0 gd g T cs w) (hB : B ≤ gd) (hne : gd ≠ g) (j : Nat) (v : Value) (e : cs.setIfInBounds j v = cs') : Two B w0 gd g T cs' (w.setCell ⟨gd, j, none⟩ v) :=
  ⟨blk_put h.row j v e, (World.cell?_setCell_far w _ _ _ hne).trans h.k0, (World.cell?_setCell_far w _ _ _ hne).trans h.k1, h.below.setCell hB _⟩
theorem Two.new {B gd g : Nat} {w0 w : World} {T : TypeId} {cs : Array Value} (h : Two B w0 gd g T cs w) (hB : B ≤ w.heap.size) (o : Obj) : Two B w0 gd g T cs (w.alloc o) :=
  ⟨blk_alloc h.row o, (((Below.refl w.heap.size w).alloc (Nat.le_refl _) o).cell (World.block_lt_of_cell? w _ h.k0)).trans h.k0, (((Below.refl w.heap.size w).alloc (Nat.le_refl _) o).cell (World.block_lt_of_cell? w _ h.k1)).trans h.k1, h.below.alloc hB o⟩
theorem Two.lt {B gd g : Nat} {w0 w : World} {T : TypeId} {cs : Array Value} (h : Two B w0 gd g T cs w) : gd < w.heap.size ∧ g < w.heap.size := ⟨(Array.getElem?_eq_some_iff.1 h.row).1, World.block_lt_of_cell? w _ h.k0⟩
set_option maxRecDepth 100000 in
set_option maxHeartbeats 1000000 in
theorem fmt_38 (w : World) (g gd B : Nat) (hgd : B ≤ gd) (hne : gd ≠ g) (T : TypeId) (y : Value) (hd : w.heap[gd]? = some (.cells (Array.replicate 24 y) T (0, 0)))
    (k0 : w.cell? ⟨g, 0, none⟩ = some (.int .u8 51)) (k1 : w.cell? ⟨g, 1, none⟩ = some (.int .u8 56)) :
    Calls Tryz.prog 122 #[.slice (some ⟨gd, 0, none⟩) 0 24, .bool false, .slice (some ⟨g, 0, none⟩) 24 24, .int .i64 0, .int .i64 2, .int .i64 2, .int .u8 102, .bool false] w fun e w' =>
      e = .returned (.slice (some ⟨gd, 0, none⟩) 4 24) ∧ Below B w w' ∧ w'.cell? ⟨gd, 0, none⟩ = some (.int .u8 48) ∧ w'.cell? ⟨gd, 1, none⟩ = some (.int .u8 46) ∧ w'.cell? ⟨gd, 2, none⟩ = some (.int .u8 51) ∧ w'.cell? ⟨gd, 3, none⟩ = some (.int .u8 56) := by
  have hT : Two B w gd g T (Array.replicate 24 y) w := ⟨hd, k0, k1, Below.refl _ _⟩
  have HT := Lib.hid hT
  obtain ⟨hgl, hgl2⟩ := hT.lt
  have c0 : w.cell? ⟨gd, 0, none⟩ = some y := (blk_cell hd 0).trans (by simp)
  have c1 : w.cell? ⟨gd, 1, none⟩ = some y := (blk_cell hd 1).trans (by simp)
  have f0 := blk_frozen hd 0
  have f1 := blk_frozen hd 1
  have hne' : g ≠ gd := fun h => hne h.symm
  clear hd hT
  have m1 : min (2 : Int) 0 = 0 := by decide
  have m2 : max (0 : Int) 2 = 2 := by decide
  have m3 : min (2 : Int) 2 = 2 := by decide
  have m4 : max (0 : Int) 0 = 0 := by decide
  go_enter Tryz.func122, Tryz.ntmps122
  go_wp2_with fail
  refine wp_loop_rounds 1 ?_
  rw [rounds_succ]
  go_wp2_with fail
  have HT2 := Lib.hid ((((HT.out.put hgd hne 0 (.int .u8 48) rfl).put hgd hne 1 (.int .u8 46) rfl).new (by simp; omega) (Obj.cells #[.int .u8 48] 5)).new (by simp; omega) (Obj.cells #[.int .u8 46] 5))
  clear HT c0 c1 f0 f1 k0 k1 hgl hgl2
  generalize hW : (((w.setCell ⟨gd, 0, none⟩ (.int .u8 48)).setCell ⟨gd, 1, none⟩ (.int .u8 46)).alloc (Obj.cells #[.int .u8 48] 5)).alloc (Obj.cells #[.int .u8 46] 5) = W at *
  clear hW
  obtain ⟨hgl, hgl2⟩ := HT2.out.lt
  have k0 := HT2.out.k0
  have c2 : W.cell? ⟨gd, 2, none⟩ = some y := (blk_cell HT2.out.row 2).trans rfl
  have f2 := blk_frozen HT2.out.row 2
  refine wp_loop_rounds 3 ?_
  rw [rounds_succ]
  go_wp2_with fail
  have hBW : B ≤ W.heap.size := HT2.out.below.size |> fun h => by omega
  have HT3 := Lib.hid ((HT2.out.put hgd hne 2 (.int .u8 51) rfl).new (by simp; omega) (Obj.cells #[.int .u8 51] 5))
  clear HT2 c2 f2 k0 hgl hgl2 hBW
  generalize hW : (W.setCell ⟨gd, 2, none⟩ (.int .u8 51)).alloc (Obj.cells #[.int .u8 51] 5) = W3 at *
  clear hW
  obtain ⟨hgl, hgl2⟩ := HT3.out.lt
  have k1 := HT3.out.k1
  have c3 : W3.cell? ⟨gd, 3, none⟩ = some y := (blk_cell HT3.out.row 3).trans rfl
  have f3 := blk_frozen HT3.out.row 3
  rw [rounds_succ]
  go_wp2_with fail
  have HT4 := Lib.hid ((HT3.out.put hgd hne 3 (.int .u8 56) rfl).new (by simp; omega) (Obj.cells #[.int .u8 56] 5))
  clear HT3 c3 f3 k1 hgl hgl2
  generalize hW : (W3.setCell ⟨gd, 3, none⟩ (.int .u8 56)).alloc (Obj.cells #[.int .u8 56] 5) = W4 at *
  clear hW
  rw [rounds_succ]
  go_wp2_with fail
  refine wp_loop_rounds 1 ?_
  rw [rounds_succ]
  go_wp2_with fail
  go_ret
  have hr := HT4.out.row
  exact ⟨rfl, HT4.out.below, (blk_cell hr 0).trans rfl, (blk_cell hr 1).trans rfl, (blk_cell hr 2).trans rfl, (blk_cell hr 3).trans rfl⟩
end Go.Proofs.YtjpiplplohapnaaGreatDoor
namespace Go.Proofs.YtjpiplplohapnaaGreatDoor
open Go.RowKit Go.Sort Go.Proofs.YtjpiplplohapnaaGreatDoorW.PrintWords
theorem numDigits_38 (w : World) (ht : Lib.TabIs Tryz.prog w "internal/strconv.uint64pow10" .u64 Lib.pow10Tab) : Calls Tryz.prog 101 #[.int .u64 38] w fun e w' => e = .returned (.int .i64 2) ∧ w' = w := by
  have h := Tryz.internal_strconv_numDigits 38 (by decide) (by decide) w ht
  have e : ((Lib.nDigits 38 : Nat) : Int) = 2 := by decide +kernel
  rw [e] at h
  exact h
set_option maxRecDepth 100000 in
set_option maxHeartbeats 1000000 in
theorem ftoa_375 (w : World) (hL : Laid w) (gd B : Nat) (hgd : B ≤ gd) (T : TypeId) (y : Value) (hd : w.heap[gd]? = some (.cells (Array.replicate 24 y) T (0, 0))) (_hB : 17 ≤ B) (hBw : B ≤ w.heap.size) :
    Calls Tryz.prog 95 #[.slice (some ⟨gd, 0, none⟩) 0 24, .float .f64 4600427019358961664, .int .u8 102, .int .i64 2] w fun e w' =>
      e = .returned (.slice (some ⟨gd, 0, none⟩) 4 24) ∧ Below B w w' ∧ w'.cell? ⟨gd, 0, none⟩ = some (.int .u8 48) ∧ w'.cell? ⟨gd, 1, none⟩ = some (.int .u8 46) ∧ w'.cell? ⟨gd, 2, none⟩ = some (.int .u8 51) ∧ w'.cell? ⟨gd, 3, none⟩ = some (.int .u8 56) := by
  have hbits := bits119 4600427019358961664
  have ho := hL.optCell
  have s1 : ∀ W, (Op.shift BinOp.shr .u64 4600427019358961664 .i64 63).run Tryz.prog W = .ok (.int .u64 0) W := fun W => by kernel_rfl
  have s2 : ∀ W, (Op.shift BinOp.shr .u64 4600427019358961664 .i64 52).run Tryz.prog W = .ok (.int .u64 1021) W := fun W => by kernel_rfl
  have s3 : ∀ W, (Op.shift BinOp.shl .i64 1 .i64 11).run Tryz.prog W = .ok (.int .i64 2048) W := fun W => by kernel_rfl
  have s4 : ∀ W, (Op.shift BinOp.shl .u64 1 .i64 52).run Tryz.prog W = .ok (.int .u64 4503599627370496) W := fun W => by kernel_rfl
  have s5 : ∀ W, (Op.shift BinOp.shl .u64 6755399441055744 .i64 11).run Tryz.prog W = .ok (.int .u64 13835058055282163712) W := fun W => by kernel_rfl
  have a1 : Go.bits .and .i64 1021 2047 = 1021 := by decide +kernel
  have a2 : Go.bits .and .u64 4600427019358961664 4503599627370495 = 2251799813685248 := by decide +kernel
  have a3 : Go.bits .or .u64 2251799813685248 4503599627370496 = 6755399441055744 := by decide +kernel
  have HD := Lib.hid hd
  clear hd
  go_enter Tryz.func95, Tryz.ntmps95
  go_wp2_with fail
  go_quiet (fail)
  go_wp2_with fail
  have hb1 : Below B w (w.drewN nq) := below_drewN (Below.refl _ _) _
  have HD1 : Hid ((w.drewN nq).heap[gd]? = some (.cells (Array.replicate 24 y) T (0, 0))) := Lib.hid HD.out
  have hL1 : Laid (w.drewN nq) := hL.below (below_drewN (Below.refl _ _) _)
  have hz1 : B ≤ (w.drewN nq).heap.size := hBw
  clear HD hL hBw ho
  generalize hW : w.drewN nq = w1s at *
  clear hW
  refine (log10_calls 2 0 (by decide +kernel) _).mono ?_
  rintro e w2 ⟨rfl, hb2⟩
  go_wp2_with fail
  refine (Tryz.bits_Len64 6755399441055744 _ (by decide) (by decide)).mono ?_
  rintro e w3 ⟨rfl, rfl⟩
  rw [show ((Lib.bitLen (6755399441055744 : Int).toNat : Nat) : Int) = 53 from by decide +kernel]
  go_wp2_with fail
  have HG := Lib.hid (blk_new w2 (.cells (Array.replicate 24 (.int .u8 0)) 126 (0, 0)))
  have hL2 : Laid w2 := hL1.below hb2
  have hB2 : B ≤ w2.heap.size := Nat.le_trans hz1 hb2.size
  have hb02 : Below B w w2 := hb1.trans (hb2.mono hz1)
  have HD2 := Lib.hid (blk_below HD1.out hb2)
  have hgdl : gd < w2.heap.size := (Array.getElem?_eq_some_iff.1 HD2.out).1
  have HD3 := Lib.hid (blk_alloc HD2.out (.cells (Array.replicate 24 (.int .u8 0)) 126 (0, 0)))
  have hL3 : Laid (w2.alloc (.cells (Array.replicate 24 (.int .u8 0)) 126 (0, 0))) := hL2.below ((Below.refl _ _).alloc (Nat.le_refl _) _)
  have hb03 : Below B w (w2.alloc (.cells (Array.replicate 24 (.int .u8 0)) 126 (0, 0))) := hb02.alloc hB2 _
  have hz3 : (w2.alloc (.cells (Array.replicate 24 (.int .u8 0)) 126 (0, 0))).heap.size = w2.heap.size + 1 := by simp
  clear HD1 HD2 hL1 hL2 hb1 hb2
  generalize hgg : w2.heap.size = g at *
  refine (fixed_375 (w2.alloc (.cells (Array.replicate 24 (.int .u8 0)) 126 (0, 0))) hL3).mono ?_
  rintro e w4 ⟨rfl, hb4⟩
  have hg4 := Lib.hid (blk_below HG.out hb4)
  have HD4 := Lib.hid (blk_below HD3.out hb4)
  have hL4 := hL3.below hb4
  have hb04 := hb03.trans (hb4.mono (by omega))
  have hz4 : g < w4.heap.size := (Array.getElem?_eq_some_iff.1 hg4.out).1
  clear HG HD3 hL3 hb03 hz3 hb4 hgg
  go_wp2_with fail
  have c0 : w4.cell? ⟨g, 0, none⟩ = some (.int .u8 0) := (blk_cell hg4.out 0).trans rfl
  have c1 : w4.cell? ⟨g, 1, none⟩ = some (.int .u8 0) := (blk_cell hg4.out 1).trans rfl
  have f0 := blk_frozen hg4.out 0
  have f1 := blk_frozen hg4.out 1
  have ht4 := Lib.hid hL4.u10
  trace "region"
  go_region_with (first | (go_at_call 101; refine (numDigits_38 _ (by exact ht4.out)).mono ?_; rintro e w' ⟨rfl, rfl⟩) | (go_at_call 125; refine (setDigits_38 _ g g (Nat.le_refl _) (by exact c0) (by exact c1) (by exact f0) (by exact f1)).mono ?_; rintro e w5 ⟨rfl, hb5, k0, k1⟩))
  have HD5 : w5.heap[gd]? = some (.cells (Array.replicate 24 y) T (0, 0)) := (hb5.block gd (by omega)).trans HD4.out
  have HD5 := Lib.hid HD5
  have hb05 : Below B w w5 := hb04.trans ((below_drewN (Below.refl B w4) 1).trans (hb5.mono (by omega)))
  clear c0 c1 f0 f1 ht4 hL4 hg4 HD4 hb04
  go_wp2_with fail
  refine (fmt_38 w5 g gd B hgd (by omega) T y HD5.out k0 k1).mono ?_
  rintro e w6 ⟨rfl, hb6, r0, r1, r2, r3⟩
  go_wp2_with fail
  go_ret
  exact ⟨rfl, hb05.trans hb6, r0, r1, r2, r3⟩
end Go.Proofs.YtjpiplplohapnaaGreatDoor
namespace Go.Proofs.YtjpiplplohapnaaGreatDoor
open Go.RowKit Go.Sort Go.Proofs.YtjpiplplohapnaaGreatDoorW.PrintWords
set_option maxRecDepth 100000 in
set_option maxHeartbeats 1000000 in
theorem iformat_375 (w : World) (hL : Laid w) :
    Calls Tryz.prog 67 #[.float .f64 4600427019358961664, .int .u8 102, .int .i64 2, .int .i64 64] w fun e w' => e = .returned (.string ⟨#[48, 46, 51, 56]⟩) ∧ Below w.heap.size w w' := by
  have m1 : max (6 : Int) 24 = 24 := by decide
  have hmk : ∀ W, (Instr.makeSlice 94 (.int .i64 0) (.int .i64 24)).run Tryz.prog W = .ok (.slice (some ⟨W.heap.size, 0, none⟩) 0 24) (W.alloc (.cells (Array.replicate 24 (.int .u8 0)) 5)) := fun W => by kernel_rfl
  go_enter Tryz.func67, Tryz.ntmps67
  go_wp2_with fail
  have hs17 := hL.size
  refine (ftoa_375 _ (hL.below ((Below.refl _ _).alloc (Nat.le_refl _) _)) w.heap.size w.heap.size (Nat.le_refl _) 5 (.int .u8 0) (blk_new _ _) hs17 (by simp)).mono ?_
  rintro e w2 ⟨rfl, hb2, r0, r1, r2, r3⟩
  have hcv : (convert 94 9 (.slice (some ⟨w.heap.size, 0, none⟩) 4 24)).run Tryz.prog w2 = .ok (.string ⟨#[48, 46, 51, 56]⟩) w2 := by
    rw [run_convert_bytes_string w2 94 9 5 _ 4 24 Tryz.underlying94 Tryz.underlying5 Tryz.underlying9]
    rw [run_bytesToString w2 _ 4 24 [48, 46, 51, 56] (by simp [loadCells, r0, r1, r2, r3, go_sem])]
    rfl
  go_wp2_with fail
  go_ret
  exact ⟨rfl, ((Below.refl _ _).alloc (Nat.le_refl _) _).trans hb2⟩
set_option maxHeartbeats 1000000 in
theorem sformat_375 (w : World) (hL : Laid w) :
    Calls Tryz.prog 31 #[.float .f64 4600427019358961664, .int .u8 102, .int .i64 2, .int .i64 64] w fun e w' => e = .returned (.string ⟨#[48, 46, 51, 56]⟩) ∧ Below w.heap.size w w' := by
  go_enter Tryz.func31, Tryz.ntmps31
  go_wp2_with fail
  refine (iformat_375 _ hL).mono ?_
  rintro e w1 ⟨rfl, hb1⟩
  go_wp2_with fail
  go_ret
  exact ⟨rfl, hb1⟩
set_option maxRecDepth 100000 in
set_option maxHeartbeats 1000000 in
theorem print_375 (w : World) (hL : Laid w) :
    Calls Tryz.prog 14 #[.float .f64 4600427019358961664, .int .i64 2] w fun e w' => e = .returned (.tuple #[.string ⟨#[48, 46, 51, 56]⟩, .int .i64 0]) ∧ Below w.heap.size w w' := by
  go_enter Tryz.func14, Tryz.ntmps14
  go_wp2_with fail
  refine (number_375 _).mono ?_
  rintro e w1 ⟨rfl, rfl⟩
  go_wp2_with fail
  refine (sformat_375 _ hL).mono ?_
  rintro e w2 ⟨rfl, hb2⟩
  go_wp2_with fail
  go_ret2
  exact ⟨rfl, hb2⟩
end Go.Proofs.YtjpiplplohapnaaGreatDoor
namespace Go.Proofs.YtjpiplplohapnaaGreatDoor
open Go.RowKit Go.Sort Go.Proofs.YtjpiplplohapnaaGreatDoorW.PrintWords
set_option maxRecDepth 100000 in
theorem negative_15 (w : World) : Calls Tryz.prog 48 #[.float .f64 4609434218613702656] w fun e w' => e = .returned (.bool false) ∧ w' = w := by
  have s1 : ∀ W, (Op.shift BinOp.shr .u64 4609434218613702656 .i64 63).run Tryz.prog W = .ok (.int .u64 0) W := fun W => by kernel_rfl
  go_enter Tryz.func48, Tryz.ntmps48
  go_wp2_with fail
  refine (class_15 _).mono ?_
  rintro e w' ⟨rfl, rfl⟩
  go_wp2_with fail
  refine (apiBits 4609434218613702656 _).mono ?_
  rintro e w' ⟨rfl, rfl⟩
  go_wp2_with fail
  go_ret
  exact ⟨rfl, rfl⟩
set_option maxRecDepth 100000 in
theorem split_15 (w : World) : Calls Tryz.prog 47 #[.float .f64 4609434218613702656] w fun e w' => e = .returned (.tuple #[.int .i64 6755399441055744, .int .i64 (-52), .bool true]) ∧ w' = w := by
  have s1 : ∀ W, (Op.shift BinOp.shr .u64 4609434218613702656 .i64 52).run Tryz.prog W = .ok (.int .u64 1023) W := fun W => by kernel_rfl
  have a2 : Go.bits .and .u64 4609434218613702656 4503599627370495 = 2251799813685248 := by decide +kernel
  have a3 : Go.bits .or .u64 2251799813685248 4503599627370496 = 6755399441055744 := by decide +kernel
  go_enter Tryz.func47, Tryz.ntmps47
  go_wp2_with fail
  refine (size_calls 4609434218613702656 4609434218613702656 (by decide +kernel) _).mono ?_
  rintro e w' ⟨rfl, rfl⟩
  go_wp2_with fail
  refine (class_15 _).mono ?_
  rintro e w' ⟨rfl, rfl⟩
  go_wp2_with fail
  refine (negative_15 _).mono ?_
  rintro e w' ⟨rfl, rfl⟩
  go_wp2_with fail
  go_ret3
  exact ⟨rfl, rfl⟩
theorem db_15 {w : World} (h : Laid w) : w.cell? ⟨14, 15, none⟩ = some (.int .u8 4) := by
  have := World.var?_cell gDb h.db 15
  exact this.trans (by kernel_rfl)
set_option maxRecDepth 100000 in
theorem tz64_16 (w : World) (hL : Laid w) : Calls Tryz.prog 175 #[.int .u64 16] w fun e w' => e = .returned (.int .i64 4) ∧ Below w.heap.size w w' := by
  have hc := db_15 hL
  have a0 : IntKind.u64.wrap (-16) = 18446744073709551600 := by decide +kernel
  have a1 : Go.bits .and .u64 16 18446744073709551600 = 16 := by decide +kernel
  have a2 : IntKind.u64.wrap 4573923408821661840 = 4573923408821661840 := by decide +kernel
  go_enter Tryz.func175, Tryz.ntmps175
  go_wp2_with fail
  go_ret
  exact ⟨rfl, Below.refl _ _⟩
set_option maxRecDepth 100000 in
theorem tz_16 (w : World) (hL : Laid w) : Calls Tryz.prog 135 #[.int .u64 16] w fun e w' => e = .returned (.int .i64 4) ∧ Below w.heap.size w w' := by
  go_enter Tryz.func135, Tryz.ntmps135
  go_wp2_with fail
  refine (tz64_16 _ hL).mono ?_
  rintro e w1 ⟨rfl, hb1⟩
  go_wp2_with fail
  go_ret
  exact ⟨rfl, hb1⟩
theorem pow2_16 (w : World) : Calls Tryz.prog 134 #[.int .i64 16] w fun e w' => e = .returned (.bool true) ∧ Below w.heap.size w w' :=
  (PText.strconv_isPowerOfTwo.calls 16 true w (by decide +kernel)).mono fun _ _ ⟨h1, h2⟩ => ⟨h1, h2.below⟩
set_option maxRecDepth 100000 in
set_option maxHeartbeats 1000000 in
theorem formatBits_15 (w : World) (hL : Laid w) : Calls Tryz.prog 103 #[.slice none 0 0, .int .u64 2251799813685248, .int .i64 16, .bool false, .bool false] w fun e w' => e = .returned (.tuple #[.slice none 0 0, .string ⟨#[56, 48, 48, 48, 48, 48, 48, 48, 48, 48, 48, 48, 48]⟩]) ∧ Below w.heap.size w w' := by
  have s0 : ∀ W, (Op.shift BinOp.shr .u64 2251799813685248 .u64 4).run Tryz.prog W = .ok (.int .u64 140737488355328) W := fun W => by kernel_rfl
  have n0 : Go.bits .and .u64 2251799813685248 15 = 0 := by decide +kernel
  have s1 : ∀ W, (Op.shift BinOp.shr .u64 140737488355328 .u64 4).run Tryz.prog W = .ok (.int .u64 8796093022208) W := fun W => by kernel_rfl
  have n1 : Go.bits .and .u64 140737488355328 15 = 0 := by decide +kernel
  have s2 : ∀ W, (Op.shift BinOp.shr .u64 8796093022208 .u64 4).run Tryz.prog W = .ok (.int .u64 549755813888) W := fun W => by kernel_rfl
  have n2 : Go.bits .and .u64 8796093022208 15 = 0 := by decide +kernel
  have s3 : ∀ W, (Op.shift BinOp.shr .u64 549755813888 .u64 4).run Tryz.prog W = .ok (.int .u64 34359738368) W := fun W => by kernel_rfl
  have n3 : Go.bits .and .u64 549755813888 15 = 0 := by decide +kernel
  have s4 : ∀ W, (Op.shift BinOp.shr .u64 34359738368 .u64 4).run Tryz.prog W = .ok (.int .u64 2147483648) W := fun W => by kernel_rfl
  have n4 : Go.bits .and .u64 34359738368 15 = 0 := by decide +kernel
  have s5 : ∀ W, (Op.shift BinOp.shr .u64 2147483648 .u64 4).run Tryz.prog W = .ok (.int .u64 134217728) W := fun W => by kernel_rfl
  have n5 : Go.bits .and .u64 2147483648 15 = 0 := by decide +kernel
  have s6 : ∀ W, (Op.shift BinOp.shr .u64 134217728 .u64 4).run Tryz.prog W = .ok (.int .u64 8388608) W := fun W => by kernel_rfl
  have n6 : Go.bits .and .u64 134217728 15 = 0 := by decide +kernel
  have s7 : ∀ W, (Op.shift BinOp.shr .u64 8388608 .u64 4).run Tryz.prog W = .ok (.int .u64 524288) W := fun W => by kernel_rfl
  have n7 : Go.bits .and .u64 8388608 15 = 0 := by decide +kernel
  have s8 : ∀ W, (Op.shift BinOp.shr .u64 524288 .u64 4).run Tryz.prog W = .ok (.int .u64 32768) W := fun W => by kernel_rfl
  have n8 : Go.bits .and .u64 524288 15 = 0 := by decide +kernel
  have s9 : ∀ W, (Op.shift BinOp.shr .u64 32768 .u64 4).run Tryz.prog W = .ok (.int .u64 2048) W := fun W => by kernel_rfl
  have n9 : Go.bits .and .u64 32768 15 = 0 := by decide +kernel
  have s10 : ∀ W, (Op.shift BinOp.shr .u64 2048 .u64 4).run Tryz.prog W = .ok (.int .u64 128) W := fun W => by kernel_rfl
  have n10 : Go.bits .and .u64 2048 15 = 0 := by decide +kernel
  have s11 : ∀ W, (Op.shift BinOp.shr .u64 128 .u64 4).run Tryz.prog W = .ok (.int .u64 8) W := fun W => by kernel_rfl
  have n11 : Go.bits .and .u64 128 15 = 0 := by decide +kernel
  have HG := Lib.hid (blk_new w (.cells Tryz.zeroCells168 168 (0, 0)))
  have hL0 : Laid (w.alloc (.cells Tryz.zeroCells168 168 (0, 0))) := hL.below ((Below.refl _ _).alloc (Nat.le_refl _) _)
  have hb0 : Below w.heap.size w (w.alloc (.cells Tryz.zeroCells168 168 (0, 0))) := (Below.refl _ _).alloc (Nat.le_refl _) _
  go_enter Tryz.func103, Tryz.ntmps103
  go_wp2_with fail
  refine (pow2_16 _).mono ?_
  rintro e w1 ⟨rfl, hb1⟩
  have HG1 := Lib.hid (blk_below HG.out hb1)
  have hL1 := hL0.below hb1
  have hb01 := hb0.trans (hb1.mono (by simp))
  go_wp2_with fail
  refine (tz_16 _ hL1).mono ?_
  rintro e w2 ⟨rfl, hb2⟩
  have HG2 := Lib.hid (blk_below HG1.out hb2)
  have hb02 := hb01.trans (hb2.mono hb01.size)
  clear HG HG1 hL0 hL1 hb0 hb1 hb01 hb2
  go_wp2_with fail
  refine wp_loop_rounds 13 ?_
  have hg : w.heap.size < w2.heap.size := (Array.getElem?_eq_some_iff.1 HG2.out).1
  have c0 : w2.cell? ⟨w.heap.size, 64, none⟩ = some (.int .u8 0) := (blk_cell HG2.out 64).trans (by kernel_rfl)
  have f0 := blk_frozen HG2.out 64
  rw [rounds_succ]
  go_wp2_with fail
  show Code.rounds Tryz.prog _ _ _ _ (w2.setCell ⟨_, 64, none⟩ (.int .u8 48))
  have HV0 := Lib.hid (blk_put HG2.out 64 (.int .u8 48) rfl)
  have hv0 := hb02.setCell (p := ⟨w.heap.size, 64, none⟩) (Nat.le_refl _) (.int .u8 48)
  clear hg c0 f0 HG2 hb02
  generalize w2.setCell ⟨w.heap.size, 64, none⟩ (.int .u8 48) = v0 at *
  have hg : w.heap.size < v0.heap.size := (Array.getElem?_eq_some_iff.1 HV0.out).1
  have c0 : v0.cell? ⟨w.heap.size, 63, none⟩ = some (.int .u8 0) := (blk_cell HV0.out 63).trans (by kernel_rfl)
  have f0 := blk_frozen HV0.out 63
  rw [rounds_succ]
  go_wp2_with fail
  show Code.rounds Tryz.prog _ _ _ _ (v0.setCell ⟨_, 63, none⟩ (.int .u8 48))
  have HV1 := Lib.hid (blk_put HV0.out 63 (.int .u8 48) rfl)
  have hv1 := hv0.setCell (p := ⟨w.heap.size, 63, none⟩) (Nat.le_refl _) (.int .u8 48)
  clear hg c0 f0 HV0 hv0
  generalize v0.setCell ⟨w.heap.size, 63, none⟩ (.int .u8 48) = v1 at *
  have hg : w.heap.size < v1.heap.size := (Array.getElem?_eq_some_iff.1 HV1.out).1
  have c0 : v1.cell? ⟨w.heap.size, 62, none⟩ = some (.int .u8 0) := (blk_cell HV1.out 62).trans (by kernel_rfl)
  have f0 := blk_frozen HV1.out 62
  rw [rounds_succ]
  go_wp2_with fail
  show Code.rounds Tryz.prog _ _ _ _ (v1.setCell ⟨_, 62, none⟩ (.int .u8 48))
  have HV2 := Lib.hid (blk_put HV1.out 62 (.int .u8 48) rfl)
  have hv2 := hv1.setCell (p := ⟨w.heap.size, 62, none⟩) (Nat.le_refl _) (.int .u8 48)
  clear hg c0 f0 HV1 hv1
  generalize v1.setCell ⟨w.heap.size, 62, none⟩ (.int .u8 48) = v2 at *
  have hg : w.heap.size < v2.heap.size := (Array.getElem?_eq_some_iff.1 HV2.out).1
  have c0 : v2.cell? ⟨w.heap.size, 61, none⟩ = some (.int .u8 0) := (blk_cell HV2.out 61).trans (by kernel_rfl)
  have f0 := blk_frozen HV2.out 61
  rw [rounds_succ]
  go_wp2_with fail
  show Code.rounds Tryz.prog _ _ _ _ (v2.setCell ⟨_, 61, none⟩ (.int .u8 48))
  have HV3 := Lib.hid (blk_put HV2.out 61 (.int .u8 48) rfl)
  have hv3 := hv2.setCell (p := ⟨w.heap.size, 61, none⟩) (Nat.le_refl _) (.int .u8 48)
  clear hg c0 f0 HV2 hv2
  generalize v2.setCell ⟨w.heap.size, 61, none⟩ (.int .u8 48) = v3 at *
  have hg : w.heap.size < v3.heap.size := (Array.getElem?_eq_some_iff.1 HV3.out).1
  have c0 : v3.cell? ⟨w.heap.size, 60, none⟩ = some (.int .u8 0) := (blk_cell HV3.out 60).trans (by kernel_rfl)
  have f0 := blk_frozen HV3.out 60
  rw [rounds_succ]
  go_wp2_with fail
  show Code.rounds Tryz.prog _ _ _ _ (v3.setCell ⟨_, 60, none⟩ (.int .u8 48))
  have HV4 := Lib.hid (blk_put HV3.out 60 (.int .u8 48) rfl)
  have hv4 := hv3.setCell (p := ⟨w.heap.size, 60, none⟩) (Nat.le_refl _) (.int .u8 48)
  clear hg c0 f0 HV3 hv3
  generalize v3.setCell ⟨w.heap.size, 60, none⟩ (.int .u8 48) = v4 at *
  have hg : w.heap.size < v4.heap.size := (Array.getElem?_eq_some_iff.1 HV4.out).1
  have c0 : v4.cell? ⟨w.heap.size, 59, none⟩ = some (.int .u8 0) := (blk_cell HV4.out 59).trans (by kernel_rfl)
  have f0 := blk_frozen HV4.out 59
  rw [rounds_succ]
  go_wp2_with fail
  show Code.rounds Tryz.prog _ _ _ _ (v4.setCell ⟨_, 59, none⟩ (.int .u8 48))
  have HV5 := Lib.hid (blk_put HV4.out 59 (.int .u8 48) rfl)
  have hv5 := hv4.setCell (p := ⟨w.heap.size, 59, none⟩) (Nat.le_refl _) (.int .u8 48)
  clear hg c0 f0 HV4 hv4
  generalize v4.setCell ⟨w.heap.size, 59, none⟩ (.int .u8 48) = v5 at *
  have hg : w.heap.size < v5.heap.size := (Array.getElem?_eq_some_iff.1 HV5.out).1
  have c0 : v5.cell? ⟨w.heap.size, 58, none⟩ = some (.int .u8 0) := (blk_cell HV5.out 58).trans (by kernel_rfl)
  have f0 := blk_frozen HV5.out 58
  rw [rounds_succ]
  go_wp2_with fail
  show Code.rounds Tryz.prog _ _ _ _ (v5.setCell ⟨_, 58, none⟩ (.int .u8 48))
  have HV6 := Lib.hid (blk_put HV5.out 58 (.int .u8 48) rfl)
  have hv6 := hv5.setCell (p := ⟨w.heap.size, 58, none⟩) (Nat.le_refl _) (.int .u8 48)
  clear hg c0 f0 HV5 hv5
  generalize v5.setCell ⟨w.heap.size, 58, none⟩ (.int .u8 48) = v6 at *
  have hg : w.heap.size < v6.heap.size := (Array.getElem?_eq_some_iff.1 HV6.out).1
  have c0 : v6.cell? ⟨w.heap.size, 57, none⟩ = some (.int .u8 0) := (blk_cell HV6.out 57).trans (by kernel_rfl)
  have f0 := blk_frozen HV6.out 57
  rw [rounds_succ]
  go_wp2_with fail
  show Code.rounds Tryz.prog _ _ _ _ (v6.setCell ⟨_, 57, none⟩ (.int .u8 48))
  have HV7 := Lib.hid (blk_put HV6.out 57 (.int .u8 48) rfl)
  have hv7 := hv6.setCell (p := ⟨w.heap.size, 57, none⟩) (Nat.le_refl _) (.int .u8 48)
  clear hg c0 f0 HV6 hv6
  generalize v6.setCell ⟨w.heap.size, 57, none⟩ (.int .u8 48) = v7 at *
  have hg : w.heap.size < v7.heap.size := (Array.getElem?_eq_some_iff.1 HV7.out).1
  have c0 : v7.cell? ⟨w.heap.size, 56, none⟩ = some (.int .u8 0) := (blk_cell HV7.out 56).trans (by kernel_rfl)
  have f0 := blk_frozen HV7.out 56
  rw [rounds_succ]
  go_wp2_with fail
  show Code.rounds Tryz.prog _ _ _ _ (v7.setCell ⟨_, 56, none⟩ (.int .u8 48))
  have HV8 := Lib.hid (blk_put HV7.out 56 (.int .u8 48) rfl)
  have hv8 := hv7.setCell (p := ⟨w.heap.size, 56, none⟩) (Nat.le_refl _) (.int .u8 48)
  clear hg c0 f0 HV7 hv7
  generalize v7.setCell ⟨w.heap.size, 56, none⟩ (.int .u8 48) = v8 at *
  have hg : w.heap.size < v8.heap.size := (Array.getElem?_eq_some_iff.1 HV8.out).1
  have c0 : v8.cell? ⟨w.heap.size, 55, none⟩ = some (.int .u8 0) := (blk_cell HV8.out 55).trans (by kernel_rfl)
  have f0 := blk_frozen HV8.out 55
  rw [rounds_succ]
  go_wp2_with fail
  show Code.rounds Tryz.prog _ _ _ _ (v8.setCell ⟨_, 55, none⟩ (.int .u8 48))
  have HV9 := Lib.hid (blk_put HV8.out 55 (.int .u8 48) rfl)
  have hv9 := hv8.setCell (p := ⟨w.heap.size, 55, none⟩) (Nat.le_refl _) (.int .u8 48)
  clear hg c0 f0 HV8 hv8
  generalize v8.setCell ⟨w.heap.size, 55, none⟩ (.int .u8 48) = v9 at *
  have hg : w.heap.size < v9.heap.size := (Array.getElem?_eq_some_iff.1 HV9.out).1
  have c0 : v9.cell? ⟨w.heap.size, 54, none⟩ = some (.int .u8 0) := (blk_cell HV9.out 54).trans (by kernel_rfl)
  have f0 := blk_frozen HV9.out 54
  rw [rounds_succ]
  go_wp2_with fail
  show Code.rounds Tryz.prog _ _ _ _ (v9.setCell ⟨_, 54, none⟩ (.int .u8 48))
  have HV10 := Lib.hid (blk_put HV9.out 54 (.int .u8 48) rfl)
  have hv10 := hv9.setCell (p := ⟨w.heap.size, 54, none⟩) (Nat.le_refl _) (.int .u8 48)
  clear hg c0 f0 HV9 hv9
  generalize v9.setCell ⟨w.heap.size, 54, none⟩ (.int .u8 48) = v10 at *
  have hg : w.heap.size < v10.heap.size := (Array.getElem?_eq_some_iff.1 HV10.out).1
  have c0 : v10.cell? ⟨w.heap.size, 53, none⟩ = some (.int .u8 0) := (blk_cell HV10.out 53).trans (by kernel_rfl)
  have f0 := blk_frozen HV10.out 53
  rw [rounds_succ]
  go_wp2_with fail
  show Code.rounds Tryz.prog _ _ _ _ (v10.setCell ⟨_, 53, none⟩ (.int .u8 48))
  have HV11 := Lib.hid (blk_put HV10.out 53 (.int .u8 48) rfl)
  have hv11 := hv10.setCell (p := ⟨w.heap.size, 53, none⟩) (Nat.le_refl _) (.int .u8 48)
  clear hg c0 f0 HV10 hv10
  generalize v10.setCell ⟨w.heap.size, 53, none⟩ (.int .u8 48) = v11 at *
  have hg : w.heap.size < v11.heap.size := (Array.getElem?_eq_some_iff.1 HV11.out).1
  have c0 : v11.cell? ⟨w.heap.size, 52, none⟩ = some (.int .u8 0) := (blk_cell HV11.out 52).trans (by kernel_rfl)
  have f0 := blk_frozen HV11.out 52
  have HV12 := Lib.hid (blk_put HV11.out 52 (.int .u8 56) rfl)
  have hv12 := hv11.setCell (p := ⟨w.heap.size, 52, none⟩) (Nat.le_refl _) (.int .u8 56)
  have hcv' : (convert 94 9 (.slice (some ⟨w.heap.size, 52, none⟩) 13 13)).run Tryz.prog (v11.setCell ⟨w.heap.size, 52, none⟩ (.int .u8 56)) = .ok (.string ⟨#[56, 48, 48, 48, 48, 48, 48, 48, 48, 48, 48, 48, 48]⟩) (v11.setCell ⟨w.heap.size, 52, none⟩ (.int .u8 56)) := by
    clear hg c0 f0 hv12 HV11 hv11
    generalize v11.setCell ⟨w.heap.size, 52, none⟩ (.int .u8 56) = v12 at *
    rw [run_convert_bytes_string v12 94 9 5 _ 13 13 Tryz.underlying94 Tryz.underlying5 Tryz.underlying9]
    rw [run_bytesToString v12 _ 13 13 [56, 48, 48, 48, 48, 48, 48, 48, 48, 48, 48, 48, 48] (by
      have d0 : v12.cell? ⟨w.heap.size, 52, none⟩ = some (.int .u8 56) := (blk_cell HV12.out 52).trans (by kernel_rfl)
      have d1 : v12.cell? ⟨w.heap.size, 53, none⟩ = some (.int .u8 48) := (blk_cell HV12.out 53).trans (by kernel_rfl)
      have d2 : v12.cell? ⟨w.heap.size, 54, none⟩ = some (.int .u8 48) := (blk_cell HV12.out 54).trans (by kernel_rfl)
      have d3 : v12.cell? ⟨w.heap.size, 55, none⟩ = some (.int .u8 48) := (blk_cell HV12.out 55).trans (by kernel_rfl)
      have d4 : v12.cell? ⟨w.heap.size, 56, none⟩ = some (.int .u8 48) := (blk_cell HV12.out 56).trans (by kernel_rfl)
      have d5 : v12.cell? ⟨w.heap.size, 57, none⟩ = some (.int .u8 48) := (blk_cell HV12.out 57).trans (by kernel_rfl)
      have d6 : v12.cell? ⟨w.heap.size, 58, none⟩ = some (.int .u8 48) := (blk_cell HV12.out 58).trans (by kernel_rfl)
      have d7 : v12.cell? ⟨w.heap.size, 59, none⟩ = some (.int .u8 48) := (blk_cell HV12.out 59).trans (by kernel_rfl)
      have d8 : v12.cell? ⟨w.heap.size, 60, none⟩ = some (.int .u8 48) := (blk_cell HV12.out 60).trans (by kernel_rfl)
      have d9 : v12.cell? ⟨w.heap.size, 61, none⟩ = some (.int .u8 48) := (blk_cell HV12.out 61).trans (by kernel_rfl)
      have d10 : v12.cell? ⟨w.heap.size, 62, none⟩ = some (.int .u8 48) := (blk_cell HV12.out 62).trans (by kernel_rfl)
      have d11 : v12.cell? ⟨w.heap.size, 63, none⟩ = some (.int .u8 48) := (blk_cell HV12.out 63).trans (by kernel_rfl)
      have d12 : v12.cell? ⟨w.heap.size, 64, none⟩ = some (.int .u8 48) := (blk_cell HV12.out 64).trans (by kernel_rfl)
      simp [loadCells, d0, d1, d2, d3, d4, d5, d6, d7, d8, d9, d10, d11, d12, go_sem])]
    rfl
  have hcv : (convert 94 9 (.slice (some ⟨w.heap.size, 52, none⟩) 13 13)).run Tryz.prog (v11.setCell ⟨w.heap.size, 52, none⟩ (.int .u8 (({ data := #[48, 49, 50, 51, 52, 53, 54, 55, 56, 57, 97, 98, 99, 100, 101, 102, 103, 104, 105, 106, 107, 108, 109, 110, 111, 112, 113, 114, 115, 116, 117, 118, 119, 120, 121, 122] } : ByteArray)[8]'(by decide)).toNat)) = .ok (.string ⟨#[56, 48, 48, 48, 48, 48, 48, 48, 48, 48, 48, 48, 48]⟩) (v11.setCell ⟨w.heap.size, 52, none⟩ (.int .u8 (({ data := #[48, 49, 50, 51, 52, 53, 54, 55, 56, 57, 97, 98, 99, 100, 101, 102, 103, 104, 105, 106, 107, 108, 109, 110, 111, 112, 113, 114, 115, 116, 117, 118, 119, 120, 121, 122] } : ByteArray)[8]'(by decide)).toNat)) := hcv'
  clear hcv' HV12
  rw [rounds_succ]
  go_wp2_with fail
  go_ret2
  exact ⟨rfl, hv12⟩
set_option maxHeartbeats 1000000 in
theorem formatUint_15 (w : World) (hL : Laid w) : Calls Tryz.prog 74 #[.int .u64 2251799813685248, .int .i64 16] w fun e w' => e = .returned (.string ⟨#[56, 48, 48, 48, 48, 48, 48, 48, 48, 48, 48, 48, 48]⟩) ∧ Below w.heap.size w w' := by
  go_enter Tryz.func74, Tryz.ntmps74
  go_wp2_with fail
  refine (formatBits_15 _ hL).mono ?_
  rintro e w1 ⟨rfl, hb1⟩
  go_wp2_with fail
  go_ret
  exact ⟨rfl, hb1⟩
set_option maxHeartbeats 1000000 in
theorem sformatUint_15 (w : World) (hL : Laid w) : Calls Tryz.prog 49 #[.int .u64 2251799813685248, .int .i64 16] w fun e w' => e = .returned (.string ⟨#[56, 48, 48, 48, 48, 48, 48, 48, 48, 48, 48, 48, 48]⟩) ∧ Below w.heap.size w w' := by
  go_enter Tryz.func49, Tryz.ntmps49
  go_wp2_with fail
  refine (formatUint_15 _ hL).mono ?_
  rintro e w1 ⟨rfl, hb1⟩
  go_wp2_with fail
  go_ret
  exact ⟨rfl, hb1⟩
set_option maxRecDepth 100000 in
set_option maxHeartbeats 1000000 in
theorem hex_15 (w : World) (hL : Laid w) : Calls Tryz.prog 19 #[.float .f64 4609434218613702656] w fun e w' => e = .returned (.tuple #[.string ⟨#[48, 120, 49, 46, 56, 112, 43, 48]⟩, .int .i64 0]) ∧ Below w.heap.size w w' := by
  have a1 : Go.bits .and .u64 6755399441055744 4503599627370495 = 2251799813685248 := by decide +kernel
  go_enter Tryz.func19, Tryz.ntmps19
  go_wp2_with fail
  refine (split_15 _).mono ?_
  rintro e w1 ⟨rfl, rfl⟩
  go_wp2_with fail
  refine (negative_15 _).mono ?_
  rintro e w1 ⟨rfl, rfl⟩
  go_wp2_with fail
  refine wp_loop_rounds 1 ?_
  rw [rounds_succ]
  go_wp2_with fail
  refine (sformatUint_15 _ hL).mono ?_
  rintro e w1 ⟨rfl, hb1⟩
  go_wp2_with fail
  refine (Tryz.strings_Repeat_zero _ _).mono ?_
  rintro e w2 ⟨rfl, rfl⟩
  go_wp2_with fail
  refine (Tryz.strings_TrimRight_one _ 48 (by decide) _ (by decide)).mono ?_
  rintro e w2 ⟨rfl, rfl⟩
  have et : (⟨(Lib.trimRightB (⟨#[]⟩ ++ ⟨#[56, 48, 48, 48, 48, 48, 48, 48, 48, 48, 48, 48, 48]⟩ : ByteArray).data.toList 48).toArray⟩ : ByteArray) = ⟨#[56]⟩ := by kernel_rfl
  rw [et]
  go_wp2_with fail
  have hi : Calls Tryz.prog 45 #[.int .i64 0] w2 fun e w' => e = .returned (.string ⟨#[48]⟩) ∧ w' = w2 := by
    have e0 : (⟨(Lib.decDigits 0).toArray⟩ : ByteArray) = ⟨#[48]⟩ := by simp [Lib.decDigits]
    have := Tryz.strconv_Itoa_small 0 (by decide) w2
    rw [e0] at this; exact this
  refine hi.mono ?_
  rintro e w3 ⟨rfl, rfl⟩
  go_wp2_with fail
  refine bodyPost_ret (v := .tuple #[.string ⟨#[48, 120, 49, 46, 56, 112, 43, 48]⟩, .int .i64 0]) (by simp [results, Tryz.results19, go_sem]; decide +kernel) rfl ?_
  exact ⟨rfl, hb1⟩
end Go.Proofs.YtjpiplplohapnaaGreatDoor
namespace Go.Proofs.YtjpiplplohapnaaGreatDoor
open Go.RowKit Go.Sort Go.Proofs.YtjpiplplohapnaaGreatDoorW.PrintWords
def hx (d : Nat) : UInt8 := if d < 10 then UInt8.ofNat (48 + d) else UInt8.ofNat (87 + d)
def hexL (x : Nat) : List UInt8 := if _h : x < 16 then [hx x] else hexL (x / 16) ++ [hx (x % 16)]
termination_by x
decreasing_by omega
theorem hexL_small {x : Nat} (h : x < 16) : hexL x = [hx x] := by rw [hexL, dif_pos h]
theorem hexL_step {x : Nat} (h : 16 ≤ x) : hexL x = hexL (x / 16) ++ [hx (x % 16)] := by rw [hexL, dif_neg (by omega)]
structure HexSt (w : World) (u x : Nat) (tl : List UInt8) (w' : World) : Prop where
  below : Below w.heap.size w w'
  row : ∃ cs : Array Value, w'.heap[w.heap.size]? = some (.cells cs 168 (0, 0)) ∧ cs.size = 65 ∧ ∀ j b, tl[j]? = some b → cs[65 - tl.length + j]? = some (encB b)
  val : hexL u = hexL x ++ tl
  len : x * 16 ^ tl.length ≤ u
  big : u < 18446744073709551616
  pos : tl = [] ∨ 1 ≤ x
theorem row_put {w' : World} {g j : Nat} {tl : List UInt8} {b : UInt8} (hj : j + 1 + tl.length = 65)
    (h : ∃ cs : Array Value, w'.heap[g]? = some (.cells cs 168 (0, 0)) ∧ cs.size = 65 ∧ ∀ j b, tl[j]? = some b → cs[65 - tl.length + j]? = some (encB b)) :
    ∃ cs : Array Value, (w'.setCell ⟨g, j, none⟩ (encB b)).heap[g]? = some (.cells cs 168 (0, 0)) ∧ cs.size = 65 ∧ ∀ i c, (b :: tl)[i]? = some c → cs[65 - (b :: tl).length + i]? = some (encB c) := by
  obtain ⟨cs, h1, h2, h3⟩ := h
  refine ⟨cs.setIfInBounds j (encB b), blk_put h1 j _ rfl, by simp [h2], fun i c hc => ?_⟩
  have e : 65 - (b :: tl).length = j := by simp; omega
  rw [e]
  cases i with
  | zero =>
    simp at hc
    subst hc
    simp [Array.getElem?_setIfInBounds, h2]; omega
  | succ i =>
    simp at hc
    have := h3 i c hc
    rw [Array.getElem?_setIfInBounds, if_neg (by omega)]
    rw [← this]
    congr 1; omega
theorem HexSt.put {w : World} {u x j : Nat} {tl : List UInt8} {w' : World} (h : HexSt w u x tl w') (hx16 : 16 ≤ x) (hj : j + 1 + tl.length = 65) :
    HexSt w u (x / 16) (hx (x % 16) :: tl) (w'.setCell ⟨w.heap.size, j, none⟩ (encB (hx (x % 16)))) where
  below := h.below.setCell (Nat.le_refl _) _
  row := row_put hj h.row
  val := by rw [h.val, hexL_step hx16]; simp
  len := by
    have := h.len
    rw [List.length_cons, Nat.pow_succ]
    have h1 : x / 16 * (16 ^ tl.length * 16) = x / 16 * 16 * 16 ^ tl.length := by rw [Nat.mul_assoc, Nat.mul_comm 16 (16 ^ tl.length)]
    rw [h1]
    exact Nat.le_trans (Nat.mul_le_mul_right _ (Nat.div_mul_le_self x 16)) this
  big := h.big
  pos := Or.inr (by omega)
theorem HexSt.cell {w : World} {u x j : Nat} {tl : List UInt8} {w' : World} (h : HexSt w u x tl w') (hj : j < 65) : ∃ v, w'.cell? ⟨w.heap.size, j, none⟩ = some v := by
  obtain ⟨cs, h1, h2, -⟩ := h.row
  exact ⟨cs[j]'(by omega), (blk_cell h1 j).trans (Array.getElem?_eq_getElem (by omega))⟩
theorem HexSt.lt {w : World} {u x : Nat} {tl : List UInt8} {w' : World} (h : HexSt w u x tl w') : w.heap.size < w'.heap.size := by
  obtain ⟨cs, h1, -, -⟩ := h.row
  exact (Array.getElem?_eq_some_iff.1 h1).1
theorem bytes_of_cells {w : World} {g i : Nat} {l : List UInt8} (h : ∀ j b, l[j]? = some b → w.cell? ⟨g, i + j, none⟩ = some (encB b)) :
    (convert 94 9 (.slice (some ⟨g, i, none⟩) l.length l.length)).run Tryz.prog w = .ok (.string ⟨l.toArray⟩) w := by
  rw [run_convert_bytes_string w 94 9 5 _ _ _ Tryz.underlying94 Tryz.underlying5 Tryz.underlying9]
  have hl := run_loadCells_list (P := Tryz.prog) (w := w) ⟨g, i, none⟩ (l.map encB) (fun j v hv => by
    rw [List.getElem?_map] at hv
    obtain ⟨b, hb, rfl⟩ := Option.map_eq_some_iff.1 hv
    have := h j b hb
    unfold Addr.add
    split
    · rename_i h0; subst h0; exact this
    · exact this)
  rw [List.length_map] at hl
  rw [run_bytesToString w _ _ _ (l.map fun b => (b.toNat : Int)) (by rw [hl, List.map_map]; rfl)]
  congr 2
  rw [List.foldl_map]
  have : ∀ (l : List UInt8) (acc : ByteArray), l.foldl (fun r n => r.push (UInt8.ofNat ((n.toNat : Int)).toNat)) acc = ⟨acc.data ++ l.toArray⟩ := by
    intro l
    induction l with
    | nil => intro acc; simp
    | cons b l ih => intro acc; rw [List.foldl_cons, ih]; simp [ByteArray.push]
  rw [this]
  simp
theorem HexSt.last {w : World} {u x i : Nat} {tl : List UInt8} {w' : World} (h : HexSt w u x tl w') (hi : i + 1 + tl.length = 65) (hx16 : x < 16) :
    (convert 94 9 (.slice (some ⟨w.heap.size, i, none⟩) (65 - i) (65 - i))).run Tryz.prog (w'.setCell ⟨w.heap.size, i, none⟩ (encB (hx x))) = .ok (.string ⟨(hexL u).toArray⟩) (w'.setCell ⟨w.heap.size, i, none⟩ (encB (hx x))) := by
  have hv : hexL u = hx x :: tl := by rw [h.val, hexL_small hx16]; rfl
  have hlen : (hx x :: tl).length = 65 - i := by rw [List.length_cons]; omega
  obtain ⟨cs, h1, h2, h3⟩ := row_put (b := hx x) hi h.row
  rw [hv, ← hlen]
  refine bytes_of_cells fun j b hb => ?_
  have := h3 j b hb
  rw [hlen, show 65 - (65 - i) = i by omega] at this
  exact (blk_cell h1 (i + j)).trans this
end Go.Proofs.YtjpiplplohapnaaGreatDoor
namespace Go.Proofs.YtjpiplplohapnaaGreatDoor.Num
open Go
def isD (c : UInt8) : Prop := 48 ≤ c.toNat ∧ c.toNat ≤ 57
instance (c : UInt8) : Decidable (isD c) := inferInstanceAs (Decidable (_ ∧ _))
def st (a : Nat) (c : UInt8) : Nat := 10 * a + (c.toNat - 48)
def dv (acc : Nat) (l : List UInt8) : Nat := l.foldl st acc
theorem dv_nil (a : Nat) : dv a [] = a := by unfold dv; rw [List.foldl_nil]
theorem dv_cons (a : Nat) (c : UInt8) (r : List UInt8) : dv a (c :: r) = dv (10 * a + (c.toNat - 48)) r := by unfold dv; rw [List.foldl_cons]; rfl
theorem dv_append (l m : List UInt8) (a : Nat) : dv a (l ++ m) = dv (dv a l) m := by
  induction l generalizing a with
  | nil => rw [dv_nil, List.nil_append]
  | cons c r ih => rw [List.cons_append, dv_cons, dv_cons, ih]
theorem dv_snoc (l : List UInt8) (c : UInt8) (a : Nat) : dv a (l ++ [c]) = 10 * dv a l + (c.toNat - 48) := by rw [dv_append, dv_cons, dv_nil]
theorem dv_ge (l : List UInt8) (a : Nat) : a * 10 ^ l.length ≤ dv a l := by
  induction l generalizing a with
  | nil => simp [dv_nil]
  | cons c r ih =>
    have h1 := ih (10 * a + (c.toNat - 48))
    have h2 : 10 * a * 10 ^ r.length ≤ (10 * a + (c.toNat - 48)) * 10 ^ r.length := Nat.mul_le_mul_right _ (Nat.le_add_right _ _)
    have e : a * 10 ^ (r.length + 1) = 10 * a * 10 ^ r.length := by rw [Nat.pow_succ, Nat.mul_comm (10 ^ r.length) 10, ← Nat.mul_assoc, Nat.mul_comm a 10]
    rw [dv_cons, List.length_cons]
    rw [e]
    exact Nat.le_trans h2 h1
theorem dv_lt (l : List UInt8) (h : ∀ c ∈ l, isD c) (a : Nat) : dv a l < (a + 1) * 10 ^ l.length := by
  induction l generalizing a with
  | nil => simp [dv_nil]
  | cons c r ih =>
    have hc := h c (by simp)
    have h1 := ih (fun x hx => h x (by simp [hx])) (10 * a + (c.toNat - 48))
    have h2 : (10 * a + (c.toNat - 48) + 1) * 10 ^ r.length ≤ (10 * (a + 1)) * 10 ^ r.length := Nat.mul_le_mul_right _ (by unfold isD at hc; omega)
    have e : (a + 1) * 10 ^ (r.length + 1) = 10 * (a + 1) * 10 ^ r.length := by rw [Nat.pow_succ, Nat.mul_comm (10 ^ r.length) 10, ← Nat.mul_assoc, Nat.mul_comm (a + 1) 10]
    rw [dv_cons, List.length_cons]
    rw [e]
    exact Nat.lt_of_lt_of_le h1 h2
theorem toNat_digit {d : Nat} (h : d < 10) : (UInt8.ofNat (48 + d)).toNat = 48 + d := by
  rw [UInt8.toNat_ofNat']; omega
theorem digit_of {c : UInt8} (h : isD c) : UInt8.ofNat (48 + (c.toNat - 48)) = c := by
  unfold isD at h
  rw [show 48 + (c.toNat - 48) = c.toNat by omega, UInt8.ofNat_toNat]
theorem dec_digits (u : Nat) : ∀ c ∈ Lib.decDigits u, isD c := by
  induction u using Nat.strongRecOn with
  | ind u ih =>
    rw [Lib.decDigits]
    by_cases h : u < 10
    · rw [dif_pos h]
      intro c hc
      obtain rfl := List.mem_singleton.1 hc
      unfold isD; rw [toNat_digit h]; omega
    · rw [dif_neg h]
      intro c hc
      rcases List.mem_append.1 hc with h1 | h1
      · exact ih (u / 10) (by omega) c h1
      · obtain rfl := List.mem_singleton.1 h1
        unfold isD; rw [toNat_digit (by omega)]; omega
theorem dec_ne (u : Nat) : Lib.decDigits u ≠ [] := by
  rw [Lib.decDigits]
  by_cases h : u < 10
  · rw [dif_pos h]; simp
  · rw [dif_neg h]; simp
theorem dv_dec (u : Nat) : dv 0 (Lib.decDigits u) = u := by
  induction u using Nat.strongRecOn with
  | ind u ih =>
    rw [Lib.decDigits]
    by_cases h : u < 10
    · rw [dif_pos h]; simp only [dv_cons, dv_nil]; rw [toNat_digit h]; omega
    · rw [dif_neg h, dv_snoc, ih (u / 10) (by omega), toNat_digit (by omega)]; omega
def canon (l : List UInt8) : Prop := l ≠ [] ∧ (∀ c ∈ l, isD c) ∧ (l.head? = some 48 → l.length = 1)
instance (l : List UInt8) : Decidable (canon l) := inferInstanceAs (Decidable (_ ∧ _ ∧ _))
theorem dec_canon (u : Nat) : canon (Lib.decDigits u) := by
  refine ⟨dec_ne u, dec_digits u, ?_⟩
  induction u using Nat.strongRecOn with
  | ind u ih =>
    rw [Lib.decDigits]
    by_cases h : u < 10
    · rw [dif_pos h]; simp
    · rw [dif_neg h]
      have hne := dec_ne (u / 10)
      intro hh
      exfalso
      have hh' : (Lib.decDigits (u / 10)).head? = some 48 := by
        cases hl : Lib.decDigits (u / 10) with
        | nil => exact absurd hl hne
        | cons c r => rw [hl] at hh; simpa using hh
      have hlen := ih (u / 10) (by omega) hh'
      cases hl : Lib.decDigits (u / 10) with
      | nil => exact absurd hl hne
      | cons c r =>
        rw [hl] at hh' hlen
        obtain rfl : r = [] := by simpa using hlen
        obtain rfl : c = 48 := by simpa using hh'
        have := dv_dec (u / 10)
        rw [hl] at this
        simp only [dv_cons, dv_nil] at this
        have e : (48 : UInt8).toNat = 48 := rfl
        omega
theorem dec_of_canon (l : List UInt8) (h : canon l) : Lib.decDigits (dv 0 l) = l := by
  obtain ⟨hne, hd, h0⟩ := h
  generalize hn : l.length = n
  induction n generalizing l with
  | zero => exact absurd (List.length_eq_zero_iff.1 hn) hne
  | succ n ih =>
    obtain ⟨m, c, rfl⟩ : ∃ m c, l = m ++ [c] := ⟨l.dropLast, l.getLast hne, (List.dropLast_concat_getLast hne).symm⟩
    have hc : isD c := hd c (by simp)
    have hc' := hc
    unfold isD at hc'
    rw [dv_snoc]
    cases m with
    | nil =>
      rw [Lib.decDigits, dif_pos (by simp only [dv_nil]; omega)]
      simp only [dv_nil, Nat.mul_zero, Nat.zero_add, List.nil_append]
      rw [digit_of hc]
    | cons b r =>
      have hb : isD b := hd b (by simp)
      have hb' := hb
      unfold isD at hb'
      have hb0 : b ≠ 48 := by
        rintro rfl
        have := h0 (by simp)
        simp at this
      have hb1 : b.toNat ≠ 48 := fun e => hb0 (by rw [← UInt8.ofNat_toNat (x := b), e]; rfl)
      have hv : 1 ≤ dv 0 (b :: r) := by
        have := dv_ge r (10 * 0 + (b.toNat - 48))
        have h1 : 1 ≤ 10 ^ r.length := Nat.pow_pos (by decide)
        have h2 : 1 * 1 ≤ (10 * 0 + (b.toNat - 48)) * 10 ^ r.length := Nat.mul_le_mul (by omega) h1
        simp only [dv_cons]; omega
      have ihm := ih (b :: r) (by simp) (fun x hx => hd x (by simp at hx ⊢; rcases hx with rfl | hx <;> simp [*])) (fun e => absurd (by simpa using e) hb0) (by simp at hn ⊢; omega)
      rw [Lib.decDigits, dif_neg (by omega)]
      rw [show (10 * dv 0 (b :: r) + (c.toNat - 48)) / 10 = dv 0 (b :: r) by omega, show (10 * dv 0 (b :: r) + (c.toNat - 48)) % 10 = c.toNat - 48 by omega, ihm, digit_of hc]
def intOf (l : List UInt8) : Option Int :=
  match l with
  | [] => none
  | c :: r =>
    if c.toNat = 45 then (if canon r ∧ r.head? ≠ some 48 ∧ dv 0 r ≤ 9223372036854775808 then some (-(dv 0 r : Int)) else none)
    else if canon (c :: r) ∧ dv 0 (c :: r) < 9223372036854775808 then some (dv 0 (c :: r) : Int) else none
def told (o : Option Int) : Int × Bool := match o with | some n => (n, true) | none => (0, false)
theorem parse_digits (l : List UInt8) (h : ∀ c ∈ l, isD c) (a : Nat) (hl : dv a l < 18446744073709551616) : Lib.parseUint10 a l = .ok (dv a l) := by
  induction l generalizing a with
  | nil => rw [dv_nil]; rfl
  | cons c r ih =>
    have hc := h c (by simp)
    have hge := dv_ge r (10 * a + (c.toNat - 48))
    have h1 : 1 ≤ 10 ^ r.length := Nat.pow_pos (by decide)
    have h2 : (10 * a + (c.toNat - 48)) * 1 ≤ (10 * a + (c.toNat - 48)) * 10 ^ r.length := Nat.mul_le_mul_left _ h1
    simp only [dv_cons] at hl
    simp only [Lib.parseUint10, dv_cons]
    unfold isD at hc
    rw [if_pos hc, if_neg (by omega), if_neg (by omega), Nat.mul_comm a 10]
    exact ih (fun x hx => h x (by simp [hx])) _ hl
theorem atoi_of_intOf {l : List UInt8} {n : Int} (h : intOf l = some n) : Lib.atoiAll l = .ok n ∧ Lib.itoa n = l := by
  cases l with
  | nil => simp [intOf] at h
  | cons c r =>
    simp only [intOf] at h
    by_cases hc : c.toNat = 45
    · rw [if_pos hc] at h
      by_cases hr : canon r ∧ r.head? ≠ some 48 ∧ dv 0 r ≤ 9223372036854775808
      · rw [if_pos hr] at h
        obtain ⟨hcan, hz, hb⟩ := hr
        obtain rfl : -(dv 0 r : Int) = n := Option.some.inj h
        have hpos : 1 ≤ dv 0 r := by
          cases r with
          | nil => exact absurd rfl hcan.1
          | cons b q =>
            have hb1 := hcan.2.1 b (by simp)
            have hb0 : b.toNat ≠ 48 := fun e => hz (by rw [List.head?_cons, ← UInt8.ofNat_toNat (x := b), e]; rfl)
            have := dv_ge q (10 * 0 + (b.toNat - 48))
            have h1 : 1 ≤ 10 ^ q.length := Nat.pow_pos (by decide)
            unfold isD at hb1
            have h2 : 1 * 1 ≤ (10 * 0 + (b.toNat - 48)) * 10 ^ q.length := Nat.mul_le_mul (by omega) h1
            simp only [dv_cons]; omega
        constructor
        · simp only [Lib.atoiAll]
          rw [if_pos (Or.inr hc)]
          unfold Lib.parseMag
          rw [if_neg hcan.1, parse_digits r hcan.2.1 0 (by omega)]
          simp only [hc]
          rw [if_neg (by simp), if_neg (by omega)]
          simp
        · unfold Lib.itoa
          rw [if_pos (by omega)]
          rw [show (-(dv 0 r : Int)).natAbs = dv 0 r by omega, dec_of_canon r hcan]
          congr 1
          rw [← UInt8.ofNat_toNat (x := c), hc]; rfl
      · rw [if_neg hr] at h; cases h
    · rw [if_neg hc] at h
      by_cases hr : canon (c :: r) ∧ dv 0 (c :: r) < 9223372036854775808
      · rw [if_pos hr] at h
        obtain ⟨hcan, hb⟩ := hr
        obtain rfl : (dv 0 (c :: r) : Int) = n := Option.some.inj h
        have hc1 := hcan.2.1 c (by simp)
        unfold isD at hc1
        constructor
        · simp only [Lib.atoiAll]
          rw [if_neg (by omega)]
          unfold Lib.parseMag
          rw [if_neg (by simp), parse_digits (c :: r) hcan.2.1 0 (by omega)]
          simp only
          rw [if_neg (by omega), if_neg (by omega), if_neg hc]
        · unfold Lib.itoa
          rw [if_neg (by omega), Int.toNat_natCast, dec_of_canon _ hcan]
      · rw [if_neg hr] at h; cases h
theorem intOf_itoa (n : Int) (h0 : -9223372036854775808 ≤ n) (h1 : n ≤ 9223372036854775807) : intOf (Lib.itoa n) = some n := by
  unfold Lib.itoa
  by_cases hn : n < 0
  · rw [if_pos hn]
    simp only [intOf]
    have e : (45 : UInt8).toNat = 45 := rfl
    have hnz : (Lib.decDigits n.natAbs).head? ≠ some 48 := by
      intro hz
      have hl := (dec_canon n.natAbs).2.2 hz
      cases hd : Lib.decDigits n.natAbs with
      | nil => exact dec_ne _ hd
      | cons c r =>
        rw [hd] at hz hl
        obtain rfl : r = [] := by simpa using hl
        obtain rfl : c = 48 := by simpa using hz
        have := dv_dec n.natAbs
        rw [hd] at this
        have e : (48 : UInt8).toNat = 48 := rfl
        simp only [dv_cons, dv_nil] at this; omega
    have hm : -((n.natAbs : Nat) : Int) = n := by omega
    rw [if_pos e, dv_dec, if_pos ⟨dec_canon _, hnz, by omega⟩, hm]
  · rw [if_neg hn]
    have hcan := dec_canon n.toNat
    have hdv := dv_dec n.toNat
    cases hd : Lib.decDigits n.toNat with
    | nil => exact absurd hd (dec_ne _)
    | cons c r =>
      rw [hd] at hcan hdv
      have hc1 := hcan.2.1 c (by simp)
      unfold isD at hc1
      simp only [intOf]
      rw [if_neg (by omega), if_pos ⟨hcan, by omega⟩, hdv]
      congr 1; omega
def progInt (l : List UInt8) : Int × Bool := match Lib.atoiAll l with
  | .ok v => if Lib.itoa v = l then (v, true) else (0, false)
  | _ => (0, false)
theorem atoi_bounds {l : List UInt8} {v : Int} (h : Lib.atoiAll l = .ok v) : -9223372036854775808 ≤ v ∧ v ≤ 9223372036854775807 := by
  cases l with
  | nil => simp [Lib.atoiAll] at h
  | cons c r =>
    simp only [Lib.atoiAll] at h
    split at h
    · cases h
    · cases h
    · split at h
      · cases h
      · split at h
        · cases h
        · injection h with h
          split at h <;> omega
theorem progInt_eq (l : List UInt8) : progInt l = told (intOf l) := by
  unfold progInt
  cases hi : intOf l with
  | some n =>
    obtain ⟨h1, h2⟩ := atoi_of_intOf hi
    rw [h1]; simp only; rw [if_pos h2]; rfl
  | none =>
    cases ha : Lib.atoiAll l with
    | ok v =>
      simp only
      by_cases he : Lib.itoa v = l
      · have hb := atoi_bounds ha
        have := intOf_itoa v hb.1 hb.2
        rw [he, hi] at this
        cases this
      · rw [if_neg he]; rfl
    | _ => rfl
end Go.Proofs.YtjpiplplohapnaaGreatDoor.Num
namespace Go.Proofs.YtjpiplplohapnaaGreatDoor
open Go.RowKit Go.Sort Go.Proofs.YtjpiplplohapnaaGreatDoorW.PrintWords
theorem grow_below {B : Nat} {a w : World} (h : Below B a w) (hB : B ≤ a.heap.size) (os : Array Obj) : Below B a (grow w os) :=
  ⟨h.os, h.tape, h.output, by have := h.size; simp [grow]; omega, fun i hi => by
    have h1 := h.block i hi
    have h2 : i < w.heap.size := by have := h.size; omega
    rw [← h1]
    show (w.heap ++ os)[i]? = _
    rw [Array.getElem?_append_left h2]⟩
set_option maxRecDepth 100000 in
theorem int_walk (s : ByteArray) (hlim : s.size ≤ 281474976710656) (w : World) (hL : Laid w) :
    Calls Tryz.prog 17 #[.string s] w fun e w' => e = .returned (.tuple #[.int .i64 (Num.progInt s.data.toList).1, .bool (Num.progInt s.data.toList).2]) ∧ Below w.heap.size w w' := by
  cases h : Lib.atoiAll s.data.toList with
  | ok v =>
    have hb := Num.atoi_bounds h
    have bw : ∀ {w1 : World}, (w1 = w ∨ ∃ t, w1 = Lib.bytesWorld w 5 t) → Below w.heap.size w w1 := by
      rintro w1 (rfl | ⟨t, rfl⟩)
      · exact Below.refl _ _
      · exact Lib.bytesWorld_below _ _ _
    by_cases he : Lib.itoa v = s.data.toList
    · have hr : Num.progInt s.data.toList = (v, true) := by simp only [Num.progInt, h]; rw [if_pos he]
      have et : (Lib.itoa v == s.toList) = true := by simpa [ByteArray.toList_eq] using he
      rw [hr]
      go_enter Tryz.func17, Tryz.ntmps17
      go_wp2_with fail
      refine (Tryz.strconv_Atoi_ok s (by omega) v h _).mono ?_
      rintro e w1 ⟨rfl, hw⟩
      have hb1 := bw hw
      have hL1 := hL.below hb1
      clear hw
      go_wp2_with fail
      refine (Tryz.strconv_Itoa v hb.1 hb.2 _ hL1.u10).mono ?_
      rintro e w2 ⟨rfl, k, os, rfl⟩
      have hb2 : Below w.heap.size w (grow (w1.drewN k) os) := grow_below (below_drewN hb1 k) (Nat.le_refl _) os
      generalize grow (w1.drewN k) os = w2 at *
      clear hL1 hb1
      go_wp2_with fail
      go_ret2
      exact ⟨rfl, hb2⟩
    · have hr : Num.progInt s.data.toList = (0, false) := by simp only [Num.progInt, h]; rw [if_neg he]
      have et : (Lib.itoa v == s.toList) = false := by simpa [ByteArray.toList_eq] using he
      rw [hr]
      go_enter Tryz.func17, Tryz.ntmps17
      go_wp2_with fail
      refine (Tryz.strconv_Atoi_ok s (by omega) v h _).mono ?_
      rintro e w1 ⟨rfl, hw⟩
      have hb1 := bw hw
      have hL1 := hL.below hb1
      clear hw
      go_wp2_with fail
      refine (Tryz.strconv_Itoa v hb.1 hb.2 _ hL1.u10).mono ?_
      rintro e w2 ⟨rfl, k, os, rfl⟩
      have hb2 : Below w.heap.size w (grow (w1.drewN k) os) := grow_below (below_drewN hb1 k) (Nat.le_refl _) os
      generalize grow (w1.drewN k) os = w2 at *
      clear hL1 hb1
      go_wp2_with fail
      go_ret2
      exact ⟨rfl, hb2⟩
  | range =>
    have hr : Num.progInt s.data.toList = (0, false) := by simp only [Num.progInt, h]
    obtain ⟨te, pe, hv⟩ := hL.rng
    have hv' := World.var?_cell gRng hv 0
    rw [hr]
    go_enter Tryz.func17, Tryz.ntmps17
    go_wp2_with fail
    refine (Tryz.strconv_Atoi_range s hlim h (.iface te pe) _ (by simpa using hv') (Or.inr ⟨te, pe, rfl⟩)).mono ?_
    rintro e W1 ⟨N, rfl, -, -, hb⟩
    go_wp2_with fail
    go_ret2
    exact ⟨rfl, hb⟩
  | _ =>
    have hr : Num.progInt s.data.toList = (0, false) := by simp only [Num.progInt, h]
    obtain ⟨te, pe, hv⟩ := hL.syn
    have hv' := World.var?_cell gSyn hv 0
    rw [hr]
    go_enter Tryz.func17, Tryz.ntmps17
    go_wp2_with fail
    refine (Tryz.strconv_Atoi_bad s hlim (fun n hn => by rw [h] at hn; cases hn) (fun hn => by rw [h] at hn; cases hn) (.iface te pe) _ (by simpa using hv') (Or.inr ⟨te, pe, rfl⟩)).mono ?_
    rintro e W1 ⟨N, rfl, -, -, hb⟩
    go_wp2_with fail
    go_ret2
    exact ⟨rfl, hb⟩
end Go.Proofs.YtjpiplplohapnaaGreatDoor
namespace Go.Proofs.YtjpiplplohapnaaGreatDoor
open Go.RowKit Go.Sort Go.Proofs.YtjpiplplohapnaaGreatDoorW.PrintWords
def HexLoop (m : Nat) (e : Int) (M : Nat) (E : Int) : Prop := ∃ j : Nat, M = m * 2 ^ j ∧ E + j = e
theorem HexLoop.done {m : Nat} {e : Int} {M : Nat} {E : Int} (h : HexLoop m e M E) (h1 : 4503599627370496 ≤ m) (h2 : M < 9007199254740992) : m = M ∧ e = E := by
  obtain ⟨j, h3, h4⟩ := h
  cases j with
  | zero => simp at h3 h4; exact ⟨h3.symm, h4.symm⟩
  | succ j =>
    exfalso
    rw [Nat.pow_succ] at h3
    have : 1 ≤ 2 ^ j := Nat.pow_pos (by omega)
    have : m * 1 ≤ m * 2 ^ j := Nat.mul_le_mul_left _ this
    have : m * (2 ^ j * 2) = m * 2 ^ j * 2 := (Nat.mul_assoc _ _ _).symm
    omega
theorem HexLoop.step {m : Nat} {e : Int} {M : Nat} {E : Int} (h : HexLoop m e M E) (h1 : m < 4503599627370496) (h2 : 4503599627370496 ≤ M) : HexLoop (m * 2) (e - 1) M E := by
  obtain ⟨j, h3, h4⟩ := h
  cases j with
  | zero => simp at h3; omega
  | succ j => exact ⟨j, by rw [h3, Nat.pow_succ, Nat.mul_assoc, Nat.mul_comm 2], by push_cast at h4; omega⟩
end Go.Proofs.YtjpiplplohapnaaGreatDoor
namespace Go.Proofs.YtjpiplplohapnaaGreatDoor
open Go.RowKit Go.Sort Go.Proofs.YtjpiplplohapnaaGreatDoorW.PrintWords
def up (m : Nat) : Nat := 52 - m.log2
end Go.Proofs.YtjpiplplohapnaaGreatDoor
namespace Go.Proofs.YtjpiplplohapnaaGreatDoor.Rf
theorem esc_digits : ∀ (l : List UInt8) (e : Nat), (∀ c ∈ l, Num.isD c) → Num.dv e l < 100000 → l.length ≤ 4 ∨ Num.dv e l < 10000 → escan l e false = (Num.dv e l, false, [])
  | [], e, _, _, _ => by rw [escan, Num.dv_nil]
  | c :: l, e, h, h1, h2 => by
    have hc := h c (by simp)
    have hce : 48 ≤ c.toNat ∧ c.toNat ≤ 57 := hc
    have hge := Num.dv_ge l (10 * e + (c.toNat - 48))
    rw [Num.dv_cons] at h1 h2 ⊢
    have hp : 1 ≤ 10 ^ l.length := Nat.pow_pos (by decide)
    have hle : (10 * e + (c.toNat - 48)) * 1 ≤ (10 * e + (c.toNat - 48)) * 10 ^ l.length := Nat.mul_le_mul_left _ hp
    rw [escan, if_neg (by omega), if_pos hce, if_pos (by omega), show e * 10 + (c.toNat - 48) = 10 * e + (c.toNat - 48) by omega]
    exact esc_digits l _ (fun x hx => h x (by simp [hx])) h1 (by
      rcases h2 with h2 | h2
      · left; simp at h2; omega
      · right; exact h2)
theorem starts_digits {l : List UInt8} (h : ∀ c ∈ l, Num.isD c) (h0 : l ≠ []) : startsD l = true := by
  cases l with
  | nil => exact absurd rfl h0
  | cons c l =>
    have hc : 48 ≤ c.toNat ∧ c.toNat ≤ 57 := h c (by simp)
    rw [startsD, decide_eq_true hc.1, decide_eq_true hc.2]; rfl
end Go.Proofs.YtjpiplplohapnaaGreatDoor.Rf
namespace Go.Proofs.YtjpiplplohapnaaGreatDoor
open Go.RowKit Go.Proofs.YtjpiplplohapnaaGreatDoorW.PrintWords Rf
def SomeBool (w : World) (e : Ending) (w' : World) : Prop := (∃ b : Bool, e = .returned (.bool b)) ∧ w' = w
set_option maxRecDepth 100000 in
set_option maxHeartbeats 2000000 in
theorem under_calls (s : ByteArray) (hs : s.size ≤ 1000) (w : World) : Calls Tryz.prog 173 #[.string s] w (SomeBool w) := by
  go_enter Tryz.func173, Tryz.ntmps173
  go_upto_region 3 with (fail)
  go_cut [18] (fun v18 w' => (∃ b : Bool, v18 = .bool b ∧ (b = true → 1 ≤ s.size)) ∧ w = w')
  case first =>
    by_cases h1 : 1 ≤ s.size
    · have h1' : (1 : Int) ≤ s.size := by omega
      have h0 : 0 < s.size := h1
      go_wp2_with fail
      all_goals (go_meet; case rel => first | exact ⟨⟨_, rfl, fun _ => h1⟩, rfl⟩)
    · have h1' : ¬ (1 : Int) ≤ s.size := by omega
      have h1'' : (s.size : Int) < 1 := by omega
      go_wp2_with fail
      all_goals (go_meet; case rel => first | exact ⟨⟨false, rfl, fun h => by cases h⟩, rfl⟩)
  case rest =>
    obtain ⟨⟨b, rfl, hb⟩, rfl⟩ := hcut
    go_upto_if 18 with (fail)
    go_cut [0] (fun v0 w' => (∃ s' : ByteArray, v0 = .string s' ∧ s'.size ≤ 1000) ∧ w = w')
    case first =>
      cases b
      · go_wp2_with fail
        go_meet
        case rel => exact ⟨⟨s, rfl, hs⟩, rfl⟩
      · have h1 := hb rfl
        have h1' : (1 : Int) ≤ s.size := by omega
        go_wp2_with fail
        go_meet
        case rel => exact ⟨⟨_, rfl, by rw [ByteArray.size_extract]; omega⟩, rfl⟩
    case rest =>
      obtain ⟨⟨t, rfl, ht⟩, rfl⟩ := hcut
      clear hs hb
      go_upto_region 6 with (fail)
      go_cut [46] (fun v46 w' => (∃ b : Bool, v46 = .bool b ∧ (b = true → 2 ≤ t.size)) ∧ w = w')
      case first =>
        by_cases h1 : 2 ≤ t.size
        · have h1' : (2 : Int) ≤ t.size := by omega
          have h0 : 0 < t.size := by omega
          have h01 : 1 < t.size := by omega
          go_wp2_with (refine (Tryz.internal_strconv_lower _ _).mono ?_; rintro e w1 ⟨rfl, rfl⟩)
          all_goals (go_meet; case rel => first | exact ⟨⟨_, rfl, fun _ => h1⟩, rfl⟩)
        · have h1' : ¬ (2 : Int) ≤ t.size := by omega
          have h1'' : (t.size : Int) < 2 := by omega
          go_wp2_with fail
          all_goals (go_meet; case rel => first | exact ⟨⟨false, rfl, fun h => by cases h⟩, rfl⟩)
      case rest =>
        obtain ⟨⟨b, rfl, hb⟩, rfl⟩ := hcut
        go_upto_if 46 with (fail)
        go_cut [3, 4, 5] (fun v3 v4 v5 w' => (∃ (r : Int) (k : Nat) (h : Bool), v3 = .int .i32 r ∧ v4 = .int .i64 k ∧ v5 = .bool h ∧ k ≤ t.size) ∧ w = w')
        case first =>
          cases b
          · go_wp2_with fail
            go_meet
            case rel => exact ⟨⟨94, 0, false, rfl, rfl, rfl, by omega⟩, rfl⟩
          · have h1 := hb rfl
            have h01 : 1 < t.size := by omega
            go_wp2_with (refine (Tryz.internal_strconv_lower _ _).mono ?_; rintro e w1 ⟨rfl, rfl⟩)
            all_goals (go_meet; case rel => exact ⟨⟨48, 2, _, rfl, rfl, rfl, h1⟩, rfl⟩)
        case rest =>
          obtain ⟨⟨r0, k0, hx, rfl, rfl, rfl, hk0⟩, rfl⟩ := hcut
          clear hb
          go_wp2_with fail
          have hsz0 : t.size - k0 + k0 = t.size := by omega
          clear hk0
          go_loopg [3, 4] (t.size - k0) (fun gn v3 v4 w' => ∃ (r : Int) (k : Nat), gn + k = t.size ∧ v3 = .int .i32 r ∧ v4 = .int .i64 k ∧ w = w')
          case atStart => exact ⟨r0, k0, hsz0, rfl, rfl, rfl⟩
          case round =>
            obtain ⟨r, k, hg, rfl, rfl, rfl⟩ := hrel
            by_cases hk : k < t.size
            · have hw : IntKind.i64.wrap ((k : Int) + 1) = (k : Int) + 1 := by rw [Go.IntKind.wrap_i64]; omega
              go_upto_region 12 with (fail)
              go_cut [83] (fun v83 w' => (∃ b : Bool, v83 = .bool b) ∧ w = w')
              case first =>
                cases hx
                · go_wp2_with (refine (Tryz.internal_strconv_lower _ _).mono ?_; rintro e w1 ⟨rfl, rfl⟩)
                  all_goals (go_meet; case rel => exact ⟨⟨_, rfl⟩, rfl⟩)
                · go_wp2_with (refine (Tryz.internal_strconv_lower _ _).mono ?_; rintro e w1 ⟨rfl, rfl⟩)
                  all_goals (go_meet; case rel => exact ⟨⟨_, rfl⟩, rfl⟩)
              case rest =>
                obtain ⟨⟨b, rfl⟩, rfl⟩ := hcut
                cases b
                · go_wp2_with fail
                  · go_ret
                    exact ⟨⟨_, rfl⟩, rfl⟩
                  · go_roundg (gk - 1)
                    case measure => omega
                    case rel => exact ⟨95, k + 1, by omega, rfl, by go_num, rfl⟩
                  · go_ret
                    exact ⟨⟨_, rfl⟩, rfl⟩
                  · go_roundg (gk - 1)
                    case measure => omega
                    case rel => exact ⟨33, k + 1, by omega, rfl, by go_num, rfl⟩
                · go_wp2_with fail
                  go_roundg (gk - 1)
                  case measure => omega
                  case rel => exact ⟨48, k + 1, by omega, rfl, by go_num, rfl⟩
            · go_wp2_with fail
              all_goals (go_ret; exact ⟨⟨_, rfl⟩, rfl⟩)
def NoSpecial (w : World) (e : Ending) (w' : World) : Prop := e = .returned (.tuple #[.float .f64 0, .int .i64 0, .bool false]) ∧ w' = w
theorem special_digit (s : ByteArray) (h0 : 0 < s.size) (h1 : 48 ≤ s[0].toNat) (h2 : s[0].toNat ≤ 57) (w : World) : Calls Tryz.prog 141 #[.string s] w (NoSpecial w) := by
  have hne : ¬ s = ByteArray.empty := by rintro rfl; simp at h0
  obtain ⟨c, hc⟩ : ∃ c : Nat, s[0].toNat = c := ⟨_, rfl⟩
  have hcc : (s[0].toNat : Int) = (c : Int) := by rw [hc]
  rw [hc] at h1 h2
  clear hc
  have f1 : ((c : Int) == 43) = false := by simp; omega
  have f2 : ((c : Int) == 45) = false := by simp; omega
  have f3 : ((c : Int) == 105) = false := by simp; omega
  have f4 : ((c : Int) == 73) = false := by simp; omega
  have f5 : ((c : Int) == 110) = false := by simp; omega
  have f6 : ((c : Int) == 78) = false := by simp; omega
  go_enter Tryz.func141, Tryz.ntmps141
  go_wp2_with fail
  go_ret3
  exact ⟨rfl, rfl⟩
theorem common_digit (s : ByteArray) (h0 : 0 < s.size) (h1 : 48 ≤ s[0].toNat) (h2 : s[0].toNat ≤ 57) (w : World) : Calls Tryz.prog 181 #[.string s, .string ⟨#[105, 110, 102, 105, 110, 105, 116, 121]⟩] w fun e w' => e = .returned (.int .i64 0) ∧ w' = w := by
  obtain ⟨c, hc⟩ : ∃ c : Nat, s[0].toNat = c := ⟨_, rfl⟩
  have hcc : (s[0].toNat : Int) = (c : Int) := by rw [hc]
  rw [hc] at h1 h2
  clear hc
  have f1 : ¬ (65 : Int) ≤ (c : Int) := by omega
  have e105 : (⟨#[105, 110, 102, 105, 110, 105, 116, 121]⟩ : ByteArray)[0] = 105 := by decide
  have f2 : ((c : Int) != 105) = true := by simp; omega
  go_enter Tryz.func181, Tryz.ntmps181
  go_wp2_with fail
  refine wp_loop_rounds 1 ?_
  rw [rounds_succ]
  have hm : (0 : Int) < min 8 (s.size : Int) := by omega
  go_wp2_with fail
  go_ret
  exact ⟨rfl, rfl⟩
theorem special_minus (s : ByteArray) (hs : 1 < s.size) (hs2 : s.size ≤ 1000) (h45 : s[0].toNat = 45) (h1 : 48 ≤ s[1].toNat) (h2 : s[1].toNat ≤ 57) (w : World) : Calls Tryz.prog 141 #[.string s] w (NoSpecial w) := by
  have h0 : 0 < s.size := by omega
  have hne : ¬ s = ByteArray.empty := by rintro rfl; simp at h0
  have hcc : (s[0].toNat : Int) = 45 := by rw [h45]; rfl
  have hs' : (1 : Int) ≤ s.size := by omega
  have hx0 : 0 < (s.extract 1 s.size).size := by rw [ByteArray.size_extract]; omega
  have hx1 : (s.extract 1 s.size)[0] = s[1] := by
    simp [ByteArray.getElem_extract]
  have hcp := Lib.hid (common_digit (s.extract 1 s.size) hx0 (by rw [hx1]; exact h1) (by rw [hx1]; exact h2))
  clear h1 h2 hx0 hx1 h45
  go_enter Tryz.func141, Tryz.ntmps141
  go_wp2_with fail
  refine (hcp.out _).mono ?_
  rintro e w' ⟨rfl, rfl⟩
  go_wp2_with fail
  go_ret3
  exact ⟨rfl, rfl⟩
def RfPost (ng hx : Bool) (s : ByteArray) (o : Option Out) (w : World) (e : Ending) (w' : World) : Prop := w' = w ∧ match o with
  | none => ∃ (m x i : Int) (n t h : Bool), e = .returned (.tuple #[.int .u64 m, .int .i64 x, .bool n, .bool t, .bool h, .int .i64 i, .bool false])
  | some q => ∃ ok : Bool, (q.us = false → ok = true) ∧ e = .returned (.tuple #[.int .u64 q.m, .int .i64 q.e, .bool ng, .bool q.tr, .bool hx, .int .i64 ((s.size - q.rest.length : Nat) : Int), .bool ok])
theorem pos_of {s : ByteArray} {k : Nat} (h : k ≤ s.size) : s.size - (s.data.toList.drop k).length = k := by
  have : s.data.toList.length = s.size := Array.length_toList
  rw [List.length_drop]; omega
end Go.Proofs.YtjpiplplohapnaaGreatDoor
namespace Go.Proofs.YtjpiplplohapnaaGreatDoor
open Go.RowKit Go.Proofs.YtjpiplplohapnaaGreatDoorW.PrintWords Rf
def headR : Code → Option Nat
  | .region n _ _ => some n
  | .seq a _ => headR a
  | _ => none
def fromR (n : Nat) : Code → Option Code
  | .seq a b => if headR a = some n then some (.seq a b) else match fromR n a with
    | some c => some c
    | none => fromR n b
  | .cond _ a b => match fromR n a with
    | some c => some c
    | none => fromR n b
  | .block _ c => fromR n c
  | .scope c => fromR n c
  | .loop c => fromR n c
  | _ => none
noncomputable def rfCode77 : Code := ((Tryz.f142.body.bind (fromR 77)).getD .skip)
noncomputable def rfCode51 : Code := ((Tryz.f142.body.bind (fromR 51)).getD .skip)
set_option maxRecDepth 100000 in
set_option maxHeartbeats 4000000 in
theorem rfEnd (s : ByteArray) (hs : s.size ≤ 1000) (m k : Nat) (ng hx tr us : Bool) (N E : Int) (hk : k ≤ s.size) (e1 : -200000 ≤ E) (e2 : E ≤ 200000) (n1 : 0 ≤ N) (n2 : N ≤ 100) (o : Option Out) (ho : Hid (o = some ⟨m, if m = 0 then 0 else E - N, tr, us, s.data.toList.drop k⟩)) (w : World) {u1 u10 u11 u12 u13 u14 u15 u18 u19 u20 u21 u22 u23 u24 u25 u26 u27 u28 u29 u30 u31 u32 u33 u34 u35 u36 u37 u38 u39 u40 u41 u42 u43 u44 u45 u46 u47 u48 u49 u50 u51 u52 u53 u54 u55 u56 u57 u58 u59 u60 u61 u62 u63 u64 u65 u66 u67 u68 u69 u70 u71 u72 u73 u74 u75 u76 u77 u78 u79 u80 u81 u82 u83 u84 u85 u86 u87 u88 u89 u90 u91 u92 u93 u94 u95 u96 u97 u98 u99 u100 u101 u102 u103 u104 u105 u106 u107 u108 u109 u110 u111 u112 u113 u114 u115 u116 u117 u118 u119 u120 u121 u122 u123 u124 u125 u126 u127 u128 u129 u130 u131 u132 u133 u134 u135 u136 u137 u138 u139 u140 u141 u142 u143 u144 u145 u146 u147 u148 u149 u150 u151 u152 u153 u154 u155 u156 u157 u158 u159 u160 u161 u162 u163 u164 u165 u166 u167 u168 u169 u170 u171 u172 u173 u174 u175 u176 u177 u178 u179 u180 u181 u182 u183 u184 u185 u186 u187 u188 u189 u190 u191 u192 u193 u194 u195 u196 u197 u198 u199 u200 u201 u202 u203 u204 u205 u206 u207 u208 u209 u210 u211 u212 u213 u214 u215 u216 u217 u218 u219 u220 u221 u222 u223 u224 u225 u226 u227 u228 u229 u230 u231 u232 u233 u234 u235 u236 u237 u238 u239 u240 u241 u242 u243 u244 u245 u246 u247 u248 u249 u250 u251 u252 : Value} :
    rfCode77.wp Tryz.prog (Exit.noGoto (bodyPost Tryz.prog Tryz.f142 (RfPost ng hx s o w))) ⟨#[Value.string s, u1, Value.int .u64 m, Value.int .i64 0, Value.bool ng, Value.bool tr, Value.bool hx, Value.int .i64 (k : Int), Value.bool false, Value.bool us, u10, u11, u12, u13, u14, u15, Value.int .i64 N, Value.int .i64 E, u18, u19, u20, u21, u22, u23, u24, u25, u26, u27, u28, u29, u30, u31, u32, u33, u34, u35, u36, u37, u38, u39, u40, u41, u42, u43, u44, u45, u46, u47, u48, u49, u50, u51, u52, u53, u54, u55, u56, u57, u58, u59, u60, u61, u62, u63, u64, u65, u66, u67, u68, u69, u70, u71, u72, u73, u74, u75, u76, u77, u78, u79, u80, u81, u82, u83, u84, u85, u86, u87, u88, u89, u90, u91, u92, u93, u94, u95, u96, u97, u98, u99, u100, u101, u102, u103, u104, u105, u106, u107, u108, u109, u110, u111, u112, u113, u114, u115, u116, u117, u118, u119, u120, u121, u122, u123, u124, u125, u126, u127, u128, u129, u130, u131, u132, u133, u134, u135, u136, u137, u138, u139, u140, u141, u142, u143, u144, u145, u146, u147, u148, u149, u150, u151, u152, u153, u154, u155, u156, u157, u158, u159, u160, u161, u162, u163, u164, u165, u166, u167, u168, u169, u170, u171, u172, u173, u174, u175, u176, u177, u178, u179, u180, u181, u182, u183, u184, u185, u186, u187, u188, u189, u190, u191, u192, u193, u194, u195, u196, u197, u198, u199, u200, u201, u202, u203, u204, u205, u206, u207, u208, u209, u210, u211, u212, u213, u214, u215, u216, u217, u218, u219, u220, u221, u222, u223, u224, u225, u226, u227, u228, u229, u230, u231, u232, u233, u234, u235, u236, u237, u238, u239, u240, u241, u242, u243, u244, u245, u246, u247, u248, u249, u250, u251, u252], []⟩ w := by
  conv => arg 2; whnf
  have hwe : IntKind.i64.wrap (E - N) = E - N := by rw [Go.IntKind.wrap_i64]; omega
  clear e1 e2 n1 n2
  by_cases hm : m = 0
  · have fm : ((m : Int) != 0) = false := by simp [hm]
    have HM := Lib.hid (show (if m = 0 then (0 : Int) else E - N) = 0 from if_pos hm)
    clear hm
    cases us
    · go_wp2_with fail
      rw [Exit.noGoto_ret]
      refine bodyPost_ret (v := .tuple #[.int .u64 m, .int .i64 0, .bool ng, .bool tr, .bool hx, .int .i64 k, .bool true]) (by simp [results, Tryz.results142, go_sem]) rfl ⟨rfl, ?_⟩
      rw [ho.out]
      refine ⟨true, fun _ => rfl, ?_⟩
      dsimp only
      rw [HM.out, pos_of hk]
    · have hun := Lib.hid (under_calls (s.extract 0 k) (by rw [ByteArray.size_extract]; omega))
      go_wp2_with (refine (hun.out _).mono ?_; rintro e w1 ⟨⟨ok, rfl⟩, rfl⟩; cases ok)
      all_goals rw [Exit.noGoto_ret]
      · refine bodyPost_ret (v := .tuple #[.int .u64 m, .int .i64 0, .bool ng, .bool tr, .bool hx, .int .i64 k, .bool false]) (by simp [results, Tryz.results142, go_sem]) rfl ⟨rfl, ?_⟩
        rw [ho.out]
        refine ⟨false, fun h => (by first | rfl | (cases h)), ?_⟩
        dsimp only
        rw [HM.out, pos_of hk]
      · refine bodyPost_ret (v := .tuple #[.int .u64 m, .int .i64 0, .bool ng, .bool tr, .bool hx, .int .i64 k, .bool true]) (by simp [results, Tryz.results142, go_sem]) rfl ⟨rfl, ?_⟩
        rw [ho.out]
        refine ⟨true, fun h => (by first | rfl | (cases h)), ?_⟩
        dsimp only
        rw [HM.out, pos_of hk]
  · have fm : ((m : Int) != 0) = true := by simp; omega
    have HM := Lib.hid (show (if m = 0 then (0 : Int) else E - N) = (E - N) from if_neg hm)
    clear hm
    cases us
    · go_wp2_with fail
      rw [Exit.noGoto_ret]
      refine bodyPost_ret (v := .tuple #[.int .u64 m, .int .i64 (E - N), .bool ng, .bool tr, .bool hx, .int .i64 k, .bool true]) (by simp [results, Tryz.results142, go_sem]) rfl ⟨rfl, ?_⟩
      rw [ho.out]
      refine ⟨true, fun _ => rfl, ?_⟩
      dsimp only
      rw [HM.out, pos_of hk]
    · have hun := Lib.hid (under_calls (s.extract 0 k) (by rw [ByteArray.size_extract]; omega))
      go_wp2_with (refine (hun.out _).mono ?_; rintro e w1 ⟨⟨ok, rfl⟩, rfl⟩; cases ok)
      all_goals rw [Exit.noGoto_ret]
      · refine bodyPost_ret (v := .tuple #[.int .u64 m, .int .i64 (E - N), .bool ng, .bool tr, .bool hx, .int .i64 k, .bool false]) (by simp [results, Tryz.results142, go_sem]) rfl ⟨rfl, ?_⟩
        rw [ho.out]
        refine ⟨false, fun h => (by first | rfl | (cases h)), ?_⟩
        dsimp only
        rw [HM.out, pos_of hk]
      · refine bodyPost_ret (v := .tuple #[.int .u64 m, .int .i64 (E - N), .bool ng, .bool tr, .bool hx, .int .i64 k, .bool true]) (by simp [results, Tryz.results142, go_sem]) rfl ⟨rfl, ?_⟩
        rw [ho.out]
        refine ⟨true, fun h => (by first | rfl | (cases h)), ?_⟩
        dsimp only
        rw [HM.out, pos_of hk]
end Go.Proofs.YtjpiplplohapnaaGreatDoor
