/- Part 9 of the proof: PHy, Ad, Dc, Dr, Dp, Dl. -/
import Derived.Test.YtjpiplplohapnaaGreatDoorPl8
import Derived.WalkLawsBesides
import Derived.WalkSpells
import Derived.WalkMore
import Derived.Outline
import Derived.Lib.Hide
import Derived.Deep.CutBlock
import Derived.Deep.DeepCutAuto
import Derived.Deep.QuietTactic
import Derived.BigQuiet
import GoSem.PinnedTables
set_option linter.unusedVariables false
set_option linter.unusedSimpArgs false
namespace Go.Proofs.YtjpiplplohapnaaGreatDoor
open Go.RowKit Go.Proofs.YtjpiplplohapnaaGreatDoorW.PrintWords Rf Ah
def ZeroR (ng : Bool) (s : ByteArray) (q : Out) (x : Nat) (n : Int) (er : Option Int) : Prop := x = (if ng then 9223372036854775808 else 0) ∧ n = ((s.size - q.rest.length : Nat) : Int) ∧ er = none
theorem bool2_u64t (w : World) : Calls Tryz.prog 150 #[.bool true] w fun e w' => e = .returned (.int .u64 1) ∧ Below w.heap.size w w' :=
  (PText.strconv_bool2_uint64.calls true 1 w (by decide +kernel)).mono fun _ _ ⟨h1, h2⟩ => ⟨h1, h2.below⟩
set_option maxRecDepth 100000 in
set_option maxHeartbeats 2000000 in
theorem atof64_zero (ng : Bool) (s : ByteArray) (q : Out) (hm : q.m = 0) (hu : q.us = false) (hsp : ∀ w, Calls Tryz.prog 141 #[.string s] w (NoSpecial w)) (hrf : ∀ w, Calls Tryz.prog 142 #[.string s] w (RfPost ng false s (some q) w))
    (w : World) (hL : Laid w) : Calls Tryz.prog 112 #[.string s] w (AtPost (ZeroR ng s q) w) := by
  have HRF := Lib.hid hrf
  clear hrf
  have ho := hL.optCell
  obtain ⟨qm, qe, qt, qu, qr⟩ := q
  dsimp only at hm hu
  subst hm
  subst hu
  clear hL
  go_enter Tryz.func112, Tryz.ntmps112
  go_wp2_with fail
  refine (hsp _).mono ?_
  rintro e w' ⟨rfl, hww⟩
  obtain rfl := hww.symm
  clear hww hsp
  go_wp2_with fail
  refine (HRF.out _).mono ?_
  rintro e w' ⟨hww, ok, hok, rfl⟩
  obtain rfl := hww.symm
  obtain rfl := hok rfl
  clear hww HRF hok
  dsimp only
  obtain ⟨n, hn⟩ : ∃ n, n = s.size - qr.length := ⟨_, rfl⟩
  have HN := Lib.hid hn
  rw [← hn]
  clear hn
  have k1 : Go.bits .or .u64 0 0 = 0 := by decide +kernel
  have k2 : Go.bits .or .u64 9223372036854775808 0 = 9223372036854775808 := by decide +kernel
  have hf1 : ∀ W, (callFunc 151 #[.int .u64 0]).run Tryz.prog W = .ok (.value (.float .f64 0)) W := fun W => from151 0 W
  have hf2 : ∀ W, (callFunc 151 #[.int .u64 9223372036854775808]).run Tryz.prog W = .ok (.value (.float .f64 9223372036854775808)) W := fun W => from151 9223372036854775808 W
  cases ng
  · go_wp2_with fail
    refine (bool2_u64f _).mono ?_
    rintro e w1 ⟨rfl, hb1⟩
    go_wp2_with fail
    go_ret3
    exact ⟨0, n, none, ⟨rfl, by rw [HN.out], rfl⟩, Or.inl rfl, rfl, hb1⟩
  go_wp2_with fail
  refine (bool2_u64t _).mono ?_
  rintro e w1 ⟨rfl, hb1⟩
  go_wp2_with fail
  go_ret3
  exact ⟨9223372036854775808, n, none, ⟨rfl, by rw [HN.out], rfl⟩, Or.inl rfl, rfl, hb1⟩
theorem list0 {s : ByteArray} {a : UInt8} {l : List UInt8} (h : s.data.toList = a :: l) (h0 : 0 < s.size) : s[0] = a := by
  have : s.data.toList[0]? = some a := by rw [h]; rfl
  have h2 : s.data.toList[0]? = some s[0] := by
    rw [Array.getElem?_toList]; exact Array.getElem?_eq_getElem h0
  exact Option.some.inj (h2.symm.trans this)
theorem list1 {s : ByteArray} {a b : UInt8} {l : List UInt8} (h : s.data.toList = a :: b :: l) (h0 : 1 < s.size) : s[1] = b := by
  have : s.data.toList[1]? = some b := by rw [h]; rfl
  have h2 : s.data.toList[1]? = some s[1] := by
    rw [Array.getElem?_toList]; exact Array.getElem?_eq_getElem h0
  exact Option.some.inj (h2.symm.trans this)
end Go.Proofs.YtjpiplplohapnaaGreatDoor
namespace Go.Proofs.YtjpiplplohapnaaGreatDoor
open Go.RowKit Go.Proofs.YtjpiplplohapnaaGreatDoorW.PrintWords Rf Nr Us
def DecR (ng : Bool) (s : ByteArray) (q : Out) (x : Nat) (n : Int) (er : Option Int) : Prop :=
  n = ((s.size - q.rest.length : Nat) : Int) ∧ ∃ r, Near (dN q.m q.e) (dD q.e) r ∧ ((r < 9218868437227405312 ∧ x = Ieee.double.word ng r ∧ er = none) ∨ (9218868437227405312 ≤ r ∧ x = Ieee.double.word ng 9218868437227405312 ∧ er = some 1))
theorem bool2_sg (ng : Bool) (w : World) : Calls Tryz.prog 150 #[.bool ng] w fun e w' => e = .returned (.int .u64 ((if ng then 1 else 0 : Nat) : Int)) ∧ Below w.heap.size w w' :=
  (bool2_u64b ng w).mono fun _ _ ⟨h1, n, h2⟩ => ⟨h1, h2 ▸ below_drewN (Below.refl _ _) n⟩
set_option maxRecDepth 100000 in
set_option maxHeartbeats 2000000 in
theorem atof64_dec (ng : Bool) (s : ByteArray) (q : Out) (hm : q.m ≠ 0) (hm2 : q.m < 18446744073709551616) (he1 : -300000 ≤ q.e) (he2 : q.e ≤ 300000) (hu : q.us = false) (ht : q.tr = false)
    (hsp : ∀ w, Calls Tryz.prog 141 #[.string s] w (NoSpecial w)) (hrf : ∀ w, Calls Tryz.prog 142 #[.string s] w (RfPost ng false s (some q) w))
    (w : World) (hL : Laid w) : Calls Tryz.prog 112 #[.string s] w (AtPost (DecR ng s q) w) := by
  have HRF := Lib.hid hrf
  clear hrf
  have ho := hL.optCell
  obtain ⟨qm, qe, qt, qu, qr⟩ := q
  dsimp only at hm hm2 he1 he2 hu ht
  subst hu
  subst ht
  obtain ⟨n, hn⟩ : ∃ n, n = s.size - qr.length := ⟨_, rfl⟩
  have HM2 := Lib.hid hm2
  have HM := Lib.hid hm
  have hqm : ((qm : Int) == 0) = false := by simp; omega
  clear hm hm2
  have hL3 : Hid (∀ w3, Below w.heap.size w w3 → Laid w3) := Lib.hid fun w3 h => hL.below h
  clear hL
  have hsh : IntKind.u64.wrap (((if ng then 1 else 0 : Nat) : Int) * 9223372036854775808) = (sgB ng : Int) := by cases ng <;> decide +kernel
  have HB := Lib.hid (bool2_sg ng)
  have HSG := Lib.hid (show ∀ v : Nat, v < 9223372036854775808 → Go.bits .or .u64 (sgB ng : Int) (v : Int) = ((Ieee.double.word ng v : Nat) : Int) from fun v hv => by rw [word_sgB]; exact or_sgB ng v hv)
  generalize ((if ng then 1 else 0 : Nat) : Int) = sg1 at *
  go_enter Tryz.func112, Tryz.ntmps112
  go_wp2_with fail
  refine (hsp _).mono ?_
  rintro e w' ⟨rfl, hww⟩
  obtain rfl := hww.symm
  clear hww hsp
  go_wp2_with fail
  refine (HRF.out _).mono ?_
  rintro e w' ⟨hww, ok, hok, rfl⟩
  obtain rfl := hww.symm
  obtain rfl := hok rfl
  clear hww HRF hok
  dsimp only
  have HN := Lib.hid hn
  rw [← hn]
  clear hn
  go_wp2_with fail
  refine (HB.out _).mono ?_
  rintro e w1 ⟨rfl, hb1⟩
  clear HB
  by_cases c1 : 310 < qe
  · obtain ⟨r, hr1, hr2⟩ := too_great HM.out c1
    have ho1 := HSG.out 9218868437227405312 (by decide)
    have hf := from151i (Ieee.double.word ng 9218868437227405312)
    have HR := Lib.hid hr1
    have HR2 := Lib.hid hr2
    clear hr1 hr2
    obtain ⟨Z, hZ⟩ : ∃ Z, Z = Ieee.double.word ng 9218868437227405312 := ⟨_, rfl⟩
    have HX := Lib.hid hZ
    rw [← hZ] at ho1 hf
    have ho2 : Go.bits .or .u64 (sgB ng : Int) 9218868437227405312 = (Z : Int) := ho1
    clear hZ HSG ho1
    go_wp2_with fail
    go_ret3
    exact ⟨Z, n, some 1, ⟨by rw [HN.out], r, HR.out, Or.inr ⟨HR2.out, HX.out, rfl⟩⟩, Or.inr (Or.inl rfl), rfl, hb1⟩
  by_cases c2 : qe < -345
  · have hr1 := too_small (d := qm) HM2.out c2
    have ho1 := HSG.out 0 (by decide)
    have hf := from151i (Ieee.double.word ng 0)
    have HR := Lib.hid hr1
    clear hr1
    obtain ⟨Z, hZ⟩ : ∃ Z, Z = Ieee.double.word ng 0 := ⟨_, rfl⟩
    have HX := Lib.hid hZ
    rw [← hZ] at ho1 hf
    have ho2 : Go.bits .or .u64 (sgB ng : Int) 0 = (Z : Int) := ho1
    clear hZ HSG
    go_wp2_with fail
    go_ret3
    exact ⟨Z, n, none, ⟨by rw [HN.out], 0, HR.out, Or.inl ⟨by decide, HX.out, rfl⟩⟩, Or.inl rfl, rfl, hb1⟩
  have HE := Lib.hid (atof64exact_walk w1 (hL3.out _ hb1) qm HM.out qe ng)
  clear HSG
  go_wp2_with fail
  refine HE.out.mono ?_
  rintro e w2 ⟨hb2, x, ok, rfl, hx⟩
  have hb02 := hb1.trans (hb2.mono hb1.size)
  clear HE
  cases ok
  · clear hx
    obtain ⟨i, hi⟩ : ∃ i : Nat, qe + 348 = i := ⟨(qe + 348).toNat, by omega⟩
    obtain ⟨r, hr⟩ : ∃ r, Pinned.pow10Rows[i]? = some r := ⟨_, List.getElem?_eq_getElem (by rw [rows_len]; omega)⟩
    have HP := Lib.hid (parse64_walk w2 (hL3.out _ hb02) qm HM.out HM2.out qe i r hr hi ng)
    clear hr hi hL3
    go_wp2_with fail
    refine HP.out.mono ?_
    rintro e w3 ⟨r, hr, hb3, hres⟩
    have hb03 := hb02.trans (hb3.mono hb02.size)
    have HR := Lib.hid hr
    clear hr HP
    rcases hres with ⟨hr1, rfl⟩ | ⟨hr1, rfl⟩
    · have HR1 := Lib.hid hr1
      clear hr1
      obtain ⟨Z, hZ⟩ : ∃ Z, Z = Ieee.double.word ng r := ⟨_, rfl⟩
      have HX := Lib.hid hZ
      rw [← hZ]
      clear hZ
      go_wp2_with fail
      go_ret3
      exact ⟨Z, n, none, ⟨by rw [HN.out], r, HR.out, Or.inl ⟨HR1.out, HX.out, rfl⟩⟩, Or.inl rfl, rfl, hb03⟩
    have HR1 := Lib.hid hr1
    clear hr1
    obtain ⟨Z, hZ⟩ : ∃ Z, Z = Ieee.double.word ng 9218868437227405312 := ⟨_, rfl⟩
    have HX := Lib.hid hZ
    rw [← hZ]
    clear hZ
    go_wp2_with fail
    go_ret3
    exact ⟨Z, n, some 1, ⟨by rw [HN.out], r, HR.out, Or.inr ⟨HR1.out, HX.out, rfl⟩⟩, Or.inr (Or.inl rfl), rfl, hb03⟩
  obtain ⟨r, hr1, hr2, hr3⟩ := hx rfl
  have HR := Lib.hid hr1
  have HR1 := Lib.hid hr2
  have HX := Lib.hid hr3
  clear hr1 hr2 hr3 hx hL3
  go_wp2_with fail
  go_ret3
  exact ⟨x, n, none, ⟨by rw [HN.out], r, HR.out, Or.inl ⟨HR1.out, HX.out, rfl⟩⟩, Or.inl rfl, rfl, hb02⟩
end Go.Proofs.YtjpiplplohapnaaGreatDoor
namespace Go.Proofs.YtjpiplplohapnaaGreatDoor
open Go.RowKit Go.Proofs.YtjpiplplohapnaaGreatDoorW.PrintWords
namespace Dc
def dcell (d : Nat → Nat) (nd dp : Int) (ng tr : Bool) (i : Nat) : Value :=
  if i < 800 then .int .u8 (d i : Nat) else if i = 800 then .int .i64 nd else if i = 801 then .int .i64 dp else if i = 802 then .bool ng else .bool tr
def dcells (d : Nat → Nat) (nd dp : Int) (ng tr : Bool) : Array Value := Array.ofFn (n := 804) fun i => dcell d nd dp ng tr i.val
def IsDec (w : World) (g : Nat) (d : Nat → Nat) (nd dp : Int) (ng tr : Bool) : Prop := w.heap[g]? = some (.cells (dcells d nd dp ng tr) 162 (0, 0))
def upd (d : Nat → Nat) (i v : Nat) : Nat → Nat := fun j => if j = i then v else d j
theorem dcells_get (d : Nat → Nat) (nd dp : Int) (ng tr : Bool) (i : Nat) (h : i < 804) : (dcells d nd dp ng tr)[i]? = some (dcell d nd dp ng tr i) := by
  unfold dcells
  rw [Array.getElem?_ofFn, dif_pos h]
theorem dcells_size (d : Nat → Nat) (nd dp : Int) (ng tr : Bool) : (dcells d nd dp ng tr).size = 804 := Array.size_ofFn
theorem dcells_set {d : Nat → Nat} {nd dp : Int} {ng tr : Bool} {i : Nat} {u : Value} {d' : Nat → Nat} {nd' dp' : Int} {ng' tr' : Bool} (h : ∀ j, j < 804 → dcell d' nd' dp' ng' tr' j = if i = j then u else dcell d nd dp ng tr j) (hi : i < 804) :
    (dcells d nd dp ng tr).setIfInBounds i u = dcells d' nd' dp' ng' tr' := by
  apply Array.ext_getElem?
  intro j
  by_cases hj : j < 804
  · rw [dcells_get _ _ _ _ _ j hj, Array.getElem?_setIfInBounds, dcells_get _ _ _ _ _ j hj, h j hj, dcells_size]
    by_cases e : i = j
    · rw [if_pos e, if_pos e, if_pos hi]
    rw [if_neg e, if_neg e]
  rw [Array.getElem?_eq_none (by rw [Array.size_setIfInBounds, dcells_size]; omega), Array.getElem?_eq_none (by rw [dcells_size]; omega)]
section
variable {w : World} {g : Nat} {d : Nat → Nat} {nd dp : Int} {ng tr : Bool}
theorem IsDec.cell (h : IsDec w g d nd dp ng tr) (i : Nat) (hi : i < 804) : w.cell? ⟨g, i, none⟩ = some (dcell d nd dp ng tr i) := (blk_cell h i).trans (dcells_get _ _ _ _ _ i hi)
theorem IsDec.byte (h : IsDec w g d nd dp ng tr) (i : Nat) (hi : i < 800) : w.cell? ⟨g, i, none⟩ = some (.int .u8 (d i : Nat)) := by
  rw [h.cell i (by omega)]; unfold dcell; rw [if_pos hi]
theorem IsDec.cnd (h : IsDec w g d nd dp ng tr) : w.cell? ⟨g, 800, none⟩ = some (.int .i64 nd) := h.cell 800 (by decide)
theorem IsDec.cdp (h : IsDec w g d nd dp ng tr) : w.cell? ⟨g, 801, none⟩ = some (.int .i64 dp) := h.cell 801 (by decide)
theorem IsDec.cng (h : IsDec w g d nd dp ng tr) : w.cell? ⟨g, 802, none⟩ = some (.bool ng) := h.cell 802 (by decide)
theorem IsDec.ctr (h : IsDec w g d nd dp ng tr) : w.cell? ⟨g, 803, none⟩ = some (.bool tr) := h.cell 803 (by decide)
theorem IsDec.frozen (h : IsDec w g d nd dp ng tr) (i : Nat) : w.frozen? ⟨g, i, none⟩ = false := blk_frozen h i
theorem IsDec.setByte (h : IsDec w g d nd dp ng tr) (i v : Nat) (hi : i < 800) : IsDec (w.setCell ⟨g, i, none⟩ (.int .u8 (v : Nat))) g (upd d i v) nd dp ng tr := by
  refine blk_put h i _ (dcells_set (fun j hj => ?_) (by omega))
  unfold dcell upd
  by_cases e : i = j
  · subst e
    rw [if_pos hi, if_pos rfl, if_pos rfl]
  rw [if_neg e, if_neg (c := j = i) (fun h => e h.symm)]
theorem IsDec.setNd (h : IsDec w g d nd dp ng tr) (v : Int) : IsDec (w.setCell ⟨g, 800, none⟩ (.int .i64 v)) g d v dp ng tr := by
  refine blk_put h 800 _ (dcells_set (fun j hj => ?_) (by omega))
  unfold dcell
  by_cases e : 800 = j
  · subst e; rfl
  rw [if_neg e, if_neg (c := j = 800) (fun h => e h.symm), if_neg (c := j = 800) (fun h => e h.symm)]
theorem IsDec.setDp (h : IsDec w g d nd dp ng tr) (v : Int) : IsDec (w.setCell ⟨g, 801, none⟩ (.int .i64 v)) g d nd v ng tr := by
  refine blk_put h 801 _ (dcells_set (fun j hj => ?_) (by omega))
  unfold dcell
  by_cases e : 801 = j
  · subst e; rfl
  rw [if_neg e, if_neg (c := j = 801) (fun h => e h.symm), if_neg (c := j = 801) (fun h => e h.symm)]
theorem IsDec.setTr (h : IsDec w g d nd dp ng tr) (v : Bool) : IsDec (w.setCell ⟨g, 803, none⟩ (.bool v)) g d nd dp ng v := by
  refine blk_put h 803 _ (dcells_set (fun j hj => ?_) (by omega))
  unfold dcell
  by_cases e : 803 = j
  · subst e; rfl
  rw [if_neg e]
  by_cases h1 : j < 800
  · rw [if_pos h1, if_pos h1]
  by_cases h2 : j = 800
  · rw [if_neg h1, if_neg h1, if_pos h2, if_pos h2]
  by_cases h3 : j = 801
  · rw [if_neg h1, if_neg h1, if_neg h2, if_neg h2, if_pos h3, if_pos h3]
  have h4 : j = 802 := by omega
  rw [if_neg h1, if_neg h1, if_neg h2, if_neg h2, if_neg h3, if_neg h3, if_pos h4, if_pos h4]
theorem IsDec.lt (h : IsDec w g d nd dp ng tr) : g < w.heap.size := blk_lt h
end
def tl (d : Nat → Nat) : Nat → Nat
  | 0 => 0
  | n + 1 => if d n = 48 then tl d n else n + 1
theorem tl_le (d : Nat → Nat) : ∀ n, tl d n ≤ n
  | 0 => Nat.le_refl _
  | n + 1 => by
    rw [tl]
    have := tl_le d n
    split <;> omega
theorem tl_zero (d : Nat → Nat) : ∀ n i, tl d n ≤ i → i < n → d i = 48
  | 0, i, _, h => by omega
  | n + 1, i, h1, h2 => by
    rw [tl] at h1
    by_cases h : d n = 48
    · rw [if_pos h] at h1
      by_cases hi : i = n
      · rw [hi]; exact h
      exact tl_zero d n i h1 (by omega)
    rw [if_neg h] at h1
    omega
theorem tl_last (d : Nat → Nat) : ∀ n, tl d n ≠ 0 → d (tl d n - 1) ≠ 48
  | 0, h => absurd rfl h
  | n + 1, h => by
    rw [tl] at h ⊢
    by_cases hd : d n = 48
    · rw [if_pos hd] at h ⊢
      exact tl_last d n h
    rw [if_neg hd]
    exact hd
def dpz (n : Nat) (dp : Int) : Int := if n = 0 then 0 else dp
theorem IsDec.drewN {w : World} {g : Nat} {d : Nat → Nat} {nd dp : Int} {ng tr : Bool} (h : IsDec w g d nd dp ng tr) (n : Nat) : IsDec (w.drewN n) g d nd dp ng tr := h
end Dc
open Dc
set_option maxRecDepth 100000 in
set_option maxHeartbeats 1000000 in
theorem trim_walk (w : World) (g B : Nat) (hB : B ≤ g) (d : Nat → Nat) (nd : Nat) (dp : Int) (ng tr : Bool) (hnd : nd ≤ 800) (h : IsDec w g d nd dp ng tr) :
    Calls Tryz.prog 167 #[.pointer (some ⟨g, 0, none⟩)] w fun e w' => e = .returned (.tuple #[]) ∧ Below B w w' ∧ IsDec w' g d (tl d nd : Nat) (dpz (tl d nd) dp) ng tr := by
  go_enter Tryz.func167, Tryz.ntmps167
  go_wp2_with fail
  go_loopg [] nd (fun gn w' => IsDec w' g d gn dp ng tr ∧ Below B w w' ∧ tl d gn = tl d nd ∧ gn ≤ nd)
  case atStart => exact ⟨h, Below.refl _ _, rfl, Nat.le_refl _⟩
  case round =>
    obtain ⟨hD, hb, ht, hg⟩ := hrel
    cases gk with
    | zero =>
      have cnd : wr.cell? ⟨g, 800, none⟩ = some (.int .i64 0) := hD.cnd
      have fdp := hD.frozen 801
      have cdp := hD.cdp
      have hz : tl d nd = 0 := ht.symm
      have HZ := Lib.hid hz
      have HD := Lib.hid hD
      clear ht hz hD hnd h
      go_wp2_with fail
      go_quiet (fail)
      go_wp2_with fail
      go_end0
      refine ⟨rfl, (below_drewN hb _).setCell hB _, ?_⟩
      rw [HZ.out]
      exact (HD.out.drewN _).setDp 0
    | succ n =>
      obtain ⟨m, hm⟩ : ∃ m : Int, m = ((n + 1 : Nat) : Int) := ⟨_, rfl⟩
      have cnd : wr.cell? ⟨g, 800, none⟩ = some (.int .i64 m) := by rw [hm]; exact hD.cnd
      have cb : wr.cell? ⟨g, n, none⟩ = some (.int .u8 (d n : Nat)) := hD.byte n (by omega)
      have fnd := hD.frozen 800
      have cdp := hD.cdp
      have m1 : (0 : Int) < m := by omega
      have m2 : IntKind.i64.wrap (m - 1) = n := by rw [Go.IntKind.wrap_i64]; omega
      have m3 : m - 1 = (n : Int) := by omega
      have m4 : (n : Int) < 800 := by omega
      have m5 : n < 800 := by omega
      have m6 : (m == 0) = false := by simp; omega
      have HT := Lib.hid ht
      have HG := Lib.hid hg
      have HD := Lib.hid hD
      obtain ⟨c, hc⟩ : ∃ c, c = d n := ⟨_, rfl⟩
      rw [← hc] at cb
      by_cases h48 : c = 48
      · have f1 : ((c : Int) == 48) = true := by simp [h48]
        have HC := Lib.hid (hc.symm.trans h48)
        have HM := Lib.hid hm
        clear ht hg hD hnd h hc h48 hm
        go_wp2_with fail
        go_quiet (fail)
        go_wp2_with fail
        go_roundg n
        case measure => omega
        case rel => exact ⟨(HD.out.drewN _).setNd _, (below_drewN hb _).setCell hB _, by have := HT.out; rw [tl, if_pos HC.out] at this; exact this, by have := HG.out; omega⟩
      have f1 : ((c : Int) == 48) = false := by simp; omega
      have hz : tl d nd = n + 1 := by rw [← ht, tl, if_neg (by rw [← hc]; exact h48)]
      have HZ := Lib.hid hz
      have HM := Lib.hid hm
      clear ht hg hD hnd h hc h48 hz hm
      go_wp2_with fail
      go_quiet (fail)
      go_wp2_with fail
      go_end0
      refine ⟨rfl, below_drewN hb _, ?_⟩
      rw [HZ.out]
      exact HD.out.drewN _
end Go.Proofs.YtjpiplplohapnaaGreatDoor
namespace Go.Proofs.YtjpiplplohapnaaGreatDoor
open Go.RowKit Go.Proofs.YtjpiplplohapnaaGreatDoorW.PrintWords
namespace Dc
def dig (d : Nat → Nat) (nd i : Nat) : Nat := if i < nd then d i - 48 else 0
def N (e : Nat → Nat) : Nat → Nat
  | 0 => 0
  | r + 1 => 10 * N e r + e r
theorem N_succ (e : Nat → Nat) (r : Nat) : N e (r + 1) = 10 * N e r + e r := rfl
theorem N_ext {d : Nat → Nat} {nd r : Nat} (h : nd ≤ r) : N (dig d nd) (r + 1) = 10 * N (dig d nd) r := by
  rw [N_succ]; unfold dig; rw [if_neg (by omega)]; rfl
theorem N_pow (d : Nat → Nat) (nd : Nat) : ∀ j, N (dig d nd) (nd + j) = N (dig d nd) nd * 10 ^ j
  | 0 => by simp
  | j + 1 => by
    rw [← Nat.add_assoc, N_ext (by omega), N_pow d nd j, Nat.pow_succ, Nat.mul_comm 10, Nat.mul_assoc]
theorem N_pos {e : Nat → Nat} (h : 1 ≤ e 0) : ∀ r, 1 ≤ N e (r + 1)
  | 0 => by rw [N_succ]; show 1 ≤ 10 * 0 + e 0; omega
  | r + 1 => by rw [N_succ]; have := N_pos h r; omega
theorem N_big {e : Nat → Nat} (h : 1 ≤ e 0) : ∀ r, 10 ^ r ≤ N e (r + 1)
  | 0 => by rw [N_succ]; show 1 ≤ 10 * 0 + e 0; omega
  | r + 1 => by rw [N_succ, Nat.pow_succ]; have := N_big h r; omega
theorem N_lt {e : Nat → Nat} (h : ∀ i, e i ≤ 9) : ∀ r, N e r < 10 ^ r
  | 0 => by show 0 < 1; decide
  | r + 1 => by
    rw [N_succ, Nat.pow_succ]
    have := N_lt h r
    have := h r
    omega
def qd (e : Nat → Nat) (P r0 w : Nat) : Nat := N e (r0 + w) / P % 10
def lost (e : Nat → Nat) (P r0 : Nat) : Nat → Bool
  | 0 => false
  | j + 1 => lost e P r0 j || (decide (800 ≤ j) && decide (qd e P r0 j ≠ 0))
theorem lost_small (e : Nat → Nat) (P r0 : Nat) : ∀ j, j ≤ 800 → lost e P r0 j = false
  | 0, _ => rfl
  | j + 1, h => by
    rw [lost, lost_small e P r0 j (by omega), decide_eq_false (show ¬ 800 ≤ j by omega)]
    rfl
theorem rest_step (e : Nat → Nat) (P r : Nat) (hP : 0 < P) : N e (r + 1) % (10 * P) = N e r % (10 * P) % P * 10 + e r % (10 * P) ∨ 10 * P ≤ N e r % (10 * P) % P * 10 + e r := by
  by_cases h : 10 * P ≤ N e r % (10 * P) % P * 10 + e r
  · exact Or.inr h
  left
  have he : e r < 10 * P := by omega
  rw [Nat.mod_eq_of_lt he]
  have e1 : N e r % (10 * P) % P = N e r % P := Nat.mod_mul_left_mod _ _ _
  rw [e1] at h ⊢
  rw [N_succ]
  have hdm := Nat.div_add_mod (N e r) P
  have e2 : 10 * N e r + e r = (N e r % P * 10 + e r) + 10 * P * (N e r / P) := by
    rw [Nat.mul_assoc]
    generalize P * (N e r / P) = A at *
    omega
  rw [e2, Nat.add_mul_mod_self_left, Nat.mod_eq_of_lt (by omega)]
theorem rest_next {e : Nat → Nat} (P r : Nat) (hP : 0 < P) (he : ∀ i, e i ≤ 9) : N e (r + 1) % (10 * P) = N e r % (10 * P) % P * 10 + e r := by
  have h1 := Nat.mod_lt (N e r % (10 * P)) hP
  have h2 := he r
  rcases rest_step e P r hP with h | h
  · rw [Nat.mod_eq_of_lt (by omega : e r < 10 * P)] at h
    exact h
  omega
theorem qd_rest (e : Nat → Nat) (P r0 w : Nat) (hP : 0 < P) : N e (r0 + w) % (10 * P) / P = qd e P r0 w := by
  unfold qd
  rw [Nat.mul_comm, Nat.mod_mul_right_div_self]
theorem rest_end (d : Nat → Nat) (nd k r : Nat) (h : nd + k + 1 ≤ r) : N (dig d nd) r % (10 * 2 ^ k) = 0 := by
  obtain ⟨j, rfl⟩ : ∃ j, r = nd + (k + 1 + j) := ⟨r - nd - (k + 1), by omega⟩
  rw [N_pow, Nat.pow_add, Nat.pow_succ]
  have e : (10 : Nat) ^ k = 2 ^ k * 5 ^ k := by rw [← Nat.mul_pow]
  rw [e]
  have e2 : N (dig d nd) nd * (2 ^ k * 5 ^ k * 10 * 10 ^ j) = 10 * 2 ^ k * (N (dig d nd) nd * 5 ^ k * 10 ^ j) := by
    generalize (2 : Nat) ^ k = a
    generalize (5 : Nat) ^ k = b
    generalize (10 : Nat) ^ j = c
    grind
  rw [e2, Nat.mul_mod_right]
structure Lead (e : Nat → Nat) (P r0 : Nat) : Prop where
  one : 1 ≤ r0
  lo : N e (r0 - 1) < P
  hi : P ≤ N e r0
theorem Lead.le20 {e : Nat → Nat} {P r0 : Nat} (h : Lead e P r0) (h0 : 1 ≤ e 0) (hP : P ≤ 1152921504606846976) : r0 ≤ 20 := by
  rcases Nat.lt_or_ge 20 r0 with g | g
  · exfalso
    obtain ⟨j, hj⟩ : ∃ j, r0 - 1 = j + 1 := ⟨r0 - 2, by omega⟩
    have h1 := N_big h0 j
    have h2 := h.lo
    rw [hj] at h2
    have h3 : 10 ^ 19 ≤ 10 ^ j := Nat.pow_le_pow_right (by decide) (by omega)
    have h4 : (10 : Nat) ^ 19 = 10000000000000000000 := by decide
    omega
  exact g
structure Rs (d : Nat → Nat) (nd k : Nat) (d' : Nat → Nat) (r0 T W : Nat) : Prop where
  lead : Lead (dig d nd) (2 ^ k) r0
  far : nd ≤ T ∧ r0 ≤ T
  fin : N (dig d nd) T % (10 * 2 ^ k) = 0
  wid : W = min 800 (T - r0)
  dgs : ∀ i, i < W → d' i = 48 + qd (dig d nd) (2 ^ k) r0 i
theorem dig_le {d : Nat → Nat} {nd : Nat} (hd : ∀ i, i < nd → 48 ≤ d i ∧ d i ≤ 57) (i : Nat) : dig d nd i ≤ 9 := by
  unfold dig
  split
  · rename_i h; have := hd i h; omega
  omega
end Dc
open Dc
theorem int_shr_u (v k : Nat) : (v : Int) / 2 ^ k = ((v / 2 ^ k : Nat) : Int) := by rw [Int.natCast_ediv, Int.natCast_pow]; rfl
theorem mask_and (n k : Nat) (hn : n < 18446744073709551616) (hk : k ≤ 60) : Go.bits .and .u64 (n : Int) ((2 ^ k - 1 : Nat) : Int) = ((n % 2 ^ k : Nat) : Int) := by
  have hp : 2 ^ k ≤ 2 ^ 60 := Nat.pow_le_pow_right (by decide) hk
  have h60 : (2 : Nat) ^ 60 = 1152921504606846976 := by decide
  rw [Go.u64_and_nat n (2 ^ k - 1) hn (by omega), Nat.and_two_pow_sub_one_eq_mod]
def RsPost (g B : Nat) (d : Nat → Nat) (nd k : Nat) (dp : Int) (ng tr : Bool) (w : World) (e : Ending) (w' : World) : Prop :=
  e = .returned (.tuple #[]) ∧ Below B w w' ∧ ∃ d' r0 T W, Rs d nd k d' r0 T W ∧ IsDec w' g d' (tl d' W : Nat) (dpz (tl d' W) (dp - ((r0 : Int) - 1))) ng (tr || lost (dig d nd) (2 ^ k) r0 (T - r0))
set_option maxRecDepth 100000 in
set_option maxHeartbeats 4000000 in
theorem rightShift_walk (w : World) (g B : Nat) (hB : B ≤ g) (d : Nat → Nat) (nd k : Nat) (dp : Int) (ng tr : Bool) (hk1 : 1 ≤ k) (hk : k ≤ 60) (hnd0 : 0 < nd) (hnd : nd ≤ 800) (hdp1 : -100000 ≤ dp) (hdp2 : dp ≤ 100000)
    (hd : ∀ i, i < nd → 48 ≤ d i ∧ d i ≤ 57) (h0 : d 0 ≠ 48) (h : IsDec w g d nd dp ng tr) :
    Calls Tryz.prog 169 #[.pointer (some ⟨g, 0, none⟩), .int .u64 k] w (RsPost g B d nd k dp ng tr w) := by
  obtain ⟨P, hP⟩ : ∃ P, P = 2 ^ k := ⟨_, rfl⟩
  have hPp : 0 < P := by rw [hP]; exact Nat.pow_pos (by decide)
  have hP60 : P ≤ 1152921504606846976 := by
    have hp : 2 ^ k ≤ 2 ^ 60 := Nat.pow_le_pow_right (by decide) hk
    have h60 : (2 : Nat) ^ 60 = 1152921504606846976 := by decide
    omega
  have he9 := dig_le hd
  have he0 : 1 ≤ dig d nd 0 := by unfold dig; rw [if_pos hnd0]; have := hd 0 hnd0; omega
  have cnd := h.cnd
  have HD := Lib.hid h
  have HK := Lib.hid hk
  have HdD := Lib.hid hd
  have hshr : ∀ v : Nat, (v : Int) / 2 ^ k = ((v / P : Nat) : Int) := fun v => by rw [hP]; exact int_shr_u v k
  have HShr := Lib.hid hshr
  have HP := Lib.hid hP
  have kI : (k : Int) ≤ 64 := by omega
  have kI0 : (0 : Int) ≤ k := by omega
  clear hP hshr h hd h0
  go_enter Tryz.func169, Tryz.ntmps169
  go_upto_block 0 with (fail)
  go_cut [4, 6] (fun v4 v6 w' => ∃ r0 : Nat, v4 = .int .i64 r0 ∧ v6 = .int .u64 (N (dig d nd) r0 : Nat) ∧ Hid (Lead (dig d nd) P r0) ∧ w = w')
  case first =>
    go_wp2_with fail
    go_loopg [4, 6] nd (fun gn v4 v6 w' => ∃ r : Nat, gn + r = nd ∧ v4 = .int .i64 r ∧ v6 = .int .u64 (N (dig d nd) r : Nat) ∧ Hid (r = 0 ∨ N (dig d nd) (r - 1) < P) ∧ w = w')
    case atStart => exact ⟨0, by omega, rfl, rfl, Lib.hid (Or.inl rfl), rfl⟩
    case round =>
      obtain ⟨r, hg, rfl, rfl, hlo, hww⟩ := hrel
      subst hww
      obtain ⟨n, hn⟩ : ∃ n, n = N (dig d nd) r := ⟨_, rfl⟩
      rw [← hn]
      have hsh := HShr.out n
      obtain ⟨q, hq⟩ : ∃ q, q = n / P := ⟨_, rfl⟩
      rw [← hq] at hsh
      by_cases hge : P ≤ n
      · have hq1 : q ≠ 0 := by
          have : 0 < n / P := Nat.div_pos hge hPp
          omega
        have f1 : ((q : Int) == 0) = false := by simp; omega
        have hLead : Hid (Lead (dig d nd) P r) := Lib.hid ⟨by
          rcases Nat.eq_zero_or_pos r with hr | hr
          · subst hr; rw [show N (dig d nd) 0 = 0 from rfl] at hn; omega
          · exact hr, by
          rcases hlo.out with hr | hr
          · subst hr; rw [show N (dig d nd) 0 = 0 from rfl] at hn; omega
          exact hr, by rw [← hn]; exact hge⟩
        have HN := Lib.hid hn
        clear hn hq hq1 hge hlo
        go_wp2_with fail
        go_meet
        case rel => exact ⟨r, rfl, by rw [HN.out], hLead, rfl⟩
      have hq1 : q = 0 := by rw [hq]; exact Nat.div_eq_of_lt (by omega)
      have f1 : ((q : Int) == 0) = true := by simp [hq1]
      by_cases hr : r < nd
      · have g1 : (r : Int) < nd := by omega
        have g2 : ¬ (nd : Int) ≤ r := by omega
        have g3 : decide ((nd : Int) ≤ (r : Int)) = false := decide_eq_false g2
        have cb := HD.out.byte r (by omega)
        have hb := HdD.out r hr
        have hnx : N (dig d nd) (r + 1) = 10 * n + (d r - 48) := by rw [N_succ, ← hn]; unfold dig; rw [if_pos hr]
        obtain ⟨c, hc⟩ : ∃ c, c = d r := ⟨_, rfl⟩
        rw [← hc] at cb hb hnx
        have w1 : IntKind.u64.wrap (IntKind.u64.wrap (IntKind.u64.wrap ((n : Int) * 10) + (c : Int)) - 48) = ((10 * n + (c - 48) : Nat) : Int) := by
          rw [Go.IntKind.wrap_u64, Go.IntKind.wrap_u64, Go.IntKind.wrap_u64]; omega
        have w2 : IntKind.u64.wrap ((n : Int) * 10) = (n : Int) * 10 := by rw [Go.IntKind.wrap_u64]; omega
        have w3 : IntKind.u64.wrap ((n : Int) * 10 + (c : Int)) = (n : Int) * 10 + c := by rw [Go.IntKind.wrap_u64]; omega
        have w4 : IntKind.u64.wrap ((n : Int) * 10 + (c : Int) - 48) = ((10 * n + (c - 48) : Nat) : Int) := by rw [Go.IntKind.wrap_u64]; omega
        have w5 : IntKind.u64.wrap (c : Int) = (c : Int) := by rw [Go.IntKind.wrap_u64]; omega
        obtain ⟨n2, hn2⟩ : ∃ n2, n2 = 10 * n + (c - 48) := ⟨_, rfl⟩
        rw [← hn2] at w1 w4 hnx
        have wr : IntKind.i64.wrap ((r : Int) + 1) = ((r + 1 : Nat) : Int) := by rw [Go.IntKind.wrap_i64]; omega
        have r4 : (r : Int) < 800 := by omega
        have HG := Lib.hid (show gk ≠ 0 ∧ gk - 1 + (r + 1) = nd by omega)
        have hLo : Hid (r + 1 = 0 ∨ N (dig d nd) (r + 1 - 1) < P) := Lib.hid (Or.inr (by rw [Nat.add_sub_cancel, ← hn]; omega))
        have HNX := Lib.hid hnx
        clear hn hq hq1 hge hlo hb hc hn2 hnx hr hg
        go_wp2_with fail
        go_roundg (gk - 1)
        case measure => have := HG.out; omega
        case rel => exact ⟨r + 1, HG.out.2, by go_num, by rw [HNX.out], hLo, rfl⟩
      have hre : r = nd := by omega
      subst hre
      have g3 : decide ((r : Int) ≤ (r : Int)) = true := by simp
      have hn1 : n ≠ 0 := by
        obtain ⟨j, hj⟩ : ∃ j, r = j + 1 := ⟨r - 1, by omega⟩
        have := N_pos he0 j
        rw [← hj, ← hn] at this
        omega
      have f2 : ((n : Int) == 0) = false := by simp; omega
      have hnP : n < P := by omega
      have HN := Lib.hid (show n = N (dig d r) r ∧ 0 < n ∧ n < P ∧ 1 ≤ r from ⟨hn, by omega, hnP, by omega⟩)
      clear hn hq hq1 hge hlo hr hg hn1 hnP
      go_wp2_with fail
      clear HShr hsh
      go_loopg [4, 6] (P - n) (fun gn v4 v6 w' => ∃ r' n' : Nat, v4 = .int .i64 r' ∧ v6 = .int .u64 n' ∧ Hid (gn = P - n' ∧ n' = N (dig d r) r' ∧ 0 < n' ∧ n' < 10 * P ∧ r ≤ r' ∧ r' ≤ r + n' ∧ N (dig d r) (r' - 1) < P) ∧ w = w')
      case atStart => exact ⟨r, n, rfl, rfl, Lib.hid ⟨rfl, HN.out.1, HN.out.2.1, by have := HN.out.2.2.1; omega, Nat.le_refl _, by omega, by
        have h1 := HN.out
        obtain ⟨j, hj⟩ : ∃ j, r = j + 1 := ⟨r - 1, by omega⟩
        rw [hj] at h1 ⊢
        rw [Nat.add_sub_cancel]
        have h2 := N_succ (dig d (j + 1)) j
        omega⟩, rfl⟩
      case round =>
        obtain ⟨r', n', rfl, rfl, hH, hww⟩ := hrel
        subst hww
        have hsh2 := int_shr_u n' k
        rw [← HP.out] at hsh2
        obtain ⟨q', hq'⟩ : ∃ q', q' = n' / P := ⟨_, rfl⟩
        rw [← hq'] at hsh2
        have hH2 := hH.out
        by_cases hge : P ≤ n'
        · have hq1 : q' ≠ 0 := by
            have : 0 < n' / P := Nat.div_pos hge hPp
            omega
          have f3 : ((q' : Int) == 0) = false := by simp; omega
          have hLead : Hid (Lead (dig d r) P r') := Lib.hid ⟨by have := HN.out.2.2.2; omega, hH2.2.2.2.2.2.2, by rw [← hH2.2.1]; exact hge⟩
          have HE := Lib.hid hH2.2.1
          clear hH2 hH hq' hq1 hge
          go_wp2_with fail
          go_meet
          case rel => exact ⟨r', rfl, by rw [← HE.out], hLead, rfl⟩
        have hq1 : q' = 0 := by rw [hq']; exact Nat.div_eq_of_lt (by omega)
        have f3 : ((q' : Int) == 0) = true := by simp [hq1]
        have w1 : IntKind.u64.wrap ((n' : Int) * 10) = ((10 * n' : Nat) : Int) := by rw [Go.IntKind.wrap_u64]; omega
        have w2 : IntKind.i64.wrap ((r' : Int) + 1) = ((r' + 1 : Nat) : Int) := by
          have := HN.out
          rw [Go.IntKind.wrap_i64]; omega
        have w3 : (n' : Int) * 10 = ((10 * n' : Nat) : Int) := by omega
        have hN2 : Hid (P - 10 * n' < gk ∧ P - 10 * n' = P - 10 * n' ∧ 10 * n' = N (dig d r) (r' + 1) ∧ 0 < 10 * n' ∧ 10 * n' < 10 * P ∧ r ≤ r' + 1 ∧ r' + 1 ≤ r + 10 * n' ∧ N (dig d r) (r' + 1 - 1) < P) := Lib.hid ⟨by omega, rfl, by rw [N_ext hH2.2.2.2.2.1, ← hH2.2.1], by omega, by omega, by omega, by omega, by rw [Nat.add_sub_cancel, ← hH2.2.1]; omega⟩
        obtain ⟨m, hm⟩ : ∃ m, m = 10 * n' := ⟨_, rfl⟩
        rw [← hm] at w1 w3 hN2
        have w6 : IntKind.u64.wrap (m : Int) = (m : Int) := by rw [Go.IntKind.wrap_u64]; omega
        clear hH2 hH hq' hq1 hge hm
        go_wp2_with fail
        go_roundg (P - m)
        case measure => exact hN2.out.1
        case rel => exact ⟨r' + 1, m, by go_num, rfl, Lib.hid ⟨rfl, hN2.out.2.2⟩, rfl⟩
  obtain ⟨r0, rfl, rfl, hLead, hww⟩ := hcut
  subst hww
  have hr20 := hLead.out.le20 he0 hP60
  have hr1 := hLead.out.one
  have cdp := HD.out.cdp
  have fdp := HD.out.frozen 801
  obtain ⟨dp', hdp'⟩ : ∃ dp' : Int, dp' = dp - ((r0 : Int) - 1) := ⟨_, rfl⟩
  have w1 : IntKind.i64.wrap ((r0 : Int) - 1) = (r0 : Int) - 1 := by rw [Go.IntKind.wrap_i64]; omega
  have w2 : IntKind.i64.wrap (dp - ((r0 : Int) - 1)) = dp' := by rw [hdp', Go.IntKind.wrap_i64]; omega
  obtain ⟨M, hM⟩ : ∃ M, M = P - 1 := ⟨_, rfl⟩
  have w3 : IntKind.u64.wrap ((2 : Int) ^ k) = (P : Int) := by
    have e : ((2 : Int) ^ k) = ((2 ^ k : Nat) : Int) := by rw [Int.natCast_pow]; rfl
    rw [e, ← HP.out, Go.IntKind.wrap_u64]; omega
  have w4 : IntKind.u64.wrap ((P : Int) - 1) = (M : Int) := by rw [Go.IntKind.wrap_u64]; omega
  have w5 : (P : Int) - 1 = (M : Int) := by omega
  have hMask : Hid (∀ n : Nat, n < 18446744073709551616 → Go.bits .and .u64 (n : Int) (M : Int) = ((n % P : Nat) : Int)) := Lib.hid fun n hn => by
    have := mask_and n k hn HK.out
    rw [← HP.out, ← hM] at this
    exact this
  have HDp := Lib.hid hdp'
  have HM := Lib.hid hM
  have hN0 : Hid (N (dig d nd) r0 = N (dig d nd) r0 % (10 * P)) := Lib.hid (by
    refine (Nat.mod_eq_of_lt ?_).symm
    obtain ⟨j, hj⟩ : ∃ j, r0 = j + 1 := ⟨r0 - 1, by omega⟩
    have h1 := hLead.out.lo
    rw [hj, Nat.add_sub_cancel] at h1
    rw [hj, N_succ]
    have := he9 j
    omega)
  clear hdp' hM
  go_step
  go_upto_block 4 with (fail)
  go_cut [4, 5, 6] (fun v4 v5 v6 w' => ∃ (r v n : Nat) (d' : Nat → Nat), v4 = .int .i64 r ∧ v5 = .int .i64 v ∧ v6 = .int .u64 n ∧ Hid (v + r0 = r ∧ n = N (dig d nd) r % (10 * P) ∧ nd ≤ r ∧ (r ≤ nd ∨ r = r0) ∧ (∀ i, i < v → d' i = 48 + qd (dig d nd) P r0 i)) ∧ IsDec w' g d' nd dp' ng tr ∧ Below B w w')
  case first =>
    go_wp2_with fail
    go_loopg [4, 5, 6] nd (fun gn v4 v5 v6 w' => ∃ (r v n : Nat) (d' : Nat → Nat), v4 = .int .i64 r ∧ v5 = .int .i64 v ∧ v6 = .int .u64 n ∧ Hid (nd - r ≤ gn ∧ v + r0 = r ∧ n = N (dig d nd) r % (10 * P) ∧ (r ≤ nd ∨ r = r0) ∧ (∀ i, i < v → d' i = 48 + qd (dig d nd) P r0 i) ∧ (∀ i, v ≤ i → d' i = d i)) ∧ IsDec w' g d' nd dp' ng tr ∧ Below B w w')
    case atStart => exact ⟨r0, 0, N (dig d nd) r0, d, rfl, rfl, rfl, Lib.hid ⟨by omega, by omega, hN0.out, Or.inr rfl, fun i hi => absurd hi (by omega), fun i _ => rfl⟩, HD.out.setDp _, (Below.refl _ _).setCell hB _⟩
    case round =>
      obtain ⟨r, v, n, d', rfl, rfl, rfl, hH, hD', hb⟩ := hrel
      obtain ⟨hgk, hv, hn, hrr, hq, hun⟩ := hH.out
      have cnd' := hD'.cnd
      by_cases hr : r < nd
      · have g1 : (r : Int) < nd := by omega
        have hn10 : n < 10 * P := by rw [hn]; exact Nat.mod_lt _ (by omega)
        have hv800 : v < 800 := by omega
        have cb := hD'.byte r (by omega)
        rw [hun r (by omega)] at cb
        have hby := HdD.out r hr
        have fb := hD'.frozen v
        have cv := hD'.byte v hv800
        generalize d' v = dv at cv
        have hsh := int_shr_u n k
        rw [← HP.out] at hsh
        have hmk := hMask.out n (by omega)
        have hqd : n / P = qd (dig d nd) P r0 v := by rw [hn, ← hv, Nat.add_comm v r0]; exact qd_rest _ _ _ _ hPp
        have hq9 : n / P ≤ 9 := by rw [hqd]; unfold qd; omega
        have hnx := rest_next (e := dig d nd) P r hPp he9
        rw [← hn] at hnx
        have hdg : dig d nd r = d r - 48 := by unfold dig; rw [if_pos hr]
        rw [hdg] at hnx
        have hm : n % P < P := Nat.mod_lt _ hPp
        obtain ⟨q, hqe⟩ : ∃ q, q = n / P := ⟨_, rfl⟩
        obtain ⟨m, hme⟩ : ∃ m, m = n % P := ⟨_, rfl⟩
        obtain ⟨c, hc⟩ : ∃ c, c = d r := ⟨_, rfl⟩
        rw [← hqe] at hsh hqd hq9
        rw [← hme] at hmk hnx hm
        rw [← hc] at cb hby hnx
        obtain ⟨n2, hn2⟩ : ∃ n2, n2 = m * 10 + (c - 48) := ⟨_, rfl⟩
        rw [← hn2] at hnx
        have x1 : IntKind.u64.wrap ((q : Int) + 48) = (q : Int) + 48 := by rw [Go.IntKind.wrap_u64]; omega
        have x2 : IntKind.u8.wrap ((q : Int) + 48) = ((48 + q : Nat) : Int) := by rw [Go.IntKind.wrap_u8]; omega
        have x3 : IntKind.u64.wrap ((m : Int) * 10) = (m : Int) * 10 := by rw [Go.IntKind.wrap_u64]; omega
        have x4 : IntKind.u64.wrap ((m : Int) * 10 + (c : Int)) = (m : Int) * 10 + c := by rw [Go.IntKind.wrap_u64]; omega
        have x5 : IntKind.u64.wrap ((m : Int) * 10 + (c : Int) - 48) = (n2 : Int) := by rw [Go.IntKind.wrap_u64]; omega
        have x6 : IntKind.u64.wrap (c : Int) = (c : Int) := by rw [Go.IntKind.wrap_u64]; omega
        have x7 : ((q : Int) + 48) % 256 = ((48 + q : Nat) : Int) := by omega
        have r4 : (r : Int) < 800 := by omega
        have v4 : (v : Int) < 800 := by omega
        have HR : Hid ((nd - (r + 1) < gk ∧ v + 1 + r0 = r + 1) ∧ n2 = N (dig d nd) (r + 1) % (10 * P) ∧ (r + 1 ≤ nd ∨ r + 1 = r0) ∧ (∀ i, i < v + 1 → upd d' v (48 + q) i = 48 + qd (dig d nd) P r0 i) ∧ (∀ i, v + 1 ≤ i → upd d' v (48 + q) i = d i)) := Lib.hid ⟨⟨by omega, by omega⟩, hnx.symm, Or.inl (by omega), fun i hi => by
          unfold upd
          by_cases e : i = v
          · rw [if_pos e, hqd, e]
          · rw [if_neg e]; exact hq i (by omega), fun i hi => by
          unfold upd
          rw [if_neg (by omega)]; exact hun i (by omega)⟩
        have HD' := Lib.hid hD'
        clear hH hgk hv hn hrr hq hun hr hn10 hqd hq9 hnx hm hqe hme hc hn2 hby hD' hdg cdp fdp cnd
        go_wp2_with fail
        go_roundg (nd - (r + 1))
        case measure => exact HR.out.1.1
        case rel => exact ⟨r + 1, v + 1, n2, upd d' v (48 + q), by go_num, by go_num, rfl, Lib.hid ⟨Nat.le_refl _, HR.out.1.2, HR.out.2.1, HR.out.2.2.1, HR.out.2.2.2.1, HR.out.2.2.2.2⟩, HD'.out.setByte _ _ (by omega), hb.setCell hB _⟩
      have g1 : ¬ (r : Int) < nd := by omega
      have HR : Hid (v + r0 = r ∧ n = N (dig d nd) r % (10 * P) ∧ nd ≤ r ∧ (r ≤ nd ∨ r = r0) ∧ (∀ i, i < v → d' i = 48 + qd (dig d nd) P r0 i)) := Lib.hid ⟨hv, hn, by omega, hrr, hq⟩
      clear hH hgk hv hn hrr hq hun hr
      go_wp2_with fail
      go_meet
      case rel => exact ⟨r, v, n, d', rfl, rfl, rfl, HR, hD', hb⟩
  obtain ⟨r1, v1, n1, d1, rfl, rfl, rfl, hH1, hD1, hb1⟩ := hcut
  clear cnd cdp fdp hN0 w1 w2 w3 w4 w5
  go_step
  go_upto_block 6 with (fail)
  go_cut [5, 6] (fun v5 v6 w' => ∃ (T W : Nat) (d' : Nat → Nat), v5 = .int .i64 W ∧ Hid (nd ≤ T ∧ r0 ≤ T ∧ N (dig d nd) T % (10 * P) = 0 ∧ W = min 800 (T - r0) ∧ (∀ i, i < W → d' i = 48 + qd (dig d nd) P r0 i)) ∧ IsDec w' g d' nd dp' ng (tr || lost (dig d nd) P r0 (T - r0)) ∧ Below B w w')
  case first =>
    go_wp2_with fail
    go_loopg [5, 6] (nd + k + 1) (fun gn v5 v6 w' => ∃ (r W n : Nat) (d' : Nat → Nat), v5 = .int .i64 W ∧ v6 = .int .u64 n ∧ Hid (nd + k + 1 - r ≤ gn ∧ nd ≤ r ∧ r0 ≤ r ∧ n = N (dig d nd) r % (10 * P) ∧ W = min 800 (r - r0) ∧ (∀ i, i < W → d' i = 48 + qd (dig d nd) P r0 i)) ∧ IsDec w' g d' nd dp' ng (tr || lost (dig d nd) P r0 (r - r0)) ∧ Below B w w')
    case atStart => exact ⟨r1, v1, n1, d1, rfl, rfl, Lib.hid ⟨by omega, hH1.out.2.2.1, by have := hH1.out.1; omega, hH1.out.2.1, by have := hH1.out; omega, hH1.out.2.2.2.2⟩, by
      rw [lost_small _ _ _ (r1 - r0) (by have := hH1.out; omega), Bool.or_false]
      exact hD1, hb1⟩
    case round =>
      obtain ⟨r, W, n, d', rfl, rfl, hH, hD', hb⟩ := hrel
      obtain ⟨hgk, hv, hr0, hn, hW, hq⟩ := hH.out
      clear hH1 hD1 hb1
      by_cases hz : n = 0
      · subst hz
        have HR : Hid (nd ≤ r ∧ r0 ≤ r ∧ N (dig d nd) r % (10 * P) = 0 ∧ W = min 800 (r - r0) ∧ (∀ i, i < W → d' i = 48 + qd (dig d nd) P r0 i)) := Lib.hid ⟨hv, hr0, hn.symm, hW, hq⟩
        clear hH hgk hv hr0 hn hW hq
        go_wp2_with fail
        go_meet
        case rel => exact ⟨r, W, d', rfl, HR, hD', hb⟩
      have hrk : r < nd + k + 1 := by
        rcases Nat.lt_or_ge r (nd + k + 1) with h1 | h1
        · exact h1
        have := rest_end d nd k r h1
        rw [← HP.out, ← hn] at this
        exact absurd this hz
      have hn10 : n < 10 * P := by rw [hn]; exact Nat.mod_lt _ (by omega)
      have hsh := int_shr_u n k
      rw [← HP.out] at hsh
      have hmk := hMask.out n (by omega)
      obtain ⟨j, hj⟩ : ∃ j, j = r - r0 := ⟨_, rfl⟩
      have hqd : n / P = qd (dig d nd) P r0 j := by rw [hn, show r = r0 + j by omega]; exact qd_rest _ _ _ _ hPp
      have hq9 : n / P ≤ 9 := by rw [hqd]; unfold qd; omega
      have hnx := rest_next (e := dig d nd) P r hPp he9
      rw [← hn] at hnx
      have hdg : dig d nd r = 0 := by unfold dig; rw [if_neg (by omega)]
      rw [hdg, Nat.add_zero] at hnx
      have hm : n % P < P := Nat.mod_lt _ hPp
      have hj1 : r + 1 - r0 = j + 1 := by omega
      rw [← hj] at hW hD'
      obtain ⟨q, hqe⟩ : ∃ q, q = n / P := ⟨_, rfl⟩
      obtain ⟨m, hme⟩ : ∃ m, m = n % P := ⟨_, rfl⟩
      rw [← hqe] at hsh hqd hq9
      rw [← hme] at hmk hnx hm
      obtain ⟨n2, hn2⟩ : ∃ n2, n2 = m * 10 := ⟨_, rfl⟩
      rw [← hn2] at hnx
      have x1 : IntKind.u64.wrap ((q : Int) + 48) = (q : Int) + 48 := by rw [Go.IntKind.wrap_u64]; omega
      have x2 : IntKind.u8.wrap ((q : Int) + 48) = ((48 + q : Nat) : Int) := by rw [Go.IntKind.wrap_u8]; omega
      have x3 : IntKind.u64.wrap ((m : Int) * 10) = (n2 : Int) := by rw [Go.IntKind.wrap_u64]; omega
      have x7 : ((q : Int) + 48) % 256 = ((48 + q : Nat) : Int) := by omega
      have x8 : (m : Int) * 10 = (n2 : Int) := by omega
      have x9 : IntKind.u64.wrap (n2 : Int) = (n2 : Int) := by rw [Go.IntKind.wrap_u64]; omega
      have g0 : (0 : Int) < n := by omega
      have HN2 : Hid ((nd + k + 1 - (r + 1) < gk ∧ nd ≤ r + 1 ∧ r0 ≤ r + 1) ∧ n2 = N (dig d nd) (r + 1) % (10 * P)) := Lib.hid ⟨⟨by omega, by omega, by omega⟩, hnx.symm⟩
      by_cases h8 : j < 800
      · have hWj : W = j := by omega
        have v4 : (W : Int) < 800 := by omega
        have v5 : W < 800 := by omega
        have cv := hD'.byte W v5
        have fb := hD'.frozen W
        generalize d' W = dv at cv
        have HR : Hid (W + 1 = min 800 (r + 1 - r0) ∧ (∀ i, i < W + 1 → upd d' W (48 + q) i = 48 + qd (dig d nd) P r0 i)) := Lib.hid ⟨by omega, fun i hi => by
          unfold upd
          by_cases e : i = W
          · rw [if_pos e, hqd, e, hWj]
          rw [if_neg e]; exact hq i (by omega)⟩
        have HL : Hid (lost (dig d nd) P r0 (r + 1 - r0) = lost (dig d nd) P r0 j) := Lib.hid (by
          rw [hj1, lost, decide_eq_false (show ¬ 800 ≤ j by omega)]; simp)
        have HD' := Lib.hid hD'
        clear hH hgk hv hr0 hn hW hq hz hrk hn10 hj hqd hq9 hnx hdg hm hj1 hqe hme hn2 h8 hWj hD'
        go_wp2_with fail
        go_roundg (nd + k + 1 - (r + 1))
        case measure => exact HN2.out.1.1
        case rel => exact ⟨r + 1, W + 1, n2, upd d' W (48 + q), by go_num, rfl, Lib.hid ⟨Nat.le_refl _, HN2.out.1.2.1, HN2.out.1.2.2, HN2.out.2, HR.out.1, HR.out.2⟩, by rw [HL.out]; exact HD'.out.setByte _ _ v5, hb.setCell hB _⟩
      have hWj : W = 800 := by omega
      subst hWj
      have HR : Hid (800 = min 800 (r + 1 - r0) ∧ (∀ i, i < 800 → d' i = 48 + qd (dig d nd) P r0 i)) := Lib.hid ⟨by omega, hq⟩
      by_cases hq0 : q = 0
      · have f1 : ¬ (0 : Int) < q := by omega
        have f2 : decide ((0 : Int) < (q : Int)) = false := decide_eq_false f1
        have HL : Hid (lost (dig d nd) P r0 (r + 1 - r0) = lost (dig d nd) P r0 j) := Lib.hid (by
          rw [hj1, lost, ← hqd, decide_eq_false (show ¬ q ≠ 0 by omega)]; simp)
        clear hH hgk hv hr0 hn hW hq hz hrk hn10 hj hqd hq9 hnx hdg hm hj1 hqe hme hn2 h8 hq0
        go_wp2_with fail
        go_roundg (nd + k + 1 - (r + 1))
        case measure => exact HN2.out.1.1
        case rel => exact ⟨r + 1, 800, n2, d', rfl, rfl, Lib.hid ⟨Nat.le_refl _, HN2.out.1.2.1, HN2.out.1.2.2, HN2.out.2, HR.out.1, HR.out.2⟩, by rw [HL.out]; exact hD', hb⟩
      have f1 : (0 : Int) < q := by omega
      have f2 : decide ((0 : Int) < (q : Int)) = true := decide_eq_true f1
      have ctr := hD'.ctr
      have ftr := hD'.frozen 803
      have HL : Hid (lost (dig d nd) P r0 (r + 1 - r0) = true) := Lib.hid (by
        rw [hj1, lost, ← hqd, decide_eq_true hq0, decide_eq_true (show 800 ≤ j by omega)]; simp)
      have HD' := Lib.hid hD'
      generalize (tr || lost (dig d nd) P r0 j) = tr2 at *
      clear hH hgk hv hr0 hn hW hq hz hrk hn10 hj hqd hq9 hnx hdg hm hj1 hqe hme hn2 h8 hq0 hD'
      go_wp2_with fail
      go_roundg (nd + k + 1 - (r + 1))
      case measure => exact HN2.out.1.1
      case rel => exact ⟨r + 1, 800, n2, d', rfl, rfl, Lib.hid ⟨Nat.le_refl _, HN2.out.1.2.1, HN2.out.1.2.2, HN2.out.2, HR.out.1, HR.out.2⟩, by rw [HL.out, Bool.or_true]; exact HD'.out.setTr true, hb.setCell hB _⟩
  obtain ⟨T, W, d', rfl, hH, hD', hb⟩ := hcut
  clear hH1 hD1 hb1
  have cnd := hD'.cnd
  have fnd := hD'.frozen 800
  have hW8 : W ≤ 800 := by have := hH.out.2.2.2.1; omega
  have HTrim := Lib.hid (fun w1 h1 => trim_walk w1 g B hB d' W dp' ng (tr || lost (dig d nd) P r0 (T - r0)) hW8 h1)
  have HRs : Hid (Rs d nd k d' r0 T W) := Lib.hid ⟨by rw [← HP.out]; exact hLead.out, ⟨hH.out.1, hH.out.2.1⟩, by rw [← HP.out]; exact hH.out.2.2.1, hH.out.2.2.2.1, by rw [← HP.out]; exact hH.out.2.2.2.2⟩
  have HD' := Lib.hid (hD'.setNd (W : Int))
  clear hD' hH
  go_step
  go_wp2_with fail
  refine (HTrim.out _ HD'.out).mono ?_
  rintro e w2 ⟨rfl, hb2, hd2⟩
  have HF := Lib.hid hd2
  clear hd2 HTrim
  have hb3 := (hb.setCell (p := ⟨g, 800, none⟩) hB (.int .i64 W)).trans hb2
  go_wp2_with fail
  go_end0
  refine ⟨rfl, hb3, d', r0, T, W, HRs.out, ?_⟩
  rw [← HDp.out, ← HP.out]
  exact HF.out
end Go.Proofs.YtjpiplplohapnaaGreatDoor
namespace Go.Proofs.YtjpiplplohapnaaGreatDoor.Dc
theorem N_div {e : Nat → Nat} (he : ∀ i, e i ≤ 9) (r : Nat) : ∀ j, N e (r + j) / 10 ^ j = N e r
  | 0 => by simp
  | j + 1 => by
    rw [← Nat.add_assoc, N_succ, Nat.pow_succ, Nat.mul_comm (10 ^ j) 10, ← Nat.div_div_eq_div_mul]
    have := he (r + j)
    rw [show (10 * N e (r + j) + e (r + j)) / 10 = N e (r + j) by omega]
    exact N_div he r j
def cheatOk (k : Nat) (x : Nat × List UInt8) : Bool :=
  k = 0 || (decide (x.1 + x.2.length = k + 1) && decide (1 ≤ x.2.length) && decide (x.2.foldl (fun a c => 10 * a + (c.toNat - 48)) 0 = 5 ^ k) && x.2.all (fun c => decide (48 ≤ c.toNat) && decide (c.toNat ≤ 57)) && decide (x.2.getLast? ≠ some 48)
    && decide (10 ^ (x.2.length - 1) ≤ 5 ^ k) && decide (5 ^ k < 10 ^ x.2.length) && decide (1 ≤ x.1) && decide (x.1 ≤ 19) && decide (x.2.length ≤ 60))
set_option maxRecDepth 100000 in
theorem cheats_ok : ∀ k : Fin 61, ∃ x, Pinned.cheatRows[k.val]? = some x ∧ cheatOk k.val x = true := by decide +kernel
structure Cheat (k : Nat) (x : Nat × List UInt8) : Prop where
  sum : x.1 + x.2.length = k + 1
  one : 1 ≤ x.2.length
  val : x.2.foldl (fun a c => 10 * a + (c.toNat - 48)) 0 = 5 ^ k
  dgs : ∀ c ∈ x.2, 48 ≤ c.toNat ∧ c.toNat ≤ 57
  last : x.2.getLast? ≠ some 48
  lo : 10 ^ (x.2.length - 1) ≤ 5 ^ k
  hi : 5 ^ k < 10 ^ x.2.length
  d1 : 1 ≤ x.1
  d2 : x.1 ≤ 19
  len : x.2.length ≤ 60
theorem cheat_row (k : Nat) (h1 : 1 ≤ k) (h2 : k ≤ 60) : ∃ x, Pinned.cheatRows[k]? = some x ∧ Cheat k x := by
  obtain ⟨x, hx, hc⟩ := cheats_ok ⟨k, by omega⟩
  refine ⟨x, hx, ?_⟩
  unfold cheatOk at hc
  rw [show decide ((⟨k, by omega⟩ : Fin 61).val = 0) = false from decide_eq_false (by show ¬ k = 0; omega), Bool.false_or] at hc
  simp only [Bool.and_eq_true, decide_eq_true_eq, List.all_eq_true] at hc
  obtain ⟨⟨⟨⟨⟨⟨⟨⟨⟨a1, a2⟩, a3⟩, a4⟩, a5⟩, a6⟩, a7⟩, a8⟩, a9⟩, a10⟩ := hc
  exact ⟨a1, a2, a3, a4, a5, a6, a7, a8, a9, a10⟩
theorem width_more {X k L nd dl : Nat} (hnd : 1 ≤ nd) (hX1 : 10 ^ (nd - 1) ≤ X) (hX2 : X < 10 ^ nd) (hs : dl + L = k + 1) (hL : 1 ≤ L) (lo : 10 ^ (L - 1) ≤ 5 ^ k) (h : 5 ^ k * 10 ^ nd ≤ X * 10 ^ L) : 10 ^ (nd + dl - 1) ≤ X * 2 ^ k ∧ X * 2 ^ k < 10 ^ (nd + dl) := by
  have e10 : (10 : Nat) ^ k = 2 ^ k * 5 ^ k := by rw [← Nat.mul_pow]
  constructor
  · have h2 := Nat.mul_le_mul_right (2 ^ k) h
    have e1 : 5 ^ k * 10 ^ nd * 2 ^ k = 10 ^ (nd + dl - 1) * 10 ^ L := by
      rw [← Nat.pow_add, show nd + dl - 1 + L = nd + k by omega, Nat.pow_add, e10]
      generalize (10 : Nat) ^ nd = a
      generalize (5 : Nat) ^ k = b
      generalize (2 : Nat) ^ k = c
      grind
    have e2 : X * 10 ^ L * 2 ^ k = X * 2 ^ k * 10 ^ L := Nat.mul_right_comm _ _ _
    rw [e1, e2] at h2
    exact Nat.le_of_mul_le_mul_right h2 (Nat.pow_pos (by decide))
  have h2 : 2 ^ k ≤ 10 ^ dl := by
    have h3 := Nat.mul_le_mul_left (2 ^ k) lo
    rw [← e10] at h3
    have e3 : (10 : Nat) ^ k = 10 ^ dl * 10 ^ (L - 1) := by rw [← Nat.pow_add]; congr 1; omega
    rw [e3] at h3
    exact Nat.le_of_mul_le_mul_right h3 (Nat.pow_pos (by decide))
  rw [Nat.pow_add]
  exact Nat.lt_of_lt_of_le (Nat.mul_lt_mul_of_pos_right hX2 (Nat.pow_pos (by decide))) (Nat.mul_le_mul_left _ h2)
theorem width_less {X k L nd dl : Nat} (hnd : 1 ≤ nd) (hX1 : 10 ^ (nd - 1) ≤ X) (hs : dl + L = k + 1) (hd : 1 ≤ dl) (hi : 5 ^ k < 10 ^ L) (h : X * 10 ^ L < 5 ^ k * 10 ^ nd) : 10 ^ (nd + (dl - 1) - 1) ≤ X * 2 ^ k ∧ X * 2 ^ k < 10 ^ (nd + (dl - 1)) := by
  have e10 : (10 : Nat) ^ k = 2 ^ k * 5 ^ k := by rw [← Nat.mul_pow]
  constructor
  · have h2 : 10 ^ (dl - 1) ≤ 2 ^ k := by
      have h3 := Nat.mul_le_mul_left (2 ^ k) (Nat.le_of_lt hi)
      rw [← e10] at h3
      have e3 : (10 : Nat) ^ k = 10 ^ (dl - 1) * 10 ^ L := by rw [← Nat.pow_add]; congr 1; omega
      rw [e3] at h3
      exact Nat.le_of_mul_le_mul_right h3 (Nat.pow_pos (by decide))
    rw [show nd + (dl - 1) - 1 = nd - 1 + (dl - 1) by omega, Nat.pow_add]
    exact Nat.mul_le_mul hX1 h2
  have h2 := Nat.mul_lt_mul_of_pos_right h (Nat.pow_pos (a := 2) (n := k) (by decide))
  have e1 : 5 ^ k * 10 ^ nd * 2 ^ k = 10 ^ (nd + (dl - 1)) * 10 ^ L := by
    rw [← Nat.pow_add, show nd + (dl - 1) + L = nd + k by omega, Nat.pow_add, e10]
    generalize (10 : Nat) ^ nd = a
    generalize (5 : Nat) ^ k = b
    generalize (2 : Nat) ^ k = c
    grind
  have e2 : X * 10 ^ L * 2 ^ k = X * 2 ^ k * 10 ^ L := Nat.mul_right_comm _ _ _
  rw [e1, e2] at h2
  exact Nat.lt_of_mul_lt_mul_right h2
theorem lead_cmp {e : Nat → Nat} (he : ∀ i, e i ≤ 9) {nd L C : Nat} (hz : ∀ i, nd ≤ i → e i = 0) : (C ≤ N e L → C * 10 ^ nd ≤ N e nd * 10 ^ L) ∧ (N e L < C → N e nd * 10 ^ L < C * 10 ^ nd) := by
  have ext : ∀ j, N e (nd + j) = N e nd * 10 ^ j := by
    intro j
    induction j with
    | zero => simp
    | succ j ih => rw [← Nat.add_assoc, N_succ, hz (nd + j) (by omega), ih, Nat.pow_succ]; rw [Nat.add_zero, Nat.mul_comm 10, Nat.mul_assoc]
  have key : N e L = N e nd * 10 ^ L / 10 ^ nd := by
    have h1 := N_div he L nd
    rw [Nat.add_comm L nd, ext L] at h1
    exact h1.symm
  have hp : 0 < 10 ^ nd := Nat.pow_pos (by decide)
  constructor
  · intro h
    rw [key] at h
    exact (Nat.le_div_iff_mul_le hp).1 h
  intro h
  rw [key] at h
  exact (Nat.div_lt_iff_lt_mul hp).1 h
def cr (X P j : Nat) : Nat := X % 10 ^ j * P / 10 ^ j
theorem cr_zero (X P : Nat) : cr X P 0 = 0 := by unfold cr; simp [Nat.mod_one]
theorem cr_lt (X P j : Nat) (hP : 0 < P) : cr X P j < P := by
  unfold cr
  have hp : 0 < 10 ^ j := Nat.pow_pos (by decide)
  rw [Nat.div_lt_iff_lt_mul hp, Nat.mul_comm P]
  exact Nat.mul_lt_mul_of_pos_right (Nat.mod_lt _ hp) hP
theorem mod_succ (X j : Nat) : X % 10 ^ (j + 1) = X / 10 ^ j % 10 * 10 ^ j + X % 10 ^ j := by
  have := Nat.mod_pow_succ (x := X) (b := 10) (k := j)
  rw [this, Nat.mul_comm]; omega
theorem cr_sum (X P j : Nat) : cr X P j + X / 10 ^ j % 10 * P = X % 10 ^ (j + 1) * P / 10 ^ j := by
  have hp : 0 < 10 ^ j := Nat.pow_pos (by decide)
  unfold cr
  rw [mod_succ, Nat.add_mul, Nat.mul_right_comm, Nat.mul_comm _ (10 ^ j), Nat.mul_add_div hp]
  omega
theorem cr_next (X P j : Nat) : (cr X P j + X / 10 ^ j % 10 * P) / 10 = cr X P (j + 1) := by
  rw [cr_sum, Nat.div_div_eq_div_mul, ← Nat.pow_succ]
  rfl
theorem cr_digit (X P j : Nat) : (cr X P j + X / 10 ^ j % 10 * P) % 10 = X * P / 10 ^ j % 10 := by
  rw [cr_sum]
  have h1 : X % 10 ^ (j + 1) * P % 10 ^ (j + 1) = X * P % 10 ^ (j + 1) := Nat.mod_mul_mod _ _ _
  have key : ∀ a : Nat, a / 10 ^ j % 10 = a % 10 ^ (j + 1) / 10 ^ j := by
    intro a
    rw [Nat.pow_succ, Nat.mod_mul_right_div_self]
  rw [key, key, h1]
theorem cr_end {X P nd : Nat} (h : X < 10 ^ nd) (j : Nat) (hj : nd ≤ j) : cr X P j = X * P / 10 ^ j := by
  unfold cr
  rw [Nat.mod_eq_of_lt (Nat.lt_of_lt_of_le h (Nat.pow_le_pow_right (by decide) hj))]
def lostL (Y : Nat) (L : Nat) : Nat → Bool
  | 0 => false
  | j + 1 => lostL Y L j || (decide (800 ≤ L - (j + 1)) && decide (Y / 10 ^ j % 10 ≠ 0))
end Go.Proofs.YtjpiplplohapnaaGreatDoor.Dc
namespace Go.Proofs.YtjpiplplohapnaaGreatDoor
open Go.RowKit Go.Proofs.YtjpiplplohapnaaGreatDoorW.PrintWords
namespace Dc
def ld (l : List UInt8) (i : Nat) : Nat := (l.getD i 48).toNat - 48
theorem ld_N (l : List UInt8) : ∀ r, r ≤ l.length → N (ld l) r = (l.take r).foldl (fun a c => 10 * a + (c.toNat - 48)) 0
  | 0, _ => rfl
  | r + 1, h => by
    rw [N_succ, ld_N l r (by omega), List.take_add_one, List.foldl_append]
    have e : l[r]? = some (l.getD r 48) := by
      rw [List.getD_eq_getElem?_getD, List.getElem?_eq_getElem (by omega)]; rfl
    rw [e]
    rfl
theorem ld_all (l : List UInt8) : N (ld l) l.length = l.foldl (fun a c => 10 * a + (c.toNat - 48)) 0 := by
  rw [ld_N l _ (Nat.le_refl _), List.take_length]
theorem ld_le {l : List UInt8} (h : ∀ c ∈ l, 48 ≤ c.toNat ∧ c.toNat ≤ 57) (i : Nat) : ld l i ≤ 9 := by
  unfold ld
  rw [List.getD_eq_getElem?_getD]
  by_cases hi : i < l.length
  · rw [List.getElem?_eq_getElem hi]
    have := h l[i] (List.getElem_mem hi)
    show (l[i]).toNat - 48 ≤ 9
    omega
  rw [List.getElem?_eq_none (by omega)]
  show (48 : UInt8).toNat - 48 ≤ 9
  decide
theorem cmp_lt_digit {e f : Nat → Nat} (he : ∀ i, e i ≤ 9) (hf : ∀ i, f i ≤ 9) {i L : Nat} (h : N e i = N f i) (hi : i < L) (hlt : e i < f i) : N e L < N f L := by
  obtain ⟨j, rfl⟩ : ∃ j, L = i + 1 + j := ⟨L - i - 1, by omega⟩
  have h1 := N_div he (i + 1) j
  have h2 := N_div hf (i + 1) j
  rw [N_succ] at h1 h2
  rcases Nat.lt_or_ge (N e (i + 1 + j)) (N f (i + 1 + j)) with g | g
  · exact g
  have := Nat.div_le_div_right (c := 10 ^ j) g
  omega
theorem cmp_short {e f : Nat → Nat} (he : ∀ i, e i ≤ 9) (hf : ∀ i, f i ≤ 9) {i L : Nat} (h : N e i = N f i) (hi : i < L) (hz : ∀ j, i ≤ j → e j = 0) (hl : f (L - 1) ≠ 0) : N e L < N f L := by
  obtain ⟨j, rfl⟩ : ∃ j, L = i + j + 1 := ⟨L - i - 1, by omega⟩
  have h1 := N_div hf i (j + 1)
  have ext : ∀ j, N e (i + j) = N e i * 10 ^ j := by
    intro j
    induction j with
    | zero => simp
    | succ j ih => rw [← Nat.add_assoc, N_succ, hz (i + j) (by omega), ih, Nat.pow_succ]; rw [Nat.add_zero, Nat.mul_comm 10, Nat.mul_assoc]
  have h2 := ext (j + 1)
  rw [← Nat.add_assoc] at h1 h2
  rw [h2, h, ← h1]
  have h3 := Nat.div_mul_le_self (N f (i + j + 1)) (10 ^ (j + 1))
  have h4 : N f (i + j + 1) / 10 ^ (j + 1) * 10 ^ (j + 1) % 10 = 0 := by rw [Nat.pow_succ, ← Nat.mul_assoc, Nat.mul_mod_left]
  have h5 : N f (i + j + 1) % 10 = f (i + j) := by rw [N_succ]; have := hf (i + j); omega
  rw [Nat.add_sub_cancel] at hl
  omega
end Dc
open Dc
set_option maxRecDepth 100000 in
set_option maxHeartbeats 2000000 in
theorem prefix_walk (w : World) (g : Nat) (d : Nat → Nat) (nd : Nat) (dp : Int) (ng tr : Bool) (hnd : nd ≤ 800) (hd : ∀ i, i < nd → 48 ≤ d i ∧ d i ≤ 57) (h : IsDec w g d nd dp ng tr) (s : ByteArray) (hs : s.size ≤ 60) (hs0 : 1 ≤ s.size)
    (hsd : ∀ c ∈ s.data.toList, 48 ≤ c.toNat ∧ c.toNat ≤ 57) (hl : ld s.data.toList (s.size - 1) ≠ 0) :
    Calls Tryz.prog 188 #[.slice (some ⟨g, 0, none⟩) nd 800, .string s] w fun e w' => e = .returned (.bool (decide (N (dig d nd) s.size < N (ld s.data.toList) s.size))) ∧ ∃ n, w' = w.drewN n := by
  have he9 := dig_le hd
  have hf9 := ld_le hsd
  have HD := Lib.hid h
  have HdD := Lib.hid hd
  have HSD := Lib.hid hsd
  have HL := Lib.hid hl
  have hlen : s.data.toList.length = s.size := Array.length_toList
  obtain ⟨ans, hans⟩ : ∃ b, b = decide (N (dig d nd) s.size < N (ld s.data.toList) s.size) := ⟨_, rfl⟩
  have HA := Lib.hid hans
  rw [← hans]
  clear hans h hd hsd hl
  go_enter Tryz.func188, Tryz.ntmps188
  go_wp2_with fail
  go_loopg [5] s.size (fun gn v5 w' => ∃ i m : Nat, gn + i = s.size ∧ v5 = .int .i64 i ∧ Hid (N (dig d nd) i = N (ld s.data.toList) i) ∧ IsDec w' g d nd dp ng tr ∧ Hid (w' = w.drewN m))
  case atStart => exact ⟨0, 0, by omega, rfl, Lib.hid rfl, HD.out, Lib.hid rfl⟩
  case round =>
    obtain ⟨i, m, hg, rfl, hN, hD', hw⟩ := hrel
    by_cases hi : i < s.size
    · have g1 : (i : Int) < s.size := by omega
      by_cases hin : i < nd
      · have g2 : ¬ (nd : Int) ≤ i := by omega
        have g3 : decide ((nd : Int) ≤ (i : Int)) = false := decide_eq_false g2
        have g4 : (i : Int) < nd := by omega
        have cb : wr.cell? ⟨g, i, none⟩ = some (.int .u8 (d i : Nat)) := hD'.byte i (by omega)
        have hde : dig d nd i = d i - 48 := by unfold dig; rw [if_pos hin]
        have hdb := HdD.out i hin
        have hle : ld s.data.toList i = s[i].toNat - 48 := by
          unfold ld
          rw [List.getD_eq_getElem?_getD, List.getElem?_eq_getElem (by rw [hlen]; exact hi)]; rfl
        have hsb : 48 ≤ s[i].toNat ∧ s[i].toNat ≤ 57 := HSD.out s[i] (by
          have : s[i] = s.data.toList[i]'(by rw [hlen]; exact hi) := rfl
          rw [this]; exact List.getElem_mem _)
        obtain ⟨c, hc⟩ : ∃ c, c = d i := ⟨_, rfl⟩
        obtain ⟨b, hb⟩ : ∃ b, b = s[i].toNat := ⟨_, rfl⟩
        have hbI : ((s[i].toNat : Nat) : Int) = (b : Int) := by rw [hb]
        rw [← hc] at cb hde hdb
        rw [← hb] at hle hsb
        by_cases hcb : c = b
        · have f1 : ((c : Int) != (b : Int)) = false := by simp [hcb]
          have HR : Hid (gk ≠ 0 ∧ gk - 1 + (i + 1) = s.size ∧ N (dig d nd) (i + 1) = N (ld s.data.toList) (i + 1)) := Lib.hid ⟨by omega, by omega, by rw [N_succ, N_succ, hN.out, hde, hle, hcb]⟩
          clear hg hde hle hdb hsb hcb hc hb hin
          go_wp2_with fail
          go_quiet (fail)
          go_wp2_with fail
          go_roundg (gk - 1)
          case measure => have := HR.out; omega
          case rel => exact ⟨i + 1, _, HR.out.2.1, by go_num, Lib.hid HR.out.2.2, hD'.drewN _, Lib.hid (by rw [hw.out]; exact World.drewN_drewN _ _ _)⟩
        have f1 : ((c : Int) != (b : Int)) = true := by simp; omega
        by_cases hlt : c < b
        · have f2 : (c : Int) < b := by omega
          have f3 : decide ((c : Int) < (b : Int)) = true := decide_eq_true f2
          have f4 : decide (c < b) = true := decide_eq_true hlt
          have HAns : Hid (ans = true) := Lib.hid (HA.out.trans (decide_eq_true (cmp_lt_digit he9 hf9 hN.out hi (by omega))))
          clear hg hde hle hdb hsb hcb hc hb hin hlt
          go_wp2_with fail
          go_quiet (fail)
          go_wp2_with fail
          go_quiet (fail)
          go_wp2_with fail
          go_ret
          exact ⟨by rw [HAns.out]; rfl, _, by rw [hw.out]; first | exact World.drewN_drewN _ _ _ | exact (World.drewN_drewN _ _ _).trans (congrArg _ rfl) | (rw [World.drewN_drewN, World.drewN_drewN])⟩
        have f2 : ¬ (c : Int) < b := by omega
        have f3 : decide ((c : Int) < (b : Int)) = false := decide_eq_false f2
        have f4 : decide (c < b) = false := decide_eq_false hlt
        have HAns : Hid (ans = false) := Lib.hid (HA.out.trans (decide_eq_false (by
          have := cmp_lt_digit hf9 he9 hN.out.symm hi (by omega)
          omega)))
        clear hg hde hle hdb hsb hcb hc hb hin hlt
        go_wp2_with fail
        go_quiet (fail)
        go_wp2_with fail
        go_quiet (fail)
        go_wp2_with fail
        go_ret
        exact ⟨by rw [HAns.out]; rfl, _, by rw [hw.out]; first | exact World.drewN_drewN _ _ _ | exact (World.drewN_drewN _ _ _).trans (congrArg _ rfl) | (rw [World.drewN_drewN, World.drewN_drewN])⟩
      have g2 : (nd : Int) ≤ i := by omega
      have g3 : decide ((nd : Int) ≤ (i : Int)) = true := decide_eq_true g2
      have HAns : Hid (ans = true) := Lib.hid (HA.out.trans (decide_eq_true (cmp_short he9 hf9 hN.out hi (fun j hj => by unfold dig; rw [if_neg (by omega)]) HL.out)))
      clear hg hin
      go_wp2_with fail
      go_ret
      exact ⟨by rw [HAns.out]; rfl, _, hw.out⟩
    have g1 : ¬ (i : Int) < s.size := by omega
    have HAns : Hid (ans = false) := Lib.hid (HA.out.trans (decide_eq_false (by
      have e : i = s.size := by omega
      have := hN.out
      rw [e] at this
      omega)))
    clear hg hi
    go_wp2_with fail
    go_ret
    exact ⟨by rw [HAns.out]; rfl, _, hw.out⟩
end Go.Proofs.YtjpiplplohapnaaGreatDoor
