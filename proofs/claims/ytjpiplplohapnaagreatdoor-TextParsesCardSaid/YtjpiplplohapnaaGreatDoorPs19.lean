/- Part 19 of the proof: PHy, Ad, Sw, Sc, Sl, Sm. -/
import Derived.Test.YtjpiplplohapnaaGreatDoorPs18
set_option linter.unusedVariables false
set_option linter.unusedSimpArgs false
namespace Go.Proofs.YtjpiplplohapnaaGreatDoor
open Go.RowKit Go.Proofs.YtjpiplplohapnaaGreatDoorW.PrintWords Rf Ah
def ZeroR (ng : Bool) (s : ByteArray) (q : Out) (x : Nat) (n : Int) (er : Option Int) : Prop := x = (if ng then 9223372036854775808 else 0) ∧ n = ((s.size - q.rest.length : Nat) : Int) ∧ er = none
theorem bool2_u64t (w : World) : Calls Tryz.prog 150 #[.bool true] w fun e w' => e = .returned (.int .u64 1) ∧ Below w.heap.size w w' :=
  (PText.z1w.calls true 1 w (by decide +kernel)).mono fun _ _ ⟨h1, h2⟩ => ⟨h1, h2.below⟩
set_option maxRecDepth 100000 in
set_option maxHeartbeats 2000000 in
theorem atof64_zero (ng : Bool) (s : ByteArray) (q : Out) (hm : q.m = 0) (hu : q.us = false) (hsp : ∀ w, Calls Tryz.prog 141 #[.string s] w (z5j w)) (hrf : ∀ w, Calls Tryz.prog 142 #[.string s] w (z7g ng false s (some q) w))
    (w : World) (hL : Laid w) : Calls Tryz.prog 112 #[.string s] w (AtPost (ZeroR ng s q) w) := by
  have HRF := Lib.hid hrf
  clear hrf
  have ho := hL.optCell
  obtain ⟨qm, qe, qt, qu, qr⟩ := q
  dsimp only at hm hu
  subst hm
  subst hu
  clear hL
  go_enter Tryz.func112, Tryz.ntmps112
  go_wp2_with fail
  refine (hsp _).mono ?_
  rintro e w' ⟨rfl, hww⟩
  obtain rfl := hww.symm
  clear hww hsp
  go_wp2_with fail
  refine (HRF.out _).mono ?_
  rintro e w' ⟨hww, ok, hok, rfl⟩
  obtain rfl := hww.symm
  obtain rfl := hok rfl
  clear hww HRF hok
  dsimp only
  obtain ⟨n, hn⟩ : ∃ n, n = s.size - qr.length := ⟨_, rfl⟩
  have HN := Lib.hid hn
  rw [← hn]
  clear hn
  have k1 : Go.bits .or .u64 0 0 = 0 := by decide +kernel
  have k2 : Go.bits .or .u64 9223372036854775808 0 = 9223372036854775808 := by decide +kernel
  have hf1 : ∀ W, (callFunc 151 #[.int .u64 0]).run Tryz.prog W = .ok (.value (.float .f64 0)) W := fun W => from151 0 W
  have hf2 : ∀ W, (callFunc 151 #[.int .u64 9223372036854775808]).run Tryz.prog W = .ok (.value (.float .f64 9223372036854775808)) W := fun W => from151 9223372036854775808 W
  cases ng
  · go_wp2_with fail
    refine (z8i _).mono ?_
    rintro e w1 ⟨rfl, hb1⟩
    go_wp2_with fail
    go_ret3
    exact ⟨0, n, none, ⟨rfl, by rw [HN.out], rfl⟩, Or.inl rfl, rfl, hb1⟩
  go_wp2_with fail
  refine (bool2_u64t _).mono ?_
  rintro e w1 ⟨rfl, hb1⟩
  go_wp2_with fail
  go_ret3
  exact ⟨9223372036854775808, n, none, ⟨rfl, by rw [HN.out], rfl⟩, Or.inl rfl, rfl, hb1⟩
theorem list0 {s : ByteArray} {a : UInt8} {l : List UInt8} (h : s.data.toList = a :: l) (h0 : 0 < s.size) : s[0] = a := by
  have : s.data.toList[0]? = some a := by rw [h]; rfl
  have h2 : s.data.toList[0]? = some s[0] := by
    rw [Array.getElem?_toList]; exact Array.getElem?_eq_getElem h0
  exact Option.some.inj (h2.symm.trans this)
theorem list1 {s : ByteArray} {a b : UInt8} {l : List UInt8} (h : s.data.toList = a :: b :: l) (h0 : 1 < s.size) : s[1] = b := by
  have : s.data.toList[1]? = some b := by rw [h]; rfl
  have h2 : s.data.toList[1]? = some s[1] := by
    rw [Array.getElem?_toList]; exact Array.getElem?_eq_getElem h0
  exact Option.some.inj (h2.symm.trans this)
end Go.Proofs.YtjpiplplohapnaaGreatDoor
namespace Go.Proofs.YtjpiplplohapnaaGreatDoor
open Go.RowKit Go.Proofs.YtjpiplplohapnaaGreatDoorW.PrintWords Rf Nr Us
def DecR (ng : Bool) (s : ByteArray) (q : Out) (x : Nat) (n : Int) (er : Option Int) : Prop :=
  n = ((s.size - q.rest.length : Nat) : Int) ∧ ∃ r, Near (dN q.m q.e) (dD q.e) r ∧ ((r < 9218868437227405312 ∧ x = Ieee.double.word ng r ∧ er = none) ∨ (9218868437227405312 ≤ r ∧ x = Ieee.double.word ng 9218868437227405312 ∧ er = some 1))
theorem bool2_sg (ng : Bool) (w : World) : Calls Tryz.prog 150 #[.bool ng] w fun e w' => e = .returned (.int .u64 ((if ng then 1 else 0 : Nat) : Int)) ∧ Below w.heap.size w w' :=
  (z7c ng w).mono fun _ _ ⟨h1, n, h2⟩ => ⟨h1, h2 ▸ below_drewN (Below.refl _ _) n⟩
set_option maxRecDepth 100000 in
set_option maxHeartbeats 2000000 in
theorem atof64_dec (ng : Bool) (s : ByteArray) (q : Out) (hm : q.m ≠ 0) (hm2 : q.m < 18446744073709551616) (he1 : -300000 ≤ q.e) (he2 : q.e ≤ 300000) (hu : q.us = false) (ht : q.tr = false)
    (hsp : ∀ w, Calls Tryz.prog 141 #[.string s] w (z5j w)) (hrf : ∀ w, Calls Tryz.prog 142 #[.string s] w (z7g ng false s (some q) w))
    (w : World) (hL : Laid w) : Calls Tryz.prog 112 #[.string s] w (AtPost (DecR ng s q) w) := by
  have HRF := Lib.hid hrf
  clear hrf
  have ho := hL.optCell
  obtain ⟨qm, qe, qt, qu, qr⟩ := q
  dsimp only at hm hm2 he1 he2 hu ht
  subst hu
  subst ht
  obtain ⟨n, hn⟩ : ∃ n, n = s.size - qr.length := ⟨_, rfl⟩
  have HM2 := Lib.hid hm2
  have HM := Lib.hid hm
  have hqm : ((qm : Int) == 0) = false := by simp; omega
  clear hm hm2
  have hL3 : Hid (∀ w3, Below w.heap.size w w3 → Laid w3) := Lib.hid fun w3 h => hL.below h
  clear hL
  have hsh : IntKind.u64.wrap (((if ng then 1 else 0 : Nat) : Int) * 9223372036854775808) = (sgB ng : Int) := by cases ng <;> decide +kernel
  have HB := Lib.hid (bool2_sg ng)
  have HSG := Lib.hid (show ∀ v : Nat, v < 9223372036854775808 → Go.bits .or .u64 (sgB ng : Int) (v : Int) = ((Ieee.double.word ng v : Nat) : Int) from fun v hv => by rw [z4i]; exact or_sgB ng v hv)
  generalize ((if ng then 1 else 0 : Nat) : Int) = sg1 at *
  go_enter Tryz.func112, Tryz.ntmps112
  go_wp2_with fail
  refine (hsp _).mono ?_
  rintro e w' ⟨rfl, hww⟩
  obtain rfl := hww.symm
  clear hww hsp
  go_wp2_with fail
  refine (HRF.out _).mono ?_
  rintro e w' ⟨hww, ok, hok, rfl⟩
  obtain rfl := hww.symm
  obtain rfl := hok rfl
  clear hww HRF hok
  dsimp only
  have HN := Lib.hid hn
  rw [← hn]
  clear hn
  go_wp2_with fail
  refine (HB.out _).mono ?_
  rintro e w1 ⟨rfl, hb1⟩
  clear HB
  by_cases c1 : 310 < qe
  · obtain ⟨r, hr1, hr2⟩ := too_great HM.out c1
    have ho1 := HSG.out 9218868437227405312 (by decide)
    have hf := z4p (Ieee.double.word ng 9218868437227405312)
    have HR := Lib.hid hr1
    have HR2 := Lib.hid hr2
    clear hr1 hr2
    obtain ⟨Z, hZ⟩ : ∃ Z, Z = Ieee.double.word ng 9218868437227405312 := ⟨_, rfl⟩
    have HX := Lib.hid hZ
    rw [← hZ] at ho1 hf
    have ho2 : Go.bits .or .u64 (sgB ng : Int) 9218868437227405312 = (Z : Int) := ho1
    clear hZ HSG ho1
    go_wp2_with fail
    go_ret3
    exact ⟨Z, n, some 1, ⟨by rw [HN.out], r, HR.out, Or.inr ⟨HR2.out, HX.out, rfl⟩⟩, Or.inr (Or.inl rfl), rfl, hb1⟩
  by_cases c2 : qe < -345
  · have hr1 := too_small (d := qm) HM2.out c2
    have ho1 := HSG.out 0 (by decide)
    have hf := z4p (Ieee.double.word ng 0)
    have HR := Lib.hid hr1
    clear hr1
    obtain ⟨Z, hZ⟩ : ∃ Z, Z = Ieee.double.word ng 0 := ⟨_, rfl⟩
    have HX := Lib.hid hZ
    rw [← hZ] at ho1 hf
    have ho2 : Go.bits .or .u64 (sgB ng : Int) 0 = (Z : Int) := ho1
    clear hZ HSG
    go_wp2_with fail
    go_ret3
    exact ⟨Z, n, none, ⟨by rw [HN.out], 0, HR.out, Or.inl ⟨by decide, HX.out, rfl⟩⟩, Or.inl rfl, rfl, hb1⟩
  have HE := Lib.hid (z9n w1 (hL3.out _ hb1) qm HM.out qe ng)
  clear HSG
  go_wp2_with fail
  refine HE.out.mono ?_
  rintro e w2 ⟨hb2, x, ok, rfl, hx⟩
  have hb02 := hb1.trans (hb2.mono hb1.size)
  clear HE
  cases ok
  · clear hx
    obtain ⟨i, hi⟩ : ∃ i : Nat, qe + 348 = i := ⟨(qe + 348).toNat, by omega⟩
    obtain ⟨r, hr⟩ : ∃ r, Pinned.pow10Rows[i]? = some r := ⟨_, List.getElem?_eq_getElem (by rw [z8s]; omega)⟩
    have HP := Lib.hid (z7a w2 (hL3.out _ hb02) qm HM.out HM2.out qe i r hr hi ng)
    clear hr hi hL3
    go_wp2_with fail
    refine HP.out.mono ?_
    rintro e w3 ⟨r, hr, hb3, hres⟩
    have hb03 := hb02.trans (hb3.mono hb02.size)
    have HR := Lib.hid hr
    clear hr HP
    rcases hres with ⟨hr1, rfl⟩ | ⟨hr1, rfl⟩
    · have HR1 := Lib.hid hr1
      clear hr1
      obtain ⟨Z, hZ⟩ : ∃ Z, Z = Ieee.double.word ng r := ⟨_, rfl⟩
      have HX := Lib.hid hZ
      rw [← hZ]
      clear hZ
      go_wp2_with fail
      go_ret3
      exact ⟨Z, n, none, ⟨by rw [HN.out], r, HR.out, Or.inl ⟨HR1.out, HX.out, rfl⟩⟩, Or.inl rfl, rfl, hb03⟩
    have HR1 := Lib.hid hr1
    clear hr1
    obtain ⟨Z, hZ⟩ : ∃ Z, Z = Ieee.double.word ng 9218868437227405312 := ⟨_, rfl⟩
    have HX := Lib.hid hZ
    rw [← hZ]
    clear hZ
    go_wp2_with fail
    go_ret3
    exact ⟨Z, n, some 1, ⟨by rw [HN.out], r, HR.out, Or.inr ⟨HR1.out, HX.out, rfl⟩⟩, Or.inr (Or.inl rfl), rfl, hb03⟩
  obtain ⟨r, hr1, hr2, hr3⟩ := hx rfl
  have HR := Lib.hid hr1
  have HR1 := Lib.hid hr2
  have HX := Lib.hid hr3
  clear hr1 hr2 hr3 hx hL3
  go_wp2_with fail
  go_ret3
  exact ⟨x, n, none, ⟨by rw [HN.out], r, HR.out, Or.inl ⟨HR1.out, HX.out, rfl⟩⟩, Or.inl rfl, rfl, hb02⟩
end Go.Proofs.YtjpiplplohapnaaGreatDoor
namespace Go.Proofs.YtjpiplplohapnaaGreatDoor.Dc
def cap : Nat := 800
theorem z6h : cap = 800 := rfl
structure Weak (s : St) : Prop where
  pos : 0 < s.nd
  le : s.nd ≤ 800
  dgs : ∀ i, i < s.nd → 48 ≤ s.d i ∧ s.d i ≤ 57
  first : s.d 0 ≠ 48
theorem Norm.weak {s : St} (h : Norm s) : Weak s := ⟨h.pos, h.le, h.dgs, h.first⟩
theorem Weak.dig9 {s : St} (h : Weak s) (i : Nat) : dig s.d s.nd i ≤ 9 := dig_le h.dgs i
theorem Weak.dig0 {s : St} (h : Weak s) : 1 ≤ dig s.d s.nd 0 := by
  unfold dig; rw [if_pos h.pos]; have := h.dgs 0 h.pos; have := h.first; omega
theorem N_far {s : St} {r : Nat} (h : s.nd ≤ r) : N (dig s.d s.nd) r = s.X * 10 ^ (r - s.nd) := by
  have := N_pow s.d s.nd (r - s.nd)
  rw [show s.nd + (r - s.nd) = r by omega] at this
  exact this
theorem X_low {s : St} (hs : Weak s) : 10 ^ (s.nd - 1) ≤ s.X := by
  obtain ⟨j, hj⟩ : ∃ j, s.nd = j + 1 := ⟨s.nd - 1, by have := hs.pos; omega⟩
  have h := N_big hs.dig0 j
  rw [← hj] at h
  rw [show s.nd - 1 = j by omega]
  exact h
theorem X_high {s : St} (hs : Weak s) : s.X < 10 ^ s.nd := N_lt hs.dig9 s.nd
theorem N_ge (e : Nat → Nat) (r : Nat) : ∀ j, N e r * 10 ^ j ≤ N e (r + j)
  | 0 => by simp
  | j + 1 => by
    have h := N_ge e r j
    rw [← Nat.add_assoc, z1u, Nat.pow_succ, ← Nat.mul_assoc]
    omega
theorem quo_next {e : Nat → Nat} (he : ∀ i, e i ≤ 9) (P r : Nat) : N e (r + 1) / P = 10 * (N e r / P) + N e (r + 1) / P % 10 := by
  have h : N e (r + 1) / P / 10 = N e r / P := by
    rw [z1u, Nat.div_div_eq_div_mul, Nat.mul_comm P 10, ← Nat.div_div_eq_div_mul]
    have := he r
    rw [show (10 * N e r + e r) / 10 = N e r by omega]
  omega
theorem lost_iff {s : St} (hs : Weak s) {P r0 T : Nat} (hP : 0 < P) (h1 : 1 ≤ r0) (hT : r0 + 800 ≤ T) (hf : N (dig s.d s.nd) T % (10 * P) = 0) :
    lost (dig s.d s.nd) P r0 (T - r0) = decide (N (dig s.d s.nd) (r0 + 799) % P ≠ 0) := by
  have hle := hs.le
  have he := hs.dig9
  have hM : ∀ i, N (dig s.d s.nd) (r0 + 799 + i) = N (dig s.d s.nd) (r0 + 799) * 10 ^ i := by
    intro i
    rw [N_far (s := s) (by omega), N_far (s := s) (by omega), Nat.mul_assoc, ← Nat.pow_add]
    congr 2; omega
  obtain ⟨M, hMd⟩ : ∃ M, M = N (dig s.d s.nd) (r0 + 799) := ⟨_, rfl⟩
  rw [← hMd] at hM ⊢
  by_cases hz : M % P = 0
  · rw [decide_eq_false (fun h => h hz)]
    have hq : ∀ j, 800 ≤ j → qd (dig s.d s.nd) P r0 j = 0 := by
      intro j hj
      unfold qd
      obtain ⟨i, rfl⟩ : ∃ i, j = 799 + (i + 1) := ⟨j - 800, by omega⟩
      rw [← Nat.add_assoc, hM, Nat.pow_succ, ← Nat.mul_assoc]
      have hMP : M = P * (M / P) := by have := Nat.div_add_mod M P; omega
      have e : M * 10 ^ i * 10 = P * (M / P * 10 ^ i * 10) := by
        conv => lhs; rw [hMP]
        rw [Nat.mul_assoc, Nat.mul_assoc, Nat.mul_assoc]
      rw [e, Nat.mul_div_cancel_left _ hP, Nat.mul_mod_left]
    generalize T - r0 = n
    induction n with
    | zero => rfl
    | succ j ih =>
      rw [lost, ih, Bool.false_or]
      by_cases h8 : 800 ≤ j
      · rw [hq j h8]; simp
      rw [decide_eq_false h8, Bool.false_and]
  rw [decide_eq_true hz]
  cases hl : lost (dig s.d s.nd) P r0 (T - r0)
  · exfalso
    have hq : ∀ n, lost (dig s.d s.nd) P r0 n = false → ∀ j, j < n → 800 ≤ j → qd (dig s.d s.nd) P r0 j = 0 := by
      intro n
      induction n with
      | zero => intro _ j hj; omega
      | succ n ih =>
        intro h j hj h8
        rw [lost, Bool.or_eq_false_iff] at h
        by_cases hjn : j < n
        · exact ih h.1 j hjn h8
        have : j = n := by omega
        subst this
        have h2 := h.2
        rw [decide_eq_true h8, Bool.true_and] at h2
        exact Decidable.not_not.1 (of_decide_eq_false h2)
    have hQ : ∀ i, r0 + 799 + i ≤ T - 1 → N (dig s.d s.nd) (r0 + 799 + i) / P = M / P * 10 ^ i := by
      intro i
      induction i with
      | zero => intro _; rw [Nat.add_zero, ← hMd, Nat.pow_zero, Nat.mul_one]
      | succ i ih =>
        intro h
        have h3 := quo_next he P (r0 + 799 + i)
        have h4 := hq _ hl (799 + i + 1) (by omega) (by omega)
        unfold qd at h4
        rw [show r0 + (799 + i + 1) = r0 + 799 + i + 1 by omega] at h4
        rw [ih (by omega), h4, Nat.add_zero] at h3
        rw [← Nat.add_assoc, h3, Nat.pow_succ, Nat.mul_comm 10, Nat.mul_assoc, Nat.add_zero]
    obtain ⟨i, hi⟩ : ∃ i, T - 1 = r0 + 799 + i := ⟨T - 1 - (r0 + 799), by omega⟩
    have h5 := hQ i (by omega)
    have h6 : N (dig s.d s.nd) (T - 1) % P = 0 := by
      have e : T = T - 1 + 1 := by omega
      rw [e, N_ext (by omega)] at hf
      have h7 : 10 * N (dig s.d s.nd) (T - 1) % (10 * P) = 10 * (N (dig s.d s.nd) (T - 1) % P) := Nat.mul_mod_mul_left _ _ _
      omega
    rw [hi, hM] at h6
    rw [hM] at h5
    have h7 := Nat.div_add_mod (M * 10 ^ i) P
    rw [h6, h5, Nat.add_zero, ← Nat.mul_assoc] at h7
    have h8 := Nat.eq_of_mul_eq_mul_right (Nat.pow_pos (by decide)) h7
    have h9 := Nat.div_add_mod M P
    omega
  rfl
structure RQ (s t : St) (k r0 : Nat) : Prop where
  r1 : 1 ≤ r0
  r20 : r0 ≤ 20
  dp : t.dp = s.dp - ((r0 : Int) - 1)
  val : t.X * 10 ^ (cap - t.nd) = s.X * 10 ^ (r0 + 799 - s.nd) / 2 ^ k
  tr : t.tr = (s.tr || decide (s.X * 10 ^ (r0 + 799 - s.nd) % 2 ^ k ≠ 0))
  big : 10 ^ (cap - 1) ≤ s.X * 10 ^ (r0 + 799 - s.nd) / 2 ^ k
  lead : Lead (dig s.d s.nd) (2 ^ k) r0
  head : t.d 0 = 48 + N (dig s.d s.nd) r0 / 2 ^ k % 10
theorem two60 {k : Nat} (hk : k ≤ 60) : 2 ^ k ≤ 1152921504606846976 := by
  have hp : 2 ^ k ≤ 2 ^ 60 := Nat.pow_le_pow_right (by decide) hk
  have h60 : (2 : Nat) ^ 60 = 1152921504606846976 := by decide
  omega
theorem z8a {s t : St} (hs : Weak s) {k : Nat} (hk : k ≤ 60) (h : RStep k s t) : (∃ r0, RQ s t k r0) ∧ Norm t := by
  obtain ⟨r0, T, W, hR, hnd, hdp, htr⟩ := h
  have hcap := z6h
  have hP : 0 < 2 ^ k := Nat.pow_pos (by decide)
  have h1 := hR.lead.one
  have h20 := hR.lead.le20 hs.dig0 (two60 hk)
  have hlt : N (dig s.d s.nd) r0 < 10 * 2 ^ k := by
    obtain ⟨j, hj⟩ : ∃ j, r0 = j + 1 := ⟨r0 - 1, by omega⟩
    have h1 := hR.lead.lo
    rw [hj, Nat.add_sub_cancel] at h1
    rw [hj, z1u]
    have := hs.dig9 j
    omega
  have hfar := hR.far
  have hrT : r0 < T := by
    rcases Nat.lt_or_ge r0 T with h1 | h1
    · exact h1
    exfalso
    have e : T = r0 := by omega
    have h2 := hR.fin
    rw [e, Nat.mod_eq_of_lt hlt] at h2
    have h3 := hR.lead.hi
    omega
  have hle := hs.le
  have hwid := hR.wid
  have htl : t.nd ≤ W := by rw [hnd]; exact tl_le _ _
  have hfarN := N_far (s := s) (r := r0 + 799) (by omega)
  have htail := N_tail t.d (W := W) htl (fun i h1 h2 => tl_zero t.d W i (by rw [← hnd]; exact h1) h2)
  obtain ⟨n, hn⟩ : ∃ n, W = n + 1 := ⟨W - 1, by omega⟩
  have hquo : N (fun i => t.d i - 48) W = N (dig s.d s.nd) (r0 + n) / 2 ^ k := by
    rw [hn]; exact N_quo hs.dig9 hP hlt h1 n (fun i hi => by rw [hR.dgs i (by omega)]; omega)
  have hX : t.X * 10 ^ (W - t.nd) = N (dig s.d s.nd) (r0 + n) / 2 ^ k := by rw [← hquo, htail]; rfl
  have hbig : 10 ^ (cap - 1) ≤ N (dig s.d s.nd) (r0 + 799) / 2 ^ k := by
    rw [Nat.le_div_iff_mul_le hP]
    have a := N_ge (dig s.d s.nd) r0 (cap - 1)
    rw [show r0 + (cap - 1) = r0 + 799 by omega] at a
    have b := Nat.mul_le_mul_right (10 ^ (cap - 1)) hR.lead.hi
    rw [Nat.mul_comm]
    exact Nat.le_trans b a
  have hhead : t.d 0 = 48 + N (dig s.d s.nd) r0 / 2 ^ k % 10 := hR.dgs 0 (by omega)
  have hd0 : t.d 0 ≠ 48 := by
    rw [hR.dgs 0 (by omega)]
    unfold qd
    rw [Nat.add_zero]
    have h1 : 1 ≤ N (dig s.d s.nd) r0 / 2 ^ k := Nat.div_pos hR.lead.hi hP
    have h2 : N (dig s.d s.nd) r0 / 2 ^ k < 10 := by
      rw [Nat.div_lt_iff_lt_mul hP]; exact hlt
    omega
  have hnorm := norm_of (dp := t.dp) (tr := t.tr) (show 0 < W by omega) (by omega) hd0 (fun i hi => ⟨_, hR.dgs i hi⟩)
  rw [← hnd] at hnorm
  refine ⟨⟨r0, ?_⟩, hnorm⟩
  rw [hfarN] at hbig
  by_cases hc : r0 + 800 ≤ T
  · have hW : W = cap := by omega
    refine ⟨h1, h20, hdp, ?_, ?_, hbig, hR.lead, hhead⟩
    · rw [← hfarN, ← hW, hX, show n = 799 by omega]
    rw [htr, lost_iff hs hP h1 hc hR.fin, hfarN]
  have hW : W = T - r0 := by omega
  have hNT := N_far (s := s) (r := T) hfar.1
  have hM : N (dig s.d s.nd) (r0 + 799) = N (dig s.d s.nd) T * 10 ^ (r0 + 799 - T) := by
    rw [hfarN, hNT, Nat.mul_assoc, ← Nat.pow_add]
    congr 2; omega
  have hdm := Nat.div_add_mod (N (dig s.d s.nd) T) (10 * 2 ^ k)
  rw [hR.fin, Nat.add_zero] at hdm
  obtain ⟨c, hc2⟩ : ∃ c, c = N (dig s.d s.nd) T / (10 * 2 ^ k) := ⟨_, rfl⟩
  rw [← hc2] at hdm
  have hNk : N (dig s.d s.nd) T = 2 ^ k * (10 * c) := by rw [← hdm, Nat.mul_comm 10, Nat.mul_assoc]
  have hq := quo_next hs.dig9 (2 ^ k) (T - 1)
  rw [show T - 1 + 1 = T by omega, hNk, Nat.mul_div_cancel_left _ hP] at hq
  have hq2 : N (dig s.d s.nd) (T - 1) / 2 ^ k = c := by omega
  rw [show r0 + n = T - 1 by omega, hq2] at hX
  have hM2 : s.X * 10 ^ (r0 + 799 - s.nd) = 2 ^ k * (10 * c * 10 ^ (r0 + 799 - T)) := by
    rw [← hfarN, hM, hNk, Nat.mul_assoc]
  refine ⟨h1, h20, hdp, ?_, ?_, hbig, hR.lead, hhead⟩
  · rw [hM2, Nat.mul_div_cancel_left _ hP, ← hX]
    have e : cap - t.nd = (W - t.nd) + (r0 + 799 - T) + 1 := by omega
    rw [e, Nat.pow_succ, Nat.pow_add]
    generalize 10 ^ (W - t.nd) = a
    generalize 10 ^ (r0 + 799 - T) = b
    grind
  rw [htr, z8l _ _ _ _ (by omega), hM2, Nat.mul_mod_right]
  simp
theorem lostL_all (Y L : Nat) (hL : 800 < L) : z2w Y L L = decide (Y % 10 ^ (L - 800) ≠ 0) := by
  have h1 : ∀ n, n ≤ L - 800 → z2w Y L n = decide (Y % 10 ^ n ≠ 0) := by
    intro n
    induction n with
    | zero => intro _; rw [Nat.pow_zero, Nat.mod_one]; rfl
    | succ j ih =>
      intro h
      rw [z2w, ih (by omega), decide_eq_true (by omega : 800 ≤ L - (j + 1)), Bool.true_and, mod_succ]
      have hp : 0 < 10 ^ j := Nat.pow_pos (by decide)
      by_cases a : Y / 10 ^ j % 10 = 0
      · rw [a, Nat.zero_mul, Nat.zero_add]; simp
      have : Y / 10 ^ j % 10 * 10 ^ j + Y % 10 ^ j ≠ 0 := by
        have := Nat.mul_pos (Nat.pos_of_ne_zero a) hp
        omega
      rw [decide_eq_true a, decide_eq_true this, Bool.or_true]
  have h2 : ∀ j, z2w Y L (L - 800 + j) = z2w Y L (L - 800) := by
    intro j
    induction j with
    | zero => rw [Nat.add_zero]
    | succ j ih =>
      rw [← Nat.add_assoc, z2w, ih, decide_eq_false (by omega : ¬ 800 ≤ L - (L - 800 + j + 1)), Bool.false_and, Bool.or_false]
  have h3 := h2 800
  rw [show L - 800 + 800 = L by omega] at h3
  rw [h3, h1 _ (Nat.le_refl _)]
structure LQ (s t : St) (k L : Nat) : Prop where
  wide : s.nd ≤ L ∧ L ≤ s.nd + 19
  dp : t.dp = s.dp + ((L - s.nd : Nat) : Int)
  lo : 10 ^ (L - 1) ≤ s.X * 2 ^ k
  hi : s.X * 2 ^ k < 10 ^ L
  val : t.X * 10 ^ (cap - t.nd) = s.X * 2 ^ k * 10 ^ cap / 10 ^ L
  tr : t.tr = (s.tr || decide (s.X * 2 ^ k * 10 ^ cap % 10 ^ L ≠ 0))
  big : 10 ^ (cap - 1) ≤ s.X * 2 ^ k * 10 ^ cap / 10 ^ L
  head : t.d 0 = 48 + s.X * 2 ^ k / 10 ^ (L - 1) % 10
  nd : t.nd ≤ L
theorem left_q {s t : St} (hs : Weak s) {k : Nat} (h : LStep k s t) : (∃ L, LQ s t k L) ∧ Norm t := by
  obtain ⟨L, W, hL, hnd, hdp, htr⟩ := h
  have hcap := z6h
  have hpos := hs.pos
  have hwide := hL.wide
  have hwid := hL.wid
  have hlo : 10 ^ (L - 1) ≤ s.X * 2 ^ k := hL.lo
  have hhi : s.X * 2 ^ k < 10 ^ L := hL.hi
  have hdgs : ∀ i, i < W → t.d i = 48 + s.X * 2 ^ k / 10 ^ (L - 1 - i) % 10 := hL.dgs
  have htr' : t.tr = (s.tr || z2w (s.X * 2 ^ k) L L) := htr
  have htl : t.nd ≤ W := by rw [hnd]; exact tl_le _ _
  have htail := N_tail t.d (W := W) htl (fun i h1 h2 => tl_zero t.d W i (by rw [← hnd]; exact h1) h2)
  have hd0 : t.d 0 ≠ 48 := by
    rw [hdgs 0 (by omega), Nat.sub_zero]
    have hp : 0 < 10 ^ (L - 1) := Nat.pow_pos (by decide)
    have h1 : 1 ≤ s.X * 2 ^ k / 10 ^ (L - 1) := Nat.div_pos hlo hp
    have h2 : s.X * 2 ^ k / 10 ^ (L - 1) < 10 := by
      rw [Nat.div_lt_iff_lt_mul hp]
      have e : 10 * 10 ^ (L - 1) = 10 ^ L := by
        rw [Nat.mul_comm, ← Nat.pow_succ]
        congr 1; omega
      rw [e]
      exact hhi
    omega
  have hnorm := norm_of (dp := t.dp) (tr := t.tr) (show 0 < W by omega) (by omega) hd0 (fun i hi => ⟨_, hdgs i hi⟩)
  rw [← hnd] at hnorm
  refine ⟨⟨L, ?_⟩, hnorm⟩
  obtain ⟨Y, hY⟩ : ∃ Y, Y = s.X * 2 ^ k := ⟨_, rfl⟩
  rw [← hY] at hlo hhi hdgs htr'
  have hhead : t.d 0 = 48 + Y / 10 ^ (L - 1) % 10 := by
    have := hdgs 0 (by omega)
    rw [Nat.sub_zero] at this
    exact this
  have hX : t.X * 10 ^ (W - t.nd) = Y / 10 ^ (L - W) := by
    have h2 : N (fun i => t.d i - 48) W = Y / 10 ^ (L - W) := N_cut hhi W (by omega) (fun i hi => by rw [hdgs i hi]; omega)
    rw [← h2, htail]; rfl
  have hbig : 10 ^ (cap - 1) ≤ Y * 10 ^ cap / 10 ^ L := by
    rw [Nat.le_div_iff_mul_le (Nat.pow_pos (by decide)), ← Nat.pow_add]
    have e : cap - 1 + L = L - 1 + cap := by omega
    rw [e, Nat.pow_add]
    exact Nat.mul_le_mul_right _ hlo
  by_cases hc : L ≤ 800
  · have hW : W = L := by omega
    rw [hW, Nat.sub_self, Nat.pow_zero, Nat.div_one] at hX
    have e : (10 : Nat) ^ cap = 10 ^ (cap - L) * 10 ^ L := by rw [← Nat.pow_add]; congr 1; omega
    have hp : 0 < 10 ^ L := Nat.pow_pos (by decide)
    refine ⟨hwide, hdp, by rw [← hY]; exact hlo, by rw [← hY]; exact hhi, ?_, ?_, by rw [← hY]; exact hbig, by rw [← hY]; exact hhead, by omega⟩
    · rw [← hY, e, ← Nat.mul_assoc, Nat.mul_div_cancel _ hp, ← hX, Nat.mul_assoc, ← Nat.pow_add, show cap - t.nd = L - t.nd + (cap - L) by omega]
    rw [htr', lostL_none _ L hc L (by omega), ← hY, e, ← Nat.mul_assoc, Nat.mul_mod_left]
    simp
  have hW : W = 800 := by omega
  have e : (10 : Nat) ^ L = 10 ^ (L - 800) * 10 ^ cap := by rw [← Nat.pow_add]; congr 1; omega
  have hp : 0 < 10 ^ cap := Nat.pow_pos (by decide)
  refine ⟨hwide, hdp, by rw [← hY]; exact hlo, by rw [← hY]; exact hhi, ?_, ?_, by rw [← hY]; exact hbig, by rw [← hY]; exact hhead, by omega⟩
  · rw [← hY, e, Nat.mul_div_mul_right _ _ hp, ← hW, ← hX, hW, ← hcap]
  rw [htr', lostL_all Y L (by omega), ← hY, e, Nat.mul_mod_mul_right]
  have hz : Y % 10 ^ (L - 800) * 10 ^ cap ≠ 0 ↔ Y % 10 ^ (L - 800) ≠ 0 := by
    constructor
    · intro h1 h2; rw [h2, Nat.zero_mul] at h1; exact h1 rfl
    intro h1 h2
    rcases Nat.mul_eq_zero.1 h2 with h3 | h3
    · exact h1 h3
    omega
  rw [decide_eq_decide.2 hz]
def St.w (K : Nat) (s : St) : Nat := s.X * 10 ^ (s.dp - s.nd + K).toNat
structure Cut (K : Nat) (s t : St) (P Q : Nat) : Prop where
  le : t.w K * P ≤ s.w K * Q
  ex : t.tr = false → s.tr = false ∧ t.w K * P = s.w K * Q
  lt : t.tr = true → s.tr = true ∨ t.w K * P < s.w K * Q
  near : 10 ^ (cap - 1) * (s.w K * Q) ≤ 10 ^ (cap - 1) * (t.w K * P) + s.w K * Q
  dv : s.tr = false → t.tr = true → ∀ c : Nat, c ≤ K → (c : Int) + t.dp ≤ 800 → ¬ (P * 10 ^ (K - c)) ∣ (s.w K * Q)
theorem cut_gen {x y z U D G T : Nat} (hz : 0 < z) (hD : 0 < D) (hG : 0 < G) (h1 : x * z = U * G) (h2 : y * z = U / D * D * G) (hT : T ≤ U / D) :
    y ≤ x ∧ (U % D = 0 → y = x) ∧ (U % D ≠ 0 → y < x) ∧ T * x ≤ T * y + x := by
  have hdm := Nat.div_add_mod U D
  have hml := Nat.mod_lt U hD
  obtain ⟨q, hq⟩ : ∃ q, q = U / D := ⟨_, rfl⟩
  obtain ⟨r, hr⟩ : ∃ r, r = U % D := ⟨_, rfl⟩
  rw [← hq] at hdm h2 hT
  rw [← hr] at hdm hml ⊢
  have e1 : x * z = (q * D + r) * G := by rw [h1, ← hdm, Nat.mul_comm D q]
  have e2 : x * z = y * z + r * G := by rw [e1, h2, Nat.add_mul]
  refine ⟨?_, fun h => ?_, fun h => ?_, ?_⟩
  · exact Nat.le_of_mul_le_mul_right (by omega) hz
  · rw [h, Nat.zero_mul, Nat.add_zero] at e2
    exact (Nat.eq_of_mul_eq_mul_right hz e2).symm
  · have := Nat.mul_pos (Nat.pos_of_ne_zero h) hG
    exact Nat.lt_of_mul_lt_mul_right (a := z) (by omega)
  refine Nat.le_of_mul_le_mul_right ?_ hz
  have e3 : T * r * G ≤ x * z := by
    rw [e1]
    refine Nat.mul_le_mul_right _ ?_
    have a : T * r ≤ q * D := Nat.mul_le_mul hT (Nat.le_of_lt hml)
    omega
  have e4 : T * x * z = T * y * z + T * r * G := by
    rw [Nat.mul_assoc, e2, Nat.mul_add, Nat.mul_assoc, Nat.mul_assoc]
  rw [e4, Nat.add_mul]
  omega
theorem right_cut {s t : St} (hs : Weak s) {k r0 K : Nat} (ht : Norm t) (h : RQ s t k r0) (hK : 800 ≤ t.dp + K) : Cut K s t (2 ^ k) 1 := by
  have hcap := z6h
  have hP : 0 < 2 ^ k := Nat.pow_pos (by decide)
  have hdp := h.dp
  have hle := hs.le
  have htle := ht.le
  have hr1 := h.r1
  obtain ⟨g, hg⟩ : ∃ g : Nat, (g : Int) = t.dp - 800 + K := ⟨(t.dp - 800 + K).toNat, by omega⟩
  obtain ⟨U, hU⟩ : ∃ U, U = s.X * 10 ^ (r0 + 799 - s.nd) := ⟨_, rfl⟩
  have hval := h.val
  have htr := h.tr
  have hbig := h.big
  rw [← hU] at hval htr hbig
  have hG : 0 < 10 ^ g := Nat.pow_pos (by decide)
  have e1 : s.w K * 1 * 1 = U * 10 ^ g := by
    rw [Nat.mul_one, Nat.mul_one, hU, Nat.mul_assoc, ← Nat.pow_add]
    unfold St.w
    congr 2; omega
  have e2 : t.w K * 2 ^ k * 1 = U / 2 ^ k * 2 ^ k * 10 ^ g := by
    have : t.w K = U / 2 ^ k * 10 ^ g := by
      rw [← hval, Nat.mul_assoc, ← Nat.pow_add]
      unfold St.w
      congr 2; omega
    rw [Nat.mul_one, this, Nat.mul_right_comm]
  obtain ⟨c1, c2, c3, c4⟩ := cut_gen (by decide) hP hG e1 e2 hbig
  refine ⟨c1, fun hf => ?_, fun hf => ?_, c4, fun hsf hf c hcK hc hdv => ?_⟩
  · rw [htr, Bool.or_eq_false_iff] at hf
    exact ⟨hf.1, c2 (Decidable.not_not.1 (of_decide_eq_false hf.2))⟩
  · rw [htr, Bool.or_eq_true] at hf
    rcases hf with hf | hf
    · exact Or.inl hf
    exact Or.inr (c3 (of_decide_eq_true hf))
  rw [htr, hsf, Bool.false_or] at hf
  have hne := of_decide_eq_true hf
  apply hne
  rw [Nat.mul_one] at e1
  rw [e1] at hdv
  have e3 : 10 ^ (K - c) = 10 ^ (K - c - g) * 10 ^ g := by rw [← Nat.pow_add]; congr 1; omega
  rw [e3, ← Nat.mul_assoc] at hdv
  have h5 := Nat.dvd_of_mul_dvd_mul_right hG hdv
  exact Nat.mod_eq_zero_of_dvd (Nat.dvd_trans (Nat.dvd_mul_right _ _) h5)
theorem z9g {s t : St} (hs : Weak s) {k L K : Nat} (ht : Norm t) (h : LQ s t k L) (hK : 800 ≤ t.dp + K) (hK2 : 0 ≤ s.dp - s.nd + K) : Cut K s t 1 (2 ^ k) := by
  have hcap := z6h
  have hdp := h.dp
  have hle := hs.le
  have htle := ht.le
  have hwide := h.wide
  obtain ⟨g, hg⟩ : ∃ g : Nat, (g : Int) = t.dp - 800 + K := ⟨(t.dp - 800 + K).toNat, by omega⟩
  obtain ⟨U, hU⟩ : ∃ U, U = s.X * 2 ^ k * 10 ^ cap := ⟨_, rfl⟩
  have hval := h.val
  have htr := h.tr
  have hbig := h.big
  rw [← hU] at hval htr hbig
  have hG : 0 < 10 ^ g := Nat.pow_pos (by decide)
  have hD : 0 < 10 ^ L := Nat.pow_pos (by decide)
  have e1 : s.w K * 2 ^ k * 10 ^ L = U * 10 ^ g := by
    have e : (10 : Nat) ^ (s.dp - s.nd + K).toNat * 10 ^ L = 10 ^ cap * 10 ^ g := by
      rw [← Nat.pow_add, ← Nat.pow_add]; congr 1; omega
    rw [hU]
    unfold St.w
    calc s.X * 10 ^ (s.dp - s.nd + K).toNat * 2 ^ k * 10 ^ L = s.X * 2 ^ k * (10 ^ (s.dp - s.nd + K).toNat * 10 ^ L) := by
          generalize 10 ^ (s.dp - s.nd + K).toNat = a
          generalize (10 : Nat) ^ L = b
          generalize (2 : Nat) ^ k = c
          grind
      _ = s.X * 2 ^ k * (10 ^ cap * 10 ^ g) := by rw [e]
      _ = s.X * 2 ^ k * 10 ^ cap * 10 ^ g := (Nat.mul_assoc _ _ _).symm
  have e2 : t.w K * 1 * 10 ^ L = U / 10 ^ L * 10 ^ L * 10 ^ g := by
    have : t.w K = U / 10 ^ L * 10 ^ g := by
      rw [← hval, Nat.mul_assoc, ← Nat.pow_add]
      unfold St.w
      congr 2; omega
    rw [Nat.mul_one, this, Nat.mul_right_comm]
  obtain ⟨c1, c2, c3, c4⟩ := cut_gen hD hD hG e1 e2 hbig
  refine ⟨c1, fun hf => ?_, fun hf => ?_, c4, fun hsf hf c hcK hc hdv => ?_⟩
  · rw [htr, Bool.or_eq_false_iff] at hf
    exact ⟨hf.1, c2 (Decidable.not_not.1 (of_decide_eq_false hf.2))⟩
  · rw [htr, Bool.or_eq_true] at hf
    rcases hf with hf | hf
    · exact Or.inl hf
    exact Or.inr (c3 (of_decide_eq_true hf))
  rw [htr, hsf, Bool.false_or] at hf
  have hne := of_decide_eq_true hf
  apply hne
  have hdv2 := Nat.mul_dvd_mul_right hdv (10 ^ L)
  rw [e1, Nat.one_mul] at hdv2
  have e3 : 10 ^ (K - c) = 10 ^ (K - c - g) * 10 ^ g := by rw [← Nat.pow_add]; congr 1; omega
  rw [e3, Nat.mul_comm _ (10 ^ L), ← Nat.mul_assoc] at hdv2
  have h5 := Nat.dvd_of_mul_dvd_mul_right hG hdv2
  exact Nat.mod_eq_zero_of_dvd (Nat.dvd_trans (Nat.dvd_mul_right _ _) h5)
end Go.Proofs.YtjpiplplohapnaaGreatDoor.Dc
namespace Go.Proofs.YtjpiplplohapnaaGreatDoor.Dc
def tabN (n : Nat) : Nat := if 9 ≤ n then 27 else [1, 3, 6, 9, 13, 16, 19, 23, 26].getD n 0
theorem tab_facts : ∀ n : Fin 9, 1 ≤ tabN n.val ∧ tabN n.val ≤ 26 ∧ (1 ≤ n.val → 2 ^ tabN n.val ≤ 10 ^ n.val) := by decide +kernel
theorem z6n (n : Nat) : 1 ≤ tabN n ∧ tabN n ≤ 27 := by
  by_cases h : 9 ≤ n
  · unfold tabN; rw [if_pos h]; exact ⟨by decide, by decide⟩
  have := tab_facts ⟨n, by omega⟩
  exact ⟨this.1, Nat.le_trans this.2.1 (by decide)⟩
theorem tab_pow (n : Nat) (h1 : 1 ≤ n) : 2 ^ tabN n ≤ 10 ^ n := by
  by_cases h : 9 ≤ n
  · unfold tabN
    rw [if_pos h]
    have a : (10 : Nat) ^ 9 ≤ 10 ^ n := Nat.pow_le_pow_right (by decide) h
    have b : (2 : Nat) ^ 27 ≤ 10 ^ 9 := by decide
    omega
  exact (tab_facts ⟨n, by omega⟩).2.2 h1
theorem tab_zero : tabN 0 = 1 := by decide
inductive Down : Nat → St → St → Prop
  | nil (s : St) : Down 0 s s
  | snoc {r : Nat} {s t u : St} : Down r s t → 0 < t.dp → RStep (tabN t.dp.toNat) t u → Norm u → Down (r + tabN t.dp.toNat) s u
inductive Upw : Nat → St → St → Prop
  | nil (s : St) : Upw 0 s s
  | snoc {l : Nat} {s t u : St} : Upw l s t → t.dp ≤ 0 → (t.dp = 0 → t.d 0 < 53) → LStep (tabN (-t.dp).toNat) t u → Norm u → Upw (l + tabN (-t.dp).toNat) s u
theorem Down.weak {r : Nat} {s t : St} (h : Down r s t) (hs : Weak s) : Weak t := by
  cases h with
  | nil => exact hs
  | snoc _ _ _ h => exact h.weak
theorem Upw.weak {r : Nat} {s t : St} (h : Upw r s t) (hs : Weak s) : Weak t := by
  cases h with
  | nil => exact hs
  | snoc _ _ _ _ h => exact h.weak
def St.hd (s : St) : Nat := s.d 0 - 48
theorem Weak.hd9 {s : St} (h : Weak s) : 1 ≤ s.hd ∧ s.hd ≤ 9 ∧ s.d 0 = 48 + s.hd := by
  unfold St.hd
  have := h.dgs 0 h.pos
  have := h.first
  omega
theorem Weak.lo {s : St} (h : Weak s) : s.hd * 10 ^ (s.nd - 1) ≤ s.X ∧ s.X < (s.hd + 1) * 10 ^ (s.nd - 1) := by
  obtain ⟨j, hj⟩ : ∃ j, s.nd = j + 1 := ⟨s.nd - 1, by have := h.pos; omega⟩
  have h1 := z7z (dig s.d s.nd) 1 j
  rw [show 1 + j = s.nd by omega] at h1
  have h2 : N (dig s.d s.nd) 1 = s.hd := by
    show 10 * 0 + dig s.d s.nd 0 = _
    unfold dig St.hd
    rw [if_pos h.pos]; omega
  have h3 : N (fun i => dig s.d s.nd (1 + i)) j < 10 ^ j := N_lt (fun i => h.dig9 _) j
  rw [h2] at h1
  rw [show s.nd - 1 = j by omega, Nat.add_mul, Nat.one_mul]
  unfold St.X
  rw [h1]
  omega
theorem right_tab {s t : St} (hs : Weak s) {r0 : Nat} (hd : 0 < s.dp) (h : RQ s t (tabN s.dp.toNat) r0) :
    0 ≤ t.dp ∧ t.dp ≤ s.dp ∧ (t.dp = s.dp → t.hd < s.hd) := by
  have hdp := h.dp
  have h1 := h.r1
  obtain ⟨n, hn⟩ : ∃ n : Nat, s.dp = n := ⟨s.dp.toNat, by omega⟩
  have hn0 : s.dp.toNat = n := by omega
  have hk := z6n n
  have htp := tab_pow n (by omega)
  have hlo := h.lead.lo
  have hhead := h.head
  rw [hn0] at hlo hhead
  refine ⟨?_, by omega, fun he => ?_⟩
  · rcases Nat.lt_or_ge (n + 1) r0 with g | g
    · exfalso
      obtain ⟨j, hj⟩ : ∃ j, r0 - 1 = j + 1 := ⟨r0 - 2, by omega⟩
      have h2 := N_big hs.dig0 j
      rw [hj] at hlo
      have h3 : (10 : Nat) ^ n ≤ 10 ^ j := Nat.pow_le_pow_right (by decide) (by omega)
      omega
    omega
  have hr : r0 = 1 := by omega
  subst hr
  have h2 : N (dig s.d s.nd) 1 = s.hd := by
    show 10 * 0 + dig s.d s.nd 0 = _
    unfold dig St.hd
    rw [if_pos hs.pos]; omega
  have h9 := hs.hd9
  rw [h2] at hhead
  have h4 : s.hd / 2 ^ tabN n < s.hd := by
    refine Nat.div_lt_self (by omega) ?_
    have : 2 ^ 1 ≤ 2 ^ tabN n := Nat.pow_le_pow_right (by decide) hk.1
    omega
  show t.d 0 - 48 < s.hd
  rw [hhead]
  generalize s.hd / 2 ^ tabN n = a at *
  omega
theorem left_tab {s t : St} (hs : Weak s) {L : Nat} (hd : s.dp ≤ 0) (h5 : s.dp = 0 → s.d 0 < 53) (h : LQ s t (tabN (-s.dp).toNat) L) :
    (L : Int) ≤ s.nd - s.dp ∧ t.dp ≤ 0 ∧ s.dp ≤ t.dp ∧ (t.dp = s.dp → s.hd < t.hd) := by
  have hdp := h.dp
  have hw := h.wide
  have hpos := hs.pos
  obtain ⟨n, hn⟩ : ∃ n : Nat, s.dp = -(n : Int) := ⟨(-s.dp).toNat, by omega⟩
  have hn0 : (-s.dp).toNat = n := by omega
  have hk := z6n n
  have h9 := hs.hd9
  obtain ⟨hX1, hX2⟩ := hs.lo
  have hlo := h.lo
  have hhi := h.hi
  have hhead := h.head
  rw [hn0] at hlo hhead hhi
  have hY : s.X * 2 ^ tabN n < 10 ^ (s.nd + n) := by
    rcases Nat.eq_zero_or_pos n with e | e
    · subst e
      rw [tab_zero]
      have h6 := h5 (by omega)
      have e1 : 10 ^ s.nd = 10 ^ (s.nd - 1) * 10 := by rw [← Nat.pow_succ]; congr 1; omega
      have h7 : (s.hd + 1) * 10 ^ (s.nd - 1) ≤ 5 * 10 ^ (s.nd - 1) := Nat.mul_le_mul_right _ (by omega)
      rw [Nat.add_zero, e1, Nat.pow_one]
      omega
    have h6 := tab_pow n e
    have h7 := X_high hs
    rw [Nat.pow_add]
    exact Nat.lt_of_lt_of_le (Nat.mul_lt_mul_of_pos_right h7 (Nat.pow_pos (by decide))) (Nat.mul_le_mul_left _ h6)
  have hL : L ≤ s.nd + n := by
    rcases Nat.lt_or_ge (s.nd + n) L with g | g
    · exfalso
      have : (10 : Nat) ^ (s.nd + n) ≤ 10 ^ (L - 1) := Nat.pow_le_pow_right (by decide) (by omega)
      omega
    exact g
  refine ⟨by omega, by omega, by omega, fun he => ?_⟩
  have hLn : L = s.nd := by omega
  subst hLn
  have hp : 0 < 10 ^ (s.nd - 1) := Nat.pow_pos (by decide)
  have e1 : 10 ^ s.nd = 10 * 10 ^ (s.nd - 1) := by rw [Nat.mul_comm, ← Nat.pow_succ]; congr 1; omega
  have h6 : 2 * s.hd ≤ s.X * 2 ^ tabN n / 10 ^ (s.nd - 1) := by
    rw [Nat.le_div_iff_mul_le hp]
    have h7 : 2 ^ 1 ≤ 2 ^ tabN n := Nat.pow_le_pow_right (by decide) hk.1
    have h8 := Nat.mul_le_mul hX1 h7
    rw [Nat.pow_one] at h8
    rw [Nat.mul_comm 2, Nat.mul_right_comm]
    exact h8
  have h7 : s.X * 2 ^ tabN n / 10 ^ (s.nd - 1) < 10 := by
    rw [Nat.div_lt_iff_lt_mul hp, ← e1]; exact hhi
  show s.hd < t.d 0 - 48
  rw [hhead]
  omega
structure Ap (K w0 : Nat) (s : St) (P Q E c : Nat) : Prop where
  le : s.w K * P ≤ w0 * Q
  ex : s.tr = false → s.w K * P = w0 * Q
  lt : s.tr = true → s.w K * P < w0 * Q
  near : 10 ^ (cap - 1) * (w0 * Q) ≤ 10 ^ (cap - 1) * (s.w K * P) + E * (w0 * Q)
  dv : s.tr = true → ¬ (P * 10 ^ (K - c)) ∣ (w0 * Q)
theorem Ap.start (K : Nat) {s : St} (h : s.tr = false) (c : Nat) : Ap K (s.w K) s 1 1 0 c :=
  ⟨Nat.le_refl _, fun _ => rfl, (fun h2 => by rw [h] at h2; cases h2), by omega, fun h2 => by rw [h] at h2; cases h2⟩
theorem Ap.step {K w0 : Nat} {s t : St} {P Q E c P' Q' c' : Nat} (h : Ap K w0 s P Q E c) (hc : Cut K s t P' Q') (hP : 0 < P) (hQ : 0 < Q') (hcK : c' ≤ K) (hc8 : (c' : Int) + t.dp ≤ 800)
    (hdv : (Q' * 10 ^ (K - c)) ∣ (P' * 10 ^ (K - c'))) (hp' : 0 < P') : Ap K w0 t (P * P') (Q * Q') (E + 1) c' := by
  have e1 : t.w K * (P * P') = t.w K * P' * P := by rw [Nat.mul_comm P, Nat.mul_assoc]
  have e2 : w0 * (Q * Q') = w0 * Q * Q' := by rw [Nat.mul_assoc]
  have e3 : s.w K * Q' * P = s.w K * P * Q' := Nat.mul_right_comm _ _ _
  have hle : s.w K * P * Q' ≤ w0 * Q * Q' := Nat.mul_le_mul_right _ h.le
  refine ⟨?_, fun hf => ?_, fun hf => ?_, ?_, fun hf hd => ?_⟩
  · rw [e1, e2]
    have := Nat.mul_le_mul_right P hc.le
    rw [e3] at this
    exact Nat.le_trans this hle
  · obtain ⟨h1, h2⟩ := hc.ex hf
    rw [e1, e2, h2, e3, h.ex h1]
  · rw [e1, e2]
    have h3 := Nat.mul_le_mul_right P hc.le
    rw [e3] at h3
    rcases hc.lt hf with h1 | h1
    · have := Nat.mul_lt_mul_of_pos_right (h.lt h1) hQ
      exact Nat.lt_of_le_of_lt h3 this
    have := Nat.mul_lt_mul_of_pos_right h1 hP
    rw [e3] at this
    exact Nat.lt_of_lt_of_le this hle
  · rw [e1, e2]
    have h3 := Nat.mul_le_mul_right Q' h.near
    have h4 := Nat.mul_le_mul_right P hc.near
    generalize 10 ^ (cap - 1) = T at *
    have a1 : T * (w0 * Q) * Q' = T * (w0 * Q * Q') := Nat.mul_assoc _ _ _
    have a2 : (T * (s.w K * P) + E * (w0 * Q)) * Q' = T * (s.w K * P * Q') + E * (w0 * Q * Q') := by rw [Nat.add_mul, Nat.mul_assoc T, Nat.mul_assoc E]
    have a3 : T * (s.w K * Q') * P = T * (s.w K * P * Q') := by rw [Nat.mul_assoc T, e3]
    have a4 : (T * (t.w K * P') + s.w K * Q') * P = T * (t.w K * P' * P) + s.w K * P * Q' := by rw [Nat.add_mul, Nat.mul_assoc T, e3]
    rw [a1, a2] at h3
    rw [a3, a4] at h4
    rw [Nat.add_mul E 1, Nat.one_mul]
    omega
  rw [e2] at hd
  cases hst : s.tr
  · have h1 := h.ex hst
    have h2 := hc.dv hst hf c' hcK hc8
    apply h2
    have e4 : P' * 10 ^ (K - c') * P = P * P' * 10 ^ (K - c') := by rw [Nat.mul_comm _ P, Nat.mul_assoc]
    have hd2 : P' * 10 ^ (K - c') * P ∣ s.w K * Q' * P := by rw [e3, h1, e4]; exact hd
    exact Nat.dvd_of_mul_dvd_mul_right hP hd2
  apply h.dv hst
  have h1 : P * 10 ^ (K - c) * Q' ∣ w0 * Q * Q' := by
    refine Nat.dvd_trans ?_ hd
    have h2 := Nat.mul_dvd_mul_left P hdv
    rw [Nat.mul_comm Q', ← Nat.mul_assoc, ← Nat.mul_assoc] at h2
    exact h2
  exact Nat.dvd_of_mul_dvd_mul_right hQ h1
theorem down_ap {K r : Nat} {s t : St} (h : Down r s t) : Weak s → s.tr = false → 0 < s.dp → s.dp ≤ 310 → 2000 ≤ K →
    ∃ E, Ap K (s.w K) t (2 ^ r) 1 E 200 ∧ 0 ≤ t.dp ∧ t.dp ≤ 310 ∧ (E : Int) + (10 * t.dp + t.hd) ≤ 3109 := by
  induction h with
  | nil s =>
    intro hs htr hd1 hd2 hK
    exact ⟨0, by rw [Nat.pow_zero]; exact Ap.start K htr 200, by omega, hd2, by have := hs.hd9; omega⟩
  | @snoc r s t u hD hd hR hn ih =>
    intro hs htr hd1 hd2 hK
    obtain ⟨E, h1, h2, h3, h4⟩ := ih hs htr hd1 hd2 hK
    have hw := hD.weak hs
    obtain ⟨⟨r0, hq⟩, -⟩ := z8a hw (by have := z6n t.dp.toNat; omega) hR
    obtain ⟨g1, g2, g3⟩ := right_tab hw hd hq
    have hc := right_cut (K := K) hw hn hq (by omega)
    have hA := h1.step (c' := 200) hc (Nat.pow_pos (by decide)) (by decide) (by omega) (by omega) (by rw [Nat.one_mul]; exact Nat.dvd_mul_left _ _) (Nat.pow_pos (by decide))
    rw [← Nat.pow_add, Nat.mul_one] at hA
    refine ⟨E + 1, hA, g1, by omega, ?_⟩
    have ht9 := hw.hd9
    have hu9 := hn.weak.hd9
    by_cases he : u.dp = t.dp
    · have := g3 he; omega
    omega
theorem up_ap {K l : Nat} {s t : St} (h : Upw l s t) {w0 P E : Nat} : Weak s → s.dp = 0 → 2000 ≤ K → 0 < P → Ap K w0 s P 1 E 200 → E ≤ 3109 →
    ∃ E', Ap K w0 t P (2 ^ l) E' (200 - l) ∧ t.dp = 0 ∧ l + s.hd ≤ t.hd ∧ E' ≤ 3109 + l := by
  induction h with
  | nil s =>
    intro hs hd hK hP hA hE
    exact ⟨E, by rw [Nat.pow_zero]; exact hA, hd, by omega, by omega⟩
  | @snoc l s t u hU hd h5 hL hn ih =>
    intro hs hd0 hK hP hA hE
    obtain ⟨E', h1, h2, h3, h4⟩ := ih hs hd0 hK hP hA hE
    have hw := hU.weak hs
    obtain ⟨⟨L, hq⟩, -⟩ := left_q hw hL
    obtain ⟨g0, g1, g2, g3⟩ := left_tab hw hd h5 hq
    have hud : u.dp = 0 := by omega
    have hlt := g3 (by omega)
    have h9 := hn.weak.hd9
    have hle := hw.le
    have hk : tabN (-t.dp).toNat = 1 := by rw [h2]; exact tab_zero
    have hc := z9g (K := K) hw hn hq (by omega) (by omega)
    have hl : 200 - l = (200 - (l + 1)) + 1 := by omega
    have hA := h1.step (c' := 200 - (l + 1)) hc hP (Nat.pow_pos (by decide)) (by omega) (by omega) (by
      rw [hk, Nat.one_mul, Nat.pow_one]
      have e : K - (200 - (l + 1)) = K - (200 - l) + 1 := by omega
      rw [e, Nat.pow_succ, Nat.mul_comm]
      exact Nat.mul_dvd_mul_left _ (by decide)) (by decide)
    rw [Nat.mul_one, ← Nat.pow_add, hk] at hA
    rw [hk]
    exact ⟨E' + 1, hA, hud, by omega, by omega⟩
end Go.Proofs.YtjpiplplohapnaaGreatDoor.Dc
namespace Go.Proofs.YtjpiplplohapnaaGreatDoor.Dc
open Nr Us
def z4e (s : St) : Nat := if s.dp < 0 then 0 else N (dig s.d s.nd) s.dp.toNat + (if upB s s.dp.toNat then 1 else 0)
def halfB (s : St) (p : Nat) : Nat := if 5 ≤ dig s.d s.nd p then 1 else 0
theorem w_split {s : St} (hs : Weak s) {K p : Nat} (hp : s.dp = p) (hK : 2000 ≤ K) :
    N (dig s.d s.nd) p * 10 ^ K ≤ s.w K ∧ s.w K < (N (dig s.d s.nd) p + 1) * 10 ^ K ∧
    (2 * N (dig s.d s.nd) p + halfB s p) * 10 ^ K ≤ 2 * s.w K ∧ 2 * s.w K < (2 * N (dig s.d s.nd) p + halfB s p + 1) * 10 ^ K := by
  have hle := hs.le
  have h9 := hs.dig9
  have h1 := N_far (s := s) (r := p + K) (by omega)
  have hw : s.w K = N (dig s.d s.nd) (p + K) := by
    rw [h1]; unfold St.w; congr 2; omega
  obtain ⟨j, hj⟩ : ∃ j, K = 1 + j := ⟨K - 1, by omega⟩
  have h2 := z7z (dig s.d s.nd) p K
  have h3 := z7z (fun i => dig s.d s.nd (p + i)) 1 j
  have h4 : N (fun i => dig s.d s.nd (p + i)) 1 = dig s.d s.nd p := by
    show 10 * 0 + dig s.d s.nd (p + 0) = _
    rw [Nat.add_zero]; omega
  have h5 : N (fun i => dig s.d s.nd (p + (1 + i))) j < 10 ^ j := N_lt (fun i => h9 _) j
  rw [← hj, h4] at h3
  rw [h3] at h2
  rw [← hw] at h2
  have hp10 : (10 : Nat) ^ K = 10 * 10 ^ j := by rw [hj, Nat.add_comm, Nat.pow_succ, Nat.mul_comm]
  have h9p := h9 p
  rw [h2, hp10]
  unfold halfB
  generalize N (fun i => dig s.d s.nd (p + (1 + i))) j = R at *
  generalize N (dig s.d s.nd) p = M at *
  generalize dig s.d s.nd p = f at *
  generalize (10 : Nat) ^ j = Z at *
  have e1 : M * (10 * Z) = 10 * (M * Z) := by grind
  have e2 : (M + 1) * (10 * Z) = 10 * (M * Z) + 10 * Z := by grind
  have e3 : f * Z ≤ 9 * Z := Nat.mul_le_mul_right _ h9p
  rw [e1, e2]
  refine ⟨by omega, by omega, ?_, ?_⟩
  · split
    · have : 5 * Z ≤ f * Z := Nat.mul_le_mul_right _ (by assumption)
      have e4 : (2 * M + 1) * (10 * Z) = 20 * (M * Z) + 10 * Z := by grind
      rw [e4]; omega
    have e4 : (2 * M + 0) * (10 * Z) = 20 * (M * Z) := by grind
    rw [e4]; omega
  split
  · have e4 : (2 * M + 1 + 1) * (10 * Z) = 20 * (M * Z) + 20 * Z := by grind
    rw [e4]; omega
  have : f * Z ≤ 4 * Z := Nat.mul_le_mul_right _ (by omega)
  have e4 : (2 * M + 0 + 1) * (10 * Z) = 20 * (M * Z) + 10 * Z := by grind
  rw [e4]; omega
theorem mant_cut {s : St} (hs : Norm s) (ht : s.tr = true) {p : Nat} (hp : s.dp = p) : z4e s = N (dig s.d s.nd) p + halfB s p := by
  unfold z4e halfB
  rw [if_neg (by omega), hp, Int.toNat_natCast]
  congr 1
  unfold upB dig
  by_cases h1 : s.nd ≤ p
  · rw [if_pos h1, if_neg (by omega : ¬ p < s.nd)]; rfl
  rw [if_neg h1, if_pos (by omega : p < s.nd)]
  have hb := hs.dgs p (by omega)
  by_cases h2 : s.d p = 53 ∧ p + 1 = s.nd
  · rw [if_pos h2, ht, Bool.true_or, if_pos rfl, if_pos (by omega)]
  rw [if_neg h2]
  by_cases h3 : 53 ≤ s.d p
  · rw [decide_eq_true h3, if_pos rfl, if_pos (by omega)]
  rw [decide_eq_false h3, if_neg (by decide), if_neg (by omega)]
theorem mant_rhe {s : St} (hs : Norm s) (ht : s.tr = false) {K : Nat} (hK : 2000 ≤ K) (hdp : -1000 ≤ s.dp) : Rhe (s.w K) (10 ^ K) (z4e s) := by
  have hle := hs.le
  have hpos := hs.pos
  unfold z4e
  by_cases h0 : s.dp < 0
  · rw [if_pos h0]
    have h1 : s.X < 10 ^ s.nd := X_high hs.weak
    have h2 : s.w K < 10 ^ (K - 1) := by
      unfold St.w
      have h3 := Nat.mul_lt_mul_of_pos_right h1 (Nat.pow_pos (a := 10) (n := (s.dp - s.nd + K).toNat) (by decide))
      rw [← Nat.pow_add] at h3
      exact Nat.lt_of_lt_of_le h3 (Nat.pow_le_pow_right (by decide) (by omega))
    have h3 : (10 : Nat) ^ K = 10 ^ (K - 1) * 10 := by rw [← Nat.pow_succ]; congr 1; omega
    unfold Rhe
    rw [h3]
    generalize (10 : Nat) ^ (K - 1) = Z at *
    refine ⟨by omega, by omega, by omega, by omega⟩
  rw [if_neg h0]
  obtain ⟨p, hp⟩ : ∃ p : Nat, s.dp = p := ⟨s.dp.toNat, by omega⟩
  rw [hp, Int.toNat_natCast]
  by_cases h1 : p < s.nd
  · have h2 := up_rhe hs ht (k := p) (j := s.nd - p - 1) (by omega)
    have h3 := z5n (10 ^ (p + K - s.nd)) (Nat.pow_pos (by decide)) h2
    have e1 : s.X * 10 ^ (p + K - s.nd) = s.w K := by unfold St.w; congr 2; omega
    have e2 : (10 : Nat) ^ (s.nd - p - 1 + 1) * 10 ^ (p + K - s.nd) = 10 ^ K := by rw [← Nat.pow_add]; congr 1; omega
    rw [e1, e2] at h3
    exact h3
  have hu : upB s p = false := by unfold upB; rw [if_pos (by omega)]
  rw [hu, if_neg (by decide), Nat.add_zero, N_far (by omega)]
  have e1 : s.w K = s.X * 10 ^ (p - s.nd) * 10 ^ K := by
    rw [Nat.mul_assoc, ← Nat.pow_add]; unfold St.w; congr 2; omega
  rw [e1]
  exact rhe_exact _ _ (Nat.pow_pos (by decide))
theorem gap_rhe {K w0 : Nat} {s : St} {P Q E c : Nat} (hA : Ap K w0 s P Q E c) (hs : Norm s) (hK : 2000 ≤ K) (hdp : 0 ≤ s.dp) (hP : 0 < P) (hc : 1 ≤ c) (hcK : c ≤ K) (hg : 10 ^ (K - 400) ∣ w0)
    (hE : 2 * (E * (w0 * Q)) < 10 ^ (cap - 1) * 10 ^ (K - 400)) : Rhe (w0 * Q) (10 ^ K * P) (z4e s) := by
  cases ht : s.tr
  · have h1 := z5n P hP (mant_rhe hs ht hK (by omega))
    rw [hA.ex ht] at h1
    exact h1
  obtain ⟨p, hp⟩ : ∃ p : Nat, s.dp = p := ⟨s.dp.toNat, by omega⟩
  obtain ⟨-, -, b1, b2⟩ := w_split hs.weak hp hK
  rw [mant_cut hs ht hp]
  have hb : halfB s p ≤ 1 := by unfold halfB; split <;> omega
  have hlt := hA.lt ht
  have hdv := hA.dv ht
  have hnear := hA.near
  generalize halfB s p = b at *
  generalize N (dig s.d s.nd) p = M at *
  generalize s.w K = w at *
  have hgK : (10 : Nat) ^ K = 10 ^ (K - 400) * 10 ^ (K - (K - 400)) := by rw [← Nat.pow_add, show K - 400 + (K - (K - 400)) = K by omega]
  have key : 2 * (w0 * Q) < (2 * M + b + 1) * 10 ^ K * P := by
    rcases Nat.lt_or_ge (2 * (w0 * Q)) ((2 * M + b + 1) * 10 ^ K * P) with h | h
    · exact h
    exfalso
    obtain ⟨D, hD⟩ : ∃ D, 2 * (w0 * Q) = (2 * M + b + 1) * 10 ^ K * P + D := ⟨2 * (w0 * Q) - (2 * M + b + 1) * 10 ^ K * P, by omega⟩
    have hD0 : D ≠ 0 := by
      intro h0
      rw [h0, Nat.add_zero] at hD
      apply hdv
      have e : (10 : Nat) ^ K = 10 ^ (K - c) * 10 ^ (c - 1) * 10 := by rw [← Nat.pow_add, ← Nat.pow_succ]; congr 1; omega
      refine ⟨(2 * M + b + 1) * 10 ^ (c - 1) * 5, ?_⟩
      rw [e] at hD
      generalize (10 : Nat) ^ (K - c) = y at *
      generalize (10 : Nat) ^ (c - 1) = z at *
      have : 2 * (w0 * Q) = 2 * (P * y * ((2 * M + b + 1) * z * 5)) := by rw [hD]; grind
      omega
    have hDd : 10 ^ (K - 400) ∣ D := by
      have h1 : 10 ^ (K - 400) ∣ 2 * (w0 * Q) := Nat.dvd_trans (Nat.dvd_trans hg (Nat.dvd_mul_right w0 Q)) (Nat.dvd_mul_left _ _)
      have h2 : 10 ^ (K - 400) ∣ (2 * M + b + 1) * 10 ^ K * P := Nat.dvd_trans (Nat.dvd_trans (by rw [hgK]; exact Nat.dvd_mul_right _ _) (Nat.dvd_mul_left (10 ^ K) (2 * M + b + 1))) (Nat.dvd_mul_right _ _)
      rw [hD] at h1
      exact (Nat.dvd_add_right h2).1 h1
    have hDge : 10 ^ (K - 400) ≤ D := Nat.le_of_dvd (by omega) hDd
    have h3 : 2 * (w * P) ≤ (2 * M + b + 1) * 10 ^ K * P := by
      rw [← Nat.mul_assoc]; exact Nat.mul_le_mul_right _ (Nat.le_of_lt b2)
    have h4 : 2 * (w * P) + 10 ^ (K - 400) ≤ 2 * (w0 * Q) := by omega
    have h5 := Nat.mul_le_mul_left (10 ^ (cap - 1)) h4
    generalize 10 ^ (cap - 1) = T at *
    rw [Nat.mul_add] at h5
    have e1 : T * (2 * (w * P)) = 2 * (T * (w * P)) := by grind
    have e2 : T * (2 * (w0 * Q)) = 2 * (T * (w0 * Q)) := by grind
    rw [e1, e2] at h5
    omega
  have h3 : (2 * M + b) * 10 ^ K * P < 2 * (w0 * Q) := by
    have h4 := Nat.mul_le_mul_right P b1
    have h5 : 2 * w * P = 2 * (w * P) := Nat.mul_assoc _ _ _
    omega
  generalize (10 : Nat) ^ K = Z at *
  have e1 : (2 * M + b + 1) * Z * P = 2 * (M * (Z * P)) + b * (Z * P) + Z * P := by grind
  have e2 : (2 * M + b) * Z * P = 2 * (M * (Z * P)) + b * (Z * P) := by grind
  have e3 : (2 * (M + b) + 1) * (Z * P) = 2 * (M * (Z * P)) + 2 * (b * (Z * P)) + Z * P := by grind
  have e4 : 2 * (M + b) * (Z * P) = 2 * (M * (Z * P)) + 2 * (b * (Z * P)) := by grind
  have e5 : b * (Z * P) ≤ Z * P := by
    have := Nat.mul_le_mul_right (Z * P) hb
    rw [Nat.one_mul] at this
    exact this
  unfold Rhe
  rw [e3, e4]
  rw [e1] at key
  rw [e2] at h3
  generalize M * (Z * P) = x at *
  generalize b * (Z * P) = y at *
  generalize Z * P = z at *
  generalize w0 * Q = u at *
  exact ⟨by omega, by omega, fun h => by omega, fun h => by omega⟩
theorem left53 {s t : St} (hs : Weak s) (hd : s.dp = 0) (h5 : 53 ≤ s.d 0) {L K : Nat} (h : LQ s t 53 L) (ht : Norm t) (hK : 2000 ≤ K) :
    0 ≤ t.dp ∧ t.dp ≤ 16 ∧ 4503599627370496 * 10 ^ K ≤ t.w K ∧ t.w K < 9007199254740992 * 10 ^ K ∧ L ≤ s.nd + 16 := by
  have hcap := z6h
  have h53 : (2 : Nat) ^ 53 = 9007199254740992 := by decide
  have hwide := h.wide
  have hdp := h.dp
  have hle := hs.le
  have htle := ht.le
  have hlo := h.lo
  have hX := X_high hs
  have h9 := hs.hd9
  have hL : L ≤ s.nd + 16 := by
    rcases Nat.lt_or_ge (s.nd + 16) L with g | g
    · exfalso
      have h1 : (10 : Nat) ^ (s.nd + 16) ≤ 10 ^ (L - 1) := Nat.pow_le_pow_right (by decide) (by omega)
      have h2 : s.X * 2 ^ 53 < 10 ^ (s.nd + 16) := by
        rw [Nat.pow_add]
        exact Nat.lt_of_lt_of_le (Nat.mul_lt_mul_of_pos_right hX (by decide)) (Nat.mul_le_mul_left _ (by decide))
      omega
    exact g
  have hc := (z9g (K := K) hs ht h (by omega) (by omega)).le
  rw [Nat.mul_one, h53] at hc
  have hw0 : s.w K < 10 ^ K := by
    unfold St.w
    have h3 := Nat.mul_lt_mul_of_pos_right hX (Nat.pow_pos (a := 10) (n := (s.dp - s.nd + K).toNat) (by decide))
    rw [← Nat.pow_add] at h3
    exact Nat.lt_of_lt_of_le h3 (Nat.pow_le_pow_right (by decide) (by omega))
  refine ⟨by omega, by omega, ?_, by omega, hL⟩
  obtain ⟨p, hp⟩ : ∃ p, L = s.nd + p := ⟨L - s.nd, by omega⟩
  have e1 : t.w K = s.X * 2 ^ 53 * 10 ^ cap / 10 ^ L * 10 ^ (K - cap + p) := by
    rw [← h.val, Nat.mul_assoc, ← Nat.pow_add]
    unfold St.w
    congr 2; omega
  have hX5 : 5 * 10 ^ (s.nd - 1) ≤ s.X := Nat.le_trans (Nat.mul_le_mul_right _ (by omega)) hs.lo.1
  have hpos := hs.pos
  have hY : 4503599627370496 * 10 ^ s.nd ≤ s.X * 2 ^ 53 := by
    have e : (10 : Nat) ^ s.nd = 10 ^ (s.nd - 1) * 10 := by rw [← Nat.pow_succ]; congr 1; omega
    rw [e, h53]
    generalize (10 : Nat) ^ (s.nd - 1) = z at *
    omega
  have h6 : 4503599627370496 * 10 ^ (cap - p) ≤ s.X * 2 ^ 53 * 10 ^ cap / 10 ^ L := by
    rw [Nat.le_div_iff_mul_le (Nat.pow_pos (by decide))]
    have e : 4503599627370496 * 10 ^ (cap - p) * 10 ^ L = 4503599627370496 * 10 ^ s.nd * 10 ^ cap := by
      rw [Nat.mul_assoc, Nat.mul_assoc, ← Nat.pow_add, ← Nat.pow_add, show cap - p + L = s.nd + cap by omega]
    rw [e]
    exact Nat.mul_le_mul_right _ hY
  rw [e1]
  have e2 : 4503599627370496 * 10 ^ K = 4503599627370496 * 10 ^ (cap - p) * 10 ^ (K - cap + p) := by
    rw [Nat.mul_assoc, ← Nat.pow_add, show cap - p + (K - cap + p) = K by omega]
  rw [e2]
  exact Nat.mul_le_mul_right _ h6
theorem z8n {s : St} (hs : Norm s) {K a b : Nat} (hK : 2000 ≤ K) (hdp : 0 ≤ s.dp) (h1 : a * 10 ^ K ≤ s.w K) (h2 : s.w K < b * 10 ^ K) : a ≤ z4e s ∧ z4e s ≤ b := by
  obtain ⟨p, hp⟩ : ∃ p : Nat, s.dp = p := ⟨s.dp.toNat, by omega⟩
  obtain ⟨c1, c2, -, -⟩ := w_split hs.weak hp hK
  have hz : 0 < 10 ^ K := Nat.pow_pos (by decide)
  unfold z4e
  rw [if_neg (by omega), hp, Int.toNat_natCast]
  have h3 : a < N (dig s.d s.nd) p + 1 := Nat.lt_of_mul_lt_mul_right (Nat.lt_of_le_of_lt h1 c2)
  have h4 : N (dig s.d s.nd) p < b := Nat.lt_of_mul_lt_mul_right (Nat.lt_of_le_of_lt c1 h2)
  split <;> omega
theorem near_fin {w0 K a b m l : Nat} (h : Rhe (w0 * 2 ^ a) (10 ^ K * 2 ^ b) m) (hl : l + a = ex + b)
    (hf : (4503599627370496 ≤ m ∧ m ≤ 9007199254740992 ∧ 4503599627370496 * (10 ^ K * 2 ^ b) ≤ w0 * 2 ^ a) ∨ (l = 0 ∧ m ≤ 9007199254740992)) : Near (w0 * 2 ^ ex) (10 ^ K) (l * 4503599627370496 + m) := by
  have hb : 0 < 2 ^ b := Nat.pow_pos (by decide)
  have e1 : w0 * 2 ^ a * 2 ^ l = w0 * 2 ^ ex * 2 ^ b := by
    rw [Nat.mul_assoc, Nat.mul_assoc, ← Nat.pow_add, ← Nat.pow_add, Nat.add_comm a, hl]
  have e2 : 10 ^ K * 2 ^ b * 2 ^ l = 10 ^ K * 2 ^ l * 2 ^ b := Nat.mul_right_comm _ _ _
  have h1 := z5n (2 ^ l) (Nat.pow_pos (by decide)) h
  rw [e1, e2] at h1
  refine z3h (Nat.pow_pos (by decide)) (rhe_scale _ hb h1) ?_
  rcases hf with ⟨f1, f2, f3⟩ | ⟨f1, f2⟩
  · refine Or.inl ⟨f1, f2, fun _ => ?_⟩
    refine Nat.le_of_mul_le_mul_right ?_ hb
    rw [← e1, Nat.mul_assoc, ← e2, ← Nat.mul_assoc]
    exact Nat.mul_le_mul_right _ f3
  exact Or.inr ⟨f1, f2⟩
end Go.Proofs.YtjpiplplohapnaaGreatDoor.Dc
namespace Go.Proofs.YtjpiplplohapnaaGreatDoor.Dc
open Nr Us
def z5b (s : St) (r : Nat) : Prop := Near (dN s.X (s.dp - s.nd)) (dD (s.dp - s.nd)) r
theorem w_ratio {s : St} {K : Nat} (hK : 0 ≤ s.dp - s.nd + K) : s.w K * 2 ^ ex * dD (s.dp - s.nd) = dN s.X (s.dp - s.nd) * 10 ^ K := by
  unfold St.w
  rcases Int.lt_or_le (s.dp - s.nd) 0 with h | h
  · obtain ⟨n, hn⟩ : ∃ n : Nat, s.dp - s.nd = -(n : Int) := ⟨(-(s.dp - s.nd)).toNat, by omega⟩
    rw [hn, dN_neg, dD_neg, show (-(n : Int) + K).toNat = K - n by omega]
    have e : (10 : Nat) ^ K = 10 ^ (K - n) * 10 ^ n := by rw [← Nat.pow_add]; congr 1; omega
    rw [e]
    generalize (10 : Nat) ^ (K - n) = a
    generalize (10 : Nat) ^ n = b
    generalize (2 : Nat) ^ ex = c
    grind
  obtain ⟨n, hn⟩ : ∃ n : Nat, s.dp - s.nd = n := ⟨(s.dp - s.nd).toNat, by omega⟩
  rw [hn, z6w, z7b, show ((n : Int) + K).toNat = n + K by omega, Nat.pow_add]
  generalize (10 : Nat) ^ K = a
  generalize (10 : Nat) ^ n = b
  generalize (2 : Nat) ^ ex = c
  grind
theorem nearS_of {s : St} {K r : Nat} (hK : 0 ≤ s.dp - s.nd + K) (h : Near (s.w K * 2 ^ ex) (10 ^ K) r) : z5b s r :=
  z4l (Nat.pow_pos (by decide)) (z3l _) (w_ratio hK) h
theorem nearS_to {s : St} {K r : Nat} (hK : 0 ≤ s.dp - s.nd + K) (h : z5b s r) : Near (s.w K * 2 ^ ex) (10 ^ K) r :=
  z4l (z3l _) (Nat.pow_pos (by decide)) (w_ratio hK).symm h
theorem z8c {s : St} (hs : Weak s) {K : Nat} (hK : 0 ≤ s.dp - s.nd + K) : 10 ^ (s.dp - 1 + K).toNat ≤ s.w K ∧ s.w K < 10 ^ (s.dp + K).toNat := by
  have hpos := hs.pos
  have h1 := X_low hs
  have h2 := X_high hs
  unfold St.w
  have hp : 0 < 10 ^ (s.dp - s.nd + K).toNat := Nat.pow_pos (by decide)
  have h3 := Nat.mul_le_mul_right (10 ^ (s.dp - s.nd + K).toNat) h1
  have h4 := Nat.mul_lt_mul_of_pos_right h2 hp
  rw [← Nat.pow_add] at h3 h4
  have e1 : s.nd - 1 + (s.dp - s.nd + K).toNat = (s.dp - 1 + K).toNat := by omega
  have e2 : s.nd + (s.dp - s.nd + K).toNat = (s.dp + K).toNat := by omega
  rw [e1] at h3
  rw [e2] at h4
  exact ⟨h3, h4⟩
theorem inf_w {s : St} {K : Nat} (hK : 0 ≤ s.dp - s.nd + K) (C : Nat) (hC : C = 1024) (h : 2 ^ C * 10 ^ K ≤ s.w K) : ∀ r, z5b s r → 9218868437227405312 ≤ r := by
  intro r hr
  refine inf_of (Nat.pow_pos (by decide)) (nearS_to hK hr) ?_
  rw [V_inf2 2046 C rfl hC, Nat.mul_right_comm]
  exact Nat.mul_le_mul_right _ h
theorem fb_great {s : St} (hs : Weak s) (hdp : 310 < s.dp) (hdp2 : s.dp ≤ 1000) : ∀ r, z5b s r → 9218868437227405312 ≤ r := by
  obtain ⟨K, hK⟩ : ∃ K, K = 2000 := ⟨_, rfl⟩
  obtain ⟨C, hC⟩ : ∃ C, C = 1024 := ⟨_, rfl⟩
  have hle := hs.le
  have h1 := (z8c hs (K := K) (by omega)).1
  refine inf_w (K := K) (by omega) C hC (Nat.le_trans ?_ h1)
  obtain ⟨b, hb⟩ : ∃ b, b = 310 := ⟨_, rfl⟩
  have h2 : (2 : Nat) ^ C ≤ 10 ^ b := by
    obtain ⟨a, ha⟩ : ∃ a, a = 11 := ⟨_, rfl⟩
    have h3 := ten_two a 2
    have h4 : (10 : Nat) ^ (28 * a + 2) ≤ 10 ^ b := Nat.pow_le_pow_right (by decide) (by omega)
    have h5 : (2 : Nat) ^ C ≤ 2 ^ (93 * a + 3 * 2) := Nat.pow_le_pow_right (by decide) (by omega)
    exact Nat.le_trans h5 (Nat.le_trans h3 h4)
  have h3 : 2 ^ C * 10 ^ K ≤ 10 ^ b * 10 ^ K := Nat.mul_le_mul_right _ h2
  rw [← Nat.pow_add] at h3
  exact Nat.le_trans h3 (Nat.pow_le_pow_right (by decide) (by omega))
theorem Down.small {r : Nat} {s t : St} (h : Down r s t) : s.dp ≤ 0 → r = 0 ∧ t = s := by
  induction h with
  | nil s => intro _; exact ⟨rfl, rfl⟩
  | snoc _ hd _ _ ih =>
    intro hs
    obtain ⟨_, e⟩ := ih hs
    rw [e] at hd
    omega
theorem Upw.norm {l : Nat} {s t : St} (h : Upw l s t) (hl : 0 < l) : Norm t := by
  cases h with
  | nil => omega
  | snoc _ _ _ _ hn => exact hn
theorem two_lt {K r : Nat} (h : 2 ^ r * 10 ^ (K - 1) < 10 ^ (K + 310)) (hK : 2000 ≤ K) (C : Nat) (hC : C = 311) : 2 ^ r < 10 ^ C ∧ r < 1037 := by
  have h1 : 2 ^ r < 10 ^ C := by
    refine Nat.lt_of_mul_lt_mul_right (a := 10 ^ (K - 1)) ?_
    rw [← Nat.pow_add, show C + (K - 1) = K + 310 by omega]
    exact h
  refine ⟨h1, ?_⟩
  rcases Nat.lt_or_ge r 1037 with g | g
  · exact g
  exfalso
  obtain ⟨a, ha⟩ : ∃ a, a = 103 := ⟨_, rfl⟩
  have h2 : (10 : Nat) ^ C ≤ 2 ^ (10 * a + 7) := by
    have h3 : C = 3 * a + 2 := by omega
    rw [h3, Nat.pow_add, Nat.pow_mul, Nat.pow_add, Nat.pow_mul]
    exact Nat.mul_le_mul (Nat.pow_le_pow_left (by decide) _) (by decide)
  have h3 : (2 : Nat) ^ (10 * a + 7) ≤ 2 ^ r := Nat.pow_le_pow_right (by decide) (by omega)
  exact absurd h1 (Nat.not_lt.2 (Nat.le_trans h2 h3))
structure Told (s0 s2 : St) (r l : Nat) : Prop where
  dp : s2.dp = 0
  rr : r ≤ 1040
  ll : l ≤ 1100
  inf : l + 1025 ≤ r → ∀ R, z5b s0 R → 9218868437227405312 ≤ R
  mid : l ≤ r + 1021 → ∀ s4, LStep 53 s2 s4 → 0 ≤ s4.dp ∧ s4.dp ≤ 16 ∧ 4503599627370496 ≤ z4e s4 ∧ z4e s4 ≤ 9007199254740992 ∧ ∀ l', l' + (l + 53) = ex + r → z5b s0 (l' * 4503599627370496 + z4e s4)
  den : r + 1021 < l → r = 0 ∧ l ≤ 1089 ∧ Norm s2 ∧ ∀ s3, Rights (l - 1021) s2 s3 → Norm s3 → -100 ≤ s3.dp ∧ s3.dp ≤ 0 ∧ ∀ s4, LStep 53 s3 s4 → -100 ≤ s4.dp ∧ s4.dp ≤ 16 ∧ z4e s4 ≤ 4503599627370496 ∧ z5b s0 (z4e s4)
theorem bnd_small {K E u w C r : Nat} (hK : 2000 ≤ K) (hE : E ≤ 3200) (hn : 10 ^ (cap - 1) * u ≤ 10 ^ (cap - 1) * (w * 2 ^ r) + E * u) (hw : w < 9007199254740992 * 10 ^ K) (hr : 2 ^ r < 10 ^ C) (hC : C = 311) : 2 * (E * u) < 10 ^ (cap - 1) * 10 ^ (K - 400) := by
  have hcap := z6h
  have hT : 10000 ≤ 10 ^ (cap - 1) := by
    have : (10 : Nat) ^ 4 ≤ 10 ^ (cap - 1) := Nat.pow_le_pow_right (by decide) (by omega)
    exact this
  have c2 : u ≤ 2 * (w * 2 ^ r) := by
    have hTp : 0 < 10 ^ (cap - 1) := Nat.pow_pos (by decide)
    generalize 10 ^ (cap - 1) = T at *
    refine Nat.le_of_mul_le_mul_left (c := T) ?_ hTp
    generalize w * 2 ^ r = v at *
    have c3 : E * u * 2 ≤ T * u := by
      have : 2 * E * u ≤ T * u := Nat.mul_le_mul_right _ (by omega)
      have e : E * u * 2 = 2 * E * u := by grind
      omega
    have e2 : T * (2 * v) = 2 * (T * v) := by grind
    omega
  have c3 : w * 2 ^ r ≤ 9007199254740992 * 10 ^ K * 10 ^ C := Nat.mul_le_mul (Nat.le_of_lt hw) (Nat.le_of_lt hr)
  have c4 : 2 * (E * u) ≤ 2 * (3200 * (2 * (9007199254740992 * 10 ^ K * 10 ^ C))) := by
    refine Nat.mul_le_mul_left _ (Nat.mul_le_mul hE ?_)
    omega
  refine Nat.lt_of_le_of_lt c4 ?_
  have c5 : 2 * (3200 * (2 * (9007199254740992 * 10 ^ K * 10 ^ C))) = 115292150460684697600 * 10 ^ (K + C) := by
    rw [Nat.pow_add]
    generalize (10 : Nat) ^ K = x
    generalize (10 : Nat) ^ C = y
    grind
  rw [c5, ← Nat.pow_add]
  obtain ⟨D, hD⟩ : ∃ D, D = 115292150460684697600 := ⟨_, rfl⟩
  have c6 : D * 10 ^ (K + C) < 10 ^ 21 * 10 ^ (K + C) := Nat.mul_lt_mul_of_pos_right (by rw [hD]; decide) (Nat.pow_pos (by decide))
  rw [← Nat.pow_add] at c6
  rw [← hD]
  exact Nat.lt_of_lt_of_le c6 (Nat.pow_le_pow_right (by decide) (by omega))
theorem fb_down {s0 s1 s2 : St} {r l : Nat} (hs : Weak s0) (ht : s0.tr = false) (hd1 : 0 < s0.dp) (hd2 : s0.dp ≤ 310) (hnd : s0.nd ≤ 400) (h1 : Down r s0 s1) (hz : s1.dp ≤ 0) (h2 : Upw l s1 s2) (he1 : 0 ≤ s2.dp) (he2 : s2.dp = 0 → 53 ≤ s2.d 0) : Told s0 s2 r l := by
  obtain ⟨K, hK⟩ : ∃ K, K = 2000 := ⟨_, rfl⟩
  obtain ⟨C, hC⟩ : ∃ C, C = 311 := ⟨_, rfl⟩
  have hcap := z6h
  obtain ⟨E1, a1, a2, a3, a4⟩ := down_ap (K := K) h1 hs ht hd1 hd2 (by omega)
  have hw1 := h1.weak hs
  obtain ⟨E2, b1, b2, b3, b4⟩ := up_ap (K := K) h2 hw1 (by omega) (by omega) (Nat.pow_pos (by decide)) a1 (by omega)
  have hw2 := h2.weak hw1
  have h91 := hw1.hd9
  have h92 := hw2.hd9
  have hle1 := hw1.le
  have hle2 := hw2.le
  have hr := two_lt (K := K) (r := r) (by
    have c1 := (z8c hw1 (K := K) (by omega)).1
    have c2 := (z8c hs (K := K) (by omega)).2
    have c3 := a1.le
    rw [Nat.mul_one] at c3
    have c4 : 10 ^ (K - 1) ≤ s1.w K := Nat.le_trans (Nat.pow_le_pow_right (by decide) (by omega)) c1
    have c5 : 2 ^ r * 10 ^ (K - 1) ≤ s1.w K * 2 ^ r := by rw [Nat.mul_comm]; exact Nat.mul_le_mul_right _ c4
    have c6 : 10 ^ (s0.dp + K).toNat ≤ 10 ^ (K + 310) := Nat.pow_le_pow_right (by decide) (by omega)
    omega) (by omega) C hC
  have hww : 5 * 10 ^ (K - 1) ≤ s2.w K := by
    have c1 := hw2.lo.1
    have c2 : 5 * 10 ^ (s2.nd - 1) ≤ s2.X := Nat.le_trans (Nat.mul_le_mul_right _ (by have := he2 b2; omega)) c1
    have c3 := Nat.mul_le_mul_right (10 ^ (s2.dp - s2.nd + K).toNat) c2
    rw [Nat.mul_assoc, ← Nat.pow_add] at c3
    have := hw2.pos
    rw [show s2.nd - 1 + (s2.dp - s2.nd + K).toNat = K - 1 by omega] at c3
    exact c3
  refine ⟨b2, by omega, by omega, fun hlr => ?_, fun _ s4 hL => ?_, fun h => by omega⟩
  · obtain ⟨D, hD⟩ : ∃ D, D = 1024 := ⟨_, rfl⟩
    refine inf_w (K := K) (by omega) D hD ?_
    have c1 := b1.le
    have c2 := Nat.mul_le_mul_right (2 ^ r) hww
    have e1 : (10 : Nat) ^ K = 10 * 10 ^ (K - 1) := by rw [Nat.mul_comm, ← Nat.pow_succ]; congr 1; omega
    refine Nat.le_of_mul_le_mul_right ?_ (Nat.pow_pos (a := 2) (n := l + 1) (by decide))
    have c3 : 2 ^ D * 2 ^ (l + 1) ≤ 2 ^ r := by rw [← Nat.pow_add]; exact Nat.pow_le_pow_right (by decide) (by omega)
    have c4 : 2 ^ D * 10 ^ K * 2 ^ (l + 1) = 2 ^ D * 2 ^ (l + 1) * 10 ^ K := Nat.mul_right_comm _ _ _
    have c5 := Nat.mul_le_mul_right (10 ^ K) c3
    have c6 : 2 ^ r * 10 ^ K = 2 * (5 * 10 ^ (K - 1) * 2 ^ r) := by rw [e1]; grind
    have c7 : s0.w K * 2 ^ (l + 1) = 2 * (s0.w K * 2 ^ l) := by rw [Nat.pow_succ]; grind
    rw [c4, c7]
    omega
  obtain ⟨⟨L, hq⟩, hn⟩ := left_q hw2 hL
  obtain ⟨d1, d2, d3, d4, d5⟩ := left53 hw2 b2 (he2 b2) hq hn (K := K) (by omega)
  obtain ⟨m1, m2⟩ := z8n hn (by omega) d1 d3 d4
  have hc := z9g (K := K) hw2 hn hq (by omega) (by omega)
  have hA := b1.step (c' := 200 - l - 53) hc (Nat.pow_pos (by decide)) (Nat.pow_pos (by decide)) (by omega) (by omega) (by
    have e : K - (200 - l - 53) = K - (200 - l) + 53 := by omega
    rw [e, Nat.one_mul, Nat.pow_add, Nat.mul_comm]
    exact Nat.mul_dvd_mul_left _ (by decide)) (by decide)
  rw [Nat.mul_one, ← Nat.pow_add] at hA
  have hg : 10 ^ (K - 400) ∣ s0.w K := by
    unfold St.w
    exact Nat.dvd_trans (Nat.pow_dvd_pow 10 (by omega)) (Nat.dvd_mul_left _ _)
  have hbnd := bnd_small (K := K) (by omega) (show E2 + 1 ≤ 3200 by omega) hA.near d4 hr.1 hC
  have hrhe := gap_rhe hA hn (by omega) d1 (Nat.pow_pos (by decide)) (by omega) (by omega) hg hbnd
  refine ⟨d1, d2, m1, m2, fun l' hl' => nearS_of (K := K) (by omega) (near_fin hrhe hl' (Or.inl ⟨m1, m2, ?_⟩))⟩
  have c1 := hA.le
  have c2 := Nat.mul_le_mul_right (2 ^ r) d3
  rw [Nat.mul_assoc] at c2
  exact Nat.le_trans c2 c1
theorem left_same {s t : St} (hs : Weak s) (ht : s.tr = false) {k L K : Nat} (h : LQ s t k L) (hn : Norm t) (hL : L ≤ 800) (hK : 800 ≤ t.dp + K) (hK2 : 0 ≤ s.dp - s.nd + K) : t.tr = false ∧ t.w K = s.w K * 2 ^ k := by
  have hcap := z6h
  have htr : t.tr = false := by
    rw [h.tr, ht, Bool.false_or]
    have e : (10 : Nat) ^ cap = 10 ^ (cap - L) * 10 ^ L := by rw [← Nat.pow_add]; congr 1; omega
    rw [e, ← Nat.mul_assoc, Nat.mul_mod_left]
    simp
  have := ((z9g (K := K) hs hn h hK hK2).ex htr).2
  rw [Nat.mul_one] at this
  exact ⟨htr, this⟩
theorem no_ten {s : St} (hs : Norm s) : s.X % 10 ≠ 0 := by
  obtain ⟨j, hj⟩ : ∃ j, s.nd = j + 1 := ⟨s.nd - 1, by have := hs.pos; omega⟩
  have h4 : s.X = 10 * N (dig s.d s.nd) j + (s.d j - 48) := by
    unfold St.X
    conv => lhs; arg 2; rw [hj]
    rw [z1u]
    congr 1
    unfold dig
    rw [if_pos (by omega)]
  have h5 := hs.last
  rw [show s.nd - 1 = j by omega] at h5
  have h6 := hs.dgs j (by omega)
  omega
theorem z8k {s t : St} (hs : Weak s) (ht : s.tr = false) {k r0 K : Nat} (h : RQ s t k r0) (hn : Norm t) (hb : s.nd + k ≤ r0 + 799) (hK : 800 ≤ t.dp + K) : t.tr = false ∧ t.w K * 2 ^ k = s.w K ∧ t.nd + r0 ≤ s.nd + k + 1 := by
  have hcap := z6h
  have e : (10 : Nat) ^ (r0 + 799 - s.nd) = 2 ^ k * (5 ^ k * 10 ^ (r0 + 799 - s.nd - k)) := by
    rw [← Nat.mul_assoc, ← Nat.mul_pow, ← Nat.pow_add]; congr 1; omega
  have hp : 0 < 2 ^ k := Nat.pow_pos (by decide)
  have e2 : s.X * 10 ^ (r0 + 799 - s.nd) = 2 ^ k * (s.X * (5 ^ k * 10 ^ (r0 + 799 - s.nd - k))) := by
    rw [e]
    generalize 5 ^ k * 10 ^ (r0 + 799 - s.nd - k) = y
    grind
  have htr : t.tr = false := by
    rw [h.tr, ht, Bool.false_or, e2, Nat.mul_mod_right]
    simp
  have h1 := ((right_cut (K := K) hs hn h hK).ex htr).2
  rw [Nat.mul_one] at h1
  refine ⟨htr, h1, ?_⟩
  have htle := hn.le
  rcases Nat.lt_or_ge (s.nd + k + 1) (t.nd + r0) with g | g
  · exfalso
    have hv := h.val
    rw [e2, Nat.mul_div_cancel_left _ hp] at hv
    obtain ⟨j, hj⟩ : ∃ j, r0 + 799 - s.nd - k = (cap - t.nd) + (j + 1) := ⟨r0 + 799 - s.nd - k - (cap - t.nd) - 1, by omega⟩
    rw [hj, Nat.pow_add] at hv
    have hv2 : t.X * 10 ^ (cap - t.nd) = s.X * 5 ^ k * 10 ^ (j + 1) * 10 ^ (cap - t.nd) := by
      rw [hv]
      generalize (10 : Nat) ^ (cap - t.nd) = x
      generalize (10 : Nat) ^ (j + 1) = y
      generalize (5 : Nat) ^ k = z
      grind
    have hv3 := Nat.eq_of_mul_eq_mul_right (Nat.pow_pos (by decide)) hv2
    apply no_ten hn
    rw [hv3, Nat.pow_succ, ← Nat.mul_assoc, Nat.mul_mod_left]
  exact g
theorem up_same {K l : Nat} {s t : St} (h : Upw l s t) : Weak s → s.tr = false → s.dp ≤ 0 → -400 ≤ s.dp → s.nd - s.dp ≤ 730 → 2000 ≤ K → t.tr = false ∧ t.w K = s.w K * 2 ^ l ∧ t.dp ≤ 0 ∧ s.dp ≤ t.dp ∧ t.nd - t.dp ≤ 730 := by
  induction h with
  | nil s => intro hs htr hd hd2 hF hK; exact ⟨htr, by rw [Nat.pow_zero, Nat.mul_one], hd, Int.le_refl _, hF⟩
  | @snoc l s t u hU hd h5 hL hn ih =>
    intro hs htr hd1 hd2 hF hK
    obtain ⟨a1, a2, a3, a4, a5⟩ := ih hs htr hd1 hd2 hF hK
    have hw := hU.weak hs
    obtain ⟨⟨L, hq⟩, -⟩ := left_q hw hL
    obtain ⟨g0, g1, g2, -⟩ := left_tab hw hd h5 hq
    have hle := hw.le
    obtain ⟨b1, b2⟩ := left_same (K := K) hw a1 hq hn (by omega) (by omega) (by omega)
    have hdp := hq.dp
    have hnd := hq.nd
    have hwide := hq.wide
    refine ⟨b1, ?_, g1, by omega, by omega⟩
    rw [b2, a2, Nat.mul_assoc, ← Nat.pow_add]
theorem lead_low {s : St} (hs : Weak s) {k r0 : Nat} (h : Lead (dig s.d s.nd) (2 ^ k) r0) (j m : Nat) (hm : m ≤ k) (hj : 10 ^ j < 2 ^ m) : j + 1 ≤ r0 := by
  rcases Nat.lt_or_ge j r0 with g | g
  · exact g
  exfalso
  have h1 := h.hi
  have h2 := N_lt hs.dig9 r0
  have h3 : (10 : Nat) ^ r0 ≤ 10 ^ j := Nat.pow_le_pow_right (by decide) g
  have h4 : (2 : Nat) ^ m ≤ 2 ^ k := Nat.pow_le_pow_right (by decide) hm
  omega
theorem rights_same {n : Nat} {s t : St} (hs : Norm s) (ht : s.tr = false) (hd : s.dp = 0) (hnd : s.nd ≤ 730) (hn1 : 1 ≤ n) (hn : n ≤ 68) (h : Rights n s t) (hnt : Norm t) {K : Nat} (hK : 2000 ≤ K) :
    t.tr = false ∧ t.w K * 2 ^ n = s.w K ∧ t.nd ≤ 780 ∧ -100 ≤ t.dp ∧ t.dp ≤ 0 := by
  cases h with
  | one _ hk hst =>
    obtain ⟨⟨r0, hq⟩, -⟩ := z8a hs.weak hk hst
    have hr1 := hq.r1
    have hr2 := hq.r20
    have hdp := hq.dp
    obtain ⟨a1, a2, a3⟩ := z8k (K := K) hs.weak ht hq hnt (by omega) (by omega)
    refine ⟨a1, a2, ?_, by omega, by omega⟩
    by_cases h44 : 44 ≤ n
    · have := lead_low hs.weak hq.lead 13 44 h44 (by decide)
      omega
    omega
  | @more k _ t1 _ hk1 hst hn1' hr =>
    obtain ⟨⟨r0, hq⟩, -⟩ := z8a hs.weak (by decide) hst
    have hr1 := hq.r1
    have hr2 := hq.r20
    have hdp := hq.dp
    obtain ⟨a1, a2, a3⟩ := z8k (K := K) hs.weak ht hq hn1' (by omega) (by omega)
    have h19 := lead_low hs.weak hq.lead 18 60 (Nat.le_refl _) (by decide)
    generalize k = kk at *
    cases hr with
    | one _ hk hst2 =>
      obtain ⟨⟨r1, hq2⟩, -⟩ := z8a hn1'.weak hk hst2
      have hs1 := hq2.r1
      have hs2 := hq2.r20
      have hdp2 := hq2.dp
      obtain ⟨b1, b2, b3⟩ := z8k (K := K) hn1'.weak a1 hq2 hnt (by omega) (by omega)
      refine ⟨b1, ?_, by omega, by omega, by omega⟩
      rw [Nat.pow_add, ← Nat.mul_assoc, b2, a2]
    | more _ _ _ _ => omega
theorem fb_up {s0 s2 : St} {l : Nat} (hs : Weak s0) (ht : s0.tr = false) (hd1 : s0.dp ≤ 0) (hd2 : -326 ≤ s0.dp) (hnd : s0.nd - s0.dp ≤ 730) (h2 : Upw l s0 s2) (he1 : 0 ≤ s2.dp) (he2 : s2.dp = 0 → 53 ≤ s2.d 0) : Told s0 s2 0 l := by
  obtain ⟨K, hK⟩ : ∃ K, K = 2000 := ⟨_, rfl⟩
  obtain ⟨C, hC⟩ : ∃ C, C = 327 := ⟨_, rfl⟩
  have hcap := z6h
  obtain ⟨a1, a2, a3, a4, a5⟩ := up_same (K := K) h2 hs ht hd1 (by omega) hnd (by omega)
  have hd : s2.dp = 0 := by omega
  have hw2 := h2.weak hs
  have h92 := hw2.hd9
  have hle0 := hs.le
  have hle2 := hw2.le
  have hll : l < 1090 := by
    have c1 := (z8c hs (K := K) (by omega)).1
    have c2 := (z8c hw2 (K := K) (by omega)).2
    rw [a2, show (s2.dp + K).toNat = K by omega] at c2
    have c3 : 10 ^ (K - C) ≤ s0.w K := Nat.le_trans (Nat.pow_le_pow_right (by decide) (by omega)) c1
    have c4 : 2 ^ l < 10 ^ C := by
      refine Nat.lt_of_mul_lt_mul_left (a := 10 ^ (K - C)) ?_
      rw [← Nat.pow_add, show K - C + C = K by omega]
      exact Nat.lt_of_le_of_lt (Nat.mul_le_mul_right _ c3) c2
    rcases Nat.lt_or_ge l 1090 with g | g
    · exact g
    exfalso
    obtain ⟨a, ha⟩ : ∃ a, a = 109 := ⟨_, rfl⟩
    have c5 : (10 : Nat) ^ C ≤ 2 ^ (10 * a) := by
      have c6 : C = 3 * a := by omega
      rw [c6, Nat.pow_mul, Nat.pow_mul]
      exact Nat.pow_le_pow_left (by decide) _
    have c6 : (2 : Nat) ^ (10 * a) ≤ 2 ^ l := Nat.pow_le_pow_right (by decide) (by omega)
    exact absurd c4 (Nat.not_lt.2 (Nat.le_trans c5 c6))
  refine ⟨hd, by omega, by omega, fun h => by omega, fun hl s4 hL => ?_, fun hl => ⟨rfl, by omega, h2.norm (by omega), fun s3 hR hn3 => ?_⟩⟩
  · obtain ⟨⟨L, hq⟩, hn⟩ := left_q hw2 hL
    obtain ⟨d1, d2, d3, d4, d5⟩ := left53 hw2 hd (he2 hd) hq hn (K := K) (by omega)
    obtain ⟨m1, m2⟩ := z8n hn (by omega) d1 d3 d4
    obtain ⟨b1, b2⟩ := left_same (K := K) hw2 a1 hq hn (by omega) (by omega) (by omega)
    have hrhe := mant_rhe hn b1 (K := K) (by omega) (by omega)
    have e1 : s4.w K = s0.w K * 2 ^ (l + 53) := by rw [b2, a2, Nat.mul_assoc, ← Nat.pow_add]
    rw [e1] at hrhe d3
    have e2 : (10 : Nat) ^ K = 10 ^ K * 2 ^ 0 := by rw [Nat.pow_zero, Nat.mul_one]
    rw [e2] at hrhe
    refine ⟨d1, d2, m1, m2, fun l' hl' => nearS_of (K := K) (by omega) (near_fin hrhe hl' (Or.inl ⟨m1, m2, ?_⟩))⟩
    rw [← e2]; exact d3
  obtain ⟨c1, c2, c3, c4, c5⟩ := rights_same (h2.norm (by omega)) a1 hd (by omega) (by omega) (by omega) hR hn3 (K := K) (by omega)
  refine ⟨c4, c5, fun s4 hL => ?_⟩
  obtain ⟨⟨L, hq⟩, hn⟩ := left_q hn3.weak hL
  have hX := X_high hn3.weak
  have hlo := hq.lo
  have hwide := hq.wide
  have hdp := hq.dp
  have hL16 : L ≤ s3.nd + 16 := by
    rcases Nat.lt_or_ge (s3.nd + 16) L with g | g
    · exfalso
      have h1 : (10 : Nat) ^ (s3.nd + 16) ≤ 10 ^ (L - 1) := Nat.pow_le_pow_right (by decide) (by omega)
      have h2 : s3.X * 2 ^ 53 < 10 ^ (s3.nd + 16) := by
        rw [Nat.pow_add]
        exact Nat.lt_of_lt_of_le (Nat.mul_lt_mul_of_pos_right hX (by decide)) (Nat.mul_le_mul_left _ (by decide))
      omega
    exact g
  obtain ⟨b1, b2⟩ := left_same (K := K) hn3.weak c1 hq hn (by omega) (by omega) (by omega)
  have hrhe := z5n (2 ^ (l - 1021)) (Nat.pow_pos (by decide)) (mant_rhe hn b1 (K := K) (by omega) (by omega))
  have e1 : s4.w K * 2 ^ (l - 1021) = s0.w K * 2 ^ (l + 53) := by
    rw [b2, Nat.mul_right_comm, c2, a2, Nat.mul_assoc, ← Nat.pow_add]
  rw [e1] at hrhe
  have hsmall : z4e s4 ≤ 4503599627370496 := by
    by_cases h0 : s4.dp < 0
    · unfold z4e; rw [if_pos h0]; decide
    refine (z8n hn (K := K) (a := 0) (b := 4503599627370496) (by omega) (by omega) (by omega) ?_).2
    have g1 := (z8c hw2 (K := K) (by omega)).2
    rw [show (s2.dp + K).toNat = K by omega] at g1
    have g2 : 2 ^ 1 ≤ 2 ^ (l - 1021) := Nat.pow_le_pow_right (by decide) (by omega)
    have g3 : s3.w K * 2 ^ 1 ≤ s3.w K * 2 ^ (l - 1021) := Nat.mul_le_mul_left _ g2
    have h53 : (2 : Nat) ^ 53 = 9007199254740992 := by decide
    rw [b2, h53]
    omega
  refine ⟨by omega, by omega, hsmall, ?_⟩
  have hfin := near_fin (l := 0) hrhe (by rw [z5h]; omega) (Or.inr ⟨rfl, by omega⟩)
  rw [Nat.zero_mul, Nat.zero_add] at hfin
  exact nearS_of (K := K) (by omega) hfin
theorem fb_told {s0 s1 s2 : St} {r l : Nat} (hs : Weak s0) (ht : s0.tr = false) (hd1 : -326 ≤ s0.dp) (hd2 : s0.dp ≤ 310) (hnd : s0.nd ≤ 400) (h1 : Down r s0 s1) (hz : s1.dp ≤ 0) (h2 : Upw l s1 s2) (he1 : 0 ≤ s2.dp) (he2 : s2.dp = 0 → 53 ≤ s2.d 0) : Told s0 s2 r l := by
  by_cases h : 0 < s0.dp
  · exact fb_down hs ht h hd2 hnd h1 hz h2 he1 he2
  obtain ⟨rfl, rfl⟩ := h1.small (by omega)
  exact fb_up hs ht (by omega) hd1 (by omega) h2 he1 he2
end Go.Proofs.YtjpiplplohapnaaGreatDoor.Dc
