/- Part 5 of the proof: PHy, Ad, Fl, BigA, RDig, BigB, LInt. -/
import Derived.Test.YtjpiplplohapnaaGreatDoorRi4
import Derived.IntWalk
set_option linter.unusedVariables false
set_option linter.unusedSimpArgs false
namespace Go.Proofs.YtjpiplplohapnaaGreatDoor
open Go.RowKit Go.Proofs.YtjpiplplohapnaaGreatDoorW.PrintWords Rf Ah
def ZeroR (ng : Bool) (s : ByteArray) (q : Out) (x : Nat) (n : Int) (er : Option Int) : Prop := x = (if ng then 9223372036854775808 else 0) ∧ n = ((s.size - q.rest.length : Nat) : Int) ∧ er = none
theorem bool2_u64t (w : World) : Calls Tryz.prog 150 #[.bool true] w fun e w' => e = .returned (.int .u64 1) ∧ Below w.heap.size w w' :=
  (PText.strconv_bool2_uint64.calls true 1 w (by decide +kernel)).mono fun _ _ ⟨h1, h2⟩ => ⟨h1, h2.below⟩
set_option maxRecDepth 100000 in
set_option maxHeartbeats 2000000 in
theorem atof64_zero (ng : Bool) (s : ByteArray) (q : Out) (hm : q.m = 0) (hu : q.us = false) (hsp : ∀ w, Calls Tryz.prog 141 #[.string s] w (NoSpecial w)) (hrf : ∀ w, Calls Tryz.prog 142 #[.string s] w (RfPost ng false s (some q) w))
    (w : World) (hL : Laid w) : Calls Tryz.prog 112 #[.string s] w (AtPost (ZeroR ng s q) w) := by
  have HRF := Lib.hid hrf
  clear hrf
  have ho := hL.optCell
  obtain ⟨qm, qe, qt, qu, qr⟩ := q
  dsimp only at hm hu
  subst hm
  subst hu
  clear hL
  go_enter Tryz.func112, Tryz.ntmps112
  go_wp2_with fail
  refine (hsp _).mono ?_
  rintro e w' ⟨rfl, hww⟩
  obtain rfl := hww.symm
  clear hww hsp
  go_wp2_with fail
  refine (HRF.out _).mono ?_
  rintro e w' ⟨hww, ok, hok, rfl⟩
  obtain rfl := hww.symm
  obtain rfl := hok rfl
  clear hww HRF hok
  dsimp only
  obtain ⟨n, hn⟩ : ∃ n, n = s.size - qr.length := ⟨_, rfl⟩
  have HN := Lib.hid hn
  rw [← hn]
  clear hn
  have k1 : Go.bits .or .u64 0 0 = 0 := by decide +kernel
  have k2 : Go.bits .or .u64 9223372036854775808 0 = 9223372036854775808 := by decide +kernel
  have hf1 : ∀ W, (callFunc 151 #[.int .u64 0]).run Tryz.prog W = .ok (.value (.float .f64 0)) W := fun W => from151 0 W
  have hf2 : ∀ W, (callFunc 151 #[.int .u64 9223372036854775808]).run Tryz.prog W = .ok (.value (.float .f64 9223372036854775808)) W := fun W => from151 9223372036854775808 W
  cases ng
  · go_wp2_with fail
    refine (bool2_u64f _).mono ?_
    rintro e w1 ⟨rfl, hb1⟩
    go_wp2_with fail
    go_ret3
    exact ⟨0, n, none, ⟨rfl, by rw [HN.out], rfl⟩, Or.inl rfl, rfl, hb1⟩
  · go_wp2_with fail
    refine (bool2_u64t _).mono ?_
    rintro e w1 ⟨rfl, hb1⟩
    go_wp2_with fail
    go_ret3
    exact ⟨9223372036854775808, n, none, ⟨rfl, by rw [HN.out], rfl⟩, Or.inl rfl, rfl, hb1⟩
theorem list0 {s : ByteArray} {a : UInt8} {l : List UInt8} (h : s.data.toList = a :: l) (h0 : 0 < s.size) : s[0] = a := by
  have : s.data.toList[0]? = some a := by rw [h]; rfl
  have h2 : s.data.toList[0]? = some s[0] := by
    rw [Array.getElem?_toList]; exact Array.getElem?_eq_getElem h0
  exact Option.some.inj (h2.symm.trans this)
theorem list1 {s : ByteArray} {a b : UInt8} {l : List UInt8} (h : s.data.toList = a :: b :: l) (h0 : 1 < s.size) : s[1] = b := by
  have : s.data.toList[1]? = some b := by rw [h]; rfl
  have h2 : s.data.toList[1]? = some s[1] := by
    rw [Array.getElem?_toList]; exact Array.getElem?_eq_getElem h0
  exact Option.some.inj (h2.symm.trans this)
end Go.Proofs.YtjpiplplohapnaaGreatDoor
namespace Go.Proofs.YtjpiplplohapnaaGreatDoor
open Go.RowKit Go.Proofs.YtjpiplplohapnaaGreatDoorW.PrintWords Rf Nr Us
def DecR (ng : Bool) (s : ByteArray) (q : Out) (x : Nat) (n : Int) (er : Option Int) : Prop :=
  n = ((s.size - q.rest.length : Nat) : Int) ∧ ∃ r, Near (dN q.m q.e) (dD q.e) r ∧ ((r < 9218868437227405312 ∧ x = Ieee.double.word ng r ∧ er = none) ∨ (9218868437227405312 ≤ r ∧ x = Ieee.double.word ng 9218868437227405312 ∧ er = some 1))
theorem bool2_sg (ng : Bool) (w : World) : Calls Tryz.prog 150 #[.bool ng] w fun e w' => e = .returned (.int .u64 ((if ng then 1 else 0 : Nat) : Int)) ∧ Below w.heap.size w w' :=
  (bool2_u64b ng w).mono fun _ _ ⟨h1, n, h2⟩ => ⟨h1, h2 ▸ below_drewN (Below.refl _ _) n⟩
set_option maxRecDepth 100000 in
set_option maxHeartbeats 2000000 in
theorem atof64_dec (ng : Bool) (s : ByteArray) (q : Out) (hm : q.m ≠ 0) (hm2 : q.m < 18446744073709551616) (he1 : -300000 ≤ q.e) (he2 : q.e ≤ 300000) (hu : q.us = false) (ht : q.tr = false)
    (hsp : ∀ w, Calls Tryz.prog 141 #[.string s] w (NoSpecial w)) (hrf : ∀ w, Calls Tryz.prog 142 #[.string s] w (RfPost ng false s (some q) w))
    (w : World) (hL : Laid w) : Calls Tryz.prog 112 #[.string s] w (AtPost (DecR ng s q) w) := by
  have HRF := Lib.hid hrf
  clear hrf
  have ho := hL.optCell
  obtain ⟨qm, qe, qt, qu, qr⟩ := q
  dsimp only at hm hm2 he1 he2 hu ht
  subst hu
  subst ht
  obtain ⟨n, hn⟩ : ∃ n, n = s.size - qr.length := ⟨_, rfl⟩
  have HM2 := Lib.hid hm2
  have HM := Lib.hid hm
  have hqm : ((qm : Int) == 0) = false := by simp; omega
  clear hm hm2
  have hL3 : Hid (∀ w3, Below w.heap.size w w3 → Laid w3) := Lib.hid fun w3 h => hL.below h
  clear hL
  have hsh : IntKind.u64.wrap (((if ng then 1 else 0 : Nat) : Int) * 9223372036854775808) = (sgB ng : Int) := by cases ng <;> decide +kernel
  have HB := Lib.hid (bool2_sg ng)
  have HSG := Lib.hid (show ∀ v : Nat, v < 9223372036854775808 → Go.bits .or .u64 (sgB ng : Int) (v : Int) = ((Ieee.double.word ng v : Nat) : Int) from fun v hv => by rw [word_sgB]; exact or_sgB ng v hv)
  generalize ((if ng then 1 else 0 : Nat) : Int) = sg1 at *
  go_enter Tryz.func112, Tryz.ntmps112
  go_wp2_with fail
  refine (hsp _).mono ?_
  rintro e w' ⟨rfl, hww⟩
  obtain rfl := hww.symm
  clear hww hsp
  go_wp2_with fail
  refine (HRF.out _).mono ?_
  rintro e w' ⟨hww, ok, hok, rfl⟩
  obtain rfl := hww.symm
  obtain rfl := hok rfl
  clear hww HRF hok
  dsimp only
  have HN := Lib.hid hn
  rw [← hn]
  clear hn
  go_wp2_with fail
  refine (HB.out _).mono ?_
  rintro e w1 ⟨rfl, hb1⟩
  clear HB
  by_cases c1 : 310 < qe
  · obtain ⟨r, hr1, hr2⟩ := too_great HM.out c1
    have ho1 := HSG.out 9218868437227405312 (by decide)
    have hf := from151i (Ieee.double.word ng 9218868437227405312)
    have HR := Lib.hid hr1
    have HR2 := Lib.hid hr2
    clear hr1 hr2
    obtain ⟨Z, hZ⟩ : ∃ Z, Z = Ieee.double.word ng 9218868437227405312 := ⟨_, rfl⟩
    have HX := Lib.hid hZ
    rw [← hZ] at ho1 hf
    have ho2 : Go.bits .or .u64 (sgB ng : Int) 9218868437227405312 = (Z : Int) := ho1
    clear hZ HSG ho1
    go_wp2_with fail
    go_ret3
    exact ⟨Z, n, some 1, ⟨by rw [HN.out], r, HR.out, Or.inr ⟨HR2.out, HX.out, rfl⟩⟩, Or.inr (Or.inl rfl), rfl, hb1⟩
  · by_cases c2 : qe < -345
    · have hr1 := too_small (d := qm) HM2.out c2
      have ho1 := HSG.out 0 (by decide)
      have hf := from151i (Ieee.double.word ng 0)
      have HR := Lib.hid hr1
      clear hr1
      obtain ⟨Z, hZ⟩ : ∃ Z, Z = Ieee.double.word ng 0 := ⟨_, rfl⟩
      have HX := Lib.hid hZ
      rw [← hZ] at ho1 hf
      have ho2 : Go.bits .or .u64 (sgB ng : Int) 0 = (Z : Int) := ho1
      clear hZ HSG
      go_wp2_with fail
      go_ret3
      exact ⟨Z, n, none, ⟨by rw [HN.out], 0, HR.out, Or.inl ⟨by decide, HX.out, rfl⟩⟩, Or.inl rfl, rfl, hb1⟩
    · have HE := Lib.hid (atof64exact_walk w1 (hL3.out _ hb1) qm HM.out qe ng)
      clear HSG
      go_wp2_with fail
      refine HE.out.mono ?_
      rintro e w2 ⟨hb2, x, ok, rfl, hx⟩
      have hb02 := hb1.trans (hb2.mono hb1.size)
      clear HE
      cases ok
      · clear hx
        obtain ⟨i, hi⟩ : ∃ i : Nat, qe + 348 = i := ⟨(qe + 348).toNat, by omega⟩
        obtain ⟨r, hr⟩ : ∃ r, Pinned.pow10Rows[i]? = some r := ⟨_, List.getElem?_eq_getElem (by rw [rows_len]; omega)⟩
        have HP := Lib.hid (parse64_walk w2 (hL3.out _ hb02) qm HM.out HM2.out qe i r hr hi ng)
        clear hr hi hL3
        go_wp2_with fail
        refine HP.out.mono ?_
        rintro e w3 ⟨r, hr, hb3, hres⟩
        have hb03 := hb02.trans (hb3.mono hb02.size)
        have HR := Lib.hid hr
        clear hr HP
        rcases hres with ⟨hr1, rfl⟩ | ⟨hr1, rfl⟩
        · have HR1 := Lib.hid hr1
          clear hr1
          obtain ⟨Z, hZ⟩ : ∃ Z, Z = Ieee.double.word ng r := ⟨_, rfl⟩
          have HX := Lib.hid hZ
          rw [← hZ]
          clear hZ
          go_wp2_with fail
          go_ret3
          exact ⟨Z, n, none, ⟨by rw [HN.out], r, HR.out, Or.inl ⟨HR1.out, HX.out, rfl⟩⟩, Or.inl rfl, rfl, hb03⟩
        · have HR1 := Lib.hid hr1
          clear hr1
          obtain ⟨Z, hZ⟩ : ∃ Z, Z = Ieee.double.word ng 9218868437227405312 := ⟨_, rfl⟩
          have HX := Lib.hid hZ
          rw [← hZ]
          clear hZ
          go_wp2_with fail
          go_ret3
          exact ⟨Z, n, some 1, ⟨by rw [HN.out], r, HR.out, Or.inr ⟨HR1.out, HX.out, rfl⟩⟩, Or.inr (Or.inl rfl), rfl, hb03⟩
      · obtain ⟨r, hr1, hr2, hr3⟩ := hx rfl
        have HR := Lib.hid hr1
        have HR1 := Lib.hid hr2
        have HX := Lib.hid hr3
        clear hr1 hr2 hr3 hx hL3
        go_wp2_with fail
        go_ret3
        exact ⟨x, n, none, ⟨by rw [HN.out], r, HR.out, Or.inl ⟨HR1.out, HX.out, rfl⟩⟩, Or.inl rfl, rfl, hb02⟩
end Go.Proofs.YtjpiplplohapnaaGreatDoor
namespace Go.Proofs.YtjpiplplohapnaaGreatDoor.Rf
def dl : List UInt8 → Nat
  | [] => 0
  | c :: l => if 48 ≤ c.toNat ∧ c.toNat ≤ 57 then dl l + 1 else 0
theorem dl_le : ∀ l : List UInt8, dl l ≤ l.length
  | [] => Nat.le_refl _
  | c :: l => by
    rw [dl]
    have := dl_le l
    split
    · simp; omega
    · simp
theorem dl_all : ∀ l : List UInt8, dl l = l.length → ∀ c ∈ l, Num.isD c
  | [], _ => by simp
  | c :: l, h => by
    rw [dl] at h
    split at h
    · rename_i hc
      have := dl_all l (by simpa using h)
      intro d hd
      rcases List.mem_cons.1 hd with rfl | hd
      · exact hc
      · exact this d hd
    · simp at h
theorem dl_of_all : ∀ (l r : List UInt8), (∀ c ∈ l, Num.isD c) → (∀ c r', r = c :: r' → ¬ Num.isD c) → dl (l ++ r) = l.length
  | [], r, _, h => by
    cases r with
    | nil => rfl
    | cons c r =>
      have hc : ¬ (48 ≤ c.toNat ∧ c.toNat ≤ 57) := h c r rfl
      rw [List.nil_append, dl, if_neg hc]; rfl
  | c :: l, r, h, h2 => by
    have hc : 48 ≤ c.toNat ∧ c.toNat ≤ 57 := h c (by simp)
    rw [List.cons_append, dl, if_pos hc, dl_of_all l r (fun d hd => h d (by simp [hd])) h2]
    rfl
def sgn : List UInt8 → List UInt8
  | [] => []
  | c :: l => if c.toNat = 43 ∨ c.toNat = 45 then l else c :: l
def powD (q : List UInt8) : Bool := decide (dl q = q.length ∧ 1 ≤ q.length ∧ q.length ≤ 4)
def powL : List UInt8 → Bool
  | [] => true
  | c :: r => if c.toNat = 101 then powD (sgn r) else false
def formT : List UInt8 → Bool
  | [] => true
  | c :: r => if c.toNat = 46 then (if dl r = 0 then false else powL (r.drop (dl r))) else powL (c :: r)
def formM (l : List UInt8) : Bool := if dl l = 0 then false else formT (l.drop (dl l))
def formL : List UInt8 → Bool
  | [] => false
  | c :: l => if c.toNat = 45 then formM l else formM (c :: l)
theorem stp_digit {c : UInt8} (hc : Num.isD c) {t : St} (h0 : t.nd ≠ 0) (hn : t.nm < 19) : stp false c.toNat t = some { t with sd := true, nd := t.nd + 1, nm := t.nm + 1, m := t.m * 10 + (c.toNat - 48) } := by
  have h : 48 ≤ c.toNat ∧ c.toNat ≤ 57 := hc
  unfold stp
  rw [if_neg (by omega), if_neg (by omega), if_pos h, if_neg (by omega), if_pos (show t.nm < mxd false from hn)]
  rfl
theorem scan_digits : ∀ (A r : List UInt8) (us dot : Bool) (nd nm m : Nat) (dp : Int) (tr : Bool), (∀ c ∈ A, Num.isD c) → nd ≠ 0 → nm + A.length ≤ 19 →
    scan false (A ++ r) ⟨us, dot, true, nd, nm, dp, m, tr⟩ = scan false r ⟨us, dot, true, nd + A.length, nm + A.length, dp, Num.dv m A, tr⟩
  | [], r, us, dot, nd, nm, m, dp, tr, _, _, _ => by rw [Num.dv_nil]; rfl
  | c :: A, r, us, dot, nd, nm, m, dp, tr, h, h0, hn => by
    have hl : (c :: A).length = A.length + 1 := rfl
    rw [List.cons_append, scan, stp_digit (h c (by simp)) h0 (show nm < 19 by omega)]
    dsimp only
    rw [scan_digits A r us dot (nd + 1) (nm + 1) (m * 10 + (c.toNat - 48)) dp tr (fun d hd => h d (by simp [hd])) (by omega) (by omega), Num.dv_cons, hl, Nat.mul_comm m 10]
    rw [show nd + 1 + A.length = nd + (A.length + 1) by omega, show nm + 1 + A.length = nm + (A.length + 1) by omega]
theorem stp_e (t : St) : stp false 101 t = none := by
  unfold stp
  rw [if_neg (by omega), if_neg (by omega), if_neg (by omega), if_neg (fun h => Bool.noConfusion h.1)]
def powV (pw : List UInt8) : Int := (esign pw).1 * ((Num.dv 0 (esign pw).2 : Nat) : Int)
theorem esign_sgn (pw : List UInt8) : (esign pw).2 = sgn pw := by
  cases pw with
  | nil => rfl
  | cons c l =>
    unfold esign sgn
    dsimp only
    by_cases h1 : c.toNat = 43
    · rw [if_pos h1, if_pos (Or.inl h1)]
    · rw [if_neg h1]
      by_cases h2 : c.toNat = 45
      · rw [if_pos h2, if_pos (Or.inr h2)]
      · rw [if_neg h2, if_neg (by omega)]
theorem powD_spec {q : List UInt8} (h : powD q = true) : (∀ c ∈ q, Num.isD c) ∧ 1 ≤ q.length ∧ q.length ≤ 4 := by
  have h' := of_decide_eq_true h
  exact ⟨dl_all q h'.1, h'.2⟩
theorem eat_pow (pw : List UInt8) (h : powD (sgn pw) = true) : eat false pw = some (powV pw, false, []) := by
  obtain ⟨h1, h2, h3⟩ := powD_spec h
  have hd := Num.dv_lt (sgn pw) h1 0
  have h4 : 10 ^ (sgn pw).length ≤ 10 ^ 4 := Nat.pow_le_pow_right (by decide) h3
  unfold eat powV
  rw [esign_sgn, if_pos (starts_digits h1 (by intro h; rw [h] at h2; simp at h2)), esc_digits _ 0 h1 (by omega) (Or.inl h3)]
theorem fin_whole (u : Nat) (hu : u < 10000000000000000000) (pw : List UInt8) (h : powD (sgn pw) = true) :
    fin false (scan false (Lib.decDigits u ++ 101 :: pw) st0).1 (scan false (Lib.decDigits u ++ 101 :: pw) st0).2 = some ⟨u, if u = 0 then 0 else powV pw, false, false, []⟩ := by
  have hlw : lw (101 : UInt8).toNat = 101 := by decide +kernel
  have he : ∀ t : St, scan false (101 :: pw) t = (t, 101 :: pw) := fun t => by
    rw [scan, show (101 : UInt8).toNat = 101 from rfl, stp_e]
  by_cases h0 : u = 0
  · subst h0
    have h1 : Lib.decDigits 0 = [48] := by rw [Lib.decDigits]; rfl
    have h2 : stp false 48 st0 = some ⟨false, false, true, 0, 0, -1, 0, false⟩ := by kernel_rfl
    rw [h1, List.cons_append, List.nil_append, scan, show (48 : UInt8).toNat = 48 from rfl, h2]
    dsimp only
    rw [he]
    unfold fin
    dsimp only
    rw [if_pos rfl, expPart_hit_d hlw, eat_pow pw h]
    rfl
  · have hc := Num.dec_canon u
    have hv := Num.dv_dec u
    have hdg := Num.dec_digits u
    generalize Lib.decDigits u = l at *
    cases l with
    | nil => exact absurd rfl hc.1
    | cons c A =>
      have hcd : 48 ≤ c.toNat ∧ c.toNat ≤ 57 := hdg c (by simp)
      have hne : c.toNat ≠ 48 := by
        intro h48
        have : c = 48 := UInt8.toNat_inj.1 h48
        subst this
        have := hc.2.2 rfl
        have hA : A = [] := by
          cases A with
          | nil => rfl
          | cons _ _ => simp at this
        subst hA
        rw [Num.dv_cons, Num.dv_nil] at hv
        exact h0 (by rw [← hv]; rfl)
      have h2 : stp false c.toNat st0 = some ⟨false, false, true, 1, 1, 0, c.toNat - 48, false⟩ := by
        unfold stp
        rw [if_neg (by omega), if_neg (by omega), if_pos hcd, if_neg (by omega), if_pos (by decide)]
        show some (St.mk false false true (0 + 1) (0 + 1) 0 (0 * bs false + (c.toNat - 48)) false) = _
        rw [Nat.zero_mul, Nat.zero_add, Nat.zero_add]
      have hlen : A.length ≤ 18 := by
        have g := Num.dv_ge A (c.toNat - 48)
        rw [Num.dv_cons, show 10 * 0 + (c.toNat - 48) = c.toNat - 48 by omega] at hv
        rw [hv] at g
        rcases Nat.lt_or_ge 18 A.length with g2 | g2
        · exfalso
          have g3 : 10 ^ 19 ≤ 10 ^ A.length := Nat.pow_le_pow_right (by decide) g2
          have g4 : 1 * 10 ^ A.length ≤ (c.toNat - 48) * 10 ^ A.length := Nat.mul_le_mul_right _ (by omega)
          omega
        · exact g2
      rw [List.cons_append, scan, h2]
      dsimp only
      rw [scan_digits A (101 :: pw) false false 1 1 (c.toNat - 48) 0 false (fun d hd => hdg d (by simp [hd])) (by decide) (by omega), he]
      rw [Num.dv_cons, show 10 * 0 + (c.toNat - 48) = c.toNat - 48 by omega] at hv
      rw [hv]
      unfold fin
      dsimp only
      rw [if_pos rfl, expPart_hit_d hlw, eat_pow pw h]
      show some (Out.mk u (if u = 0 then 0 else dpv false ⟨false, false, true, 1 + A.length, 1 + A.length, 0, u, false⟩ + powV pw - nmv false ⟨false, false, true, 1 + A.length, 1 + A.length, 0, u, false⟩) false false []) = _
      rw [if_neg h0, if_neg h0]
      unfold dpv nmv
      dsimp only
      congr 2
      simp
      omega
theorem form_whole (n : Int) (pw : List UInt8) : formL (Lib.itoa n ++ 101 :: pw) = powD (sgn pw) := by
  have key : ∀ u : Nat, formM (Lib.decDigits u ++ 101 :: pw) = powD (sgn pw) := by
    intro u
    have hd := Num.dec_digits u
    have hne := Num.dec_ne u
    generalize Lib.decDigits u = l at *
    have e := dl_of_all l (101 :: pw) hd (fun c r' h => by
      obtain ⟨rfl, -⟩ := List.cons.inj h
      decide)
    unfold formM
    rw [e, if_neg (by intro h; exact hne (List.length_eq_zero_iff.1 h)), List.drop_left]
    rfl
  unfold Lib.itoa
  by_cases h : n < 0
  · rw [if_pos h]
    exact key _
  · rw [if_neg h]
    have hd := Num.dec_digits n.toNat
    have hne := Num.dec_ne n.toNat
    have k := key n.toNat
    generalize Lib.decDigits n.toNat = l at *
    cases l with
    | nil => exact absurd rfl hne
    | cons c A =>
      have hc : 48 ≤ c.toNat ∧ c.toNat ≤ 57 := hd c (by simp)
      rw [List.cons_append] at k ⊢
      unfold formL
      dsimp only
      rw [if_neg (by omega)]
      exact k
end Go.Proofs.YtjpiplplohapnaaGreatDoor.Rf
namespace Go.Proofs.YtjpiplplohapnaaGreatDoor.Big
open Go.Proofs.YtjpiplplohapnaaGreatDoorW.PrintWords Go.Proofs.YtjpiplplohapnaaGreatDoorW.PrintMore
abbrev B : Nat := 4294967296
theorem Bpos : 0 < B := by decide
theorem Bpow_pos (i : Nat) : 0 < B ^ i := Nat.pow_pos Bpos
def dig (m i : Nat) : Nat := m / B ^ i % B
def dgL : Nat → Nat → List Int
  | 0, _ => []
  | L + 1, n => ((n % B : Nat) : Int) :: dgL L (n / B)
@[simp] theorem dgL_length (L n : Nat) : (dgL L n).length = L := by
  induction L generalizing n with
  | zero => rfl
  | succ L ih => simp [dgL, ih]
theorem dig_zero (m : Nat) : dig m 0 = m % B := by simp [dig]
theorem dig_succ (m i : Nat) : dig m (i + 1) = dig (m / B) i := by
  unfold dig
  rw [Nat.pow_succ, Nat.mul_comm, ← Nat.div_div_eq_div_mul]
theorem dgL_getD (L n i : Nat) (h : i < L) : (dgL L n).getD i 0 = (dig n i : Nat) := by
  induction L generalizing n i with
  | zero => omega
  | succ L ih =>
    cases i with
    | zero => simp [dgL, dig_zero]
    | succ i => rw [dig_succ, ← ih (n / B) i (by omega)]; simp [dgL]
theorem rd_dgL (L n : Nat) (i : Nat) (h : i < L) : rd (dgL L n) (i : Int) = (dig n i : Nat) := by
  unfold rd; rw [Int.toNat_natCast]; exact dgL_getD L n i h
theorem split_at (m j : Nat) : m = m / B ^ (j + 1) * B ^ (j + 1) + dig m j * B ^ j + m % B ^ j := by
  have h1 := Nat.div_add_mod m (B ^ j)
  have h2 := Nat.div_add_mod (m / B ^ j) B
  rw [Nat.div_div_eq_div_mul, ← Nat.pow_succ] at h2
  unfold dig
  have h3 : B ^ j * (m / B ^ j) = m / B ^ (j + 1) * B ^ (j + 1) + m / B ^ j % B * B ^ j := by
    rw [← h2, Nat.mul_add, Nat.pow_succ]
    have e : (B * (m / (B ^ j * B)) + m / B ^ j % B) / 1 = (B * (m / (B ^ j * B)) + m / B ^ j % B) := Nat.div_one _
    have e2 : (B * (m / (B ^ j * B)) + m / B ^ j % B) % B = m / B ^ j % B := by
      rw [Nat.mul_add_mod, Nat.mod_mod]
    rw [e2]
    rw [Nat.mul_comm (m / (B ^ j * B)) (B ^ j * B), Nat.mul_assoc, Nat.mul_comm (B ^ j) (m / B ^ j % B)]
  omega
def ln (n : Nat) : Nat := if h : n = 0 then 0 else ln (n / B) + 1
termination_by n
decreasing_by exact Nat.div_lt_self (Nat.pos_of_ne_zero h) (by decide)
theorem ln_zero : ln 0 = 0 := by rw [ln]; simp
theorem ln_pos {n : Nat} (h : n ≠ 0) : ln n = ln (n / B) + 1 := by rw [ln]; simp [h]
def dg (n : Nat) : List Int := dgL (ln n) n
theorem lt_pow_ln (n : Nat) : n < B ^ ln n := by
  induction n using Nat.strongRecOn with
  | ind n ih =>
    by_cases h : n = 0
    · subst h; rw [ln_zero]; decide
    · have := ih (n / B) (Nat.div_lt_self (Nat.pos_of_ne_zero h) (by decide))
      rw [ln_pos h, Nat.pow_succ]
      have h1 := Nat.div_add_mod n B
      have h2 := Nat.mod_lt n Bpos
      have : n / B + 1 ≤ B ^ ln (n / B) := this
      have := Nat.mul_le_mul_right B this
      rw [Nat.add_mul] at this
      rw [Nat.mul_comm B] at h1
      omega
theorem pow_ln_le (n : Nat) (h : n ≠ 0) : B ^ (ln n - 1) ≤ n := by
  induction n using Nat.strongRecOn with
  | ind n ih =>
    rw [ln_pos h, Nat.add_sub_cancel]
    by_cases h0 : n / B = 0
    · rw [h0, ln_zero]; simp; omega
    · have := ih (n / B) (Nat.div_lt_self (Nat.pos_of_ne_zero h) (by decide)) h0
      have e : ln (n / B) = ln (n / B) - 1 + 1 := by rw [ln_pos h0]; omega
      rw [e, Nat.pow_succ]
      exact Nat.le_trans (Nat.mul_le_mul_right B this) (Nat.div_mul_le_self n B)
theorem ln_le {n L : Nat} (h : n < B ^ L) : ln n ≤ L := by
  by_cases h0 : n = 0
  · subst h0; rw [ln_zero]; omega
  · have h1 := pow_ln_le n h0
    have h2 : B ^ (ln n - 1) < B ^ L := Nat.lt_of_le_of_lt h1 h
    have h3 := (Nat.pow_lt_pow_iff_right (by decide : 1 < B)).1 h2
    omega
theorem dig_of_lt {n i : Nat} (h : n < B ^ i) : dig n i = 0 := by
  unfold dig; rw [Nat.div_eq_of_lt h]; rfl
theorem dig_ge_ln {n i : Nat} (h : ln n ≤ i) : dig n i = 0 :=
  dig_of_lt (Nat.lt_of_lt_of_le (lt_pow_ln n) (Nat.pow_le_pow_right Bpos h))
theorem take_dgL (L n i : Nat) (h : i ≤ L) : (dgL L n).take i = dgL i n := by
  induction L generalizing n i with
  | zero => obtain rfl : i = 0 := by omega
            rfl
  | succ L ih =>
    cases i with
    | zero => rfl
    | succ i => simp [dgL, ih (n / B) i (by omega)]
theorem w64 {x : Int} (h0 : -9223372036854775808 ≤ x) (h : x < 9223372036854775808) : Go.RowKit.wrap64 x = x := by unfold Go.RowKit.wrap64; omega
theorem wu {x : Int} (h0 : 0 ≤ x) (h : x < 18446744073709551616) : IntKind.u64.wrap x = x := IntWalk.u64_in x (by omega)
theorem wun (n : Nat) (h : n < 18446744073709551616) : IntKind.u64.wrap (n : Int) = (n : Int) := wu (by omega) (by omega)
end Go.Proofs.YtjpiplplohapnaaGreatDoor.Big
namespace Go.Proofs.YtjpiplplohapnaaGreatDoor.PText
open Go.RowKit Go.Proofs.YtjpiplplohapnaaGreatDoorW.PrintWords Go.Proofs.YtjpiplplohapnaaGreatDoorW.PrintLast Go.Proofs.YtjpiplplohapnaaGreatDoorW.PrintMore
attribute [local go_sem] max2_int min2_int max_two min_two max_three min_three max_four min_four
set_option linter.unusedVariables false
set_option linter.unusedSimpArgs false
def tenorref1_trim.l0 : Nat → List Int → Int → Option (List Int)
  | 0, _, _ => none
  | k + 1, x0, x3 => if x3 > 0 then (if 0 ≤ (wrap64 (x3 - 1)) then (if (wrap64 (x3 - 1)) < (x0.length : Int) then (if (rd x0 (wrap64 (x3 - 1))) = 0 then (tenorref1_trim.l0 k x0 (wrap64 (x3 - 1))) else (if 0 ≤ x3 then (if x3 ≤ (x0.length : Int) then (some (x0.take (x3 : Int).toNat)) else (none)) else (none))) else (none)) else (none)) else (if 0 ≤ x3 then (if x3 ≤ (x0.length : Int) then (some (x0.take (x3 : Int).toNat)) else (none)) else (none))
def tenorref1_trim.f (k : Nat) (l0 : List Int) : Option (List Int) := tenorref1_trim.l0 k l0 (l0.length : Int)
def tenorref1_Digits.f (k : Nat) (a0 : Int) : Option (List Int) := (tenorref1_trim.f k (([Int.tmod a0 4294967296, IntKind.u64.wrap (Int.tdiv a0 4294967296)] : List Int))).bind fun t174 => (some t174)
end Go.Proofs.YtjpiplplohapnaaGreatDoor.PText
namespace Go.Proofs.YtjpiplplohapnaaGreatDoor.Big
open Go.RowKit Go.Proofs.YtjpiplplohapnaaGreatDoorW.PrintWords Go.Proofs.YtjpiplplohapnaaGreatDoorW.PrintLast Go.Proofs.YtjpiplplohapnaaGreatDoorW.PrintMore
open Go.Proofs.YtjpiplplohapnaaGreatDoor.PText
abbrev top : Nat := 1000000000
theorem trim_l0 (L n : Nat) (hL : L ≤ top) (i : Nat) (hi : i ≤ L) (hn : n < B ^ i) : Ev (fun k => tenorref1_trim.l0 k (dgL L n) (i : Int)) (dg n) := by
  induction i with
  | zero =>
    refine Ev.step (f := fun _ => some (dg n)) (fun k => ?_) (Ev.now _)
    have : n = 0 := by simpa using hn
    subst this
    simp only [tenorref1_trim.l0]
    rw [if_neg (by omega), if_pos (by omega), if_pos (by simp)]
    simp [dg, ln_zero, dgL]
  | succ i ih =>
    have e : wrap64 (((i + 1 : Nat) : Int) - 1) = (i : Int) := by rw [w64 (by omega) (by unfold top at hL; omega)]; omega
    by_cases h0 : dig n i = 0
    · have hn' : n < B ^ i := by
        have := split_at n i
        rw [h0, Nat.div_eq_of_lt hn] at this
        have h2 := Nat.mod_lt n (Bpow_pos i)
        omega
      refine Ev.step (fun k => ?_) (ih (by omega) hn')
      simp only [tenorref1_trim.l0]
      rw [e, if_pos (by omega), if_pos (by omega), if_pos (by simp; omega), rd_dgL _ _ _ (by omega), h0, if_pos (by simp)]
    · refine Ev.step (f := fun _ => some (dg n)) (fun k => ?_) (Ev.now _)
      simp only [tenorref1_trim.l0]
      rw [e, if_pos (by omega), if_pos (by omega), if_pos (by simp; omega), rd_dgL _ _ _ (by omega), if_neg (by omega), if_pos (by omega), if_pos (by simp; omega)]
      have hl : ln n = i + 1 := by
        have h1 := ln_le hn
        by_cases h2 : ln n ≤ i
        · exact absurd (dig_ge_ln h2) h0
        · omega
      rw [Int.toNat_natCast, take_dgL _ _ _ hi, dg, hl]
theorem trim_ev (L n : Nat) (hL : L ≤ top) (hn : n < B ^ L) : Ev (fun k => tenorref1_trim.f k (dgL L n)) (dg n) := by
  unfold tenorref1_trim.f
  rw [dgL_length]
  exact trim_l0 L n hL L (Nat.le_refl _) hn
theorem divB_lt (s q : Nat) (h : s < q * 4294967296) : s / B < q := Nat.div_lt_of_lt_mul (by rw [Nat.mul_comm]; exact h)
theorem digits_ev (n : Nat) (h : n < 18446744073709551616) : Ev (fun k => tenorref1_Digits.f k (n : Int)) (dg n) := by
  have hB : B = 4294967296 := rfl
  have e5 : Int.tmod (n : Int) 4294967296 = ((n % B : Nat) : Int) := by rw [Int.tmod_eq_emod_of_nonneg (by omega)]; rfl
  have e6 : Int.tdiv (n : Int) 4294967296 = ((n / B : Nat) : Int) := by rw [Int.tdiv_eq_ediv_of_nonneg (by omega)]; rfl
  have e : ([Int.tmod (n : Int) 4294967296, IntKind.u64.wrap (Int.tdiv (n : Int) 4294967296)] : List Int) = dgL 2 n := by
    have hq : n / B < B := divB_lt n B (by omega)
    rw [e5, e6, wun _ (by omega)]
    have : n / B % B = n / B := Nat.mod_eq_of_lt hq
    simp [dgL, this]
  refine Ev.congr (fun k => ?_) (Ev.bind (f := fun _ t => some t) (trim_ev 2 n (by decide) (by omega)) (Ev.now _))
  unfold tenorref1_Digits.f
  rw [e]
end Go.Proofs.YtjpiplplohapnaaGreatDoor.Big
namespace Go.Proofs.YtjpiplplohapnaaGreatDoor.Big
open Go.RowKit Go.Proofs.YtjpiplplohapnaaGreatDoorW.PrintWords Go.Proofs.YtjpiplplohapnaaGreatDoorW.PrintLast Go.Proofs.YtjpiplplohapnaaGreatDoorW.PrintMore
open Go.Proofs.YtjpiplplohapnaaGreatDoor.PText Go.Proofs.YtjpiplplohapnaaGreatDoor.Num
theorem bt_nat (s : ByteArray) (j : Nat) (h : j < s.size) : bt s (j : Int) = ((s[j]'h).toNat : Int) := by
  unfold bt
  rw [dif_pos (by simpa using h)]
  simp
end Go.Proofs.YtjpiplplohapnaaGreatDoor.Big
