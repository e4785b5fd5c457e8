/- Part 14 of the proof: At, Fl, BigA, LInt, Fo, AwK, Pa. -/
import Derived.Test.YtjpiplplohapnaaGreatDoorPl13
import Derived.IntWalk
import Derived.Deep.CutBlock
import Derived.Deep.DeepCutAuto
set_option linter.unusedVariables false
set_option linter.unusedSimpArgs false
namespace Go.Proofs.YtjpiplplohapnaaGreatDoor
open Go.RowKit Go.Proofs.YtjpiplplohapnaaGreatDoorW.PrintWords Rf Nr Us
theorem read_inf (s : Bool) : Ieee.double.read (Ieee.double.word s 9218868437227405312) = .infinity s := by cases s <;> decide +kernel
theorem V_inj {a b : Nat} (h : V a = V b) : a = b := by
  rcases Nat.lt_trichotomy a b with h1 | h1 | h1
  · have := V_lt h1; omega
  · exact h1
  have := V_lt h1; omega
theorem eq_fin (ng : Bool) (a b : Nat) (ha : a < 9218868437227405312) (hb : b < 9218868437227405312) : (Ieee.double.order (Ieee.double.word ng a) (Ieee.double.word ng b) == some .eq) = decide (a = b) := by
  rw [order_word ng ng a b ha hb]
  by_cases h : a = b
  · subst h
    rw [decide_eq_true rfl, cmp_eq]; rfl
  rw [decide_eq_false h]
  have hne : wV ng a ≠ wV ng b := by
    intro e
    apply h
    apply V_inj
    unfold wV at e
    cases ng
    · rw [if_neg (by decide), if_neg (by decide)] at e; omega
    rw [if_pos rfl, if_pos rfl] at e; omega
  rcases Int.lt_or_gt_of_ne hne with h1 | h1
  · rw [cmp_lt h1]; rfl
  rw [cmp_gt h1]; rfl
theorem eq_inf (ng : Bool) (a : Nat) (ha : a < 9218868437227405312) : (Ieee.double.order (Ieee.double.word ng a) (Ieee.double.word ng 9218868437227405312) == some .eq) = false := by
  unfold Ieee.Format.order
  rw [read_word ng a ha, read_inf]
  cases ng <;> rfl
theorem eq_infs (ng : Bool) : (Ieee.double.order (Ieee.double.word ng 9218868437227405312) (Ieee.double.word ng 9218868437227405312) == some .eq) = true := by
  cases ng <;> decide +kernel
def RungR (ng : Bool) (s : ByteArray) (r : Nat) (x : Nat) (n : Int) (er : Option Int) : Prop := n = (s.size : Int) ∧ ((r < 9218868437227405312 ∧ x = Ieee.double.word ng r ∧ er = none) ∨ (9218868437227405312 ≤ r ∧ x = Ieee.double.word ng 9218868437227405312 ∧ er = some 1))
set_option maxRecDepth 100000 in
set_option maxHeartbeats 4000000 in
theorem atof64_tr (ng : Bool) (s : ByteArray) (hsz : s.size ≤ 400) (qm : Nat) (qe : Int) (hm : 1000000000000000000 ≤ qm) (hm2 : qm < 10000000000000000000) (he1 : -300000 ≤ qe) (he2 : qe ≤ 300000)
    (hsp : ∀ w, Calls Tryz.prog 141 #[.string s] w (NoSpecial w)) (hrf : ∀ w, Calls Tryz.prog 142 #[.string s] w (RfPost ng false s (some ⟨qm, qe, true, false, []⟩) w))
    (S : Dc.St) (hS : Dc.Weak S) (hStr : S.tr = false) (hSn : S.nd ≤ 400) (hSd : S.dp = qe + 19)
    (hset : ∀ w g, Dc.IsDec w g (fun _ => 0) 0 0 false false → Calls Tryz.prog 148 #[.pointer (some ⟨g, 0, none⟩), .string s] w fun e w' => e = .returned (.bool true) ∧ Below g w w' ∧ S.is w' g ng)
    (r : Nat) (hr : Dc.NearS S r) (hb1 : ∀ r1, Near (dN qm qe) (dD qe) r1 → r1 ≤ r) (hb2 : ∀ r2, Near (dN (qm + 1) qe) (dD qe) r2 → r ≤ r2)
    (w : World) (hLD : LaidD w) : Calls Tryz.prog 112 #[.string s] w (AtPost (RungR ng s r) w) := by
  have HRF := Lib.hid hrf
  clear hrf
  have hL := hLD.laid
  have ho := hL.optCell
  have hqm : ((qm : Int) == 0) = false := by simp; omega
  have HM : Hid (qm ≠ 0 ∧ qm < 18446744073709551616 ∧ qm + 1 ≠ 0 ∧ qm + 1 < 18446744073709551616) := Lib.hid ⟨by omega, by omega, by omega, by omega⟩
  have hL3 : Hid (∀ w3, Below w.heap.size w w3 → LaidD w3) := Lib.hid fun w3 h => hLD.below h
  have HSet := Lib.hid hset
  have HB1 := Lib.hid hb1
  have HB2 := Lib.hid hb2
  have HNear := Lib.hid hr
  have HSS : Hid (Dc.Weak S ∧ S.tr = false ∧ S.nd ≤ 400 ∧ S.dp = qe + 19) := Lib.hid ⟨hS, hStr, hSn, hSd⟩
  clear hL hLD hset hb1 hb2 hr hS hStr hSn hSd
  have hsh : IntKind.u64.wrap (((if ng then 1 else 0 : Nat) : Int) * 9223372036854775808) = (sgB ng : Int) := by cases ng <;> decide +kernel
  have HB := Lib.hid (bool2_sg ng)
  have HSG := Lib.hid (show ∀ v : Nat, v < 9223372036854775808 → Go.bits .or .u64 (sgB ng : Int) (v : Int) = ((Ieee.double.word ng v : Nat) : Int) from fun v hv => by rw [word_sgB]; exact or_sgB ng v hv)
  obtain ⟨q1, hq1⟩ : ∃ q1, q1 = qm + 1 := ⟨_, rfl⟩
  have hw1 : IntKind.u64.wrap ((qm : Int) + 1) = (q1 : Int) := by rw [Go.IntKind.wrap_u64]; omega
  have hw1b : (qm : Int) + 1 = (q1 : Int) := by omega
  have hw1c : IntKind.u64.wrap (q1 : Int) = (q1 : Int) := by rw [Go.IntKind.wrap_u64]; omega
  have HQ1 := Lib.hid hq1
  clear hm hm2 hq1
  generalize ((if ng then 1 else 0 : Nat) : Int) = sg1 at *
  go_enter Tryz.func112, Tryz.ntmps112
  go_wp2_with fail
  refine (hsp _).mono ?_
  rintro e w' ⟨rfl, hww⟩
  obtain rfl := hww.symm
  clear hww hsp
  go_wp2_with fail
  refine (HRF.out _).mono ?_
  rintro e w' ⟨hww, ok, hok, rfl⟩
  obtain rfl := hww.symm
  obtain rfl := hok rfl
  clear hww HRF hok
  dsimp only
  have hn0 : s.size - ([] : List UInt8).length = s.size := rfl
  rw [hn0]
  clear hn0
  go_wp2_with fail
  refine (HB.out _).mono ?_
  rintro e w1 ⟨rfl, hbb1⟩
  clear HB
  by_cases c1 : 310 < qe
  · obtain ⟨r1, hr1, hr2⟩ := too_great HM.out.1 c1
    have hle := HB1.out r1 hr1
    have hri : 9218868437227405312 ≤ r := by omega
    have ho1 := HSG.out 9218868437227405312 (by decide)
    have hf := from151i (Ieee.double.word ng 9218868437227405312)
    have HR := Lib.hid hri
    clear hr1 hr2 hle hri
    obtain ⟨Z, hZ⟩ : ∃ Z, Z = Ieee.double.word ng 9218868437227405312 := ⟨_, rfl⟩
    have HX := Lib.hid hZ
    rw [← hZ] at ho1 hf
    have ho2 : Go.bits .or .u64 (sgB ng : Int) 9218868437227405312 = (Z : Int) := ho1
    clear hZ HSG ho1
    go_wp2_with fail
    go_ret3
    exact ⟨Z, s.size, some 1, ⟨rfl, Or.inr ⟨HR.out, HX.out, rfl⟩⟩, Or.inr (Or.inl rfl), rfl, hbb1⟩
  by_cases c2 : qe < -345
  · have hr1 := HB2.out 0 (too_small (d := qm + 1) HM.out.2.2.2 c2)
    have hr0 : r = 0 := by omega
    have ho1 := HSG.out 0 (by decide)
    have hf := from151i (Ieee.double.word ng 0)
    have HR := Lib.hid hr0
    clear hr1 hr0
    obtain ⟨Z, hZ⟩ : ∃ Z, Z = Ieee.double.word ng 0 := ⟨_, rfl⟩
    have HX := Lib.hid hZ
    rw [← hZ] at ho1 hf
    have ho2 : Go.bits .or .u64 (sgB ng : Int) 0 = (Z : Int) := ho1
    clear hZ HSG
    go_wp2_with fail
    go_ret3
    exact ⟨Z, s.size, none, ⟨rfl, Or.inl ⟨by rw [HR.out]; decide, by rw [HR.out]; exact HX.out, rfl⟩⟩, Or.inl rfl, rfl, hbb1⟩
  clear HSG
  obtain ⟨i, hi⟩ : ∃ i : Nat, qe + 348 = i := ⟨(qe + 348).toNat, by omega⟩
  obtain ⟨row, hrow⟩ : ∃ r, Pinned.pow10Rows[i]? = some r := ⟨_, List.getElem?_eq_getElem (by rw [rows_len]; omega)⟩
  have HP := Lib.hid fun W (hW : Laid W) => parse64_walk W hW qm HM.out.1 HM.out.2.1 qe i row hrow hi ng
  have HP2 := Lib.hid fun W (hW : Laid W) => parse64_walk W hW (qm + 1) HM.out.2.2.1 HM.out.2.2.2 qe i row hrow hi ng
  rw [← HQ1.out] at HP2
  have HCC : Hid (-345 ≤ qe ∧ qe ≤ 310) := Lib.hid ⟨by omega, by omega⟩
  clear hrow hi
  go_wp2_with fail
  refine (HP.out _ (hL3.out _ hbb1).laid).mono ?_
  rintro e w2 ⟨r1, hr1, hb2', hres1⟩
  have hb02 := hbb1.trans (hb2'.mono hbb1.size)
  have HR1 := Lib.hid (HB1.out r1 hr1)
  clear hr1 HP hb2'
  rcases hres1 with ⟨hlt1, rfl⟩ | ⟨hge1, rfl⟩
  · have HL1 := Lib.hid hlt1
    clear hlt1
    obtain ⟨X1, hX1⟩ : ∃ X1, X1 = Ieee.double.word ng r1 := ⟨_, rfl⟩
    have HX1 := Lib.hid hX1
    rw [← hX1]
    clear hX1
    go_wp2_with fail
    refine (HP2.out _ (hL3.out _ hb02).laid).mono ?_
    rintro e w3 ⟨r2, hr2, hb3', hres2⟩
    have hb03 := hb02.trans (hb3'.mono hb02.size)
    rw [HQ1.out] at hr2
    have HR2 := Lib.hid (HB2.out r2 hr2)
    clear hr2 HP2 hb3'
    have hres : ∃ (X2 : Nat) (E2 : Value) (b : Bool), e = .returned (.tuple #[.float .f64 X2, E2]) ∧ (FloatKind.f64.format.order X1 X2 == some .eq) = b ∧ (b = true → r2 = r1) := by
      rw [HX1.out]
      rcases hres2 with ⟨hlt2, rfl⟩ | ⟨hge2, rfl⟩
      · exact ⟨_, _, decide (r1 = r2), rfl, eq_fin ng r1 r2 HL1.out hlt2, fun h => (of_decide_eq_true h).symm⟩
      exact ⟨_, _, false, rfl, eq_inf ng r1 HL1.out, fun h => by cases h⟩
    clear hres2
    obtain ⟨X2, E2, b, rfl, heq, hb⟩ := hres
    have HBB := Lib.hid hb
    clear hb
    cases b
    · have HCells := Lib.hid (show Dc.IsDec (w3.alloc (.cells Tryz.zeroCells162 162 (0, 0))) w3.heap.size (fun _ => 0) 0 0 false false by unfold Dc.IsDec; rw [← zero162]; exact blk_new _ _)
      have HBA := Lib.hid (below_alloc (Below.refl w3.heap.size w3) (Obj.cells Tryz.zeroCells162 162 (0, 0)))
      have HB03 := Lib.hid hb03
      clear hbb1 hb02 hb03
      go_wp2_with fail
      refine (HSet.out _ _ HCells.out).mono ?_
      rintro e w4 ⟨rfl, hb4, hs4⟩
      have HB4 := Lib.hid (HBA.out.trans hb4)
      have HF := Lib.hid (fb_all w4 w3.heap.size w3.heap.size (Nat.le_refl _) HB4.out.size (fun w' h => hL3.out w' (HB03.out.trans ((HB4.out.trans h).mono HB03.out.size))) S HSS.out.1 HSS.out.2.1 HSS.out.2.2.1 ng (by have := HSS.out.2.2.2; have := HCC.out; omega) (by have := HSS.out.2.2.2; have := HCC.out; omega) hs4)
      clear hb4 hs4 HCells HBA HSet
      go_wp2_with fail
      refine HF.out.mono ?_
      rintro e w5 ⟨u, ovf, rfl, hans, hb5⟩
      have HB5 := Lib.hid (HB03.out.trans ((HB4.out.trans hb5).mono HB03.out.size))
      have hA := hans r HNear.out
      clear hans hb5 HF HB4
      have hf := from151i u
      rcases hA with ⟨h1, hu, rfl⟩ | ⟨h1, hu, rfl⟩
      · have HR := Lib.hid (And.intro h1 hu)
        clear h1 hu
        go_wp2_with fail
        go_ret3
        exact ⟨u, s.size, none, ⟨rfl, Or.inl ⟨HR.out.1, HR.out.2, rfl⟩⟩, Or.inl rfl, rfl, HB5.out⟩
      have HR := Lib.hid (And.intro h1 hu)
      clear h1 hu
      go_wp2_with fail
      go_ret3
      exact ⟨u, s.size, some 1, ⟨rfl, Or.inr ⟨HR.out.1, HR.out.2, rfl⟩⟩, Or.inr (Or.inl rfl), rfl, HB5.out⟩
    have hr12 : r = r1 := by
      have h1 := HBB.out rfl
      have h2 := HR2.out
      have h3 := HR1.out
      omega
    have HR := Lib.hid hr12
    clear hr12
    go_wp2_with fail
    go_ret3
    exact ⟨X1, s.size, none, ⟨rfl, Or.inl ⟨by rw [HR.out]; exact HL1.out, by rw [HR.out]; exact HX1.out, rfl⟩⟩, Or.inl rfl, rfl, hb03⟩
  have HG1 := Lib.hid hge1
  clear hge1
  obtain ⟨X1, hX1⟩ : ∃ X1, X1 = Ieee.double.word ng 9218868437227405312 := ⟨_, rfl⟩
  have HX1 := Lib.hid hX1
  rw [← hX1]
  clear hX1
  go_wp2_with fail
  refine (HP2.out _ (hL3.out _ hb02).laid).mono ?_
  rintro e w3 ⟨r2, hr2, hb3', hres2⟩
  have hb03 := hb02.trans (hb3'.mono hb02.size)
  rw [HQ1.out] at hr2
  have HR2 := Lib.hid (HB2.out r2 hr2)
  clear hr2 HP2 hb3'
  have hinf : 9218868437227405312 ≤ r := by have := HG1.out; have := HR1.out; omega
  have heq : (FloatKind.f64.format.order X1 X1 == some .eq) = true := by rw [HX1.out]; exact eq_infs ng
  have hres : e = .returned (.tuple #[.float .f64 X1, .iface 113 (.int .i64 1)]) := by
    rw [HX1.out]
    rcases hres2 with ⟨hlt2, -⟩ | ⟨-, rfl⟩
    · exfalso
      have := HR2.out
      omega
    rfl
  clear hres2
  subst hres
  have HI := Lib.hid hinf
  clear hinf
  go_wp2_with fail
  go_ret3
  exact ⟨X1, s.size, some 1, ⟨rfl, Or.inr ⟨HI.out, HX1.out, rfl⟩⟩, Or.inr (Or.inl rfl), rfl, hb03⟩
end Go.Proofs.YtjpiplplohapnaaGreatDoor
namespace Go.Proofs.YtjpiplplohapnaaGreatDoor.Rf
def dl : List UInt8 → Nat
  | [] => 0
  | c :: l => if 48 ≤ c.toNat ∧ c.toNat ≤ 57 then dl l + 1 else 0
theorem dl_le : ∀ l : List UInt8, dl l ≤ l.length
  | [] => Nat.le_refl _
  | c :: l => by
    rw [dl]
    have := dl_le l
    split
    · simp; omega
    simp
theorem dl_all : ∀ l : List UInt8, dl l = l.length → ∀ c ∈ l, Num.isD c
  | [], _ => by simp
  | c :: l, h => by
    rw [dl] at h
    split at h
    · rename_i hc
      have := dl_all l (by simpa using h)
      intro d hd
      rcases List.mem_cons.1 hd with rfl | hd
      · exact hc
      exact this d hd
    simp at h
theorem dl_of_all : ∀ (l r : List UInt8), (∀ c ∈ l, Num.isD c) → (∀ c r', r = c :: r' → ¬ Num.isD c) → dl (l ++ r) = l.length
  | [], r, _, h => by
    cases r with
    | nil => rfl
    | cons c r =>
      have hc : ¬ (48 ≤ c.toNat ∧ c.toNat ≤ 57) := h c r rfl
      rw [List.nil_append, dl, if_neg hc]; rfl
  | c :: l, r, h, h2 => by
    have hc : 48 ≤ c.toNat ∧ c.toNat ≤ 57 := h c (by simp)
    rw [List.cons_append, dl, if_pos hc, dl_of_all l r (fun d hd => h d (by simp [hd])) h2]
    rfl
def sgn : List UInt8 → List UInt8
  | [] => []
  | c :: l => if c.toNat = 43 ∨ c.toNat = 45 then l else c :: l
def powD (q : List UInt8) : Bool := decide (dl q = q.length ∧ 1 ≤ q.length ∧ q.length ≤ 4)
def powL : List UInt8 → Bool
  | [] => true
  | c :: r => if c.toNat = 101 then powD (sgn r) else false
def formT : List UInt8 → Bool
  | [] => true
  | c :: r => if c.toNat = 46 then (if dl r = 0 then false else powL (r.drop (dl r))) else powL (c :: r)
def formM (l : List UInt8) : Bool := if dl l = 0 then false else formT (l.drop (dl l))
def formL : List UInt8 → Bool
  | [] => false
  | c :: l => if c.toNat = 45 then formM l else formM (c :: l)
theorem stp_e (t : St) : stp false 101 t = none := by
  unfold stp
  rw [if_neg (by omega), if_neg (by omega), if_neg (by omega), if_neg (fun h => Bool.noConfusion h.1)]
def powV (pw : List UInt8) : Int := (esign pw).1 * ((Num.dv 0 (esign pw).2 : Nat) : Int)
theorem esign_sgn (pw : List UInt8) : (esign pw).2 = sgn pw := by
  cases pw with
  | nil => rfl
  | cons c l =>
    unfold esign sgn
    dsimp only
    by_cases h1 : c.toNat = 43
    · rw [if_pos h1, if_pos (Or.inl h1)]
    rw [if_neg h1]
    by_cases h2 : c.toNat = 45
    · rw [if_pos h2, if_pos (Or.inr h2)]
    rw [if_neg h2, if_neg (by omega)]
theorem powD_spec {q : List UInt8} (h : powD q = true) : (∀ c ∈ q, Num.isD c) ∧ 1 ≤ q.length ∧ q.length ≤ 4 := by
  have h' := of_decide_eq_true h
  exact ⟨dl_all q h'.1, h'.2⟩
theorem eat_pow (pw : List UInt8) (h : powD (sgn pw) = true) : eat false pw = some (powV pw, false, []) := by
  obtain ⟨h1, h2, h3⟩ := powD_spec h
  have hd := Num.dv_lt (sgn pw) h1 0
  have h4 : 10 ^ (sgn pw).length ≤ 10 ^ 4 := Nat.pow_le_pow_right (by decide) h3
  unfold eat powV
  rw [esign_sgn, if_pos (starts_digits h1 (by intro h; rw [h] at h2; simp at h2)), esc_digits _ 0 h1 (by omega) (Or.inl h3)]
end Go.Proofs.YtjpiplplohapnaaGreatDoor.Rf
namespace Go.Proofs.YtjpiplplohapnaaGreatDoor.Big
open Go.Proofs.YtjpiplplohapnaaGreatDoorW.PrintWords Go.Proofs.YtjpiplplohapnaaGreatDoorW.PrintMore
theorem w64 {x : Int} (h0 : -9223372036854775808 ≤ x) (h : x < 9223372036854775808) : Go.RowKit.wrap64 x = x := by unfold Go.RowKit.wrap64; omega
end Go.Proofs.YtjpiplplohapnaaGreatDoor.Big
namespace Go.Proofs.YtjpiplplohapnaaGreatDoor.Big
open Go.RowKit Go.Proofs.YtjpiplplohapnaaGreatDoorW.PrintWords Go.Proofs.YtjpiplplohapnaaGreatDoorW.PrintLast Go.Proofs.YtjpiplplohapnaaGreatDoorW.PrintMore
open Go.Proofs.YtjpiplplohapnaaGreatDoor.PText Go.Proofs.YtjpiplplohapnaaGreatDoor.Num
theorem bt_nat (s : ByteArray) (j : Nat) (h : j < s.size) : bt s (j : Int) = ((s[j]'h).toNat : Int) := by
  unfold bt
  rw [dif_pos (by simpa using h)]
  simp
end Go.Proofs.YtjpiplplohapnaaGreatDoor.Big
namespace Go.Proofs.YtjpiplplohapnaaGreatDoor
open Go.RowKit Go.Proofs.YtjpiplplohapnaaGreatDoorW.PrintWords Go.Proofs.YtjpiplplohapnaaGreatDoorW.PrintLast Go.Proofs.YtjpiplplohapnaaGreatDoorW.PrintMore Rf Big
theorem digits_ev (s : ByteArray) (hs : s.size ≤ 1000000) : ∀ (n i : Nat), n + i = s.size → Ev (fun k => PText.text_digits.l0 k s (i : Int)) ((i + dl (s.data.toList.drop i) : Nat) : Int)
  | 0, i, h => by
    refine Ev.step (f := fun _ => some (i : Int)) (fun k => ?_) ?_
    · rw [PText.text_digits.l0, if_neg (by omega)]
    rw [List.drop_of_length_le (by rw [Array.length_toList]; show s.size ≤ i; omega)]
    exact Ev.now _
  | n + 1, i, h => by
    have hl : i < s.data.toList.length := by rw [Array.length_toList]; show i < s.size; omega
    have hi : i < s.size := by omega
    have hb : bt s (i : Int) = (s.data.toList[i].toNat : Int) := bt_nat s i hi
    have e : ∀ k, PText.text_digits.l0 (k + 1) s (i : Int) = (if (bt s i) ≥ 48 then (if (bt s i) ≤ 57 then (PText.text_digits.l0 k s (wrap64 ((i : Int) + 1))) else (some (i : Int))) else (some (i : Int))) := by
      intro k
      rw [PText.text_digits.l0, if_pos (by omega), if_pos (by omega)]
    rw [drop_at _ _ hl, dl]
    generalize s.data.toList[i].toNat = c at *
    by_cases c1 : 48 ≤ c ∧ c ≤ 57
    · rw [if_pos c1]
      have := digits_ev s hs n (i + 1) (by omega)
      rw [show i + 1 + dl (List.drop (i + 1) s.data.toList) = i + (dl (List.drop (i + 1) s.data.toList) + 1) by omega] at this
      refine Ev.step (fun k => ?_) this
      rw [e, if_pos (by omega), if_pos (by omega), Big.w64 (by omega) (by omega)]
      rfl
    rw [if_neg c1]
    by_cases c2 : 48 ≤ c
    · exact Ev.step (f := fun _ => some (i : Int)) (fun k => by rw [e, if_pos (by omega), if_neg (by omega)]) (Ev.now _)
    exact Ev.step (f := fun _ => some (i : Int)) (fun k => by rw [e, if_neg (by omega)]) (Ev.now _)
theorem digits_walk (s : ByteArray) (hs : s.size ≤ 1000000) (i : Nat) (hi : i ≤ s.size) (w : World) :
    Calls Tryz.prog 59 #[.string s, .int .i64 i] w fun e w' => (∃ k : Nat, e = .returned (.int .i64 k) ∧ k = i + dl (s.data.toList.drop i)) ∧ Below w.heap.size w w' := by
  obtain ⟨k, hk⟩ := (digits_ev s hs (s.size - i) i (by omega)).rounds
  exact (PText.text_digits.calls k s i _ w hk).mono fun e w' ⟨h1, h2⟩ => ⟨⟨_, h1, rfl⟩, h2.below⟩
theorem drop_len (s : ByteArray) (i : Nat) : (s.data.toList.drop i).length = s.size - i := by
  rw [List.length_drop, Array.length_toList]; rfl
theorem dl_drop (s : ByteArray) (i : Nat) (hi : i ≤ s.size) : i + dl (s.data.toList.drop i) ≤ s.size := by
  have h1 := dl_le (s.data.toList.drop i)
  rw [drop_len] at h1
  omega
theorem drop_byte (s : ByteArray) (i : Nat) (hi : i < s.size) : s.data.toList.drop i = s[i] :: s.data.toList.drop (i + 1) := drop_at s.data.toList i (by rw [Array.length_toList]; exact hi)
theorem drop_end (s : ByteArray) (i : Nat) (hi : s.size ≤ i) : s.data.toList.drop i = [] := List.drop_of_length_le (by rw [Array.length_toList]; exact hi)
theorem formT_point {c : UInt8} {r : List UInt8} (h : c.toNat = 46) : formT (c :: r) = if dl r = 0 then false else powL (r.drop (dl r)) := by unfold formT; exact if_pos h
theorem formT_not {c : UInt8} {r : List UInt8} (h : ¬ c.toNat = 46) : formT (c :: r) = powL (c :: r) := by unfold formT; exact if_neg h
theorem powL_hit {c : UInt8} {r : List UInt8} (h : c.toNat = 101) : powL (c :: r) = powD (sgn r) := by unfold powL; exact if_pos h
theorem powL_not {c : UInt8} {r : List UInt8} (h : ¬ c.toNat = 101) : powL (c :: r) = false := by unfold powL; exact if_neg h
theorem sgn_hit {c : UInt8} {r : List UInt8} (h : c.toNat = 43 ∨ c.toNat = 45) : sgn (c :: r) = r := by unfold sgn; exact if_pos h
theorem sgn_not {c : UInt8} {r : List UInt8} (h : ¬ (c.toNat = 43 ∨ c.toNat = 45)) : sgn (c :: r) = c :: r := by unfold sgn; exact if_neg h
noncomputable def fmCode (n : Nat) : Code := ((Tryz.f23.body.bind (fromR n)).getD .skip)
theorem wp_skip_seq {P : Program} {c : Code} {Q : Exit → Act → World → Prop} {a : Act} {w : World} (h : c.wp P Q a w) : (Code.seq .skip c).wp P Q a w := wp_seq (wp_skip h)
def FmPost (ans : Bool) (w : World) (e : Ending) (w' : World) : Prop := e = .returned (.bool ans) ∧ Below w.heap.size w w'
set_option maxRecDepth 100000 in
set_option maxHeartbeats 4000000 in
theorem formed_end (s : ByteArray) (hs : s.size ≤ 1000) (k7 : Nat) (hk7s : k7 ≤ s.size) (ans : Bool) (hP7 : ans = powD (s.data.toList.drop k7)) (w0 w : World) (hb : Below w0.heap.size w0 w) (c : Code) (n : Nat) {u1 u2 u4 u5 u6 u7 u8 u9 u10 u11 u12 u13 u14 u15 u16 u17 u18 u19 u20 u21 u22 u23 u24 u25 u26 u27 u28 u29 u30 u31 u32 u33 u34 u35 u36 u37 u38 u39 u40 u41 u42 u43 u44 u45 u46 u47 u48 u49 u50 u51 u52 u53 u54 u55 u56 u57 u58 u59 u60 u61 u62 u63 u64 u65 u66 u67 u68 u69 u70 u71 u72 u73 u74 u75 u76 u77 u78 u79 u80 u81 u82 u83 u84 u85 u86 u87 u88 u89 : Value} :
    (fmCode 17).wp Tryz.prog (Exit.hop Tryz.prog c (n + 1) (bodyPost Tryz.prog Tryz.f23 (FmPost ans w0))) ⟨#[.string s, u1, u2, .int .i64 (k7 : Int), u4, u5, u6, u7, u8, u9, u10, u11, u12, u13, u14, u15, u16, u17, u18, u19, u20, u21, u22, u23, u24, u25, u26, u27, u28, u29, u30, u31, u32, u33, u34, u35, u36, u37, u38, u39, u40, u41, u42, u43, u44, u45, u46, u47, u48, u49, u50, u51, u52, u53, u54, u55, u56, u57, u58, u59, u60, u61, u62, u63, u64, u65, u66, u67, u68, u69, u70, u71, u72, u73, u74, u75, u76, u77, u78, u79, u80, u81, u82, u83, u84, u85, u86, u87, u88, u89], []⟩ w := by
  conv => arg 2; whnf
  go_wp2_with fail
  refine (digits_walk s (by omega) k7 hk7s _).mono ?_
  rintro e w9 ⟨⟨k9, rfl, hk9⟩, hb9⟩
  have hb09 := hb.trans (hb9.mono hb.size)
  have hv9 : ans = decide (k9 = s.size ∧ 1 ≤ k9 - k7 ∧ k9 - k7 ≤ 4) := by
    rw [hP7]; unfold powD
    rw [drop_len]
    apply decide_eq_decide.2
    have := dl_drop s k7 (by omega)
    constructor
    · intro ⟨q1, q2, q3⟩; omega
    intro ⟨q1, q2, q3⟩; omega
  have hge : k7 ≤ k9 ∧ k9 ≤ s.size := by have := dl_drop s k7 (by omega); omega
  have hw9 : IntKind.i64.wrap ((k9 : Int) - (k7 : Int)) = ((k9 - k7 : Nat) : Int) := by rw [Go.IntKind.wrap_i64]; omega
  have HG := Lib.hid hge
  clear hk9 hge hP7
  obtain ⟨m9, hm9⟩ : ∃ m : Nat, m = k9 - k7 := ⟨_, rfl⟩
  rw [← hm9] at hv9 hw9
  have hw8 : (k9 : Int) - (k7 : Int) = (m9 : Int) := by have := HG.out; omega
  have hmb : m9 ≤ 1000 := by have := HG.out; omega
  have HV := Lib.hid hv9
  clear hv9 hm9
  by_cases p1 : k9 = s.size
  · have q1 : ((k9 : Int) == (s.size : Int)) = true := by simp [p1]
    by_cases p2 : 1 ≤ m9
    · have q2 : (1 : Int) ≤ m9 := by omega
      have q5 : decide ((1 : Int) ≤ m9) = true := by simp; omega
      have HA : Hid (ans = decide ((m9 : Int) ≤ 4)) := Lib.hid (HV.out.trans (by rw [p1]; simp [p2]; omega))
      obtain ⟨b, hb4⟩ : ∃ b, decide ((m9 : Int) ≤ 4) = b := ⟨_, rfl⟩
      rw [hb4] at HA
      clear p1 p2
      cases b
      · have q3 : ¬ (m9 : Int) ≤ 4 := of_decide_eq_false hb4
        go_wp2_with fail
        try rw [Exit.hop_ret]
        go_ret
        exact ⟨by rw [HA.out]; first | rfl | (congr 1), hb09⟩
      have q3 : (m9 : Int) ≤ 4 := of_decide_eq_true hb4
      go_wp2_with fail
      try rw [Exit.hop_ret]
      go_ret
      exact ⟨by rw [HA.out]; first | rfl | (congr 1), hb09⟩
    have q2 : ¬ (1 : Int) ≤ m9 := by omega
    have q5 : decide ((1 : Int) ≤ m9) = false := by simp; omega
    have HA : Hid (ans = false) := Lib.hid (HV.out.trans (by simp [p2]))
    clear p1 p2
    go_wp2_with fail
    try rw [Exit.hop_ret]
    go_ret
    exact ⟨by rw [HA.out]; first | rfl | (congr 1), hb09⟩
  have q1 : ((k9 : Int) == (s.size : Int)) = false := by simp; omega
  have HA : Hid (ans = false) := Lib.hid (HV.out.trans (by simp [p1]))
  clear p1
  go_wp2_with fail
  try rw [Exit.hop_ret]
  go_ret
  exact ⟨by rw [HA.out]; first | rfl | (congr 1), hb09⟩
set_option maxRecDepth 100000 in
set_option maxHeartbeats 4000000 in
theorem formed_power (s : ByteArray) (hs : s.size ≤ 1000) (i : Nat) (hi : i ≤ s.size) (ans : Bool) (hA : ans = powL (s.data.toList.drop i)) (w0 w : World) (hb : Below w0.heap.size w0 w) (c : Code) (hf : findLabel c 0 = some (.seq .skip (fmCode 19))) (n : Nat) {u1 u2 u4 u5 u6 u7 u8 u9 u10 u11 u12 u13 u14 u15 u16 u17 u18 u19 u20 u21 u22 u23 u24 u25 u26 u27 u28 u29 u30 u31 u32 u33 u34 u35 u36 u37 u38 u39 u40 u41 u42 u43 u44 u45 u46 u47 u48 u49 u50 u51 u52 u53 u54 u55 u56 u57 u58 u59 u60 u61 u62 u63 u64 u65 u66 u67 u68 u69 u70 u71 u72 u73 u74 u75 u76 u77 u78 u79 u80 u81 u82 u83 u84 u85 u86 u87 u88 u89 : Value} :
    (fmCode 11).wp Tryz.prog (Exit.hop Tryz.prog c (n + 1) (bodyPost Tryz.prog Tryz.f23 (FmPost ans w0))) ⟨#[.string s, u1, u2, .int .i64 (i : Int), u4, u5, u6, u7, u8, u9, u10, u11, u12, u13, u14, u15, u16, u17, u18, u19, u20, u21, u22, u23, u24, u25, u26, u27, u28, u29, u30, u31, u32, u33, u34, u35, u36, u37, u38, u39, u40, u41, u42, u43, u44, u45, u46, u47, u48, u49, u50, u51, u52, u53, u54, u55, u56, u57, u58, u59, u60, u61, u62, u63, u64, u65, u66, u67, u68, u69, u70, u71, u72, u73, u74, u75, u76, u77, u78, u79, u80, u81, u82, u83, u84, u85, u86, u87, u88, u89], []⟩ w := by
  conv => arg 2; whnf
  by_cases hke : i < s.size
  · have hkI : (i : Int) < s.size := by omega
    have f1 : ((i : Int) == (s.size : Int)) = false := by simp; omega
    obtain ⟨c2, hc2⟩ : ∃ c : Nat, (s[i]).toNat = c := ⟨_, rfl⟩
    have ec2 : ((s[i].toNat : Nat) : Int) = c2 := by rw [hc2]
    by_cases h101 : c2 = 101
    · have f2 : ((c2 : Int) != 101) = false := by simp [h101]
      have hP : ans = powD (sgn (s.data.toList.drop (i + 1))) := by rw [hA, drop_byte s i hke, powL_hit (by rw [hc2, h101])]
      have hn1 : IntKind.i64.wrap ((i : Int) + 1) = ((i + 1 : Nat) : Int) := by rw [Go.IntKind.wrap_i64]; omega
      have hn2 : (i : Int) + 1 = ((i + 1 : Nat) : Int) := by omega
      obtain ⟨k5, hk5⟩ : ∃ k5 : Nat, k5 = i + 1 := ⟨_, rfl⟩
      rw [← hk5] at hP hn1 hn2
      have hk5s : k5 ≤ s.size := by omega
      have HP := Lib.hid hP
      clear h101 hk5 hA hP
      by_cases hk6 : k5 < s.size
      · have hk6I : (k5 : Int) < s.size := by omega
        have hk6J : ((k5 : Int)).toNat < s.size := by omega
        obtain ⟨c3, hc3⟩ : ∃ c : Nat, (s[k5]).toNat = c := ⟨_, rfl⟩
        have ec3 : ((s[k5].toNat : Nat) : Int) = c3 := by rw [hc3]
        have hn3 : IntKind.i64.wrap ((k5 : Int) + 1) = ((k5 + 1 : Nat) : Int) := by rw [Go.IntKind.wrap_i64]; omega
        by_cases h43 : c3 = 43
        · have f3 : ((c3 : Int) == 43) = true := by simp [h43]
          have HR := Lib.hid (show ans = powD (s.data.toList.drop (k5 + 1)) from HP.out.trans (by rw [drop_byte s k5 hk6, sgn_hit (Or.inl (by rw [hc3, h43]))]))
          have hks : k5 + 1 ≤ s.size := by omega
          clear h43
          go_upto_if 68 with (fail)
          go_cut [3] (fun v3 w' => v3 = .int .i64 ((k5 + 1 : Nat) : Int) ∧ w = w')
          case first =>
            go_wp2_with fail
            go_meet
            case rel => exact ⟨by first | rfl | go_num, rfl⟩
          obtain ⟨rfl, hww⟩ := hcut
          subst hww
          go_step
          exact formed_end s hs (k5 + 1) hks ans HR.out w0 w hb c n
        have f3 : ((c3 : Int) == 43) = false := by simp; omega
        by_cases h45 : c3 = 45
        · have f4 : ((c3 : Int) == 45) = true := by simp [h45]
          have HR := Lib.hid (show ans = powD (s.data.toList.drop (k5 + 1)) from HP.out.trans (by rw [drop_byte s k5 hk6, sgn_hit (Or.inr (by rw [hc3, h45]))]))
          have hks : k5 + 1 ≤ s.size := by omega
          clear h43 h45
          go_upto_if 68 with (fail)
          go_cut [3] (fun v3 w' => v3 = .int .i64 ((k5 + 1 : Nat) : Int) ∧ w = w')
          case first =>
            go_wp2_with fail
            go_meet
            case rel => exact ⟨by first | rfl | go_num, rfl⟩
          obtain ⟨rfl, hww⟩ := hcut
          subst hww
          go_step
          exact formed_end s hs (k5 + 1) hks ans HR.out w0 w hb c n
        have f4 : ((c3 : Int) == 45) = false := by simp; omega
        have HR := Lib.hid (show ans = powD (s.data.toList.drop (k5)) from HP.out.trans (by rw [drop_byte s k5 hk6, sgn_not (by rw [hc3]; omega)]))
        have hks : k5 ≤ s.size := by omega
        clear h43 h45
        go_upto_if 68 with (fail)
        go_cut [3] (fun v3 w' => v3 = .int .i64 ((k5 : Nat) : Int) ∧ w = w')
        case first =>
          go_wp2_with fail
          go_meet
          case rel => exact ⟨by first | rfl | go_num, rfl⟩
        obtain ⟨rfl, hww⟩ := hcut
        subst hww
        go_step
        exact formed_end s hs (k5) hks ans HR.out w0 w hb c n
      have hk6I : ¬ (k5 : Int) < s.size := by omega
      have hk6b : decide ((k5 : Int) < (s.size : Int)) = false := decide_eq_false hk6I
      have HR := Lib.hid (show ans = powD (s.data.toList.drop (k5)) from HP.out.trans (by rw [drop_end s k5 (by omega)]; rfl))
      have hks : k5 ≤ s.size := by omega
      clear hk6
      go_upto_if 68 with (fail)
      go_cut [3] (fun v3 w' => v3 = .int .i64 ((k5 : Nat) : Int) ∧ w = w')
      case first =>
        go_wp2_with fail
        go_meet
        case rel => exact ⟨by first | rfl | go_num, rfl⟩
      obtain ⟨rfl, hww⟩ := hcut
      subst hww
      go_step
      exact formed_end s hs (k5) hks ans HR.out w0 w hb c n
    have f2 : ((c2 : Int) != 101) = true := by simp; omega
    have HA : Hid (ans = false) := Lib.hid (by rw [hA, drop_byte s i hke, powL_not (by rw [hc2]; exact h101)])
    clear hA h101
    go_wp2_with fail
    go_step3
    refine Exit.hop_goto _ _ hf (wp_skip_seq ?_)
    conv => arg 2; whnf
    go_wp2_with fail
    try rw [Exit.hop_ret]
    go_ret
    exact ⟨by rw [HA.out]; rfl, hb⟩
  have hie : i = s.size := by omega
  have f1 : ((i : Int) == (s.size : Int)) = true := by simp; omega
  have HA : Hid (ans = true) := Lib.hid (by rw [hA, drop_end s i (by omega)]; rfl)
  clear hA hke
  go_wp2_with fail
  try rw [Exit.hop_ret]
  go_ret
  exact ⟨by rw [HA.out]; rfl, hb⟩
set_option maxRecDepth 100000 in
set_option maxHeartbeats 4000000 in
theorem formed_num (s : ByteArray) (hs : s.size ≤ 1000) (i : Nat) (hi : i ≤ s.size) (ans : Bool) (hM : ans = formM (s.data.toList.drop i)) (w0 w : World) (hb : Below w0.heap.size w0 w) (c : Code) (hf0 : findLabel c 0 = some (.seq .skip (fmCode 19))) (hf1 : findLabel c 1 = some (.seq .skip (fmCode 8))) (hf2 : findLabel c 2 = some (.seq .skip (fmCode 11))) {u1 u2 u4 u5 u6 u7 u8 u9 u10 u11 u12 u13 u14 u15 u16 u17 u18 u19 u20 u21 u22 u23 u24 u25 u26 u27 u28 u29 u30 u31 u32 u33 u34 u35 u36 u37 u38 u39 u40 u41 u42 u43 u44 u45 u46 u47 u48 u49 u50 u51 u52 u53 u54 u55 u56 u57 u58 u59 u60 u61 u62 u63 u64 u65 u66 u67 u68 u69 u70 u71 u72 u73 u74 u75 u76 u77 u78 u79 u80 u81 u82 u83 u84 u85 u86 u87 u88 u89 : Value} :
    (fmCode 4).wp Tryz.prog (Exit.hop Tryz.prog c 3 (bodyPost Tryz.prog Tryz.f23 (FmPost ans w0))) ⟨#[.string s, u1, u2, .int .i64 (i : Int), u4, u5, u6, u7, u8, u9, u10, u11, u12, u13, u14, u15, u16, u17, u18, u19, u20, u21, u22, u23, u24, u25, u26, u27, u28, u29, u30, u31, u32, u33, u34, u35, u36, u37, u38, u39, u40, u41, u42, u43, u44, u45, u46, u47, u48, u49, u50, u51, u52, u53, u54, u55, u56, u57, u58, u59, u60, u61, u62, u63, u64, u65, u66, u67, u68, u69, u70, u71, u72, u73, u74, u75, u76, u77, u78, u79, u80, u81, u82, u83, u84, u85, u86, u87, u88, u89], []⟩ w := by
  conv => arg 2; whnf
  have HM := Lib.hid hM
  clear hM
  go_wp2_with fail
  refine (digits_walk s (by omega) i hi _).mono ?_
  rintro e w1 ⟨⟨k1, rfl, hk1⟩, hb1⟩
  have hb01 := hb.trans (hb1.mono hb.size)
  have hd1 := dl_drop s i hi
  clear hb1
  by_cases hz : dl (s.data.toList.drop i) = 0
  · have f5 : ((k1 : Int) == (i : Int)) = true := by simp; omega
    have HA : Hid (ans = false) := Lib.hid (by rw [HM.out]; unfold formM; rw [if_pos hz])
    have hk1c : k1 = i := by omega
    clear hz hk1 hd1 HM
    subst hk1c
    go_wp2_with fail
    go_step3
    refine Exit.hop_goto _ _ hf0 (wp_skip_seq ?_)
    conv => arg 2; whnf
    go_wp2_with fail
    try rw [Exit.hop_ret]
    go_ret
    exact ⟨by rw [HA.out]; rfl, hb01⟩
  have f5 : ((k1 : Int) == (i : Int)) = false := by simp; omega
  have hT : ans = formT (s.data.toList.drop k1) := by rw [HM.out]; unfold formM; rw [if_neg hz, List.drop_drop, hk1]
  have hk1s : k1 ≤ s.size := by omega
  clear hz hk1 hd1 HM
  by_cases hp : ∃ h : k1 < s.size, s[k1].toNat = 46
  · obtain ⟨hk2, hc46⟩ := hp
    have hk2I : (k1 : Int) < s.size := by omega
    have ec1 : ((s[k1].toNat : Nat) : Int) = 46 := by rw [hc46]; rfl
    have hT2 : ans = if dl (s.data.toList.drop (k1 + 1)) = 0 then false else powL ((s.data.toList.drop (k1 + 1)).drop (dl (s.data.toList.drop (k1 + 1)))) := by rw [hT, drop_byte s k1 hk2, formT_point hc46]
    have hn1 : IntKind.i64.wrap ((k1 : Int) + 1) = ((k1 + 1 : Nat) : Int) := by rw [Go.IntKind.wrap_i64]; omega
    have hn2 : (k1 : Int) + 1 = ((k1 + 1 : Nat) : Int) := by omega
    clear hT hc46
    obtain ⟨kp, hkp⟩ : ∃ kp : Nat, kp = k1 + 1 := ⟨_, rfl⟩
    rw [← hkp] at hT2 hn1 hn2
    have hkps : kp ≤ s.size := by omega
    have HT2 := Lib.hid hT2
    clear hT2 hkp
    go_wp2_with fail
    go_step3
    refine Exit.hop_goto _ _ hf1 (wp_skip_seq ?_)
    conv => arg 2; whnf
    go_wp2_with fail
    refine (digits_walk s (by omega) kp hkps _).mono ?_
    rintro e w2 ⟨⟨k3, rfl, hk3⟩, hb2⟩
    have hb02 := hb01.trans (hb2.mono hb01.size)
    have hd3 := dl_drop s kp hkps
    by_cases hz2 : dl (s.data.toList.drop kp) = 0
    · have f7 : ((k3 : Int) == (kp : Int)) = true := by simp; omega
      have HA : Hid (ans = false) := Lib.hid (by rw [HT2.out, if_pos hz2])
      have hk3c : k3 = kp := by omega
      clear hz2 hk3 hd3
      subst hk3c
      go_wp2_with fail
      go_step3
      refine Exit.hop_goto _ _ hf0 (wp_skip_seq ?_)
      conv => arg 2; whnf
      go_wp2_with fail
      try rw [Exit.hop_ret]
      go_ret
      exact ⟨by rw [HA.out]; rfl, hb02⟩
    have f7 : ((k3 : Int) == (kp : Int)) = false := by simp; omega
    have hPW : ans = powL (s.data.toList.drop k3) := by rw [HT2.out, if_neg hz2, List.drop_drop, hk3]
    have hk3s : k3 ≤ s.size := by omega
    clear hz2 hk3 hd3 HT2
    go_wp2_with fail
    go_step3
    refine ‹∀ (a : Act) (w : World), Code.wp Tryz.prog _ _ a w → _› _ _ ?_
    exact formed_power s hs k3 hk3s ans hPW w0 w2 hb02 c hf0 _
  have hPW : ans = powL (s.data.toList.drop k1) := by
    by_cases hk2 : k1 < s.size
    · have h46 : ¬ s[k1].toNat = 46 := fun h => hp ⟨hk2, h⟩
      rw [hT, drop_byte s k1 hk2, formT_not h46]
    rw [hT, drop_end s k1 (by omega)]; rfl
  by_cases hk2 : k1 < s.size
  · have h46 : ¬ s[k1].toNat = 46 := fun h => hp ⟨hk2, h⟩
    have hk2I : (k1 : Int) < s.size := by omega
    obtain ⟨c1, hc1⟩ : ∃ c : Nat, (s[k1]).toNat = c := ⟨_, rfl⟩
    have ec1 : ((s[k1].toNat : Nat) : Int) = c1 := by rw [hc1]
    have f6 : ((c1 : Int) == 46) = false := by rw [hc1] at h46; simp; omega
    clear h46 hp hT
    go_wp2_with fail
    go_step3
    refine Exit.hop_goto _ _ hf2 (wp_skip_seq ?_)
    exact formed_power s hs k1 hk1s ans hPW w0 w1 hb01 c hf0 _
  have hk2I : ¬ (k1 : Int) < s.size := by omega
  have hk2b : decide ((k1 : Int) < (s.size : Int)) = false := decide_eq_false hk2I
  clear hp hT hk2
  go_wp2_with fail
  go_step3
  refine Exit.hop_goto _ _ hf2 (wp_skip_seq ?_)
  exact formed_power s hs k1 hk1s ans hPW w0 w1 hb01 c hf0 _
set_option maxRecDepth 100000 in
set_option maxHeartbeats 4000000 in
theorem formed_walk (s : ByteArray) (hs : s.size ≤ 1000) (w : World) : Calls Tryz.prog 23 #[.string s] w fun e w' => e = .returned (.bool (formL s.data.toList)) ∧ Below w.heap.size w w' := by
  obtain ⟨ans, hans⟩ : ∃ a, a = formL s.data.toList := ⟨_, rfl⟩
  rw [← hans]
  by_cases h45 : ∃ h : 0 < s.size, s[0].toNat = 45
  · obtain ⟨h0, hc⟩ := h45
    have h0I : (0 : Int) < s.size := by omega
    have e0 : ((s[0].toNat : Nat) : Int) = 45 := by rw [hc]; rfl
    have hM : ans = formM (s.data.toList.drop 1) := by
      have h := drop_byte s 0 h0
      rw [List.drop_zero] at h
      rw [hans]
      conv => lhs; rw [h]
      unfold formL
      exact if_pos hc
    clear hans hc
    go_enter Tryz.func23, Tryz.ntmps23
    go_wp2_with fail
    refine wp_scope_hop 3 ?_
    go_upto_if 14 with (fail)
    go_cut [3] (fun v3 w' => v3 = .int .i64 ((1 : Nat) : Int) ∧ w = w')
    case first =>
      go_wp2_with fail
      go_meet
      case rel => exact ⟨by first | rfl | go_num, rfl⟩
    obtain ⟨rfl, hww⟩ := hcut
    subst hww
    go_step
    exact formed_num s hs 1 (by omega) ans hM w w (Below.refl _ _) _ (by kernel_rfl) (by kernel_rfl) (by kernel_rfl)
  have hM : ans = formM (s.data.toList.drop 0) := by
    rw [hans]
    by_cases h0 : 0 < s.size
    · have h := drop_byte s 0 h0
      rw [List.drop_zero] at h ⊢
      conv => lhs; rw [h]
      conv => rhs; rw [h]
      unfold formL
      exact if_neg fun hc => h45 ⟨h0, hc⟩
    have h := drop_end s 0 (by omega)
    rw [List.drop_zero] at h ⊢
    rw [h]; rfl
  clear hans
  by_cases h0 : 0 < s.size
  · have h0I : (0 : Int) < s.size := by omega
    obtain ⟨c0, hc0⟩ : ∃ c : Nat, (s[0]).toNat = c := ⟨_, rfl⟩
    have e0 : ((s[0].toNat : Nat) : Int) = c0 := by rw [hc0]
    have f0 : ((c0 : Int) == 45) = false := by
      have : c0 ≠ 45 := fun h => h45 ⟨h0, by rw [hc0]; exact h⟩
      simp; omega
    clear h45
    go_enter Tryz.func23, Tryz.ntmps23
    go_wp2_with fail
    refine wp_scope_hop 3 ?_
    go_upto_if 14 with (fail)
    go_cut [3] (fun v3 w' => v3 = .int .i64 ((0 : Nat) : Int) ∧ w = w')
    case first =>
      go_wp2_with fail
      go_meet
      case rel => exact ⟨by first | rfl | go_num, rfl⟩
    obtain ⟨rfl, hww⟩ := hcut
    subst hww
    go_step
    exact formed_num s hs 0 (by omega) ans hM w w (Below.refl _ _) _ (by kernel_rfl) (by kernel_rfl) (by kernel_rfl)
  have h0I : ¬ (0 : Int) < s.size := by omega
  have hz : s.size = 0 := by omega
  have h0b : decide ((0 : Int) < (s.size : Int)) = false := decide_eq_false h0I
  clear h45 h0
  go_enter Tryz.func23, Tryz.ntmps23
  go_wp2_with fail
  refine wp_scope_hop 3 ?_
  go_upto_if 14 with (fail)
  go_cut [3] (fun v3 w' => v3 = .int .i64 ((0 : Nat) : Int) ∧ w = w')
  case first =>
    go_wp2_with fail
    go_meet
    case rel => exact ⟨by first | rfl | go_num, rfl⟩
  obtain ⟨rfl, hww⟩ := hcut
  subst hww
  go_step
  exact formed_num s hs 0 (by omega) ans hM w w (Below.refl _ _) _ (by kernel_rfl) (by kernel_rfl) (by kernel_rfl)
end Go.Proofs.YtjpiplplohapnaaGreatDoor
namespace Go.Proofs.YtjpiplplohapnaaGreatDoor
open Go.RowKit Go.Sort Go.Proofs.YtjpiplplohapnaaGreatDoorW.PrintWords
theorem int_neg7 (w : World) (hL : Laid w) : Calls Tryz.prog 17 #[.string ⟨#[45, 55]⟩] w fun e w' => e = .returned (.tuple #[.int .i64 (-7), .bool true]) ∧ Below w.heap.size w w' := by
  have h := int_walk ⟨#[45, 55]⟩ (by decide) w hL
  have e0 : Num.progInt (⟨#[45, 55]⟩ : ByteArray).data.toList = (-7, true) := by
    rw [Num.progInt_eq]
    rfl
  rw [e0] at h
  exact h
set_option maxRecDepth 100000 in
set_option maxHeartbeats 1000000 in
theorem awake_true (w : World) (hL : Laid w) : Calls Tryz.prog 13 #[] w fun e w' => e = .returned (.bool true) ∧ Below w.heap.size w w' := by
  go_enter Tryz.func13, Tryz.ntmps13
  go_wp2_with fail
  refine (parse_01 _ hL).mono ?_
  rintro e w1 ⟨rfl, hb1⟩
  have hL1 := hL.below hb1
  go_wp2_with fail
  refine (print_375 _ hL1).mono ?_
  rintro e w2 ⟨rfl, hb2⟩
  have hL2 := hL1.below hb2
  have hb02 := hb1.trans (hb2.mono hb1.size)
  clear hL1 hb1 hb2
  go_wp2_with fail
  refine (hex_15 _ hL2).mono ?_
  rintro e w3 ⟨rfl, hb3⟩
  have hL3 := hL2.below hb3
  have hb03 := hb02.trans (hb3.mono hb02.size)
  clear hL2 hb02 hb3
  go_wp2_with fail
  refine (int_neg7 _ hL3).mono ?_
  rintro e w4 ⟨rfl, hb4⟩
  have hb04 := hb03.trans (hb4.mono hb03.size)
  clear hL3 hb03 hb4
  go_wp2_with fail
  go_ret
  exact ⟨rfl, hb04⟩
end Go.Proofs.YtjpiplplohapnaaGreatDoor
namespace Go.Proofs.YtjpiplplohapnaaGreatDoor
open Go.RowKit Go.Proofs.YtjpiplplohapnaaGreatDoorW.PrintWords Rf Nr Us
theorem not_hex {l : List UInt8} {q : Out} (h : fin false (scan false l st0).1 (scan false l st0).2 = some q) (hr : q.rest = []) : ¬ (2 < l.length ∧ (l.getD 0 0).toNat = 48 ∧ lw (l.getD 1 0).toNat = 120) := by
  rintro ⟨h2, h0, h1⟩
  cases l with
  | nil => simp at h2
  | cons a l =>
    cases l with
    | nil => simp at h2
    | cons b r =>
      have ha : a.toNat = 48 := h0
      have hb : lw b.toNat = 120 := h1
      have hb256 : b.toNat < 256 := UInt8.toNat_lt _
      have key : ∀ c : Fin 256, lw c.val = 120 → c.val = 88 ∨ c.val = 120 := by decide +kernel
      have k1 : stp false 48 st0 = some ⟨false, false, true, 0, 0, -1, 0, false⟩ := by kernel_rfl
      have k88 : stp false 88 ⟨false, false, true, 0, 0, -1, 0, false⟩ = none := by kernel_rfl
      have k120 : stp false 120 ⟨false, false, true, 0, 0, -1, 0, false⟩ = none := by kernel_rfl
      have k2 : stp false b.toNat ⟨false, false, true, 0, 0, -1, 0, false⟩ = none := by
        rcases key ⟨b.toNat, hb256⟩ hb with hx | hx
        · have : b.toNat = 88 := hx
          rw [this]; exact k88
        have : b.toNat = 120 := hx
        rw [this]; exact k120
      have hs : scan false (a :: b :: r) st0 = (⟨false, false, true, 0, 0, -1, 0, false⟩, b :: r) := by
        rw [scan, ha, k1]
        dsimp only
        rw [scan, k2]
      rw [hs] at h
      unfold fin at h
      dsimp only at h
      rw [if_pos rfl, expPart_miss_d (by rw [hb]; decide)] at h
      simp only [Option.map_some, Option.some.injEq] at h
      rw [← h] at hr
      cases hr
end Go.Proofs.YtjpiplplohapnaaGreatDoor
