/- TextRises: of two whole numbers with one power of ten behind the greater one is not read as less, at every three strings. Conditions: those of the given card alone. -/
import Derived.Test.YtjpiplplohapnaaGreatDoorRi6
import Derived.Test.YtjpiplplohapnaaGreatDoorTie
import Derived.ProofKit
import Derived.LaidMore
import Derived.OpenShut
import Derived.Stop.Joined
import Derived.Stop.LaidErr
import Derived.Deep.DeepLaidRun
import Derived.Test.YtjpiplplohapnaaGreatDoorCards
import Derived.SizedLaws
import Derived.Lay
import Derived.SevenTiedAt
set_option linter.unusedVariables false
set_option linter.unusedSimpArgs false
namespace Go.Proofs.YtjpiplplohapnaaGreatDoor
open Go.RowKit Go.Sort Go.Proofs.YtjpiplplohapnaaGreatDoorW.PrintWords
theorem int_neg7 (w : World) (hL : Laid w) : Calls Tryz.prog 17 #[.string ⟨#[45, 55]⟩] w fun e w' => e = .returned (.tuple #[.int .i64 (-7), .bool true]) ∧ Below w.heap.size w w' := by
  have h := int_walk ⟨#[45, 55]⟩ (by decide) w hL
  have e0 : Num.progInt (⟨#[45, 55]⟩ : ByteArray).data.toList = (-7, true) := by
    rw [Num.progInt_eq]
    rfl
  rw [e0] at h
  exact h
set_option maxRecDepth 100000 in
set_option maxHeartbeats 1000000 in
theorem awake_true (w : World) (hL : Laid w) : Calls Tryz.prog 13 #[] w fun e w' => e = .returned (.bool true) ∧ Below w.heap.size w w' := by
  go_enter Tryz.func13, Tryz.ntmps13
  go_wp2_with fail
  refine (parse_01 _ hL).mono ?_
  rintro e w1 ⟨rfl, hb1⟩
  have hL1 := hL.below hb1
  go_wp2_with fail
  refine (print_375 _ hL1).mono ?_
  rintro e w2 ⟨rfl, hb2⟩
  have hL2 := hL1.below hb2
  have hb02 := hb1.trans (hb2.mono hb1.size)
  clear hL1 hb1 hb2
  go_wp2_with fail
  refine (hex_15 _ hL2).mono ?_
  rintro e w3 ⟨rfl, hb3⟩
  have hL3 := hL2.below hb3
  have hb03 := hb02.trans (hb3.mono hb02.size)
  clear hL2 hb02 hb3
  go_wp2_with fail
  refine (int_neg7 _ hL3).mono ?_
  rintro e w4 ⟨rfl, hb4⟩
  have hb04 := hb03.trans (hb4.mono hb03.size)
  clear hL3 hb03 hb4
  go_wp2_with fail
  go_ret
  exact ⟨rfl, hb04⟩
end Go.Proofs.YtjpiplplohapnaaGreatDoor
namespace Go.Proofs.YtjpiplplohapnaaGreatDoor
open Go.RowKit Go.Proofs.YtjpiplplohapnaaGreatDoorW.PrintWords Rf Nr Us
theorem not_hex {l : List UInt8} {q : Out} (h : fin false (scan false l st0).1 (scan false l st0).2 = some q) (hr : q.rest = []) : ¬ (2 < l.length ∧ (l.getD 0 0).toNat = 48 ∧ lw (l.getD 1 0).toNat = 120) := by
  rintro ⟨h2, h0, h1⟩
  cases l with
  | nil => simp at h2
  | cons a l =>
    cases l with
    | nil => simp at h2
    | cons b r =>
      have ha : a.toNat = 48 := h0
      have hb : lw b.toNat = 120 := h1
      have hb256 : b.toNat < 256 := UInt8.toNat_lt _
      have key : ∀ c : Fin 256, lw c.val = 120 → c.val = 88 ∨ c.val = 120 := by decide +kernel
      have k1 : stp false 48 st0 = some ⟨false, false, true, 0, 0, -1, 0, false⟩ := by kernel_rfl
      have k88 : stp false 88 ⟨false, false, true, 0, 0, -1, 0, false⟩ = none := by kernel_rfl
      have k120 : stp false 120 ⟨false, false, true, 0, 0, -1, 0, false⟩ = none := by kernel_rfl
      have k2 : stp false b.toNat ⟨false, false, true, 0, 0, -1, 0, false⟩ = none := by
        rcases key ⟨b.toNat, hb256⟩ hb with hx | hx
        · have : b.toNat = 88 := hx
          rw [this]; exact k88
        · have : b.toNat = 120 := hx
          rw [this]; exact k120
      have hs : scan false (a :: b :: r) st0 = (⟨false, false, true, 0, 0, -1, 0, false⟩, b :: r) := by
        rw [scan, ha, k1]
        dsimp only
        rw [scan, k2]
      rw [hs] at h
      unfold fin at h
      dsimp only at h
      rw [if_pos rfl, expPart_miss_d (by rw [hb]; decide)] at h
      simp only [Option.map_some, Option.some.injEq] at h
      rw [← h] at hr
      cases hr
def NumR (ng : Bool) (s : ByteArray) (q : Out) (x : Nat) (n : Int) (er : Option Int) : Prop := (q.m = 0 ∧ ZeroR ng s q x n er) ∨ (q.m ≠ 0 ∧ DecR ng s q x n er)
theorem atof64_num (ng : Bool) (s : ByteArray) (q : Out) (hm2 : q.m < 18446744073709551616) (he1 : -300000 ≤ q.e) (he2 : q.e ≤ 300000) (hu : q.us = false) (ht : q.tr = false)
    (hsp : ∀ w, Calls Tryz.prog 141 #[.string s] w (NoSpecial w)) (hrf : ∀ w, Calls Tryz.prog 142 #[.string s] w (RfPost ng false s (some q) w))
    (w : World) (hL : Laid w) : Calls Tryz.prog 112 #[.string s] w (AtPost (NumR ng s q) w) := by
  by_cases h0 : q.m = 0
  · exact (atof64_zero ng s q h0 hu hsp hrf w hL).mono fun e w' ⟨x, n, er, h1, h2, h3, h4⟩ => ⟨x, n, er, Or.inl ⟨h0, h1⟩, h2, h3, h4⟩
  · exact (atof64_dec ng s q h0 hm2 he1 he2 hu ht hsp hrf w hL).mono fun e w' ⟨x, n, er, h1, h2, h3, h4⟩ => ⟨x, n, er, Or.inr ⟨h0, h1⟩, h2, h3, h4⟩
theorem sparse_pos (s : ByteArray) (hs : s.size ≤ 1000) (q : Out) (hq : fin false (scan false s.data.toList st0).1 (scan false s.data.toList st0).2 = some q) (hu : q.us = false) (ht : q.tr = false) (hr : q.rest = [])
    (h0 : 0 < s.size) (hd1 : 48 ≤ s[0].toNat) (hd2 : s[0].toNat ≤ 57) (w : World) (hL : Laid w) : Calls Tryz.prog 24 #[.string s, .int .i64 64] w (SpPost (whole s (NumR false s q)) w) := by
  have hlen : s.data.toList.length = s.size := Array.length_toList
  have hb := fin_bound (hx := false) (l := s.data.toList) (by omega) hq
  refine sparse_of s hs _ w hL (iparse_of s _ w (atof64_num false s q hb.1 hb.2.1 hb.2.2 hu ht (special_digit s h0 hd1 hd2) (fun w => ?_) w hL))
  have := readFloat_pd s hs h0 (by omega) (by omega) (by have := not_hex hq hr; rw [hlen] at this; exact this) w
  rw [List.drop_zero, hq] at this
  exact this
theorem sparse_neg (s : ByteArray) (hs : s.size ≤ 1000) (q : Out) (hq : fin false (scan false (s.data.toList.drop 1) st0).1 (scan false (s.data.toList.drop 1) st0).2 = some q) (hu : q.us = false) (ht : q.tr = false) (hr : q.rest = [])
    (h0 : 1 < s.size) (h45 : s[0].toNat = 45) (hd1 : 48 ≤ s[1].toNat) (hd2 : s[1].toNat ≤ 57) (w : World) (hL : Laid w) : Calls Tryz.prog 24 #[.string s, .int .i64 64] w (SpPost (whole s (NumR true s q)) w) := by
  have hlen : s.data.toList.length = s.size := Array.length_toList
  have hlen1 : (s.data.toList.drop 1).length = s.size - 1 := drop_len s 1
  have hb := fin_bound (hx := false) (l := s.data.toList.drop 1) (by omega) hq
  refine sparse_of s hs _ w hL (iparse_of s _ w (atof64_num true s q hb.1 hb.2.1 hb.2.2 hu ht (special_minus s h0 hs h45 hd1 hd2) (fun w => ?_) w hL))
  have hnx := not_hex hq hr
  have g : ∀ i : Nat, (s.data.toList.drop 1).getD i 0 = s.data.toList.getD (i + 1) 0 := by
    intro i
    rw [List.getD_eq_getElem?_getD, List.getD_eq_getElem?_getD, List.getElem?_drop, Nat.add_comm]
  rw [hlen1, g 0, g 1] at hnx
  have := readFloat_nd s hs h0 h45 (fun h => hnx ⟨by omega, h.2⟩) w
  rw [hq] at this
  exact this
theorem vr_of {ng : Bool} {s : ByteArray} {q : Out} {n P : Int} (hr : q.rest = []) (hm : q.m = n.natAbs) (he : q.e = if n.natAbs = 0 then 0 else P) (hng : ng = decide (n < 0)) {x : Nat} (h : whole s (NumR ng s q) x none) : VR n P x := by
  rcases h with (⟨h0, h1, h2, h3⟩ | ⟨h0, h1, r, h2, h3⟩) | ⟨-, h, -⟩
  · rw [hm] at h0
    have hn : n = 0 := by omega
    subst hn
    refine ⟨0, ?_, by decide, ?_⟩
    · have e : dN (0 : Int).natAbs P = 0 := by show 0 * _ * _ = 0; rw [Nat.zero_mul, Nat.zero_mul]
      rw [e]
      exact near_zero _ (dD_pos P)
    · rw [h1, hng]; rfl
  · rw [hm] at h0 h2
    rw [he, if_neg h0] at h2
    rcases h3 with ⟨h3, h4, -⟩ | ⟨-, -, h4⟩
    · exact ⟨r, h2, h3, by rw [h4, hng]⟩
    · cases h4
  · cases h
def PaPost (n P : Int) (w : World) (e : Ending) (w' : World) : Prop := Below w.heap.size w w' ∧ ∃ x c, e = .returned (.tuple #[.float .f64 x, .int .i64 c]) ∧ (c = 0 ∨ c = 20) ∧ (c = 0 → VR n P x)
set_option maxRecDepth 100000 in
set_option maxHeartbeats 1000000 in
theorem parse_long (s : ByteArray) (hs : 400 < s.size) (n P : Int) (w : World) : Calls Tryz.prog 10 #[.string s] w (PaPost n P w) := by
  have h1 : (400 : Int) < s.size := by omega
  have h2 : (s.size : Int) > 400 := by omega
  clear hs
  go_enter Tryz.func10, Tryz.ntmps10
  go_wp2_with fail
  go_ret2
  exact ⟨Below.refl _ _, 0, 20, rfl, Or.inr rfl, fun h => by cases h⟩
set_option maxRecDepth 100000 in
set_option maxHeartbeats 1000000 in
theorem parse_unformed (s : ByteArray) (hs : s.size ≤ 400) (hf : formL s.data.toList = false) (n P : Int) (w : World) : Calls Tryz.prog 10 #[.string s] w (PaPost n P w) := by
  have hF := formed_walk s (by omega)
  rw [hf] at hF
  have HF := Lib.hid hF
  have h1 : ¬ (400 : Int) < s.size := by omega
  clear hs hf hF
  go_enter Tryz.func10, Tryz.ntmps10
  go_wp2_with fail
  refine (HF.out _).mono ?_
  rintro e w1 ⟨rfl, hb1⟩
  clear HF
  go_wp2_with fail
  go_ret2
  exact ⟨hb1, 0, 20, rfl, Or.inr rfl, fun h => by cases h⟩
set_option maxRecDepth 100000 in
set_option maxHeartbeats 1000000 in
theorem parse_formed (s : ByteArray) (hs : s.size ≤ 400) (hf : formL s.data.toList = true) (R : Nat → Option Int → Prop) (w : World) (hL : Laid w) (hP : ∀ w, Laid w → Calls Tryz.prog 24 #[.string s, .int .i64 64] w (SpPost R w)) :
    Calls Tryz.prog 10 #[.string s] w fun e w' => Below w.heap.size w w' ∧ ∃ x er, R x er ∧ ((er = none ∧ e = .returned (.tuple #[.float .f64 x, .int .i64 0])) ∨ (er ≠ none ∧ e = .returned (.tuple #[.float .f64 0, .int .i64 20]))) := by
  have hF := formed_walk s (by omega)
  rw [hf] at hF
  have HF := Lib.hid hF
  have HP := Lib.hid hP
  have h1 : ¬ (400 : Int) < s.size := by omega
  clear hs hf hF hP
  go_enter Tryz.func10, Tryz.ntmps10
  go_wp2_with fail
  refine (HF.out _).mono ?_
  rintro e w1 ⟨rfl, hb1⟩
  have hL1 := hL.below hb1
  clear HF hL
  go_wp2_with fail
  refine (HP.out _ hL1).mono ?_
  rintro e w2 ⟨x, er, hR, -, hb2, hc⟩
  have hb02 := hb1.trans (hb2.mono hb1.size)
  have HR := Lib.hid hR
  clear hR HP hL1
  rcases hc with ⟨rfl, rfl⟩ | ⟨hne, N, rfl⟩
  · go_wp2_with fail
    go_ret2
    exact ⟨hb02, x, none, HR.out, Or.inl ⟨rfl, rfl⟩⟩
  · have HNE := Lib.hid hne
    clear hne
    go_wp2_with fail
    go_ret2
    exact ⟨hb02, x, er, HR.out, Or.inr ⟨HNE.out, rfl⟩⟩
theorem parse_whole (n : Int) (hn1 : -9223372036854775808 ≤ n) (hn2 : n ≤ 9223372036854775807) (pw : List UInt8) (s : ByteArray) (hl : s.data.toList = Lib.itoa n ++ 101 :: pw) (w : World) (hL : Laid w) :
    Calls Tryz.prog 10 #[.string s] w (PaPost n (powV pw) w) := by
  have hlen : s.data.toList.length = s.size := Array.length_toList
  have hform := form_whole n pw
  rw [← hl] at hform
  by_cases h1 : 400 < s.size
  · exact parse_long s h1 n _ w
  · cases hp : powD (sgn pw) with
    | false => exact parse_unformed s (by omega) (hform.trans hp) n _ w
    | true =>
      have key : ∀ (ng : Bool) (q : Out), ng = decide (n < 0) → q.rest = [] → q.m = n.natAbs → q.e = (if n.natAbs = 0 then 0 else powV pw) → (∀ w, Laid w → Calls Tryz.prog 24 #[.string s, .int .i64 64] w (SpPost (whole s (NumR ng s q)) w)) →
          Calls Tryz.prog 10 #[.string s] w (PaPost n (powV pw) w) := by
        intro ng q g1 g2 g3 g4 g5
        refine (parse_formed s (by omega) (hform.trans hp) _ w hL g5).mono fun e w' ⟨hb, x, er, hR, hc⟩ => ⟨hb, ?_⟩
        rcases hc with ⟨rfl, rfl⟩ | ⟨-, rfl⟩
        · exact ⟨x, 0, rfl, Or.inl rfl, fun _ => vr_of g2 g3 g4 g1 hR⟩
        · exact ⟨0, 20, rfl, Or.inr rfl, fun h => by cases h⟩
      have hfin := fin_whole n.natAbs (by omega) pw hp
      have hdig := Num.dec_digits n.natAbs
      have hne := Num.dec_ne n.natAbs
      by_cases hn : n < 0
      · have hi : Lib.itoa n = 45 :: Lib.decDigits n.natAbs := by unfold Lib.itoa; rw [if_pos hn]
        rw [hi] at hl
        generalize Lib.decDigits n.natAbs = D at *
        cases D with
        | nil => exact absurd rfl hne
        | cons a D =>
          have ha : 48 ≤ a.toNat ∧ a.toNat ≤ 57 := hdig a (by simp)
          have h2 : 1 < s.size := by rw [← hlen, hl]; simp
          have e0 := list0 (s := s) (a := 45) (l := a :: (D ++ 101 :: pw)) (by rw [hl]; rfl) (by omega)
          have e1 := list1 (s := s) (a := 45) (b := a) (l := D ++ 101 :: pw) (by rw [hl]; rfl) h2
          refine key true _ (decide_eq_true hn).symm rfl rfl rfl (fun w hL => sparse_neg s (by omega) ⟨n.natAbs, if n.natAbs = 0 then 0 else powV pw, false, false, []⟩ ?_ rfl rfl rfl h2 (by rw [e0]; rfl) (by rw [e1]; exact ha.1) (by rw [e1]; exact ha.2) w hL)
          rw [hl]
          exact hfin
      · have hi : Lib.itoa n = Lib.decDigits n.natAbs := by unfold Lib.itoa; rw [if_neg hn]; congr 1; omega
        rw [hi] at hl
        generalize Lib.decDigits n.natAbs = D at *
        cases D with
        | nil => exact absurd rfl hne
        | cons a D =>
          have ha : 48 ≤ a.toNat ∧ a.toNat ≤ 57 := hdig a (by simp)
          have h2 : 0 < s.size := by rw [← hlen, hl]; simp
          have e0 := list0 (s := s) (a := a) (l := D ++ 101 :: pw) (by rw [hl]; rfl) h2
          refine key false _ (decide_eq_false hn).symm rfl rfl rfl (fun w hL => sparse_pos s (by omega) ⟨n.natAbs, if n.natAbs = 0 then 0 else powV pw, false, false, []⟩ ?_ rfl rfl rfl h2 (by rw [e0]; exact ha.1) (by rw [e0]; exact ha.2) w hL)
          rw [hl]
          exact hfin
end Go.Proofs.YtjpiplplohapnaaGreatDoor
namespace Go.Proofs.YtjpiplplohapnaaGreatDoor
open Go.RowKit Go.Proofs.YtjpiplplohapnaaGreatDoorW.PrintWords Rf Nr Us
theorem int_cases (l : List UInt8) : (∃ n : Int, Num.progInt l = (n, true) ∧ l = Lib.itoa n ∧ -9223372036854775808 ≤ n ∧ n ≤ 9223372036854775807) ∨ Num.progInt l = (0, false) := by
  rw [Num.progInt_eq]
  cases h : Num.intOf l with
  | none => exact Or.inr rfl
  | some n =>
    obtain ⟨h1, h2⟩ := Num.atoi_of_intOf h
    exact Or.inl ⟨n, rfl, h2.symm, (Num.atoi_bounds h1).1, (Num.atoi_bounds h1).2⟩
theorem cat_list (a p : ByteArray) : (a ++ ⟨#[101]⟩ ++ p).data.toList = a.data.toList ++ 101 :: p.data.toList := by
  simp [ByteArray.data_append]
set_option maxRecDepth 100000 in
set_option maxHeartbeats 1000000 in
theorem rises_not (a b p : ByteArray) (w : World) (hL : Laid w) (n m : Int) (ok ok2 : Bool)
    (H1 : ∀ w, Laid w → Calls Tryz.prog 17 #[.string a] w fun e w' => e = .returned (.tuple #[.int .i64 n, .bool ok]) ∧ Below w.heap.size w w')
    (H2 : ∀ w, Laid w → Calls Tryz.prog 17 #[.string b] w fun e w' => e = .returned (.tuple #[.int .i64 m, .bool ok2]) ∧ Below w.heap.size w w')
    (h : ok = false ∨ ok2 = false ∨ m < n) : Calls Tryz.prog 7 #[.string a, .string b, .string p] w fun e w' => e = .returned (.bool true) ∧ Below w.heap.size w w' := by
  have HA := Lib.hid awake_true
  have HC := Lib.hid h
  clear h
  go_enter Tryz.func7, Tryz.ntmps7
  go_wp2_with fail
  refine (H1 _ hL).mono ?_
  rintro e w1 ⟨rfl, hb1⟩
  have hL1 := hL.below hb1
  go_wp2_with fail
  refine (H2 _ hL1).mono ?_
  rintro e w2 ⟨rfl, hb2⟩
  have hL2 := hL1.below hb2
  have hb02 := hb1.trans (hb2.mono hb1.size)
  clear hL1 hb1 hb2 H1 H2
  cases ok
  · clear HC
    go_wp2_with fail
    refine (HA.out _ hL2).mono ?_
    rintro e w3 ⟨rfl, hb3⟩
    have hb03 := hb02.trans (hb3.mono hb02.size)
    go_wp2_with fail
    go_ret
    exact ⟨rfl, hb03⟩
  · cases ok2
    · clear HC
      go_wp2_with fail
      refine (HA.out _ hL2).mono ?_
      rintro e w3 ⟨rfl, hb3⟩
      have hb03 := hb02.trans (hb3.mono hb02.size)
      go_wp2_with fail
      go_ret
      exact ⟨rfl, hb03⟩
    · have hlt : m < n := by
        rcases HC.out with h | h | h
        · cases h
        · cases h
        · exact h
      have hd : decide (m < n) = true := decide_eq_true hlt
      clear HC
      go_wp2_with fail
      refine (HA.out _ hL2).mono ?_
      rintro e w3 ⟨rfl, hb3⟩
      have hb03 := hb02.trans (hb3.mono hb02.size)
      go_wp2_with fail
      go_ret
      exact ⟨rfl, hb03⟩
set_option maxRecDepth 100000 in
set_option maxHeartbeats 1000000 in
theorem rises_yes (a b p : ByteArray) (ha : a.size ≤ 281474976710656) (hb : b.size ≤ 281474976710656) (hp : p.size ≤ 281474976710656) (w : World) (hL : Laid w) (n m P : Int) (hle : n ≤ m)
    (H1 : ∀ w, Laid w → Calls Tryz.prog 17 #[.string a] w fun e w' => e = .returned (.tuple #[.int .i64 n, .bool true]) ∧ Below w.heap.size w w')
    (H2 : ∀ w, Laid w → Calls Tryz.prog 17 #[.string b] w fun e w' => e = .returned (.tuple #[.int .i64 m, .bool true]) ∧ Below w.heap.size w w')
    (H3 : ∀ w, Laid w → Calls Tryz.prog 10 #[.string (a ++ ⟨#[101]⟩ ++ p)] w (PaPost n P w))
    (H4 : ∀ w, Laid w → Calls Tryz.prog 10 #[.string (b ++ ⟨#[101]⟩ ++ p)] w (PaPost m P w)) :
    Calls Tryz.prog 7 #[.string a, .string b, .string p] w fun e w' => e = .returned (.bool true) ∧ Below w.heap.size w w' := by
  have HA := Lib.hid awake_true
  have HR := Lib.hid (fun x y => @rises n m P x y hle)
  have e1 : ¬ 9223372036854775807 < a.size + (⟨#[101]⟩ : ByteArray).size := by show ¬ 9223372036854775807 < a.size + 1; omega
  have e2 : ¬ 9223372036854775807 < b.size + (⟨#[101]⟩ : ByteArray).size := by show ¬ 9223372036854775807 < b.size + 1; omega
  have e3 : ¬ 9223372036854775807 < (a ++ (⟨#[101]⟩ : ByteArray)).size + p.size := by rw [ByteArray.size_append]; show ¬ 9223372036854775807 < a.size + 1 + p.size; omega
  have e4 : ¬ 9223372036854775807 < (b ++ (⟨#[101]⟩ : ByteArray)).size + p.size := by rw [ByteArray.size_append]; show ¬ 9223372036854775807 < b.size + 1 + p.size; omega
  clear ha hb hp
  have hd1 : ¬ m < n := by omega
  have hd : decide (m < n) = false := decide_eq_false hd1
  clear hle
  go_enter Tryz.func7, Tryz.ntmps7
  go_wp2_with fail
  refine (H1 _ hL).mono ?_
  rintro e w1 ⟨rfl, hb1⟩
  have hL1 := hL.below hb1
  go_wp2_with fail
  refine (H2 _ hL1).mono ?_
  rintro e w2 ⟨rfl, hb2⟩
  have hL2 := hL1.below hb2
  have hb02 := hb1.trans (hb2.mono hb1.size)
  clear hL1 hb1 hb2 H1 H2
  go_wp2_with fail
  refine (H3 _ hL2).mono ?_
  rintro e w3 ⟨hb3, x, c, rfl, hc, hx⟩
  have hL3 := hL2.below hb3
  have hb03 := hb02.trans (hb3.mono hb02.size)
  have HX := Lib.hid hx
  have HC := Lib.hid hc
  clear hL2 hb02 hb3 H3 hx hc
  go_wp2_with fail
  refine (H4 _ hL3).mono ?_
  rintro e w4 ⟨hb4, y, d, rfl, hc2, hy⟩
  have hL4 := hL3.below hb4
  have hb04 := hb03.trans (hb4.mono hb03.size)
  have HY := Lib.hid hy
  have HC2 := Lib.hid hc2
  clear hL3 hb03 hb4 H4 hy hc2
  rcases HC.out with rfl | rfl
  · rcases HC2.out with rfl | rfl
    · have ho : (FloatKind.f64.format.order x y == some .lt || FloatKind.f64.format.order x y == some .eq) = true := HR.out x y (HX.out rfl) (HY.out rfl)
      clear HR HX HY HC HC2
      go_wp2_with fail
      refine (HA.out _ hL4).mono ?_
      rintro e w5 ⟨rfl, hb5⟩
      have hb05 := hb04.trans (hb5.mono hb04.size)
      go_wp2_with fail
      go_ret
      exact ⟨rfl, hb05⟩
    · clear HR HX HY HC HC2
      go_wp2_with fail
      go_ret
      exact ⟨rfl, hb04⟩
  · clear HR HX HY HC HC2
    go_wp2_with fail
    go_ret
    exact ⟨rfl, hb04⟩
theorem textRises_walk (a b p : ByteArray) (ha : a.size ≤ 281474976710656) (hb : b.size ≤ 281474976710656) (hp : p.size ≤ 281474976710656) (w : World) (hL : Laid w) : Calls Tryz.prog 7 #[.string a, .string b, .string p] w fun e w' => e = .returned (.bool true) ∧ Below w.heap.size w w' := by
  have H1 := int_walk a ha
  have H2 := int_walk b hb
  rcases int_cases a.data.toList with ⟨n, h1, h2, h3, h4⟩ | h1
  · rcases int_cases b.data.toList with ⟨m, g1, g2, g3, g4⟩ | g1
    · rw [h1] at H1
      rw [g1] at H2
      by_cases hle : n ≤ m
      · refine rises_yes a b p ha hb hp w hL n m (powV p.data.toList) hle H1 H2 (fun w hL => ?_) (fun w hL => ?_)
        · exact parse_whole n h3 h4 p.data.toList _ (by rw [cat_list, ← h2]) w hL
        · exact parse_whole m g3 g4 p.data.toList _ (by rw [cat_list, ← g2]) w hL
      · exact rises_not a b p w hL n m true true H1 H2 (Or.inr (Or.inr (by omega)))
    · rw [g1] at H2
      exact rises_not a b p w hL _ _ _ _ H1 H2 (Or.inr (Or.inl rfl))
  · rw [h1] at H1
    exact rises_not a b p w hL _ _ _ _ H1 H2 (Or.inl rfl)
end Go.Proofs.YtjpiplplohapnaaGreatDoor
namespace Go.Proofs.YtjpiplplohapnaaGreatDoor
open Go.ChangeShapes Go.WideShapes Go.ChangeAt Go.RowKit
abbrev laidL : List (String × DataW Unit) := Rows.textIntsRow.laid
theorem laid_at {P : Program} {w : World} : ∀ {l : List (String × DataW Unit)} {ps : List MemPlace}, DataW.LaidVars P w l ps → ∀ {n : String} {d : DataW Unit}, (n, d) ∈ l →
    ∃ g t cs fuel p, P.globalNamed n = some g ∧ (P.globals[g]?).map (·.type) = some t ∧ w.var? P n = some cs ∧ DataW.trod (fun _ => ()) P w 0 (fun _ => true) false fuel t cs.toList = some (d, p)
  | [], _, _, _, _, hm => by cases hm
  | (m, e) :: r, ps, h, n, d, hm => by
    obtain ⟨g, t, cs, fuel, p, q, h1, h2, h3, h4, h5, _⟩ := h
    rcases List.mem_cons.1 hm with he | hm
    · cases he; exact ⟨g, t, cs, fuel, p, h1, h2, h3, h4⟩
    · exact laid_at h5 hm
theorem laid_at' {P : Program} {w : World} {l : List (String × DataW Unit)} (h : laidMet P l w) {n : String} {d : DataW Unit} (hm : (n, d) ∈ l) {g : Nat} {t : TypeId} (hg : P.globalNamed n = some g) (ht : (P.globals[g]?).map (·.type) = some t) :
    ∃ cs fuel p, w.var? P n = some cs ∧ DataW.trod (fun _ => ()) P w 0 (fun _ => true) false fuel t cs.toList = some (d, p) := by
  obtain ⟨ps, hv, -, -⟩ := h
  obtain ⟨g', t', cs, fuel, p, h1, h2, h3, h4⟩ := laid_at hv hm
  obtain rfl := Option.some.inj (hg.symm.trans h1)
  obtain rfl := Option.some.inj (ht.symm.trans h2)
  exact ⟨cs, fuel, p, h3, h4⟩
theorem chunks {α : Type} (c : Nat) : ∀ (vs : List (List α)) (cs : List α), cs.length = vs.length * c → (∀ i, i < vs.length → (cs.drop (i * c)).take c = vs.getD i []) → cs = vs.flatten
  | [], cs, hl, _ => by simpa using hl
  | v :: vs, cs, hl, h => by
    have h0 := h 0 (by simp)
    simp at h0
    have hl' : cs.length = vs.length * c + c := by rw [hl, List.length_cons, Nat.succ_mul]
    have hr := chunks c vs (cs.drop c) (by rw [List.length_drop, hl']; omega) (fun i hi => by
      have h1 := h (i + 1) (by simp; omega)
      rw [List.drop_drop]
      rw [Nat.succ_mul, Nat.add_comm] at h1
      exact h1.trans (by simp))
    rw [List.flatten_cons, ← hr, ← h0, List.take_append_drop]
theorem cells_of_parts {H : Type} {enc : TypeId × Value → H} {P : Program} {w : World} {base : Nat} {sp : Nat → Bool} {held : Bool} {fuel : Nat} {t e : TypeId} {n : Nat} {cs : List Value} {ds : List (DataW H)} {vs : List (List Value)} {p : List MemPlace}
    (ht : P.underlying t = some (.array n e)) (hct : P.cellsOf t = n * P.cellsOf e) (hl : vs.length = n)
    (hp : ∀ i, i < n → ∀ (m : Nat) (c : List Value) (d : DataW H) (q : List MemPlace), ds[i]? = some d → DataW.trod enc P w base sp held m e c = some (d, q) → c = vs.getD i [])
    (h : DataW.trod enc P w base sp held fuel t cs = some (.agg ds, p)) : cs = vs.flatten := by
  obtain ⟨xs, m, -, hx, hlen, hxl, hel⟩ := DataW.trod_array ht h
  have hds : ds = xs.map (·.1) := by simpa using congrArg Prod.fst hx
  refine chunks (P.cellsOf e) vs cs (by rw [hlen, hct, hl]) (fun i hi => ?_)
  rw [hl] at hi
  have h1 := hel i hi
  obtain ⟨⟨d, q⟩, hxi⟩ : ∃ y, xs[i]? = some y := ⟨_, List.getElem?_eq_getElem (by omega)⟩
  rw [hxi] at h1
  exact hp i hi m _ d q (by rw [hds, List.getElem?_map, hxi]; rfl) h1
theorem gAcc : Tryz.prog.globalNamed "unicode/utf8.acceptRanges" = some 16 := by kernel_rfl
theorem tSyn : (Tryz.prog.globals[1]?).map (·.type) = some 47 := by kernel_rfl
theorem tRng : (Tryz.prog.globals[2]?).map (·.type) = some 47 := by kernel_rfl
theorem tOpt : (Tryz.prog.globals[3]?).map (·.type) = some 4 := by kernel_rfl
theorem tU10 : (Tryz.prog.globals[4]?).map (·.type) = some 167 := by kernel_rfl
theorem tInf : (Tryz.prog.globals[6]?).map (·.type) = some 182 := by kernel_rfl
theorem tF10 : (Tryz.prog.globals[10]?).map (·.type) = some 223 := by kernel_rfl
theorem tP10 : (Tryz.prog.globals[11]?).map (·.type) = some 227 := by kernel_rfl
theorem tDb : (Tryz.prog.globals[14]?).map (·.type) = some 233 := by kernel_rfl
theorem tAcc : (Tryz.prog.globals[16]?).map (·.type) = some 237 := by kernel_rfl
theorem star : "*" ++ "errors.errorString" = "*errors.errorString" := by decide
theorem row196 (u : TypeId) (h : Tryz.prog.typeName? 3 u = some "*errors.errorString") : u = 196 :=
  typeName_ptr_named (nm := "errors.errorString") (by rw [star]; kernel_rfl) (by kernel_rfl) (by decide) u (by rw [star]; exact h)
theorem cells198 : Tryz.prog.cellsOf 198 = 1 := by kernel_rfl
theorem cells9 : Tryz.prog.cellsOf 9 = 1 := by kernel_rfl
theorem cells5 : Tryz.prog.cellsOf 5 = 1 := by kernel_rfl
theorem cells26 : Tryz.prog.cellsOf 26 = 1 := by kernel_rfl
theorem cells22 : Tryz.prog.cellsOf 22 = 1 := by kernel_rfl
theorem cells226 : Tryz.prog.cellsOf 226 = 2 := by kernel_rfl
theorem cells227 : Tryz.prog.cellsOf 227 = 696 * Tryz.prog.cellsOf 226 := by kernel_rfl
theorem cells167 : Tryz.prog.cellsOf 167 = 20 := by kernel_rfl
theorem cells233 : Tryz.prog.cellsOf 233 = 64 := by kernel_rfl
theorem cells182 : Tryz.prog.cellsOf 182 = 3 := by kernel_rfl
theorem cells75 : Tryz.prog.cellsOf 75 = 1 := by kernel_rfl
theorem cells3 : Tryz.prog.cellsOf 3 = 1 := by kernel_rfl
theorem p10_length : (Pinned.pow10Rows.map fun x : Nat × Nat => [Value.int .u64 x.1, Value.int .u64 x.2]).length = 696 := by kernel_rfl
theorem trod_float {H : Type} {enc : TypeId × Value → H} {P : Program} {w : World} {base : Nat} {sp : Nat → Bool} {held : Bool} {fuel : Nat} {t : TypeId} {k : FloatKind} {cs : List Value} {x : DataW H × List MemPlace}
    (ht : P.underlying t = some (.float k)) (h : DataW.trod enc P w base sp held fuel t cs = some x) : ∃ n, cs = [.float k n] ∧ x = (.lit (.float k n), []) := by
  cases fuel with
  | zero => simp [DataW.trod] at h
  | succ n =>
    unfold DataW.trod at h
    rw [ht] at h
    split at h <;> simp_all
theorem one_cell {w : World} {base : Nat} {a : Addr} {c : Value} (h : w.cells? base a 1 = some [c]) : w.cell? a = some c := by
  have e0 : a.add 0 = a := by simp [Addr.add]
  unfold World.cells? at h
  split at h
  · simp only [List.range_succ, List.range_zero, List.nil_append, List.mapM_cons, List.mapM_nil, e0] at h
    cases hcc : w.cell? a with
    | none => simp [hcc] at h
    | some c => simp [hcc] at h; rw [h]
  · cases h
theorem two_cells {P : Program} {w : World} {base : Nat} {sp : Nat → Bool} {fuel : Nat} {t : TypeId} {f0 f1 : Field} {k0 k1 : IntKind} {cs : List Value} {x y : Int} {p : List MemPlace}
    (ht : P.underlying t = some (.struct #[f0, f1])) (hct : P.cellsOf t = 2) (t0 : P.underlying f0.type = some (.int k0)) (t1 : P.underlying f1.type = some (.int k1)) (n0 : P.cellsOf f0.type = 1) (n1 : P.cellsOf f1.type = 1) (o0 : f0.offset = 0) (o1 : f1.offset = 1)
    (h : DataW.trod (fun _ => ()) P w base sp false fuel t cs = some (.agg [.lit (.int k0 x), .lit (.int k1 y)], p)) : cs = [.int k0 x, .int k1 y] := by
  obtain ⟨xs, m, -, hx, hlen, hxl, hel⟩ := DataW.trod_struct ht h
  rw [hct] at hlen
  have h0 := hel 0 _ rfl
  have h1 := hel 1 _ rfl
  match xs, hxl, hx, h0, h1 with
  | [x0, x1], _, hx, h0, h1 =>
    simp only [List.map_cons, List.map_nil, Prod.mk.injEq, DataW.agg.injEq, List.cons.injEq, and_true] at hx
    obtain ⟨⟨e0, e1⟩, -⟩ := hx
    simp only [List.getElem?_cons_zero, List.getElem?_cons_succ] at h0 h1
    obtain ⟨k0, c0, d0, -⟩ := DataW.trod_int t0 h0
    obtain ⟨k1, c1, d1, -⟩ := DataW.trod_int t1 h1
    subst d0; subst d1
    cases e0; cases e1
    match cs, hlen, c0, c1 with
    | [a, b], _, c0, c1 =>
      simp [n0, n1, o0, o1] at c0 c1
      rw [c0, c1]
theorem three_cells {P : Program} {w : World} {base : Nat} {sp : Nat → Bool} {fuel : Nat} {t : TypeId} {f0 f1 f2 : Field} {k0 k1 k2 : IntKind} {cs : List Value} {x y z : Int} {p : List MemPlace}
    (ht : P.underlying t = some (.struct #[f0, f1, f2])) (hct : P.cellsOf t = 3) (t0 : P.underlying f0.type = some (.int k0)) (t1 : P.underlying f1.type = some (.int k1)) (t2 : P.underlying f2.type = some (.int k2)) (n0 : P.cellsOf f0.type = 1) (n1 : P.cellsOf f1.type = 1) (n2 : P.cellsOf f2.type = 1) (o0 : f0.offset = 0) (o1 : f1.offset = 1) (o2 : f2.offset = 2)
    (h : DataW.trod (fun _ => ()) P w base sp false fuel t cs = some (.agg [.lit (.int k0 x), .lit (.int k1 y), .lit (.int k2 z)], p)) : cs = [.int k0 x, .int k1 y, .int k2 z] := by
  obtain ⟨xs, m, -, hx, hlen, hxl, hel⟩ := DataW.trod_struct ht h
  rw [hct] at hlen
  have h0 := hel 0 _ rfl
  have h1 := hel 1 _ rfl
  have h2 := hel 2 _ rfl
  match xs, hxl, hx, h0, h1, h2 with
  | [x0, x1, x2], _, hx, h0, h1, h2 =>
    simp only [List.map_cons, List.map_nil, Prod.mk.injEq, DataW.agg.injEq, List.cons.injEq, and_true] at hx
    obtain ⟨⟨e0, e1, e2⟩, -⟩ := hx
    simp only [List.getElem?_cons_zero, List.getElem?_cons_succ] at h0 h1 h2
    obtain ⟨k0, c0, d0, -⟩ := DataW.trod_int t0 h0
    obtain ⟨k1, c1, d1, -⟩ := DataW.trod_int t1 h1
    obtain ⟨k2, c2, d2, -⟩ := DataW.trod_int t2 h2
    subst d0; subst d1; subst d2
    cases e0; cases e1; cases e2
    match cs, hlen, c0, c1, c2 with
    | [a, b, c], _, c0, c1, c2 =>
      simp [n0, n1, n2, o0, o1, o2] at c0 c1 c2
      rw [c0, c1, c2]
theorem pair_cells {w : World} {base : Nat} {sp : Nat → Bool} {fuel : Nat} {cs : List Value} {x y : Nat} {p : List MemPlace}
    (h : DataW.trod (fun _ => ()) Tryz.prog w base sp false fuel 226 cs = some (.agg [.lit (.int .u64 x), .lit (.int .u64 y)], p)) : cs = [.int .u64 x, .int .u64 y] :=
  two_cells Tryz.underlying226 cells226 Tryz.underlying26 Tryz.underlying26 cells26 cells26 rfl rfl h
theorem p10_cells {w : World} {fuel : Nat} {cs : List Value} {ds : List (DataW Unit)} {vs : List (List Value)} {p : List MemPlace} (hl : vs.length = 696)
    (hp : ∀ i, i < 696 → ∀ (m : Nat) (c : List Value) (d : DataW Unit) (q : List MemPlace), ds[i]? = some d → DataW.trod (fun _ => ()) Tryz.prog w 0 (fun _ => true) false m 226 c = some (d, q) → c = vs.getD i [])
    (h : DataW.trod (fun _ => ()) Tryz.prog w 0 (fun _ => true) false fuel 227 cs = some (.agg ds, p)) : cs = vs.flatten :=
  cells_of_parts (n := 696) (e := 226) Tryz.underlying227 cells227 hl hp h
section
variable {W : World} (h : laidMet Tryz.prog laidL W)
include h
theorem met_size : 17 ≤ W.heap.size := by
  obtain ⟨cs, fuel, p, hv, -⟩ := laid_at' h (n := "unicode/utf8.acceptRanges") (d := Rows.laid_unicode_utf8_acceptRanges) (by simp [laidL, Rows.textIntsRow]) gAcc tAcc
  unfold World.var? at hv
  rw [gAcc] at hv
  simp only [Option.bind_some] at hv
  split at hv
  · rename_i heq
    have := (Array.getElem?_eq_some_iff.1 heq).1
    omega
  · cases hv
theorem met_opt : W.var? Tryz.prog "internal/strconv.optimize" = some #[.bool true] := by
  obtain ⟨cs, fuel, p, hv, hd⟩ := laid_at' h (n := "internal/strconv.optimize") (d := Rows.laid_internal_strconv_optimize) (by simp [laidL, Rows.textIntsRow]) gOpt tOpt
  obtain ⟨b, hb, hx⟩ := DataW.trod_bool Tryz.underlying4 hd
  cases hx
  rw [hv, Array.eq_one_of_toList hb]
theorem met_inf : W.var? Tryz.prog "internal/strconv.float64info" = some #[.int .u64 52, .int .u64 11, .int .i64 (-1023)] := by
  obtain ⟨cs, fuel, p, hv, hd⟩ := laid_at' h (n := "internal/strconv.float64info") (d := Rows.laid_internal_strconv_float64info) (by simp [laidL, Rows.textIntsRow]) gInf tInf
  have := three_cells Tryz.underlying182 cells182 Tryz.underlying75 Tryz.underlying75 Tryz.underlying3 cells75 cells75 cells3 rfl rfl rfl hd
  rw [hv]
  exact congrArg some (Array.toList_inj.1 this)
theorem met_u10 : Lib.TabIs Tryz.prog W "internal/strconv.uint64pow10" .u64 Lib.pow10Tab := by
  obtain ⟨cs, fuel, p, hv, hd⟩ := laid_at' h (n := "internal/strconv.uint64pow10") (d := Rows.laid_internal_strconv_uint64pow10) (by simp [laidL, Rows.textIntsRow]) gU10 tU10
  have e : (Rows.laid_internal_strconv_uint64pow10 : DataW Unit) = Lib.tabData .u64 Lib.pow10Tab := by rfl
  rw [e] at hd
  unfold Lib.TabIs
  rw [hv, ← Lib.cells_of_tab Tryz.underlying167 Tryz.underlying26 cells26 cells167 hd]
theorem met_db : Lib.TabIs Tryz.prog W "math/bits.deBruijn64tab" .u8 (Lib.deBruijn64tab.map fun x : Nat => (x : Int)) := by
  obtain ⟨cs, fuel, p, hv, hd⟩ := laid_at' h (n := "math/bits.deBruijn64tab") (d := Rows.laid_math_bits_deBruijn64tab) (by simp [laidL, Rows.textIntsRow]) gDb tDb
  have e : (Rows.laid_math_bits_deBruijn64tab : DataW Unit) = Lib.tabData .u8 (Lib.deBruijn64tab.map fun x : Nat => (x : Int)) := by rfl
  rw [e] at hd
  unfold Lib.TabIs
  rw [hv, ← Lib.cells_of_tab Tryz.underlying233 Tryz.underlying5 cells5 cells233 hd]
theorem met_f10 : ∃ a : Addr, W.var? Tryz.prog "internal/strconv.float64pow10" = some #[.slice (some a) 23 23] ∧ ∀ i, i < 23 → W.cell? (a.add i) = some (.float .f64 (f10tab.getD i 0)) := by
  obtain ⟨cs, fuel, p, hv, hd⟩ := laid_at' h (n := "internal/strconv.float64pow10") (d := Rows.laid_internal_strconv_float64pow10) (by simp [laidL, Rows.textIntsRow]) gF10 tF10
  rcases DataW.trod_slice Tryz.underlying223 hd with ⟨_, hx⟩ | ⟨a, len, cap, elems, rest, n, _, hcs, hx, _, hl, _, hlen, hel, hsp, _⟩
  · simp [Rows.laid_internal_strconv_float64pow10] at hx
  · simp only [Rows.laid_internal_strconv_float64pow10, Prod.mk.injEq, DataW.slice.injEq] at hx
    obtain ⟨⟨hE, hR⟩, -⟩ := hx
    have hr : rest = [] := List.map_eq_nil_iff.1 hR.symm
    subst hr
    have hc := (hsp rfl).1
    have hlen23 : len = 23 := by
      have := congrArg List.length hE
      simp at this; omega
    subst hlen23
    have hcap : cap = 23 := by simp at hc; omega
    subst hcap
    refine ⟨a, by rw [hv, Array.eq_one_of_toList hcs], fun i hi => ?_⟩
    have h1 := hel i hi
    rw [cells22, Nat.mul_one] at h1
    obtain ⟨y, hy⟩ : ∃ y, elems[i]? = some y := ⟨_, List.getElem?_eq_getElem (by omega)⟩
    rw [hy] at h1
    obtain ⟨c1, hc1, hy1⟩ := Option.bind_eq_some_iff.1 h1
    obtain ⟨k, rfl, hk⟩ := trod_float Tryz.underlying22 hy1
    have hd1 : (elems.map (·.1))[i]? = some (DataW.lit (.float .f64 k)) := by rw [List.getElem?_map, hy]; simp [hk]
    rw [← hE] at hd1
    have hkk : k = f10tab.getD i 0 := by
      have : ((f10tab.map fun x => (DataW.lit (.float .f64 x) : DataW Unit))[i]?) = some (DataW.lit (.float .f64 k)) := hd1
      rw [List.getElem?_map] at this
      obtain ⟨z, hz, hz2⟩ := Option.map_eq_some_iff.1 this
      cases hz2
      simp [List.getD, hz]
    rw [← hkk]
    exact one_cell hc1
theorem met_p10 : W.var? Tryz.prog "internal/strconv.pow10Tab" = some (Pinned.pow10Rows.flatMap fun x => [Value.int .u64 x.1, Value.int .u64 x.2]).toArray := by
  obtain ⟨cs, fuel, p, hv, hd⟩ := laid_at' h (n := "internal/strconv.pow10Tab") (d := Rows.laid_internal_strconv_pow10Tab) (by simp [laidL, Rows.textIntsRow]) gP10 tP10
  have e : (Rows.laid_internal_strconv_pow10Tab : DataW Unit) = .agg (Pinned.pow10Rows.map fun x => .agg [.lit (.int .u64 x.1), .lit (.int .u64 x.2)]) := rfl
  rw [e] at hd
  have hp : ∀ i, i < 696 → ∀ (m : Nat) (c : List Value) (d : DataW Unit) (q : List MemPlace), (Pinned.pow10Rows.map fun x : Nat × Nat => (.agg [.lit (.int .u64 x.1), .lit (.int .u64 x.2)] : DataW Unit))[i]? = some d →
      DataW.trod (fun _ => ()) Tryz.prog W 0 (fun _ => true) false m 226 c = some (d, q) → c = (Pinned.pow10Rows.map fun x : Nat × Nat => [Value.int .u64 x.1, Value.int .u64 x.2]).getD i [] := by
    intro i hi m c d q hdi ht
    rw [List.getElem?_map] at hdi
    obtain ⟨z, hz, rfl⟩ := Option.map_eq_some_iff.1 hdi
    have hg : (Pinned.pow10Rows.map fun x : Nat × Nat => [Value.int .u64 x.1, Value.int .u64 x.2]).getD i [] = [Value.int .u64 z.1, Value.int .u64 z.2] := by simp [List.getD, hz]
    rw [hg]
    exact pair_cells ht
  have := p10_cells p10_length hp hd
  rw [hv]
  refine congrArg some (Array.toList_inj.1 ?_)
  rw [this, List.flatMap_def]
theorem met_syn : ∃ te pe, W.var? Tryz.prog "strconv.ErrSyntax" = some #[.iface te pe] := by
  have h' := h.tail.tail.tail.tail.tail.tail.tail.tail.tail.tail.tail
  obtain ⟨a0, s0, hv0, -, -, -⟩ := laid_sentinel h' gSyn tSyn Tryz.underlying47 row196 Tryz.underlying196 Tryz.underlying198 rfl rfl Tryz.underlying9 cells198 cells9
  exact ⟨_, _, hv0⟩
theorem met_rng : ∃ te pe, W.var? Tryz.prog "strconv.ErrRange" = some #[.iface te pe] := by
  have h' := h.tail.tail.tail.tail.tail.tail.tail.tail.tail.tail
  obtain ⟨a0, s0, hv0, -, -, -⟩ := laid_sentinel h' gRng tRng Tryz.underlying47 row196 Tryz.underlying196 Tryz.underlying198 rfl rfl Tryz.underlying9 cells198 cells9
  exact ⟨_, _, hv0⟩
theorem laid_of_met : Laid W :=
  ⟨met_size h, met_syn h, met_rng h, met_opt h, met_inf h, met_u10 h, met_f10 h, met_p10 h, met_db h⟩
end
end Go.Proofs.YtjpiplplohapnaaGreatDoor
namespace Go.Proofs.YtjpiplplohapnaaGreatDoor
open Go.ChangeShapes Go.WideShapes Go.ChangeAt Go.RowKit
open Go.ChangeMaps (open_string shut_string)
theorem own : ownKnob Tryz.prog.godebug = none := by kernel_rfl
set_option maxRecDepth 100000 in
theorem textRises_lifted (os : Os) (started : os.Started) (H : Type) (enc : TypeId × Value → H) :
    ReturnsInHanded {} Tryz.checked os 7 .any (fun w args => (Rows.textRisesSpec.pre enc Tryz.prog Tryz.f7 Rows.textRisesRow.domain false w args ∧ laidMetH Tryz.prog laidL w) ∧ sizedMet enc Tryz.prog Tryz.f7 (OpenSpec.ofChange Rows.textRisesSpec) false w args)
      (Rows.textRisesSpec.post enc Tryz.prog Tryz.f7 false true false false) := by
  refine returnsInHanded_of_change_and (C := Tryz.checked) (X := fun w _ => laidMetH Tryz.prog laidL w) (fun _ _ _ hh h => h.of_heap hh) own started (by kernel_rfl) Tryz.func7
    (ChangeSpec.witness_shaped (enc := enc) (C := Tryz.checked) (os := os) (X := fun w _ => laidMetH Tryz.prog laidL w) false (World.laidAll Tryz.prog os laidL) #[.string ⟨#[]⟩, .string ⟨#[]⟩, .string ⟨#[]⟩] 8 (World.laidAll_os _ _ _)
      (World.shaped_of_ZipB (by kernel_rfl) (by kernel_rfl)) (by kernel_rfl) (by kernel_rfl) (by kernel_rfl)
      (by rw [MakeChecks.laidMetH_plain _ _ _ (by kernel_rfl)]; exact laidMet_laidAll _ (by kernel_rfl) (by kernel_rfl))) ?_
  intro W base args ds gs before hval0 hW hc hsz0 hL _
  have hsz : (DataW.weightsEach Tryz.prog (Tryz.f7.params.toList ++ Rows.textRisesSpec.plain.varTypes Tryz.prog) (ds ++ gs)).all (· ≤ reachBytes) = true := hsz0
  clear hsz0
  have hval : ∀ (j : Nat) t v, Tryz.f7.params[j]? = some t → args[j]? = some v → Value.okWide Tryz.prog W .any base t v := hval0
  have hW' := hW
  obtain ⟨p, q, hA0, hV, rfl, _, _⟩ := hW
  have hA : DataW.TrodAll enc Tryz.prog W 0 (fun _ => true) true Tryz.f7.params.toList args.toList ds p := hA0
  rw [Tryz.params7] at hA hval hsz
  obtain ⟨v0, v1, v2, d0, d1, d2, p0, p1, p2, rfl, rfl, rfl, h0, h1, h2⟩ := trodAll_three hA
  obtain ⟨rfl, rfl⟩ := trodVars_none hV
  obtain ⟨a, rfl, rfl, rfl, ha⟩ := open_string Tryz.underlying9 (hval 0 9 v0 rfl rfl) h0
  obtain ⟨b, rfl, rfl, rfl, hsb⟩ := open_string Tryz.underlying9 (hval 1 9 v1 rfl rfl) h1
  obtain ⟨s, rfl, rfl, rfl, hs⟩ := open_string Tryz.underlying9 (hval 2 9 v2 rfl rfl) h2
  clear hA0 hval0
  simp only [List.append_nil] at hW'
  have lim : ∀ x : ByteArray, x.data.toList.length ≤ reachBytes → x.size ≤ 281474976710656 := by
    intro x h1
    have h2 := reachBytes_lt
    have e1 : x.size = x.data.size := rfl
    have e2 : x.data.toList.length = x.data.size := Array.length_toList
    have e3 : (2 : Nat) ^ 47 = 140737488355328 := by decide
    omega
  have la := lim a (sized_string hsz (j := 0) (t := 9) rfl rfl)
  have lb := lim b (sized_string hsz (j := 1) (t := 9) rfl rfl)
  have ls := lim s (sized_string hsz (j := 2) (t := 9) rfl rfl)
  rw [MakeChecks.laidMetH_plain _ _ _ (by kernel_rfl)] at hL
  refine (textRises_walk a b s la lb ls W (laid_of_met hL)).mono fun e W' ⟨he, hb⟩ => ?_
  subst he
  refine ⟨_, rfl, _, _, _, [], [], [], hW', ?_, ?_, rfl, hb.frame _, fun h => by cases h⟩
  · exact trodAll_mk1 (shut_bool Tryz.underlying4 _)
  · exact trodAll_mk3 (shut_string Tryz.underlying9 ha) (shut_string Tryz.underlying9 hsb) (shut_string Tryz.underlying9 hs)
theorem textRises_holds : Rows.TextRisesSaid :=
  OpenClaim.holds_of_wide 7 Tryz.f7 rfl rfl rfl rfl rfl rfl rfl ⟨rfl, rfl, rfl, rfl, rfl⟩ rfl rfl rfl rfl rfl (by kernel_rfl) Tryz.func7 (by kernel_rfl)
    (of_decide_eq_true (by kernel_rfl)) (by unfold Func.isWrapper; first | (rw [if_pos (by decide +kernel)]; kernel_rfl) | (rw [if_neg (by decide +kernel)]; exact ⟨rfl, rfl⟩))
    (fun os started H enc _ => textRises_lifted os started H enc)
#print axioms textRises_holds
end Go.Proofs.YtjpiplplohapnaaGreatDoor
namespace Go.Proofs.YtjpiplplohapnaaGreatDoor
open Go
theorem textRises_card : Rows.TextRisesCardSaid :=
  Claim7.holds_tied_plain_at .later [] [.data, .data, .widerDeep, .widerDeep, .data, .data, .data, .data, .data, .data, .sentinel, .sentinel, .pinned, .pinned, .pinned] true (true, "88b106d7fc526b4d2f4990cd12e5310ed366ec0058fe55e1a106d0c7beb3aadc") true
    textRises_holds (fun _ h => by cases h) (by kernel_rfl) (fun _ h => by cases h) textRises_row_tie rfl ⟨rfl, rfl⟩ (by kernel_rfl) rfl
    (fun f fn hf hfn => by
      obtain rfl : f = 7 := Option.some.inj ((show Tryz.prog.funcNamed "tenor/tenorlaw2.TextRises" = some 7 by kernel_rfl).symm.trans hf) |>.symm
      obtain rfl : fn = Tryz.f7 := (Option.some.inj (Tryz.func7.symm.trans hfn)).symm
      exact ⟨by kernel_rfl, fun j t ht => by
        rw [Tryz.params7] at ht
        have hm : t ∈ [9, 9, 9] := by simpa using Array.mem_of_getElem? ht
        have hall : ([9, 9, 9].all fun u => !Tryz.prog.wantsStandIn u) = true := by kernel_rfl
        exact (show Tryz.prog.wantsStandIn t = false by simpa using List.all_eq_true.1 hall t hm)⟩)
    (by kernel_rfl)
#print axioms textRises_card
end Go.Proofs.YtjpiplplohapnaaGreatDoor
