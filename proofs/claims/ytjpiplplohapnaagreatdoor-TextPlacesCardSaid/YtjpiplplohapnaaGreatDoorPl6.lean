/- Part 6 of the proof: Num, TInt, LRx, Pf1, RfE. -/
import Derived.Test.YtjpiplplohapnaaGreatDoorPl5
import Derived.Lib.AtoiAll
import Derived.Lib.ItoaNum
import Derived.LoopTactic
import Derived.Deep.CutBlock
import Derived.Deep.DeepCutAuto
set_option linter.unusedVariables false
set_option linter.unusedSimpArgs false
namespace Go.Proofs.YtjpiplplohapnaaGreatDoor.Num
open Go
def isD (c : UInt8) : Prop := 48 ≤ c.toNat ∧ c.toNat ≤ 57
instance (c : UInt8) : Decidable (isD c) := inferInstanceAs (Decidable (_ ∧ _))
def st (a : Nat) (c : UInt8) : Nat := 10 * a + (c.toNat - 48)
def dv (acc : Nat) (l : List UInt8) : Nat := l.foldl st acc
theorem dv_nil (a : Nat) : dv a [] = a := by unfold dv; rw [List.foldl_nil]
theorem dv_cons (a : Nat) (c : UInt8) (r : List UInt8) : dv a (c :: r) = dv (10 * a + (c.toNat - 48)) r := by unfold dv; rw [List.foldl_cons]; rfl
theorem dv_append (l m : List UInt8) (a : Nat) : dv a (l ++ m) = dv (dv a l) m := by
  induction l generalizing a with
  | nil => rw [dv_nil, List.nil_append]
  | cons c r ih => rw [List.cons_append, dv_cons, dv_cons, ih]
theorem dv_snoc (l : List UInt8) (c : UInt8) (a : Nat) : dv a (l ++ [c]) = 10 * dv a l + (c.toNat - 48) := by rw [dv_append, dv_cons, dv_nil]
theorem dv_ge (l : List UInt8) (a : Nat) : a * 10 ^ l.length ≤ dv a l := by
  induction l generalizing a with
  | nil => simp [dv_nil]
  | cons c r ih =>
    have h1 := ih (10 * a + (c.toNat - 48))
    have h2 : 10 * a * 10 ^ r.length ≤ (10 * a + (c.toNat - 48)) * 10 ^ r.length := Nat.mul_le_mul_right _ (Nat.le_add_right _ _)
    have e : a * 10 ^ (r.length + 1) = 10 * a * 10 ^ r.length := by rw [Nat.pow_succ, Nat.mul_comm (10 ^ r.length) 10, ← Nat.mul_assoc, Nat.mul_comm a 10]
    rw [dv_cons, List.length_cons]
    rw [e]
    exact Nat.le_trans h2 h1
theorem dv_lt (l : List UInt8) (h : ∀ c ∈ l, isD c) (a : Nat) : dv a l < (a + 1) * 10 ^ l.length := by
  induction l generalizing a with
  | nil => simp [dv_nil]
  | cons c r ih =>
    have hc := h c (by simp)
    have h1 := ih (fun x hx => h x (by simp [hx])) (10 * a + (c.toNat - 48))
    have h2 : (10 * a + (c.toNat - 48) + 1) * 10 ^ r.length ≤ (10 * (a + 1)) * 10 ^ r.length := Nat.mul_le_mul_right _ (by unfold isD at hc; omega)
    have e : (a + 1) * 10 ^ (r.length + 1) = 10 * (a + 1) * 10 ^ r.length := by rw [Nat.pow_succ, Nat.mul_comm (10 ^ r.length) 10, ← Nat.mul_assoc, Nat.mul_comm (a + 1) 10]
    rw [dv_cons, List.length_cons]
    rw [e]
    exact Nat.lt_of_lt_of_le h1 h2
theorem toNat_digit {d : Nat} (h : d < 10) : (UInt8.ofNat (48 + d)).toNat = 48 + d := by
  rw [UInt8.toNat_ofNat']; omega
theorem digit_of {c : UInt8} (h : isD c) : UInt8.ofNat (48 + (c.toNat - 48)) = c := by
  unfold isD at h
  rw [show 48 + (c.toNat - 48) = c.toNat by omega, UInt8.ofNat_toNat]
theorem dec_digits (u : Nat) : ∀ c ∈ Lib.decDigits u, isD c := by
  induction u using Nat.strongRecOn with
  | ind u ih =>
    rw [Lib.decDigits]
    by_cases h : u < 10
    · rw [dif_pos h]
      intro c hc
      obtain rfl := List.mem_singleton.1 hc
      unfold isD; rw [toNat_digit h]; omega
    rw [dif_neg h]
    intro c hc
    rcases List.mem_append.1 hc with h1 | h1
    · exact ih (u / 10) (by omega) c h1
    obtain rfl := List.mem_singleton.1 h1
    unfold isD; rw [toNat_digit (by omega)]; omega
theorem dec_ne (u : Nat) : Lib.decDigits u ≠ [] := by
  rw [Lib.decDigits]
  by_cases h : u < 10
  · rw [dif_pos h]; simp
  rw [dif_neg h]; simp
theorem dv_dec (u : Nat) : dv 0 (Lib.decDigits u) = u := by
  induction u using Nat.strongRecOn with
  | ind u ih =>
    rw [Lib.decDigits]
    by_cases h : u < 10
    · rw [dif_pos h]; simp only [dv_cons, dv_nil]; rw [toNat_digit h]; omega
    rw [dif_neg h, dv_snoc, ih (u / 10) (by omega), toNat_digit (by omega)]; omega
def canon (l : List UInt8) : Prop := l ≠ [] ∧ (∀ c ∈ l, isD c) ∧ (l.head? = some 48 → l.length = 1)
instance (l : List UInt8) : Decidable (canon l) := inferInstanceAs (Decidable (_ ∧ _ ∧ _))
theorem dec_canon (u : Nat) : canon (Lib.decDigits u) := by
  refine ⟨dec_ne u, dec_digits u, ?_⟩
  induction u using Nat.strongRecOn with
  | ind u ih =>
    rw [Lib.decDigits]
    by_cases h : u < 10
    · rw [dif_pos h]; simp
    rw [dif_neg h]
    have hne := dec_ne (u / 10)
    intro hh
    exfalso
    have hh' : (Lib.decDigits (u / 10)).head? = some 48 := by
      cases hl : Lib.decDigits (u / 10) with
      | nil => exact absurd hl hne
      | cons c r => rw [hl] at hh; simpa using hh
    have hlen := ih (u / 10) (by omega) hh'
    cases hl : Lib.decDigits (u / 10) with
    | nil => exact absurd hl hne
    | cons c r =>
      rw [hl] at hh' hlen
      obtain rfl : r = [] := by simpa using hlen
      obtain rfl : c = 48 := by simpa using hh'
      have := dv_dec (u / 10)
      rw [hl] at this
      simp only [dv_cons, dv_nil] at this
      have e : (48 : UInt8).toNat = 48 := rfl
      omega
theorem dec_of_canon (l : List UInt8) (h : canon l) : Lib.decDigits (dv 0 l) = l := by
  obtain ⟨hne, hd, h0⟩ := h
  generalize hn : l.length = n
  induction n generalizing l with
  | zero => exact absurd (List.length_eq_zero_iff.1 hn) hne
  | succ n ih =>
    obtain ⟨m, c, rfl⟩ : ∃ m c, l = m ++ [c] := ⟨l.dropLast, l.getLast hne, (List.dropLast_concat_getLast hne).symm⟩
    have hc : isD c := hd c (by simp)
    have hc' := hc
    unfold isD at hc'
    rw [dv_snoc]
    cases m with
    | nil =>
      rw [Lib.decDigits, dif_pos (by simp only [dv_nil]; omega)]
      simp only [dv_nil, Nat.mul_zero, Nat.zero_add, List.nil_append]
      rw [digit_of hc]
    | cons b r =>
      have hb : isD b := hd b (by simp)
      have hb' := hb
      unfold isD at hb'
      have hb0 : b ≠ 48 := by
        rintro rfl
        have := h0 (by simp)
        simp at this
      have hb1 : b.toNat ≠ 48 := fun e => hb0 (by rw [← UInt8.ofNat_toNat (x := b), e]; rfl)
      have hv : 1 ≤ dv 0 (b :: r) := by
        have := dv_ge r (10 * 0 + (b.toNat - 48))
        have h1 : 1 ≤ 10 ^ r.length := Nat.pow_pos (by decide)
        have h2 : 1 * 1 ≤ (10 * 0 + (b.toNat - 48)) * 10 ^ r.length := Nat.mul_le_mul (by omega) h1
        simp only [dv_cons]; omega
      have ihm := ih (b :: r) (by simp) (fun x hx => hd x (by simp at hx ⊢; rcases hx with rfl | hx <;> simp [*])) (fun e => absurd (by simpa using e) hb0) (by simp at hn ⊢; omega)
      rw [Lib.decDigits, dif_neg (by omega)]
      rw [show (10 * dv 0 (b :: r) + (c.toNat - 48)) / 10 = dv 0 (b :: r) by omega, show (10 * dv 0 (b :: r) + (c.toNat - 48)) % 10 = c.toNat - 48 by omega, ihm, digit_of hc]
def intOf (l : List UInt8) : Option Int :=
  match l with
  | [] => none
  | c :: r =>
    if c.toNat = 45 then (if canon r ∧ r.head? ≠ some 48 ∧ dv 0 r ≤ 9223372036854775808 then some (-(dv 0 r : Int)) else none)
    else if canon (c :: r) ∧ dv 0 (c :: r) < 9223372036854775808 then some (dv 0 (c :: r) : Int) else none
def told (o : Option Int) : Int × Bool := match o with | some n => (n, true) | none => (0, false)
theorem parse_digits (l : List UInt8) (h : ∀ c ∈ l, isD c) (a : Nat) (hl : dv a l < 18446744073709551616) : Lib.parseUint10 a l = .ok (dv a l) := by
  induction l generalizing a with
  | nil => rw [dv_nil]; rfl
  | cons c r ih =>
    have hc := h c (by simp)
    have hge := dv_ge r (10 * a + (c.toNat - 48))
    have h1 : 1 ≤ 10 ^ r.length := Nat.pow_pos (by decide)
    have h2 : (10 * a + (c.toNat - 48)) * 1 ≤ (10 * a + (c.toNat - 48)) * 10 ^ r.length := Nat.mul_le_mul_left _ h1
    simp only [dv_cons] at hl
    simp only [Lib.parseUint10, dv_cons]
    unfold isD at hc
    rw [if_pos hc, if_neg (by omega), if_neg (by omega), Nat.mul_comm a 10]
    exact ih (fun x hx => h x (by simp [hx])) _ hl
theorem atoi_of_intOf {l : List UInt8} {n : Int} (h : intOf l = some n) : Lib.atoiAll l = .ok n ∧ Lib.itoa n = l := by
  cases l with
  | nil => simp [intOf] at h
  | cons c r =>
    simp only [intOf] at h
    by_cases hc : c.toNat = 45
    · rw [if_pos hc] at h
      by_cases hr : canon r ∧ r.head? ≠ some 48 ∧ dv 0 r ≤ 9223372036854775808
      · rw [if_pos hr] at h
        obtain ⟨hcan, hz, hb⟩ := hr
        obtain rfl : -(dv 0 r : Int) = n := Option.some.inj h
        have hpos : 1 ≤ dv 0 r := by
          cases r with
          | nil => exact absurd rfl hcan.1
          | cons b q =>
            have hb1 := hcan.2.1 b (by simp)
            have hb0 : b.toNat ≠ 48 := fun e => hz (by rw [List.head?_cons, ← UInt8.ofNat_toNat (x := b), e]; rfl)
            have := dv_ge q (10 * 0 + (b.toNat - 48))
            have h1 : 1 ≤ 10 ^ q.length := Nat.pow_pos (by decide)
            unfold isD at hb1
            have h2 : 1 * 1 ≤ (10 * 0 + (b.toNat - 48)) * 10 ^ q.length := Nat.mul_le_mul (by omega) h1
            simp only [dv_cons]; omega
        constructor
        · simp only [Lib.atoiAll]
          rw [if_pos (Or.inr hc)]
          unfold Lib.parseMag
          rw [if_neg hcan.1, parse_digits r hcan.2.1 0 (by omega)]
          simp only [hc]
          rw [if_neg (by simp), if_neg (by omega)]
          simp
        unfold Lib.itoa
        rw [if_pos (by omega)]
        rw [show (-(dv 0 r : Int)).natAbs = dv 0 r by omega, dec_of_canon r hcan]
        congr 1
        rw [← UInt8.ofNat_toNat (x := c), hc]; rfl
      rw [if_neg hr] at h; cases h
    rw [if_neg hc] at h
    by_cases hr : canon (c :: r) ∧ dv 0 (c :: r) < 9223372036854775808
    · rw [if_pos hr] at h
      obtain ⟨hcan, hb⟩ := hr
      obtain rfl : (dv 0 (c :: r) : Int) = n := Option.some.inj h
      have hc1 := hcan.2.1 c (by simp)
      unfold isD at hc1
      constructor
      · simp only [Lib.atoiAll]
        rw [if_neg (by omega)]
        unfold Lib.parseMag
        rw [if_neg (by simp), parse_digits (c :: r) hcan.2.1 0 (by omega)]
        simp only
        rw [if_neg (by omega), if_neg (by omega), if_neg hc]
      unfold Lib.itoa
      rw [if_neg (by omega), Int.toNat_natCast, dec_of_canon _ hcan]
    rw [if_neg hr] at h; cases h
theorem intOf_itoa (n : Int) (h0 : -9223372036854775808 ≤ n) (h1 : n ≤ 9223372036854775807) : intOf (Lib.itoa n) = some n := by
  unfold Lib.itoa
  by_cases hn : n < 0
  · rw [if_pos hn]
    simp only [intOf]
    have e : (45 : UInt8).toNat = 45 := rfl
    have hnz : (Lib.decDigits n.natAbs).head? ≠ some 48 := by
      intro hz
      have hl := (dec_canon n.natAbs).2.2 hz
      cases hd : Lib.decDigits n.natAbs with
      | nil => exact dec_ne _ hd
      | cons c r =>
        rw [hd] at hz hl
        obtain rfl : r = [] := by simpa using hl
        obtain rfl : c = 48 := by simpa using hz
        have := dv_dec n.natAbs
        rw [hd] at this
        have e : (48 : UInt8).toNat = 48 := rfl
        simp only [dv_cons, dv_nil] at this; omega
    have hm : -((n.natAbs : Nat) : Int) = n := by omega
    rw [if_pos e, dv_dec, if_pos ⟨dec_canon _, hnz, by omega⟩, hm]
  rw [if_neg hn]
  have hcan := dec_canon n.toNat
  have hdv := dv_dec n.toNat
  cases hd : Lib.decDigits n.toNat with
  | nil => exact absurd hd (dec_ne _)
  | cons c r =>
    rw [hd] at hcan hdv
    have hc1 := hcan.2.1 c (by simp)
    unfold isD at hc1
    simp only [intOf]
    rw [if_neg (by omega), if_pos ⟨hcan, by omega⟩, hdv]
    congr 1; omega
def progInt (l : List UInt8) : Int × Bool := match Lib.atoiAll l with
  | .ok v => if Lib.itoa v = l then (v, true) else (0, false)
  | _ => (0, false)
theorem atoi_bounds {l : List UInt8} {v : Int} (h : Lib.atoiAll l = .ok v) : -9223372036854775808 ≤ v ∧ v ≤ 9223372036854775807 := by
  cases l with
  | nil => simp [Lib.atoiAll] at h
  | cons c r =>
    simp only [Lib.atoiAll] at h
    split at h
    · cases h
    · cases h
    split at h
    · cases h
    split at h
    · cases h
    injection h with h
    split at h <;> omega
theorem progInt_eq (l : List UInt8) : progInt l = told (intOf l) := by
  unfold progInt
  cases hi : intOf l with
  | some n =>
    obtain ⟨h1, h2⟩ := atoi_of_intOf hi
    rw [h1]; simp only; rw [if_pos h2]; rfl
  | none =>
    cases ha : Lib.atoiAll l with
    | ok v =>
      simp only
      by_cases he : Lib.itoa v = l
      · have hb := atoi_bounds ha
        have := intOf_itoa v hb.1 hb.2
        rw [he, hi] at this
        cases this
      rw [if_neg he]; rfl
    | _ => rfl
end Go.Proofs.YtjpiplplohapnaaGreatDoor.Num
namespace Go.Proofs.YtjpiplplohapnaaGreatDoor
open Go.RowKit Go.Sort Go.Proofs.YtjpiplplohapnaaGreatDoorW.PrintWords
theorem grow_below {B : Nat} {a w : World} (h : Below B a w) (hB : B ≤ a.heap.size) (os : Array Obj) : Below B a (grow w os) :=
  ⟨h.os, h.tape, h.output, by have := h.size; simp [grow]; omega, fun i hi => by
    have h1 := h.block i hi
    have h2 : i < w.heap.size := by have := h.size; omega
    rw [← h1]
    show (w.heap ++ os)[i]? = _
    rw [Array.getElem?_append_left h2]⟩
set_option maxRecDepth 100000 in
theorem int_walk (s : ByteArray) (hlim : s.size ≤ 281474976710656) (w : World) (hL : Laid w) :
    Calls Tryz.prog 17 #[.string s] w fun e w' => e = .returned (.tuple #[.int .i64 (Num.progInt s.data.toList).1, .bool (Num.progInt s.data.toList).2]) ∧ Below w.heap.size w w' := by
  cases h : Lib.atoiAll s.data.toList with
  | ok v =>
    have hb := Num.atoi_bounds h
    have bw : ∀ {w1 : World}, (w1 = w ∨ ∃ t, w1 = Lib.bytesWorld w 5 t) → Below w.heap.size w w1 := by
      rintro w1 (rfl | ⟨t, rfl⟩)
      · exact Below.refl _ _
      exact Lib.bytesWorld_below _ _ _
    by_cases he : Lib.itoa v = s.data.toList
    · have hr : Num.progInt s.data.toList = (v, true) := by simp only [Num.progInt, h]; rw [if_pos he]
      have et : (Lib.itoa v == s.toList) = true := by simpa [ByteArray.toList_eq] using he
      rw [hr]
      go_enter Tryz.func17, Tryz.ntmps17
      go_wp2_with fail
      refine (Tryz.strconv_Atoi_ok s (by omega) v h _).mono ?_
      rintro e w1 ⟨rfl, hw⟩
      have hb1 := bw hw
      have hL1 := hL.below hb1
      clear hw
      go_wp2_with fail
      refine (Tryz.strconv_Itoa v hb.1 hb.2 _ hL1.u10).mono ?_
      rintro e w2 ⟨rfl, k, os, rfl⟩
      have hb2 : Below w.heap.size w (grow (w1.drewN k) os) := grow_below (below_drewN hb1 k) (Nat.le_refl _) os
      generalize grow (w1.drewN k) os = w2 at *
      clear hL1 hb1
      go_wp2_with fail
      go_ret2
      exact ⟨rfl, hb2⟩
    have hr : Num.progInt s.data.toList = (0, false) := by simp only [Num.progInt, h]; rw [if_neg he]
    have et : (Lib.itoa v == s.toList) = false := by simpa [ByteArray.toList_eq] using he
    rw [hr]
    go_enter Tryz.func17, Tryz.ntmps17
    go_wp2_with fail
    refine (Tryz.strconv_Atoi_ok s (by omega) v h _).mono ?_
    rintro e w1 ⟨rfl, hw⟩
    have hb1 := bw hw
    have hL1 := hL.below hb1
    clear hw
    go_wp2_with fail
    refine (Tryz.strconv_Itoa v hb.1 hb.2 _ hL1.u10).mono ?_
    rintro e w2 ⟨rfl, k, os, rfl⟩
    have hb2 : Below w.heap.size w (grow (w1.drewN k) os) := grow_below (below_drewN hb1 k) (Nat.le_refl _) os
    generalize grow (w1.drewN k) os = w2 at *
    clear hL1 hb1
    go_wp2_with fail
    go_ret2
    exact ⟨rfl, hb2⟩
  | range =>
    have hr : Num.progInt s.data.toList = (0, false) := by simp only [Num.progInt, h]
    obtain ⟨te, pe, hv⟩ := hL.rng
    have hv' := World.var?_cell gRng hv 0
    rw [hr]
    go_enter Tryz.func17, Tryz.ntmps17
    go_wp2_with fail
    refine (Tryz.strconv_Atoi_range s hlim h (.iface te pe) _ (by simpa using hv') (Or.inr ⟨te, pe, rfl⟩)).mono ?_
    rintro e W1 ⟨N, rfl, -, -, hb⟩
    go_wp2_with fail
    go_ret2
    exact ⟨rfl, hb⟩
  | _ =>
    have hr : Num.progInt s.data.toList = (0, false) := by simp only [Num.progInt, h]
    obtain ⟨te, pe, hv⟩ := hL.syn
    have hv' := World.var?_cell gSyn hv 0
    rw [hr]
    go_enter Tryz.func17, Tryz.ntmps17
    go_wp2_with fail
    refine (Tryz.strconv_Atoi_bad s hlim (fun n hn => by rw [h] at hn; cases hn) (fun hn => by rw [h] at hn; cases hn) (.iface te pe) _ (by simpa using hv') (Or.inr ⟨te, pe, rfl⟩)).mono ?_
    rintro e W1 ⟨N, rfl, -, -, hb⟩
    go_wp2_with fail
    go_ret2
    exact ⟨rfl, hb⟩
end Go.Proofs.YtjpiplplohapnaaGreatDoor
namespace Go.Proofs.YtjpiplplohapnaaGreatDoor.Rf
theorem esc_digits : ∀ (l : List UInt8) (e : Nat), (∀ c ∈ l, Num.isD c) → Num.dv e l < 100000 → l.length ≤ 4 ∨ Num.dv e l < 10000 → escan l e false = (Num.dv e l, false, [])
  | [], e, _, _, _ => by rw [escan, Num.dv_nil]
  | c :: l, e, h, h1, h2 => by
    have hc := h c (by simp)
    have hce : 48 ≤ c.toNat ∧ c.toNat ≤ 57 := hc
    have hge := Num.dv_ge l (10 * e + (c.toNat - 48))
    rw [Num.dv_cons] at h1 h2 ⊢
    have hp : 1 ≤ 10 ^ l.length := Nat.pow_pos (by decide)
    have hle : (10 * e + (c.toNat - 48)) * 1 ≤ (10 * e + (c.toNat - 48)) * 10 ^ l.length := Nat.mul_le_mul_left _ hp
    rw [escan, if_neg (by omega), if_pos hce, if_pos (by omega), show e * 10 + (c.toNat - 48) = 10 * e + (c.toNat - 48) by omega]
    exact esc_digits l _ (fun x hx => h x (by simp [hx])) h1 (by
      rcases h2 with h2 | h2
      · left; simp at h2; omega
      right; exact h2)
theorem starts_digits {l : List UInt8} (h : ∀ c ∈ l, Num.isD c) (h0 : l ≠ []) : startsD l = true := by
  cases l with
  | nil => exact absurd rfl h0
  | cons c l =>
    have hc : 48 ≤ c.toNat ∧ c.toNat ≤ 57 := h c (by simp)
    rw [startsD, decide_eq_true hc.1, decide_eq_true hc.2]; rfl
end Go.Proofs.YtjpiplplohapnaaGreatDoor.Rf
namespace Go.Proofs.YtjpiplplohapnaaGreatDoor
open Go.RowKit Go.Proofs.YtjpiplplohapnaaGreatDoorW.PrintWords Rf
def SomeBool (w : World) (e : Ending) (w' : World) : Prop := (∃ b : Bool, e = .returned (.bool b)) ∧ w' = w
set_option maxRecDepth 100000 in
set_option maxHeartbeats 2000000 in
theorem under_calls (s : ByteArray) (hs : s.size ≤ 1000) (w : World) : Calls Tryz.prog 173 #[.string s] w (SomeBool w) := by
  go_enter Tryz.func173, Tryz.ntmps173
  go_upto_region 3 with (fail)
  go_cut [18] (fun v18 w' => (∃ b : Bool, v18 = .bool b ∧ (b = true → 1 ≤ s.size)) ∧ w = w')
  case first =>
    by_cases h1 : 1 ≤ s.size
    · have h1' : (1 : Int) ≤ s.size := by omega
      have h0 : 0 < s.size := h1
      go_wp2_with fail
      all_goals (go_meet; case rel => first | exact ⟨⟨_, rfl, fun _ => h1⟩, rfl⟩)
    have h1' : ¬ (1 : Int) ≤ s.size := by omega
    have h1'' : (s.size : Int) < 1 := by omega
    go_wp2_with fail
    all_goals (go_meet; case rel => first | exact ⟨⟨false, rfl, fun h => by cases h⟩, rfl⟩)
  obtain ⟨⟨b, rfl, hb⟩, rfl⟩ := hcut
  go_upto_if 18 with (fail)
  go_cut [0] (fun v0 w' => (∃ s' : ByteArray, v0 = .string s' ∧ s'.size ≤ 1000) ∧ w = w')
  case first =>
    cases b
    · go_wp2_with fail
      go_meet
      case rel => exact ⟨⟨s, rfl, hs⟩, rfl⟩
    have h1 := hb rfl
    have h1' : (1 : Int) ≤ s.size := by omega
    go_wp2_with fail
    go_meet
    case rel => exact ⟨⟨_, rfl, by rw [ByteArray.size_extract]; omega⟩, rfl⟩
  obtain ⟨⟨t, rfl, ht⟩, rfl⟩ := hcut
  clear hs hb
  go_upto_region 6 with (fail)
  go_cut [46] (fun v46 w' => (∃ b : Bool, v46 = .bool b ∧ (b = true → 2 ≤ t.size)) ∧ w = w')
  case first =>
    by_cases h1 : 2 ≤ t.size
    · have h1' : (2 : Int) ≤ t.size := by omega
      have h0 : 0 < t.size := by omega
      have h01 : 1 < t.size := by omega
      go_wp2_with (refine (Tryz.internal_strconv_lower _ _).mono ?_; rintro e w1 ⟨rfl, rfl⟩)
      all_goals (go_meet; case rel => first | exact ⟨⟨_, rfl, fun _ => h1⟩, rfl⟩)
    have h1' : ¬ (2 : Int) ≤ t.size := by omega
    have h1'' : (t.size : Int) < 2 := by omega
    go_wp2_with fail
    all_goals (go_meet; case rel => first | exact ⟨⟨false, rfl, fun h => by cases h⟩, rfl⟩)
  obtain ⟨⟨b, rfl, hb⟩, rfl⟩ := hcut
  go_upto_if 46 with (fail)
  go_cut [3, 4, 5] (fun v3 v4 v5 w' => (∃ (r : Int) (k : Nat) (h : Bool), v3 = .int .i32 r ∧ v4 = .int .i64 k ∧ v5 = .bool h ∧ k ≤ t.size) ∧ w = w')
  case first =>
    cases b
    · go_wp2_with fail
      go_meet
      case rel => exact ⟨⟨94, 0, false, rfl, rfl, rfl, by omega⟩, rfl⟩
    have h1 := hb rfl
    have h01 : 1 < t.size := by omega
    go_wp2_with (refine (Tryz.internal_strconv_lower _ _).mono ?_; rintro e w1 ⟨rfl, rfl⟩)
    all_goals (go_meet; case rel => exact ⟨⟨48, 2, _, rfl, rfl, rfl, h1⟩, rfl⟩)
  obtain ⟨⟨r0, k0, hx, rfl, rfl, rfl, hk0⟩, rfl⟩ := hcut
  clear hb
  go_wp2_with fail
  have hsz0 : t.size - k0 + k0 = t.size := by omega
  clear hk0
  go_loopg [3, 4] (t.size - k0) (fun gn v3 v4 w' => ∃ (r : Int) (k : Nat), gn + k = t.size ∧ v3 = .int .i32 r ∧ v4 = .int .i64 k ∧ w = w')
  case atStart => exact ⟨r0, k0, hsz0, rfl, rfl, rfl⟩
  case round =>
    obtain ⟨r, k, hg, rfl, rfl, rfl⟩ := hrel
    by_cases hk : k < t.size
    · have hw : IntKind.i64.wrap ((k : Int) + 1) = (k : Int) + 1 := by rw [Go.IntKind.wrap_i64]; omega
      go_upto_region 12 with (fail)
      go_cut [83] (fun v83 w' => (∃ b : Bool, v83 = .bool b) ∧ w = w')
      case first =>
        cases hx
        · go_wp2_with (refine (Tryz.internal_strconv_lower _ _).mono ?_; rintro e w1 ⟨rfl, rfl⟩)
          all_goals (go_meet; case rel => exact ⟨⟨_, rfl⟩, rfl⟩)
        go_wp2_with (refine (Tryz.internal_strconv_lower _ _).mono ?_; rintro e w1 ⟨rfl, rfl⟩)
        all_goals (go_meet; case rel => exact ⟨⟨_, rfl⟩, rfl⟩)
      obtain ⟨⟨b, rfl⟩, rfl⟩ := hcut
      cases b
      · go_wp2_with fail
        · go_ret
          exact ⟨⟨_, rfl⟩, rfl⟩
        · go_roundg (gk - 1)
          case measure => omega
          case rel => exact ⟨95, k + 1, by omega, rfl, by go_num, rfl⟩
        · go_ret
          exact ⟨⟨_, rfl⟩, rfl⟩
        go_roundg (gk - 1)
        case measure => omega
        case rel => exact ⟨33, k + 1, by omega, rfl, by go_num, rfl⟩
      go_wp2_with fail
      go_roundg (gk - 1)
      case measure => omega
      case rel => exact ⟨48, k + 1, by omega, rfl, by go_num, rfl⟩
    go_wp2_with fail
    all_goals (go_ret; exact ⟨⟨_, rfl⟩, rfl⟩)
def NoSpecial (w : World) (e : Ending) (w' : World) : Prop := e = .returned (.tuple #[.float .f64 0, .int .i64 0, .bool false]) ∧ w' = w
theorem special_digit (s : ByteArray) (h0 : 0 < s.size) (h1 : 48 ≤ s[0].toNat) (h2 : s[0].toNat ≤ 57) (w : World) : Calls Tryz.prog 141 #[.string s] w (NoSpecial w) := by
  have hne : ¬ s = ByteArray.empty := by rintro rfl; simp at h0
  obtain ⟨c, hc⟩ : ∃ c : Nat, s[0].toNat = c := ⟨_, rfl⟩
  have hcc : (s[0].toNat : Int) = (c : Int) := by rw [hc]
  rw [hc] at h1 h2
  clear hc
  have f1 : ((c : Int) == 43) = false := by simp; omega
  have f2 : ((c : Int) == 45) = false := by simp; omega
  have f3 : ((c : Int) == 105) = false := by simp; omega
  have f4 : ((c : Int) == 73) = false := by simp; omega
  have f5 : ((c : Int) == 110) = false := by simp; omega
  have f6 : ((c : Int) == 78) = false := by simp; omega
  go_enter Tryz.func141, Tryz.ntmps141
  go_wp2_with fail
  go_ret3
  exact ⟨rfl, rfl⟩
theorem common_digit (s : ByteArray) (h0 : 0 < s.size) (h1 : 48 ≤ s[0].toNat) (h2 : s[0].toNat ≤ 57) (w : World) : Calls Tryz.prog 181 #[.string s, .string ⟨#[105, 110, 102, 105, 110, 105, 116, 121]⟩] w fun e w' => e = .returned (.int .i64 0) ∧ w' = w := by
  obtain ⟨c, hc⟩ : ∃ c : Nat, s[0].toNat = c := ⟨_, rfl⟩
  have hcc : (s[0].toNat : Int) = (c : Int) := by rw [hc]
  rw [hc] at h1 h2
  clear hc
  have f1 : ¬ (65 : Int) ≤ (c : Int) := by omega
  have e105 : (⟨#[105, 110, 102, 105, 110, 105, 116, 121]⟩ : ByteArray)[0] = 105 := by decide
  have f2 : ((c : Int) != 105) = true := by simp; omega
  go_enter Tryz.func181, Tryz.ntmps181
  go_wp2_with fail
  refine wp_loop_rounds 1 ?_
  rw [rounds_succ]
  have hm : (0 : Int) < min 8 (s.size : Int) := by omega
  go_wp2_with fail
  go_ret
  exact ⟨rfl, rfl⟩
theorem special_minus (s : ByteArray) (hs : 1 < s.size) (hs2 : s.size ≤ 1000) (h45 : s[0].toNat = 45) (h1 : 48 ≤ s[1].toNat) (h2 : s[1].toNat ≤ 57) (w : World) : Calls Tryz.prog 141 #[.string s] w (NoSpecial w) := by
  have h0 : 0 < s.size := by omega
  have hne : ¬ s = ByteArray.empty := by rintro rfl; simp at h0
  have hcc : (s[0].toNat : Int) = 45 := by rw [h45]; rfl
  have hs' : (1 : Int) ≤ s.size := by omega
  have hx0 : 0 < (s.extract 1 s.size).size := by rw [ByteArray.size_extract]; omega
  have hx1 : (s.extract 1 s.size)[0] = s[1] := by
    simp [ByteArray.getElem_extract]
  have hcp := Lib.hid (common_digit (s.extract 1 s.size) hx0 (by rw [hx1]; exact h1) (by rw [hx1]; exact h2))
  clear h1 h2 hx0 hx1 h45
  go_enter Tryz.func141, Tryz.ntmps141
  go_wp2_with fail
  refine (hcp.out _).mono ?_
  rintro e w' ⟨rfl, rfl⟩
  go_wp2_with fail
  go_ret3
  exact ⟨rfl, rfl⟩
def RfPost (ng hx : Bool) (s : ByteArray) (o : Option Out) (w : World) (e : Ending) (w' : World) : Prop := w' = w ∧ match o with
  | none => ∃ (m x i : Int) (n t h : Bool), e = .returned (.tuple #[.int .u64 m, .int .i64 x, .bool n, .bool t, .bool h, .int .i64 i, .bool false])
  | some q => ∃ ok : Bool, (q.us = false → ok = true) ∧ e = .returned (.tuple #[.int .u64 q.m, .int .i64 q.e, .bool ng, .bool q.tr, .bool hx, .int .i64 ((s.size - q.rest.length : Nat) : Int), .bool ok])
theorem pos_of {s : ByteArray} {k : Nat} (h : k ≤ s.size) : s.size - (s.data.toList.drop k).length = k := by
  have : s.data.toList.length = s.size := Array.length_toList
  rw [List.length_drop]; omega
end Go.Proofs.YtjpiplplohapnaaGreatDoor
namespace Go.Proofs.YtjpiplplohapnaaGreatDoor
open Go.RowKit Go.Proofs.YtjpiplplohapnaaGreatDoorW.PrintWords Rf
def headR : Code → Option Nat
  | .region n _ _ => some n
  | .seq a _ => headR a
  | _ => none
def fromR (n : Nat) : Code → Option Code
  | .seq a b => if headR a = some n then some (.seq a b) else match fromR n a with
    | some c => some c
    | none => fromR n b
  | .cond _ a b => match fromR n a with
    | some c => some c
    | none => fromR n b
  | .block _ c => fromR n c
  | .scope c => fromR n c
  | .loop c => fromR n c
  | _ => none
noncomputable def rfCode77 : Code := ((Tryz.f142.body.bind (fromR 77)).getD .skip)
noncomputable def rfCode51 : Code := ((Tryz.f142.body.bind (fromR 51)).getD .skip)
set_option maxRecDepth 100000 in
set_option maxHeartbeats 4000000 in
theorem rfEnd (s : ByteArray) (hs : s.size ≤ 1000) (m k : Nat) (ng hx tr us : Bool) (N E : Int) (hk : k ≤ s.size) (e1 : -200000 ≤ E) (e2 : E ≤ 200000) (n1 : 0 ≤ N) (n2 : N ≤ 100) (o : Option Out) (ho : Hid (o = some ⟨m, if m = 0 then 0 else E - N, tr, us, s.data.toList.drop k⟩)) (w : World) {u1 u10 u11 u12 u13 u14 u15 u18 u19 u20 u21 u22 u23 u24 u25 u26 u27 u28 u29 u30 u31 u32 u33 u34 u35 u36 u37 u38 u39 u40 u41 u42 u43 u44 u45 u46 u47 u48 u49 u50 u51 u52 u53 u54 u55 u56 u57 u58 u59 u60 u61 u62 u63 u64 u65 u66 u67 u68 u69 u70 u71 u72 u73 u74 u75 u76 u77 u78 u79 u80 u81 u82 u83 u84 u85 u86 u87 u88 u89 u90 u91 u92 u93 u94 u95 u96 u97 u98 u99 u100 u101 u102 u103 u104 u105 u106 u107 u108 u109 u110 u111 u112 u113 u114 u115 u116 u117 u118 u119 u120 u121 u122 u123 u124 u125 u126 u127 u128 u129 u130 u131 u132 u133 u134 u135 u136 u137 u138 u139 u140 u141 u142 u143 u144 u145 u146 u147 u148 u149 u150 u151 u152 u153 u154 u155 u156 u157 u158 u159 u160 u161 u162 u163 u164 u165 u166 u167 u168 u169 u170 u171 u172 u173 u174 u175 u176 u177 u178 u179 u180 u181 u182 u183 u184 u185 u186 u187 u188 u189 u190 u191 u192 u193 u194 u195 u196 u197 u198 u199 u200 u201 u202 u203 u204 u205 u206 u207 u208 u209 u210 u211 u212 u213 u214 u215 u216 u217 u218 u219 u220 u221 u222 u223 u224 u225 u226 u227 u228 u229 u230 u231 u232 u233 u234 u235 u236 u237 u238 u239 u240 u241 u242 u243 u244 u245 u246 u247 u248 u249 u250 u251 u252 : Value} :
    rfCode77.wp Tryz.prog (Exit.noGoto (bodyPost Tryz.prog Tryz.f142 (RfPost ng hx s o w))) ⟨#[Value.string s, u1, Value.int .u64 m, Value.int .i64 0, Value.bool ng, Value.bool tr, Value.bool hx, Value.int .i64 (k : Int), Value.bool false, Value.bool us, u10, u11, u12, u13, u14, u15, Value.int .i64 N, Value.int .i64 E, u18, u19, u20, u21, u22, u23, u24, u25, u26, u27, u28, u29, u30, u31, u32, u33, u34, u35, u36, u37, u38, u39, u40, u41, u42, u43, u44, u45, u46, u47, u48, u49, u50, u51, u52, u53, u54, u55, u56, u57, u58, u59, u60, u61, u62, u63, u64, u65, u66, u67, u68, u69, u70, u71, u72, u73, u74, u75, u76, u77, u78, u79, u80, u81, u82, u83, u84, u85, u86, u87, u88, u89, u90, u91, u92, u93, u94, u95, u96, u97, u98, u99, u100, u101, u102, u103, u104, u105, u106, u107, u108, u109, u110, u111, u112, u113, u114, u115, u116, u117, u118, u119, u120, u121, u122, u123, u124, u125, u126, u127, u128, u129, u130, u131, u132, u133, u134, u135, u136, u137, u138, u139, u140, u141, u142, u143, u144, u145, u146, u147, u148, u149, u150, u151, u152, u153, u154, u155, u156, u157, u158, u159, u160, u161, u162, u163, u164, u165, u166, u167, u168, u169, u170, u171, u172, u173, u174, u175, u176, u177, u178, u179, u180, u181, u182, u183, u184, u185, u186, u187, u188, u189, u190, u191, u192, u193, u194, u195, u196, u197, u198, u199, u200, u201, u202, u203, u204, u205, u206, u207, u208, u209, u210, u211, u212, u213, u214, u215, u216, u217, u218, u219, u220, u221, u222, u223, u224, u225, u226, u227, u228, u229, u230, u231, u232, u233, u234, u235, u236, u237, u238, u239, u240, u241, u242, u243, u244, u245, u246, u247, u248, u249, u250, u251, u252], []⟩ w := by
  conv => arg 2; whnf
  have hwe : IntKind.i64.wrap (E - N) = E - N := by rw [Go.IntKind.wrap_i64]; omega
  clear e1 e2 n1 n2
  by_cases hm : m = 0
  · have fm : ((m : Int) != 0) = false := by simp [hm]
    have HM := Lib.hid (show (if m = 0 then (0 : Int) else E - N) = 0 from if_pos hm)
    clear hm
    cases us
    · go_wp2_with fail
      rw [Exit.noGoto_ret]
      refine bodyPost_ret (v := .tuple #[.int .u64 m, .int .i64 0, .bool ng, .bool tr, .bool hx, .int .i64 k, .bool true]) (by simp [results, Tryz.results142, go_sem]) rfl ⟨rfl, ?_⟩
      rw [ho.out]
      refine ⟨true, fun _ => rfl, ?_⟩
      dsimp only
      rw [HM.out, pos_of hk]
    have hun := Lib.hid (under_calls (s.extract 0 k) (by rw [ByteArray.size_extract]; omega))
    go_wp2_with (refine (hun.out _).mono ?_; rintro e w1 ⟨⟨ok, rfl⟩, rfl⟩; cases ok)
    all_goals rw [Exit.noGoto_ret]
    · refine bodyPost_ret (v := .tuple #[.int .u64 m, .int .i64 0, .bool ng, .bool tr, .bool hx, .int .i64 k, .bool false]) (by simp [results, Tryz.results142, go_sem]) rfl ⟨rfl, ?_⟩
      rw [ho.out]
      refine ⟨false, fun h => (by first | rfl | (cases h)), ?_⟩
      dsimp only
      rw [HM.out, pos_of hk]
    refine bodyPost_ret (v := .tuple #[.int .u64 m, .int .i64 0, .bool ng, .bool tr, .bool hx, .int .i64 k, .bool true]) (by simp [results, Tryz.results142, go_sem]) rfl ⟨rfl, ?_⟩
    rw [ho.out]
    refine ⟨true, fun h => (by first | rfl | (cases h)), ?_⟩
    dsimp only
    rw [HM.out, pos_of hk]
  have fm : ((m : Int) != 0) = true := by simp; omega
  have HM := Lib.hid (show (if m = 0 then (0 : Int) else E - N) = (E - N) from if_neg hm)
  clear hm
  cases us
  · go_wp2_with fail
    rw [Exit.noGoto_ret]
    refine bodyPost_ret (v := .tuple #[.int .u64 m, .int .i64 (E - N), .bool ng, .bool tr, .bool hx, .int .i64 k, .bool true]) (by simp [results, Tryz.results142, go_sem]) rfl ⟨rfl, ?_⟩
    rw [ho.out]
    refine ⟨true, fun _ => rfl, ?_⟩
    dsimp only
    rw [HM.out, pos_of hk]
  have hun := Lib.hid (under_calls (s.extract 0 k) (by rw [ByteArray.size_extract]; omega))
  go_wp2_with (refine (hun.out _).mono ?_; rintro e w1 ⟨⟨ok, rfl⟩, rfl⟩; cases ok)
  all_goals rw [Exit.noGoto_ret]
  · refine bodyPost_ret (v := .tuple #[.int .u64 m, .int .i64 (E - N), .bool ng, .bool tr, .bool hx, .int .i64 k, .bool false]) (by simp [results, Tryz.results142, go_sem]) rfl ⟨rfl, ?_⟩
    rw [ho.out]
    refine ⟨false, fun h => (by first | rfl | (cases h)), ?_⟩
    dsimp only
    rw [HM.out, pos_of hk]
  refine bodyPost_ret (v := .tuple #[.int .u64 m, .int .i64 (E - N), .bool ng, .bool tr, .bool hx, .int .i64 k, .bool true]) (by simp [results, Tryz.results142, go_sem]) rfl ⟨rfl, ?_⟩
  rw [ho.out]
  refine ⟨true, fun h => (by first | rfl | (cases h)), ?_⟩
  dsimp only
  rw [HM.out, pos_of hk]
end Go.Proofs.YtjpiplplohapnaaGreatDoor
