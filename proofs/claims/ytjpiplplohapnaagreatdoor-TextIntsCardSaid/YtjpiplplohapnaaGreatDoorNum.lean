/- Plain: numerals: decimal digits and what they spell; what a text is read as by Int (2.4), three times the same: by the program, by the document, by the numeral. No program here. -/
import Derived.Lib.AtoiAll
import Derived.Lib.ItoaNum
namespace Go.Proofs.YtjpiplplohapnaaGreatDoor.Num
open Go

def isD (c : UInt8) : Prop := 48 ≤ c.toNat ∧ c.toNat ≤ 57
instance (c : UInt8) : Decidable (isD c) := inferInstanceAs (Decidable (_ ∧ _))

/-- One digit more. -/
def st (a : Nat) (c : UInt8) : Nat := 10 * a + (c.toNat - 48)
/-- What digits spell, behind 'acc'. -/
def dv (acc : Nat) (l : List UInt8) : Nat := l.foldl st acc
theorem dv_nil (a : Nat) : dv a [] = a := by unfold dv; rw [List.foldl_nil]
theorem dv_cons (a : Nat) (c : UInt8) (r : List UInt8) : dv a (c :: r) = dv (10 * a + (c.toNat - 48)) r := by unfold dv; rw [List.foldl_cons]; rfl

theorem dv_append (l m : List UInt8) (a : Nat) : dv a (l ++ m) = dv (dv a l) m := by
  induction l generalizing a with
  | nil => rw [dv_nil, List.nil_append]
  | cons c r ih => rw [List.cons_append, dv_cons, dv_cons, ih]

theorem dv_snoc (l : List UInt8) (c : UInt8) (a : Nat) : dv a (l ++ [c]) = 10 * dv a l + (c.toNat - 48) := by rw [dv_append, dv_cons, dv_nil]

theorem dv_ge (l : List UInt8) (a : Nat) : a * 10 ^ l.length ≤ dv a l := by
  induction l generalizing a with
  | nil => simp [dv_nil]
  | cons c r ih =>
    have h1 := ih (10 * a + (c.toNat - 48))
    have h2 : 10 * a * 10 ^ r.length ≤ (10 * a + (c.toNat - 48)) * 10 ^ r.length := Nat.mul_le_mul_right _ (Nat.le_add_right _ _)
    have e : a * 10 ^ (r.length + 1) = 10 * a * 10 ^ r.length := by rw [Nat.pow_succ, Nat.mul_comm (10 ^ r.length) 10, ← Nat.mul_assoc, Nat.mul_comm a 10]
    rw [dv_cons, List.length_cons]
    rw [e]
    exact Nat.le_trans h2 h1

theorem dv_lt (l : List UInt8) (h : ∀ c ∈ l, isD c) (a : Nat) : dv a l < (a + 1) * 10 ^ l.length := by
  induction l generalizing a with
  | nil => simp [dv_nil]
  | cons c r ih =>
    have hc := h c (by simp)
    have h1 := ih (fun x hx => h x (by simp [hx])) (10 * a + (c.toNat - 48))
    have h2 : (10 * a + (c.toNat - 48) + 1) * 10 ^ r.length ≤ (10 * (a + 1)) * 10 ^ r.length := Nat.mul_le_mul_right _ (by unfold isD at hc; omega)
    have e : (a + 1) * 10 ^ (r.length + 1) = 10 * (a + 1) * 10 ^ r.length := by rw [Nat.pow_succ, Nat.mul_comm (10 ^ r.length) 10, ← Nat.mul_assoc, Nat.mul_comm (a + 1) 10]
    rw [dv_cons, List.length_cons]
    rw [e]
    exact Nat.lt_of_lt_of_le h1 h2

theorem toNat_digit {d : Nat} (h : d < 10) : (UInt8.ofNat (48 + d)).toNat = 48 + d := by
  rw [UInt8.toNat_ofNat']; omega

theorem digit_of {c : UInt8} (h : isD c) : UInt8.ofNat (48 + (c.toNat - 48)) = c := by
  unfold isD at h
  rw [show 48 + (c.toNat - 48) = c.toNat by omega, UInt8.ofNat_toNat]

theorem dec_digits (u : Nat) : ∀ c ∈ Lib.decDigits u, isD c := by
  induction u using Nat.strongRecOn with
  | ind u ih =>
    rw [Lib.decDigits]
    by_cases h : u < 10
    · rw [dif_pos h]
      intro c hc
      obtain rfl := List.mem_singleton.1 hc
      unfold isD; rw [toNat_digit h]; omega
    · rw [dif_neg h]
      intro c hc
      rcases List.mem_append.1 hc with h1 | h1
      · exact ih (u / 10) (by omega) c h1
      · obtain rfl := List.mem_singleton.1 h1
        unfold isD; rw [toNat_digit (by omega)]; omega

theorem dec_ne (u : Nat) : Lib.decDigits u ≠ [] := by
  rw [Lib.decDigits]
  by_cases h : u < 10
  · rw [dif_pos h]; simp
  · rw [dif_neg h]; simp

theorem dv_dec (u : Nat) : dv 0 (Lib.decDigits u) = u := by
  induction u using Nat.strongRecOn with
  | ind u ih =>
    rw [Lib.decDigits]
    by_cases h : u < 10
    · rw [dif_pos h]; simp only [dv_cons, dv_nil]; rw [toNat_digit h]; omega
    · rw [dif_neg h, dv_snoc, ih (u / 10) (by omega), toNat_digit (by omega)]; omega

/-- Digits without an idle 0 ahead. -/
def canon (l : List UInt8) : Prop := l ≠ [] ∧ (∀ c ∈ l, isD c) ∧ (l.head? = some 48 → l.length = 1)
instance (l : List UInt8) : Decidable (canon l) := inferInstanceAs (Decidable (_ ∧ _ ∧ _))

theorem dec_canon (u : Nat) : canon (Lib.decDigits u) := by
  refine ⟨dec_ne u, dec_digits u, ?_⟩
  induction u using Nat.strongRecOn with
  | ind u ih =>
    rw [Lib.decDigits]
    by_cases h : u < 10
    · rw [dif_pos h]; simp
    · rw [dif_neg h]
      have hne := dec_ne (u / 10)
      intro hh
      exfalso
      have hh' : (Lib.decDigits (u / 10)).head? = some 48 := by
        cases hl : Lib.decDigits (u / 10) with
        | nil => exact absurd hl hne
        | cons c r => rw [hl] at hh; simpa using hh
      have hlen := ih (u / 10) (by omega) hh'
      cases hl : Lib.decDigits (u / 10) with
      | nil => exact absurd hl hne
      | cons c r =>
        rw [hl] at hh' hlen
        obtain rfl : r = [] := by simpa using hlen
        obtain rfl : c = 48 := by simpa using hh'
        have := dv_dec (u / 10)
        rw [hl] at this
        simp only [dv_cons, dv_nil] at this
        have e : (48 : UInt8).toNat = 48 := rfl
        omega

theorem dec_of_canon (l : List UInt8) (h : canon l) : Lib.decDigits (dv 0 l) = l := by
  obtain ⟨hne, hd, h0⟩ := h
  generalize hn : l.length = n
  induction n generalizing l with
  | zero => exact absurd (List.length_eq_zero_iff.1 hn) hne
  | succ n ih =>
    obtain ⟨m, c, rfl⟩ : ∃ m c, l = m ++ [c] := ⟨l.dropLast, l.getLast hne, (List.dropLast_concat_getLast hne).symm⟩
    have hc : isD c := hd c (by simp)
    have hc' := hc
    unfold isD at hc'
    rw [dv_snoc]
    cases m with
    | nil =>
      rw [Lib.decDigits, dif_pos (by simp only [dv_nil]; omega)]
      simp only [dv_nil, Nat.mul_zero, Nat.zero_add, List.nil_append]
      rw [digit_of hc]
    | cons b r =>
      have hb : isD b := hd b (by simp)
      have hb' := hb
      unfold isD at hb'
      have hb0 : b ≠ 48 := by
        rintro rfl
        have := h0 (by simp)
        simp at this
      have hb1 : b.toNat ≠ 48 := fun e => hb0 (by rw [← UInt8.ofNat_toNat (x := b), e]; rfl)
      have hv : 1 ≤ dv 0 (b :: r) := by
        have := dv_ge r (10 * 0 + (b.toNat - 48))
        have h1 : 1 ≤ 10 ^ r.length := Nat.pow_pos (by decide)
        have h2 : 1 * 1 ≤ (10 * 0 + (b.toNat - 48)) * 10 ^ r.length := Nat.mul_le_mul (by omega) h1
        simp only [dv_cons]; omega
      have ihm := ih (b :: r) (by simp) (fun x hx => hd x (by simp at hx ⊢; rcases hx with rfl | hx <;> simp [*])) (fun e => absurd (by simpa using e) hb0) (by simp at hn ⊢; omega)
      rw [Lib.decDigits, dif_neg (by omega)]
      rw [show (10 * dv 0 (b :: r) + (c.toNat - 48)) / 10 = dv 0 (b :: r) by omega, show (10 * dv 0 (b :: r) + (c.toNat - 48)) % 10 = c.toNat - 48 by omega, ihm, digit_of hc]

/-- What Int tells (2.4). -/
def intOf (l : List UInt8) : Option Int :=
  match l with
  | [] => none
  | c :: r =>
    if c.toNat = 45 then (if canon r ∧ r.head? ≠ some 48 ∧ dv 0 r ≤ 9223372036854775808 then some (-(dv 0 r : Int)) else none)
    else if canon (c :: r) ∧ dv 0 (c :: r) < 9223372036854775808 then some (dv 0 (c :: r) : Int) else none

def told (o : Option Int) : Int × Bool := match o with | some n => (n, true) | none => (0, false)

theorem parse_digits (l : List UInt8) (h : ∀ c ∈ l, isD c) (a : Nat) (hl : dv a l < 18446744073709551616) : Lib.parseUint10 a l = .ok (dv a l) := by
  induction l generalizing a with
  | nil => rw [dv_nil]; rfl
  | cons c r ih =>
    have hc := h c (by simp)
    have hge := dv_ge r (10 * a + (c.toNat - 48))
    have h1 : 1 ≤ 10 ^ r.length := Nat.pow_pos (by decide)
    have h2 : (10 * a + (c.toNat - 48)) * 1 ≤ (10 * a + (c.toNat - 48)) * 10 ^ r.length := Nat.mul_le_mul_left _ h1
    simp only [dv_cons] at hl
    simp only [Lib.parseUint10, dv_cons]
    unfold isD at hc
    rw [if_pos hc, if_neg (by omega), if_neg (by omega), Nat.mul_comm a 10]
    exact ih (fun x hx => h x (by simp [hx])) _ hl

theorem atoi_of_intOf {l : List UInt8} {n : Int} (h : intOf l = some n) : Lib.atoiAll l = .ok n ∧ Lib.itoa n = l := by
  cases l with
  | nil => simp [intOf] at h
  | cons c r =>
    simp only [intOf] at h
    by_cases hc : c.toNat = 45
    · rw [if_pos hc] at h
      by_cases hr : canon r ∧ r.head? ≠ some 48 ∧ dv 0 r ≤ 9223372036854775808
      · rw [if_pos hr] at h
        obtain ⟨hcan, hz, hb⟩ := hr
        obtain rfl : -(dv 0 r : Int) = n := Option.some.inj h
        have hpos : 1 ≤ dv 0 r := by
          cases r with
          | nil => exact absurd rfl hcan.1
          | cons b q =>
            have hb1 := hcan.2.1 b (by simp)
            have hb0 : b.toNat ≠ 48 := fun e => hz (by rw [List.head?_cons, ← UInt8.ofNat_toNat (x := b), e]; rfl)
            have := dv_ge q (10 * 0 + (b.toNat - 48))
            have h1 : 1 ≤ 10 ^ q.length := Nat.pow_pos (by decide)
            unfold isD at hb1
            have h2 : 1 * 1 ≤ (10 * 0 + (b.toNat - 48)) * 10 ^ q.length := Nat.mul_le_mul (by omega) h1
            simp only [dv_cons]; omega
        constructor
        · simp only [Lib.atoiAll]
          rw [if_pos (Or.inr hc)]
          unfold Lib.parseMag
          rw [if_neg hcan.1, parse_digits r hcan.2.1 0 (by omega)]
          simp only [hc]
          rw [if_neg (by simp), if_neg (by omega)]
          simp
        · unfold Lib.itoa
          rw [if_pos (by omega)]
          rw [show (-(dv 0 r : Int)).natAbs = dv 0 r by omega, dec_of_canon r hcan]
          congr 1
          rw [← UInt8.ofNat_toNat (x := c), hc]; rfl
      · rw [if_neg hr] at h; cases h
    · rw [if_neg hc] at h
      by_cases hr : canon (c :: r) ∧ dv 0 (c :: r) < 9223372036854775808
      · rw [if_pos hr] at h
        obtain ⟨hcan, hb⟩ := hr
        obtain rfl : (dv 0 (c :: r) : Int) = n := Option.some.inj h
        have hc1 := hcan.2.1 c (by simp)
        unfold isD at hc1
        constructor
        · simp only [Lib.atoiAll]
          rw [if_neg (by omega)]
          unfold Lib.parseMag
          rw [if_neg (by simp), parse_digits (c :: r) hcan.2.1 0 (by omega)]
          simp only
          rw [if_neg (by omega), if_neg (by omega), if_neg hc]
        · unfold Lib.itoa
          rw [if_neg (by omega), Int.toNat_natCast, dec_of_canon _ hcan]
      · rw [if_neg hr] at h; cases h

theorem intOf_itoa (n : Int) (h0 : -9223372036854775808 ≤ n) (h1 : n ≤ 9223372036854775807) : intOf (Lib.itoa n) = some n := by
  unfold Lib.itoa
  by_cases hn : n < 0
  · rw [if_pos hn]
    simp only [intOf]
    have e : (45 : UInt8).toNat = 45 := rfl
    have hnz : (Lib.decDigits n.natAbs).head? ≠ some 48 := by
      intro hz
      have hl := (dec_canon n.natAbs).2.2 hz
      cases hd : Lib.decDigits n.natAbs with
      | nil => exact dec_ne _ hd
      | cons c r =>
        rw [hd] at hz hl
        obtain rfl : r = [] := by simpa using hl
        obtain rfl : c = 48 := by simpa using hz
        have := dv_dec n.natAbs
        rw [hd] at this
        have e : (48 : UInt8).toNat = 48 := rfl
        simp only [dv_cons, dv_nil] at this; omega
    have hm : -((n.natAbs : Nat) : Int) = n := by omega
    rw [if_pos e, dv_dec, if_pos ⟨dec_canon _, hnz, by omega⟩, hm]
  · rw [if_neg hn]
    have hcan := dec_canon n.toNat
    have hdv := dv_dec n.toNat
    cases hd : Lib.decDigits n.toNat with
    | nil => exact absurd hd (dec_ne _)
    | cons c r =>
      rw [hd] at hcan hdv
      have hc1 := hcan.2.1 c (by simp)
      unfold isD at hc1
      simp only [intOf]
      rw [if_neg (by omega), if_pos ⟨hcan, by omega⟩, hdv]
      congr 1; omega

/-- What the program's Int comes to. -/
def progInt (l : List UInt8) : Int × Bool := match Lib.atoiAll l with
  | .ok v => if Lib.itoa v = l then (v, true) else (0, false)
  | _ => (0, false)

theorem atoi_bounds {l : List UInt8} {v : Int} (h : Lib.atoiAll l = .ok v) : -9223372036854775808 ≤ v ∧ v ≤ 9223372036854775807 := by
  cases l with
  | nil => simp [Lib.atoiAll] at h
  | cons c r =>
    simp only [Lib.atoiAll] at h
    split at h
    · cases h
    · cases h
    · split at h
      · cases h
      · split at h
        · cases h
        · injection h with h
          split at h <;> omega

theorem progInt_eq (l : List UInt8) : progInt l = told (intOf l) := by
  unfold progInt
  cases hi : intOf l with
  | some n =>
    obtain ⟨h1, h2⟩ := atoi_of_intOf hi
    rw [h1]; simp only; rw [if_pos h2]; rfl
  | none =>
    cases ha : Lib.atoiAll l with
    | ok v =>
      simp only
      by_cases he : Lib.itoa v = l
      · have hb := atoi_bounds ha
        have := intOf_itoa v hb.1 hb.2
        rw [he, hi] at this
        cases this
      · rw [if_neg he]; rfl
    | _ => rfl
end Go.Proofs.YtjpiplplohapnaaGreatDoor.Num
