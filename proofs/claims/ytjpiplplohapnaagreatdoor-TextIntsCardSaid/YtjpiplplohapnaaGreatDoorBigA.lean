/- Plain: whole numbers as lists of digits to the base 2^32: 'dgL L n' are the lowest L digits, 'dg n' all of them, none of them idle. No program here. -/
import Derived.Test.YtjpiplplohapnaaGreatDoorWWords
import Derived.Test.YtjpiplplohapnaaGreatDoorWMore
import Derived.IntWalk
namespace Go.Proofs.YtjpiplplohapnaaGreatDoor.Big
open Go.Proofs.YtjpiplplohapnaaGreatDoorW.PrintWords Go.Proofs.YtjpiplplohapnaaGreatDoorW.PrintMore

/-- The base. -/
abbrev B : Nat := 4294967296

theorem Bpos : 0 < B := by decide
theorem Bpow_pos (i : Nat) : 0 < B ^ i := Nat.pow_pos Bpos

/-- The i-th digit. -/
def dig (m i : Nat) : Nat := m / B ^ i % B

theorem dig_lt (m i : Nat) : dig m i < B := Nat.mod_lt _ Bpos

/-- The lowest L digits. -/
def dgL : Nat → Nat → List Int
  | 0, _ => []
  | L + 1, n => ((n % B : Nat) : Int) :: dgL L (n / B)

@[simp] theorem dgL_length (L n : Nat) : (dgL L n).length = L := by
  induction L generalizing n with
  | zero => rfl
  | succ L ih => simp [dgL, ih]

theorem dig_zero (m : Nat) : dig m 0 = m % B := by simp [dig]
theorem dig_succ (m i : Nat) : dig m (i + 1) = dig (m / B) i := by
  unfold dig
  rw [Nat.pow_succ, Nat.mul_comm, ← Nat.div_div_eq_div_mul]

theorem dgL_getD (L n i : Nat) (h : i < L) : (dgL L n).getD i 0 = (dig n i : Nat) := by
  induction L generalizing n i with
  | zero => omega
  | succ L ih =>
    cases i with
    | zero => simp [dgL, dig_zero]
    | succ i => rw [dig_succ, ← ih (n / B) i (by omega)]; simp [dgL]

theorem rd_dgL (L n : Nat) (i : Nat) (h : i < L) : rd (dgL L n) (i : Int) = (dig n i : Nat) := by
  unfold rd; rw [Int.toNat_natCast]; exact dgL_getD L n i h

/-- The number with another i-th digit. -/
def setD (m j v : Nat) : Nat := m / B ^ (j + 1) * B ^ (j + 1) + v * B ^ j + m % B ^ j

theorem split_at (m j : Nat) : m = m / B ^ (j + 1) * B ^ (j + 1) + dig m j * B ^ j + m % B ^ j := by
  have h1 := Nat.div_add_mod m (B ^ j)
  have h2 := Nat.div_add_mod (m / B ^ j) B
  rw [Nat.div_div_eq_div_mul, ← Nat.pow_succ] at h2
  unfold dig
  have h3 : B ^ j * (m / B ^ j) = m / B ^ (j + 1) * B ^ (j + 1) + m / B ^ j % B * B ^ j := by
    rw [← h2, Nat.mul_add, Nat.pow_succ]
    have e : (B * (m / (B ^ j * B)) + m / B ^ j % B) / 1 = (B * (m / (B ^ j * B)) + m / B ^ j % B) := Nat.div_one _
    have e2 : (B * (m / (B ^ j * B)) + m / B ^ j % B) % B = m / B ^ j % B := by
      rw [Nat.mul_add_mod, Nat.mod_mod]
    rw [e2]
    rw [Nat.mul_comm (m / (B ^ j * B)) (B ^ j * B), Nat.mul_assoc, Nat.mul_comm (B ^ j) (m / B ^ j % B)]
  omega

theorem setD_eq (m j v : Nat) : setD m j v + dig m j * B ^ j = m + v * B ^ j := by
  have := split_at m j
  unfold setD
  omega

theorem setD_zero (m v : Nat) : setD m 0 v = B * (m / B) + v := by
  unfold setD; simp [Nat.mod_one, Nat.mul_comm]

theorem setD_succ (m j v : Nat) : setD m (j + 1) v = B * setD (m / B) j v + m % B := by
  unfold setD
  have e1 : m / B ^ (j + 1 + 1) = m / B / B ^ (j + 1) := by rw [Nat.div_div_eq_div_mul, ← Nat.pow_succ']
  have e2 : m % B ^ (j + 1) = B * (m / B % B ^ j) + m % B := by
    rw [Nat.pow_succ', Nat.mod_mul]; omega
  rw [e1, e2, Nat.mul_add, Nat.mul_add]
  have p1 : B ^ (j + 1 + 1) = B * B ^ (j + 1) := Nat.pow_succ'
  have p2 : B ^ (j + 1) = B * B ^ j := Nat.pow_succ'
  have q1 : m / B / B ^ (j + 1) * B ^ (j + 1 + 1) = B * (m / B / B ^ (j + 1) * B ^ (j + 1)) := by rw [p1, Nat.mul_left_comm]
  have q2 : v * B ^ (j + 1) = B * (v * B ^ j) := by rw [p2, Nat.mul_left_comm]
  rw [q1, q2]; omega

theorem set_dgL (L n j v : Nat) (hj : j < L) (hv : v < B) : (dgL L n).set j (v : Int) = dgL L (setD n j v) := by
  induction L generalizing n j with
  | zero => omega
  | succ L ih =>
    cases j with
    | zero =>
      rw [setD_zero]
      have a : (B * (n / B) + v) % B = v := by rw [Nat.mul_add_mod, Nat.mod_eq_of_lt hv]
      have b : (B * (n / B) + v) / B = n / B := by rw [Nat.mul_add_div Bpos, Nat.div_eq_of_lt hv]; omega
      simp only [dgL, List.set_cons_zero, a, b]
    | succ j =>
      rw [setD_succ]
      have a : (B * setD (n / B) j v + n % B) % B = n % B := by rw [Nat.mul_add_mod, Nat.mod_mod]
      have b : (B * setD (n / B) j v + n % B) / B = setD (n / B) j v := by rw [Nat.mul_add_div Bpos, Nat.div_eq_of_lt (Nat.mod_lt _ Bpos)]; omega
      simp only [dgL, List.set_cons_succ, a, b, ih (n / B) j (by omega)]

theorem dgL_zero (L : Nat) : dgL L 0 = List.replicate L 0 := by
  induction L with
  | zero => rfl
  | succ L ih => simp [dgL, List.replicate_succ, ih]

/-- How many digits a number has. -/
def ln (n : Nat) : Nat := if h : n = 0 then 0 else ln (n / B) + 1
termination_by n
decreasing_by exact Nat.div_lt_self (Nat.pos_of_ne_zero h) (by decide)

theorem ln_zero : ln 0 = 0 := by rw [ln]; simp
theorem ln_pos {n : Nat} (h : n ≠ 0) : ln n = ln (n / B) + 1 := by rw [ln]; simp [h]

/-- All digits. -/
def dg (n : Nat) : List Int := dgL (ln n) n

theorem dg_length (n : Nat) : (dg n).length = ln n := dgL_length _ _

theorem lt_pow_ln (n : Nat) : n < B ^ ln n := by
  induction n using Nat.strongRecOn with
  | ind n ih =>
    by_cases h : n = 0
    · subst h; rw [ln_zero]; decide
    · have := ih (n / B) (Nat.div_lt_self (Nat.pos_of_ne_zero h) (by decide))
      rw [ln_pos h, Nat.pow_succ]
      have h1 := Nat.div_add_mod n B
      have h2 := Nat.mod_lt n Bpos
      have : n / B + 1 ≤ B ^ ln (n / B) := this
      have := Nat.mul_le_mul_right B this
      rw [Nat.add_mul] at this
      rw [Nat.mul_comm B] at h1
      omega

theorem pow_ln_le (n : Nat) (h : n ≠ 0) : B ^ (ln n - 1) ≤ n := by
  induction n using Nat.strongRecOn with
  | ind n ih =>
    rw [ln_pos h, Nat.add_sub_cancel]
    by_cases h0 : n / B = 0
    · rw [h0, ln_zero]; simp; omega
    · have := ih (n / B) (Nat.div_lt_self (Nat.pos_of_ne_zero h) (by decide)) h0
      have e : ln (n / B) = ln (n / B) - 1 + 1 := by rw [ln_pos h0]; omega
      rw [e, Nat.pow_succ]
      exact Nat.le_trans (Nat.mul_le_mul_right B this) (Nat.div_mul_le_self n B)

theorem ln_le {n L : Nat} (h : n < B ^ L) : ln n ≤ L := by
  by_cases h0 : n = 0
  · subst h0; rw [ln_zero]; omega
  · have h1 := pow_ln_le n h0
    have h2 : B ^ (ln n - 1) < B ^ L := Nat.lt_of_le_of_lt h1 h
    have h3 := (Nat.pow_lt_pow_iff_right (by decide : 1 < B)).1 h2
    omega

theorem ln_mono {a b : Nat} (h : a ≤ b) : ln a ≤ ln b := ln_le (Nat.lt_of_le_of_lt h (lt_pow_ln b))

theorem dig_of_lt {n i : Nat} (h : n < B ^ i) : dig n i = 0 := by
  unfold dig; rw [Nat.div_eq_of_lt h]; rfl

theorem dig_ge_ln {n i : Nat} (h : ln n ≤ i) : dig n i = 0 :=
  dig_of_lt (Nat.lt_of_lt_of_le (lt_pow_ln n) (Nat.pow_le_pow_right Bpos h))

theorem dig_top {n : Nat} (h : n ≠ 0) : dig n (ln n - 1) ≠ 0 := by
  unfold dig
  have h1 := pow_ln_le n h
  have h2 := lt_pow_ln n
  have e : ln n = ln n - 1 + 1 := by rw [ln_pos h]; omega
  rw [e, Nat.pow_succ] at h2
  have h3 : n / B ^ (ln n - 1) < B := Nat.div_lt_of_lt_mul (by simpa using h2)
  rw [Nat.mod_eq_of_lt h3]
  have := Nat.div_pos h1 (Bpow_pos _)
  omega

theorem rd_dg (n i : Nat) (h : i < ln n) : rd (dg n) (i : Int) = (dig n i : Nat) := rd_dgL _ _ _ h

theorem take_dgL (L n i : Nat) (h : i ≤ L) : (dgL L n).take i = dgL i n := by
  induction L generalizing n i with
  | zero => obtain rfl : i = 0 := by omega
            rfl
  | succ L ih =>
    cases i with
    | zero => rfl
    | succ i => simp [dgL, ih (n / B) i (by omega)]

/-! numbers of a kind -/
theorem w64 {x : Int} (h0 : -9223372036854775808 ≤ x) (h : x < 9223372036854775808) : Go.RowKit.wrap64 x = x := by unfold Go.RowKit.wrap64; omega
theorem wu {x : Int} (h0 : 0 ≤ x) (h : x < 18446744073709551616) : IntKind.u64.wrap x = x := IntWalk.u64_in x (by omega)
theorem wun (n : Nat) (h : n < 18446744073709551616) : IntKind.u64.wrap (n : Int) = (n : Int) := wu (by omega) (by omega)
end Go.Proofs.YtjpiplplohapnaaGreatDoor.Big
