/- Plain: the document's arithmetic on digits comes to the numbers: trim, digit, MulDigits, AddDigits, Digits, more, Len. -/
import Derived.Test.YtjpiplplohapnaaGreatDoorBigA
import Derived.Test.YtjpiplplohapnaaGreatDoorRMore
namespace Go.Proofs.YtjpiplplohapnaaGreatDoor.Big
open Go.RowKit Go.Proofs.YtjpiplplohapnaaGreatDoorW.PrintWords Go.Proofs.YtjpiplplohapnaaGreatDoorW.PrintLast Go.Proofs.YtjpiplplohapnaaGreatDoorW.PrintMore
open Go.Proofs.YtjpiplplohapnaaGreatDoor.PText

/-- Some length that nothing passes. -/
abbrev top : Nat := 1000000000

theorem trim_l0 (L n : Nat) (hL : L ≤ top) (i : Nat) (hi : i ≤ L) (hn : n < B ^ i) : Ev (fun k => tenorref1_trim.l0 k (dgL L n) (i : Int)) (dg n) := by
  induction i with
  | zero =>
    refine Ev.step (f := fun _ => some (dg n)) (fun k => ?_) (Ev.now _)
    have : n = 0 := by simpa using hn
    subst this
    simp only [tenorref1_trim.l0]
    rw [if_neg (by omega), if_pos (by omega), if_pos (by simp)]
    simp [dg, ln_zero, dgL]
  | succ i ih =>
    have e : wrap64 (((i + 1 : Nat) : Int) - 1) = (i : Int) := by rw [w64 (by omega) (by unfold top at hL; omega)]; omega
    by_cases h0 : dig n i = 0
    · have hn' : n < B ^ i := by
        have := split_at n i
        rw [h0, Nat.div_eq_of_lt hn] at this
        have h2 := Nat.mod_lt n (Bpow_pos i)
        omega
      refine Ev.step (fun k => ?_) (ih (by omega) hn')
      simp only [tenorref1_trim.l0]
      rw [e, if_pos (by omega), if_pos (by omega), if_pos (by simp; omega), rd_dgL _ _ _ (by omega), h0, if_pos (by simp)]
    · refine Ev.step (f := fun _ => some (dg n)) (fun k => ?_) (Ev.now _)
      simp only [tenorref1_trim.l0]
      rw [e, if_pos (by omega), if_pos (by omega), if_pos (by simp; omega), rd_dgL _ _ _ (by omega), if_neg (by omega), if_pos (by omega), if_pos (by simp; omega)]
      have hl : ln n = i + 1 := by
        have h1 := ln_le hn
        by_cases h2 : ln n ≤ i
        · exact absurd (dig_ge_ln h2) h0
        · omega
      rw [Int.toNat_natCast, take_dgL _ _ _ hi, dg, hl]

theorem trim_ev (L n : Nat) (hL : L ≤ top) (hn : n < B ^ L) : Ev (fun k => tenorref1_trim.f k (dgL L n)) (dg n) := by
  unfold tenorref1_trim.f
  rw [dgL_length]
  exact trim_l0 L n hL L (Nat.le_refl _) hn

theorem digit_dgL (L n i : Nat) : tenorref1_digit.f (dgL L n) (i : Int) = some (if i < L then ((dig n i : Nat) : Int) else 0) := by
  unfold tenorref1_digit.f
  rw [if_neg (by omega), dgL_length]
  by_cases h : i < L
  · rw [if_neg (by omega), if_pos (by omega), if_pos (by omega), rd_dgL _ _ _ h, if_pos h]
  · rw [if_pos (by omega), if_neg h]

theorem digit_dg (n i : Nat) : tenorref1_digit.f (dg n) (i : Int) = some ((dig n i : Nat) : Int) := by
  unfold dg
  rw [digit_dgL]
  by_cases h : i < ln n
  · rw [if_pos h]
  · rw [if_neg h, dig_ge_ln (by omega)]; rfl

theorem setD_lt {m L j v : Nat} (hm : m < B ^ L) (hj : j < L) (hv : v < B) : setD m j v < B ^ L := by
  induction L generalizing m j with
  | zero => omega
  | succ L ih =>
    rw [Nat.pow_succ', Nat.mul_comm] at hm ⊢
    cases j with
    | zero =>
      rw [setD_zero]
      have h1 : m / B < B ^ L := Nat.div_lt_of_lt_mul (by rw [Nat.mul_comm]; exact hm)
      have := Nat.mul_le_mul_left B (show m / B + 1 ≤ B ^ L from h1)
      rw [Nat.mul_add] at this
      rw [Nat.mul_comm (B ^ L)]; omega
    | succ j =>
      rw [setD_succ]
      have h1 : m / B < B ^ L := Nat.div_lt_of_lt_mul (by rw [Nat.mul_comm]; exact hm)
      have h2 := ih (m := m / B) (j := j) h1 (by omega)
      have := Nat.mul_le_mul_left B (show setD (m / B) j v + 1 ≤ B ^ L from h2)
      rw [Nat.mul_add] at this
      have := Nat.mod_lt m Bpos
      rw [Nat.mul_comm (B ^ L)]; omega

theorem mod_step (b k : Nat) : b % B ^ (k + 1) = b % B ^ k + dig b k * B ^ k := by
  rw [Nat.pow_succ, Nat.mod_mul]; unfold dig; rw [Nat.mul_comm]

/-! MulDigits -/
theorem mul_l1 (a b : Nat) (L : Nat) (hL : L = ln a + ln b + 1) (ht : L ≤ top) (i : Nat) (hi : i < ln a) (r : List Int)
    (hr : ∀ m, m < B ^ L → m = a % B ^ (i + 1) * b → Ev (fun k => tenorref1_MulDigits.l0 k (dg a) (dg b) (dgL L m) ((i + 1 : Nat) : Int)) r) :
    ∀ (d j m c : Nat), d + j = ln b → m < B ^ (i + ln b) → c < B → m + c * B ^ (i + j) = a % B ^ i * b + dig a i * B ^ i * (b % B ^ j) →
    Ev (fun k => tenorref1_MulDigits.l1 k (dg a) (dg b) (dgL L m) (i : Int) (c : Int) (j : Int)) r := by
  intro d
  have hmL : ∀ {m : Nat}, m < B ^ (i + ln b) → m < B ^ L := fun h => Nat.lt_of_lt_of_le h (Nat.pow_le_pow_right Bpos (by omega))
  induction d with
  | zero =>
    intro j m c hd hm hc he
    obtain rfl : j = ln b := by omega
    have hz : dig m (i + ln b) = 0 := dig_of_lt hm
    have hset := setD_eq m (i + ln b) c
    rw [hz] at hset
    have hb : b % B ^ ln b = b := Nat.mod_eq_of_lt (lt_pow_ln b)
    refine Ev.step (fun k => ?_) (hr (setD m (i + ln b) c) (setD_lt (hmL hm) (by omega) hc) ?_)
    · simp only [tenorref1_MulDigits.l1]
      rw [dg_length, if_neg (by omega), w64 (by omega) (by unfold top at ht; omega), if_pos (by omega), dgL_length, if_pos (by omega)]
      have e1 : ((i : Int) + (ln b : Int)) = ((i + ln b : Nat) : Int) := by omega
      rw [e1, rd_dgL _ _ _ (by omega), hz, Int.toNat_natCast]
      rw [w64 (x := (i : Int) + 1) (by omega) (by unfold top at ht; omega)]
      rw [show ((0 : Nat) : Int) + (c : Int) = (c : Int) by omega, wun c (by have : B = 4294967296 := rfl; omega), set_dgL _ _ _ _ (by omega) hc]
      rfl
    · rw [mod_step, Nat.add_mul]
      have : dig a i * B ^ i * b = dig a i * B ^ i * (b % B ^ ln b) := by rw [hb]
      omega
  | succ d ih =>
    intro j m c hd hm hc he
    have hj : j < ln b := by omega
    have hB : B = 4294967296 := rfl
    have x1 := dig_lt m (i + j)
    have x2 := dig_lt a i
    have x3 := dig_lt b j
    have x4 : dig a i * dig b j ≤ 4294967295 * 4294967295 := Nat.mul_le_mul (by omega) (by omega)
    generalize hs : dig m (i + j) + dig a i * dig b j + c = s
    have hsl : s < 18446744073709551616 := by omega
    have hset := setD_eq m (i + j) (s % B)
    have hcs : s / B < B := Nat.div_lt_of_lt_mul (by omega)
    have hlt : setD m (i + j) (s % B) < B ^ (i + ln b) := setD_lt hm (by omega) (Nat.mod_lt _ Bpos)
    refine Ev.step (fun k => ?_) (ih (j + 1) (setD m (i + j) (s % B)) (s / B) (by omega) hlt hcs ?_)
    · simp only [tenorref1_MulDigits.l1]
      rw [dg_length, dg_length, if_pos (by omega), w64 (by omega) (by unfold top at ht; omega), if_pos (by omega), dgL_length, if_pos (by omega), if_pos (by omega), if_pos (by omega), if_pos (by omega)]
      have e1 : ((i : Int) + (j : Int)) = ((i + j : Nat) : Int) := by omega
      rw [e1, rd_dgL _ _ _ (by omega), rd_dg _ _ hi, rd_dg _ _ hj, Int.toNat_natCast]
      have e2 : ((dig a i : Nat) : Int) * ((dig b j : Nat) : Int) = ((dig a i * dig b j : Nat) : Int) := by rw [Int.natCast_mul]
      rw [e2, wun _ (by omega)]
      have e3 : ((dig m (i + j) : Nat) : Int) + ((dig a i * dig b j : Nat) : Int) = ((dig m (i + j) + dig a i * dig b j : Nat) : Int) := by rw [Int.natCast_add]
      rw [e3, wun _ (by omega)]
      have e4 : ((dig m (i + j) + dig a i * dig b j : Nat) : Int) + (c : Int) = (s : Int) := by rw [← hs]; omega
      rw [e4, wun _ hsl]
      have e5 : Int.tmod (s : Int) 4294967296 = ((s % B : Nat) : Int) := by rw [Int.tmod_eq_emod_of_nonneg (by omega)]; rfl
      have e6 : Int.tdiv (s : Int) 4294967296 = ((s / B : Nat) : Int) := by rw [Int.tdiv_eq_ediv_of_nonneg (by omega)]; rfl
      rw [e5, e6, wun _ (by omega), set_dgL _ _ _ _ (by omega) (Nat.mod_lt _ Bpos), w64 (by omega) (by unfold top at ht; omega)]
      rfl
    · rw [mod_step b j]
      have hp : B ^ (i + (j + 1)) = B * B ^ (i + j) := by rw [← Nat.add_assoc, Nat.pow_succ']
      have hq : B ^ (i + j) = B ^ i * B ^ j := Nat.pow_add _ _ _
      have hdm := Nat.div_add_mod s B
      rw [hp]
      have t1 : s / B * (B * B ^ (i + j)) = B * (s / B) * B ^ (i + j) := by rw [← Nat.mul_assoc, Nat.mul_comm (s / B)]
      have t2 : (B * (s / B) + s % B) * B ^ (i + j) = s * B ^ (i + j) := by rw [hdm]
      rw [Nat.add_mul] at t2
      have t3 : s * B ^ (i + j) = dig m (i + j) * B ^ (i + j) + dig a i * dig b j * B ^ (i + j) + c * B ^ (i + j) := by rw [← hs, Nat.add_mul, Nat.add_mul]
      have t4 : dig a i * B ^ i * (b % B ^ j + dig b j * B ^ j) = dig a i * B ^ i * (b % B ^ j) + dig a i * dig b j * B ^ (i + j) := by
        rw [Nat.mul_add, hq]; congr 1; simp only [Nat.mul_assoc, Nat.mul_left_comm]
      rw [t1, t4]
      omega

theorem mul_l0 (a b : Nat) (L : Nat) (hL : L = ln a + ln b + 1) (ht : L ≤ top) :
    ∀ (d i m : Nat), d + i = ln a → m < B ^ L → m = a % B ^ i * b →
    Ev (fun k => tenorref1_MulDigits.l0 k (dg a) (dg b) (dgL L m) (i : Int)) (dg (a * b)) := by
  intro d
  induction d with
  | zero =>
    intro i m hd hm he
    obtain rfl : i = ln a := by omega
    rw [Nat.mod_eq_of_lt (lt_pow_ln a)] at he
    subst he
    refine Ev.step (f := fun k => (tenorref1_trim.f k (dgL L (a * b))).bind fun t => some t) (fun k => ?_) (Ev.bind (f := fun _ t => some t) (trim_ev L _ ht hm) (Ev.now _))
    simp only [tenorref1_MulDigits.l0]
    rw [dg_length, if_neg (by omega)]
  | succ d ih =>
    intro i m hd hm he
    have hlt : m < B ^ (i + ln b) := by
      rw [he, Nat.pow_add]
      by_cases hb : b = 0
      · subst hb; simp; exact Nat.mul_pos (Bpow_pos _) (Bpow_pos _)
      · exact Nat.mul_lt_mul_of_lt_of_le (Nat.mod_lt _ (Bpow_pos i)) (Nat.le_of_lt (lt_pow_ln b)) (Bpow_pos _)
    refine Ev.step (fun k => ?_) (mul_l1 a b L hL ht i (by omega) (dg (a * b)) (fun m' h1 h2 => ih (i + 1) m' (by omega) h1 h2) (ln b) 0 m 0 (by omega) hlt (by decide) (by simp [he, Nat.mod_one]))
    simp only [tenorref1_MulDigits.l0]
    rw [dg_length, if_pos (by omega)]; rfl

theorem mul_ev (a b : Nat) (ht : ln a + ln b + 1 ≤ top) : Ev (fun k => tenorref1_MulDigits.f k (dg a) (dg b)) (dg (a * b)) := by
  refine Ev.congr (fun k => ?_) (mul_l0 a b (ln a + ln b + 1) rfl ht (ln a) 0 0 (by omega) (Bpow_pos _) (by simp [Nat.mod_one]))
  unfold tenorref1_MulDigits.f
  unfold top at ht
  rw [dg_length, dg_length, w64 (x := (ln a : Int) + (ln b : Int)) (by omega) (by omega), w64 (by omega) (by omega), if_pos (by omega), if_pos (by omega)]
  rw [show ((ln a : Int) + (ln b : Int) + 1).toNat = ln a + ln b + 1 by omega, dgL_zero]
  rfl

theorem divB_lt (s q : Nat) (h : s < q * 4294967296) : s / B < q := Nat.div_lt_of_lt_mul (by rw [Nat.mul_comm]; exact h)

/-! AddDigits -/
theorem add_mod_step (a b i : Nat) : (a % B ^ i + b % B ^ i) / B ^ i ≤ 1 := by
  have h1 := Nat.mod_lt a (Bpow_pos i)
  have h2 := Nat.mod_lt b (Bpow_pos i)
  have : (a % B ^ i + b % B ^ i) / B ^ i < 2 := Nat.div_lt_of_lt_mul (by omega)
  omega

theorem add_l0 (a b : Nat) (L : Nat) (hL : L = max (ln a) (ln b) + 1) (ht : L ≤ top) :
    ∀ (d i m c : Nat), d + i = L → m < B ^ i → c ≤ 1 → m + c * B ^ i = a % B ^ i + b % B ^ i →
    Ev (fun k => tenorref1_AddDigits.l0 k (dg a) (dg b) (L : Int) (dgL L m) (c : Int) (i : Int)) (dg (a + b)) := by
  intro d
  have hB : B = 4294967296 := rfl
  have haL : a < B ^ (L - 1) := Nat.lt_of_lt_of_le (lt_pow_ln a) (Nat.pow_le_pow_right Bpos (by omega))
  have hbL : b < B ^ (L - 1) := Nat.lt_of_lt_of_le (lt_pow_ln b) (Nat.pow_le_pow_right Bpos (by omega))
  have hp : B ^ L = B * B ^ (L - 1) := by rw [show L = (L - 1) + 1 by omega, Nat.pow_succ']; simp
  have h2B : 2 * B ^ (L - 1) ≤ B * B ^ (L - 1) := Nat.mul_le_mul_right _ (by decide)
  have hsum : a + b < B ^ L := by omega
  induction d with
  | zero =>
    intro i m c hd hm hc he
    obtain rfl : i = L := by omega
    have ha : a % B ^ i = a := Nat.mod_eq_of_lt (by omega)
    have hb : b % B ^ i = b := Nat.mod_eq_of_lt (by omega)
    rw [ha, hb] at he
    have hc0 : c = 0 := by
      rcases Nat.lt_or_ge 0 c with h | h
      · obtain rfl : c = 1 := by omega
        omega
      · omega
    subst hc0
    obtain rfl : m = a + b := by omega
    refine Ev.step (f := fun k => (tenorref1_trim.f k (dgL i (a + b))).bind fun t => some t) (fun k => ?_) (Ev.bind (f := fun _ t => some t) (trim_ev i _ ht hm) (Ev.now _))
    simp only [tenorref1_AddDigits.l0]
    rw [if_neg (by omega)]
  | succ d ih =>
    intro i m c hd hm hc he
    have x1 := dig_lt a i
    have x2 := dig_lt b i
    generalize hs : dig a i + dig b i + c = s
    have hset := setD_eq m i (s % B)
    have hz : dig m i = 0 := dig_of_lt hm
    rw [hz] at hset
    have hcs : s / B ≤ 1 := Nat.le_of_lt_succ (divB_lt s 2 (by omega))
    have hmi : setD m i (s % B) < B ^ (i + 1) := by
      have h1 := Nat.mod_lt s Bpos
      have h2 : (s % B + 1) * B ^ i ≤ B * B ^ i := Nat.mul_le_mul_right _ h1
      rw [Nat.add_mul] at h2
      rw [Nat.pow_succ']; omega
    refine Ev.step (fun k => ?_) (ih (i + 1) (setD m i (s % B)) (s / B) (by omega) hmi hcs ?_)
    · simp only [tenorref1_AddDigits.l0]
      rw [if_pos (by omega), digit_dg, digit_dg]
      simp only [Option.bind_some]
      rw [if_pos (by omega), dgL_length, if_pos (by omega), Int.toNat_natCast]
      have e3 : ((dig a i : Nat) : Int) + ((dig b i : Nat) : Int) = ((dig a i + dig b i : Nat) : Int) := by rw [Int.natCast_add]
      rw [e3, wun _ (by omega)]
      have e4 : ((dig a i + dig b i : Nat) : Int) + (c : Int) = (s : Int) := by rw [← hs]; omega
      rw [e4, wun _ (by omega)]
      have e5 : Int.tmod (s : Int) 4294967296 = ((s % B : Nat) : Int) := by rw [Int.tmod_eq_emod_of_nonneg (by omega)]; rfl
      have e6 : Int.tdiv (s : Int) 4294967296 = ((s / B : Nat) : Int) := by rw [Int.tdiv_eq_ediv_of_nonneg (by omega)]; rfl
      rw [e5, e6, wun _ (by omega), set_dgL _ _ _ _ (by omega) (Nat.mod_lt _ Bpos), w64 (by omega) (by unfold top at ht; omega)]
      rfl
    · rw [mod_step a i, mod_step b i, Nat.pow_succ']
      have hdm := Nat.div_add_mod s B
      have t1 : s / B * (B * B ^ i) = B * (s / B) * B ^ i := by rw [← Nat.mul_assoc, Nat.mul_comm (s / B)]
      have t2 : (B * (s / B) + s % B) * B ^ i = s * B ^ i := by rw [hdm]
      rw [Nat.add_mul] at t2
      have t3 : s * B ^ i = dig a i * B ^ i + dig b i * B ^ i + c * B ^ i := by rw [← hs, Nat.add_mul, Nat.add_mul]
      rw [t1]; omega

theorem add_ev (a b : Nat) (ht : max (ln a) (ln b) + 1 ≤ top) : Ev (fun k => tenorref1_AddDigits.f k (dg a) (dg b)) (dg (a + b)) := by
  refine Ev.congr (fun k => ?_) (add_l0 a b (max (ln a) (ln b) + 1) rfl ht (max (ln a) (ln b) + 1) 0 0 0 (by omega) (by simp) (by omega) (by simp [Nat.mod_one]))
  unfold tenorref1_AddDigits.f
  unfold top at ht
  have hm : mx ((dg a).length : Int) ((dg b).length : Int) = ((max (ln a) (ln b) : Nat) : Int) := by
    unfold mx; rw [dg_length, dg_length]; split <;> omega
  rw [hm, w64 (by omega) (by omega), if_pos (by omega), if_pos (by omega)]
  rw [show (((max (ln a) (ln b) : Nat) : Int) + 1).toNat = max (ln a) (ln b) + 1 by omega, dgL_zero]
  rfl

/-! Digits, more, Len -/
theorem ln_small {n : Nat} (h : n < B) : ln n ≤ 1 := ln_le (by simpa using h)
theorem ln_two {n : Nat} (h : n < B * B) : ln n ≤ 2 := ln_le (by rw [Nat.pow_two]; exact h)

theorem digits_ev (n : Nat) (h : n < 18446744073709551616) : Ev (fun k => tenorref1_Digits.f k (n : Int)) (dg n) := by
  have hB : B = 4294967296 := rfl
  have e5 : Int.tmod (n : Int) 4294967296 = ((n % B : Nat) : Int) := by rw [Int.tmod_eq_emod_of_nonneg (by omega)]; rfl
  have e6 : Int.tdiv (n : Int) 4294967296 = ((n / B : Nat) : Int) := by rw [Int.tdiv_eq_ediv_of_nonneg (by omega)]; rfl
  have e : ([Int.tmod (n : Int) 4294967296, IntKind.u64.wrap (Int.tdiv (n : Int) 4294967296)] : List Int) = dgL 2 n := by
    have hq : n / B < B := divB_lt n B (by omega)
    rw [e5, e6, wun _ (by omega)]
    have : n / B % B = n / B := Nat.mod_eq_of_lt hq
    simp [dgL, this]
  refine Ev.congr (fun k => ?_) (Ev.bind (f := fun _ t => some t) (trim_ev 2 n (by decide) (by omega)) (Ev.now _))
  unfold tenorref1_Digits.f
  rw [e]

theorem dg_of_lt {n : Nat} (h0 : n ≠ 0) (h : n < B) : dg n = [(n : Int)] := by
  have : ln n = 1 := by rw [ln_pos h0, Nat.div_eq_of_lt h, ln_zero]
  unfold dg; rw [this]; simp [dgL, Nat.mod_eq_of_lt h]

theorem ln_mul_ten (a : Nat) : ln (a * 10) ≤ ln a + 1 := by
  refine ln_le ?_
  have := lt_pow_ln a
  rw [Nat.pow_succ]
  have : (a + 1) * 10 ≤ B ^ ln a * B := Nat.mul_le_mul this (by decide)
  omega

theorem more_ev (n c : Nat) (hc : 48 ≤ c) (hc9 : c ≤ 57) (ht : ln n + 3 ≤ top) : Ev (fun k => tenorref2_more.f k (dg n) (c : Int)) (dg (10 * n + (c - 48))) := by
  have hB : B = 4294967296 := rfl
  unfold top at ht
  have e10 : ([10] : List Int) = dg 10 := by rw [dg_of_lt (by decide) (by decide)]; rfl
  have l10 : ln 10 ≤ 1 := ln_small (by decide)
  have lc : ln (c - 48) ≤ 1 := ln_small (by omega)
  have lm := ln_mul_ten n
  have ec : ((c : Int) - 48) % 256 = ((c - 48 : Nat) : Int) := by omega
  have h1 := mul_ev n 10 (by unfold top; omega)
  have h2 := digits_ev (c - 48) (by omega)
  have h3 := add_ev (n * 10) (c - 48) (by unfold top; omega)
  rw [show n * 10 + (c - 48) = 10 * n + (c - 48) by omega] at h3
  refine Ev.congr (fun k => ?_) (Ev.bind (f := fun k t => ((tenorref1_Digits.f k ((c - 48 : Nat) : Int)).bind fun u => ((tenorref1_AddDigits.f k t u).bind fun v => some v))) h1 (Ev.bind (f := fun k u => ((tenorref1_AddDigits.f k (dg (n * 10)) u).bind fun v => some v)) h2 (Ev.bind (f := fun _ v => some v) h3 (Ev.now _))))
  unfold tenorref2_more.f
  rw [e10, ec]

/-- Bits of a number. -/
def bl (n : Nat) : Nat := if n = 0 then 0 else Nat.log2 n + 1

theorem bl_half {n : Nat} (h : n ≠ 0) : bl n = bl (n / 2) + 1 := by
  unfold bl
  rw [if_neg h]
  by_cases h1 : n / 2 = 0
  · rw [if_pos h1]
    have : n = 1 := by omega
    subst this; rfl
  · rw [if_neg h1]
    have h2 : 2 ≤ n := by omega
    rw [Nat.log2_def n, if_pos h2]

theorem lt_two_bl (n : Nat) : n < 2 ^ bl n := by
  unfold bl
  by_cases h : n = 0
  · subst h; decide
  · rw [if_neg h]; exact Nat.lt_log2_self

theorem two_bl_le {n : Nat} (h : n ≠ 0) : 2 ^ (bl n - 1) ≤ n := by
  unfold bl
  rw [if_neg h]
  exact Nat.log2_self_le h

theorem bl_le {n k : Nat} (h : n < 2 ^ k) : bl n ≤ k := by
  by_cases h0 : n = 0
  · subst h0; unfold bl; simp
  · have := two_bl_le h0
    have h2 : 2 ^ (bl n - 1) < 2 ^ k := Nat.lt_of_le_of_lt this h
    have h3 := (Nat.pow_lt_pow_iff_right (by decide : 1 < 2)).1 h2
    omega

theorem lt_bl {n k : Nat} (h : 2 ^ k ≤ n) : k < bl n := by
  have := lt_two_bl n
  have h2 : 2 ^ k < 2 ^ bl n := Nat.lt_of_le_of_lt h this
  exact (Nat.pow_lt_pow_iff_right (by decide : 1 < 2)).1 h2

theorem bl_mul_pow {n : Nat} (k : Nat) (h : n ≠ 0) : bl (n * 2 ^ k) = bl n + k := by
  have h1 := two_bl_le h
  have h2 := lt_two_bl n
  have h0 : bl n ≠ 0 := by unfold bl; rw [if_neg h]; omega
  have a : bl (n * 2 ^ k) ≤ bl n + k := bl_le (by rw [Nat.pow_add]; exact Nat.mul_lt_mul_of_pos_right h2 (Nat.pow_pos (by decide)))
  have b : bl n - 1 + k < bl (n * 2 ^ k) := lt_bl (by rw [Nat.pow_add]; exact Nat.mul_le_mul_right _ h1)
  omega

theorem len_l0 (x : Nat) (hx : x < 18446744073709551616) : ∀ (a : Nat), a + bl x ≤ 40000000000 → Ev (fun k => tenorref1_Len.l0 k (a : Int) (x : Int)) ((a + bl x : Nat) : Int) := by
  induction x using Nat.strongRecOn with
  | ind x ih =>
    intro a ha
    by_cases h0 : x = 0
    · subst h0
      refine Ev.step (f := fun _ => some ((a + bl 0 : Nat) : Int)) (fun k => ?_) (Ev.now _)
      simp only [tenorref1_Len.l0]
      rw [if_neg (by omega)]
      simp [bl]
    · have hb := bl_half h0
      have h := ih (x / 2) (by omega) (by omega) (a + 1) (by omega)
      rw [show a + 1 + bl (x / 2) = a + bl x by omega] at h
      refine Ev.step (fun k => ?_) h
      simp only [tenorref1_Len.l0]
      rw [if_pos (by omega), w64 (by omega) (by omega)]
      have e6 : Int.tdiv (x : Int) 2 = ((x / 2 : Nat) : Int) := by rw [Int.tdiv_eq_ediv_of_nonneg (by omega)]; rfl
      rw [e6, wun _ (by omega)]
      rfl

theorem bl_add {a k r : Nat} (ha : a ≠ 0) (hr : r < 2 ^ k) : bl (a * 2 ^ k + r) = bl a + k := by
  have h1 := two_bl_le ha
  have h2 := lt_two_bl a
  have h0 : bl a ≠ 0 := by unfold bl; rw [if_neg ha]; omega
  have a1 : bl (a * 2 ^ k + r) ≤ bl a + k := bl_le (by
    rw [Nat.pow_add]
    have : (a + 1) * 2 ^ k ≤ 2 ^ bl a * 2 ^ k := Nat.mul_le_mul_right _ h2
    rw [Nat.add_mul] at this; omega)
  have b1 : bl a - 1 + k < bl (a * 2 ^ k + r) := lt_bl (by
    rw [Nat.pow_add]
    have : 2 ^ (bl a - 1) * 2 ^ k ≤ a * 2 ^ k := Nat.mul_le_mul_right _ h1
    omega)
  omega

theorem B_eq (i : Nat) : B ^ i = 2 ^ (32 * i) := by rw [Nat.pow_mul]

theorem bl_ln {n : Nat} (h : n ≠ 0) : bl n = bl (dig n (ln n - 1)) + 32 * (ln n - 1) := by
  have e : ln n = ln n - 1 + 1 := by rw [ln_pos h]; omega
  have h1 := split_at n (ln n - 1)
  have h2 := lt_pow_ln n
  rw [e] at h2
  rw [Nat.div_eq_of_lt h2, Nat.zero_mul, Nat.zero_add] at h1
  have h3 := Nat.mod_lt n (Bpow_pos (ln n - 1))
  rw [B_eq] at h1 h3
  have h4 := bl_add (r := n % 2 ^ (32 * (ln n - 1))) (dig_top h) h3
  rw [← h4, ← h1]

theorem len_ev (n : Nat) (ht : ln n ≤ top) : Ev (fun k => tenorref1_Len.f k (dg n)) ((bl n : Nat) : Int) := by
  unfold top at ht
  by_cases h : n = 0
  · subst h
    refine Ev.congr (f := fun _ => some ((bl 0 : Nat) : Int)) (fun k => ?_) (Ev.now _)
    unfold tenorref1_Len.f
    rw [dg_length, ln_zero, if_pos (by rfl)]
    rfl
  · have e : 1 ≤ ln n := by rw [ln_pos h]; omega
    have x1 := dig_lt n (ln n - 1)
    have hB : B = 4294967296 := rfl
    have hbt : bl (dig n (ln n - 1)) ≤ 32 := bl_le (by omega)
    have hl := len_l0 (dig n (ln n - 1)) (by omega) (32 * (ln n - 1)) (by omega)
    rw [show 32 * (ln n - 1) + bl (dig n (ln n - 1)) = bl n by rw [bl_ln h]; omega] at hl
    refine Ev.congr (fun k => ?_) hl
    unfold tenorref1_Len.f
    have e1 : ((ln n : Int) - 1) = ((ln n - 1 : Nat) : Int) := by omega
    rw [dg_length, if_neg (by omega), e1, w64 (by omega) (by omega), if_pos (by omega), if_pos (by omega), rd_dg _ _ (by omega), w64 (by omega) (by omega)]
    rw [show (32 : Int) * ((ln n - 1 : Nat) : Int) = ((32 * (ln n - 1) : Nat) : Int) by omega]
end Go.Proofs.YtjpiplplohapnaaGreatDoor.Big
