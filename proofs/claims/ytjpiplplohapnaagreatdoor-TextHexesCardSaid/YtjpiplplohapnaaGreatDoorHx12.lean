/- Part 12 of the proof: BigC, BigF, Nr, Rr, BigD, BigE, LHex, BigG, Rs, LUn, LUx, RSame, KHw. -/
import Derived.Test.YtjpiplplohapnaaGreatDoorHx11
import Ieee.Arith
import Derived.Laws.Strings
set_option linter.unusedVariables false
set_option linter.unusedSimpArgs false
namespace Go.Proofs.YtjpiplplohapnaaGreatDoor.Big
open Go.RowKit Go.Proofs.YtjpiplplohapnaaGreatDoorW.PrintWords Go.Proofs.YtjpiplplohapnaaGreatDoor.PText
def cmp3 (a b : Nat) : Int := if a < b then -1 else if b < a then 1 else 0
theorem div_dig (a i : Nat) : a / B ^ i = a / B ^ (i + 1) * B + dig a i := by
  unfold dig
  rw [Nat.pow_succ, ← Nat.div_div_eq_div_mul]
  have := Nat.div_add_mod (a / B ^ i) B
  rw [Nat.mul_comm] at this
  exact this.symm
theorem lt_of_div_lt {a b i : Nat} (h : a / B ^ i < b / B ^ i) : a < b := by
  rcases Nat.lt_or_ge a b with h1 | h1
  · exact h1
  · have := Nat.div_le_div_right (c := B ^ i) h1
    omega
theorem cmp_l0 (a b L : Nat) (ha : ln a = L) (hb : ln b = L) (hL : L ≤ top) : ∀ i, i ≤ L → a / B ^ i = b / B ^ i → Ev (fun k => tenorref1_CmpDigits.l0 k (dg a) (dg b) ((i : Int) - 1)) (cmp3 a b)
  | 0, _, h => by
    have e : a = b := by simpa using h
    subst e
    refine Ev.step (f := fun _ => some 0) (fun k => ?_) ?_
    · rw [tenorref1_CmpDigits.l0, if_neg (by omega)]
    · have : cmp3 a a = 0 := by unfold cmp3; rw [if_neg (by omega), if_neg (by omega)]
      rw [this]; exact Ev.now _
  | i + 1, hi, h => by
    have la : (dg a).length = L := by rw [dg_length, ha]
    have lb : (dg b).length = L := by rw [dg_length, hb]
    have e1 : ((i + 1 : Nat) : Int) - 1 = i := by omega
    have da := div_dig a i
    have db := div_dig b i
    rw [h] at da
    have ra := rd_dg a i (by omega)
    have rb := rd_dg b i (by omega)
    rw [e1]
    by_cases h1 : dig a i < dig b i
    · refine Ev.step (f := fun _ => some (-1)) (fun k => ?_) ?_
      · rw [tenorref1_CmpDigits.l0, if_pos (by omega), if_pos (by omega), if_pos (by omega), if_pos (by omega), ra, rb, if_pos (by omega)]
      · have : a < b := lt_of_div_lt (i := i) (by omega)
        unfold cmp3; rw [if_pos this]; exact Ev.now _
    · by_cases h2 : dig b i < dig a i
      · refine Ev.step (f := fun _ => some 1) (fun k => ?_) ?_
        · rw [tenorref1_CmpDigits.l0, if_pos (by omega), if_pos (by omega), if_pos (by omega), if_pos (by omega), ra, rb, if_neg (by omega), if_pos (by omega)]
        · have : b < a := lt_of_div_lt (i := i) (by omega)
          unfold cmp3; rw [if_neg (by omega), if_pos this]; exact Ev.now _
      · refine Ev.step (f := fun k => tenorref1_CmpDigits.l0 k (dg a) (dg b) ((i : Int) - 1)) (fun k => ?_) (cmp_l0 a b L ha hb hL i (by omega) (by omega))
        rw [tenorref1_CmpDigits.l0, if_pos (by omega), if_pos (by omega), if_pos (by omega), if_pos (by omega), ra, rb, if_neg (by omega), if_neg (by omega), w64 (by omega) (by unfold top at hL; omega)]
theorem cmp_ev (a b : Nat) (ha : ln a ≤ top) (hb : ln b ≤ top) : Ev (fun k => tenorref1_CmpDigits.f k (dg a) (dg b)) (cmp3 a b) := by
  rcases Nat.lt_trichotomy (ln a) (ln b) with h | h | h
  · have hlt : a < b := by
      rcases Nat.lt_or_ge a b with h1 | h1
      · exact h1
      · have := ln_mono h1; omega
    refine Ev.congr (f := fun _ => some (-1)) (fun k => ?_) ?_
    · unfold tenorref1_CmpDigits.f
      rw [dg_length, dg_length, if_neg (by omega), if_pos (by omega)]
    · unfold cmp3; rw [if_pos hlt]; exact Ev.now _
  · refine Ev.congr (f := fun k => tenorref1_CmpDigits.l0 k (dg a) (dg b) ((ln a : Int) - 1)) (fun k => ?_) (cmp_l0 a b (ln a) rfl h.symm ha (ln a) (Nat.le_refl _) ?_)
    · unfold tenorref1_CmpDigits.f
      rw [dg_length, dg_length, if_pos (by omega), w64 (by omega) (by unfold top at ha; omega)]
    · rw [Nat.div_eq_of_lt (lt_pow_ln a), h, Nat.div_eq_of_lt (lt_pow_ln b)]
  · have hlt : b < a := by
      rcases Nat.lt_or_ge b a with h1 | h1
      · exact h1
      · have := ln_mono h1; omega
    refine Ev.congr (f := fun _ => some 1) (fun k => ?_) ?_
    · unfold tenorref1_CmpDigits.f
      rw [dg_length, dg_length, if_neg (by omega), if_neg (by omega)]
    · unfold cmp3; rw [if_neg (by omega), if_pos hlt]; exact Ev.now _
theorem sub_l0 (a b : Nat) (L : Nat) (hL : L = ln a) (ht : L ≤ top) (hab : b ≤ a) :
    ∀ (d i m c : Nat), d + i = L → m < B ^ i → c ≤ 1 → m + b % B ^ i = a % B ^ i + c * B ^ i →
    Ev (fun k => tenorref1_SubDigits.l0 k (dg a) (dg b) (dgL L m) (c : Int) (i : Int)) (dg (a - b)) := by
  intro d
  have hB : B = 4294967296 := rfl
  have haL : a < B ^ L := hL ▸ lt_pow_ln a
  induction d with
  | zero =>
    intro i m c hd hm hc he
    obtain rfl : i = L := by omega
    have ha : a % B ^ i = a := Nat.mod_eq_of_lt (by omega)
    have hb : b % B ^ i = b := Nat.mod_eq_of_lt (by omega)
    rw [ha, hb] at he
    have hc0 : c = 0 := by
      rcases Nat.lt_or_ge 0 c with h | h
      · obtain rfl : c = 1 := by omega
        omega
      · omega
    subst hc0
    obtain rfl : m = a - b := by omega
    refine Ev.step (f := fun k => (tenorref1_trim.f k (dgL i (a - b))).bind fun t => some t) (fun k => ?_) (Ev.bind (f := fun _ t => some t) (trim_ev i _ ht hm) (Ev.now _))
    simp only [tenorref1_SubDigits.l0]
    rw [dg_length, if_neg (by omega)]
  | succ d ih =>
    intro i m c hd hm hc he
    have x1 := dig_lt a i
    have x2 := dig_lt b i
    obtain ⟨s, hs⟩ : ∃ s, s + dig b i + c = dig a i + B := ⟨dig a i + B - dig b i - c, by omega⟩
    have hset := setD_eq m i (s % B)
    have hz : dig m i = 0 := dig_of_lt hm
    rw [hz] at hset
    have hcs : s / B ≤ 1 := Nat.le_of_lt_succ (divB_lt s 2 (by omega))
    have hmi : setD m i (s % B) < B ^ (i + 1) := by
      have h1 := Nat.mod_lt s Bpos
      have h2 : (s % B + 1) * B ^ i ≤ B * B ^ i := Nat.mul_le_mul_right _ h1
      rw [Nat.add_mul] at h2
      rw [Nat.pow_succ']; omega
    refine Ev.step (fun k => ?_) (ih (i + 1) (setD m i (s % B)) (1 - s / B) (by omega) hmi (Nat.sub_le 1 _) ?_)
    · simp only [tenorref1_SubDigits.l0]
      rw [dg_length, if_pos (by omega), if_pos (by omega), digit_dg]
      simp only [Option.bind_some]
      rw [dgL_length, if_pos (by omega), Int.toNat_natCast, rd_dg _ _ (by omega)]
      have e3 : ((dig a i : Nat) : Int) + 4294967296 = ((dig a i + B : Nat) : Int) := by omega
      rw [e3, wun _ (by omega)]
      have e4 : ((dig a i + B : Nat) : Int) - ((dig b i : Nat) : Int) = ((s + c : Nat) : Int) := by omega
      rw [e4, wun _ (by omega)]
      have e7 : ((s + c : Nat) : Int) - (c : Int) = (s : Int) := by omega
      rw [e7, wun _ (by omega)]
      have e5 : Int.tmod (s : Int) 4294967296 = ((s % B : Nat) : Int) := by rw [Int.tmod_eq_emod_of_nonneg (by omega)]; rfl
      have e6 : Int.tdiv (s : Int) 4294967296 = ((s / B : Nat) : Int) := by rw [Int.tdiv_eq_ediv_of_nonneg (by omega)]; rfl
      rw [e5, e6, wun (s / B) (by omega), set_dgL _ _ _ _ (by omega) (Nat.mod_lt _ Bpos), w64 (by omega) (by unfold top at ht; omega)]
      have e8 : (1 : Int) - ((s / B : Nat) : Int) = ((1 - s / B : Nat) : Int) := by omega
      rw [e8, wun _ (Nat.lt_of_le_of_lt (Nat.sub_le 1 _) (by omega))]
      rfl
    · rw [mod_step a i, mod_step b i, Nat.pow_succ']
      have hdm := Nat.div_add_mod s B
      have t3 : (s + dig b i + c) * B ^ i = (dig a i + B) * B ^ i := by rw [hs]
      have t2 : (B * (s / B) + s % B) * B ^ i = s * B ^ i := by rw [hdm]
      have t4 : (1 - s / B) * (B * B ^ i) + B * (s / B) * B ^ i = B * B ^ i := by
        rw [Nat.mul_comm B (s / B), Nat.mul_assoc, ← Nat.add_mul]
        rw [show 1 - s / B + s / B = 1 by omega, Nat.one_mul]
      rw [Nat.add_mul, Nat.add_mul] at t3
      rw [Nat.add_mul] at t3 t2
      omega
theorem sub_ev (a b : Nat) (ht : ln a ≤ top) (hab : b ≤ a) : Ev (fun k => tenorref1_SubDigits.f k (dg a) (dg b)) (dg (a - b)) := by
  refine Ev.congr (fun k => ?_) (sub_l0 a b (ln a) rfl ht hab (ln a) 0 0 0 (by omega) (by simp) (by omega) (by simp [Nat.mod_one]))
  unfold tenorref1_SubDigits.f
  unfold top at ht
  rw [dg_length, if_pos (by omega), if_pos (by omega)]
  rw [Int.toNat_natCast, dgL_zero]
  rfl
theorem setD_add (m j y : Nat) : setD m j (dig m j + y) = m + y * B ^ j := by
  have := setD_eq m j (dig m j + y)
  rw [Nat.add_mul] at this
  omega
theorem shl_ev (x r : Nat) (hr : r ≤ 32) (hx : x < 4294967296) : shl .u64 (x : Int) (r : Int) = ((x * 2 ^ r : Nat) : Int) := by
  have h32 : (2 : Nat) ^ r ≤ 2 ^ 32 := Nat.pow_le_pow_right (by omega) hr
  have h1 : x * 2 ^ r ≤ x * 2 ^ 32 := Nat.mul_le_mul_left _ h32
  have h2 : x * 2 ^ r < 18446744073709551616 := by
    have : (2 : Nat) ^ 32 = 4294967296 := by decide
    omega
  unfold shl
  rw [Nat.min_eq_left (by show ((r : Int)).toNat ≤ 64; omega), Int.toNat_natCast]
  rw [← wun _ h2]
  congr 1
theorem up_l0 (a n q r L : Nat) (hn : n = 32 * q + r) (hr : r < 32) (hL : L = ln a + q + 1) (ht : L ≤ top) :
    ∀ (d i m : Nat), d + i = ln a → m = a % B ^ i * 2 ^ n → Ev (fun k => tenorref1_ShiftUp.l0 k (dg a) (n : Int) (dgL L m) (i : Int)) (dg (a * 2 ^ n)) := by
  have hB : B = 4294967296 := rfl
  have h2n : 2 ^ n = B ^ q * 2 ^ r := by rw [hn, Nat.pow_add, B_eq]
  have h2r : 2 ^ r < B := by
    have := Nat.pow_lt_pow_right (a := 2) (by omega) hr
    have : (2 : Nat) ^ 32 = B := by decide
    omega
  have hrp : 0 < 2 ^ r := Nat.pow_pos (by omega)
  intro d
  induction d with
  | zero =>
    intro i m hd hm
    obtain rfl : i = ln a := by omega
    have ha : a % B ^ ln a = a := Nat.mod_eq_of_lt (lt_pow_ln a)
    rw [ha] at hm
    subst hm
    have hlt : a * 2 ^ n < B ^ L := by
      rw [h2n, hL, Nat.pow_add, Nat.pow_add, Nat.pow_one, Nat.mul_assoc]
      exact Nat.mul_lt_mul'' (lt_pow_ln a) (Nat.mul_lt_mul_of_pos_left h2r (Bpow_pos q))
    refine Ev.step (f := fun k => (tenorref1_trim.f k (dgL L (a * 2 ^ n))).bind fun t => some t) (fun k => ?_) (Ev.bind (f := fun _ t => some t) (trim_ev L _ ht hlt) (Ev.now _))
    simp only [tenorref1_ShiftUp.l0]
    rw [dg_length, if_neg (by omega)]
  | succ d ih =>
    intro i m hd hm
    have x1 := dig_lt a i
    have hmlt : m < 2 ^ r * B ^ (i + q) := by
      rw [hm, h2n, Nat.pow_add, ← Nat.mul_assoc, Nat.mul_comm (2 ^ r)]
      exact Nat.mul_lt_mul_of_pos_right (Nat.mul_lt_mul_of_pos_right (Nat.mod_lt _ (Bpow_pos i)) (Bpow_pos q)) hrp
    obtain ⟨x, hx⟩ : ∃ x, x = dig a i * 2 ^ r := ⟨_, rfl⟩
    have hdm : dig m (i + q) < 2 ^ r := by
      have : m / B ^ (i + q) < 2 ^ r := Nat.div_lt_of_lt_mul (by rw [Nat.mul_comm]; exact hmlt)
      exact Nat.lt_of_le_of_lt (Nat.mod_le _ _) this
    have hsum : dig m (i + q) + x % B < B := by
      have hBr : B = 2 ^ (32 - r) * 2 ^ r := by rw [← Nat.pow_add, show 32 - r + r = 32 by omega]
      have h1 : x % B = dig a i % 2 ^ (32 - r) * 2 ^ r := by rw [hx, hBr, Nat.mul_mod_mul_right]
      have h2 : dig a i % 2 ^ (32 - r) < 2 ^ (32 - r) := Nat.mod_lt _ (Nat.pow_pos (by omega))
      have h3 : (dig a i % 2 ^ (32 - r) + 1) * 2 ^ r ≤ 2 ^ (32 - r) * 2 ^ r := Nat.mul_le_mul_right _ h2
      rw [Nat.add_mul, ← hBr] at h3
      omega
    have hxB : x / B < B := by
      have : x < B * B := by rw [hx]; exact Nat.mul_lt_mul'' x1 h2r
      exact Nat.div_lt_of_lt_mul this
    have hmi : m < B ^ (i + q + 1) := by
      have := Nat.mul_le_mul_right (B ^ (i + q)) (Nat.le_of_lt h2r)
      rw [Nat.pow_succ']; omega
    have hm1 : m + x % B * B ^ (i + q) < B ^ (i + q + 1) := by
      have h1 := Nat.div_add_mod m (B ^ (i + q))
      have h2 := Nat.mod_lt m (Bpow_pos (i + q))
      have h3 : m / B ^ (i + q) = dig m (i + q) := by
        unfold dig
        rw [Nat.mod_eq_of_lt]
        have : m / B ^ (i + q) < 2 ^ r := Nat.div_lt_of_lt_mul (by rw [Nat.mul_comm]; exact hmlt)
        omega
      rw [h3, Nat.mul_comm] at h1
      have h4 : (dig m (i + q) + x % B + 1) * B ^ (i + q) ≤ B * B ^ (i + q) := Nat.mul_le_mul_right _ hsum
      rw [Nat.add_mul, Nat.add_mul] at h4
      rw [Nat.pow_succ']; omega
    have hz : dig (m + x % B * B ^ (i + q)) (i + q + 1) = 0 := dig_of_lt hm1
    have s1 : setD m (i + q) (dig m (i + q) + x % B) = m + x % B * B ^ (i + q) := setD_add _ _ _
    have s2 : setD (m + x % B * B ^ (i + q)) (i + q + 1) (x / B) = m + x * B ^ (i + q) := by
      have := setD_add (m + x % B * B ^ (i + q)) (i + q + 1) (x / B)
      rw [hz, Nat.zero_add] at this
      rw [this, Nat.pow_succ', ← Nat.mul_assoc]
      have hdv := Nat.div_add_mod x B
      have t : (B * (x / B) + x % B) * B ^ (i + q) = x * B ^ (i + q) := by rw [hdv]
      rw [Nat.add_mul, Nat.mul_comm B] at t
      omega
    refine Ev.step (fun k => ?_) (ih (i + 1) (m + x * B ^ (i + q)) (by omega) ?_)
    · simp only [tenorref1_ShiftUp.l0]
      have e1 : Int.tmod (n : Int) 32 = (r : Int) := by rw [Int.tmod_eq_emod_of_nonneg (by omega)]; omega
      have e2 : Int.tdiv (n : Int) 32 = (q : Int) := by rw [Int.tdiv_eq_ediv_of_nonneg (by omega)]; omega
      have t9 : top = 1000000000 := rfl
      rw [e1, e2, w64 (x := (q : Int)) (by omega) (by omega)]
      rw [show (i : Int) + (q : Int) = ((i + q : Nat) : Int) by omega, w64 (x := ((i + q : Nat) : Int)) (by omega) (by omega)]
      rw [show ((i + q : Nat) : Int) + 1 = ((i + q + 1 : Nat) : Int) by omega, w64 (x := ((i + q + 1 : Nat) : Int)) (by omega) (by omega)]
      rw [dg_length, dgL_length, if_pos (by omega), if_pos (by omega), if_pos (by omega), if_pos (by omega), if_pos (by omega), if_pos (by omega), if_pos (by omega)]
      rw [rd_dg _ _ (by omega), rd_dgL _ _ _ (by omega), shl_ev _ _ (by omega) x1, ← hx]
      have e5 : Int.tmod (x : Int) 4294967296 = ((x % B : Nat) : Int) := by rw [Int.tmod_eq_emod_of_nonneg (by omega)]; rfl
      have e6 : Int.tdiv (x : Int) 4294967296 = ((x / B : Nat) : Int) := by rw [Int.tdiv_eq_ediv_of_nonneg (by omega)]; rfl
      rw [e5, e6, show ((dig m (i + q) : Nat) : Int) + ((x % B : Nat) : Int) = ((dig m (i + q) + x % B : Nat) : Int) by omega, wun _ (by omega), wun _ (by omega), Int.toNat_natCast, Int.toNat_natCast]
      rw [set_dgL _ _ _ _ (by omega) hsum, s1, set_dgL _ _ _ _ (by omega) hxB, s2, w64 (by omega) (by omega)]
      rfl
    · rw [mod_step, Nat.add_mul, ← hm, hx, h2n]
      congr 1
      rw [Nat.pow_add]
      simp only [Nat.mul_assoc, Nat.mul_comm, Nat.mul_left_comm]
theorem up_ev (a n : Nat) (hn : n ≤ 10000000) (ht : ln a ≤ 10000000) : Ev (fun k => tenorref1_ShiftUp.f k (dg a) (n : Int)) (dg (a * 2 ^ n)) := by
  have t9 : top = 1000000000 := rfl
  by_cases h0 : ln a = 0
  · have : a = 0 := by
      have := lt_pow_ln a
      rw [h0] at this
      simpa using this
    subst this
    refine Ev.congr (f := fun _ => some (dg (0 * 2 ^ n))) (fun k => ?_) (Ev.now _)
    unfold tenorref1_ShiftUp.f
    rw [dg_length, if_pos (by omega), Nat.zero_mul]
    simp [dg, ln_zero, dgL]
  · refine Ev.congr (fun k => ?_) (up_l0 a n (n / 32) (n % 32) (ln a + n / 32 + 1) (by omega) (by omega) rfl (by omega) (ln a) 0 0 (by omega) (by simp [Nat.mod_one]))
    unfold tenorref1_ShiftUp.f
    have e2 : Int.tdiv (n : Int) 32 = ((n / 32 : Nat) : Int) := by rw [Int.tdiv_eq_ediv_of_nonneg (by omega)]; omega
    rw [e2, w64 (x := ((n / 32 : Nat) : Int)) (by omega) (by omega), dg_length, if_neg (by omega)]
    rw [show ((ln a : Nat) : Int) + ((n / 32 : Nat) : Int) = ((ln a + n / 32 : Nat) : Int) by omega, w64 (x := ((ln a + n / 32 : Nat) : Int)) (by omega) (by omega)]
    rw [show ((ln a + n / 32 : Nat) : Int) + 1 = ((ln a + n / 32 + 1 : Nat) : Int) by omega, w64 (x := ((ln a + n / 32 + 1 : Nat) : Int)) (by omega) (by omega)]
    rw [if_pos (by omega), Int.toNat_natCast, if_pos (by omega), dgL_zero]
    rfl
end Go.Proofs.YtjpiplplohapnaaGreatDoor.Big
namespace Go.Proofs.YtjpiplplohapnaaGreatDoor.Big
open Go.RowKit Go.Proofs.YtjpiplplohapnaaGreatDoorW.PrintWords Go.Proofs.YtjpiplplohapnaaGreatDoorW.PrintLast Go.Proofs.YtjpiplplohapnaaGreatDoorW.PrintMore
open Go.Proofs.YtjpiplplohapnaaGreatDoor.PText
theorem B_split (r : Nat) (hr : r < 32) : B = 2 ^ r * 2 ^ (32 - r) := by
  rw [← Nat.pow_add, show r + (32 - r) = 32 by omega]
theorem mod_B_mod (y r : Nat) (hr : r < 32) : y % B % 2 ^ r = y % 2 ^ r :=
  Nat.mod_mod_of_dvd _ ⟨2 ^ (32 - r), B_split r hr⟩
theorem pow_n (n q r : Nat) (hn : n = 32 * q + r) : 2 ^ n = B ^ q * 2 ^ r := by rw [hn, Nat.pow_add, B_eq]
theorem dig_down (a n q r j : Nat) (hn : n = 32 * q + r) (hr : r < 32) : dig (a / 2 ^ n) j = (dig a (j + q) + dig a (j + q + 1) * B) / 2 ^ r % B := by
  obtain ⟨y, hy⟩ : ∃ y, y = a / B ^ (j + q) := ⟨_, rfl⟩
  have e1 : dig (a / 2 ^ n) j = y / 2 ^ r % B := by
    unfold dig
    rw [hy, Nat.div_div_eq_div_mul, Nat.div_div_eq_div_mul, pow_n n q r hn, Nat.pow_add]
    congr 2
    rw [Nat.mul_comm (B ^ j), Nat.mul_right_comm]
  have e2 : dig a (j + q) = y % B := by unfold dig; rw [hy]
  have e3 : dig a (j + q + 1) = y / B % B := by unfold dig; rw [hy, Nat.div_div_eq_div_mul, Nat.pow_succ]
  have e4 : y % B + y / B % B * B = y % (B * B) := by rw [Nat.mod_mul, Nat.mul_comm]
  rw [e1, e2, e3, e4]
  have e5 : B * B = 2 ^ r * (2 ^ (32 - r) * B) := by rw [← Nat.mul_assoc, ← B_split r hr]
  rw [e5, Nat.mod_mul_right_div_self, Nat.mod_mod_of_dvd _ ⟨2 ^ (32 - r), Nat.mul_comm _ _⟩]
theorem down_l1 (a n q r : Nat) (fl : Bool) (hn : n = 32 * q + r) (hr : r < 32) (hq : q < ln a) (ht : ln a ≤ 10000000) :
    ∀ (d j : Nat), d + j = ln a - q → Ev (fun k => tenorref1_ShiftDown.l1 k (dg a) (n : Int) fl (dgL (ln a - q) (a / 2 ^ n % B ^ j)) (j : Int)) (dg (a / 2 ^ n), fl) := by
  have hB : B = 4294967296 := rfl
  have t9 : top = 1000000000 := rfl
  have e1 : Int.tmod (n : Int) 32 = (r : Int) := by rw [Int.tmod_eq_emod_of_nonneg (by omega)]; omega
  have e2 : Int.tdiv (n : Int) 32 = (q : Int) := by rw [Int.tdiv_eq_ediv_of_nonneg (by omega)]; omega
  have hlt : a / 2 ^ n < B ^ (ln a - q) := by
    refine Nat.div_lt_of_lt_mul ?_
    have h1 := lt_pow_ln a
    have h2 : B ^ ln a = B ^ q * B ^ (ln a - q) := by rw [← Nat.pow_add]; congr 1; omega
    have h3 : B ^ q ≤ 2 ^ n := by rw [pow_n n q r hn]; exact Nat.le_mul_of_pos_right _ (Nat.pow_pos (by omega))
    exact Nat.lt_of_lt_of_le (h2 ▸ h1) (Nat.mul_le_mul_right _ h3)
  intro d
  induction d with
  | zero =>
    intro j hd
    obtain rfl : j = ln a - q := by omega
    rw [Nat.mod_eq_of_lt hlt]
    refine Ev.step (f := fun k => (tenorref1_trim.f k (dgL (ln a - q) (a / 2 ^ n))).bind fun t => some (t, fl)) (fun k => ?_) (Ev.bind (f := fun _ t => some (t, fl)) (trim_ev _ _ (by omega) hlt) (Ev.now _))
    simp only [tenorref1_ShiftDown.l1]
    rw [dgL_length, if_neg (by omega)]
  | succ d ih =>
    intro j hd
    refine Ev.step (fun k => ?_) (ih (j + 1) (by omega))
    simp only [tenorref1_ShiftDown.l1]
    rw [e1, e2, w64 (x := (q : Int)) (by omega) (by omega)]
    rw [show (j : Int) + (q : Int) = ((j + q : Nat) : Int) by omega, w64 (x := ((j + q : Nat) : Int)) (by omega) (by omega)]
    rw [show ((j + q : Nat) : Int) + 1 = ((j + q + 1 : Nat) : Int) by omega, w64 (x := ((j + q + 1 : Nat) : Int)) (by omega) (by omega)]
    rw [dg_length, dgL_length, if_pos (by omega), if_pos (by omega), if_pos (by omega), digit_dg, Option.bind_some, if_pos (by omega), if_pos (by omega)]
    have x1 := dig_lt a (j + q)
    have x2 := dig_lt a (j + q + 1)
    rw [rd_dg _ _ (by omega)]
    have hs : (((dig a (j + q) : Nat) : Int) + IntKind.u64.wrap (((dig a (j + q + 1) : Nat) : Int) * 4294967296)) = ((dig a (j + q) + dig a (j + q + 1) * 4294967296 : Nat) : Int) := by
      rw [wu (by omega) (by omega)]; omega
    rw [hs, wun _ (by omega)]
    have hsh : shr .u64 ((dig a (j + q) + dig a (j + q + 1) * 4294967296 : Nat) : Int) (r : Int) = (((dig a (j + q) + dig a (j + q + 1) * 4294967296) / 2 ^ r : Nat) : Int) := by
      unfold shr
      rw [Nat.min_eq_left (by show ((r : Int)).toNat ≤ 64; omega), Int.toNat_natCast]
      rw [Int.natCast_ediv, Int.natCast_pow]
      rfl
    rw [hsh]
    have hm : Int.tmod (((dig a (j + q) + dig a (j + q + 1) * 4294967296) / 2 ^ r : Nat) : Int) 4294967296 = ((dig (a / 2 ^ n) j : Nat) : Int) := by
      rw [Int.tmod_eq_emod_of_nonneg (Int.natCast_nonneg _), dig_down a n q r j hn hr, hB]; rfl
    rw [hm, Int.toNat_natCast, set_dgL _ _ _ _ (by omega) (dig_lt _ _)]
    have hz : dig (a / 2 ^ n % B ^ j) j = 0 := dig_of_lt (Nat.mod_lt _ (Bpow_pos j))
    have hsd := setD_add (a / 2 ^ n % B ^ j) j (dig (a / 2 ^ n) j)
    rw [hz, Nat.zero_add] at hsd
    rw [hsd, ← mod_step, w64 (by omega) (by omega)]
    rfl
theorem down_j1 (a n q r : Nat) (fl : Bool) (hn : n = 32 * q + r) (hr : r < 32) (hq : q < ln a) (ht : ln a ≤ 10000000) :
    Ev (fun k => tenorref1_ShiftDown.j1 k (dg a) (n : Int) fl) (dg (a / 2 ^ n), fl) := by
  have e2 : Int.tdiv (n : Int) 32 = (q : Int) := by rw [Int.tdiv_eq_ediv_of_nonneg (by omega)]; omega
  have h := down_l1 a n q r fl hn hr hq ht (ln a - q) 0 (by omega)
  refine Ev.step (fun k => ?_) h
  simp only [tenorref1_ShiftDown.j1]
  rw [e2, w64 (x := (q : Int)) (by omega) (by omega), dg_length, show ((ln a : Nat) : Int) - (q : Int) = ((ln a - q : Nat) : Int) by omega, w64 (x := ((ln a - q : Nat) : Int)) (by omega) (by omega)]
  rw [if_pos (by omega), Int.toNat_natCast, if_pos (by omega), Nat.pow_zero, Nat.mod_one, dgL_zero]
  rfl
theorem down_l0 (a n q r : Nat) (hn : n = 32 * q + r) (hr : r < 32) (hq : q < ln a) (ht : ln a ≤ 10000000) :
    ∀ (d i : Nat), d + i = q → Ev (fun k => tenorref1_ShiftDown.l0 k (dg a) (n : Int) (decide (a % B ^ i ≠ 0)) (i : Int)) (dg (a / 2 ^ n), decide (a % 2 ^ n ≠ 0)) := by
  have hB : B = 4294967296 := rfl
  have e1 : Int.tmod (n : Int) 32 = (r : Int) := by rw [Int.tmod_eq_emod_of_nonneg (by omega)]; omega
  have e2 : Int.tdiv (n : Int) 32 = (q : Int) := by rw [Int.tdiv_eq_ediv_of_nonneg (by omega)]; omega
  have hsplit : a % 2 ^ n = a % B ^ q + B ^ q * (a / B ^ q % 2 ^ r) := by rw [pow_n n q r hn, Nat.mod_mul]
  have hbp := Bpow_pos q
  intro d
  induction d with
  | zero =>
    intro i hd
    obtain rfl : i = q := by omega
    by_cases hf : a % B ^ i = 0
    · rw [decide_eq_false (by simpa using hf)]
      have h2r : 2 ^ r < B := by
        have := Nat.pow_lt_pow_right (a := 2) (by omega) hr
        have : (2 : Nat) ^ 32 = B := by decide
        omega
      have hrp : 0 < 2 ^ r := Nat.pow_pos (by omega)
      refine Ev.step (fun k => ?_) (down_j1 a n i r (decide (a % 2 ^ n ≠ 0)) hn hr hq ht)
      simp only [tenorref1_ShiftDown.l0]
      have hs : shl .u64 1 (r : Int) = ((2 ^ r : Nat) : Int) := by
        have := shl_ev 1 r (by omega) (by omega)
        rw [Nat.one_mul] at this
        exact this
      rw [e1, e2, w64 (x := (i : Int)) (by omega) (by omega), if_neg (by omega), if_neg (by simp), dg_length, if_pos (by omega), if_pos (by omega), if_pos (by omega), hs, if_neg (by omega), rd_dg _ _ hq]
      congr 1
      have hm : Int.tmod ((dig a i : Nat) : Int) ((2 ^ r : Nat) : Int) = ((a / B ^ i % 2 ^ r : Nat) : Int) := by
        rw [Int.tmod_eq_emod_of_nonneg (by omega), ← Int.natCast_emod]
        unfold dig
        rw [mod_B_mod _ _ hr]
      rw [hm, hsplit, hf, Nat.zero_add]
      by_cases h0 : a / B ^ i % 2 ^ r = 0
      · rw [h0]; simp
      · rw [decide_eq_true (Nat.mul_ne_zero (by omega) h0)]
        simpa using (by omega : ((a / B ^ i % 2 ^ r : Nat) : Int) ≠ 0)
    · rw [decide_eq_true hf]
      have : decide (a % 2 ^ n ≠ 0) = true := decide_eq_true (by rw [hsplit]; exact Nat.ne_of_gt (Nat.lt_of_lt_of_le (Nat.pos_of_ne_zero hf) (Nat.le_add_right _ _)))
      rw [this]
      refine Ev.step (fun k => ?_) (down_j1 a n i r true hn hr hq ht)
      simp only [tenorref1_ShiftDown.l0]
      rw [e2, w64 (x := (i : Int)) (by omega) (by omega), if_neg (by omega), if_pos (by simp)]
  | succ d ih =>
    intro i hd
    have hbi := Bpow_pos i
    have hst := mod_step a i
    have hih := ih (i + 1) (by omega)
    refine Ev.step (fun k => ?_) hih
    simp only [tenorref1_ShiftDown.l0]
    rw [e2, w64 (x := (q : Int)) (by omega) (by omega), if_pos (by omega), w64 (x := (i : Int) + 1) (by omega) (by omega)]
    by_cases hf : a % B ^ i = 0
    · rw [decide_eq_false (by simpa using hf), if_neg (by simp), dg_length, if_pos (by omega), if_pos (by omega), rd_dg _ _ (by omega)]
      rw [hf, Nat.zero_add] at hst
      have : (((dig a i : Nat) : Int) != 0) = decide (a % B ^ (i + 1) ≠ 0) := by
        rw [hst]
        by_cases h0 : dig a i = 0
        · rw [h0]; simp
        · rw [decide_eq_true (Nat.mul_ne_zero h0 (by omega))]
          simpa using (by omega : ((dig a i : Nat) : Int) ≠ 0)
      rw [this]
      rfl
    · rw [decide_eq_true hf, if_pos (by simp)]
      have : decide (a % B ^ (i + 1) ≠ 0) = true := decide_eq_true (by rw [hst]; exact Nat.ne_of_gt (Nat.lt_of_lt_of_le (Nat.pos_of_ne_zero hf) (Nat.le_add_right _ _)))
      rw [this]
      rfl
theorem down_ev (a n : Nat) (hn : n ≤ 10000000) (ht : ln a ≤ 10000000) : Ev (fun k => tenorref1_ShiftDown.f k (dg a) (n : Int)) (dg (a / 2 ^ n), decide (a % 2 ^ n ≠ 0)) := by
  by_cases h : 32 * ln a ≤ n
  · have hlt : a < 2 ^ n := by
      have h1 := lt_pow_ln a
      rw [B_eq] at h1
      exact Nat.lt_of_lt_of_le h1 (Nat.pow_le_pow_right (by omega) h)
    refine Ev.congr (f := fun _ => some (dg (a / 2 ^ n), decide (a % 2 ^ n ≠ 0))) (fun k => ?_) (Ev.now _)
    unfold tenorref1_ShiftDown.f
    rw [dg_length, w64 (by omega) (by omega), if_pos (by omega), Nat.div_eq_of_lt hlt, Nat.mod_eq_of_lt hlt]
    have : decide (((ln a : Nat) : Int) > 0) = decide (a ≠ 0) := by
      by_cases h0 : a = 0
      · subst h0; simp [ln_zero]
      · have := ln_pos h0
        rw [decide_eq_true h0, decide_eq_true (by omega)]
    rw [this]
    simp [dg, ln_zero, dgL]
  · refine Ev.congr (fun k => ?_) (down_l0 a n (n / 32) (n % 32) (by omega) (by omega) (by omega) ht (n / 32) 0 (by omega))
    unfold tenorref1_ShiftDown.f
    rw [dg_length, w64 (by omega) (by omega), if_neg (by omega), Nat.pow_zero, Nat.mod_one]
    rfl
end Go.Proofs.YtjpiplplohapnaaGreatDoor.Big
namespace Go.Proofs.YtjpiplplohapnaaGreatDoor.Nr
def V (r : Nat) : Nat := if r < 4503599627370496 then r else (4503599627370496 + r % 4503599627370496) * 2 ^ (r / 4503599627370496 - 1)
theorem V_form (l n : Nat) (h : (4503599627370496 ≤ n ∧ n ≤ 9007199254740992) ∨ (l = 0 ∧ n ≤ 9007199254740992)) : V (l * 4503599627370496 + n) = n * 2 ^ l := by
  unfold V
  by_cases h1 : l * 4503599627370496 + n < 4503599627370496
  · rw [if_pos h1]
    have h0 : l = 0 := by omega
    subst h0; simp
  · rw [if_neg h1]
    rcases Nat.lt_or_ge n 9007199254740992 with h2 | h2
    · have a : (l * 4503599627370496 + n) / 4503599627370496 = l + 1 := by omega
      have b : (l * 4503599627370496 + n) % 4503599627370496 = n - 4503599627370496 := by omega
      have c : l + 1 - 1 = l := by omega
      have d : 4503599627370496 + (n - 4503599627370496) = n := by omega
      rw [a, b, c, d]
    · have e : n = 9007199254740992 := by omega
      subst e
      have a : (l * 4503599627370496 + 9007199254740992) / 4503599627370496 = l + 2 := by omega
      have b : (l * 4503599627370496 + 9007199254740992) % 4503599627370496 = 0 := by omega
      have c : l + 2 - 1 = l + 1 := by omega
      rw [a, b, c]
      have hp : 2 ^ (l + 1) = 2 ^ l * 2 := Nat.pow_succ ..
      generalize 2 ^ (l + 1) = x at *
      generalize 2 ^ l = y at *
      omega
theorem form (r : Nat) : ∃ l n, r = l * 4503599627370496 + n ∧ ((4503599627370496 ≤ n ∧ n < 9007199254740992) ∨ (l = 0 ∧ n < 9007199254740992)) := by
  by_cases h : r < 4503599627370496
  · exact ⟨0, r, by omega, Or.inr ⟨rfl, by omega⟩⟩
  · exact ⟨r / 4503599627370496 - 1, r - (r / 4503599627370496 - 1) * 4503599627370496, by omega, Or.inl ⟨by omega, by omega⟩⟩
theorem V_step (r : Nat) : V r < V (r + 1) := by
  obtain ⟨l, n, rfl, h⟩ := form r
  rw [Nat.add_assoc, V_form l n (by omega), V_form l (n + 1) (by omega), Nat.add_mul]
  have := Nat.pow_pos (a := 2) (n := l) (by decide)
  omega
theorem V_mono {a b : Nat} (h : a ≤ b) : V a ≤ V b := by
  induction h with
  | refl => exact Nat.le_refl _
  | step _ ih => exact Nat.le_trans ih (Nat.le_of_lt (V_step _))
theorem V_lt {a b : Nat} (h : a < b) : V a < V b := Nat.lt_of_lt_of_le (V_step a) (V_mono h)
def Near (N D r : Nat) : Prop :=
  (∀ q, r = q + 1 → (V q + V r) * D ≤ 2 * N ∧ ((V q + V r) * D = 2 * N → r % 2 = 0)) ∧
  (2 * N ≤ (V r + V (r + 1)) * D ∧ (2 * N = (V r + V (r + 1)) * D → r % 2 = 0))
theorem near_mono {N D N' D' r r' : Nat} (hD : 0 < D) (hD' : 0 < D') (h : N * D' ≤ N' * D) (h1 : Near N D r) (h2 : Near N' D' r') : r ≤ r' := by
  rcases Nat.lt_or_ge r' r with hlt | hge
  · exfalso
    obtain ⟨q, rfl⟩ : ∃ q, r = q + 1 := ⟨r - 1, by omega⟩
    obtain ⟨a1, a2⟩ := h1.1 q rfl
    obtain ⟨b1, b2⟩ := h2.2
    have hv : V r' + V (r' + 1) ≤ V q + V (q + 1) := Nat.add_le_add (V_mono (by omega)) (V_mono (by omega))
    have hp : 0 < D * D' := Nat.mul_pos hD hD'
    have c1 := Nat.mul_le_mul_right D' a1
    have c2 := Nat.mul_le_mul_right D b1
    have c3 := Nat.mul_le_mul_right (D * D') hv
    rw [Nat.mul_assoc] at c1
    rw [Nat.mul_assoc _ D' D, Nat.mul_comm D' D] at c2
    have e1 : 2 * N * D' = 2 * (N * D') := Nat.mul_assoc _ _ _
    have e2 : 2 * N' * D = 2 * (N' * D) := Nat.mul_assoc _ _ _
    have eq : (V r' + V (r' + 1)) * (D * D') = (V q + V (q + 1)) * (D * D') := by omega
    have eqv := Nat.eq_of_mul_eq_mul_right hp eq
    have hq : r' = q := by
      rcases Nat.lt_or_ge r' q with h3 | h3
      · have := V_lt h3
        have := V_lt (show r' + 1 < q + 1 by omega)
        omega
      · omega
    subst hq
    have f1 : (V r' + V (r' + 1)) * D = 2 * N := by
      apply Nat.eq_of_mul_eq_mul_right hD'
      rw [Nat.mul_assoc]; omega
    have f2 : 2 * N' = (V r' + V (r' + 1)) * D' := by
      apply Nat.eq_of_mul_eq_mul_right hD
      rw [Nat.mul_assoc _ D' D, Nat.mul_comm D' D]; omega
    have g1 := a2 f1
    have g2 := b2 f2
    omega
  · exact hge
theorem near_unique {N D N' D' r r' : Nat} (hD : 0 < D) (hD' : 0 < D') (h : N * D' = N' * D) (h1 : Near N D r) (h2 : Near N' D' r') : r = r' :=
  Nat.le_antisymm (near_mono hD hD' (Nat.le_of_eq h) h1 h2) (near_mono hD' hD (Nat.le_of_eq h.symm) h2 h1)
def Rhe (A Q n : Nat) : Prop := 2 * A ≤ (2 * n + 1) * Q ∧ 2 * n * Q ≤ 2 * A + Q ∧ (2 * A = (2 * n + 1) * Q → n % 2 = 0) ∧ (2 * n * Q = 2 * A + Q → n % 2 = 0)
theorem rhe_scale {A Q n : Nat} (k : Nat) (hk : 0 < k) (h : Rhe (A * k) (Q * k) n) : Rhe A Q n := by
  obtain ⟨h1, h2, h3, h4⟩ := h
  have e1 : 2 * (A * k) = (2 * A) * k := by rw [Nat.mul_assoc]
  have e2 : (2 * n + 1) * (Q * k) = ((2 * n + 1) * Q) * k := by rw [Nat.mul_assoc]
  have e3 : 2 * n * (Q * k) = (2 * n * Q) * k := (Nat.mul_assoc _ _ _).symm
  have e4 : 2 * (A * k) + Q * k = (2 * A + Q) * k := by rw [Nat.add_mul, e1]
  rw [e1, e2] at h1 h3
  rw [e3, e4] at h2 h4
  exact ⟨Nat.le_of_mul_le_mul_right h1 hk, Nat.le_of_mul_le_mul_right h2 hk, fun h => h3 (by rw [h]), fun h => h4 (by rw [h])⟩
theorem near_of_rhe {N D l n : Nat} (hD : 0 < D) (h : Rhe N (D * 2 ^ l) n)
    (hf : (4503599627370496 ≤ n ∧ n ≤ 9007199254740992 ∧ (l ≠ 0 → 4503599627370496 * (D * 2 ^ l) ≤ N)) ∨ (l = 0 ∧ n ≤ 9007199254740992)) : Near N D (l * 4503599627370496 + n) := by
  obtain ⟨h1, h2, h3, h4⟩ := h
  have hp : 0 < 2 ^ l := Nat.pow_pos (by decide)
  have hV : V (l * 4503599627370496 + n) = n * 2 ^ l := V_form l n (by omega)
  have hDl : 0 < D * 2 ^ l := Nat.mul_pos hD hp
  have par : (l * 4503599627370496 + n) % 2 = n % 2 := by omega
  refine ⟨fun q hq => ?_, ?_⟩
  · rw [hV, par]
    by_cases hn : n ≤ 4503599627370496 ∧ l ≠ 0
    · have hn' : n = 4503599627370496 := by omega
      have hN : 4503599627370496 * (D * 2 ^ l) ≤ N := by
        rcases hf with h | h
        · exact h.2.2 hn.2
        · omega
      have hq' : V q < V (q + 1) := V_step q
      rw [← hq, hV] at hq'
      have e : (V q + n * 2 ^ l) * D < 2 * N := by
        have a : (V q + n * 2 ^ l) * D < (n * 2 ^ l + n * 2 ^ l) * D := Nat.mul_lt_mul_of_pos_right (by omega) hD
        have b : (n * 2 ^ l + n * 2 ^ l) * D = 2 * (n * (D * 2 ^ l)) := by
          rw [← Nat.two_mul, Nat.mul_assoc, Nat.mul_assoc, Nat.mul_comm (2 ^ l) D]
        rw [hn'] at b a ⊢
        omega
      exact ⟨Nat.le_of_lt e, fun h => absurd h (by omega)⟩
    · have hn1 : 1 ≤ n := by
        rcases hf with h | h
        · omega
        · have := h.1; subst this; omega
      have hVq : V q = (n - 1) * 2 ^ l := by
        have : q = l * 4503599627370496 + (n - 1) := by omega
        rw [this]; exact V_form l (n - 1) (by omega)
      have e : (V q + n * 2 ^ l) * D + D * 2 ^ l = 2 * n * (D * 2 ^ l) := by
        rw [hVq]
        have : (n - 1) * 2 ^ l + n * 2 ^ l + 2 ^ l = 2 * n * 2 ^ l := by
          rw [← Nat.add_mul, ← Nat.succ_mul]; congr 1; omega
        rw [Nat.mul_comm D (2 ^ l), ← Nat.mul_assoc, ← this, Nat.add_mul, Nat.add_mul, Nat.add_mul]
      exact ⟨by omega, fun h => h4 (by omega)⟩
  · rw [par]
    have hV1 : V (l * 4503599627370496 + n) + 2 ^ l ≤ V (l * 4503599627370496 + n + 1) ∧ (n < 9007199254740992 → V (l * 4503599627370496 + n + 1) = V (l * 4503599627370496 + n) + 2 ^ l) := by
      rw [hV]
      rcases Nat.lt_or_ge n 9007199254740992 with h5 | h5
      · rw [Nat.add_assoc, V_form l (n + 1) (by omega), Nat.add_mul, Nat.one_mul]
        exact ⟨Nat.le_refl _, fun _ => rfl⟩
      · have hn : n = 9007199254740992 := by omega
        subst hn
        have : l * 4503599627370496 + 9007199254740992 + 1 = (l + 1) * 4503599627370496 + 4503599627370497 := by omega
        rw [this, V_form (l + 1) 4503599627370497 (by omega), Nat.pow_succ]
        exact ⟨by omega, fun h => absurd h (by omega)⟩
    have e : (2 * n + 1) * (D * 2 ^ l) ≤ (V (l * 4503599627370496 + n) + V (l * 4503599627370496 + n + 1)) * D := by
      have a : (2 * n + 1) * (D * 2 ^ l) = (n * 2 ^ l + (n * 2 ^ l + 2 ^ l)) * D := by
        rw [Nat.mul_comm D, ← Nat.mul_assoc]
        congr 1
        rw [Nat.add_mul, Nat.two_mul, Nat.add_mul, Nat.one_mul]; omega
      rw [a, hV]
      rw [hV] at hV1
      exact Nat.mul_le_mul_right _ (by omega)
    refine ⟨by omega, fun h => ?_⟩
    exact h3 (by omega)
theorem near_exact {N D r : Nat} (hD : 0 < D) (h : N = V r * D) : Near N D r := by
  refine ⟨fun q hq => ?_, ?_⟩
  · have := V_step q
    rw [← hq] at this
    have e : (V q + V r) * D < 2 * N := by
      rw [h, ← Nat.mul_assoc]; exact Nat.mul_lt_mul_of_pos_right (by omega) hD
    exact ⟨Nat.le_of_lt e, fun h => absurd h (by omega)⟩
  · have := V_step r
    have e : 2 * N < (V r + V (r + 1)) * D := by
      rw [h, ← Nat.mul_assoc]; exact Nat.mul_lt_mul_of_pos_right (by omega) hD
    exact ⟨Nat.le_of_lt e, fun h => absurd h (by omega)⟩
end Go.Proofs.YtjpiplplohapnaaGreatDoor.Nr
namespace Go.Proofs.YtjpiplplohapnaaGreatDoor.Big
open Go.Proofs.YtjpiplplohapnaaGreatDoor.Nr
theorem rhe_one (Q n : Nat) (hQ : 0 < Q) : Rhe (n * Q) Q n := by
  unfold Rhe
  have e1 : (2 * n + 1) * Q = 2 * (n * Q) + Q := by rw [Nat.add_mul, Nat.one_mul, Nat.mul_assoc]
  have e2 : 2 * n * Q = 2 * (n * Q) := Nat.mul_assoc _ _ _
  rw [e1, e2]
  generalize n * Q = Y
  refine ⟨by omega, by omega, fun h => ?_, fun h => ?_⟩ <;> omega
theorem rhe_core (X U W q b t n' D : Nat) (more : Bool) (hU : 0 < U) (hb : b < 2) (ht : t < W) (hD : D = q * (2 * W) + b * W + t)
    (h1 : D * U ≤ X) (h2 : X < (D + 1) * U) (h3 : more = false → X = D * U) (h4 : more = true → X ≠ D * U)
    (hn : n' = q + (if b = 1 ∧ (t ≠ 0 ∨ more = true ∨ q % 2 = 1) then 1 else 0)) : Rhe X (U * (2 * W)) n' := by
  have hT1 : (t + 1) * U ≤ W * U := Nat.mul_le_mul_right _ ht
  have hT0 : t ≠ 0 → U ≤ t * U := fun h => Nat.le_mul_of_pos_left _ (by omega)
  have hTz : t = 0 → t * U = 0 := fun h => by rw [h, Nat.zero_mul]
  have eD : D * U = 2 * (q * (W * U)) + b * (W * U) + t * U := by
    rw [hD]; grind
  rw [Nat.add_mul, Nat.one_mul] at h2 hT1
  have e1 : ∀ n, (2 * n + 1) * (U * (2 * W)) = 4 * (n * (W * U)) + 2 * (W * U) := by intro n; grind
  have e2 : ∀ n, 2 * n * (U * (2 * W)) = 4 * (n * (W * U)) := by intro n; grind
  have e3 : U * (2 * W) = 2 * (W * U) := by grind
  have e4 : (q + 1) * (W * U) = q * (W * U) + W * U := by rw [Nat.add_mul, Nat.one_mul]
  unfold Rhe
  rw [e1, e2, e3]
  have hb' : b = 0 ∨ b = 1 := by omega
  have hz0 : 0 * (W * U) = 0 := Nat.zero_mul _
  have hz1 : 1 * (W * U) = W * U := Nat.one_mul _
  by_cases hc : b = 1 ∧ (t ≠ 0 ∨ more = true ∨ q % 2 = 1)
  · rw [if_pos hc] at hn
    subst hn
    rw [e4]
    obtain ⟨rfl, hc⟩ := hc
    rw [hz1] at eD
    generalize q * (W * U) = G at *
    generalize W * U = Z at *
    generalize t * U = T at *
    refine ⟨by omega, by omega, fun h => by omega, fun h => ?_⟩
    have ht0 : t = 0 := by
      rcases Nat.eq_zero_or_pos t with h5 | h5
      · exact h5
      · have := hT0 (by omega); omega
    have hm : more = false := by
      cases more
      · rfl
      · have := h4 rfl
        have := hTz ht0
        omega
    rcases hc with hc | hc | hc
    · exact absurd ht0 hc
    · rw [hm] at hc; exact absurd hc (by simp)
    · omega
  · rw [if_neg hc, Nat.add_zero] at hn
    subst hn
    rcases hb' with rfl | rfl
    · rw [hz0] at eD
      generalize n' * (W * U) = G at *
      generalize W * U = Z at *
      generalize t * U = T at *
      refine ⟨by omega, by omega, fun h => by omega, fun h => by omega⟩
    · have hc' : t = 0 ∧ more = false ∧ n' % 2 = 0 := by
        refine ⟨?_, ?_, ?_⟩
        · exact Decidable.byContradiction fun h => hc ⟨rfl, Or.inl h⟩
        · cases more
          · rfl
          · exact absurd ⟨rfl, Or.inr (Or.inl rfl)⟩ hc
        · rcases Nat.mod_two_eq_zero_or_one n' with h | h
          · exact h
          · exact absurd ⟨rfl, Or.inr (Or.inr h)⟩ hc
      have hx := h3 hc'.2.1
      have htz := hTz hc'.1
      rw [hz1] at eD
      generalize n' * (W * U) = G at *
      generalize W * U = Z at *
      generalize t * U = T at *
      refine ⟨by omega, by omega, fun h => hc'.2.2, fun h => hc'.2.2⟩
def lsbI (D : Nat) (E : Int) : Int := max ((bl D : Int) - 53 + E) (-1074)
def upB (D n : Nat) (more : Bool) : Nat := if D / 2 ^ (n - 1) % 2 = 1 ∧ (D % 2 ^ (n - 1) ≠ 0 ∨ more = true ∨ D / 2 ^ n % 2 = 1) then 1 else 0
def rr (D : Nat) (E : Int) (more : Bool) : Nat :=
  if lsbI D E ≤ E then (lsbI D E + 1074).toNat * 4503599627370496 + D * 2 ^ (E - lsbI D E).toNat
  else (lsbI D E + 1074).toNat * 4503599627370496 + (D / 2 ^ (lsbI D E - E).toNat + upB D (lsbI D E - E).toNat more)
theorem p52 : (2 : Nat) ^ 52 = 4503599627370496 := by decide
theorem p53 : (2 : Nat) ^ 53 = 9007199254740992 := by decide
theorem rr_near (D : Nat) (hD : D ≠ 0) (E : Int) (more : Bool) (N M p s : Nat) (hM : 0 < M) (hps : (p : Int) - s = E + 1074)
    (h1 : D * 2 ^ p * M ≤ N * 2 ^ s) (h2 : N * 2 ^ s < (D + 1) * 2 ^ p * M) (h3 : more = false → N * 2 ^ s = D * 2 ^ p * M) (h4 : more = true → N * 2 ^ s ≠ D * 2 ^ p * M)
    (hmore : more = true → E < lsbI D E) : Near N M (rr D E more) := by
  have hs0 : 0 < 2 ^ s := Nat.pow_pos (by decide)
  have b1 := lt_two_bl D
  have b2 := two_bl_le hD
  have hbl : 0 < bl D := by
    rcases Nat.eq_zero_or_pos (bl D) with h | h
    · rw [h] at b1; omega
    · exact h
  obtain ⟨l, hl⟩ : ∃ l : Nat, (l : Int) = lsbI D E + 1074 := ⟨(lsbI D E + 1074).toNat, by unfold lsbI; omega⟩
  have hl' : (lsbI D E + 1074).toNat = l := by omega
  unfold rr
  rw [hl']
  by_cases hle : lsbI D E ≤ E
  · rw [if_pos hle]
    obtain ⟨g, hg⟩ : ∃ g : Nat, (E - lsbI D E).toNat = g := ⟨_, rfl⟩
    rw [hg]
    have hmf : more = false := by
      cases more
      · rfl
      · have := hmore rfl; omega
    have hx := h3 hmf
    have hp : p = g + l + s := by omega
    have hN : N = D * 2 ^ g * (M * 2 ^ l) := by
      refine Nat.eq_of_mul_eq_mul_right hs0 ?_
      rw [hx, hp, Nat.pow_add, Nat.pow_add]
      simp only [Nat.mul_assoc, Nat.mul_comm, Nat.mul_left_comm]
    have hQ : 0 < M * 2 ^ l := Nat.mul_pos hM (Nat.pow_pos (by decide))
    have hgb : bl D + g ≤ 53 := by unfold lsbI at hg hle; omega
    have hn2 : D * 2 ^ g < 9007199254740992 := by
      have a1 : D * 2 ^ g < 2 ^ bl D * 2 ^ g := Nat.mul_lt_mul_of_pos_right b1 (Nat.pow_pos (by decide))
      have a2 : 2 ^ bl D * 2 ^ g ≤ 2 ^ 53 := by rw [← Nat.pow_add]; exact Nat.pow_le_pow_right (by decide) hgb
      rw [p53] at a2
      omega
    refine near_of_rhe hM ?_ ?_
    · have := rhe_one (M * 2 ^ l) (D * 2 ^ g) hQ
      rw [← hN] at this
      exact this
    · by_cases hl0 : l = 0
      · exact Or.inr ⟨hl0, by omega⟩
      · have hge : 53 = bl D + g := by unfold lsbI at hg hle hl; omega
        have hn1 : 4503599627370496 ≤ D * 2 ^ g := by
          have a1 : 2 ^ (bl D - 1) * 2 ^ g ≤ D * 2 ^ g := Nat.mul_le_mul_right _ b2
          rw [← Nat.pow_add, show bl D - 1 + g = 52 by omega, p52] at a1
          exact a1
        refine Or.inl ⟨hn1, by omega, fun _ => ?_⟩
        rw [hN]
        exact Nat.mul_le_mul_right _ hn1
  · rw [if_neg hle]
    obtain ⟨n, hg⟩ : ∃ n : Nat, (lsbI D E - E).toNat = n := ⟨_, rfl⟩
    rw [hg]
    have hn1 : 1 ≤ n := by omega
    have hp : p + n = l + s := by omega
    obtain ⟨W, hW⟩ : ∃ W, W = 2 ^ (n - 1) := ⟨_, rfl⟩
    have hW2 : 2 ^ n = 2 * W := by rw [hW, ← Nat.pow_succ', show (n - 1).succ = n by omega]
    have hWp : 0 < W := by rw [hW]; exact Nat.pow_pos (by decide)
    have hUp : 0 < 2 ^ p * M := Nat.mul_pos (Nat.pow_pos (by decide)) hM
    have hQ : 2 ^ p * M * (2 * W) = M * 2 ^ l * 2 ^ s := by
      rw [← hW2, Nat.mul_assoc M, ← Nat.pow_add, ← hp, Nat.pow_add, Nat.mul_comm (2 ^ p) M]
      exact Nat.mul_assoc _ _ _
    have hqd : D / 2 ^ n = D / W / 2 := by rw [hW2, Nat.mul_comm, Nat.div_div_eq_div_mul]
    have hDs : D = D / 2 ^ n * (2 * W) + D / W % 2 * W + D % W := by
      have e1 := Nat.div_add_mod D W
      have e2 : D / W = 2 * (D / 2 ^ n) + D / W % 2 := by rw [hqd]; omega
      have e3 : W * (D / W) = D / 2 ^ n * (2 * W) + D / W % 2 * W := by
        generalize D / 2 ^ n = x at *
        generalize D / W % 2 = y at *
        rw [e2]; grind
      omega
    have hR := rhe_core (N * 2 ^ s) (2 ^ p * M) W (D / 2 ^ n) (D / W % 2) (D % W) (D / 2 ^ n + upB D n more) D more hUp (Nat.mod_lt _ (by decide)) (Nat.mod_lt _ hWp) hDs
      (by rw [← Nat.mul_assoc]; exact h1) (by rw [← Nat.mul_assoc]; exact h2) (fun h => by rw [← Nat.mul_assoc]; exact h3 h) (fun h => by rw [← Nat.mul_assoc]; exact h4 h)
      (by unfold upB; rw [← hW])
    rw [hQ] at hR
    have hup : upB D n more ≤ 1 := by unfold upB; split <;> omega
    have hq2 : D / 2 ^ n < 9007199254740992 := by
      refine Nat.div_lt_of_lt_mul ?_
      have a1 : 2 ^ bl D ≤ 2 ^ n * 2 ^ 53 := by
        rw [← Nat.pow_add]
        exact Nat.pow_le_pow_right (by decide) (by unfold lsbI at hg hle; omega)
      rw [p53] at a1
      omega
    refine near_of_rhe hM (rhe_scale (2 ^ s) hs0 hR) ?_
    by_cases hl0 : l = 0
    · exact Or.inr ⟨hl0, by omega⟩
    · have hge : bl D = 53 + n := by unfold lsbI at hg hle hl; omega
      have hn3 : 4503599627370496 * 2 ^ n ≤ D := by
        rw [← p52, ← Nat.pow_add, show 52 + n = bl D - 1 by omega]
        exact b2
      have hq1 : 4503599627370496 ≤ D / 2 ^ n := (Nat.le_div_iff_mul_le (Nat.pow_pos (by decide))).2 hn3
      refine Or.inl ⟨by omega, by omega, fun _ => ?_⟩
      refine Nat.le_of_mul_le_mul_right ?_ hs0
      refine Nat.le_trans ?_ h1
      have e5 : 4503599627370496 * (M * 2 ^ l) * 2 ^ s = 4503599627370496 * 2 ^ n * (2 ^ p * M) := by
        rw [Nat.mul_assoc 4503599627370496, ← hQ, hW2]
        generalize 4503599627370496 = c
        simp only [Nat.mul_assoc, Nat.mul_comm, Nat.mul_left_comm]
      rw [e5, Nat.mul_assoc D]
      exact Nat.mul_le_mul_right _ hn3
end Go.Proofs.YtjpiplplohapnaaGreatDoor.Big
namespace Go.Proofs.YtjpiplplohapnaaGreatDoor.Big
open Go.RowKit Go.Proofs.YtjpiplplohapnaaGreatDoorW.PrintWords Go.Proofs.YtjpiplplohapnaaGreatDoorW.PrintLast Go.Proofs.YtjpiplplohapnaaGreatDoorW.PrintMore
open Go.Proofs.YtjpiplplohapnaaGreatDoor.PText
theorem tmod2 {y t : Nat} (h : y % 2 = t) : Int.tmod (y : Int) 2 = (t : Int) := by rw [Int.tmod_eq_emod_of_nonneg (by omega)]; omega
theorem half_step (a i : Nat) : a / 2 ^ i = 2 * (a / 2 ^ (i + 1)) + a / 2 ^ i % 2 := by
  rw [Nat.pow_succ, ← Nat.div_div_eq_div_mul]
  omega
theorem bit_dig (a i : Nat) : dig a (i / 32) / 2 ^ (i % 32) % 2 = a / 2 ^ i % 2 := by
  unfold dig
  have h1 : (2 : Nat) ^ i = B ^ (i / 32) * 2 ^ (i % 32) := by rw [B_eq, ← Nat.pow_add, Nat.div_add_mod]
  rw [h1, ← Nat.div_div_eq_div_mul]
  generalize a / B ^ (i / 32) = x
  have h2 : B = 2 ^ (i % 32) * (2 * 2 ^ (31 - i % 32)) := by
    rw [← Nat.pow_succ', ← Nat.pow_add, show i % 32 + (31 - i % 32 + 1) = 32 by omega]
  rw [h2, Nat.mod_mul, Nat.add_mul_div_left _ _ (Nat.pow_pos (by omega)), Nat.div_eq_of_lt (Nat.mod_lt _ (Nat.pow_pos (by omega))), Nat.zero_add, Nat.mod_mul_right_mod]
theorem bit_room (m i : Nat) : dig (m * 2 ^ (i + 1)) (i / 32) + 2 ^ (i % 32) < B := by
  unfold dig
  have h1 : (2 : Nat) ^ (i + 1) = B ^ (i / 32) * 2 ^ (i % 32 + 1) := by
    rw [B_eq, ← Nat.pow_add]; congr 1; omega
  have h2 : B = 2 ^ (31 - i % 32) * 2 ^ (i % 32 + 1) := by rw [← Nat.pow_add, show 31 - i % 32 + (i % 32 + 1) = 32 by omega]
  have h3 : m * 2 ^ (i + 1) / B ^ (i / 32) = m * 2 ^ (i % 32 + 1) := by
    rw [h1, ← Nat.mul_assoc, Nat.mul_comm m, Nat.mul_assoc, Nat.mul_div_cancel_left _ (Bpow_pos _)]
  rw [h3]
  have h4 : m * 2 ^ (i % 32 + 1) % B = m % 2 ^ (31 - i % 32) * 2 ^ (i % 32 + 1) := by rw [h2, Nat.mul_mod_mul_right]
  rw [h4]
  have h5 : m % 2 ^ (31 - i % 32) < 2 ^ (31 - i % 32) := Nat.mod_lt _ (Nat.pow_pos (by omega))
  have h6 : (m % 2 ^ (31 - i % 32) + 1) * 2 ^ (i % 32 + 1) ≤ 2 ^ (31 - i % 32) * 2 ^ (i % 32 + 1) := Nat.mul_le_mul_right _ h5
  rw [← h2, Nat.add_mul] at h6
  have h7 : 2 ^ (i % 32) < 1 * 2 ^ (i % 32 + 1) := by rw [Nat.pow_succ]; have := Nat.pow_pos (a := 2) (n := i % 32) (by omega); omega
  omega
theorem div_step (a b i : Nat) (hb : 0 < b) (x : Nat) (hx : x = a / 2 ^ (i + 1) % b * 2 + a / 2 ^ i % 2) :
    (b ≤ x → a / 2 ^ i / b = 2 * (a / 2 ^ (i + 1) / b) + 1 ∧ a / 2 ^ i % b = x - b) ∧ (x < b → a / 2 ^ i / b = 2 * (a / 2 ^ (i + 1) / b) ∧ a / 2 ^ i % b = x) ∧ x < 2 * b := by
  have h1 := half_step a i
  have h2 := Nat.div_add_mod (a / 2 ^ (i + 1)) b
  have h3 := Nat.mod_lt (a / 2 ^ (i + 1)) hb
  generalize a / 2 ^ (i + 1) / b = Q at *
  generalize a / 2 ^ (i + 1) % b = R at *
  have h4 : a / 2 ^ i = x + b * (2 * Q) := by
    have : b * (2 * Q) = 2 * (b * Q) := Nat.mul_left_comm _ _ _
    omega
  rw [h4]
  rw [Nat.add_mul_div_left _ _ hb, Nat.add_mul_mod_self_left]
  refine ⟨fun h => ?_, fun h => ?_, by omega⟩
  · have h5 : x = (x - b) + b * 1 := by omega
    have h6 : x - b < b := by omega
    refine ⟨?_, ?_⟩
    · rw [h5, Nat.add_mul_div_left _ _ hb, Nat.div_eq_of_lt h6]; omega
    · rw [h5, Nat.add_mul_mod_self_left, Nat.mod_eq_of_lt h6]; omega
  · rw [Nat.div_eq_of_lt h, Nat.mod_eq_of_lt h]; omega
theorem div_l0 (a b L : Nat) (hb : 0 < b) (hL : L = ln a) (ht : L ≤ 1000000) (htb : ln b ≤ 1000000) :
    ∀ (i : Nat), i ≤ 32 * L → Ev (fun k => tenorref1_DivDigits.l0 k (dg a) (dg b) (dg (a / 2 ^ i % b)) (dgL L (a / 2 ^ i / b * 2 ^ i)) ((i : Int) - 1)) (dg (a / b), dg (a % b)) := by
  have t9 : top = 1000000000 := rfl
  intro i
  induction i with
  | zero =>
    intro _
    have hlt : a / b < B ^ L := Nat.lt_of_le_of_lt (Nat.div_le_self _ _) (hL ▸ lt_pow_ln a)
    refine Ev.step (f := fun k => (tenorref1_trim.f k (dgL L (a / b))).bind fun t => some (t, dg (a % b))) (fun k => ?_) (Ev.bind (f := fun _ t => some (t, dg (a % b))) (trim_ev L _ (by omega) hlt) (Ev.now _))
    simp only [tenorref1_DivDigits.l0]
    rw [if_neg (by omega)]
    simp
  | succ i ih =>
    intro hi
    have hstep := div_step a b i hb _ rfl
    have hbit := bit_dig a i
    have hroom := bit_room (a / 2 ^ (i + 1) / b) i
    generalize hR : a / 2 ^ (i + 1) % b = R at *
    generalize hQ : a / 2 ^ (i + 1) / b = Q at *
    have hRb : R < b := hR ▸ Nat.mod_lt _ hb
    have hlR : ln R ≤ ln b := ln_mono (by omega)
    generalize ht2 : a / 2 ^ i % 2 = t at *
    have ht1 : t < 2 := by rw [← ht2]; omega
    have h2R : ln (R * 2 ^ 1) ≤ ln b + 1 := by
      refine ln_le ?_
      have h1 := lt_pow_ln b
      have h2 : R * 2 ^ 1 ≤ b * B := Nat.mul_le_mul (by omega) (by decide)
      have h3 : b * B < B ^ ln b * B := Nat.mul_lt_mul_of_pos_right h1 Bpos
      exact Nat.lt_of_le_of_lt h2 (by rw [Nat.pow_succ]; exact h3)
    have hx : ln (R * 2 + t) ≤ ln b + 1 := by
      refine ln_le ?_
      have h1 := lt_pow_ln b
      have h2 : R * 2 + t ≤ b * B := by
        have : b * 2 ≤ b * B := Nat.mul_le_mul_left _ (by decide)
        omega
      have h3 : b * B < B ^ ln b * B := Nat.mul_lt_mul_of_pos_right h1 Bpos
      rw [Nat.pow_succ]; omega
    have hj : Ev (fun k => tenorref1_DivDigits.j1 k (dg a) (dg b) (dg (R * 2 + t)) (dgL L (Q * 2 ^ (i + 1))) (i : Int)) (dg (a / b), dg (a % b)) := by
      have hcmp := cmp_ev (R * 2 + t) b (by omega) (by omega)
      rcases Nat.lt_or_ge (R * 2 + t) b with hlt | hge
      · obtain ⟨e1, e2⟩ := hstep.2.1 hlt
        have ih' := ih (by omega)
        rw [e1, e2] at ih'
        have e3 : 2 * Q * 2 ^ i = Q * 2 ^ (i + 1) := by rw [Nat.pow_succ', ← Nat.mul_assoc, Nat.mul_comm 2 Q]
        rw [e3] at ih'
        refine Ev.step (f := fun k => (tenorref1_CmpDigits.f k (dg (R * 2 + t)) (dg b)).bind fun t282 => if t282 ≥ 0 then _ else tenorref1_DivDigits.l0 k (dg a) (dg b) (dg (R * 2 + t)) (dgL L (Q * 2 ^ (i + 1))) (wrap64 ((i : Int) - 1))) (fun k => by simp only [tenorref1_DivDigits.j1]; rfl) (Ev.bind hcmp ?_)
        have e4 : cmp3 (R * 2 + t) b = -1 := by unfold cmp3; rw [if_pos hlt]
        rw [e4]
        refine Ev.congr (fun k => ?_) ih'
        rw [if_neg (by omega), w64 (by omega) (by omega)]
      · obtain ⟨e1, e2⟩ := hstep.1 hge
        have ih' := ih (by omega)
        rw [e1, e2] at ih'
        have hsub := sub_ev (R * 2 + t) b (by omega) hge
        have e3 : (2 * Q + 1) * 2 ^ i = Q * 2 ^ (i + 1) + 2 ^ (i % 32) * B ^ (i / 32) := by
          rw [Nat.add_mul, Nat.pow_succ', ← Nat.mul_assoc, Nat.mul_comm 2 Q, Nat.one_mul]
          congr 1
          rw [B_eq, ← Nat.pow_add]; congr 1; omega
        have e5 : setD (Q * 2 ^ (i + 1)) (i / 32) (dig (Q * 2 ^ (i + 1)) (i / 32) + 2 ^ (i % 32)) = (2 * Q + 1) * 2 ^ i := by rw [setD_add, e3]
        rw [← e5] at ih'
        refine Ev.step (f := fun k => (tenorref1_CmpDigits.f k (dg (R * 2 + t)) (dg b)).bind fun t282 => if t282 ≥ 0 then _ else tenorref1_DivDigits.l0 k (dg a) (dg b) (dg (R * 2 + t)) (dgL L (Q * 2 ^ (i + 1))) (wrap64 ((i : Int) - 1))) (fun k => by simp only [tenorref1_DivDigits.j1]; rfl) (Ev.bind hcmp ?_)
        have e4 : (0 : Int) ≤ cmp3 (R * 2 + t) b := by unfold cmp3; rw [if_neg (by omega)]; split <;> omega
        refine Ev.congr (f := fun k => (tenorref1_SubDigits.f k (dg (R * 2 + t)) (dg b)).bind fun t283 => tenorref1_DivDigits.l0 k (dg a) (dg b) t283 (dgL L (setD (Q * 2 ^ (i + 1)) (i / 32) (dig (Q * 2 ^ (i + 1)) (i / 32) + 2 ^ (i % 32)))) ((i : Int) - 1)) (fun k => ?_) (Ev.bind hsub ih')
        rw [if_pos e4]
        refine congrArg _ (funext fun t283 => ?_)
        have f1 : Int.tmod (i : Int) 32 = ((i % 32 : Nat) : Int) := by rw [Int.tmod_eq_emod_of_nonneg (by omega)]; omega
        have f2 : Int.tdiv (i : Int) 32 = ((i / 32 : Nat) : Int) := by rw [Int.tdiv_eq_ediv_of_nonneg (by omega)]; omega
        rw [f1, f2, w64 (x := ((i / 32 : Nat) : Int)) (by omega) (by omega), dgL_length, if_pos (by omega), if_pos (by omega), if_pos (by omega), rd_dgL _ _ _ (by omega), Int.toNat_natCast]
        have f3 := shl_ev 1 (i % 32) (by omega) (by omega)
        rw [Nat.one_mul] at f3
        rw [show ((1 : Nat) : Int) = 1 from rfl] at f3
        rw [f3, show ((dig (Q * 2 ^ (i + 1)) (i / 32) : Nat) : Int) + ((2 ^ (i % 32) : Nat) : Int) = ((dig (Q * 2 ^ (i + 1)) (i / 32) + 2 ^ (i % 32) : Nat) : Int) by omega, wun _ (Nat.lt_trans hroom (by decide)), set_dgL _ _ _ _ (by omega) hroom, w64 (by omega) (by omega)]
    have hup := up_ev R 1 (by omega) (by omega)
    have hadd := add_ev (R * 2 ^ 1) 1 (by have : ln 1 ≤ 1 := ln_small (by decide)
                                          omega)
    have f1 : Int.tmod (i : Int) 32 = ((i % 32 : Nat) : Int) := by rw [Int.tmod_eq_emod_of_nonneg (by omega)]; omega
    have f2 : Int.tdiv (i : Int) 32 = ((i / 32 : Nat) : Int) := by rw [Int.tdiv_eq_ediv_of_nonneg (by omega)]; omega
    have f3 : shr .u64 ((dig a (i / 32) : Nat) : Int) ((i % 32 : Nat) : Int) = ((dig a (i / 32) / 2 ^ (i % 32) : Nat) : Int) := by
      unfold shr
      rw [Nat.min_eq_left (by show (((i % 32 : Nat) : Int)).toNat ≤ 64; omega), Int.toNat_natCast, Int.natCast_ediv, Int.natCast_pow]
      rfl
    have f4 : Int.tmod ((dig a (i / 32) / 2 ^ (i % 32) : Nat) : Int) 2 = (t : Int) := tmod2 hbit
    refine Ev.step (f := fun k => (tenorref1_ShiftUp.f k (dg R) 1).bind fun t272 => if (t : Int) = 1 then ((tenorref1_AddDigits.f k t272 (([1] : List Int))).bind fun t279 => (tenorref1_DivDigits.j1 k (dg a) (dg b) t279 (dgL L (Q * 2 ^ (i + 1))) (i : Int))) else (tenorref1_DivDigits.j1 k (dg a) (dg b) t272 (dgL L (Q * 2 ^ (i + 1))) (i : Int))) (fun k => ?_) (Ev.bind hup ?_)
    · simp only [tenorref1_DivDigits.l0]
      rw [show ((i + 1 : Nat) : Int) - 1 = (i : Int) by omega, if_pos (by omega)]
      refine congrArg _ (funext fun t272 => ?_)
      rw [f1, f2, w64 (x := ((i / 32 : Nat) : Int)) (by omega) (by omega), dg_length, if_pos (by omega), if_pos (by omega), if_pos (by omega), rd_dg _ _ (by omega), f3, f4]
    · have ht01 : t = 0 ∨ t = 1 := by omega
      rcases ht01 with h | h
      · rw [h] at hj
        refine Ev.congr (fun k => ?_) hj
        rw [if_neg (by omega), Nat.pow_one]
        rfl
      · rw [h] at hj
        have e1 : dg 1 = [1] := dg_of_lt (by omega) (by decide)
        rw [e1, Nat.pow_one] at hadd
        refine Ev.congr (f := fun k => (tenorref1_AddDigits.f k (dg (R * 2)) [1]).bind fun t279 => tenorref1_DivDigits.j1 k (dg a) (dg b) t279 (dgL L (Q * 2 ^ (i + 1))) (i : Int)) (fun k => ?_) (Ev.bind hadd hj)
        rw [if_pos (by omega), Nat.pow_one]
theorem divd_ev (a b : Nat) (hb : 0 < b) (ht : ln a ≤ 1000000) (htb : ln b ≤ 1000000) : Ev (fun k => tenorref1_DivDigits.f k (dg a) (dg b)) (dg (a / b), dg (a % b)) := by
  have t9 : top = 1000000000 := rfl
  have hlen := len_ev a (by omega)
  have hbl : bl a ≤ 32 * ln a := bl_le (by rw [← B_eq]; exact lt_pow_ln a)
  have h0 := div_l0 a b (ln a) hb rfl ht htb (bl a) hbl
  rw [Nat.div_eq_of_lt (lt_two_bl a), Nat.zero_mod, Nat.zero_div, Nat.zero_mul] at h0
  have hd0 : dg 0 = [] := by simp [dg, ln_zero, dgL]
  rw [hd0] at h0
  refine Ev.congr (f := fun k => (tenorref1_Len.f k (dg a)).bind fun t268 => tenorref1_DivDigits.l0 k (dg a) (dg b) [] (dgL (ln a) 0) (wrap64 (t268 - 1))) (fun k => ?_) (Ev.bind hlen ?_)
  · unfold tenorref1_DivDigits.f
    rw [dg_length, if_pos (by omega), Int.toNat_natCast, if_pos (by omega), dgL_zero]
  · refine Ev.congr (fun k => ?_) h0
    rw [w64 (by omega) (by omega)]
end Go.Proofs.YtjpiplplohapnaaGreatDoor.Big
namespace Go.Proofs.YtjpiplplohapnaaGreatDoor.Big
open Go.RowKit Go.Proofs.YtjpiplplohapnaaGreatDoorW.PrintWords Go.Proofs.YtjpiplplohapnaaGreatDoorW.PrintLast Go.Proofs.YtjpiplplohapnaaGreatDoorW.PrintMore
open Go.Proofs.YtjpiplplohapnaaGreatDoor.PText
theorem dec_step (x : Nat) (h : x ≠ 0) (acc : List UInt8) : (if x = 0 then acc else Lib.decDigits x ++ acc) = (if x / 10 = 0 then UInt8.ofNat (48 + x % 10) :: acc else Lib.decDigits (x / 10) ++ UInt8.ofNat (48 + x % 10) :: acc) := by
  rw [if_neg h]
  by_cases h1 : x < 10
  · rw [if_pos (by omega), Lib.decDigits, dif_pos h1, show x % 10 = x by omega]; rfl
  · rw [if_neg (by omega), Lib.decDigits, dif_neg h1]; simp
theorem digit_text (y : Nat) (h : y < 10) (acc : List UInt8) : (strOfNums [(48 + (y : Int) % 256) % 256] ++ (⟨acc.toArray⟩ : ByteArray)) = ⟨(UInt8.ofNat (48 + y) :: acc).toArray⟩ := by
  have e : ((48 + (y : Int) % 256) % 256).toNat = 48 + y := by omega
  unfold strOfNums
  rw [List.map_cons, List.map_nil, e]
  apply ByteArray.ext
  simp
theorem decimal_l0 : ∀ (x : Nat), ln x ≤ 1000000 → ∀ (acc : List UInt8), (if x = 0 then acc else Lib.decDigits x ++ acc).length ≤ 1000000000 →
    Ev (fun k => tenorref2_Decimal.l0 k (dg x) ⟨acc.toArray⟩) (if x = 0 ∧ acc = [] then ⟨#[48]⟩ else ⟨(if x = 0 then acc else Lib.decDigits x ++ acc).toArray⟩) := by
  intro x
  induction x using Nat.strongRecOn with
  | _ x ih =>
    intro hx acc hacc
    by_cases h0 : x = 0
    · subst h0
      refine Ev.step (f := fun _ => if acc = [] then some ⟨#[48]⟩ else some ⟨acc.toArray⟩) (fun k => ?_) ?_
      · rw [tenorref2_Decimal.l0, dg_length, ln_zero, if_neg (by omega)]
        have : ((⟨acc.toArray⟩ : ByteArray).toList = []) = (acc = []) := by rw [ByteArray.toList_eq]
        simp only [this]
      · by_cases h1 : acc = []
        · simp only [h1, if_true, and_self]; exact Ev.now _
        · simp only [h1, if_false, and_false, if_true]; exact Ev.now _
    · have hl0 : ln x ≠ 0 := by
        intro h
        have := lt_pow_ln x
        rw [h] at this
        simp at this; omega
      have e10 : dg 10 = [10] := dg_of_lt (by omega) (by decide)
      have hdiv := divd_ev x 10 (by omega) hx (Nat.le_trans (ln_small (by decide)) (by omega))
      rw [e10] at hdiv
      have hst := dec_step x h0 acc
      have hln : ln (x / 10) ≤ 1000000 := Nat.le_trans (ln_mono (Nat.div_le_self _ _)) hx
      have ih' := ih (x / 10) (by omega) hln (UInt8.ofNat (48 + x % 10) :: acc) (by rw [← hst]; exact hacc)
      rw [if_neg (by simp)] at ih'
      rw [if_neg (by simp [h0]), hst]
      have hal : acc.length ≤ 1000000000 := by
        rw [if_neg h0, List.length_append] at hacc
        omega
      have hdt := digit_text _ (Nat.mod_lt x (by omega : 10 > 0)) acc
      refine Ev.step (f := fun k => (tenorref1_DivDigits.f k (dg x) [10]).bind fun bt415 => _) (fun k => by rw [tenorref2_Decimal.l0, dg_length, if_pos (by omega)]) (Ev.bind hdiv ?_)
      refine Ev.congr (fun k => ?_) ih'
      have hsz : ∀ z : Int, (strOfNums [z]).size + (⟨acc.toArray⟩ : ByteArray).size ≤ 9223372036854775807 := by
        intro z
        show 1 + acc.toArray.size ≤ _
        rw [List.size_toArray]; omega
      simp only [Option.bind_some]
      rw [dg_length]
      by_cases hr : x % 10 = 0
      · rw [hr] at hdt ⊢
        rw [ln_zero, if_neg (by omega), if_pos (hsz _), ← hdt]
        rfl
      · have hl1 : ln (x % 10) ≠ 0 := by
          intro h
          have := lt_pow_ln (x % 10)
          rw [h] at this
          simp at this; omega
        have hrd : rd (dg (x % 10)) 0 = ((x % 10 : Nat) : Int) := by
          have := rd_dg (x % 10) 0 (by omega)
          have hm : x % 10 % B = x % 10 := Nat.mod_eq_of_lt (Nat.lt_trans (Nat.mod_lt x (by omega)) (by decide))
          rw [dig_zero, hm] at this
          exact this
        rw [if_pos (by omega), if_pos (by omega), hrd, if_pos (hsz _), hdt]
theorem decimal_ev (x : Nat) (hx : ln x ≤ 1000000) (hd : (Lib.decDigits x).length ≤ 1000000000) : Ev (fun k => tenorref2_Decimal.f k (dg x)) ⟨(Lib.decDigits x).toArray⟩ := by
  have h := decimal_l0 x hx [] (by split <;> simp_all)
  show Ev (fun k => tenorref2_Decimal.l0 k (dg x) ⟨#[]⟩) _
  by_cases h0 : x = 0
  · subst h0
    have e : (⟨(Lib.decDigits 0).toArray⟩ : ByteArray) = ⟨#[48]⟩ := by rw [Lib.decDigits, dif_pos (by omega)]; rfl
    rw [e]
    simpa using h
  · rw [if_neg (by simp [h0]), if_neg h0, List.append_nil] at h
    exact h
theorem dec_short : ∀ (n x : Nat), x < 10 ^ (n + 1) → (Lib.decDigits x).length ≤ n + 1
  | 0, x, h => by rw [Lib.decDigits, dif_pos (by omega)]; simp
  | n + 1, x, h => by
    rcases Nat.lt_or_ge x 10 with h1 | h1
    · rw [Lib.decDigits, dif_pos h1]; simp
    · rw [Lib.decDigits, dif_neg (by omega), List.length_append]
      have := dec_short n (x / 10) (by rw [Nat.div_lt_iff_lt_mul (by omega)]; rw [Nat.pow_succ] at h; exact h)
      simp; omega
theorem dec_short4 (m : Nat) (h : m < 10000) : (Lib.decDigits m).length ≤ 4 :=
  dec_short 3 m (Nat.lt_of_lt_of_le h (by decide))
theorem whole_ev (n : Int) (h1 : -10000 < n) (h2 : n < 10000) : Ev (fun k => tenorref2_Whole.f k n) ⟨(Lib.itoa n).toArray⟩ := by
  have hdec : ∀ m : Nat, m < 10000 → Ev (fun k => tenorref2_Decimal.f k (dg m)) ⟨(Lib.decDigits m).toArray⟩ := fun m hm =>
    decimal_ev m (Nat.le_trans (ln_small (Nat.lt_trans hm (by decide))) (by omega)) (Nat.le_trans (dec_short4 m hm) (by omega))
  by_cases h : n < 0
  · have hdg := digits_ev n.natAbs (by omega)
    have hd := hdec n.natAbs (by omega)
    have hl := dec_short4 n.natAbs (by omega)
    have hw : Ev (fun k => tenorref1_Whole.f k n) (true, dg n.natAbs, 0) := by
      refine Ev.congr (f := fun k => (tenorref1_Digits.f k (n.natAbs : Int)).bind fun t => some (true, t, 0)) (fun k => ?_) (Ev.bind (f := fun _ t => some (true, t, (0 : Int))) hdg (Ev.now _))
      unfold tenorref1_Whole.f
      rw [if_pos h, w64 (x := n + 1) (by omega) (by omega), w64 (x := -(n + 1)) (by omega) (by omega), wu (x := -(n + 1)) (by omega) (by omega), wu (by omega) (by omega), show -(n + 1) + 1 = (n.natAbs : Int) by omega]
    refine Ev.congr (fun k => by unfold tenorref2_Whole.f; rfl) (Ev.bind hw ?_)
    refine Ev.congr (f := fun k => (tenorref2_Decimal.f k (dg n.natAbs)).bind fun t421 => (if 1 + t421.size ≤ 9223372036854775807 then (some ((⟨#[45]⟩ : ByteArray) ++ t421)) else none)) (fun k => by rw [if_pos rfl]) (Ev.bind hd ?_)
    refine Ev.congr (f := fun _ => some ⟨(Lib.itoa n).toArray⟩) (fun k => ?_) (Ev.now _)
    rw [if_pos (by show 1 + (Lib.decDigits n.natAbs).toArray.size ≤ _; rw [List.size_toArray]; omega)]
    unfold Lib.itoa
    rw [if_pos h]
    congr 1
  · have hdg := digits_ev n.toNat (by omega)
    have hd := hdec n.toNat (by omega)
    have hw : Ev (fun k => tenorref1_Whole.f k n) (false, dg n.toNat, 0) := by
      refine Ev.congr (f := fun k => (tenorref1_Digits.f k (n.toNat : Int)).bind fun t => some (false, t, 0)) (fun k => ?_) (Ev.bind (f := fun _ t => some (false, t, (0 : Int))) hdg (Ev.now _))
      unfold tenorref1_Whole.f
      rw [if_neg h, wu (by omega) (by omega), show (n.toNat : Int) = n by omega]
    refine Ev.congr (fun k => by unfold tenorref2_Whole.f; rfl) (Ev.bind hw ?_)
    refine Ev.congr (f := fun k => (tenorref2_Decimal.f k (dg n.toNat)).bind fun t422 => some t422) (fun k => by rw [if_neg (by simp)]) (Ev.bind (f := fun _ t => some t) hd ?_)
    have e : Lib.itoa n = Lib.decDigits n.toNat := by unfold Lib.itoa; rw [if_neg h]
    rw [e]
    exact Ev.now _
end Go.Proofs.YtjpiplplohapnaaGreatDoor.Big
namespace Go.Proofs.YtjpiplplohapnaaGreatDoor.Big
open Go.RowKit Go.Proofs.YtjpiplplohapnaaGreatDoorW.PrintWords Go.Proofs.YtjpiplplohapnaaGreatDoorW.PrintLast Go.Proofs.YtjpiplplohapnaaGreatDoorW.PrintMore
open Go.Proofs.YtjpiplplohapnaaGreatDoor.PText
theorem and2047 (x : Nat) (h : x < 18446744073709551616) : Go.bits .and .u64 (x : Int) 2047 = ((x % 2048 : Nat) : Int) := by
  have := Go.u64_and_nat x 2047 h (by omega)
  rw [show ((2047 : Nat) : Int) = 2047 from rfl] at this
  rw [this]
  exact congrArg _ (Nat.and_two_pow_sub_one_eq_mod x 11)
theorem of_ev (u : Nat) (h0 : 0 < u) (h1 : u < 9218868437227405312) : Ev (fun k => tenorref1_Of.f k (u : Int)) (false, dg (spM u), spE u) := by
  have ha := (norm_facts u h1).1
  have hb : Go.bits .and .u64 ((u : Int) / 4503599627370496) 2047 = ((u / 4503599627370496 : Nat) : Int) := by
    rw [show (u : Int) / 4503599627370496 = ((u / 4503599627370496 : Nat) : Int) by omega, and2047 _ (by omega)]
    omega
  have hs := spM_range u h0
  have hd := digits_ev (spM u) (by omega)
  by_cases h2 : u < 4503599627370496
  · have e1 : spM u = u := by unfold spM; rw [if_pos h2]
    have e2 : spE u = -1074 := by unfold spE; rw [if_neg (by omega), if_pos h2]
    rw [e1] at hd
    rw [e1, e2]
    refine Ev.congr (f := fun k => (tenorref1_Digits.f k (u : Int)).bind fun t => some (false, t, (-1074 : Int))) (fun k => ?_) (Ev.bind (f := fun _ t => some (false, t, (-1074 : Int))) hd (Ev.now _))
    unfold tenorref1_Of.f
    rw [hb, ha, w64 (by omega) (by omega), if_neg (by omega), if_neg (by omega), show ((u % 4503599627370496 : Nat) : Int) = (u : Int) by omega, decide_eq_false (by omega)]
  · have e1 : spM u = u % 4503599627370496 + 4503599627370496 := by unfold spM; rw [if_neg h2]
    have e2 : spE u = ((u / 4503599627370496 : Nat) : Int) - 1075 := by unfold spE; rw [if_neg (by omega), if_neg h2]
    refine Ev.congr (f := fun k => (tenorref1_Digits.f k (spM u : Int)).bind fun t => some (false, t, spE u)) (fun k => ?_) (Ev.bind (f := fun _ t => some (false, t, spE u)) hd (Ev.now _))
    unfold tenorref1_Of.f
    rw [hb, ha, w64 (x := ((u / 4503599627370496 : Nat) : Int)) (by omega) (by omega), if_pos (by omega), wu (by omega) (by omega), show ((u % 4503599627370496 : Nat) : Int) + 4503599627370496 = (spM u : Int) by omega, if_neg (by omega), w64 (by omega) (by omega), ← e2, decide_eq_false (by omega)]
theorem two_digs (m : Nat) (h : m < 18446744073709551616) : dig m 0 + dig m 1 * 4294967296 = m := by
  unfold dig
  rw [Nat.pow_zero, Nat.pow_one, Nat.div_one]
  show m % 4294967296 + m / 4294967296 % 4294967296 * 4294967296 = m
  omega
theorem split_ev (u : Nat) (h0 : 0 < u) (h1 : u < 9218868437227405312) : Ev (fun k => tenorref1_Split.f k (u : Int)) ((spM u : Int), spE u, true) := by
  have hs := spM_range u h0
  have hz : Go.bits .andNot .u64 (u : Int) 9223372036854775808 = (u : Int) := by
    rw [sz_bits u (by omega)]; unfold sz; omega
  have htd := two_digs (spM u) (by omega)
  have d0 := dig_lt (spM u) 0
  have d1 := dig_lt (spM u) 1
  have hB : B = 4294967296 := rfl
  have hj : Ev (fun k => tenorref1_Split.j0 k (u : Int) false) ((spM u : Int), spE u, true) := by
    refine Ev.step (f := fun k => (tenorref1_Of.f k (u : Int)).bind fun bt328 => _) (fun k => by rw [tenorref1_Split.j0, if_neg (by simp)]) (Ev.bind (of_ev u h0 h1) ?_)
    refine Ev.congr (f := fun _ => some ((spM u : Int), spE u, true)) (fun k => ?_) (Ev.now _)
    show ((tenorref1_digit.f (dg (spM u)) 0).bind _) = _
    rw [show (0 : Int) = ((0 : Nat) : Int) from rfl, digit_dg, Option.bind_some, show (1 : Int) = ((1 : Nat) : Int) from rfl, digit_dg, Option.bind_some, if_neg (by simp)]
    rw [wu (x := ((dig (spM u) 1 : Nat) : Int) * 4294967296) (by omega) (by omega), wu (by omega) (by omega), w64 (by omega) (by omega)]
    rw [show ((dig (spM u) 0 : Nat) : Int) + ((dig (spM u) 1 : Nat) : Int) * 4294967296 = (spM u : Int) by omega]
  refine Ev.congr (fun k => ?_) hj
  unfold tenorref1_Split.f tenorref1_Number.f tenorref1_Size.f
  rw [hz, Option.bind_some, decide_eq_true (by omega), if_pos rfl, Option.bind_some]
  congr 1
  simp; omega
def tailT (e : Int) : List UInt8 := (if 0 ≤ e then [112, 43] else [112]) ++ Lib.itoa e
theorem l1_end (acc : List UInt8) (e : Int) (h1 : -10000 < e) (h2 : e < 10000) (ha : acc.length ≤ 1000) :
    Ev (fun k => tenorref2_Hex.l1 k ⟨acc.toArray⟩ 0 e) (⟨(acc ++ tailT e).toArray⟩, 0) := by
  have hw := whole_ev e h1 h2
  have hil : (Lib.itoa e).length ≤ 5 := itoa_len e h1 h2
  by_cases h : e < 0
  · refine Ev.step (f := fun k => (tenorref2_Whole.f k e).bind fun t429 => (if ((⟨acc.toArray⟩ : ByteArray) ++ (⟨#[112]⟩ : ByteArray)).size + t429.size ≤ 9223372036854775807 then (some (((⟨acc.toArray⟩ : ByteArray) ++ (⟨#[112]⟩ : ByteArray)) ++ t429, (0 : Int))) else none)) (fun k => ?_) (Ev.bind hw ?_)
    · rw [tenorref2_Hex.l1, if_neg (by omega), if_pos h, if_pos (by show acc.toArray.size + 1 ≤ _; rw [List.size_toArray]; omega)]
    · refine Ev.congr (f := fun _ => some (⟨(acc ++ tailT e).toArray⟩, 0)) (fun k => ?_) (Ev.now _)
      rw [if_pos (by rw [ByteArray.size_append]; show acc.toArray.size + 1 + (Lib.itoa e).toArray.size ≤ _; rw [List.size_toArray, List.size_toArray]; omega)]
      unfold tailT
      rw [if_neg (by omega)]
      congr 2
      apply ByteArray.ext
      simp
  · refine Ev.step (f := fun k => (tenorref2_Whole.f k e).bind fun t430 => (if ((⟨acc.toArray⟩ : ByteArray) ++ (⟨#[112, 43]⟩ : ByteArray)).size + t430.size ≤ 9223372036854775807 then (some (((⟨acc.toArray⟩ : ByteArray) ++ (⟨#[112, 43]⟩ : ByteArray)) ++ t430, (0 : Int))) else none)) (fun k => ?_) (Ev.bind hw ?_)
    · rw [tenorref2_Hex.l1, if_neg (by omega), if_neg h, if_pos (by show acc.toArray.size + 2 ≤ _; rw [List.size_toArray]; omega)]
    · refine Ev.congr (f := fun _ => some (⟨(acc ++ tailT e).toArray⟩, 0)) (fun k => ?_) (Ev.now _)
      rw [if_pos (by rw [ByteArray.size_append]; show acc.toArray.size + 2 + (Lib.itoa e).toArray.size ≤ _; rw [List.size_toArray, List.size_toArray]; omega)]
      unfold tailT
      rw [if_pos (by omega)]
      congr 2
      apply ByteArray.ext
      simp
theorem l1_ev (e : Int) (h1 : -10000 < e) (h2 : e < 10000) : ∀ (n m : Nat) (acc : List UInt8), n ≤ 13 → m < 16 ^ n → acc.length + n ≤ 1000 →
    Ev (fun k => tenorref2_Hex.l1 k ⟨acc.toArray⟩ ((m * 16 ^ (13 - n) : Nat) : Int) e) (⟨(acc ++ nib n m ++ tailT e).toArray⟩, 0)
  | 0, m, acc, hn, hm, ha => by
    have : m = 0 := by simpa using hm
    subst this
    have := l1_end acc e h1 h2 (by omega)
    simpa [nib] using this
  | n + 1, m, acc, hn, hm, ha => by
    by_cases h0 : m = 0
    · subst h0
      have := l1_end acc e h1 h2 (by omega)
      simpa [nib] using this
    · obtain ⟨p, hp⟩ : ∃ p, p = 16 ^ (12 - n) := ⟨_, rfl⟩
      have hpp : 0 < p := by rw [hp]; exact Nat.pow_pos (by omega)
      have h12 : 16 ^ n * p = 281474976710656 := by
        rw [hp, ← Nat.pow_add, show n + (12 - n) = 12 by omega]
      have e1 : 13 - (n + 1) = 12 - n := by omega
      have e2 : 16 ^ (13 - n) = p * 16 := by rw [hp, ← Nat.pow_succ, show 13 - n = 12 - n + 1 by omega]
      have hd : m / 16 ^ n < 16 := Nat.div_lt_of_lt_mul (by rw [Nat.pow_succ] at hm; exact hm)
      have hr : m % 16 ^ n < 16 ^ n := Nat.mod_lt _ (Nat.pow_pos (by omega))
      have ih := l1_ev e h1 h2 n (m % 16 ^ n) (acc ++ [hx (m / 16 ^ n)]) (by omega) hr (by simp; omega)
      rw [e2, ← Nat.mul_assoc] at ih
      have hdiv : m * p / 281474976710656 = m / 16 ^ n := by rw [← h12, Nat.mul_div_mul_right _ _ hpp]
      have hsub : m * p = m / 16 ^ n * 281474976710656 + m % 16 ^ n * p := by
        rw [← h12, ← Nat.mul_assoc, ← Nat.add_mul, Nat.mul_comm _ (16 ^ n), Nat.div_add_mod]
      have hrp : m % 16 ^ n * p < 281474976710656 := by rw [← h12]; exact Nat.mul_lt_mul_of_pos_right hr hpp
      have hmp : 0 < m * p := Nat.mul_pos (by omega) hpp
      rw [e1, ← hp]
      have hd2 : m / 16 ^ n < 16 := hd
      have hext : ((⟨#[48, 49, 50, 51, 52, 53, 54, 55, 56, 57, 97, 98, 99, 100, 101, 102]⟩ : ByteArray).extract (((m / 16 ^ n : Nat) : Int)).toNat (((m / 16 ^ n : Nat) : Int) + 1).toNat) = ⟨#[hx (m / 16 ^ n)]⟩ := by
        have key : ∀ d : Fin 16, ((⟨#[48, 49, 50, 51, 52, 53, 54, 55, 56, 57, 97, 98, 99, 100, 101, 102]⟩ : ByteArray).extract d.val (d.val + 1)) = ⟨#[hx d.val]⟩ := by decide
        have := key ⟨m / 16 ^ n, hd⟩
        rw [show (((m / 16 ^ n : Nat) : Int) + 1).toNat = m / 16 ^ n + 1 by omega, Int.toNat_natCast]
        exact this
      have hx48 : ((m * p : Nat) : Int) / 281474976710656 = ((m / 16 ^ n : Nat) : Int) := by
        rw [← hdiv]; rfl
      have hnx : wrap64 ((wrap64 (((m * p : Nat) : Int) - (wrap64 (((m / 16 ^ n : Nat) : Int) * 281474976710656)))) * 16) = ((m % 16 ^ n * p * 16 : Nat) : Int) := by
        rw [w64 (x := ((m / 16 ^ n : Nat) : Int) * 281474976710656) (by omega) (by omega), w64 (x := ((m * p : Nat) : Int) - ((m / 16 ^ n : Nat) : Int) * 281474976710656) (by omega) (by omega), w64 (by omega) (by omega)]
        omega
      have hacc : (⟨acc.toArray⟩ : ByteArray) ++ (⟨#[hx (m / 16 ^ n)]⟩ : ByteArray) = ⟨(acc ++ [hx (m / 16 ^ n)]).toArray⟩ := by
        apply ByteArray.ext; simp
      have hnib : acc ++ nib (n + 1) m = acc ++ [hx (m / 16 ^ n)] ++ nib n (m % 16 ^ n) := by
        rw [nib, if_neg h0]; simp
      rw [hnib]
      refine Ev.step (fun k => ?_) ih
      rw [tenorref2_Hex.l1, if_pos (by omega), hx48, if_pos (by omega), w64 (x := ((m / 16 ^ n : Nat) : Int) + 1) (by omega) (by omega), if_pos (by omega), if_pos (by omega), hext, hnx, hacc]
      rw [if_pos (by show acc.toArray.size + 1 ≤ _; rw [List.size_toArray]; omega)]
theorem l0_ev (M : Nat) (E : Int) (hM1 : 4503599627370496 ≤ M) (hM2 : M < 9007199254740992) (hE1 : -9000 < E) (hE2 : E < 9000) (sg : List UInt8) (hs : sg.length ≤ 1) : ∀ (j m : Nat) (e : Int), j ≤ 60 → 1 ≤ m → M = m * 2 ^ j → E + j = e →
    Ev (fun k => tenorref2_Hex.l0 k ⟨sg.toArray⟩ (m : Int) e) (⟨(sg ++ [48, 120, 49] ++ (if M = 4503599627370496 then [] else 46 :: frac (M - 4503599627370496)) ++ (if 0 ≤ E + 52 then [112, 43] else [112]) ++ Lib.itoa (E + 52)).toArray⟩, 0)
  | 0, m, e, hj, h1, h2, h3 => by
    have hm : m = M := by simpa using h2.symm
    subst hm
    have he : e = E := by omega
    subst he
    have hw1 : wrap64 ((m : Int) - 4503599627370496) = ((m - 4503599627370496 : Nat) : Int) := by rw [w64 (by omega) (by omega)]; omega
    have hw2 : wrap64 (e + 52) = e + 52 := w64 (by omega) (by omega)
    have hsz : (⟨sg.toArray⟩ : ByteArray).size + 3 ≤ 9223372036854775807 := by show sg.toArray.size + 3 ≤ _; rw [List.size_toArray]; omega
    have hacc : (⟨sg.toArray⟩ : ByteArray) ++ (⟨#[48, 120, 49]⟩ : ByteArray) = ⟨(sg ++ [48, 120, 49]).toArray⟩ := by
      apply ByteArray.ext; simp
    have hacc2 : (⟨(sg ++ [48, 120, 49]).toArray⟩ : ByteArray) ++ (⟨#[46]⟩ : ByteArray) = ⟨(sg ++ [48, 120, 49] ++ [46]).toArray⟩ := by
      apply ByteArray.ext; simp
    by_cases h0 : m = 4503599627370496
    · have hl := l1_ev (e + 52) (by omega) (by omega) 13 0 (sg ++ [48, 120, 49]) (by omega) (by decide) (by simp; omega)
      have hz : ((m - 4503599627370496 : Nat) : Int) = ((0 * 16 ^ (13 - 13) : Nat) : Int) := by rw [h0]
      refine Ev.step (f := fun k => tenorref2_Hex.j2 k (⟨(sg ++ [48, 120, 49]).toArray⟩) ((m - 4503599627370496 : Nat) : Int) (e + 52)) (fun k => ?_) (Ev.step (f := fun k => tenorref2_Hex.l1 k (⟨(sg ++ [48, 120, 49]).toArray⟩) ((m - 4503599627370496 : Nat) : Int) (e + 52)) (fun k => ?_) ?_)
      · rw [tenorref2_Hex.l0, if_neg (by omega), if_pos hsz, hw1, hw2, if_neg (by omega), hacc]
      · rw [tenorref2_Hex.j2]
      · rw [hz, if_pos h0, List.append_nil, List.append_assoc]
        have hn : nib 13 0 = [] := rfl
        rw [hn, List.append_nil] at hl
        exact hl
    · have hq : m - 4503599627370496 < 16 ^ 13 := by
        have : (16 : Nat) ^ 13 = 4503599627370496 := by decide
        omega
      have hl := l1_ev (e + 52) (by omega) (by omega) 13 (m - 4503599627370496) (sg ++ [48, 120, 49] ++ [46]) (by omega) hq (by simp; omega)
      have hz : ((m - 4503599627370496 : Nat) : Int) = (((m - 4503599627370496) * 16 ^ (13 - 13) : Nat) : Int) := by rw [Nat.sub_self, Nat.pow_zero, Nat.mul_one]
      refine Ev.step (f := fun k => tenorref2_Hex.j2 k (⟨(sg ++ [48, 120, 49] ++ [46]).toArray⟩) ((m - 4503599627370496 : Nat) : Int) (e + 52)) (fun k => ?_) (Ev.step (f := fun k => tenorref2_Hex.l1 k (⟨(sg ++ [48, 120, 49] ++ [46]).toArray⟩) ((m - 4503599627370496 : Nat) : Int) (e + 52)) (fun k => ?_) ?_)
      · have hsz2 : (⟨(sg ++ [48, 120, 49]).toArray⟩ : ByteArray).size + 1 ≤ 9223372036854775807 := by show (sg ++ [48, 120, 49]).toArray.size + 1 ≤ _; rw [List.size_toArray, List.length_append]; simp; omega
        rw [tenorref2_Hex.l0, if_neg (by omega), if_pos hsz, hw1, hw2, if_pos (by omega), hacc, if_pos hsz2, hacc2]
      · rw [tenorref2_Hex.j2]
      · rw [hz, if_neg h0, List.append_assoc _ _ (Lib.itoa (e + 52)), frac_nib _ (by omega)]
        have hc : sg ++ [48, 120, 49] ++ (46 :: nib 13 (m - 4503599627370496)) = sg ++ [48, 120, 49] ++ [46] ++ nib 13 (m - 4503599627370496) := by simp
        rw [hc]
        exact hl
  | j + 1, m, e, hj, h1, h2, h3 => by
    have hlt : m < 4503599627370496 := by
      rw [Nat.pow_succ] at h2
      have : 1 ≤ 2 ^ j := Nat.pow_pos (by omega)
      have : m * 1 ≤ m * 2 ^ j := Nat.mul_le_mul_left _ this
      have : m * (2 ^ j * 2) = m * 2 ^ j * 2 := (Nat.mul_assoc _ _ _).symm
      omega
    have ih := l0_ev M E hM1 hM2 hE1 hE2 sg hs j (2 * m) (e - 1) (by omega) (by omega) (by rw [h2, Nat.pow_succ]; rw [Nat.mul_comm 2 m, Nat.mul_assoc, Nat.mul_comm 2]) (by omega)
    have hw1 : wrap64 (2 * (m : Int)) = ((2 * m : Nat) : Int) := by rw [w64 (by omega) (by omega)]; omega
    have hw2 : wrap64 (e - 1) = e - 1 := w64 (by omega) (by omega)
    refine Ev.step (fun k => ?_) ih
    rw [tenorref2_Hex.l0, if_pos (by omega), hw1, hw2]
theorem number0 : tenorref1_Number.f 0 = some true := by
  have hz : Go.bits .andNot .u64 (0 : Int) 9223372036854775808 = 0 := by decide +kernel
  unfold tenorref1_Number.f
  rw [hz, decide_eq_true (by omega)]
theorem split0_ev : Ev (fun k => tenorref1_Split.f k 0) (0, 0, true) := by
  have hz : Go.bits .andNot .u64 (0 : Int) 9223372036854775808 = 0 := by decide +kernel
  refine Ev.congr (f := fun k => tenorref1_Split.j0 k 0 (0 == (0 : Int))) (fun k => ?_) (Ev.step (f := fun _ => some ((0 : Int), (0 : Int), true)) (fun k => ?_) (Ev.now _))
  · unfold tenorref1_Split.f tenorref1_Size.f
    rw [number0, hz, Option.bind_some, if_pos rfl, Option.bind_some]
  · rw [tenorref1_Split.j0, if_pos (by decide), number0, Option.bind_some]
theorem refHex_not (b : Nat) (hb : b < 18446744073709551616) (h : ¬ sz b < 9218868437227405312) (k : Nat) : tenorref2_Hex.f k (b : Int) = some ((⟨#[]⟩ : ByteArray), 20) := by
  unfold tenorref2_Hex.f tenorref1_Number.f
  rw [sz_bits b hb, Option.bind_some, decide_eq_false (by omega), if_neg (by simp)]
theorem refHex_ev (b : Nat) (hb : b < 18446744073709551616) (h : sz b < 9218868437227405312) : Ev (fun k => tenorref2_Hex.f k (b : Int)) ((⟨(hexOf b).toArray⟩ : ByteArray), 0) := by
  have hsgn : ∀ sg : List UInt8, sg = (if neg b then [45] else []) → Ev (fun k => tenorref2_Hex.j0 k (b : Int) ⟨sg.toArray⟩) ((⟨(hexOf b).toArray⟩ : ByteArray), 0) := by
    intro sg hsg
    have hl : sg.length ≤ 1 := by rw [hsg]; split <;> simp
    have hs : tenorref1_Size.f (b : Int) = some ((sz b : Nat) : Int) := by
      unfold tenorref1_Size.f
      rw [sz_bits b hb]
    by_cases h0 : sz b = 0
    · refine Ev.step (f := fun k => (tenorref1_Split.f k ((sz b : Nat) : Int)).bind fun bt426 => (if bt426.1 = 0 then (if (⟨sg.toArray⟩ : ByteArray).size + 6 ≤ 9223372036854775807 then (some ((⟨sg.toArray⟩ : ByteArray) ++ (⟨#[48, 120, 48, 112, 43, 48]⟩ : ByteArray), 0)) else (none)) else (tenorref2_Hex.l0 k (⟨sg.toArray⟩ : ByteArray) bt426.1 bt426.2.1))) (fun k => by rw [tenorref2_Hex.j0, hs, Option.bind_some]) ?_
      have h1 : Ev (fun k => tenorref1_Split.f k ((sz b : Nat) : Int)) (0, 0, true) := by rw [h0]; exact split0_ev
      refine Ev.bind (g := fun k => tenorref1_Split.f k ((sz b : Nat) : Int)) (f := fun k (bt426 : Int × Int × Bool) => (if bt426.1 = 0 then (if (⟨sg.toArray⟩ : ByteArray).size + 6 ≤ 9223372036854775807 then (some ((⟨sg.toArray⟩ : ByteArray) ++ (⟨#[48, 120, 48, 112, 43, 48]⟩ : ByteArray), 0)) else (none)) else (tenorref2_Hex.l0 k (⟨sg.toArray⟩ : ByteArray) bt426.1 bt426.2.1))) h1 ?_
      refine Ev.congr (f := fun _ => some ((⟨(hexOf b).toArray⟩ : ByteArray), (0 : Int))) (fun k => ?_) (Ev.now _)
      rw [if_pos rfl, if_pos (by show sg.toArray.size + 6 ≤ _; rw [List.size_toArray]; omega)]
      unfold hexOf
      rw [if_pos h0]
      unfold hexZ
      rw [← hsg]
      congr 2
    · refine Ev.step (f := fun k => (tenorref1_Split.f k ((sz b : Nat) : Int)).bind fun bt426 => (if bt426.1 = 0 then (if (⟨sg.toArray⟩ : ByteArray).size + 6 ≤ 9223372036854775807 then (some ((⟨sg.toArray⟩ : ByteArray) ++ (⟨#[48, 120, 48, 112, 43, 48]⟩ : ByteArray), 0)) else (none)) else (tenorref2_Hex.l0 k (⟨sg.toArray⟩ : ByteArray) bt426.1 bt426.2.1))) (fun k => by rw [tenorref2_Hex.j0, hs, Option.bind_some]) ?_
      have hr := spM_range (sz b) (by omega)
      have he := spE_range (sz b) (by omega) h
      have hu := up_spec _ hr.1 hr.2
      refine Ev.bind (g := fun k => tenorref1_Split.f k ((sz b : Nat) : Int)) (f := fun k (bt426 : Int × Int × Bool) => (if bt426.1 = 0 then (if (⟨sg.toArray⟩ : ByteArray).size + 6 ≤ 9223372036854775807 then (some ((⟨sg.toArray⟩ : ByteArray) ++ (⟨#[48, 120, 48, 112, 43, 48]⟩ : ByteArray), 0)) else (none)) else (tenorref2_Hex.l0 k (⟨sg.toArray⟩ : ByteArray) bt426.1 bt426.2.1))) (split_ev (sz b) (by omega) h) ?_
      have hup : up (spM (sz b)) ≤ 52 := by unfold up; omega
      have := l0_ev _ (spE (sz b) - up (spM (sz b))) hu.1 hu.2 (by omega) (by omega) sg hl (up (spM (sz b))) (spM (sz b)) (spE (sz b)) (by omega) hr.1 rfl (by omega)
      refine Ev.congr (f := fun k => tenorref2_Hex.l0 k (⟨sg.toArray⟩ : ByteArray) ((spM (sz b) : Nat) : Int) (spE (sz b))) (fun k => ?_) ?_
      · rw [if_neg (by dsimp only; omega)]
      · unfold hexOf
        rw [if_neg h0]
        unfold hexT
        rw [← hsg]
        exact this
  have hn : tenorref1_Negative.f (b : Int) = some (neg b) := by
    unfold tenorref1_Negative.f neg
    congr 1
    exact decide_eq_decide.2 (by omega)
  by_cases hng : neg b = true
  · refine Ev.congr (fun k => ?_) (hsgn [45] (by rw [hng]; rfl))
    unfold tenorref2_Hex.f tenorref1_Number.f
    rw [sz_bits b hb, Option.bind_some, decide_eq_true (by omega), if_pos rfl, hn, Option.bind_some, hng, if_pos rfl]
  · refine Ev.congr (fun k => ?_) (hsgn [] (by rw [if_neg hng]))
    unfold tenorref2_Hex.f tenorref1_Number.f
    rw [sz_bits b hb, Option.bind_some, decide_eq_true (by omega), if_pos rfl, hn, Option.bind_some, if_neg hng]
end Go.Proofs.YtjpiplplohapnaaGreatDoor.Big
namespace Go.Proofs.YtjpiplplohapnaaGreatDoor.Big
open Go.RowKit Go.Proofs.YtjpiplplohapnaaGreatDoorW.PrintWords Go.Proofs.YtjpiplplohapnaaGreatDoorW.PrintLast Go.Proofs.YtjpiplplohapnaaGreatDoorW.PrintMore
open Go.Proofs.YtjpiplplohapnaaGreatDoor.PText Go.Proofs.YtjpiplplohapnaaGreatDoor.Nr
theorem shl52 (l : Nat) (h : l < 4096) : shl .u64 (l : Int) 52 = ((l * 4503599627370496 : Nat) : Int) := by
  unfold shl
  rw [show min (52 : Int).toNat IntKind.u64.bits = 52 from rfl, show (2 : Int) ^ 52 = ((2 ^ 52 : Nat) : Int) from (Int.natCast_pow 2 52).symm, p52, ← Int.natCast_mul]
  exact wun _ (by omega)
theorem bl_ln_le (D : Nat) : bl D ≤ 32 * ln D := bl_le (by rw [← B_eq]; exact lt_pow_ln D)
theorem two_digs_i (m : Nat) (h : m < 18446744073709551616) : IntKind.u64.wrap (((dig m 0 : Nat) : Int) + IntKind.u64.wrap (((dig m 1 : Nat) : Int) * 4294967296)) = (m : Int) := by
  have h1 := two_digs m h
  have d0 := dig_lt m 0
  have d1 := dig_lt m 1
  have hB : B = 4294967296 := rfl
  rw [wu (x := ((dig m 1 : Nat) : Int) * 4294967296) (by omega) (by omega), wu (by omega) (by omega)]
  omega
theorem dig0_two (m : Nat) : Int.tmod ((dig m 0 : Nat) : Int) 2 = ((m % 2 : Nat) : Int) := by
  rw [Int.tmod_eq_emod_of_nonneg (by omega)]
  unfold dig
  rw [Nat.pow_zero, Nat.div_one]
  show ((m % 4294967296 : Nat) : Int) % 2 = _
  omega
theorem rounded_up (D g l : Nat) (E : Int) (hl : l < 4000) (hg : g ≤ 1000000) (hm : D * 2 ^ g < 9007199254740992) (ht : ln D ≤ 10000) :
    Ev (fun k => (tenorref1_ShiftUp.f k (dg D) (g : Int)).bind fun t226 => (if (0 : Int) ≤ 52 then ((tenorref1_digit.f t226 0).bind fun t229 => ((tenorref1_digit.f t226 1).bind fun t230 => (some (IntKind.u64.wrap ((IntKind.u64.wrap ((shl .u64 (l : Int) 52) + t229)) + (IntKind.u64.wrap (t230 * 4294967296))))))) else (none))) ((l * 4503599627370496 + D * 2 ^ g : Nat) : Int) := by
  refine Ev.bind (up_ev D g (by omega) (by omega)) ?_
  refine Ev.congr (f := fun _ => some ((l * 4503599627370496 + D * 2 ^ g : Nat) : Int)) (fun k => ?_) (Ev.now _)
  rw [if_pos (by omega), show (0 : Int) = ((0 : Nat) : Int) from rfl, digit_dg, Option.bind_some, show (1 : Int) = ((1 : Nat) : Int) from rfl, digit_dg, Option.bind_some]
  generalize D * 2 ^ g = m at *
  have h1 := two_digs m (by omega)
  have d0 := dig_lt m 0
  have d1 := dig_lt m 1
  have hB : B = 4294967296 := rfl
  rw [shl52 l (by omega), wu (x := ((dig m 1 : Nat) : Int) * 4294967296) (by omega) (by omega), wu (x := ((l * 4503599627370496 : Nat) : Int) + ((dig m 0 : Nat) : Int)) (by omega) (by omega), wu (by omega) (by omega)]
  exact congrArg some (by omega)
theorem rounded_down (D n l : Nat) (more : Bool) (hl : l < 4000) (hn1 : 1 ≤ n) (hn : n ≤ 2000000) (hm : D / 2 ^ n < 9007199254740992) (ht : ln D ≤ 10000) :
    Ev (fun k => (tenorref1_ShiftDown.f k (dg D) (n : Int)).bind fun bt231 => ((tenorref1_ShiftDown.f k (dg D) ((n - 1 : Nat) : Int)).bind fun bt235 => ((tenorref1_digit.f bt231.1 0).bind fun t239 => ((tenorref1_digit.f bt231.1 1).bind fun t240 => ((tenorref1_digit.f bt235.1 0).bind fun t241 => (if (Int.tmod t241 2) = 1 then (if bt235.2 = true then (if (0 : Int) ≤ 52 then (some (IntKind.u64.wrap ((shl .u64 (l : Int) 52) + (IntKind.u64.wrap ((IntKind.u64.wrap (t239 + (IntKind.u64.wrap (t240 * 4294967296)))) + 1))))) else (none)) else (if more = true then (if (0 : Int) ≤ 52 then (some (IntKind.u64.wrap ((shl .u64 (l : Int) 52) + (IntKind.u64.wrap ((IntKind.u64.wrap (t239 + (IntKind.u64.wrap (t240 * 4294967296)))) + 1))))) else (none)) else (if (Int.tmod (IntKind.u64.wrap (t239 + (IntKind.u64.wrap (t240 * 4294967296)))) 2) = 1 then (if (0 : Int) ≤ 52 then (some (IntKind.u64.wrap ((shl .u64 (l : Int) 52) + (IntKind.u64.wrap ((IntKind.u64.wrap (t239 + (IntKind.u64.wrap (t240 * 4294967296)))) + 1))))) else (none)) else (if (0 : Int) ≤ 52 then (some (IntKind.u64.wrap ((shl .u64 (l : Int) 52) + (IntKind.u64.wrap (t239 + (IntKind.u64.wrap (t240 * 4294967296))))))) else (none))))) else (if (0 : Int) ≤ 52 then (some (IntKind.u64.wrap ((shl .u64 (l : Int) 52) + (IntKind.u64.wrap (t239 + (IntKind.u64.wrap (t240 * 4294967296))))))) else (none)))))))) ((l * 4503599627370496 + (D / 2 ^ n + upB D n more) : Nat) : Int) := by
  refine Ev.bind (down_ev D n (by omega) (by omega)) ?_
  refine Ev.bind (down_ev D (n - 1) (by omega) (by omega)) ?_
  refine Ev.congr (f := fun _ => some ((l * 4503599627370496 + (D / 2 ^ n + upB D n more) : Nat) : Int)) (fun k => ?_) (Ev.now _)
  try dsimp only
  rw [show (tenorref1_digit.f (dg (D / 2 ^ n)) 0) = some ((dig (D / 2 ^ n) 0 : Nat) : Int) from digit_dg _ 0, Option.bind_some, show (tenorref1_digit.f (dg (D / 2 ^ n)) 1) = some ((dig (D / 2 ^ n) 1 : Nat) : Int) from digit_dg _ 1, Option.bind_some, show (tenorref1_digit.f (dg (D / 2 ^ (n - 1))) 0) = some ((dig (D / 2 ^ (n - 1)) 0 : Nat) : Int) from digit_dg _ 0, Option.bind_some]
  rw [two_digs_i _ (by omega), dig0_two, shl52 l (by omega)]
  have e0 : (0 : Int) ≤ 52 := by omega
  rw [if_pos e0, if_pos e0]
  have et : Int.tmod ((D / 2 ^ n : Nat) : Int) 2 = ((D / 2 ^ n % 2 : Nat) : Int) := tmod2 rfl
  rw [et]
  unfold upB
  obtain ⟨q, hq⟩ : ∃ q, q = D / 2 ^ n := ⟨_, rfl⟩
  rw [← hq] at hm ⊢
  have wA : IntKind.u64.wrap (((l * 4503599627370496 : Nat) : Int) + ((q : Nat) : Int)) = ((l * 4503599627370496 + (q + 0) : Nat) : Int) := by rw [wu (by omega) (by omega)]; omega
  have wB : IntKind.u64.wrap (((l * 4503599627370496 : Nat) : Int) + IntKind.u64.wrap (((q : Nat) : Int) + 1)) = ((l * 4503599627370496 + (q + 1) : Nat) : Int) := by rw [wu (x := ((q : Nat) : Int) + 1) (by omega) (by omega), wu (by omega) (by omega)]; omega
  rw [wA, wB]
  by_cases c1 : D / 2 ^ (n - 1) % 2 = 1
  · rw [if_pos (by omega)]
    by_cases c2 : D % 2 ^ (n - 1) ≠ 0
    · rw [if_pos (by simpa using c2), if_pos ⟨c1, Or.inl c2⟩]
    · rw [if_neg (by simpa using c2)]
      cases more
      · rw [if_neg (by simp)]
        by_cases c4 : q % 2 = 1
        · rw [if_pos (by omega), if_pos ⟨c1, Or.inr (Or.inr c4)⟩]
        · rw [if_neg (by omega), if_neg]
          rintro ⟨_, h | h | h⟩
          · exact c2 h
          · exact absurd h (by simp)
          · exact c4 h
      · rw [if_pos rfl, if_pos ⟨c1, Or.inr (Or.inl rfl)⟩]
  · rw [if_neg (by omega), if_neg (fun h => c1 h.1)]
theorem rounded_ev (D : Nat) (hD : D ≠ 0) (E : Int) (more : Bool) (hE1 : -1100000 ≤ E) (hE2 : E ≤ 1100000) (ht : ln D ≤ 10000) (hfar : (bl D : Int) + E ≤ 1100) :
    Ev (fun k => tenorref1_rounded.f k (dg D) E more 53 (-1074)) ((rr D E more : Nat) : Int) := by
  have hbl := bl_ln_le D
  have b1 := lt_two_bl D
  have hlsb : mx (wrap64 (wrap64 (((bl D : Nat) : Int) - 53) + E)) (-1074) = lsbI D E := by
    rw [w64 (x := ((bl D : Nat) : Int) - 53) (by omega) (by omega), w64 (by omega) (by omega)]
    unfold mx lsbI
    split <;> omega
  obtain ⟨l, hl⟩ : ∃ l : Nat, (l : Int) = lsbI D E + 1074 := ⟨(lsbI D E + 1074).toNat, by unfold lsbI; omega⟩
  have hl' : (lsbI D E + 1074).toNat = l := by omega
  have hl4 : l < 4000 := by unfold lsbI at hl; omega
  have hlw : IntKind.u64.wrap (wrap64 (lsbI D E - (-1074))) = (l : Int) := by
    rw [show lsbI D E - (-1074) = (l : Int) by omega, w64 (by omega) (by omega), wun _ (by omega)]
  have h52 : wrap64 (53 - 1) = 52 := by rw [w64 (by omega) (by omega)]; omega
  have hlr : -1100000 - 2000 ≤ lsbI D E ∧ lsbI D E ≤ 1100 := by unfold lsbI; omega
  unfold tenorref1_rounded.f
  refine Ev.bind (len_ev D (by unfold top; omega)) ?_
  try dsimp only
  rw [hlsb, hlw, h52]
  unfold rr
  rw [hl']
  by_cases hle : lsbI D E ≤ E
  · rw [if_pos hle]
    obtain ⟨g, hg⟩ : ∃ g : Nat, (g : Int) = E - lsbI D E := ⟨(E - lsbI D E).toNat, by omega⟩
    have hg' : (E - lsbI D E).toNat = g := by omega
    have hgb : bl D + g ≤ 53 := by unfold lsbI at hg hle; omega
    have hm : D * 2 ^ g < 9007199254740992 := by
      have a1 : D * 2 ^ g < 2 ^ bl D * 2 ^ g := Nat.mul_lt_mul_of_pos_right b1 (Nat.pow_pos (by decide))
      have a2 : 2 ^ bl D * 2 ^ g ≤ 2 ^ 53 := by rw [← Nat.pow_add]; exact Nat.pow_le_pow_right (by decide) hgb
      rw [p53] at a2
      omega
    rw [hg', w64 (x := E - lsbI D E) (by omega) (by omega), ← hg]
    refine Ev.congr (fun k => ?_) (rounded_up D g l E hl4 (by omega) hm ht)
    rw [if_pos (by omega)]
  · rw [if_neg hle]
    obtain ⟨n, hg⟩ : ∃ n : Nat, (n : Int) = lsbI D E - E := ⟨(lsbI D E - E).toNat, by omega⟩
    have hg' : (lsbI D E - E).toNat = n := by omega
    have hq : D / 2 ^ n < 9007199254740992 := by
      refine Nat.div_lt_of_lt_mul ?_
      have a1 : 2 ^ bl D ≤ 2 ^ n * 2 ^ 53 := by
        rw [← Nat.pow_add]
        exact Nat.pow_le_pow_right (by decide) (by unfold lsbI at hg hle; omega)
      rw [p53] at a1
      omega
    rw [hg', w64 (x := lsbI D E - E) (by omega) (by omega), ← hg, w64 (x := (n : Int) - 1) (by omega) (by omega), show (n : Int) - 1 = ((n - 1 : Nat) : Int) by omega]
    refine Ev.congr (fun k => ?_) (rounded_down D n l more hl4 (by omega) (by omega) hq ht)
    rw [if_neg (by omega)]
def nbS (D : Nat) (E : Int) (more : Bool) : Nat := if (bl D : Int) + E > 1100 then 9218868437227405312 else if (bl D : Int) + E < -1200 then 0 else min (rr D E more) 9218868437227405312
def nb (ng : Bool) (D : Nat) (E : Int) (more : Bool) : Nat := if D = 0 then 0 else (if ng then 9223372036854775808 else 0) + nbS D E more
theorem made_of (ng : Bool) (a : Int) (x : Nat) (hx : x ≤ 9218868437227405312) (h : mn a 9218868437227405312 = (x : Int)) : tenorref1_made.f ng a = some (((if ng then 9223372036854775808 else 0) + x : Nat) : Int) := by
  unfold tenorref1_made.f
  rw [h]
  cases ng
  · rw [if_neg (by simp)]; simp
  · rw [if_pos rfl, wu (by omega) (by omega)]
    congr 1
    simp
    omega
theorem mn_nat (a : Nat) : mn (a : Int) 9218868437227405312 = ((min a 9218868437227405312 : Nat) : Int) := by
  unfold mn
  split <;> omega
theorem nearMore_ev (ng : Bool) (D : Nat) (E : Int) (more : Bool) (hE1 : -1100000 ≤ E) (hE2 : E ≤ 1100000) (ht : ln D ≤ 10000) :
    Ev (fun k => tenorref1_NearMore.f k ng (dg D) E more) ((nb ng D E more : Nat) : Int) := by
  unfold tenorref1_NearMore.f tenorref1_Zero.f nb
  by_cases hD : D = 0
  · subst hD
    refine Ev.congr (f := fun _ => some 0) (fun k => ?_) (Ev.now _)
    rw [dg_length, ln_zero]
    rfl
  · rw [if_neg hD]
    have hln := ln_pos hD
    have hz : ((((dg D).length : Nat) : Int) == 0) = false := by
      rw [dg_length]; simp; omega
    have hbl := bl_ln_le D
    have hlen := len_ev D (by unfold top; omega)
    have hw : wrap64 (((bl D : Nat) : Int) + E) = ((bl D : Nat) : Int) + E := w64 (by omega) (by omega)
    refine Ev.congr (f := fun k => (tenorref1_far.f k ng (dg D) E).bind fun t244 => (if t244 = true then (if E > 0 then (tenorref1_NearMore.j0 k true ng (dg D) E) else ((tenorref1_Len.f k (dg D)).bind fun t245 => (tenorref1_NearMore.j0 k (decide ((wrap64 (t245 + E)) > 0)) ng (dg D) E))) else ((tenorref1_rounded.f k (dg D) E more 53 (-1074)).bind fun t248 => ((tenorref1_made.f ng t248).bind fun t249 => (some t249))))) (fun k => ?_) ?_
    · rw [hz, Option.bind_some, if_neg (by simp)]
    have hj : ∀ bb : Bool, Ev (fun k => tenorref1_NearMore.j0 k bb ng (dg D) E) (((if ng then 9223372036854775808 else 0) + (if bb then 9218868437227405312 else 0) : Nat) : Int) := by
      intro bb
      refine Ev.step (f := fun _ => some (((if ng then 9223372036854775808 else 0) + (if bb then 9218868437227405312 else 0) : Nat) : Int)) (fun k => ?_) (Ev.now _)
      cases bb
      · rw [tenorref1_NearMore.j0, if_neg (by simp), made_of ng 0 0 (by omega) (by decide), Option.bind_some]; rfl
      · rw [tenorref1_NearMore.j0, if_pos rfl, made_of ng 9218868437227405312 9218868437227405312 (by omega) (by decide), Option.bind_some]; rfl
    have hf : Ev (fun k => tenorref1_far.f k ng (dg D) E) (decide (((bl D : Nat) : Int) + E > 1100 ∨ ((bl D : Nat) : Int) + E < -1200)) := by
      unfold tenorref1_far.f
      refine Ev.bind hlen ?_
      try dsimp only
      rw [hw]
      by_cases c1 : ((bl D : Nat) : Int) + E > 1100
      · rw [decide_eq_true (Or.inl c1)]
        refine Ev.congr (fun k => ?_) (Ev.now _)
        rw [if_pos c1]
      · refine Ev.congr (f := fun k => (tenorref1_Len.f k (dg D)).bind fun t203 => (some (decide ((wrap64 (t203 + E)) < (-1200))))) (fun k => by rw [if_neg c1]) ?_
        refine Ev.bind hlen ?_
        try dsimp only
        rw [hw, show decide (((bl D : Nat) : Int) + E > 1100 ∨ ((bl D : Nat) : Int) + E < -1200) = decide (((bl D : Nat) : Int) + E < -1200) from decide_eq_decide.2 ⟨fun h => h.resolve_left c1, Or.inr⟩]
        exact Ev.now _
    refine Ev.bind hf ?_
    unfold nbS
    by_cases c1 : ((bl D : Nat) : Int) + E > 1100
    · rw [if_pos c1]
      by_cases c2 : E > 0
      · refine Ev.congr (fun k => ?_) (hj true)
        rw [if_pos (by simpa using Or.inl c1), if_pos c2]
      · refine Ev.congr (f := fun k => (tenorref1_Len.f k (dg D)).bind fun t245 => (tenorref1_NearMore.j0 k (decide ((wrap64 (t245 + E)) > 0)) ng (dg D) E)) (fun k => ?_) (Ev.bind hlen ?_)
        · rw [if_pos (by simpa using Or.inl c1), if_neg c2]
        · try dsimp only
          rw [hw, decide_eq_true (by omega)]
          exact hj true
    · rw [if_neg c1]
      by_cases c3 : ((bl D : Nat) : Int) + E < -1200
      · rw [if_pos c3]
        refine Ev.congr (f := fun k => (tenorref1_Len.f k (dg D)).bind fun t245 => (tenorref1_NearMore.j0 k (decide ((wrap64 (t245 + E)) > 0)) ng (dg D) E)) (fun k => ?_) (Ev.bind hlen ?_)
        · rw [if_pos (by simpa using Or.inr c3), if_neg (by omega)]
        · try dsimp only
          rw [hw, decide_eq_false (by omega)]
          exact hj false
      · rw [if_neg c3]
        refine Ev.congr (f := fun k => (tenorref1_rounded.f k (dg D) E more 53 (-1074)).bind fun t248 => ((tenorref1_made.f ng t248).bind fun t249 => (some t249))) (fun k => ?_) (Ev.bind (rounded_ev D hD E more hE1 hE2 ht (by omega)) ?_)
        · rw [if_neg (by simp; omega)]
        · refine Ev.congr (fun k => ?_) (Ev.now _)
          try dsimp only
          rw [made_of ng _ _ (Nat.min_le_right _ _) (mn_nat _), Option.bind_some]
theorem near_ev (ng : Bool) (D : Nat) (E : Int) (hE1 : -1100000 ≤ E) (hE2 : E ≤ 1100000) (ht : ln D ≤ 10000) :
    Ev (fun k => tenorref1_Near.f k ng (dg D) E) ((nb ng D E false : Nat) : Int) := by
  unfold tenorref1_Near.f
  refine Ev.bind (nearMore_ev ng D E false hE1 hE2 ht) (Ev.now _)
end Go.Proofs.YtjpiplplohapnaaGreatDoor.Big
namespace Go.Proofs.YtjpiplplohapnaaGreatDoor.Big
open Go.Proofs.YtjpiplplohapnaaGreatDoor.Nr
theorem V_inf (K : Nat) (hK : K = 2046) : V 9218868437227405312 = 4503599627370496 * 2 ^ K := by
  have h := V_form K 4503599627370496 (Or.inl ⟨by omega, by omega⟩)
  rw [show K * 4503599627370496 + 4503599627370496 = 9218868437227405312 by omega] at h
  exact h
theorem V_zero : V 0 = 0 := rfl
theorem V_one : V 1 = 1 := rfl
theorem nbS_near (D : Nat) (hD : D ≠ 0) (E : Int) (more : Bool) (N M p s : Nat) (hM : 0 < M) (hps : (p : Int) - s = E + 1074)
    (h1 : D * 2 ^ p * M ≤ N * 2 ^ s) (h2 : N * 2 ^ s < (D + 1) * 2 ^ p * M) (h3 : more = false → N * 2 ^ s = D * 2 ^ p * M) (h4 : more = true → N * 2 ^ s ≠ D * 2 ^ p * M)
    (hmore : more = true → E < lsbI D E) : ∃ r, Near N M r ∧ nbS D E more = min r 9218868437227405312 := by
  have hR := rr_near D hD E more N M p s hM hps h1 h2 h3 h4 hmore
  have hs0 : 0 < 2 ^ s := Nat.pow_pos (by decide)
  have b1 := lt_two_bl D
  have b2 := two_bl_le hD
  have hbl : 0 < bl D := by
    rcases Nat.eq_zero_or_pos (bl D) with h | h
    · rw [h] at b1; omega
    · exact h
  unfold nbS
  by_cases c1 : (bl D : Int) + E > 1100
  · rw [if_pos c1]
    refine ⟨_, hR, ?_⟩
    have hle : 9218868437227405312 ≤ rr D E more := by
      refine near_mono (N := V 9218868437227405312) (D := 1) (by decide) hM ?_ (near_exact (by decide) (by rw [Nat.mul_one])) hR
      obtain ⟨K, hK⟩ : ∃ K, K = 2046 := ⟨_, rfl⟩
      rw [Nat.mul_one, V_inf K hK, ← p52, ← Nat.pow_add]
      refine Nat.le_of_mul_le_mul_right ?_ hs0
      refine Nat.le_trans ?_ h1
      have e1 : 2 ^ (52 + K) * 2 ^ s ≤ D * 2 ^ p := by
        have a1 : 2 ^ (bl D - 1) * 2 ^ p ≤ D * 2 ^ p := Nat.mul_le_mul_right _ b2
        rw [← Nat.pow_add] at a1
        refine Nat.le_trans ?_ a1
        rw [← Nat.pow_add]
        exact Nat.pow_le_pow_right (by decide) (by omega)
      rw [Nat.mul_right_comm]
      exact Nat.mul_le_mul_right _ e1
    omega
  · rw [if_neg c1]
    by_cases c3 : (bl D : Int) + E < -1200
    · rw [if_pos c3]
      refine ⟨0, ⟨fun q h => by omega, ?_⟩, by omega⟩
      rw [V_zero, V_one, Nat.zero_add, Nat.one_mul]
      have hlt : 2 * N < M := by
        refine Nat.lt_of_mul_lt_mul_right (a := 2 ^ s) ?_
        have a1 : (D + 1) * 2 ^ p ≤ 2 ^ bl D * 2 ^ p := Nat.mul_le_mul_right _ b1
        have a2 : (D + 1) * 2 ^ p * M ≤ 2 ^ bl D * 2 ^ p * M := Nat.mul_le_mul_right _ a1
        have a3 : 2 * (2 ^ bl D * 2 ^ p) ≤ 2 ^ s := by
          rw [← Nat.pow_add, ← Nat.pow_succ']
          exact Nat.pow_le_pow_right (by decide) (by omega)
        have a4 : 2 * (2 ^ bl D * 2 ^ p) * M ≤ 2 ^ s * M := Nat.mul_le_mul_right _ a3
        rw [Nat.mul_assoc] at a4 ⊢
        rw [Nat.mul_comm M]
        omega
      exact ⟨by omega, fun h => by omega⟩
    · rw [if_neg c3]
      exact ⟨_, hR, rfl⟩
theorem nbS_exact (b : Nat) (hb : b ≤ 9218868437227405312) (D : Nat) (hD : D ≠ 0) (E : Int) (p s : Nat) (hps : (p : Int) - s = E + 1074) (h : V b * 2 ^ s = D * 2 ^ p) : nbS D E false = b := by
  have hp0 : 0 < 2 ^ p := Nat.pow_pos (by decide)
  obtain ⟨r, hr, e⟩ := nbS_near D hD E false (V b) 1 p s (by decide) hps (by rw [h, Nat.mul_one]; exact Nat.le_refl _) (by rw [h, Nat.mul_one]; exact Nat.mul_lt_mul_of_pos_right (by omega) hp0)
    (fun _ => by rw [h, Nat.mul_one]) (fun h => absurd h (by simp)) (fun h => absurd h (by simp))
  have := near_unique (by decide) (by decide) rfl hr (near_exact (N := V b) (D := 1) (r := b) (by decide) (by rw [Nat.mul_one]))
  rw [e, this]
  omega
theorem V_sp (u : Nat) (h0 : 0 < u) (h1 : u < 9218868437227405312) : V u = spM u * 2 ^ (spE u + 1074).toNat := by
  unfold V spM spE
  rw [if_neg (show ¬ u = 0 by omega)]
  by_cases h : u < 4503599627370496
  · rw [if_pos h, if_pos h, if_pos h]
    simp
  · rw [if_neg h, if_neg h, if_neg h, Nat.add_comm]
    congr 2
    omega
end Go.Proofs.YtjpiplplohapnaaGreatDoor.Big
namespace Go.Proofs.YtjpiplplohapnaaGreatDoor.Big
open Go.RowKit Go.Proofs.YtjpiplplohapnaaGreatDoorW.PrintWords Go.Proofs.YtjpiplplohapnaaGreatDoorW.PrintLast Go.Proofs.YtjpiplplohapnaaGreatDoorW.PrintMore
open Go.Proofs.YtjpiplplohapnaaGreatDoor.PText Go.Proofs.YtjpiplplohapnaaGreatDoor.Nr
theorem sizeL (l : List UInt8) : (⟨l.toArray⟩ : ByteArray).size = l.length := by show l.toArray.size = _; simp
theorem bt_pre {l p r : List UInt8} {c : UInt8} (h : l = p ++ c :: r) : bt ⟨l.toArray⟩ ((p.length : Nat) : Int) = (c.toNat : Int) := by
  subst h
  unfold bt
  rw [Int.toNat_natCast, dif_pos (by rw [sizeL]; simp)]
  have : ((⟨(p ++ c :: r).toArray⟩ : ByteArray)[p.length]'(by rw [sizeL]; simp)) = c := by
    show (p ++ c :: r).toArray[p.length]'_ = c
    simp
  rw [this]
def nbV (c : Nat) : Int := if 48 ≤ c ∧ c ≤ 57 then (c : Int) - 48 else if 97 ≤ c ∧ c ≤ 102 then (c : Int) - 87 else -1
theorem nibble_ev (c : Nat) (hc : c < 256) : Ev (fun k => tenorref2_nibble.f k (c : Int)) (nbV c) := by
  by_cases h48 : 48 ≤ c
  · by_cases h57 : c ≤ 57
    · refine Ev.congr (f := fun k => tenorref2_nibble.j0 k (c : Int) true) (fun k => by unfold tenorref2_nibble.f; rw [if_pos (by omega), decide_eq_true (by omega)]) (Ev.step (f := fun _ => some (nbV c)) (fun k => ?_) (Ev.now _))
      rw [tenorref2_nibble.j0, if_pos rfl]
      unfold nbV
      rw [if_pos ⟨h48, h57⟩]
      congr 1; omega
    · refine Ev.congr (f := fun k => tenorref2_nibble.j0 k (c : Int) false) (fun k => by unfold tenorref2_nibble.f; rw [if_pos (by omega), decide_eq_false (by omega)]) (Ev.step (f := fun _ => some (nbV c)) (fun k => ?_) (Ev.now _))
      rw [tenorref2_nibble.j0, if_neg (by simp)]
      by_cases h97 : 97 ≤ c
      · rw [if_pos (by omega)]
        by_cases h102 : c ≤ 102
        · rw [if_pos (by omega)]
          unfold nbV
          rw [if_neg (by omega), if_pos ⟨h97, h102⟩]
          congr 1; omega
        · rw [if_neg (by omega)]
          unfold nbV
          rw [if_neg (by omega), if_neg (by omega)]
      · rw [if_neg (by omega)]
        unfold nbV
        rw [if_neg (by omega), if_neg (by omega)]
  · refine Ev.congr (f := fun k => tenorref2_nibble.j0 k (c : Int) false) (fun k => by unfold tenorref2_nibble.f; rw [if_neg (by omega)]) (Ev.step (f := fun _ => some (nbV c)) (fun k => ?_) (Ev.now _))
    rw [tenorref2_nibble.j0, if_neg (by simp)]
    unfold nbV
    rw [if_neg (by omega), if_neg (by omega), if_neg (by omega)]
theorem nbV_hx {d : Nat} (h : d < 16) : nbV (hx d).toNat = (d : Int) := by
  have key : ∀ d : Fin 16, nbV (hx d.val).toNat = (d.val : Int) := by decide +kernel
  exact key ⟨d, h⟩
theorem nib_bt (s : ByteArray) (i : Int) : Ev (fun k => tenorref2_nibble.f k (bt s i)) (nbV (bt s i).toNat) := by
  have h := bt_range s i
  have := nibble_ev (bt s i).toNat (by omega)
  rw [Int.toNat_of_nonneg h.1] at this
  exact this
def chk (l : List UInt8) (u : Nat) : Int × Int := if sz u < 9218868437227405312 ∧ l = hexOf u then ((u : Int), 0) else (0, 20)
theorem chk_ev (l : List UInt8) (u : Nat) (hu : u < 18446744073709551616) :
    Ev (fun k => (tenorref2_Hex.f k (u : Int)).bind fun bt487 => (if bt487.2 = 0 then (if bt487.1.toList = (⟨l.toArray⟩ : ByteArray).toList then (some ((u : Int), (0 : Int))) else (some (0, 20))) else (some (0, 20)))) (chk l u) := by
  unfold chk
  by_cases h : sz u < 9218868437227405312
  · refine Ev.bind (refHex_ev u hu h) ?_
    refine Ev.congr (fun k => ?_) (Ev.now _)
    dsimp only
    rw [if_pos rfl, ByteArray.toList_mk, ByteArray.toList_mk]
    by_cases h2 : l = hexOf u
    · rw [if_pos h2.symm, if_pos ⟨h, h2⟩]
    · rw [if_neg (fun h3 => h2 h3.symm), if_neg (fun h3 => h2 h3.2)]
  · refine Ev.congr (fun k => ?_) (Ev.now _)
    rw [refHex_not u hu h, Option.bind_some, if_neg (by dsimp only; omega), if_neg (fun h3 => h h3.1)]
def clampE (e : Int) : Int := mn (mx e (-1048576)) 1048576
theorem clampE_bd (e : Int) : -1048576 ≤ clampE e ∧ clampE e ≤ 1048576 := by
  unfold clampE mn mx
  split <;> split <;> omega
theorem clampE_id (e : Int) (h1 : -1048576 ≤ e) (h2 : e ≤ 1048576) : clampE e = e := by
  unfold clampE mn mx
  split <;> split <;> omega
theorem nbS_le (D : Nat) (E : Int) (m : Bool) : nbS D E m ≤ 9218868437227405312 := by
  unfold nbS
  split
  · omega
  · split
    · omega
    · exact Nat.min_le_right _ _
theorem nb_le (D : Nat) (E : Int) (m : Bool) : nb false D E m ≤ 9218868437227405312 := by
  unfold nb
  have := nbS_le D E m
  split
  · omega
  · simpa using this
theorem join_ev (x : Nat) (hx : x < 72057594037927936) (e : Int) : Ev (fun k => tenorref1_Join.f k (x : Int) e) ((nb false x (clampE e) false : Nat) : Int) := by
  have hw : Ev (fun k => tenorref1_Whole.f k (x : Int)) (false, dg x, 0) := by
    refine Ev.congr (f := fun k => (tenorref1_Digits.f k (x : Int)).bind fun t412 => (some (false, t412, (0 : Int)))) (fun k => ?_) (Ev.bind (digits_ev x (by omega)) (Ev.now _))
    unfold tenorref1_Whole.f
    rw [if_neg (by omega), wun _ (by omega)]
  have hb := clampE_bd e
  unfold tenorref1_Join.f
  refine Ev.bind hw ?_
  dsimp only
  exact Ev.bind (near_ev false x (clampE e) (by omega) (by omega) (by have := ln_two (n := x) (by show x < 4294967296 * 4294967296; omega); omega)) (Ev.now _)
theorem xor_top (u : Nat) (h : u < 9223372036854775808) : u ^^^ 9223372036854775808 = u + 9223372036854775808 := by
  have h1 : (9223372036854775808 : Nat) = 2 ^ 63 := by decide
  rw [h1] at h ⊢
  have h2 := Nat.two_pow_add_eq_or_of_lt h 1
  rw [Nat.mul_one] at h2
  rw [Nat.add_comm, h2]
  apply Nat.eq_of_testBit_eq
  intro i
  rw [Nat.testBit_xor, Nat.testBit_or, Nat.testBit_two_pow]
  by_cases hi : 63 = i
  · subst hi
    rw [Nat.testBit_lt_two_pow h]; simp
  · simp [hi]
theorem flip_of (u : Nat) (h : u < 9223372036854775808) : tenorref1_Flip.f (u : Int) = some ((u + 9223372036854775808 : Nat) : Int) := by
  unfold tenorref1_Flip.f
  have := Go.u64_xor_nat u 9223372036854775808 (by omega) (by omega)
  rw [show ((9223372036854775808 : Nat) : Int) = 9223372036854775808 from rfl] at this
  rw [this, xor_top u h]
def sgnd (l : List UInt8) (u : Nat) : Nat := if bt ⟨l.toArray⟩ 0 = 45 then u + 9223372036854775808 else u
theorem j9_ev (l : List UInt8) (hl : 0 < l.length) (x5 : Nat) (h5 : x5 < 72057594037927936) (x6 x8 : Int) :
    Ev (fun k => tenorref2_Unhex.j9 k ⟨l.toArray⟩ (x5 : Int) x6 x8) (chk l (sgnd l (nb false x5 (clampE (wrap64 (x6 + x8))) false))) := by
  have hn := nb_le x5 (clampE (wrap64 (x6 + x8))) false
  have hj := join_ev x5 h5 (wrap64 (x6 + x8))
  generalize nb false x5 (clampE (wrap64 (x6 + x8))) false = u at *
  unfold sgnd
  by_cases h : bt ⟨l.toArray⟩ 0 = 45
  · rw [if_pos h]
    refine Ev.step (f := fun k => (tenorref1_Join.f k (x5 : Int) (wrap64 (x6 + x8))).bind fun t485 => ((tenorref1_Flip.f t485).bind fun t486 => ((tenorref2_Hex.f k t486).bind fun bt487 => (if bt487.2 = 0 then (if bt487.1.toList = (⟨l.toArray⟩ : ByteArray).toList then (some (t486, (0 : Int))) else (some (0, 20))) else (some (0, 20)))))) (fun k => ?_) (Ev.bind hj ?_)
    · rw [tenorref2_Unhex.j9]
      simp only [sizeL, if_pos (show 0 < ((l.length : Nat) : Int) by omega), if_pos h]
    · refine Ev.congr (fun k => ?_) (chk_ev l (u + 9223372036854775808) (by omega))
      rw [flip_of u (by omega), Option.bind_some]
  · rw [if_neg h]
    refine Ev.step (f := fun k => (tenorref1_Join.f k (x5 : Int) (wrap64 (x6 + x8))).bind fun t485 => ((tenorref2_Hex.f k t485).bind fun bt489 => (if bt489.2 = 0 then (if bt489.1.toList = (⟨l.toArray⟩ : ByteArray).toList then (some (t485, (0 : Int))) else (some (0, 20))) else (some (0, 20))))) (fun k => ?_) (Ev.bind hj ?_)
    · rw [tenorref2_Unhex.j9]
      simp only [sizeL, if_pos (show 0 < ((l.length : Nat) : Int) by omega), if_neg h]
    · exact chk_ev l u (by omega)
def Tot (l : List UInt8) (r : Int × Int) : Prop := r = (0, 20) ∨ ∃ u : Nat, u < 18446744073709551616 ∧ sz u < 9218868437227405312 ∧ l = hexOf u ∧ r = ((u : Int), 0)
theorem tot_chk (l : List UInt8) (u : Nat) (hu : u < 18446744073709551616) : Tot l (chk l u) := by
  unfold chk Tot
  by_cases h : sz u < 9218868437227405312 ∧ l = hexOf u
  · rw [if_pos h]; exact Or.inr ⟨u, hu, h.1, h.2, rfl⟩
  · rw [if_neg h]; exact Or.inl rfl
theorem sgnd_lt (l : List UInt8) (u : Nat) (h : u ≤ 9218868437227405312) : sgnd l u < 18446744073709551616 := by
  unfold sgnd
  split <;> omega
theorem no20 (l : List UInt8) {f : Nat → Option (Int × Int)} (h : ∀ k, f (k + 1) = some (0, 20)) : ∃ r, Tot l r ∧ Ev f r :=
  ⟨(0, 20), Or.inl rfl, Ev.step (f := fun _ => some (0, 20)) h (Ev.now _)⟩
theorem j9_tot (l : List UInt8) (hl : 0 < l.length) (x5 : Nat) (h5 : x5 < 72057594037927936) (x6 x8 : Int) : ∃ r, Tot l r ∧ Ev (fun k => tenorref2_Unhex.j9 k ⟨l.toArray⟩ (x5 : Int) x6 x8) r :=
  ⟨_, tot_chk l _ (sgnd_lt l _ (nb_le _ _ _)), j9_ev l hl x5 h5 x6 x8⟩
theorem j8_tot (l : List UInt8) (hl : 0 < l.length) (x5 : Nat) (h5 : x5 < 72057594037927936) (x6 : Int) (x7 : Bool) (x8 : Int) : ∃ r, Tot l r ∧ Ev (fun k => tenorref2_Unhex.j8 k ⟨l.toArray⟩ (x5 : Int) x6 x7 x8) r := by
  cases x7
  · obtain ⟨r, h1, h2⟩ := j9_tot l hl x5 h5 x6 x8
    exact ⟨r, h1, Ev.step (fun k => by rw [tenorref2_Unhex.j8, if_neg (by simp)]) h2⟩
  · obtain ⟨r, h1, h2⟩ := j9_tot l hl x5 h5 x6 (wrap64 (-x8))
    exact ⟨r, h1, Ev.step (fun k => by rw [tenorref2_Unhex.j8, if_pos rfl]) h2⟩
theorem l1_tot (l : List UInt8) (hl : 0 < l.length) (hm : l.length ≤ 1000) (x5 : Nat) (h5 : x5 < 72057594037927936) (x6 : Int) (x7 : Bool) : ∀ (d x4 : Nat) (x8 : Int), d + x4 = l.length → ∃ r, Tot l r ∧ Ev (fun k => tenorref2_Unhex.l1 k ⟨l.toArray⟩ (x4 : Int) (x5 : Int) x6 x7 x8) r := by
  intro d
  induction d with
  | zero =>
    intro x4 x8 h
    obtain ⟨r, h1, h2⟩ := j8_tot l hl x5 h5 x6 x7 x8
    refine ⟨r, h1, Ev.step (fun k => ?_) h2⟩
    rw [tenorref2_Unhex.l1, sizeL, if_neg (by omega)]
  | succ d ih =>
    intro x4 x8 h
    obtain ⟨r8, h81, h82⟩ := j8_tot l hl x5 h5 x6 x7 x8
    have e8 : ∀ (k : Nat), tenorref2_Unhex.l1 (k + 1) ⟨l.toArray⟩ (x4 : Int) (x5 : Int) x6 x7 x8 = (if (bt ⟨l.toArray⟩ (x4 : Int)) ≥ 48 then (if (bt ⟨l.toArray⟩ (x4 : Int)) ≤ 57 then (if x8 < 10000 then (tenorref2_Unhex.l1 k ⟨l.toArray⟩ (wrap64 ((x4 : Int) + 1)) (x5 : Int) x6 x7 (wrap64 ((wrap64 (10 * x8)) + (((bt ⟨l.toArray⟩ (x4 : Int)) - 48) % 256)))) else (tenorref2_Unhex.j8 k ⟨l.toArray⟩ (x5 : Int) x6 x7 x8)) else (tenorref2_Unhex.j8 k ⟨l.toArray⟩ (x5 : Int) x6 x7 x8)) else (tenorref2_Unhex.j8 k ⟨l.toArray⟩ (x5 : Int) x6 x7 x8)) := by
      intro k
      rw [tenorref2_Unhex.l1, sizeL, if_pos (by omega), if_pos (by omega)]
    by_cases c1 : (bt ⟨l.toArray⟩ (x4 : Int)) ≥ 48
    · by_cases c2 : (bt ⟨l.toArray⟩ (x4 : Int)) ≤ 57
      · by_cases c3 : x8 < 10000
        · obtain ⟨r, h1, h2⟩ := ih (x4 + 1) (wrap64 ((wrap64 (10 * x8)) + (((bt ⟨l.toArray⟩ (x4 : Int)) - 48) % 256))) (by omega)
          refine ⟨r, h1, Ev.step (fun k => ?_) h2⟩
          rw [e8, if_pos c1, if_pos c2, if_pos c3, w64 (x := (x4 : Int) + 1) (by omega) (by omega)]
          rfl
        · exact ⟨r8, h81, Ev.step (fun k => by rw [e8, if_pos c1, if_pos c2, if_neg c3]) h82⟩
      · exact ⟨r8, h81, Ev.step (fun k => by rw [e8, if_pos c1, if_neg c2]) h82⟩
    · exact ⟨r8, h81, Ev.step (fun k => by rw [e8, if_neg c1]) h82⟩
theorem j6_tot (l : List UInt8) (hm : l.length ≤ 1000) (x4 : Nat) (x5 x6 : Int) (x108 : Bool) (h : x108 = false → x4 + 1 < l.length ∧ 0 ≤ x5 ∧ x5 < 72057594037927936) : ∃ r, Tot l r ∧ Ev (fun k => tenorref2_Unhex.j6 k ⟨l.toArray⟩ (x4 : Int) x5 x6 x108) r := by
  cases x108
  · obtain ⟨a1, a2, a3⟩ := h rfl
    obtain ⟨y, rfl⟩ : ∃ y : Nat, x5 = (y : Int) := ⟨x5.toNat, by omega⟩
    obtain ⟨r, h1, h2⟩ := l1_tot l (by omega) hm y (by omega) x6 ((bt ⟨l.toArray⟩ (wrap64 ((x4 : Int) + 1))) == 45) (l.length - (x4 + 2)) (x4 + 2) 0 (by omega)
    refine ⟨r, h1, Ev.step (fun k => ?_) h2⟩
    rw [tenorref2_Unhex.j6, if_neg (by simp), sizeL, w64 (x := (x4 : Int) + 1) (by omega) (by omega), if_pos (by omega), if_pos (by omega), w64 (x := (x4 : Int) + 2) (by omega) (by omega)]
    rfl
  · exact no20 l (fun k => by rw [tenorref2_Unhex.j6, if_pos rfl])
theorem j5_tot (l : List UInt8) (hm : l.length ≤ 1000) (x4 : Nat) (hx : x4 ≤ l.length) (x5 x6 : Int) : ∃ r, Tot l r ∧ Ev (fun k => tenorref2_Unhex.j5 k ⟨l.toArray⟩ (x4 : Int) x5 x6) r := by
  obtain ⟨rt, ht1, ht2⟩ := j6_tot l hm x4 x5 x6 true (fun h => absurd h (by simp))
  by_cases c1 : (x4 : Int) + 1 ≥ (l.length : Int)
  · refine ⟨rt, ht1, Ev.step (fun k => ?_) ht2⟩
    rw [tenorref2_Unhex.j5, sizeL, w64 (x := (x4 : Int) + 1) (by omega) (by omega), if_pos c1]
  · have e5 : ∀ (k : Nat), tenorref2_Unhex.j5 (k + 1) ⟨l.toArray⟩ (x4 : Int) x5 x6 = (if (bt ⟨l.toArray⟩ (x4 : Int)) = 112 then (if x5 < 0 then (tenorref2_Unhex.j6 k ⟨l.toArray⟩ (x4 : Int) x5 x6 true) else (tenorref2_Unhex.j6 k ⟨l.toArray⟩ (x4 : Int) x5 x6 (decide (x5 ≥ 72057594037927936)))) else (tenorref2_Unhex.j6 k ⟨l.toArray⟩ (x4 : Int) x5 x6 true)) := by
      intro k
      rw [tenorref2_Unhex.j5, sizeL, w64 (x := (x4 : Int) + 1) (by omega) (by omega), if_neg c1, if_pos (by omega), if_pos (by omega)]
    by_cases c2 : (bt ⟨l.toArray⟩ (x4 : Int)) = 112
    · by_cases c3 : x5 < 0
      · exact ⟨rt, ht1, Ev.step (fun k => by rw [e5, if_pos c2, if_pos c3]) ht2⟩
      · obtain ⟨r, h1, h2⟩ := j6_tot l hm x4 x5 x6 (decide (x5 ≥ 72057594037927936)) (fun h => by
          have := of_decide_eq_false h
          exact ⟨by omega, by omega, by omega⟩)
        exact ⟨r, h1, Ev.step (fun k => by rw [e5, if_pos c2, if_neg c3]) h2⟩
    · exact ⟨rt, ht1, Ev.step (fun k => by rw [e5, if_neg c2]) ht2⟩
theorem l0_tot (l : List UInt8) (hm : l.length ≤ 1000) : ∀ (d x4 : Nat) (x5 x6 : Int), d + x4 = l.length → ∃ r, Tot l r ∧ Ev (fun k => tenorref2_Unhex.l0 k ⟨l.toArray⟩ (x4 : Int) x5 x6) r := by
  intro d
  induction d with
  | zero =>
    intro x4 x5 x6 h
    obtain ⟨r, h1, h2⟩ := j5_tot l hm x4 (by omega) x5 x6
    refine ⟨r, h1, Ev.step (fun k => ?_) h2⟩
    rw [tenorref2_Unhex.l0, sizeL, if_neg (by omega)]
  | succ d ih =>
    intro x4 x5 x6 h
    obtain ⟨r5, h51, h52⟩ := j5_tot l hm x4 (by omega) x5 x6
    have hn := nib_bt ⟨l.toArray⟩ (x4 : Int)
    have e8 : ∀ (k : Nat), tenorref2_Unhex.l0 (k + 1) ⟨l.toArray⟩ (x4 : Int) x5 x6 = ((tenorref2_nibble.f k (bt ⟨l.toArray⟩ (x4 : Int))).bind fun t483 => (if t483 ≥ 0 then (if x6 > (-60) then ((tenorref2_nibble.f k (bt ⟨l.toArray⟩ (x4 : Int))).bind fun t484 => (tenorref2_Unhex.l0 k ⟨l.toArray⟩ (wrap64 ((x4 : Int) + 1)) (wrap64 ((wrap64 (16 * x5)) + t484)) (wrap64 (x6 - 4)))) else (tenorref2_Unhex.j5 k ⟨l.toArray⟩ (x4 : Int) x5 x6)) else (tenorref2_Unhex.j5 k ⟨l.toArray⟩ (x4 : Int) x5 x6))) := by
      intro k
      rw [tenorref2_Unhex.l0, sizeL, if_pos (by omega), if_pos (by omega)]
    generalize nbV (bt ⟨l.toArray⟩ (x4 : Int)).toNat = v at hn
    by_cases c1 : v ≥ 0
    · by_cases c2 : x6 > (-60)
      · obtain ⟨r, h1, h2⟩ := ih (x4 + 1) (wrap64 ((wrap64 (16 * x5)) + v)) (wrap64 (x6 - 4)) (by omega)
        refine ⟨r, h1, Ev.step (fun k => e8 k) (Ev.bind hn ?_)⟩
        refine Ev.congr (fun k => by rw [if_pos c1, if_pos c2]) (Ev.bind hn ?_)
        refine Ev.congr (fun k => ?_) h2
        rw [w64 (x := (x4 : Int) + 1) (by omega) (by omega)]
        rfl
      · exact ⟨r5, h51, Ev.step (fun k => e8 k) (Ev.bind hn (Ev.congr (fun k => by rw [if_pos c1, if_neg c2]) h52))⟩
    · exact ⟨r5, h51, Ev.step (fun k => e8 k) (Ev.bind hn (Ev.congr (fun k => by rw [if_neg c1]) h52))⟩
theorem j3_tot (l : List UInt8) (hm : l.length ≤ 1000) (x4 : Nat) (hx : x4 < l.length) (x5 x6 : Int) (x61 : Bool) : ∃ r, Tot l r ∧ Ev (fun k => tenorref2_Unhex.j3 k ⟨l.toArray⟩ (x4 : Int) x5 x6 x61) r := by
  cases x61
  · obtain ⟨r, h1, h2⟩ := j5_tot l hm x4 (by omega) x5 x6
    exact ⟨r, h1, Ev.step (fun k => by rw [tenorref2_Unhex.j3, if_neg (by simp)]) h2⟩
  · obtain ⟨r, h1, h2⟩ := l0_tot l hm (l.length - (x4 + 1)) (x4 + 1) x5 x6 (by omega)
    refine ⟨r, h1, Ev.step (fun k => ?_) h2⟩
    rw [tenorref2_Unhex.j3, if_pos rfl, w64 (x := (x4 : Int) + 1) (by omega) (by omega)]
    rfl
theorem j2_false (l : List UInt8) (hm : l.length ≤ 1000) (x4 : Nat) (hx : x4 + 5 ≤ l.length) (r : Int × Int)
    (h : Ev (fun k => tenorref2_Unhex.j3 k ⟨l.toArray⟩ ((x4 + 3 : Nat) : Int) (nbV (bt ⟨l.toArray⟩ ((x4 + 2 : Nat) : Int)).toNat) 0 ((bt ⟨l.toArray⟩ ((x4 + 3 : Nat) : Int)) == 46)) r) : Ev (fun k => tenorref2_Unhex.j2 k ⟨l.toArray⟩ (x4 : Int) false) r := by
  have hn := nib_bt ⟨l.toArray⟩ ((x4 + 2 : Nat) : Int)
  refine Ev.step (f := fun k => (tenorref2_nibble.f k (bt ⟨l.toArray⟩ ((x4 + 2 : Nat) : Int))).bind fun t482 => (tenorref2_Unhex.j3 k ⟨l.toArray⟩ ((x4 + 3 : Nat) : Int) t482 0 ((bt ⟨l.toArray⟩ ((x4 + 3 : Nat) : Int)) == 46))) (fun k => ?_) (Ev.bind hn h)
  rw [tenorref2_Unhex.j2, if_neg (by simp), sizeL, w64 (x := (x4 : Int) + 2) (by omega) (by omega), w64 (x := (x4 : Int) + 3) (by omega) (by omega), if_pos (by omega), if_pos (by omega)]
  simp only [if_pos (show (x4 : Int) + 3 < (l.length : Int) by omega), if_pos (show (0 : Int) ≤ (x4 : Int) + 3 by omega)]
  rfl
theorem j1_tot (l : List UInt8) (hm : l.length ≤ 1000) (x4 : Nat) (hx : x4 ≤ 1) : ∃ r, Tot l r ∧ Ev (fun k => tenorref2_Unhex.j1 k ⟨l.toArray⟩ (x4 : Int)) r := by
  have hT : Ev (fun k => tenorref2_Unhex.j2 k ⟨l.toArray⟩ (x4 : Int) true) (0, 20) := Ev.step (f := fun _ => some (0, 20)) (fun k => by rw [tenorref2_Unhex.j2, if_pos rfl]) (Ev.now _)
  by_cases c1 : (l.length : Int) < (x4 : Int) + 5
  · refine ⟨(0, 20), Or.inl rfl, Ev.step (fun k => ?_) hT⟩
    rw [tenorref2_Unhex.j1, sizeL, w64 (x := (x4 : Int) + 5) (by omega) (by omega), if_pos c1]
  · have e1 : ∀ (k : Nat), tenorref2_Unhex.j1 (k + 1) ⟨l.toArray⟩ (x4 : Int) = (if (bt ⟨l.toArray⟩ (x4 : Int)) = 48 then (tenorref2_Unhex.j2 k ⟨l.toArray⟩ (x4 : Int) ((bt ⟨l.toArray⟩ ((x4 : Int) + 1)) != 120)) else (tenorref2_Unhex.j2 k ⟨l.toArray⟩ (x4 : Int) true)) := by
      intro k
      rw [tenorref2_Unhex.j1, sizeL, w64 (x := (x4 : Int) + 5) (by omega) (by omega), if_neg c1, if_pos (by omega), if_pos (by omega), w64 (x := (x4 : Int) + 1) (by omega) (by omega), if_pos (show (0 : Int) ≤ (x4 : Int) + 1 by omega), if_pos (show (x4 : Int) + 1 < (l.length : Int) by omega)]
    by_cases c2 : (bt ⟨l.toArray⟩ (x4 : Int)) = 48
    · by_cases c3 : ((bt ⟨l.toArray⟩ ((x4 : Int) + 1)) != 120) = true
      · exact ⟨(0, 20), Or.inl rfl, Ev.step (fun k => by rw [e1, if_pos c2, c3]) hT⟩
      · obtain ⟨r, h1, h2⟩ := j3_tot l hm (x4 + 3) (by omega) (nbV (bt ⟨l.toArray⟩ ((x4 + 2 : Nat) : Int)).toNat) 0 ((bt ⟨l.toArray⟩ ((x4 + 3 : Nat) : Int)) == 46)
        exact ⟨r, h1, Ev.step (fun k => by rw [e1, if_pos c2, Bool.eq_false_iff.mpr c3]) (j2_false l hm x4 (by omega) r h2)⟩
    · exact ⟨(0, 20), Or.inl rfl, Ev.step (fun k => by rw [e1, if_neg c2]) hT⟩
theorem unhex_tot (l : List UInt8) : ∃ r, Tot l r ∧ Ev (fun k => tenorref2_Unhex.f k ⟨l.toArray⟩) r := by
  by_cases h40 : (l.length : Int) > 40
  · refine ⟨(0, 20), Or.inl rfl, Ev.congr (fun k => ?_) (Ev.now _)⟩
    unfold tenorref2_Unhex.f
    rw [sizeL, if_pos h40]
  · have hj : ∀ x24 : Bool, ∃ r, Tot l r ∧ Ev (fun k => tenorref2_Unhex.j0 k ⟨l.toArray⟩ 0 x24) r := by
      intro x24
      cases x24
      · obtain ⟨r, h1, h2⟩ := j1_tot l (by omega) 0 (by omega)
        exact ⟨r, h1, Ev.step (fun k => by rw [tenorref2_Unhex.j0, if_neg (by simp)]; rfl) h2⟩
      · obtain ⟨r, h1, h2⟩ := j1_tot l (by omega) 1 (by omega)
        exact ⟨r, h1, Ev.step (fun k => by rw [tenorref2_Unhex.j0, if_pos rfl, w64 (by omega) (by omega)]; rfl) h2⟩
    by_cases h0 : 0 < (l.length : Int)
    · obtain ⟨r, h1, h2⟩ := hj ((bt ⟨l.toArray⟩ 0) == 45)
      refine ⟨r, h1, Ev.congr (fun k => ?_) h2⟩
      unfold tenorref2_Unhex.f
      rw [sizeL, if_neg h40, if_pos h0]
    · obtain ⟨r, h1, h2⟩ := hj false
      refine ⟨r, h1, Ev.congr (fun k => ?_) h2⟩
      unfold tenorref2_Unhex.f
      rw [sizeL, if_neg h40, if_neg h0]
end Go.Proofs.YtjpiplplohapnaaGreatDoor.Big
namespace Go.Proofs.YtjpiplplohapnaaGreatDoor.Big
open Go.RowKit Go.Proofs.YtjpiplplohapnaaGreatDoorW.PrintWords Go.Proofs.YtjpiplplohapnaaGreatDoorW.PrintLast Go.Proofs.YtjpiplplohapnaaGreatDoorW.PrintMore
open Go.Proofs.YtjpiplplohapnaaGreatDoor.PText Go.Proofs.YtjpiplplohapnaaGreatDoor.Nr
theorem l0_nib (l r : List UInt8) (hlen : l.length ≤ 1000) : ∀ (n m : Nat) (p : List UInt8) (x5 : Nat) (x6 : Int), m < 16 ^ n → l = p ++ (nib n m ++ 112 :: r) → x5 * 16 ^ n + 16 ^ n ≤ 1152921504606846976 → -52 ≤ x6 - 4 * n → x6 ≤ 0 →
    ∃ (v k' : Nat) (p' : List UInt8), k' ≤ n ∧ v * 16 ^ (n - k') = m ∧ v < 16 ^ k' ∧ l = p' ++ 112 :: r ∧
      ∀ R, Ev (fun k => tenorref2_Unhex.j5 k ⟨l.toArray⟩ ((p'.length : Nat) : Int) ((x5 * 16 ^ k' + v : Nat) : Int) (x6 - 4 * k')) R → Ev (fun k => tenorref2_Unhex.l0 k ⟨l.toArray⟩ ((p.length : Nat) : Int) ((x5 : Nat) : Int) x6) R := by
  have hstop : ∀ (p : List UInt8) (x5 : Nat) (x6 : Int), l = p ++ 112 :: r → ∀ R, Ev (fun k => tenorref2_Unhex.j5 k ⟨l.toArray⟩ ((p.length : Nat) : Int) ((x5 : Nat) : Int) x6) R → Ev (fun k => tenorref2_Unhex.l0 k ⟨l.toArray⟩ ((p.length : Nat) : Int) ((x5 : Nat) : Int) x6) R := by
    intro p x5 x6 hl R h
    have hbt := bt_pre hl
    have hpl : p.length < l.length := by rw [hl]; simp
    have hn := nib_bt ⟨l.toArray⟩ ((p.length : Nat) : Int)
    rw [hbt, Int.toNat_natCast, show nbV (112 : UInt8).toNat = -1 from by decide] at hn
    refine Ev.step (f := fun k => (tenorref2_nibble.f k (((112 : UInt8).toNat : Nat) : Int)).bind fun t483 => (if t483 ≥ 0 then (if x6 > (-60) then ((tenorref2_nibble.f k (((112 : UInt8).toNat : Nat) : Int)).bind fun t484 => (tenorref2_Unhex.l0 k ⟨l.toArray⟩ (wrap64 ((p.length : Int) + 1)) (wrap64 ((wrap64 (16 * ((x5 : Nat) : Int))) + t484)) (wrap64 (x6 - 4)))) else (tenorref2_Unhex.j5 k ⟨l.toArray⟩ (p.length : Int) ((x5 : Nat) : Int) x6)) else (tenorref2_Unhex.j5 k ⟨l.toArray⟩ (p.length : Int) ((x5 : Nat) : Int) x6))) (fun k => ?_) (Ev.bind hn ?_)
    · rw [tenorref2_Unhex.l0, sizeL, if_pos (by omega), if_pos (by omega), hbt]
    · exact Ev.congr (fun k => by rw [if_neg (by omega)]) h
  intro n
  induction n with
  | zero =>
    intro m p x5 x6 hm hl hb h1 h2
    have : m = 0 := by simpa using hm
    subst this
    refine ⟨0, 0, p, by omega, by simp, by simp, hl, fun R h => hstop p x5 x6 hl R ?_⟩
    simpa using h
  | succ n ih =>
    intro m p x5 x6 hm hl hb h1 h2
    by_cases h0 : m = 0
    · subst h0
      rw [nib, if_pos rfl, List.nil_append] at hl
      refine ⟨0, 0, p, by omega, by simp, by simp, hl, fun R h => hstop p x5 x6 hl R ?_⟩
      simpa using h
    · have hd : m / 16 ^ n < 16 := Nat.div_lt_of_lt_mul (by rw [Nat.pow_succ] at hm; exact hm)
      have hr : m % 16 ^ n < 16 ^ n := Nat.mod_lt _ (Nat.pow_pos (by omega))
      have hdm := Nat.div_add_mod m (16 ^ n)
      obtain ⟨q, hq⟩ : ∃ q, q = m / 16 ^ n := ⟨_, rfl⟩
      rw [← hq] at hd hdm
      rw [nib, if_neg h0, ← hq, List.cons_append] at hl
      have hl2 : l = (p ++ [hx q]) ++ (nib n (m % 16 ^ n) ++ 112 :: r) := by rw [hl]; simp
      have hp : 0 < 16 ^ n := Nat.pow_pos (by omega)
      have hb1 : x5 * 16 ^ (n + 1) + 16 ^ (n + 1) = (x5 * 16 + 16) * 16 ^ n := by rw [Nat.pow_succ', Nat.add_mul, Nat.mul_assoc]
      have hb2 : (16 * x5 + q) * 16 ^ n + 16 ^ n = (16 * x5 + q + 1) * 16 ^ n := by rw [Nat.add_mul (16 * x5 + q) 1, Nat.one_mul]
      have hb3 : (16 * x5 + q + 1) * 16 ^ n ≤ (x5 * 16 + 16) * 16 ^ n := Nat.mul_le_mul_right _ (by omega)
      have hx5 : x5 * 16 + 16 ≤ 1152921504606846976 := by
        have : (x5 * 16 + 16) * 1 ≤ (x5 * 16 + 16) * 16 ^ n := Nat.mul_le_mul_left _ hp
        omega
      obtain ⟨v, k', p', a1, a2, a3, a4, a5⟩ := ih (m % 16 ^ n) (p ++ [hx q]) (16 * x5 + q) (x6 - 4) hr hl2 (by omega) (by omega) (by omega)
      refine ⟨q * 16 ^ k' + v, k' + 1, p', by omega, ?_, ?_, a4, fun R h => ?_⟩
      · rw [show n + 1 - (k' + 1) = n - k' by omega, Nat.add_mul, Nat.mul_assoc, ← Nat.pow_add, show k' + (n - k') = n by omega, a2, Nat.mul_comm]
        exact hdm
      · have : (q + 1) * 16 ^ k' ≤ 16 * 16 ^ k' := Nat.mul_le_mul_right _ hd
        rw [Nat.pow_succ, Nat.mul_comm (16 ^ k')]
        rw [Nat.add_mul] at this; omega
      · have hbt := bt_pre hl
        have hpl : p.length < l.length := by rw [hl]; simp
        have hn := nib_bt ⟨l.toArray⟩ ((p.length : Nat) : Int)
        rw [hbt, Int.toNat_natCast, nbV_hx hd] at hn
        have h' := a5 R (by
          refine Ev.congr (fun k => ?_) h
          congr 1
          · congr 1
            rw [Nat.pow_succ, Nat.add_mul, Nat.add_assoc, Nat.mul_comm 16 x5, Nat.mul_assoc, Nat.mul_comm 16 (16 ^ k')]
          · push_cast; omega)
        refine Ev.step (f := fun k => (tenorref2_nibble.f k (((hx q).toNat : Nat) : Int)).bind fun t483 => (if t483 ≥ 0 then (if x6 > (-60) then ((tenorref2_nibble.f k (((hx q).toNat : Nat) : Int)).bind fun t484 => (tenorref2_Unhex.l0 k ⟨l.toArray⟩ (wrap64 ((p.length : Int) + 1)) (wrap64 ((wrap64 (16 * ((x5 : Nat) : Int))) + t484)) (wrap64 (x6 - 4)))) else (tenorref2_Unhex.j5 k ⟨l.toArray⟩ (p.length : Int) ((x5 : Nat) : Int) x6)) else (tenorref2_Unhex.j5 k ⟨l.toArray⟩ (p.length : Int) ((x5 : Nat) : Int) x6))) (fun k => ?_) (Ev.bind hn ?_)
        · rw [tenorref2_Unhex.l0, sizeL, if_pos (by omega), if_pos (by omega), hbt]
        · refine Ev.congr (fun k => by rw [if_pos (by omega), if_pos (by omega)]) (Ev.bind hn ?_)
          refine Ev.congr (fun k => ?_) h'
          rw [w64 (x := (p.length : Int) + 1) (by omega) (by omega), w64 (x := 16 * ((x5 : Nat) : Int)) (by omega) (by omega), w64 (x := 16 * ((x5 : Nat) : Int) + (q : Int)) (by omega) (by omega), w64 (x := x6 - 4) (by omega) (by omega)]
          congr 1
          simp
theorem l1_digs (l : List UInt8) (hlen : l.length ≤ 1000) (x5 : Int) (x6 : Int) (x7 : Bool) (R : Int × Int) : ∀ (ds p : List UInt8) (x8 : Nat), l = p ++ ds → (∀ c ∈ ds, Num.isD c) → Num.dv x8 ds < 10000 →
    Ev (fun k => tenorref2_Unhex.j8 k ⟨l.toArray⟩ x5 x6 x7 ((Num.dv x8 ds : Nat) : Int)) R → Ev (fun k => tenorref2_Unhex.l1 k ⟨l.toArray⟩ ((p.length : Nat) : Int) x5 x6 x7 ((x8 : Nat) : Int)) R := by
  intro ds
  induction ds with
  | nil =>
    intro p x8 hl _ _ h
    rw [Num.dv_nil] at h
    refine Ev.step (fun k => ?_) h
    have : p.length = l.length := by rw [hl]; simp
    rw [tenorref2_Unhex.l1, sizeL, if_neg (by omega)]
  | cons c ds ih =>
    intro p x8 hl hd hv h
    have hc : 48 ≤ c.toNat ∧ c.toNat ≤ 57 := hd c (by simp)
    have hge := Num.dv_ge (c :: ds) x8
    have hp1 : 1 ≤ 10 ^ (c :: ds).length := Nat.pow_pos (by decide)
    have hx8 : x8 * 1 ≤ x8 * 10 ^ (c :: ds).length := Nat.mul_le_mul_left _ hp1
    have hbt := bt_pre hl
    have hpl : p.length < l.length := by rw [hl]; simp
    rw [Num.dv_cons] at hv h hge
    have h' := ih (p ++ [c]) (10 * x8 + (c.toNat - 48)) (by rw [hl]; simp) (fun x hx => hd x (by simp [hx])) hv h
    refine Ev.step (fun k => ?_) h'
    rw [tenorref2_Unhex.l1, sizeL, hbt, if_pos (by omega), if_pos (by omega), if_pos (by omega), if_pos (by omega), if_pos (by omega)]
    rw [w64 (x := ((p.length : Nat) : Int) + 1) (by omega) (by omega), w64 (x := 10 * ((x8 : Nat) : Int)) (by omega) (by omega), w64 (by omega) (by omega)]
    congr 1
    · simp
    · omega
theorem j5_end (l P T : List UInt8) (hlen : l.length ≤ 1000) (c : UInt8) (ds : List UInt8) (hl : l = P ++ 112 :: c :: ds) (hds : ∀ c ∈ ds, Num.isD c) (hv : Num.dv 0 ds < 10000) (D : Nat) (hD : D < 72057594037927936) (x6 : Int) (E : Int)
    (hE : E = if c = 45 then -((Num.dv 0 ds : Nat) : Int) else ((Num.dv 0 ds : Nat) : Int)) :
    Ev (fun k => tenorref2_Unhex.j5 k ⟨l.toArray⟩ ((P.length : Nat) : Int) ((D : Nat) : Int) x6) (chk l (sgnd l (nb false D (clampE (wrap64 (x6 + E))) false))) := by
  have h1 := bt_pre hl
  have hl2 : l = (P ++ [112]) ++ c :: ds := by rw [hl]; simp
  have hl3 : l = (P ++ [112, c]) ++ ds := by rw [hl]; simp
  have h2 := bt_pre hl2
  have hlp : P.length + 2 ≤ l.length := by rw [hl]; simp
  have hpl : ((P ++ [112]).length : Int) = ((P.length : Nat) : Int) + 1 := by simp
  rw [hpl] at h2
  have h9 := j9_ev l (by omega) D hD x6 E
  have h8 : Ev (fun k => tenorref2_Unhex.j8 k ⟨l.toArray⟩ (D : Int) x6 (((c.toNat : Nat) : Int) == 45) ((Num.dv 0 ds : Nat) : Int)) (chk l (sgnd l (nb false D (clampE (wrap64 (x6 + E))) false))) := by
    by_cases hc : c = 45
    · subst hc
      rw [if_pos rfl] at hE
      refine Ev.step (fun k => ?_) h9
      rw [show ((((45 : UInt8).toNat : Nat) : Int) == 45) = true from by decide, tenorref2_Unhex.j8, if_pos rfl, w64 (by omega) (by omega), ← hE]
    · rw [if_neg hc] at hE
      have hcn : ¬ ((c.toNat : Nat) : Int) = 45 := fun h => hc (UInt8.toNat_inj.1 (by show c.toNat = 45; omega))
      refine Ev.step (fun k => ?_) h9
      rw [show (((c.toNat : Nat) : Int) == 45) = false from by simpa using hcn, tenorref2_Unhex.j8, if_neg (by simp), ← hE]
  have h7 := l1_digs l hlen (D : Int) x6 (((c.toNat : Nat) : Int) == 45) _ ds (P ++ [112, c]) 0 hl3 hds hv h8
  refine Ev.step (f := fun k => tenorref2_Unhex.j6 k ⟨l.toArray⟩ ((P.length : Nat) : Int) ((D : Nat) : Int) x6 false) (fun k => ?_) (Ev.step (fun k => ?_) h7)
  · rw [tenorref2_Unhex.j5, sizeL, w64 (x := ((P.length : Nat) : Int) + 1) (by omega) (by omega), if_neg (by omega), if_pos (by omega), if_pos (by omega), h1, if_pos (by decide), if_neg (by omega), decide_eq_false (by omega)]
  · rw [tenorref2_Unhex.j6, if_neg (by simp), sizeL, w64 (x := ((P.length : Nat) : Int) + 1) (by omega) (by omega), if_pos (by omega), if_pos (by omega), h2, w64 (x := ((P.length : Nat) : Int) + 2) (by omega) (by omega)]
    congr 1
    simp
theorem head_ev (l : List UInt8) (ng : Bool) (d c : UInt8) (r : List UInt8) (hlen : l.length ≤ 40) (hr : 1 ≤ r.length) (hl : l = (if ng then [45] else []) ++ 48 :: 120 :: d :: c :: r) (R : Int × Int)
    (h : Ev (fun k => tenorref2_Unhex.j3 k ⟨l.toArray⟩ (((if ng then 1 else 0) + 3 : Nat) : Int) (nbV d.toNat) 0 (((c.toNat : Nat) : Int) == 46)) R) : Ev (fun k => tenorref2_Unhex.f k ⟨l.toArray⟩) R := by
  obtain ⟨sg, hsg⟩ : ∃ sg : List UInt8, sg = if ng then [45] else [] := ⟨_, rfl⟩
  rw [← hsg] at hl
  have hsl : sg.length = if ng then 1 else 0 := by rw [hsg]; cases ng <;> rfl
  have hs1 : sg.length ≤ 1 := by rw [hsl]; split <;> omega
  rw [← hsl] at h
  have b0 := bt_pre hl
  have b1 := bt_pre (l := l) (p := sg ++ [48]) (c := 120) (r := d :: c :: r) (by rw [hl]; simp)
  have b2 := bt_pre (l := l) (p := sg ++ [48, 120]) (c := d) (r := c :: r) (by rw [hl]; simp)
  have b3 := bt_pre (l := l) (p := sg ++ [48, 120, d]) (c := c) (r := r) (by rw [hl]; simp)
  rw [show (((sg ++ [(48 : UInt8)]).length : Nat) : Int) = (sg.length : Int) + 1 from by simp] at b1
  rw [show (sg ++ [(48 : UInt8), 120]).length = sg.length + 2 from by simp] at b2
  rw [show (sg ++ [(48 : UInt8), 120, d]).length = sg.length + 3 from by simp] at b3
  have hll : l.length = sg.length + 4 + r.length := by rw [hl]; simp; omega
  have hj1 : Ev (fun k => tenorref2_Unhex.j1 k ⟨l.toArray⟩ ((sg.length : Nat) : Int)) R := by
    refine Ev.step (fun k => ?_) (j2_false l (by omega) sg.length (by omega) R (by rw [b2, b3, Int.toNat_natCast]; exact h))
    rw [tenorref2_Unhex.j1, sizeL, w64 (x := ((sg.length : Nat) : Int) + 5) (by omega) (by omega), if_neg (by omega), if_pos (by omega), if_pos (by omega), b0, if_pos (by decide), w64 (x := ((sg.length : Nat) : Int) + 1) (by omega) (by omega), if_pos (by omega), if_pos (by omega), b1]
    rfl
  have hb0 : (bt ⟨l.toArray⟩ 0 == 45) = ng := by
    cases ng
    · have := bt_pre (l := l) (p := []) (c := 48) (r := 120 :: d :: c :: r) (by rw [hl, hsg]; rfl)
      rw [show (0 : Int) = ((([] : List UInt8).length : Nat) : Int) from rfl, this]
      decide
    · have := bt_pre (l := l) (p := []) (c := 45) (r := 48 :: 120 :: d :: c :: r) (by rw [hl, hsg]; rfl)
      rw [show (0 : Int) = ((([] : List UInt8).length : Nat) : Int) from rfl, this]
      decide
  refine Ev.congr (f := fun k => tenorref2_Unhex.j0 k ⟨l.toArray⟩ 0 ng) (fun k => ?_) (Ev.step (fun k => ?_) hj1)
  · unfold tenorref2_Unhex.f
    rw [sizeL, if_neg (by omega), if_pos (by omega), hb0]
  · rw [tenorref2_Unhex.j0, hsl]
    cases ng
    · rw [if_neg (by simp)]; rfl
    · rw [if_pos rfl, w64 (by omega) (by omega)]; rfl
theorem bt0_sgn (l : List UInt8) (ng : Bool) (r : List UInt8) (hl : l = (if ng then [45] else []) ++ 48 :: r) : (bt ⟨l.toArray⟩ 0 = 45) ↔ ng = true := by
  cases ng
  · have := bt_pre (l := l) (p := []) (c := 48) (r := r) (by rw [hl]; rfl)
    rw [show (0 : Int) = ((([] : List UInt8).length : Nat) : Int) from rfl, this]
    simp
  · have := bt_pre (l := l) (p := []) (c := 45) (r := 48 :: r) (by rw [hl]; rfl)
    rw [show (0 : Int) = ((([] : List UInt8).length : Nat) : Int) from rfl, this]
    simp
theorem sgnd_sz (l : List UInt8) (b : Nat) (hb : b < 18446744073709551616) (r : List UInt8) (hl : l = (if neg b then [45] else []) ++ 48 :: r) : sgnd l (sz b) = b := by
  have h := bt0_sgn l (neg b) r hl
  unfold sgnd
  unfold neg at h
  unfold sz
  by_cases hn : 9223372036854775808 ≤ b
  · rw [if_pos (h.2 (decide_eq_true hn))]; omega
  · rw [if_neg (fun h2 => hn (of_decide_eq_true (h.1 h2)))]; omega
theorem chk_self (b : Nat) (h : sz b < 9218868437227405312) : chk (hexOf b) b = ((b : Int), 0) := by
  unfold chk
  rw [if_pos ⟨h, rfl⟩]
theorem itoa_split (E : Int) (h1 : -10000 < E) (h2 : E < 10000) : ∃ (c : UInt8) (ds : List UInt8), (if 0 ≤ E then [112, 43] else [112]) ++ Lib.itoa E = 112 :: c :: ds ∧ (∀ x ∈ ds, Num.isD x) ∧ Num.dv 0 ds < 10000 ∧ E = (if c = 45 then -((Num.dv 0 ds : Nat) : Int) else ((Num.dv 0 ds : Nat) : Int)) ∧ c ≠ 46 ∧ 1 ≤ ds.length := by
  by_cases h : 0 ≤ E
  · refine ⟨43, Lib.decDigits E.toNat, ?_, Num.dec_digits _, by rw [Num.dv_dec]; omega, ?_, by decide, ?_⟩
    · rw [if_pos h]
      unfold Lib.itoa
      rw [if_neg (by omega)]; rfl
    · rw [if_neg (by decide), Num.dv_dec]; omega
    · exact List.length_pos_iff.2 (Num.dec_ne _)
  · refine ⟨45, Lib.decDigits E.natAbs, ?_, Num.dec_digits _, by rw [Num.dv_dec]; omega, ?_, by decide, ?_⟩
    · rw [if_neg h]
      unfold Lib.itoa
      rw [if_pos (by omega)]; rfl
    · rw [if_pos rfl, Num.dv_dec]; omega
    · exact List.length_pos_iff.2 (Num.dec_ne _)
theorem nib_run (l r : List UInt8) (hlen : l.length ≤ 1000) (m : Nat) (hm : m < 4503599627370496) (p : List UInt8) (hl : l = p ++ (nib 13 m ++ 112 :: r)) :
    ∃ (v k' : Nat) (p' : List UInt8), k' ≤ 13 ∧ v * 16 ^ (13 - k') = m ∧ v < 16 ^ k' ∧ l = p' ++ 112 :: r ∧
      ∀ R, Ev (fun k => tenorref2_Unhex.j5 k ⟨l.toArray⟩ ((p'.length : Nat) : Int) ((16 ^ k' + v : Nat) : Int) (0 - 4 * k')) R → Ev (fun k => tenorref2_Unhex.l0 k ⟨l.toArray⟩ ((p.length : Nat) : Int) 1 0) R := by
  have p13 : (16 : Nat) ^ 13 = 4503599627370496 := by decide
  obtain ⟨v, k', p', a1, a2, a3, a4, a5⟩ := l0_nib l r hlen 13 m p 1 0 (by rw [p13]; exact hm) hl (by rw [p13, Nat.one_mul]; decide) (by decide) (by decide)
  refine ⟨v, k', p', a1, a2, a3, a4, fun R h => a5 R ?_⟩
  rw [Nat.one_mul]
  exact h
theorem pow13 : (16 : Nat) ^ 13 = 4503599627370496 := by decide
theorem unhex_exact (b : Nat) (hb : b < 18446744073709551616) (h : sz b < 9218868437227405312) (h40 : (hexOf b).length ≤ 40) : Ev (fun k => tenorref2_Unhex.f k ⟨(hexOf b).toArray⟩) ((b : Int), 0) := by
  obtain ⟨l, hl⟩ : ∃ l, l = hexOf b := ⟨_, rfl⟩
  have hck := chk_self b h
  rw [← hl] at hck h40 ⊢
  unfold hexOf at hl
  by_cases h0 : sz b = 0
  · rw [if_pos h0] at hl
    unfold hexZ at hl
    refine head_ev l (neg b) 48 112 [43, 48] h40 (by decide) hl _ ?_
    have hP : l = ((if neg b then [45] else []) ++ [48, 120, 48]) ++ 112 :: 43 :: [48] := by rw [hl]; simp
    have hj := j5_end l _ [] (by omega) 43 [48] hP (by decide) (by decide) 0 (by decide) 0 0 (by decide)
    have hnb : nb false 0 (clampE (wrap64 (0 + 0))) false = sz b := by rw [h0]; unfold nb; exact if_pos rfl
    rw [hnb, sgnd_sz l b hb _ hl, hck] at hj
    refine Ev.step (fun k => ?_) hj
    rw [show (((((112 : UInt8).toNat) : Nat) : Int) == 46) = false from by decide, tenorref2_Unhex.j3, if_neg (by simp)]
    congr 1
    · cases neg b <;> rfl
  · rw [if_neg h0] at hl
    have hr := spM_range (sz b) (by omega)
    have he := spE_range (sz b) (by omega) h
    have hu := up_spec _ hr.1 hr.2
    have hup : up (spM (sz b)) ≤ 52 := by unfold up; omega
    obtain ⟨M, hM⟩ : ∃ M, M = spM (sz b) * 2 ^ up (spM (sz b)) := ⟨_, rfl⟩
    obtain ⟨E, hE⟩ : ∃ E : Int, E = spE (sz b) - up (spM (sz b)) + 52 := ⟨_, rfl⟩
    rw [← hM, ← hE] at hl
    rw [← hM] at hu
    obtain ⟨c, ds, i1, i2, i3, i4, i5, i6⟩ := itoa_split E (by omega) (by omega)
    unfold hexT at hl
    rw [List.append_assoc, i1] at hl
    have hV := V_sp (sz b) (by omega) h
    have fin : ∀ (D k' : Nat), 0 < D → D < 72057594037927936 → k' ≤ 13 → D * 16 ^ (13 - k') = M → nb false D (clampE (wrap64 ((0 - 4 * (k' : Int)) + E))) false = sz b := by
      intro D k' hD hD2 hk hDM
      have e1 : wrap64 ((0 - 4 * (k' : Int)) + E) = E - 4 * k' := by rw [w64 (by omega) (by omega)]; omega
      rw [e1, clampE_id _ (by omega) (by omega)]
      unfold nb
      rw [if_neg (by omega)]
      rw [nbS_exact (sz b) (by omega) D (by omega) (E - 4 * k') (52 - 4 * k' + (spE (sz b) + 1074).toNat) (up (spM (sz b))) (by omega) ?_]
      · simp
      · rw [hV, Nat.mul_right_comm, ← hM, ← hDM, Nat.pow_add, ← Nat.mul_assoc]
        congr 2
        rw [show 52 - 4 * k' = 4 * (13 - k') by omega, Nat.pow_mul]
    by_cases hM0 : M = 4503599627370496
    · rw [if_pos hM0, List.append_nil] at hl
      have hl1 : l = (if neg b then [45] else []) ++ 48 :: 120 :: 49 :: 112 :: (c :: ds) := by rw [hl]; simp
      have hP : l = ((if neg b then [45] else []) ++ [48, 120, 49]) ++ 112 :: c :: ds := by rw [hl]
      refine head_ev l (neg b) 49 112 (c :: ds) h40 (by simp) hl1 _ ?_
      have hj := j5_end l _ [] (by omega) c ds hP i2 i3 1 (by decide) 0 E i4
      have hf := fin 1 0 (by decide) (by decide) (by decide) (by rw [hM0, Nat.one_mul, Nat.sub_zero, pow13])
      rw [show ((0 : Int) - 4 * ((0 : Nat) : Int)) = 0 by decide] at hf
      rw [hf, sgnd_sz l b hb _ hl1, hck] at hj
      refine Ev.step (fun k => ?_) hj
      rw [show (((((112 : UInt8).toNat) : Nat) : Int) == 46) = false from by decide, tenorref2_Unhex.j3, if_neg (by simp)]
      congr 1
      cases neg b <;> rfl
    · obtain ⟨q, hq⟩ : ∃ q, q = M - 4503599627370496 := ⟨_, rfl⟩
      have hq2 : q < 4503599627370496 := by omega
      obtain ⟨F, hF⟩ : ∃ F, F = nib 13 q := ⟨_, rfl⟩
      rw [if_neg hM0, ← hq, frac_nib q hq2, ← hF] at hl
      have hl1 : l = (if neg b then [45] else []) ++ 48 :: 120 :: 49 :: 46 :: (F ++ 112 :: c :: ds) := by rw [hl]; simp
      have hl2 : l = ((if neg b then [45] else []) ++ [48, 120, 49, 46]) ++ (F ++ 112 :: c :: ds) := by rw [hl1]; simp
      rw [hF] at hl2
      obtain ⟨v, k', p', a1, a2, a3, a4, a5⟩ := nib_run l (c :: ds) (by omega) q hq2 ((if neg b then [45] else []) ++ [48, 120, 49, 46]) hl2
      have hp16 : 0 < 16 ^ k' := Nat.pow_pos (by decide)
      have hkk : 16 ^ k' * 16 ^ (13 - k') = 4503599627370496 := by
        have e : 16 ^ k' * 16 ^ (13 - k') = 16 ^ 13 := by rw [← Nat.pow_add, Nat.add_sub_of_le a1]
        exact e.trans pow13
      have hle : 16 ^ k' ≤ 4503599627370496 := by rw [← pow13]; exact Nat.pow_le_pow_right (by decide) a1
      refine head_ev l (neg b) 49 46 _ h40 (by simp; omega) hl1 _ ?_
      have hj := j5_end l p' [] (by omega) c ds a4 i2 i3 (16 ^ k' + v) (by omega) (0 - 4 * (k' : Int)) E i4
      have hf := fin (16 ^ k' + v) k' (by omega) (by omega) a1 (by rw [Nat.add_mul, a2, hkk]; omega)
      rw [hf, sgnd_sz l b hb _ hl1, hck] at hj
      have h0' := a5 _ hj
      refine Ev.step (fun k => ?_) h0'
      rw [show (((((46 : UInt8).toNat) : Nat) : Int) == 46) = true from by decide, tenorref2_Unhex.j3, if_pos rfl, w64 (by split <;> omega) (by split <;> omega)]
      congr 1
      cases neg b <;> rfl
end Go.Proofs.YtjpiplplohapnaaGreatDoor.Big
namespace Go.Proofs.YtjpiplplohapnaaGreatDoor.PText
open Go.RowKit Go.Proofs.YtjpiplplohapnaaGreatDoorW.PrintWords Go.Proofs.YtjpiplplohapnaaGreatDoorW.PrintLast Go.Proofs.YtjpiplplohapnaaGreatDoorW.PrintMore
attribute [local go_sem] max2_int min2_int max_two min_two max_three min_three max_four min_four
set_option linter.unusedVariables false
set_option linter.unusedSimpArgs false
def tenorref1_IsNaN.f (a0 : Int) : Option (Bool) := some (decide ((Go.bits .andNot .u64 a0 9223372036854775808) > 9218868437227405312))
set_option maxHeartbeats 8000000 in
set_option maxRecDepth 100000 in
theorem tenorref1_IsNaN.calls (a0 : Int) (r : Bool) (w : World) (h : tenorref1_IsNaN.f a0 = some r) :
    Calls Tryz.prog 65 #[.int .u64 a0] w fun e w' => e = .returned (.bool r) ∧ Drawn0 w w' := by
  have H : (some (decide ((Go.bits .andNot .u64 a0 9223372036854775808) > 9218868437227405312))) = some r := h
  clear h
  obtain rfl := Option.some.inj H
  go_enter Tryz.func65, Tryz.ntmps65
  go_wp2
  go_ret
  exact ⟨by first | rfl | (simp; done) | (simp [*]; done), by repeat (first | exact Drawn0.refl _ | apply Drawn0.step)⟩
def tenorref1_Same.f (a0 : Int) (a1 : Int) : Option (Bool) := if a0 = a1 then (some true) else ((tenorref1_IsNaN.f a0).bind fun t328 => (if t328 = true then ((tenorref1_IsNaN.f a1).bind fun t329 => (some t329)) else (some false)))
set_option maxHeartbeats 8000000 in
set_option maxRecDepth 100000 in
theorem tenorref1_Same.calls (a0 : Int) (a1 : Int) (r : Bool) (w : World) (h : tenorref1_Same.f a0 a1 = some r) :
    Calls Tryz.prog 29 #[.int .u64 a0, .int .u64 a1] w fun e w' => e = .returned (.bool r) ∧ Drawn0 w w' := by
  have H : (if a0 = a1 then (some true) else ((tenorref1_IsNaN.f a0).bind fun t328 => (if t328 = true then ((tenorref1_IsNaN.f a1).bind fun t329 => (some t329)) else (some false)))) = some r := h
  clear h
  by_cases c3 : a0 = a1
  · rw [if_pos c3] at H
    have c3b0 : (a0 == a1) = true := beq_iff_eq.mpr c3
    have c3b1 : (a0 != a1) = false := bne_eq_false_iff_eq.mpr c3
    clear c3
    obtain rfl := Option.some.inj H
    go_enter Tryz.func29, Tryz.ntmps29
    go_wp2
    go_ret
    exact ⟨by first | rfl | (simp; done) | (simp [*]; done), by repeat (first | exact Drawn0.refl _ | apply Drawn0.step)⟩
  rw [if_neg c3] at H
  have c3b0 : (a0 == a1) = false := beq_eq_false_iff_ne.mpr c3
  have c3b1 : (a0 != a1) = true := bne_iff_ne.mpr c3
  replace H := Option.bind_eq_some_iff.mp H
  obtain ⟨t328, A40, H⟩ := H
  replace H : (if t328 = true then ((tenorref1_IsNaN.f a1).bind fun t329 => (some t329)) else (some false)) = some r := H
  have A4 := Aside0.mk A40
  clear A40
  by_cases c5 : t328 = true
  · subst c5
    have H1 : ((tenorref1_IsNaN.f a1).bind fun t329 => (some t329)) = some r := by rw [if_pos rfl] at H; exact H
    clear H
    have H := H1
    clear H1
    replace H := Option.bind_eq_some_iff.mp H
    obtain ⟨t329, A60, H⟩ := H
    replace H : (some t329) = some r := H
    have A6 := Aside0.mk A60
    clear A60
    obtain rfl := Option.some.inj H
    go_enter Tryz.func29, Tryz.ntmps29
    go_wp2_with (first | (go_at_call 65; (with_reducible refine (tenorref1_IsNaN.calls a0 true _ A4.out).mono ?_); rintro e w' ⟨rfl, ⟨nd, rfl⟩⟩) | (go_at_call 65; (with_reducible refine (tenorref1_IsNaN.calls a1 t329 _ A6.out).mono ?_); rintro e w' ⟨rfl, ⟨nd, rfl⟩⟩))
    go_ret
    exact ⟨by first | rfl | (simp; done) | (simp [*]; done), by repeat (first | exact Drawn0.refl _ | apply Drawn0.step)⟩
  replace c5 := Bool.eq_false_iff.mpr c5
  subst c5
  have H1 : (some false) = some r := by rw [if_neg (show ¬ (false = true) by decide)] at H; exact H
  clear H
  have H := H1
  clear H1
  obtain rfl := Option.some.inj H
  go_enter Tryz.func29, Tryz.ntmps29
  go_wp2_with (first | (go_at_call 65; (with_reducible refine (tenorref1_IsNaN.calls a0 false _ A4.out).mono ?_); rintro e w' ⟨rfl, ⟨nd, rfl⟩⟩))
  go_ret
  exact ⟨by first | rfl | (simp; done) | (simp [*]; done), by repeat (first | exact Drawn0.refl _ | apply Drawn0.step)⟩
end Go.Proofs.YtjpiplplohapnaaGreatDoor.PText
namespace Go.Proofs.YtjpiplplohapnaaGreatDoor
open Go.RowKit Go.Sort Go.Proofs.YtjpiplplohapnaaGreatDoorW.PrintWords Rf Ah PText Big
theorem is_self (b : Nat) (w : World) : Calls Tryz.prog 12 #[.float .f64 b, .int .u64 b] w fun e w' => e = .returned (.bool true) ∧ Below w.heap.size w w' := by
  have h0 := apiBits
  have hS : ∀ w : World, Calls Tryz.prog 29 #[.int .u64 b, .int .u64 b] w fun e w' => e = .returned (.bool true) ∧ Below w.heap.size w w' := fun w =>
    (tenorref1_Same.calls (b : Int) (b : Int) true w (by unfold tenorref1_Same.f; rw [if_pos rfl])).mono fun e w' ⟨h1, h2⟩ => ⟨h1, h2.below⟩
  go_enter Tryz.func12, Tryz.ntmps12
  go_wp2_with (go_at_call 16; refine (apiBits _ _).mono ?_; rintro e w1 ⟨rfl, hw1⟩; obtain rfl := hw1.symm)
  refine (hS _).mono ?_
  rintro e w2 ⟨rfl, hb2⟩
  go_wp2_with fail
  go_ret
  exact ⟨rfl, hb2⟩
theorem refUnhex_walk (s : ByteArray) (w : World) : Calls Tryz.prog 22 #[.string s] w fun e w' => Below w.heap.size w w' ∧
    ((∃ b : Nat, b < 18446744073709551616 ∧ sz b < 9218868437227405312 ∧ s.data.toList = hexOf b ∧ e = .returned (.tuple #[.int .u64 b, .int .i64 0])) ∨
      ((∀ b : Nat, b < 18446744073709551616 → sz b < 9218868437227405312 → s.data.toList ≠ hexOf b) ∧ e = .returned (.tuple #[.int .u64 0, .int .i64 20]))) := by
  obtain ⟨l, hl⟩ : ∃ l, l = s.data.toList := ⟨_, rfl⟩
  obtain rfl : s = ⟨l.toArray⟩ := by rw [hl]
  clear hl
  by_cases hx : ∃ b : Nat, b < 18446744073709551616 ∧ sz b < 9218868437227405312 ∧ l = hexOf b
  · obtain ⟨b, h1, h2, rfl⟩ := hx
    obtain ⟨k, hk⟩ := (unhex_exact b h1 h2 (hexOf_len b h2)).rounds
    exact (tenorref2_Unhex.calls k _ _ _ w hk).mono fun e w' ⟨he, hb⟩ => ⟨hb, Or.inl ⟨b, h1, h2, by simp, he⟩⟩
  · obtain ⟨r, hr, he⟩ := unhex_tot l
    obtain ⟨k, hk⟩ := he.rounds
    have h20 : r = (0, 20) := by
      rcases hr with h | ⟨u, a1, a2, a3, -⟩
      · exact h
      · exact absurd ⟨u, a1, a2, a3⟩ hx
    subst h20
    exact (tenorref2_Unhex.calls k _ _ _ w hk).mono fun e w' ⟨he, hb⟩ => ⟨hb, Or.inr ⟨fun b c1 c2 c3 => hx ⟨b, c1, c2, by simpa using c3⟩, he⟩⟩
theorem refHex_walk (b : Nat) (hb : b < 18446744073709551616) (w : World) :
    Calls Tryz.prog 20 #[.int .u64 b] w fun e w' => e = .returned (if sz b < 9218868437227405312 then .tuple #[.string ⟨(hexOf b).toArray⟩, .int .i64 0] else .tuple #[.string ⟨#[]⟩, .int .i64 20]) ∧ Below w.heap.size w w' := by
  by_cases h : sz b < 9218868437227405312
  · rw [if_pos h]
    obtain ⟨k, hk⟩ := (refHex_ev b hb h).rounds
    exact tenorref2_Hex.calls k _ _ _ w hk
  · rw [if_neg h]
    exact tenorref2_Hex.calls 0 _ _ _ w (refHex_not b hb h 0)
theorem hex_both (b : Nat) (hb : b < 18446744073709551616) : ∃ (t : ByteArray) (c : Int),
    (∀ w, Laid w → Calls Tryz.prog 19 #[.float .f64 b] w fun e w' => e = .returned (.tuple #[.string t, .int .i64 c]) ∧ Below w.heap.size w w') ∧
    (∀ w, Calls Tryz.prog 20 #[.int .u64 b] w fun e w' => e = .returned (.tuple #[.string t, .int .i64 c]) ∧ Below w.heap.size w w') := by
  by_cases h : sz b < 9218868437227405312
  · refine ⟨⟨(hexOf b).toArray⟩, 0, fun w hL => ?_, fun w => ?_⟩
    · have := hex_walk b hb w hL; rw [if_pos h] at this; exact this
    · have := refHex_walk b hb w; rw [if_pos h] at this; exact this
  · refine ⟨⟨#[]⟩, 20, fun w hL => ?_, fun w => ?_⟩
    · have := hex_walk b hb w hL; rw [if_neg h] at this; exact this
    · have := refHex_walk b hb w; rw [if_neg h] at this; exact this
theorem hexOf_one {a b : Nat} (ha : a < 18446744073709551616) (hb : b < 18446744073709551616) (ka : sz a < 9218868437227405312) (kb : sz b < 9218868437227405312) (h : hexOf a = hexOf b) : a = b := by
  obtain ⟨K, h1⟩ := unhex_exact a ha ka (hexOf_len a ka)
  obtain ⟨K', h2⟩ := unhex_exact b hb kb (hexOf_len b kb)
  rw [h] at h1
  have e1 := h1 (max K K') (Nat.le_max_left _ _)
  have e2 := h2 (max K K') (Nat.le_max_right _ _)
  have e1' : tenorref2_Unhex.f (max K K') ⟨(hexOf b).toArray⟩ = some ((a : Int), 0) := e1
  have e2' : tenorref2_Unhex.f (max K K') ⟨(hexOf b).toArray⟩ = some ((b : Int), 0) := e2
  rw [e1'] at e2'
  simp only [Option.some.injEq, Prod.mk.injEq] at e2'
  omega
theorem unhex_both (s : ByteArray) : ∃ (b : Nat) (c : Int),
    (∀ w, LaidB w → Calls Tryz.prog 21 #[.string s] w fun e w' => e = .returned (.tuple #[.float .f64 b, .int .i64 c]) ∧ Below w.heap.size w w') ∧
    (∀ w, Calls Tryz.prog 22 #[.string s] w fun e w' => e = .returned (.tuple #[.int .u64 b, .int .i64 c]) ∧ Below w.heap.size w w') := by
  by_cases hx : ∃ b : Nat, b < 18446744073709551616 ∧ sz b < 9218868437227405312 ∧ s.data.toList = hexOf b
  · obtain ⟨b, h1, h2, h3⟩ := hx
    refine ⟨b, 0, fun w hL => (unhex_walk s w hL).mono fun e w' ⟨hb, hc⟩ => ?_, fun w => (refUnhex_walk s w).mono fun e w' ⟨hb, hc⟩ => ?_⟩
    · rcases hc with ⟨c, c1, c2, c3, rfl⟩ | ⟨hn, -⟩
      · obtain rfl : b = c := hexOf_one h1 c1 h2 c2 (h3.symm.trans c3)
        exact ⟨rfl, hb⟩
      · exact absurd h3 (hn b h1 h2)
    · rcases hc with ⟨c, c1, c2, c3, rfl⟩ | ⟨hn, -⟩
      · obtain rfl : b = c := hexOf_one h1 c1 h2 c2 (h3.symm.trans c3)
        exact ⟨rfl, hb⟩
      · exact absurd h3 (hn b h1 h2)
  · refine ⟨0, 20, fun w hL => (unhex_walk s w hL).mono fun e w' ⟨hb, hc⟩ => ?_, fun w => (refUnhex_walk s w).mono fun e w' ⟨hb, hc⟩ => ?_⟩
    · rcases hc with ⟨c, c1, c2, c3, rfl⟩ | ⟨-, rfl⟩
      · exact absurd ⟨c, c1, c2, c3⟩ hx
      · exact ⟨rfl, hb⟩
    · rcases hc with ⟨c, c1, c2, c3, rfl⟩ | ⟨-, rfl⟩
      · exact absurd ⟨c, c1, c2, c3⟩ hx
      · exact ⟨rfl, hb⟩
set_option maxRecDepth 100000 in
theorem textHexes_walk (x : Nat) (hx : x < 18446744073709551616) (s : ByteArray) (w : World) (hL : LaidB w) : Calls Tryz.prog 8 #[.float .f64 x, .string s] w fun e w' => e = .returned (.bool true) ∧ Below w.heap.size w w' := by
  obtain ⟨t, c, H1, H2⟩ := hex_both x hx
  obtain ⟨b, d, H3, H4⟩ := unhex_both s
  have H5 := is_self b
  have h0 := apiBits
  clear hx
  go_enter Tryz.func8, Tryz.ntmps8
  go_wp2_with fail
  refine (H1 _ hL.laid).mono ?_
  rintro e w1 ⟨rfl, hb1⟩
  have hL1 := hL.below hb1
  go_wp2_with (go_at_call 16; refine (apiBits _ _).mono ?_; rintro e w1 ⟨rfl, hw1⟩; obtain rfl := hw1.symm)
  refine (H2 _).mono ?_
  rintro e w2 ⟨rfl, hb2⟩
  have hL2 := hL1.below hb2
  have hb02 := hb1.trans (hb2.mono hb1.size)
  clear hL1 hb1 hb2
  go_wp2_with fail
  refine (H3 _ hL2).mono ?_
  rintro e w3 ⟨rfl, hb3⟩
  have hL3 := hL2.below hb3
  have hb03 := hb02.trans (hb3.mono hb02.size)
  clear hL2 hb02 hb3
  go_wp2_with fail
  refine (H4 _).mono ?_
  rintro e w4 ⟨rfl, hb4⟩
  have hL4 := hL3.below hb4
  have hb04 := hb03.trans (hb4.mono hb03.size)
  clear hL3 hb03 hb4
  go_wp2_with fail
  refine (H5 _).mono ?_
  rintro e w5 ⟨rfl, hb5⟩
  have hL5 := hL4.below hb5
  have hb05 := hb04.trans (hb5.mono hb04.size)
  clear hL4 hb04 hb5
  go_wp2_with fail
  refine (awake_true _ hL5.laid).mono ?_
  rintro e w6 ⟨rfl, hb6⟩
  have hb06 := hb05.trans (hb6.mono hb05.size)
  go_wp2_with fail
  go_ret
  exact ⟨rfl, hb06⟩
end Go.Proofs.YtjpiplplohapnaaGreatDoor
