/- Part 3 of the proof: BigB, RCmp, RSub, RShUp, BigC. -/
import Derived.Test.YtjpiplplohapnaaGreatDoorPs2
set_option linter.unusedVariables false
set_option linter.unusedSimpArgs false
namespace Go.Proofs.YtjpiplplohapnaaGreatDoor.Big
open Go.RowKit Go.Proofs.YtjpiplplohapnaaGreatDoorW.PrintWords Go.Proofs.YtjpiplplohapnaaGreatDoorW.PrintLast Go.Proofs.YtjpiplplohapnaaGreatDoorW.PrintMore
open Go.Proofs.YtjpiplplohapnaaGreatDoor.PText
abbrev top : Nat := 1000000000
theorem trim_l0 (L n : Nat) (hL : L ≤ top) (i : Nat) (hi : i ≤ L) (hn : n < B ^ i) : Ev (fun k => z0r.l0 k (dgL L n) (i : Int)) (dg n) := by
  induction i with
  | zero =>
    refine Ev.step (f := fun _ => some (dg n)) (fun k => ?_) (Ev.now _)
    have : n = 0 := by simpa using hn
    subst this
    simp only [z0r.l0]
    rw [if_neg (by omega), if_pos (by omega), if_pos (by simp)]
    simp [dg, z3z, dgL]
  | succ i ih =>
    have e : wrap64 (((i + 1 : Nat) : Int) - 1) = (i : Int) := by rw [w64 (by omega) (by unfold top at hL; omega)]; omega
    by_cases h0 : dig n i = 0
    · have hn' : n < B ^ i := by
        have := split_at n i
        rw [h0, Nat.div_eq_of_lt hn] at this
        have h2 := Nat.mod_lt n (z2x i)
        omega
      refine Ev.step (fun k => ?_) (ih (by omega) hn')
      simp only [z0r.l0]
      rw [e, if_pos (by omega), if_pos (by omega), if_pos (by simp; omega), z7l _ _ _ (by omega), h0, if_pos (by simp)]
    refine Ev.step (f := fun _ => some (dg n)) (fun k => ?_) (Ev.now _)
    simp only [z0r.l0]
    rw [e, if_pos (by omega), if_pos (by omega), if_pos (by simp; omega), z7l _ _ _ (by omega), if_neg (by omega), if_pos (by omega), if_pos (by simp; omega)]
    have hl : ln n = i + 1 := by
      have h1 := ln_le hn
      by_cases h2 : ln n ≤ i
      · exact absurd (dig_ge_ln h2) h0
      omega
    rw [Int.toNat_natCast, take_dgL _ _ _ hi, dg, hl]
theorem z6z (L n : Nat) (hL : L ≤ top) (hn : n < B ^ L) : Ev (fun k => z0r.f k (dgL L n)) (dg n) := by
  unfold z0r.f
  rw [z3b]
  exact trim_l0 L n hL L (Nat.le_refl _) hn
theorem digit_dgL (L n i : Nat) : z0g.f (dgL L n) (i : Int) = some (if i < L then ((dig n i : Nat) : Int) else 0) := by
  unfold z0g.f
  rw [if_neg (by omega), z3b]
  by_cases h : i < L
  · rw [if_neg (by omega), if_pos (by omega), if_pos (by omega), z7l _ _ _ h, if_pos h]
  rw [if_pos (by omega), if_neg h]
theorem z4w (n i : Nat) : z0g.f (dg n) (i : Int) = some ((dig n i : Nat) : Int) := by
  unfold dg
  rw [digit_dgL]
  by_cases h : i < ln n
  · rw [if_pos h]
  rw [if_neg h, dig_ge_ln (by omega)]; rfl
theorem setD_lt {m L j v : Nat} (hm : m < B ^ L) (hj : j < L) (hv : v < B) : setD m j v < B ^ L := by
  induction L generalizing m j with
  | zero => omega
  | succ L ih =>
    rw [Nat.pow_succ', Nat.mul_comm] at hm ⊢
    cases j with
    | zero =>
      rw [setD_zero]
      have h1 : m / B < B ^ L := Nat.div_lt_of_lt_mul (by rw [Nat.mul_comm]; exact hm)
      have := Nat.mul_le_mul_left B (show m / B + 1 ≤ B ^ L from h1)
      rw [Nat.mul_add] at this
      rw [Nat.mul_comm (B ^ L)]; omega
    | succ j =>
      rw [setD_succ]
      have h1 : m / B < B ^ L := Nat.div_lt_of_lt_mul (by rw [Nat.mul_comm]; exact hm)
      have h2 := ih (m := m / B) (j := j) h1 (by omega)
      have := Nat.mul_le_mul_left B (show setD (m / B) j v + 1 ≤ B ^ L from h2)
      rw [Nat.mul_add] at this
      have := Nat.mod_lt m Bpos
      rw [Nat.mul_comm (B ^ L)]; omega
theorem z4s (b k : Nat) : b % B ^ (k + 1) = b % B ^ k + dig b k * B ^ k := by
  rw [Nat.pow_succ, Nat.mod_mul]; unfold dig; rw [Nat.mul_comm]
theorem mul_l1 (a b : Nat) (L : Nat) (hL : L = ln a + ln b + 1) (ht : L ≤ top) (i : Nat) (hi : i < ln a) (r : List Int)
    (hr : ∀ m, m < B ^ L → m = a % B ^ (i + 1) * b → Ev (fun k => z0h.l0 k (dg a) (dg b) (dgL L m) ((i + 1 : Nat) : Int)) r) :
    ∀ (d j m c : Nat), d + j = ln b → m < B ^ (i + ln b) → c < B → m + c * B ^ (i + j) = a % B ^ i * b + dig a i * B ^ i * (b % B ^ j) →
    Ev (fun k => z0h.l1 k (dg a) (dg b) (dgL L m) (i : Int) (c : Int) (j : Int)) r := by
  intro d
  have hmL : ∀ {m : Nat}, m < B ^ (i + ln b) → m < B ^ L := fun h => Nat.lt_of_lt_of_le h (Nat.pow_le_pow_right Bpos (by omega))
  induction d with
  | zero =>
    intro j m c hd hm hc he
    obtain rfl : j = ln b := by omega
    have hz : dig m (i + ln b) = 0 := z5k hm
    have hset := setD_eq m (i + ln b) c
    rw [hz] at hset
    have hb : b % B ^ ln b = b := Nat.mod_eq_of_lt (z1r b)
    refine Ev.step (fun k => ?_) (hr (setD m (i + ln b) c) (setD_lt (hmL hm) (by omega) hc) ?_)
    · simp only [z0h.l1]
      rw [z1c, if_neg (by omega), w64 (by omega) (by unfold top at ht; omega), if_pos (by omega), z3b, if_pos (by omega)]
      have e1 : ((i : Int) + (ln b : Int)) = ((i + ln b : Nat) : Int) := by omega
      rw [e1, z7l _ _ _ (by omega), hz, Int.toNat_natCast]
      rw [w64 (x := (i : Int) + 1) (by omega) (by unfold top at ht; omega)]
      rw [show ((0 : Nat) : Int) + (c : Int) = (c : Int) by omega, wun c (by have : B = 4294967296 := rfl; omega), z5v _ _ _ _ (by omega) hc]
      rfl
    rw [z4s, Nat.add_mul]
    have : dig a i * B ^ i * b = dig a i * B ^ i * (b % B ^ ln b) := by rw [hb]
    omega
  | succ d ih =>
    intro j m c hd hm hc he
    have hj : j < ln b := by omega
    have hB : B = 4294967296 := rfl
    have x1 := z4d m (i + j)
    have x2 := z4d a i
    have x3 := z4d b j
    have x4 : dig a i * dig b j ≤ 4294967295 * 4294967295 := Nat.mul_le_mul (by omega) (by omega)
    generalize hs : dig m (i + j) + dig a i * dig b j + c = s
    have hsl : s < 18446744073709551616 := by omega
    have hset := setD_eq m (i + j) (s % B)
    have hcs : s / B < B := Nat.div_lt_of_lt_mul (by omega)
    have hlt : setD m (i + j) (s % B) < B ^ (i + ln b) := setD_lt hm (by omega) (Nat.mod_lt _ Bpos)
    refine Ev.step (fun k => ?_) (ih (j + 1) (setD m (i + j) (s % B)) (s / B) (by omega) hlt hcs ?_)
    · simp only [z0h.l1]
      rw [z1c, z1c, if_pos (by omega), w64 (by omega) (by unfold top at ht; omega), if_pos (by omega), z3b, if_pos (by omega), if_pos (by omega), if_pos (by omega), if_pos (by omega)]
      have e1 : ((i : Int) + (j : Int)) = ((i + j : Nat) : Int) := by omega
      rw [e1, z7l _ _ _ (by omega), rd_dg _ _ hi, rd_dg _ _ hj, Int.toNat_natCast]
      have e2 : ((dig a i : Nat) : Int) * ((dig b j : Nat) : Int) = ((dig a i * dig b j : Nat) : Int) := by rw [Int.natCast_mul]
      rw [e2, wun _ (by omega)]
      have e3 : ((dig m (i + j) : Nat) : Int) + ((dig a i * dig b j : Nat) : Int) = ((dig m (i + j) + dig a i * dig b j : Nat) : Int) := by rw [Int.natCast_add]
      rw [e3, wun _ (by omega)]
      have e4 : ((dig m (i + j) + dig a i * dig b j : Nat) : Int) + (c : Int) = (s : Int) := by rw [← hs]; omega
      rw [e4, wun _ hsl]
      have e5 : Int.tmod (s : Int) 4294967296 = ((s % B : Nat) : Int) := by rw [Int.tmod_eq_emod_of_nonneg (by omega)]; rfl
      have e6 : Int.tdiv (s : Int) 4294967296 = ((s / B : Nat) : Int) := by rw [Int.tdiv_eq_ediv_of_nonneg (by omega)]; rfl
      rw [e5, e6, wun _ (by omega), z5v _ _ _ _ (by omega) (Nat.mod_lt _ Bpos), w64 (by omega) (by unfold top at ht; omega)]
      rfl
    rw [z4s b j]
    have hp : B ^ (i + (j + 1)) = B * B ^ (i + j) := by rw [← Nat.add_assoc, Nat.pow_succ']
    have hq : B ^ (i + j) = B ^ i * B ^ j := Nat.pow_add _ _ _
    have hdm := Nat.div_add_mod s B
    rw [hp]
    have t1 : s / B * (B * B ^ (i + j)) = B * (s / B) * B ^ (i + j) := by rw [← Nat.mul_assoc, Nat.mul_comm (s / B)]
    have t2 : (B * (s / B) + s % B) * B ^ (i + j) = s * B ^ (i + j) := by rw [hdm]
    rw [Nat.add_mul] at t2
    have t3 : s * B ^ (i + j) = dig m (i + j) * B ^ (i + j) + dig a i * dig b j * B ^ (i + j) + c * B ^ (i + j) := by rw [← hs, Nat.add_mul, Nat.add_mul]
    have t4 : dig a i * B ^ i * (b % B ^ j + dig b j * B ^ j) = dig a i * B ^ i * (b % B ^ j) + dig a i * dig b j * B ^ (i + j) := by
      rw [Nat.mul_add, hq]; congr 1; simp only [Nat.mul_assoc, Nat.mul_left_comm]
    rw [t1, t4]
    omega
theorem mul_l0 (a b : Nat) (L : Nat) (hL : L = ln a + ln b + 1) (ht : L ≤ top) :
    ∀ (d i m : Nat), d + i = ln a → m < B ^ L → m = a % B ^ i * b →
    Ev (fun k => z0h.l0 k (dg a) (dg b) (dgL L m) (i : Int)) (dg (a * b)) := by
  intro d
  induction d with
  | zero =>
    intro i m hd hm he
    obtain rfl : i = ln a := by omega
    rw [Nat.mod_eq_of_lt (z1r a)] at he
    subst he
    refine Ev.step (f := fun k => (z0r.f k (dgL L (a * b))).bind fun t => some t) (fun k => ?_) (Ev.bind (f := fun _ t => some t) (z6z L _ ht hm) (Ev.now _))
    simp only [z0h.l0]
    rw [z1c, if_neg (by omega)]
  | succ d ih =>
    intro i m hd hm he
    have hlt : m < B ^ (i + ln b) := by
      rw [he, Nat.pow_add]
      by_cases hb : b = 0
      · subst hb; simp; exact Nat.mul_pos (z2x _) (z2x _)
      exact Nat.mul_lt_mul_of_lt_of_le (Nat.mod_lt _ (z2x i)) (Nat.le_of_lt (z1r b)) (z2x _)
    refine Ev.step (fun k => ?_) (mul_l1 a b L hL ht i (by omega) (dg (a * b)) (fun m' h1 h2 => ih (i + 1) m' (by omega) h1 h2) (ln b) 0 m 0 (by omega) hlt (by decide) (by simp [he, Nat.mod_one]))
    simp only [z0h.l0]
    rw [z1c, if_pos (by omega)]; rfl
theorem mul_ev (a b : Nat) (ht : ln a + ln b + 1 ≤ top) : Ev (fun k => z0h.f k (dg a) (dg b)) (dg (a * b)) := by
  refine Ev.congr (fun k => ?_) (mul_l0 a b (ln a + ln b + 1) rfl ht (ln a) 0 0 (by omega) (z2x _) (by simp [Nat.mod_one]))
  unfold z0h.f
  unfold top at ht
  rw [z1c, z1c, w64 (x := (ln a : Int) + (ln b : Int)) (by omega) (by omega), w64 (by omega) (by omega), if_pos (by omega), if_pos (by omega)]
  rw [show ((ln a : Int) + (ln b : Int) + 1).toNat = ln a + ln b + 1 by omega, z6o]
  rfl
theorem divB_lt (s q : Nat) (h : s < q * 4294967296) : s / B < q := Nat.div_lt_of_lt_mul (by rw [Nat.mul_comm]; exact h)
theorem add_l0 (a b : Nat) (L : Nat) (hL : L = max (ln a) (ln b) + 1) (ht : L ≤ top) :
    ∀ (d i m c : Nat), d + i = L → m < B ^ i → c ≤ 1 → m + c * B ^ i = a % B ^ i + b % B ^ i →
    Ev (fun k => z0k.l0 k (dg a) (dg b) (L : Int) (dgL L m) (c : Int) (i : Int)) (dg (a + b)) := by
  intro d
  have hB : B = 4294967296 := rfl
  have haL : a < B ^ (L - 1) := Nat.lt_of_lt_of_le (z1r a) (Nat.pow_le_pow_right Bpos (by omega))
  have hbL : b < B ^ (L - 1) := Nat.lt_of_lt_of_le (z1r b) (Nat.pow_le_pow_right Bpos (by omega))
  have hp : B ^ L = B * B ^ (L - 1) := by rw [show L = (L - 1) + 1 by omega, Nat.pow_succ']; simp
  have h2B : 2 * B ^ (L - 1) ≤ B * B ^ (L - 1) := Nat.mul_le_mul_right _ (by decide)
  have hsum : a + b < B ^ L := by omega
  induction d with
  | zero =>
    intro i m c hd hm hc he
    obtain rfl : i = L := by omega
    have ha : a % B ^ i = a := Nat.mod_eq_of_lt (by omega)
    have hb : b % B ^ i = b := Nat.mod_eq_of_lt (by omega)
    rw [ha, hb] at he
    have hc0 : c = 0 := by
      rcases Nat.lt_or_ge 0 c with h | h
      · obtain rfl : c = 1 := by omega
        omega
      omega
    subst hc0
    obtain rfl : m = a + b := by omega
    refine Ev.step (f := fun k => (z0r.f k (dgL i (a + b))).bind fun t => some t) (fun k => ?_) (Ev.bind (f := fun _ t => some t) (z6z i _ ht hm) (Ev.now _))
    simp only [z0k.l0]
    rw [if_neg (by omega)]
  | succ d ih =>
    intro i m c hd hm hc he
    have x1 := z4d a i
    have x2 := z4d b i
    generalize hs : dig a i + dig b i + c = s
    have hset := setD_eq m i (s % B)
    have hz : dig m i = 0 := z5k hm
    rw [hz] at hset
    have hcs : s / B ≤ 1 := Nat.le_of_lt_succ (divB_lt s 2 (by omega))
    have hmi : setD m i (s % B) < B ^ (i + 1) := by
      have h1 := Nat.mod_lt s Bpos
      have h2 : (s % B + 1) * B ^ i ≤ B * B ^ i := Nat.mul_le_mul_right _ h1
      rw [Nat.add_mul] at h2
      rw [Nat.pow_succ']; omega
    refine Ev.step (fun k => ?_) (ih (i + 1) (setD m i (s % B)) (s / B) (by omega) hmi hcs ?_)
    · simp only [z0k.l0]
      rw [if_pos (by omega), z4w, z4w]
      simp only [Option.bind_some]
      rw [if_pos (by omega), z3b, if_pos (by omega), Int.toNat_natCast]
      have e3 : ((dig a i : Nat) : Int) + ((dig b i : Nat) : Int) = ((dig a i + dig b i : Nat) : Int) := by rw [Int.natCast_add]
      rw [e3, wun _ (by omega)]
      have e4 : ((dig a i + dig b i : Nat) : Int) + (c : Int) = (s : Int) := by rw [← hs]; omega
      rw [e4, wun _ (by omega)]
      have e5 : Int.tmod (s : Int) 4294967296 = ((s % B : Nat) : Int) := by rw [Int.tmod_eq_emod_of_nonneg (by omega)]; rfl
      have e6 : Int.tdiv (s : Int) 4294967296 = ((s / B : Nat) : Int) := by rw [Int.tdiv_eq_ediv_of_nonneg (by omega)]; rfl
      rw [e5, e6, wun _ (by omega), z5v _ _ _ _ (by omega) (Nat.mod_lt _ Bpos), w64 (by omega) (by unfold top at ht; omega)]
      rfl
    rw [z4s a i, z4s b i, Nat.pow_succ']
    have hdm := Nat.div_add_mod s B
    have t1 : s / B * (B * B ^ i) = B * (s / B) * B ^ i := by rw [← Nat.mul_assoc, Nat.mul_comm (s / B)]
    have t2 : (B * (s / B) + s % B) * B ^ i = s * B ^ i := by rw [hdm]
    rw [Nat.add_mul] at t2
    have t3 : s * B ^ i = dig a i * B ^ i + dig b i * B ^ i + c * B ^ i := by rw [← hs, Nat.add_mul, Nat.add_mul]
    rw [t1]; omega
theorem add_ev (a b : Nat) (ht : max (ln a) (ln b) + 1 ≤ top) : Ev (fun k => z0k.f k (dg a) (dg b)) (dg (a + b)) := by
  refine Ev.congr (fun k => ?_) (add_l0 a b (max (ln a) (ln b) + 1) rfl ht (max (ln a) (ln b) + 1) 0 0 0 (by omega) (by simp) (by omega) (by simp [Nat.mod_one]))
  unfold z0k.f
  unfold top at ht
  have hm : mx ((dg a).length : Int) ((dg b).length : Int) = ((max (ln a) (ln b) : Nat) : Int) := by
    unfold mx; rw [z1c, z1c]; split <;> omega
  rw [hm, w64 (by omega) (by omega), if_pos (by omega), if_pos (by omega)]
  rw [show (((max (ln a) (ln b) : Nat) : Int) + 1).toNat = max (ln a) (ln b) + 1 by omega, z6o]
  rfl
theorem z9a {n : Nat} (h : n < B) : ln n ≤ 1 := ln_le (by simpa using h)
theorem z7u (n : Nat) (h : n < 18446744073709551616) : Ev (fun k => z1y.f k (n : Int)) (dg n) := by
  have hB : B = 4294967296 := rfl
  have e5 : Int.tmod (n : Int) 4294967296 = ((n % B : Nat) : Int) := by rw [Int.tmod_eq_emod_of_nonneg (by omega)]; rfl
  have e6 : Int.tdiv (n : Int) 4294967296 = ((n / B : Nat) : Int) := by rw [Int.tdiv_eq_ediv_of_nonneg (by omega)]; rfl
  have e : ([Int.tmod (n : Int) 4294967296, IntKind.u64.wrap (Int.tdiv (n : Int) 4294967296)] : List Int) = dgL 2 n := by
    have hq : n / B < B := divB_lt n B (by omega)
    rw [e5, e6, wun _ (by omega)]
    have : n / B % B = n / B := Nat.mod_eq_of_lt hq
    simp [dgL, this]
  refine Ev.congr (fun k => ?_) (Ev.bind (f := fun _ t => some t) (z6z 2 n (by decide) (by omega)) (Ev.now _))
  unfold z1y.f
  rw [e]
theorem z8u {n : Nat} (h0 : n ≠ 0) (h : n < B) : dg n = [(n : Int)] := by
  have : ln n = 1 := by rw [z5m h0, Nat.div_eq_of_lt h, z3z]
  unfold dg; rw [this]; simp [dgL, Nat.mod_eq_of_lt h]
theorem ln_mul_ten (a : Nat) : ln (a * 10) ≤ ln a + 1 := by
  refine ln_le ?_
  have := z1r a
  rw [Nat.pow_succ]
  have : (a + 1) * 10 ≤ B ^ ln a * B := Nat.mul_le_mul this (by decide)
  omega
theorem more_ev (n c : Nat) (hc : 48 ≤ c) (hc9 : c ≤ 57) (ht : ln n + 3 ≤ top) : Ev (fun k => z2a.f k (dg n) (c : Int)) (dg (10 * n + (c - 48))) := by
  have hB : B = 4294967296 := rfl
  unfold top at ht
  have e10 : ([10] : List Int) = dg 10 := by rw [z8u (by decide) (by decide)]; rfl
  have l10 : ln 10 ≤ 1 := z9a (by decide)
  have lc : ln (c - 48) ≤ 1 := z9a (by omega)
  have lm := ln_mul_ten n
  have ec : ((c : Int) - 48) % 256 = ((c - 48 : Nat) : Int) := by omega
  have h1 := mul_ev n 10 (by unfold top; omega)
  have h2 := z7u (c - 48) (by omega)
  have h3 := add_ev (n * 10) (c - 48) (by unfold top; omega)
  rw [show n * 10 + (c - 48) = 10 * n + (c - 48) by omega] at h3
  refine Ev.congr (fun k => ?_) (Ev.bind (f := fun k t => ((z1y.f k ((c - 48 : Nat) : Int)).bind fun u => ((z0k.f k t u).bind fun v => some v))) h1 (Ev.bind (f := fun k u => ((z0k.f k (dg (n * 10)) u).bind fun v => some v)) h2 (Ev.bind (f := fun _ v => some v) h3 (Ev.now _))))
  unfold z2a.f
  rw [e10, ec]
def bl (n : Nat) : Nat := if n = 0 then 0 else Nat.log2 n + 1
theorem bl_half {n : Nat} (h : n ≠ 0) : bl n = bl (n / 2) + 1 := by
  unfold bl
  rw [if_neg h]
  by_cases h1 : n / 2 = 0
  · rw [if_pos h1]
    have : n = 1 := by omega
    subst this; rfl
  rw [if_neg h1]
  have h2 : 2 ≤ n := by omega
  rw [Nat.log2_def n, if_pos h2]
theorem z4b (n : Nat) : n < 2 ^ bl n := by
  unfold bl
  by_cases h : n = 0
  · subst h; decide
  rw [if_neg h]; exact Nat.lt_log2_self
theorem z6l {n : Nat} (h : n ≠ 0) : 2 ^ (bl n - 1) ≤ n := by
  unfold bl
  rw [if_neg h]
  exact Nat.log2_self_le h
theorem bl_le {n k : Nat} (h : n < 2 ^ k) : bl n ≤ k := by
  by_cases h0 : n = 0
  · subst h0; unfold bl; simp
  have := z6l h0
  have h2 : 2 ^ (bl n - 1) < 2 ^ k := Nat.lt_of_le_of_lt this h
  have h3 := (Nat.pow_lt_pow_iff_right (by decide : 1 < 2)).1 h2
  omega
theorem lt_bl {n k : Nat} (h : 2 ^ k ≤ n) : k < bl n := by
  have := z4b n
  have h2 : 2 ^ k < 2 ^ bl n := Nat.lt_of_le_of_lt h this
  exact (Nat.pow_lt_pow_iff_right (by decide : 1 < 2)).1 h2
theorem len_l0 (x : Nat) (hx : x < 18446744073709551616) : ∀ (a : Nat), a + bl x ≤ 40000000000 → Ev (fun k => z0j.l0 k (a : Int) (x : Int)) ((a + bl x : Nat) : Int) := by
  induction x using Nat.strongRecOn with
  | ind x ih =>
    intro a ha
    by_cases h0 : x = 0
    · subst h0
      refine Ev.step (f := fun _ => some ((a + bl 0 : Nat) : Int)) (fun k => ?_) (Ev.now _)
      simp only [z0j.l0]
      rw [if_neg (by omega)]
      simp [bl]
    have hb := bl_half h0
    have h := ih (x / 2) (by omega) (by omega) (a + 1) (by omega)
    rw [show a + 1 + bl (x / 2) = a + bl x by omega] at h
    refine Ev.step (fun k => ?_) h
    simp only [z0j.l0]
    rw [if_pos (by omega), w64 (by omega) (by omega)]
    have e6 : Int.tdiv (x : Int) 2 = ((x / 2 : Nat) : Int) := by rw [Int.tdiv_eq_ediv_of_nonneg (by omega)]; rfl
    rw [e6, wun _ (by omega)]
    rfl
theorem bl_add {a k r : Nat} (ha : a ≠ 0) (hr : r < 2 ^ k) : bl (a * 2 ^ k + r) = bl a + k := by
  have h1 := z6l ha
  have h2 := z4b a
  have h0 : bl a ≠ 0 := by unfold bl; rw [if_neg ha]; omega
  have a1 : bl (a * 2 ^ k + r) ≤ bl a + k := bl_le (by
    rw [Nat.pow_add]
    have : (a + 1) * 2 ^ k ≤ 2 ^ bl a * 2 ^ k := Nat.mul_le_mul_right _ h2
    rw [Nat.add_mul] at this; omega)
  have b1 : bl a - 1 + k < bl (a * 2 ^ k + r) := lt_bl (by
    rw [Nat.pow_add]
    have : 2 ^ (bl a - 1) * 2 ^ k ≤ a * 2 ^ k := Nat.mul_le_mul_right _ h1
    omega)
  omega
theorem B_eq (i : Nat) : B ^ i = 2 ^ (32 * i) := by rw [Nat.pow_mul]
theorem bl_ln {n : Nat} (h : n ≠ 0) : bl n = bl (dig n (ln n - 1)) + 32 * (ln n - 1) := by
  have e : ln n = ln n - 1 + 1 := by rw [z5m h]; omega
  have h1 := split_at n (ln n - 1)
  have h2 := z1r n
  rw [e] at h2
  rw [Nat.div_eq_of_lt h2, Nat.zero_mul, Nat.zero_add] at h1
  have h3 := Nat.mod_lt n (z2x (ln n - 1))
  rw [B_eq] at h1 h3
  have h4 := bl_add (r := n % 2 ^ (32 * (ln n - 1))) (dig_top h) h3
  rw [← h4, ← h1]
theorem len_ev (n : Nat) (ht : ln n ≤ top) : Ev (fun k => z0j.f k (dg n)) ((bl n : Nat) : Int) := by
  unfold top at ht
  by_cases h : n = 0
  · subst h
    refine Ev.congr (f := fun _ => some ((bl 0 : Nat) : Int)) (fun k => ?_) (Ev.now _)
    unfold z0j.f
    rw [z1c, z3z, if_pos (by rfl)]
    rfl
  have e : 1 ≤ ln n := by rw [z5m h]; omega
  have x1 := z4d n (ln n - 1)
  have hB : B = 4294967296 := rfl
  have hbt : bl (dig n (ln n - 1)) ≤ 32 := bl_le (by omega)
  have hl := len_l0 (dig n (ln n - 1)) (by omega) (32 * (ln n - 1)) (by omega)
  rw [show 32 * (ln n - 1) + bl (dig n (ln n - 1)) = bl n by rw [bl_ln h]; omega] at hl
  refine Ev.congr (fun k => ?_) hl
  unfold z0j.f
  have e1 : ((ln n : Int) - 1) = ((ln n - 1 : Nat) : Int) := by omega
  rw [z1c, if_neg (by omega), e1, w64 (by omega) (by omega), if_pos (by omega), if_pos (by omega), rd_dg _ _ (by omega), w64 (by omega) (by omega)]
  rw [show (32 : Int) * ((ln n - 1 : Nat) : Int) = ((32 * (ln n - 1) : Nat) : Int) by omega]
end Go.Proofs.YtjpiplplohapnaaGreatDoor.Big
namespace Go.Proofs.YtjpiplplohapnaaGreatDoor.PText
open Go.RowKit Go.Proofs.YtjpiplplohapnaaGreatDoorW.PrintWords Go.Proofs.YtjpiplplohapnaaGreatDoorW.PrintLast Go.Proofs.YtjpiplplohapnaaGreatDoorW.PrintMore
attribute [local go_sem] z2i z2j z3i z3k z2d z2c z2q z2r
set_option linter.unusedVariables false
set_option linter.unusedSimpArgs false
def z0u.l0 : Nat → List Int → List Int → Int → Option (Int)
  | 0, _, _, _ => none
  | k + 1, x0, x1, x5 => if x5 ≥ 0 then (if 0 ≤ x5 then (if x5 < (x0.length : Int) then (if x5 < (x1.length : Int) then (if (rd x0 x5) < (rd x1 x5) then (some (-1)) else (if (rd x0 x5) > (rd x1 x5) then (some 1) else (z0u.l0 k x0 x1 (wrap64 (x5 - 1))))) else (none)) else (none)) else (none)) else (some 0)
def z0u.f (k : Nat) (l0 : List Int) (l1 : List Int) : Option (Int) := if (l0.length : Int) = (l1.length : Int) then (z0u.l0 k l0 l1 (wrap64 ((l0.length : Int) - 1))) else (if (l0.length : Int) < (l1.length : Int) then (some (-1)) else (some 1))
set_option maxHeartbeats 8000000 in
set_option maxRecDepth 100000 in
theorem z0u.calls (k : Nat) (A0 : Option Addr) (c0 : Nat) (l0 : List Int) (A1 : Option Addr) (c1 : Nat) (l1 : List Int) (r : Int) (w : World) (hr0 : Kd.C (Kd.int .u64) w A0 l0.length l0) (hc0 : l0.length ≤ c0) (hr1 : Kd.C (Kd.int .u64) w A1 l1.length l1) (hc1 : l1.length ≤ c1) (h : z0u.f k l0 l1 = some r) :
    Calls Tryz.prog 96 #[.slice A0 l0.length c0, .slice A1 l1.length c1] w fun e w' => e = .returned (.int .i64 r) ∧ z0o w w' := by
  have HR0 := y9.mk hr0
  have HC0 := y9.mk hc0
  clear hr0 hc0
  have HR1 := y9.mk hr1
  have HC1 := y9.mk hc1
  clear hr1 hc1
  have H : (if (l0.length : Int) = (l1.length : Int) then (z0u.l0 k l0 l1 (wrap64 ((l0.length : Int) - 1))) else (if (l0.length : Int) < (l1.length : Int) then (some (-1)) else (some 1))) = some r := h
  clear h
  by_cases c3 : (l0.length : Int) = (l1.length : Int)
  · rw [if_pos c3] at H
    have c3b0 : ((l0.length : Int) == (l1.length : Int)) = true := beq_iff_eq.mpr c3
    have c3b1 : ((l0.length : Int) != (l1.length : Int)) = false := bne_eq_false_iff_eq.mpr c3
    have c3b2 : (l0.length == l1.length) = true := by (simp at c3 ⊢; omega)
    clear c3
    have H' := y9.mk H
    clear H
    go_enter Tryz.func96, Tryz.ntmps96
    go_wp2
    repeat (go_quiet (fail); try go_wp2)
    go_loopg [5] k (fun kq v5 w' => ∃ (x5_1 : Int), v5 = .int .i64 x5_1 ∧ y9 (z0u.l0 kq l0 l1 x5_1 = some r) ∧ y9 (kq ≤ k) ∧ z0o w w')
    case atStart => exact ⟨(wrap64 ((l0.length : Int) - 1)), (by rfl), H', ⟨Nat.le_refl _⟩, by repeat (exact z0o.refl _)⟩
    case round =>
      clear H'
      (try clear c1); (try clear p2); (try clear c3); (try clear c3b0); (try clear c3b1); (try clear c3b2)
      obtain ⟨x5_1, rfl, HA, HK1, ⟨m1, rfl⟩⟩ := hrel
      cases gk with
      | zero => exact absurd HA.out (by simp [z0u.l0])
      | succ k1 =>
        have H := HA.out
        clear HA
        simp only [z0u.l0] at H
        by_cases c4 : x5_1 ≥ 0
        · rw [if_pos c4] at H
          have c4b0 : decide (0 ≤ x5_1) = true := decide_eq_true c4
          clear c4
          by_cases c5 : 0 ≤ x5_1
          · rw [if_pos c5] at H
            have c5b0 : decide (0 ≤ x5_1) = true := decide_eq_true c5
            clear c5
            by_cases c6 : x5_1 < (l0.length : Int)
            · rw [if_pos c6] at H
              have c6b0 : decide (x5_1 < (l0.length : Int)) = true := decide_eq_true c6
              clear c6
              by_cases c7 : x5_1 < (l1.length : Int)
              · rw [if_pos c7] at H
                have c7b0 : decide (x5_1 < (l1.length : Int)) = true := decide_eq_true c7
                clear c7
                by_cases c8 : (rd l0 x5_1) < (rd l1 x5_1)
                · rw [if_pos c8] at H
                  have c8b0 : decide ((rd l0 x5_1) < (rd l1 x5_1)) = true := decide_eq_true c8
                  clear c8
                  obtain rfl := Option.some.inj H
                  have p252 : 0 ≤ (x5_1 : Int) := of_decide_eq_true (by (with_reducible assumption))
                  have q252 : x5_1 < (l0.length : Int) := of_decide_eq_true (by (with_reducible assumption))
                  obtain ⟨ad252, e252, hx252_0⟩ := Kd.z2p HR0.out x5_1 p252 q252
                  cases e252
                  replace p252 := eq_true p252
                  replace q252 := eq_true q252
                  have p253 : 0 ≤ (x5_1 : Int) := of_decide_eq_true (by (with_reducible assumption))
                  have q253 : x5_1 < (l1.length : Int) := of_decide_eq_true (by (with_reducible assumption))
                  obtain ⟨ad253, e253, hx253_0⟩ := Kd.z2p HR1.out x5_1 p253 q253
                  cases e253
                  replace p253 := eq_true p253
                  replace q253 := eq_true q253
                  go_wp2
                  repeat (go_quiet (fail); try go_wp2)
                  go_ret
                  exact ⟨by rfl, by repeat (first | exact z0o.refl _ | apply z0o.step)⟩
                rw [if_neg c8] at H
                have c8b0 : decide ((rd l0 x5_1) < (rd l1 x5_1)) = false := decide_eq_false c8
                clear c8
                by_cases c9 : (rd l0 x5_1) > (rd l1 x5_1)
                · rw [if_pos c9] at H
                  have c9b0 : decide ((rd l1 x5_1) < (rd l0 x5_1)) = true := decide_eq_true c9
                  clear c9
                  obtain rfl := Option.some.inj H
                  have p252 : 0 ≤ (x5_1 : Int) := of_decide_eq_true (by (with_reducible assumption))
                  have q252 : x5_1 < (l0.length : Int) := of_decide_eq_true (by (with_reducible assumption))
                  obtain ⟨ad252, e252, hx252_0⟩ := Kd.z2p HR0.out x5_1 p252 q252
                  cases e252
                  replace p252 := eq_true p252
                  replace q252 := eq_true q252
                  have p253 : 0 ≤ (x5_1 : Int) := of_decide_eq_true (by (with_reducible assumption))
                  have q253 : x5_1 < (l1.length : Int) := of_decide_eq_true (by (with_reducible assumption))
                  obtain ⟨ad253, e253, hx253_0⟩ := Kd.z2p HR1.out x5_1 p253 q253
                  cases e253
                  replace p253 := eq_true p253
                  replace q253 := eq_true q253
                  have p254 : 0 ≤ (x5_1 : Int) := of_decide_eq_true (by (with_reducible assumption))
                  have q254 : x5_1 < (l0.length : Int) := of_decide_eq_true (by (with_reducible assumption))
                  obtain ⟨ad254, e254, hx254_0⟩ := Kd.z2p HR0.out x5_1 p254 q254
                  obtain rfl : ad252 = ad254 := (by injection e254)
                  replace p254 := eq_true p254
                  replace q254 := eq_true q254
                  have p255 : 0 ≤ (x5_1 : Int) := of_decide_eq_true (by (with_reducible assumption))
                  have q255 : x5_1 < (l1.length : Int) := of_decide_eq_true (by (with_reducible assumption))
                  obtain ⟨ad255, e255, hx255_0⟩ := Kd.z2p HR1.out x5_1 p255 q255
                  obtain rfl : ad253 = ad255 := (by injection e255)
                  replace p255 := eq_true p255
                  replace q255 := eq_true q255
                  go_wp2
                  repeat (go_quiet (fail); try go_wp2)
                  go_ret
                  exact ⟨by rfl, by repeat (first | exact z0o.refl _ | apply z0o.step)⟩
                rw [if_neg c9] at H
                have c9b0 : decide ((rd l1 x5_1) < (rd l0 x5_1)) = false := decide_eq_false c9
                clear c9
                have H' := y9.mk H
                clear H
                have p252 : 0 ≤ (x5_1 : Int) := of_decide_eq_true (by (with_reducible assumption))
                have q252 : x5_1 < (l0.length : Int) := of_decide_eq_true (by (with_reducible assumption))
                obtain ⟨ad252, e252, hx252_0⟩ := Kd.z2p HR0.out x5_1 p252 q252
                cases e252
                replace p252 := eq_true p252
                replace q252 := eq_true q252
                have p253 : 0 ≤ (x5_1 : Int) := of_decide_eq_true (by (with_reducible assumption))
                have q253 : x5_1 < (l1.length : Int) := of_decide_eq_true (by (with_reducible assumption))
                obtain ⟨ad253, e253, hx253_0⟩ := Kd.z2p HR1.out x5_1 p253 q253
                cases e253
                replace p253 := eq_true p253
                replace q253 := eq_true q253
                have p254 : 0 ≤ (x5_1 : Int) := of_decide_eq_true (by (with_reducible assumption))
                have q254 : x5_1 < (l0.length : Int) := of_decide_eq_true (by (with_reducible assumption))
                obtain ⟨ad254, e254, hx254_0⟩ := Kd.z2p HR0.out x5_1 p254 q254
                obtain rfl : ad252 = ad254 := (by injection e254)
                replace p254 := eq_true p254
                replace q254 := eq_true q254
                have p255 : 0 ≤ (x5_1 : Int) := of_decide_eq_true (by (with_reducible assumption))
                have q255 : x5_1 < (l1.length : Int) := of_decide_eq_true (by (with_reducible assumption))
                obtain ⟨ad255, e255, hx255_0⟩ := Kd.z2p HR1.out x5_1 p255 q255
                obtain rfl : ad253 = ad255 := (by injection e255)
                replace p255 := eq_true p255
                replace q255 := eq_true q255
                go_wp2
                repeat (go_quiet (fail); try go_wp2)
                go_roundg k1
                case measure => have := HK1.out; omega
                case rel => exact ⟨(wrap64 (x5_1 - 1)), (by rfl), H', ⟨by have := HK1.out; omega⟩, by repeat (first | exact z0o.refl _ | apply z0o.step)⟩
              rw [if_neg c7] at H
              exact absurd H (by simp)
            rw [if_neg c6] at H
            exact absurd H (by simp)
          rw [if_neg c5] at H
          exact absurd H (by simp)
        rw [if_neg c4] at H
        have c4b0 : decide (0 ≤ x5_1) = false := decide_eq_false c4
        clear c4
        obtain rfl := Option.some.inj H
        go_wp2
        repeat (go_quiet (fail); try go_wp2)
        go_ret
        exact ⟨by rfl, by repeat (first | exact z0o.refl _ | apply z0o.step)⟩
  rw [if_neg c3] at H
  have c3b0 : ((l0.length : Int) == (l1.length : Int)) = false := beq_eq_false_iff_ne.mpr c3
  have c3b1 : ((l0.length : Int) != (l1.length : Int)) = true := bne_iff_ne.mpr c3
  have c3b2 : (l0.length == l1.length) = false := by (simp at c3 ⊢; omega)
  by_cases c10 : (l0.length : Int) < (l1.length : Int)
  · rw [if_pos c10] at H
    have c10b0 : decide ((l0.length : Int) < (l1.length : Int)) = true := decide_eq_true c10
    have c10b1 : decide (l0.length < l1.length) = true := decide_eq_true (Int.ofNat_lt.mp c10)
    clear c10
    obtain rfl := Option.some.inj H
    go_enter Tryz.func96, Tryz.ntmps96
    go_wp2
    repeat (go_quiet (fail); try go_wp2)
    go_ret
    exact ⟨by rfl, by repeat (exact z0o.refl _)⟩
  rw [if_neg c10] at H
  have c10b0 : decide ((l0.length : Int) < (l1.length : Int)) = false := decide_eq_false c10
  have c10b1 : decide (l0.length < l1.length) = false := decide_eq_false (fun h => c10 (Int.ofNat_lt.mpr h))
  clear c10
  obtain rfl := Option.some.inj H
  go_enter Tryz.func96, Tryz.ntmps96
  go_wp2
  repeat (go_quiet (fail); try go_wp2)
  go_ret
  exact ⟨by rfl, by repeat (exact z0o.refl _)⟩
end Go.Proofs.YtjpiplplohapnaaGreatDoor.PText
namespace Go.Proofs.YtjpiplplohapnaaGreatDoor.PText
open Go.RowKit Go.Proofs.YtjpiplplohapnaaGreatDoorW.PrintWords Go.Proofs.YtjpiplplohapnaaGreatDoorW.PrintLast Go.Proofs.YtjpiplplohapnaaGreatDoorW.PrintMore
attribute [local go_sem] z2i z2j z3i z3k z2d z2c z2q z2r
set_option linter.unusedVariables false
set_option linter.unusedSimpArgs false
def z1a.l0 : Nat → List Int → List Int → List Int → Int → Int → Option (List Int)
  | 0, _, _, _, _, _ => none
  | k + 1, x0, x1, x5, x6, x7 => if x7 < (x0.length : Int) then (if 0 ≤ x7 then ((z0g.f x1 x7).bind fun t260 => (if x7 < (x5.length : Int) then (z1a.l0 k x0 x1 (x5.set (x7 : Int).toNat (Int.tmod (IntKind.u64.wrap ((IntKind.u64.wrap ((IntKind.u64.wrap ((rd x0 x7) + 4294967296)) - t260)) - x6)) 4294967296)) (IntKind.u64.wrap (1 - (IntKind.u64.wrap (Int.tdiv (IntKind.u64.wrap ((IntKind.u64.wrap ((IntKind.u64.wrap ((rd x0 x7) + 4294967296)) - t260)) - x6)) 4294967296)))) (wrap64 (x7 + 1))) else (none))) else (none)) else ((z0r.f k x5).bind fun t262 => (some t262))
def z1a.f (k : Nat) (l0 : List Int) (l1 : List Int) : Option (List Int) := if 0 ≤ (l0.length : Int) then (if ((l0.length : Int) : Int).toNat ≤ 35184372088832 then (z1a.l0 k l0 l1 (List.replicate ((l0.length : Int) : Int).toNat 0) 0 0) else (none)) else (none)
set_option maxHeartbeats 8000000 in
set_option maxRecDepth 100000 in
theorem z1a.calls (k : Nat) (A0 : Option Addr) (c0 : Nat) (l0 : List Int) (A1 : Option Addr) (c1 : Nat) (l1 : List Int) (r : List Int) (w : World) (hr0 : Kd.C (Kd.int .u64) w A0 l0.length l0) (hc0 : l0.length ≤ c0) (hr1 : Kd.C (Kd.int .u64) w A1 l1.length l1) (hc1 : l1.length ≤ c1) (h : z1a.f k l0 l1 = some r) :
    Calls Tryz.prog 97 #[.slice A0 l0.length c0, .slice A1 l1.length c1] w fun e w' => ∃ v0_ : Value, e = .returned (v0_) ∧ Kd.R (Kd.int .u64) 26 w' w.heap.size (fun _ => True) v0_ r ∧ Below w.heap.size w w' := by
  have HR0 := y9.mk hr0
  have HC0 := y9.mk hc0
  clear hr0 hc0
  have HR1 := y9.mk hr1
  have HC1 := y9.mk hc1
  clear hr1 hc1
  have HB := y9.mk (Below.refl w.heap.size w)
  have H : (if 0 ≤ (l0.length : Int) then (if ((l0.length : Int) : Int).toNat ≤ 35184372088832 then (z1a.l0 k l0 l1 (List.replicate ((l0.length : Int) : Int).toNat 0) 0 0) else (none)) else (none)) = some r := h
  clear h
  by_cases c3 : 0 ≤ (l0.length : Int)
  · rw [if_pos c3] at H
    have c3b0 := eq_true c3
    have c3b1 : decide (0 ≤ (l0.length : Int)) = true := decide_eq_true c3
    clear c3
    by_cases c4 : ((l0.length : Int) : Int).toNat ≤ 35184372088832
    · rw [if_pos c4] at H
      have c4b0 := eq_true c4
      have c4b1 : decide (((l0.length : Int) : Int).toNat ≤ 35184372088832) = true := decide_eq_true c4
      clear c4
      obtain ⟨y256, hy256⟩ : ∃ y_ : List Int, y_ = (List.replicate ((l0.length : Int) : Int).toNat 0) := ⟨_, rfl⟩
      replace H : (z1a.l0 k l0 l1 y256 0 0) = some r := by (rw [hy256]; with_reducible exact H)
      have Ny256 := y9.mk hy256
      clear hy256
      have H' := y9.mk H
      clear H
      go_enter Tryz.func97, Tryz.ntmps97
      go_wp2_with (((with_reducible refine z1s (N := 11) rfl ?_); refine Kd.R_make (Kd.int .u64) _ 26 rfl (N := 11) rfl 51 _ _ rfl (l0.length : Int) rfl rfl Tryz.underlying51 (.int .u64 0) 8 info26 rfl (by decide) (by omega) 0 (ok := fun _ => True) (okp := fun _ => True) rfl (fun _ hk => hk) trivial (of_decide_eq_true (by (with_reducible assumption))) (Nat.le_trans (Nat.mul_le_mul_right _ (of_decide_eq_true (by (with_reducible assumption)) : (l0.length : Int).toNat ≤ 35184372088832)) (by omega)) (Below.refl _ _) (Nat.le_refl _) ?_; intro v257 w5 ho6 hb hg_ hnew_; clear hg_ hnew_; (rw [← Ny256.out] at ho6); have n0_ := y9.mk (Kd.z1j ho6 (z0n (by repeat ((with_reducible exact HB.out))))); have n1_ := y9.mk (z0m (by repeat ((with_reducible exact HB.out))) hb); clear HB; have HO258 := n0_; have HB := n1_; clear n0_ n1_; clear hb ho6))
      repeat (go_quiet (fail); try go_wp2_with (fail))
      go_loopg [6, 7] k (fun kq v6 v7 w' => ∃ (x5_1 : List Int) (x6_1 : Int) (x7_1 : Int), v6 = .int .u64 x6_1 ∧ v7 = .int .i64 x7_1 ∧ y9 (z1a.l0 kq l0 l1 x5_1 x6_1 x7_1 = some r) ∧ y9 (kq ≤ k) ∧ y9 (Kd.R (Kd.int .u64) 26 w' w.heap.size (fun _ => True) v257 x5_1) ∧ y9 (Below w.heap.size w w'))
      case atStart => exact ⟨(y256), (0), (0), (by rfl), (by rfl), H', ⟨Nat.le_refl _⟩, ⟨by (with_reducible repeat (fail)); exact HO258.out⟩, ⟨by repeat ((with_reducible exact HB.out))⟩⟩
      case round =>
        clear H'
        (try clear c1); (try clear p2); (try clear c3); (try clear c3b0); (try clear c3b1); (try clear c4); (try clear c4b0); (try clear c4b1)
        obtain ⟨x5_1, x6_1, x7_1, rfl, rfl, HA, HK1, HO_5, HB⟩ := hrel
        cases gk with
        | zero => exact absurd HA.out (by simp [z1a.l0])
        | succ k1 =>
          have H := HA.out
          clear HA
          simp only [z1a.l0] at H
          by_cases c7 : x7_1 < (l0.length : Int)
          · rw [if_pos c7] at H
            have c7b0 : decide (x7_1 < (l0.length : Int)) = true := decide_eq_true c7
            clear c7
            by_cases c8 : 0 ≤ x7_1
            · rw [if_pos c8] at H
              have c8b0 : decide (0 ≤ x7_1) = true := decide_eq_true c8
              clear c8
              replace H := Option.bind_eq_some_iff.mp H
              obtain ⟨t260, A90, H⟩ := H
              have A9 := y9.mk A90
              clear A90
              by_cases c10 : x7_1 < (x5_1.length : Int)
              · rw [if_pos c10] at H
                have c10b0 : decide (x7_1 < (x5_1.length : Int)) = true := decide_eq_true c10
                clear c10
                obtain ⟨y261, hy261⟩ : ∃ y_ : List Int, y_ = (x5_1.set (x7_1 : Int).toNat (Int.tmod (IntKind.u64.wrap ((IntKind.u64.wrap ((IntKind.u64.wrap ((rd l0 x7_1) + 4294967296)) - t260)) - x6_1)) 4294967296)) := ⟨_, rfl⟩
                replace H : (z1a.l0 k1 l0 l1 y261 (IntKind.u64.wrap (1 - (IntKind.u64.wrap (Int.tdiv (IntKind.u64.wrap ((IntKind.u64.wrap ((IntKind.u64.wrap ((rd l0 x7_1) + 4294967296)) - t260)) - x6_1)) 4294967296)))) (wrap64 (x7_1 + 1))) = some r := by (rw [hy261]; with_reducible exact H)
                have Ny261 := y9.mk hy261
                clear hy261
                have H' := y9.mk H
                clear H
                have p259 : 0 ≤ (x7_1 : Int) := of_decide_eq_true (by (with_reducible assumption))
                have q259 : x7_1 < (l0.length : Int) := of_decide_eq_true (by (with_reducible assumption))
                obtain ⟨ad259, e259, hx259_0⟩ := Kd.z2p HR0.out x7_1 p259 q259
                cases e259
                replace hx259_0 := (HB.out.cell (World.block_lt_of_cell? w _ hx259_0)).trans hx259_0
                replace p259 := eq_true p259
                replace q259 := eq_true q259
                go_wp2_with (fail)
                repeat (go_quiet ((go_at_call 69; (with_reducible refine (z0g.calls _ _ l1 x7_1 t260 _ ?side1 ?side2 A9.out).mono ?_); (case side1 => repeat (first | exact (Kd.z1q HR1.out HB.out) | (with_reducible refine Kd.C_drewN ?_ _))); (case side2 => exact HC1.out); rintro e w' ⟨rfl, ⟨nd, rfl⟩⟩; (try exact ⟨rfl, _, World.drewN_drewN _ _ _⟩); have p11 : 0 ≤ (x7_1 : Int) := of_decide_eq_true (by (with_reducible assumption)); have q11 : (x7_1 : Int) < ((x5_1.length : Int) : Int) := of_decide_eq_true (by (with_reducible assumption)); obtain ⟨go11, co11, eo11, gb11, gl11, cl11, HG11⟩ := Kd.R_form HO_5.out (by omega); (cases eo11); have GB11 := y9.mk gb11; have GG11 := y9.mk HG11; clear gb11 gl11 HG11; obtain ⟨hx11_0, hf11_0⟩ := Kd.z4j 0 HO_5.out (x7_1 : Int) p11 q11; replace p11 := eq_true p11; replace q11 := eq_true q11; obtain ⟨hy12_, hz12_⟩ := Kd.z4j 0 HO_5.out (x7_1 : Int) (of_decide_eq_true (by (with_reducible assumption))) (of_decide_eq_true (by (with_reducible assumption))); have HP12 := Kd.z6t HO_5.out (x7_1 : Int) (Int.tmod (IntKind.u64.wrap ((IntKind.u64.wrap ((IntKind.u64.wrap ((rd l0 x7_1) + 4294967296)) - t260)) - x6_1)) 4294967296))); try go_wp2_with (((with_reducible refine z5o (t := 26) (p := 33) rfl ?_); (try (rw [z4y wr]; generalize hq_ : World.drewN wr _ = wr; have n0_ := y9.mk (Kd.R_at hq_ HO_5.out); have n1_ := y9.mk (below_at hq_ HB.out); clear hq_ HO_5 HB; have HO_5 := n0_; have HB := n1_; clear n0_ n1_; (try (obtain ⟨hy12_, hz12_⟩ := Kd.z4j 0 HO_5.out (x7_1 : Int) (of_decide_eq_true (by (with_reducible assumption))) (of_decide_eq_true (by (with_reducible assumption))))); (try (have HP12 := Kd.z6t HO_5.out (x7_1 : Int) (Int.tmod (IntKind.u64.wrap ((IntKind.u64.wrap ((IntKind.u64.wrap ((rd l0 x7_1) + 4294967296)) - t260)) - x6_1)) 4294967296))))); refine z5d (t := 26) (p := 33) (v := ?vo_w13) (w1 := (wr.setCell ⟨go11, (x7_1 : Int).toNat, none⟩ (.int .u64 (Int.tmod (IntKind.u64.wrap ((IntKind.u64.wrap ((IntKind.u64.wrap ((rd l0 x7_1) + 4294967296)) - t260)) - x6_1)) 4294967296)))) ?hg ?ho ?hn ?hr ?_; (case ho => rfl); (case hg => rfl); (case hn => rfl); (case hr => (go_simp; done)); intro w13 hw; have hg : wr.grownBy w13 (some go11) := (by rw [hw]; exact HP12.2); have hp_ : Kd.R (Kd.int .u64) 26 w13 w.heap.size (fun _ => True) (.slice (some ⟨go11, 0, none⟩) x5_1.length co11) y261 := (by rw [hw, Ny261.out]; exact HP12.1); clear HP12; have n0_ := y9.mk (hp_); have n1_ := y9.mk ((by rw [hw]; exact z3a (HB.out) GB11.out : Below w.heap.size w w13)); clear HO_5; clear HB; have HO_5 := n0_; have HB := n1_; clear n0_ n1_; clear hg hw hp_)))
                go_roundg k1
                case measure => have := HK1.out; omega
                case rel => exact ⟨(y261), (IntKind.u64.wrap (1 - (IntKind.u64.wrap (Int.tdiv (IntKind.u64.wrap ((IntKind.u64.wrap ((IntKind.u64.wrap ((rd l0 x7_1) + 4294967296)) - t260)) - x6_1)) 4294967296)))), (wrap64 (x7_1 + 1)), (by rfl), (by rfl), H', ⟨by have := HK1.out; omega⟩, ⟨by (with_reducible repeat (fail)); exact HO_5.out⟩, ⟨by repeat ((with_reducible exact HB.out))⟩⟩
              rw [if_neg c10] at H
              exact absurd H (by simp)
            rw [if_neg c8] at H
            exact absurd H (by simp)
          rw [if_neg c7] at H
          have c7b0 : decide (x7_1 < (l0.length : Int)) = false := decide_eq_false c7
          clear c7
          replace H := Option.bind_eq_some_iff.mp H
          obtain ⟨t262, A140, H⟩ := H
          have A14 := y9.mk A140
          clear A140
          obtain rfl := Option.some.inj H
          obtain ⟨Ao15, co15, eo15⟩ := Kd.z1g HO_5.out
          subst eo15
          go_wp2_with ((go_at_call 68; (with_reducible refine (z0r.calls k1 (fun k_ => some k_ = (.slice Ao15 x5_1.length co15 : Value).ownBlock) (.slice Ao15 x5_1.length co15) x5_1 t262 w _ ?side1 ?side2 A14.out).mono ?_); (case side1 => repeat ((with_reducible exact HB.out))); (case side2 => exact Kd.z7d rfl HO_5.out); rintro e w16 ⟨v263, rfl, ho0, hb, hkp⟩; have n0_ := y9.mk (Kd.z2l (ok' := fun k_ => True) ho0 (fun k_ hk_ => trivial)); have n1_ := y9.mk (hb); clear HB; clear HO_5; have HO264 := n0_; have HB := n1_; clear n0_ n1_; (try clear hb); (try clear hkp); (try clear ho0)))
          repeat (go_quiet (fail); try go_wp2_with (fail))
          go_ret
          exact ⟨_, by rfl, by (with_reducible repeat (fail)); exact HO264.out, by repeat ((with_reducible exact HB.out))⟩
    rw [if_neg c4] at H
    exact absurd H (by simp)
  rw [if_neg c3] at H
  exact absurd H (by simp)
end Go.Proofs.YtjpiplplohapnaaGreatDoor.PText
namespace Go.Proofs.YtjpiplplohapnaaGreatDoor.PText
open Go.RowKit Go.Proofs.YtjpiplplohapnaaGreatDoorW.PrintWords Go.Proofs.YtjpiplplohapnaaGreatDoorW.PrintLast Go.Proofs.YtjpiplplohapnaaGreatDoorW.PrintMore
attribute [local go_sem] z2i z2j z3i z3k z2d z2c z2q z2r
set_option linter.unusedVariables false
set_option linter.unusedSimpArgs false
def z0l.l0 : Nat → List Int → Int → List Int → Int → Option (List Int)
  | 0, _, _, _, _ => none
  | k + 1, x0, x1, x5, x6 => if x6 < (x0.length : Int) then (if 0 ≤ x6 then (if 0 ≤ (Int.tmod x1 32) then (if 0 ≤ (wrap64 (x6 + (wrap64 (Int.tdiv x1 32)))) then (if (wrap64 (x6 + (wrap64 (Int.tdiv x1 32)))) < (x5.length : Int) then (if 0 ≤ (wrap64 ((wrap64 (x6 + (wrap64 (Int.tdiv x1 32)))) + 1)) then (if (wrap64 ((wrap64 (x6 + (wrap64 (Int.tdiv x1 32)))) + 1)) < (x5.length : Int) then (z0l.l0 k x0 x1 ((x5.set ((wrap64 (x6 + (wrap64 (Int.tdiv x1 32)))) : Int).toNat (IntKind.u64.wrap ((rd x5 (wrap64 (x6 + (wrap64 (Int.tdiv x1 32))))) + (Int.tmod (shl .u64 (rd x0 x6) (Int.tmod x1 32)) 4294967296)))).set ((wrap64 ((wrap64 (x6 + (wrap64 (Int.tdiv x1 32)))) + 1)) : Int).toNat (IntKind.u64.wrap (Int.tdiv (shl .u64 (rd x0 x6) (Int.tmod x1 32)) 4294967296))) (wrap64 (x6 + 1))) else (none)) else (none)) else (none)) else (none)) else (none)) else (none)) else ((z0r.f k x5).bind fun t211 => (some t211))
def z0l.f (k : Nat) (l0 : List Int) (a1 : Int) : Option (List Int) := if (l0.length : Int) = 0 then (some ([] : List Int)) else (if 0 ≤ (wrap64 ((wrap64 ((l0.length : Int) + (wrap64 (Int.tdiv a1 32)))) + 1)) then (if (wrap64 ((wrap64 ((l0.length : Int) + (wrap64 (Int.tdiv a1 32)))) + 1) : Int).toNat ≤ 35184372088832 then (z0l.l0 k l0 a1 (List.replicate (wrap64 ((wrap64 ((l0.length : Int) + (wrap64 (Int.tdiv a1 32)))) + 1) : Int).toNat 0) 0) else (none)) else (none))
set_option maxHeartbeats 8000000 in
set_option maxRecDepth 100000 in
theorem z0l.calls (k : Nat) (A0 : Option Addr) (c0 : Nat) (l0 : List Int) (a1 : Int) (r : List Int) (w : World) (hr0 : Kd.C (Kd.int .u64) w A0 l0.length l0) (hc0 : l0.length ≤ c0) (h : z0l.f k l0 a1 = some r) :
    Calls Tryz.prog 37 #[.slice A0 l0.length c0, .int .i64 a1] w fun e w' => ∃ v0_ : Value, e = .returned (v0_) ∧ Kd.R (Kd.int .u64) 26 w' w.heap.size (fun _ => True) v0_ r ∧ Below w.heap.size w w' := by
  have HR0 := y9.mk hr0
  have HC0 := y9.mk hc0
  clear hr0 hc0
  have HB := y9.mk (Below.refl w.heap.size w)
  have H : (if (l0.length : Int) = 0 then (some ([] : List Int)) else (if 0 ≤ (wrap64 ((wrap64 ((l0.length : Int) + (wrap64 (Int.tdiv a1 32)))) + 1)) then (if (wrap64 ((wrap64 ((l0.length : Int) + (wrap64 (Int.tdiv a1 32)))) + 1) : Int).toNat ≤ 35184372088832 then (z0l.l0 k l0 a1 (List.replicate (wrap64 ((wrap64 ((l0.length : Int) + (wrap64 (Int.tdiv a1 32)))) + 1) : Int).toNat 0) 0) else (none)) else (none))) = some r := h
  clear h
  by_cases c3 : (l0.length : Int) = 0
  · rw [if_pos c3] at H
    have c3b0 : ((l0.length : Int) == 0) = true := beq_iff_eq.mpr c3
    have c3b1 : ((l0.length : Int) != 0) = false := bne_eq_false_iff_eq.mpr c3
    clear c3
    obtain rfl := Option.some.inj H
    go_enter Tryz.func37, Tryz.ntmps37
    go_wp2
    go_ret
    exact ⟨_, by rfl, by exact Kd.R_nil _ _ _ _ _, by repeat ((with_reducible exact HB.out))⟩
  rw [if_neg c3] at H
  have c3b0 : ((l0.length : Int) == 0) = false := beq_eq_false_iff_ne.mpr c3
  have c3b1 : ((l0.length : Int) != 0) = true := bne_iff_ne.mpr c3
  have c3b2 : ¬ (l0 = []) := fun h_ => c3 (by rw [h_]; rfl)
  obtain ⟨ji4, hji4⟩ : ∃ j_ : Int, (wrap64 ((wrap64 ((l0.length : Int) + (wrap64 (Int.tdiv a1 32)))) + 1)) = j_ := ⟨_, rfl⟩
  replace H : (if 0 ≤ (ji4) then (if (ji4 : Int).toNat ≤ 35184372088832 then (z0l.l0 k l0 a1 (List.replicate (ji4 : Int).toNat 0) 0) else (none)) else (none)) = some r := by (rw [hji4] at H; exact H)
  have hji4w : (IntKind.i64.wrap ((wrap64 ((l0.length : Int) + (wrap64 (Int.tdiv a1 32)))) + 1)) = ji4 := (z0t _).trans hji4
  by_cases c5 : 0 ≤ (ji4)
  · rw [if_pos c5] at H
    have c5b0 := eq_true c5
    have c5b1 : decide (0 ≤ (ji4)) = true := decide_eq_true c5
    clear c5
    by_cases c6 : (ji4 : Int).toNat ≤ 35184372088832
    · rw [if_pos c6] at H
      have c6b0 := eq_true c6
      have c6b1 : decide ((ji4 : Int).toNat ≤ 35184372088832) = true := decide_eq_true c6
      clear c6
      obtain ⟨y204, hy204⟩ : ∃ y_ : List Int, y_ = (List.replicate (ji4 : Int).toNat 0) := ⟨_, rfl⟩
      replace H : (z0l.l0 k l0 a1 y204 0) = some r := by (rw [hy204]; with_reducible exact H)
      have Ny204 := y9.mk hy204
      clear hy204
      have H' := y9.mk H
      clear H
      go_enter Tryz.func37, Tryz.ntmps37
      go_wp2_with (((with_reducible refine z1s (N := 17) rfl ?_); refine Kd.R_make (Kd.int .u64) _ 26 rfl (N := 17) rfl 51 _ _ rfl ji4 rfl rfl Tryz.underlying51 (.int .u64 0) 8 info26 rfl (by decide) (by omega) 0 (ok := fun _ => True) (okp := fun _ => True) rfl (fun _ hk => hk) trivial (of_decide_eq_true (by (with_reducible assumption))) (Nat.le_trans (Nat.mul_le_mul_right _ (of_decide_eq_true (by (with_reducible assumption)) : ji4.toNat ≤ 35184372088832)) (by omega)) (Below.refl _ _) (Nat.le_refl _) ?_; intro v205 w7 ho8 hb hg_ hnew_; clear hg_ hnew_; (rw [← Ny204.out] at ho8); have n0_ := y9.mk (Kd.z1j ho8 (z0n (by repeat ((with_reducible exact HB.out))))); have n1_ := y9.mk (z0m (by repeat ((with_reducible exact HB.out))) hb); clear HB; have HO206 := n0_; have HB := n1_; clear n0_ n1_; clear hb ho8))
      go_loopg [6] k (fun kq v6 w' => ∃ (x5_1 : List Int) (x6_1 : Int), v6 = .int .i64 x6_1 ∧ y9 (z0l.l0 kq l0 a1 x5_1 x6_1 = some r) ∧ y9 (kq ≤ k) ∧ y9 (Kd.R (Kd.int .u64) 26 w' w.heap.size (fun _ => True) v205 x5_1) ∧ y9 (Below w.heap.size w w'))
      case atStart => exact ⟨(y204), (0), (by rfl), H', ⟨Nat.le_refl _⟩, ⟨by (with_reducible repeat (fail)); exact HO206.out⟩, ⟨by repeat ((with_reducible exact HB.out))⟩⟩
      case round =>
        clear H'
        (try clear p2); (try clear c3); (try clear c3b0); (try clear c3b1); (try clear c3b2); (try clear c5); (try clear c5b0); (try clear c5b1); (try clear c6); (try clear c6b0); (try clear c6b1); (try clear p6)
        obtain ⟨x5_1, x6_1, rfl, HA, HK1, HO_5, HB⟩ := hrel
        cases gk with
        | zero => exact absurd HA.out (by simp [z0l.l0])
        | succ k1 =>
          have H := HA.out
          clear HA
          simp only [z0l.l0] at H
          by_cases c9 : x6_1 < (l0.length : Int)
          · rw [if_pos c9] at H
            have c9b0 : decide (x6_1 < (l0.length : Int)) = true := decide_eq_true c9
            clear c9
            by_cases c10 : 0 ≤ x6_1
            · rw [if_pos c10] at H
              have c10b0 : decide (0 ≤ x6_1) = true := decide_eq_true c10
              clear c10
              obtain ⟨ji11, hji11⟩ : ∃ j_ : Int, (Int.tmod a1 32) = j_ := ⟨_, rfl⟩
              replace H : (if 0 ≤ (ji11) then (if 0 ≤ (wrap64 (x6_1 + (wrap64 (Int.tdiv a1 32)))) then (if (wrap64 (x6_1 + (wrap64 (Int.tdiv a1 32)))) < (x5_1.length : Int) then (if 0 ≤ (wrap64 ((wrap64 (x6_1 + (wrap64 (Int.tdiv a1 32)))) + 1)) then (if (wrap64 ((wrap64 (x6_1 + (wrap64 (Int.tdiv a1 32)))) + 1)) < (x5_1.length : Int) then (z0l.l0 k1 l0 a1 ((x5_1.set ((wrap64 (x6_1 + (wrap64 (Int.tdiv a1 32)))) : Int).toNat (IntKind.u64.wrap ((rd x5_1 (wrap64 (x6_1 + (wrap64 (Int.tdiv a1 32))))) + (Int.tmod (shl .u64 (rd l0 x6_1) (ji11)) 4294967296)))).set ((wrap64 ((wrap64 (x6_1 + (wrap64 (Int.tdiv a1 32)))) + 1)) : Int).toNat (IntKind.u64.wrap (Int.tdiv (shl .u64 (rd l0 x6_1) (ji11)) 4294967296))) (wrap64 (x6_1 + 1))) else (none)) else (none)) else (none)) else (none)) else (none)) = some r := by (rw [hji11] at H; exact H)
              by_cases c12 : 0 ≤ (ji11)
              · rw [if_pos c12] at H
                have c12b0 := eq_true c12
                have c12b1 : decide (0 ≤ (ji11)) = true := decide_eq_true c12
                clear c12
                obtain ⟨ji13, hji13⟩ : ∃ j_ : Int, (shl .u64 (rd l0 x6_1) (ji11)) = j_ := ⟨_, rfl⟩
                replace H : (if 0 ≤ (wrap64 (x6_1 + (wrap64 (Int.tdiv a1 32)))) then (if (wrap64 (x6_1 + (wrap64 (Int.tdiv a1 32)))) < (x5_1.length : Int) then (if 0 ≤ (wrap64 ((wrap64 (x6_1 + (wrap64 (Int.tdiv a1 32)))) + 1)) then (if (wrap64 ((wrap64 (x6_1 + (wrap64 (Int.tdiv a1 32)))) + 1)) < (x5_1.length : Int) then (z0l.l0 k1 l0 a1 ((x5_1.set ((wrap64 (x6_1 + (wrap64 (Int.tdiv a1 32)))) : Int).toNat (IntKind.u64.wrap ((rd x5_1 (wrap64 (x6_1 + (wrap64 (Int.tdiv a1 32))))) + (Int.tmod (ji13) 4294967296)))).set ((wrap64 ((wrap64 (x6_1 + (wrap64 (Int.tdiv a1 32)))) + 1)) : Int).toNat (IntKind.u64.wrap (Int.tdiv (ji13) 4294967296))) (wrap64 (x6_1 + 1))) else (none)) else (none)) else (none)) else (none)) = some r := by (rw [hji13] at H; exact H)
                have hji13_ : (IntKind.u64.wrap ((rd l0 x6_1) * 2 ^ min (ji11).toNat 64)) = ji13 := hji13
                have hji13z : (ji11) ≤ 64 → (IntKind.u64.wrap ((rd l0 x6_1) * 2 ^ (ji11).toNat)) = ji13 := z4a hji13
                obtain ⟨ji14, hji14⟩ : ∃ j_ : Int, (wrap64 (x6_1 + (wrap64 (Int.tdiv a1 32)))) = j_ := ⟨_, rfl⟩
                replace H : (if 0 ≤ (ji14) then (if (ji14) < (x5_1.length : Int) then (if 0 ≤ (wrap64 ((ji14) + 1)) then (if (wrap64 ((ji14) + 1)) < (x5_1.length : Int) then (z0l.l0 k1 l0 a1 ((x5_1.set ((ji14) : Int).toNat (IntKind.u64.wrap ((rd x5_1 (ji14)) + (Int.tmod (ji13) 4294967296)))).set ((wrap64 ((ji14) + 1)) : Int).toNat (IntKind.u64.wrap (Int.tdiv (ji13) 4294967296))) (wrap64 (x6_1 + 1))) else (none)) else (none)) else (none)) else (none)) = some r := by (rw [hji14] at H; exact H)
                have hji14w : (IntKind.i64.wrap (x6_1 + (wrap64 (Int.tdiv a1 32)))) = ji14 := (z0t _).trans hji14
                by_cases c15 : 0 ≤ (ji14)
                · rw [if_pos c15] at H
                  have c15b0 : decide (0 ≤ (ji14)) = true := decide_eq_true c15
                  clear c15
                  by_cases c16 : (ji14) < (x5_1.length : Int)
                  · rw [if_pos c16] at H
                    have c16b0 : decide ((ji14) < (x5_1.length : Int)) = true := decide_eq_true c16
                    clear c16
                    obtain ⟨y209, hy209⟩ : ∃ y_ : List Int, y_ = (x5_1.set ((ji14) : Int).toNat (IntKind.u64.wrap ((rd x5_1 (ji14)) + (Int.tmod (ji13) 4294967296)))) := ⟨_, rfl⟩
                    replace H : (if 0 ≤ (wrap64 ((ji14) + 1)) then (if (wrap64 ((ji14) + 1)) < (x5_1.length : Int) then (z0l.l0 k1 l0 a1 (y209.set ((wrap64 ((ji14) + 1)) : Int).toNat (IntKind.u64.wrap (Int.tdiv (ji13) 4294967296))) (wrap64 (x6_1 + 1))) else (none)) else (none)) = some r := by (rw [hy209]; with_reducible exact H)
                    have Ny209 := y9.mk hy209
                    clear hy209
                    obtain ⟨ji18, hji18⟩ : ∃ j_ : Int, (wrap64 ((ji14) + 1)) = j_ := ⟨_, rfl⟩
                    replace H : (if 0 ≤ (ji18) then (if (ji18) < (x5_1.length : Int) then (z0l.l0 k1 l0 a1 (y209.set ((ji18) : Int).toNat (IntKind.u64.wrap (Int.tdiv (ji13) 4294967296))) (wrap64 (x6_1 + 1))) else (none)) else (none)) = some r := by (rw [hji18] at H; exact H)
                    have hji18w : (IntKind.i64.wrap ((ji14) + 1)) = ji18 := (z0t _).trans hji18
                    by_cases c19 : 0 ≤ (ji18)
                    · rw [if_pos c19] at H
                      have c19b0 : decide (0 ≤ (ji18)) = true := decide_eq_true c19
                      clear c19
                      by_cases c20 : (ji18) < (x5_1.length : Int)
                      · rw [if_pos c20] at H
                        have c20b0 : decide ((ji18) < (x5_1.length : Int)) = true := decide_eq_true c20
                        clear c20
                        obtain ⟨y210, hy210⟩ : ∃ y_ : List Int, y_ = (y209.set ((ji18) : Int).toNat (IntKind.u64.wrap (Int.tdiv (ji13) 4294967296))) := ⟨_, rfl⟩
                        replace H : (z0l.l0 k1 l0 a1 y210 (wrap64 (x6_1 + 1))) = some r := by (rw [hy210]; with_reducible exact H)
                        have Ny210 := y9.mk hy210
                        clear hy210
                        have H' := y9.mk H
                        clear H
                        have p207 : 0 ≤ (x6_1 : Int) := of_decide_eq_true (by (with_reducible assumption))
                        have q207 : x6_1 < (l0.length : Int) := of_decide_eq_true (by (with_reducible assumption))
                        obtain ⟨ad207, e207, hx207_0⟩ := Kd.z2p HR0.out x6_1 p207 q207
                        cases e207
                        replace hx207_0 := (HB.out.cell (World.block_lt_of_cell? w _ hx207_0)).trans hx207_0
                        replace p207 := eq_true p207
                        replace q207 := eq_true q207
                        obtain ⟨Ao22, co22, eo22⟩ := Kd.z1g HO_5.out
                        subst eo22
                        have p208 : 0 ≤ ((ji14) : Int) := of_decide_eq_true (by (with_reducible assumption))
                        have q208 : (ji14) < (x5_1.length : Int) := of_decide_eq_true (by (with_reducible assumption))
                        obtain ⟨ad208, e208, hx208_0⟩ := Kd.z2p (Kd.z0q HO_5.out).2.2 (ji14) p208 q208
                        cases e208
                        replace p208 := eq_true p208
                        replace q208 := eq_true q208
                        have p17 : 0 ≤ ((ji14) : Int) := of_decide_eq_true (by (with_reducible assumption))
                        have q17 : ((ji14) : Int) < ((x5_1.length : Int) : Int) := of_decide_eq_true (by (with_reducible assumption))
                        obtain ⟨go17, co17, eo17, gb17, gl17, cl17, HG17⟩ := Kd.R_form HO_5.out (by omega)
                        (cases eo17)
                        have GB17 := y9.mk gb17
                        have GG17 := y9.mk HG17
                        clear gb17 gl17 HG17
                        (simp only [add_plain] at hx208_0)
                        obtain ⟨hx17_0, hf17_0⟩ := Kd.z4j 0 HO_5.out ((ji14) : Int) p17 q17
                        replace p17 := eq_true p17
                        replace q17 := eq_true q17
                        have HP23 := Kd.z6t HO_5.out ((ji14) : Int) (IntKind.u64.wrap ((rd x5_1 (ji14)) + (Int.tmod (ji13) 4294967296)))
                        go_wp2_with (first | ((with_reducible refine z5o (t := 26) (p := 46) rfl ?_); refine z5d (t := 26) (p := 46) (v := ?vo_w24) (w1 := (wr.setCell ⟨go17, ((ji14) : Int).toNat, none⟩ (.int .u64 (IntKind.u64.wrap ((rd x5_1 (ji14)) + (Int.tmod (ji13) 4294967296)))))) ?hg ?ho ?hn ?hr ?_; (case ho => rfl); (case hg => rfl); (case hn => rfl); (case hr => (go_simp; done)); intro w24 hw; have hg : wr.grownBy w24 (some go17) := (by rw [hw]; exact HP23.2); have hp_ : Kd.R (Kd.int .u64) 26 w24 w.heap.size (fun _ => True) (.slice (some ⟨go17, 0, none⟩) x5_1.length co22) y209 := (by rw [hw, Ny209.out]; exact HP23.1); clear HP23; have n0_ := y9.mk (hp_); have n1_ := y9.mk ((by rw [hw]; exact z3a (HB.out) GB17.out : Below w.heap.size w w24)); clear HO_5; clear HB; have HO_5 := n0_; have HB := n1_; clear n0_ n1_; clear hg hw hp_; have p21 : 0 ≤ ((ji18) : Int) := of_decide_eq_true (by (with_reducible assumption)); have q21 : ((ji18) : Int) < ((x5_1.length : Int) : Int) := of_decide_eq_true (by (with_reducible assumption)); obtain ⟨hx21_0, hf21_0⟩ := Kd.z4j 0 HO_5.out ((ji18) : Int) p21 q21; replace p21 := eq_true p21; replace q21 := eq_true q21; obtain ⟨hy25_, hz25_⟩ := Kd.z4j 0 HO_5.out ((ji18) : Int) (of_decide_eq_true (by (with_reducible assumption))) (of_decide_eq_true (by (with_reducible assumption))); have HP25 := Kd.z6t HO_5.out ((ji18) : Int) (IntKind.u64.wrap (Int.tdiv (ji13) 4294967296))) | ((with_reducible refine z5o (t := 26) (p := 55) rfl ?_); refine z5d (t := 26) (p := 55) (v := ?vo_w26) (w1 := (w24.setCell ⟨go17, ((ji18) : Int).toNat, none⟩ (.int .u64 (IntKind.u64.wrap (Int.tdiv (ji13) 4294967296))))) ?hg ?ho ?hn ?hr ?_; (case ho => rfl); (case hg => rfl); (case hn => rfl); (case hr => (go_simp; done)); intro w26 hw; have hg : w24.grownBy w26 (some go17) := (by rw [hw]; exact HP25.2); have hp_ : Kd.R (Kd.int .u64) 26 w26 w.heap.size (fun _ => True) (.slice (some ⟨go17, 0, none⟩) x5_1.length co22) y210 := (by rw [hw, Ny210.out]; exact HP25.1); clear HP25; have n0_ := y9.mk (hp_); have n1_ := y9.mk ((by rw [hw]; exact z3a (HB.out) GB17.out : Below w.heap.size w w26)); clear HO_5; clear HB; have HO_5 := n0_; have HB := n1_; clear n0_ n1_; clear hg hw hp_))
                        go_roundg k1
                        case measure => have := HK1.out; omega
                        case rel => exact ⟨(y210), (wrap64 (x6_1 + 1)), (by rfl), H', ⟨by have := HK1.out; omega⟩, ⟨by (with_reducible repeat (fail)); exact HO_5.out⟩, ⟨by repeat ((with_reducible exact HB.out))⟩⟩
                      rw [if_neg c20] at H
                      exact absurd H (by simp)
                    rw [if_neg c19] at H
                    exact absurd H (by simp)
                  rw [if_neg c16] at H
                  exact absurd H (by simp)
                rw [if_neg c15] at H
                exact absurd H (by simp)
              rw [if_neg c12] at H
              exact absurd H (by simp)
            rw [if_neg c10] at H
            exact absurd H (by simp)
          rw [if_neg c9] at H
          have c9b0 : decide (x6_1 < (l0.length : Int)) = false := decide_eq_false c9
          clear c9
          replace H := Option.bind_eq_some_iff.mp H
          obtain ⟨t211, A270, H⟩ := H
          have A27 := y9.mk A270
          clear A270
          obtain rfl := Option.some.inj H
          obtain ⟨Ao28, co28, eo28⟩ := Kd.z1g HO_5.out
          subst eo28
          go_wp2_with (((with_reducible refine z0y (f := 68) rfl ?_); refine z1p (some 57) rfl rfl Tryz.func68 (by kernel_rfl) rfl #[.slice Ao28 x5_1.length co28] rfl (by (try simp only [List.map_toArray, List.map_cons, List.map_nil]); rfl) ?_; (with_reducible refine (z0r.calls k1 (fun k_ => some k_ = (.slice Ao28 x5_1.length co28 : Value).ownBlock) (.slice Ao28 x5_1.length co28) x5_1 t211 w _ ?side1 ?side2 A27.out).mono ?_); (case side1 => repeat ((with_reducible exact HB.out))); (case side2 => exact Kd.z7d rfl HO_5.out); rintro e w29 ⟨v212, rfl, ho0, hb, hkp⟩; refine ⟨_, rfl, ?_⟩; have n0_ := y9.mk (Kd.z2l (ok' := fun k_ => True) ho0 (fun k_ hk_ => trivial)); have n1_ := y9.mk (hb); clear HB; clear HO_5; have HO213 := n0_; have HB := n1_; clear n0_ n1_; (try clear hb); (try clear hkp); (try clear ho0)))
          go_ret
          exact ⟨_, by rfl, by (with_reducible repeat (fail)); exact HO213.out, by repeat ((with_reducible exact HB.out))⟩
    rw [if_neg c6] at H
    exact absurd H (by simp)
  rw [if_neg c5] at H
  exact absurd H (by simp)
end Go.Proofs.YtjpiplplohapnaaGreatDoor.PText
namespace Go.Proofs.YtjpiplplohapnaaGreatDoor.Big
open Go.RowKit Go.Proofs.YtjpiplplohapnaaGreatDoorW.PrintWords Go.Proofs.YtjpiplplohapnaaGreatDoor.PText
def cmp3 (a b : Nat) : Int := if a < b then -1 else if b < a then 1 else 0
theorem div_dig (a i : Nat) : a / B ^ i = a / B ^ (i + 1) * B + dig a i := by
  unfold dig
  rw [Nat.pow_succ, ← Nat.div_div_eq_div_mul]
  have := Nat.div_add_mod (a / B ^ i) B
  rw [Nat.mul_comm] at this
  exact this.symm
theorem z9d {a b i : Nat} (h : a / B ^ i < b / B ^ i) : a < b := by
  rcases Nat.lt_or_ge a b with h1 | h1
  · exact h1
  have := Nat.div_le_div_right (c := B ^ i) h1
  omega
theorem cmp_l0 (a b L : Nat) (ha : ln a = L) (hb : ln b = L) (hL : L ≤ top) : ∀ i, i ≤ L → a / B ^ i = b / B ^ i → Ev (fun k => z0u.l0 k (dg a) (dg b) ((i : Int) - 1)) (cmp3 a b)
  | 0, _, h => by
    have e : a = b := by simpa using h
    subst e
    refine Ev.step (f := fun _ => some 0) (fun k => ?_) ?_
    · rw [z0u.l0, if_neg (by omega)]
    have : cmp3 a a = 0 := by unfold cmp3; rw [if_neg (by omega), if_neg (by omega)]
    rw [this]; exact Ev.now _
  | i + 1, hi, h => by
    have la : (dg a).length = L := by rw [z1c, ha]
    have lb : (dg b).length = L := by rw [z1c, hb]
    have e1 : ((i + 1 : Nat) : Int) - 1 = i := by omega
    have da := div_dig a i
    have db := div_dig b i
    rw [h] at da
    have ra := rd_dg a i (by omega)
    have rb := rd_dg b i (by omega)
    rw [e1]
    by_cases h1 : dig a i < dig b i
    · refine Ev.step (f := fun _ => some (-1)) (fun k => ?_) ?_
      · rw [z0u.l0, if_pos (by omega), if_pos (by omega), if_pos (by omega), if_pos (by omega), ra, rb, if_pos (by omega)]
      have : a < b := z9d (i := i) (by omega)
      unfold cmp3; rw [if_pos this]; exact Ev.now _
    by_cases h2 : dig b i < dig a i
    · refine Ev.step (f := fun _ => some 1) (fun k => ?_) ?_
      · rw [z0u.l0, if_pos (by omega), if_pos (by omega), if_pos (by omega), if_pos (by omega), ra, rb, if_neg (by omega), if_pos (by omega)]
      have : b < a := z9d (i := i) (by omega)
      unfold cmp3; rw [if_neg (by omega), if_pos this]; exact Ev.now _
    refine Ev.step (f := fun k => z0u.l0 k (dg a) (dg b) ((i : Int) - 1)) (fun k => ?_) (cmp_l0 a b L ha hb hL i (by omega) (by omega))
    rw [z0u.l0, if_pos (by omega), if_pos (by omega), if_pos (by omega), if_pos (by omega), ra, rb, if_neg (by omega), if_neg (by omega), w64 (by omega) (by unfold top at hL; omega)]
theorem cmp_ev (a b : Nat) (ha : ln a ≤ top) (hb : ln b ≤ top) : Ev (fun k => z0u.f k (dg a) (dg b)) (cmp3 a b) := by
  rcases Nat.lt_trichotomy (ln a) (ln b) with h | h | h
  · have hlt : a < b := by
      rcases Nat.lt_or_ge a b with h1 | h1
      · exact h1
      have := ln_mono h1; omega
    refine Ev.congr (f := fun _ => some (-1)) (fun k => ?_) ?_
    · unfold z0u.f
      rw [z1c, z1c, if_neg (by omega), if_pos (by omega)]
    unfold cmp3; rw [if_pos hlt]; exact Ev.now _
  · refine Ev.congr (f := fun k => z0u.l0 k (dg a) (dg b) ((ln a : Int) - 1)) (fun k => ?_) (cmp_l0 a b (ln a) rfl h.symm ha (ln a) (Nat.le_refl _) ?_)
    · unfold z0u.f
      rw [z1c, z1c, if_pos (by omega), w64 (by omega) (by unfold top at ha; omega)]
    rw [Nat.div_eq_of_lt (z1r a), h, Nat.div_eq_of_lt (z1r b)]
  have hlt : b < a := by
    rcases Nat.lt_or_ge b a with h1 | h1
    · exact h1
    have := ln_mono h1; omega
  refine Ev.congr (f := fun _ => some 1) (fun k => ?_) ?_
  · unfold z0u.f
    rw [z1c, z1c, if_neg (by omega), if_neg (by omega)]
  unfold cmp3; rw [if_neg (by omega), if_pos hlt]; exact Ev.now _
theorem sub_l0 (a b : Nat) (L : Nat) (hL : L = ln a) (ht : L ≤ top) (hab : b ≤ a) :
    ∀ (d i m c : Nat), d + i = L → m < B ^ i → c ≤ 1 → m + b % B ^ i = a % B ^ i + c * B ^ i →
    Ev (fun k => z1a.l0 k (dg a) (dg b) (dgL L m) (c : Int) (i : Int)) (dg (a - b)) := by
  intro d
  have hB : B = 4294967296 := rfl
  have haL : a < B ^ L := hL ▸ z1r a
  induction d with
  | zero =>
    intro i m c hd hm hc he
    obtain rfl : i = L := by omega
    have ha : a % B ^ i = a := Nat.mod_eq_of_lt (by omega)
    have hb : b % B ^ i = b := Nat.mod_eq_of_lt (by omega)
    rw [ha, hb] at he
    have hc0 : c = 0 := by
      rcases Nat.lt_or_ge 0 c with h | h
      · obtain rfl : c = 1 := by omega
        omega
      omega
    subst hc0
    obtain rfl : m = a - b := by omega
    refine Ev.step (f := fun k => (z0r.f k (dgL i (a - b))).bind fun t => some t) (fun k => ?_) (Ev.bind (f := fun _ t => some t) (z6z i _ ht hm) (Ev.now _))
    simp only [z1a.l0]
    rw [z1c, if_neg (by omega)]
  | succ d ih =>
    intro i m c hd hm hc he
    have x1 := z4d a i
    have x2 := z4d b i
    obtain ⟨s, hs⟩ : ∃ s, s + dig b i + c = dig a i + B := ⟨dig a i + B - dig b i - c, by omega⟩
    have hset := setD_eq m i (s % B)
    have hz : dig m i = 0 := z5k hm
    rw [hz] at hset
    have hcs : s / B ≤ 1 := Nat.le_of_lt_succ (divB_lt s 2 (by omega))
    have hmi : setD m i (s % B) < B ^ (i + 1) := by
      have h1 := Nat.mod_lt s Bpos
      have h2 : (s % B + 1) * B ^ i ≤ B * B ^ i := Nat.mul_le_mul_right _ h1
      rw [Nat.add_mul] at h2
      rw [Nat.pow_succ']; omega
    refine Ev.step (fun k => ?_) (ih (i + 1) (setD m i (s % B)) (1 - s / B) (by omega) hmi (Nat.sub_le 1 _) ?_)
    · simp only [z1a.l0]
      rw [z1c, if_pos (by omega), if_pos (by omega), z4w]
      simp only [Option.bind_some]
      rw [z3b, if_pos (by omega), Int.toNat_natCast, rd_dg _ _ (by omega)]
      have e3 : ((dig a i : Nat) : Int) + 4294967296 = ((dig a i + B : Nat) : Int) := by omega
      rw [e3, wun _ (by omega)]
      have e4 : ((dig a i + B : Nat) : Int) - ((dig b i : Nat) : Int) = ((s + c : Nat) : Int) := by omega
      rw [e4, wun _ (by omega)]
      have e7 : ((s + c : Nat) : Int) - (c : Int) = (s : Int) := by omega
      rw [e7, wun _ (by omega)]
      have e5 : Int.tmod (s : Int) 4294967296 = ((s % B : Nat) : Int) := by rw [Int.tmod_eq_emod_of_nonneg (by omega)]; rfl
      have e6 : Int.tdiv (s : Int) 4294967296 = ((s / B : Nat) : Int) := by rw [Int.tdiv_eq_ediv_of_nonneg (by omega)]; rfl
      rw [e5, e6, wun (s / B) (by omega), z5v _ _ _ _ (by omega) (Nat.mod_lt _ Bpos), w64 (by omega) (by unfold top at ht; omega)]
      have e8 : (1 : Int) - ((s / B : Nat) : Int) = ((1 - s / B : Nat) : Int) := by omega
      rw [e8, wun _ (Nat.lt_of_le_of_lt (Nat.sub_le 1 _) (by omega))]
      rfl
    rw [z4s a i, z4s b i, Nat.pow_succ']
    have hdm := Nat.div_add_mod s B
    have t3 : (s + dig b i + c) * B ^ i = (dig a i + B) * B ^ i := by rw [hs]
    have t2 : (B * (s / B) + s % B) * B ^ i = s * B ^ i := by rw [hdm]
    have t4 : (1 - s / B) * (B * B ^ i) + B * (s / B) * B ^ i = B * B ^ i := by
      rw [Nat.mul_comm B (s / B), Nat.mul_assoc, ← Nat.add_mul]
      rw [show 1 - s / B + s / B = 1 by omega, Nat.one_mul]
    rw [Nat.add_mul, Nat.add_mul] at t3
    rw [Nat.add_mul] at t3 t2
    omega
theorem sub_ev (a b : Nat) (ht : ln a ≤ top) (hab : b ≤ a) : Ev (fun k => z1a.f k (dg a) (dg b)) (dg (a - b)) := by
  refine Ev.congr (fun k => ?_) (sub_l0 a b (ln a) rfl ht hab (ln a) 0 0 0 (by omega) (by simp) (by omega) (by simp [Nat.mod_one]))
  unfold z1a.f
  unfold top at ht
  rw [z1c, if_pos (by omega), if_pos (by omega)]
  rw [Int.toNat_natCast, z6o]
  rfl
theorem z8z (m j y : Nat) : setD m j (dig m j + y) = m + y * B ^ j := by
  have := setD_eq m j (dig m j + y)
  rw [Nat.add_mul] at this
  omega
theorem shl_ev (x r : Nat) (hr : r ≤ 32) (hx : x < 4294967296) : shl .u64 (x : Int) (r : Int) = ((x * 2 ^ r : Nat) : Int) := by
  have h32 : (2 : Nat) ^ r ≤ 2 ^ 32 := Nat.pow_le_pow_right (by omega) hr
  have h1 : x * 2 ^ r ≤ x * 2 ^ 32 := Nat.mul_le_mul_left _ h32
  have h2 : x * 2 ^ r < 18446744073709551616 := by
    have : (2 : Nat) ^ 32 = 4294967296 := by decide
    omega
  unfold shl
  rw [Nat.min_eq_left (by show ((r : Int)).toNat ≤ 64; omega), Int.toNat_natCast]
  rw [← wun _ h2]
  congr 1
theorem up_l0 (a n q r L : Nat) (hn : n = 32 * q + r) (hr : r < 32) (hL : L = ln a + q + 1) (ht : L ≤ top) :
    ∀ (d i m : Nat), d + i = ln a → m = a % B ^ i * 2 ^ n → Ev (fun k => z0l.l0 k (dg a) (n : Int) (dgL L m) (i : Int)) (dg (a * 2 ^ n)) := by
  have hB : B = 4294967296 := rfl
  have h2n : 2 ^ n = B ^ q * 2 ^ r := by rw [hn, Nat.pow_add, B_eq]
  have h2r : 2 ^ r < B := by
    have := Nat.pow_lt_pow_right (a := 2) (by omega) hr
    have : (2 : Nat) ^ 32 = B := by decide
    omega
  have hrp : 0 < 2 ^ r := Nat.pow_pos (by omega)
  intro d
  induction d with
  | zero =>
    intro i m hd hm
    obtain rfl : i = ln a := by omega
    have ha : a % B ^ ln a = a := Nat.mod_eq_of_lt (z1r a)
    rw [ha] at hm
    subst hm
    have hlt : a * 2 ^ n < B ^ L := by
      rw [h2n, hL, Nat.pow_add, Nat.pow_add, Nat.pow_one, Nat.mul_assoc]
      exact Nat.mul_lt_mul'' (z1r a) (Nat.mul_lt_mul_of_pos_left h2r (z2x q))
    refine Ev.step (f := fun k => (z0r.f k (dgL L (a * 2 ^ n))).bind fun t => some t) (fun k => ?_) (Ev.bind (f := fun _ t => some t) (z6z L _ ht hlt) (Ev.now _))
    simp only [z0l.l0]
    rw [z1c, if_neg (by omega)]
  | succ d ih =>
    intro i m hd hm
    have x1 := z4d a i
    have hmlt : m < 2 ^ r * B ^ (i + q) := by
      rw [hm, h2n, Nat.pow_add, ← Nat.mul_assoc, Nat.mul_comm (2 ^ r)]
      exact Nat.mul_lt_mul_of_pos_right (Nat.mul_lt_mul_of_pos_right (Nat.mod_lt _ (z2x i)) (z2x q)) hrp
    obtain ⟨x, hx⟩ : ∃ x, x = dig a i * 2 ^ r := ⟨_, rfl⟩
    have hdm : dig m (i + q) < 2 ^ r := by
      have : m / B ^ (i + q) < 2 ^ r := Nat.div_lt_of_lt_mul (by rw [Nat.mul_comm]; exact hmlt)
      exact Nat.lt_of_le_of_lt (Nat.mod_le _ _) this
    have hsum : dig m (i + q) + x % B < B := by
      have hBr : B = 2 ^ (32 - r) * 2 ^ r := by rw [← Nat.pow_add, show 32 - r + r = 32 by omega]
      have h1 : x % B = dig a i % 2 ^ (32 - r) * 2 ^ r := by rw [hx, hBr, Nat.mul_mod_mul_right]
      have h2 : dig a i % 2 ^ (32 - r) < 2 ^ (32 - r) := Nat.mod_lt _ (Nat.pow_pos (by omega))
      have h3 : (dig a i % 2 ^ (32 - r) + 1) * 2 ^ r ≤ 2 ^ (32 - r) * 2 ^ r := Nat.mul_le_mul_right _ h2
      rw [Nat.add_mul, ← hBr] at h3
      omega
    have hxB : x / B < B := by
      have : x < B * B := by rw [hx]; exact Nat.mul_lt_mul'' x1 h2r
      exact Nat.div_lt_of_lt_mul this
    have hmi : m < B ^ (i + q + 1) := by
      have := Nat.mul_le_mul_right (B ^ (i + q)) (Nat.le_of_lt h2r)
      rw [Nat.pow_succ']; omega
    have hm1 : m + x % B * B ^ (i + q) < B ^ (i + q + 1) := by
      have h1 := Nat.div_add_mod m (B ^ (i + q))
      have h2 := Nat.mod_lt m (z2x (i + q))
      have h3 : m / B ^ (i + q) = dig m (i + q) := by
        unfold dig
        rw [Nat.mod_eq_of_lt]
        have : m / B ^ (i + q) < 2 ^ r := Nat.div_lt_of_lt_mul (by rw [Nat.mul_comm]; exact hmlt)
        omega
      rw [h3, Nat.mul_comm] at h1
      have h4 : (dig m (i + q) + x % B + 1) * B ^ (i + q) ≤ B * B ^ (i + q) := Nat.mul_le_mul_right _ hsum
      rw [Nat.add_mul, Nat.add_mul] at h4
      rw [Nat.pow_succ']; omega
    have hz : dig (m + x % B * B ^ (i + q)) (i + q + 1) = 0 := z5k hm1
    have s1 : setD m (i + q) (dig m (i + q) + x % B) = m + x % B * B ^ (i + q) := z8z _ _ _
    have s2 : setD (m + x % B * B ^ (i + q)) (i + q + 1) (x / B) = m + x * B ^ (i + q) := by
      have := z8z (m + x % B * B ^ (i + q)) (i + q + 1) (x / B)
      rw [hz, Nat.zero_add] at this
      rw [this, Nat.pow_succ', ← Nat.mul_assoc]
      have hdv := Nat.div_add_mod x B
      have t : (B * (x / B) + x % B) * B ^ (i + q) = x * B ^ (i + q) := by rw [hdv]
      rw [Nat.add_mul, Nat.mul_comm B] at t
      omega
    refine Ev.step (fun k => ?_) (ih (i + 1) (m + x * B ^ (i + q)) (by omega) ?_)
    · simp only [z0l.l0]
      have e1 : Int.tmod (n : Int) 32 = (r : Int) := by rw [Int.tmod_eq_emod_of_nonneg (by omega)]; omega
      have e2 : Int.tdiv (n : Int) 32 = (q : Int) := by rw [Int.tdiv_eq_ediv_of_nonneg (by omega)]; omega
      have t9 : top = 1000000000 := rfl
      rw [e1, e2, w64 (x := (q : Int)) (by omega) (by omega)]
      rw [show (i : Int) + (q : Int) = ((i + q : Nat) : Int) by omega, w64 (x := ((i + q : Nat) : Int)) (by omega) (by omega)]
      rw [show ((i + q : Nat) : Int) + 1 = ((i + q + 1 : Nat) : Int) by omega, w64 (x := ((i + q + 1 : Nat) : Int)) (by omega) (by omega)]
      rw [z1c, z3b, if_pos (by omega), if_pos (by omega), if_pos (by omega), if_pos (by omega), if_pos (by omega), if_pos (by omega), if_pos (by omega)]
      rw [rd_dg _ _ (by omega), z7l _ _ _ (by omega), shl_ev _ _ (by omega) x1, ← hx]
      have e5 : Int.tmod (x : Int) 4294967296 = ((x % B : Nat) : Int) := by rw [Int.tmod_eq_emod_of_nonneg (by omega)]; rfl
      have e6 : Int.tdiv (x : Int) 4294967296 = ((x / B : Nat) : Int) := by rw [Int.tdiv_eq_ediv_of_nonneg (by omega)]; rfl
      rw [e5, e6, show ((dig m (i + q) : Nat) : Int) + ((x % B : Nat) : Int) = ((dig m (i + q) + x % B : Nat) : Int) by omega, wun _ (by omega), wun _ (by omega), Int.toNat_natCast, Int.toNat_natCast]
      rw [z5v _ _ _ _ (by omega) hsum, s1, z5v _ _ _ _ (by omega) hxB, s2, w64 (by omega) (by omega)]
      rfl
    rw [z4s, Nat.add_mul, ← hm, hx, h2n]
    congr 1
    rw [Nat.pow_add]
    simp only [Nat.mul_assoc, Nat.mul_comm, Nat.mul_left_comm]
theorem up_ev (a n : Nat) (hn : n ≤ 10000000) (ht : ln a ≤ 10000000) : Ev (fun k => z0l.f k (dg a) (n : Int)) (dg (a * 2 ^ n)) := by
  have t9 : top = 1000000000 := rfl
  by_cases h0 : ln a = 0
  · have : a = 0 := by
      have := z1r a
      rw [h0] at this
      simpa using this
    subst this
    refine Ev.congr (f := fun _ => some (dg (0 * 2 ^ n))) (fun k => ?_) (Ev.now _)
    unfold z0l.f
    rw [z1c, if_pos (by omega), Nat.zero_mul]
    simp [dg, z3z, dgL]
  refine Ev.congr (fun k => ?_) (up_l0 a n (n / 32) (n % 32) (ln a + n / 32 + 1) (by omega) (by omega) rfl (by omega) (ln a) 0 0 (by omega) (by simp [Nat.mod_one]))
  unfold z0l.f
  have e2 : Int.tdiv (n : Int) 32 = ((n / 32 : Nat) : Int) := by rw [Int.tdiv_eq_ediv_of_nonneg (by omega)]; omega
  rw [e2, w64 (x := ((n / 32 : Nat) : Int)) (by omega) (by omega), z1c, if_neg (by omega)]
  rw [show ((ln a : Nat) : Int) + ((n / 32 : Nat) : Int) = ((ln a + n / 32 : Nat) : Int) by omega, w64 (x := ((ln a + n / 32 : Nat) : Int)) (by omega) (by omega)]
  rw [show ((ln a + n / 32 : Nat) : Int) + 1 = ((ln a + n / 32 + 1 : Nat) : Int) by omega, w64 (x := ((ln a + n / 32 + 1 : Nat) : Int)) (by omega) (by omega)]
  rw [if_pos (by omega), Int.toNat_natCast, if_pos (by omega), z6o]
  rfl
end Go.Proofs.YtjpiplplohapnaaGreatDoor.Big
