/- Part 12 of the proof: Nr, NrI, Us, Ut, Uq, Un, Dc, Dr, Dp, Dl. -/
import Derived.Test.YtjpiplplohapnaaGreatDoorPr11
import Ieee.Arith
import GoSem.PinnedTables
import Derived.KernelRfl
import Derived.WalkLawsBesides
import Derived.WalkSpells
import Derived.WalkMore
import Derived.Outline
import Derived.Lib.Hide
import Derived.Deep.CutBlock
import Derived.Deep.DeepCutAuto
import Derived.Deep.QuietTactic
import Derived.BigQuiet
set_option linter.unusedVariables false
set_option linter.unusedSimpArgs false
namespace Go.Proofs.YtjpiplplohapnaaGreatDoor.Nr
def V (r : Nat) : Nat := if r < 4503599627370496 then r else (4503599627370496 + r % 4503599627370496) * 2 ^ (r / 4503599627370496 - 1)
theorem V_form (l n : Nat) (h : (4503599627370496 ≤ n ∧ n ≤ 9007199254740992) ∨ (l = 0 ∧ n ≤ 9007199254740992)) : V (l * 4503599627370496 + n) = n * 2 ^ l := by
  unfold V
  by_cases h1 : l * 4503599627370496 + n < 4503599627370496
  · rw [if_pos h1]
    have h0 : l = 0 := by omega
    subst h0; simp
  · rw [if_neg h1]
    rcases Nat.lt_or_ge n 9007199254740992 with h2 | h2
    · have a : (l * 4503599627370496 + n) / 4503599627370496 = l + 1 := by omega
      have b : (l * 4503599627370496 + n) % 4503599627370496 = n - 4503599627370496 := by omega
      have c : l + 1 - 1 = l := by omega
      have d : 4503599627370496 + (n - 4503599627370496) = n := by omega
      rw [a, b, c, d]
    · have e : n = 9007199254740992 := by omega
      subst e
      have a : (l * 4503599627370496 + 9007199254740992) / 4503599627370496 = l + 2 := by omega
      have b : (l * 4503599627370496 + 9007199254740992) % 4503599627370496 = 0 := by omega
      have c : l + 2 - 1 = l + 1 := by omega
      rw [a, b, c]
      have hp : 2 ^ (l + 1) = 2 ^ l * 2 := Nat.pow_succ ..
      generalize 2 ^ (l + 1) = x at *
      generalize 2 ^ l = y at *
      omega
theorem form (r : Nat) : ∃ l n, r = l * 4503599627370496 + n ∧ ((4503599627370496 ≤ n ∧ n < 9007199254740992) ∨ (l = 0 ∧ n < 9007199254740992)) := by
  by_cases h : r < 4503599627370496
  · exact ⟨0, r, by omega, Or.inr ⟨rfl, by omega⟩⟩
  · exact ⟨r / 4503599627370496 - 1, r - (r / 4503599627370496 - 1) * 4503599627370496, by omega, Or.inl ⟨by omega, by omega⟩⟩
theorem V_step (r : Nat) : V r < V (r + 1) := by
  obtain ⟨l, n, rfl, h⟩ := form r
  rw [Nat.add_assoc, V_form l n (by omega), V_form l (n + 1) (by omega), Nat.add_mul]
  have := Nat.pow_pos (a := 2) (n := l) (by decide)
  omega
theorem V_mono {a b : Nat} (h : a ≤ b) : V a ≤ V b := by
  induction h with
  | refl => exact Nat.le_refl _
  | step _ ih => exact Nat.le_trans ih (Nat.le_of_lt (V_step _))
def Rhe (A Q n : Nat) : Prop := 2 * A ≤ (2 * n + 1) * Q ∧ 2 * n * Q ≤ 2 * A + Q ∧ (2 * A = (2 * n + 1) * Q → n % 2 = 0) ∧ (2 * n * Q = 2 * A + Q → n % 2 = 0)
theorem rhe_scale {A Q n : Nat} (k : Nat) (hk : 0 < k) (h : Rhe (A * k) (Q * k) n) : Rhe A Q n := by
  obtain ⟨h1, h2, h3, h4⟩ := h
  have e1 : 2 * (A * k) = (2 * A) * k := by rw [Nat.mul_assoc]
  have e2 : (2 * n + 1) * (Q * k) = ((2 * n + 1) * Q) * k := by rw [Nat.mul_assoc]
  have e3 : 2 * n * (Q * k) = (2 * n * Q) * k := (Nat.mul_assoc _ _ _).symm
  have e4 : 2 * (A * k) + Q * k = (2 * A + Q) * k := by rw [Nat.add_mul, e1]
  rw [e1, e2] at h1 h3
  rw [e3, e4] at h2 h4
  exact ⟨Nat.le_of_mul_le_mul_right h1 hk, Nat.le_of_mul_le_mul_right h2 hk, fun h => h3 (by rw [h]), fun h => h4 (by rw [h])⟩
theorem rhe_scale' {A Q n : Nat} (k : Nat) (hk : 0 < k) (h : Rhe A Q n) : Rhe (A * k) (Q * k) n := by
  obtain ⟨h1, h2, h3, h4⟩ := h
  have e1 : 2 * (A * k) = (2 * A) * k := by rw [Nat.mul_assoc]
  have e2 : (2 * n + 1) * (Q * k) = ((2 * n + 1) * Q) * k := by rw [Nat.mul_assoc]
  have e3 : 2 * n * (Q * k) = (2 * n * Q) * k := (Nat.mul_assoc _ _ _).symm
  have e4 : 2 * (A * k) + Q * k = (2 * A + Q) * k := by rw [Nat.add_mul, e1]
  unfold Rhe
  rw [e1, e2, e3, ← e1, e4, e1]
  exact ⟨Nat.mul_le_mul_right _ h1, Nat.mul_le_mul_right _ h2, fun h => h3 (Nat.eq_of_mul_eq_mul_right hk h), fun h => h4 (Nat.eq_of_mul_eq_mul_right hk h)⟩
end Go.Proofs.YtjpiplplohapnaaGreatDoor.Nr
namespace Go.Proofs.YtjpiplplohapnaaGreatDoor.Nr
theorem rhe_le {A Q n k : Nat} (hQ : 0 < Q) (h : Rhe A Q n) (hk : A ≤ k * Q) : n ≤ k := by
  rcases Nat.lt_or_ge k n with h1 | h1
  · exfalso
    obtain ⟨-, h2, -, h4⟩ := h
    have a : 2 * (k + 1) * Q ≤ 2 * n * Q := Nat.mul_le_mul_right _ (by omega)
    have b : 2 * (k + 1) * Q = 2 * (k * Q) + 2 * Q := by rw [Nat.mul_assoc, Nat.add_mul, Nat.one_mul, Nat.mul_add]
    omega
  · exact h1
theorem rhe_exact {A Q n : Nat} (hQ : 0 < Q) (h : A = n * Q) : Rhe A Q n := by
  have e1 : (2 * n + 1) * Q = 2 * A + Q := by rw [Nat.add_mul, Nat.one_mul, Nat.mul_assoc, ← h]
  have e2 : 2 * n * Q = 2 * A := by rw [Nat.mul_assoc, ← h]
  unfold Rhe
  rw [e1, e2]
  exact ⟨by omega, by omega, fun h => by omega, fun h => by omega⟩
end Go.Proofs.YtjpiplplohapnaaGreatDoor.Nr
namespace Go.Proofs.YtjpiplplohapnaaGreatDoor.Us
def unr (N D : Nat) : Nat := if N % D = 0 then N / D else N / D / 2 * 2 + 1
theorem unr_exact {N D q : Nat} (hD : 0 < D) (h : N = q * D) : unr N D = q := by
  unfold unr
  rw [h, Nat.mul_mod_left, if_pos rfl, Nat.mul_div_cancel _ hD]
theorem unr_between {N D q : Nat} (h1 : q * D < N) (h2 : N < (q + 1) * D) : unr N D = q / 2 * 2 + 1 := by
  have hd : N / D = q := Nat.div_eq_of_lt_le (Nat.le_of_lt h1) h2
  unfold unr
  rw [if_neg, hd]
  intro h
  have := Nat.div_add_mod N D
  rw [hd, h, Nat.mul_comm] at this
  omega
def usc (x hi lo s : Nat) : Nat :=
  let h := x * hi / 18446744073709551616
  let mid := x * hi % 18446744073709551616
  if h % 2 ^ s ≠ 0 then h / 2 ^ s / 2 * 2 + 1
  else
    let mid2 := x * lo / 18446744073709551616
    let h' := if mid < mid2 then h - 1 else h
    let r := if mid < mid2 then 18446744073709551616 + mid - mid2 else mid - mid2
    if 1 < r then h' / 2 ^ s / 2 * 2 + 1 else h' / 2 ^ s
structure RowOk (hi lo num den : Nat) : Prop where
  dpos : 0 < den
  small : lo < 18446744073709551616
  below : num + lo * den ≤ hi * 18446744073709551616 * den
  above : hi * 18446744073709551616 * den < num + lo * den + den
def Clean (x hi lo s num den : Nat) : Prop :=
  x * hi / 18446744073709551616 % 2 ^ s = 0 → x * lo / 18446744073709551616 ≤ x * hi % 18446744073709551616 → x * hi % 18446744073709551616 ≤ x * lo / 18446744073709551616 + 1 → x * num = x * hi / 18446744073709551616 * 340282366920938463463374607431768211456 * den
theorem usc_ok {x hi lo s num den : Nat} (hx : x < 18446744073709551616) (hx0 : 0 < x) (h : RowOk hi lo num den) (hc : Clean x hi lo s num den) : usc x hi lo s = unr (x * num) (den * (340282366920938463463374607431768211456 * 2 ^ s)) := by
  obtain ⟨hden, hlo, hb, ha⟩ := h
  unfold usc
  unfold Clean at hc
  have e1 := Nat.div_add_mod (x * hi) 18446744073709551616
  have m1 := Nat.mod_lt (x * hi) (show 0 < 18446744073709551616 by decide)
  have e2 := Nat.div_add_mod (x * lo) 18446744073709551616
  have m2 := Nat.mod_lt (x * lo) (show 0 < 18446744073709551616 by decide)
  have hxlo : x * lo ≤ (18446744073709551616 - 1) * (18446744073709551616 - 1) := Nat.mul_le_mul (by omega) (by omega)
  have hmid2 : x * lo / 18446744073709551616 ≤ 18446744073709551616 - 2 := by
    have : x * lo / 18446744073709551616 < 18446744073709551616 - 1 := by
      rw [Nat.div_lt_iff_lt_mul (by decide)]
      exact Nat.lt_of_le_of_lt hxlo (by decide)
    omega
  have hp : 0 < 2 ^ s := Nat.pow_pos (by decide)
  have B1 : x * num + (x * lo) * den ≤ (x * hi) * 18446744073709551616 * den := by
    have := Nat.mul_le_mul_left x hb
    rw [Nat.mul_add, ← Nat.mul_assoc x lo, ← Nat.mul_assoc x, ← Nat.mul_assoc x] at this
    exact this
  have B2 : (x * hi) * 18446744073709551616 * den < x * num + (x * lo) * den + x * den := by
    have := Nat.mul_lt_mul_of_pos_left ha hx0
    rw [Nat.mul_add, Nat.mul_add, ← Nat.mul_assoc x lo, ← Nat.mul_assoc x, ← Nat.mul_assoc x] at this
    exact this
  generalize x * num = R at *
  generalize x * hi = P at *
  generalize x * lo = Lo at *
  generalize P / 18446744073709551616 = hh at *
  generalize P % 18446744073709551616 = mid at *
  generalize Lo / 18446744073709551616 = mid2 at *
  generalize Lo % 18446744073709551616 = f at *
  dsimp only
  have key : ∀ a b : Nat, a ≤ b → a * den ≤ b * den := fun a b h => Nat.mul_le_mul_right _ h
  have k1 : R ≤ (hh * 340282366920938463463374607431768211456 + mid * 18446744073709551616) * den := by
    have : P * 18446744073709551616 = hh * 340282366920938463463374607431768211456 + mid * 18446744073709551616 := by rw [← e1]; omega
    rw [← this]; omega
  have k2 : (hh * 340282366920938463463374607431768211456 + mid * 18446744073709551616) * den < R + (Lo + x) * den := by
    have : P * 18446744073709551616 = hh * 340282366920938463463374607431768211456 + mid * 18446744073709551616 := by rw [← e1]; omega
    have hE := Nat.add_mul Lo x den
    have hP : P * 18446744073709551616 * den = (hh * 340282366920938463463374607431768211456 + mid * 18446744073709551616) * den := by rw [this]
    rw [← hP, hE, ← Nat.add_assoc]
    exact B2
  have between : ∀ q : Nat, q * (340282366920938463463374607431768211456 * 2 ^ s) * den < R → R < (q + 1) * (340282366920938463463374607431768211456 * 2 ^ s) * den → unr R (den * (340282366920938463463374607431768211456 * 2 ^ s)) = q / 2 * 2 + 1 := by
    intro q h1 h2
    refine unr_between ?_ ?_
    · rw [Nat.mul_comm den, ← Nat.mul_assoc]; exact h1
    · rw [Nat.mul_comm den, ← Nat.mul_assoc]; exact h2
  by_cases c1 : hh % 2 ^ s = 0
  · rw [if_neg (by omega)]
    obtain ⟨q, hq⟩ : ∃ q, hh = q * 2 ^ s := ⟨hh / 2 ^ s, by have := Nat.div_add_mod hh (2 ^ s); rw [Nat.mul_comm]; omega⟩
    by_cases c2 : mid < mid2
    · rw [if_pos c2, if_pos c2, if_pos (by omega)]
      have hh1 : 1 ≤ hh := by
        rcases Nat.lt_or_ge 0 hh with h | h
        · exact h
        · have : hh = 0 := by omega
          subst this
          exfalso
          have a1 : mid * 18446744073709551616 + 18446744073709551616 ≤ Lo := by omega
          have a2 : (mid * 18446744073709551616 + 18446744073709551616) * den ≤ Lo * den := key _ _ a1
          rw [Nat.add_mul] at a2
          have : 0 < 18446744073709551616 * den := Nat.mul_pos (by decide) hden
          rw [Nat.zero_mul, Nat.zero_add] at k1
          have : P * 18446744073709551616 * den = (mid * 18446744073709551616) * den := by
            have : P * 18446744073709551616 = mid * 18446744073709551616 := by rw [← e1]; omega
            rw [this]
          omega
      have hq1 : 1 ≤ q := by
        rcases Nat.lt_or_ge 0 q with h | h
        · exact h
        · have : q = 0 := by omega
          subst this; omega
      have hd : (hh - 1) / 2 ^ s = q - 1 := by
        refine Nat.div_eq_of_lt_le ?_ ?_
        · have : (q - 1) * 2 ^ s + 2 ^ s = q * 2 ^ s := by rw [← Nat.succ_mul]; congr 1; omega
          omega
        · have : (q - 1 + 1) * 2 ^ s = q * 2 ^ s := by congr 1; omega
          omega
      rw [hd]
      refine (between (q - 1) ?_ ?_).symm
      · have a1 : (q - 1) * (340282366920938463463374607431768211456 * 2 ^ s) + (Lo + x) ≤ hh * 340282366920938463463374607431768211456 + mid * 18446744073709551616 := by
          have b1 : (q - 1) * (340282366920938463463374607431768211456 * 2 ^ s) + 340282366920938463463374607431768211456 * 2 ^ s = hh * 340282366920938463463374607431768211456 := by
            rw [← Nat.succ_mul, hq, show (q - 1).succ = q by omega, Nat.mul_comm 340282366920938463463374607431768211456, Nat.mul_assoc]
          have b2 : 340282366920938463463374607431768211456 * 1 ≤ 340282366920938463463374607431768211456 * 2 ^ s := Nat.mul_le_mul_left _ hp
          omega
        have := key _ _ a1
        rw [Nat.add_mul] at this
        omega
      · have a1 : hh * 340282366920938463463374607431768211456 + mid * 18446744073709551616 + 1 ≤ (q - 1 + 1) * (340282366920938463463374607431768211456 * 2 ^ s) + Lo := by
          have b1 : (q - 1 + 1) * (340282366920938463463374607431768211456 * 2 ^ s) = hh * 340282366920938463463374607431768211456 := by
            rw [hq, show q - 1 + 1 = q by omega, Nat.mul_comm 340282366920938463463374607431768211456, Nat.mul_assoc]
          omega
        have := key _ _ a1
        have hP : P * 18446744073709551616 * den = (hh * 340282366920938463463374607431768211456 + mid * 18446744073709551616) * den := by
          have : P * 18446744073709551616 = hh * 340282366920938463463374607431768211456 + mid * 18446744073709551616 := by rw [← e1]; omega
          rw [this]
        have e5 := Nat.succ_mul (hh * 340282366920938463463374607431768211456 + mid * 18446744073709551616) den
        have e6 := Nat.add_mul ((q - 1 + 1) * (340282366920938463463374607431768211456 * 2 ^ s)) Lo den
        rw [Nat.succ_eq_add_one] at e5
        omega
    · rw [if_neg c2, if_neg c2]
      have hd : hh / 2 ^ s = q := by rw [hq, Nat.mul_div_cancel _ hp]
      by_cases c3 : 1 < mid - mid2
      · rw [if_pos c3, hd]
        refine (between q ?_ ?_).symm
        · have a1 : q * (340282366920938463463374607431768211456 * 2 ^ s) + (Lo + x) ≤ hh * 340282366920938463463374607431768211456 + mid * 18446744073709551616 := by
            have b1 : q * (340282366920938463463374607431768211456 * 2 ^ s) = hh * 340282366920938463463374607431768211456 := by rw [hq, Nat.mul_comm 340282366920938463463374607431768211456, Nat.mul_assoc]
            omega
          have := key _ _ a1
          rw [Nat.add_mul] at this
          omega
        · have a1 : hh * 340282366920938463463374607431768211456 + mid * 18446744073709551616 + 1 ≤ (q + 1) * (340282366920938463463374607431768211456 * 2 ^ s) := by
            have b1 : q * (340282366920938463463374607431768211456 * 2 ^ s) = hh * 340282366920938463463374607431768211456 := by rw [hq, Nat.mul_comm 340282366920938463463374607431768211456, Nat.mul_assoc]
            have b2 : 340282366920938463463374607431768211456 * 1 ≤ 340282366920938463463374607431768211456 * 2 ^ s := Nat.mul_le_mul_left _ hp
            rw [Nat.add_mul]; omega
          have := key _ _ a1
          rw [Nat.add_mul] at this
          omega
      · rw [if_neg c3, hd]
        have := hc c1 (by omega) (by omega)
        rw [unr_exact (q := q) (Nat.mul_pos hden (Nat.mul_pos (by decide) hp))]
        rw [this, hq, Nat.mul_comm den, ← Nat.mul_assoc, Nat.mul_assoc q, Nat.mul_comm (2 ^ s)]
  · rw [if_pos c1]
    have hdm := Nat.div_add_mod hh (2 ^ s)
    have hml := Nat.mod_lt hh hp
    obtain ⟨q, hq⟩ : ∃ q, q = hh / 2 ^ s := ⟨_, rfl⟩
    rw [← hq] at hdm ⊢
    refine (between q ?_ ?_).symm
    · have a1 : q * (340282366920938463463374607431768211456 * 2 ^ s) + (Lo + x) ≤ hh * 340282366920938463463374607431768211456 + mid * 18446744073709551616 := by
        have b1 : q * (340282366920938463463374607431768211456 * 2 ^ s) = 2 ^ s * q * 340282366920938463463374607431768211456 := by
          rw [Nat.mul_comm 340282366920938463463374607431768211456, Nat.mul_comm (2 ^ s) q, Nat.mul_assoc]
        rw [b1]
        omega
      have := key _ _ a1
      rw [Nat.add_mul] at this
      omega
    · have a1 : hh * 340282366920938463463374607431768211456 + mid * 18446744073709551616 + 1 ≤ (q + 1) * (340282366920938463463374607431768211456 * 2 ^ s) := by
        have b1 : q * (340282366920938463463374607431768211456 * 2 ^ s) = 2 ^ s * q * 340282366920938463463374607431768211456 := by
          rw [Nat.mul_comm 340282366920938463463374607431768211456, Nat.mul_comm (2 ^ s) q, Nat.mul_assoc]
        rw [Nat.add_mul, b1, Nat.one_mul, Nat.mul_comm 340282366920938463463374607431768211456 (2 ^ s)]
        have : (hh + 1) * 340282366920938463463374607431768211456 ≤ (2 ^ s * q + 2 ^ s) * 340282366920938463463374607431768211456 := Nat.mul_le_mul_right _ (by omega)
        rw [Nat.add_mul, Nat.add_mul] at this
        omega
      have := key _ _ a1
      rw [Nat.add_mul] at this
      omega
end Go.Proofs.YtjpiplplohapnaaGreatDoor.Us
namespace Go.Proofs.YtjpiplplohapnaaGreatDoor.Us
def lp (p : Int) : Int := p * 108853 / 32768
def num (p : Int) : Nat := 10 ^ p.toNat * 2 ^ (127 - lp p).toNat
def den (p : Int) : Nat := 10 ^ (-p).toNat * 2 ^ (lp p - 127).toNat
structure Fence (pm q1 m1 a1 q2 m2 a2 : Nat) : Prop where
  one : a1 + m1 * 87112285931760246646623899502532662132736 = q1 * pm
  two : a2 + q2 * pm = m2 * 87112285931760246646623899502532662132736
  det : q1 * m2 = q2 * m1 + 1
  wide : 18446744073709551616 ≤ q1 + q2
  far1 : q1 ≠ 0 ∧ 18446744073709551616 < (9223372036854775808 + q1 - 1) / q1 * a1
  far2 : q2 ≠ 0 ∧ 18446744073709551616 ≤ (9223372036854775808 + q2 - 1) / q2 * a2
instance (pm q1 m1 a1 q2 m2 a2 : Nat) : Decidable (Fence pm q1 m1 a1 q2 m2 a2) :=
  decidable_of_iff (a1 + m1 * 87112285931760246646623899502532662132736 = q1 * pm ∧ a2 + q2 * pm = m2 * 87112285931760246646623899502532662132736 ∧ q1 * m2 = q2 * m1 + 1 ∧ 18446744073709551616 ≤ q1 + q2 ∧ (q1 ≠ 0 ∧ 18446744073709551616 < (9223372036854775808 + q1 - 1) / q1 * a1) ∧ (q2 ≠ 0 ∧ 18446744073709551616 ≤ (9223372036854775808 + q2 - 1) / q2 * a2))
    ⟨fun ⟨a, b, c, d, e, f⟩ => ⟨a, b, c, d, e, f⟩, fun ⟨a, b, c, d, e, f⟩ => ⟨a, b, c, d, e, f⟩⟩
def rowCheck (p : Int) (r : Nat × Nat) : Bool :=
  let n := num p
  let d := den p
  let pm := r.1 * 18446744073709551616
  decide (0 < d ∧ r.2 < 18446744073709551616 ∧ n + r.2 * d ≤ pm * d ∧ pm * d < n + r.2 * d + d ∧ 9223372036854775808 ≤ r.1 ∧ r.1 ≤ 18437736874454810624 ∧ 2 ^ 127 * d ≤ n)
def printCheck (p : Int) (r : Nat × Nat) : Bool := !(decide (0 ≤ p) && decide (p ≤ 31)) || decide (num p = (r.1 * 18446744073709551616 - r.2) * den p ∧ ((r.1 * 18446744073709551616 - r.2) % 2 ^ 54 = 0))
def allFrom (f : Int → Nat × Nat → Bool) : Int → List (Nat × Nat) → Bool
  | _, [] => true
  | p, r :: l => f p r && allFrom f (p + 1) l
theorem allFrom_get (f : Int → Nat × Nat → Bool) : ∀ (l : List (Nat × Nat)) (p : Int), allFrom f p l = true → ∀ (i : Nat) (r : Nat × Nat), l[i]? = some r → f (p + i) r = true
  | [], _, _, i, r, h => by simp at h
  | x :: l, p, ha, i, r, h => by
    simp only [allFrom, Bool.and_eq_true] at ha
    cases i with
    | zero => simp at h; subst h; simpa using ha.1
    | succ i =>
      have := allFrom_get f l (p + 1) ha.2 i r (by simpa using h)
      rw [show p + ((i + 1 : Nat) : Int) = p + 1 + (i : Int) by omega]
      exact this
set_option maxRecDepth 100000 in
theorem rows_ok : allFrom rowCheck (-348) Pinned.pow10Rows = true := by decide +kernel
set_option maxRecDepth 100000 in
theorem prints_ok : allFrom printCheck (-348) Pinned.pow10Rows = true := by decide +kernel
theorem row_ok {i : Nat} {r : Nat × Nat} (h : Pinned.pow10Rows[i]? = some r) : RowOk r.1 r.2 (num ((i : Int) - 348)) (den ((i : Int) - 348)) ∧ 9223372036854775808 ≤ r.1 ∧ r.1 ≤ 18437736874454810624 ∧ 2 ^ 127 * den ((i : Int) - 348) ≤ num ((i : Int) - 348) := by
  have h1 := allFrom_get rowCheck _ _ rows_ok i r h
  rw [show (-348 : Int) + (i : Int) = (i : Int) - 348 by omega] at h1
  have h2 := of_decide_eq_true h1
  exact ⟨⟨h2.1, h2.2.1, h2.2.2.1, h2.2.2.2.1⟩, h2.2.2.2.2⟩
theorem rows_len : Pinned.pow10Rows.length = 696 := by decide +kernel
end Go.Proofs.YtjpiplplohapnaaGreatDoor.Us
namespace Go.Proofs.YtjpiplplohapnaaGreatDoor.Us
theorem near_place {x hi lo s : Nat} (hlo : lo ≤ hi * 18446744073709551616) (c1 : x * hi / 18446744073709551616 % 2 ^ s = 0) (c2 : x * lo / 18446744073709551616 ≤ x * hi % 18446744073709551616) (c3 : x * hi % 18446744073709551616 ≤ x * lo / 18446744073709551616 + 1) :
    x * (hi * 18446744073709551616 - lo) ≤ x * hi / 18446744073709551616 * 340282366920938463463374607431768211456 + 18446744073709551616 ∧ x * hi / 18446744073709551616 * 340282366920938463463374607431768211456 < x * (hi * 18446744073709551616 - lo) + 18446744073709551616 := by
  have e1 := Nat.div_add_mod (x * hi) 18446744073709551616
  have e2 := Nat.div_add_mod (x * lo) 18446744073709551616
  have m2 := Nat.mod_lt (x * lo) (show 0 < 18446744073709551616 by decide)
  have e3 : x * (hi * 18446744073709551616 - lo) + x * lo = x * hi * 18446744073709551616 := by
    rw [← Nat.mul_add, Nat.sub_add_cancel hlo, Nat.mul_assoc]
  generalize x * (hi * 18446744073709551616 - lo) = P at *
  generalize x * hi = A at *
  generalize x * lo = L at *
  omega
theorem den_nonneg {p : Int} (h0 : 0 ≤ p) (h1 : p ≤ 31) : den p = 1 := by
  unfold den lp
  have e1 : (-p).toNat = 0 := by omega
  have e2 : (p * 108853 / 32768 - 127).toNat = 0 := by omega
  rw [e1, e2]
theorem place_eq (w hh : Nat) (p1 : w * 36893488147419103232 ≤ hh * 340282366920938463463374607431768211456 + 18446744073709551616) (p2 : hh * 340282366920938463463374607431768211456 < w * 36893488147419103232 + 18446744073709551616) : w * 36893488147419103232 = hh * 340282366920938463463374607431768211456 := by omega
theorem clean_print {i : Nat} {r : Nat × Nat} (h : Pinned.pow10Rows[i]? = some r) (hp : 0 ≤ (i : Int) - 348 ∧ (i : Int) - 348 ≤ 31) {x s : Nat} (hx : x % 2048 = 0) : Clean x r.1 r.2 s (num ((i : Int) - 348)) (den ((i : Int) - 348)) := by
  intro c1 c2 c3
  have h1 := allFrom_get printCheck _ _ prints_ok i r h
  rw [show (-348 : Int) + (i : Int) = (i : Int) - 348 by omega] at h1
  unfold printCheck at h1
  rw [decide_eq_true hp.1, decide_eq_true hp.2] at h1
  have h2 : decide (num ((i : Int) - 348) = (r.1 * 18446744073709551616 - r.2) * den ((i : Int) - 348) ∧ ((r.1 * 18446744073709551616 - r.2) % 2 ^ 54 = 0)) = true := by simpa using h1
  obtain ⟨z1, z2⟩ := of_decide_eq_true h2
  obtain ⟨hr, hb1, hb2, -⟩ := row_ok h
  have hlo : r.2 ≤ r.1 * 18446744073709551616 := by have := hr.small; omega
  obtain ⟨p1, p2⟩ := near_place hlo c1 c2 c3
  rw [z1, ← Nat.mul_assoc]
  have e1 : x = x / 2048 * 2048 := by omega
  have e2 : ∃ v, r.1 * 18446744073709551616 - r.2 = v * 18014398509481984 := by
    have h54 : (2 : Nat) ^ 54 = 18014398509481984 := by decide
    rw [h54] at z2
    exact ⟨(r.1 * 18446744073709551616 - r.2) / 18014398509481984, by omega⟩
  obtain ⟨v, hv⟩ := e2
  rw [hv] at p1 p2 ⊢
  have e3 : x * (v * 18014398509481984) = x / 2048 * v * 36893488147419103232 := by
    conv => lhs; rw [e1]
    generalize x / 2048 = y
    grind
  rw [e3] at p1 p2 ⊢
  exact congrArg (fun y => y * den ((i : Int) - 348)) (place_eq _ _ p1 p2)
end Go.Proofs.YtjpiplplohapnaaGreatDoor.Us
namespace Go.Proofs.YtjpiplplohapnaaGreatDoor.Us
open Nr
def rnd (u : Nat) : Nat := (u + 1 + u / 4 % 2) / 4
def stick (v : Nat) (b : Bool) : Nat := if b then v / 2 * 2 + 1 else v
theorem unr_parts (N D : Nat) : (N % D = 0 ∧ unr N D = N / D) ∨ (N % D ≠ 0 ∧ unr N D = N / D / 2 * 2 + 1) := by
  unfold unr
  by_cases h : N % D = 0
  · left; rw [if_pos h]; exact ⟨h, rfl⟩
  · right; rw [if_neg h]; exact ⟨h, rfl⟩
theorem rnd_rhe {N D : Nat} (hD : 0 < D) : Rhe N (4 * D) (rnd (unr N D)) := by
  have e1 := Nat.div_add_mod N D
  have m1 := Nat.mod_lt N hD
  obtain ⟨n, t, hn, ht⟩ : ∃ n t, N / D = 4 * n + t ∧ t < 4 := ⟨N / D / 4, N / D % 4, by omega, by omega⟩
  have hN : N = 4 * (D * n) + D * t + N % D := by
    have : D * (N / D) = 4 * (D * n) + D * t := by rw [hn, Nat.mul_add]; grind
    omega
  have q1 : (2 * n + 1) * (4 * D) = 8 * (D * n) + 4 * D := by grind
  have q2 : 2 * n * (4 * D) = 8 * (D * n) := by grind
  have q3 : (2 * (n + 1) + 1) * (4 * D) = 8 * (D * n) + 12 * D := by grind
  have q4 : 2 * (n + 1) * (4 * D) = 8 * (D * n) + 8 * D := by grind
  have up : rnd (unr N D) = n ∨ rnd (unr N D) = n + 1 := by
    unfold rnd
    rcases unr_parts N D with ⟨-, h⟩ | ⟨-, h⟩ <;> rw [h, hn] <;> omega
  have val : (rnd (unr N D) = n ∧ 2 * N ≤ (2 * n + 1) * (4 * D) ∧ (2 * N = (2 * n + 1) * (4 * D) → n % 2 = 0)) ∨ (rnd (unr N D) = n + 1 ∧ (2 * n + 1) * (4 * D) ≤ 2 * N ∧ (2 * N = (2 * n + 1) * (4 * D) → n % 2 = 1)) := by
    have ht' : t = 0 ∨ t = 1 ∨ t = 2 ∨ t = 3 := by omega
    unfold rnd
    rcases ht' with rfl | rfl | rfl | rfl <;> rcases unr_parts N D with ⟨hr, h⟩ | ⟨hr, h⟩ <;> rw [h, hn]
    · left; omega
    · left; omega
    · left; omega
    · left; omega
    · by_cases c : n % 2 = 0
      · left; omega
      · right; omega
    · right; omega
    · right; omega
    · right; omega
  generalize N % D = r at *
  generalize D * n = dn at *
  have ht' : t = 0 ∨ t = 1 ∨ t = 2 ∨ t = 3 := by omega
  unfold Rhe
  rcases val with ⟨h, a1, a2⟩ | ⟨h, a1, a2⟩
  · rw [h, q2]
    refine ⟨a1, ?_, a2, fun hh => ?_⟩
    · rcases ht' with rfl | rfl | rfl | rfl <;> omega
    · exfalso; rcases ht' with rfl | rfl | rfl | rfl <;> omega
  · rw [h, q3, q4]
    rw [q1] at a1 a2
    refine ⟨?_, ?_, fun hh => ?_, fun hh => ?_⟩
    · rcases ht' with rfl | rfl | rfl | rfl <;> omega
    · omega
    · exfalso; rcases ht' with rfl | rfl | rfl | rfl <;> omega
    · have := a2 (by omega); omega
theorem unr_scale {N D k : Nat} (hD : 0 < D) (hk : 0 < k) (he : k % 2 = 0) : unr N (D * k) = stick (unr N D / k) (decide (unr N D % 2 = 1) || decide (unr N D % k ≠ 0)) := by
  have e1 : N / (D * k) = N / D / k := (Nat.div_div_eq_div_mul ..).symm
  have e2 : N % (D * k) = N % D + D * (N / D % k) := Nat.mod_mul
  obtain ⟨j, rfl⟩ : ∃ j, k = 2 * j := ⟨k / 2, by omega⟩
  have hj : 0 < j := by omega
  have half : ∀ q, (q / 2 * 2 + 1) / (2 * j) = q / (2 * j) := by
    intro q
    rw [← Nat.div_div_eq_div_mul, ← Nat.div_div_eq_div_mul]
    congr 1; omega
  unfold stick
  rcases unr_parts N D with ⟨hr, h⟩ | ⟨hr, h⟩
  · rw [h]
    unfold unr
    rw [e1, e2, hr, Nat.zero_add]
    by_cases c : N / D % (2 * j) = 0
    · have c2 : N / D % 2 = 0 := by
        have := Nat.mod_mul_right_mod (N / D) 2 j
        rw [c] at this; omega
      rw [c, Nat.mul_zero, if_pos rfl, if_neg]
      simp [c2]
    · rw [if_neg (by have := Nat.mul_pos hD (Nat.pos_of_ne_zero c); omega), if_pos]
      simp [c]
  · rw [h]
    unfold unr
    rw [e1, e2, if_neg (by omega), half, if_pos]
    have : (N / D / 2 * 2 + 1) % 2 = 1 := by omega
    simp [this]
end Go.Proofs.YtjpiplplohapnaaGreatDoor.Us
namespace Go.Proofs.YtjpiplplohapnaaGreatDoor
open Go.RowKit Go.Proofs.YtjpiplplohapnaaGreatDoorW.PrintWords
namespace Dc
def dcell (d : Nat → Nat) (nd dp : Int) (ng tr : Bool) (i : Nat) : Value :=
  if i < 800 then .int .u8 (d i : Nat) else if i = 800 then .int .i64 nd else if i = 801 then .int .i64 dp else if i = 802 then .bool ng else .bool tr
def dcells (d : Nat → Nat) (nd dp : Int) (ng tr : Bool) : Array Value := Array.ofFn (n := 804) fun i => dcell d nd dp ng tr i.val
def IsDec (w : World) (g : Nat) (d : Nat → Nat) (nd dp : Int) (ng tr : Bool) : Prop := w.heap[g]? = some (.cells (dcells d nd dp ng tr) 162 (0, 0))
def upd (d : Nat → Nat) (i v : Nat) : Nat → Nat := fun j => if j = i then v else d j
theorem dcells_get (d : Nat → Nat) (nd dp : Int) (ng tr : Bool) (i : Nat) (h : i < 804) : (dcells d nd dp ng tr)[i]? = some (dcell d nd dp ng tr i) := by
  unfold dcells
  rw [Array.getElem?_ofFn, dif_pos h]
theorem dcells_size (d : Nat → Nat) (nd dp : Int) (ng tr : Bool) : (dcells d nd dp ng tr).size = 804 := Array.size_ofFn
theorem dcells_set {d : Nat → Nat} {nd dp : Int} {ng tr : Bool} {i : Nat} {u : Value} {d' : Nat → Nat} {nd' dp' : Int} {ng' tr' : Bool} (h : ∀ j, j < 804 → dcell d' nd' dp' ng' tr' j = if i = j then u else dcell d nd dp ng tr j) (hi : i < 804) :
    (dcells d nd dp ng tr).setIfInBounds i u = dcells d' nd' dp' ng' tr' := by
  apply Array.ext_getElem?
  intro j
  by_cases hj : j < 804
  · rw [dcells_get _ _ _ _ _ j hj, Array.getElem?_setIfInBounds, dcells_get _ _ _ _ _ j hj, h j hj, dcells_size]
    by_cases e : i = j
    · rw [if_pos e, if_pos e, if_pos hi]
    · rw [if_neg e, if_neg e]
  · rw [Array.getElem?_eq_none (by rw [Array.size_setIfInBounds, dcells_size]; omega), Array.getElem?_eq_none (by rw [dcells_size]; omega)]
section
variable {w : World} {g : Nat} {d : Nat → Nat} {nd dp : Int} {ng tr : Bool}
theorem IsDec.cell (h : IsDec w g d nd dp ng tr) (i : Nat) (hi : i < 804) : w.cell? ⟨g, i, none⟩ = some (dcell d nd dp ng tr i) := (blk_cell h i).trans (dcells_get _ _ _ _ _ i hi)
theorem IsDec.byte (h : IsDec w g d nd dp ng tr) (i : Nat) (hi : i < 800) : w.cell? ⟨g, i, none⟩ = some (.int .u8 (d i : Nat)) := by
  rw [h.cell i (by omega)]; unfold dcell; rw [if_pos hi]
theorem IsDec.cnd (h : IsDec w g d nd dp ng tr) : w.cell? ⟨g, 800, none⟩ = some (.int .i64 nd) := h.cell 800 (by decide)
theorem IsDec.cdp (h : IsDec w g d nd dp ng tr) : w.cell? ⟨g, 801, none⟩ = some (.int .i64 dp) := h.cell 801 (by decide)
theorem IsDec.ctr (h : IsDec w g d nd dp ng tr) : w.cell? ⟨g, 803, none⟩ = some (.bool tr) := h.cell 803 (by decide)
theorem IsDec.frozen (h : IsDec w g d nd dp ng tr) (i : Nat) : w.frozen? ⟨g, i, none⟩ = false := blk_frozen h i
theorem IsDec.setByte (h : IsDec w g d nd dp ng tr) (i v : Nat) (hi : i < 800) : IsDec (w.setCell ⟨g, i, none⟩ (.int .u8 (v : Nat))) g (upd d i v) nd dp ng tr := by
  refine blk_put h i _ (dcells_set (fun j hj => ?_) (by omega))
  unfold dcell upd
  by_cases e : i = j
  · subst e
    rw [if_pos hi, if_pos rfl, if_pos rfl]
  · rw [if_neg e, if_neg (c := j = i) (fun h => e h.symm)]
theorem IsDec.setNd (h : IsDec w g d nd dp ng tr) (v : Int) : IsDec (w.setCell ⟨g, 800, none⟩ (.int .i64 v)) g d v dp ng tr := by
  refine blk_put h 800 _ (dcells_set (fun j hj => ?_) (by omega))
  unfold dcell
  by_cases e : 800 = j
  · subst e; rfl
  · rw [if_neg e, if_neg (c := j = 800) (fun h => e h.symm), if_neg (c := j = 800) (fun h => e h.symm)]
theorem IsDec.setDp (h : IsDec w g d nd dp ng tr) (v : Int) : IsDec (w.setCell ⟨g, 801, none⟩ (.int .i64 v)) g d nd v ng tr := by
  refine blk_put h 801 _ (dcells_set (fun j hj => ?_) (by omega))
  unfold dcell
  by_cases e : 801 = j
  · subst e; rfl
  · rw [if_neg e, if_neg (c := j = 801) (fun h => e h.symm), if_neg (c := j = 801) (fun h => e h.symm)]
theorem IsDec.setTr (h : IsDec w g d nd dp ng tr) (v : Bool) : IsDec (w.setCell ⟨g, 803, none⟩ (.bool v)) g d nd dp ng v := by
  refine blk_put h 803 _ (dcells_set (fun j hj => ?_) (by omega))
  unfold dcell
  by_cases e : 803 = j
  · subst e; rfl
  · rw [if_neg e]
    by_cases h1 : j < 800
    · rw [if_pos h1, if_pos h1]
    · by_cases h2 : j = 800
      · rw [if_neg h1, if_neg h1, if_pos h2, if_pos h2]
      · by_cases h3 : j = 801
        · rw [if_neg h1, if_neg h1, if_neg h2, if_neg h2, if_pos h3, if_pos h3]
        · have h4 : j = 802 := by omega
          rw [if_neg h1, if_neg h1, if_neg h2, if_neg h2, if_neg h3, if_neg h3, if_pos h4, if_pos h4]
theorem IsDec.lt (h : IsDec w g d nd dp ng tr) : g < w.heap.size := blk_lt h
end
def tl (d : Nat → Nat) : Nat → Nat
  | 0 => 0
  | n + 1 => if d n = 48 then tl d n else n + 1
theorem tl_le (d : Nat → Nat) : ∀ n, tl d n ≤ n
  | 0 => Nat.le_refl _
  | n + 1 => by
    rw [tl]
    have := tl_le d n
    split <;> omega
theorem tl_zero (d : Nat → Nat) : ∀ n i, tl d n ≤ i → i < n → d i = 48
  | 0, i, _, h => by omega
  | n + 1, i, h1, h2 => by
    rw [tl] at h1
    by_cases h : d n = 48
    · rw [if_pos h] at h1
      by_cases hi : i = n
      · rw [hi]; exact h
      · exact tl_zero d n i h1 (by omega)
    · rw [if_neg h] at h1
      omega
theorem tl_last (d : Nat → Nat) : ∀ n, tl d n ≠ 0 → d (tl d n - 1) ≠ 48
  | 0, h => absurd rfl h
  | n + 1, h => by
    rw [tl] at h ⊢
    by_cases hd : d n = 48
    · rw [if_pos hd] at h ⊢
      exact tl_last d n h
    · rw [if_neg hd]
      exact hd
def dpz (n : Nat) (dp : Int) : Int := if n = 0 then 0 else dp
theorem IsDec.drewN {w : World} {g : Nat} {d : Nat → Nat} {nd dp : Int} {ng tr : Bool} (h : IsDec w g d nd dp ng tr) (n : Nat) : IsDec (w.drewN n) g d nd dp ng tr := h
end Dc
open Dc
set_option maxRecDepth 100000 in
set_option maxHeartbeats 1000000 in
theorem trim_walk (w : World) (g B : Nat) (hB : B ≤ g) (d : Nat → Nat) (nd : Nat) (dp : Int) (ng tr : Bool) (hnd : nd ≤ 800) (h : IsDec w g d nd dp ng tr) :
    Calls Tryz.prog 167 #[.pointer (some ⟨g, 0, none⟩)] w fun e w' => e = .returned (.tuple #[]) ∧ Below B w w' ∧ IsDec w' g d (tl d nd : Nat) (dpz (tl d nd) dp) ng tr := by
  go_enter Tryz.func167, Tryz.ntmps167
  go_wp2_with fail
  go_loopg [] nd (fun gn w' => IsDec w' g d gn dp ng tr ∧ Below B w w' ∧ tl d gn = tl d nd ∧ gn ≤ nd)
  case atStart => exact ⟨h, Below.refl _ _, rfl, Nat.le_refl _⟩
  case round =>
    obtain ⟨hD, hb, ht, hg⟩ := hrel
    cases gk with
    | zero =>
      have cnd : wr.cell? ⟨g, 800, none⟩ = some (.int .i64 0) := hD.cnd
      have fdp := hD.frozen 801
      have cdp := hD.cdp
      have hz : tl d nd = 0 := ht.symm
      have HZ := Lib.hid hz
      have HD := Lib.hid hD
      clear ht hz hD hnd h
      go_wp2_with fail
      go_quiet (fail)
      go_wp2_with fail
      go_end0
      refine ⟨rfl, (below_drewN hb _).setCell hB _, ?_⟩
      rw [HZ.out]
      exact (HD.out.drewN _).setDp 0
    | succ n =>
      obtain ⟨m, hm⟩ : ∃ m : Int, m = ((n + 1 : Nat) : Int) := ⟨_, rfl⟩
      have cnd : wr.cell? ⟨g, 800, none⟩ = some (.int .i64 m) := by rw [hm]; exact hD.cnd
      have cb : wr.cell? ⟨g, n, none⟩ = some (.int .u8 (d n : Nat)) := hD.byte n (by omega)
      have fnd := hD.frozen 800
      have cdp := hD.cdp
      have m1 : (0 : Int) < m := by omega
      have m2 : IntKind.i64.wrap (m - 1) = n := by rw [Go.IntKind.wrap_i64]; omega
      have m3 : m - 1 = (n : Int) := by omega
      have m4 : (n : Int) < 800 := by omega
      have m5 : n < 800 := by omega
      have m6 : (m == 0) = false := by simp; omega
      have HT := Lib.hid ht
      have HG := Lib.hid hg
      have HD := Lib.hid hD
      obtain ⟨c, hc⟩ : ∃ c, c = d n := ⟨_, rfl⟩
      rw [← hc] at cb
      by_cases h48 : c = 48
      · have f1 : ((c : Int) == 48) = true := by simp [h48]
        have HC := Lib.hid (hc.symm.trans h48)
        have HM := Lib.hid hm
        clear ht hg hD hnd h hc h48 hm
        go_wp2_with fail
        go_quiet (fail)
        go_wp2_with fail
        go_roundg n
        case measure => omega
        case rel => exact ⟨(HD.out.drewN _).setNd _, (below_drewN hb _).setCell hB _, by have := HT.out; rw [tl, if_pos HC.out] at this; exact this, by have := HG.out; omega⟩
      · have f1 : ((c : Int) == 48) = false := by simp; omega
        have hz : tl d nd = n + 1 := by rw [← ht, tl, if_neg (by rw [← hc]; exact h48)]
        have HZ := Lib.hid hz
        have HM := Lib.hid hm
        clear ht hg hD hnd h hc h48 hz hm
        go_wp2_with fail
        go_quiet (fail)
        go_wp2_with fail
        go_end0
        refine ⟨rfl, below_drewN hb _, ?_⟩
        rw [HZ.out]
        exact HD.out.drewN _
end Go.Proofs.YtjpiplplohapnaaGreatDoor
namespace Go.Proofs.YtjpiplplohapnaaGreatDoor
open Go.RowKit Go.Proofs.YtjpiplplohapnaaGreatDoorW.PrintWords
namespace Dc
def dig (d : Nat → Nat) (nd i : Nat) : Nat := if i < nd then d i - 48 else 0
def N (e : Nat → Nat) : Nat → Nat
  | 0 => 0
  | r + 1 => 10 * N e r + e r
theorem N_succ (e : Nat → Nat) (r : Nat) : N e (r + 1) = 10 * N e r + e r := rfl
theorem N_ext {d : Nat → Nat} {nd r : Nat} (h : nd ≤ r) : N (dig d nd) (r + 1) = 10 * N (dig d nd) r := by
  rw [N_succ]; unfold dig; rw [if_neg (by omega)]; rfl
theorem N_pow (d : Nat → Nat) (nd : Nat) : ∀ j, N (dig d nd) (nd + j) = N (dig d nd) nd * 10 ^ j
  | 0 => by simp
  | j + 1 => by
    rw [← Nat.add_assoc, N_ext (by omega), N_pow d nd j, Nat.pow_succ, Nat.mul_comm 10, Nat.mul_assoc]
theorem N_pos {e : Nat → Nat} (h : 1 ≤ e 0) : ∀ r, 1 ≤ N e (r + 1)
  | 0 => by rw [N_succ]; show 1 ≤ 10 * 0 + e 0; omega
  | r + 1 => by rw [N_succ]; have := N_pos h r; omega
theorem N_big {e : Nat → Nat} (h : 1 ≤ e 0) : ∀ r, 10 ^ r ≤ N e (r + 1)
  | 0 => by rw [N_succ]; show 1 ≤ 10 * 0 + e 0; omega
  | r + 1 => by rw [N_succ, Nat.pow_succ]; have := N_big h r; omega
theorem N_lt {e : Nat → Nat} (h : ∀ i, e i ≤ 9) : ∀ r, N e r < 10 ^ r
  | 0 => by show 0 < 1; decide
  | r + 1 => by
    rw [N_succ, Nat.pow_succ]
    have := N_lt h r
    have := h r
    omega
def qd (e : Nat → Nat) (P r0 w : Nat) : Nat := N e (r0 + w) / P % 10
def lost (e : Nat → Nat) (P r0 : Nat) : Nat → Bool
  | 0 => false
  | j + 1 => lost e P r0 j || (decide (800 ≤ j) && decide (qd e P r0 j ≠ 0))
theorem lost_small (e : Nat → Nat) (P r0 : Nat) : ∀ j, j ≤ 800 → lost e P r0 j = false
  | 0, _ => rfl
  | j + 1, h => by
    rw [lost, lost_small e P r0 j (by omega), decide_eq_false (show ¬ 800 ≤ j by omega)]
    rfl
theorem rest_step (e : Nat → Nat) (P r : Nat) (hP : 0 < P) : N e (r + 1) % (10 * P) = N e r % (10 * P) % P * 10 + e r % (10 * P) ∨ 10 * P ≤ N e r % (10 * P) % P * 10 + e r := by
  by_cases h : 10 * P ≤ N e r % (10 * P) % P * 10 + e r
  · exact Or.inr h
  · left
    have he : e r < 10 * P := by omega
    rw [Nat.mod_eq_of_lt he]
    have e1 : N e r % (10 * P) % P = N e r % P := Nat.mod_mul_left_mod _ _ _
    rw [e1] at h ⊢
    rw [N_succ]
    have hdm := Nat.div_add_mod (N e r) P
    have e2 : 10 * N e r + e r = (N e r % P * 10 + e r) + 10 * P * (N e r / P) := by
      rw [Nat.mul_assoc]
      generalize P * (N e r / P) = A at *
      omega
    rw [e2, Nat.add_mul_mod_self_left, Nat.mod_eq_of_lt (by omega)]
theorem rest_next {e : Nat → Nat} (P r : Nat) (hP : 0 < P) (he : ∀ i, e i ≤ 9) : N e (r + 1) % (10 * P) = N e r % (10 * P) % P * 10 + e r := by
  have h1 := Nat.mod_lt (N e r % (10 * P)) hP
  have h2 := he r
  rcases rest_step e P r hP with h | h
  · rw [Nat.mod_eq_of_lt (by omega : e r < 10 * P)] at h
    exact h
  · omega
theorem qd_rest (e : Nat → Nat) (P r0 w : Nat) (hP : 0 < P) : N e (r0 + w) % (10 * P) / P = qd e P r0 w := by
  unfold qd
  rw [Nat.mul_comm, Nat.mod_mul_right_div_self]
theorem rest_end (d : Nat → Nat) (nd k r : Nat) (h : nd + k + 1 ≤ r) : N (dig d nd) r % (10 * 2 ^ k) = 0 := by
  obtain ⟨j, rfl⟩ : ∃ j, r = nd + (k + 1 + j) := ⟨r - nd - (k + 1), by omega⟩
  rw [N_pow, Nat.pow_add, Nat.pow_succ]
  have e : (10 : Nat) ^ k = 2 ^ k * 5 ^ k := by rw [← Nat.mul_pow]
  rw [e]
  have e2 : N (dig d nd) nd * (2 ^ k * 5 ^ k * 10 * 10 ^ j) = 10 * 2 ^ k * (N (dig d nd) nd * 5 ^ k * 10 ^ j) := by
    generalize (2 : Nat) ^ k = a
    generalize (5 : Nat) ^ k = b
    generalize (10 : Nat) ^ j = c
    grind
  rw [e2, Nat.mul_mod_right]
structure Lead (e : Nat → Nat) (P r0 : Nat) : Prop where
  one : 1 ≤ r0
  lo : N e (r0 - 1) < P
  hi : P ≤ N e r0
theorem Lead.le20 {e : Nat → Nat} {P r0 : Nat} (h : Lead e P r0) (h0 : 1 ≤ e 0) (hP : P ≤ 1152921504606846976) : r0 ≤ 20 := by
  rcases Nat.lt_or_ge 20 r0 with g | g
  · exfalso
    obtain ⟨j, hj⟩ : ∃ j, r0 - 1 = j + 1 := ⟨r0 - 2, by omega⟩
    have h1 := N_big h0 j
    have h2 := h.lo
    rw [hj] at h2
    have h3 : 10 ^ 19 ≤ 10 ^ j := Nat.pow_le_pow_right (by decide) (by omega)
    have h4 : (10 : Nat) ^ 19 = 10000000000000000000 := by decide
    omega
  · exact g
structure Rs (d : Nat → Nat) (nd k : Nat) (d' : Nat → Nat) (r0 T W : Nat) : Prop where
  lead : Lead (dig d nd) (2 ^ k) r0
  far : nd ≤ T ∧ r0 ≤ T
  fin : N (dig d nd) T % (10 * 2 ^ k) = 0
  wid : W = min 800 (T - r0)
  dgs : ∀ i, i < W → d' i = 48 + qd (dig d nd) (2 ^ k) r0 i
theorem dig_le {d : Nat → Nat} {nd : Nat} (hd : ∀ i, i < nd → 48 ≤ d i ∧ d i ≤ 57) (i : Nat) : dig d nd i ≤ 9 := by
  unfold dig
  split
  · rename_i h; have := hd i h; omega
  · omega
end Dc
open Dc
theorem int_shr_u (v k : Nat) : (v : Int) / 2 ^ k = ((v / 2 ^ k : Nat) : Int) := by rw [Int.natCast_ediv, Int.natCast_pow]; rfl
theorem mask_and (n k : Nat) (hn : n < 18446744073709551616) (hk : k ≤ 60) : Go.bits .and .u64 (n : Int) ((2 ^ k - 1 : Nat) : Int) = ((n % 2 ^ k : Nat) : Int) := by
  have hp : 2 ^ k ≤ 2 ^ 60 := Nat.pow_le_pow_right (by decide) hk
  have h60 : (2 : Nat) ^ 60 = 1152921504606846976 := by decide
  rw [Go.u64_and_nat n (2 ^ k - 1) hn (by omega), Nat.and_two_pow_sub_one_eq_mod]
def RsPost (g B : Nat) (d : Nat → Nat) (nd k : Nat) (dp : Int) (ng tr : Bool) (w : World) (e : Ending) (w' : World) : Prop :=
  e = .returned (.tuple #[]) ∧ Below B w w' ∧ ∃ d' r0 T W, Rs d nd k d' r0 T W ∧ IsDec w' g d' (tl d' W : Nat) (dpz (tl d' W) (dp - ((r0 : Int) - 1))) ng (tr || lost (dig d nd) (2 ^ k) r0 (T - r0))
set_option maxRecDepth 100000 in
set_option maxHeartbeats 4000000 in
theorem rightShift_walk (w : World) (g B : Nat) (hB : B ≤ g) (d : Nat → Nat) (nd k : Nat) (dp : Int) (ng tr : Bool) (hk1 : 1 ≤ k) (hk : k ≤ 60) (hnd0 : 0 < nd) (hnd : nd ≤ 800) (hdp1 : -100000 ≤ dp) (hdp2 : dp ≤ 100000)
    (hd : ∀ i, i < nd → 48 ≤ d i ∧ d i ≤ 57) (h0 : d 0 ≠ 48) (h : IsDec w g d nd dp ng tr) :
    Calls Tryz.prog 169 #[.pointer (some ⟨g, 0, none⟩), .int .u64 k] w (RsPost g B d nd k dp ng tr w) := by
  obtain ⟨P, hP⟩ : ∃ P, P = 2 ^ k := ⟨_, rfl⟩
  have hPp : 0 < P := by rw [hP]; exact Nat.pow_pos (by decide)
  have hP60 : P ≤ 1152921504606846976 := by
    have hp : 2 ^ k ≤ 2 ^ 60 := Nat.pow_le_pow_right (by decide) hk
    have h60 : (2 : Nat) ^ 60 = 1152921504606846976 := by decide
    omega
  have he9 := dig_le hd
  have he0 : 1 ≤ dig d nd 0 := by unfold dig; rw [if_pos hnd0]; have := hd 0 hnd0; omega
  have cnd := h.cnd
  have HD := Lib.hid h
  have HK := Lib.hid hk
  have HdD := Lib.hid hd
  have hshr : ∀ v : Nat, (v : Int) / 2 ^ k = ((v / P : Nat) : Int) := fun v => by rw [hP]; exact int_shr_u v k
  have HShr := Lib.hid hshr
  have HP := Lib.hid hP
  have kI : (k : Int) ≤ 64 := by omega
  have kI0 : (0 : Int) ≤ k := by omega
  clear hP hshr h hd h0
  go_enter Tryz.func169, Tryz.ntmps169
  go_upto_block 0 with (fail)
  go_cut [4, 6] (fun v4 v6 w' => ∃ r0 : Nat, v4 = .int .i64 r0 ∧ v6 = .int .u64 (N (dig d nd) r0 : Nat) ∧ Hid (Lead (dig d nd) P r0) ∧ w = w')
  case first =>
    go_wp2_with fail
    go_loopg [4, 6] nd (fun gn v4 v6 w' => ∃ r : Nat, gn + r = nd ∧ v4 = .int .i64 r ∧ v6 = .int .u64 (N (dig d nd) r : Nat) ∧ Hid (r = 0 ∨ N (dig d nd) (r - 1) < P) ∧ w = w')
    case atStart => exact ⟨0, by omega, rfl, rfl, Lib.hid (Or.inl rfl), rfl⟩
    case round =>
      obtain ⟨r, hg, rfl, rfl, hlo, hww⟩ := hrel
      subst hww
      obtain ⟨n, hn⟩ : ∃ n, n = N (dig d nd) r := ⟨_, rfl⟩
      rw [← hn]
      have hsh := HShr.out n
      obtain ⟨q, hq⟩ : ∃ q, q = n / P := ⟨_, rfl⟩
      rw [← hq] at hsh
      by_cases hge : P ≤ n
      · have hq1 : q ≠ 0 := by
          have : 0 < n / P := Nat.div_pos hge hPp
          omega
        have f1 : ((q : Int) == 0) = false := by simp; omega
        have hLead : Hid (Lead (dig d nd) P r) := Lib.hid ⟨by
          rcases Nat.eq_zero_or_pos r with hr | hr
          · subst hr; rw [show N (dig d nd) 0 = 0 from rfl] at hn; omega
          · exact hr, by
          rcases hlo.out with hr | hr
          · subst hr; rw [show N (dig d nd) 0 = 0 from rfl] at hn; omega
          · exact hr, by rw [← hn]; exact hge⟩
        have HN := Lib.hid hn
        clear hn hq hq1 hge hlo
        go_wp2_with fail
        go_meet
        case rel => exact ⟨r, rfl, by rw [HN.out], hLead, rfl⟩
      · have hq1 : q = 0 := by rw [hq]; exact Nat.div_eq_of_lt (by omega)
        have f1 : ((q : Int) == 0) = true := by simp [hq1]
        by_cases hr : r < nd
        · have g1 : (r : Int) < nd := by omega
          have g2 : ¬ (nd : Int) ≤ r := by omega
          have g3 : decide ((nd : Int) ≤ (r : Int)) = false := decide_eq_false g2
          have cb := HD.out.byte r (by omega)
          have hb := HdD.out r hr
          have hnx : N (dig d nd) (r + 1) = 10 * n + (d r - 48) := by rw [N_succ, ← hn]; unfold dig; rw [if_pos hr]
          obtain ⟨c, hc⟩ : ∃ c, c = d r := ⟨_, rfl⟩
          rw [← hc] at cb hb hnx
          have w1 : IntKind.u64.wrap (IntKind.u64.wrap (IntKind.u64.wrap ((n : Int) * 10) + (c : Int)) - 48) = ((10 * n + (c - 48) : Nat) : Int) := by
            rw [Go.IntKind.wrap_u64, Go.IntKind.wrap_u64, Go.IntKind.wrap_u64]; omega
          have w2 : IntKind.u64.wrap ((n : Int) * 10) = (n : Int) * 10 := by rw [Go.IntKind.wrap_u64]; omega
          have w3 : IntKind.u64.wrap ((n : Int) * 10 + (c : Int)) = (n : Int) * 10 + c := by rw [Go.IntKind.wrap_u64]; omega
          have w4 : IntKind.u64.wrap ((n : Int) * 10 + (c : Int) - 48) = ((10 * n + (c - 48) : Nat) : Int) := by rw [Go.IntKind.wrap_u64]; omega
          have w5 : IntKind.u64.wrap (c : Int) = (c : Int) := by rw [Go.IntKind.wrap_u64]; omega
          obtain ⟨n2, hn2⟩ : ∃ n2, n2 = 10 * n + (c - 48) := ⟨_, rfl⟩
          rw [← hn2] at w1 w4 hnx
          have wr : IntKind.i64.wrap ((r : Int) + 1) = ((r + 1 : Nat) : Int) := by rw [Go.IntKind.wrap_i64]; omega
          have r4 : (r : Int) < 800 := by omega
          have HG := Lib.hid (show gk ≠ 0 ∧ gk - 1 + (r + 1) = nd by omega)
          have hLo : Hid (r + 1 = 0 ∨ N (dig d nd) (r + 1 - 1) < P) := Lib.hid (Or.inr (by rw [Nat.add_sub_cancel, ← hn]; omega))
          have HNX := Lib.hid hnx
          clear hn hq hq1 hge hlo hb hc hn2 hnx hr hg
          go_wp2_with fail
          go_roundg (gk - 1)
          case measure => have := HG.out; omega
          case rel => exact ⟨r + 1, HG.out.2, by go_num, by rw [HNX.out], hLo, rfl⟩
        · have hre : r = nd := by omega
          subst hre
          have g3 : decide ((r : Int) ≤ (r : Int)) = true := by simp
          have hn1 : n ≠ 0 := by
            obtain ⟨j, hj⟩ : ∃ j, r = j + 1 := ⟨r - 1, by omega⟩
            have := N_pos he0 j
            rw [← hj, ← hn] at this
            omega
          have f2 : ((n : Int) == 0) = false := by simp; omega
          have hnP : n < P := by omega
          have HN := Lib.hid (show n = N (dig d r) r ∧ 0 < n ∧ n < P ∧ 1 ≤ r from ⟨hn, by omega, hnP, by omega⟩)
          clear hn hq hq1 hge hlo hr hg hn1 hnP
          go_wp2_with fail
          clear HShr hsh
          go_loopg [4, 6] (P - n) (fun gn v4 v6 w' => ∃ r' n' : Nat, v4 = .int .i64 r' ∧ v6 = .int .u64 n' ∧ Hid (gn = P - n' ∧ n' = N (dig d r) r' ∧ 0 < n' ∧ n' < 10 * P ∧ r ≤ r' ∧ r' ≤ r + n' ∧ N (dig d r) (r' - 1) < P) ∧ w = w')
          case atStart => exact ⟨r, n, rfl, rfl, Lib.hid ⟨rfl, HN.out.1, HN.out.2.1, by have := HN.out.2.2.1; omega, Nat.le_refl _, by omega, by
            have h1 := HN.out
            obtain ⟨j, hj⟩ : ∃ j, r = j + 1 := ⟨r - 1, by omega⟩
            rw [hj] at h1 ⊢
            rw [Nat.add_sub_cancel]
            have h2 := N_succ (dig d (j + 1)) j
            omega⟩, rfl⟩
          case round =>
            obtain ⟨r', n', rfl, rfl, hH, hww⟩ := hrel
            subst hww
            have hsh2 := int_shr_u n' k
            rw [← HP.out] at hsh2
            obtain ⟨q', hq'⟩ : ∃ q', q' = n' / P := ⟨_, rfl⟩
            rw [← hq'] at hsh2
            have hH2 := hH.out
            by_cases hge : P ≤ n'
            · have hq1 : q' ≠ 0 := by
                have : 0 < n' / P := Nat.div_pos hge hPp
                omega
              have f3 : ((q' : Int) == 0) = false := by simp; omega
              have hLead : Hid (Lead (dig d r) P r') := Lib.hid ⟨by have := HN.out.2.2.2; omega, hH2.2.2.2.2.2.2, by rw [← hH2.2.1]; exact hge⟩
              have HE := Lib.hid hH2.2.1
              clear hH2 hH hq' hq1 hge
              go_wp2_with fail
              go_meet
              case rel => exact ⟨r', rfl, by rw [← HE.out], hLead, rfl⟩
            · have hq1 : q' = 0 := by rw [hq']; exact Nat.div_eq_of_lt (by omega)
              have f3 : ((q' : Int) == 0) = true := by simp [hq1]
              have w1 : IntKind.u64.wrap ((n' : Int) * 10) = ((10 * n' : Nat) : Int) := by rw [Go.IntKind.wrap_u64]; omega
              have w2 : IntKind.i64.wrap ((r' : Int) + 1) = ((r' + 1 : Nat) : Int) := by
                have := HN.out
                rw [Go.IntKind.wrap_i64]; omega
              have w3 : (n' : Int) * 10 = ((10 * n' : Nat) : Int) := by omega
              have hN2 : Hid (P - 10 * n' < gk ∧ P - 10 * n' = P - 10 * n' ∧ 10 * n' = N (dig d r) (r' + 1) ∧ 0 < 10 * n' ∧ 10 * n' < 10 * P ∧ r ≤ r' + 1 ∧ r' + 1 ≤ r + 10 * n' ∧ N (dig d r) (r' + 1 - 1) < P) := Lib.hid ⟨by omega, rfl, by rw [N_ext hH2.2.2.2.2.1, ← hH2.2.1], by omega, by omega, by omega, by omega, by rw [Nat.add_sub_cancel, ← hH2.2.1]; omega⟩
              obtain ⟨m, hm⟩ : ∃ m, m = 10 * n' := ⟨_, rfl⟩
              rw [← hm] at w1 w3 hN2
              have w6 : IntKind.u64.wrap (m : Int) = (m : Int) := by rw [Go.IntKind.wrap_u64]; omega
              clear hH2 hH hq' hq1 hge hm
              go_wp2_with fail
              go_roundg (P - m)
              case measure => exact hN2.out.1
              case rel => exact ⟨r' + 1, m, by go_num, rfl, Lib.hid ⟨rfl, hN2.out.2.2⟩, rfl⟩
  case rest =>
    obtain ⟨r0, rfl, rfl, hLead, hww⟩ := hcut
    subst hww
    have hr20 := hLead.out.le20 he0 hP60
    have hr1 := hLead.out.one
    have cdp := HD.out.cdp
    have fdp := HD.out.frozen 801
    obtain ⟨dp', hdp'⟩ : ∃ dp' : Int, dp' = dp - ((r0 : Int) - 1) := ⟨_, rfl⟩
    have w1 : IntKind.i64.wrap ((r0 : Int) - 1) = (r0 : Int) - 1 := by rw [Go.IntKind.wrap_i64]; omega
    have w2 : IntKind.i64.wrap (dp - ((r0 : Int) - 1)) = dp' := by rw [hdp', Go.IntKind.wrap_i64]; omega
    obtain ⟨M, hM⟩ : ∃ M, M = P - 1 := ⟨_, rfl⟩
    have w3 : IntKind.u64.wrap ((2 : Int) ^ k) = (P : Int) := by
      have e : ((2 : Int) ^ k) = ((2 ^ k : Nat) : Int) := by rw [Int.natCast_pow]; rfl
      rw [e, ← HP.out, Go.IntKind.wrap_u64]; omega
    have w4 : IntKind.u64.wrap ((P : Int) - 1) = (M : Int) := by rw [Go.IntKind.wrap_u64]; omega
    have w5 : (P : Int) - 1 = (M : Int) := by omega
    have hMask : Hid (∀ n : Nat, n < 18446744073709551616 → Go.bits .and .u64 (n : Int) (M : Int) = ((n % P : Nat) : Int)) := Lib.hid fun n hn => by
      have := mask_and n k hn HK.out
      rw [← HP.out, ← hM] at this
      exact this
    have HDp := Lib.hid hdp'
    have HM := Lib.hid hM
    have hN0 : Hid (N (dig d nd) r0 = N (dig d nd) r0 % (10 * P)) := Lib.hid (by
      refine (Nat.mod_eq_of_lt ?_).symm
      obtain ⟨j, hj⟩ : ∃ j, r0 = j + 1 := ⟨r0 - 1, by omega⟩
      have h1 := hLead.out.lo
      rw [hj, Nat.add_sub_cancel] at h1
      rw [hj, N_succ]
      have := he9 j
      omega)
    clear hdp' hM
    go_step
    go_upto_block 4 with (fail)
    go_cut [4, 5, 6] (fun v4 v5 v6 w' => ∃ (r v n : Nat) (d' : Nat → Nat), v4 = .int .i64 r ∧ v5 = .int .i64 v ∧ v6 = .int .u64 n ∧ Hid (v + r0 = r ∧ n = N (dig d nd) r % (10 * P) ∧ nd ≤ r ∧ (r ≤ nd ∨ r = r0) ∧ (∀ i, i < v → d' i = 48 + qd (dig d nd) P r0 i)) ∧ IsDec w' g d' nd dp' ng tr ∧ Below B w w')
    case first =>
      go_wp2_with fail
      go_loopg [4, 5, 6] nd (fun gn v4 v5 v6 w' => ∃ (r v n : Nat) (d' : Nat → Nat), v4 = .int .i64 r ∧ v5 = .int .i64 v ∧ v6 = .int .u64 n ∧ Hid (nd - r ≤ gn ∧ v + r0 = r ∧ n = N (dig d nd) r % (10 * P) ∧ (r ≤ nd ∨ r = r0) ∧ (∀ i, i < v → d' i = 48 + qd (dig d nd) P r0 i) ∧ (∀ i, v ≤ i → d' i = d i)) ∧ IsDec w' g d' nd dp' ng tr ∧ Below B w w')
      case atStart => exact ⟨r0, 0, N (dig d nd) r0, d, rfl, rfl, rfl, Lib.hid ⟨by omega, by omega, hN0.out, Or.inr rfl, fun i hi => absurd hi (by omega), fun i _ => rfl⟩, HD.out.setDp _, (Below.refl _ _).setCell hB _⟩
      case round =>
        obtain ⟨r, v, n, d', rfl, rfl, rfl, hH, hD', hb⟩ := hrel
        obtain ⟨hgk, hv, hn, hrr, hq, hun⟩ := hH.out
        have cnd' := hD'.cnd
        by_cases hr : r < nd
        · have g1 : (r : Int) < nd := by omega
          have hn10 : n < 10 * P := by rw [hn]; exact Nat.mod_lt _ (by omega)
          have hv800 : v < 800 := by omega
          have cb := hD'.byte r (by omega)
          rw [hun r (by omega)] at cb
          have hby := HdD.out r hr
          have fb := hD'.frozen v
          have cv := hD'.byte v hv800
          generalize d' v = dv at cv
          have hsh := int_shr_u n k
          rw [← HP.out] at hsh
          have hmk := hMask.out n (by omega)
          have hqd : n / P = qd (dig d nd) P r0 v := by rw [hn, ← hv, Nat.add_comm v r0]; exact qd_rest _ _ _ _ hPp
          have hq9 : n / P ≤ 9 := by rw [hqd]; unfold qd; omega
          have hnx := rest_next (e := dig d nd) P r hPp he9
          rw [← hn] at hnx
          have hdg : dig d nd r = d r - 48 := by unfold dig; rw [if_pos hr]
          rw [hdg] at hnx
          have hm : n % P < P := Nat.mod_lt _ hPp
          obtain ⟨q, hqe⟩ : ∃ q, q = n / P := ⟨_, rfl⟩
          obtain ⟨m, hme⟩ : ∃ m, m = n % P := ⟨_, rfl⟩
          obtain ⟨c, hc⟩ : ∃ c, c = d r := ⟨_, rfl⟩
          rw [← hqe] at hsh hqd hq9
          rw [← hme] at hmk hnx hm
          rw [← hc] at cb hby hnx
          obtain ⟨n2, hn2⟩ : ∃ n2, n2 = m * 10 + (c - 48) := ⟨_, rfl⟩
          rw [← hn2] at hnx
          have x1 : IntKind.u64.wrap ((q : Int) + 48) = (q : Int) + 48 := by rw [Go.IntKind.wrap_u64]; omega
          have x2 : IntKind.u8.wrap ((q : Int) + 48) = ((48 + q : Nat) : Int) := by rw [Go.IntKind.wrap_u8]; omega
          have x3 : IntKind.u64.wrap ((m : Int) * 10) = (m : Int) * 10 := by rw [Go.IntKind.wrap_u64]; omega
          have x4 : IntKind.u64.wrap ((m : Int) * 10 + (c : Int)) = (m : Int) * 10 + c := by rw [Go.IntKind.wrap_u64]; omega
          have x5 : IntKind.u64.wrap ((m : Int) * 10 + (c : Int) - 48) = (n2 : Int) := by rw [Go.IntKind.wrap_u64]; omega
          have x6 : IntKind.u64.wrap (c : Int) = (c : Int) := by rw [Go.IntKind.wrap_u64]; omega
          have x7 : ((q : Int) + 48) % 256 = ((48 + q : Nat) : Int) := by omega
          have r4 : (r : Int) < 800 := by omega
          have v4 : (v : Int) < 800 := by omega
          have HR : Hid ((nd - (r + 1) < gk ∧ v + 1 + r0 = r + 1) ∧ n2 = N (dig d nd) (r + 1) % (10 * P) ∧ (r + 1 ≤ nd ∨ r + 1 = r0) ∧ (∀ i, i < v + 1 → upd d' v (48 + q) i = 48 + qd (dig d nd) P r0 i) ∧ (∀ i, v + 1 ≤ i → upd d' v (48 + q) i = d i)) := Lib.hid ⟨⟨by omega, by omega⟩, hnx.symm, Or.inl (by omega), fun i hi => by
            unfold upd
            by_cases e : i = v
            · rw [if_pos e, hqd, e]
            · rw [if_neg e]; exact hq i (by omega), fun i hi => by
            unfold upd
            rw [if_neg (by omega)]; exact hun i (by omega)⟩
          have HD' := Lib.hid hD'
          clear hH hgk hv hn hrr hq hun hr hn10 hqd hq9 hnx hm hqe hme hc hn2 hby hD' hdg cdp fdp cnd
          go_wp2_with fail
          go_roundg (nd - (r + 1))
          case measure => exact HR.out.1.1
          case rel => exact ⟨r + 1, v + 1, n2, upd d' v (48 + q), by go_num, by go_num, rfl, Lib.hid ⟨Nat.le_refl _, HR.out.1.2, HR.out.2.1, HR.out.2.2.1, HR.out.2.2.2.1, HR.out.2.2.2.2⟩, HD'.out.setByte _ _ (by omega), hb.setCell hB _⟩
        · have g1 : ¬ (r : Int) < nd := by omega
          have HR : Hid (v + r0 = r ∧ n = N (dig d nd) r % (10 * P) ∧ nd ≤ r ∧ (r ≤ nd ∨ r = r0) ∧ (∀ i, i < v → d' i = 48 + qd (dig d nd) P r0 i)) := Lib.hid ⟨hv, hn, by omega, hrr, hq⟩
          clear hH hgk hv hn hrr hq hun hr
          go_wp2_with fail
          go_meet
          case rel => exact ⟨r, v, n, d', rfl, rfl, rfl, HR, hD', hb⟩
    case rest =>
      obtain ⟨r1, v1, n1, d1, rfl, rfl, rfl, hH1, hD1, hb1⟩ := hcut
      clear cnd cdp fdp hN0 w1 w2 w3 w4 w5
      go_step
      go_upto_block 6 with (fail)
      go_cut [5, 6] (fun v5 v6 w' => ∃ (T W : Nat) (d' : Nat → Nat), v5 = .int .i64 W ∧ Hid (nd ≤ T ∧ r0 ≤ T ∧ N (dig d nd) T % (10 * P) = 0 ∧ W = min 800 (T - r0) ∧ (∀ i, i < W → d' i = 48 + qd (dig d nd) P r0 i)) ∧ IsDec w' g d' nd dp' ng (tr || lost (dig d nd) P r0 (T - r0)) ∧ Below B w w')
      case first =>
        go_wp2_with fail
        go_loopg [5, 6] (nd + k + 1) (fun gn v5 v6 w' => ∃ (r W n : Nat) (d' : Nat → Nat), v5 = .int .i64 W ∧ v6 = .int .u64 n ∧ Hid (nd + k + 1 - r ≤ gn ∧ nd ≤ r ∧ r0 ≤ r ∧ n = N (dig d nd) r % (10 * P) ∧ W = min 800 (r - r0) ∧ (∀ i, i < W → d' i = 48 + qd (dig d nd) P r0 i)) ∧ IsDec w' g d' nd dp' ng (tr || lost (dig d nd) P r0 (r - r0)) ∧ Below B w w')
        case atStart => exact ⟨r1, v1, n1, d1, rfl, rfl, Lib.hid ⟨by omega, hH1.out.2.2.1, by have := hH1.out.1; omega, hH1.out.2.1, by have := hH1.out; omega, hH1.out.2.2.2.2⟩, by
          rw [lost_small _ _ _ (r1 - r0) (by have := hH1.out; omega), Bool.or_false]
          exact hD1, hb1⟩
        case round =>
          obtain ⟨r, W, n, d', rfl, rfl, hH, hD', hb⟩ := hrel
          obtain ⟨hgk, hv, hr0, hn, hW, hq⟩ := hH.out
          clear hH1 hD1 hb1
          by_cases hz : n = 0
          · subst hz
            have HR : Hid (nd ≤ r ∧ r0 ≤ r ∧ N (dig d nd) r % (10 * P) = 0 ∧ W = min 800 (r - r0) ∧ (∀ i, i < W → d' i = 48 + qd (dig d nd) P r0 i)) := Lib.hid ⟨hv, hr0, hn.symm, hW, hq⟩
            clear hH hgk hv hr0 hn hW hq
            go_wp2_with fail
            go_meet
            case rel => exact ⟨r, W, d', rfl, HR, hD', hb⟩
          · have hrk : r < nd + k + 1 := by
              rcases Nat.lt_or_ge r (nd + k + 1) with h1 | h1
              · exact h1
              · have := rest_end d nd k r h1
                rw [← HP.out, ← hn] at this
                exact absurd this hz
            have hn10 : n < 10 * P := by rw [hn]; exact Nat.mod_lt _ (by omega)
            have hsh := int_shr_u n k
            rw [← HP.out] at hsh
            have hmk := hMask.out n (by omega)
            obtain ⟨j, hj⟩ : ∃ j, j = r - r0 := ⟨_, rfl⟩
            have hqd : n / P = qd (dig d nd) P r0 j := by rw [hn, show r = r0 + j by omega]; exact qd_rest _ _ _ _ hPp
            have hq9 : n / P ≤ 9 := by rw [hqd]; unfold qd; omega
            have hnx := rest_next (e := dig d nd) P r hPp he9
            rw [← hn] at hnx
            have hdg : dig d nd r = 0 := by unfold dig; rw [if_neg (by omega)]
            rw [hdg, Nat.add_zero] at hnx
            have hm : n % P < P := Nat.mod_lt _ hPp
            have hj1 : r + 1 - r0 = j + 1 := by omega
            rw [← hj] at hW hD'
            obtain ⟨q, hqe⟩ : ∃ q, q = n / P := ⟨_, rfl⟩
            obtain ⟨m, hme⟩ : ∃ m, m = n % P := ⟨_, rfl⟩
            rw [← hqe] at hsh hqd hq9
            rw [← hme] at hmk hnx hm
            obtain ⟨n2, hn2⟩ : ∃ n2, n2 = m * 10 := ⟨_, rfl⟩
            rw [← hn2] at hnx
            have x1 : IntKind.u64.wrap ((q : Int) + 48) = (q : Int) + 48 := by rw [Go.IntKind.wrap_u64]; omega
            have x2 : IntKind.u8.wrap ((q : Int) + 48) = ((48 + q : Nat) : Int) := by rw [Go.IntKind.wrap_u8]; omega
            have x3 : IntKind.u64.wrap ((m : Int) * 10) = (n2 : Int) := by rw [Go.IntKind.wrap_u64]; omega
            have x7 : ((q : Int) + 48) % 256 = ((48 + q : Nat) : Int) := by omega
            have x8 : (m : Int) * 10 = (n2 : Int) := by omega
            have x9 : IntKind.u64.wrap (n2 : Int) = (n2 : Int) := by rw [Go.IntKind.wrap_u64]; omega
            have g0 : (0 : Int) < n := by omega
            have HN2 : Hid ((nd + k + 1 - (r + 1) < gk ∧ nd ≤ r + 1 ∧ r0 ≤ r + 1) ∧ n2 = N (dig d nd) (r + 1) % (10 * P)) := Lib.hid ⟨⟨by omega, by omega, by omega⟩, hnx.symm⟩
            by_cases h8 : j < 800
            · have hWj : W = j := by omega
              have v4 : (W : Int) < 800 := by omega
              have v5 : W < 800 := by omega
              have cv := hD'.byte W v5
              have fb := hD'.frozen W
              generalize d' W = dv at cv
              have HR : Hid (W + 1 = min 800 (r + 1 - r0) ∧ (∀ i, i < W + 1 → upd d' W (48 + q) i = 48 + qd (dig d nd) P r0 i)) := Lib.hid ⟨by omega, fun i hi => by
                unfold upd
                by_cases e : i = W
                · rw [if_pos e, hqd, e, hWj]
                · rw [if_neg e]; exact hq i (by omega)⟩
              have HL : Hid (lost (dig d nd) P r0 (r + 1 - r0) = lost (dig d nd) P r0 j) := Lib.hid (by
                rw [hj1, lost, decide_eq_false (show ¬ 800 ≤ j by omega)]; simp)
              have HD' := Lib.hid hD'
              clear hH hgk hv hr0 hn hW hq hz hrk hn10 hj hqd hq9 hnx hdg hm hj1 hqe hme hn2 h8 hWj hD'
              go_wp2_with fail
              go_roundg (nd + k + 1 - (r + 1))
              case measure => exact HN2.out.1.1
              case rel => exact ⟨r + 1, W + 1, n2, upd d' W (48 + q), by go_num, rfl, Lib.hid ⟨Nat.le_refl _, HN2.out.1.2.1, HN2.out.1.2.2, HN2.out.2, HR.out.1, HR.out.2⟩, by rw [HL.out]; exact HD'.out.setByte _ _ v5, hb.setCell hB _⟩
            · have hWj : W = 800 := by omega
              subst hWj
              have HR : Hid (800 = min 800 (r + 1 - r0) ∧ (∀ i, i < 800 → d' i = 48 + qd (dig d nd) P r0 i)) := Lib.hid ⟨by omega, hq⟩
              by_cases hq0 : q = 0
              · have f1 : ¬ (0 : Int) < q := by omega
                have f2 : decide ((0 : Int) < (q : Int)) = false := decide_eq_false f1
                have HL : Hid (lost (dig d nd) P r0 (r + 1 - r0) = lost (dig d nd) P r0 j) := Lib.hid (by
                  rw [hj1, lost, ← hqd, decide_eq_false (show ¬ q ≠ 0 by omega)]; simp)
                clear hH hgk hv hr0 hn hW hq hz hrk hn10 hj hqd hq9 hnx hdg hm hj1 hqe hme hn2 h8 hq0
                go_wp2_with fail
                go_roundg (nd + k + 1 - (r + 1))
                case measure => exact HN2.out.1.1
                case rel => exact ⟨r + 1, 800, n2, d', rfl, rfl, Lib.hid ⟨Nat.le_refl _, HN2.out.1.2.1, HN2.out.1.2.2, HN2.out.2, HR.out.1, HR.out.2⟩, by rw [HL.out]; exact hD', hb⟩
              · have f1 : (0 : Int) < q := by omega
                have f2 : decide ((0 : Int) < (q : Int)) = true := decide_eq_true f1
                have ctr := hD'.ctr
                have ftr := hD'.frozen 803
                have HL : Hid (lost (dig d nd) P r0 (r + 1 - r0) = true) := Lib.hid (by
                  rw [hj1, lost, ← hqd, decide_eq_true hq0, decide_eq_true (show 800 ≤ j by omega)]; simp)
                have HD' := Lib.hid hD'
                generalize (tr || lost (dig d nd) P r0 j) = tr2 at *
                clear hH hgk hv hr0 hn hW hq hz hrk hn10 hj hqd hq9 hnx hdg hm hj1 hqe hme hn2 h8 hq0 hD'
                go_wp2_with fail
                go_roundg (nd + k + 1 - (r + 1))
                case measure => exact HN2.out.1.1
                case rel => exact ⟨r + 1, 800, n2, d', rfl, rfl, Lib.hid ⟨Nat.le_refl _, HN2.out.1.2.1, HN2.out.1.2.2, HN2.out.2, HR.out.1, HR.out.2⟩, by rw [HL.out, Bool.or_true]; exact HD'.out.setTr true, hb.setCell hB _⟩
      case rest =>
        obtain ⟨T, W, d', rfl, hH, hD', hb⟩ := hcut
        clear hH1 hD1 hb1
        have cnd := hD'.cnd
        have fnd := hD'.frozen 800
        have hW8 : W ≤ 800 := by have := hH.out.2.2.2.1; omega
        have HTrim := Lib.hid (fun w1 h1 => trim_walk w1 g B hB d' W dp' ng (tr || lost (dig d nd) P r0 (T - r0)) hW8 h1)
        have HRs : Hid (Rs d nd k d' r0 T W) := Lib.hid ⟨by rw [← HP.out]; exact hLead.out, ⟨hH.out.1, hH.out.2.1⟩, by rw [← HP.out]; exact hH.out.2.2.1, hH.out.2.2.2.1, by rw [← HP.out]; exact hH.out.2.2.2.2⟩
        have HD' := Lib.hid (hD'.setNd (W : Int))
        clear hD' hH
        go_step
        go_wp2_with fail
        refine (HTrim.out _ HD'.out).mono ?_
        rintro e w2 ⟨rfl, hb2, hd2⟩
        have HF := Lib.hid hd2
        clear hd2 HTrim
        have hb3 := (hb.setCell (p := ⟨g, 800, none⟩) hB (.int .i64 W)).trans hb2
        go_wp2_with fail
        go_end0
        refine ⟨rfl, hb3, d', r0, T, W, HRs.out, ?_⟩
        rw [← HDp.out, ← HP.out]
        exact HF.out
end Go.Proofs.YtjpiplplohapnaaGreatDoor
namespace Go.Proofs.YtjpiplplohapnaaGreatDoor.Dc
theorem N_div {e : Nat → Nat} (he : ∀ i, e i ≤ 9) (r : Nat) : ∀ j, N e (r + j) / 10 ^ j = N e r
  | 0 => by simp
  | j + 1 => by
    rw [← Nat.add_assoc, N_succ, Nat.pow_succ, Nat.mul_comm (10 ^ j) 10, ← Nat.div_div_eq_div_mul]
    have := he (r + j)
    rw [show (10 * N e (r + j) + e (r + j)) / 10 = N e (r + j) by omega]
    exact N_div he r j
def cheatOk (k : Nat) (x : Nat × List UInt8) : Bool :=
  k = 0 || (decide (x.1 + x.2.length = k + 1) && decide (1 ≤ x.2.length) && decide (x.2.foldl (fun a c => 10 * a + (c.toNat - 48)) 0 = 5 ^ k) && x.2.all (fun c => decide (48 ≤ c.toNat) && decide (c.toNat ≤ 57)) && decide (x.2.getLast? ≠ some 48)
    && decide (10 ^ (x.2.length - 1) ≤ 5 ^ k) && decide (5 ^ k < 10 ^ x.2.length) && decide (1 ≤ x.1) && decide (x.1 ≤ 19) && decide (x.2.length ≤ 60))
set_option maxRecDepth 100000 in
theorem cheats_ok : ∀ k : Fin 61, ∃ x, Pinned.cheatRows[k.val]? = some x ∧ cheatOk k.val x = true := by decide +kernel
structure Cheat (k : Nat) (x : Nat × List UInt8) : Prop where
  sum : x.1 + x.2.length = k + 1
  one : 1 ≤ x.2.length
  val : x.2.foldl (fun a c => 10 * a + (c.toNat - 48)) 0 = 5 ^ k
  dgs : ∀ c ∈ x.2, 48 ≤ c.toNat ∧ c.toNat ≤ 57
  last : x.2.getLast? ≠ some 48
  lo : 10 ^ (x.2.length - 1) ≤ 5 ^ k
  hi : 5 ^ k < 10 ^ x.2.length
  d1 : 1 ≤ x.1
  d2 : x.1 ≤ 19
  len : x.2.length ≤ 60
theorem cheat_row (k : Nat) (h1 : 1 ≤ k) (h2 : k ≤ 60) : ∃ x, Pinned.cheatRows[k]? = some x ∧ Cheat k x := by
  obtain ⟨x, hx, hc⟩ := cheats_ok ⟨k, by omega⟩
  refine ⟨x, hx, ?_⟩
  unfold cheatOk at hc
  rw [show decide ((⟨k, by omega⟩ : Fin 61).val = 0) = false from decide_eq_false (by show ¬ k = 0; omega), Bool.false_or] at hc
  simp only [Bool.and_eq_true, decide_eq_true_eq, List.all_eq_true] at hc
  obtain ⟨⟨⟨⟨⟨⟨⟨⟨⟨a1, a2⟩, a3⟩, a4⟩, a5⟩, a6⟩, a7⟩, a8⟩, a9⟩, a10⟩ := hc
  exact ⟨a1, a2, a3, a4, a5, a6, a7, a8, a9, a10⟩
theorem width_more {X k L nd dl : Nat} (hnd : 1 ≤ nd) (hX1 : 10 ^ (nd - 1) ≤ X) (hX2 : X < 10 ^ nd) (hs : dl + L = k + 1) (hL : 1 ≤ L) (lo : 10 ^ (L - 1) ≤ 5 ^ k) (h : 5 ^ k * 10 ^ nd ≤ X * 10 ^ L) : 10 ^ (nd + dl - 1) ≤ X * 2 ^ k ∧ X * 2 ^ k < 10 ^ (nd + dl) := by
  have e10 : (10 : Nat) ^ k = 2 ^ k * 5 ^ k := by rw [← Nat.mul_pow]
  constructor
  · have h2 := Nat.mul_le_mul_right (2 ^ k) h
    have e1 : 5 ^ k * 10 ^ nd * 2 ^ k = 10 ^ (nd + dl - 1) * 10 ^ L := by
      rw [← Nat.pow_add, show nd + dl - 1 + L = nd + k by omega, Nat.pow_add, e10]
      generalize (10 : Nat) ^ nd = a
      generalize (5 : Nat) ^ k = b
      generalize (2 : Nat) ^ k = c
      grind
    have e2 : X * 10 ^ L * 2 ^ k = X * 2 ^ k * 10 ^ L := Nat.mul_right_comm _ _ _
    rw [e1, e2] at h2
    exact Nat.le_of_mul_le_mul_right h2 (Nat.pow_pos (by decide))
  · have h2 : 2 ^ k ≤ 10 ^ dl := by
      have h3 := Nat.mul_le_mul_left (2 ^ k) lo
      rw [← e10] at h3
      have e3 : (10 : Nat) ^ k = 10 ^ dl * 10 ^ (L - 1) := by rw [← Nat.pow_add]; congr 1; omega
      rw [e3] at h3
      exact Nat.le_of_mul_le_mul_right h3 (Nat.pow_pos (by decide))
    rw [Nat.pow_add]
    exact Nat.lt_of_lt_of_le (Nat.mul_lt_mul_of_pos_right hX2 (Nat.pow_pos (by decide))) (Nat.mul_le_mul_left _ h2)
theorem width_less {X k L nd dl : Nat} (hnd : 1 ≤ nd) (hX1 : 10 ^ (nd - 1) ≤ X) (hs : dl + L = k + 1) (hd : 1 ≤ dl) (hi : 5 ^ k < 10 ^ L) (h : X * 10 ^ L < 5 ^ k * 10 ^ nd) : 10 ^ (nd + (dl - 1) - 1) ≤ X * 2 ^ k ∧ X * 2 ^ k < 10 ^ (nd + (dl - 1)) := by
  have e10 : (10 : Nat) ^ k = 2 ^ k * 5 ^ k := by rw [← Nat.mul_pow]
  constructor
  · have h2 : 10 ^ (dl - 1) ≤ 2 ^ k := by
      have h3 := Nat.mul_le_mul_left (2 ^ k) (Nat.le_of_lt hi)
      rw [← e10] at h3
      have e3 : (10 : Nat) ^ k = 10 ^ (dl - 1) * 10 ^ L := by rw [← Nat.pow_add]; congr 1; omega
      rw [e3] at h3
      exact Nat.le_of_mul_le_mul_right h3 (Nat.pow_pos (by decide))
    rw [show nd + (dl - 1) - 1 = nd - 1 + (dl - 1) by omega, Nat.pow_add]
    exact Nat.mul_le_mul hX1 h2
  · have h2 := Nat.mul_lt_mul_of_pos_right h (Nat.pow_pos (a := 2) (n := k) (by decide))
    have e1 : 5 ^ k * 10 ^ nd * 2 ^ k = 10 ^ (nd + (dl - 1)) * 10 ^ L := by
      rw [← Nat.pow_add, show nd + (dl - 1) + L = nd + k by omega, Nat.pow_add, e10]
      generalize (10 : Nat) ^ nd = a
      generalize (5 : Nat) ^ k = b
      generalize (2 : Nat) ^ k = c
      grind
    have e2 : X * 10 ^ L * 2 ^ k = X * 2 ^ k * 10 ^ L := Nat.mul_right_comm _ _ _
    rw [e1, e2] at h2
    exact Nat.lt_of_mul_lt_mul_right h2
theorem lead_cmp {e : Nat → Nat} (he : ∀ i, e i ≤ 9) {nd L C : Nat} (hz : ∀ i, nd ≤ i → e i = 0) : (C ≤ N e L → C * 10 ^ nd ≤ N e nd * 10 ^ L) ∧ (N e L < C → N e nd * 10 ^ L < C * 10 ^ nd) := by
  have ext : ∀ j, N e (nd + j) = N e nd * 10 ^ j := by
    intro j
    induction j with
    | zero => simp
    | succ j ih => rw [← Nat.add_assoc, N_succ, hz (nd + j) (by omega), ih, Nat.pow_succ]; rw [Nat.add_zero, Nat.mul_comm 10, Nat.mul_assoc]
  have key : N e L = N e nd * 10 ^ L / 10 ^ nd := by
    have h1 := N_div he L nd
    rw [Nat.add_comm L nd, ext L] at h1
    exact h1.symm
  have hp : 0 < 10 ^ nd := Nat.pow_pos (by decide)
  constructor
  · intro h
    rw [key] at h
    exact (Nat.le_div_iff_mul_le hp).1 h
  · intro h
    rw [key] at h
    exact (Nat.div_lt_iff_lt_mul hp).1 h
def cr (X P j : Nat) : Nat := X % 10 ^ j * P / 10 ^ j
theorem cr_zero (X P : Nat) : cr X P 0 = 0 := by unfold cr; simp [Nat.mod_one]
theorem cr_lt (X P j : Nat) (hP : 0 < P) : cr X P j < P := by
  unfold cr
  have hp : 0 < 10 ^ j := Nat.pow_pos (by decide)
  rw [Nat.div_lt_iff_lt_mul hp, Nat.mul_comm P]
  exact Nat.mul_lt_mul_of_pos_right (Nat.mod_lt _ hp) hP
theorem mod_succ (X j : Nat) : X % 10 ^ (j + 1) = X / 10 ^ j % 10 * 10 ^ j + X % 10 ^ j := by
  have := Nat.mod_pow_succ (x := X) (b := 10) (k := j)
  rw [this, Nat.mul_comm]; omega
theorem cr_sum (X P j : Nat) : cr X P j + X / 10 ^ j % 10 * P = X % 10 ^ (j + 1) * P / 10 ^ j := by
  have hp : 0 < 10 ^ j := Nat.pow_pos (by decide)
  unfold cr
  rw [mod_succ, Nat.add_mul, Nat.mul_right_comm, Nat.mul_comm _ (10 ^ j), Nat.mul_add_div hp]
  omega
theorem cr_next (X P j : Nat) : (cr X P j + X / 10 ^ j % 10 * P) / 10 = cr X P (j + 1) := by
  rw [cr_sum, Nat.div_div_eq_div_mul, ← Nat.pow_succ]
  rfl
theorem cr_digit (X P j : Nat) : (cr X P j + X / 10 ^ j % 10 * P) % 10 = X * P / 10 ^ j % 10 := by
  rw [cr_sum]
  have h1 : X % 10 ^ (j + 1) * P % 10 ^ (j + 1) = X * P % 10 ^ (j + 1) := Nat.mod_mul_mod _ _ _
  have key : ∀ a : Nat, a / 10 ^ j % 10 = a % 10 ^ (j + 1) / 10 ^ j := by
    intro a
    rw [Nat.pow_succ, Nat.mod_mul_right_div_self]
  rw [key, key, h1]
theorem cr_end {X P nd : Nat} (h : X < 10 ^ nd) (j : Nat) (hj : nd ≤ j) : cr X P j = X * P / 10 ^ j := by
  unfold cr
  rw [Nat.mod_eq_of_lt (Nat.lt_of_lt_of_le h (Nat.pow_le_pow_right (by decide) hj))]
def lostL (Y : Nat) (L : Nat) : Nat → Bool
  | 0 => false
  | j + 1 => lostL Y L j || (decide (800 ≤ L - (j + 1)) && decide (Y / 10 ^ j % 10 ≠ 0))
end Go.Proofs.YtjpiplplohapnaaGreatDoor.Dc
namespace Go.Proofs.YtjpiplplohapnaaGreatDoor
open Go.RowKit Go.Proofs.YtjpiplplohapnaaGreatDoorW.PrintWords
namespace Dc
def ld (l : List UInt8) (i : Nat) : Nat := (l.getD i 48).toNat - 48
theorem ld_N (l : List UInt8) : ∀ r, r ≤ l.length → N (ld l) r = (l.take r).foldl (fun a c => 10 * a + (c.toNat - 48)) 0
  | 0, _ => rfl
  | r + 1, h => by
    rw [N_succ, ld_N l r (by omega), List.take_add_one, List.foldl_append]
    have e : l[r]? = some (l.getD r 48) := by
      rw [List.getD_eq_getElem?_getD, List.getElem?_eq_getElem (by omega)]; rfl
    rw [e]
    rfl
theorem ld_all (l : List UInt8) : N (ld l) l.length = l.foldl (fun a c => 10 * a + (c.toNat - 48)) 0 := by
  rw [ld_N l _ (Nat.le_refl _), List.take_length]
theorem ld_le {l : List UInt8} (h : ∀ c ∈ l, 48 ≤ c.toNat ∧ c.toNat ≤ 57) (i : Nat) : ld l i ≤ 9 := by
  unfold ld
  rw [List.getD_eq_getElem?_getD]
  by_cases hi : i < l.length
  · rw [List.getElem?_eq_getElem hi]
    have := h l[i] (List.getElem_mem hi)
    show (l[i]).toNat - 48 ≤ 9
    omega
  · rw [List.getElem?_eq_none (by omega)]
    show (48 : UInt8).toNat - 48 ≤ 9
    decide
theorem cmp_lt_digit {e f : Nat → Nat} (he : ∀ i, e i ≤ 9) (hf : ∀ i, f i ≤ 9) {i L : Nat} (h : N e i = N f i) (hi : i < L) (hlt : e i < f i) : N e L < N f L := by
  obtain ⟨j, rfl⟩ : ∃ j, L = i + 1 + j := ⟨L - i - 1, by omega⟩
  have h1 := N_div he (i + 1) j
  have h2 := N_div hf (i + 1) j
  rw [N_succ] at h1 h2
  rcases Nat.lt_or_ge (N e (i + 1 + j)) (N f (i + 1 + j)) with g | g
  · exact g
  · have := Nat.div_le_div_right (c := 10 ^ j) g
    omega
theorem cmp_short {e f : Nat → Nat} (he : ∀ i, e i ≤ 9) (hf : ∀ i, f i ≤ 9) {i L : Nat} (h : N e i = N f i) (hi : i < L) (hz : ∀ j, i ≤ j → e j = 0) (hl : f (L - 1) ≠ 0) : N e L < N f L := by
  obtain ⟨j, rfl⟩ : ∃ j, L = i + j + 1 := ⟨L - i - 1, by omega⟩
  have h1 := N_div hf i (j + 1)
  have ext : ∀ j, N e (i + j) = N e i * 10 ^ j := by
    intro j
    induction j with
    | zero => simp
    | succ j ih => rw [← Nat.add_assoc, N_succ, hz (i + j) (by omega), ih, Nat.pow_succ]; rw [Nat.add_zero, Nat.mul_comm 10, Nat.mul_assoc]
  have h2 := ext (j + 1)
  rw [← Nat.add_assoc] at h1 h2
  rw [h2, h, ← h1]
  have h3 := Nat.div_mul_le_self (N f (i + j + 1)) (10 ^ (j + 1))
  have h4 : N f (i + j + 1) / 10 ^ (j + 1) * 10 ^ (j + 1) % 10 = 0 := by rw [Nat.pow_succ, ← Nat.mul_assoc, Nat.mul_mod_left]
  have h5 : N f (i + j + 1) % 10 = f (i + j) := by rw [N_succ]; have := hf (i + j); omega
  rw [Nat.add_sub_cancel] at hl
  omega
end Dc
open Dc
set_option maxRecDepth 100000 in
set_option maxHeartbeats 2000000 in
theorem prefix_walk (w : World) (g : Nat) (d : Nat → Nat) (nd : Nat) (dp : Int) (ng tr : Bool) (hnd : nd ≤ 800) (hd : ∀ i, i < nd → 48 ≤ d i ∧ d i ≤ 57) (h : IsDec w g d nd dp ng tr) (s : ByteArray) (hs : s.size ≤ 60) (hs0 : 1 ≤ s.size)
    (hsd : ∀ c ∈ s.data.toList, 48 ≤ c.toNat ∧ c.toNat ≤ 57) (hl : ld s.data.toList (s.size - 1) ≠ 0) :
    Calls Tryz.prog 188 #[.slice (some ⟨g, 0, none⟩) nd 800, .string s] w fun e w' => e = .returned (.bool (decide (N (dig d nd) s.size < N (ld s.data.toList) s.size))) ∧ ∃ n, w' = w.drewN n := by
  have he9 := dig_le hd
  have hf9 := ld_le hsd
  have HD := Lib.hid h
  have HdD := Lib.hid hd
  have HSD := Lib.hid hsd
  have HL := Lib.hid hl
  have hlen : s.data.toList.length = s.size := Array.length_toList
  obtain ⟨ans, hans⟩ : ∃ b, b = decide (N (dig d nd) s.size < N (ld s.data.toList) s.size) := ⟨_, rfl⟩
  have HA := Lib.hid hans
  rw [← hans]
  clear hans h hd hsd hl
  go_enter Tryz.func188, Tryz.ntmps188
  go_wp2_with fail
  go_loopg [5] s.size (fun gn v5 w' => ∃ i m : Nat, gn + i = s.size ∧ v5 = .int .i64 i ∧ Hid (N (dig d nd) i = N (ld s.data.toList) i) ∧ IsDec w' g d nd dp ng tr ∧ Hid (w' = w.drewN m))
  case atStart => exact ⟨0, 0, by omega, rfl, Lib.hid rfl, HD.out, Lib.hid rfl⟩
  case round =>
    obtain ⟨i, m, hg, rfl, hN, hD', hw⟩ := hrel
    by_cases hi : i < s.size
    · have g1 : (i : Int) < s.size := by omega
      by_cases hin : i < nd
      · have g2 : ¬ (nd : Int) ≤ i := by omega
        have g3 : decide ((nd : Int) ≤ (i : Int)) = false := decide_eq_false g2
        have g4 : (i : Int) < nd := by omega
        have cb : wr.cell? ⟨g, i, none⟩ = some (.int .u8 (d i : Nat)) := hD'.byte i (by omega)
        have hde : dig d nd i = d i - 48 := by unfold dig; rw [if_pos hin]
        have hdb := HdD.out i hin
        have hle : ld s.data.toList i = s[i].toNat - 48 := by
          unfold ld
          rw [List.getD_eq_getElem?_getD, List.getElem?_eq_getElem (by rw [hlen]; exact hi)]; rfl
        have hsb : 48 ≤ s[i].toNat ∧ s[i].toNat ≤ 57 := HSD.out s[i] (by
          have : s[i] = s.data.toList[i]'(by rw [hlen]; exact hi) := rfl
          rw [this]; exact List.getElem_mem _)
        obtain ⟨c, hc⟩ : ∃ c, c = d i := ⟨_, rfl⟩
        obtain ⟨b, hb⟩ : ∃ b, b = s[i].toNat := ⟨_, rfl⟩
        have hbI : ((s[i].toNat : Nat) : Int) = (b : Int) := by rw [hb]
        rw [← hc] at cb hde hdb
        rw [← hb] at hle hsb
        by_cases hcb : c = b
        · have f1 : ((c : Int) != (b : Int)) = false := by simp [hcb]
          have HR : Hid (gk ≠ 0 ∧ gk - 1 + (i + 1) = s.size ∧ N (dig d nd) (i + 1) = N (ld s.data.toList) (i + 1)) := Lib.hid ⟨by omega, by omega, by rw [N_succ, N_succ, hN.out, hde, hle, hcb]⟩
          clear hg hde hle hdb hsb hcb hc hb hin
          go_wp2_with fail
          go_quiet (fail)
          go_wp2_with fail
          go_roundg (gk - 1)
          case measure => have := HR.out; omega
          case rel => exact ⟨i + 1, _, HR.out.2.1, by go_num, Lib.hid HR.out.2.2, hD'.drewN _, Lib.hid (by rw [hw.out]; exact World.drewN_drewN _ _ _)⟩
        · have f1 : ((c : Int) != (b : Int)) = true := by simp; omega
          by_cases hlt : c < b
          · have f2 : (c : Int) < b := by omega
            have f3 : decide ((c : Int) < (b : Int)) = true := decide_eq_true f2
            have f4 : decide (c < b) = true := decide_eq_true hlt
            have HAns : Hid (ans = true) := Lib.hid (HA.out.trans (decide_eq_true (cmp_lt_digit he9 hf9 hN.out hi (by omega))))
            clear hg hde hle hdb hsb hcb hc hb hin hlt
            go_wp2_with fail
            go_quiet (fail)
            go_wp2_with fail
            go_quiet (fail)
            go_wp2_with fail
            go_ret
            exact ⟨by rw [HAns.out]; rfl, _, by rw [hw.out]; first | exact World.drewN_drewN _ _ _ | exact (World.drewN_drewN _ _ _).trans (congrArg _ rfl) | (rw [World.drewN_drewN, World.drewN_drewN])⟩
          · have f2 : ¬ (c : Int) < b := by omega
            have f3 : decide ((c : Int) < (b : Int)) = false := decide_eq_false f2
            have f4 : decide (c < b) = false := decide_eq_false hlt
            have HAns : Hid (ans = false) := Lib.hid (HA.out.trans (decide_eq_false (by
              have := cmp_lt_digit hf9 he9 hN.out.symm hi (by omega)
              omega)))
            clear hg hde hle hdb hsb hcb hc hb hin hlt
            go_wp2_with fail
            go_quiet (fail)
            go_wp2_with fail
            go_quiet (fail)
            go_wp2_with fail
            go_ret
            exact ⟨by rw [HAns.out]; rfl, _, by rw [hw.out]; first | exact World.drewN_drewN _ _ _ | exact (World.drewN_drewN _ _ _).trans (congrArg _ rfl) | (rw [World.drewN_drewN, World.drewN_drewN])⟩
      · have g2 : (nd : Int) ≤ i := by omega
        have g3 : decide ((nd : Int) ≤ (i : Int)) = true := decide_eq_true g2
        have HAns : Hid (ans = true) := Lib.hid (HA.out.trans (decide_eq_true (cmp_short he9 hf9 hN.out hi (fun j hj => by unfold dig; rw [if_neg (by omega)]) HL.out)))
        clear hg hin
        go_wp2_with fail
        go_ret
        exact ⟨by rw [HAns.out]; rfl, _, hw.out⟩
    · have g1 : ¬ (i : Int) < s.size := by omega
      have HAns : Hid (ans = false) := Lib.hid (HA.out.trans (decide_eq_false (by
        have e : i = s.size := by omega
        have := hN.out
        rw [e] at this
        omega)))
      clear hg hi
      go_wp2_with fail
      go_ret
      exact ⟨by rw [HAns.out]; rfl, _, hw.out⟩
end Go.Proofs.YtjpiplplohapnaaGreatDoor
