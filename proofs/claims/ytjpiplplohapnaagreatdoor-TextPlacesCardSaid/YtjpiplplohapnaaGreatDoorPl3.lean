/- Part 3 of the proof: Up, Ep, Uw, Ex. -/
import Derived.Test.YtjpiplplohapnaaGreatDoorPl2
import Derived.Laws.FloatArith
set_option linter.unusedVariables false
set_option linter.unusedSimpArgs false
namespace Go.Proofs.YtjpiplplohapnaaGreatDoor.Us
open Nr
def bln (d : Nat) : Nat := if d = 0 then 0 else d.log2 + 1
theorem bln_spec {d : Nat} (h : d ≠ 0) : 2 ^ (bln d - 1) ≤ d ∧ d < 2 ^ bln d ∧ 1 ≤ bln d := by
  unfold bln
  rw [if_neg h]
  exact ⟨Nat.log2_self_le h, Nat.lt_log2_self, by omega⟩
def ex : Nat := 1074
theorem ex_eq : ex = 1074 := rfl
def dN (d : Nat) (p : Int) : Nat := d * 10 ^ p.toNat * 2 ^ ex
def dD (p : Int) : Nat := 10 ^ (-p).toNat
theorem dD_pos (p : Int) : 0 < dD p := Nat.pow_pos (by decide)
def pE (d : Nat) (p : Int) : Int := min 1074 (53 - bln d - lp p)
def pS (d : Nat) (p : Int) : Int := -(pE d p - (64 - bln d) + lp p + 3)
def pU (d : Nat) (p : Int) (r : Nat × Nat) : Nat := usc (d * 2 ^ (64 - bln d)) r.1 r.2 (pS d p).toNat
def parse64 (d : Nat) (p : Int) (r : Nat × Nat) : Nat :=
  if 64 ≤ pS d p then 0
  else if pU d p r < 36028797018963966 then (1074 - pE d p).toNat * 4503599627370496 + rnd (pU d p r)
  else (1075 - pE d p).toNat * 4503599627370496 + rnd (stick (pU d p r / 2) (decide (pU d p r % 2 = 1)))
theorem lp_spec {i : Nat} {r : Nat × Nat} (h : Pinned.pow10Rows[i]? = some r) : 2 ^ 127 * den ((i : Int) - 348) ≤ num ((i : Int) - 348) ∧ num ((i : Int) - 348) ≤ 340116213421465348979261631549233168384 * den ((i : Int) - 348) := by
  obtain ⟨hr, hb1, hb2, hb3⟩ := row_ok h
  refine ⟨hb3, ?_⟩
  have a := hr.below
  have b : r.1 * 18446744073709551616 * den ((i : Int) - 348) ≤ 340116213421465348979261631549233168384 * den ((i : Int) - 348) := Nat.mul_le_mul_right _ (by omega)
  exact Nat.le_trans (Nat.le_trans (Nat.le_add_right _ _) a) b
theorem value_ratio (d : Nat) (p E : Int) (s b l : Nat) (hE : E ≤ 1074) (hl : (l : Int) = 1074 - E) (hb : b ≤ 64) (hs : (s : Int) = -(E - (64 - b) + lp p + 3)) :
    d * 2 ^ (64 - b) * num p * (dD p * 2 ^ l) = dN d p * (4 * (den p * (340282366920938463463374607431768211456 * 2 ^ s))) := by
  unfold num den dN dD
  have hex := ex_eq
  have h4 : (4 : Nat) = 2 ^ 2 := rfl
  have h128 : (340282366920938463463374607431768211456 : Nat) = 2 ^ 128 := by decide
  rw [h4, h128]
  have e : 2 ^ (64 - b) * 2 ^ (127 - lp p).toNat * 2 ^ l = 2 ^ ex * 2 ^ 2 * 2 ^ (lp p - 127).toNat * 2 ^ 128 * 2 ^ s := by
    rw [← Nat.pow_add, ← Nat.pow_add, ← Nat.pow_add, ← Nat.pow_add, ← Nat.pow_add, ← Nat.pow_add]
    congr 1; omega
  generalize 2 ^ (64 - b) = a1 at *
  generalize 2 ^ (127 - lp p).toNat = a2 at *
  generalize 2 ^ l = a3 at *
  generalize 2 ^ ex = a4 at *
  generalize (2 : Nat) ^ 2 = a5 at *
  generalize 2 ^ (lp p - 127).toNat = a6 at *
  generalize (2 : Nat) ^ 128 = a7 at *
  generalize 2 ^ s = a8 at *
  generalize 10 ^ p.toNat = t1 at *
  generalize 10 ^ (-p).toNat = t2 at *
  calc d * a1 * (t1 * a2) * (t2 * a3) = (a1 * a2 * a3) * (d * t1 * t2) := by grind
    _ = (a4 * a5 * a6 * a7 * a8) * (d * t1 * t2) := by rw [e]
    _ = d * t1 * a4 * (a5 * (t2 * a6 * (a7 * a8))) := by grind
theorem le_ratio {R X N Y k : Nat} (hY : 0 < Y) (h : R * X = N * Y) (hk : k * Y ≤ R) : k * X ≤ N := by
  have := Nat.mul_le_mul_right X hk
  rw [h, Nat.mul_right_comm] at this
  exact Nat.le_of_mul_le_mul_right this hY
theorem bln_le {d k : Nat} (h : d < 2 ^ k) : bln d ≤ k := by
  by_cases h0 : d = 0
  · subst h0; unfold bln; simp
  have := bln_spec h0
  have h2 : 2 ^ (bln d - 1) < 2 ^ k := Nat.lt_of_le_of_lt this.1 h
  have h3 := (Nat.pow_lt_pow_iff_right (by decide : 1 < 2)).1 h2
  omega
theorem left_just {d : Nat} (h0 : d ≠ 0) (h : d < 18446744073709551616) : 9223372036854775808 ≤ d * 2 ^ (64 - bln d) ∧ d * 2 ^ (64 - bln d) < 18446744073709551616 := by
  obtain ⟨a, b, c⟩ := bln_spec h0
  have hb : bln d ≤ 64 := bln_le (by have : (2 : Nat) ^ 64 = 18446744073709551616 := by decide
                                     omega)
  constructor
  · have := Nat.mul_le_mul_right (2 ^ (64 - bln d)) a
    rw [← Nat.pow_add, show bln d - 1 + (64 - bln d) = 63 by omega] at this
    exact this
  have := Nat.mul_lt_mul_of_pos_right b (Nat.pow_pos (a := 2) (n := 64 - bln d) (by decide))
  rw [← Nat.pow_add, show bln d + (64 - bln d) = 64 by omega] at this
  exact this
theorem parse64_near {i : Nat} {r : Nat × Nat} (h : Pinned.pow10Rows[i]? = some r) {d : Nat} (h0 : d ≠ 0) (hd : d < 18446744073709551616) :
    Near (dN d ((i : Int) - 348)) (dD ((i : Int) - 348)) (parse64 d ((i : Int) - 348) r) ∧
    (64 ≤ pS d ((i : Int) - 348) ∨ (8 ≤ pS d ((i : Int) - 348) ∧ (pU d ((i : Int) - 348) r < 36028797018963966 → rnd (pU d ((i : Int) - 348) r) < 9007199254740992 ∧ (pE d ((i : Int) - 348) ≠ 1074 → 4503599627370496 ≤ rnd (pU d ((i : Int) - 348) r))) ∧
      (36028797018963966 ≤ pU d ((i : Int) - 348) r → rnd (stick (pU d ((i : Int) - 348) r / 2) (decide (pU d ((i : Int) - 348) r % 2 = 1))) < 9007199254740992 ∧ 4503599627370496 ≤ rnd (stick (pU d ((i : Int) - 348) r / 2) (decide (pU d ((i : Int) - 348) r % 2 = 1)))))) := by
  obtain ⟨hlo, hhi⟩ := lp_spec h
  obtain ⟨hx1, hx2⟩ := left_just h0 hd
  obtain ⟨hb1, hb2, hb3⟩ := bln_spec h0
  have hb : bln d ≤ 64 := bln_le hd
  have hr := (row_ok h).1
  have hclean := @clean_parse i r h (d * 2 ^ (64 - bln d))
  generalize (i : Int) - 348 = p at *
  have hE : pE d p = min 1074 (53 - bln d - lp p) := rfl
  have hS : pS d p = -(pE d p - (64 - bln d) + lp p + 3) := rfl
  have hDp := dD_pos p
  unfold parse64 pU
  generalize pE d p = E at *
  generalize pS d p = S at *
  by_cases c1 : 64 ≤ S
  · rw [if_pos c1]
    refine ⟨?_, Or.inl c1⟩
    have hE' : E = 1074 := by omega
    have hlb : lp p + bln d ≤ -1077 := by omega
    have g : 2 * dN d p ≤ dD p := by
      have g1 : num p = 10 ^ p.toNat * 2 ^ (127 - lp p).toNat := rfl
      have g2 : den p = 10 ^ (-p).toNat := by
        unfold den
        rw [show (lp p - 127).toNat = 0 by omega, Nat.pow_zero, Nat.mul_one]
      have g3 : 10 ^ p.toNat * 2 ^ (127 - lp p).toNat ≤ 10 ^ (-p).toNat * 2 ^ 128 := by
        rw [← g1, ← g2]
        have : 340116213421465348979261631549233168384 * den p ≤ 2 ^ 128 * den p := Nat.mul_le_mul_right _ (by decide)
        rw [Nat.mul_comm (den p)]
        omega
      have g4 : 10 ^ p.toNat * 2 ^ (-1 - lp p).toNat ≤ 10 ^ (-p).toNat := by
        rw [show (127 - lp p).toNat = (-1 - lp p).toNat + 128 by omega, Nat.pow_add, ← Nat.mul_assoc] at g3
        exact Nat.le_of_mul_le_mul_right g3 (Nat.pow_pos (by decide))
      unfold dN dD
      have g5 : 2 * (d * 10 ^ p.toNat * 2 ^ ex) ≤ 10 ^ p.toNat * (2 ^ bln d * 2 ^ (ex + 1)) := by
        have : d * (10 ^ p.toNat * 2 ^ (ex + 1)) ≤ 2 ^ bln d * (10 ^ p.toNat * 2 ^ (ex + 1)) := Nat.mul_le_mul_right _ (Nat.le_of_lt hb2)
        have e : (2 : Nat) ^ (ex + 1) = 2 ^ ex * 2 := by rw [Nat.pow_succ]
        rw [e] at this ⊢
        generalize (2 : Nat) ^ ex = z at *
        generalize 10 ^ p.toNat = t at *
        generalize 2 ^ bln d = y at *
        calc 2 * (d * t * z) = d * (t * (z * 2)) := by grind
          _ ≤ y * (t * (z * 2)) := this
          _ = t * (y * (z * 2)) := by grind
      have g6 : 2 ^ bln d * 2 ^ (ex + 1) ≤ 2 ^ (-1 - lp p).toNat := by
        rw [← Nat.pow_add]; exact Nat.pow_le_pow_right (by decide) (by rw [ex_eq]; omega)
      exact Nat.le_trans g5 (Nat.le_trans (Nat.mul_le_mul_left _ g6) g4)
    have := near_of_rhe (N := dN d p) (D := dD p) (l := 0) (n := 0) hDp ⟨by omega, by omega, fun _ => rfl, fun _ => rfl⟩ (Or.inr ⟨rfl, by omega⟩)
    simpa using this
  rw [if_neg c1]
  have hs8 : 8 ≤ S := by omega
  obtain ⟨s, hs⟩ : ∃ s : Nat, (s : Int) = S := ⟨S.toNat, by omega⟩
  have hsS : S.toNat = s := by omega
  rw [hsS]
  have hu := usc_ok (s := s) hx2 (by omega) hr (hclean (s := s) (by omega) hx1 hx2)
  obtain ⟨l, hl⟩ : ∃ l : Nat, (l : Int) = 1074 - E := ⟨(1074 - E).toNat, by omega⟩
  have hrat := value_ratio d p E s (bln d) l (by omega) hl hb (by omega)
  have hrat2 := value_ratio d p (E - 1) (s + 1) (bln d) (l + 1) (by omega) (by omega) hb (by omega)
  rw [hu]
  have hp : 0 < 2 ^ s := Nat.pow_pos (by decide)
  obtain ⟨Dn, hDn⟩ : ∃ Dn, Dn = den p * (340282366920938463463374607431768211456 * 2 ^ s) := ⟨_, rfl⟩
  have hDn0 : 0 < Dn := by rw [hDn]; exact Nat.mul_pos hr.dpos (Nat.mul_pos (by decide) hp)
  have hDn2 : den p * (340282366920938463463374607431768211456 * 2 ^ (s + 1)) = Dn * 2 := by
    rw [hDn, Nat.pow_succ, Nat.mul_assoc, Nat.mul_assoc]
  rw [← hDn] at hrat ⊢
  rw [hDn2] at hrat2
  have hR : d * 2 ^ (64 - bln d) * num p < 18446744073709551616 * num p := Nat.mul_lt_mul_of_pos_right hx2 (Nat.lt_of_lt_of_le (Nat.mul_pos (by decide) hr.dpos) hlo)
  have hR2 : 9223372036854775808 * num p ≤ d * 2 ^ (64 - bln d) * num p := Nat.mul_le_mul_right _ hx1
  have hs256 : 256 ≤ 2 ^ s := by
    have : 2 ^ 8 ≤ 2 ^ s := Nat.pow_le_pow_right (by decide) (by omega)
    exact this
  have hDle : 87112285931760246646623899502532662132736 * den p ≤ Dn := by
    rw [hDn, Nat.mul_comm _ (den p)]
    exact Nat.mul_le_mul_left _ (by omega)
  have htop : d * 2 ^ (64 - bln d) * num p ≤ 9002801208229888 * (4 * (Dn * 2)) := by omega
  generalize d * 2 ^ (64 - bln d) * num p = R at *
  have hn1 : pE d p ≠ 1074 → True := fun _ => trivial
  have hlow : E ≠ 1074 → 4503599627370496 * (4 * Dn) ≤ R := by
    intro hne
    have hs' : s = 8 := by omega
    have : Dn = 87112285931760246646623899502532662132736 * den p := by
      rw [hDn, hs', Nat.mul_comm (den p)]
    omega
  have rh1 := rnd_rhe (N := R) (D := Dn) hDn0
  have rh2 := rnd_rhe (N := R) (D := Dn * 2) (by omega)
  rw [unr_scale hDn0 (by decide) (by decide)] at rh2
  have hst : (decide (unr R Dn % 2 = 1) || decide (unr R Dn % 2 ≠ 0)) = decide (unr R Dn % 2 = 1) := by
    rcases Nat.mod_two_eq_zero_or_one (unr R Dn) with h | h <;> simp [h]
  rw [hst] at rh2
  have hX : 0 < dD p * 2 ^ l := Nat.mul_pos hDp (Nat.pow_pos (by decide))
  have hX2 : 0 < dD p * 2 ^ (l + 1) := Nat.mul_pos hDp (Nat.pow_pos (by decide))
  have nr1 := rhe_ratio (Nat.mul_pos (by decide) hDn0) hX hrat rh1
  have nr2 := rhe_ratio (Nat.mul_pos (by decide) (by omega : 0 < Dn * 2)) hX2 hrat2 rh2
  have hlt2 : rnd (stick (unr R Dn / 2) (decide (unr R Dn % 2 = 1))) < 9007199254740992 := by
    have := rhe_le (by omega) rh2 htop
    omega
  have hge1 : E ≠ 1074 → 4503599627370496 ≤ rnd (unr R Dn) := fun hne => rhe_ge (by omega) rh1 (hlow hne)
  have hlt1 : unr R Dn < 36028797018963966 → rnd (unr R Dn) < 9007199254740992 := fun hc => rnd_lt (by omega)
  have hge2 : 36028797018963966 ≤ unr R Dn → 4503599627370496 ≤ rnd (stick (unr R Dn / 2) (decide (unr R Dn % 2 = 1))) := by
    intro hc
    refine rnd_ge' ?_ (by decide)
    unfold stick
    split <;> omega
  refine ⟨?_, Or.inr ⟨hs8, fun hc => ⟨hlt1 hc, hge1⟩, fun hc => ⟨hlt2, hge2 hc⟩⟩⟩
  by_cases c2 : unr R Dn < 36028797018963966
  · rw [if_pos c2]
    have hlt := hlt1 c2
    rw [show (1074 - E).toNat = l by omega]
    refine near_of_rhe hDp nr1 ?_
    by_cases hne : E = 1074
    · right; exact ⟨by omega, by omega⟩
    left
    exact ⟨hge1 hne, by omega, fun _ => le_ratio (Nat.mul_pos (by decide) hDn0) hrat (hlow hne)⟩
  rw [if_neg c2]
  have hge := hge2 (by omega)
  rw [show (1075 - E).toNat = l + 1 by omega]
  by_cases c3 : 4503599627370496 * (4 * (Dn * 2)) ≤ R
  · refine near_of_rhe hDp nr2 (Or.inl ⟨hge, by omega, fun _ => le_ratio (by omega) hrat2 c3⟩)
  have a1 : rnd (stick (unr R Dn / 2) (decide (unr R Dn % 2 = 1))) = 4503599627370496 := Nat.le_antisymm (rhe_le (by omega) rh2 (by omega)) hge
  have a2 : rnd (unr R Dn) = 9007199254740992 := Nat.le_antisymm (rhe_le (by omega) rh1 (by omega)) (rnd_ge (by omega) (by decide) (by decide))
  rw [a1]
  have := near_of_rhe (l := l) hDp nr1
  rw [a2] at this
  have := this (by
    by_cases hne : E = 1074
    · right; exact ⟨by omega, by omega⟩
    left; exact ⟨by omega, by omega, fun _ => le_ratio (Nat.mul_pos (by decide) hDn0) hrat (hlow hne)⟩)
  rw [show (l + 1) * 4503599627370496 + 4503599627370496 = l * 4503599627370496 + 9007199254740992 by omega]
  exact this
end Go.Proofs.YtjpiplplohapnaaGreatDoor.Us
namespace Go.Proofs.YtjpiplplohapnaaGreatDoor.Nr
open Us
def rM (r : Nat) : Nat := if r < 4503599627370496 then r else 4503599627370496 + r % 4503599627370496
def rP (r : Nat) : Int := if r < 4503599627370496 then -1074 else -1074 + ((r / 4503599627370496 - 1 : Nat) : Int)
theorem rP_ge (r : Nat) : -1074 ≤ rP r := by unfold rP; split <;> omega
theorem rM_V (r : Nat) : rM r * 2 ^ (rP r + 1074).toNat = V r := by
  unfold rM rP V
  by_cases h : r < 4503599627370496
  · rw [if_pos h, if_pos h, if_pos h, show ((-1074 : Int) + 1074).toNat = 0 by decide, Nat.pow_zero, Nat.mul_one]
  rw [if_neg h, if_neg h, if_neg h, show (-1074 + ((r / 4503599627370496 - 1 : Nat) : Int) + 1074).toNat = r / 4503599627370496 - 1 by omega]
theorem rM_pos {r : Nat} (h : 0 < r) : 0 < rM r := by unfold rM; split <;> omega
theorem V_pos {r : Nat} (h : 0 < r) : 0 < V r := by
  have := V_lt h
  omega
theorem word_eq (s : Bool) (r : Nat) : Ieee.double.word s r = (if s then 9223372036854775808 else 0) + r := by
  have e5 : Ieee.double.signWeight = 9223372036854775808 := by decide
  unfold Ieee.Format.word
  rw [e5]
  cases s <;> simp
theorem read_word (s : Bool) (r : Nat) (h : r < 9218868437227405312) : Ieee.double.read (Ieee.double.word s r) = .number s (rM r) (rP r) := by
  have e1 : Ieee.double.leastPlace = -1074 := by decide
  have e3 : Ieee.double.binade = 4503599627370496 := by decide
  have e4 : Ieee.double.infRung = 9218868437227405312 := by decide
  have e5 : Ieee.double.signWeight = 9223372036854775808 := by decide
  have hw1 : Ieee.double.word s r / 9223372036854775808 % 2 = (if s then 1 else 0) := by
    rw [word_eq]; cases s
    · rw [if_neg (by decide), if_neg (by decide)]; omega
    rw [if_pos rfl, if_pos rfl]; omega
  have hw2 : Ieee.double.word s r % 9223372036854775808 = r := by
    rw [word_eq]; cases s
    · rw [if_neg (by decide)]; omega
    rw [if_pos rfl]; omega
  unfold Ieee.Format.read
  dsimp only
  rw [e1, e3, e4, e5, hw1, hw2]
  unfold rM rP
  by_cases c : r < 4503599627370496
  · rw [if_pos c, if_pos c, if_pos c]; cases s <;> rfl
  rw [if_neg c, if_neg c, if_neg c, if_pos h]; cases s <;> rfl
theorem write_number (s : Bool) (m : Nat) (p : Int) : Ieee.double.write (.number s m p) = Ieee.double.word s (min (rung m p) 9218868437227405312) := nearest_rung s m p
theorem near_ratio {N D N' D' r : Nat} (hD : 0 < D) (hD' : 0 < D') (h : N * D' = N' * D) (h1 : Near N D r) : Near N' D' r := by
  obtain ⟨a, b, c⟩ := h1
  have key : ∀ k : Nat, (k * D ≤ 2 * N ↔ k * D' ≤ 2 * N') ∧ (2 * N ≤ k * D ↔ 2 * N' ≤ k * D') := by
    intro k
    have e1 : k * D * D' = k * D' * D := by grind
    have e2 : 2 * N * D' = 2 * N' * D := by rw [Nat.mul_assoc, h, Nat.mul_assoc]
    constructor
    · constructor
      · intro h; have := Nat.mul_le_mul_right D' h; rw [e1, e2] at this; exact Nat.le_of_mul_le_mul_right this hD
      intro h; have := Nat.mul_le_mul_right D h; rw [← e1, ← e2] at this; exact Nat.le_of_mul_le_mul_right this hD'
    constructor
    · intro h; have := Nat.mul_le_mul_right D' h; rw [e1, e2] at this; exact Nat.le_of_mul_le_mul_right this hD
    intro h; have := Nat.mul_le_mul_right D h; rw [← e1, ← e2] at this; exact Nat.le_of_mul_le_mul_right this hD'
  refine ⟨fun q hq => ?_, ?_, ?_⟩
  · obtain ⟨g1, g2⟩ := a q hq
    obtain ⟨k1, k2⟩ := key (V q + V r)
    exact ⟨k1.1 g1, fun h => g2 (Nat.le_antisymm g1 (k2.2 (by omega)))⟩
  · exact (key _).2.1 b
  intro h
  obtain ⟨k1, k2⟩ := key (V r + V (r + 1))
  exact c (Nat.le_antisymm b (k1.2 (by omega)))
theorem mul_near (s t : Bool) (a b : Nat) (ha : a < 9218868437227405312) (hb : b < 9218868437227405312) :
    ∃ r, Near (V a * V b) (2 ^ ex) r ∧ Ieee.double.mul (Ieee.double.word s a) (Ieee.double.word t b) = some (Ieee.double.word (s ^^ t) (min r 9218868437227405312)) := by
  refine ⟨rung (rM a * rM b) (rP a + rP b), ?_, ?_⟩
  · have h := rung_near (rM a * rM b) (rP a + rP b)
    refine near_ratio (uD_pos _) (Nat.pow_pos (by decide)) ?_ h
    have h1 := rM_V a
    have h2 := rM_V b
    have g1 := rP_ge a
    have g2 := rP_ge b
    unfold uN uD
    rw [← h1, ← h2]
    have hex := ex_eq
    have e : 2 ^ (rP a + rP b + 1074).toNat * 2 ^ ex = 2 ^ (rP a + 1074).toNat * 2 ^ (rP b + 1074).toNat * 2 ^ (-1074 - (rP a + rP b)).toNat := by
      rw [← Nat.pow_add, ← Nat.pow_add, ← Nat.pow_add]
      congr 1; omega
    generalize 2 ^ (rP a + rP b + 1074).toNat = x1 at *
    generalize 2 ^ ex = x2 at *
    generalize 2 ^ (rP a + 1074).toNat = x3 at *
    generalize 2 ^ (rP b + 1074).toNat = x4 at *
    generalize 2 ^ (-1074 - (rP a + rP b)).toNat = x5 at *
    calc rM a * rM b * x1 * x2 = rM a * rM b * (x1 * x2) := by grind
      _ = rM a * rM b * (x3 * x4 * x5) := by rw [e]
      _ = rM a * x3 * (rM b * x4) * x5 := by grind
  unfold Ieee.Format.mul
  rw [read_word s a ha, read_word t b hb]
  show some (Ieee.double.write (.number (s ^^ t) (rM a * rM b) (rP a + rP b))) = _
  rw [write_number]
theorem rhe_sticky {q rem n G k : Nat} (hr : rem < n) (h : Rhe (2 * q + (if rem = 0 then 0 else 1)) (4 * G) k) : Rhe (2 * (q * n + rem)) (n * (4 * G)) k := by
  obtain ⟨h1, h2, h3, h4⟩ := h
  have key : ∀ t : Nat, ((2 * q + (if rem = 0 then 0 else 1) ≤ 2 * t) ↔ q * n + rem ≤ t * n) ∧ ((2 * t ≤ 2 * q + (if rem = 0 then 0 else 1)) ↔ t * n ≤ q * n + rem) := by
    intro t
    by_cases h0 : rem = 0
    · subst h0
      rw [if_pos rfl]
      constructor
      · constructor
        · intro h; have := Nat.mul_le_mul_right n (show q ≤ t by omega); omega
        intro h
        have := Nat.le_of_mul_le_mul_right (show q * n ≤ t * n by omega) hr
        omega
      constructor
      · intro h; have := Nat.mul_le_mul_right n (show t ≤ q by omega); omega
      intro h
      have := Nat.le_of_mul_le_mul_right (show t * n ≤ q * n by omega) hr
      omega
    rw [if_neg h0]
    constructor
    · constructor
      · intro h; have := Nat.mul_le_mul_right n (show q + 1 ≤ t by omega); rw [Nat.add_mul, Nat.one_mul] at this; omega
      intro h
      rcases Nat.lt_or_ge q t with g | g
      · omega
      have := Nat.mul_le_mul_right n g; omega
    constructor
    · intro h; have := Nat.mul_le_mul_right n (show t ≤ q by omega); omega
    intro h
    rcases Nat.lt_or_ge q t with g | g
    · have := Nat.mul_le_mul_right n (show q + 1 ≤ t by omega); rw [Nat.add_mul, Nat.one_mul] at this; omega
    omega
  generalize (if rem = 0 then 0 else 1) = s at *
  have e1 : (2 * k + 1) * (4 * G) = 2 * (2 * ((2 * k + 1) * G)) := by grind
  have e2 : (2 * k + 1) * (n * (4 * G)) = 4 * ((2 * k + 1) * G * n) := by grind
  obtain ⟨k1, k2⟩ := key ((2 * k + 1) * G)
  refine ⟨?_, ?_, ?_, ?_⟩
  · rw [e2]
    have := k1.1 (by omega)
    omega
  · have e3 : n * (4 * G) = 4 * (G * n) := by grind
    have e4 : 2 * k * (n * (4 * G)) = 4 * (2 * k * G * n) := by grind
    have e5 : 2 * k * (4 * G) = 4 * (2 * k * G) := by grind
    rw [e3] at e4 ⊢
    rw [e4]
    by_cases hk : k = 0
    · subst hk; simp
    have e6 : 2 * k * G = (2 * k - 1) * G + G := by
      rw [← Nat.succ_mul]; congr 1; omega
    obtain ⟨k3, k4⟩ := key ((2 * k - 1) * G)
    have := k4.1 (by omega)
    rw [e6, Nat.add_mul]
    omega
  · intro h
    rw [e2] at h
    have g1 := k1.1 (by omega)
    have g2 := k2.2 (by omega)
    exact h3 (by omega)
  intro h
  by_cases hk : k = 0
  · subst hk; rfl
  have e3 : n * (4 * G) = 4 * (G * n) := by grind
  have e4 : 2 * k * (n * (4 * G)) = 4 * (2 * k * G * n) := by grind
  have e5 : 2 * k * (4 * G) = 4 * (2 * k * G) := by grind
  have e6 : 2 * k * G = (2 * k - 1) * G + G := by
    rw [← Nat.succ_mul]; congr 1; omega
  obtain ⟨k3, k4⟩ := key ((2 * k - 1) * G)
  rw [e3] at e4 h
  rw [e4, e6, Nat.add_mul] at h
  have g1 := k3.2 (by omega)
  have g2 := k4.2 (by omega)
  exact h4 (by omega)
theorem sticky_near (q rem n : Nat) (P : Int) (hr : rem < n) (hq : 9007199254740992 ≤ q) :
    Near (2 * (q * n + rem) * 2 ^ (P + 1074).toNat) (n * 2 ^ (-1074 - P).toNat) (rung (2 * q + (if rem = 0 then 0 else 1)) P) := by
  have hn : 0 < n := by omega
  obtain ⟨mag, hm⟩ : ∃ mag, mag = 2 * q + (if rem = 0 then 0 else 1) := ⟨_, rfl⟩
  have hmq : 2 * q ≤ mag ∧ mag ≤ 2 * q + 1 := by rw [hm]; split <;> omega
  have h : ¬ mag = 0 := by omega
  rw [← hm]
  unfold rung
  rw [if_neg h]
  dsimp only
  obtain ⟨last, hl⟩ : ∃ last, last = max (P + mag.log2 - 52) (-1074) := ⟨_, rfl⟩
  rw [← hl]
  have hc := cut_rhe false (mag <<< (P - last).toNat) (last - P).toNat
  generalize Ieee.Toward.even.cut false (mag <<< (P - last).toNat) (last - P).toNat = k at *
  have hlo := Nat.log2_self_le h
  have hhi : mag < 2 ^ (mag.log2 + 1) := Nat.lt_log2_self
  have hlg : 54 ≤ mag.log2 := by
    rw [Nat.le_log2 h]
    have : (2 : Nat) ^ 54 = 18014398509481984 := by decide
    omega
  obtain ⟨d, hd⟩ : ∃ d : Nat, (d : Int) = last - P - 2 := ⟨(last - P - 2).toNat, by omega⟩
  rw [show (P - last).toNat = 0 by omega, show (last - P).toNat = d + 2 by omega, Nat.shiftLeft_eq, Nat.pow_zero, Nat.mul_one] at hc
  have hG : (2 : Nat) ^ (d + 2) = 4 * 2 ^ d := by rw [Nat.pow_add, Nat.mul_comm]
  have hn53 : k ≤ 9007199254740992 := by
    refine rhe_le (Nat.pow_pos (by decide)) hc ?_
    have p53 : 9007199254740992 = 2 ^ 53 := by decide
    rw [p53, ← Nat.pow_add]
    exact Nat.le_trans (Nat.le_of_lt hhi) (Nat.pow_le_pow_right (by decide) (by omega))
  have hlow : last ≠ -1074 → 4503599627370496 * 2 ^ (d + 2) ≤ mag := by
    intro h0
    have p52 : 4503599627370496 = 2 ^ 52 := by decide
    rw [p52, ← Nat.pow_add]
    exact Nat.le_trans (Nat.pow_le_pow_right (by decide) (by omega)) hlo
  have hn52 : last ≠ -1074 → 4503599627370496 ≤ k := fun h0 => rhe_ge (Nat.pow_pos (by decide)) hc (hlow h0)
  rw [hG, hm] at hc
  have hs := rhe_sticky hr hc
  have hp : 0 < 2 ^ d := Nat.pow_pos (by decide)
  have hX : 0 < n * 2 ^ (-1074 - P).toNat := Nat.mul_pos hn (Nat.pow_pos (by decide))
  have hX2 : 0 < n * 2 ^ (-1074 - P).toNat * 2 ^ (last + 1074).toNat := Nat.mul_pos hX (Nat.pow_pos (by decide))
  have hrat : 2 * (q * n + rem) * (n * 2 ^ (-1074 - P).toNat * 2 ^ (last + 1074).toNat) = 2 * (q * n + rem) * 2 ^ (P + 1074).toNat * (n * (4 * 2 ^ d)) := by
    have e : 2 ^ (-1074 - P).toNat * 2 ^ (last + 1074).toNat = 2 ^ (P + 1074).toNat * 2 ^ (d + 2) := by
      rw [← Nat.pow_add, ← Nat.pow_add]; congr 1; omega
    rw [← hG]
    generalize 2 ^ (-1074 - P).toNat = x1 at *
    generalize 2 ^ (last + 1074).toNat = x2 at *
    generalize 2 ^ (P + 1074).toNat = x3 at *
    generalize 2 ^ (d + 2) = x4 at *
    calc 2 * (q * n + rem) * (n * x1 * x2) = 2 * (q * n + rem) * n * (x1 * x2) := by grind
      _ = 2 * (q * n + rem) * n * (x3 * x4) := by rw [e]
      _ = 2 * (q * n + rem) * x3 * (n * x4) := by grind
  refine near_of_rhe hX (rhe_ratio (Nat.mul_pos hn (by omega)) hX2 hrat hs) ?_
  by_cases h0 : last = -1074
  · right; exact ⟨by omega, hn53⟩
  left
  refine ⟨hn52 h0, hn53, fun _ => ?_⟩
  have a := hlow h0
  rw [hG] at a
  have b : 4503599627370496 * (4 * 2 ^ d) ≤ 2 * q := by
    have : 4503599627370496 * (4 * 2 ^ d) = 2 * (4503599627370496 * (2 * 2 ^ d)) := by grind
    omega
  have c := Nat.mul_le_mul_right n b
  have c2 : 4503599627370496 * (n * (4 * 2 ^ d)) ≤ 2 * (q * n + rem) := by
    have e : 4503599627370496 * (n * (4 * 2 ^ d)) = 4503599627370496 * (4 * 2 ^ d) * n := by grind
    have e2 : 2 * q * n = 2 * (q * n) := Nat.mul_assoc _ _ _
    omega
  have c3 := Nat.mul_le_mul_right (n * 2 ^ (-1074 - P).toNat * 2 ^ (last + 1074).toNat) c2
  rw [hrat, Nat.mul_right_comm] at c3
  exact Nat.le_of_mul_le_mul_right c3 (Nat.mul_pos hn (by omega))
theorem div_near (s t : Bool) (a b : Nat) (ha : a < 9218868437227405312) (hb : b < 9218868437227405312) (hb0 : 0 < b) (ha0 : 0 < a) :
    ∃ r, Near (V a * 2 ^ ex) (V b) r ∧ Ieee.double.div (Ieee.double.word s a) (Ieee.double.word t b) = some (Ieee.double.word (s ^^ t) (min r 9218868437227405312)) := by
  have hn := rM_pos hb0
  have hm := rM_pos ha0
  obtain ⟨more, hmore⟩ : ∃ more, more = 54 + (rM b).log2 - (rM a).log2 := ⟨_, rfl⟩
  have hdm := Nat.div_add_mod (rM a <<< more) (rM b)
  have hmd := Nat.mod_lt (rM a <<< more) hn
  have hqge : 9007199254740992 ≤ rM a <<< more / rM b := by
    rw [Nat.le_div_iff_mul_le hn, Nat.shiftLeft_eq]
    have h1 : 2 ^ (rM a).log2 ≤ rM a := Nat.log2_self_le (by omega)
    have h2 : rM b < 2 ^ ((rM b).log2 + 1) := Nat.lt_log2_self
    have p53 : 9007199254740992 = 2 ^ 53 := by decide
    have h3 : 2 ^ 53 * rM b ≤ 2 ^ 53 * 2 ^ ((rM b).log2 + 1) := Nat.mul_le_mul_left _ (Nat.le_of_lt h2)
    have h4 : 2 ^ (rM a).log2 * 2 ^ more ≤ rM a * 2 ^ more := Nat.mul_le_mul_right _ h1
    rw [← Nat.pow_add] at h3 h4
    have h5 : 2 ^ (53 + ((rM b).log2 + 1)) ≤ 2 ^ ((rM a).log2 + more) := Nat.pow_le_pow_right (by decide) (by omega)
    rw [p53]
    omega
  refine ⟨rung (2 * (rM a <<< more / rM b) + (if rM a <<< more % rM b = 0 then 0 else 1)) (rP a - rP b - more - 1), ?_, ?_⟩
  · have h := sticky_near (rM a <<< more / rM b) (rM a <<< more % rM b) (rM b) (rP a - rP b - more - 1) hmd hqge
    rw [Nat.mul_comm (rM a <<< more / rM b) (rM b), hdm, Nat.shiftLeft_eq] at h
    rw [Nat.shiftLeft_eq]
    refine near_ratio (Nat.mul_pos hn (Nat.pow_pos (by decide))) (V_pos hb0) ?_ h
    have h1 := rM_V a
    have h2 := rM_V b
    have g1 := rP_ge a
    have g2 := rP_ge b
    have hex := ex_eq
    have e : 2 * 2 ^ more * 2 ^ (rP a - rP b - more - 1 + 1074).toNat * 2 ^ (rP b + 1074).toNat = 2 ^ (rP a + 1074).toNat * 2 ^ ex * 2 ^ (-1074 - (rP a - rP b - more - 1)).toNat := by
      rw [show 2 * 2 ^ more = 2 ^ (more + 1) by rw [Nat.pow_succ, Nat.mul_comm], ← Nat.pow_add, ← Nat.pow_add, ← Nat.pow_add, ← Nat.pow_add]
      congr 1; omega
    rw [← h1, ← h2]
    generalize 2 ^ (rP a - rP b - more - 1 + 1074).toNat = x1 at *
    generalize 2 ^ ex = x2 at *
    generalize 2 ^ (rP a + 1074).toNat = x3 at *
    generalize 2 ^ (rP b + 1074).toNat = x4 at *
    generalize 2 ^ (-1074 - (rP a - rP b - more - 1)).toNat = x5 at *
    generalize 2 ^ more = x6 at *
    calc 2 * (rM a * x6) * x1 * (rM b * x4) = rM a * rM b * (2 * x6 * x1 * x4) := by grind
      _ = rM a * rM b * (x3 * x2 * x5) := by rw [e]
      _ = rM a * x3 * x2 * (rM b * x5) := by grind
  unfold Ieee.Format.div
  rw [read_word s a ha, read_word t b hb]
  unfold Ieee.Datum.quotient
  dsimp only
  rw [if_neg (show ¬ rM b = 0 by omega)]
  have e2 : Ieee.double.fractionBits + 2 + (rM b).log2 - (rM a).log2 = more := by rw [hmore]; rfl
  rw [e2]
  have e3 : (rM a <<< more % rM b != 0).toNat = (if rM a <<< more % rM b = 0 then 0 else 1) := by
    by_cases h0 : rM a <<< more % rM b = 0
    · rw [if_pos h0, h0]; rfl
    rw [if_neg h0]; simp [h0]
  rw [e3]
  show some (Ieee.double.write _) = _
  rw [write_number]
theorem rung_int (d : Nat) (hd : d < 9007199254740992) : ∃ r, V r = d * 2 ^ ex ∧ r < 4899916394579099648 ∧ rung d 0 = r ∧ (0 < d → 0 < r) := by
  have hN := rung_near d 0
  have hex : ∃ r, V r = d * 2 ^ ex ∧ r < 4899916394579099648 := by
    by_cases h0 : d = 0
    · subst h0
      exact ⟨0, by rw [Nat.zero_mul]; rfl, by decide⟩
    have hlo := Nat.log2_self_le h0
    have hhi : d < 2 ^ (d.log2 + 1) := Nat.lt_log2_self
    have hlg : d.log2 ≤ 52 := by
      have : d.log2 < 53 := (Nat.log2_lt h0).2 (by have : (2 : Nat) ^ 53 = 9007199254740992 := by decide
                                                   omega)
      omega
    have p53 : (9007199254740992 : Nat) = 2 ^ 53 := by decide
    have p52 : (4503599627370496 : Nat) = 2 ^ 52 := by decide
    have a1 : 4503599627370496 ≤ d * 2 ^ (52 - d.log2) := by
      have := Nat.mul_le_mul_right (2 ^ (52 - d.log2)) hlo
      rw [← Nat.pow_add, show d.log2 + (52 - d.log2) = 52 by omega, ← p52] at this
      exact this
    have a2 : d * 2 ^ (52 - d.log2) < 9007199254740992 := by
      have := Nat.mul_lt_mul_of_pos_right hhi (Nat.pow_pos (a := 2) (n := 52 - d.log2) (by decide))
      rw [← Nat.pow_add, show d.log2 + 1 + (52 - d.log2) = 53 by omega, ← p53] at this
      exact this
    refine ⟨(1022 + d.log2) * 4503599627370496 + d * 2 ^ (52 - d.log2), ?_, ?_⟩
    · rw [V_form _ _ (Or.inl ⟨a1, Nat.le_of_lt a2⟩), Nat.mul_assoc, ← Nat.pow_add]
      congr 2; have := ex_eq; omega
    generalize d * 2 ^ (52 - d.log2) = y at *
    omega
  obtain ⟨r, hr, hlt⟩ := hex
  refine ⟨r, hr, hlt, ?_, ?_⟩
  · have h2 : Near (d * 2 ^ ex) 1 r := near_exact (by decide) (by rw [hr, Nat.mul_one])
    refine near_unique (uD_pos _) (by decide) ?_ hN h2
    unfold uN uD
    have := ex_eq
    rw [show ((0 : Int) + 1074).toNat = ex by rw [ex_eq]; rfl, show (-1074 - (0 : Int)).toNat = 0 by decide]
  intro h0
  rcases Nat.eq_zero_or_pos r with h | h
  · subst h
    have hp : 0 < d * 2 ^ ex := Nat.mul_pos h0 (Nat.pow_pos (by decide))
    have : V 0 = 0 := rfl
    omega
  exact h
theorem int_float (d : Nat) (hd : d < 9007199254740992) : ∃ r, V r = d * 2 ^ ex ∧ r < 4899916394579099648 ∧ (0 < d → 0 < r) ∧ floatOfInt .f64 (d : Int) = r := by
  obtain ⟨r, h1, h2, h3, h4⟩ := rung_int d hd
  refine ⟨r, h1, h2, h4, ?_⟩
  show Ieee.double.write (.number (decide ((d : Int) < 0)) (d : Int).natAbs 0) = r
  rw [decide_eq_false (by omega), Int.natAbs_natCast, write_number, h3, word_eq, Nat.min_eq_left (by omega)]
  simp
theorem signed_rung (s : Bool) (r : Nat) (b : Int) (hb : b = -1074) : Ieee.signed s (rM r) (rP r - b).toNat = if s then -(V r : Int) else (V r : Int) := by
  unfold Ieee.signed
  rw [Nat.shiftLeft_eq, show (rP r - b).toNat = (rP r + 1074).toNat by omega, rM_V]
def wV (s : Bool) (r : Nat) : Int := if s then -(V r : Int) else (V r : Int)
theorem signed_scale (s : Bool) (m k j : Nat) : Ieee.signed s m (k + j) = Ieee.signed s m k * (2 ^ j : Nat) := by
  unfold Ieee.signed
  rw [Nat.shiftLeft_eq, Nat.shiftLeft_eq, Nat.pow_add, ← Nat.mul_assoc]
  split
  · rw [Int.neg_mul, Int.natCast_mul]
  rw [Int.natCast_mul]
theorem cmp_lt {x y : Int} (h : x < y) : compare x y = .lt := by
  show compareOfLessAndEq x y = .lt
  unfold compareOfLessAndEq
  rw [if_pos h]
theorem cmp_eq (x : Int) : compare x x = .eq := by
  show compareOfLessAndEq x x = .eq
  unfold compareOfLessAndEq
  rw [if_neg (by omega), if_pos rfl]
theorem cmp_gt {x y : Int} (h : y < x) : compare x y = .gt := by
  show compareOfLessAndEq x y = .gt
  unfold compareOfLessAndEq
  rw [if_neg (by omega), if_neg (by omega)]
theorem compare_scale (x y : Int) (k : Nat) (hk : 0 < k) : compare (x * (k : Int)) (y * (k : Int)) = compare x y := by
  have hk' : (0 : Int) < k := by omega
  rcases Int.lt_trichotomy x y with h | h | h
  · rw [cmp_lt h, cmp_lt (Int.mul_lt_mul_of_pos_right h hk')]
  · subst h; rw [cmp_eq, cmp_eq]
  rw [cmp_gt h, cmp_gt (Int.mul_lt_mul_of_pos_right h hk')]
theorem order_word (s t : Bool) (a b : Nat) (ha : a < 9218868437227405312) (hb : b < 9218868437227405312) : Ieee.double.order (Ieee.double.word s a) (Ieee.double.word t b) = some (compare (wV s a) (wV t b)) := by
  unfold Ieee.Format.order
  rw [read_word s a ha, read_word t b hb]
  unfold Ieee.Datum.order
  dsimp only
  have g1 := rP_ge a
  have g2 := rP_ge b
  obtain ⟨j, hj⟩ : ∃ j : Nat, (j : Int) = min (rP a) (rP b) + 1074 := ⟨(min (rP a) (rP b) + 1074).toNat, by omega⟩
  have e1 := signed_scale s (rM a) (rP a - min (rP a) (rP b)).toNat j
  have e2 := signed_scale t (rM b) (rP b - min (rP a) (rP b)).toNat j
  rw [show (rP a - min (rP a) (rP b)).toNat + j = (rP a - -1074).toNat by omega, signed_rung s a _ rfl] at e1
  rw [show (rP b - min (rP a) (rP b)).toNat + j = (rP b - -1074).toNat by omega, signed_rung t b _ rfl] at e2
  unfold wV
  rw [e1, e2, compare_scale _ _ _ (Nat.pow_pos (by decide))]
end Go.Proofs.YtjpiplplohapnaaGreatDoor.Nr
namespace Go.Proofs.YtjpiplplohapnaaGreatDoor
open Go.RowKit Go.Proofs.YtjpiplplohapnaaGreatDoorW.PrintWords Nr Us
theorem or_one (v : Nat) (hv : v < 18446744073709551616) : Go.bits .or .u64 (v : Int) 1 = ((v / 2 * 2 + 1 : Nat) : Int) := by
  have := Go.u64_or_nat v 1 hv (by omega)
  rw [show ((1 : Nat) : Int) = 1 from rfl] at this
  rw [this, or1_nat _ _ (by decide), if_pos rfl]
theorem or_zero64 (v : Nat) (hv : v < 18446744073709551616) : Go.bits .or .u64 (v : Int) 0 = (v : Int) := by
  have := Go.u64_or_nat v 0 hv (by omega)
  rw [show ((0 : Nat) : Int) = 0 from rfl, Nat.or_zero] at this
  exact this
theorem and63 (s : Nat) (hs : s < 64) : Go.bits .and .i64 (s : Int) 63 = (s : Int) := by
  have key : ∀ s : Fin 64, Go.bits .and .i64 (s.val : Int) 63 = (s.val : Int) := by decide +kernel
  exact key ⟨s, hs⟩
theorem bitLenAux_eq : ∀ (f x : Nat), x < 2 ^ f → Lib.bitLenAux f x = bln x
  | 0, x, h => by
    have : x = 0 := by simpa using h
    subst this; rfl
  | f + 1, x, h => by
    rw [Lib.bitLenAux]
    by_cases h0 : x = 0
    · subst h0; rfl
    rw [if_neg h0, bitLenAux_eq f (x / 2) (by rw [Nat.pow_succ] at h; omega)]
    unfold bln
    rw [if_neg h0]
    by_cases h1 : x / 2 = 0
    · rw [if_pos h1]
      have : x = 1 := by omega
      subst this; rfl
    rw [if_neg h1, Nat.log2_def x, if_pos (by omega)]
    omega
theorem bitLen_eq (x : Nat) (h : x < 18446744073709551616) : Lib.bitLen x = bln x := bitLenAux_eq 64 x (by have : (2 : Nat) ^ 64 = 18446744073709551616 := by decide
                                                                                                           omega)
theorem log2_f (p : Int) (h1 : -100000 < p) (h2 : p < 100000) : PText.strconv_log2Pow10.f p = some (lp p) := by
  unfold PText.strconv_log2Pow10.f lp
  rw [show wrap64 (p * 108853) = p * 108853 by unfold wrap64; omega]
theorem lp_range (p : Int) (h1 : -400 ≤ p) (h2 : p ≤ 400) : -1400 ≤ lp p ∧ lp p ≤ 1400 := by unfold lp; omega
theorem unmin_f : PText.strconv_unmin.f 9007199254740992 = some 36028797018963966 := by decide +kernel
theorem round_f (u : Nat) (h : u < 18446744073709551610) : PText.strconv_unrounded_round.f (u : Int) = some ((rnd u : Nat) : Int) := by
  unfold PText.strconv_unrounded_round.f rnd
  have e1 : (u : Int) / 4 = ((u / 4 : Nat) : Int) := by omega
  rw [e1, and1_bits _ (by omega), IntWalk.u64_in ((u : Int) + 1) (by omega), IntWalk.u64_in _ (by omega)]
  congr 1
theorem or_sign (v : Nat) (hv : v < 9223372036854775808) : Go.bits .or .u64 9223372036854775808 (v : Int) = ((9223372036854775808 + v : Nat) : Int) := by
  have := Go.u64_or_nat 9223372036854775808 v (by omega) (by omega)
  rw [show ((9223372036854775808 : Nat) : Int) = 9223372036854775808 from rfl] at this
  rw [this]
  congr 1
  have h := Nat.two_pow_add_eq_or_of_lt (i := 63) (b := v) (by have : (2 : Nat) ^ 63 = 9223372036854775808 := by decide
                                                               omega) 1
  rw [Nat.mul_one, show (2 : Nat) ^ 63 = 9223372036854775808 by decide] at h
  exact h.symm
theorem zero_or (v : Nat) (hv : v < 18446744073709551616) : Go.bits .or .u64 0 (v : Int) = (v : Int) := by
  have := Go.u64_or_nat 0 v (by omega) hv
  rw [show ((0 : Nat) : Int) = 0 from rfl, Nat.zero_or] at this
  exact this
def sgB (ng : Bool) : Nat := if ng then 9223372036854775808 else 0
theorem or_sgB (ng : Bool) (v : Nat) (hv : v < 9223372036854775808) : Go.bits .or .u64 (sgB ng : Int) (v : Int) = ((sgB ng + v : Nat) : Int) := by
  cases ng
  · unfold sgB
    rw [if_neg (by decide)]
    have := zero_or v (by omega)
    rw [Nat.zero_add]
    exact this
  unfold sgB
  rw [if_pos rfl]
  exact or_sign v hv
theorem and52 (m : Nat) (hm : m < 18446744073709551616) : Go.bits .and .u64 (m : Int) 4503599627370496 = ((m / 4503599627370496 % 2 * 4503599627370496 : Nat) : Int) := by
  have := Go.u64_and_nat m 4503599627370496 hm (by omega)
  rw [show ((4503599627370496 : Nat) : Int) = 4503599627370496 from rfl] at this
  rw [this, Go.nat_bit52]
theorem andNot52 (m : Nat) (hm : m < 18446744073709551616) (h : m / 4503599627370496 % 2 = 1) : Go.bits .andNot .u64 (m : Int) 4503599627370496 = ((m - 4503599627370496 : Nat) : Int) := by
  have := Go.u64_andNot_nat m 4503599627370496 hm (by omega)
  rw [show ((4503599627370496 : Nat) : Int) = 4503599627370496 from rfl] at this
  rw [this]
  refine congrArg Nat.cast ?_
  obtain ⟨a, ha⟩ : ∃ a, a = m / 9007199254740992 * 9007199254740992 := ⟨_, rfl⟩
  obtain ⟨b, hb⟩ : ∃ b, b = m % 4503599627370496 := ⟨_, rfl⟩
  have hm2 : m = a ||| (4503599627370496 ||| b) := by
    rw [Go.nat_join52 4503599627370496 b (by decide) (by omega), Go.nat_join53 a (4503599627370496 + b) (by omega) (by omega)]
    omega
  have hx : m - 4503599627370496 = a ||| b := by
    rw [Go.nat_join53 a b (by omega) (by omega)]
    omega
  rw [hx]
  apply Nat.eq_of_testBit_eq
  intro i
  rw [hm2, Nat.testBit_and, Nat.testBit_or, Nat.testBit_or, Nat.testBit_or]
  have hlt : ∀ j, 64 ≤ j → a.testBit j = false ∧ b.testBit j = false := by
    intro j hj
    have e : (2 : Nat) ^ 64 = 18446744073709551616 := by decide
    have h1 : 2 ^ 64 ≤ 2 ^ j := Nat.pow_le_pow_right (by decide) hj
    exact ⟨Nat.testBit_lt_two_pow (by omega), Nat.testBit_lt_two_pow (by omega)⟩
  by_cases h64 : i < 64
  · by_cases h52 : i = 52
    · subst h52
      have e1 : a.testBit 52 = false := by
        rw [Nat.testBit_eq_decide_div_mod_eq, show (2 : Nat) ^ 52 = 4503599627370496 by decide]
        rw [decide_eq_false]; omega
      have e2 : b.testBit 52 = false := by
        rw [Nat.testBit_eq_decide_div_mod_eq, show (2 : Nat) ^ 52 = 4503599627370496 by decide]
        rw [decide_eq_false]; omega
      rw [e1, e2]
      decide
    have key : ∀ i : Fin 64, i.val ≠ 52 → Nat.testBit (18446744073709551615 - 4503599627370496) i.val = true ∧ Nat.testBit 4503599627370496 i.val = false := by decide +kernel
    obtain ⟨k1, k2⟩ := key ⟨i, h64⟩ h52
    rw [k1, k2]
    simp
  obtain ⟨e1, e2⟩ := hlt i (by omega)
  rw [e1, e2]
  have : Nat.testBit (18446744073709551615 - 4503599627370496) i = false := by
    have e : (2 : Nat) ^ 64 = 18446744073709551616 := by decide
    have h1 : 2 ^ 64 ≤ 2 ^ i := Nat.pow_le_pow_right (by decide) (by omega)
    exact Nat.testBit_lt_two_pow (by omega)
  rw [this]; simp
theorem andSign (m : Nat) (hm : m < 18446744073709551616) : Go.bits .and .u64 (m : Int) 9223372036854775808 = ((m / 9223372036854775808 % 2 * 9223372036854775808 : Nat) : Int) := by
  have := Go.u64_and_nat m 9223372036854775808 hm (by omega)
  rw [show ((9223372036854775808 : Nat) : Int) = 9223372036854775808 from rfl] at this
  rw [this, Go.nat_bit63]
theorem sgB_andSign (ng : Bool) (v : Nat) (hv : v < 9223372036854775808) : Go.bits .and .u64 ((sgB ng + v : Nat) : Int) 9223372036854775808 = (sgB ng : Int) := by
  rw [andSign _ (by cases ng <;> unfold sgB <;> simp <;> omega)]
  refine congrArg Nat.cast ?_
  cases ng
  · unfold sgB; rw [if_neg (by decide)]; omega
  unfold sgB; rw [if_pos rfl]; omega
theorem word_sgB (ng : Bool) (r : Nat) : Ieee.double.word ng r = sgB ng + r := by
  rw [word_eq]; rfl
end Go.Proofs.YtjpiplplohapnaaGreatDoor
namespace Go.Proofs.YtjpiplplohapnaaGreatDoor.Nr
open Us
set_option maxRecDepth 100000 in
theorem f10_V (k : Nat) (hk : k < 23) : V (f10tab.getD k 0) = 10 ^ k * 2 ^ ex ∧ f10tab.getD k 0 < 9218868437227405312 ∧ 0 < f10tab.getD k 0 := by
  have key : ∀ k : Fin 23, V (f10tab.getD k.val 0) = 10 ^ k.val * 2 ^ ex ∧ f10tab.getD k.val 0 < 9218868437227405312 ∧ 0 < f10tab.getD k.val 0 := by decide +kernel
  exact key ⟨k, hk⟩
theorem V_big (K : Nat) (hK : K = 1152) : V 5192650370358181888 = 2 ^ 130 * 2 ^ ex := by
  have e1 : 52 + K = 130 + ex := by rw [ex_eq]; omega
  have e2 : K * 4503599627370496 + 4503599627370496 = 5192650370358181888 := by omega
  clear hK
  have h := V_form K 4503599627370496 (Or.inl ⟨by decide, by decide⟩)
  rw [e2] at h
  rw [h, show (4503599627370496 : Nat) = 2 ^ 52 by decide, ← Nat.pow_add, ← Nat.pow_add, e1]
theorem fin_of {N D r : Nat} (hD : 0 < D) (h : Near N D r) (hN : N ≤ 2 ^ 130 * 2 ^ ex * D) : r < 9218868437227405312 := by
  have hb : Near (V 5192650370358181888) 1 5192650370358181888 := near_exact (by decide) (Nat.mul_one _).symm
  have := near_mono hD (by decide) (by rw [Nat.mul_one, V_big 1152 rfl]; exact hN) h hb
  omega
theorem prod_near {a b x y r : Nat} (ha : V a = x * 2 ^ ex) (hb : V b = y * 2 ^ ex) (h : Near (V a * V b) (2 ^ ex) r) : Near (x * y * 2 ^ ex) 1 r := by
  refine near_ratio (Nat.pow_pos (by decide)) (by decide) ?_ h
  rw [ha, hb]
  generalize 2 ^ ex = z
  grind
theorem quot_near {a b x y r : Nat} (hy : 0 < y) (ha : V a = x * 2 ^ ex) (hb : V b = y * 2 ^ ex) (h : Near (V a * 2 ^ ex) (V b) r) : Near (x * 2 ^ ex) y r := by
  have hp : 0 < 2 ^ ex := Nat.pow_pos (by decide)
  refine near_ratio (by rw [hb]; exact Nat.mul_pos hy hp) hy ?_ h
  rw [ha, hb]
  generalize 2 ^ ex = z
  grind
theorem dN_pos (d k : Nat) : dN d k = d * 10 ^ k * 2 ^ ex := by unfold dN; rw [Int.toNat_natCast]
theorem dD_one (k : Nat) : dD k = 1 := by unfold dD; rw [show (-(k : Int)).toNat = 0 by omega, Nat.pow_zero]
theorem dN_neg (d k : Nat) : dN d (-(k : Int)) = d * 2 ^ ex := by unfold dN; rw [show (-(k : Int)).toNat = 0 by omega, Nat.pow_zero, Nat.mul_one]
theorem dD_neg (k : Nat) : dD (-(k : Int)) = 10 ^ k := by unfold dD; rw [Int.neg_neg, Int.toNat_natCast]
theorem p10_22 {k : Nat} (h : k < 23) : 10 ^ k ≤ 10 ^ 22 := Nat.pow_le_pow_right (by decide) (by omega)
theorem exact_mul {d k a r : Nat} (hd : d < 4503599627370496) (hk : k < 23) (ha : V a = d * 2 ^ ex) (h : Near (V a * V (f10tab.getD k 0)) (2 ^ ex) r) : Near (dN d k) (dD k) r ∧ r < 9218868437227405312 := by
  have h1 := prod_near ha (f10_V k hk).1 h
  rw [dN_pos, dD_one]
  refine ⟨h1, fin_of (by decide) h1 ?_⟩
  rw [Nat.mul_one]
  refine Nat.mul_le_mul_right _ ?_
  have h2 := Nat.mul_le_mul (Nat.le_of_lt hd) (p10_22 hk)
  omega
theorem exact_div {d k a r : Nat} (hd : d < 4503599627370496) (hk : k < 23) (ha : V a = d * 2 ^ ex) (h : Near (V a * 2 ^ ex) (V (f10tab.getD k 0)) r) : Near (dN d (-(k : Int))) (dD (-(k : Int))) r ∧ r < 9218868437227405312 := by
  have h1 := quot_near (Nat.pow_pos (by decide)) ha (f10_V k hk).1 h
  rw [dN_neg, dD_neg]
  refine ⟨h1, fin_of (Nat.pow_pos (by decide)) h1 ?_⟩
  have hp : 0 < 10 ^ k := Nat.pow_pos (by decide)
  have h2 : d * 2 ^ ex ≤ 2 ^ 130 * 2 ^ ex := Nat.mul_le_mul_right _ (by omega)
  have h3 : 2 ^ 130 * 2 ^ ex * 1 ≤ 2 ^ 130 * 2 ^ ex * 10 ^ k := Nat.mul_le_mul_left _ hp
  rw [Nat.mul_one] at h3
  exact Nat.le_trans h2 h3
theorem exact_id {d a : Nat} (hd : d < 4503599627370496) (ha : V a = d * 2 ^ ex) : Near (dN d 0) (dD 0) a ∧ a < 9218868437227405312 := by
  have h1 : Near (dN d (0 : Nat)) (dD (0 : Nat)) a := by
    rw [dN_pos, dD_one]
    exact near_exact (by decide) (by rw [ha, Nat.pow_zero, Nat.mul_one, Nat.mul_one])
  refine ⟨h1, fin_of (dD_pos _) h1 ?_⟩
  rw [dN_pos, dD_one, Nat.pow_zero, Nat.mul_one, Nat.mul_one]
  exact Nat.mul_le_mul_right _ (by omega)
theorem exact_two {d j a r : Nat} (hd : d < 4503599627370496) (hj : j < 23) (ha : V a = d * 2 ^ ex) (h : Near (V a * V (f10tab.getD j 0)) (2 ^ ex) r) (hle : V r ≤ V 4831355200913801216) :
    V r = d * 10 ^ j * 2 ^ ex ∧ d * 10 ^ j ≤ 1000000000000000 := by
  have h1 := prod_near ha (f10_V j hj).1 h
  have hC : V 4831355200913801216 = 10 ^ 15 * 2 ^ ex := (f10_V 15 (by decide)).1
  have hle2 : d * 10 ^ j ≤ 1000000000000000 := by
    rcases Nat.lt_or_ge 1000000000000000 (d * 10 ^ j) with g | g
    · exfalso
      obtain ⟨r', g1, -, -, -⟩ := rung_int 1000000000000001 (by decide)
      have g2 : Near (1000000000000001 * 2 ^ ex) 1 r' := near_exact (by decide) (by rw [g1, Nat.mul_one])
      have g3 := near_mono (by decide) (by decide) (by rw [Nat.mul_one, Nat.mul_one]; exact Nat.mul_le_mul_right _ g) g2 h1
      have g4 := V_mono g3
      rw [g1] at g4
      rw [hC] at hle
      have g5 := Nat.le_of_mul_le_mul_right (Nat.le_trans g4 hle) (Nat.pow_pos (by decide))
      omega
    exact g
  obtain ⟨r', g1, -, -, -⟩ := rung_int (d * 10 ^ j) (by omega)
  have g2 : Near (d * 10 ^ j * 2 ^ ex) 1 r' := near_exact (by decide) (by rw [g1, Nat.mul_one])
  have g3 := near_unique (by decide) (by decide) rfl h1 g2
  rw [g3]
  exact ⟨g1, hle2⟩
theorem exact_mul2 {d j a r : Nat} (hd : d * 10 ^ j ≤ 1000000000000000) (ha : V a = d * 10 ^ j * 2 ^ ex) (h : Near (V a * V (f10tab.getD 22 0)) (2 ^ ex) r) : Near (dN d ((j + 22 : Nat) : Int)) (dD ((j + 22 : Nat) : Int)) r ∧ r < 9218868437227405312 := by
  have h1 := prod_near ha (f10_V 22 (by decide)).1 h
  rw [dN_pos, dD_one, Nat.pow_add, ← Nat.mul_assoc]
  refine ⟨h1, fin_of (by decide) h1 ?_⟩
  rw [Nat.mul_one]
  refine Nat.mul_le_mul_right _ ?_
  have h2 := Nat.mul_le_mul_right (10 ^ 22) hd
  omega
theorem ten_two (a b : Nat) : 2 ^ (93 * a + 3 * b) ≤ 10 ^ (28 * a + b) := by
  rw [Nat.pow_add, Nat.pow_add, Nat.pow_mul, Nat.pow_mul, Nat.pow_mul]
  refine Nat.mul_le_mul (Nat.pow_le_pow_left (by decide) _) (Nat.pow_le_pow_left (by decide) _)
theorem V_inf2 (J K : Nat) (hJ : J = 2046) (hK : K = 1024) : V 9218868437227405312 = 2 ^ K * 2 ^ ex := by
  have e1 : 52 + J = K + ex := by rw [ex_eq]; omega
  have e2 : J * 4503599627370496 + 4503599627370496 = 9218868437227405312 := by omega
  clear hJ hK
  have h := V_form J 4503599627370496 (Or.inl ⟨by decide, by decide⟩)
  rw [e2] at h
  rw [h, show (4503599627370496 : Nat) = 2 ^ 52 by decide, ← Nat.pow_add, ← Nat.pow_add, e1]
theorem inf_of {N D r : Nat} (hD : 0 < D) (h : Near N D r) (hN : V 9218868437227405312 * D ≤ N) : 9218868437227405312 ≤ r := by
  have hb : Near (V 9218868437227405312) 1 9218868437227405312 := near_exact (by decide) (Nat.mul_one _).symm
  exact near_mono (by decide) hD (by rw [Nat.mul_one]; exact hN) hb h
theorem too_great {d : Nat} {p : Int} (h0 : d ≠ 0) (hp : 310 < p) : ∃ r, Near (dN d p) (dD p) r ∧ 9218868437227405312 ≤ r := by
  obtain ⟨k, rfl⟩ : ∃ k : Nat, p = k := ⟨p.toNat, by omega⟩
  rw [dN_pos, dD_one]
  have h := rung_near (d * 10 ^ k) 0
  have e1 : uN (d * 10 ^ k) 0 = d * 10 ^ k * 2 ^ ex := by unfold uN; rw [show ((0 : Int) + 1074).toNat = ex by rw [ex_eq]; rfl]
  have e2 : uD 0 = 1 := by unfold uD; rw [show (-1074 - (0 : Int)).toNat = 0 by decide, Nat.pow_zero]
  rw [e1, e2] at h
  refine ⟨_, h, inf_of (by decide) h ?_⟩
  obtain ⟨K, hK⟩ : ∃ K, K = 1024 := ⟨_, rfl⟩
  obtain ⟨J, hJ⟩ : ∃ J, J = 2046 := ⟨_, rfl⟩
  obtain ⟨a, ha⟩ : ∃ a, a = 11 := ⟨_, rfl⟩
  have k1 : 28 * a + 3 ≤ k := by omega
  have k2 : K ≤ 93 * a + 3 * 3 := by omega
  have k3 : 1 ≤ d := by omega
  rw [Nat.mul_one, V_inf2 J K hJ hK]
  clear hK hJ ha
  refine Nat.mul_le_mul_right _ ?_
  have t := ten_two a 3
  have t2 : 10 ^ (28 * a + 3) ≤ 10 ^ k := Nat.pow_le_pow_right (by decide) k1
  have t3 : 2 ^ K ≤ 2 ^ (93 * a + 3 * 3) := Nat.pow_le_pow_right (by decide) k2
  have t4 : 1 * 10 ^ k ≤ d * 10 ^ k := Nat.mul_le_mul_right _ k3
  rw [Nat.one_mul] at t4
  exact Nat.le_trans t3 (Nat.le_trans t (Nat.le_trans t2 t4))
theorem too_small {d : Nat} {p : Int} (hd : d < 18446744073709551616) (hp : p < -345) : Near (dN d p) (dD p) 0 := by
  obtain ⟨k, rfl⟩ : ∃ k : Nat, p = -(k : Int) := ⟨(-p).toNat, by omega⟩
  rw [dN_neg, dD_neg]
  have key : 2 * (d * 2 ^ ex) < 10 ^ k := by
    obtain ⟨a, ha⟩ : ∃ a, a = 12 := ⟨_, rfl⟩
    have k1 : 28 * a + 10 ≤ k := by omega
    have k2 : ex + 65 < 93 * a + 3 * 10 := by rw [ex_eq]; omega
    clear ha
    have t := ten_two a 10
    have t2 : 10 ^ (28 * a + 10) ≤ 10 ^ k := Nat.pow_le_pow_right (by decide) k1
    have t3 : 2 ^ (ex + 65) < 2 ^ (93 * a + 3 * 10) := Nat.pow_lt_pow_right (by decide) k2
    have t4 : 2 * (d * 2 ^ ex) ≤ 2 ^ (ex + 65) := by
      have e : 2 ^ (ex + 65) = 2 ^ ex * (2 * 18446744073709551616) := by
        rw [Nat.pow_add, show (2 : Nat) ^ 65 = 2 * 18446744073709551616 by decide]
      have := Nat.mul_le_mul_right (2 ^ ex) (Nat.le_of_lt hd)
      rw [e]
      generalize 2 ^ ex = z at *
      omega
    exact Nat.lt_of_le_of_lt t4 (Nat.lt_of_lt_of_le t3 (Nat.le_trans t t2))
  have v0 : V 0 = 0 := rfl
  have v1 : V 1 = 1 := rfl
  refine ⟨fun q hq => absurd hq (by omega), ?_⟩
  rw [v0, v1, Nat.zero_add, Nat.one_mul]
  exact ⟨Nat.le_of_lt key, fun _ => rfl⟩
theorem near_zero (D : Nat) (hD : 0 < D) : Near 0 D 0 := near_exact hD (by rw [show V 0 = 0 from rfl, Nat.zero_mul])
theorem dN_mono {a b : Nat} (h : a ≤ b) (p : Int) : dN a p ≤ dN b p := by
  unfold dN
  exact Nat.mul_le_mul_right _ (Nat.mul_le_mul_right _ h)
end Go.Proofs.YtjpiplplohapnaaGreatDoor.Nr
