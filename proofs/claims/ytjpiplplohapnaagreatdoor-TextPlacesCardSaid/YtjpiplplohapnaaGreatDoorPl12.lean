/- Part 12 of the proof: Sm, Sh, Rn, Met, Mc. -/
import Derived.Test.YtjpiplplohapnaaGreatDoorPl11
import Derived.Test.YtjpiplplohapnaaGreatDoorTie
import Derived.ProofKit
import Derived.LaidMore
import Derived.OpenShut
import Derived.Stop.Joined
import Derived.Stop.LaidErr
import Derived.Deep.DeepLaidRun
set_option linter.unusedVariables false
set_option linter.unusedSimpArgs false
namespace Go.Proofs.YtjpiplplohapnaaGreatDoor.Dc
open Nr Us
def NearS (s : St) (r : Nat) : Prop := Near (dN s.X (s.dp - s.nd)) (dD (s.dp - s.nd)) r
theorem w_ratio {s : St} {K : Nat} (hK : 0 ≤ s.dp - s.nd + K) : s.w K * 2 ^ ex * dD (s.dp - s.nd) = dN s.X (s.dp - s.nd) * 10 ^ K := by
  unfold St.w
  rcases Int.lt_or_le (s.dp - s.nd) 0 with h | h
  · obtain ⟨n, hn⟩ : ∃ n : Nat, s.dp - s.nd = -(n : Int) := ⟨(-(s.dp - s.nd)).toNat, by omega⟩
    rw [hn, dN_neg, dD_neg, show (-(n : Int) + K).toNat = K - n by omega]
    have e : (10 : Nat) ^ K = 10 ^ (K - n) * 10 ^ n := by rw [← Nat.pow_add]; congr 1; omega
    rw [e]
    generalize (10 : Nat) ^ (K - n) = a
    generalize (10 : Nat) ^ n = b
    generalize (2 : Nat) ^ ex = c
    grind
  obtain ⟨n, hn⟩ : ∃ n : Nat, s.dp - s.nd = n := ⟨(s.dp - s.nd).toNat, by omega⟩
  rw [hn, dN_pos, dD_one, show ((n : Int) + K).toNat = n + K by omega, Nat.pow_add]
  generalize (10 : Nat) ^ K = a
  generalize (10 : Nat) ^ n = b
  generalize (2 : Nat) ^ ex = c
  grind
theorem nearS_of {s : St} {K r : Nat} (hK : 0 ≤ s.dp - s.nd + K) (h : Near (s.w K * 2 ^ ex) (10 ^ K) r) : NearS s r :=
  near_ratio (Nat.pow_pos (by decide)) (dD_pos _) (w_ratio hK) h
theorem nearS_to {s : St} {K r : Nat} (hK : 0 ≤ s.dp - s.nd + K) (h : NearS s r) : Near (s.w K * 2 ^ ex) (10 ^ K) r :=
  near_ratio (dD_pos _) (Nat.pow_pos (by decide)) (w_ratio hK).symm h
theorem w_range {s : St} (hs : Weak s) {K : Nat} (hK : 0 ≤ s.dp - s.nd + K) : 10 ^ (s.dp - 1 + K).toNat ≤ s.w K ∧ s.w K < 10 ^ (s.dp + K).toNat := by
  have hpos := hs.pos
  have h1 := X_low hs
  have h2 := X_high hs
  unfold St.w
  have hp : 0 < 10 ^ (s.dp - s.nd + K).toNat := Nat.pow_pos (by decide)
  have h3 := Nat.mul_le_mul_right (10 ^ (s.dp - s.nd + K).toNat) h1
  have h4 := Nat.mul_lt_mul_of_pos_right h2 hp
  rw [← Nat.pow_add] at h3 h4
  have e1 : s.nd - 1 + (s.dp - s.nd + K).toNat = (s.dp - 1 + K).toNat := by omega
  have e2 : s.nd + (s.dp - s.nd + K).toNat = (s.dp + K).toNat := by omega
  rw [e1] at h3
  rw [e2] at h4
  exact ⟨h3, h4⟩
theorem inf_w {s : St} {K : Nat} (hK : 0 ≤ s.dp - s.nd + K) (C : Nat) (hC : C = 1024) (h : 2 ^ C * 10 ^ K ≤ s.w K) : ∀ r, NearS s r → 9218868437227405312 ≤ r := by
  intro r hr
  refine inf_of (Nat.pow_pos (by decide)) (nearS_to hK hr) ?_
  rw [V_inf2 2046 C rfl hC, Nat.mul_right_comm]
  exact Nat.mul_le_mul_right _ h
theorem fb_great {s : St} (hs : Weak s) (hdp : 310 < s.dp) (hdp2 : s.dp ≤ 1000) : ∀ r, NearS s r → 9218868437227405312 ≤ r := by
  obtain ⟨K, hK⟩ : ∃ K, K = 2000 := ⟨_, rfl⟩
  obtain ⟨C, hC⟩ : ∃ C, C = 1024 := ⟨_, rfl⟩
  have hle := hs.le
  have h1 := (w_range hs (K := K) (by omega)).1
  refine inf_w (K := K) (by omega) C hC (Nat.le_trans ?_ h1)
  obtain ⟨b, hb⟩ : ∃ b, b = 310 := ⟨_, rfl⟩
  have h2 : (2 : Nat) ^ C ≤ 10 ^ b := by
    obtain ⟨a, ha⟩ : ∃ a, a = 11 := ⟨_, rfl⟩
    have h3 := ten_two a 2
    have h4 : (10 : Nat) ^ (28 * a + 2) ≤ 10 ^ b := Nat.pow_le_pow_right (by decide) (by omega)
    have h5 : (2 : Nat) ^ C ≤ 2 ^ (93 * a + 3 * 2) := Nat.pow_le_pow_right (by decide) (by omega)
    exact Nat.le_trans h5 (Nat.le_trans h3 h4)
  have h3 : 2 ^ C * 10 ^ K ≤ 10 ^ b * 10 ^ K := Nat.mul_le_mul_right _ h2
  rw [← Nat.pow_add] at h3
  exact Nat.le_trans h3 (Nat.pow_le_pow_right (by decide) (by omega))
theorem Down.small {r : Nat} {s t : St} (h : Down r s t) : s.dp ≤ 0 → r = 0 ∧ t = s := by
  induction h with
  | nil s => intro _; exact ⟨rfl, rfl⟩
  | snoc _ hd _ _ ih =>
    intro hs
    obtain ⟨_, e⟩ := ih hs
    rw [e] at hd
    omega
theorem Upw.norm {l : Nat} {s t : St} (h : Upw l s t) (hl : 0 < l) : Norm t := by
  cases h with
  | nil => omega
  | snoc _ _ _ _ hn => exact hn
theorem two_lt {K r : Nat} (h : 2 ^ r * 10 ^ (K - 1) < 10 ^ (K + 310)) (hK : 2000 ≤ K) (C : Nat) (hC : C = 311) : 2 ^ r < 10 ^ C ∧ r < 1037 := by
  have h1 : 2 ^ r < 10 ^ C := by
    refine Nat.lt_of_mul_lt_mul_right (a := 10 ^ (K - 1)) ?_
    rw [← Nat.pow_add, show C + (K - 1) = K + 310 by omega]
    exact h
  refine ⟨h1, ?_⟩
  rcases Nat.lt_or_ge r 1037 with g | g
  · exact g
  exfalso
  obtain ⟨a, ha⟩ : ∃ a, a = 103 := ⟨_, rfl⟩
  have h2 : (10 : Nat) ^ C ≤ 2 ^ (10 * a + 7) := by
    have h3 : C = 3 * a + 2 := by omega
    rw [h3, Nat.pow_add, Nat.pow_mul, Nat.pow_add, Nat.pow_mul]
    exact Nat.mul_le_mul (Nat.pow_le_pow_left (by decide) _) (by decide)
  have h3 : (2 : Nat) ^ (10 * a + 7) ≤ 2 ^ r := Nat.pow_le_pow_right (by decide) (by omega)
  exact absurd h1 (Nat.not_lt.2 (Nat.le_trans h2 h3))
structure Told (s0 s2 : St) (r l : Nat) : Prop where
  dp : s2.dp = 0
  rr : r ≤ 1040
  ll : l ≤ 1100
  inf : l + 1025 ≤ r → ∀ R, NearS s0 R → 9218868437227405312 ≤ R
  mid : l ≤ r + 1021 → ∀ s4, LStep 53 s2 s4 → 0 ≤ s4.dp ∧ s4.dp ≤ 16 ∧ 4503599627370496 ≤ mantN s4 ∧ mantN s4 ≤ 9007199254740992 ∧ ∀ l', l' + (l + 53) = ex + r → NearS s0 (l' * 4503599627370496 + mantN s4)
  den : r + 1021 < l → r = 0 ∧ l ≤ 1089 ∧ Norm s2 ∧ ∀ s3, Rights (l - 1021) s2 s3 → Norm s3 → -100 ≤ s3.dp ∧ s3.dp ≤ 0 ∧ ∀ s4, LStep 53 s3 s4 → -100 ≤ s4.dp ∧ s4.dp ≤ 16 ∧ mantN s4 ≤ 4503599627370496 ∧ NearS s0 (mantN s4)
theorem bnd_small {K E u w C r : Nat} (hK : 2000 ≤ K) (hE : E ≤ 3200) (hn : 10 ^ (cap - 1) * u ≤ 10 ^ (cap - 1) * (w * 2 ^ r) + E * u) (hw : w < 9007199254740992 * 10 ^ K) (hr : 2 ^ r < 10 ^ C) (hC : C = 311) : 2 * (E * u) < 10 ^ (cap - 1) * 10 ^ (K - 400) := by
  have hcap := cap_eq
  have hT : 10000 ≤ 10 ^ (cap - 1) := by
    have : (10 : Nat) ^ 4 ≤ 10 ^ (cap - 1) := Nat.pow_le_pow_right (by decide) (by omega)
    exact this
  have c2 : u ≤ 2 * (w * 2 ^ r) := by
    have hTp : 0 < 10 ^ (cap - 1) := Nat.pow_pos (by decide)
    generalize 10 ^ (cap - 1) = T at *
    refine Nat.le_of_mul_le_mul_left (c := T) ?_ hTp
    generalize w * 2 ^ r = v at *
    have c3 : E * u * 2 ≤ T * u := by
      have : 2 * E * u ≤ T * u := Nat.mul_le_mul_right _ (by omega)
      have e : E * u * 2 = 2 * E * u := by grind
      omega
    have e2 : T * (2 * v) = 2 * (T * v) := by grind
    omega
  have c3 : w * 2 ^ r ≤ 9007199254740992 * 10 ^ K * 10 ^ C := Nat.mul_le_mul (Nat.le_of_lt hw) (Nat.le_of_lt hr)
  have c4 : 2 * (E * u) ≤ 2 * (3200 * (2 * (9007199254740992 * 10 ^ K * 10 ^ C))) := by
    refine Nat.mul_le_mul_left _ (Nat.mul_le_mul hE ?_)
    omega
  refine Nat.lt_of_le_of_lt c4 ?_
  have c5 : 2 * (3200 * (2 * (9007199254740992 * 10 ^ K * 10 ^ C))) = 115292150460684697600 * 10 ^ (K + C) := by
    rw [Nat.pow_add]
    generalize (10 : Nat) ^ K = x
    generalize (10 : Nat) ^ C = y
    grind
  rw [c5, ← Nat.pow_add]
  obtain ⟨D, hD⟩ : ∃ D, D = 115292150460684697600 := ⟨_, rfl⟩
  have c6 : D * 10 ^ (K + C) < 10 ^ 21 * 10 ^ (K + C) := Nat.mul_lt_mul_of_pos_right (by rw [hD]; decide) (Nat.pow_pos (by decide))
  rw [← Nat.pow_add] at c6
  rw [← hD]
  exact Nat.lt_of_lt_of_le c6 (Nat.pow_le_pow_right (by decide) (by omega))
theorem fb_down {s0 s1 s2 : St} {r l : Nat} (hs : Weak s0) (ht : s0.tr = false) (hd1 : 0 < s0.dp) (hd2 : s0.dp ≤ 310) (hnd : s0.nd ≤ 400) (h1 : Down r s0 s1) (hz : s1.dp ≤ 0) (h2 : Upw l s1 s2) (he1 : 0 ≤ s2.dp) (he2 : s2.dp = 0 → 53 ≤ s2.d 0) : Told s0 s2 r l := by
  obtain ⟨K, hK⟩ : ∃ K, K = 2000 := ⟨_, rfl⟩
  obtain ⟨C, hC⟩ : ∃ C, C = 311 := ⟨_, rfl⟩
  have hcap := cap_eq
  obtain ⟨E1, a1, a2, a3, a4⟩ := down_ap (K := K) h1 hs ht hd1 hd2 (by omega)
  have hw1 := h1.weak hs
  obtain ⟨E2, b1, b2, b3, b4⟩ := up_ap (K := K) h2 hw1 (by omega) (by omega) (Nat.pow_pos (by decide)) a1 (by omega)
  have hw2 := h2.weak hw1
  have h91 := hw1.hd9
  have h92 := hw2.hd9
  have hle1 := hw1.le
  have hle2 := hw2.le
  have hr := two_lt (K := K) (r := r) (by
    have c1 := (w_range hw1 (K := K) (by omega)).1
    have c2 := (w_range hs (K := K) (by omega)).2
    have c3 := a1.le
    rw [Nat.mul_one] at c3
    have c4 : 10 ^ (K - 1) ≤ s1.w K := Nat.le_trans (Nat.pow_le_pow_right (by decide) (by omega)) c1
    have c5 : 2 ^ r * 10 ^ (K - 1) ≤ s1.w K * 2 ^ r := by rw [Nat.mul_comm]; exact Nat.mul_le_mul_right _ c4
    have c6 : 10 ^ (s0.dp + K).toNat ≤ 10 ^ (K + 310) := Nat.pow_le_pow_right (by decide) (by omega)
    omega) (by omega) C hC
  have hww : 5 * 10 ^ (K - 1) ≤ s2.w K := by
    have c1 := hw2.lo.1
    have c2 : 5 * 10 ^ (s2.nd - 1) ≤ s2.X := Nat.le_trans (Nat.mul_le_mul_right _ (by have := he2 b2; omega)) c1
    have c3 := Nat.mul_le_mul_right (10 ^ (s2.dp - s2.nd + K).toNat) c2
    rw [Nat.mul_assoc, ← Nat.pow_add] at c3
    have := hw2.pos
    rw [show s2.nd - 1 + (s2.dp - s2.nd + K).toNat = K - 1 by omega] at c3
    exact c3
  refine ⟨b2, by omega, by omega, fun hlr => ?_, fun _ s4 hL => ?_, fun h => by omega⟩
  · obtain ⟨D, hD⟩ : ∃ D, D = 1024 := ⟨_, rfl⟩
    refine inf_w (K := K) (by omega) D hD ?_
    have c1 := b1.le
    have c2 := Nat.mul_le_mul_right (2 ^ r) hww
    have e1 : (10 : Nat) ^ K = 10 * 10 ^ (K - 1) := by rw [Nat.mul_comm, ← Nat.pow_succ]; congr 1; omega
    refine Nat.le_of_mul_le_mul_right ?_ (Nat.pow_pos (a := 2) (n := l + 1) (by decide))
    have c3 : 2 ^ D * 2 ^ (l + 1) ≤ 2 ^ r := by rw [← Nat.pow_add]; exact Nat.pow_le_pow_right (by decide) (by omega)
    have c4 : 2 ^ D * 10 ^ K * 2 ^ (l + 1) = 2 ^ D * 2 ^ (l + 1) * 10 ^ K := Nat.mul_right_comm _ _ _
    have c5 := Nat.mul_le_mul_right (10 ^ K) c3
    have c6 : 2 ^ r * 10 ^ K = 2 * (5 * 10 ^ (K - 1) * 2 ^ r) := by rw [e1]; grind
    have c7 : s0.w K * 2 ^ (l + 1) = 2 * (s0.w K * 2 ^ l) := by rw [Nat.pow_succ]; grind
    rw [c4, c7]
    omega
  obtain ⟨⟨L, hq⟩, hn⟩ := left_q hw2 hL
  obtain ⟨d1, d2, d3, d4, d5⟩ := left53 hw2 b2 (he2 b2) hq hn (K := K) (by omega)
  obtain ⟨m1, m2⟩ := mant_range hn (by omega) d1 d3 d4
  have hc := left_cut (K := K) hw2 hn hq (by omega) (by omega)
  have hA := b1.step (c' := 200 - l - 53) hc (Nat.pow_pos (by decide)) (Nat.pow_pos (by decide)) (by omega) (by omega) (by
    have e : K - (200 - l - 53) = K - (200 - l) + 53 := by omega
    rw [e, Nat.one_mul, Nat.pow_add, Nat.mul_comm]
    exact Nat.mul_dvd_mul_left _ (by decide)) (by decide)
  rw [Nat.mul_one, ← Nat.pow_add] at hA
  have hg : 10 ^ (K - 400) ∣ s0.w K := by
    unfold St.w
    exact Nat.dvd_trans (Nat.pow_dvd_pow 10 (by omega)) (Nat.dvd_mul_left _ _)
  have hbnd := bnd_small (K := K) (by omega) (show E2 + 1 ≤ 3200 by omega) hA.near d4 hr.1 hC
  have hrhe := gap_rhe hA hn (by omega) d1 (Nat.pow_pos (by decide)) (by omega) (by omega) hg hbnd
  refine ⟨d1, d2, m1, m2, fun l' hl' => nearS_of (K := K) (by omega) (near_fin hrhe hl' (Or.inl ⟨m1, m2, ?_⟩))⟩
  have c1 := hA.le
  have c2 := Nat.mul_le_mul_right (2 ^ r) d3
  rw [Nat.mul_assoc] at c2
  exact Nat.le_trans c2 c1
theorem left_same {s t : St} (hs : Weak s) (ht : s.tr = false) {k L K : Nat} (h : LQ s t k L) (hn : Norm t) (hL : L ≤ 800) (hK : 800 ≤ t.dp + K) (hK2 : 0 ≤ s.dp - s.nd + K) : t.tr = false ∧ t.w K = s.w K * 2 ^ k := by
  have hcap := cap_eq
  have htr : t.tr = false := by
    rw [h.tr, ht, Bool.false_or]
    have e : (10 : Nat) ^ cap = 10 ^ (cap - L) * 10 ^ L := by rw [← Nat.pow_add]; congr 1; omega
    rw [e, ← Nat.mul_assoc, Nat.mul_mod_left]
    simp
  have := ((left_cut (K := K) hs hn h hK hK2).ex htr).2
  rw [Nat.mul_one] at this
  exact ⟨htr, this⟩
theorem no_ten {s : St} (hs : Norm s) : s.X % 10 ≠ 0 := by
  obtain ⟨j, hj⟩ : ∃ j, s.nd = j + 1 := ⟨s.nd - 1, by have := hs.pos; omega⟩
  have h4 : s.X = 10 * N (dig s.d s.nd) j + (s.d j - 48) := by
    unfold St.X
    conv => lhs; arg 2; rw [hj]
    rw [N_succ]
    congr 1
    unfold dig
    rw [if_pos (by omega)]
  have h5 := hs.last
  rw [show s.nd - 1 = j by omega] at h5
  have h6 := hs.dgs j (by omega)
  omega
theorem right_same {s t : St} (hs : Weak s) (ht : s.tr = false) {k r0 K : Nat} (h : RQ s t k r0) (hn : Norm t) (hb : s.nd + k ≤ r0 + 799) (hK : 800 ≤ t.dp + K) : t.tr = false ∧ t.w K * 2 ^ k = s.w K ∧ t.nd + r0 ≤ s.nd + k + 1 := by
  have hcap := cap_eq
  have e : (10 : Nat) ^ (r0 + 799 - s.nd) = 2 ^ k * (5 ^ k * 10 ^ (r0 + 799 - s.nd - k)) := by
    rw [← Nat.mul_assoc, ← Nat.mul_pow, ← Nat.pow_add]; congr 1; omega
  have hp : 0 < 2 ^ k := Nat.pow_pos (by decide)
  have e2 : s.X * 10 ^ (r0 + 799 - s.nd) = 2 ^ k * (s.X * (5 ^ k * 10 ^ (r0 + 799 - s.nd - k))) := by
    rw [e]
    generalize 5 ^ k * 10 ^ (r0 + 799 - s.nd - k) = y
    grind
  have htr : t.tr = false := by
    rw [h.tr, ht, Bool.false_or, e2, Nat.mul_mod_right]
    simp
  have h1 := ((right_cut (K := K) hs hn h hK).ex htr).2
  rw [Nat.mul_one] at h1
  refine ⟨htr, h1, ?_⟩
  have htle := hn.le
  rcases Nat.lt_or_ge (s.nd + k + 1) (t.nd + r0) with g | g
  · exfalso
    have hv := h.val
    rw [e2, Nat.mul_div_cancel_left _ hp] at hv
    obtain ⟨j, hj⟩ : ∃ j, r0 + 799 - s.nd - k = (cap - t.nd) + (j + 1) := ⟨r0 + 799 - s.nd - k - (cap - t.nd) - 1, by omega⟩
    rw [hj, Nat.pow_add] at hv
    have hv2 : t.X * 10 ^ (cap - t.nd) = s.X * 5 ^ k * 10 ^ (j + 1) * 10 ^ (cap - t.nd) := by
      rw [hv]
      generalize (10 : Nat) ^ (cap - t.nd) = x
      generalize (10 : Nat) ^ (j + 1) = y
      generalize (5 : Nat) ^ k = z
      grind
    have hv3 := Nat.eq_of_mul_eq_mul_right (Nat.pow_pos (by decide)) hv2
    apply no_ten hn
    rw [hv3, Nat.pow_succ, ← Nat.mul_assoc, Nat.mul_mod_left]
  exact g
theorem up_same {K l : Nat} {s t : St} (h : Upw l s t) : Weak s → s.tr = false → s.dp ≤ 0 → -400 ≤ s.dp → s.nd - s.dp ≤ 730 → 2000 ≤ K → t.tr = false ∧ t.w K = s.w K * 2 ^ l ∧ t.dp ≤ 0 ∧ s.dp ≤ t.dp ∧ t.nd - t.dp ≤ 730 := by
  induction h with
  | nil s => intro hs htr hd hd2 hF hK; exact ⟨htr, by rw [Nat.pow_zero, Nat.mul_one], hd, Int.le_refl _, hF⟩
  | @snoc l s t u hU hd h5 hL hn ih =>
    intro hs htr hd1 hd2 hF hK
    obtain ⟨a1, a2, a3, a4, a5⟩ := ih hs htr hd1 hd2 hF hK
    have hw := hU.weak hs
    obtain ⟨⟨L, hq⟩, -⟩ := left_q hw hL
    obtain ⟨g0, g1, g2, -⟩ := left_tab hw hd h5 hq
    have hle := hw.le
    obtain ⟨b1, b2⟩ := left_same (K := K) hw a1 hq hn (by omega) (by omega) (by omega)
    have hdp := hq.dp
    have hnd := hq.nd
    have hwide := hq.wide
    refine ⟨b1, ?_, g1, by omega, by omega⟩
    rw [b2, a2, Nat.mul_assoc, ← Nat.pow_add]
theorem lead_low {s : St} (hs : Weak s) {k r0 : Nat} (h : Lead (dig s.d s.nd) (2 ^ k) r0) (j m : Nat) (hm : m ≤ k) (hj : 10 ^ j < 2 ^ m) : j + 1 ≤ r0 := by
  rcases Nat.lt_or_ge j r0 with g | g
  · exact g
  exfalso
  have h1 := h.hi
  have h2 := N_lt hs.dig9 r0
  have h3 : (10 : Nat) ^ r0 ≤ 10 ^ j := Nat.pow_le_pow_right (by decide) g
  have h4 : (2 : Nat) ^ m ≤ 2 ^ k := Nat.pow_le_pow_right (by decide) hm
  omega
theorem rights_same {n : Nat} {s t : St} (hs : Norm s) (ht : s.tr = false) (hd : s.dp = 0) (hnd : s.nd ≤ 730) (hn1 : 1 ≤ n) (hn : n ≤ 68) (h : Rights n s t) (hnt : Norm t) {K : Nat} (hK : 2000 ≤ K) :
    t.tr = false ∧ t.w K * 2 ^ n = s.w K ∧ t.nd ≤ 780 ∧ -100 ≤ t.dp ∧ t.dp ≤ 0 := by
  cases h with
  | one _ hk hst =>
    obtain ⟨⟨r0, hq⟩, -⟩ := right_q hs.weak hk hst
    have hr1 := hq.r1
    have hr2 := hq.r20
    have hdp := hq.dp
    obtain ⟨a1, a2, a3⟩ := right_same (K := K) hs.weak ht hq hnt (by omega) (by omega)
    refine ⟨a1, a2, ?_, by omega, by omega⟩
    by_cases h44 : 44 ≤ n
    · have := lead_low hs.weak hq.lead 13 44 h44 (by decide)
      omega
    omega
  | @more k _ t1 _ hk1 hst hn1' hr =>
    obtain ⟨⟨r0, hq⟩, -⟩ := right_q hs.weak (by decide) hst
    have hr1 := hq.r1
    have hr2 := hq.r20
    have hdp := hq.dp
    obtain ⟨a1, a2, a3⟩ := right_same (K := K) hs.weak ht hq hn1' (by omega) (by omega)
    have h19 := lead_low hs.weak hq.lead 18 60 (Nat.le_refl _) (by decide)
    generalize k = kk at *
    cases hr with
    | one _ hk hst2 =>
      obtain ⟨⟨r1, hq2⟩, -⟩ := right_q hn1'.weak hk hst2
      have hs1 := hq2.r1
      have hs2 := hq2.r20
      have hdp2 := hq2.dp
      obtain ⟨b1, b2, b3⟩ := right_same (K := K) hn1'.weak a1 hq2 hnt (by omega) (by omega)
      refine ⟨b1, ?_, by omega, by omega, by omega⟩
      rw [Nat.pow_add, ← Nat.mul_assoc, b2, a2]
    | more _ _ _ _ => omega
theorem fb_up {s0 s2 : St} {l : Nat} (hs : Weak s0) (ht : s0.tr = false) (hd1 : s0.dp ≤ 0) (hd2 : -326 ≤ s0.dp) (hnd : s0.nd - s0.dp ≤ 730) (h2 : Upw l s0 s2) (he1 : 0 ≤ s2.dp) (he2 : s2.dp = 0 → 53 ≤ s2.d 0) : Told s0 s2 0 l := by
  obtain ⟨K, hK⟩ : ∃ K, K = 2000 := ⟨_, rfl⟩
  obtain ⟨C, hC⟩ : ∃ C, C = 327 := ⟨_, rfl⟩
  have hcap := cap_eq
  obtain ⟨a1, a2, a3, a4, a5⟩ := up_same (K := K) h2 hs ht hd1 (by omega) hnd (by omega)
  have hd : s2.dp = 0 := by omega
  have hw2 := h2.weak hs
  have h92 := hw2.hd9
  have hle0 := hs.le
  have hle2 := hw2.le
  have hll : l < 1090 := by
    have c1 := (w_range hs (K := K) (by omega)).1
    have c2 := (w_range hw2 (K := K) (by omega)).2
    rw [a2, show (s2.dp + K).toNat = K by omega] at c2
    have c3 : 10 ^ (K - C) ≤ s0.w K := Nat.le_trans (Nat.pow_le_pow_right (by decide) (by omega)) c1
    have c4 : 2 ^ l < 10 ^ C := by
      refine Nat.lt_of_mul_lt_mul_left (a := 10 ^ (K - C)) ?_
      rw [← Nat.pow_add, show K - C + C = K by omega]
      exact Nat.lt_of_le_of_lt (Nat.mul_le_mul_right _ c3) c2
    rcases Nat.lt_or_ge l 1090 with g | g
    · exact g
    exfalso
    obtain ⟨a, ha⟩ : ∃ a, a = 109 := ⟨_, rfl⟩
    have c5 : (10 : Nat) ^ C ≤ 2 ^ (10 * a) := by
      have c6 : C = 3 * a := by omega
      rw [c6, Nat.pow_mul, Nat.pow_mul]
      exact Nat.pow_le_pow_left (by decide) _
    have c6 : (2 : Nat) ^ (10 * a) ≤ 2 ^ l := Nat.pow_le_pow_right (by decide) (by omega)
    exact absurd c4 (Nat.not_lt.2 (Nat.le_trans c5 c6))
  refine ⟨hd, by omega, by omega, fun h => by omega, fun hl s4 hL => ?_, fun hl => ⟨rfl, by omega, h2.norm (by omega), fun s3 hR hn3 => ?_⟩⟩
  · obtain ⟨⟨L, hq⟩, hn⟩ := left_q hw2 hL
    obtain ⟨d1, d2, d3, d4, d5⟩ := left53 hw2 hd (he2 hd) hq hn (K := K) (by omega)
    obtain ⟨m1, m2⟩ := mant_range hn (by omega) d1 d3 d4
    obtain ⟨b1, b2⟩ := left_same (K := K) hw2 a1 hq hn (by omega) (by omega) (by omega)
    have hrhe := mant_rhe hn b1 (K := K) (by omega) (by omega)
    have e1 : s4.w K = s0.w K * 2 ^ (l + 53) := by rw [b2, a2, Nat.mul_assoc, ← Nat.pow_add]
    rw [e1] at hrhe d3
    have e2 : (10 : Nat) ^ K = 10 ^ K * 2 ^ 0 := by rw [Nat.pow_zero, Nat.mul_one]
    rw [e2] at hrhe
    refine ⟨d1, d2, m1, m2, fun l' hl' => nearS_of (K := K) (by omega) (near_fin hrhe hl' (Or.inl ⟨m1, m2, ?_⟩))⟩
    rw [← e2]; exact d3
  obtain ⟨c1, c2, c3, c4, c5⟩ := rights_same (h2.norm (by omega)) a1 hd (by omega) (by omega) (by omega) hR hn3 (K := K) (by omega)
  refine ⟨c4, c5, fun s4 hL => ?_⟩
  obtain ⟨⟨L, hq⟩, hn⟩ := left_q hn3.weak hL
  have hX := X_high hn3.weak
  have hlo := hq.lo
  have hwide := hq.wide
  have hdp := hq.dp
  have hL16 : L ≤ s3.nd + 16 := by
    rcases Nat.lt_or_ge (s3.nd + 16) L with g | g
    · exfalso
      have h1 : (10 : Nat) ^ (s3.nd + 16) ≤ 10 ^ (L - 1) := Nat.pow_le_pow_right (by decide) (by omega)
      have h2 : s3.X * 2 ^ 53 < 10 ^ (s3.nd + 16) := by
        rw [Nat.pow_add]
        exact Nat.lt_of_lt_of_le (Nat.mul_lt_mul_of_pos_right hX (by decide)) (Nat.mul_le_mul_left _ (by decide))
      omega
    exact g
  obtain ⟨b1, b2⟩ := left_same (K := K) hn3.weak c1 hq hn (by omega) (by omega) (by omega)
  have hrhe := rhe_scale' (2 ^ (l - 1021)) (Nat.pow_pos (by decide)) (mant_rhe hn b1 (K := K) (by omega) (by omega))
  have e1 : s4.w K * 2 ^ (l - 1021) = s0.w K * 2 ^ (l + 53) := by
    rw [b2, Nat.mul_right_comm, c2, a2, Nat.mul_assoc, ← Nat.pow_add]
  rw [e1] at hrhe
  have hsmall : mantN s4 ≤ 4503599627370496 := by
    by_cases h0 : s4.dp < 0
    · unfold mantN; rw [if_pos h0]; decide
    refine (mant_range hn (K := K) (a := 0) (b := 4503599627370496) (by omega) (by omega) (by omega) ?_).2
    have g1 := (w_range hw2 (K := K) (by omega)).2
    rw [show (s2.dp + K).toNat = K by omega] at g1
    have g2 : 2 ^ 1 ≤ 2 ^ (l - 1021) := Nat.pow_le_pow_right (by decide) (by omega)
    have g3 : s3.w K * 2 ^ 1 ≤ s3.w K * 2 ^ (l - 1021) := Nat.mul_le_mul_left _ g2
    have h53 : (2 : Nat) ^ 53 = 9007199254740992 := by decide
    rw [b2, h53]
    omega
  refine ⟨by omega, by omega, hsmall, ?_⟩
  have hfin := near_fin (l := 0) hrhe (by rw [ex_eq]; omega) (Or.inr ⟨rfl, by omega⟩)
  rw [Nat.zero_mul, Nat.zero_add] at hfin
  exact nearS_of (K := K) (by omega) hfin
theorem fb_told {s0 s1 s2 : St} {r l : Nat} (hs : Weak s0) (ht : s0.tr = false) (hd1 : -326 ≤ s0.dp) (hd2 : s0.dp ≤ 310) (hnd : s0.nd ≤ 400) (h1 : Down r s0 s1) (hz : s1.dp ≤ 0) (h2 : Upw l s1 s2) (he1 : 0 ≤ s2.dp) (he2 : s2.dp = 0 → 53 ≤ s2.d 0) : Told s0 s2 r l := by
  by_cases h : 0 < s0.dp
  · exact fb_down hs ht h hd2 hnd h1 hz h2 he1 he2
  obtain ⟨rfl, rfl⟩ := h1.small (by omega)
  exact fb_up hs ht (by omega) hd1 (by omega) h2 he1 he2
end Go.Proofs.YtjpiplplohapnaaGreatDoor.Dc
namespace Go.Proofs.YtjpiplplohapnaaGreatDoor
open Go.RowKit Go.Proofs.YtjpiplplohapnaaGreatDoorW.PrintWords Dc
def Sh1 (g B : Nat) (ng : Bool) (s : St) (R : St → Prop) (w : World) (e : Ending) (w' : World) : Prop := e = .returned (.tuple #[]) ∧ Below B w w' ∧ ∃ t, R t ∧ Norm t ∧ t.is w' g ng ∧ s.dp - 19 ≤ t.dp ∧ t.dp ≤ s.dp + 19
theorem right_step1 (w : World) (g B : Nat) (hB : B ≤ g) (s : St) (hs : Weak s) (ng : Bool) (k : Nat) (hk1 : 1 ≤ k) (hk : k ≤ 60) (hdp1 : -100000 ≤ s.dp) (hdp2 : s.dp ≤ 100000) (h : s.is w g ng) :
    Calls Tryz.prog 169 #[.pointer (some ⟨g, 0, none⟩), .int .u64 k] w (Sh1 g B ng s (RStep k s) w) := by
  refine (rightShift_walk w g B hB s.d s.nd k s.dp ng s.tr hk1 hk hs.pos hs.le hdp1 hdp2 hs.dgs hs.first h).mono fun e w' ⟨h1, h2, d', r0, T, W, h3, h4⟩ => ⟨h1, h2, ?_⟩
  have hst : RStep k s ⟨d', tl d' W, s.dp - ((r0 : Int) - 1), s.tr || lost (dig s.d s.nd) (2 ^ k) r0 (T - r0)⟩ := ⟨r0, T, W, h3, rfl, rfl, rfl⟩
  have hn := (right_q hs hk hst).2
  have h1 := h3.lead.one
  have h20 := h3.lead.le20 hs.dig0 (two60 hk)
  have hz : dpz (tl d' W) (s.dp - ((r0 : Int) - 1)) = s.dp - ((r0 : Int) - 1) := by unfold dpz; rw [if_neg (Nat.ne_of_gt hn.pos)]
  rw [hz] at h4
  exact ⟨_, hst, hn, h4, by show s.dp - 19 ≤ s.dp - ((r0 : Int) - 1); omega, by show s.dp - ((r0 : Int) - 1) ≤ s.dp + 19; omega⟩
theorem left_step1 (w : World) (hC : Cheats w) (g B : Nat) (hB : B ≤ g) (s : St) (hs : Weak s) (ng : Bool) (k : Nat) (hk1 : 1 ≤ k) (hk : k ≤ 60) (hdp1 : -100000 ≤ s.dp) (hdp2 : s.dp ≤ 100000) (h : s.is w g ng) :
    Calls Tryz.prog 168 #[.pointer (some ⟨g, 0, none⟩), .int .u64 k] w (Sh1 g B ng s (LStep k s) w) := by
  refine (leftShift_walk w hC g B hB s.d s.nd k s.dp ng s.tr hk1 hk hs.pos hs.le hdp1 hdp2 hs.dgs hs.first h).mono fun e w' ⟨h1, h2, d', L, W, h3, h4⟩ => ⟨h1, h2, ?_⟩
  have hst : LStep k s ⟨d', tl d' W, s.dp + ((L - s.nd : Nat) : Int), s.tr || lostL (N (dig s.d s.nd) s.nd * 2 ^ k) L L⟩ := ⟨L, W, h3, rfl, rfl, rfl⟩
  have hn := (left_q hs hst).2
  have hwd := h3.wide
  have hz : dpz (tl d' W) (s.dp + ((L - s.nd : Nat) : Int)) = s.dp + ((L - s.nd : Nat) : Int) := by unfold dpz; rw [if_neg (Nat.ne_of_gt hn.pos)]
  rw [hz] at h4
  exact ⟨_, hst, hn, h4, by show s.dp - 19 ≤ s.dp + ((L - s.nd : Nat) : Int); omega, by show s.dp + ((L - s.nd : Nat) : Int) ≤ s.dp + 19; omega⟩
set_option maxRecDepth 100000 in
set_option maxHeartbeats 1000000 in
theorem shift_left1 (w : World) (g B : Nat) (hB : B ≤ g) (hC : Cheats w) (s : St) (hs : Weak s) (ng : Bool) (k : Nat) (hk1 : 1 ≤ k) (hk : k ≤ 60) (hdp1 : -50000 ≤ s.dp) (hdp2 : s.dp ≤ 50000) (h : s.is w g ng) :
    Calls Tryz.prog 129 #[.pointer (some ⟨g, 0, none⟩), .int .i64 k] w (Sh1 g B ng s (LStep k s) w) := by
  have cnd : w.cell? ⟨g, 800, none⟩ = some (.int .i64 (s.nd : Nat)) := IsDec.cnd h
  have HC := Lib.hid (left_step1 w hC g B hB s hs ng k hk1 hk (by omega) (by omega) h)
  have f0 : (((s.nd : Nat) : Int) == 0) = false := by have := hs.pos; simp; omega
  have f1 : (0 : Int) < k := by omega
  have f2 : decide ((0 : Int) < (k : Int)) = true := decide_eq_true f1
  have f3 : decide (0 < k) = true := decide_eq_true (by omega)
  have g1 : ¬ (60 : Int) < k := by omega
  have g2 : decide ((60 : Int) < (k : Int)) = false := decide_eq_false g1
  have w1 : IntKind.u64.wrap (k : Int) = (k : Int) := by rw [Go.IntKind.wrap_u64]; omega
  clear h hs hdp1 hdp2 hC
  go_enter Tryz.func129, Tryz.ntmps129
  go_wp2_with fail
  go_loopg [1] 1 (fun gn v1 w' => v1 = .int .i64 k ∧ w = w')
  case atStart => exact ⟨rfl, rfl⟩
  case round =>
    obtain ⟨rfl, hww⟩ := hrel
    obtain rfl := hww.symm
    clear hww
    go_wp2_with fail
    refine HC.out.mono ?_
    rintro e w2 ⟨rfl, h2⟩
    have H2 := Lib.hid h2
    clear h2 HC
    go_wp2_with fail
    go_end0
    exact ⟨rfl, H2.out⟩
set_option maxRecDepth 100000 in
set_option maxHeartbeats 1000000 in
theorem shift_right1 (w : World) (g B : Nat) (hB : B ≤ g) (s : St) (hs : Weak s) (ng : Bool) (k : Nat) (hk1 : 1 ≤ k) (hk : k ≤ 60) (hdp1 : -50000 ≤ s.dp) (hdp2 : s.dp ≤ 50000) (h : s.is w g ng) :
    Calls Tryz.prog 129 #[.pointer (some ⟨g, 0, none⟩), .int .i64 (-(k : Int))] w (Sh1 g B ng s (RStep k s) w) := by
  have cnd : w.cell? ⟨g, 800, none⟩ = some (.int .i64 (s.nd : Nat)) := IsDec.cnd h
  have HC := Lib.hid (right_step1 w g B hB s hs ng k hk1 hk (by omega) (by omega) h)
  have f0 : (((s.nd : Nat) : Int) == 0) = false := by have := hs.pos; simp; omega
  obtain ⟨m, hm⟩ : ∃ m : Int, m = -(k : Int) := ⟨_, rfl⟩
  have f1 : ¬ (0 : Int) < m := by omega
  have f2 : decide ((0 : Int) < m) = false := decide_eq_false f1
  have f3 : m < 0 := by omega
  have f4 : decide (m < 0) = true := decide_eq_true f3
  have g1 : ¬ m < -60 := by omega
  have g2 : decide (m < -60) = false := decide_eq_false g1
  have w0 : IntKind.i64.wrap (0 - m) = (k : Int) := by rw [Go.IntKind.wrap_i64]; omega
  have w2 : wrap64 (0 - m) = (k : Int) := by unfold wrap64; omega
  have w3 : wrap64 (-m) = (k : Int) := by unfold wrap64; omega
  have w4 : IntKind.i64.wrap (-m) = (k : Int) := by rw [Go.IntKind.wrap_i64]; omega
  have w1 : IntKind.u64.wrap (k : Int) = (k : Int) := by rw [Go.IntKind.wrap_u64]; omega
  rw [← hm]
  clear h hs hdp1 hdp2 hm
  go_enter Tryz.func129, Tryz.ntmps129
  go_wp2_with fail
  go_loopg [1] 1 (fun gn v1 w' => v1 = .int .i64 m ∧ w = w')
  case atStart => exact ⟨rfl, rfl⟩
  case round =>
    obtain ⟨rfl, hww⟩ := hrel
    obtain rfl := hww.symm
    clear hww
    go_wp2_with fail
    refine HC.out.mono ?_
    rintro e w2 ⟨rfl, h2⟩
    have H2 := Lib.hid h2
    clear h2 HC
    go_wp2_with fail
    go_end0
    exact ⟨rfl, H2.out⟩
end Go.Proofs.YtjpiplplohapnaaGreatDoor
namespace Go.Proofs.YtjpiplplohapnaaGreatDoor
open Go.RowKit Go.Proofs.YtjpiplplohapnaaGreatDoorW.PrintWords Dc
set_option maxRecDepth 100000 in
set_option maxHeartbeats 1500000 in
theorem rounded_neg (w : World) (g : Nat) (s : St) (ng : Bool) (hp : s.dp < 0) (hp2 : -1000000 ≤ s.dp) (h : s.is w g ng) :
    Calls Tryz.prog 185 #[.pointer (some ⟨g, 0, none⟩)] w fun e w' => e = .returned (.int .u64 0) ∧ ∃ n, w' = w.drewN n := by
  have cdp : w.cell? ⟨g, 801, none⟩ = some (.int .i64 s.dp) := IsDec.cdp h
  have HU := Lib.hid (fun m => up_neg (w.drewN m) g s ng s.dp hp (h.drewN m))
  generalize s.dp = p at *
  have f1 : ¬ (20 : Int) < p := by omega
  have f2 : decide ((20 : Int) < p) = false := decide_eq_false f1
  have f3 : ¬ (0 : Int) < p := by omega
  have f4 : decide ((0 : Int) < p) = false := decide_eq_false f3
  clear h
  go_enter Tryz.func185, Tryz.ntmps185
  go_upto_block 0 with (fail)
  go_cut [3, 4] (fun v3 v4 w' => v3 = .int .i64 0 ∧ v4 = .int .u64 0 ∧ w = w')
  case first =>
    go_wp2_with fail
    go_loopg [3, 4] 1 (fun gn v3 v4 w' => v3 = .int .i64 0 ∧ v4 = .int .u64 0 ∧ w = w')
    case atStart => exact ⟨rfl, rfl, rfl⟩
    case round =>
      obtain ⟨rfl, rfl, hww⟩ := hrel
      subst hww
      go_wp2_with fail
      go_meet
      case rel => exact ⟨rfl, rfl, rfl⟩
  obtain ⟨rfl, rfl, hww⟩ := hcut
  subst hww
  go_step
  go_wp2_with fail
  go_loopg [3, 4] 1 (fun gn v3 v4 w' => v3 = .int .i64 0 ∧ v4 = .int .u64 0 ∧ w = w')
  case atStart => exact ⟨rfl, rfl, rfl⟩
  case round =>
    obtain ⟨rfl, rfl, hww⟩ := hrel
    subst hww
    go_wp2_with fail
    refine (HU.out 0).mono ?_
    rintro e w' ⟨rfl, hww⟩
    obtain rfl := hww.symm
    clear hww HU
    go_wp2_with fail
    go_ret
    exact ⟨rfl, 0, rfl⟩
theorem rounded_all (w : World) (g : Nat) (s : St) (hs : Norm s) (ng : Bool) (hp : s.dp ≤ 18) (hp2 : -1000000 ≤ s.dp) (h : s.is w g ng) :
    Calls Tryz.prog 185 #[.pointer (some ⟨g, 0, none⟩)] w fun e w' => e = .returned (.int .u64 ((mantN s : Nat) : Int)) ∧ ∃ n, w' = w.drewN n := by
  unfold mantN
  by_cases h0 : s.dp < 0
  · rw [if_pos h0]
    exact rounded_neg w g s ng h0 hp2 h
  rw [if_neg h0]
  exact rounded_walk w g s hs ng s.dp.toNat (by omega) (by omega) h
structure OutF (x0 E : Nat) : Prop where
  a1 : Go.bits .and .i64 (E : Int) 2047 = (E : Int)
  a2 : IntKind.u64.wrap (E : Int) = (E : Int)
  a3 : IntKind.u64.wrap ((E : Int) * 4503599627370496) = ((E * 4503599627370496 : Nat) : Int)
  a4 : Go.bits .or .u64 (x0 : Int) ((E * 4503599627370496 : Nat) : Int) = ((E * 4503599627370496 + x0 : Nat) : Int)
  a5 : Go.bits .or .u64 ((E * 4503599627370496 + x0 : Nat) : Int) 9223372036854775808 = ((9223372036854775808 + (E * 4503599627370496 + x0) : Nat) : Int)
set_option maxRecDepth 100000 in
theorem and2047e : ∀ E : Fin 2048, Go.bits .and .i64 (E.val : Int) 2047 = (E.val : Int) := by decide +kernel
theorem out_facts (x0 E : Nat) (hx : x0 < 4503599627370496) (hE : E < 2048) : OutF x0 E := by
  obtain ⟨z, hz⟩ : ∃ z, z = E * 4503599627370496 := ⟨_, rfl⟩
  refine ⟨and2047e ⟨E, hE⟩, by rw [Go.IntKind.wrap_u64]; omega, by rw [Go.IntKind.wrap_u64]; omega, ?_, ?_⟩
  · rw [← hz, Go.u64_or_nat x0 z (by omega) (by omega), Nat.or_comm, Go.nat_join 52 z x0 (by rw [hz]; exact Nat.mul_mod_left _ _) hx]
  obtain ⟨y, hy⟩ : ∃ y, y = E * 4503599627370496 + x0 := ⟨_, rfl⟩
  rw [← hy]
  have := Go.u64_or_nat y 9223372036854775808 (by omega) (by omega)
  rw [show ((9223372036854775808 : Nat) : Int) = 9223372036854775808 from rfl] at this
  rw [this, Nat.or_comm, Go.nat_join 63 9223372036854775808 y (by decide) (by omega)]
theorem and_low52 (M : Nat) (h : M < 18446744073709551616) : Go.bits .and .u64 (M : Int) 4503599627370495 = ((M % 4503599627370496 : Nat) : Int) := by
  have := Go.u64_and_nat M 4503599627370495 (by omega) (by omega)
  rw [show ((4503599627370495 : Nat) : Int) = 4503599627370495 from rfl] at this
  rw [this]
  exact congrArg _ (Nat.and_two_pow_sub_one_eq_mod M 52)
end Go.Proofs.YtjpiplplohapnaaGreatDoor
namespace Go.Proofs.YtjpiplplohapnaaGreatDoor
open Go.ChangeShapes Go.WideShapes Go.ChangeAt Go.RowKit
abbrev laidL : List (String × DataW Unit) := Rows.textIntsRow.laid
theorem laid_at {P : Program} {w : World} : ∀ {l : List (String × DataW Unit)} {ps : List MemPlace}, DataW.LaidVars P w l ps → ∀ {n : String} {d : DataW Unit}, (n, d) ∈ l →
    ∃ g t cs fuel p, P.globalNamed n = some g ∧ (P.globals[g]?).map (·.type) = some t ∧ w.var? P n = some cs ∧ DataW.trod (fun _ => ()) P w 0 (fun _ => true) false fuel t cs.toList = some (d, p)
  | [], _, _, _, _, hm => by cases hm
  | (m, e) :: r, ps, h, n, d, hm => by
    obtain ⟨g, t, cs, fuel, p, q, h1, h2, h3, h4, h5, _⟩ := h
    rcases List.mem_cons.1 hm with he | hm
    · cases he; exact ⟨g, t, cs, fuel, p, h1, h2, h3, h4⟩
    exact laid_at h5 hm
theorem laid_at' {P : Program} {w : World} {l : List (String × DataW Unit)} (h : laidMet P l w) {n : String} {d : DataW Unit} (hm : (n, d) ∈ l) {g : Nat} {t : TypeId} (hg : P.globalNamed n = some g) (ht : (P.globals[g]?).map (·.type) = some t) :
    ∃ cs fuel p, w.var? P n = some cs ∧ DataW.trod (fun _ => ()) P w 0 (fun _ => true) false fuel t cs.toList = some (d, p) := by
  obtain ⟨ps, hv, -, -⟩ := h
  obtain ⟨g', t', cs, fuel, p, h1, h2, h3, h4⟩ := laid_at hv hm
  obtain rfl := Option.some.inj (hg.symm.trans h1)
  obtain rfl := Option.some.inj (ht.symm.trans h2)
  exact ⟨cs, fuel, p, h3, h4⟩
theorem chunks {α : Type} (c : Nat) : ∀ (vs : List (List α)) (cs : List α), cs.length = vs.length * c → (∀ i, i < vs.length → (cs.drop (i * c)).take c = vs.getD i []) → cs = vs.flatten
  | [], cs, hl, _ => by simpa using hl
  | v :: vs, cs, hl, h => by
    have h0 := h 0 (by simp)
    simp at h0
    have hl' : cs.length = vs.length * c + c := by rw [hl, List.length_cons, Nat.succ_mul]
    have hr := chunks c vs (cs.drop c) (by rw [List.length_drop, hl']; omega) (fun i hi => by
      have h1 := h (i + 1) (by simp; omega)
      rw [List.drop_drop]
      rw [Nat.succ_mul, Nat.add_comm] at h1
      exact h1.trans (by simp))
    rw [List.flatten_cons, ← hr, ← h0, List.take_append_drop]
theorem cells_of_parts {H : Type} {enc : TypeId × Value → H} {P : Program} {w : World} {base : Nat} {sp : Nat → Bool} {held : Bool} {fuel : Nat} {t e : TypeId} {n : Nat} {cs : List Value} {ds : List (DataW H)} {vs : List (List Value)} {p : List MemPlace}
    (ht : P.underlying t = some (.array n e)) (hct : P.cellsOf t = n * P.cellsOf e) (hl : vs.length = n)
    (hp : ∀ i, i < n → ∀ (m : Nat) (c : List Value) (d : DataW H) (q : List MemPlace), ds[i]? = some d → DataW.trod enc P w base sp held m e c = some (d, q) → c = vs.getD i [])
    (h : DataW.trod enc P w base sp held fuel t cs = some (.agg ds, p)) : cs = vs.flatten := by
  obtain ⟨xs, m, -, hx, hlen, hxl, hel⟩ := DataW.trod_array ht h
  have hds : ds = xs.map (·.1) := by simpa using congrArg Prod.fst hx
  refine chunks (P.cellsOf e) vs cs (by rw [hlen, hct, hl]) (fun i hi => ?_)
  rw [hl] at hi
  have h1 := hel i hi
  obtain ⟨⟨d, q⟩, hxi⟩ : ∃ y, xs[i]? = some y := ⟨_, List.getElem?_eq_getElem (by omega)⟩
  rw [hxi] at h1
  exact hp i hi m _ d q (by rw [hds, List.getElem?_map, hxi]; rfl) h1
theorem gAcc : Tryz.prog.globalNamed "unicode/utf8.acceptRanges" = some 16 := by kernel_rfl
theorem tSyn : (Tryz.prog.globals[1]?).map (·.type) = some 47 := by kernel_rfl
theorem tRng : (Tryz.prog.globals[2]?).map (·.type) = some 47 := by kernel_rfl
theorem tOpt : (Tryz.prog.globals[3]?).map (·.type) = some 4 := by kernel_rfl
theorem tU10 : (Tryz.prog.globals[4]?).map (·.type) = some 167 := by kernel_rfl
theorem tInf : (Tryz.prog.globals[6]?).map (·.type) = some 182 := by kernel_rfl
theorem tF10 : (Tryz.prog.globals[10]?).map (·.type) = some 223 := by kernel_rfl
theorem tP10 : (Tryz.prog.globals[11]?).map (·.type) = some 227 := by kernel_rfl
theorem tDb : (Tryz.prog.globals[14]?).map (·.type) = some 233 := by kernel_rfl
theorem tAcc : (Tryz.prog.globals[16]?).map (·.type) = some 237 := by kernel_rfl
theorem star : "*" ++ "errors.errorString" = "*errors.errorString" := by decide
theorem row196 (u : TypeId) (h : Tryz.prog.typeName? 3 u = some "*errors.errorString") : u = 196 :=
  typeName_ptr_named (nm := "errors.errorString") (by rw [star]; kernel_rfl) (by kernel_rfl) (by decide) u (by rw [star]; exact h)
theorem cells198 : Tryz.prog.cellsOf 198 = 1 := by kernel_rfl
theorem cells9 : Tryz.prog.cellsOf 9 = 1 := by kernel_rfl
theorem cells5 : Tryz.prog.cellsOf 5 = 1 := by kernel_rfl
theorem cells26 : Tryz.prog.cellsOf 26 = 1 := by kernel_rfl
theorem cells22 : Tryz.prog.cellsOf 22 = 1 := by kernel_rfl
theorem cells226 : Tryz.prog.cellsOf 226 = 2 := by kernel_rfl
theorem cells227 : Tryz.prog.cellsOf 227 = 696 * Tryz.prog.cellsOf 226 := by kernel_rfl
theorem cells167 : Tryz.prog.cellsOf 167 = 20 := by kernel_rfl
theorem cells233 : Tryz.prog.cellsOf 233 = 64 := by kernel_rfl
theorem cells182 : Tryz.prog.cellsOf 182 = 3 := by kernel_rfl
theorem cells75 : Tryz.prog.cellsOf 75 = 1 := by kernel_rfl
theorem cells3 : Tryz.prog.cellsOf 3 = 1 := by kernel_rfl
theorem p10_length : (Pinned.pow10Rows.map fun x : Nat × Nat => [Value.int .u64 x.1, Value.int .u64 x.2]).length = 696 := by kernel_rfl
theorem trod_float {H : Type} {enc : TypeId × Value → H} {P : Program} {w : World} {base : Nat} {sp : Nat → Bool} {held : Bool} {fuel : Nat} {t : TypeId} {k : FloatKind} {cs : List Value} {x : DataW H × List MemPlace}
    (ht : P.underlying t = some (.float k)) (h : DataW.trod enc P w base sp held fuel t cs = some x) : ∃ n, cs = [.float k n] ∧ x = (.lit (.float k n), []) := by
  cases fuel with
  | zero => simp [DataW.trod] at h
  | succ n =>
    unfold DataW.trod at h
    rw [ht] at h
    split at h <;> simp_all
theorem one_cell {w : World} {base : Nat} {a : Addr} {c : Value} (h : w.cells? base a 1 = some [c]) : w.cell? a = some c := by
  have e0 : a.add 0 = a := by simp [Addr.add]
  unfold World.cells? at h
  split at h
  · simp only [List.range_succ, List.range_zero, List.nil_append, List.mapM_cons, List.mapM_nil, e0] at h
    cases hcc : w.cell? a with
    | none => simp [hcc] at h
    | some c => simp [hcc] at h; rw [h]
  cases h
theorem two_cells {P : Program} {w : World} {base : Nat} {sp : Nat → Bool} {fuel : Nat} {t : TypeId} {f0 f1 : Field} {k0 k1 : IntKind} {cs : List Value} {x y : Int} {p : List MemPlace}
    (ht : P.underlying t = some (.struct #[f0, f1])) (hct : P.cellsOf t = 2) (t0 : P.underlying f0.type = some (.int k0)) (t1 : P.underlying f1.type = some (.int k1)) (n0 : P.cellsOf f0.type = 1) (n1 : P.cellsOf f1.type = 1) (o0 : f0.offset = 0) (o1 : f1.offset = 1)
    (h : DataW.trod (fun _ => ()) P w base sp false fuel t cs = some (.agg [.lit (.int k0 x), .lit (.int k1 y)], p)) : cs = [.int k0 x, .int k1 y] := by
  obtain ⟨xs, m, -, hx, hlen, hxl, hel⟩ := DataW.trod_struct ht h
  rw [hct] at hlen
  have h0 := hel 0 _ rfl
  have h1 := hel 1 _ rfl
  match xs, hxl, hx, h0, h1 with
  | [x0, x1], _, hx, h0, h1 =>
    simp only [List.map_cons, List.map_nil, Prod.mk.injEq, DataW.agg.injEq, List.cons.injEq, and_true] at hx
    obtain ⟨⟨e0, e1⟩, -⟩ := hx
    simp only [List.getElem?_cons_zero, List.getElem?_cons_succ] at h0 h1
    obtain ⟨k0, c0, d0, -⟩ := DataW.trod_int t0 h0
    obtain ⟨k1, c1, d1, -⟩ := DataW.trod_int t1 h1
    subst d0; subst d1
    cases e0; cases e1
    match cs, hlen, c0, c1 with
    | [a, b], _, c0, c1 =>
      simp [n0, n1, o0, o1] at c0 c1
      rw [c0, c1]
theorem three_cells {P : Program} {w : World} {base : Nat} {sp : Nat → Bool} {fuel : Nat} {t : TypeId} {f0 f1 f2 : Field} {k0 k1 k2 : IntKind} {cs : List Value} {x y z : Int} {p : List MemPlace}
    (ht : P.underlying t = some (.struct #[f0, f1, f2])) (hct : P.cellsOf t = 3) (t0 : P.underlying f0.type = some (.int k0)) (t1 : P.underlying f1.type = some (.int k1)) (t2 : P.underlying f2.type = some (.int k2)) (n0 : P.cellsOf f0.type = 1) (n1 : P.cellsOf f1.type = 1) (n2 : P.cellsOf f2.type = 1) (o0 : f0.offset = 0) (o1 : f1.offset = 1) (o2 : f2.offset = 2)
    (h : DataW.trod (fun _ => ()) P w base sp false fuel t cs = some (.agg [.lit (.int k0 x), .lit (.int k1 y), .lit (.int k2 z)], p)) : cs = [.int k0 x, .int k1 y, .int k2 z] := by
  obtain ⟨xs, m, -, hx, hlen, hxl, hel⟩ := DataW.trod_struct ht h
  rw [hct] at hlen
  have h0 := hel 0 _ rfl
  have h1 := hel 1 _ rfl
  have h2 := hel 2 _ rfl
  match xs, hxl, hx, h0, h1, h2 with
  | [x0, x1, x2], _, hx, h0, h1, h2 =>
    simp only [List.map_cons, List.map_nil, Prod.mk.injEq, DataW.agg.injEq, List.cons.injEq, and_true] at hx
    obtain ⟨⟨e0, e1, e2⟩, -⟩ := hx
    simp only [List.getElem?_cons_zero, List.getElem?_cons_succ] at h0 h1 h2
    obtain ⟨k0, c0, d0, -⟩ := DataW.trod_int t0 h0
    obtain ⟨k1, c1, d1, -⟩ := DataW.trod_int t1 h1
    obtain ⟨k2, c2, d2, -⟩ := DataW.trod_int t2 h2
    subst d0; subst d1; subst d2
    cases e0; cases e1; cases e2
    match cs, hlen, c0, c1, c2 with
    | [a, b, c], _, c0, c1, c2 =>
      simp [n0, n1, n2, o0, o1, o2] at c0 c1 c2
      rw [c0, c1, c2]
theorem pair_cells {w : World} {base : Nat} {sp : Nat → Bool} {fuel : Nat} {cs : List Value} {x y : Nat} {p : List MemPlace}
    (h : DataW.trod (fun _ => ()) Tryz.prog w base sp false fuel 226 cs = some (.agg [.lit (.int .u64 x), .lit (.int .u64 y)], p)) : cs = [.int .u64 x, .int .u64 y] :=
  two_cells Tryz.underlying226 cells226 Tryz.underlying26 Tryz.underlying26 cells26 cells26 rfl rfl h
theorem p10_cells {w : World} {fuel : Nat} {cs : List Value} {ds : List (DataW Unit)} {vs : List (List Value)} {p : List MemPlace} (hl : vs.length = 696)
    (hp : ∀ i, i < 696 → ∀ (m : Nat) (c : List Value) (d : DataW Unit) (q : List MemPlace), ds[i]? = some d → DataW.trod (fun _ => ()) Tryz.prog w 0 (fun _ => true) false m 226 c = some (d, q) → c = vs.getD i [])
    (h : DataW.trod (fun _ => ()) Tryz.prog w 0 (fun _ => true) false fuel 227 cs = some (.agg ds, p)) : cs = vs.flatten :=
  cells_of_parts (n := 696) (e := 226) Tryz.underlying227 cells227 hl hp h
section
variable {W : World} (h : laidMet Tryz.prog laidL W)
include h
theorem met_size : 17 ≤ W.heap.size := by
  obtain ⟨cs, fuel, p, hv, -⟩ := laid_at' h (n := "unicode/utf8.acceptRanges") (d := Rows.laid_unicode_utf8_acceptRanges) (by simp [laidL, Rows.textIntsRow]) gAcc tAcc
  unfold World.var? at hv
  rw [gAcc] at hv
  simp only [Option.bind_some] at hv
  split at hv
  · rename_i heq
    have := (Array.getElem?_eq_some_iff.1 heq).1
    omega
  cases hv
theorem met_opt : W.var? Tryz.prog "internal/strconv.optimize" = some #[.bool true] := by
  obtain ⟨cs, fuel, p, hv, hd⟩ := laid_at' h (n := "internal/strconv.optimize") (d := Rows.laid_internal_strconv_optimize) (by simp [laidL, Rows.textIntsRow]) gOpt tOpt
  obtain ⟨b, hb, hx⟩ := DataW.trod_bool Tryz.underlying4 hd
  cases hx
  rw [hv, Array.eq_one_of_toList hb]
theorem met_inf : W.var? Tryz.prog "internal/strconv.float64info" = some #[.int .u64 52, .int .u64 11, .int .i64 (-1023)] := by
  obtain ⟨cs, fuel, p, hv, hd⟩ := laid_at' h (n := "internal/strconv.float64info") (d := Rows.laid_internal_strconv_float64info) (by simp [laidL, Rows.textIntsRow]) gInf tInf
  have := three_cells Tryz.underlying182 cells182 Tryz.underlying75 Tryz.underlying75 Tryz.underlying3 cells75 cells75 cells3 rfl rfl rfl hd
  rw [hv]
  exact congrArg some (Array.toList_inj.1 this)
theorem met_u10 : Lib.TabIs Tryz.prog W "internal/strconv.uint64pow10" .u64 Lib.pow10Tab := by
  obtain ⟨cs, fuel, p, hv, hd⟩ := laid_at' h (n := "internal/strconv.uint64pow10") (d := Rows.laid_internal_strconv_uint64pow10) (by simp [laidL, Rows.textIntsRow]) gU10 tU10
  have e : (Rows.laid_internal_strconv_uint64pow10 : DataW Unit) = Lib.tabData .u64 Lib.pow10Tab := by rfl
  rw [e] at hd
  unfold Lib.TabIs
  rw [hv, ← Lib.cells_of_tab Tryz.underlying167 Tryz.underlying26 cells26 cells167 hd]
theorem met_db : Lib.TabIs Tryz.prog W "math/bits.deBruijn64tab" .u8 (Lib.deBruijn64tab.map fun x : Nat => (x : Int)) := by
  obtain ⟨cs, fuel, p, hv, hd⟩ := laid_at' h (n := "math/bits.deBruijn64tab") (d := Rows.laid_math_bits_deBruijn64tab) (by simp [laidL, Rows.textIntsRow]) gDb tDb
  have e : (Rows.laid_math_bits_deBruijn64tab : DataW Unit) = Lib.tabData .u8 (Lib.deBruijn64tab.map fun x : Nat => (x : Int)) := by rfl
  rw [e] at hd
  unfold Lib.TabIs
  rw [hv, ← Lib.cells_of_tab Tryz.underlying233 Tryz.underlying5 cells5 cells233 hd]
theorem met_f10 : ∃ a : Addr, W.var? Tryz.prog "internal/strconv.float64pow10" = some #[.slice (some a) 23 23] ∧ ∀ i, i < 23 → W.cell? (a.add i) = some (.float .f64 (f10tab.getD i 0)) := by
  obtain ⟨cs, fuel, p, hv, hd⟩ := laid_at' h (n := "internal/strconv.float64pow10") (d := Rows.laid_internal_strconv_float64pow10) (by simp [laidL, Rows.textIntsRow]) gF10 tF10
  rcases DataW.trod_slice Tryz.underlying223 hd with ⟨_, hx⟩ | ⟨a, len, cap, elems, rest, n, _, hcs, hx, _, hl, _, hlen, hel, hsp, _⟩
  · simp [Rows.laid_internal_strconv_float64pow10] at hx
  simp only [Rows.laid_internal_strconv_float64pow10, Prod.mk.injEq, DataW.slice.injEq] at hx
  obtain ⟨⟨hE, hR⟩, -⟩ := hx
  have hr : rest = [] := List.map_eq_nil_iff.1 hR.symm
  subst hr
  have hc := (hsp rfl).1
  have hlen23 : len = 23 := by
    have := congrArg List.length hE
    simp at this; omega
  subst hlen23
  have hcap : cap = 23 := by simp at hc; omega
  subst hcap
  refine ⟨a, by rw [hv, Array.eq_one_of_toList hcs], fun i hi => ?_⟩
  have h1 := hel i hi
  rw [cells22, Nat.mul_one] at h1
  obtain ⟨y, hy⟩ : ∃ y, elems[i]? = some y := ⟨_, List.getElem?_eq_getElem (by omega)⟩
  rw [hy] at h1
  obtain ⟨c1, hc1, hy1⟩ := Option.bind_eq_some_iff.1 h1
  obtain ⟨k, rfl, hk⟩ := trod_float Tryz.underlying22 hy1
  have hd1 : (elems.map (·.1))[i]? = some (DataW.lit (.float .f64 k)) := by rw [List.getElem?_map, hy]; simp [hk]
  rw [← hE] at hd1
  have hkk : k = f10tab.getD i 0 := by
    have : ((f10tab.map fun x => (DataW.lit (.float .f64 x) : DataW Unit))[i]?) = some (DataW.lit (.float .f64 k)) := hd1
    rw [List.getElem?_map] at this
    obtain ⟨z, hz, hz2⟩ := Option.map_eq_some_iff.1 this
    cases hz2
    simp [List.getD, hz]
  rw [← hkk]
  exact one_cell hc1
theorem met_p10 : W.var? Tryz.prog "internal/strconv.pow10Tab" = some (Pinned.pow10Rows.flatMap fun x => [Value.int .u64 x.1, Value.int .u64 x.2]).toArray := by
  obtain ⟨cs, fuel, p, hv, hd⟩ := laid_at' h (n := "internal/strconv.pow10Tab") (d := Rows.laid_internal_strconv_pow10Tab) (by simp [laidL, Rows.textIntsRow]) gP10 tP10
  have e : (Rows.laid_internal_strconv_pow10Tab : DataW Unit) = .agg (Pinned.pow10Rows.map fun x => .agg [.lit (.int .u64 x.1), .lit (.int .u64 x.2)]) := rfl
  rw [e] at hd
  have hp : ∀ i, i < 696 → ∀ (m : Nat) (c : List Value) (d : DataW Unit) (q : List MemPlace), (Pinned.pow10Rows.map fun x : Nat × Nat => (.agg [.lit (.int .u64 x.1), .lit (.int .u64 x.2)] : DataW Unit))[i]? = some d →
      DataW.trod (fun _ => ()) Tryz.prog W 0 (fun _ => true) false m 226 c = some (d, q) → c = (Pinned.pow10Rows.map fun x : Nat × Nat => [Value.int .u64 x.1, Value.int .u64 x.2]).getD i [] := by
    intro i hi m c d q hdi ht
    rw [List.getElem?_map] at hdi
    obtain ⟨z, hz, rfl⟩ := Option.map_eq_some_iff.1 hdi
    have hg : (Pinned.pow10Rows.map fun x : Nat × Nat => [Value.int .u64 x.1, Value.int .u64 x.2]).getD i [] = [Value.int .u64 z.1, Value.int .u64 z.2] := by simp [List.getD, hz]
    rw [hg]
    exact pair_cells ht
  have := p10_cells p10_length hp hd
  rw [hv]
  refine congrArg some (Array.toList_inj.1 ?_)
  rw [this, List.flatMap_def]
theorem met_syn : ∃ te pe, W.var? Tryz.prog "strconv.ErrSyntax" = some #[.iface te pe] := by
  have h' := h.tail.tail.tail.tail.tail.tail.tail.tail.tail.tail.tail
  obtain ⟨a0, s0, hv0, -, -, -⟩ := laid_sentinel h' gSyn tSyn Tryz.underlying47 row196 Tryz.underlying196 Tryz.underlying198 rfl rfl Tryz.underlying9 cells198 cells9
  exact ⟨_, _, hv0⟩
theorem met_rng : ∃ te pe, W.var? Tryz.prog "strconv.ErrRange" = some #[.iface te pe] := by
  have h' := h.tail.tail.tail.tail.tail.tail.tail.tail.tail.tail
  obtain ⟨a0, s0, hv0, -, -, -⟩ := laid_sentinel h' gRng tRng Tryz.underlying47 row196 Tryz.underlying196 Tryz.underlying198 rfl rfl Tryz.underlying9 cells198 cells9
  exact ⟨_, _, hv0⟩
theorem laid_of_met : Laid W :=
  ⟨met_size h, met_syn h, met_rng h, met_opt h, met_inf h, met_u10 h, met_f10 h, met_p10 h, met_db h⟩
end
end Go.Proofs.YtjpiplplohapnaaGreatDoor
namespace Go.Proofs.YtjpiplplohapnaaGreatDoor
open Go.RowKit
theorem gLc : Tryz.prog.globalNamed "internal/strconv.leftcheats" = some 12 := by kernel_rfl
theorem tLc : (Tryz.prog.globals[12]?).map (·.type) = some 231 := by kernel_rfl
theorem cells230 : Tryz.prog.cellsOf 230 = 2 := by kernel_rfl
theorem cells9c : Tryz.prog.cellsOf 9 = 1 := by kernel_rfl
theorem cells3c : Tryz.prog.cellsOf 3 = 1 := by kernel_rfl
theorem pair_cell {w : World} {base : Nat} {a : Addr} {c0 c1 : Value} (h : w.cells? base a 2 = some [c0, c1]) : w.cell? a = some c0 ∧ w.cell? ⟨a.block, a.off + 1, none⟩ = some c1 := by
  have e0 : a.add 0 = a := by simp [Addr.add]
  have e1 : a.add 1 = ⟨a.block, a.off + 1, none⟩ := by simp [Addr.add]
  unfold World.cells? at h
  split at h
  · simp only [List.range_succ, List.range_zero, List.nil_append, List.cons_append, List.mapM_cons, List.mapM_nil, e0, e1] at h
    cases hcc : w.cell? a with
    | none => simp [hcc] at h
    | some c =>
      cases hcd : w.cell? ⟨a.block, a.off + 1, none⟩ with
      | none => simp [hcc, hcd] at h
      | some c' => simp [hcc, hcd] at h; rw [h.1, h.2]; exact ⟨rfl, rfl⟩
  cases h
theorem two_of {α : Type} : ∀ {l : List α}, l.length = 2 → ∃ a b, l = [a, b]
  | [a, b], _ => ⟨a, b, rfl⟩
theorem int_str_cells {w : World} {base : Nat} {sp : Nat → Bool} {fuel : Nat} {cs : List Value} {x : Int} {l : List UInt8} {p : List MemPlace}
    (h : DataW.trod (fun _ => ()) Tryz.prog w base sp false fuel 230 cs = some (.agg [.lit (.int .i64 x), .lit (.string l)], p)) : cs = [.int .i64 x, .string ⟨l.toArray⟩] := by
  obtain ⟨xs, m, -, hx, hlen, hxl, hel⟩ := DataW.trod_struct Tryz.underlying230 h
  rw [cells230] at hlen
  have h0 := hel 0 _ rfl
  have h1 := hel 1 _ rfl
  match xs, hxl, hx, h0, h1 with
  | [x0, x1], _, hx, h0, h1 =>
    simp only [List.map_cons, List.map_nil, Prod.mk.injEq, DataW.agg.injEq, List.cons.injEq, and_true] at hx
    obtain ⟨⟨e0, e1⟩, -⟩ := hx
    simp only [List.getElem?_cons_zero, List.getElem?_cons_succ] at h0 h1
    obtain ⟨k0, c0, d0, -⟩ := DataW.trod_int Tryz.underlying3 h0
    obtain ⟨k1, c1, d1, -⟩ := DataW.trod_string Tryz.underlying9 h1
    subst d0; subst d1
    cases e0
    have e1' : l = k1.data.toList := Lit.string.inj (DataW.lit.inj e1)
    change (cs.drop 0).take (Tryz.prog.cellsOf 3) = _ at c0
    change (cs.drop 1).take (Tryz.prog.cellsOf 9) = _ at c1
    rw [cells3c] at c0
    rw [cells9c] at c1
    obtain ⟨a, b, hab⟩ := two_of hlen
    rw [hab] at c0 c1 ⊢
    have c0' : a = Value.int .i64 x := (List.cons.inj c0).1
    have c1' : b = Value.string k1 := (List.cons.inj c1).1
    rw [c0', c1', e1']
theorem cheats_length : Pinned.cheatRows.length = 61 := by decide +kernel
theorem met_cheats {W : World} (h : laidMet Tryz.prog laidL W) : Cheats W := by
  obtain ⟨cs, fuel, p, hv, hd⟩ := laid_at' h (n := "internal/strconv.leftcheats") (d := Rows.laid_internal_strconv_leftcheats) (by simp [laidL, Rows.textIntsRow]) gLc tLc
  have e : (Rows.laid_internal_strconv_leftcheats : DataW Unit) = .slice (Pinned.cheatRows.map fun x => .agg [.lit (.int .i64 x.1), .lit (.string x.2)]) [] := rfl
  rw [e] at hd
  rcases DataW.trod_slice Tryz.underlying231 hd with ⟨_, hx⟩ | ⟨a, len, cap, elems, rest, n, _, hcs, hx, _, hl, _, hlen, hel, hsp, _⟩
  · simp at hx
  simp only [Prod.mk.injEq, DataW.slice.injEq] at hx
  obtain ⟨⟨hE, hR⟩, -⟩ := hx
  have hr : rest = [] := List.map_eq_nil_iff.1 hR.symm
  subst hr
  have hc := (hsp rfl).1
  have hlen61 : len = 61 := by
    have h1 := congrArg List.length hE
    rw [List.length_map, List.length_map, cheats_length] at h1
    omega
  subst hlen61
  have hcap : cap = 61 := by simp at hc; omega
  subst hcap
  have hcell : W.cell? ⟨12, 0, none⟩ = some (.slice (some a) 61 61) := by
    have h2 : W.var? Tryz.prog "internal/strconv.leftcheats" = some #[.slice (some a) 61 61] := by rw [hv, Array.eq_one_of_toList hcs]
    have := World.var?_cell gLc h2 0
    simpa using this
  refine ⟨a, hcell, fun k x hx => ?_⟩
  have hk : k < 61 := by
    have := (List.getElem?_eq_some_iff.1 hx).1
    rw [cheats_length] at this
    exact this
  have h1 := hel k hk
  rw [cells230] at h1
  obtain ⟨y, hy⟩ : ∃ y, elems[k]? = some y := ⟨_, List.getElem?_eq_getElem (by omega)⟩
  rw [hy] at h1
  obtain ⟨c1, hc1, hy1⟩ := Option.bind_eq_some_iff.1 h1
  have hd1 : (elems.map (·.1))[k]? = some (DataW.agg [.lit (.int .i64 x.1), .lit (.string x.2)]) := by
    rw [← hE, List.getElem?_map, hx]; rfl
  rw [List.getElem?_map, hy] at hd1
  have hy2 : y.1 = DataW.agg [.lit (.int .i64 x.1), .lit (.string x.2)] := by simpa using hd1
  have hy3 : y = (DataW.agg [.lit (.int .i64 x.1), .lit (.string x.2)], y.2) := by rw [← hy2]
  rw [hy3] at hy1
  have hcc := int_str_cells hy1
  rw [hcc] at hc1
  exact pair_cell hc1
theorem gPt : Tryz.prog.globalNamed "internal/strconv.powtab" = some 9 := by kernel_rfl
theorem tPt : (Tryz.prog.globals[9]?).map (·.type) = some 222 := by kernel_rfl
def powTab : List Nat := [1, 3, 6, 9, 13, 16, 19, 23, 26]
def PowT (w : World) : Prop := ∃ a : Addr, w.cell? ⟨9, 0, none⟩ = some (.slice (some a) 9 9) ∧ ∀ i, i < 9 → w.cell? (a.add i) = some (.int .i64 (powTab.getD i 0 : Nat))
theorem PowT.below {w w' : World} (h : PowT w) (hb : Below w.heap.size w w') : PowT w' := by
  obtain ⟨a, h1, h2⟩ := h
  exact ⟨a, (hb.cell (World.block_lt_of_cell? w _ h1)).trans h1, fun i hi => (hb.cell (World.block_lt_of_cell? w _ (h2 i hi))).trans (h2 i hi)⟩
theorem met_powt {W : World} (h : laidMet Tryz.prog laidL W) : PowT W := by
  obtain ⟨cs, fuel, p, hv, hd⟩ := laid_at' h (n := "internal/strconv.powtab") (d := Rows.laid_internal_strconv_powtab) (by simp [laidL, Rows.textIntsRow]) gPt tPt
  have e : (Rows.laid_internal_strconv_powtab : DataW Unit) = .slice (powTab.map fun x => .lit (.int .i64 (x : Nat))) [] := rfl
  rw [e] at hd
  rcases DataW.trod_slice Tryz.underlying222 hd with ⟨_, hx⟩ | ⟨a, len, cap, elems, rest, n, _, hcs, hx, _, hl, _, hlen, hel, hsp, _⟩
  · simp at hx
  simp only [Prod.mk.injEq, DataW.slice.injEq] at hx
  obtain ⟨⟨hE, hR⟩, -⟩ := hx
  have hr : rest = [] := List.map_eq_nil_iff.1 hR.symm
  subst hr
  have hc := (hsp rfl).1
  have hlen9 : len = 9 := by
    have h1 := congrArg List.length hE
    rw [List.length_map, List.length_map] at h1
    have h2 : powTab.length = 9 := rfl
    omega
  subst hlen9
  have hcap : cap = 9 := by simp at hc; omega
  subst hcap
  have hcell : W.cell? ⟨9, 0, none⟩ = some (.slice (some a) 9 9) := by
    have h2 : W.var? Tryz.prog "internal/strconv.powtab" = some #[.slice (some a) 9 9] := by rw [hv, Array.eq_one_of_toList hcs]
    have := World.var?_cell gPt h2 0
    simpa using this
  refine ⟨a, hcell, fun i hi => ?_⟩
  have h1 := hel i hi
  rw [cells3c, Nat.mul_one] at h1
  obtain ⟨y, hy⟩ : ∃ y, elems[i]? = some y := ⟨_, List.getElem?_eq_getElem (by omega)⟩
  rw [hy] at h1
  obtain ⟨c1, hc1, hy1⟩ := Option.bind_eq_some_iff.1 h1
  obtain ⟨k, rfl, hk, -⟩ := DataW.trod_int Tryz.underlying3 hy1
  have hd1 : (elems.map (·.1))[i]? = some (DataW.lit (.int .i64 k)) := by rw [List.getElem?_map, hy]; simp [hk]
  rw [← hE, List.getElem?_map] at hd1
  obtain ⟨z, hz, hz2⟩ := Option.map_eq_some_iff.1 hd1
  cases hz2
  rw [show powTab.getD i 0 = z by rw [List.getD_eq_getElem?_getD, hz]; rfl]
  exact one_cell hc1
end Go.Proofs.YtjpiplplohapnaaGreatDoor
