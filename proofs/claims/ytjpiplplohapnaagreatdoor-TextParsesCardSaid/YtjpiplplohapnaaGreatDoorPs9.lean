/- Part 9 of the proof: Uq, Un, Dc, Dr, Dp, Dl. -/
import Derived.Test.YtjpiplplohapnaaGreatDoorPs8
import Derived.WalkLawsBesides
import Derived.WalkSpells
import Derived.WalkMore
import Derived.Outline
import Derived.Lib.Hide
import Derived.Deep.CutBlock
import Derived.Deep.DeepCutAuto
import Derived.Deep.QuietTactic
import Derived.BigQuiet
import GoSem.PinnedTables
set_option linter.unusedVariables false
set_option linter.unusedSimpArgs false
namespace Go.Proofs.YtjpiplplohapnaaGreatDoor.Us
theorem near_place {x hi lo s : Nat} (hlo : lo ≤ hi * 18446744073709551616) (c1 : x * hi / 18446744073709551616 % 2 ^ s = 0) (c2 : x * lo / 18446744073709551616 ≤ x * hi % 18446744073709551616) (c3 : x * hi % 18446744073709551616 ≤ x * lo / 18446744073709551616 + 1) :
    x * (hi * 18446744073709551616 - lo) ≤ x * hi / 18446744073709551616 * 340282366920938463463374607431768211456 + 18446744073709551616 ∧ x * hi / 18446744073709551616 * 340282366920938463463374607431768211456 < x * (hi * 18446744073709551616 - lo) + 18446744073709551616 := by
  have e1 := Nat.div_add_mod (x * hi) 18446744073709551616
  have e2 := Nat.div_add_mod (x * lo) 18446744073709551616
  have m2 := Nat.mod_lt (x * lo) (show 0 < 18446744073709551616 by decide)
  have e3 : x * (hi * 18446744073709551616 - lo) + x * lo = x * hi * 18446744073709551616 := by
    rw [← Nat.mul_add, Nat.sub_add_cancel hlo, Nat.mul_assoc]
  generalize x * (hi * 18446744073709551616 - lo) = P at *
  generalize x * hi = A at *
  generalize x * lo = L at *
  omega
theorem clean_fence {i : Nat} {r : Nat × Nat} (h : Pinned.pow10Rows[i]? = some r) (hp : ¬ (-27 ≤ (i : Int) - 348 ∧ (i : Int) - 348 ≤ 27)) {x s : Nat} (hs : 8 ≤ s) (hx1 : 9223372036854775808 ≤ x) (hx2 : x < 18446744073709551616) (n d : Nat) : Clean x r.1 r.2 s n d := by
  intro c1 c2 c3
  exfalso
  have h1 := z6d z5u _ _ fences_ok i r h
  rw [show (-348 : Int) + (i : Int) = (i : Int) - 348 by omega] at h1
  unfold z5u at h1
  rw [if_neg hp] at h1
  have F := of_decide_eq_true h1
  obtain ⟨hr, hb1, hb2, -⟩ := row_ok h
  have hlo : r.2 ≤ r.1 * 18446744073709551616 := by have := hr.small; omega
  obtain ⟨p1, p2⟩ := near_place hlo c1 c2 c3
  have hq : x * r.1 / 18446744073709551616 * 340282366920938463463374607431768211456 = (x * r.1 / 18446744073709551616 / 2 ^ s * 2 ^ (s - 8)) * 87112285931760246646623899502532662132736 := by
    have a := Nat.div_add_mod (x * r.1 / 18446744073709551616) (2 ^ s)
    rw [c1, Nat.add_zero] at a
    have b : 2 ^ s = 2 ^ (s - 8) * 256 := by rw [show (256 : Nat) = 2 ^ 8 from rfl, ← Nat.pow_add, Nat.sub_add_cancel hs]
    generalize x * r.1 / 18446744073709551616 / 2 ^ s = q at *
    generalize 2 ^ (s - 8) = t at *
    have a' : x * r.1 / 18446744073709551616 = q * t * 256 := by rw [← a, b]; grind
    rw [a']
    generalize q * t = y
    omega
  rw [hq] at p1 p2
  exact fence_far F hx1 hx2 p1 p2
theorem den_nonneg {p : Int} (h0 : 0 ≤ p) (h1 : p ≤ 31) : den p = 1 := by
  unfold den lp
  have e1 : (-p).toNat = 0 := by omega
  have e2 : (p * 108853 / 32768 - 127).toNat = 0 := by omega
  rw [e1, e2]
theorem close {G a t P A L xD WD : Nat} (B1 : G * a + L ≤ A) (B2 : A < G * a + L + xD) (hP : P + L = A) (q1 : P ≤ G * t + WD) (q2 : G * t < P + WD) (q3 : xD ≤ WD) (z3 : 2 * WD ≤ G) : a = t := by
  have w1 : G * a < G * (t + 1) := by rw [Nat.mul_add, Nat.mul_one]; omega
  have w2 : G * t < G * (a + 1) := by rw [Nat.mul_add, Nat.mul_one]; omega
  have v1 := Nat.lt_of_mul_lt_mul_left w1
  have v2 := Nat.lt_of_mul_lt_mul_left w2
  omega
theorem clean_mid {i : Nat} {r : Nat × Nat} (h : Pinned.pow10Rows[i]? = some r) (hp : -27 ≤ (i : Int) - 348 ∧ (i : Int) - 348 ≤ 27) {x s : Nat} (hs : 8 ≤ s) (hx0 : 0 < x) (hx2 : x < 18446744073709551616) : Clean x r.1 r.2 s (num ((i : Int) - 348)) (den ((i : Int) - 348)) := by
  intro c1 c2 c3
  have h1 := z6d z5u _ _ fences_ok i r h
  rw [show (-348 : Int) + (i : Int) = (i : Int) - 348 by omega] at h1
  unfold z5u at h1
  rw [if_pos hp] at h1
  obtain ⟨hr, hb1, hb2, -⟩ := row_ok h
  have hlo : r.2 ≤ r.1 * 18446744073709551616 := by have := hr.small; omega
  by_cases h0 : 0 ≤ (i : Int) - 348
  · rw [if_pos h0] at h1
    obtain ⟨z1, z2, z3⟩ := of_decide_eq_true h1
    rw [z1] at c2 c3
    rw [z3, den_nonneg h0 (by omega)]
    rw [Nat.mul_zero, Nat.zero_div] at c2 c3
    have e1 := Nat.div_add_mod (x * r.1) 18446744073709551616
    have e2 : x * r.1 % 2 = 0 := by rw [Nat.mul_mod, z2]; simp
    rw [← Nat.mul_assoc, ← Nat.mul_assoc]
    generalize x * r.1 = A at *
    omega
  rw [if_neg h0] at h1
  obtain ⟨z1, z2⟩ := of_decide_eq_true h1
  have B1 : x * num ((i : Int) - 348) + (x * r.2) * den ((i : Int) - 348) ≤ (x * r.1) * 18446744073709551616 * den ((i : Int) - 348) := by
    have := Nat.mul_le_mul_left x hr.below
    rw [Nat.mul_add, ← Nat.mul_assoc x r.2, ← Nat.mul_assoc x, ← Nat.mul_assoc x] at this
    exact this
  have B2 : (x * r.1) * 18446744073709551616 * den ((i : Int) - 348) < x * num ((i : Int) - 348) + (x * r.2) * den ((i : Int) - 348) + x * den ((i : Int) - 348) := by
    have := Nat.mul_lt_mul_of_pos_left hr.above hx0
    rw [Nat.mul_add, Nat.mul_add, ← Nat.mul_assoc x r.2, ← Nat.mul_assoc x, ← Nat.mul_assoc x] at this
    exact this
  have hd := hr.dpos
  obtain ⟨g, hg⟩ : ∃ g, g = min (127 - lp ((i : Int) - 348)).toNat (136 + (-((i : Int) - 348)).toNat) := ⟨_, rfl⟩
  rw [← hg] at z1
  have hn : num ((i : Int) - 348) = 2 ^ g * 2 ^ ((127 - lp ((i : Int) - 348)).toNat - g) := by
    unfold num
    have : ((i : Int) - 348).toNat = 0 := by omega
    rw [this, Nat.pow_zero, Nat.one_mul, ← Nat.pow_add]
    congr 1; omega
  have hdn : den ((i : Int) - 348) = 10 ^ (-((i : Int) - 348)).toNat := by
    unfold den
    have : (lp ((i : Int) - 348) - 127).toNat = 0 := by omega
    rw [this, Nat.pow_zero, Nat.mul_one]
  have hM : ∃ t, x * r.1 / 18446744073709551616 * 340282366920938463463374607431768211456 * den ((i : Int) - 348) = 2 ^ g * t := by
    have a := Nat.div_add_mod (x * r.1 / 18446744073709551616) (2 ^ s)
    rw [c1, Nat.add_zero] at a
    generalize x * r.1 / 18446744073709551616 / 2 ^ s = q at *
    refine ⟨2 ^ ((136 + (-((i : Int) - 348)).toNat) - g) * 2 ^ (s - 8) * q * 5 ^ (-((i : Int) - 348)).toNat, ?_⟩
    rw [← a, hdn]
    have h10 : (10 : Nat) ^ (-((i : Int) - 348)).toNat = 2 ^ (-((i : Int) - 348)).toNat * 5 ^ (-((i : Int) - 348)).toNat := by rw [← Nat.mul_pow]
    have hW : (340282366920938463463374607431768211456 : Nat) = 2 ^ 128 := by decide
    rw [h10, hW]
    have e : 2 ^ s * 2 ^ 128 * 2 ^ (-((i : Int) - 348)).toNat = 2 ^ g * (2 ^ ((136 + (-((i : Int) - 348)).toNat) - g) * 2 ^ (s - 8)) := by
      rw [← Nat.pow_add, ← Nat.pow_add, ← Nat.pow_add, ← Nat.pow_add]
      congr 1; omega
    generalize 2 ^ s = u1 at *
    generalize 2 ^ 128 = u2 at *
    generalize 2 ^ (-((i : Int) - 348)).toNat = u3 at *
    generalize 5 ^ (-((i : Int) - 348)).toNat = u4 at *
    generalize 2 ^ g = u5 at *
    generalize 2 ^ ((136 + (-((i : Int) - 348)).toNat) - g) = u6 at *
    generalize 2 ^ (s - 8) = u7 at *
    calc u1 * q * u2 * (u3 * u4) = (u1 * u2 * u3) * (q * u4) := by grind
      _ = u5 * (u6 * u7) * (q * u4) := by rw [e]
      _ = u5 * (u6 * u7 * q * u4) := by grind
  obtain ⟨p1, p2⟩ := near_place hlo c1 c2 c3
  obtain ⟨t, ht⟩ := hM
  have hR : x * num ((i : Int) - 348) = 2 ^ g * (2 ^ ((127 - lp ((i : Int) - 348)).toNat - g) * x) := by rw [hn]; grind
  have hP : x * (r.1 * 18446744073709551616 - r.2) * den ((i : Int) - 348) + (x * r.2) * den ((i : Int) - 348) = (x * r.1) * 18446744073709551616 * den ((i : Int) - 348) := by
    rw [← Nat.add_mul, ← Nat.mul_add, Nat.sub_add_cancel hlo, Nat.mul_assoc x r.1]
  have q1 := Nat.le_trans (Nat.mul_le_mul_right (den ((i : Int) - 348)) p1) (Nat.le_of_eq (Nat.add_mul _ _ _))
  have q2 := Nat.lt_of_lt_of_le (Nat.mul_lt_mul_of_pos_right p2 hd) (Nat.le_of_eq (Nat.add_mul _ _ _))
  have q3 : x * den ((i : Int) - 348) ≤ 18446744073709551616 * den ((i : Int) - 348) := Nat.mul_le_mul_right _ (by omega)
  have z3 : 36893488147419103232 * den ((i : Int) - 348) ≤ 2 ^ g := z1
  rw [ht] at q1 q2 ⊢
  rw [hR] at B1 B2 ⊢
  have hfin := close B1 B2 hP q1 q2 q3 (by omega)
  rw [hfin]
theorem clean_parse {i : Nat} {r : Nat × Nat} (h : Pinned.pow10Rows[i]? = some r) {x s : Nat} (hs : 8 ≤ s) (hx1 : 9223372036854775808 ≤ x) (hx2 : x < 18446744073709551616) : Clean x r.1 r.2 s (num ((i : Int) - 348)) (den ((i : Int) - 348)) := by
  by_cases hp : -27 ≤ (i : Int) - 348 ∧ (i : Int) - 348 ≤ 27
  · exact clean_mid h hp hs (by omega) hx2
  exact clean_fence h hp hs hx1 hx2 _ _
end Go.Proofs.YtjpiplplohapnaaGreatDoor.Us
namespace Go.Proofs.YtjpiplplohapnaaGreatDoor.Us
open Nr
def rnd (u : Nat) : Nat := (u + 1 + u / 4 % 2) / 4
def z6b (v : Nat) (b : Bool) : Nat := if b then v / 2 * 2 + 1 else v
theorem unr_parts (N D : Nat) : (N % D = 0 ∧ unr N D = N / D) ∨ (N % D ≠ 0 ∧ unr N D = N / D / 2 * 2 + 1) := by
  unfold unr
  by_cases h : N % D = 0
  · left; rw [if_pos h]; exact ⟨h, rfl⟩
  right; rw [if_neg h]; exact ⟨h, rfl⟩
theorem rnd_rhe {N D : Nat} (hD : 0 < D) : Rhe N (4 * D) (rnd (unr N D)) := by
  have e1 := Nat.div_add_mod N D
  have m1 := Nat.mod_lt N hD
  obtain ⟨n, t, hn, ht⟩ : ∃ n t, N / D = 4 * n + t ∧ t < 4 := ⟨N / D / 4, N / D % 4, by omega, by omega⟩
  have hN : N = 4 * (D * n) + D * t + N % D := by
    have : D * (N / D) = 4 * (D * n) + D * t := by rw [hn, Nat.mul_add]; grind
    omega
  have q1 : (2 * n + 1) * (4 * D) = 8 * (D * n) + 4 * D := by grind
  have q2 : 2 * n * (4 * D) = 8 * (D * n) := by grind
  have q3 : (2 * (n + 1) + 1) * (4 * D) = 8 * (D * n) + 12 * D := by grind
  have q4 : 2 * (n + 1) * (4 * D) = 8 * (D * n) + 8 * D := by grind
  have up : rnd (unr N D) = n ∨ rnd (unr N D) = n + 1 := by
    unfold rnd
    rcases unr_parts N D with ⟨-, h⟩ | ⟨-, h⟩ <;> rw [h, hn] <;> omega
  have val : (rnd (unr N D) = n ∧ 2 * N ≤ (2 * n + 1) * (4 * D) ∧ (2 * N = (2 * n + 1) * (4 * D) → n % 2 = 0)) ∨ (rnd (unr N D) = n + 1 ∧ (2 * n + 1) * (4 * D) ≤ 2 * N ∧ (2 * N = (2 * n + 1) * (4 * D) → n % 2 = 1)) := by
    have ht' : t = 0 ∨ t = 1 ∨ t = 2 ∨ t = 3 := by omega
    unfold rnd
    rcases ht' with rfl | rfl | rfl | rfl <;> rcases unr_parts N D with ⟨hr, h⟩ | ⟨hr, h⟩ <;> rw [h, hn]
    · left; omega
    · left; omega
    · left; omega
    · left; omega
    · by_cases c : n % 2 = 0
      · left; omega
      right; omega
    · right; omega
    · right; omega
    right; omega
  generalize N % D = r at *
  generalize D * n = dn at *
  have ht' : t = 0 ∨ t = 1 ∨ t = 2 ∨ t = 3 := by omega
  unfold Rhe
  rcases val with ⟨h, a1, a2⟩ | ⟨h, a1, a2⟩
  · rw [h, q2]
    refine ⟨a1, ?_, a2, fun hh => ?_⟩
    · rcases ht' with rfl | rfl | rfl | rfl <;> omega
    exfalso; rcases ht' with rfl | rfl | rfl | rfl <;> omega
  rw [h, q3, q4]
  rw [q1] at a1 a2
  refine ⟨?_, ?_, fun hh => ?_, fun hh => ?_⟩
  · rcases ht' with rfl | rfl | rfl | rfl <;> omega
  · omega
  · exfalso; rcases ht' with rfl | rfl | rfl | rfl <;> omega
  have := a2 (by omega); omega
theorem unr_scale {N D k : Nat} (hD : 0 < D) (hk : 0 < k) (he : k % 2 = 0) : unr N (D * k) = z6b (unr N D / k) (decide (unr N D % 2 = 1) || decide (unr N D % k ≠ 0)) := by
  have e1 : N / (D * k) = N / D / k := (Nat.div_div_eq_div_mul ..).symm
  have e2 : N % (D * k) = N % D + D * (N / D % k) := Nat.mod_mul
  obtain ⟨j, rfl⟩ : ∃ j, k = 2 * j := ⟨k / 2, by omega⟩
  have hj : 0 < j := by omega
  have half : ∀ q, (q / 2 * 2 + 1) / (2 * j) = q / (2 * j) := by
    intro q
    rw [← Nat.div_div_eq_div_mul, ← Nat.div_div_eq_div_mul]
    congr 1; omega
  unfold z6b
  rcases unr_parts N D with ⟨hr, h⟩ | ⟨hr, h⟩
  · rw [h]
    unfold unr
    rw [e1, e2, hr, Nat.zero_add]
    by_cases c : N / D % (2 * j) = 0
    · have c2 : N / D % 2 = 0 := by
        have := Nat.mod_mul_right_mod (N / D) 2 j
        rw [c] at this; omega
      rw [c, Nat.mul_zero, if_pos rfl, if_neg]
      simp [c2]
    rw [if_neg (by have := Nat.mul_pos hD (Nat.pos_of_ne_zero c); omega), if_pos]
    simp [c]
  rw [h]
  unfold unr
  rw [e1, e2, if_neg (by omega), half, if_pos]
  have : (N / D / 2 * 2 + 1) % 2 = 1 := by omega
  simp [this]
theorem rnd_lt {u x : Nat} (h : u < 4 * x - 2) : rnd u < x := by unfold rnd; omega
theorem rnd_ge {u x : Nat} (h : 4 * x - 2 ≤ u) (hx : x % 2 = 0) (hx0 : 0 < x) : x ≤ rnd u := by
  unfold rnd
  have h1 : u / 4 = x - 1 ∨ x ≤ u / 4 := by omega
  rcases h1 with h1 | h1
  · rw [h1]; omega
  omega
theorem rnd_ge' {u x : Nat} (h : 4 * x - 2 < u) (hx0 : 0 < x) : x ≤ rnd u := by unfold rnd; omega
end Go.Proofs.YtjpiplplohapnaaGreatDoor.Us
namespace Go.Proofs.YtjpiplplohapnaaGreatDoor
open Go.RowKit Go.Proofs.YtjpiplplohapnaaGreatDoorW.PrintWords
namespace Dc
def dcell (d : Nat → Nat) (nd dp : Int) (ng tr : Bool) (i : Nat) : Value :=
  if i < 800 then .int .u8 (d i : Nat) else if i = 800 then .int .i64 nd else if i = 801 then .int .i64 dp else if i = 802 then .bool ng else .bool tr
def dcells (d : Nat → Nat) (nd dp : Int) (ng tr : Bool) : Array Value := Array.ofFn (n := 804) fun i => dcell d nd dp ng tr i.val
def z1d (w : World) (g : Nat) (d : Nat → Nat) (nd dp : Int) (ng tr : Bool) : Prop := w.heap[g]? = some (.cells (dcells d nd dp ng tr) 162 (0, 0))
def upd (d : Nat → Nat) (i v : Nat) : Nat → Nat := fun j => if j = i then v else d j
theorem z8h (d : Nat → Nat) (nd dp : Int) (ng tr : Bool) (i : Nat) (h : i < 804) : (dcells d nd dp ng tr)[i]? = some (dcell d nd dp ng tr i) := by
  unfold dcells
  rw [Array.getElem?_ofFn, dif_pos h]
theorem z7m (d : Nat → Nat) (nd dp : Int) (ng tr : Bool) : (dcells d nd dp ng tr).size = 804 := Array.size_ofFn
theorem z5q {d : Nat → Nat} {nd dp : Int} {ng tr : Bool} {i : Nat} {u : Value} {d' : Nat → Nat} {nd' dp' : Int} {ng' tr' : Bool} (h : ∀ j, j < 804 → dcell d' nd' dp' ng' tr' j = if i = j then u else dcell d nd dp ng tr j) (hi : i < 804) :
    (dcells d nd dp ng tr).setIfInBounds i u = dcells d' nd' dp' ng' tr' := by
  apply Array.ext_getElem?
  intro j
  by_cases hj : j < 804
  · rw [z8h _ _ _ _ _ j hj, Array.getElem?_setIfInBounds, z8h _ _ _ _ _ j hj, h j hj, z7m]
    by_cases e : i = j
    · rw [if_pos e, if_pos e, if_pos hi]
    rw [if_neg e, if_neg e]
  rw [Array.getElem?_eq_none (by rw [Array.size_setIfInBounds, z7m]; omega), Array.getElem?_eq_none (by rw [z7m]; omega)]
section
variable {w : World} {g : Nat} {d : Nat → Nat} {nd dp : Int} {ng tr : Bool}
theorem z1d.cell (h : z1d w g d nd dp ng tr) (i : Nat) (hi : i < 804) : w.cell? ⟨g, i, none⟩ = some (dcell d nd dp ng tr i) := (z0d h i).trans (z8h _ _ _ _ _ i hi)
theorem z1d.byte (h : z1d w g d nd dp ng tr) (i : Nat) (hi : i < 800) : w.cell? ⟨g, i, none⟩ = some (.int .u8 (d i : Nat)) := by
  rw [h.cell i (by omega)]; unfold dcell; rw [if_pos hi]
theorem z1d.cnd (h : z1d w g d nd dp ng tr) : w.cell? ⟨g, 800, none⟩ = some (.int .i64 nd) := h.cell 800 (by decide)
theorem z1d.cdp (h : z1d w g d nd dp ng tr) : w.cell? ⟨g, 801, none⟩ = some (.int .i64 dp) := h.cell 801 (by decide)
theorem z1d.cng (h : z1d w g d nd dp ng tr) : w.cell? ⟨g, 802, none⟩ = some (.bool ng) := h.cell 802 (by decide)
theorem z1d.ctr (h : z1d w g d nd dp ng tr) : w.cell? ⟨g, 803, none⟩ = some (.bool tr) := h.cell 803 (by decide)
theorem z1d.frozen (h : z1d w g d nd dp ng tr) (i : Nat) : w.frozen? ⟨g, i, none⟩ = false := z0i h i
theorem z1d.z7w (h : z1d w g d nd dp ng tr) (i v : Nat) (hi : i < 800) : z1d (w.setCell ⟨g, i, none⟩ (.int .u8 (v : Nat))) g (upd d i v) nd dp ng tr := by
  refine z1t h i _ (z5q (fun j hj => ?_) (by omega))
  unfold dcell upd
  by_cases e : i = j
  · subst e
    rw [if_pos hi, if_pos rfl, if_pos rfl]
  rw [if_neg e, if_neg (c := j = i) (fun h => e h.symm)]
theorem z1d.setNd (h : z1d w g d nd dp ng tr) (v : Int) : z1d (w.setCell ⟨g, 800, none⟩ (.int .i64 v)) g d v dp ng tr := by
  refine z1t h 800 _ (z5q (fun j hj => ?_) (by omega))
  unfold dcell
  by_cases e : 800 = j
  · subst e; rfl
  rw [if_neg e, if_neg (c := j = 800) (fun h => e h.symm), if_neg (c := j = 800) (fun h => e h.symm)]
theorem z1d.z4g (h : z1d w g d nd dp ng tr) (v : Int) : z1d (w.setCell ⟨g, 801, none⟩ (.int .i64 v)) g d nd v ng tr := by
  refine z1t h 801 _ (z5q (fun j hj => ?_) (by omega))
  unfold dcell
  by_cases e : 801 = j
  · subst e; rfl
  rw [if_neg e, if_neg (c := j = 801) (fun h => e h.symm), if_neg (c := j = 801) (fun h => e h.symm)]
theorem z1d.setTr (h : z1d w g d nd dp ng tr) (v : Bool) : z1d (w.setCell ⟨g, 803, none⟩ (.bool v)) g d nd dp ng v := by
  refine z1t h 803 _ (z5q (fun j hj => ?_) (by omega))
  unfold dcell
  by_cases e : 803 = j
  · subst e; rfl
  rw [if_neg e]
  by_cases h1 : j < 800
  · rw [if_pos h1, if_pos h1]
  by_cases h2 : j = 800
  · rw [if_neg h1, if_neg h1, if_pos h2, if_pos h2]
  by_cases h3 : j = 801
  · rw [if_neg h1, if_neg h1, if_neg h2, if_neg h2, if_pos h3, if_pos h3]
  have h4 : j = 802 := by omega
  rw [if_neg h1, if_neg h1, if_neg h2, if_neg h2, if_neg h3, if_neg h3, if_pos h4, if_pos h4]
end
def tl (d : Nat → Nat) : Nat → Nat
  | 0 => 0
  | n + 1 => if d n = 48 then tl d n else n + 1
theorem tl_le (d : Nat → Nat) : ∀ n, tl d n ≤ n
  | 0 => Nat.le_refl _
  | n + 1 => by
    rw [tl]
    have := tl_le d n
    split <;> omega
theorem tl_zero (d : Nat → Nat) : ∀ n i, tl d n ≤ i → i < n → d i = 48
  | 0, i, _, h => by omega
  | n + 1, i, h1, h2 => by
    rw [tl] at h1
    by_cases h : d n = 48
    · rw [if_pos h] at h1
      by_cases hi : i = n
      · rw [hi]; exact h
      exact tl_zero d n i h1 (by omega)
    rw [if_neg h] at h1
    omega
theorem tl_last (d : Nat → Nat) : ∀ n, tl d n ≠ 0 → d (tl d n - 1) ≠ 48
  | 0, h => absurd rfl h
  | n + 1, h => by
    rw [tl] at h ⊢
    by_cases hd : d n = 48
    · rw [if_pos hd] at h ⊢
      exact tl_last d n h
    rw [if_neg hd]
    exact hd
def dpz (n : Nat) (dp : Int) : Int := if n = 0 then 0 else dp
theorem z1d.drewN {w : World} {g : Nat} {d : Nat → Nat} {nd dp : Int} {ng tr : Bool} (h : z1d w g d nd dp ng tr) (n : Nat) : z1d (w.drewN n) g d nd dp ng tr := h
end Dc
open Dc
set_option maxRecDepth 100000 in
set_option maxHeartbeats 1000000 in
theorem trim_walk (w : World) (g B : Nat) (hB : B ≤ g) (d : Nat → Nat) (nd : Nat) (dp : Int) (ng tr : Bool) (hnd : nd ≤ 800) (h : z1d w g d nd dp ng tr) :
    Calls Tryz.prog 167 #[.pointer (some ⟨g, 0, none⟩)] w fun e w' => e = .returned (.tuple #[]) ∧ Below B w w' ∧ z1d w' g d (tl d nd : Nat) (dpz (tl d nd) dp) ng tr := by
  go_enter Tryz.func167, Tryz.ntmps167
  go_wp2_with fail
  go_loopg [] nd (fun gn w' => z1d w' g d gn dp ng tr ∧ Below B w w' ∧ tl d gn = tl d nd ∧ gn ≤ nd)
  case atStart => exact ⟨h, Below.refl _ _, rfl, Nat.le_refl _⟩
  case round =>
    obtain ⟨hD, hb, ht, hg⟩ := hrel
    cases gk with
    | zero =>
      have cnd : wr.cell? ⟨g, 800, none⟩ = some (.int .i64 0) := hD.cnd
      have fdp := hD.frozen 801
      have cdp := hD.cdp
      have hz : tl d nd = 0 := ht.symm
      have HZ := Lib.hid hz
      have HD := Lib.hid hD
      clear ht hz hD hnd h
      go_wp2_with fail
      go_quiet (fail)
      go_wp2_with fail
      go_end0
      refine ⟨rfl, (below_drewN hb _).setCell hB _, ?_⟩
      rw [HZ.out]
      exact (HD.out.drewN _).z4g 0
    | succ n =>
      obtain ⟨m, hm⟩ : ∃ m : Int, m = ((n + 1 : Nat) : Int) := ⟨_, rfl⟩
      have cnd : wr.cell? ⟨g, 800, none⟩ = some (.int .i64 m) := by rw [hm]; exact hD.cnd
      have cb : wr.cell? ⟨g, n, none⟩ = some (.int .u8 (d n : Nat)) := hD.byte n (by omega)
      have fnd := hD.frozen 800
      have cdp := hD.cdp
      have m1 : (0 : Int) < m := by omega
      have m2 : IntKind.i64.wrap (m - 1) = n := by rw [Go.IntKind.wrap_i64]; omega
      have m3 : m - 1 = (n : Int) := by omega
      have m4 : (n : Int) < 800 := by omega
      have m5 : n < 800 := by omega
      have m6 : (m == 0) = false := by simp; omega
      have HT := Lib.hid ht
      have HG := Lib.hid hg
      have HD := Lib.hid hD
      obtain ⟨c, hc⟩ : ∃ c, c = d n := ⟨_, rfl⟩
      rw [← hc] at cb
      by_cases h48 : c = 48
      · have f1 : ((c : Int) == 48) = true := by simp [h48]
        have HC := Lib.hid (hc.symm.trans h48)
        have HM := Lib.hid hm
        clear ht hg hD hnd h hc h48 hm
        go_wp2_with fail
        go_quiet (fail)
        go_wp2_with fail
        go_roundg n
        case measure => omega
        case rel => exact ⟨(HD.out.drewN _).setNd _, (below_drewN hb _).setCell hB _, by have := HT.out; rw [tl, if_pos HC.out] at this; exact this, by have := HG.out; omega⟩
      have f1 : ((c : Int) == 48) = false := by simp; omega
      have hz : tl d nd = n + 1 := by rw [← ht, tl, if_neg (by rw [← hc]; exact h48)]
      have HZ := Lib.hid hz
      have HM := Lib.hid hm
      clear ht hg hD hnd h hc h48 hz hm
      go_wp2_with fail
      go_quiet (fail)
      go_wp2_with fail
      go_end0
      refine ⟨rfl, below_drewN hb _, ?_⟩
      rw [HZ.out]
      exact HD.out.drewN _
end Go.Proofs.YtjpiplplohapnaaGreatDoor
namespace Go.Proofs.YtjpiplplohapnaaGreatDoor
open Go.RowKit Go.Proofs.YtjpiplplohapnaaGreatDoorW.PrintWords
namespace Dc
def dig (d : Nat → Nat) (nd i : Nat) : Nat := if i < nd then d i - 48 else 0
def N (e : Nat → Nat) : Nat → Nat
  | 0 => 0
  | r + 1 => 10 * N e r + e r
theorem z1u (e : Nat → Nat) (r : Nat) : N e (r + 1) = 10 * N e r + e r := rfl
theorem N_ext {d : Nat → Nat} {nd r : Nat} (h : nd ≤ r) : N (dig d nd) (r + 1) = 10 * N (dig d nd) r := by
  rw [z1u]; unfold dig; rw [if_neg (by omega)]; rfl
theorem N_pow (d : Nat → Nat) (nd : Nat) : ∀ j, N (dig d nd) (nd + j) = N (dig d nd) nd * 10 ^ j
  | 0 => by simp
  | j + 1 => by
    rw [← Nat.add_assoc, N_ext (by omega), N_pow d nd j, Nat.pow_succ, Nat.mul_comm 10, Nat.mul_assoc]
theorem N_pos {e : Nat → Nat} (h : 1 ≤ e 0) : ∀ r, 1 ≤ N e (r + 1)
  | 0 => by rw [z1u]; show 1 ≤ 10 * 0 + e 0; omega
  | r + 1 => by rw [z1u]; have := N_pos h r; omega
theorem N_big {e : Nat → Nat} (h : 1 ≤ e 0) : ∀ r, 10 ^ r ≤ N e (r + 1)
  | 0 => by rw [z1u]; show 1 ≤ 10 * 0 + e 0; omega
  | r + 1 => by rw [z1u, Nat.pow_succ]; have := N_big h r; omega
theorem N_lt {e : Nat → Nat} (h : ∀ i, e i ≤ 9) : ∀ r, N e r < 10 ^ r
  | 0 => by show 0 < 1; decide
  | r + 1 => by
    rw [z1u, Nat.pow_succ]
    have := N_lt h r
    have := h r
    omega
def qd (e : Nat → Nat) (P r0 w : Nat) : Nat := N e (r0 + w) / P % 10
def lost (e : Nat → Nat) (P r0 : Nat) : Nat → Bool
  | 0 => false
  | j + 1 => lost e P r0 j || (decide (800 ≤ j) && decide (qd e P r0 j ≠ 0))
theorem z8l (e : Nat → Nat) (P r0 : Nat) : ∀ j, j ≤ 800 → lost e P r0 j = false
  | 0, _ => rfl
  | j + 1, h => by
    rw [lost, z8l e P r0 j (by omega), decide_eq_false (show ¬ 800 ≤ j by omega)]
    rfl
theorem rest_step (e : Nat → Nat) (P r : Nat) (hP : 0 < P) : N e (r + 1) % (10 * P) = N e r % (10 * P) % P * 10 + e r % (10 * P) ∨ 10 * P ≤ N e r % (10 * P) % P * 10 + e r := by
  by_cases h : 10 * P ≤ N e r % (10 * P) % P * 10 + e r
  · exact Or.inr h
  left
  have he : e r < 10 * P := by omega
  rw [Nat.mod_eq_of_lt he]
  have e1 : N e r % (10 * P) % P = N e r % P := Nat.mod_mul_left_mod _ _ _
  rw [e1] at h ⊢
  rw [z1u]
  have hdm := Nat.div_add_mod (N e r) P
  have e2 : 10 * N e r + e r = (N e r % P * 10 + e r) + 10 * P * (N e r / P) := by
    rw [Nat.mul_assoc]
    generalize P * (N e r / P) = A at *
    omega
  rw [e2, Nat.add_mul_mod_self_left, Nat.mod_eq_of_lt (by omega)]
theorem rest_next {e : Nat → Nat} (P r : Nat) (hP : 0 < P) (he : ∀ i, e i ≤ 9) : N e (r + 1) % (10 * P) = N e r % (10 * P) % P * 10 + e r := by
  have h1 := Nat.mod_lt (N e r % (10 * P)) hP
  have h2 := he r
  rcases rest_step e P r hP with h | h
  · rw [Nat.mod_eq_of_lt (by omega : e r < 10 * P)] at h
    exact h
  omega
theorem qd_rest (e : Nat → Nat) (P r0 w : Nat) (hP : 0 < P) : N e (r0 + w) % (10 * P) / P = qd e P r0 w := by
  unfold qd
  rw [Nat.mul_comm, Nat.mod_mul_right_div_self]
theorem rest_end (d : Nat → Nat) (nd k r : Nat) (h : nd + k + 1 ≤ r) : N (dig d nd) r % (10 * 2 ^ k) = 0 := by
  obtain ⟨j, rfl⟩ : ∃ j, r = nd + (k + 1 + j) := ⟨r - nd - (k + 1), by omega⟩
  rw [N_pow, Nat.pow_add, Nat.pow_succ]
  have e : (10 : Nat) ^ k = 2 ^ k * 5 ^ k := by rw [← Nat.mul_pow]
  rw [e]
  have e2 : N (dig d nd) nd * (2 ^ k * 5 ^ k * 10 * 10 ^ j) = 10 * 2 ^ k * (N (dig d nd) nd * 5 ^ k * 10 ^ j) := by
    generalize (2 : Nat) ^ k = a
    generalize (5 : Nat) ^ k = b
    generalize (10 : Nat) ^ j = c
    grind
  rw [e2, Nat.mul_mod_right]
structure Lead (e : Nat → Nat) (P r0 : Nat) : Prop where
  one : 1 ≤ r0
  lo : N e (r0 - 1) < P
  hi : P ≤ N e r0
theorem Lead.le20 {e : Nat → Nat} {P r0 : Nat} (h : Lead e P r0) (h0 : 1 ≤ e 0) (hP : P ≤ 1152921504606846976) : r0 ≤ 20 := by
  rcases Nat.lt_or_ge 20 r0 with g | g
  · exfalso
    obtain ⟨j, hj⟩ : ∃ j, r0 - 1 = j + 1 := ⟨r0 - 2, by omega⟩
    have h1 := N_big h0 j
    have h2 := h.lo
    rw [hj] at h2
    have h3 : 10 ^ 19 ≤ 10 ^ j := Nat.pow_le_pow_right (by decide) (by omega)
    have h4 : (10 : Nat) ^ 19 = 10000000000000000000 := by decide
    omega
  exact g
structure Rs (d : Nat → Nat) (nd k : Nat) (d' : Nat → Nat) (r0 T W : Nat) : Prop where
  lead : Lead (dig d nd) (2 ^ k) r0
  far : nd ≤ T ∧ r0 ≤ T
  fin : N (dig d nd) T % (10 * 2 ^ k) = 0
  wid : W = min 800 (T - r0)
  dgs : ∀ i, i < W → d' i = 48 + qd (dig d nd) (2 ^ k) r0 i
theorem dig_le {d : Nat → Nat} {nd : Nat} (hd : ∀ i, i < nd → 48 ≤ d i ∧ d i ≤ 57) (i : Nat) : dig d nd i ≤ 9 := by
  unfold dig
  split
  · rename_i h; have := hd i h; omega
  omega
end Dc
open Dc
theorem z7x (v k : Nat) : (v : Int) / 2 ^ k = ((v / 2 ^ k : Nat) : Int) := by rw [Int.natCast_ediv, Int.natCast_pow]; rfl
theorem mask_and (n k : Nat) (hn : n < 18446744073709551616) (hk : k ≤ 60) : Go.bits .and .u64 (n : Int) ((2 ^ k - 1 : Nat) : Int) = ((n % 2 ^ k : Nat) : Int) := by
  have hp : 2 ^ k ≤ 2 ^ 60 := Nat.pow_le_pow_right (by decide) hk
  have h60 : (2 : Nat) ^ 60 = 1152921504606846976 := by decide
  rw [Go.u64_and_nat n (2 ^ k - 1) hn (by omega), Nat.and_two_pow_sub_one_eq_mod]
def RsPost (g B : Nat) (d : Nat → Nat) (nd k : Nat) (dp : Int) (ng tr : Bool) (w : World) (e : Ending) (w' : World) : Prop :=
  e = .returned (.tuple #[]) ∧ Below B w w' ∧ ∃ d' r0 T W, Rs d nd k d' r0 T W ∧ z1d w' g d' (tl d' W : Nat) (dpz (tl d' W) (dp - ((r0 : Int) - 1))) ng (tr || lost (dig d nd) (2 ^ k) r0 (T - r0))
set_option maxRecDepth 100000 in
set_option maxHeartbeats 4000000 in
theorem z7j (w : World) (g B : Nat) (hB : B ≤ g) (d : Nat → Nat) (nd k : Nat) (dp : Int) (ng tr : Bool) (hk1 : 1 ≤ k) (hk : k ≤ 60) (hnd0 : 0 < nd) (hnd : nd ≤ 800) (hdp1 : -100000 ≤ dp) (hdp2 : dp ≤ 100000)
    (hd : ∀ i, i < nd → 48 ≤ d i ∧ d i ≤ 57) (h0 : d 0 ≠ 48) (h : z1d w g d nd dp ng tr) :
    Calls Tryz.prog 169 #[.pointer (some ⟨g, 0, none⟩), .int .u64 k] w (RsPost g B d nd k dp ng tr w) := by
  obtain ⟨P, hP⟩ : ∃ P, P = 2 ^ k := ⟨_, rfl⟩
  have hPp : 0 < P := by rw [hP]; exact Nat.pow_pos (by decide)
  have hP60 : P ≤ 1152921504606846976 := by
    have hp : 2 ^ k ≤ 2 ^ 60 := Nat.pow_le_pow_right (by decide) hk
    have h60 : (2 : Nat) ^ 60 = 1152921504606846976 := by decide
    omega
  have he9 := dig_le hd
  have he0 : 1 ≤ dig d nd 0 := by unfold dig; rw [if_pos hnd0]; have := hd 0 hnd0; omega
  have cnd := h.cnd
  have HD := Lib.hid h
  have HK := Lib.hid hk
  have HdD := Lib.hid hd
  have hshr : ∀ v : Nat, (v : Int) / 2 ^ k = ((v / P : Nat) : Int) := fun v => by rw [hP]; exact z7x v k
  have HShr := Lib.hid hshr
  have HP := Lib.hid hP
  have kI : (k : Int) ≤ 64 := by omega
  have kI0 : (0 : Int) ≤ k := by omega
  clear hP hshr h hd h0
  go_enter Tryz.func169, Tryz.ntmps169
  go_upto_block 0 with (fail)
  go_cut [4, 6] (fun v4 v6 w' => ∃ r0 : Nat, v4 = .int .i64 r0 ∧ v6 = .int .u64 (N (dig d nd) r0 : Nat) ∧ Hid (Lead (dig d nd) P r0) ∧ w = w')
  case first =>
    go_wp2_with fail
    go_loopg [4, 6] nd (fun gn v4 v6 w' => ∃ r : Nat, gn + r = nd ∧ v4 = .int .i64 r ∧ v6 = .int .u64 (N (dig d nd) r : Nat) ∧ Hid (r = 0 ∨ N (dig d nd) (r - 1) < P) ∧ w = w')
    case atStart => exact ⟨0, by omega, rfl, rfl, Lib.hid (Or.inl rfl), rfl⟩
    case round =>
      obtain ⟨r, hg, rfl, rfl, hlo, hww⟩ := hrel
      subst hww
      obtain ⟨n, hn⟩ : ∃ n, n = N (dig d nd) r := ⟨_, rfl⟩
      rw [← hn]
      have hsh := HShr.out n
      obtain ⟨q, hq⟩ : ∃ q, q = n / P := ⟨_, rfl⟩
      rw [← hq] at hsh
      by_cases hge : P ≤ n
      · have hq1 : q ≠ 0 := by
          have : 0 < n / P := Nat.div_pos hge hPp
          omega
        have f1 : ((q : Int) == 0) = false := by simp; omega
        have hLead : Hid (Lead (dig d nd) P r) := Lib.hid ⟨by
          rcases Nat.eq_zero_or_pos r with hr | hr
          · subst hr; rw [show N (dig d nd) 0 = 0 from rfl] at hn; omega
          · exact hr, by
          rcases hlo.out with hr | hr
          · subst hr; rw [show N (dig d nd) 0 = 0 from rfl] at hn; omega
          exact hr, by rw [← hn]; exact hge⟩
        have HN := Lib.hid hn
        clear hn hq hq1 hge hlo
        go_wp2_with fail
        go_meet
        case rel => exact ⟨r, rfl, by rw [HN.out], hLead, rfl⟩
      have hq1 : q = 0 := by rw [hq]; exact Nat.div_eq_of_lt (by omega)
      have f1 : ((q : Int) == 0) = true := by simp [hq1]
      by_cases hr : r < nd
      · have g1 : (r : Int) < nd := by omega
        have g2 : ¬ (nd : Int) ≤ r := by omega
        have g3 : decide ((nd : Int) ≤ (r : Int)) = false := decide_eq_false g2
        have cb := HD.out.byte r (by omega)
        have hb := HdD.out r hr
        have hnx : N (dig d nd) (r + 1) = 10 * n + (d r - 48) := by rw [z1u, ← hn]; unfold dig; rw [if_pos hr]
        obtain ⟨c, hc⟩ : ∃ c, c = d r := ⟨_, rfl⟩
        rw [← hc] at cb hb hnx
        have w1 : IntKind.u64.wrap (IntKind.u64.wrap (IntKind.u64.wrap ((n : Int) * 10) + (c : Int)) - 48) = ((10 * n + (c - 48) : Nat) : Int) := by
          rw [Go.IntKind.wrap_u64, Go.IntKind.wrap_u64, Go.IntKind.wrap_u64]; omega
        have w2 : IntKind.u64.wrap ((n : Int) * 10) = (n : Int) * 10 := by rw [Go.IntKind.wrap_u64]; omega
        have w3 : IntKind.u64.wrap ((n : Int) * 10 + (c : Int)) = (n : Int) * 10 + c := by rw [Go.IntKind.wrap_u64]; omega
        have w4 : IntKind.u64.wrap ((n : Int) * 10 + (c : Int) - 48) = ((10 * n + (c - 48) : Nat) : Int) := by rw [Go.IntKind.wrap_u64]; omega
        have w5 : IntKind.u64.wrap (c : Int) = (c : Int) := by rw [Go.IntKind.wrap_u64]; omega
        obtain ⟨n2, hn2⟩ : ∃ n2, n2 = 10 * n + (c - 48) := ⟨_, rfl⟩
        rw [← hn2] at w1 w4 hnx
        have wr : IntKind.i64.wrap ((r : Int) + 1) = ((r + 1 : Nat) : Int) := by rw [Go.IntKind.wrap_i64]; omega
        have r4 : (r : Int) < 800 := by omega
        have HG := Lib.hid (show gk ≠ 0 ∧ gk - 1 + (r + 1) = nd by omega)
        have hLo : Hid (r + 1 = 0 ∨ N (dig d nd) (r + 1 - 1) < P) := Lib.hid (Or.inr (by rw [Nat.add_sub_cancel, ← hn]; omega))
        have HNX := Lib.hid hnx
        clear hn hq hq1 hge hlo hb hc hn2 hnx hr hg
        go_wp2_with fail
        go_roundg (gk - 1)
        case measure => have := HG.out; omega
        case rel => exact ⟨r + 1, HG.out.2, by go_num, by rw [HNX.out], hLo, rfl⟩
      have hre : r = nd := by omega
      subst hre
      have g3 : decide ((r : Int) ≤ (r : Int)) = true := by simp
      have hn1 : n ≠ 0 := by
        obtain ⟨j, hj⟩ : ∃ j, r = j + 1 := ⟨r - 1, by omega⟩
        have := N_pos he0 j
        rw [← hj, ← hn] at this
        omega
      have f2 : ((n : Int) == 0) = false := by simp; omega
      have hnP : n < P := by omega
      have HN := Lib.hid (show n = N (dig d r) r ∧ 0 < n ∧ n < P ∧ 1 ≤ r from ⟨hn, by omega, hnP, by omega⟩)
      clear hn hq hq1 hge hlo hr hg hn1 hnP
      go_wp2_with fail
      clear HShr hsh
      go_loopg [4, 6] (P - n) (fun gn v4 v6 w' => ∃ r' n' : Nat, v4 = .int .i64 r' ∧ v6 = .int .u64 n' ∧ Hid (gn = P - n' ∧ n' = N (dig d r) r' ∧ 0 < n' ∧ n' < 10 * P ∧ r ≤ r' ∧ r' ≤ r + n' ∧ N (dig d r) (r' - 1) < P) ∧ w = w')
      case atStart => exact ⟨r, n, rfl, rfl, Lib.hid ⟨rfl, HN.out.1, HN.out.2.1, by have := HN.out.2.2.1; omega, Nat.le_refl _, by omega, by
        have h1 := HN.out
        obtain ⟨j, hj⟩ : ∃ j, r = j + 1 := ⟨r - 1, by omega⟩
        rw [hj] at h1 ⊢
        rw [Nat.add_sub_cancel]
        have h2 := z1u (dig d (j + 1)) j
        omega⟩, rfl⟩
      case round =>
        obtain ⟨r', n', rfl, rfl, hH, hww⟩ := hrel
        subst hww
        have hsh2 := z7x n' k
        rw [← HP.out] at hsh2
        obtain ⟨q', hq'⟩ : ∃ q', q' = n' / P := ⟨_, rfl⟩
        rw [← hq'] at hsh2
        have hH2 := hH.out
        by_cases hge : P ≤ n'
        · have hq1 : q' ≠ 0 := by
            have : 0 < n' / P := Nat.div_pos hge hPp
            omega
          have f3 : ((q' : Int) == 0) = false := by simp; omega
          have hLead : Hid (Lead (dig d r) P r') := Lib.hid ⟨by have := HN.out.2.2.2; omega, hH2.2.2.2.2.2.2, by rw [← hH2.2.1]; exact hge⟩
          have HE := Lib.hid hH2.2.1
          clear hH2 hH hq' hq1 hge
          go_wp2_with fail
          go_meet
          case rel => exact ⟨r', rfl, by rw [← HE.out], hLead, rfl⟩
        have hq1 : q' = 0 := by rw [hq']; exact Nat.div_eq_of_lt (by omega)
        have f3 : ((q' : Int) == 0) = true := by simp [hq1]
        have w1 : IntKind.u64.wrap ((n' : Int) * 10) = ((10 * n' : Nat) : Int) := by rw [Go.IntKind.wrap_u64]; omega
        have w2 : IntKind.i64.wrap ((r' : Int) + 1) = ((r' + 1 : Nat) : Int) := by
          have := HN.out
          rw [Go.IntKind.wrap_i64]; omega
        have w3 : (n' : Int) * 10 = ((10 * n' : Nat) : Int) := by omega
        have hN2 : Hid (P - 10 * n' < gk ∧ P - 10 * n' = P - 10 * n' ∧ 10 * n' = N (dig d r) (r' + 1) ∧ 0 < 10 * n' ∧ 10 * n' < 10 * P ∧ r ≤ r' + 1 ∧ r' + 1 ≤ r + 10 * n' ∧ N (dig d r) (r' + 1 - 1) < P) := Lib.hid ⟨by omega, rfl, by rw [N_ext hH2.2.2.2.2.1, ← hH2.2.1], by omega, by omega, by omega, by omega, by rw [Nat.add_sub_cancel, ← hH2.2.1]; omega⟩
        obtain ⟨m, hm⟩ : ∃ m, m = 10 * n' := ⟨_, rfl⟩
        rw [← hm] at w1 w3 hN2
        have w6 : IntKind.u64.wrap (m : Int) = (m : Int) := by rw [Go.IntKind.wrap_u64]; omega
        clear hH2 hH hq' hq1 hge hm
        go_wp2_with fail
        go_roundg (P - m)
        case measure => exact hN2.out.1
        case rel => exact ⟨r' + 1, m, by go_num, rfl, Lib.hid ⟨rfl, hN2.out.2.2⟩, rfl⟩
  obtain ⟨r0, rfl, rfl, hLead, hww⟩ := hcut
  subst hww
  have hr20 := hLead.out.le20 he0 hP60
  have hr1 := hLead.out.one
  have cdp := HD.out.cdp
  have fdp := HD.out.frozen 801
  obtain ⟨dp', hdp'⟩ : ∃ dp' : Int, dp' = dp - ((r0 : Int) - 1) := ⟨_, rfl⟩
  have w1 : IntKind.i64.wrap ((r0 : Int) - 1) = (r0 : Int) - 1 := by rw [Go.IntKind.wrap_i64]; omega
  have w2 : IntKind.i64.wrap (dp - ((r0 : Int) - 1)) = dp' := by rw [hdp', Go.IntKind.wrap_i64]; omega
  obtain ⟨M, hM⟩ : ∃ M, M = P - 1 := ⟨_, rfl⟩
  have w3 : IntKind.u64.wrap ((2 : Int) ^ k) = (P : Int) := by
    have e : ((2 : Int) ^ k) = ((2 ^ k : Nat) : Int) := by rw [Int.natCast_pow]; rfl
    rw [e, ← HP.out, Go.IntKind.wrap_u64]; omega
  have w4 : IntKind.u64.wrap ((P : Int) - 1) = (M : Int) := by rw [Go.IntKind.wrap_u64]; omega
  have w5 : (P : Int) - 1 = (M : Int) := by omega
  have hMask : Hid (∀ n : Nat, n < 18446744073709551616 → Go.bits .and .u64 (n : Int) (M : Int) = ((n % P : Nat) : Int)) := Lib.hid fun n hn => by
    have := mask_and n k hn HK.out
    rw [← HP.out, ← hM] at this
    exact this
  have HDp := Lib.hid hdp'
  have HM := Lib.hid hM
  have hN0 : Hid (N (dig d nd) r0 = N (dig d nd) r0 % (10 * P)) := Lib.hid (by
    refine (Nat.mod_eq_of_lt ?_).symm
    obtain ⟨j, hj⟩ : ∃ j, r0 = j + 1 := ⟨r0 - 1, by omega⟩
    have h1 := hLead.out.lo
    rw [hj, Nat.add_sub_cancel] at h1
    rw [hj, z1u]
    have := he9 j
    omega)
  clear hdp' hM
  go_step
  go_upto_block 4 with (fail)
  go_cut [4, 5, 6] (fun v4 v5 v6 w' => ∃ (r v n : Nat) (d' : Nat → Nat), v4 = .int .i64 r ∧ v5 = .int .i64 v ∧ v6 = .int .u64 n ∧ Hid (v + r0 = r ∧ n = N (dig d nd) r % (10 * P) ∧ nd ≤ r ∧ (r ≤ nd ∨ r = r0) ∧ (∀ i, i < v → d' i = 48 + qd (dig d nd) P r0 i)) ∧ z1d w' g d' nd dp' ng tr ∧ Below B w w')
  case first =>
    go_wp2_with fail
    go_loopg [4, 5, 6] nd (fun gn v4 v5 v6 w' => ∃ (r v n : Nat) (d' : Nat → Nat), v4 = .int .i64 r ∧ v5 = .int .i64 v ∧ v6 = .int .u64 n ∧ Hid (nd - r ≤ gn ∧ v + r0 = r ∧ n = N (dig d nd) r % (10 * P) ∧ (r ≤ nd ∨ r = r0) ∧ (∀ i, i < v → d' i = 48 + qd (dig d nd) P r0 i) ∧ (∀ i, v ≤ i → d' i = d i)) ∧ z1d w' g d' nd dp' ng tr ∧ Below B w w')
    case atStart => exact ⟨r0, 0, N (dig d nd) r0, d, rfl, rfl, rfl, Lib.hid ⟨by omega, by omega, hN0.out, Or.inr rfl, fun i hi => absurd hi (by omega), fun i _ => rfl⟩, HD.out.z4g _, (Below.refl _ _).setCell hB _⟩
    case round =>
      obtain ⟨r, v, n, d', rfl, rfl, rfl, hH, hD', hb⟩ := hrel
      obtain ⟨hgk, hv, hn, hrr, hq, hun⟩ := hH.out
      have cnd' := hD'.cnd
      by_cases hr : r < nd
      · have g1 : (r : Int) < nd := by omega
        have hn10 : n < 10 * P := by rw [hn]; exact Nat.mod_lt _ (by omega)
        have hv800 : v < 800 := by omega
        have cb := hD'.byte r (by omega)
        rw [hun r (by omega)] at cb
        have hby := HdD.out r hr
        have fb := hD'.frozen v
        have cv := hD'.byte v hv800
        generalize d' v = dv at cv
        have hsh := z7x n k
        rw [← HP.out] at hsh
        have hmk := hMask.out n (by omega)
        have hqd : n / P = qd (dig d nd) P r0 v := by rw [hn, ← hv, Nat.add_comm v r0]; exact qd_rest _ _ _ _ hPp
        have hq9 : n / P ≤ 9 := by rw [hqd]; unfold qd; omega
        have hnx := rest_next (e := dig d nd) P r hPp he9
        rw [← hn] at hnx
        have hdg : dig d nd r = d r - 48 := by unfold dig; rw [if_pos hr]
        rw [hdg] at hnx
        have hm : n % P < P := Nat.mod_lt _ hPp
        obtain ⟨q, hqe⟩ : ∃ q, q = n / P := ⟨_, rfl⟩
        obtain ⟨m, hme⟩ : ∃ m, m = n % P := ⟨_, rfl⟩
        obtain ⟨c, hc⟩ : ∃ c, c = d r := ⟨_, rfl⟩
        rw [← hqe] at hsh hqd hq9
        rw [← hme] at hmk hnx hm
        rw [← hc] at cb hby hnx
        obtain ⟨n2, hn2⟩ : ∃ n2, n2 = m * 10 + (c - 48) := ⟨_, rfl⟩
        rw [← hn2] at hnx
        have x1 : IntKind.u64.wrap ((q : Int) + 48) = (q : Int) + 48 := by rw [Go.IntKind.wrap_u64]; omega
        have x2 : IntKind.u8.wrap ((q : Int) + 48) = ((48 + q : Nat) : Int) := by rw [Go.IntKind.wrap_u8]; omega
        have x3 : IntKind.u64.wrap ((m : Int) * 10) = (m : Int) * 10 := by rw [Go.IntKind.wrap_u64]; omega
        have x4 : IntKind.u64.wrap ((m : Int) * 10 + (c : Int)) = (m : Int) * 10 + c := by rw [Go.IntKind.wrap_u64]; omega
        have x5 : IntKind.u64.wrap ((m : Int) * 10 + (c : Int) - 48) = (n2 : Int) := by rw [Go.IntKind.wrap_u64]; omega
        have x6 : IntKind.u64.wrap (c : Int) = (c : Int) := by rw [Go.IntKind.wrap_u64]; omega
        have x7 : ((q : Int) + 48) % 256 = ((48 + q : Nat) : Int) := by omega
        have r4 : (r : Int) < 800 := by omega
        have v4 : (v : Int) < 800 := by omega
        have HR : Hid ((nd - (r + 1) < gk ∧ v + 1 + r0 = r + 1) ∧ n2 = N (dig d nd) (r + 1) % (10 * P) ∧ (r + 1 ≤ nd ∨ r + 1 = r0) ∧ (∀ i, i < v + 1 → upd d' v (48 + q) i = 48 + qd (dig d nd) P r0 i) ∧ (∀ i, v + 1 ≤ i → upd d' v (48 + q) i = d i)) := Lib.hid ⟨⟨by omega, by omega⟩, hnx.symm, Or.inl (by omega), fun i hi => by
          unfold upd
          by_cases e : i = v
          · rw [if_pos e, hqd, e]
          · rw [if_neg e]; exact hq i (by omega), fun i hi => by
          unfold upd
          rw [if_neg (by omega)]; exact hun i (by omega)⟩
        have HD' := Lib.hid hD'
        clear hH hgk hv hn hrr hq hun hr hn10 hqd hq9 hnx hm hqe hme hc hn2 hby hD' hdg cdp fdp cnd
        go_wp2_with fail
        go_roundg (nd - (r + 1))
        case measure => exact HR.out.1.1
        case rel => exact ⟨r + 1, v + 1, n2, upd d' v (48 + q), by go_num, by go_num, rfl, Lib.hid ⟨Nat.le_refl _, HR.out.1.2, HR.out.2.1, HR.out.2.2.1, HR.out.2.2.2.1, HR.out.2.2.2.2⟩, HD'.out.z7w _ _ (by omega), hb.setCell hB _⟩
      have g1 : ¬ (r : Int) < nd := by omega
      have HR : Hid (v + r0 = r ∧ n = N (dig d nd) r % (10 * P) ∧ nd ≤ r ∧ (r ≤ nd ∨ r = r0) ∧ (∀ i, i < v → d' i = 48 + qd (dig d nd) P r0 i)) := Lib.hid ⟨hv, hn, by omega, hrr, hq⟩
      clear hH hgk hv hn hrr hq hun hr
      go_wp2_with fail
      go_meet
      case rel => exact ⟨r, v, n, d', rfl, rfl, rfl, HR, hD', hb⟩
  obtain ⟨r1, v1, n1, d1, rfl, rfl, rfl, hH1, hD1, hb1⟩ := hcut
  clear cnd cdp fdp hN0 w1 w2 w3 w4 w5
  go_step
  go_upto_block 6 with (fail)
  go_cut [5, 6] (fun v5 v6 w' => ∃ (T W : Nat) (d' : Nat → Nat), v5 = .int .i64 W ∧ Hid (nd ≤ T ∧ r0 ≤ T ∧ N (dig d nd) T % (10 * P) = 0 ∧ W = min 800 (T - r0) ∧ (∀ i, i < W → d' i = 48 + qd (dig d nd) P r0 i)) ∧ z1d w' g d' nd dp' ng (tr || lost (dig d nd) P r0 (T - r0)) ∧ Below B w w')
  case first =>
    go_wp2_with fail
    go_loopg [5, 6] (nd + k + 1) (fun gn v5 v6 w' => ∃ (r W n : Nat) (d' : Nat → Nat), v5 = .int .i64 W ∧ v6 = .int .u64 n ∧ Hid (nd + k + 1 - r ≤ gn ∧ nd ≤ r ∧ r0 ≤ r ∧ n = N (dig d nd) r % (10 * P) ∧ W = min 800 (r - r0) ∧ (∀ i, i < W → d' i = 48 + qd (dig d nd) P r0 i)) ∧ z1d w' g d' nd dp' ng (tr || lost (dig d nd) P r0 (r - r0)) ∧ Below B w w')
    case atStart => exact ⟨r1, v1, n1, d1, rfl, rfl, Lib.hid ⟨by omega, hH1.out.2.2.1, by have := hH1.out.1; omega, hH1.out.2.1, by have := hH1.out; omega, hH1.out.2.2.2.2⟩, by
      rw [z8l _ _ _ (r1 - r0) (by have := hH1.out; omega), Bool.or_false]
      exact hD1, hb1⟩
    case round =>
      obtain ⟨r, W, n, d', rfl, rfl, hH, hD', hb⟩ := hrel
      obtain ⟨hgk, hv, hr0, hn, hW, hq⟩ := hH.out
      clear hH1 hD1 hb1
      by_cases hz : n = 0
      · subst hz
        have HR : Hid (nd ≤ r ∧ r0 ≤ r ∧ N (dig d nd) r % (10 * P) = 0 ∧ W = min 800 (r - r0) ∧ (∀ i, i < W → d' i = 48 + qd (dig d nd) P r0 i)) := Lib.hid ⟨hv, hr0, hn.symm, hW, hq⟩
        clear hH hgk hv hr0 hn hW hq
        go_wp2_with fail
        go_meet
        case rel => exact ⟨r, W, d', rfl, HR, hD', hb⟩
      have hrk : r < nd + k + 1 := by
        rcases Nat.lt_or_ge r (nd + k + 1) with h1 | h1
        · exact h1
        have := rest_end d nd k r h1
        rw [← HP.out, ← hn] at this
        exact absurd this hz
      have hn10 : n < 10 * P := by rw [hn]; exact Nat.mod_lt _ (by omega)
      have hsh := z7x n k
      rw [← HP.out] at hsh
      have hmk := hMask.out n (by omega)
      obtain ⟨j, hj⟩ : ∃ j, j = r - r0 := ⟨_, rfl⟩
      have hqd : n / P = qd (dig d nd) P r0 j := by rw [hn, show r = r0 + j by omega]; exact qd_rest _ _ _ _ hPp
      have hq9 : n / P ≤ 9 := by rw [hqd]; unfold qd; omega
      have hnx := rest_next (e := dig d nd) P r hPp he9
      rw [← hn] at hnx
      have hdg : dig d nd r = 0 := by unfold dig; rw [if_neg (by omega)]
      rw [hdg, Nat.add_zero] at hnx
      have hm : n % P < P := Nat.mod_lt _ hPp
      have hj1 : r + 1 - r0 = j + 1 := by omega
      rw [← hj] at hW hD'
      obtain ⟨q, hqe⟩ : ∃ q, q = n / P := ⟨_, rfl⟩
      obtain ⟨m, hme⟩ : ∃ m, m = n % P := ⟨_, rfl⟩
      rw [← hqe] at hsh hqd hq9
      rw [← hme] at hmk hnx hm
      obtain ⟨n2, hn2⟩ : ∃ n2, n2 = m * 10 := ⟨_, rfl⟩
      rw [← hn2] at hnx
      have x1 : IntKind.u64.wrap ((q : Int) + 48) = (q : Int) + 48 := by rw [Go.IntKind.wrap_u64]; omega
      have x2 : IntKind.u8.wrap ((q : Int) + 48) = ((48 + q : Nat) : Int) := by rw [Go.IntKind.wrap_u8]; omega
      have x3 : IntKind.u64.wrap ((m : Int) * 10) = (n2 : Int) := by rw [Go.IntKind.wrap_u64]; omega
      have x7 : ((q : Int) + 48) % 256 = ((48 + q : Nat) : Int) := by omega
      have x8 : (m : Int) * 10 = (n2 : Int) := by omega
      have x9 : IntKind.u64.wrap (n2 : Int) = (n2 : Int) := by rw [Go.IntKind.wrap_u64]; omega
      have g0 : (0 : Int) < n := by omega
      have HN2 : Hid ((nd + k + 1 - (r + 1) < gk ∧ nd ≤ r + 1 ∧ r0 ≤ r + 1) ∧ n2 = N (dig d nd) (r + 1) % (10 * P)) := Lib.hid ⟨⟨by omega, by omega, by omega⟩, hnx.symm⟩
      by_cases h8 : j < 800
      · have hWj : W = j := by omega
        have v4 : (W : Int) < 800 := by omega
        have v5 : W < 800 := by omega
        have cv := hD'.byte W v5
        have fb := hD'.frozen W
        generalize d' W = dv at cv
        have HR : Hid (W + 1 = min 800 (r + 1 - r0) ∧ (∀ i, i < W + 1 → upd d' W (48 + q) i = 48 + qd (dig d nd) P r0 i)) := Lib.hid ⟨by omega, fun i hi => by
          unfold upd
          by_cases e : i = W
          · rw [if_pos e, hqd, e, hWj]
          rw [if_neg e]; exact hq i (by omega)⟩
        have HL : Hid (lost (dig d nd) P r0 (r + 1 - r0) = lost (dig d nd) P r0 j) := Lib.hid (by
          rw [hj1, lost, decide_eq_false (show ¬ 800 ≤ j by omega)]; simp)
        have HD' := Lib.hid hD'
        clear hH hgk hv hr0 hn hW hq hz hrk hn10 hj hqd hq9 hnx hdg hm hj1 hqe hme hn2 h8 hWj hD'
        go_wp2_with fail
        go_roundg (nd + k + 1 - (r + 1))
        case measure => exact HN2.out.1.1
        case rel => exact ⟨r + 1, W + 1, n2, upd d' W (48 + q), by go_num, rfl, Lib.hid ⟨Nat.le_refl _, HN2.out.1.2.1, HN2.out.1.2.2, HN2.out.2, HR.out.1, HR.out.2⟩, by rw [HL.out]; exact HD'.out.z7w _ _ v5, hb.setCell hB _⟩
      have hWj : W = 800 := by omega
      subst hWj
      have HR : Hid (800 = min 800 (r + 1 - r0) ∧ (∀ i, i < 800 → d' i = 48 + qd (dig d nd) P r0 i)) := Lib.hid ⟨by omega, hq⟩
      by_cases hq0 : q = 0
      · have f1 : ¬ (0 : Int) < q := by omega
        have f2 : decide ((0 : Int) < (q : Int)) = false := decide_eq_false f1
        have HL : Hid (lost (dig d nd) P r0 (r + 1 - r0) = lost (dig d nd) P r0 j) := Lib.hid (by
          rw [hj1, lost, ← hqd, decide_eq_false (show ¬ q ≠ 0 by omega)]; simp)
        clear hH hgk hv hr0 hn hW hq hz hrk hn10 hj hqd hq9 hnx hdg hm hj1 hqe hme hn2 h8 hq0
        go_wp2_with fail
        go_roundg (nd + k + 1 - (r + 1))
        case measure => exact HN2.out.1.1
        case rel => exact ⟨r + 1, 800, n2, d', rfl, rfl, Lib.hid ⟨Nat.le_refl _, HN2.out.1.2.1, HN2.out.1.2.2, HN2.out.2, HR.out.1, HR.out.2⟩, by rw [HL.out]; exact hD', hb⟩
      have f1 : (0 : Int) < q := by omega
      have f2 : decide ((0 : Int) < (q : Int)) = true := decide_eq_true f1
      have ctr := hD'.ctr
      have ftr := hD'.frozen 803
      have HL : Hid (lost (dig d nd) P r0 (r + 1 - r0) = true) := Lib.hid (by
        rw [hj1, lost, ← hqd, decide_eq_true hq0, decide_eq_true (show 800 ≤ j by omega)]; simp)
      have HD' := Lib.hid hD'
      generalize (tr || lost (dig d nd) P r0 j) = tr2 at *
      clear hH hgk hv hr0 hn hW hq hz hrk hn10 hj hqd hq9 hnx hdg hm hj1 hqe hme hn2 h8 hq0 hD'
      go_wp2_with fail
      go_roundg (nd + k + 1 - (r + 1))
      case measure => exact HN2.out.1.1
      case rel => exact ⟨r + 1, 800, n2, d', rfl, rfl, Lib.hid ⟨Nat.le_refl _, HN2.out.1.2.1, HN2.out.1.2.2, HN2.out.2, HR.out.1, HR.out.2⟩, by rw [HL.out, Bool.or_true]; exact HD'.out.setTr true, hb.setCell hB _⟩
  obtain ⟨T, W, d', rfl, hH, hD', hb⟩ := hcut
  clear hH1 hD1 hb1
  have cnd := hD'.cnd
  have fnd := hD'.frozen 800
  have hW8 : W ≤ 800 := by have := hH.out.2.2.2.1; omega
  have HTrim := Lib.hid (fun w1 h1 => trim_walk w1 g B hB d' W dp' ng (tr || lost (dig d nd) P r0 (T - r0)) hW8 h1)
  have HRs : Hid (Rs d nd k d' r0 T W) := Lib.hid ⟨by rw [← HP.out]; exact hLead.out, ⟨hH.out.1, hH.out.2.1⟩, by rw [← HP.out]; exact hH.out.2.2.1, hH.out.2.2.2.1, by rw [← HP.out]; exact hH.out.2.2.2.2⟩
  have HD' := Lib.hid (hD'.setNd (W : Int))
  clear hD' hH
  go_step
  go_wp2_with fail
  refine (HTrim.out _ HD'.out).mono ?_
  rintro e w2 ⟨rfl, hb2, hd2⟩
  have HF := Lib.hid hd2
  clear hd2 HTrim
  have hb3 := (hb.setCell (p := ⟨g, 800, none⟩) hB (.int .i64 W)).trans hb2
  go_wp2_with fail
  go_end0
  refine ⟨rfl, hb3, d', r0, T, W, HRs.out, ?_⟩
  rw [← HDp.out, ← HP.out]
  exact HF.out
end Go.Proofs.YtjpiplplohapnaaGreatDoor
namespace Go.Proofs.YtjpiplplohapnaaGreatDoor.Dc
theorem N_div {e : Nat → Nat} (he : ∀ i, e i ≤ 9) (r : Nat) : ∀ j, N e (r + j) / 10 ^ j = N e r
  | 0 => by simp
  | j + 1 => by
    rw [← Nat.add_assoc, z1u, Nat.pow_succ, Nat.mul_comm (10 ^ j) 10, ← Nat.div_div_eq_div_mul]
    have := he (r + j)
    rw [show (10 * N e (r + j) + e (r + j)) / 10 = N e (r + j) by omega]
    exact N_div he r j
def cheatOk (k : Nat) (x : Nat × List UInt8) : Bool :=
  k = 0 || (decide (x.1 + x.2.length = k + 1) && decide (1 ≤ x.2.length) && decide (x.2.foldl (fun a c => 10 * a + (c.toNat - 48)) 0 = 5 ^ k) && x.2.all (fun c => decide (48 ≤ c.toNat) && decide (c.toNat ≤ 57)) && decide (x.2.getLast? ≠ some 48)
    && decide (10 ^ (x.2.length - 1) ≤ 5 ^ k) && decide (5 ^ k < 10 ^ x.2.length) && decide (1 ≤ x.1) && decide (x.1 ≤ 19) && decide (x.2.length ≤ 60))
set_option maxRecDepth 100000 in
theorem cheats_ok : ∀ k : Fin 61, ∃ x, Pinned.cheatRows[k.val]? = some x ∧ cheatOk k.val x = true := by decide +kernel
structure Cheat (k : Nat) (x : Nat × List UInt8) : Prop where
  sum : x.1 + x.2.length = k + 1
  one : 1 ≤ x.2.length
  val : x.2.foldl (fun a c => 10 * a + (c.toNat - 48)) 0 = 5 ^ k
  dgs : ∀ c ∈ x.2, 48 ≤ c.toNat ∧ c.toNat ≤ 57
  last : x.2.getLast? ≠ some 48
  lo : 10 ^ (x.2.length - 1) ≤ 5 ^ k
  hi : 5 ^ k < 10 ^ x.2.length
  d1 : 1 ≤ x.1
  d2 : x.1 ≤ 19
  len : x.2.length ≤ 60
theorem cheat_row (k : Nat) (h1 : 1 ≤ k) (h2 : k ≤ 60) : ∃ x, Pinned.cheatRows[k]? = some x ∧ Cheat k x := by
  obtain ⟨x, hx, hc⟩ := cheats_ok ⟨k, by omega⟩
  refine ⟨x, hx, ?_⟩
  unfold cheatOk at hc
  rw [show decide ((⟨k, by omega⟩ : Fin 61).val = 0) = false from decide_eq_false (by show ¬ k = 0; omega), Bool.false_or] at hc
  simp only [Bool.and_eq_true, decide_eq_true_eq, List.all_eq_true] at hc
  obtain ⟨⟨⟨⟨⟨⟨⟨⟨⟨a1, a2⟩, a3⟩, a4⟩, a5⟩, a6⟩, a7⟩, a8⟩, a9⟩, a10⟩ := hc
  exact ⟨a1, a2, a3, a4, a5, a6, a7, a8, a9, a10⟩
theorem width_more {X k L nd dl : Nat} (hnd : 1 ≤ nd) (hX1 : 10 ^ (nd - 1) ≤ X) (hX2 : X < 10 ^ nd) (hs : dl + L = k + 1) (hL : 1 ≤ L) (lo : 10 ^ (L - 1) ≤ 5 ^ k) (h : 5 ^ k * 10 ^ nd ≤ X * 10 ^ L) : 10 ^ (nd + dl - 1) ≤ X * 2 ^ k ∧ X * 2 ^ k < 10 ^ (nd + dl) := by
  have e10 : (10 : Nat) ^ k = 2 ^ k * 5 ^ k := by rw [← Nat.mul_pow]
  constructor
  · have h2 := Nat.mul_le_mul_right (2 ^ k) h
    have e1 : 5 ^ k * 10 ^ nd * 2 ^ k = 10 ^ (nd + dl - 1) * 10 ^ L := by
      rw [← Nat.pow_add, show nd + dl - 1 + L = nd + k by omega, Nat.pow_add, e10]
      generalize (10 : Nat) ^ nd = a
      generalize (5 : Nat) ^ k = b
      generalize (2 : Nat) ^ k = c
      grind
    have e2 : X * 10 ^ L * 2 ^ k = X * 2 ^ k * 10 ^ L := Nat.mul_right_comm _ _ _
    rw [e1, e2] at h2
    exact Nat.le_of_mul_le_mul_right h2 (Nat.pow_pos (by decide))
  have h2 : 2 ^ k ≤ 10 ^ dl := by
    have h3 := Nat.mul_le_mul_left (2 ^ k) lo
    rw [← e10] at h3
    have e3 : (10 : Nat) ^ k = 10 ^ dl * 10 ^ (L - 1) := by rw [← Nat.pow_add]; congr 1; omega
    rw [e3] at h3
    exact Nat.le_of_mul_le_mul_right h3 (Nat.pow_pos (by decide))
  rw [Nat.pow_add]
  exact Nat.lt_of_lt_of_le (Nat.mul_lt_mul_of_pos_right hX2 (Nat.pow_pos (by decide))) (Nat.mul_le_mul_left _ h2)
theorem width_less {X k L nd dl : Nat} (hnd : 1 ≤ nd) (hX1 : 10 ^ (nd - 1) ≤ X) (hs : dl + L = k + 1) (hd : 1 ≤ dl) (hi : 5 ^ k < 10 ^ L) (h : X * 10 ^ L < 5 ^ k * 10 ^ nd) : 10 ^ (nd + (dl - 1) - 1) ≤ X * 2 ^ k ∧ X * 2 ^ k < 10 ^ (nd + (dl - 1)) := by
  have e10 : (10 : Nat) ^ k = 2 ^ k * 5 ^ k := by rw [← Nat.mul_pow]
  constructor
  · have h2 : 10 ^ (dl - 1) ≤ 2 ^ k := by
      have h3 := Nat.mul_le_mul_left (2 ^ k) (Nat.le_of_lt hi)
      rw [← e10] at h3
      have e3 : (10 : Nat) ^ k = 10 ^ (dl - 1) * 10 ^ L := by rw [← Nat.pow_add]; congr 1; omega
      rw [e3] at h3
      exact Nat.le_of_mul_le_mul_right h3 (Nat.pow_pos (by decide))
    rw [show nd + (dl - 1) - 1 = nd - 1 + (dl - 1) by omega, Nat.pow_add]
    exact Nat.mul_le_mul hX1 h2
  have h2 := Nat.mul_lt_mul_of_pos_right h (Nat.pow_pos (a := 2) (n := k) (by decide))
  have e1 : 5 ^ k * 10 ^ nd * 2 ^ k = 10 ^ (nd + (dl - 1)) * 10 ^ L := by
    rw [← Nat.pow_add, show nd + (dl - 1) + L = nd + k by omega, Nat.pow_add, e10]
    generalize (10 : Nat) ^ nd = a
    generalize (5 : Nat) ^ k = b
    generalize (2 : Nat) ^ k = c
    grind
  have e2 : X * 10 ^ L * 2 ^ k = X * 2 ^ k * 10 ^ L := Nat.mul_right_comm _ _ _
  rw [e1, e2] at h2
  exact Nat.lt_of_mul_lt_mul_right h2
theorem lead_cmp {e : Nat → Nat} (he : ∀ i, e i ≤ 9) {nd L C : Nat} (hz : ∀ i, nd ≤ i → e i = 0) : (C ≤ N e L → C * 10 ^ nd ≤ N e nd * 10 ^ L) ∧ (N e L < C → N e nd * 10 ^ L < C * 10 ^ nd) := by
  have ext : ∀ j, N e (nd + j) = N e nd * 10 ^ j := by
    intro j
    induction j with
    | zero => simp
    | succ j ih => rw [← Nat.add_assoc, z1u, hz (nd + j) (by omega), ih, Nat.pow_succ]; rw [Nat.add_zero, Nat.mul_comm 10, Nat.mul_assoc]
  have key : N e L = N e nd * 10 ^ L / 10 ^ nd := by
    have h1 := N_div he L nd
    rw [Nat.add_comm L nd, ext L] at h1
    exact h1.symm
  have hp : 0 < 10 ^ nd := Nat.pow_pos (by decide)
  constructor
  · intro h
    rw [key] at h
    exact (Nat.le_div_iff_mul_le hp).1 h
  intro h
  rw [key] at h
  exact (Nat.div_lt_iff_lt_mul hp).1 h
def cr (X P j : Nat) : Nat := X % 10 ^ j * P / 10 ^ j
theorem cr_zero (X P : Nat) : cr X P 0 = 0 := by unfold cr; simp [Nat.mod_one]
theorem cr_lt (X P j : Nat) (hP : 0 < P) : cr X P j < P := by
  unfold cr
  have hp : 0 < 10 ^ j := Nat.pow_pos (by decide)
  rw [Nat.div_lt_iff_lt_mul hp, Nat.mul_comm P]
  exact Nat.mul_lt_mul_of_pos_right (Nat.mod_lt _ hp) hP
theorem mod_succ (X j : Nat) : X % 10 ^ (j + 1) = X / 10 ^ j % 10 * 10 ^ j + X % 10 ^ j := by
  have := Nat.mod_pow_succ (x := X) (b := 10) (k := j)
  rw [this, Nat.mul_comm]; omega
theorem cr_sum (X P j : Nat) : cr X P j + X / 10 ^ j % 10 * P = X % 10 ^ (j + 1) * P / 10 ^ j := by
  have hp : 0 < 10 ^ j := Nat.pow_pos (by decide)
  unfold cr
  rw [mod_succ, Nat.add_mul, Nat.mul_right_comm, Nat.mul_comm _ (10 ^ j), Nat.mul_add_div hp]
  omega
theorem cr_next (X P j : Nat) : (cr X P j + X / 10 ^ j % 10 * P) / 10 = cr X P (j + 1) := by
  rw [cr_sum, Nat.div_div_eq_div_mul, ← Nat.pow_succ]
  rfl
theorem cr_digit (X P j : Nat) : (cr X P j + X / 10 ^ j % 10 * P) % 10 = X * P / 10 ^ j % 10 := by
  rw [cr_sum]
  have h1 : X % 10 ^ (j + 1) * P % 10 ^ (j + 1) = X * P % 10 ^ (j + 1) := Nat.mod_mul_mod _ _ _
  have key : ∀ a : Nat, a / 10 ^ j % 10 = a % 10 ^ (j + 1) / 10 ^ j := by
    intro a
    rw [Nat.pow_succ, Nat.mod_mul_right_div_self]
  rw [key, key, h1]
theorem cr_end {X P nd : Nat} (h : X < 10 ^ nd) (j : Nat) (hj : nd ≤ j) : cr X P j = X * P / 10 ^ j := by
  unfold cr
  rw [Nat.mod_eq_of_lt (Nat.lt_of_lt_of_le h (Nat.pow_le_pow_right (by decide) hj))]
def z2w (Y : Nat) (L : Nat) : Nat → Bool
  | 0 => false
  | j + 1 => z2w Y L j || (decide (800 ≤ L - (j + 1)) && decide (Y / 10 ^ j % 10 ≠ 0))
end Go.Proofs.YtjpiplplohapnaaGreatDoor.Dc
namespace Go.Proofs.YtjpiplplohapnaaGreatDoor
open Go.RowKit Go.Proofs.YtjpiplplohapnaaGreatDoorW.PrintWords
namespace Dc
def ld (l : List UInt8) (i : Nat) : Nat := (l.getD i 48).toNat - 48
theorem ld_N (l : List UInt8) : ∀ r, r ≤ l.length → N (ld l) r = (l.take r).foldl (fun a c => 10 * a + (c.toNat - 48)) 0
  | 0, _ => rfl
  | r + 1, h => by
    rw [z1u, ld_N l r (by omega), List.take_add_one, List.foldl_append]
    have e : l[r]? = some (l.getD r 48) := by
      rw [List.getD_eq_getElem?_getD, List.getElem?_eq_getElem (by omega)]; rfl
    rw [e]
    rfl
theorem ld_all (l : List UInt8) : N (ld l) l.length = l.foldl (fun a c => 10 * a + (c.toNat - 48)) 0 := by
  rw [ld_N l _ (Nat.le_refl _), List.take_length]
theorem ld_le {l : List UInt8} (h : ∀ c ∈ l, 48 ≤ c.toNat ∧ c.toNat ≤ 57) (i : Nat) : ld l i ≤ 9 := by
  unfold ld
  rw [List.getD_eq_getElem?_getD]
  by_cases hi : i < l.length
  · rw [List.getElem?_eq_getElem hi]
    have := h l[i] (List.getElem_mem hi)
    show (l[i]).toNat - 48 ≤ 9
    omega
  rw [List.getElem?_eq_none (by omega)]
  show (48 : UInt8).toNat - 48 ≤ 9
  decide
theorem z9f {e f : Nat → Nat} (he : ∀ i, e i ≤ 9) (hf : ∀ i, f i ≤ 9) {i L : Nat} (h : N e i = N f i) (hi : i < L) (hlt : e i < f i) : N e L < N f L := by
  obtain ⟨j, rfl⟩ : ∃ j, L = i + 1 + j := ⟨L - i - 1, by omega⟩
  have h1 := N_div he (i + 1) j
  have h2 := N_div hf (i + 1) j
  rw [z1u] at h1 h2
  rcases Nat.lt_or_ge (N e (i + 1 + j)) (N f (i + 1 + j)) with g | g
  · exact g
  have := Nat.div_le_div_right (c := 10 ^ j) g
  omega
theorem cmp_short {e f : Nat → Nat} (he : ∀ i, e i ≤ 9) (hf : ∀ i, f i ≤ 9) {i L : Nat} (h : N e i = N f i) (hi : i < L) (hz : ∀ j, i ≤ j → e j = 0) (hl : f (L - 1) ≠ 0) : N e L < N f L := by
  obtain ⟨j, rfl⟩ : ∃ j, L = i + j + 1 := ⟨L - i - 1, by omega⟩
  have h1 := N_div hf i (j + 1)
  have ext : ∀ j, N e (i + j) = N e i * 10 ^ j := by
    intro j
    induction j with
    | zero => simp
    | succ j ih => rw [← Nat.add_assoc, z1u, hz (i + j) (by omega), ih, Nat.pow_succ]; rw [Nat.add_zero, Nat.mul_comm 10, Nat.mul_assoc]
  have h2 := ext (j + 1)
  rw [← Nat.add_assoc] at h1 h2
  rw [h2, h, ← h1]
  have h3 := Nat.div_mul_le_self (N f (i + j + 1)) (10 ^ (j + 1))
  have h4 : N f (i + j + 1) / 10 ^ (j + 1) * 10 ^ (j + 1) % 10 = 0 := by rw [Nat.pow_succ, ← Nat.mul_assoc, Nat.mul_mod_left]
  have h5 : N f (i + j + 1) % 10 = f (i + j) := by rw [z1u]; have := hf (i + j); omega
  rw [Nat.add_sub_cancel] at hl
  omega
end Dc
open Dc
set_option maxRecDepth 100000 in
set_option maxHeartbeats 2000000 in
theorem prefix_walk (w : World) (g : Nat) (d : Nat → Nat) (nd : Nat) (dp : Int) (ng tr : Bool) (hnd : nd ≤ 800) (hd : ∀ i, i < nd → 48 ≤ d i ∧ d i ≤ 57) (h : z1d w g d nd dp ng tr) (s : ByteArray) (hs : s.size ≤ 60) (hs0 : 1 ≤ s.size)
    (hsd : ∀ c ∈ s.data.toList, 48 ≤ c.toNat ∧ c.toNat ≤ 57) (hl : ld s.data.toList (s.size - 1) ≠ 0) :
    Calls Tryz.prog 188 #[.slice (some ⟨g, 0, none⟩) nd 800, .string s] w fun e w' => e = .returned (.bool (decide (N (dig d nd) s.size < N (ld s.data.toList) s.size))) ∧ ∃ n, w' = w.drewN n := by
  have he9 := dig_le hd
  have hf9 := ld_le hsd
  have HD := Lib.hid h
  have HdD := Lib.hid hd
  have HSD := Lib.hid hsd
  have HL := Lib.hid hl
  have hlen : s.data.toList.length = s.size := Array.length_toList
  obtain ⟨ans, hans⟩ : ∃ b, b = decide (N (dig d nd) s.size < N (ld s.data.toList) s.size) := ⟨_, rfl⟩
  have HA := Lib.hid hans
  rw [← hans]
  clear hans h hd hsd hl
  go_enter Tryz.func188, Tryz.ntmps188
  go_wp2_with fail
  go_loopg [5] s.size (fun gn v5 w' => ∃ i m : Nat, gn + i = s.size ∧ v5 = .int .i64 i ∧ Hid (N (dig d nd) i = N (ld s.data.toList) i) ∧ z1d w' g d nd dp ng tr ∧ Hid (w' = w.drewN m))
  case atStart => exact ⟨0, 0, by omega, rfl, Lib.hid rfl, HD.out, Lib.hid rfl⟩
  case round =>
    obtain ⟨i, m, hg, rfl, hN, hD', hw⟩ := hrel
    by_cases hi : i < s.size
    · have g1 : (i : Int) < s.size := by omega
      by_cases hin : i < nd
      · have g2 : ¬ (nd : Int) ≤ i := by omega
        have g3 : decide ((nd : Int) ≤ (i : Int)) = false := decide_eq_false g2
        have g4 : (i : Int) < nd := by omega
        have cb : wr.cell? ⟨g, i, none⟩ = some (.int .u8 (d i : Nat)) := hD'.byte i (by omega)
        have hde : dig d nd i = d i - 48 := by unfold dig; rw [if_pos hin]
        have hdb := HdD.out i hin
        have hle : ld s.data.toList i = s[i].toNat - 48 := by
          unfold ld
          rw [List.getD_eq_getElem?_getD, List.getElem?_eq_getElem (by rw [hlen]; exact hi)]; rfl
        have hsb : 48 ≤ s[i].toNat ∧ s[i].toNat ≤ 57 := HSD.out s[i] (by
          have : s[i] = s.data.toList[i]'(by rw [hlen]; exact hi) := rfl
          rw [this]; exact List.getElem_mem _)
        obtain ⟨c, hc⟩ : ∃ c, c = d i := ⟨_, rfl⟩
        obtain ⟨b, hb⟩ : ∃ b, b = s[i].toNat := ⟨_, rfl⟩
        have hbI : ((s[i].toNat : Nat) : Int) = (b : Int) := by rw [hb]
        rw [← hc] at cb hde hdb
        rw [← hb] at hle hsb
        by_cases hcb : c = b
        · have f1 : ((c : Int) != (b : Int)) = false := by simp [hcb]
          have HR : Hid (gk ≠ 0 ∧ gk - 1 + (i + 1) = s.size ∧ N (dig d nd) (i + 1) = N (ld s.data.toList) (i + 1)) := Lib.hid ⟨by omega, by omega, by rw [z1u, z1u, hN.out, hde, hle, hcb]⟩
          clear hg hde hle hdb hsb hcb hc hb hin
          go_wp2_with fail
          go_quiet (fail)
          go_wp2_with fail
          go_roundg (gk - 1)
          case measure => have := HR.out; omega
          case rel => exact ⟨i + 1, _, HR.out.2.1, by go_num, Lib.hid HR.out.2.2, hD'.drewN _, Lib.hid (by rw [hw.out]; exact World.drewN_drewN _ _ _)⟩
        have f1 : ((c : Int) != (b : Int)) = true := by simp; omega
        by_cases hlt : c < b
        · have f2 : (c : Int) < b := by omega
          have f3 : decide ((c : Int) < (b : Int)) = true := decide_eq_true f2
          have f4 : decide (c < b) = true := decide_eq_true hlt
          have HAns : Hid (ans = true) := Lib.hid (HA.out.trans (decide_eq_true (z9f he9 hf9 hN.out hi (by omega))))
          clear hg hde hle hdb hsb hcb hc hb hin hlt
          go_wp2_with fail
          go_quiet (fail)
          go_wp2_with fail
          go_quiet (fail)
          go_wp2_with fail
          go_ret
          exact ⟨by rw [HAns.out]; rfl, _, by rw [hw.out]; first | exact World.drewN_drewN _ _ _ | exact (World.drewN_drewN _ _ _).trans (congrArg _ rfl) | (rw [World.drewN_drewN, World.drewN_drewN])⟩
        have f2 : ¬ (c : Int) < b := by omega
        have f3 : decide ((c : Int) < (b : Int)) = false := decide_eq_false f2
        have f4 : decide (c < b) = false := decide_eq_false hlt
        have HAns : Hid (ans = false) := Lib.hid (HA.out.trans (decide_eq_false (by
          have := z9f hf9 he9 hN.out.symm hi (by omega)
          omega)))
        clear hg hde hle hdb hsb hcb hc hb hin hlt
        go_wp2_with fail
        go_quiet (fail)
        go_wp2_with fail
        go_quiet (fail)
        go_wp2_with fail
        go_ret
        exact ⟨by rw [HAns.out]; rfl, _, by rw [hw.out]; first | exact World.drewN_drewN _ _ _ | exact (World.drewN_drewN _ _ _).trans (congrArg _ rfl) | (rw [World.drewN_drewN, World.drewN_drewN])⟩
      have g2 : (nd : Int) ≤ i := by omega
      have g3 : decide ((nd : Int) ≤ (i : Int)) = true := decide_eq_true g2
      have HAns : Hid (ans = true) := Lib.hid (HA.out.trans (decide_eq_true (cmp_short he9 hf9 hN.out hi (fun j hj => by unfold dig; rw [if_neg (by omega)]) HL.out)))
      clear hg hin
      go_wp2_with fail
      go_ret
      exact ⟨by rw [HAns.out]; rfl, _, hw.out⟩
    have g1 : ¬ (i : Int) < s.size := by omega
    have HAns : Hid (ans = false) := Lib.hid (HA.out.trans (decide_eq_false (by
      have e : i = s.size := by omega
      have := hN.out
      rw [e] at this
      omega)))
    clear hg hi
    go_wp2_with fail
    go_ret
    exact ⟨by rw [HAns.out]; rfl, _, hw.out⟩
end Go.Proofs.YtjpiplplohapnaaGreatDoor
