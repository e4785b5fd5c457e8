/- Part 4 of the proof: Wx. -/
import Derived.Test.YtjpiplplohapnaaGreatDoorPl3
import Derived.WalkLawsBesides
import Derived.WalkSpells
import Derived.WalkMore
import Derived.Outline
import Derived.Lib.Hide
import Derived.Laws.FloatArith
set_option linter.unusedVariables false
set_option linter.unusedSimpArgs false
namespace Go.Proofs.YtjpiplplohapnaaGreatDoor
open Go.RowKit Go.Proofs.YtjpiplplohapnaaGreatDoorW.PrintWords Nr Us
theorem neg_word (r : Nat) (h : r < 9223372036854775808) : Op.negFloat .f64 r = 9223372036854775808 + r := by
  show r ^^^ 9223372036854775808 = 9223372036854775808 + r
  have e : (9223372036854775808 : Nat) = 2 ^ 63 := by decide
  have h2 := Nat.two_pow_add_eq_or_of_lt (i := 63) (b := r) (by omega) 1
  rw [Nat.mul_one, ← e] at h2
  rw [h2]
  apply Nat.eq_of_testBit_eq
  intro i
  rw [Nat.testBit_xor, Nat.testBit_or, e, Nat.testBit_two_pow]
  by_cases hi : 63 = i
  · subst hi
    rw [Nat.testBit_lt_two_pow (by omega)]
    simp
  simp [hi]
theorem run_neg (r : Nat) (h : r < 9223372036854775808) (W : World) : (Op.unary .neg (.float .f64 r)).run Tryz.prog W = .ok (.float .f64 (Ieee.double.word true r)) W := by
  show Result.ok (Value.float .f64 (Op.negFloat .f64 r)) W = _
  rw [neg_word r h, word_eq]
  rfl
theorem run_mul {x y z : Nat} (h : Ieee.double.mul x y = some z) (W : World) : (binOp .mul 22 (.float .f64 x) (.float .f64 y)).run Tryz.prog W = .ok (.float .f64 z) W := run_float_arith W .mul 22 .f64 x y z h
theorem run_quo {x y z : Nat} (h : Ieee.double.div x y = some z) (W : World) : (binOp .quo 22 (.float .f64 x) (.float .f64 y)).run Tryz.prog W = .ok (.float .f64 z) W := run_float_arith W .quo 22 .f64 x y z h
theorem word_false (r : Nat) : Ieee.double.word false r = r := by rw [word_eq]; simp
theorem gtr_word (s t : Bool) (a b : Nat) (ha : a < 9218868437227405312) (hb : b < 9218868437227405312) : (FloatKind.f64.format.order (Ieee.double.word s a) (Ieee.double.word t b) == some .gt) = decide (wV t b < wV s a) := by
  show (Ieee.double.order _ _ == some .gt) = _
  rw [order_word s t a b ha hb]
  rcases Int.lt_trichotomy (wV s a) (wV t b) with h | h | h
  · rw [cmp_lt h, decide_eq_false (by omega)]; rfl
  · rw [h, cmp_eq, decide_eq_false (by omega)]; rfl
  rw [cmp_gt h, decide_eq_true h]; rfl
theorem lss_word (s t : Bool) (a b : Nat) (ha : a < 9218868437227405312) (hb : b < 9218868437227405312) : (FloatKind.f64.format.order (Ieee.double.word s a) (Ieee.double.word t b) == some .lt) = decide (wV s a < wV t b) := by
  show (Ieee.double.order _ _ == some .lt) = _
  rw [order_word s t a b ha hb]
  rcases Int.lt_trichotomy (wV s a) (wV t b) with h | h | h
  · rw [cmp_lt h, decide_eq_true h]; rfl
  · rw [h, cmp_eq, decide_eq_false (by omega)]; rfl
  rw [cmp_gt h, decide_eq_false (by omega)]; rfl
def ExPost (d : Nat) (p : Int) (ng : Bool) (w : World) (e : Ending) (w' : World) : Prop :=
  Below w.heap.size w w' ∧ ∃ x ok, e = .returned (.tuple #[.float .f64 x, .bool ok]) ∧ (ok = true → ∃ r, Near (dN d p) (dD p) r ∧ r < 9218868437227405312 ∧ x = Ieee.double.word ng r)
theorem f10_cell {w : World} (hL : Laid w) (k : Nat) (hk : k < 23) : ∃ a : Addr, w.cell? ⟨10, 0, none⟩ = some (.slice (some a) 23 23) ∧ w.cell? (a.add k) = some (.float .f64 (Ieee.double.word false (f10tab.getD k 0))) := by
  obtain ⟨a, h1, h2⟩ := hL.f10Cell
  exact ⟨a, h1, by rw [word_false]; exact h2 k hk⟩
set_option maxRecDepth 100000 in
set_option maxHeartbeats 1000000 in
theorem exact_big (w : World) (hL : Laid w) (d : Nat) (hd : 4503599627370496 ≤ d) (p : Int) (ng : Bool) : Calls Tryz.prog 152 #[.int .u64 d, .int .i64 p, .bool ng] w (ExPost d p ng w) := by
  obtain ⟨i0, i1, i2⟩ := hL.infCell
  have c : ((d : Int) / 4503599627370496 != 0) = true := by simp; omega
  clear hL hd
  go_enter Tryz.func152, Tryz.ntmps152
  go_wp2_with fail
  go_ret2
  exact ⟨Below.refl _ _, 0, false, rfl, fun h => by cases h⟩
theorem exact_none {d : Nat} {p : Int} {ng : Bool} {w : World} (x : Nat) : ExPost d p ng w (.returned (.tuple #[.float .f64 x, .bool false])) w := ⟨Below.refl _ _, x, false, rfl, fun h => by cases h⟩
theorem exact_some {d : Nat} {p : Int} {ng : Bool} {w : World} {r : Nat} (x : Nat) (h : Hid ((Near (dN d p) (dD p) r ∧ r < 9218868437227405312) ∧ x = Ieee.double.word ng r)) : ExPost d p ng w (.returned (.tuple #[.float .f64 x, .bool true])) w :=
  ⟨Below.refl _ _, x, true, rfl, fun _ => ⟨r, h.out.1.1, h.out.1.2, h.out.2⟩⟩
set_option maxRecDepth 100000 in
set_option maxHeartbeats 1000000 in
theorem exact_zero_false (w : World) (hL : Laid w) (d : Nat) (hd : d < 4503599627370496) : Calls Tryz.prog 152 #[.int .u64 d, .int .i64 0, .bool false] w (ExPost d 0 false w) := by
  obtain ⟨i0, i1, i2⟩ := hL.infCell
  have c : ((d : Int) / 4503599627370496 != 0) = false := by simp; omega
  obtain ⟨f, hV, hlt, hpos, hf⟩ := int_float d (by omega)
  obtain ⟨X, hX⟩ : ∃ X, X = Ieee.double.word false f := ⟨_, rfl⟩
  have HE : Hid ((Near (dN d 0) (dD 0) f ∧ f < 9218868437227405312) ∧ X = Ieee.double.word false f) := Lib.hid ⟨exact_id hd hV, hX⟩
  clear hL hd hV hpos
  rw [← word_false f, ← hX] at hf
  clear hX
  go_enter Tryz.func152, Tryz.ntmps152
  go_wp2_with fail
  go_ret2
  exact exact_some _ HE
set_option maxRecDepth 100000 in
set_option maxHeartbeats 1000000 in
theorem exact_zero_true (w : World) (hL : Laid w) (d : Nat) (hd : d < 4503599627370496) : Calls Tryz.prog 152 #[.int .u64 d, .int .i64 0, .bool true] w (ExPost d 0 true w) := by
  obtain ⟨i0, i1, i2⟩ := hL.infCell
  have c : ((d : Int) / 4503599627370496 != 0) = false := by simp; omega
  obtain ⟨f, hV, hlt, hpos, hf⟩ := int_float d (by omega)
  obtain ⟨X, hX⟩ : ∃ X, X = Ieee.double.word true f := ⟨_, rfl⟩
  have HE : Hid ((Near (dN d 0) (dD 0) f ∧ f < 9218868437227405312) ∧ X = Ieee.double.word true f) := Lib.hid ⟨exact_id hd hV, hX⟩
  clear hL hd hV hpos
  have hn := run_neg f (by omega)
  rw [← hX] at hn
  clear hX
  go_enter Tryz.func152, Tryz.ntmps152
  go_wp2_with fail
  go_ret2
  exact exact_some _ HE
theorem far_word (ng : Bool) (r : Nat) (hr : r < 9218868437227405312) : ∃ b1 b2 : Bool, (FloatKind.f64.format.order (Ieee.double.word ng r) 4831355200913801216 == some .gt) = b1 ∧ (FloatKind.f64.format.order (Ieee.double.word ng r) 14054727237768577024 == some .lt) = b2 ∧ ((b1 = false ∧ b2 = false) → V r ≤ V 4831355200913801216) := by
  have h1 := gtr_word ng false r 4831355200913801216 hr (by decide)
  have h2 := lss_word ng true r 4831355200913801216 hr (by decide)
  rw [word_false] at h1
  rw [show Ieee.double.word true 4831355200913801216 = 14054727237768577024 by rw [word_eq]; rfl] at h2
  refine ⟨_, _, h1, h2, fun ⟨g1, g2⟩ => ?_⟩
  have g1 := of_decide_eq_false g1
  have g2 := of_decide_eq_false g2
  unfold wV at g1 g2
  cases ng
  · rw [if_neg (by decide), if_neg (by decide)] at g1
    omega
  rw [if_pos rfl, if_pos rfl] at g2
  omega
set_option maxRecDepth 100000 in
set_option maxHeartbeats 2000000 in
theorem exact_up_false (w : World) (hL : Laid w) (d : Nat) (hd : d < 4503599627370496) (hd0 : d ≠ 0) (k : Nat) (hk : k < 23) (hk0 : 0 < k) : Calls Tryz.prog 152 #[.int .u64 d, .int .i64 k, .bool false] w (ExPost d k false w) := by
  obtain ⟨i0, i1, i2⟩ := hL.infCell
  have c : ((d : Int) / 4503599627370496 != 0) = false := by simp; omega
  obtain ⟨f, hV, hlt, hpos, hf⟩ := int_float d (by omega)
  obtain ⟨a, hc1, hc2⟩ := f10_cell hL k hk
  obtain ⟨v1, v2, v3⟩ := f10_V k hk
  obtain ⟨r, hr, hm⟩ := mul_near false false f (f10tab.getD k 0) (by omega) v2
  have hx := exact_mul hd hk hV hr
  rw [Nat.min_eq_left (by omega), show (false ^^ false) = false from rfl] at hm
  have hm := run_mul hm
  obtain ⟨X, hX⟩ : ∃ X, X = Ieee.double.word false r := ⟨_, rfl⟩
  rw [← hX] at hm
  have HE : Hid ((Near (dN d k) (dD k) r ∧ r < 9218868437227405312) ∧ X = Ieee.double.word false r) := Lib.hid ⟨hx, hX⟩
  obtain ⟨b1, b2, o1, o2, -⟩ := far_word false f (by omega)
  clear hX hx hr v1 v2 v3 hL hV hpos
  generalize Ieee.double.word false (f10tab.getD k 0) = T at *
  rw [← word_false f] at hf
  generalize Ieee.double.word false f = F at *
  have k1 : (0 : Int) < k := by omega
  have k2 : (k : Int) ≤ 37 := by omega
  have k3 : ¬ (22 : Int) < k := by omega
  have k4 : (k : Int) < 23 := by omega
  have k5 : ((k : Int) == 0) = false := by simp; omega
  have k6 : (0 : Int) ≤ k := by omega
  clear hd hd0 hlt
  cases b1
  · cases b2
    · go_enter Tryz.func152, Tryz.ntmps152
      go_wp2_with fail
      go_ret2
      exact exact_some _ HE
    go_enter Tryz.func152, Tryz.ntmps152
    go_wp2_with fail
    go_ret2
    exact exact_none _
  go_enter Tryz.func152, Tryz.ntmps152
  go_wp2_with fail
  go_ret2
  exact exact_none _
set_option maxRecDepth 100000 in
set_option maxHeartbeats 2000000 in
theorem exact_up_true (w : World) (hL : Laid w) (d : Nat) (hd : d < 4503599627370496) (hd0 : d ≠ 0) (k : Nat) (hk : k < 23) (hk0 : 0 < k) : Calls Tryz.prog 152 #[.int .u64 d, .int .i64 k, .bool true] w (ExPost d k true w) := by
  obtain ⟨i0, i1, i2⟩ := hL.infCell
  have c : ((d : Int) / 4503599627370496 != 0) = false := by simp; omega
  obtain ⟨f, hV, hlt, hpos, hf⟩ := int_float d (by omega)
  obtain ⟨a, hc1, hc2⟩ := f10_cell hL k hk
  obtain ⟨v1, v2, v3⟩ := f10_V k hk
  obtain ⟨r, hr, hm⟩ := mul_near true false f (f10tab.getD k 0) (by omega) v2
  have hx := exact_mul hd hk hV hr
  rw [Nat.min_eq_left (by omega), show (true ^^ false) = true from rfl] at hm
  have hm := run_mul hm
  obtain ⟨X, hX⟩ : ∃ X, X = Ieee.double.word true r := ⟨_, rfl⟩
  rw [← hX] at hm
  have HE : Hid ((Near (dN d k) (dD k) r ∧ r < 9218868437227405312) ∧ X = Ieee.double.word true r) := Lib.hid ⟨hx, hX⟩
  obtain ⟨b1, b2, o1, o2, -⟩ := far_word true f (by omega)
  clear hX hx hr v1 v2 v3 hL hV hpos
  generalize Ieee.double.word false (f10tab.getD k 0) = T at *
  have hn := run_neg f (by omega)
  generalize Ieee.double.word true f = F at *
  have k1 : (0 : Int) < k := by omega
  have k2 : (k : Int) ≤ 37 := by omega
  have k3 : ¬ (22 : Int) < k := by omega
  have k4 : (k : Int) < 23 := by omega
  have k5 : ((k : Int) == 0) = false := by simp; omega
  have k6 : (0 : Int) ≤ k := by omega
  clear hd hd0 hlt
  cases b1
  · cases b2
    · go_enter Tryz.func152, Tryz.ntmps152
      go_wp2_with fail
      go_ret2
      exact exact_some _ HE
    go_enter Tryz.func152, Tryz.ntmps152
    go_wp2_with fail
    go_ret2
    exact exact_none _
  go_enter Tryz.func152, Tryz.ntmps152
  go_wp2_with fail
  go_ret2
  exact exact_none _
set_option maxRecDepth 100000 in
set_option maxHeartbeats 2000000 in
theorem exact_far_false (w : World) (hL : Laid w) (d : Nat) (hd : d < 4503599627370496) (hd0 : d ≠ 0) (k : Nat) (hk : k < 16) (hk0 : 0 < k) : Calls Tryz.prog 152 #[.int .u64 d, .int .i64 ((k + 22 : Nat) : Int), .bool false] w (ExPost d ((k + 22 : Nat) : Int) false w) := by
  obtain ⟨i0, i1, i2⟩ := hL.infCell
  have c : ((d : Int) / 4503599627370496 != 0) = false := by simp; omega
  obtain ⟨f, hV, hlt, hpos, hf⟩ := int_float d (by omega)
  obtain ⟨a, hc1, hc2⟩ := f10_cell hL k (by omega)
  obtain ⟨a', hc3, hc4⟩ := f10_cell hL 22 (by omega)
  obtain rfl : a = a' := by
    rw [hc1] at hc3
    simpa using hc3
  have hc5 : w.cell? ⟨a.block, a.off + 22, none⟩ = some (.float .f64 (Ieee.double.word false (f10tab.getD 22 0))) := hc4
  obtain ⟨v1, v2, v3⟩ := f10_V k (by omega)
  obtain ⟨r, hr, hm⟩ := mul_near false false f (f10tab.getD k 0) (by omega) v2
  have hx := exact_mul hd (show k < 23 by omega) hV hr
  rw [Nat.min_eq_left (by omega), show (false ^^ false) = false from rfl] at hm
  have hm := run_mul hm
  obtain ⟨b1, b2, o1, o2, ho⟩ := far_word false r hx.2
  obtain ⟨u1, u2, u3⟩ := f10_V 22 (by omega)
  obtain ⟨r2, hr2, hm2⟩ := mul_near false false r (f10tab.getD 22 0) hx.2 u2
  have hx2 : (b1 = false ∧ b2 = false) → (Near (dN d ((k + 22 : Nat) : Int)) (dD ((k + 22 : Nat) : Int)) r2 ∧ r2 < 9218868437227405312) := fun hb => by
    obtain ⟨g1, g2⟩ := exact_two hd (show k < 23 by omega) hV hr (ho hb)
    exact exact_mul2 g2 g1 hr2
  rw [show (false ^^ false) = false from rfl] at hm2
  have hm2 := run_mul hm2
  obtain ⟨Z, hZ⟩ : ∃ Z, Z = Ieee.double.word false (min r2 9218868437227405312) := ⟨_, rfl⟩
  rw [← hZ] at hm2
  have HE : Hid ((b1 = false ∧ b2 = false) → ((Near (dN d ((k + 22 : Nat) : Int)) (dD ((k + 22 : Nat) : Int)) r2 ∧ r2 < 9218868437227405312) ∧ Z = Ieee.double.word false r2)) := Lib.hid fun hb => ⟨hx2 hb, by rw [hZ, Nat.min_eq_left (by have := (hx2 hb).2; omega)]⟩
  generalize Ieee.double.word false r = X at *
  clear hZ hx2 hx hr hr2 v1 v2 v3 u1 u2 u3 hL hV hpos ho hc3
  generalize Ieee.double.word false (f10tab.getD k 0) = T at *
  generalize Ieee.double.word false (f10tab.getD 22 0) = T2 at *
  rw [← word_false f] at hf
  generalize Ieee.double.word false f = F at *
  obtain ⟨p, hp⟩ : ∃ p : Int, p = ((k + 22 : Nat) : Int) := ⟨_, rfl⟩
  have k1 : (0 : Int) < p := by omega
  have k2 : p ≤ 37 := by omega
  have k3 : (22 : Int) < p := by omega
  have k4 : (k : Int) < 23 := by omega
  have k5 : (p == 0) = false := by simp; omega
  have k6 : (0 : Int) ≤ k := by omega
  have k7 : IntKind.i64.wrap (p - 22) = k := by rw [Go.IntKind.wrap_i64]; omega
  have k8 : p - 22 = k := by omega
  rw [← hp] at HE ⊢
  clear hd hd0 hlt hp
  cases b1
  · cases b2
    · go_enter Tryz.func152, Tryz.ntmps152
      go_wp2_with fail
      go_ret2
      exact exact_some _ (Lib.hid (HE.out (by simp)))
    go_enter Tryz.func152, Tryz.ntmps152
    go_wp2_with fail
    go_ret2
    exact exact_none _
  go_enter Tryz.func152, Tryz.ntmps152
  go_wp2_with fail
  go_ret2
  exact exact_none _
set_option maxRecDepth 100000 in
set_option maxHeartbeats 2000000 in
theorem exact_far_true (w : World) (hL : Laid w) (d : Nat) (hd : d < 4503599627370496) (hd0 : d ≠ 0) (k : Nat) (hk : k < 16) (hk0 : 0 < k) : Calls Tryz.prog 152 #[.int .u64 d, .int .i64 ((k + 22 : Nat) : Int), .bool true] w (ExPost d ((k + 22 : Nat) : Int) true w) := by
  obtain ⟨i0, i1, i2⟩ := hL.infCell
  have c : ((d : Int) / 4503599627370496 != 0) = false := by simp; omega
  obtain ⟨f, hV, hlt, hpos, hf⟩ := int_float d (by omega)
  obtain ⟨a, hc1, hc2⟩ := f10_cell hL k (by omega)
  obtain ⟨a', hc3, hc4⟩ := f10_cell hL 22 (by omega)
  obtain rfl : a = a' := by
    rw [hc1] at hc3
    simpa using hc3
  have hc5 : w.cell? ⟨a.block, a.off + 22, none⟩ = some (.float .f64 (Ieee.double.word false (f10tab.getD 22 0))) := hc4
  obtain ⟨v1, v2, v3⟩ := f10_V k (by omega)
  obtain ⟨r, hr, hm⟩ := mul_near true false f (f10tab.getD k 0) (by omega) v2
  have hx := exact_mul hd (show k < 23 by omega) hV hr
  rw [Nat.min_eq_left (by omega), show (true ^^ false) = true from rfl] at hm
  have hm := run_mul hm
  obtain ⟨b1, b2, o1, o2, ho⟩ := far_word true r hx.2
  obtain ⟨u1, u2, u3⟩ := f10_V 22 (by omega)
  obtain ⟨r2, hr2, hm2⟩ := mul_near true false r (f10tab.getD 22 0) hx.2 u2
  have hx2 : (b1 = false ∧ b2 = false) → (Near (dN d ((k + 22 : Nat) : Int)) (dD ((k + 22 : Nat) : Int)) r2 ∧ r2 < 9218868437227405312) := fun hb => by
    obtain ⟨g1, g2⟩ := exact_two hd (show k < 23 by omega) hV hr (ho hb)
    exact exact_mul2 g2 g1 hr2
  rw [show (true ^^ false) = true from rfl] at hm2
  have hm2 := run_mul hm2
  obtain ⟨Z, hZ⟩ : ∃ Z, Z = Ieee.double.word true (min r2 9218868437227405312) := ⟨_, rfl⟩
  rw [← hZ] at hm2
  have HE : Hid ((b1 = false ∧ b2 = false) → ((Near (dN d ((k + 22 : Nat) : Int)) (dD ((k + 22 : Nat) : Int)) r2 ∧ r2 < 9218868437227405312) ∧ Z = Ieee.double.word true r2)) := Lib.hid fun hb => ⟨hx2 hb, by rw [hZ, Nat.min_eq_left (by have := (hx2 hb).2; omega)]⟩
  generalize Ieee.double.word true r = X at *
  clear hZ hx2 hx hr hr2 v1 v2 v3 u1 u2 u3 hL hV hpos ho hc3
  generalize Ieee.double.word false (f10tab.getD k 0) = T at *
  generalize Ieee.double.word false (f10tab.getD 22 0) = T2 at *
  have hn := run_neg f (by omega)
  generalize Ieee.double.word true f = F at *
  obtain ⟨p, hp⟩ : ∃ p : Int, p = ((k + 22 : Nat) : Int) := ⟨_, rfl⟩
  have k1 : (0 : Int) < p := by omega
  have k2 : p ≤ 37 := by omega
  have k3 : (22 : Int) < p := by omega
  have k4 : (k : Int) < 23 := by omega
  have k5 : (p == 0) = false := by simp; omega
  have k6 : (0 : Int) ≤ k := by omega
  have k7 : IntKind.i64.wrap (p - 22) = k := by rw [Go.IntKind.wrap_i64]; omega
  have k8 : p - 22 = k := by omega
  rw [← hp] at HE ⊢
  clear hd hd0 hlt hp
  cases b1
  · cases b2
    · go_enter Tryz.func152, Tryz.ntmps152
      go_wp2_with fail
      go_ret2
      exact exact_some _ (Lib.hid (HE.out (by simp)))
    go_enter Tryz.func152, Tryz.ntmps152
    go_wp2_with fail
    go_ret2
    exact exact_none _
  go_enter Tryz.func152, Tryz.ntmps152
  go_wp2_with fail
  go_ret2
  exact exact_none _
set_option maxRecDepth 100000 in
set_option maxHeartbeats 2000000 in
theorem exact_down_false (w : World) (hL : Laid w) (d : Nat) (hd : d < 4503599627370496) (hd0 : d ≠ 0) (k : Nat) (hk : k < 23) (hk0 : 0 < k) : Calls Tryz.prog 152 #[.int .u64 d, .int .i64 (-(k : Int)), .bool false] w (ExPost d (-(k : Int)) false w) := by
  obtain ⟨i0, i1, i2⟩ := hL.infCell
  have c : ((d : Int) / 4503599627370496 != 0) = false := by simp; omega
  obtain ⟨f, hV, hlt, hpos, hf⟩ := int_float d (by omega)
  obtain ⟨a, hc1, hc2⟩ := f10_cell hL k hk
  obtain ⟨v1, v2, v3⟩ := f10_V k hk
  obtain ⟨r, hr, hm⟩ := div_near false false f (f10tab.getD k 0) (by omega) v2 v3 (hpos (by omega))
  have hx := exact_div hd hk hV hr
  rw [Nat.min_eq_left (by omega), show (false ^^ false) = false from rfl] at hm
  have hm := run_quo hm
  obtain ⟨X, hX⟩ : ∃ X, X = Ieee.double.word false r := ⟨_, rfl⟩
  rw [← hX] at hm
  have HE : Hid ((Near (dN d (-(k : Int))) (dD (-(k : Int))) r ∧ r < 9218868437227405312) ∧ X = Ieee.double.word false r) := Lib.hid ⟨hx, hX⟩
  clear hX hx hr v1 v2 v3 hL hV hpos
  generalize Ieee.double.word false (f10tab.getD k 0) = T at *
  rw [← word_false f] at hf
  generalize Ieee.double.word false f = F at *
  obtain ⟨p, hp⟩ : ∃ p : Int, p = -(k : Int) := ⟨_, rfl⟩
  have k1 : ¬ (0 : Int) < p := by omega
  have k2 : p < 0 := by omega
  have k3 : (-22 : Int) ≤ p := by omega
  have k4 : (k : Int) < 23 := by omega
  have k5 : (p == 0) = false := by simp; omega
  have k6 : (0 : Int) ≤ k := by omega
  have k7 : IntKind.i64.wrap (0 - p) = k := by rw [Go.IntKind.wrap_i64]; omega
  have k8 : -p = k := by omega
  have k9 : 0 - p = k := by omega
  rw [← hp] at HE ⊢
  clear hd hd0 hlt hp
  go_enter Tryz.func152, Tryz.ntmps152
  go_wp2_with fail
  go_ret2
  exact exact_some _ HE
set_option maxRecDepth 100000 in
set_option maxHeartbeats 2000000 in
theorem exact_down_true (w : World) (hL : Laid w) (d : Nat) (hd : d < 4503599627370496) (hd0 : d ≠ 0) (k : Nat) (hk : k < 23) (hk0 : 0 < k) : Calls Tryz.prog 152 #[.int .u64 d, .int .i64 (-(k : Int)), .bool true] w (ExPost d (-(k : Int)) true w) := by
  obtain ⟨i0, i1, i2⟩ := hL.infCell
  have c : ((d : Int) / 4503599627370496 != 0) = false := by simp; omega
  obtain ⟨f, hV, hlt, hpos, hf⟩ := int_float d (by omega)
  obtain ⟨a, hc1, hc2⟩ := f10_cell hL k hk
  obtain ⟨v1, v2, v3⟩ := f10_V k hk
  obtain ⟨r, hr, hm⟩ := div_near true false f (f10tab.getD k 0) (by omega) v2 v3 (hpos (by omega))
  have hx := exact_div hd hk hV hr
  rw [Nat.min_eq_left (by omega), show (true ^^ false) = true from rfl] at hm
  have hm := run_quo hm
  obtain ⟨X, hX⟩ : ∃ X, X = Ieee.double.word true r := ⟨_, rfl⟩
  rw [← hX] at hm
  have HE : Hid ((Near (dN d (-(k : Int))) (dD (-(k : Int))) r ∧ r < 9218868437227405312) ∧ X = Ieee.double.word true r) := Lib.hid ⟨hx, hX⟩
  clear hX hx hr v1 v2 v3 hL hV hpos
  generalize Ieee.double.word false (f10tab.getD k 0) = T at *
  have hn := run_neg f (by omega)
  generalize Ieee.double.word true f = F at *
  obtain ⟨p, hp⟩ : ∃ p : Int, p = -(k : Int) := ⟨_, rfl⟩
  have k1 : ¬ (0 : Int) < p := by omega
  have k2 : p < 0 := by omega
  have k3 : (-22 : Int) ≤ p := by omega
  have k4 : (k : Int) < 23 := by omega
  have k5 : (p == 0) = false := by simp; omega
  have k6 : (0 : Int) ≤ k := by omega
  have k7 : IntKind.i64.wrap (0 - p) = k := by rw [Go.IntKind.wrap_i64]; omega
  have k8 : -p = k := by omega
  have k9 : 0 - p = k := by omega
  rw [← hp] at HE ⊢
  clear hd hd0 hlt hp
  go_enter Tryz.func152, Tryz.ntmps152
  go_wp2_with fail
  go_ret2
  exact exact_some _ HE
set_option maxRecDepth 100000 in
set_option maxHeartbeats 2000000 in
theorem exact_above_false (w : World) (hL : Laid w) (d : Nat) (hd : d < 4503599627370496) (hd0 : d ≠ 0) (p : Int) (hp : 37 < p) : Calls Tryz.prog 152 #[.int .u64 d, .int .i64 p, .bool false] w (ExPost d p false w) := by
  obtain ⟨i0, i1, i2⟩ := hL.infCell
  have c : ((d : Int) / 4503599627370496 != 0) = false := by simp; omega
  obtain ⟨f, hV, hlt, hpos, hf⟩ := int_float d (by omega)
  clear hL hV hpos
  rw [← word_false f] at hf
  generalize Ieee.double.word false f = F at *
  have k1 : (0 : Int) < p := by omega
  have k2 : ¬ p ≤ 37 := by omega
  have k3 : ¬ p < 0 := by omega
  have k5 : (p == 0) = false := by simp; omega
  clear hd hd0 hlt
  go_enter Tryz.func152, Tryz.ntmps152
  go_wp2_with fail
  go_ret2
  exact exact_none _
set_option maxRecDepth 100000 in
set_option maxHeartbeats 2000000 in
theorem exact_above_true (w : World) (hL : Laid w) (d : Nat) (hd : d < 4503599627370496) (hd0 : d ≠ 0) (p : Int) (hp : 37 < p) : Calls Tryz.prog 152 #[.int .u64 d, .int .i64 p, .bool true] w (ExPost d p true w) := by
  obtain ⟨i0, i1, i2⟩ := hL.infCell
  have c : ((d : Int) / 4503599627370496 != 0) = false := by simp; omega
  obtain ⟨f, hV, hlt, hpos, hf⟩ := int_float d (by omega)
  clear hL hV hpos
  have hn := run_neg f (by omega)
  generalize Ieee.double.word true f = F at *
  have k1 : (0 : Int) < p := by omega
  have k2 : ¬ p ≤ 37 := by omega
  have k3 : ¬ p < 0 := by omega
  have k5 : (p == 0) = false := by simp; omega
  clear hd hd0 hlt
  go_enter Tryz.func152, Tryz.ntmps152
  go_wp2_with fail
  go_ret2
  exact exact_none _
set_option maxRecDepth 100000 in
set_option maxHeartbeats 2000000 in
theorem exact_below_false (w : World) (hL : Laid w) (d : Nat) (hd : d < 4503599627370496) (hd0 : d ≠ 0) (p : Int) (hp : p < -22) : Calls Tryz.prog 152 #[.int .u64 d, .int .i64 p, .bool false] w (ExPost d p false w) := by
  obtain ⟨i0, i1, i2⟩ := hL.infCell
  have c : ((d : Int) / 4503599627370496 != 0) = false := by simp; omega
  obtain ⟨f, hV, hlt, hpos, hf⟩ := int_float d (by omega)
  clear hL hV hpos
  rw [← word_false f] at hf
  generalize Ieee.double.word false f = F at *
  have k1 : ¬ (0 : Int) < p := by omega
  have k2 : p < 0 := by omega
  have k3 : ¬ (-22 : Int) ≤ p := by omega
  have k5 : (p == 0) = false := by simp; omega
  clear hd hd0 hlt
  go_enter Tryz.func152, Tryz.ntmps152
  go_wp2_with fail
  go_ret2
  exact exact_none _
set_option maxRecDepth 100000 in
set_option maxHeartbeats 2000000 in
theorem exact_below_true (w : World) (hL : Laid w) (d : Nat) (hd : d < 4503599627370496) (hd0 : d ≠ 0) (p : Int) (hp : p < -22) : Calls Tryz.prog 152 #[.int .u64 d, .int .i64 p, .bool true] w (ExPost d p true w) := by
  obtain ⟨i0, i1, i2⟩ := hL.infCell
  have c : ((d : Int) / 4503599627370496 != 0) = false := by simp; omega
  obtain ⟨f, hV, hlt, hpos, hf⟩ := int_float d (by omega)
  clear hL hV hpos
  have hn := run_neg f (by omega)
  generalize Ieee.double.word true f = F at *
  have k1 : ¬ (0 : Int) < p := by omega
  have k2 : p < 0 := by omega
  have k3 : ¬ (-22 : Int) ≤ p := by omega
  have k5 : (p == 0) = false := by simp; omega
  clear hd hd0 hlt
  go_enter Tryz.func152, Tryz.ntmps152
  go_wp2_with fail
  go_ret2
  exact exact_none _
theorem atof64exact_walk (w : World) (hL : Laid w) (d : Nat) (hd0 : d ≠ 0) (p : Int) (ng : Bool) : Calls Tryz.prog 152 #[.int .u64 d, .int .i64 p, .bool ng] w (ExPost d p ng w) := by
  rcases Nat.lt_or_ge d 4503599627370496 with hd | hd
  · by_cases h0 : p = 0
    · subst h0
      cases ng
      · exact exact_zero_false w hL d hd
      exact exact_zero_true w hL d hd
    by_cases h1 : 37 < p
    · cases ng
      · exact exact_above_false w hL d hd hd0 p h1
      exact exact_above_true w hL d hd hd0 p h1
    by_cases h2 : p < -22
    · cases ng
      · exact exact_below_false w hL d hd hd0 p h2
      exact exact_below_true w hL d hd hd0 p h2
    by_cases h3 : 22 < p
    · obtain ⟨k, rfl⟩ : ∃ k : Nat, p = ((k + 22 : Nat) : Int) := ⟨(p - 22).toNat, by omega⟩
      cases ng
      · exact exact_far_false w hL d hd hd0 k (by omega) (by omega)
      exact exact_far_true w hL d hd hd0 k (by omega) (by omega)
    by_cases h4 : 0 < p
    · obtain ⟨k, rfl⟩ : ∃ k : Nat, p = (k : Int) := ⟨p.toNat, by omega⟩
      cases ng
      · exact exact_up_false w hL d hd hd0 k (by omega) (by omega)
      exact exact_up_true w hL d hd hd0 k (by omega) (by omega)
    obtain ⟨k, rfl⟩ : ∃ k : Nat, p = -(k : Int) := ⟨(-p).toNat, by omega⟩
    cases ng
    · exact exact_down_false w hL d hd hd0 k (by omega) (by omega)
    exact exact_down_true w hL d hd hd0 k (by omega) (by omega)
  exact exact_big w hL d hd p ng
end Go.Proofs.YtjpiplplohapnaaGreatDoor
