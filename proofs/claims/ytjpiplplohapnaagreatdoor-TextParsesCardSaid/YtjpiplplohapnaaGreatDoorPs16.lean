/- Part 16 of the proof: Uv, Uz, Pf1, RfE. -/
import Derived.Test.YtjpiplplohapnaaGreatDoorPs15
import Derived.LoopTactic
import Derived.Deep.CutBlock
import Derived.Deep.DeepCutAuto
set_option linter.unusedVariables false
set_option linter.unusedSimpArgs false
namespace Go.Proofs.YtjpiplplohapnaaGreatDoor
open Go.RowKit Go.Proofs.YtjpiplplohapnaaGreatDoorW.PrintWords Go.Proofs.YtjpiplplohapnaaGreatDoorW.PrintMore Nr Us
attribute [local go_sem] z2i z2j
theorem flat_two {α β : Type} (f g : α → β) : ∀ (l : List α) (i : Nat), (l.flatMap fun x => [f x, g x])[2 * i]? = (l[i]?).map f ∧ (l.flatMap fun x => [f x, g x])[2 * i + 1]? = (l[i]?).map g
  | [], i => by simp
  | x :: l, 0 => by simp
  | x :: l, i + 1 => by
    have := flat_two f g l i
    rw [List.flatMap_cons, show 2 * (i + 1) = 2 * i + 2 by omega]
    show ((f x :: g x :: (l.flatMap fun x => [f x, g x]))[2 * i + 2]? = _) ∧ ((f x :: g x :: (l.flatMap fun x => [f x, g x]))[2 * i + 2 + 1]? = _)
    exact this
theorem p10_row {w : World} (h : Laid w) {i : Nat} {r : Nat × Nat} (hi : Pinned.pow10Rows[i]? = some r) : w.cell? ⟨11, i * 2, none⟩ = some (.int .u64 r.1) ∧ w.cell? ⟨11, i * 2 + 1, none⟩ = some (.int .u64 r.2) := by
  have key := flat_two (fun x : Nat × Nat => Value.int .u64 x.1) (fun x : Nat × Nat => Value.int .u64 x.2) Pinned.pow10Rows i
  rw [hi, Nat.mul_comm 2 i] at key
  constructor
  · rw [h.p10Cell, List.getElem?_toArray]; exact key.1
  rw [h.p10Cell, List.getElem?_toArray]; exact key.2
set_option maxRecDepth 100000 in
set_option maxHeartbeats 1000000 in
theorem prescale_walk (w : World) (hL : Laid w) (g B : Nat) (hB : B ≤ g) (hg : w.heap[g]? = some (.cells #[.int .u64 0, .int .u64 0, .int .i64 0] 203 (0, 0))) (h17 : 17 ≤ g)
    (e l p : Int) (i : Nat) (r : Nat × Nat) (hi : Pinned.pow10Rows[i]? = some r) (hp : p + 348 = i) (he1 : -10000 < e) (he2 : e < 10000) (hl1 : -10000 < l) (hl2 : l < 10000) :
    Calls Tryz.prog 158 #[.pointer (some ⟨g, 0, none⟩), .int .i64 e, .int .i64 p, .int .i64 l] w fun e' w' => e' = .returned (.tuple #[]) ∧ Below B w w' ∧ w'.heap[g]? = some (.cells #[.int .u64 r.1, .int .u64 r.2, .int .i64 (-(e + l + 3))] 203 (0, 0)) := by
  obtain ⟨p0, p1⟩ := p10_row hL hi
  have hlen := z8s
  have hi2 : i < 696 := by
    have := (List.getElem?_eq_some_iff.1 hi).1
    omega
  obtain ⟨x, y⟩ := r
  dsimp only at p0 p1 ⊢
  have c0 : w.cell? ⟨g, 0, none⟩ = some (.int .u64 0) := (z0d hg 0).trans rfl
  have c1 : w.cell? ⟨g, 1, none⟩ = some (.int .u64 0) := (z0d hg 1).trans rfl
  have c2 : w.cell? ⟨g, 2, none⟩ = some (.int .i64 0) := (z0d hg 2).trans rfl
  have f0 := z0i hg 0
  have f1 := z0i hg 1
  have f2 := z0i hg 2
  have hne : (11 : Nat) ≠ g := by omega
  have hw1 : IntKind.i64.wrap (p - -348) = (i : Int) := by rw [Go.IntKind.wrap_i64]; omega
  have hw2 : IntKind.i64.wrap (p + 348) = (i : Int) := by rw [Go.IntKind.wrap_i64]; omega
  have hi3 : (i : Int) < 696 := by omega
  have hpi : p = (i : Int) - 348 := by omega
  clear hi hL hlen hp
  subst hpi
  go_enter Tryz.func158, Tryz.ntmps158
  go_wp2_with fail
  go_end0
  refine ⟨rfl, (((Below.refl B w).setCell hB _).setCell hB _).setCell hB _, ?_⟩
  refine z1t (cs := #[.int .u64 x, .int .u64 y, .int .i64 0]) ?_ 2 _ (by first | rfl | (congr 4; omega))
  refine z1t (cs := #[.int .u64 x, .int .u64 0, .int .i64 0]) ?_ 1 _ rfl
  exact z1t hg 0 _ rfl
theorem int_shr (v s : Nat) : (v : Int) / 2 ^ s = ((v / 2 ^ s : Nat) : Int) := by rw [Int.natCast_ediv, Int.natCast_pow]; rfl
theorem int_shl (v s : Nat) (h : v * 2 ^ s < 18446744073709551616) : IntKind.u64.wrap ((v : Int) * 2 ^ s) = ((v * 2 ^ s : Nat) : Int) := by
  rw [show ((v : Int) * 2 ^ s) = ((v * 2 ^ s : Nat) : Int) by rw [Int.natCast_mul, Int.natCast_pow]; rfl, IntWalk.u64_in _ (by omega)]
set_option maxRecDepth 100000 in
set_option maxHeartbeats 1000000 in
theorem uscale_odd (w : World) (g x hi lo s : Nat) (hx : x < 18446744073709551616) (hhi : hi < 18446744073709551616) (hs : s < 64)
    (hg : w.heap[g]? = some (.cells #[.int .u64 hi, .int .u64 lo, .int .i64 s] 203 (0, 0))) (h : x * hi / 18446744073709551616 % 2 ^ s ≠ 0) :
    Calls Tryz.prog 160 #[.int .u64 x, .pointer (some ⟨g, 0, none⟩)] w fun e w' => e = .returned (.int .u64 ((x * hi / 18446744073709551616 / 2 ^ s / 2 * 2 + 1 : Nat) : Int)) ∧ Below w.heap.size w w' := by
  have c0 : w.cell? ⟨g, 0, none⟩ = some (.int .u64 hi) := (z0d hg 0).trans rfl
  have c1 : w.cell? ⟨g, 1, none⟩ = some (.int .u64 lo) := (z0d hg 1).trans rfl
  have c2 : w.cell? ⟨g, 2, none⟩ = some (.int .i64 s) := (z0d hg 2).trans rfl
  have b63 := and63 s hs
  have HM := Lib.hid (Tryz.bits_Mul64 x hi hx hhi)
  have hH : x * hi / 18446744073709551616 < 18446744073709551616 := by
    rw [Nat.div_lt_iff_lt_mul (by decide)]
    exact Nat.lt_of_le_of_lt (Nat.mul_le_mul (show x ≤ 18446744073709551615 by omega) (show hi ≤ 18446744073709551615 by omega)) (by decide)
  generalize x * hi / 18446744073709551616 = H at *
  generalize x * hi % 18446744073709551616 = M at *
  have s1 := int_shr H s
  have hle : H / 2 ^ s * 2 ^ s ≤ H := Nat.div_mul_le_self _ _
  have s2 := int_shl (H / 2 ^ s) s (by omega)
  have hne : H / 2 ^ s * 2 ^ s ≠ H := by
    intro hh
    have := Nat.div_add_mod H (2 ^ s)
    rw [Nat.mul_comm] at this
    omega
  have ho := or_one (H / 2 ^ s) (Nat.lt_of_le_of_lt (Nat.div_le_self _ _) hH)
  generalize H / 2 ^ s / 2 * 2 + 1 = R at *
  generalize H / 2 ^ s * 2 ^ s = H2 at *
  generalize H / 2 ^ s = H1 at *
  have hb : ((H2 : Int) != (H : Int)) = true := by simp; omega
  clear h hle hne
  go_enter Tryz.func160, Tryz.ntmps160
  go_wp2_with fail
  refine (HM.out _).mono ?_
  rintro e w' ⟨rfl, rfl⟩
  clear HM
  go_wp2_with fail
  go_ret
  exact ⟨rfl, Below.refl _ _⟩
theorem z7c (b : Bool) (w : World) : Calls Tryz.prog 150 #[.bool b] w fun e w' => e = .returned (.int .u64 ((if b then 1 else 0 : Nat) : Int)) ∧ ∃ n, w' = w.drewN n := by
  cases b
  · exact (PText.z1w.calls false 0 w (by decide +kernel)).mono fun _ _ ⟨h1, n, h2⟩ => ⟨h1, n, h2⟩
  exact (PText.z1w.calls true 1 w (by decide +kernel)).mono fun _ _ ⟨h1, n, h2⟩ => ⟨h1, n, h2⟩
set_option maxRecDepth 100000 in
set_option maxHeartbeats 1000000 in
theorem uscale_even (w : World) (g x hi lo s : Nat) (hx : x < 18446744073709551616) (hhi : hi < 18446744073709551616) (hlo : lo < 18446744073709551616) (hs : s < 64)
    (hg : w.heap[g]? = some (.cells #[.int .u64 hi, .int .u64 lo, .int .i64 s] 203 (0, 0))) (h : x * hi / 18446744073709551616 % 2 ^ s = 0) (hpos : 0 < x * hi / 18446744073709551616) :
    Calls Tryz.prog 160 #[.int .u64 x, .pointer (some ⟨g, 0, none⟩)] w fun e w' => e = .returned (.int .u64 ((usc x hi lo s : Nat) : Int)) ∧ Below w.heap.size w w' := by
  have c0 : w.cell? ⟨g, 0, none⟩ = some (.int .u64 hi) := (z0d hg 0).trans rfl
  have c1 : w.cell? ⟨g, 1, none⟩ = some (.int .u64 lo) := (z0d hg 1).trans rfl
  have c2 : w.cell? ⟨g, 2, none⟩ = some (.int .i64 s) := (z0d hg 2).trans rfl
  have b63 := and63 s hs
  have HM := Lib.hid (Tryz.bits_Mul64 x hi hx hhi)
  have HM2 := Lib.hid (Tryz.bits_Mul64 x lo hx hlo)
  have hH : x * hi / 18446744073709551616 < 18446744073709551616 := by
    rw [Nat.div_lt_iff_lt_mul (by decide)]
    exact Nat.lt_of_le_of_lt (Nat.mul_le_mul (show x ≤ 18446744073709551615 by omega) (show hi ≤ 18446744073709551615 by omega)) (by decide)
  have hM : x * hi % 18446744073709551616 < 18446744073709551616 := Nat.mod_lt _ (by decide)
  have hM2 : x * lo / 18446744073709551616 < 18446744073709551616 := by
    rw [Nat.div_lt_iff_lt_mul (by decide)]
    exact Nat.lt_of_le_of_lt (Nat.mul_le_mul (show x ≤ 18446744073709551615 by omega) (show lo ≤ 18446744073709551615 by omega)) (by decide)
  have hU : usc x hi lo s = (if 1 < (if x * hi % 18446744073709551616 < x * lo / 18446744073709551616 then 18446744073709551616 + x * hi % 18446744073709551616 - x * lo / 18446744073709551616 else x * hi % 18446744073709551616 - x * lo / 18446744073709551616)
      then (if x * hi % 18446744073709551616 < x * lo / 18446744073709551616 then x * hi / 18446744073709551616 - 1 else x * hi / 18446744073709551616) / 2 ^ s / 2 * 2 + 1
      else (if x * hi % 18446744073709551616 < x * lo / 18446744073709551616 then x * hi / 18446744073709551616 - 1 else x * hi / 18446744073709551616) / 2 ^ s) := by
    unfold usc
    dsimp only
    rw [if_neg (by omega)]
  rw [hU]
  clear hU
  generalize x * hi / 18446744073709551616 = H at *
  generalize x * hi % 18446744073709551616 = M at *
  generalize x * lo / 18446744073709551616 = M2 at *
  generalize x * lo % 18446744073709551616 = L2 at *
  have s1 := int_shr H s
  have hle : H / 2 ^ s * 2 ^ s = H := by
    have := Nat.div_add_mod H (2 ^ s)
    rw [Nat.mul_comm] at this
    omega
  have s2 := int_shl (H / 2 ^ s) s (by omega)
  rw [hle] at s2
  have hb : ((H : Int) != (H : Int)) = false := by simp
  obtain ⟨H', hH'⟩ : ∃ H', H' = if M < M2 then H - 1 else H := ⟨_, rfl⟩
  obtain ⟨D, hD⟩ : ∃ D, D = if M < M2 then 18446744073709551616 + M - M2 else M - M2 := ⟨_, rfl⟩
  rw [← hH', ← hD]
  have hH2 : H' < 18446744073709551616 := by rw [hH']; split <;> omega
  have s3 := int_shr H' s
  have ho := or_one (H' / 2 ^ s) (Nat.lt_of_le_of_lt (Nat.div_le_self _ _) hH2)
  have hz := or_zero64 (H' / 2 ^ s) (Nat.lt_of_le_of_lt (Nat.div_le_self _ _) hH2)
  have hwD : IntKind.u64.wrap ((M : Int) - (M2 : Int)) = (D : Int) := by rw [hD, Go.IntKind.wrap_u64]; split <;> omega
  have hwH : IntKind.u64.wrap ((H : Int) - ((if decide (M < M2) then 1 else 0 : Nat) : Int)) = (H' : Int) := by
    rw [hH', Go.IntKind.wrap_u64]
    by_cases hc : M < M2
    · rw [if_pos hc, decide_eq_true hc, if_pos rfl]; omega
    rw [if_neg hc, decide_eq_false hc, if_neg (by decide)]; omega
  obtain ⟨b1, hb1⟩ : ∃ b1 : Nat, b1 = (if decide (M < M2) then 1 else 0 : Nat) := ⟨_, rfl⟩
  have B1 := Lib.hid (z7c (decide (M < M2)))
  rw [← hb1] at hwH B1
  generalize hd1 : decide (M < M2) = d1 at *
  generalize H' / 2 ^ s / 2 * 2 + 1 = R at *
  generalize H' / 2 ^ s = H1' at *
  generalize H / 2 ^ s = H1 at *
  clear h hle hH' hD hb1 hM hM2 hpos hH hH2
  by_cases hc : 1 < D
  · have hd2 : decide (1 < D) = true := decide_eq_true hc
    have hd3 : (1 : Int) < D := by omega
    rw [if_pos hc]
    have B2 : Hid (∀ w : World, Calls Tryz.prog 150 #[.bool true] w fun e w' => e = .returned (.int .u64 1) ∧ ∃ n, w' = w.drewN n) := Lib.hid (z7c true)
    clear hc hz
    go_enter Tryz.func160, Tryz.ntmps160
    go_wp2_with fail
    refine (HM.out _).mono ?_
    rintro e w' ⟨rfl, rfl⟩
    clear HM
    go_wp2_with fail
    refine (HM2.out _).mono ?_
    rintro e w' ⟨rfl, rfl⟩
    clear HM2
    go_wp2_with fail
    refine (B1.out _).mono ?_
    rintro e w' ⟨rfl, n1, rfl⟩
    clear B1
    go_wp2_with fail
    go_quiet ((go_at_call 150; (refine (B2.out _).mono ?_); rintro e w' ⟨rfl, ⟨nd, rfl⟩⟩; first | exact ⟨rfl, _, World.drewN_drewN _ _ _⟩ | exact ⟨rfl, _, Eq.trans (World.drewN_drewN _ _ _) (congrArg (World.drewN _) (Nat.add_assoc _ _ _))⟩))
    go_wp2_with fail
    go_ret
    exact ⟨rfl, below_drewN (below_drewN (Below.refl _ _) _) _⟩
  have hd2 : decide (1 < D) = false := decide_eq_false hc
  have hd3 : ¬ (1 : Int) < D := by omega
  have hd6 : decide ((1 : Int) < (D : Int)) = false := decide_eq_false hd3
  clear hd2 hd3
  rw [if_neg hc]
  have B2 : Hid (∀ w : World, Calls Tryz.prog 150 #[.bool false] w fun e w' => e = .returned (.int .u64 0) ∧ ∃ n, w' = w.drewN n) := Lib.hid (z7c false)
  clear hc ho
  go_enter Tryz.func160, Tryz.ntmps160
  go_wp2_with fail
  refine (HM.out _).mono ?_
  rintro e w' ⟨rfl, rfl⟩
  clear HM
  go_wp2_with fail
  refine (HM2.out _).mono ?_
  rintro e w' ⟨rfl, rfl⟩
  clear HM2
  go_wp2_with fail
  refine (B1.out _).mono ?_
  rintro e w' ⟨rfl, n1, rfl⟩
  clear B1
  go_wp2_with fail
  go_quiet ((go_at_call 150; (refine (B2.out _).mono ?_); rintro e w' ⟨rfl, ⟨nd, rfl⟩⟩; first | exact ⟨rfl, _, World.drewN_drewN _ _ _⟩ | exact ⟨rfl, _, Eq.trans (World.drewN_drewN _ _ _) (congrArg (World.drewN _) (Nat.add_assoc _ _ _))⟩))
  go_wp2_with fail
  go_ret
  exact ⟨rfl, below_drewN (below_drewN (Below.refl _ _) _) _⟩
theorem uscale_walk (w : World) (g x hi lo s : Nat) (hx : x < 18446744073709551616) (hhi : hi < 18446744073709551616) (hlo : lo < 18446744073709551616) (hs : s < 64) (hpos : 0 < x * hi / 18446744073709551616)
    (hg : w.heap[g]? = some (.cells #[.int .u64 hi, .int .u64 lo, .int .i64 s] 203 (0, 0))) :
    Calls Tryz.prog 160 #[.int .u64 x, .pointer (some ⟨g, 0, none⟩)] w fun e w' => e = .returned (.int .u64 ((usc x hi lo s : Nat) : Int)) ∧ Below w.heap.size w w' := by
  by_cases h : x * hi / 18446744073709551616 % 2 ^ s = 0
  · exact uscale_even w g x hi lo s hx hhi hlo hs hg h hpos
  have := uscale_odd w g x hi lo s hx hhi hs hg h
  have e : usc x hi lo s = x * hi / 18446744073709551616 / 2 ^ s / 2 * 2 + 1 := by
    unfold usc
    dsimp only
    rw [if_pos h]
  rw [e]
  exact this
theorem z4p (b : Nat) (W : World) : (callFunc 151 #[.int .u64 (b : Int)]).run Tryz.prog W = .ok (.value (.float .f64 b)) W := from151 b W
def PkPost (ng : Bool) (r : Nat) (w : World) (e : Ending) (w' : World) : Prop :=
  Below w.heap.size w w' ∧ ((r < 9218868437227405312 ∧ e = .returned (.tuple #[.float .f64 (Ieee.double.word ng r), .nilIface])) ∨ (9218868437227405312 ≤ r ∧ e = .returned (.tuple #[.float .f64 (Ieee.double.word ng 9218868437227405312), .iface 113 (.int .i64 1)])))
set_option maxRecDepth 100000 in
set_option maxHeartbeats 1000000 in
theorem pack_low (w : World) (ng : Bool) (v : Nat) (hv : v < 4503599627370496) (e : Int) : Calls Tryz.prog 186 #[.int .u64 ((sgB ng + v : Nat) : Int), .int .i64 e] w (PkPost ng v w) := by
  have hsg : sgB ng = 0 ∨ sgB ng = 9223372036854775808 := by cases ng <;> simp [sgB]
  have h1 : Go.bits .and .u64 ((sgB ng + v : Nat) : Int) 4503599627370496 = 0 := by
    rw [and52 (sgB ng + v) (by omega), show (sgB ng + v) / 4503599627370496 % 2 = 0 by omega, Nat.zero_mul]; rfl
  have hw : sgB ng + v = Ieee.double.word ng v := (z4i ng v).symm
  rw [hw] at h1 ⊢
  have hf := z4p (Ieee.double.word ng v)
  clear hw hsg
  have HV := Lib.hid hv
  clear hv
  obtain ⟨X, hX⟩ : ∃ X, X = Ieee.double.word ng v := ⟨_, rfl⟩
  have HX := Lib.hid hX
  rw [← hX] at h1 hf ⊢
  clear hX
  go_enter Tryz.func186, Tryz.ntmps186
  go_wp2_with fail
  go_ret2
  exact ⟨Below.refl _ _, Or.inl ⟨by have := HV.out; omega, by rw [← HX.out]; rfl⟩⟩
set_option maxRecDepth 100000 in
set_option maxHeartbeats 1000000 in
theorem pack_far (w : World) (ng : Bool) (v r : Nat) (hv : 4503599627370496 ≤ v) (hv2 : v < 9007199254740992) (e : Int) (he : 972 ≤ e) (hr : 9218868437227405312 ≤ r) : Calls Tryz.prog 186 #[.int .u64 ((sgB ng + v : Nat) : Int), .int .i64 e] w (PkPost ng r w) := by
  have hsg : sgB ng = 0 ∨ sgB ng = 9223372036854775808 := by cases ng <;> simp [sgB]
  have h1 : Go.bits .and .u64 ((sgB ng + v : Nat) : Int) 4503599627370496 = 4503599627370496 := by
    rw [and52 (sgB ng + v) (by omega), show (sgB ng + v) / 4503599627370496 % 2 = 1 by omega, Nat.one_mul]; rfl
  have h2 := sgB_andSign ng v (by omega)
  have h3 : Go.bits .or .u64 (sgB ng : Int) 9218868437227405312 = ((Ieee.double.word ng 9218868437227405312 : Nat) : Int) := by
    rw [z4i]; exact or_sgB ng 9218868437227405312 (by omega)
  have hf := z4p (Ieee.double.word ng 9218868437227405312)
  clear hsg
  have HV := Lib.hid hr
  clear hv hv2 hr
  generalize sgB ng + v = X at *
  generalize sgB ng = Y at *
  obtain ⟨Z, hZ⟩ : ∃ Z, Z = Ieee.double.word ng 9218868437227405312 := ⟨_, rfl⟩
  have HX := Lib.hid hZ
  rw [← hZ] at h3 hf
  clear hZ
  go_enter Tryz.func186, Tryz.ntmps186
  go_wp2_with fail
  go_ret2
  exact ⟨Below.refl _ _, Or.inr ⟨HV.out, by rw [← HX.out]; rfl⟩⟩
set_option maxRecDepth 100000 in
set_option maxHeartbeats 1000000 in
theorem pack_mid (w : World) (ng : Bool) (v r : Nat) (hv : 4503599627370496 ≤ v) (hv2 : v < 9007199254740992) (e : Int) (k : Nat) (hk : e = (k : Int) - 1074) (he : e < 972) (hr : r = k * 4503599627370496 + v) : Calls Tryz.prog 186 #[.int .u64 ((sgB ng + v : Nat) : Int), .int .i64 e] w (PkPost ng r w) := by
  have hsg : sgB ng = 0 ∨ sgB ng = 9223372036854775808 := by cases ng <;> simp [sgB]
  have h1 : Go.bits .and .u64 ((sgB ng + v : Nat) : Int) 4503599627370496 = 4503599627370496 := by
    rw [and52 (sgB ng + v) (by omega), show (sgB ng + v) / 4503599627370496 % 2 = 1 by omega, Nat.one_mul]; rfl
  have h2 := andNot52 (sgB ng + v) (by omega) (by omega)
  have hr2 : r < 9218868437227405312 := by omega
  obtain ⟨a, ha⟩ : ∃ a, a = sgB ng + v - 4503599627370496 := ⟨_, rfl⟩
  obtain ⟨b, hb⟩ : ∃ b, b = (k + 1) * 4503599627370496 := ⟨_, rfl⟩
  rw [← ha] at h2
  have h4 : IntKind.u64.wrap (IntKind.i64.wrap (1075 + e) * 4503599627370496) = (b : Int) := by
    rw [Go.IntKind.wrap_i64, Go.IntKind.wrap_u64]; omega
  have h5 : Go.bits .or .u64 (a : Int) (b : Int) = ((Ieee.double.word ng r : Nat) : Int) := by
    have hj : a ||| b = a + b := by
      have hlt : a - sgB ng < 4503599627370496 := by omega
      rcases hsg with h0 | h0
      · rw [Nat.or_comm, Go.nat_join52 b a (by omega) (by omega)]; omega
      have e1 : a = 9223372036854775808 ||| (a - 9223372036854775808) := by
        rw [Go.nat_join63 9223372036854775808 (a - 9223372036854775808) (by decide) (by omega)]; omega
      have e2 : (a - 9223372036854775808) ||| b = b + (a - 9223372036854775808) := by
        rw [Nat.or_comm, Go.nat_join52 b (a - 9223372036854775808) (by omega) (by omega)]
      rw [e1, Nat.or_assoc, e2, Go.nat_join63 9223372036854775808 (b + (a - 9223372036854775808)) (by decide) (by omega), ← e1]
      omega
    rw [Go.u64_or_nat a b (by omega) (by omega), hj, z4i]
    refine congrArg Nat.cast ?_
    omega
  have hf := z4p (Ieee.double.word ng r)
  clear hsg ha hb
  have HV := Lib.hid hr2
  have hw1 : IntKind.i64.wrap (1075 + e) = ((k + 1 : Nat) : Int) := by rw [Go.IntKind.wrap_i64]; omega
  have hw2 : IntKind.u64.wrap ((k + 1 : Nat) : Int) = ((k + 1 : Nat) : Int) := by rw [Go.IntKind.wrap_u64]; omega
  have hw3 : IntKind.u64.wrap (((k + 1 : Nat) : Int) * 4503599627370496) = (b : Int) := by rw [← h4, hw1]
  have hw4 : (1075 : Int) + e = ((k + 1 : Nat) : Int) := by omega
  have hkk : k + 1 < 2047 := by omega
  generalize k + 1 = K at *
  clear hv hv2 hr hr2 hk h4
  generalize sgB ng + v = X at *
  obtain ⟨Z, hZ⟩ : ∃ Z, Z = Ieee.double.word ng r := ⟨_, rfl⟩
  have HX := Lib.hid hZ
  rw [← hZ] at h5 hf
  clear hZ
  go_enter Tryz.func186, Tryz.ntmps186
  go_wp2_with fail
  go_ret2
  exact ⟨Below.refl _ _, Or.inl ⟨HV.out, by rw [← HX.out]; rfl⟩⟩
theorem pack_walk (w : World) (ng : Bool) (v k : Nat) (hv : v < 9007199254740992) (hk : k ≠ 0 → 4503599627370496 ≤ v) (e : Int) (he : e = (k : Int) - 1074) :
    Calls Tryz.prog 186 #[.int .u64 ((sgB ng + v : Nat) : Int), .int .i64 e] w (PkPost ng (k * 4503599627370496 + v) w) := by
  by_cases h1 : v < 4503599627370496
  · have h0 : k = 0 := by omega
    subst h0
    rw [Nat.zero_mul, Nat.zero_add]
    exact pack_low w ng v h1 e
  by_cases h2 : 972 ≤ e
  · exact pack_far w ng v _ (by omega) hv e h2 (by omega)
  exact pack_mid w ng v _ (by omega) hv e k he (by omega) rfl
def PrPost (d : Nat) (p : Int) (ng : Bool) (w : World) (e : Ending) (w' : World) : Prop := ∃ r, Near (dN d p) (dD p) r ∧ PkPost ng r w e w'
theorem stick_or (u : Nat) (hu : u < 18446744073709551616) : Go.bits .or .u64 ((u / 2 : Nat) : Int) ((u % 2 : Nat) : Int) = ((z6b (u / 2) (decide (u % 2 = 1)) : Nat) : Int) := by
  rw [Go.u64_or_nat (u / 2) (u % 2) (by omega) (by omega), or1_nat _ _ (by omega)]
  unfold z6b
  by_cases h : u % 2 = 1
  · rw [if_pos h, decide_eq_true h, if_pos rfl]
  rw [if_neg h, decide_eq_false h, if_neg (by decide)]
theorem self_or (u : Nat) (hu : u < 18446744073709551616) : Go.bits .or .u64 (u : Int) ((u % 2 : Nat) : Int) = (u : Int) := by
  rw [Go.u64_or_nat u (u % 2) (by omega) (by omega), or1_nat _ _ (by omega)]
  refine congrArg Nat.cast ?_
  split <;> omega
theorem usc_lt (x hi lo s : Nat) (hx : x < 18446744073709551616) (hhi : hi < 18446744073709551616) (hs : 8 ≤ s) : usc x hi lo s < 144115188075855872 := by
  have hH : x * hi / 18446744073709551616 < 18446744073709551616 := by
    rw [Nat.div_lt_iff_lt_mul (by decide)]
    exact Nat.lt_of_le_of_lt (Nat.mul_le_mul (show x ≤ 18446744073709551615 by omega) (show hi ≤ 18446744073709551615 by omega)) (by decide)
  have hp : 256 ≤ 2 ^ s := by
    have : 2 ^ 8 ≤ 2 ^ s := Nat.pow_le_pow_right (by decide) hs
    exact this
  have key : ∀ H : Nat, H < 18446744073709551616 → H / 2 ^ s < 72057594037927936 := by
    intro H h
    rw [Nat.div_lt_iff_lt_mul (by omega)]
    have := Nat.mul_le_mul_left 72057594037927936 hp
    omega
  unfold usc
  dsimp only
  generalize x * hi / 18446744073709551616 = H at *
  have k1 := key H hH
  have k2 := key (H - 1) (by omega)
  generalize x * hi % 18446744073709551616 = M at *
  generalize x * lo / 18446744073709551616 = M2 at *
  generalize H % 2 ^ s = Q at *
  by_cases c1 : M < M2
  · rw [if_pos c1, if_pos c1]
    generalize H / 2 ^ s = A at *
    generalize (H - 1) / 2 ^ s = B at *
    split
    · omega
    split <;> omega
  rw [if_neg c1, if_neg c1]
  generalize H / 2 ^ s = A at *
  split
  · omega
  split <;> omega
end Go.Proofs.YtjpiplplohapnaaGreatDoor
namespace Go.Proofs.YtjpiplplohapnaaGreatDoor
open Go.RowKit Go.Proofs.YtjpiplplohapnaaGreatDoorW.PrintWords Go.Proofs.YtjpiplplohapnaaGreatDoorW.PrintMore Nr Us
attribute [local go_sem] z2i z2j
theorem bool2_int (b : Bool) (w : World) : Calls Tryz.prog 133 #[.bool b] w fun e w' => e = .returned (.int .i64 (if b then 1 else 0)) ∧ Below w.heap.size w w' := by
  cases b
  · exact (PText.z3s.calls false 0 w (by decide +kernel)).mono fun _ _ ⟨h1, h2⟩ => ⟨h1, h2.below⟩
  exact (PText.z3s.calls true 1 w (by decide +kernel)).mono fun _ _ ⟨h1, h2⟩ => ⟨h1, h2.below⟩
theorem len64_bln (d : Nat) (hd : d < 18446744073709551616) (w : World) : Calls Tryz.prog 123 #[.int .u64 (d : Int)] w fun e w' => e = .returned (.int .i64 ((bln d : Nat) : Int)) ∧ w' = w := by
  have := Tryz.bits_Len64 (d : Int) w (by omega) (by omega)
  rw [Int.toNat_natCast, bitLen_eq d hd] at this
  exact this
set_option maxRecDepth 100000 in
set_option maxHeartbeats 2000000 in
theorem z7a (w : World) (hL : Laid w) (d : Nat) (h0 : d ≠ 0) (hd : d < 18446744073709551616) (p : Int) (i : Nat) (r : Nat × Nat) (hi : Pinned.pow10Rows[i]? = some r) (hp : p + 348 = i) (ng : Bool) :
    Calls Tryz.prog 153 #[.int .u64 d, .int .i64 p, .int .u64 (sgB ng : Int)] w (PrPost d p ng w) := by
  obtain ⟨hnear, hcase⟩ := parse64_near hi h0 hd
  rw [show (i : Int) - 348 = p by omega] at hnear hcase
  have hlen := z8s
  have hi2 : i < 696 := by
    have := (List.getElem?_eq_some_iff.1 hi).1
    omega
  have HLen := Lib.hid (len64_bln d hd)
  have HLog := Lib.hid (log2_calls p (lp p) (log2_f p (by omega) (by omega)))
  obtain ⟨hb1, hb2, hb3⟩ := z8v h0
  have hb4 : bln d ≤ 64 := bln_le hd
  obtain ⟨hx1, hx2⟩ := left_just h0 hd
  obtain ⟨hrow, hr1, hr2, -⟩ := row_ok hi
  have hl := lp_range p (by omega) (by omega)
  have hEdef : pE d p = min 1074 (53 - (bln d : Int) - lp p) := rfl
  have hSdef : pS d p = -(pE d p - (64 - (bln d : Int)) + lp p + 3) := rfl
  unfold parse64 pU at hnear
  unfold pU at hcase
  generalize bln d = b at *
  generalize lp p = l at *
  generalize pE d p = E at *
  generalize pS d p = S at *
  obtain ⟨x, hx⟩ : ∃ x, x = d * 2 ^ (64 - b) := ⟨_, rfl⟩
  rw [← hx] at hx1 hx2 hnear hcase
  obtain ⟨y, hy⟩ : ∃ y, y = 64 - b := ⟨_, rfl⟩
  rw [← hy] at hx
  have hshl : IntKind.u64.wrap ((d : Int) * 2 ^ y) = (x : Int) := by rw [hx]; exact int_shl d y (by rw [← hx]; exact hx2)
  have hy1 : (64 : Int) - b = y := by omega
  have hy2 : y < 64 := by omega
  have hmin : min 1074 (53 - (b : Int) - l) = E := hEdef.symm
  have hE1 : E ≤ 1074 := by omega
  have hE2 : -2000 ≤ E := by omega
  have hS1 : -(E - (64 - (b : Int)) + l + 3) = S := hSdef.symm
  have hrlt : r.2 < 18446744073709551616 := hrow.small
  have HNear := Lib.hid hnear
  have HCase := Lib.hid hcase
  have HPre := Lib.hid (fun (W : World) (hLW : Laid W) (g B : Nat) hB hg h17 => prescale_walk W hLW g B hB hg h17 (E - (64 - (b : Int))) l p i r hi hp (by omega) (by omega) (by omega) (by omega))
  rw [hS1, hy1] at HPre
  have HS1 := Lib.hid hS1
  clear hS1 hy hb1 hb2 hnear hcase hEdef hSdef hrow hx hi hp hlen hi2 h0 hd
  obtain ⟨rh, rl⟩ := r
  dsimp only at hr1 hr2 hrlt HNear HCase HPre
  go_enter Tryz.func153, Tryz.ntmps153
  go_wp2_with fail
  refine (HLen.out _).mono ?_
  rintro e w1 ⟨rfl, hw1⟩
  obtain rfl := hw1.symm
  clear hw1 HLen
  go_wp2_with fail
  refine (HLog.out _).mono ?_
  rintro e w2 ⟨rfl, hb2⟩
  clear HLog
  have hL2 := hL.below hb2
  have hba := z6c (Below.refl w2.heap.size w2) (Obj.cells #[.int .u64 0, .int .u64 0, .int .i64 0] 203)
  have HP := Lib.hid (HPre.out _ (hL2.below hba) w2.heap.size w2.heap.size (Nat.le_refl _) (z6y _ _) (by have := hL2.size; omega))
  clear HPre
  go_wp2_with fail
  refine HP.out.mono ?_
  rintro e w3 ⟨rfl, hb3', hg3⟩
  clear HP
  have hb03 := hb2.trans ((hba.trans hb3').mono hb2.size)
  have c2 : w3.cell? ⟨w2.heap.size, 2, none⟩ = some (.int .i64 S) := (z0d hg3 2).trans rfl
  by_cases c1 : 64 ≤ S
  · have hf := z4p (Ieee.double.word ng 0)
    have ho : Go.bits .or .u64 (sgB ng : Int) 0 = ((Ieee.double.word ng 0 : Nat) : Int) := by
      rw [z4i]; exact or_sgB ng 0 (by decide)
    obtain ⟨Z, hZ⟩ : ∃ Z, Z = Ieee.double.word ng 0 := ⟨_, rfl⟩
    have HX := Lib.hid hZ
    rw [← hZ] at ho hf
    have HN := HNear.out
    rw [if_pos c1] at HN
    have HN := Lib.hid HN
    clear hZ HNear HCase
    go_wp2_with fail
    go_ret2
    exact ⟨0, HN.out, hb03, Or.inl ⟨by decide, by rw [← HX.out]; rfl⟩⟩
  obtain ⟨h8, hA, hB⟩ := HCase.out.resolve_left c1
  have HN := HNear.out
  rw [if_neg c1] at HN
  clear HNear HCase
  obtain ⟨s, rfl⟩ : ∃ s : Nat, S = s := ⟨S.toNat, by omega⟩
  rw [Int.toNat_natCast] at hA hB HN
  have hs64 : s < 64 := by omega
  have hpos : 0 < x * rh / 18446744073709551616 := by
    have h1 : 9223372036854775808 * 9223372036854775808 ≤ x * rh := Nat.mul_le_mul hx1 hr1
    exact Nat.div_pos (by omega) (by decide)
  have hult := usc_lt x rh rl s hx2 (by omega) (by omega)
  have HU := Lib.hid (uscale_walk w3 w2.heap.size x rh rl s hx2 (by omega) hrlt hs64 hpos hg3)
  generalize usc x rh rl s = u at *
  obtain ⟨U, hU⟩ : ∃ U : Int, U = 36028797018963966 := ⟨_, rfl⟩
  have HM := Lib.hid (unmin_calls 9007199254740992 36028797018963966 unmin_f)
  rw [← hU] at HM
  by_cases c3 : u < 36028797018963966
  · obtain ⟨hv1, hv2⟩ := hA c3
    rw [if_pos c3] at HN
    have HNN := Lib.hid HN
    have c4 : ¬ U ≤ (u : Int) := by omega
    have c5 : decide (U ≤ (u : Int)) = false := decide_eq_false c4
    have HB2 : Hid (∀ w : World, Calls Tryz.prog 133 #[.bool false] w fun e w' => e = .returned (.int .i64 0) ∧ Below w.heap.size w w') := Lib.hid (bool2_int false)
    have HR := Lib.hid (z7n (u : Int) _ (round_f u (by omega)))
    have ha1 := and1_bits u (by omega)
    have ho1 := self_or u (by omega)
    have ho2 := or_sgB ng (rnd u) (by omega)
    obtain ⟨k, hk⟩ : ∃ k : Nat, (k : Int) = 1074 - E := ⟨(1074 - E).toNat, by omega⟩
    have HPk := Lib.hid (fun W => pack_walk W ng (rnd u) k hv1 (fun h => hv2 (by omega)) (-E) (by omega))
    rw [show (1074 - E).toNat = k by omega] at HNN
    generalize rnd u = v at *
    generalize u % 2 = u2 at *
    generalize sgB ng + v = sv at *
    clear hU hA hB HN hv1 hv2 c3 hx1 hx2 hr1 hr2 hrlt hpos hult hk hl hmin hg3 hb4 hb3 hs64 h8
    go_wp2_with fail
    refine HU.out.mono ?_
    rintro e w4 ⟨rfl, hb4'⟩
    have hb04 := hb03.trans (hb4'.mono hb03.size)
    clear HU
    go_wp2_with fail
    refine (HM.out _).mono ?_
    rintro e w5 ⟨rfl, hb5⟩
    have hb05 := hb04.trans (hb5.mono hb04.size)
    clear HM
    go_wp2_with fail
    refine (HB2.out _).mono ?_
    rintro e w6 ⟨rfl, hb6⟩
    have hb06 := hb05.trans (hb6.mono hb05.size)
    clear HB2
    go_wp2_with fail
    refine (HR.out _).mono ?_
    rintro e w7 ⟨rfl, hb7⟩
    have hb07 := hb06.trans (hb7.mono hb06.size)
    clear HR
    go_wp2_with fail
    refine (HPk.out _).mono ?_
    rintro e w8 ⟨hb8, hres⟩
    have hb08 := hb07.trans (hb8.mono hb07.size)
    rcases hres with ⟨hr1, rfl⟩ | ⟨hr1, rfl⟩
    · have HR1 := Lib.hid hr1
      clear hr1 HPk
      obtain ⟨Z, hZ⟩ : ∃ Z, Z = Ieee.double.word ng (k * 4503599627370496 + v) := ⟨_, rfl⟩
      have HX := Lib.hid hZ
      rw [← hZ]
      clear hZ
      go_wp2_with fail
      go_ret2
      exact ⟨_, HNN.out, hb08, Or.inl ⟨HR1.out, by rw [← HX.out]; rfl⟩⟩
    have HR1 := Lib.hid hr1
    clear hr1 HPk
    obtain ⟨Z, hZ⟩ : ∃ Z, Z = Ieee.double.word ng 9218868437227405312 := ⟨_, rfl⟩
    have HX := Lib.hid hZ
    rw [← hZ]
    clear hZ
    go_wp2_with fail
    go_ret2
    exact ⟨_, HNN.out, hb08, Or.inr ⟨HR1.out, by rw [← HX.out]; rfl⟩⟩
  obtain ⟨hv1, hv2⟩ := hB (by omega)
  rw [if_neg c3] at HN
  have HNN := Lib.hid HN
  have c4 : U ≤ (u : Int) := by omega
  have c5 : decide (U ≤ (u : Int)) = true := decide_eq_true c4
  have HB2 : Hid (∀ w : World, Calls Tryz.prog 133 #[.bool true] w fun e w' => e = .returned (.int .i64 1) ∧ Below w.heap.size w w') := Lib.hid (bool2_int true)
  have hst := stick_or u (by omega)
  have hstl : z6b (u / 2) (decide (u % 2 = 1)) < 18446744073709551610 := by
    unfold z6b; split <;> omega
  generalize z6b (u / 2) (decide (u % 2 = 1)) = t at *
  have HR := Lib.hid (z7n (t : Int) _ (round_f t hstl))
  have ha1 := and1_bits u (by omega)
  have ha2 : (u : Int) / 2 = ((u / 2 : Nat) : Int) := by omega
  have ho2 := or_sgB ng (rnd t) (by omega)
  obtain ⟨k, hk⟩ : ∃ k : Nat, (k : Int) = 1075 - E := ⟨(1075 - E).toNat, by omega⟩
  have HPk := Lib.hid (fun W => pack_walk W ng (rnd t) k hv1 (fun _ => hv2) (-(E - 1)) (by omega))
  rw [show (1075 - E).toNat = k by omega] at HNN
  have he1 : -2001 ≤ E - 1 := by omega
  have he2 : E - 1 ≤ 1073 := by omega
  have hw1 : IntKind.i64.wrap (E - 1) = E - 1 := by rw [Go.IntKind.wrap_i64]; omega
  generalize rnd t = v at *
  generalize u % 2 = u2 at *
  generalize u / 2 = u3 at *
  generalize sgB ng + v = sv at *
  clear hU hA hB HN hv1 hv2 c3 hx1 hx2 hr1 hr2 hrlt hpos hult hk hl hmin hg3 hb4 hb3 hs64 h8 hstl
  go_wp2_with fail
  refine HU.out.mono ?_
  rintro e w4 ⟨rfl, hb4'⟩
  have hb04 := hb03.trans (hb4'.mono hb03.size)
  clear HU
  go_wp2_with fail
  refine (HM.out _).mono ?_
  rintro e w5 ⟨rfl, hb5⟩
  have hb05 := hb04.trans (hb5.mono hb04.size)
  clear HM
  go_wp2_with fail
  refine (HB2.out _).mono ?_
  rintro e w6 ⟨rfl, hb6⟩
  have hb06 := hb05.trans (hb6.mono hb05.size)
  clear HB2
  go_wp2_with fail
  refine (HR.out _).mono ?_
  rintro e w7 ⟨rfl, hb7⟩
  have hb07 := hb06.trans (hb7.mono hb06.size)
  clear HR
  go_wp2_with fail
  refine (HPk.out _).mono ?_
  rintro e w8 ⟨hb8, hres⟩
  have hb08 := hb07.trans (hb8.mono hb07.size)
  rcases hres with ⟨hr1, rfl⟩ | ⟨hr1, rfl⟩
  · have HR1 := Lib.hid hr1
    clear hr1 HPk
    obtain ⟨Z, hZ⟩ : ∃ Z, Z = Ieee.double.word ng (k * 4503599627370496 + v) := ⟨_, rfl⟩
    have HX := Lib.hid hZ
    rw [← hZ]
    clear hZ
    go_wp2_with fail
    go_ret2
    exact ⟨_, HNN.out, hb08, Or.inl ⟨HR1.out, by rw [← HX.out]; rfl⟩⟩
  have HR1 := Lib.hid hr1
  clear hr1 HPk
  obtain ⟨Z, hZ⟩ : ∃ Z, Z = Ieee.double.word ng 9218868437227405312 := ⟨_, rfl⟩
  have HX := Lib.hid hZ
  rw [← hZ]
  clear hZ
  go_wp2_with fail
  go_ret2
  exact ⟨_, HNN.out, hb08, Or.inr ⟨HR1.out, by rw [← HX.out]; rfl⟩⟩
end Go.Proofs.YtjpiplplohapnaaGreatDoor
namespace Go.Proofs.YtjpiplplohapnaaGreatDoor
open Go.RowKit Go.Proofs.YtjpiplplohapnaaGreatDoorW.PrintWords Rf
def SomeBool (w : World) (e : Ending) (w' : World) : Prop := (∃ b : Bool, e = .returned (.bool b)) ∧ w' = w
set_option maxRecDepth 100000 in
set_option maxHeartbeats 2000000 in
theorem under_calls (s : ByteArray) (hs : s.size ≤ 1000) (w : World) : Calls Tryz.prog 173 #[.string s] w (SomeBool w) := by
  go_enter Tryz.func173, Tryz.ntmps173
  go_upto_region 3 with (fail)
  go_cut [18] (fun v18 w' => (∃ b : Bool, v18 = .bool b ∧ (b = true → 1 ≤ s.size)) ∧ w = w')
  case first =>
    by_cases h1 : 1 ≤ s.size
    · have h1' : (1 : Int) ≤ s.size := by omega
      have h0 : 0 < s.size := h1
      go_wp2_with fail
      all_goals (go_meet; case rel => first | exact ⟨⟨_, rfl, fun _ => h1⟩, rfl⟩)
    have h1' : ¬ (1 : Int) ≤ s.size := by omega
    have h1'' : (s.size : Int) < 1 := by omega
    go_wp2_with fail
    all_goals (go_meet; case rel => first | exact ⟨⟨false, rfl, fun h => by cases h⟩, rfl⟩)
  obtain ⟨⟨b, rfl, hb⟩, rfl⟩ := hcut
  go_upto_if 18 with (fail)
  go_cut [0] (fun v0 w' => (∃ s' : ByteArray, v0 = .string s' ∧ s'.size ≤ 1000) ∧ w = w')
  case first =>
    cases b
    · go_wp2_with fail
      go_meet
      case rel => exact ⟨⟨s, rfl, hs⟩, rfl⟩
    have h1 := hb rfl
    have h1' : (1 : Int) ≤ s.size := by omega
    go_wp2_with fail
    go_meet
    case rel => exact ⟨⟨_, rfl, by rw [ByteArray.size_extract]; omega⟩, rfl⟩
  obtain ⟨⟨t, rfl, ht⟩, rfl⟩ := hcut
  clear hs hb
  go_upto_region 6 with (fail)
  go_cut [46] (fun v46 w' => (∃ b : Bool, v46 = .bool b ∧ (b = true → 2 ≤ t.size)) ∧ w = w')
  case first =>
    by_cases h1 : 2 ≤ t.size
    · have h1' : (2 : Int) ≤ t.size := by omega
      have h0 : 0 < t.size := by omega
      have h01 : 1 < t.size := by omega
      go_wp2_with (refine (Tryz.internal_strconv_lower _ _).mono ?_; rintro e w1 ⟨rfl, rfl⟩)
      all_goals (go_meet; case rel => first | exact ⟨⟨_, rfl, fun _ => h1⟩, rfl⟩)
    have h1' : ¬ (2 : Int) ≤ t.size := by omega
    have h1'' : (t.size : Int) < 2 := by omega
    go_wp2_with fail
    all_goals (go_meet; case rel => first | exact ⟨⟨false, rfl, fun h => by cases h⟩, rfl⟩)
  obtain ⟨⟨b, rfl, hb⟩, rfl⟩ := hcut
  go_upto_if 46 with (fail)
  go_cut [3, 4, 5] (fun v3 v4 v5 w' => (∃ (r : Int) (k : Nat) (h : Bool), v3 = .int .i32 r ∧ v4 = .int .i64 k ∧ v5 = .bool h ∧ k ≤ t.size) ∧ w = w')
  case first =>
    cases b
    · go_wp2_with fail
      go_meet
      case rel => exact ⟨⟨94, 0, false, rfl, rfl, rfl, by omega⟩, rfl⟩
    have h1 := hb rfl
    have h01 : 1 < t.size := by omega
    go_wp2_with (refine (Tryz.internal_strconv_lower _ _).mono ?_; rintro e w1 ⟨rfl, rfl⟩)
    all_goals (go_meet; case rel => exact ⟨⟨48, 2, _, rfl, rfl, rfl, h1⟩, rfl⟩)
  obtain ⟨⟨r0, k0, hx, rfl, rfl, rfl, hk0⟩, rfl⟩ := hcut
  clear hb
  go_wp2_with fail
  have hsz0 : t.size - k0 + k0 = t.size := by omega
  clear hk0
  go_loopg [3, 4] (t.size - k0) (fun gn v3 v4 w' => ∃ (r : Int) (k : Nat), gn + k = t.size ∧ v3 = .int .i32 r ∧ v4 = .int .i64 k ∧ w = w')
  case atStart => exact ⟨r0, k0, hsz0, rfl, rfl, rfl⟩
  case round =>
    obtain ⟨r, k, hg, rfl, rfl, rfl⟩ := hrel
    by_cases hk : k < t.size
    · have hw : IntKind.i64.wrap ((k : Int) + 1) = (k : Int) + 1 := by rw [Go.IntKind.wrap_i64]; omega
      go_upto_region 12 with (fail)
      go_cut [83] (fun v83 w' => (∃ b : Bool, v83 = .bool b) ∧ w = w')
      case first =>
        cases hx
        · go_wp2_with (refine (Tryz.internal_strconv_lower _ _).mono ?_; rintro e w1 ⟨rfl, rfl⟩)
          all_goals (go_meet; case rel => exact ⟨⟨_, rfl⟩, rfl⟩)
        go_wp2_with (refine (Tryz.internal_strconv_lower _ _).mono ?_; rintro e w1 ⟨rfl, rfl⟩)
        all_goals (go_meet; case rel => exact ⟨⟨_, rfl⟩, rfl⟩)
      obtain ⟨⟨b, rfl⟩, rfl⟩ := hcut
      cases b
      · go_wp2_with fail
        · go_ret
          exact ⟨⟨_, rfl⟩, rfl⟩
        · go_roundg (gk - 1)
          case measure => omega
          case rel => exact ⟨95, k + 1, by omega, rfl, by go_num, rfl⟩
        · go_ret
          exact ⟨⟨_, rfl⟩, rfl⟩
        go_roundg (gk - 1)
        case measure => omega
        case rel => exact ⟨33, k + 1, by omega, rfl, by go_num, rfl⟩
      go_wp2_with fail
      go_roundg (gk - 1)
      case measure => omega
      case rel => exact ⟨48, k + 1, by omega, rfl, by go_num, rfl⟩
    go_wp2_with fail
    all_goals (go_ret; exact ⟨⟨_, rfl⟩, rfl⟩)
def z5j (w : World) (e : Ending) (w' : World) : Prop := e = .returned (.tuple #[.float .f64 0, .int .i64 0, .bool false]) ∧ w' = w
theorem special_digit (s : ByteArray) (h0 : 0 < s.size) (h1 : 48 ≤ s[0].toNat) (h2 : s[0].toNat ≤ 57) (w : World) : Calls Tryz.prog 141 #[.string s] w (z5j w) := by
  have hne : ¬ s = ByteArray.empty := by rintro rfl; simp at h0
  obtain ⟨c, hc⟩ : ∃ c : Nat, s[0].toNat = c := ⟨_, rfl⟩
  have hcc : (s[0].toNat : Int) = (c : Int) := by rw [hc]
  rw [hc] at h1 h2
  clear hc
  have f1 : ((c : Int) == 43) = false := by simp; omega
  have f2 : ((c : Int) == 45) = false := by simp; omega
  have f3 : ((c : Int) == 105) = false := by simp; omega
  have f4 : ((c : Int) == 73) = false := by simp; omega
  have f5 : ((c : Int) == 110) = false := by simp; omega
  have f6 : ((c : Int) == 78) = false := by simp; omega
  go_enter Tryz.func141, Tryz.ntmps141
  go_wp2_with fail
  go_ret3
  exact ⟨rfl, rfl⟩
theorem common_digit (s : ByteArray) (h0 : 0 < s.size) (h1 : 48 ≤ s[0].toNat) (h2 : s[0].toNat ≤ 57) (w : World) : Calls Tryz.prog 181 #[.string s, .string ⟨#[105, 110, 102, 105, 110, 105, 116, 121]⟩] w fun e w' => e = .returned (.int .i64 0) ∧ w' = w := by
  obtain ⟨c, hc⟩ : ∃ c : Nat, s[0].toNat = c := ⟨_, rfl⟩
  have hcc : (s[0].toNat : Int) = (c : Int) := by rw [hc]
  rw [hc] at h1 h2
  clear hc
  have f1 : ¬ (65 : Int) ≤ (c : Int) := by omega
  have e105 : (⟨#[105, 110, 102, 105, 110, 105, 116, 121]⟩ : ByteArray)[0] = 105 := by decide
  have f2 : ((c : Int) != 105) = true := by simp; omega
  go_enter Tryz.func181, Tryz.ntmps181
  go_wp2_with fail
  refine wp_loop_rounds 1 ?_
  rw [rounds_succ]
  have hm : (0 : Int) < min 8 (s.size : Int) := by omega
  go_wp2_with fail
  go_ret
  exact ⟨rfl, rfl⟩
theorem special_minus (s : ByteArray) (hs : 1 < s.size) (hs2 : s.size ≤ 1000) (h45 : s[0].toNat = 45) (h1 : 48 ≤ s[1].toNat) (h2 : s[1].toNat ≤ 57) (w : World) : Calls Tryz.prog 141 #[.string s] w (z5j w) := by
  have h0 : 0 < s.size := by omega
  have hne : ¬ s = ByteArray.empty := by rintro rfl; simp at h0
  have hcc : (s[0].toNat : Int) = 45 := by rw [h45]; rfl
  have hs' : (1 : Int) ≤ s.size := by omega
  have hx0 : 0 < (s.extract 1 s.size).size := by rw [ByteArray.size_extract]; omega
  have hx1 : (s.extract 1 s.size)[0] = s[1] := by
    simp [ByteArray.getElem_extract]
  have hcp := Lib.hid (common_digit (s.extract 1 s.size) hx0 (by rw [hx1]; exact h1) (by rw [hx1]; exact h2))
  clear h1 h2 hx0 hx1 h45
  go_enter Tryz.func141, Tryz.ntmps141
  go_wp2_with fail
  refine (hcp.out _).mono ?_
  rintro e w' ⟨rfl, rfl⟩
  go_wp2_with fail
  go_ret3
  exact ⟨rfl, rfl⟩
def z7g (ng hx : Bool) (s : ByteArray) (o : Option Out) (w : World) (e : Ending) (w' : World) : Prop := w' = w ∧ match o with
  | none => ∃ (m x i : Int) (n t h : Bool), e = .returned (.tuple #[.int .u64 m, .int .i64 x, .bool n, .bool t, .bool h, .int .i64 i, .bool false])
  | some q => ∃ ok : Bool, (q.us = false → ok = true) ∧ e = .returned (.tuple #[.int .u64 q.m, .int .i64 q.e, .bool ng, .bool q.tr, .bool hx, .int .i64 ((s.size - q.rest.length : Nat) : Int), .bool ok])
theorem pos_of {s : ByteArray} {k : Nat} (h : k ≤ s.size) : s.size - (s.data.toList.drop k).length = k := by
  have : s.data.toList.length = s.size := Array.length_toList
  rw [List.length_drop]; omega
end Go.Proofs.YtjpiplplohapnaaGreatDoor
namespace Go.Proofs.YtjpiplplohapnaaGreatDoor
open Go.RowKit Go.Proofs.YtjpiplplohapnaaGreatDoorW.PrintWords Rf
def headR : Code → Option Nat
  | .region n _ _ => some n
  | .seq a _ => headR a
  | _ => none
def fromR (n : Nat) : Code → Option Code
  | .seq a b => if headR a = some n then some (.seq a b) else match fromR n a with
    | some c => some c
    | none => fromR n b
  | .cond _ a b => match fromR n a with
    | some c => some c
    | none => fromR n b
  | .block _ c => fromR n c
  | .scope c => fromR n c
  | .loop c => fromR n c
  | _ => none
noncomputable def rfCode77 : Code := ((Tryz.f142.body.bind (fromR 77)).getD .skip)
noncomputable def rfCode51 : Code := ((Tryz.f142.body.bind (fromR 51)).getD .skip)
set_option maxRecDepth 100000 in
set_option maxHeartbeats 4000000 in
theorem rfEnd (s : ByteArray) (hs : s.size ≤ 1000) (m k : Nat) (ng hx tr us : Bool) (N E : Int) (hk : k ≤ s.size) (e1 : -200000 ≤ E) (e2 : E ≤ 200000) (n1 : 0 ≤ N) (n2 : N ≤ 100) (o : Option Out) (ho : Hid (o = some ⟨m, if m = 0 then 0 else E - N, tr, us, s.data.toList.drop k⟩)) (w : World) {u1 u10 u11 u12 u13 u14 u15 u18 u19 u20 u21 u22 u23 u24 u25 u26 u27 u28 u29 u30 u31 u32 u33 u34 u35 u36 u37 u38 u39 u40 u41 u42 u43 u44 u45 u46 u47 u48 u49 u50 u51 u52 u53 u54 u55 u56 u57 u58 u59 u60 u61 u62 u63 u64 u65 u66 u67 u68 u69 u70 u71 u72 u73 u74 u75 u76 u77 u78 u79 u80 u81 u82 u83 u84 u85 u86 u87 u88 u89 u90 u91 u92 u93 u94 u95 u96 u97 u98 u99 u100 u101 u102 u103 u104 u105 u106 u107 u108 u109 u110 u111 u112 u113 u114 u115 u116 u117 u118 u119 u120 u121 u122 u123 u124 u125 u126 u127 u128 u129 u130 u131 u132 u133 u134 u135 u136 u137 u138 u139 u140 u141 u142 u143 u144 u145 u146 u147 u148 u149 u150 u151 u152 u153 u154 u155 u156 u157 u158 u159 u160 u161 u162 u163 u164 u165 u166 u167 u168 u169 u170 u171 u172 u173 u174 u175 u176 u177 u178 u179 u180 u181 u182 u183 u184 u185 u186 u187 u188 u189 u190 u191 u192 u193 u194 u195 u196 u197 u198 u199 u200 u201 u202 u203 u204 u205 u206 u207 u208 u209 u210 u211 u212 u213 u214 u215 u216 u217 u218 u219 u220 u221 u222 u223 u224 u225 u226 u227 u228 u229 u230 u231 u232 u233 u234 u235 u236 u237 u238 u239 u240 u241 u242 u243 u244 u245 u246 u247 u248 u249 u250 u251 u252 : Value} :
    rfCode77.wp Tryz.prog (Exit.noGoto (bodyPost Tryz.prog Tryz.f142 (z7g ng hx s o w))) ⟨#[Value.string s, u1, Value.int .u64 m, Value.int .i64 0, Value.bool ng, Value.bool tr, Value.bool hx, Value.int .i64 (k : Int), Value.bool false, Value.bool us, u10, u11, u12, u13, u14, u15, Value.int .i64 N, Value.int .i64 E, u18, u19, u20, u21, u22, u23, u24, u25, u26, u27, u28, u29, u30, u31, u32, u33, u34, u35, u36, u37, u38, u39, u40, u41, u42, u43, u44, u45, u46, u47, u48, u49, u50, u51, u52, u53, u54, u55, u56, u57, u58, u59, u60, u61, u62, u63, u64, u65, u66, u67, u68, u69, u70, u71, u72, u73, u74, u75, u76, u77, u78, u79, u80, u81, u82, u83, u84, u85, u86, u87, u88, u89, u90, u91, u92, u93, u94, u95, u96, u97, u98, u99, u100, u101, u102, u103, u104, u105, u106, u107, u108, u109, u110, u111, u112, u113, u114, u115, u116, u117, u118, u119, u120, u121, u122, u123, u124, u125, u126, u127, u128, u129, u130, u131, u132, u133, u134, u135, u136, u137, u138, u139, u140, u141, u142, u143, u144, u145, u146, u147, u148, u149, u150, u151, u152, u153, u154, u155, u156, u157, u158, u159, u160, u161, u162, u163, u164, u165, u166, u167, u168, u169, u170, u171, u172, u173, u174, u175, u176, u177, u178, u179, u180, u181, u182, u183, u184, u185, u186, u187, u188, u189, u190, u191, u192, u193, u194, u195, u196, u197, u198, u199, u200, u201, u202, u203, u204, u205, u206, u207, u208, u209, u210, u211, u212, u213, u214, u215, u216, u217, u218, u219, u220, u221, u222, u223, u224, u225, u226, u227, u228, u229, u230, u231, u232, u233, u234, u235, u236, u237, u238, u239, u240, u241, u242, u243, u244, u245, u246, u247, u248, u249, u250, u251, u252], []⟩ w := by
  conv => arg 2; whnf
  have hwe : IntKind.i64.wrap (E - N) = E - N := by rw [Go.IntKind.wrap_i64]; omega
  clear e1 e2 n1 n2
  by_cases hm : m = 0
  · have fm : ((m : Int) != 0) = false := by simp [hm]
    have HM := Lib.hid (show (if m = 0 then (0 : Int) else E - N) = 0 from if_pos hm)
    clear hm
    cases us
    · go_wp2_with fail
      rw [Exit.noGoto_ret]
      refine bodyPost_ret (v := .tuple #[.int .u64 m, .int .i64 0, .bool ng, .bool tr, .bool hx, .int .i64 k, .bool true]) (by simp [results, Tryz.results142, go_sem]) rfl ⟨rfl, ?_⟩
      rw [ho.out]
      refine ⟨true, fun _ => rfl, ?_⟩
      dsimp only
      rw [HM.out, pos_of hk]
    have hun := Lib.hid (under_calls (s.extract 0 k) (by rw [ByteArray.size_extract]; omega))
    go_wp2_with (refine (hun.out _).mono ?_; rintro e w1 ⟨⟨ok, rfl⟩, rfl⟩; cases ok)
    all_goals rw [Exit.noGoto_ret]
    · refine bodyPost_ret (v := .tuple #[.int .u64 m, .int .i64 0, .bool ng, .bool tr, .bool hx, .int .i64 k, .bool false]) (by simp [results, Tryz.results142, go_sem]) rfl ⟨rfl, ?_⟩
      rw [ho.out]
      refine ⟨false, fun h => (by first | rfl | (cases h)), ?_⟩
      dsimp only
      rw [HM.out, pos_of hk]
    refine bodyPost_ret (v := .tuple #[.int .u64 m, .int .i64 0, .bool ng, .bool tr, .bool hx, .int .i64 k, .bool true]) (by simp [results, Tryz.results142, go_sem]) rfl ⟨rfl, ?_⟩
    rw [ho.out]
    refine ⟨true, fun h => (by first | rfl | (cases h)), ?_⟩
    dsimp only
    rw [HM.out, pos_of hk]
  have fm : ((m : Int) != 0) = true := by simp; omega
  have HM := Lib.hid (show (if m = 0 then (0 : Int) else E - N) = (E - N) from if_neg hm)
  clear hm
  cases us
  · go_wp2_with fail
    rw [Exit.noGoto_ret]
    refine bodyPost_ret (v := .tuple #[.int .u64 m, .int .i64 (E - N), .bool ng, .bool tr, .bool hx, .int .i64 k, .bool true]) (by simp [results, Tryz.results142, go_sem]) rfl ⟨rfl, ?_⟩
    rw [ho.out]
    refine ⟨true, fun _ => rfl, ?_⟩
    dsimp only
    rw [HM.out, pos_of hk]
  have hun := Lib.hid (under_calls (s.extract 0 k) (by rw [ByteArray.size_extract]; omega))
  go_wp2_with (refine (hun.out _).mono ?_; rintro e w1 ⟨⟨ok, rfl⟩, rfl⟩; cases ok)
  all_goals rw [Exit.noGoto_ret]
  · refine bodyPost_ret (v := .tuple #[.int .u64 m, .int .i64 (E - N), .bool ng, .bool tr, .bool hx, .int .i64 k, .bool false]) (by simp [results, Tryz.results142, go_sem]) rfl ⟨rfl, ?_⟩
    rw [ho.out]
    refine ⟨false, fun h => (by first | rfl | (cases h)), ?_⟩
    dsimp only
    rw [HM.out, pos_of hk]
  refine bodyPost_ret (v := .tuple #[.int .u64 m, .int .i64 (E - N), .bool ng, .bool tr, .bool hx, .int .i64 k, .bool true]) (by simp [results, Tryz.results142, go_sem]) rfl ⟨rfl, ?_⟩
  rw [ho.out]
  refine ⟨true, fun h => (by first | rfl | (cases h)), ?_⟩
  dsimp only
  rw [HM.out, pos_of hk]
end Go.Proofs.YtjpiplplohapnaaGreatDoor
