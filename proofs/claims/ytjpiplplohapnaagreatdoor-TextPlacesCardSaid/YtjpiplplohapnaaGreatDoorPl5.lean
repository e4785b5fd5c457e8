/- Part 5 of the proof: Uv, Uz, Rf, LRb, AwE, AwF, AwG, AwH. -/
import Derived.Test.YtjpiplplohapnaaGreatDoorPl4
import Derived.Lib.OwnBridge
import Derived.Deep.RegionHeld
import Derived.Deep.RegionWith
import Derived.Laws.BytesString
import Derived.LoopTactic
set_option linter.unusedVariables false
set_option linter.unusedSimpArgs false
namespace Go.Proofs.YtjpiplplohapnaaGreatDoor
open Go.RowKit Go.Proofs.YtjpiplplohapnaaGreatDoorW.PrintWords Go.Proofs.YtjpiplplohapnaaGreatDoorW.PrintMore Nr Us
attribute [local go_sem] max2_int min2_int
theorem flat_two {α β : Type} (f g : α → β) : ∀ (l : List α) (i : Nat), (l.flatMap fun x => [f x, g x])[2 * i]? = (l[i]?).map f ∧ (l.flatMap fun x => [f x, g x])[2 * i + 1]? = (l[i]?).map g
  | [], i => by simp
  | x :: l, 0 => by simp
  | x :: l, i + 1 => by
    have := flat_two f g l i
    rw [List.flatMap_cons, show 2 * (i + 1) = 2 * i + 2 by omega]
    show ((f x :: g x :: (l.flatMap fun x => [f x, g x]))[2 * i + 2]? = _) ∧ ((f x :: g x :: (l.flatMap fun x => [f x, g x]))[2 * i + 2 + 1]? = _)
    exact this
theorem p10_row {w : World} (h : Laid w) {i : Nat} {r : Nat × Nat} (hi : Pinned.pow10Rows[i]? = some r) : w.cell? ⟨11, i * 2, none⟩ = some (.int .u64 r.1) ∧ w.cell? ⟨11, i * 2 + 1, none⟩ = some (.int .u64 r.2) := by
  have key := flat_two (fun x : Nat × Nat => Value.int .u64 x.1) (fun x : Nat × Nat => Value.int .u64 x.2) Pinned.pow10Rows i
  rw [hi, Nat.mul_comm 2 i] at key
  constructor
  · rw [h.p10Cell, List.getElem?_toArray]; exact key.1
  rw [h.p10Cell, List.getElem?_toArray]; exact key.2
set_option maxRecDepth 100000 in
set_option maxHeartbeats 1000000 in
theorem prescale_walk (w : World) (hL : Laid w) (g B : Nat) (hB : B ≤ g) (hg : w.heap[g]? = some (.cells #[.int .u64 0, .int .u64 0, .int .i64 0] 203 (0, 0))) (h17 : 17 ≤ g)
    (e l p : Int) (i : Nat) (r : Nat × Nat) (hi : Pinned.pow10Rows[i]? = some r) (hp : p + 348 = i) (he1 : -10000 < e) (he2 : e < 10000) (hl1 : -10000 < l) (hl2 : l < 10000) :
    Calls Tryz.prog 158 #[.pointer (some ⟨g, 0, none⟩), .int .i64 e, .int .i64 p, .int .i64 l] w fun e' w' => e' = .returned (.tuple #[]) ∧ Below B w w' ∧ w'.heap[g]? = some (.cells #[.int .u64 r.1, .int .u64 r.2, .int .i64 (-(e + l + 3))] 203 (0, 0)) := by
  obtain ⟨p0, p1⟩ := p10_row hL hi
  have hlen := rows_len
  have hi2 : i < 696 := by
    have := (List.getElem?_eq_some_iff.1 hi).1
    omega
  obtain ⟨x, y⟩ := r
  dsimp only at p0 p1 ⊢
  have c0 : w.cell? ⟨g, 0, none⟩ = some (.int .u64 0) := (blk_cell hg 0).trans rfl
  have c1 : w.cell? ⟨g, 1, none⟩ = some (.int .u64 0) := (blk_cell hg 1).trans rfl
  have c2 : w.cell? ⟨g, 2, none⟩ = some (.int .i64 0) := (blk_cell hg 2).trans rfl
  have f0 := blk_frozen hg 0
  have f1 := blk_frozen hg 1
  have f2 := blk_frozen hg 2
  have hne : (11 : Nat) ≠ g := by omega
  have hw1 : IntKind.i64.wrap (p - -348) = (i : Int) := by rw [Go.IntKind.wrap_i64]; omega
  have hw2 : IntKind.i64.wrap (p + 348) = (i : Int) := by rw [Go.IntKind.wrap_i64]; omega
  have hi3 : (i : Int) < 696 := by omega
  have hpi : p = (i : Int) - 348 := by omega
  clear hi hL hlen hp
  subst hpi
  go_enter Tryz.func158, Tryz.ntmps158
  go_wp2_with fail
  go_end0
  refine ⟨rfl, (((Below.refl B w).setCell hB _).setCell hB _).setCell hB _, ?_⟩
  refine blk_put (cs := #[.int .u64 x, .int .u64 y, .int .i64 0]) ?_ 2 _ (by first | rfl | (congr 4; omega))
  refine blk_put (cs := #[.int .u64 x, .int .u64 0, .int .i64 0]) ?_ 1 _ rfl
  exact blk_put hg 0 _ rfl
theorem int_shr (v s : Nat) : (v : Int) / 2 ^ s = ((v / 2 ^ s : Nat) : Int) := by rw [Int.natCast_ediv, Int.natCast_pow]; rfl
theorem int_shl (v s : Nat) (h : v * 2 ^ s < 18446744073709551616) : IntKind.u64.wrap ((v : Int) * 2 ^ s) = ((v * 2 ^ s : Nat) : Int) := by
  rw [show ((v : Int) * 2 ^ s) = ((v * 2 ^ s : Nat) : Int) by rw [Int.natCast_mul, Int.natCast_pow]; rfl, IntWalk.u64_in _ (by omega)]
set_option maxRecDepth 100000 in
set_option maxHeartbeats 1000000 in
theorem uscale_odd (w : World) (g x hi lo s : Nat) (hx : x < 18446744073709551616) (hhi : hi < 18446744073709551616) (hs : s < 64)
    (hg : w.heap[g]? = some (.cells #[.int .u64 hi, .int .u64 lo, .int .i64 s] 203 (0, 0))) (h : x * hi / 18446744073709551616 % 2 ^ s ≠ 0) :
    Calls Tryz.prog 160 #[.int .u64 x, .pointer (some ⟨g, 0, none⟩)] w fun e w' => e = .returned (.int .u64 ((x * hi / 18446744073709551616 / 2 ^ s / 2 * 2 + 1 : Nat) : Int)) ∧ Below w.heap.size w w' := by
  have c0 : w.cell? ⟨g, 0, none⟩ = some (.int .u64 hi) := (blk_cell hg 0).trans rfl
  have c1 : w.cell? ⟨g, 1, none⟩ = some (.int .u64 lo) := (blk_cell hg 1).trans rfl
  have c2 : w.cell? ⟨g, 2, none⟩ = some (.int .i64 s) := (blk_cell hg 2).trans rfl
  have b63 := and63 s hs
  have HM := Lib.hid (Tryz.bits_Mul64 x hi hx hhi)
  have hH : x * hi / 18446744073709551616 < 18446744073709551616 := by
    rw [Nat.div_lt_iff_lt_mul (by decide)]
    exact Nat.lt_of_le_of_lt (Nat.mul_le_mul (show x ≤ 18446744073709551615 by omega) (show hi ≤ 18446744073709551615 by omega)) (by decide)
  generalize x * hi / 18446744073709551616 = H at *
  generalize x * hi % 18446744073709551616 = M at *
  have s1 := int_shr H s
  have hle : H / 2 ^ s * 2 ^ s ≤ H := Nat.div_mul_le_self _ _
  have s2 := int_shl (H / 2 ^ s) s (by omega)
  have hne : H / 2 ^ s * 2 ^ s ≠ H := by
    intro hh
    have := Nat.div_add_mod H (2 ^ s)
    rw [Nat.mul_comm] at this
    omega
  have ho := or_one (H / 2 ^ s) (Nat.lt_of_le_of_lt (Nat.div_le_self _ _) hH)
  generalize H / 2 ^ s / 2 * 2 + 1 = R at *
  generalize H / 2 ^ s * 2 ^ s = H2 at *
  generalize H / 2 ^ s = H1 at *
  have hb : ((H2 : Int) != (H : Int)) = true := by simp; omega
  clear h hle hne
  go_enter Tryz.func160, Tryz.ntmps160
  go_wp2_with fail
  refine (HM.out _).mono ?_
  rintro e w' ⟨rfl, rfl⟩
  clear HM
  go_wp2_with fail
  go_ret
  exact ⟨rfl, Below.refl _ _⟩
theorem bool2_u64b (b : Bool) (w : World) : Calls Tryz.prog 150 #[.bool b] w fun e w' => e = .returned (.int .u64 ((if b then 1 else 0 : Nat) : Int)) ∧ ∃ n, w' = w.drewN n := by
  cases b
  · exact (PText.strconv_bool2_uint64.calls false 0 w (by decide +kernel)).mono fun _ _ ⟨h1, n, h2⟩ => ⟨h1, n, h2⟩
  exact (PText.strconv_bool2_uint64.calls true 1 w (by decide +kernel)).mono fun _ _ ⟨h1, n, h2⟩ => ⟨h1, n, h2⟩
set_option maxRecDepth 100000 in
set_option maxHeartbeats 1000000 in
theorem uscale_even (w : World) (g x hi lo s : Nat) (hx : x < 18446744073709551616) (hhi : hi < 18446744073709551616) (hlo : lo < 18446744073709551616) (hs : s < 64)
    (hg : w.heap[g]? = some (.cells #[.int .u64 hi, .int .u64 lo, .int .i64 s] 203 (0, 0))) (h : x * hi / 18446744073709551616 % 2 ^ s = 0) (hpos : 0 < x * hi / 18446744073709551616) :
    Calls Tryz.prog 160 #[.int .u64 x, .pointer (some ⟨g, 0, none⟩)] w fun e w' => e = .returned (.int .u64 ((usc x hi lo s : Nat) : Int)) ∧ Below w.heap.size w w' := by
  have c0 : w.cell? ⟨g, 0, none⟩ = some (.int .u64 hi) := (blk_cell hg 0).trans rfl
  have c1 : w.cell? ⟨g, 1, none⟩ = some (.int .u64 lo) := (blk_cell hg 1).trans rfl
  have c2 : w.cell? ⟨g, 2, none⟩ = some (.int .i64 s) := (blk_cell hg 2).trans rfl
  have b63 := and63 s hs
  have HM := Lib.hid (Tryz.bits_Mul64 x hi hx hhi)
  have HM2 := Lib.hid (Tryz.bits_Mul64 x lo hx hlo)
  have hH : x * hi / 18446744073709551616 < 18446744073709551616 := by
    rw [Nat.div_lt_iff_lt_mul (by decide)]
    exact Nat.lt_of_le_of_lt (Nat.mul_le_mul (show x ≤ 18446744073709551615 by omega) (show hi ≤ 18446744073709551615 by omega)) (by decide)
  have hM : x * hi % 18446744073709551616 < 18446744073709551616 := Nat.mod_lt _ (by decide)
  have hM2 : x * lo / 18446744073709551616 < 18446744073709551616 := by
    rw [Nat.div_lt_iff_lt_mul (by decide)]
    exact Nat.lt_of_le_of_lt (Nat.mul_le_mul (show x ≤ 18446744073709551615 by omega) (show lo ≤ 18446744073709551615 by omega)) (by decide)
  have hU : usc x hi lo s = (if 1 < (if x * hi % 18446744073709551616 < x * lo / 18446744073709551616 then 18446744073709551616 + x * hi % 18446744073709551616 - x * lo / 18446744073709551616 else x * hi % 18446744073709551616 - x * lo / 18446744073709551616)
      then (if x * hi % 18446744073709551616 < x * lo / 18446744073709551616 then x * hi / 18446744073709551616 - 1 else x * hi / 18446744073709551616) / 2 ^ s / 2 * 2 + 1
      else (if x * hi % 18446744073709551616 < x * lo / 18446744073709551616 then x * hi / 18446744073709551616 - 1 else x * hi / 18446744073709551616) / 2 ^ s) := by
    unfold usc
    dsimp only
    rw [if_neg (by omega)]
  rw [hU]
  clear hU
  generalize x * hi / 18446744073709551616 = H at *
  generalize x * hi % 18446744073709551616 = M at *
  generalize x * lo / 18446744073709551616 = M2 at *
  generalize x * lo % 18446744073709551616 = L2 at *
  have s1 := int_shr H s
  have hle : H / 2 ^ s * 2 ^ s = H := by
    have := Nat.div_add_mod H (2 ^ s)
    rw [Nat.mul_comm] at this
    omega
  have s2 := int_shl (H / 2 ^ s) s (by omega)
  rw [hle] at s2
  have hb : ((H : Int) != (H : Int)) = false := by simp
  obtain ⟨H', hH'⟩ : ∃ H', H' = if M < M2 then H - 1 else H := ⟨_, rfl⟩
  obtain ⟨D, hD⟩ : ∃ D, D = if M < M2 then 18446744073709551616 + M - M2 else M - M2 := ⟨_, rfl⟩
  rw [← hH', ← hD]
  have hH2 : H' < 18446744073709551616 := by rw [hH']; split <;> omega
  have s3 := int_shr H' s
  have ho := or_one (H' / 2 ^ s) (Nat.lt_of_le_of_lt (Nat.div_le_self _ _) hH2)
  have hz := or_zero64 (H' / 2 ^ s) (Nat.lt_of_le_of_lt (Nat.div_le_self _ _) hH2)
  have hwD : IntKind.u64.wrap ((M : Int) - (M2 : Int)) = (D : Int) := by rw [hD, Go.IntKind.wrap_u64]; split <;> omega
  have hwH : IntKind.u64.wrap ((H : Int) - ((if decide (M < M2) then 1 else 0 : Nat) : Int)) = (H' : Int) := by
    rw [hH', Go.IntKind.wrap_u64]
    by_cases hc : M < M2
    · rw [if_pos hc, decide_eq_true hc, if_pos rfl]; omega
    rw [if_neg hc, decide_eq_false hc, if_neg (by decide)]; omega
  obtain ⟨b1, hb1⟩ : ∃ b1 : Nat, b1 = (if decide (M < M2) then 1 else 0 : Nat) := ⟨_, rfl⟩
  have B1 := Lib.hid (bool2_u64b (decide (M < M2)))
  rw [← hb1] at hwH B1
  generalize hd1 : decide (M < M2) = d1 at *
  generalize H' / 2 ^ s / 2 * 2 + 1 = R at *
  generalize H' / 2 ^ s = H1' at *
  generalize H / 2 ^ s = H1 at *
  clear h hle hH' hD hb1 hM hM2 hpos hH hH2
  by_cases hc : 1 < D
  · have hd2 : decide (1 < D) = true := decide_eq_true hc
    have hd3 : (1 : Int) < D := by omega
    rw [if_pos hc]
    have B2 : Hid (∀ w : World, Calls Tryz.prog 150 #[.bool true] w fun e w' => e = .returned (.int .u64 1) ∧ ∃ n, w' = w.drewN n) := Lib.hid (bool2_u64b true)
    clear hc hz
    go_enter Tryz.func160, Tryz.ntmps160
    go_wp2_with fail
    refine (HM.out _).mono ?_
    rintro e w' ⟨rfl, rfl⟩
    clear HM
    go_wp2_with fail
    refine (HM2.out _).mono ?_
    rintro e w' ⟨rfl, rfl⟩
    clear HM2
    go_wp2_with fail
    refine (B1.out _).mono ?_
    rintro e w' ⟨rfl, n1, rfl⟩
    clear B1
    go_wp2_with fail
    go_quiet ((go_at_call 150; (refine (B2.out _).mono ?_); rintro e w' ⟨rfl, ⟨nd, rfl⟩⟩; first | exact ⟨rfl, _, World.drewN_drewN _ _ _⟩ | exact ⟨rfl, _, Eq.trans (World.drewN_drewN _ _ _) (congrArg (World.drewN _) (Nat.add_assoc _ _ _))⟩))
    go_wp2_with fail
    go_ret
    exact ⟨rfl, below_drewN (below_drewN (Below.refl _ _) _) _⟩
  have hd2 : decide (1 < D) = false := decide_eq_false hc
  have hd3 : ¬ (1 : Int) < D := by omega
  have hd6 : decide ((1 : Int) < (D : Int)) = false := decide_eq_false hd3
  clear hd2 hd3
  rw [if_neg hc]
  have B2 : Hid (∀ w : World, Calls Tryz.prog 150 #[.bool false] w fun e w' => e = .returned (.int .u64 0) ∧ ∃ n, w' = w.drewN n) := Lib.hid (bool2_u64b false)
  clear hc ho
  go_enter Tryz.func160, Tryz.ntmps160
  go_wp2_with fail
  refine (HM.out _).mono ?_
  rintro e w' ⟨rfl, rfl⟩
  clear HM
  go_wp2_with fail
  refine (HM2.out _).mono ?_
  rintro e w' ⟨rfl, rfl⟩
  clear HM2
  go_wp2_with fail
  refine (B1.out _).mono ?_
  rintro e w' ⟨rfl, n1, rfl⟩
  clear B1
  go_wp2_with fail
  go_quiet ((go_at_call 150; (refine (B2.out _).mono ?_); rintro e w' ⟨rfl, ⟨nd, rfl⟩⟩; first | exact ⟨rfl, _, World.drewN_drewN _ _ _⟩ | exact ⟨rfl, _, Eq.trans (World.drewN_drewN _ _ _) (congrArg (World.drewN _) (Nat.add_assoc _ _ _))⟩))
  go_wp2_with fail
  go_ret
  exact ⟨rfl, below_drewN (below_drewN (Below.refl _ _) _) _⟩
theorem uscale_walk (w : World) (g x hi lo s : Nat) (hx : x < 18446744073709551616) (hhi : hi < 18446744073709551616) (hlo : lo < 18446744073709551616) (hs : s < 64) (hpos : 0 < x * hi / 18446744073709551616)
    (hg : w.heap[g]? = some (.cells #[.int .u64 hi, .int .u64 lo, .int .i64 s] 203 (0, 0))) :
    Calls Tryz.prog 160 #[.int .u64 x, .pointer (some ⟨g, 0, none⟩)] w fun e w' => e = .returned (.int .u64 ((usc x hi lo s : Nat) : Int)) ∧ Below w.heap.size w w' := by
  by_cases h : x * hi / 18446744073709551616 % 2 ^ s = 0
  · exact uscale_even w g x hi lo s hx hhi hlo hs hg h hpos
  have := uscale_odd w g x hi lo s hx hhi hs hg h
  have e : usc x hi lo s = x * hi / 18446744073709551616 / 2 ^ s / 2 * 2 + 1 := by
    unfold usc
    dsimp only
    rw [if_pos h]
  rw [e]
  exact this
theorem from151i (b : Nat) (W : World) : (callFunc 151 #[.int .u64 (b : Int)]).run Tryz.prog W = .ok (.value (.float .f64 b)) W := from151 b W
def PkPost (ng : Bool) (r : Nat) (w : World) (e : Ending) (w' : World) : Prop :=
  Below w.heap.size w w' ∧ ((r < 9218868437227405312 ∧ e = .returned (.tuple #[.float .f64 (Ieee.double.word ng r), .nilIface])) ∨ (9218868437227405312 ≤ r ∧ e = .returned (.tuple #[.float .f64 (Ieee.double.word ng 9218868437227405312), .iface 113 (.int .i64 1)])))
set_option maxRecDepth 100000 in
set_option maxHeartbeats 1000000 in
theorem pack_low (w : World) (ng : Bool) (v : Nat) (hv : v < 4503599627370496) (e : Int) : Calls Tryz.prog 186 #[.int .u64 ((sgB ng + v : Nat) : Int), .int .i64 e] w (PkPost ng v w) := by
  have hsg : sgB ng = 0 ∨ sgB ng = 9223372036854775808 := by cases ng <;> simp [sgB]
  have h1 : Go.bits .and .u64 ((sgB ng + v : Nat) : Int) 4503599627370496 = 0 := by
    rw [and52 (sgB ng + v) (by omega), show (sgB ng + v) / 4503599627370496 % 2 = 0 by omega, Nat.zero_mul]; rfl
  have hw : sgB ng + v = Ieee.double.word ng v := (word_sgB ng v).symm
  rw [hw] at h1 ⊢
  have hf := from151i (Ieee.double.word ng v)
  clear hw hsg
  have HV := Lib.hid hv
  clear hv
  obtain ⟨X, hX⟩ : ∃ X, X = Ieee.double.word ng v := ⟨_, rfl⟩
  have HX := Lib.hid hX
  rw [← hX] at h1 hf ⊢
  clear hX
  go_enter Tryz.func186, Tryz.ntmps186
  go_wp2_with fail
  go_ret2
  exact ⟨Below.refl _ _, Or.inl ⟨by have := HV.out; omega, by rw [← HX.out]; rfl⟩⟩
set_option maxRecDepth 100000 in
set_option maxHeartbeats 1000000 in
theorem pack_far (w : World) (ng : Bool) (v r : Nat) (hv : 4503599627370496 ≤ v) (hv2 : v < 9007199254740992) (e : Int) (he : 972 ≤ e) (hr : 9218868437227405312 ≤ r) : Calls Tryz.prog 186 #[.int .u64 ((sgB ng + v : Nat) : Int), .int .i64 e] w (PkPost ng r w) := by
  have hsg : sgB ng = 0 ∨ sgB ng = 9223372036854775808 := by cases ng <;> simp [sgB]
  have h1 : Go.bits .and .u64 ((sgB ng + v : Nat) : Int) 4503599627370496 = 4503599627370496 := by
    rw [and52 (sgB ng + v) (by omega), show (sgB ng + v) / 4503599627370496 % 2 = 1 by omega, Nat.one_mul]; rfl
  have h2 := sgB_andSign ng v (by omega)
  have h3 : Go.bits .or .u64 (sgB ng : Int) 9218868437227405312 = ((Ieee.double.word ng 9218868437227405312 : Nat) : Int) := by
    rw [word_sgB]; exact or_sgB ng 9218868437227405312 (by omega)
  have hf := from151i (Ieee.double.word ng 9218868437227405312)
  clear hsg
  have HV := Lib.hid hr
  clear hv hv2 hr
  generalize sgB ng + v = X at *
  generalize sgB ng = Y at *
  obtain ⟨Z, hZ⟩ : ∃ Z, Z = Ieee.double.word ng 9218868437227405312 := ⟨_, rfl⟩
  have HX := Lib.hid hZ
  rw [← hZ] at h3 hf
  clear hZ
  go_enter Tryz.func186, Tryz.ntmps186
  go_wp2_with fail
  go_ret2
  exact ⟨Below.refl _ _, Or.inr ⟨HV.out, by rw [← HX.out]; rfl⟩⟩
set_option maxRecDepth 100000 in
set_option maxHeartbeats 1000000 in
theorem pack_mid (w : World) (ng : Bool) (v r : Nat) (hv : 4503599627370496 ≤ v) (hv2 : v < 9007199254740992) (e : Int) (k : Nat) (hk : e = (k : Int) - 1074) (he : e < 972) (hr : r = k * 4503599627370496 + v) : Calls Tryz.prog 186 #[.int .u64 ((sgB ng + v : Nat) : Int), .int .i64 e] w (PkPost ng r w) := by
  have hsg : sgB ng = 0 ∨ sgB ng = 9223372036854775808 := by cases ng <;> simp [sgB]
  have h1 : Go.bits .and .u64 ((sgB ng + v : Nat) : Int) 4503599627370496 = 4503599627370496 := by
    rw [and52 (sgB ng + v) (by omega), show (sgB ng + v) / 4503599627370496 % 2 = 1 by omega, Nat.one_mul]; rfl
  have h2 := andNot52 (sgB ng + v) (by omega) (by omega)
  have hr2 : r < 9218868437227405312 := by omega
  obtain ⟨a, ha⟩ : ∃ a, a = sgB ng + v - 4503599627370496 := ⟨_, rfl⟩
  obtain ⟨b, hb⟩ : ∃ b, b = (k + 1) * 4503599627370496 := ⟨_, rfl⟩
  rw [← ha] at h2
  have h4 : IntKind.u64.wrap (IntKind.i64.wrap (1075 + e) * 4503599627370496) = (b : Int) := by
    rw [Go.IntKind.wrap_i64, Go.IntKind.wrap_u64]; omega
  have h5 : Go.bits .or .u64 (a : Int) (b : Int) = ((Ieee.double.word ng r : Nat) : Int) := by
    have hj : a ||| b = a + b := by
      have hlt : a - sgB ng < 4503599627370496 := by omega
      rcases hsg with h0 | h0
      · rw [Nat.or_comm, Go.nat_join52 b a (by omega) (by omega)]; omega
      have e1 : a = 9223372036854775808 ||| (a - 9223372036854775808) := by
        rw [Go.nat_join63 9223372036854775808 (a - 9223372036854775808) (by decide) (by omega)]; omega
      have e2 : (a - 9223372036854775808) ||| b = b + (a - 9223372036854775808) := by
        rw [Nat.or_comm, Go.nat_join52 b (a - 9223372036854775808) (by omega) (by omega)]
      rw [e1, Nat.or_assoc, e2, Go.nat_join63 9223372036854775808 (b + (a - 9223372036854775808)) (by decide) (by omega), ← e1]
      omega
    rw [Go.u64_or_nat a b (by omega) (by omega), hj, word_sgB]
    refine congrArg Nat.cast ?_
    omega
  have hf := from151i (Ieee.double.word ng r)
  clear hsg ha hb
  have HV := Lib.hid hr2
  have hw1 : IntKind.i64.wrap (1075 + e) = ((k + 1 : Nat) : Int) := by rw [Go.IntKind.wrap_i64]; omega
  have hw2 : IntKind.u64.wrap ((k + 1 : Nat) : Int) = ((k + 1 : Nat) : Int) := by rw [Go.IntKind.wrap_u64]; omega
  have hw3 : IntKind.u64.wrap (((k + 1 : Nat) : Int) * 4503599627370496) = (b : Int) := by rw [← h4, hw1]
  have hw4 : (1075 : Int) + e = ((k + 1 : Nat) : Int) := by omega
  have hkk : k + 1 < 2047 := by omega
  generalize k + 1 = K at *
  clear hv hv2 hr hr2 hk h4
  generalize sgB ng + v = X at *
  obtain ⟨Z, hZ⟩ : ∃ Z, Z = Ieee.double.word ng r := ⟨_, rfl⟩
  have HX := Lib.hid hZ
  rw [← hZ] at h5 hf
  clear hZ
  go_enter Tryz.func186, Tryz.ntmps186
  go_wp2_with fail
  go_ret2
  exact ⟨Below.refl _ _, Or.inl ⟨HV.out, by rw [← HX.out]; rfl⟩⟩
theorem pack_walk (w : World) (ng : Bool) (v k : Nat) (hv : v < 9007199254740992) (hk : k ≠ 0 → 4503599627370496 ≤ v) (e : Int) (he : e = (k : Int) - 1074) :
    Calls Tryz.prog 186 #[.int .u64 ((sgB ng + v : Nat) : Int), .int .i64 e] w (PkPost ng (k * 4503599627370496 + v) w) := by
  by_cases h1 : v < 4503599627370496
  · have h0 : k = 0 := by omega
    subst h0
    rw [Nat.zero_mul, Nat.zero_add]
    exact pack_low w ng v h1 e
  by_cases h2 : 972 ≤ e
  · exact pack_far w ng v _ (by omega) hv e h2 (by omega)
  exact pack_mid w ng v _ (by omega) hv e k he (by omega) rfl
def PrPost (d : Nat) (p : Int) (ng : Bool) (w : World) (e : Ending) (w' : World) : Prop := ∃ r, Near (dN d p) (dD p) r ∧ PkPost ng r w e w'
theorem stick_or (u : Nat) (hu : u < 18446744073709551616) : Go.bits .or .u64 ((u / 2 : Nat) : Int) ((u % 2 : Nat) : Int) = ((stick (u / 2) (decide (u % 2 = 1)) : Nat) : Int) := by
  rw [Go.u64_or_nat (u / 2) (u % 2) (by omega) (by omega), or1_nat _ _ (by omega)]
  unfold stick
  by_cases h : u % 2 = 1
  · rw [if_pos h, decide_eq_true h, if_pos rfl]
  rw [if_neg h, decide_eq_false h, if_neg (by decide)]
theorem self_or (u : Nat) (hu : u < 18446744073709551616) : Go.bits .or .u64 (u : Int) ((u % 2 : Nat) : Int) = (u : Int) := by
  rw [Go.u64_or_nat u (u % 2) (by omega) (by omega), or1_nat _ _ (by omega)]
  refine congrArg Nat.cast ?_
  split <;> omega
theorem usc_lt (x hi lo s : Nat) (hx : x < 18446744073709551616) (hhi : hi < 18446744073709551616) (hs : 8 ≤ s) : usc x hi lo s < 144115188075855872 := by
  have hH : x * hi / 18446744073709551616 < 18446744073709551616 := by
    rw [Nat.div_lt_iff_lt_mul (by decide)]
    exact Nat.lt_of_le_of_lt (Nat.mul_le_mul (show x ≤ 18446744073709551615 by omega) (show hi ≤ 18446744073709551615 by omega)) (by decide)
  have hp : 256 ≤ 2 ^ s := by
    have : 2 ^ 8 ≤ 2 ^ s := Nat.pow_le_pow_right (by decide) hs
    exact this
  have key : ∀ H : Nat, H < 18446744073709551616 → H / 2 ^ s < 72057594037927936 := by
    intro H h
    rw [Nat.div_lt_iff_lt_mul (by omega)]
    have := Nat.mul_le_mul_left 72057594037927936 hp
    omega
  unfold usc
  dsimp only
  generalize x * hi / 18446744073709551616 = H at *
  have k1 := key H hH
  have k2 := key (H - 1) (by omega)
  generalize x * hi % 18446744073709551616 = M at *
  generalize x * lo / 18446744073709551616 = M2 at *
  generalize H % 2 ^ s = Q at *
  by_cases c1 : M < M2
  · rw [if_pos c1, if_pos c1]
    generalize H / 2 ^ s = A at *
    generalize (H - 1) / 2 ^ s = B at *
    split
    · omega
    split <;> omega
  rw [if_neg c1, if_neg c1]
  generalize H / 2 ^ s = A at *
  split
  · omega
  split <;> omega
end Go.Proofs.YtjpiplplohapnaaGreatDoor
namespace Go.Proofs.YtjpiplplohapnaaGreatDoor
open Go.RowKit Go.Proofs.YtjpiplplohapnaaGreatDoorW.PrintWords Go.Proofs.YtjpiplplohapnaaGreatDoorW.PrintMore Nr Us
attribute [local go_sem] max2_int min2_int
theorem bool2_int (b : Bool) (w : World) : Calls Tryz.prog 133 #[.bool b] w fun e w' => e = .returned (.int .i64 (if b then 1 else 0)) ∧ Below w.heap.size w w' := by
  cases b
  · exact (PText.strconv_bool2_int.calls false 0 w (by decide +kernel)).mono fun _ _ ⟨h1, h2⟩ => ⟨h1, h2.below⟩
  exact (PText.strconv_bool2_int.calls true 1 w (by decide +kernel)).mono fun _ _ ⟨h1, h2⟩ => ⟨h1, h2.below⟩
theorem len64_bln (d : Nat) (hd : d < 18446744073709551616) (w : World) : Calls Tryz.prog 123 #[.int .u64 (d : Int)] w fun e w' => e = .returned (.int .i64 ((bln d : Nat) : Int)) ∧ w' = w := by
  have := Tryz.bits_Len64 (d : Int) w (by omega) (by omega)
  rw [Int.toNat_natCast, bitLen_eq d hd] at this
  exact this
set_option maxRecDepth 100000 in
set_option maxHeartbeats 2000000 in
theorem parse64_walk (w : World) (hL : Laid w) (d : Nat) (h0 : d ≠ 0) (hd : d < 18446744073709551616) (p : Int) (i : Nat) (r : Nat × Nat) (hi : Pinned.pow10Rows[i]? = some r) (hp : p + 348 = i) (ng : Bool) :
    Calls Tryz.prog 153 #[.int .u64 d, .int .i64 p, .int .u64 (sgB ng : Int)] w (PrPost d p ng w) := by
  obtain ⟨hnear, hcase⟩ := parse64_near hi h0 hd
  rw [show (i : Int) - 348 = p by omega] at hnear hcase
  have hlen := rows_len
  have hi2 : i < 696 := by
    have := (List.getElem?_eq_some_iff.1 hi).1
    omega
  have HLen := Lib.hid (len64_bln d hd)
  have HLog := Lib.hid (log2_calls p (lp p) (log2_f p (by omega) (by omega)))
  obtain ⟨hb1, hb2, hb3⟩ := bln_spec h0
  have hb4 : bln d ≤ 64 := bln_le hd
  obtain ⟨hx1, hx2⟩ := left_just h0 hd
  obtain ⟨hrow, hr1, hr2, -⟩ := row_ok hi
  have hl := lp_range p (by omega) (by omega)
  have hEdef : pE d p = min 1074 (53 - (bln d : Int) - lp p) := rfl
  have hSdef : pS d p = -(pE d p - (64 - (bln d : Int)) + lp p + 3) := rfl
  unfold parse64 pU at hnear
  unfold pU at hcase
  generalize bln d = b at *
  generalize lp p = l at *
  generalize pE d p = E at *
  generalize pS d p = S at *
  obtain ⟨x, hx⟩ : ∃ x, x = d * 2 ^ (64 - b) := ⟨_, rfl⟩
  rw [← hx] at hx1 hx2 hnear hcase
  obtain ⟨y, hy⟩ : ∃ y, y = 64 - b := ⟨_, rfl⟩
  rw [← hy] at hx
  have hshl : IntKind.u64.wrap ((d : Int) * 2 ^ y) = (x : Int) := by rw [hx]; exact int_shl d y (by rw [← hx]; exact hx2)
  have hy1 : (64 : Int) - b = y := by omega
  have hy2 : y < 64 := by omega
  have hmin : min 1074 (53 - (b : Int) - l) = E := hEdef.symm
  have hE1 : E ≤ 1074 := by omega
  have hE2 : -2000 ≤ E := by omega
  have hS1 : -(E - (64 - (b : Int)) + l + 3) = S := hSdef.symm
  have hrlt : r.2 < 18446744073709551616 := hrow.small
  have HNear := Lib.hid hnear
  have HCase := Lib.hid hcase
  have HPre := Lib.hid (fun (W : World) (hLW : Laid W) (g B : Nat) hB hg h17 => prescale_walk W hLW g B hB hg h17 (E - (64 - (b : Int))) l p i r hi hp (by omega) (by omega) (by omega) (by omega))
  rw [hS1, hy1] at HPre
  have HS1 := Lib.hid hS1
  clear hS1 hy hb1 hb2 hnear hcase hEdef hSdef hrow hx hi hp hlen hi2 h0 hd
  obtain ⟨rh, rl⟩ := r
  dsimp only at hr1 hr2 hrlt HNear HCase HPre
  go_enter Tryz.func153, Tryz.ntmps153
  go_wp2_with fail
  refine (HLen.out _).mono ?_
  rintro e w1 ⟨rfl, hw1⟩
  obtain rfl := hw1.symm
  clear hw1 HLen
  go_wp2_with fail
  refine (HLog.out _).mono ?_
  rintro e w2 ⟨rfl, hb2⟩
  clear HLog
  have hL2 := hL.below hb2
  have hba := below_alloc (Below.refl w2.heap.size w2) (Obj.cells #[.int .u64 0, .int .u64 0, .int .i64 0] 203)
  have HP := Lib.hid (HPre.out _ (hL2.below hba) w2.heap.size w2.heap.size (Nat.le_refl _) (blk_new _ _) (by have := hL2.size; omega))
  clear HPre
  go_wp2_with fail
  refine HP.out.mono ?_
  rintro e w3 ⟨rfl, hb3', hg3⟩
  clear HP
  have hb03 := hb2.trans ((hba.trans hb3').mono hb2.size)
  have c2 : w3.cell? ⟨w2.heap.size, 2, none⟩ = some (.int .i64 S) := (blk_cell hg3 2).trans rfl
  by_cases c1 : 64 ≤ S
  · have hf := from151i (Ieee.double.word ng 0)
    have ho : Go.bits .or .u64 (sgB ng : Int) 0 = ((Ieee.double.word ng 0 : Nat) : Int) := by
      rw [word_sgB]; exact or_sgB ng 0 (by decide)
    obtain ⟨Z, hZ⟩ : ∃ Z, Z = Ieee.double.word ng 0 := ⟨_, rfl⟩
    have HX := Lib.hid hZ
    rw [← hZ] at ho hf
    have HN := HNear.out
    rw [if_pos c1] at HN
    have HN := Lib.hid HN
    clear hZ HNear HCase
    go_wp2_with fail
    go_ret2
    exact ⟨0, HN.out, hb03, Or.inl ⟨by decide, by rw [← HX.out]; rfl⟩⟩
  obtain ⟨h8, hA, hB⟩ := HCase.out.resolve_left c1
  have HN := HNear.out
  rw [if_neg c1] at HN
  clear HNear HCase
  obtain ⟨s, rfl⟩ : ∃ s : Nat, S = s := ⟨S.toNat, by omega⟩
  rw [Int.toNat_natCast] at hA hB HN
  have hs64 : s < 64 := by omega
  have hpos : 0 < x * rh / 18446744073709551616 := by
    have h1 : 9223372036854775808 * 9223372036854775808 ≤ x * rh := Nat.mul_le_mul hx1 hr1
    exact Nat.div_pos (by omega) (by decide)
  have hult := usc_lt x rh rl s hx2 (by omega) (by omega)
  have HU := Lib.hid (uscale_walk w3 w2.heap.size x rh rl s hx2 (by omega) hrlt hs64 hpos hg3)
  generalize usc x rh rl s = u at *
  obtain ⟨U, hU⟩ : ∃ U : Int, U = 36028797018963966 := ⟨_, rfl⟩
  have HM := Lib.hid (unmin_calls 9007199254740992 36028797018963966 unmin_f)
  rw [← hU] at HM
  by_cases c3 : u < 36028797018963966
  · obtain ⟨hv1, hv2⟩ := hA c3
    rw [if_pos c3] at HN
    have HNN := Lib.hid HN
    have c4 : ¬ U ≤ (u : Int) := by omega
    have c5 : decide (U ≤ (u : Int)) = false := decide_eq_false c4
    have HB2 : Hid (∀ w : World, Calls Tryz.prog 133 #[.bool false] w fun e w' => e = .returned (.int .i64 0) ∧ Below w.heap.size w w') := Lib.hid (bool2_int false)
    have HR := Lib.hid (round_calls (u : Int) _ (round_f u (by omega)))
    have ha1 := and1_bits u (by omega)
    have ho1 := self_or u (by omega)
    have ho2 := or_sgB ng (rnd u) (by omega)
    obtain ⟨k, hk⟩ : ∃ k : Nat, (k : Int) = 1074 - E := ⟨(1074 - E).toNat, by omega⟩
    have HPk := Lib.hid (fun W => pack_walk W ng (rnd u) k hv1 (fun h => hv2 (by omega)) (-E) (by omega))
    rw [show (1074 - E).toNat = k by omega] at HNN
    generalize rnd u = v at *
    generalize u % 2 = u2 at *
    generalize sgB ng + v = sv at *
    clear hU hA hB HN hv1 hv2 c3 hx1 hx2 hr1 hr2 hrlt hpos hult hk hl hmin hg3 hb4 hb3 hs64 h8
    go_wp2_with fail
    refine HU.out.mono ?_
    rintro e w4 ⟨rfl, hb4'⟩
    have hb04 := hb03.trans (hb4'.mono hb03.size)
    clear HU
    go_wp2_with fail
    refine (HM.out _).mono ?_
    rintro e w5 ⟨rfl, hb5⟩
    have hb05 := hb04.trans (hb5.mono hb04.size)
    clear HM
    go_wp2_with fail
    refine (HB2.out _).mono ?_
    rintro e w6 ⟨rfl, hb6⟩
    have hb06 := hb05.trans (hb6.mono hb05.size)
    clear HB2
    go_wp2_with fail
    refine (HR.out _).mono ?_
    rintro e w7 ⟨rfl, hb7⟩
    have hb07 := hb06.trans (hb7.mono hb06.size)
    clear HR
    go_wp2_with fail
    refine (HPk.out _).mono ?_
    rintro e w8 ⟨hb8, hres⟩
    have hb08 := hb07.trans (hb8.mono hb07.size)
    rcases hres with ⟨hr1, rfl⟩ | ⟨hr1, rfl⟩
    · have HR1 := Lib.hid hr1
      clear hr1 HPk
      obtain ⟨Z, hZ⟩ : ∃ Z, Z = Ieee.double.word ng (k * 4503599627370496 + v) := ⟨_, rfl⟩
      have HX := Lib.hid hZ
      rw [← hZ]
      clear hZ
      go_wp2_with fail
      go_ret2
      exact ⟨_, HNN.out, hb08, Or.inl ⟨HR1.out, by rw [← HX.out]; rfl⟩⟩
    have HR1 := Lib.hid hr1
    clear hr1 HPk
    obtain ⟨Z, hZ⟩ : ∃ Z, Z = Ieee.double.word ng 9218868437227405312 := ⟨_, rfl⟩
    have HX := Lib.hid hZ
    rw [← hZ]
    clear hZ
    go_wp2_with fail
    go_ret2
    exact ⟨_, HNN.out, hb08, Or.inr ⟨HR1.out, by rw [← HX.out]; rfl⟩⟩
  obtain ⟨hv1, hv2⟩ := hB (by omega)
  rw [if_neg c3] at HN
  have HNN := Lib.hid HN
  have c4 : U ≤ (u : Int) := by omega
  have c5 : decide (U ≤ (u : Int)) = true := decide_eq_true c4
  have HB2 : Hid (∀ w : World, Calls Tryz.prog 133 #[.bool true] w fun e w' => e = .returned (.int .i64 1) ∧ Below w.heap.size w w') := Lib.hid (bool2_int true)
  have hst := stick_or u (by omega)
  have hstl : stick (u / 2) (decide (u % 2 = 1)) < 18446744073709551610 := by
    unfold stick; split <;> omega
  generalize stick (u / 2) (decide (u % 2 = 1)) = t at *
  have HR := Lib.hid (round_calls (t : Int) _ (round_f t hstl))
  have ha1 := and1_bits u (by omega)
  have ha2 : (u : Int) / 2 = ((u / 2 : Nat) : Int) := by omega
  have ho2 := or_sgB ng (rnd t) (by omega)
  obtain ⟨k, hk⟩ : ∃ k : Nat, (k : Int) = 1075 - E := ⟨(1075 - E).toNat, by omega⟩
  have HPk := Lib.hid (fun W => pack_walk W ng (rnd t) k hv1 (fun _ => hv2) (-(E - 1)) (by omega))
  rw [show (1075 - E).toNat = k by omega] at HNN
  have he1 : -2001 ≤ E - 1 := by omega
  have he2 : E - 1 ≤ 1073 := by omega
  have hw1 : IntKind.i64.wrap (E - 1) = E - 1 := by rw [Go.IntKind.wrap_i64]; omega
  generalize rnd t = v at *
  generalize u % 2 = u2 at *
  generalize u / 2 = u3 at *
  generalize sgB ng + v = sv at *
  clear hU hA hB HN hv1 hv2 c3 hx1 hx2 hr1 hr2 hrlt hpos hult hk hl hmin hg3 hb4 hb3 hs64 h8 hstl
  go_wp2_with fail
  refine HU.out.mono ?_
  rintro e w4 ⟨rfl, hb4'⟩
  have hb04 := hb03.trans (hb4'.mono hb03.size)
  clear HU
  go_wp2_with fail
  refine (HM.out _).mono ?_
  rintro e w5 ⟨rfl, hb5⟩
  have hb05 := hb04.trans (hb5.mono hb04.size)
  clear HM
  go_wp2_with fail
  refine (HB2.out _).mono ?_
  rintro e w6 ⟨rfl, hb6⟩
  have hb06 := hb05.trans (hb6.mono hb05.size)
  clear HB2
  go_wp2_with fail
  refine (HR.out _).mono ?_
  rintro e w7 ⟨rfl, hb7⟩
  have hb07 := hb06.trans (hb7.mono hb06.size)
  clear HR
  go_wp2_with fail
  refine (HPk.out _).mono ?_
  rintro e w8 ⟨hb8, hres⟩
  have hb08 := hb07.trans (hb8.mono hb07.size)
  rcases hres with ⟨hr1, rfl⟩ | ⟨hr1, rfl⟩
  · have HR1 := Lib.hid hr1
    clear hr1 HPk
    obtain ⟨Z, hZ⟩ : ∃ Z, Z = Ieee.double.word ng (k * 4503599627370496 + v) := ⟨_, rfl⟩
    have HX := Lib.hid hZ
    rw [← hZ]
    clear hZ
    go_wp2_with fail
    go_ret2
    exact ⟨_, HNN.out, hb08, Or.inl ⟨HR1.out, by rw [← HX.out]; rfl⟩⟩
  have HR1 := Lib.hid hr1
  clear hr1 HPk
  obtain ⟨Z, hZ⟩ : ∃ Z, Z = Ieee.double.word ng 9218868437227405312 := ⟨_, rfl⟩
  have HX := Lib.hid hZ
  rw [← hZ]
  clear hZ
  go_wp2_with fail
  go_ret2
  exact ⟨_, HNN.out, hb08, Or.inr ⟨HR1.out, by rw [← HX.out]; rfl⟩⟩
end Go.Proofs.YtjpiplplohapnaaGreatDoor
namespace Go.Proofs.YtjpiplplohapnaaGreatDoor.Rf
structure St where
  us : Bool
  dot : Bool
  sd : Bool
  nd : Nat
  nm : Nat
  dp : Int
  m : Nat
  tr : Bool
def st0 : St := ⟨false, false, false, 0, 0, 0, 0, false⟩
def bs (hx : Bool) : Nat := if hx then 16 else 10
def mxd (hx : Bool) : Nat := if hx then 16 else 19
def lw (c : Nat) : Int := Go.bits .or .u8 (c : Int) 32
def stp (hx : Bool) (c : Nat) (t : St) : Option St :=
  if c = 95 then some { t with us := true }
  else if c = 46 then (if t.dot then none else some { t with dot := true, dp := t.nd })
  else if 48 ≤ c ∧ c ≤ 57 then
    if c = 48 ∧ t.nd = 0 then some { t with sd := true, dp := t.dp - 1 }
    else if t.nm < mxd hx then some { t with sd := true, nd := t.nd + 1, nm := t.nm + 1, m := t.m * bs hx + (c - 48) }
    else some { t with sd := true, nd := t.nd + 1, tr := t.tr || decide (c ≠ 48) }
  else if hx = true ∧ 97 ≤ lw c ∧ lw c ≤ 102 then
    if t.nm < mxd hx then some { t with sd := true, nd := t.nd + 1, nm := t.nm + 1, m := t.m * bs hx + (lw c - 87).toNat }
    else some { t with sd := true, nd := t.nd + 1, tr := true }
  else none
def scan (hx : Bool) : List UInt8 → St → St × List UInt8
  | [], t => (t, [])
  | c :: l, t => match stp hx c.toNat t with
    | some t' => scan hx l t'
    | none => (t, c :: l)
structure Ok (hx : Bool) (t : St) (k : Nat) : Prop where
  nd : t.nd ≤ k
  nm : t.nm ≤ mxd hx
  m : t.m < bs hx ^ t.nm
  dp1 : -(k : Int) ≤ t.dp
  dp2 : t.dp ≤ k
theorem ok0 (hx : Bool) (k : Nat) : Ok hx st0 k := ⟨Nat.zero_le _, Nat.zero_le _, by show 0 < _; exact Nat.pow_pos (by cases hx <;> decide), by show -(k : Int) ≤ 0; omega, by show (0 : Int) ≤ k; omega⟩
theorem pow_max (hx : Bool) : bs hx ^ mxd hx ≤ 18446744073709551616 := by cases hx <;> decide
theorem Ok.room {hx : Bool} {t : St} {k d : Nat} (h : Ok hx t k) (hn : t.nm < mxd hx) (hd : d < bs hx) : t.m * bs hx + d < bs hx ^ (t.nm + 1) ∧ bs hx ^ (t.nm + 1) ≤ 18446744073709551616 := by
  have hb : 0 < bs hx := by cases hx <;> decide
  constructor
  · have : (t.m + 1) * bs hx ≤ bs hx ^ t.nm * bs hx := Nat.mul_le_mul_right _ h.m
    rw [← Nat.pow_succ, Nat.add_mul, Nat.one_mul, Nat.succ_eq_add_one] at this
    omega
  exact Nat.le_trans (Nat.pow_le_pow_right hb hn) (pow_max hx)
theorem drop_at (l : List UInt8) (k : Nat) (h : k < l.length) : l.drop k = l[k] :: l.drop (k + 1) := List.drop_eq_getElem_cons h
theorem scan_some {hx : Bool} {l : List UInt8} {k : Nat} {t t' : St} (h : k < l.length) (hs : stp hx l[k].toNat t = some t') : scan hx (l.drop k) t = scan hx (l.drop (k + 1)) t' := by
  rw [drop_at l k h, scan, hs]
theorem scan_none {hx : Bool} {l : List UInt8} {k : Nat} {t : St} (h : k < l.length) (hs : stp hx l[k].toNat t = none) : scan hx (l.drop k) t = (t, l.drop k) := by
  rw [drop_at l k h, scan, hs]
theorem scan_end {hx : Bool} {l : List UInt8} {k : Nat} {t : St} (h : l.length ≤ k) : scan hx (l.drop k) t = (t, l.drop k) := by
  rw [List.drop_of_length_le h, scan]
def escan : List UInt8 → Nat → Bool → Nat × Bool × List UInt8
  | [], e, us => (e, us, [])
  | c :: l, e, us => if c.toNat = 95 then escan l e true else if 48 ≤ c.toNat ∧ c.toNat ≤ 57 then escan l (if e < 10000 then e * 10 + (c.toNat - 48) else e) us else (e, us, c :: l)
def esign : List UInt8 → Int × List UInt8
  | [] => (1, [])
  | c :: l => if c.toNat = 43 then (1, l) else if c.toNat = 45 then (-1, l) else (1, c :: l)
def startsD : List UInt8 → Bool
  | [] => false
  | d :: _ => decide (48 ≤ d.toNat) && decide (d.toNat ≤ 57)
def eat (us : Bool) (r : List UInt8) : Option (Int × Bool × List UInt8) :=
  if startsD (esign r).2 then some ((esign r).1 * ((escan (esign r).2 0 us).1 : Nat), (escan (esign r).2 0 us).2.1, (escan (esign r).2 0 us).2.2) else none
def expPart (hx us : Bool) : List UInt8 → Option (Int × Bool × List UInt8)
  | [] => if hx then none else some (0, us, [])
  | c :: r => if lw c.toNat = (if hx then 112 else 101) then eat us r else if hx then none else some (0, us, c :: r)
structure Out where
  m : Nat
  e : Int
  tr : Bool
  us : Bool
  rest : List UInt8
def dpv (hx : Bool) (t : St) : Int := (if t.dot then t.dp else t.nd) * (if hx then 4 else 1)
def nmv (hx : Bool) (t : St) : Int := t.nm * (if hx then 4 else 1)
def fin (hx : Bool) (t : St) (r : List UInt8) : Option Out :=
  if t.sd then (expPart hx t.us r).map fun x => ⟨t.m, if t.m = 0 then 0 else dpv hx t + x.1 - nmv hx t, t.tr, x.2.1, x.2.2⟩ else none
theorem escan_us {l : List UInt8} {k e : Nat} {us : Bool} (h : k < l.length) (hc : l[k].toNat = 95) : escan (l.drop k) e us = escan (l.drop (k + 1)) e true := by
  rw [drop_at l k h, escan, if_pos hc]
theorem escan_digit {l : List UInt8} {k e : Nat} {us : Bool} (h : k < l.length) (hc : ¬ l[k].toNat = 95) (hd : 48 ≤ l[k].toNat ∧ l[k].toNat ≤ 57) : escan (l.drop k) e us = escan (l.drop (k + 1)) (if e < 10000 then e * 10 + (l[k].toNat - 48) else e) us := by
  rw [drop_at l k h, escan, if_neg hc, if_pos hd]
theorem escan_stop {l : List UInt8} {k e : Nat} {us : Bool} (h : k < l.length) (hc : ¬ l[k].toNat = 95) (hd : ¬ (48 ≤ l[k].toNat ∧ l[k].toNat ≤ 57)) : escan (l.drop k) e us = (e, us, l.drop k) := by
  rw [drop_at l k h, escan, if_neg hc, if_neg hd]
theorem escan_end {l : List UInt8} {k e : Nat} {us : Bool} (h : l.length ≤ k) : escan (l.drop k) e us = (e, us, l.drop k) := by
  rw [List.drop_of_length_le h, escan]
theorem expPart_hit_d {us : Bool} {c : UInt8} {r : List UInt8} (h : lw c.toNat = 101) : expPart false us (c :: r) = eat us r := by unfold expPart; exact if_pos h
theorem expPart_hit_x {us : Bool} {c : UInt8} {r : List UInt8} (h : lw c.toNat = 112) : expPart true us (c :: r) = eat us r := by unfold expPart; exact if_pos h
theorem expPart_miss_d {us : Bool} {c : UInt8} {r : List UInt8} (h : ¬ lw c.toNat = 101) : expPart false us (c :: r) = some (0, us, c :: r) := by unfold expPart; exact if_neg h
theorem expPart_miss_x {us : Bool} {c : UInt8} {r : List UInt8} (h : ¬ lw c.toNat = 112) : expPart true us (c :: r) = none := by unfold expPart; exact if_neg h
end Go.Proofs.YtjpiplplohapnaaGreatDoor.Rf
namespace Go.Proofs.YtjpiplplohapnaaGreatDoor.Rf
theorem stp_ok {hx : Bool} {c : Nat} (hc : c < 256) {t t' : St} {k : Nat} (h : Ok hx t k) (hs : stp hx c t = some t') : Ok hx t' (k + 1) := by
  obtain ⟨h1, h2, h3, h4, h5⟩ := h
  have hb10 : 10 ≤ bs hx := by cases hx <;> decide
  have hb16 : bs true = 16 := rfl
  unfold stp at hs
  split at hs
  · cases hs; exact ⟨by dsimp only; omega, h2, h3, by dsimp only; omega, by dsimp only; omega⟩
  split at hs
  · split at hs
    · cases hs
    cases hs; exact ⟨by dsimp only; omega, h2, h3, by dsimp only; omega, by dsimp only; omega⟩
  split at hs
  · rename_i hd
    split at hs
    · cases hs; exact ⟨by dsimp only; omega, h2, h3, by dsimp only; omega, by dsimp only; omega⟩
    split at hs
    · rename_i hn
      have := (⟨h1, h2, h3, h4, h5⟩ : Ok hx t k).room (d := c - 48) hn (by omega)
      cases hs; exact ⟨by dsimp only; omega, by dsimp only; omega, this.1, by dsimp only; omega, by dsimp only; omega⟩
    cases hs; exact ⟨by dsimp only; omega, h2, h3, by dsimp only; omega, by dsimp only; omega⟩
  split at hs
  · rename_i hl
    obtain ⟨rfl, hl1, hl2⟩ := hl
    split at hs
    · rename_i hn
      have := (⟨h1, h2, h3, h4, h5⟩ : Ok true t k).room (d := (lw c - 87).toNat) hn (by rw [hb16]; omega)
      cases hs; exact ⟨by dsimp only; omega, by dsimp only; omega, this.1, by dsimp only; omega, by dsimp only; omega⟩
    cases hs; exact ⟨by dsimp only; omega, h2, h3, by dsimp only; omega, by dsimp only; omega⟩
  cases hs
theorem scan_ok {hx : Bool} : ∀ (l : List UInt8) (t : St) (k : Nat), Ok hx t k → Ok hx (scan hx l t).1 (k + l.length)
  | [], t, k, h => h
  | c :: l, t, k, h => by
    rw [scan]
    cases hs : stp hx c.toNat t with
    | none =>
      dsimp only
      obtain ⟨h1, h2, h3, h4, h5⟩ := h
      exact ⟨by simp; omega, h2, h3, by simp; omega, by simp; omega⟩
    | some t' =>
      dsimp only
      have := scan_ok l t' (k + 1) (stp_ok (UInt8.toNat_lt c) h hs)
      rw [List.length_cons, show k + (l.length + 1) = k + 1 + l.length by omega]
      exact this
theorem escan_le : ∀ (l : List UInt8) (e : Nat) (us : Bool), e ≤ 99999 → (escan l e us).1 ≤ 99999
  | [], e, us, h => h
  | c :: l, e, us, h => by
    rw [escan]
    split
    · exact escan_le l e true h
    split
    · rename_i hd
      refine escan_le l _ us ?_
      split <;> omega
    exact h
theorem esign_one (l : List UInt8) : (esign l).1 = 1 ∨ (esign l).1 = -1 := by
  cases l with
  | nil => exact Or.inl rfl
  | cons c l =>
    show (if c.toNat = 43 then ((1 : Int), l) else if c.toNat = 45 then (-1, l) else (1, c :: l)).1 = 1 ∨ (if c.toNat = 43 then ((1 : Int), l) else if c.toNat = 45 then (-1, l) else (1, c :: l)).1 = -1
    by_cases h1 : c.toNat = 43
    · rw [if_pos h1]; exact Or.inl rfl
    rw [if_neg h1]
    by_cases h2 : c.toNat = 45
    · rw [if_pos h2]; exact Or.inr rfl
    rw [if_neg h2]; exact Or.inl rfl
theorem eat_bound {us : Bool} {r : List UInt8} {x : Int × Bool × List UInt8} (h : eat us r = some x) : -99999 ≤ x.1 ∧ x.1 ≤ 99999 := by
  unfold eat at h
  split at h
  · cases h
    dsimp only
    have h1 := escan_le (esign r).2 0 us (by omega)
    generalize (escan (esign r).2 0 us).1 = e at *
    rcases esign_one r with h | h <;> rw [h] <;> omega
  cases h
theorem expPart_bound {hx us : Bool} {r : List UInt8} {x : Int × Bool × List UInt8} (h : expPart hx us r = some x) : -99999 ≤ x.1 ∧ x.1 ≤ 99999 := by
  cases r with
  | nil =>
    cases hx
    · rw [show expPart false us [] = some (0, us, []) from rfl] at h
      cases h; exact ⟨by dsimp only; omega, by dsimp only; omega⟩
    rw [show expPart true us [] = none from rfl] at h
    cases h
  | cons c r =>
    cases hx
    · by_cases h1 : lw c.toNat = 101
      · rw [expPart_hit_d h1] at h; exact eat_bound h
      rw [expPart_miss_d h1] at h; cases h; exact ⟨by dsimp only; omega, by dsimp only; omega⟩
    by_cases h1 : lw c.toNat = 112
    · rw [expPart_hit_x h1] at h; exact eat_bound h
    rw [expPart_miss_x h1] at h; cases h
theorem fin_bound {hx : Bool} {l : List UInt8} (hl : l.length ≤ 1000) {o : Out} (h : fin hx (scan hx l st0).1 (scan hx l st0).2 = some o) : o.m < 18446744073709551616 ∧ -300000 ≤ o.e ∧ o.e ≤ 300000 := by
  have hk := scan_ok (hx := hx) l st0 0 (ok0 hx 0)
  generalize (scan hx l st0).1 = t at *
  generalize (scan hx l st0).2 = r at *
  obtain ⟨h1, h2, h3, h4, h5⟩ := hk
  unfold fin at h
  split at h
  · cases he : expPart hx t.us r with
    | none => rw [he] at h; cases h
    | some x =>
      rw [he] at h
      cases h
      have hb := expPart_bound he
      have hm : t.m < 18446744073709551616 := Nat.lt_of_lt_of_le h3 (Nat.le_trans (Nat.pow_le_pow_right (by cases hx <;> decide) h2) (pow_max hx))
      refine ⟨hm, ?_⟩
      dsimp only
      have hn : t.nm ≤ 19 := Nat.le_trans h2 (by cases hx <;> decide)
      have hD : -5000 ≤ dpv hx t ∧ dpv hx t ≤ 5000 := by
        unfold dpv
        cases hx <;> cases t.dot <;> simp <;> omega
      have hN : 0 ≤ nmv hx t ∧ nmv hx t ≤ 100 := by
        unfold nmv
        cases hx <;> simp <;> omega
      split <;> omega
  cases h
end Go.Proofs.YtjpiplplohapnaaGreatDoor.Rf
namespace Go.Proofs.YtjpiplplohapnaaGreatDoor
open Go.RowKit Go.Sort Go.Proofs.YtjpiplplohapnaaGreatDoorW.PrintWords
abbrev encB (b : UInt8) : Value := .int .u8 (b.toNat : Int)
theorem below_putRow2 {B : Nat} {w0 w : World} {g n : Nat} {d : Array UInt8} (h : Below B w0 w) (hg : B ≤ g) : Below B w0 ((putRow encB w g 0 d).drewN n) := by
  have := Lib.below_putRow (enc := encB) (q := 0) (d := d) h hg
  exact below_drewN (by simpa [Sort.ahead] using this) n
set_option maxRecDepth 100000 in
set_option maxHeartbeats 1000000 in
theorem setDigits_38 (w : World) (g B : Nat) (hB : B ≤ g) (h0 : w.cell? ⟨g, 0, none⟩ = some (.int .u8 0)) (h1 : w.cell? ⟨g, 1, none⟩ = some (.int .u8 0)) (f0 : w.frozen? ⟨g, 0, none⟩ = false) (f1 : w.frozen? ⟨g, 1, none⟩ = false) :
    Calls Tryz.prog 125 #[.slice (some ⟨g, 0, none⟩) 24 24, .int .u64 38, .int .i64 (-2), .int .i64 2] w fun e w' => e = .returned (.tuple #[.int .i64 0, .int .i64 2]) ∧ Below B w w' ∧ w'.cell? ⟨g, 0, none⟩ = some (.int .u8 51) ∧ w'.cell? ⟨g, 1, none⟩ = some (.int .u8 56) := by
  have hH : Holds encB w g 0 #[0, 0] := by
    intro j hj
    have : j = 0 ∨ j = 1 := by simp at hj; omega
    rcases this with rfl | rfl
    · exact ⟨h0, f0⟩
    exact ⟨h1, f1⟩
  go_enter Tryz.func125, Tryz.ntmps125
  go_wp2_with fail
  refine (Tryz.internal_strconv_formatBase10 g 0 24 38 #[0, 0] _ hH (by decide) (by decide) (by decide)).mono ?_
  rintro e w1 ⟨rfl, n, v', dk, rfl, hF⟩
  have e0 : dk[0]! = 51 := (hF.done 0 (by decide) (by decide)).trans (by decide)
  have e1 : dk[1]! = 56 := (hF.done 1 (by decide) (by decide)).trans (by decide)
  have hs : dk.size = 2 := hF.size
  have hbw : Below B w ((putRow encB w g 0 dk).drewN n) := below_putRow2 (Below.refl _ _) hB
  have k0 : ((putRow encB w g 0 dk).drewN n).cell? ⟨g, 0, none⟩ = some (.int .u8 51) := by
    have := cell?_putRow encB w g 0 #[0, 0] dk hH hs 0 (by omega)
    rw [e0] at this; exact this
  have k1 : ((putRow encB w g 0 dk).drewN n).cell? ⟨g, 1, none⟩ = some (.int .u8 56) := by
    have := cell?_putRow encB w g 0 #[0, 0] dk hH hs 1 (by omega)
    rw [e1] at this; exact this
  generalize (putRow encB w g 0 dk).drewN n = w2 at *
  clear hF e0 e1 hs hH
  go_wp2_with fail
  refine wp_loop_rounds 1 ?_
  rw [rounds_succ]
  go_wp2_with fail
  go_ret2
  exact ⟨rfl, hbw, k0, k1⟩
structure Two (B : Nat) (w0 : World) (gd g : Nat) (T : TypeId) (cs : Array Value) (w : World) : Prop where
  row : w.heap[gd]? = some (.cells cs T (0, 0))
  k0 : w.cell? ⟨g, 0, none⟩ = some (.int .u8 51)
  k1 : w.cell? ⟨g, 1, none⟩ = some (.int .u8 56)
  below : Below B w0 w
theorem Two.put {B gd g : Nat} {w0 w : World} {T : TypeId} {cs cs' : Array Value} (h : Two B w0 gd g T cs w) (hB : B ≤ gd) (hne : gd ≠ g) (j : Nat) (v : Value) (e : cs.setIfInBounds j v = cs') : Two B w0 gd g T cs' (w.setCell ⟨gd, j, none⟩ v) :=
  ⟨blk_put h.row j v e, (World.cell?_setCell_far w _ _ _ hne).trans h.k0, (World.cell?_setCell_far w _ _ _ hne).trans h.k1, h.below.setCell hB _⟩
theorem Two.new {B gd g : Nat} {w0 w : World} {T : TypeId} {cs : Array Value} (h : Two B w0 gd g T cs w) (hB : B ≤ w.heap.size) (o : Obj) : Two B w0 gd g T cs (w.alloc o) :=
  ⟨blk_alloc h.row o, (((Below.refl w.heap.size w).alloc (Nat.le_refl _) o).cell (World.block_lt_of_cell? w _ h.k0)).trans h.k0, (((Below.refl w.heap.size w).alloc (Nat.le_refl _) o).cell (World.block_lt_of_cell? w _ h.k1)).trans h.k1, h.below.alloc hB o⟩
theorem Two.lt {B gd g : Nat} {w0 w : World} {T : TypeId} {cs : Array Value} (h : Two B w0 gd g T cs w) : gd < w.heap.size ∧ g < w.heap.size := ⟨(Array.getElem?_eq_some_iff.1 h.row).1, World.block_lt_of_cell? w _ h.k0⟩
set_option maxRecDepth 100000 in
set_option maxHeartbeats 1000000 in
theorem fmt_38 (w : World) (g gd B : Nat) (hgd : B ≤ gd) (hne : gd ≠ g) (T : TypeId) (y : Value) (hd : w.heap[gd]? = some (.cells (Array.replicate 24 y) T (0, 0)))
    (k0 : w.cell? ⟨g, 0, none⟩ = some (.int .u8 51)) (k1 : w.cell? ⟨g, 1, none⟩ = some (.int .u8 56)) :
    Calls Tryz.prog 122 #[.slice (some ⟨gd, 0, none⟩) 0 24, .bool false, .slice (some ⟨g, 0, none⟩) 24 24, .int .i64 0, .int .i64 2, .int .i64 2, .int .u8 102, .bool false] w fun e w' =>
      e = .returned (.slice (some ⟨gd, 0, none⟩) 4 24) ∧ Below B w w' ∧ w'.cell? ⟨gd, 0, none⟩ = some (.int .u8 48) ∧ w'.cell? ⟨gd, 1, none⟩ = some (.int .u8 46) ∧ w'.cell? ⟨gd, 2, none⟩ = some (.int .u8 51) ∧ w'.cell? ⟨gd, 3, none⟩ = some (.int .u8 56) := by
  have hT : Two B w gd g T (Array.replicate 24 y) w := ⟨hd, k0, k1, Below.refl _ _⟩
  have HT := Lib.hid hT
  obtain ⟨hgl, hgl2⟩ := hT.lt
  have c0 : w.cell? ⟨gd, 0, none⟩ = some y := (blk_cell hd 0).trans (by simp)
  have c1 : w.cell? ⟨gd, 1, none⟩ = some y := (blk_cell hd 1).trans (by simp)
  have f0 := blk_frozen hd 0
  have f1 := blk_frozen hd 1
  have hne' : g ≠ gd := fun h => hne h.symm
  clear hd hT
  have m1 : min (2 : Int) 0 = 0 := by decide
  have m2 : max (0 : Int) 2 = 2 := by decide
  have m3 : min (2 : Int) 2 = 2 := by decide
  have m4 : max (0 : Int) 0 = 0 := by decide
  go_enter Tryz.func122, Tryz.ntmps122
  go_wp2_with fail
  refine wp_loop_rounds 1 ?_
  rw [rounds_succ]
  go_wp2_with fail
  have HT2 := Lib.hid ((((HT.out.put hgd hne 0 (.int .u8 48) rfl).put hgd hne 1 (.int .u8 46) rfl).new (by simp; omega) (Obj.cells #[.int .u8 48] 5)).new (by simp; omega) (Obj.cells #[.int .u8 46] 5))
  clear HT c0 c1 f0 f1 k0 k1 hgl hgl2
  generalize hW : (((w.setCell ⟨gd, 0, none⟩ (.int .u8 48)).setCell ⟨gd, 1, none⟩ (.int .u8 46)).alloc (Obj.cells #[.int .u8 48] 5)).alloc (Obj.cells #[.int .u8 46] 5) = W at *
  clear hW
  obtain ⟨hgl, hgl2⟩ := HT2.out.lt
  have k0 := HT2.out.k0
  have c2 : W.cell? ⟨gd, 2, none⟩ = some y := (blk_cell HT2.out.row 2).trans rfl
  have f2 := blk_frozen HT2.out.row 2
  refine wp_loop_rounds 3 ?_
  rw [rounds_succ]
  go_wp2_with fail
  have hBW : B ≤ W.heap.size := HT2.out.below.size |> fun h => by omega
  have HT3 := Lib.hid ((HT2.out.put hgd hne 2 (.int .u8 51) rfl).new (by simp; omega) (Obj.cells #[.int .u8 51] 5))
  clear HT2 c2 f2 k0 hgl hgl2 hBW
  generalize hW : (W.setCell ⟨gd, 2, none⟩ (.int .u8 51)).alloc (Obj.cells #[.int .u8 51] 5) = W3 at *
  clear hW
  obtain ⟨hgl, hgl2⟩ := HT3.out.lt
  have k1 := HT3.out.k1
  have c3 : W3.cell? ⟨gd, 3, none⟩ = some y := (blk_cell HT3.out.row 3).trans rfl
  have f3 := blk_frozen HT3.out.row 3
  rw [rounds_succ]
  go_wp2_with fail
  have HT4 := Lib.hid ((HT3.out.put hgd hne 3 (.int .u8 56) rfl).new (by simp; omega) (Obj.cells #[.int .u8 56] 5))
  clear HT3 c3 f3 k1 hgl hgl2
  generalize hW : (W3.setCell ⟨gd, 3, none⟩ (.int .u8 56)).alloc (Obj.cells #[.int .u8 56] 5) = W4 at *
  clear hW
  rw [rounds_succ]
  go_wp2_with fail
  refine wp_loop_rounds 1 ?_
  rw [rounds_succ]
  go_wp2_with fail
  go_ret
  have hr := HT4.out.row
  exact ⟨rfl, HT4.out.below, (blk_cell hr 0).trans rfl, (blk_cell hr 1).trans rfl, (blk_cell hr 2).trans rfl, (blk_cell hr 3).trans rfl⟩
end Go.Proofs.YtjpiplplohapnaaGreatDoor
namespace Go.Proofs.YtjpiplplohapnaaGreatDoor
open Go.RowKit Go.Sort Go.Proofs.YtjpiplplohapnaaGreatDoorW.PrintWords
theorem numDigits_38 (w : World) (ht : Lib.TabIs Tryz.prog w "internal/strconv.uint64pow10" .u64 Lib.pow10Tab) : Calls Tryz.prog 101 #[.int .u64 38] w fun e w' => e = .returned (.int .i64 2) ∧ w' = w := by
  have h := Tryz.internal_strconv_numDigits 38 (by decide) (by decide) w ht
  have e : ((Lib.nDigits 38 : Nat) : Int) = 2 := by decide +kernel
  rw [e] at h
  exact h
set_option maxRecDepth 100000 in
set_option maxHeartbeats 1000000 in
theorem ftoa_375 (w : World) (hL : Laid w) (gd B : Nat) (hgd : B ≤ gd) (T : TypeId) (y : Value) (hd : w.heap[gd]? = some (.cells (Array.replicate 24 y) T (0, 0))) (_hB : 17 ≤ B) (hBw : B ≤ w.heap.size) :
    Calls Tryz.prog 95 #[.slice (some ⟨gd, 0, none⟩) 0 24, .float .f64 4600427019358961664, .int .u8 102, .int .i64 2] w fun e w' =>
      e = .returned (.slice (some ⟨gd, 0, none⟩) 4 24) ∧ Below B w w' ∧ w'.cell? ⟨gd, 0, none⟩ = some (.int .u8 48) ∧ w'.cell? ⟨gd, 1, none⟩ = some (.int .u8 46) ∧ w'.cell? ⟨gd, 2, none⟩ = some (.int .u8 51) ∧ w'.cell? ⟨gd, 3, none⟩ = some (.int .u8 56) := by
  have hbits := bits119 4600427019358961664
  have ho := hL.optCell
  have s1 : ∀ W, (Op.shift BinOp.shr .u64 4600427019358961664 .i64 63).run Tryz.prog W = .ok (.int .u64 0) W := fun W => by kernel_rfl
  have s2 : ∀ W, (Op.shift BinOp.shr .u64 4600427019358961664 .i64 52).run Tryz.prog W = .ok (.int .u64 1021) W := fun W => by kernel_rfl
  have s3 : ∀ W, (Op.shift BinOp.shl .i64 1 .i64 11).run Tryz.prog W = .ok (.int .i64 2048) W := fun W => by kernel_rfl
  have s4 : ∀ W, (Op.shift BinOp.shl .u64 1 .i64 52).run Tryz.prog W = .ok (.int .u64 4503599627370496) W := fun W => by kernel_rfl
  have s5 : ∀ W, (Op.shift BinOp.shl .u64 6755399441055744 .i64 11).run Tryz.prog W = .ok (.int .u64 13835058055282163712) W := fun W => by kernel_rfl
  have a1 : Go.bits .and .i64 1021 2047 = 1021 := by decide +kernel
  have a2 : Go.bits .and .u64 4600427019358961664 4503599627370495 = 2251799813685248 := by decide +kernel
  have a3 : Go.bits .or .u64 2251799813685248 4503599627370496 = 6755399441055744 := by decide +kernel
  have HD := Lib.hid hd
  clear hd
  go_enter Tryz.func95, Tryz.ntmps95
  go_wp2_with fail
  go_quiet (fail)
  go_wp2_with fail
  have hb1 : Below B w (w.drewN nq) := below_drewN (Below.refl _ _) _
  have HD1 : Hid ((w.drewN nq).heap[gd]? = some (.cells (Array.replicate 24 y) T (0, 0))) := Lib.hid HD.out
  have hL1 : Laid (w.drewN nq) := hL.below (below_drewN (Below.refl _ _) _)
  have hz1 : B ≤ (w.drewN nq).heap.size := hBw
  clear HD hL hBw ho
  generalize hW : w.drewN nq = w1s at *
  clear hW
  refine (log10_calls 2 0 (by decide +kernel) _).mono ?_
  rintro e w2 ⟨rfl, hb2⟩
  go_wp2_with fail
  refine (Tryz.bits_Len64 6755399441055744 _ (by decide) (by decide)).mono ?_
  rintro e w3 ⟨rfl, rfl⟩
  rw [show ((Lib.bitLen (6755399441055744 : Int).toNat : Nat) : Int) = 53 from by decide +kernel]
  go_wp2_with fail
  have HG := Lib.hid (blk_new w2 (.cells (Array.replicate 24 (.int .u8 0)) 126 (0, 0)))
  have hL2 : Laid w2 := hL1.below hb2
  have hB2 : B ≤ w2.heap.size := Nat.le_trans hz1 hb2.size
  have hb02 : Below B w w2 := hb1.trans (hb2.mono hz1)
  have HD2 := Lib.hid (blk_below HD1.out hb2)
  have hgdl : gd < w2.heap.size := (Array.getElem?_eq_some_iff.1 HD2.out).1
  have HD3 := Lib.hid (blk_alloc HD2.out (.cells (Array.replicate 24 (.int .u8 0)) 126 (0, 0)))
  have hL3 : Laid (w2.alloc (.cells (Array.replicate 24 (.int .u8 0)) 126 (0, 0))) := hL2.below ((Below.refl _ _).alloc (Nat.le_refl _) _)
  have hb03 : Below B w (w2.alloc (.cells (Array.replicate 24 (.int .u8 0)) 126 (0, 0))) := hb02.alloc hB2 _
  have hz3 : (w2.alloc (.cells (Array.replicate 24 (.int .u8 0)) 126 (0, 0))).heap.size = w2.heap.size + 1 := by simp
  clear HD1 HD2 hL1 hL2 hb1 hb2
  generalize hgg : w2.heap.size = g at *
  refine (fixed_375 (w2.alloc (.cells (Array.replicate 24 (.int .u8 0)) 126 (0, 0))) hL3).mono ?_
  rintro e w4 ⟨rfl, hb4⟩
  have hg4 := Lib.hid (blk_below HG.out hb4)
  have HD4 := Lib.hid (blk_below HD3.out hb4)
  have hL4 := hL3.below hb4
  have hb04 := hb03.trans (hb4.mono (by omega))
  have hz4 : g < w4.heap.size := (Array.getElem?_eq_some_iff.1 hg4.out).1
  clear HG HD3 hL3 hb03 hz3 hb4 hgg
  go_wp2_with fail
  have c0 : w4.cell? ⟨g, 0, none⟩ = some (.int .u8 0) := (blk_cell hg4.out 0).trans rfl
  have c1 : w4.cell? ⟨g, 1, none⟩ = some (.int .u8 0) := (blk_cell hg4.out 1).trans rfl
  have f0 := blk_frozen hg4.out 0
  have f1 := blk_frozen hg4.out 1
  have ht4 := Lib.hid hL4.u10
  trace "region"
  go_region_with (first | (go_at_call 101; refine (numDigits_38 _ (by exact ht4.out)).mono ?_; rintro e w' ⟨rfl, rfl⟩) | (go_at_call 125; refine (setDigits_38 _ g g (Nat.le_refl _) (by exact c0) (by exact c1) (by exact f0) (by exact f1)).mono ?_; rintro e w5 ⟨rfl, hb5, k0, k1⟩))
  have HD5 : w5.heap[gd]? = some (.cells (Array.replicate 24 y) T (0, 0)) := (hb5.block gd (by omega)).trans HD4.out
  have HD5 := Lib.hid HD5
  have hb05 : Below B w w5 := hb04.trans ((below_drewN (Below.refl B w4) 1).trans (hb5.mono (by omega)))
  clear c0 c1 f0 f1 ht4 hL4 hg4 HD4 hb04
  go_wp2_with fail
  refine (fmt_38 w5 g gd B hgd (by omega) T y HD5.out k0 k1).mono ?_
  rintro e w6 ⟨rfl, hb6, r0, r1, r2, r3⟩
  go_wp2_with fail
  go_ret
  exact ⟨rfl, hb05.trans hb6, r0, r1, r2, r3⟩
end Go.Proofs.YtjpiplplohapnaaGreatDoor
namespace Go.Proofs.YtjpiplplohapnaaGreatDoor
open Go.RowKit Go.Sort Go.Proofs.YtjpiplplohapnaaGreatDoorW.PrintWords
set_option maxRecDepth 100000 in
set_option maxHeartbeats 1000000 in
theorem iformat_375 (w : World) (hL : Laid w) :
    Calls Tryz.prog 67 #[.float .f64 4600427019358961664, .int .u8 102, .int .i64 2, .int .i64 64] w fun e w' => e = .returned (.string ⟨#[48, 46, 51, 56]⟩) ∧ Below w.heap.size w w' := by
  have m1 : max (6 : Int) 24 = 24 := by decide
  have hmk : ∀ W, (Instr.makeSlice 94 (.int .i64 0) (.int .i64 24)).run Tryz.prog W = .ok (.slice (some ⟨W.heap.size, 0, none⟩) 0 24) (W.alloc (.cells (Array.replicate 24 (.int .u8 0)) 5)) := fun W => by kernel_rfl
  go_enter Tryz.func67, Tryz.ntmps67
  go_wp2_with fail
  have hs17 := hL.size
  refine (ftoa_375 _ (hL.below ((Below.refl _ _).alloc (Nat.le_refl _) _)) w.heap.size w.heap.size (Nat.le_refl _) 5 (.int .u8 0) (blk_new _ _) hs17 (by simp)).mono ?_
  rintro e w2 ⟨rfl, hb2, r0, r1, r2, r3⟩
  have hcv : (convert 94 9 (.slice (some ⟨w.heap.size, 0, none⟩) 4 24)).run Tryz.prog w2 = .ok (.string ⟨#[48, 46, 51, 56]⟩) w2 := by
    rw [run_convert_bytes_string w2 94 9 5 _ 4 24 Tryz.underlying94 Tryz.underlying5 Tryz.underlying9]
    rw [run_bytesToString w2 _ 4 24 [48, 46, 51, 56] (by simp [loadCells, r0, r1, r2, r3, go_sem])]
    rfl
  go_wp2_with fail
  go_ret
  exact ⟨rfl, ((Below.refl _ _).alloc (Nat.le_refl _) _).trans hb2⟩
set_option maxHeartbeats 1000000 in
theorem sformat_375 (w : World) (hL : Laid w) :
    Calls Tryz.prog 31 #[.float .f64 4600427019358961664, .int .u8 102, .int .i64 2, .int .i64 64] w fun e w' => e = .returned (.string ⟨#[48, 46, 51, 56]⟩) ∧ Below w.heap.size w w' := by
  go_enter Tryz.func31, Tryz.ntmps31
  go_wp2_with fail
  refine (iformat_375 _ hL).mono ?_
  rintro e w1 ⟨rfl, hb1⟩
  go_wp2_with fail
  go_ret
  exact ⟨rfl, hb1⟩
set_option maxRecDepth 100000 in
set_option maxHeartbeats 1000000 in
theorem print_375 (w : World) (hL : Laid w) :
    Calls Tryz.prog 14 #[.float .f64 4600427019358961664, .int .i64 2] w fun e w' => e = .returned (.tuple #[.string ⟨#[48, 46, 51, 56]⟩, .int .i64 0]) ∧ Below w.heap.size w w' := by
  go_enter Tryz.func14, Tryz.ntmps14
  go_wp2_with fail
  refine (number_375 _).mono ?_
  rintro e w1 ⟨rfl, rfl⟩
  go_wp2_with fail
  refine (sformat_375 _ hL).mono ?_
  rintro e w2 ⟨rfl, hb2⟩
  go_wp2_with fail
  go_ret2
  exact ⟨rfl, hb2⟩
end Go.Proofs.YtjpiplplohapnaaGreatDoor
namespace Go.Proofs.YtjpiplplohapnaaGreatDoor
open Go.RowKit Go.Sort Go.Proofs.YtjpiplplohapnaaGreatDoorW.PrintWords
set_option maxRecDepth 100000 in
theorem negative_15 (w : World) : Calls Tryz.prog 48 #[.float .f64 4609434218613702656] w fun e w' => e = .returned (.bool false) ∧ w' = w := by
  have s1 : ∀ W, (Op.shift BinOp.shr .u64 4609434218613702656 .i64 63).run Tryz.prog W = .ok (.int .u64 0) W := fun W => by kernel_rfl
  go_enter Tryz.func48, Tryz.ntmps48
  go_wp2_with fail
  refine (class_15 _).mono ?_
  rintro e w' ⟨rfl, rfl⟩
  go_wp2_with fail
  refine (apiBits 4609434218613702656 _).mono ?_
  rintro e w' ⟨rfl, rfl⟩
  go_wp2_with fail
  go_ret
  exact ⟨rfl, rfl⟩
set_option maxRecDepth 100000 in
theorem split_15 (w : World) : Calls Tryz.prog 47 #[.float .f64 4609434218613702656] w fun e w' => e = .returned (.tuple #[.int .i64 6755399441055744, .int .i64 (-52), .bool true]) ∧ w' = w := by
  have s1 : ∀ W, (Op.shift BinOp.shr .u64 4609434218613702656 .i64 52).run Tryz.prog W = .ok (.int .u64 1023) W := fun W => by kernel_rfl
  have a2 : Go.bits .and .u64 4609434218613702656 4503599627370495 = 2251799813685248 := by decide +kernel
  have a3 : Go.bits .or .u64 2251799813685248 4503599627370496 = 6755399441055744 := by decide +kernel
  go_enter Tryz.func47, Tryz.ntmps47
  go_wp2_with fail
  refine (size_calls 4609434218613702656 4609434218613702656 (by decide +kernel) _).mono ?_
  rintro e w' ⟨rfl, rfl⟩
  go_wp2_with fail
  refine (class_15 _).mono ?_
  rintro e w' ⟨rfl, rfl⟩
  go_wp2_with fail
  refine (negative_15 _).mono ?_
  rintro e w' ⟨rfl, rfl⟩
  go_wp2_with fail
  go_ret3
  exact ⟨rfl, rfl⟩
theorem db_15 {w : World} (h : Laid w) : w.cell? ⟨14, 15, none⟩ = some (.int .u8 4) := by
  have := World.var?_cell gDb h.db 15
  exact this.trans (by kernel_rfl)
set_option maxRecDepth 100000 in
theorem tz64_16 (w : World) (hL : Laid w) : Calls Tryz.prog 175 #[.int .u64 16] w fun e w' => e = .returned (.int .i64 4) ∧ Below w.heap.size w w' := by
  have hc := db_15 hL
  have a0 : IntKind.u64.wrap (-16) = 18446744073709551600 := by decide +kernel
  have a1 : Go.bits .and .u64 16 18446744073709551600 = 16 := by decide +kernel
  have a2 : IntKind.u64.wrap 4573923408821661840 = 4573923408821661840 := by decide +kernel
  go_enter Tryz.func175, Tryz.ntmps175
  go_wp2_with fail
  go_ret
  exact ⟨rfl, Below.refl _ _⟩
set_option maxRecDepth 100000 in
theorem tz_16 (w : World) (hL : Laid w) : Calls Tryz.prog 135 #[.int .u64 16] w fun e w' => e = .returned (.int .i64 4) ∧ Below w.heap.size w w' := by
  go_enter Tryz.func135, Tryz.ntmps135
  go_wp2_with fail
  refine (tz64_16 _ hL).mono ?_
  rintro e w1 ⟨rfl, hb1⟩
  go_wp2_with fail
  go_ret
  exact ⟨rfl, hb1⟩
theorem pow2_16 (w : World) : Calls Tryz.prog 134 #[.int .i64 16] w fun e w' => e = .returned (.bool true) ∧ Below w.heap.size w w' :=
  (PText.strconv_isPowerOfTwo.calls 16 true w (by decide +kernel)).mono fun _ _ ⟨h1, h2⟩ => ⟨h1, h2.below⟩
set_option maxRecDepth 100000 in
set_option maxHeartbeats 1000000 in
theorem formatBits_15 (w : World) (hL : Laid w) : Calls Tryz.prog 103 #[.slice none 0 0, .int .u64 2251799813685248, .int .i64 16, .bool false, .bool false] w fun e w' => e = .returned (.tuple #[.slice none 0 0, .string ⟨#[56, 48, 48, 48, 48, 48, 48, 48, 48, 48, 48, 48, 48]⟩]) ∧ Below w.heap.size w w' := by
  have s0 : ∀ W, (Op.shift BinOp.shr .u64 2251799813685248 .u64 4).run Tryz.prog W = .ok (.int .u64 140737488355328) W := fun W => by kernel_rfl
  have n0 : Go.bits .and .u64 2251799813685248 15 = 0 := by decide +kernel
  have s1 : ∀ W, (Op.shift BinOp.shr .u64 140737488355328 .u64 4).run Tryz.prog W = .ok (.int .u64 8796093022208) W := fun W => by kernel_rfl
  have n1 : Go.bits .and .u64 140737488355328 15 = 0 := by decide +kernel
  have s2 : ∀ W, (Op.shift BinOp.shr .u64 8796093022208 .u64 4).run Tryz.prog W = .ok (.int .u64 549755813888) W := fun W => by kernel_rfl
  have n2 : Go.bits .and .u64 8796093022208 15 = 0 := by decide +kernel
  have s3 : ∀ W, (Op.shift BinOp.shr .u64 549755813888 .u64 4).run Tryz.prog W = .ok (.int .u64 34359738368) W := fun W => by kernel_rfl
  have n3 : Go.bits .and .u64 549755813888 15 = 0 := by decide +kernel
  have s4 : ∀ W, (Op.shift BinOp.shr .u64 34359738368 .u64 4).run Tryz.prog W = .ok (.int .u64 2147483648) W := fun W => by kernel_rfl
  have n4 : Go.bits .and .u64 34359738368 15 = 0 := by decide +kernel
  have s5 : ∀ W, (Op.shift BinOp.shr .u64 2147483648 .u64 4).run Tryz.prog W = .ok (.int .u64 134217728) W := fun W => by kernel_rfl
  have n5 : Go.bits .and .u64 2147483648 15 = 0 := by decide +kernel
  have s6 : ∀ W, (Op.shift BinOp.shr .u64 134217728 .u64 4).run Tryz.prog W = .ok (.int .u64 8388608) W := fun W => by kernel_rfl
  have n6 : Go.bits .and .u64 134217728 15 = 0 := by decide +kernel
  have s7 : ∀ W, (Op.shift BinOp.shr .u64 8388608 .u64 4).run Tryz.prog W = .ok (.int .u64 524288) W := fun W => by kernel_rfl
  have n7 : Go.bits .and .u64 8388608 15 = 0 := by decide +kernel
  have s8 : ∀ W, (Op.shift BinOp.shr .u64 524288 .u64 4).run Tryz.prog W = .ok (.int .u64 32768) W := fun W => by kernel_rfl
  have n8 : Go.bits .and .u64 524288 15 = 0 := by decide +kernel
  have s9 : ∀ W, (Op.shift BinOp.shr .u64 32768 .u64 4).run Tryz.prog W = .ok (.int .u64 2048) W := fun W => by kernel_rfl
  have n9 : Go.bits .and .u64 32768 15 = 0 := by decide +kernel
  have s10 : ∀ W, (Op.shift BinOp.shr .u64 2048 .u64 4).run Tryz.prog W = .ok (.int .u64 128) W := fun W => by kernel_rfl
  have n10 : Go.bits .and .u64 2048 15 = 0 := by decide +kernel
  have s11 : ∀ W, (Op.shift BinOp.shr .u64 128 .u64 4).run Tryz.prog W = .ok (.int .u64 8) W := fun W => by kernel_rfl
  have n11 : Go.bits .and .u64 128 15 = 0 := by decide +kernel
  have HG := Lib.hid (blk_new w (.cells Tryz.zeroCells168 168 (0, 0)))
  have hL0 : Laid (w.alloc (.cells Tryz.zeroCells168 168 (0, 0))) := hL.below ((Below.refl _ _).alloc (Nat.le_refl _) _)
  have hb0 : Below w.heap.size w (w.alloc (.cells Tryz.zeroCells168 168 (0, 0))) := (Below.refl _ _).alloc (Nat.le_refl _) _
  go_enter Tryz.func103, Tryz.ntmps103
  go_wp2_with fail
  refine (pow2_16 _).mono ?_
  rintro e w1 ⟨rfl, hb1⟩
  have HG1 := Lib.hid (blk_below HG.out hb1)
  have hL1 := hL0.below hb1
  have hb01 := hb0.trans (hb1.mono (by simp))
  go_wp2_with fail
  refine (tz_16 _ hL1).mono ?_
  rintro e w2 ⟨rfl, hb2⟩
  have HG2 := Lib.hid (blk_below HG1.out hb2)
  have hb02 := hb01.trans (hb2.mono hb01.size)
  clear HG HG1 hL0 hL1 hb0 hb1 hb01 hb2
  go_wp2_with fail
  refine wp_loop_rounds 13 ?_
  have hg : w.heap.size < w2.heap.size := (Array.getElem?_eq_some_iff.1 HG2.out).1
  have c0 : w2.cell? ⟨w.heap.size, 64, none⟩ = some (.int .u8 0) := (blk_cell HG2.out 64).trans (by kernel_rfl)
  have f0 := blk_frozen HG2.out 64
  rw [rounds_succ]
  go_wp2_with fail
  show Code.rounds Tryz.prog _ _ _ _ (w2.setCell ⟨_, 64, none⟩ (.int .u8 48))
  have HV0 := Lib.hid (blk_put HG2.out 64 (.int .u8 48) rfl)
  have hv0 := hb02.setCell (p := ⟨w.heap.size, 64, none⟩) (Nat.le_refl _) (.int .u8 48)
  clear hg c0 f0 HG2 hb02
  generalize w2.setCell ⟨w.heap.size, 64, none⟩ (.int .u8 48) = v0 at *
  have hg : w.heap.size < v0.heap.size := (Array.getElem?_eq_some_iff.1 HV0.out).1
  have c0 : v0.cell? ⟨w.heap.size, 63, none⟩ = some (.int .u8 0) := (blk_cell HV0.out 63).trans (by kernel_rfl)
  have f0 := blk_frozen HV0.out 63
  rw [rounds_succ]
  go_wp2_with fail
  show Code.rounds Tryz.prog _ _ _ _ (v0.setCell ⟨_, 63, none⟩ (.int .u8 48))
  have HV1 := Lib.hid (blk_put HV0.out 63 (.int .u8 48) rfl)
  have hv1 := hv0.setCell (p := ⟨w.heap.size, 63, none⟩) (Nat.le_refl _) (.int .u8 48)
  clear hg c0 f0 HV0 hv0
  generalize v0.setCell ⟨w.heap.size, 63, none⟩ (.int .u8 48) = v1 at *
  have hg : w.heap.size < v1.heap.size := (Array.getElem?_eq_some_iff.1 HV1.out).1
  have c0 : v1.cell? ⟨w.heap.size, 62, none⟩ = some (.int .u8 0) := (blk_cell HV1.out 62).trans (by kernel_rfl)
  have f0 := blk_frozen HV1.out 62
  rw [rounds_succ]
  go_wp2_with fail
  show Code.rounds Tryz.prog _ _ _ _ (v1.setCell ⟨_, 62, none⟩ (.int .u8 48))
  have HV2 := Lib.hid (blk_put HV1.out 62 (.int .u8 48) rfl)
  have hv2 := hv1.setCell (p := ⟨w.heap.size, 62, none⟩) (Nat.le_refl _) (.int .u8 48)
  clear hg c0 f0 HV1 hv1
  generalize v1.setCell ⟨w.heap.size, 62, none⟩ (.int .u8 48) = v2 at *
  have hg : w.heap.size < v2.heap.size := (Array.getElem?_eq_some_iff.1 HV2.out).1
  have c0 : v2.cell? ⟨w.heap.size, 61, none⟩ = some (.int .u8 0) := (blk_cell HV2.out 61).trans (by kernel_rfl)
  have f0 := blk_frozen HV2.out 61
  rw [rounds_succ]
  go_wp2_with fail
  show Code.rounds Tryz.prog _ _ _ _ (v2.setCell ⟨_, 61, none⟩ (.int .u8 48))
  have HV3 := Lib.hid (blk_put HV2.out 61 (.int .u8 48) rfl)
  have hv3 := hv2.setCell (p := ⟨w.heap.size, 61, none⟩) (Nat.le_refl _) (.int .u8 48)
  clear hg c0 f0 HV2 hv2
  generalize v2.setCell ⟨w.heap.size, 61, none⟩ (.int .u8 48) = v3 at *
  have hg : w.heap.size < v3.heap.size := (Array.getElem?_eq_some_iff.1 HV3.out).1
  have c0 : v3.cell? ⟨w.heap.size, 60, none⟩ = some (.int .u8 0) := (blk_cell HV3.out 60).trans (by kernel_rfl)
  have f0 := blk_frozen HV3.out 60
  rw [rounds_succ]
  go_wp2_with fail
  show Code.rounds Tryz.prog _ _ _ _ (v3.setCell ⟨_, 60, none⟩ (.int .u8 48))
  have HV4 := Lib.hid (blk_put HV3.out 60 (.int .u8 48) rfl)
  have hv4 := hv3.setCell (p := ⟨w.heap.size, 60, none⟩) (Nat.le_refl _) (.int .u8 48)
  clear hg c0 f0 HV3 hv3
  generalize v3.setCell ⟨w.heap.size, 60, none⟩ (.int .u8 48) = v4 at *
  have hg : w.heap.size < v4.heap.size := (Array.getElem?_eq_some_iff.1 HV4.out).1
  have c0 : v4.cell? ⟨w.heap.size, 59, none⟩ = some (.int .u8 0) := (blk_cell HV4.out 59).trans (by kernel_rfl)
  have f0 := blk_frozen HV4.out 59
  rw [rounds_succ]
  go_wp2_with fail
  show Code.rounds Tryz.prog _ _ _ _ (v4.setCell ⟨_, 59, none⟩ (.int .u8 48))
  have HV5 := Lib.hid (blk_put HV4.out 59 (.int .u8 48) rfl)
  have hv5 := hv4.setCell (p := ⟨w.heap.size, 59, none⟩) (Nat.le_refl _) (.int .u8 48)
  clear hg c0 f0 HV4 hv4
  generalize v4.setCell ⟨w.heap.size, 59, none⟩ (.int .u8 48) = v5 at *
  have hg : w.heap.size < v5.heap.size := (Array.getElem?_eq_some_iff.1 HV5.out).1
  have c0 : v5.cell? ⟨w.heap.size, 58, none⟩ = some (.int .u8 0) := (blk_cell HV5.out 58).trans (by kernel_rfl)
  have f0 := blk_frozen HV5.out 58
  rw [rounds_succ]
  go_wp2_with fail
  show Code.rounds Tryz.prog _ _ _ _ (v5.setCell ⟨_, 58, none⟩ (.int .u8 48))
  have HV6 := Lib.hid (blk_put HV5.out 58 (.int .u8 48) rfl)
  have hv6 := hv5.setCell (p := ⟨w.heap.size, 58, none⟩) (Nat.le_refl _) (.int .u8 48)
  clear hg c0 f0 HV5 hv5
  generalize v5.setCell ⟨w.heap.size, 58, none⟩ (.int .u8 48) = v6 at *
  have hg : w.heap.size < v6.heap.size := (Array.getElem?_eq_some_iff.1 HV6.out).1
  have c0 : v6.cell? ⟨w.heap.size, 57, none⟩ = some (.int .u8 0) := (blk_cell HV6.out 57).trans (by kernel_rfl)
  have f0 := blk_frozen HV6.out 57
  rw [rounds_succ]
  go_wp2_with fail
  show Code.rounds Tryz.prog _ _ _ _ (v6.setCell ⟨_, 57, none⟩ (.int .u8 48))
  have HV7 := Lib.hid (blk_put HV6.out 57 (.int .u8 48) rfl)
  have hv7 := hv6.setCell (p := ⟨w.heap.size, 57, none⟩) (Nat.le_refl _) (.int .u8 48)
  clear hg c0 f0 HV6 hv6
  generalize v6.setCell ⟨w.heap.size, 57, none⟩ (.int .u8 48) = v7 at *
  have hg : w.heap.size < v7.heap.size := (Array.getElem?_eq_some_iff.1 HV7.out).1
  have c0 : v7.cell? ⟨w.heap.size, 56, none⟩ = some (.int .u8 0) := (blk_cell HV7.out 56).trans (by kernel_rfl)
  have f0 := blk_frozen HV7.out 56
  rw [rounds_succ]
  go_wp2_with fail
  show Code.rounds Tryz.prog _ _ _ _ (v7.setCell ⟨_, 56, none⟩ (.int .u8 48))
  have HV8 := Lib.hid (blk_put HV7.out 56 (.int .u8 48) rfl)
  have hv8 := hv7.setCell (p := ⟨w.heap.size, 56, none⟩) (Nat.le_refl _) (.int .u8 48)
  clear hg c0 f0 HV7 hv7
  generalize v7.setCell ⟨w.heap.size, 56, none⟩ (.int .u8 48) = v8 at *
  have hg : w.heap.size < v8.heap.size := (Array.getElem?_eq_some_iff.1 HV8.out).1
  have c0 : v8.cell? ⟨w.heap.size, 55, none⟩ = some (.int .u8 0) := (blk_cell HV8.out 55).trans (by kernel_rfl)
  have f0 := blk_frozen HV8.out 55
  rw [rounds_succ]
  go_wp2_with fail
  show Code.rounds Tryz.prog _ _ _ _ (v8.setCell ⟨_, 55, none⟩ (.int .u8 48))
  have HV9 := Lib.hid (blk_put HV8.out 55 (.int .u8 48) rfl)
  have hv9 := hv8.setCell (p := ⟨w.heap.size, 55, none⟩) (Nat.le_refl _) (.int .u8 48)
  clear hg c0 f0 HV8 hv8
  generalize v8.setCell ⟨w.heap.size, 55, none⟩ (.int .u8 48) = v9 at *
  have hg : w.heap.size < v9.heap.size := (Array.getElem?_eq_some_iff.1 HV9.out).1
  have c0 : v9.cell? ⟨w.heap.size, 54, none⟩ = some (.int .u8 0) := (blk_cell HV9.out 54).trans (by kernel_rfl)
  have f0 := blk_frozen HV9.out 54
  rw [rounds_succ]
  go_wp2_with fail
  show Code.rounds Tryz.prog _ _ _ _ (v9.setCell ⟨_, 54, none⟩ (.int .u8 48))
  have HV10 := Lib.hid (blk_put HV9.out 54 (.int .u8 48) rfl)
  have hv10 := hv9.setCell (p := ⟨w.heap.size, 54, none⟩) (Nat.le_refl _) (.int .u8 48)
  clear hg c0 f0 HV9 hv9
  generalize v9.setCell ⟨w.heap.size, 54, none⟩ (.int .u8 48) = v10 at *
  have hg : w.heap.size < v10.heap.size := (Array.getElem?_eq_some_iff.1 HV10.out).1
  have c0 : v10.cell? ⟨w.heap.size, 53, none⟩ = some (.int .u8 0) := (blk_cell HV10.out 53).trans (by kernel_rfl)
  have f0 := blk_frozen HV10.out 53
  rw [rounds_succ]
  go_wp2_with fail
  show Code.rounds Tryz.prog _ _ _ _ (v10.setCell ⟨_, 53, none⟩ (.int .u8 48))
  have HV11 := Lib.hid (blk_put HV10.out 53 (.int .u8 48) rfl)
  have hv11 := hv10.setCell (p := ⟨w.heap.size, 53, none⟩) (Nat.le_refl _) (.int .u8 48)
  clear hg c0 f0 HV10 hv10
  generalize v10.setCell ⟨w.heap.size, 53, none⟩ (.int .u8 48) = v11 at *
  have hg : w.heap.size < v11.heap.size := (Array.getElem?_eq_some_iff.1 HV11.out).1
  have c0 : v11.cell? ⟨w.heap.size, 52, none⟩ = some (.int .u8 0) := (blk_cell HV11.out 52).trans (by kernel_rfl)
  have f0 := blk_frozen HV11.out 52
  have HV12 := Lib.hid (blk_put HV11.out 52 (.int .u8 56) rfl)
  have hv12 := hv11.setCell (p := ⟨w.heap.size, 52, none⟩) (Nat.le_refl _) (.int .u8 56)
  have hcv' : (convert 94 9 (.slice (some ⟨w.heap.size, 52, none⟩) 13 13)).run Tryz.prog (v11.setCell ⟨w.heap.size, 52, none⟩ (.int .u8 56)) = .ok (.string ⟨#[56, 48, 48, 48, 48, 48, 48, 48, 48, 48, 48, 48, 48]⟩) (v11.setCell ⟨w.heap.size, 52, none⟩ (.int .u8 56)) := by
    clear hg c0 f0 hv12 HV11 hv11
    generalize v11.setCell ⟨w.heap.size, 52, none⟩ (.int .u8 56) = v12 at *
    rw [run_convert_bytes_string v12 94 9 5 _ 13 13 Tryz.underlying94 Tryz.underlying5 Tryz.underlying9]
    rw [run_bytesToString v12 _ 13 13 [56, 48, 48, 48, 48, 48, 48, 48, 48, 48, 48, 48, 48] (by
      have d0 : v12.cell? ⟨w.heap.size, 52, none⟩ = some (.int .u8 56) := (blk_cell HV12.out 52).trans (by kernel_rfl)
      have d1 : v12.cell? ⟨w.heap.size, 53, none⟩ = some (.int .u8 48) := (blk_cell HV12.out 53).trans (by kernel_rfl)
      have d2 : v12.cell? ⟨w.heap.size, 54, none⟩ = some (.int .u8 48) := (blk_cell HV12.out 54).trans (by kernel_rfl)
      have d3 : v12.cell? ⟨w.heap.size, 55, none⟩ = some (.int .u8 48) := (blk_cell HV12.out 55).trans (by kernel_rfl)
      have d4 : v12.cell? ⟨w.heap.size, 56, none⟩ = some (.int .u8 48) := (blk_cell HV12.out 56).trans (by kernel_rfl)
      have d5 : v12.cell? ⟨w.heap.size, 57, none⟩ = some (.int .u8 48) := (blk_cell HV12.out 57).trans (by kernel_rfl)
      have d6 : v12.cell? ⟨w.heap.size, 58, none⟩ = some (.int .u8 48) := (blk_cell HV12.out 58).trans (by kernel_rfl)
      have d7 : v12.cell? ⟨w.heap.size, 59, none⟩ = some (.int .u8 48) := (blk_cell HV12.out 59).trans (by kernel_rfl)
      have d8 : v12.cell? ⟨w.heap.size, 60, none⟩ = some (.int .u8 48) := (blk_cell HV12.out 60).trans (by kernel_rfl)
      have d9 : v12.cell? ⟨w.heap.size, 61, none⟩ = some (.int .u8 48) := (blk_cell HV12.out 61).trans (by kernel_rfl)
      have d10 : v12.cell? ⟨w.heap.size, 62, none⟩ = some (.int .u8 48) := (blk_cell HV12.out 62).trans (by kernel_rfl)
      have d11 : v12.cell? ⟨w.heap.size, 63, none⟩ = some (.int .u8 48) := (blk_cell HV12.out 63).trans (by kernel_rfl)
      have d12 : v12.cell? ⟨w.heap.size, 64, none⟩ = some (.int .u8 48) := (blk_cell HV12.out 64).trans (by kernel_rfl)
      simp [loadCells, d0, d1, d2, d3, d4, d5, d6, d7, d8, d9, d10, d11, d12, go_sem])]
    rfl
  have hcv : (convert 94 9 (.slice (some ⟨w.heap.size, 52, none⟩) 13 13)).run Tryz.prog (v11.setCell ⟨w.heap.size, 52, none⟩ (.int .u8 (({ data := #[48, 49, 50, 51, 52, 53, 54, 55, 56, 57, 97, 98, 99, 100, 101, 102, 103, 104, 105, 106, 107, 108, 109, 110, 111, 112, 113, 114, 115, 116, 117, 118, 119, 120, 121, 122] } : ByteArray)[8]'(by decide)).toNat)) = .ok (.string ⟨#[56, 48, 48, 48, 48, 48, 48, 48, 48, 48, 48, 48, 48]⟩) (v11.setCell ⟨w.heap.size, 52, none⟩ (.int .u8 (({ data := #[48, 49, 50, 51, 52, 53, 54, 55, 56, 57, 97, 98, 99, 100, 101, 102, 103, 104, 105, 106, 107, 108, 109, 110, 111, 112, 113, 114, 115, 116, 117, 118, 119, 120, 121, 122] } : ByteArray)[8]'(by decide)).toNat)) := hcv'
  clear hcv' HV12
  rw [rounds_succ]
  go_wp2_with fail
  go_ret2
  exact ⟨rfl, hv12⟩
set_option maxHeartbeats 1000000 in
theorem formatUint_15 (w : World) (hL : Laid w) : Calls Tryz.prog 74 #[.int .u64 2251799813685248, .int .i64 16] w fun e w' => e = .returned (.string ⟨#[56, 48, 48, 48, 48, 48, 48, 48, 48, 48, 48, 48, 48]⟩) ∧ Below w.heap.size w w' := by
  go_enter Tryz.func74, Tryz.ntmps74
  go_wp2_with fail
  refine (formatBits_15 _ hL).mono ?_
  rintro e w1 ⟨rfl, hb1⟩
  go_wp2_with fail
  go_ret
  exact ⟨rfl, hb1⟩
set_option maxHeartbeats 1000000 in
theorem sformatUint_15 (w : World) (hL : Laid w) : Calls Tryz.prog 49 #[.int .u64 2251799813685248, .int .i64 16] w fun e w' => e = .returned (.string ⟨#[56, 48, 48, 48, 48, 48, 48, 48, 48, 48, 48, 48, 48]⟩) ∧ Below w.heap.size w w' := by
  go_enter Tryz.func49, Tryz.ntmps49
  go_wp2_with fail
  refine (formatUint_15 _ hL).mono ?_
  rintro e w1 ⟨rfl, hb1⟩
  go_wp2_with fail
  go_ret
  exact ⟨rfl, hb1⟩
set_option maxRecDepth 100000 in
set_option maxHeartbeats 1000000 in
theorem hex_15 (w : World) (hL : Laid w) : Calls Tryz.prog 19 #[.float .f64 4609434218613702656] w fun e w' => e = .returned (.tuple #[.string ⟨#[48, 120, 49, 46, 56, 112, 43, 48]⟩, .int .i64 0]) ∧ Below w.heap.size w w' := by
  have a1 : Go.bits .and .u64 6755399441055744 4503599627370495 = 2251799813685248 := by decide +kernel
  go_enter Tryz.func19, Tryz.ntmps19
  go_wp2_with fail
  refine (split_15 _).mono ?_
  rintro e w1 ⟨rfl, rfl⟩
  go_wp2_with fail
  refine (negative_15 _).mono ?_
  rintro e w1 ⟨rfl, rfl⟩
  go_wp2_with fail
  refine wp_loop_rounds 1 ?_
  rw [rounds_succ]
  go_wp2_with fail
  refine (sformatUint_15 _ hL).mono ?_
  rintro e w1 ⟨rfl, hb1⟩
  go_wp2_with fail
  refine (Tryz.strings_Repeat_zero _ _).mono ?_
  rintro e w2 ⟨rfl, rfl⟩
  go_wp2_with fail
  refine (Tryz.strings_TrimRight_one _ 48 (by decide) _ (by decide)).mono ?_
  rintro e w2 ⟨rfl, rfl⟩
  have et : (⟨(Lib.trimRightB (⟨#[]⟩ ++ ⟨#[56, 48, 48, 48, 48, 48, 48, 48, 48, 48, 48, 48, 48]⟩ : ByteArray).data.toList 48).toArray⟩ : ByteArray) = ⟨#[56]⟩ := by kernel_rfl
  rw [et]
  go_wp2_with fail
  have hi : Calls Tryz.prog 45 #[.int .i64 0] w2 fun e w' => e = .returned (.string ⟨#[48]⟩) ∧ w' = w2 := by
    have e0 : (⟨(Lib.decDigits 0).toArray⟩ : ByteArray) = ⟨#[48]⟩ := by simp [Lib.decDigits]
    have := Tryz.strconv_Itoa_small 0 (by decide) w2
    rw [e0] at this; exact this
  refine hi.mono ?_
  rintro e w3 ⟨rfl, rfl⟩
  go_wp2_with fail
  refine bodyPost_ret (v := .tuple #[.string ⟨#[48, 120, 49, 46, 56, 112, 43, 48]⟩, .int .i64 0]) (by simp [results, Tryz.results19, go_sem]; decide +kernel) rfl ?_
  exact ⟨rfl, hb1⟩
end Go.Proofs.YtjpiplplohapnaaGreatDoor
