/- Part 8 of the proof: RPow, Nr, NrI, Us, Ut. -/
import Derived.Test.YtjpiplplohapnaaGreatDoorPs7
import Ieee.Arith
import GoSem.PinnedTables
import Derived.KernelRfl
set_option linter.unusedVariables false
set_option linter.unusedSimpArgs false
namespace Go.Proofs.YtjpiplplohapnaaGreatDoor.PText
open Go.RowKit Go.Proofs.YtjpiplplohapnaaGreatDoorW.PrintWords Go.Proofs.YtjpiplplohapnaaGreatDoorW.PrintLast Go.Proofs.YtjpiplplohapnaaGreatDoorW.PrintMore
attribute [local go_sem] z2i z2j z3i z3k z2d z2c z2q z2r
set_option linter.unusedVariables false
set_option linter.unusedSimpArgs false
def z0s.l0 : Nat → ByteArray → Int → Option (Int)
  | 0, _, _ => none
  | k + 1, x0, x1 => if x1 < (x0.size : Int) then (if 0 ≤ x1 then (if (bt x0 x1) ≥ 48 then (if (bt x0 x1) ≤ 57 then (z0s.l0 k x0 (wrap64 (x1 + 1))) else (some x1)) else (some x1)) else (none)) else (some x1)
def z0s.f (k : Nat) (a0 : ByteArray) (a1 : Int) : Option (Int) := z0s.l0 k a0 a1
set_option maxHeartbeats 8000000 in
set_option maxRecDepth 100000 in
theorem z0s.calls (k : Nat) (a0 : ByteArray) (a1 : Int) (r : Int) (w : World) (h : z0s.f k a0 a1 = some r) :
    Calls Tryz.prog 25 #[.string a0, .int .i64 a1] w fun e w' => e = .returned (.int .i64 r) ∧ z0o w w' := by
  have H : (z0s.l0 k a0 a1) = some r := h
  clear h
  have H' := y9.mk H
  clear H
  go_enter Tryz.func25, Tryz.ntmps25
  go_wp2
  go_loopg [1] k (fun kq v1 w' => ∃ (x1_1 : Int), v1 = .int .i64 x1_1 ∧ y9 (z0s.l0 kq a0 x1_1 = some r) ∧ y9 (kq ≤ k) ∧ z0o w w')
  case atStart => exact ⟨(a1), (by rfl), H', ⟨Nat.le_refl _⟩, by repeat (exact z0o.refl _)⟩
  case round =>
    clear H'
    (try clear c2); (try clear p2)
    obtain ⟨x1_1, rfl, HA, HK1, ⟨m1, rfl⟩⟩ := hrel
    cases gk with
    | zero => exact absurd HA.out (by simp [z0s.l0])
    | succ k1 =>
      have H := HA.out
      clear HA
      simp only [z0s.l0] at H
      by_cases c3 : x1_1 < (a0.size : Int)
      · rw [if_pos c3] at H
        have c3b0 : decide (x1_1 < (a0.size : Int)) = true := decide_eq_true c3
        clear c3
        by_cases c4 : 0 ≤ x1_1
        · rw [if_pos c4] at H
          have c4b0 : decide (0 ≤ x1_1) = true := decide_eq_true c4
          clear c4
          by_cases c6 : (bt a0 x1_1) ≥ 48
          · rw [if_pos c6] at H
            have c6b0 : decide (48 ≤ (bt a0 x1_1)) = true := decide_eq_true c6
            clear c6
            by_cases c8 : (bt a0 x1_1) ≤ 57
            · rw [if_pos c8] at H
              have c8b0 : decide ((bt a0 x1_1) ≤ 57) = true := decide_eq_true c8
              clear c8
              have H' := y9.mk H
              clear H
              have p5 : 0 ≤ (x1_1 : Int) := of_decide_eq_true (by (with_reducible assumption))
              have q5 : x1_1 < (a0.size : Int) := of_decide_eq_true (by (with_reducible assumption))
              have hx5 := z4f a0 x1_1
              replace p5 := eq_true p5
              replace q5 := eq_true q5
              have p7 : 0 ≤ (x1_1 : Int) := of_decide_eq_true (by (with_reducible assumption))
              have q7 : x1_1 < (a0.size : Int) := of_decide_eq_true (by (with_reducible assumption))
              have hx7 := z4f a0 x1_1
              replace p7 := eq_true p7
              replace q7 := eq_true q7
              go_wp2
              go_roundg k1
              case measure => have := HK1.out; omega
              case rel => exact ⟨(wrap64 (x1_1 + 1)), (by rfl), H', ⟨by have := HK1.out; omega⟩, by repeat (first | exact z0o.refl _ | apply z0o.step)⟩
            rw [if_neg c8] at H
            have c8b0 : decide ((bt a0 x1_1) ≤ 57) = false := decide_eq_false c8
            clear c8
            obtain rfl := Option.some.inj H
            have p5 : 0 ≤ (x1_1 : Int) := of_decide_eq_true (by (with_reducible assumption))
            have q5 : x1_1 < (a0.size : Int) := of_decide_eq_true (by (with_reducible assumption))
            have hx5 := z4f a0 x1_1
            replace p5 := eq_true p5
            replace q5 := eq_true q5
            have p7 : 0 ≤ (x1_1 : Int) := of_decide_eq_true (by (with_reducible assumption))
            have q7 : x1_1 < (a0.size : Int) := of_decide_eq_true (by (with_reducible assumption))
            have hx7 := z4f a0 x1_1
            replace p7 := eq_true p7
            replace q7 := eq_true q7
            go_wp2
            go_ret
            exact ⟨by rfl, by repeat (first | exact z0o.refl _ | apply z0o.step)⟩
          rw [if_neg c6] at H
          have c6b0 : decide (48 ≤ (bt a0 x1_1)) = false := decide_eq_false c6
          clear c6
          obtain rfl := Option.some.inj H
          have p5 : 0 ≤ (x1_1 : Int) := of_decide_eq_true (by (with_reducible assumption))
          have q5 : x1_1 < (a0.size : Int) := of_decide_eq_true (by (with_reducible assumption))
          have hx5 := z4f a0 x1_1
          replace p5 := eq_true p5
          replace q5 := eq_true q5
          go_wp2
          go_ret
          exact ⟨by rfl, by repeat (first | exact z0o.refl _ | apply z0o.step)⟩
        rw [if_neg c4] at H
        exact absurd H (by simp)
      rw [if_neg c3] at H
      have c3b0 : decide (x1_1 < (a0.size : Int)) = false := decide_eq_false c3
      clear c3
      obtain rfl := Option.some.inj H
      go_wp2
      go_ret
      exact ⟨by rfl, by repeat (first | exact z0o.refl _ | apply z0o.step)⟩
mutual
def z0c.j0 : Nat → ByteArray → Int → Bool → Option (Int × Int)
  | 0, _, _, _ => none
  | k + 1, x0, x1, x18 => if x18 = true then (some (0, x1)) else (if (wrap64 (x1 + 1)) < (x0.size : Int) then (if 0 ≤ (wrap64 (x1 + 1)) then (if (bt x0 (wrap64 (x1 + 1))) = 43 then (z0c.j1 k x0 (wrap64 (x1 + 1)) false true) else (z0c.j1 k x0 (wrap64 (x1 + 1)) false ((bt x0 (wrap64 (x1 + 1))) == 45))) else (none)) else (z0c.j1 k x0 (wrap64 (x1 + 1)) false false))
def z0c.j1 : Nat → ByteArray → Int → Bool → Bool → Option (Int × Int)
  | 0, _, _, _, _ => none
  | k + 1, x0, x1, x6, x37 => if x37 = true then (if 0 ≤ x1 then (if x1 < (x0.size : Int) then (z0c.j2 k x0 (wrap64 (x1 + 1)) ((bt x0 x1) == 45)) else (none)) else (none)) else (z0c.j2 k x0 x1 x6)
def z0c.j2 : Nat → ByteArray → Int → Bool → Option (Int × Int)
  | 0, _, _, _ => none
  | k + 1, x0, x1, x6 => (z0s.f k x0 x1).bind fun t189 => (if t189 = x1 then (z0c.j3 k x0 x1 x6 t189 true) else (z0c.j3 k x0 x1 x6 t189 (decide ((wrap64 (t189 - x1)) > 4))))
def z0c.j3 : Nat → ByteArray → Int → Bool → Int → Bool → Option (Int × Int)
  | 0, _, _, _, _, _ => none
  | k + 1, x0, x1, x6, x7, x55 => if x55 = true then (some (0, (-1))) else (z0c.l0 k x0 x1 x6 x7 0)
def z0c.l0 : Nat → ByteArray → Int → Bool → Int → Int → Option (Int × Int)
  | 0, _, _, _, _, _ => none
  | k + 1, x0, x1, x6, x7, x8 => if x1 < x7 then (if 0 ≤ x1 then (if x1 < (x0.size : Int) then (z0c.l0 k x0 (wrap64 (x1 + 1)) x6 x7 (wrap64 ((wrap64 (10 * x8)) + (((bt x0 x1) - 48) % 256)))) else (none)) else (none)) else (if x6 = true then (some (wrap64 (-x8), x1)) else (some (x8, x1)))
end
def z0c.f (k : Nat) (a0 : ByteArray) (a1 : Int) : Option (Int × Int) := if a1 ≥ (a0.size : Int) then (z0c.j0 k a0 a1 true) else (if 0 ≤ a1 then (if a1 < (a0.size : Int) then (z0c.j0 k a0 a1 ((bt a0 a1) != 101)) else (none)) else (none))
set_option maxHeartbeats 8000000 in
set_option maxRecDepth 100000 in
theorem z0c.calls (k : Nat) (a0 : ByteArray) (a1 : Int) (r1 : Int) (r2 : Int) (w : World) (h : z0c.f k a0 a1 = some (r1, r2)) :
    Calls Tryz.prog 27 #[.string a0, .int .i64 a1] w fun e w' => e = .returned (.tuple #[.int .i64 r1, .int .i64 r2]) ∧ z0o w w' := by
  have H : (if a1 ≥ (a0.size : Int) then (z0c.j0 k a0 a1 true) else (if 0 ≤ a1 then (if a1 < (a0.size : Int) then (z0c.j0 k a0 a1 ((bt a0 a1) != 101)) else (none)) else (none))) = some (r1, r2) := h
  clear h
  have HC3 := y9.mk H
  clear H
  go_enter Tryz.func27, Tryz.ntmps27
  go_upto_region 1 with (fail)
  go_cut [18] (fun v18 wc => ∃ (kq : Nat) (x18_2 : Bool), v18 = .bool x18_2 ∧ y9 (z0c.j0 kq a0 a1 x18_2 = some (r1, r2)) ∧ y9 (kq ≤ k) ∧ z0o w wc)
  case first =>
    have H := HC3.out
    clear HC3
    by_cases c4 : a1 ≥ (a0.size : Int)
    · rw [if_pos c4] at H
      have c4b0 : decide ((a0.size : Int) ≤ a1) = true := decide_eq_true c4
      clear c4
      (skip)
      have H' := y9.mk H
      clear H
      go_wp2
      go_meet
      case rel => exact ⟨_, (true), (by rfl), (by exact H'), ⟨by omega⟩, by repeat (exact z0o.refl _)⟩
    rw [if_neg c4] at H
    have c4b0 : decide ((a0.size : Int) ≤ a1) = false := decide_eq_false c4
    clear c4
    (skip)
    by_cases c5 : 0 ≤ a1
    · rw [if_pos c5] at H
      have c5b0 : decide (0 ≤ a1) = true := decide_eq_true c5
      clear c5
      by_cases c6 : a1 < (a0.size : Int)
      · rw [if_pos c6] at H
        have c6b0 : decide (a1 < (a0.size : Int)) = true := decide_eq_true c6
        clear c6
        have H' := y9.mk H
        clear H
        have p7 : 0 ≤ (a1 : Int) := of_decide_eq_true (by (with_reducible assumption))
        have q7 : a1 < (a0.size : Int) := of_decide_eq_true (by (with_reducible assumption))
        have hx7 := z4f a0 a1
        replace p7 := eq_true p7
        replace q7 := eq_true q7
        go_wp2
        go_meet
        case rel => exact ⟨_, (((bt a0 a1) != 101)), (by rfl), H', ⟨by omega⟩, by repeat (exact z0o.refl _)⟩
      rw [if_neg c6] at H
      exact absurd H (by simp)
    rw [if_neg c5] at H
    exact absurd H (by simp)
  clear HC3
  (try clear c2); (try clear p2); (try clear c4); (try clear c4b0); (try clear c5); (try clear c5b0); (try clear c6); (try clear c6b0); (try clear p7); (try clear q7); (try clear hx7); (try clear p7); (try clear q7)
  obtain ⟨kq, x18_2, rfl, HA, HJ2, ⟨mc2, rfl⟩⟩ := hcut
  cases kq with
  | zero => exact absurd HA.out (by simp [z0c.j0])
  | succ kj2 =>
    have H := HA.out
    clear HA
    simp only [z0c.j0] at H
    by_cases c8 : x18_2 = true
    · subst c8
      have H1 : (some (0, a1)) = some (r1, r2) := by rw [if_pos rfl] at H; exact H
      clear H
      have H := H1
      clear H1
      simp only [Option.some.injEq, Prod.mk.injEq] at H
      obtain ⟨rfl, rfl⟩ := H
      go_wp2
      go_ret2
      exact ⟨by rfl, by repeat (first | exact z0o.refl _ | apply z0o.step)⟩
    replace c8 := Bool.eq_false_iff.mpr c8
    subst c8
    have H1 : (if (wrap64 (a1 + 1)) < (a0.size : Int) then (if 0 ≤ (wrap64 (a1 + 1)) then (if (bt a0 (wrap64 (a1 + 1))) = 43 then (z0c.j1 kj2 a0 (wrap64 (a1 + 1)) false true) else (z0c.j1 kj2 a0 (wrap64 (a1 + 1)) false ((bt a0 (wrap64 (a1 + 1))) == 45))) else (none)) else (z0c.j1 kj2 a0 (wrap64 (a1 + 1)) false false)) = some (r1, r2) := by rw [if_neg (show ¬ (false = true) by decide)] at H; exact H
    clear H
    have H := H1
    clear H1
    have HC9 := y9.mk H
    clear H
    go_upto_region 5 with (fail)
    go_cut [37] (fun v37 wc => ∃ (kq : Nat) (x37_8 : Bool), v37 = .bool x37_8 ∧ y9 (z0c.j1 kq a0 (wrap64 (a1 + 1)) false x37_8 = some (r1, r2)) ∧ y9 (kq ≤ kj2) ∧ z0o w wc)
    case first =>
      have H := HC9.out
      clear HC9
      by_cases c10 : (wrap64 (a1 + 1)) < (a0.size : Int)
      · rw [if_pos c10] at H
        have c10b0 : decide ((wrap64 (a1 + 1)) < (a0.size : Int)) = true := decide_eq_true c10
        clear c10
        (skip)
        obtain ⟨ji11, hji11⟩ : ∃ j_ : Int, (wrap64 (a1 + 1)) = j_ := ⟨_, rfl⟩
        replace H : (if 0 ≤ (ji11) then (if (bt a0 (ji11)) = 43 then (z0c.j1 kj2 a0 ji11 false true) else (z0c.j1 kj2 a0 ji11 false ((bt a0 (ji11)) == 45))) else (none)) = some (r1, r2) := by (rw [hji11] at H; exact H)
        (try rw [hji11] at c10b0)
        have hji11w : (IntKind.i64.wrap (a1 + 1)) = ji11 := (z0t _).trans hji11
        by_cases c12 : 0 ≤ (ji11)
        · rw [if_pos c12] at H
          have c12b0 : decide (0 ≤ (ji11)) = true := decide_eq_true c12
          clear c12
          by_cases c14 : (bt a0 (ji11)) = 43
          · rw [if_pos c14] at H
            have c14b0 : ((bt a0 (ji11)) == 43) = true := beq_iff_eq.mpr c14
            have c14b1 : ((bt a0 (ji11)) != 43) = false := bne_eq_false_iff_eq.mpr c14
            clear c14
            have H' := y9.mk H
            clear H
            have p13 : 0 ≤ ((ji11) : Int) := of_decide_eq_true (by (with_reducible assumption))
            have q13 : (ji11) < (a0.size : Int) := of_decide_eq_true (by (with_reducible assumption))
            have hx13 := z4f a0 (ji11)
            replace p13 := eq_true p13
            replace q13 := eq_true q13
            go_wp2
            go_meet
            case rel => exact ⟨_, (true), (by rfl), (by (rw [hji11]; exact H')), ⟨by have := HJ2.out; omega⟩, by repeat (first | exact z0o.refl _ | apply z0o.step)⟩
          rw [if_neg c14] at H
          have c14b0 : ((bt a0 (ji11)) == 43) = false := beq_eq_false_iff_ne.mpr c14
          have c14b1 : ((bt a0 (ji11)) != 43) = true := bne_iff_ne.mpr c14
          have H' := y9.mk H
          clear H
          have p13 : 0 ≤ ((ji11) : Int) := of_decide_eq_true (by (with_reducible assumption))
          have q13 : (ji11) < (a0.size : Int) := of_decide_eq_true (by (with_reducible assumption))
          have hx13 := z4f a0 (ji11)
          replace p13 := eq_true p13
          replace q13 := eq_true q13
          have p15 : 0 ≤ ((ji11) : Int) := of_decide_eq_true (by (with_reducible assumption))
          have q15 : (ji11) < (a0.size : Int) := of_decide_eq_true (by (with_reducible assumption))
          have hx15 := z4f a0 (ji11)
          replace p15 := eq_true p15
          replace q15 := eq_true q15
          go_wp2
          go_meet
          case rel => exact ⟨_, (((bt a0 (ji11)) == 45)), (by rfl), (by (rw [hji11]; exact H')), ⟨by have := HJ2.out; omega⟩, by repeat (first | exact z0o.refl _ | apply z0o.step)⟩
        rw [if_neg c12] at H
        exact absurd H (by simp)
      rw [if_neg c10] at H
      have c10b0 : decide ((wrap64 (a1 + 1)) < (a0.size : Int)) = false := decide_eq_false c10
      clear c10
      (skip)
      have H' := y9.mk H
      clear H
      go_wp2
      go_meet
      case rel => exact ⟨_, (false), (by rfl), (by exact H'), ⟨by have := HJ2.out; omega⟩, by repeat (first | exact z0o.refl _ | apply z0o.step)⟩
    clear HC9
    (try clear c1); (try clear p1); (try clear q1); (try clear hx1); (try clear c2); (try clear p2); (try clear c4); (try clear c4b0); (try clear c5); (try clear c5b0); (try clear c6); (try clear c6b0); (try clear p6); (try clear p7); (try clear q7); (try clear hx7); (try clear c8); (try clear c10); (try clear c10b0); (try clear c12); (try clear c12b0); (try clear p13); (try clear q13); (try clear hx13); (try clear c14); (try clear c14b0); (try clear c14b1); (try clear p15); (try clear q15); (try clear hx15); (try clear p13); (try clear p15); (try clear p2); (try clear p7); (try clear q13); (try clear q15); (try clear q7)
    obtain ⟨kq, x37_8, rfl, HA, HJ8, ⟨mc8, rfl⟩⟩ := hcut
    cases kq with
    | zero => exact absurd HA.out (by simp [z0c.j1])
    | succ kj8 =>
      have H := HA.out
      clear HA
      simp only [z0c.j1] at H
      have HC16 := y9.mk H
      clear H
      go_upto_if 37 with (fail)
      go_cut [1, 6] (fun v1 v6 wc => ∃ (kq : Nat) (x1_15 : Int) (x6_15 : Bool), v1 = .int .i64 x1_15 ∧ v6 = .bool x6_15 ∧ y9 (z0c.j2 kq a0 x1_15 x6_15 = some (r1, r2)) ∧ y9 (kq ≤ kj8) ∧ z0o w wc)
      case first =>
        have H := HC16.out
        clear HC16
        by_cases c17 : x37_8 = true
        · subst c17
          have H1 : (if 0 ≤ (wrap64 (a1 + 1)) then (if (wrap64 (a1 + 1)) < (a0.size : Int) then (z0c.j2 kj8 a0 (wrap64 ((wrap64 (a1 + 1)) + 1)) ((bt a0 (wrap64 (a1 + 1))) == 45)) else (none)) else (none)) = some (r1, r2) := by rw [if_pos rfl] at H; exact H
          clear H
          have H := H1
          clear H1
          obtain ⟨ji18, hji18⟩ : ∃ j_ : Int, (wrap64 (a1 + 1)) = j_ := ⟨_, rfl⟩
          replace H : (if 0 ≤ (ji18) then (if (ji18) < (a0.size : Int) then (z0c.j2 kj8 a0 (wrap64 ((ji18) + 1)) ((bt a0 (ji18)) == 45)) else (none)) else (none)) = some (r1, r2) := by (rw [hji18] at H; exact H)
          have hji18w : (IntKind.i64.wrap (a1 + 1)) = ji18 := (z0t _).trans hji18
          by_cases c19 : 0 ≤ (ji18)
          · rw [if_pos c19] at H
            have c19b0 : decide (0 ≤ (ji18)) = true := decide_eq_true c19
            clear c19
            (skip)
            by_cases c20 : (ji18) < (a0.size : Int)
            · rw [if_pos c20] at H
              have c20b0 : decide ((ji18) < (a0.size : Int)) = true := decide_eq_true c20
              clear c20
              have H' := y9.mk H
              clear H
              have p21 : 0 ≤ ((ji18) : Int) := of_decide_eq_true (by (with_reducible assumption))
              have q21 : (ji18) < (a0.size : Int) := of_decide_eq_true (by (with_reducible assumption))
              have hx21 := z4f a0 (ji18)
              replace p21 := eq_true p21
              replace q21 := eq_true q21
              go_wp2
              go_meet
              case rel => exact ⟨_, (wrap64 ((ji18) + 1)), (((bt a0 (ji18)) == 45)), (by rfl), (by rfl), (by exact H'), ⟨by have := HJ2.out; have := HJ8.out; omega⟩, by repeat (first | exact z0o.refl _ | apply z0o.step)⟩
            rw [if_neg c20] at H
            exact absurd H (by simp)
          rw [if_neg c19] at H
          exact absurd H (by simp)
        replace c17 := Bool.eq_false_iff.mpr c17
        subst c17
        have H1 : (z0c.j2 kj8 a0 (wrap64 (a1 + 1)) false) = some (r1, r2) := by rw [if_neg (show ¬ (false = true) by decide)] at H; exact H
        clear H
        have H := H1
        clear H1
        have H' := y9.mk H
        clear H
        go_wp2
        go_meet
        case rel => exact ⟨_, ((wrap64 (a1 + 1))), (false), (by rfl), (by rfl), (by exact H'), ⟨by have := HJ2.out; have := HJ8.out; omega⟩, by repeat (first | exact z0o.refl _ | apply z0o.step)⟩
      clear HC16
      (try clear c1); (try clear p1); (try clear q1); (try clear hx1); (try clear c2); (try clear p2); (try clear q2); (try clear hx2); (try clear c4); (try clear c4b0); (try clear c5); (try clear c5b0); (try clear c6); (try clear c6b0); (try clear p6); (try clear p7); (try clear q7); (try clear hx7); (try clear c8); (try clear c10); (try clear c10b0); (try clear c12); (try clear c12b0); (try clear p13); (try clear q13); (try clear hx13); (try clear c14); (try clear c14b0); (try clear c14b1); (try clear p15); (try clear q15); (try clear hx15); (try clear c17); (try clear c19); (try clear c19b0); (try clear c20); (try clear c20b0); (try clear p21); (try clear q21); (try clear hx21); (try clear p1); (try clear p13); (try clear p15); (try clear p2); (try clear p21); (try clear p6); (try clear p7); (try clear q1); (try clear q13); (try clear q15); (try clear q21); (try clear q7)
      obtain ⟨kq, x1_15, x6_15, rfl, rfl, HA, HJ15, ⟨mc15, rfl⟩⟩ := hcut
      cases kq with
      | zero => exact absurd HA.out (by simp [z0c.j2])
      | succ kj15 =>
        have H := HA.out
        clear HA
        simp only [z0c.j2] at H
        replace H := Option.bind_eq_some_iff.mp H
        obtain ⟨t189, A220, H⟩ := H
        have A22 := y9.mk A220
        clear A220
        have HC23 := y9.mk H
        clear H
        go_upto_region 9 with (((with_reducible refine z0y (f := 25) rfl ?_); refine z1p (some 46) rfl rfl Tryz.func25 (by kernel_rfl) rfl #[.string a0, .int .i64 x1_15] rfl (by (try simp only [List.map_toArray, List.map_cons, List.map_nil]); rfl) ?_; (with_reducible refine (z0s.calls kj15 a0 x1_15 t189 _ A22.out).mono ?_); rintro e w' ⟨rfl, ⟨nd, rfl⟩⟩; refine ⟨_, rfl, ?_⟩))
        (try simp only [Act.put, List.setIfInBounds_toArray, List.set_cons_zero, List.set_cons_succ])
        go_cut [55] (fun v55 wc => ∃ (kq : Nat) (x55_22 : Bool), v55 = .bool x55_22 ∧ y9 (z0c.j3 kq a0 x1_15 x6_15 t189 x55_22 = some (r1, r2)) ∧ y9 (kq ≤ kj15) ∧ z0o w wc)
        case first =>
          have H := HC23.out
          clear HC23
          by_cases c24 : t189 = x1_15
          · rw [if_pos c24] at H
            have c24b0 : (t189 == x1_15) = true := beq_iff_eq.mpr c24
            have c24b1 : (t189 != x1_15) = false := bne_eq_false_iff_eq.mpr c24
            clear c24
            (skip)
            have H' := y9.mk H
            clear H
            go_wp2
            go_meet
            case rel => exact ⟨_, (true), (by rfl), (by exact H'), ⟨by have := HJ2.out; have := HJ8.out; have := HJ15.out; omega⟩, by repeat (first | exact z0o.refl _ | apply z0o.step)⟩
          rw [if_neg c24] at H
          have c24b0 : (t189 == x1_15) = false := beq_eq_false_iff_ne.mpr c24
          have c24b1 : (t189 != x1_15) = true := bne_iff_ne.mpr c24
          (skip)
          have H' := y9.mk H
          clear H
          go_wp2
          go_meet
          case rel => exact ⟨_, (decide ((wrap64 (t189 - x1_15)) > 4)), (by rfl), (by exact H'), ⟨by have := HJ2.out; have := HJ8.out; have := HJ15.out; omega⟩, by repeat (first | exact z0o.refl _ | apply z0o.step)⟩
        clear HC23
        (try clear c1); (try clear p1); (try clear q1); (try clear hx1); (try clear c2); (try clear p2); (try clear q2); (try clear hx2); (try clear c4); (try clear c4b0); (try clear c5); (try clear c5b0); (try clear c6); (try clear c6b0); (try clear p6); (try clear p7); (try clear q7); (try clear hx7); (try clear c8); (try clear c10); (try clear c10b0); (try clear c12); (try clear c12b0); (try clear p13); (try clear q13); (try clear hx13); (try clear c14); (try clear c14b0); (try clear c14b1); (try clear c15); (try clear p15); (try clear q15); (try clear hx15); (try clear c17); (try clear c19); (try clear c19b0); (try clear c20); (try clear c20b0); (try clear p21); (try clear q21); (try clear hx21); (try clear c24); (try clear c24b0); (try clear c24b1); (try clear p1); (try clear p13); (try clear p15); (try clear p2); (try clear p21); (try clear p6); (try clear p7); (try clear q1); (try clear q13); (try clear q15); (try clear q2); (try clear q21); (try clear q7)
        obtain ⟨kq, x55_22, rfl, HA, HJ22, ⟨mc22, rfl⟩⟩ := hcut
        cases kq with
        | zero => exact absurd HA.out (by simp [z0c.j3])
        | succ kj22 =>
          have H := HA.out
          clear HA
          simp only [z0c.j3] at H
          by_cases c25 : x55_22 = true
          · subst c25
            have H1 : (some (0, (-1))) = some (r1, r2) := by rw [if_pos rfl] at H; exact H
            clear H
            have H := H1
            clear H1
            simp only [Option.some.injEq, Prod.mk.injEq] at H
            obtain ⟨rfl, rfl⟩ := H
            go_wp2
            go_ret2
            exact ⟨by rfl, by repeat (first | exact z0o.refl _ | apply z0o.step)⟩
          replace c25 := Bool.eq_false_iff.mpr c25
          subst c25
          have H1 : (z0c.l0 kj22 a0 x1_15 x6_15 t189 0) = some (r1, r2) := by rw [if_neg (show ¬ (false = true) by decide)] at H; exact H
          clear H
          have H := H1
          clear H1
          have H' := y9.mk H
          clear H
          go_wp2
          go_loopg [1, 8] kj22 (fun kq v1 v8 w' => ∃ (x1_5 : Int) (x8_5 : Int), v1 = .int .i64 x1_5 ∧ v8 = .int .i64 x8_5 ∧ y9 (z0c.l0 kq a0 x1_5 x6_15 t189 x8_5 = some (r1, r2)) ∧ y9 (kq ≤ kj22) ∧ z0o w w')
          case atStart => exact ⟨(x1_15), (0), (by rfl), (by rfl), H', ⟨Nat.le_refl _⟩, by repeat (first | exact z0o.refl _ | apply z0o.step)⟩
          case round =>
            clear H'
            (try clear c1); (try clear p1); (try clear q1); (try clear hx1); (try clear c2); (try clear p2); (try clear q2); (try clear hx2); (try clear c4); (try clear c4b0); (try clear c5); (try clear c5b0); (try clear c6); (try clear c6b0); (try clear p6); (try clear p7); (try clear q7); (try clear hx7); (try clear c8); (try clear c10); (try clear c10b0); (try clear c12); (try clear c12b0); (try clear p13); (try clear q13); (try clear hx13); (try clear c14); (try clear c14b0); (try clear c14b1); (try clear c15); (try clear p15); (try clear q15); (try clear hx15); (try clear c17); (try clear c19); (try clear c19b0); (try clear c20); (try clear c20b0); (try clear p21); (try clear q21); (try clear hx21); (try clear c22); (try clear c24); (try clear c24b0); (try clear c24b1); (try clear c25); (try clear p1); (try clear p13); (try clear p15); (try clear p2); (try clear p21); (try clear p6); (try clear p7); (try clear q1); (try clear q13); (try clear q15); (try clear q2); (try clear q21); (try clear q7)
            obtain ⟨x1_5, x8_5, rfl, rfl, HA, HK5, ⟨m5, rfl⟩⟩ := hrel
            cases gk with
            | zero => exact absurd HA.out (by simp [z0c.l0])
            | succ k5 =>
              have H := HA.out
              clear HA
              simp only [z0c.l0] at H
              by_cases c26 : x1_5 < t189
              · rw [if_pos c26] at H
                have c26b0 : decide (x1_5 < t189) = true := decide_eq_true c26
                clear c26
                by_cases c27 : 0 ≤ x1_5
                · rw [if_pos c27] at H
                  have c27b0 : decide (0 ≤ x1_5) = true := decide_eq_true c27
                  clear c27
                  by_cases c28 : x1_5 < (a0.size : Int)
                  · rw [if_pos c28] at H
                    have c28b0 : decide (x1_5 < (a0.size : Int)) = true := decide_eq_true c28
                    clear c28
                    have H' := y9.mk H
                    clear H
                    have p29 : 0 ≤ (x1_5 : Int) := of_decide_eq_true (by (with_reducible assumption))
                    have q29 : x1_5 < (a0.size : Int) := of_decide_eq_true (by (with_reducible assumption))
                    have hx29 := z4f a0 x1_5
                    replace p29 := eq_true p29
                    replace q29 := eq_true q29
                    go_wp2
                    go_roundg k5
                    case measure => have := HJ2.out; have := HJ8.out; have := HJ15.out; have := HJ22.out; have := HK5.out; omega
                    case rel => exact ⟨(wrap64 (x1_5 + 1)), (wrap64 ((wrap64 (10 * x8_5)) + (((bt a0 x1_5) - 48) % 256))), (by rfl), (by rfl), H', ⟨by have := HJ2.out; have := HJ8.out; have := HJ15.out; have := HJ22.out; have := HK5.out; omega⟩, by repeat (first | exact z0o.refl _ | apply z0o.step)⟩
                  rw [if_neg c28] at H
                  exact absurd H (by simp)
                rw [if_neg c27] at H
                exact absurd H (by simp)
              rw [if_neg c26] at H
              have c26b0 : decide (x1_5 < t189) = false := decide_eq_false c26
              clear c26
              by_cases c30 : x6_15 = true
              · subst c30
                have H1 : (some (wrap64 (-x8_5), x1_5)) = some (r1, r2) := by rw [if_pos rfl] at H; exact H
                clear H
                have H := H1
                clear H1
                simp only [Option.some.injEq, Prod.mk.injEq] at H
                obtain ⟨rfl, rfl⟩ := H
                go_wp2
                go_ret2
                exact ⟨by rfl, by repeat (first | exact z0o.refl _ | apply z0o.step)⟩
              replace c30 := Bool.eq_false_iff.mpr c30
              subst c30
              have H1 : (some (x8_5, x1_5)) = some (r1, r2) := by rw [if_neg (show ¬ (false = true) by decide)] at H; exact H
              clear H
              have H := H1
              clear H1
              simp only [Option.some.injEq, Prod.mk.injEq] at H
              obtain ⟨rfl, rfl⟩ := H
              go_wp2
              go_ret2
              exact ⟨by rfl, by repeat (first | exact z0o.refl _ | apply z0o.step)⟩
def z1e.l0 : Nat → Int → List Int → Int → Option (List Int)
  | 0, _, _, _ => none
  | k + 1, x0, x3, x4 => if x4 < x0 then ((z0h.f k x3 (([10] : List Int))).bind fun t196 => (z1e.l0 k x0 t196 (wrap64 (x4 + 1)))) else (some x3)
def z1e.f (k : Nat) (a0 : Int) : Option (List Int) := z1e.l0 k a0 (([1] : List Int)) 0
set_option maxHeartbeats 8000000 in
set_option maxRecDepth 100000 in
theorem z1e.calls (k : Nat) (a0 : Int) (r : List Int) (w : World) (h : z1e.f k a0 = some r) :
    Calls Tryz.prog 36 #[.int .i64 a0] w fun e w' => ∃ v0_ : Value, e = .returned (v0_) ∧ Kd.R (Kd.int .u64) 26 w' w.heap.size (fun _ => True) v0_ r ∧ Below w.heap.size w w' := by
  have HB := y9.mk (Below.refl w.heap.size w)
  have H : (z1e.l0 k a0 (([1] : List Int)) 0) = some r := h
  clear h
  obtain ⟨y190, hy190⟩ : ∃ y_ : List Int, y_ = (([1] : List Int)) := ⟨_, rfl⟩
  replace H : (z1e.l0 k a0 y190 0) = some r := by (rw [hy190]; with_reducible exact H)
  have Ny190 := y9.mk hy190
  clear hy190
  have H' := y9.mk H
  clear H
  go_enter Tryz.func36, Tryz.ntmps36
  go_wp2_with (((with_reducible refine z1s (N := 5) rfl ?_); refine Kd.R_lit (Kd.int .u64) _ 26 ?hg (N := 5) ?hd (xs := ([1] : List Int)) (inner := [.int .u64 1]) (ok := fun _ => True) (okp := fun _ => True) ?hr ?hp (fun _ hk => hk) trivial (Below.refl _ _) (Nat.le_refl _) (by simp) ?_; (case hd => rfl); (case hg => rfl); (case hr => (go_simp; done)); (case hp => exact (Reps.one (show Kd.M (Kd.int .u64) _ _ _ 1 [.int .u64 1] from rfl) (Reps.none _ _))); intro v191 w2 ho3 hb hg_ hnew_; clear hg_ hnew_; (rw [← Ny190.out] at ho3); have n0_ := y9.mk (Kd.z1j ho3 (z0n (by repeat ((with_reducible exact HB.out))))); have n1_ := y9.mk (z0m (by repeat ((with_reducible exact HB.out))) hb); clear HB; have HO192 := n0_; have HB := n1_; clear n0_ n1_; clear hb ho3))
  go_loopg [3, 4] k (fun kq v3 v4 w' => ∃ (x3_1 : List Int) (x4_1 : Int), v4 = .int .i64 x4_1 ∧ y9 (z1e.l0 kq a0 x3_1 x4_1 = some r) ∧ y9 (kq ≤ k) ∧ y9 (Kd.R (Kd.int .u64) 26 w' w.heap.size (fun _ => True) v3 x3_1) ∧ y9 (Below w.heap.size w w'))
  case atStart => exact ⟨(y190), (0), (by rfl), H', ⟨Nat.le_refl _⟩, ⟨by (with_reducible repeat (fail)); exact HO192.out⟩, ⟨by repeat ((with_reducible exact HB.out))⟩⟩
  case round =>
    clear H'
    (try clear p2); (try clear c3)
    obtain ⟨x3_1, x4_1, rfl, HA, HK1, HO_3, HB⟩ := hrel
    cases gk with
    | zero => exact absurd HA.out (by simp [z1e.l0])
    | succ k1 =>
      have H := HA.out
      clear HA
      simp only [z1e.l0] at H
      by_cases c4 : x4_1 < a0
      · rw [if_pos c4] at H
        have c4b0 : decide (x4_1 < a0) = true := decide_eq_true c4
        clear c4
        obtain ⟨y193, hy193⟩ : ∃ y_ : List Int, y_ = (([10] : List Int)) := ⟨_, rfl⟩
        replace H : ((z0h.f k1 x3_1 y193).bind fun t196 => (z1e.l0 k1 a0 t196 (wrap64 (x4_1 + 1)))) = some r := by (rw [hy193]; with_reducible exact H)
        have Ny193 := y9.mk hy193
        clear hy193
        replace H := Option.bind_eq_some_iff.mp H
        obtain ⟨t196, A50, H⟩ := H
        have A5 := y9.mk A50
        clear A50
        have H' := y9.mk H
        clear H
        go_wp2_with (first | ((with_reducible refine z1s (N := 12) rfl ?_); refine Kd.R_lit (Kd.int .u64) _ 26 ?hg (N := 12) ?hd (xs := ([10] : List Int)) (inner := [.int .u64 10]) (ok := fun _ => True) (okp := fun _ => True) ?hr ?hp (fun _ hk => hk) trivial (Below.refl _ _) (Nat.le_refl _) (by simp) ?_; (case hd => rfl); (case hg => rfl); (case hr => (go_simp; done)); (case hp => exact (Reps.one (show Kd.M (Kd.int .u64) _ _ _ 10 [.int .u64 10] from rfl) (Reps.none _ _))); intro v194 w6 ho7 hb hg_ hnew_; clear hg_ hnew_; (rw [← Ny193.out] at ho7); have n0_ := y9.mk (Kd.z1o (by (with_reducible repeat (fail)); exact HO_3.out) (Kd.z2g ho7) hb); have n1_ := y9.mk (Kd.z1j (Kd.z2f ho7 (Kd.R_lt (by (with_reducible repeat (fail)); exact HO_3.out))) (z0n (by repeat ((with_reducible exact HB.out))))); have n2_ := y9.mk (z0m (by repeat ((with_reducible exact HB.out))) hb); clear HO_3; clear HB; have HO_3 := n0_; have HO195 := n1_; have HB := n2_; clear n0_ n1_ n2_; clear hb ho7; obtain ⟨Ao8, co8, eo8⟩ := Kd.z1g HO_3.out; subst eo8; obtain ⟨Ao9, co9, eo9⟩ := Kd.z1g HO195.out; subst eo9) | ((with_reducible refine z0y (f := 35) rfl ?_); refine z1p (some 13) rfl rfl Tryz.func35 (by kernel_rfl) rfl #[.slice Ao8 x3_1.length co8, .slice Ao9 y193.length co9] rfl (by (try simp only [List.map_toArray, List.map_cons, List.map_nil]); rfl) ?_; (with_reducible refine (z0h.calls k1 _ _ x3_1 _ _ y193 t196 _ ?side1 ?side2 ?side3 ?side4 A5.out).mono ?_); (case side1 => repeat (exact (Kd.z0q HO_3.out).2.2)); (case side2 => exact (Kd.z0q HO_3.out).2.1); (case side3 => repeat (exact (Kd.z0q HO195.out).2.2)); (case side4 => exact (Kd.z0q HO195.out).2.1); rintro e w10 ⟨v197, rfl, ho0, hb⟩; refine ⟨_, rfl, ?_⟩; have n0_ := y9.mk (Kd.z1o (by (with_reducible repeat (fail)); exact HO_3.out) (Kd.z2g ho0) hb); have n1_ := y9.mk (Kd.z1o (by (with_reducible repeat (fail)); exact HO195.out) (Kd.z2g ho0) hb); have n2_ := y9.mk (Kd.z1j (Kd.z2f (Kd.z2f ho0 (Kd.R_lt (by (with_reducible repeat (fail)); exact HO_3.out))) (Kd.R_lt (by (with_reducible repeat (fail)); exact HO195.out))) (z0n (by repeat ((with_reducible exact HB.out))))); have n3_ := y9.mk (z0m (by repeat ((with_reducible exact HB.out))) hb); clear HO_3; clear HO195; clear HB; have HO_3 := n0_; have HO195 := n1_; have HO198 := n2_; have HB := n3_; clear n0_ n1_ n2_ n3_; (try clear hb); (try clear hb2); (try clear hk); (try clear hi); (try clear ho0)))
        go_roundg k1
        case measure => have := HK1.out; omega
        case rel => exact ⟨(t196), (wrap64 (x4_1 + 1)), (by rfl), H', ⟨by have := HK1.out; omega⟩, ⟨by (with_reducible repeat (fail)); exact Kd.z2l HO198.out (fun _ hk => trivial)⟩, ⟨by repeat ((with_reducible exact HB.out))⟩⟩
      rw [if_neg c4] at H
      have c4b0 : decide (x4_1 < a0) = false := decide_eq_false c4
      clear c4
      obtain rfl := Option.some.inj H
      go_wp2
      go_ret
      exact ⟨_, by rfl, by (with_reducible repeat (fail)); exact HO_3.out, by repeat ((with_reducible exact HB.out))⟩
def z3d.f (a0 : Int) : Option (Int) := some (Go.bits .xor .u64 a0 9223372036854775808)
set_option maxHeartbeats 8000000 in
set_option maxRecDepth 100000 in
theorem z3d.calls (a0 : Int) (r : Int) (w : World) (h : z3d.f a0 = some r) :
    Calls Tryz.prog 58 #[.int .u64 a0] w fun e w' => e = .returned (.int .u64 r) ∧ z0o w w' := by
  have H : (some (Go.bits .xor .u64 a0 9223372036854775808)) = some r := h
  clear h
  obtain rfl := Option.some.inj H
  go_enter Tryz.func58, Tryz.ntmps58
  go_wp2
  go_ret
  exact ⟨by rfl, by repeat (exact z0o.refl _)⟩
end Go.Proofs.YtjpiplplohapnaaGreatDoor.PText
namespace Go.Proofs.YtjpiplplohapnaaGreatDoor.Nr
def V (r : Nat) : Nat := if r < 4503599627370496 then r else (4503599627370496 + r % 4503599627370496) * 2 ^ (r / 4503599627370496 - 1)
theorem z6g (l n : Nat) (h : (4503599627370496 ≤ n ∧ n ≤ 9007199254740992) ∨ (l = 0 ∧ n ≤ 9007199254740992)) : V (l * 4503599627370496 + n) = n * 2 ^ l := by
  unfold V
  by_cases h1 : l * 4503599627370496 + n < 4503599627370496
  · rw [if_pos h1]
    have h0 : l = 0 := by omega
    subst h0; simp
  rw [if_neg h1]
  rcases Nat.lt_or_ge n 9007199254740992 with h2 | h2
  · have a : (l * 4503599627370496 + n) / 4503599627370496 = l + 1 := by omega
    have b : (l * 4503599627370496 + n) % 4503599627370496 = n - 4503599627370496 := by omega
    have c : l + 1 - 1 = l := by omega
    have d : 4503599627370496 + (n - 4503599627370496) = n := by omega
    rw [a, b, c, d]
  have e : n = 9007199254740992 := by omega
  subst e
  have a : (l * 4503599627370496 + 9007199254740992) / 4503599627370496 = l + 2 := by omega
  have b : (l * 4503599627370496 + 9007199254740992) % 4503599627370496 = 0 := by omega
  have c : l + 2 - 1 = l + 1 := by omega
  rw [a, b, c]
  have hp : 2 ^ (l + 1) = 2 ^ l * 2 := Nat.pow_succ ..
  generalize 2 ^ (l + 1) = x at *
  generalize 2 ^ l = y at *
  omega
theorem form (r : Nat) : ∃ l n, r = l * 4503599627370496 + n ∧ ((4503599627370496 ≤ n ∧ n < 9007199254740992) ∨ (l = 0 ∧ n < 9007199254740992)) := by
  by_cases h : r < 4503599627370496
  · exact ⟨0, r, by omega, Or.inr ⟨rfl, by omega⟩⟩
  exact ⟨r / 4503599627370496 - 1, r - (r / 4503599627370496 - 1) * 4503599627370496, by omega, Or.inl ⟨by omega, by omega⟩⟩
theorem V_step (r : Nat) : V r < V (r + 1) := by
  obtain ⟨l, n, rfl, h⟩ := form r
  rw [Nat.add_assoc, z6g l n (by omega), z6g l (n + 1) (by omega), Nat.add_mul]
  have := Nat.pow_pos (a := 2) (n := l) (by decide)
  omega
theorem V_mono {a b : Nat} (h : a ≤ b) : V a ≤ V b := by
  induction h with
  | refl => exact Nat.le_refl _
  | step _ ih => exact Nat.le_trans ih (Nat.le_of_lt (V_step _))
theorem V_lt {a b : Nat} (h : a < b) : V a < V b := Nat.lt_of_lt_of_le (V_step a) (V_mono h)
def Near (N D r : Nat) : Prop :=
  (∀ q, r = q + 1 → (V q + V r) * D ≤ 2 * N ∧ ((V q + V r) * D = 2 * N → r % 2 = 0)) ∧
  (2 * N ≤ (V r + V (r + 1)) * D ∧ (2 * N = (V r + V (r + 1)) * D → r % 2 = 0))
theorem z4n {N D N' D' r r' : Nat} (hD : 0 < D) (hD' : 0 < D') (h : N * D' ≤ N' * D) (h1 : Near N D r) (h2 : Near N' D' r') : r ≤ r' := by
  rcases Nat.lt_or_ge r' r with hlt | hge
  · exfalso
    obtain ⟨q, rfl⟩ : ∃ q, r = q + 1 := ⟨r - 1, by omega⟩
    obtain ⟨a1, a2⟩ := h1.1 q rfl
    obtain ⟨b1, b2⟩ := h2.2
    have hv : V r' + V (r' + 1) ≤ V q + V (q + 1) := Nat.add_le_add (V_mono (by omega)) (V_mono (by omega))
    have hp : 0 < D * D' := Nat.mul_pos hD hD'
    have c1 := Nat.mul_le_mul_right D' a1
    have c2 := Nat.mul_le_mul_right D b1
    have c3 := Nat.mul_le_mul_right (D * D') hv
    rw [Nat.mul_assoc] at c1
    rw [Nat.mul_assoc _ D' D, Nat.mul_comm D' D] at c2
    have e1 : 2 * N * D' = 2 * (N * D') := Nat.mul_assoc _ _ _
    have e2 : 2 * N' * D = 2 * (N' * D) := Nat.mul_assoc _ _ _
    have eq : (V r' + V (r' + 1)) * (D * D') = (V q + V (q + 1)) * (D * D') := by omega
    have eqv := Nat.eq_of_mul_eq_mul_right hp eq
    have hq : r' = q := by
      rcases Nat.lt_or_ge r' q with h3 | h3
      · have := V_lt h3
        have := V_lt (show r' + 1 < q + 1 by omega)
        omega
      omega
    subst hq
    have f1 : (V r' + V (r' + 1)) * D = 2 * N := by
      apply Nat.eq_of_mul_eq_mul_right hD'
      rw [Nat.mul_assoc]; omega
    have f2 : 2 * N' = (V r' + V (r' + 1)) * D' := by
      apply Nat.eq_of_mul_eq_mul_right hD
      rw [Nat.mul_assoc _ D' D, Nat.mul_comm D' D]; omega
    have g1 := a2 f1
    have g2 := b2 f2
    omega
  exact hge
theorem z5a {N D N' D' r r' : Nat} (hD : 0 < D) (hD' : 0 < D') (h : N * D' = N' * D) (h1 : Near N D r) (h2 : Near N' D' r') : r = r' :=
  Nat.le_antisymm (z4n hD hD' (Nat.le_of_eq h) h1 h2) (z4n hD' hD (Nat.le_of_eq h.symm) h2 h1)
def Rhe (A Q n : Nat) : Prop := 2 * A ≤ (2 * n + 1) * Q ∧ 2 * n * Q ≤ 2 * A + Q ∧ (2 * A = (2 * n + 1) * Q → n % 2 = 0) ∧ (2 * n * Q = 2 * A + Q → n % 2 = 0)
theorem rhe_scale {A Q n : Nat} (k : Nat) (hk : 0 < k) (h : Rhe (A * k) (Q * k) n) : Rhe A Q n := by
  obtain ⟨h1, h2, h3, h4⟩ := h
  have e1 : 2 * (A * k) = (2 * A) * k := by rw [Nat.mul_assoc]
  have e2 : (2 * n + 1) * (Q * k) = ((2 * n + 1) * Q) * k := by rw [Nat.mul_assoc]
  have e3 : 2 * n * (Q * k) = (2 * n * Q) * k := (Nat.mul_assoc _ _ _).symm
  have e4 : 2 * (A * k) + Q * k = (2 * A + Q) * k := by rw [Nat.add_mul, e1]
  rw [e1, e2] at h1 h3
  rw [e3, e4] at h2 h4
  exact ⟨Nat.le_of_mul_le_mul_right h1 hk, Nat.le_of_mul_le_mul_right h2 hk, fun h => h3 (by rw [h]), fun h => h4 (by rw [h])⟩
theorem z5n {A Q n : Nat} (k : Nat) (hk : 0 < k) (h : Rhe A Q n) : Rhe (A * k) (Q * k) n := by
  obtain ⟨h1, h2, h3, h4⟩ := h
  have e1 : 2 * (A * k) = (2 * A) * k := by rw [Nat.mul_assoc]
  have e2 : (2 * n + 1) * (Q * k) = ((2 * n + 1) * Q) * k := by rw [Nat.mul_assoc]
  have e3 : 2 * n * (Q * k) = (2 * n * Q) * k := (Nat.mul_assoc _ _ _).symm
  have e4 : 2 * (A * k) + Q * k = (2 * A + Q) * k := by rw [Nat.add_mul, e1]
  unfold Rhe
  rw [e1, e2, e3, ← e1, e4, e1]
  exact ⟨Nat.mul_le_mul_right _ h1, Nat.mul_le_mul_right _ h2, fun h => h3 (Nat.eq_of_mul_eq_mul_right hk h), fun h => h4 (Nat.eq_of_mul_eq_mul_right hk h)⟩
theorem z3h {N D l n : Nat} (hD : 0 < D) (h : Rhe N (D * 2 ^ l) n)
    (hf : (4503599627370496 ≤ n ∧ n ≤ 9007199254740992 ∧ (l ≠ 0 → 4503599627370496 * (D * 2 ^ l) ≤ N)) ∨ (l = 0 ∧ n ≤ 9007199254740992)) : Near N D (l * 4503599627370496 + n) := by
  obtain ⟨h1, h2, h3, h4⟩ := h
  have hp : 0 < 2 ^ l := Nat.pow_pos (by decide)
  have hV : V (l * 4503599627370496 + n) = n * 2 ^ l := z6g l n (by omega)
  have hDl : 0 < D * 2 ^ l := Nat.mul_pos hD hp
  have par : (l * 4503599627370496 + n) % 2 = n % 2 := by omega
  refine ⟨fun q hq => ?_, ?_⟩
  · rw [hV, par]
    by_cases hn : n ≤ 4503599627370496 ∧ l ≠ 0
    · have hn' : n = 4503599627370496 := by omega
      have hN : 4503599627370496 * (D * 2 ^ l) ≤ N := by
        rcases hf with h | h
        · exact h.2.2 hn.2
        omega
      have hq' : V q < V (q + 1) := V_step q
      rw [← hq, hV] at hq'
      have e : (V q + n * 2 ^ l) * D < 2 * N := by
        have a : (V q + n * 2 ^ l) * D < (n * 2 ^ l + n * 2 ^ l) * D := Nat.mul_lt_mul_of_pos_right (by omega) hD
        have b : (n * 2 ^ l + n * 2 ^ l) * D = 2 * (n * (D * 2 ^ l)) := by
          rw [← Nat.two_mul, Nat.mul_assoc, Nat.mul_assoc, Nat.mul_comm (2 ^ l) D]
        rw [hn'] at b a ⊢
        omega
      exact ⟨Nat.le_of_lt e, fun h => absurd h (by omega)⟩
    have hn1 : 1 ≤ n := by
      rcases hf with h | h
      · omega
      have := h.1; subst this; omega
    have hVq : V q = (n - 1) * 2 ^ l := by
      have : q = l * 4503599627370496 + (n - 1) := by omega
      rw [this]; exact z6g l (n - 1) (by omega)
    have e : (V q + n * 2 ^ l) * D + D * 2 ^ l = 2 * n * (D * 2 ^ l) := by
      rw [hVq]
      have : (n - 1) * 2 ^ l + n * 2 ^ l + 2 ^ l = 2 * n * 2 ^ l := by
        rw [← Nat.add_mul, ← Nat.succ_mul]; congr 1; omega
      rw [Nat.mul_comm D (2 ^ l), ← Nat.mul_assoc, ← this, Nat.add_mul, Nat.add_mul, Nat.add_mul]
    exact ⟨by omega, fun h => h4 (by omega)⟩
  rw [par]
  have hV1 : V (l * 4503599627370496 + n) + 2 ^ l ≤ V (l * 4503599627370496 + n + 1) ∧ (n < 9007199254740992 → V (l * 4503599627370496 + n + 1) = V (l * 4503599627370496 + n) + 2 ^ l) := by
    rw [hV]
    rcases Nat.lt_or_ge n 9007199254740992 with h5 | h5
    · rw [Nat.add_assoc, z6g l (n + 1) (by omega), Nat.add_mul, Nat.one_mul]
      exact ⟨Nat.le_refl _, fun _ => rfl⟩
    have hn : n = 9007199254740992 := by omega
    subst hn
    have : l * 4503599627370496 + 9007199254740992 + 1 = (l + 1) * 4503599627370496 + 4503599627370497 := by omega
    rw [this, z6g (l + 1) 4503599627370497 (by omega), Nat.pow_succ]
    exact ⟨by omega, fun h => absurd h (by omega)⟩
  have e : (2 * n + 1) * (D * 2 ^ l) ≤ (V (l * 4503599627370496 + n) + V (l * 4503599627370496 + n + 1)) * D := by
    have a : (2 * n + 1) * (D * 2 ^ l) = (n * 2 ^ l + (n * 2 ^ l + 2 ^ l)) * D := by
      rw [Nat.mul_comm D, ← Nat.mul_assoc]
      congr 1
      rw [Nat.add_mul, Nat.two_mul, Nat.add_mul, Nat.one_mul]; omega
    rw [a, hV]
    rw [hV] at hV1
    exact Nat.mul_le_mul_right _ (by omega)
  refine ⟨by omega, fun h => ?_⟩
  exact h3 (by omega)
theorem z3p {N D r : Nat} (hD : 0 < D) (h : N = V r * D) : Near N D r := by
  refine ⟨fun q hq => ?_, ?_⟩
  · have := V_step q
    rw [← hq] at this
    have e : (V q + V r) * D < 2 * N := by
      rw [h, ← Nat.mul_assoc]; exact Nat.mul_lt_mul_of_pos_right (by omega) hD
    exact ⟨Nat.le_of_lt e, fun h => absurd h (by omega)⟩
  have := V_step r
  have e : 2 * N < (V r + V (r + 1)) * D := by
    rw [h, ← Nat.mul_assoc]; exact Nat.mul_lt_mul_of_pos_right (by omega) hD
  exact ⟨Nat.le_of_lt e, fun h => absurd h (by omega)⟩
end Go.Proofs.YtjpiplplohapnaaGreatDoor.Nr
namespace Go.Proofs.YtjpiplplohapnaaGreatDoor.Nr
theorem z7q {A Q A' Q' n : Nat} (hQ : 0 < Q) (hQ' : 0 < Q') (h : A * Q' = A' * Q) (h1 : Rhe A Q n) : Rhe A' Q' n := by
  have h2 := z5n Q' hQ' h1
  rw [h, Nat.mul_comm Q Q'] at h2
  exact rhe_scale Q hQ h2
theorem cut_rhe (ng : Bool) (n drop : Nat) : Rhe n (2 ^ drop) (Ieee.Toward.even.cut ng n drop) := by
  unfold Ieee.Toward.cut
  dsimp only
  rw [Nat.shiftLeft_eq, Nat.one_mul]
  by_cases h : drop ≤ n.log2 + 2
  · rw [Nat.min_eq_left h]
    have hg : 0 < 2 ^ drop := Nat.pow_pos (by decide)
    generalize 2 ^ drop = g at *
    have hdm := Nat.div_add_mod n g
    have hm := Nat.mod_lt n hg
    generalize n / g = q at *
    generalize n % g = r at *
    have e1 : (2 * q + 1) * g = 2 * (g * q) + g := by rw [Nat.add_mul, Nat.one_mul, Nat.mul_assoc, Nat.mul_comm q g]
    have e2 : 2 * q * g = 2 * (g * q) := by rw [Nat.mul_assoc, Nat.mul_comm q g]
    have e3 : (2 * (q + 1) + 1) * g = 2 * (g * q) + 3 * g := by rw [show 2 * (q + 1) + 1 = 2 * q + 3 by omega, Nat.add_mul, e2]
    have e4 : 2 * (q + 1) * g = 2 * (g * q) + 2 * g := by rw [show 2 * (q + 1) = 2 * q + 2 by omega, Nat.add_mul, e2]
    unfold Rhe
    by_cases c1 : g < 2 * r
    · rw [decide_eq_true c1]
      show _ ≤ (2 * (q + 1) + 1) * g ∧ _
      rw [Bool.true_or]
      show _ ≤ (2 * (q + 1) + 1) * g ∧ 2 * (q + 1) * g ≤ _ ∧ (_ = (2 * (q + 1) + 1) * g → (q + 1) % 2 = 0) ∧ (2 * (q + 1) * g = _ → (q + 1) % 2 = 0)
      rw [e3, e4]
      exact ⟨by omega, by omega, fun h => by omega, fun h => by omega⟩
    rw [decide_eq_false c1, Bool.false_or]
    by_cases c2 : g = 2 * r ∧ q % 2 = 1
    · have : (g == 2 * r && q % 2 == 1) = true := by simp [c2.1.symm, c2.2]
      rw [this]
      show _ ≤ (2 * (q + 1) + 1) * g ∧ 2 * (q + 1) * g ≤ _ ∧ (_ = (2 * (q + 1) + 1) * g → (q + 1) % 2 = 0) ∧ (2 * (q + 1) * g = _ → (q + 1) % 2 = 0)
      rw [e3, e4]
      exact ⟨by omega, by omega, fun h => by omega, fun h => by omega⟩
    have : (g == 2 * r && q % 2 == 1) = false := by
      rw [Bool.eq_false_iff]
      intro hh
      simp at hh
      exact c2 hh
    rw [this]
    show _ ≤ (2 * (q + 0) + 1) * g ∧ 2 * (q + 0) * g ≤ _ ∧ (_ = (2 * (q + 0) + 1) * g → (q + 0) % 2 = 0) ∧ (2 * (q + 0) * g = _ → (q + 0) % 2 = 0)
    simp only [Nat.add_zero]
    rw [e1, e2]
    exact ⟨by omega, by omega, fun h => by omega, fun h => by omega⟩
  rw [Nat.min_eq_right (by omega)]
  have hn : 2 * n < 2 ^ (n.log2 + 2) := by
    by_cases h0 : n = 0
    · subst h0; exact Nat.pow_pos (by decide)
    have h1 : n < 2 ^ (n.log2 + 1) := Nat.lt_log2_self
    have e : 2 ^ (n.log2 + 2) = 2 ^ (n.log2 + 1) * 2 := Nat.pow_succ ..
    omega
  have hle : 2 ^ (n.log2 + 2) ≤ 2 ^ drop := Nat.pow_le_pow_right (by decide) (by omega)
  have d1 : n / 2 ^ (n.log2 + 2) = 0 := Nat.div_eq_of_lt (by omega)
  have d2 : n % 2 ^ (n.log2 + 2) = n := Nat.mod_eq_of_lt (by omega)
  rw [d1, d2, decide_eq_false (by omega), Bool.false_or]
  have d3 : (2 ^ (n.log2 + 2) == 2 * n && 0 % 2 == 1) = false := by simp
  rw [d3]
  show 2 * n ≤ (2 * (0 + 0) + 1) * 2 ^ drop ∧ 2 * (0 + 0) * 2 ^ drop ≤ 2 * n + 2 ^ drop ∧ (_ → (0 + 0) % 2 = 0) ∧ (_ → (0 + 0) % 2 = 0)
  exact ⟨by omega, by omega, fun _ => rfl, fun _ => rfl⟩
def uN (mag : Nat) (place : Int) : Nat := mag * 2 ^ (place + 1074).toNat
def uD (place : Int) : Nat := 2 ^ (-1074 - place).toNat
theorem uD_pos (place : Int) : 0 < uD place := Nat.pow_pos (by decide)
theorem rhe_le {A Q n k : Nat} (hQ : 0 < Q) (h : Rhe A Q n) (hk : A ≤ k * Q) : n ≤ k := by
  rcases Nat.lt_or_ge k n with h1 | h1
  · exfalso
    obtain ⟨-, h2, -, h4⟩ := h
    have a : 2 * (k + 1) * Q ≤ 2 * n * Q := Nat.mul_le_mul_right _ (by omega)
    have b : 2 * (k + 1) * Q = 2 * (k * Q) + 2 * Q := by rw [Nat.mul_assoc, Nat.add_mul, Nat.one_mul, Nat.mul_add]
    omega
  exact h1
theorem rhe_ge {A Q n k : Nat} (hQ : 0 < Q) (h : Rhe A Q n) (hk : k * Q ≤ A) : k ≤ n := by
  rcases Nat.lt_or_ge n k with h1 | h1
  · exfalso
    obtain ⟨h2, -, h4, -⟩ := h
    have a : (2 * n + 2) * Q ≤ 2 * k * Q := Nat.mul_le_mul_right _ (by omega)
    have b : (2 * n + 2) * Q = (2 * n + 1) * Q + Q := by rw [← Nat.succ_mul]
    have c : 2 * k * Q = 2 * (k * Q) := Nat.mul_assoc _ _ _
    omega
  exact h1
def rung (mag : Nat) (place : Int) : Nat :=
  if mag = 0 then 0 else
  let last := max (place + mag.log2 - 52) (-1074)
  (last + 1074).toNat * 4503599627370496 + Ieee.Toward.even.cut false (mag <<< (place - last).toNat) (last - place).toNat
theorem nearest_rung (ng : Bool) (mag : Nat) (place : Int) : Ieee.double.nearest ng mag place = Ieee.double.word ng (min (rung mag place) 9218868437227405312) := by
  unfold Ieee.Format.nearest rung
  by_cases h : mag = 0
  · rw [if_pos h, if_pos h]; rfl
  rw [if_neg h, if_neg h]
  have e1 : Ieee.double.leastPlace = -1074 := by decide
  have e2 : ((Ieee.double.fractionBits : Nat) : Int) = 52 := rfl
  have e3 : Ieee.double.binade = 4503599627370496 := by decide
  have e4 : Ieee.double.infRung = 9218868437227405312 := by decide
  dsimp only
  rw [e1, e2, e3, e4]
  rfl
theorem rung_near (mag : Nat) (place : Int) : Near (uN mag place) (uD place) (rung mag place) := by
  unfold rung
  by_cases h : mag = 0
  · rw [if_pos h]
    subst h
    refine z3p (uD_pos _) ?_
    unfold uN
    rw [Nat.zero_mul]
    have : V 0 = 0 := by unfold V; rw [if_pos (by decide)]
    rw [this, Nat.zero_mul]
  rw [if_neg h]
  dsimp only
  obtain ⟨last, hl⟩ : ∃ last, last = max (place + mag.log2 - 52) (-1074) := ⟨_, rfl⟩
  rw [← hl]
  have hc := cut_rhe false (mag <<< (place - last).toNat) (last - place).toNat
  generalize Ieee.Toward.even.cut false (mag <<< (place - last).toNat) (last - place).toNat = n at *
  rw [Nat.shiftLeft_eq] at hc
  have hlo := Nat.log2_self_le h
  have hhi : mag < 2 ^ (mag.log2 + 1) := Nat.lt_log2_self
  have hA : mag * 2 ^ (place - last).toNat ≤ 9007199254740992 * 2 ^ (last - place).toNat := by
    have p53 : 9007199254740992 = 2 ^ 53 := by decide
    rw [p53, ← Nat.pow_add]
    have : mag * 2 ^ (place - last).toNat ≤ 2 ^ (mag.log2 + 1) * 2 ^ (place - last).toNat := Nat.mul_le_mul_right _ (Nat.le_of_lt hhi)
    rw [← Nat.pow_add] at this
    exact Nat.le_trans this (Nat.pow_le_pow_right (by decide) (by omega))
  have hr : uN mag place * 2 ^ (last - place).toNat = mag * 2 ^ (place - last).toNat * (uD place * 2 ^ (last + 1074).toNat) := by
    unfold uN uD
    rw [← Nat.pow_add, Nat.mul_assoc, Nat.mul_assoc, ← Nat.pow_add, ← Nat.pow_add]
    congr 2; omega
  have hpb : 0 < 2 ^ (last - place).toNat := Nat.pow_pos (by decide)
  have hpd : 0 < uD place * 2 ^ (last + 1074).toNat := Nat.mul_pos (uD_pos _) (Nat.pow_pos (by decide))
  refine z3h (uD_pos _) (z7q hpb hpd hr.symm hc) ?_
  have hn53 := rhe_le hpb hc hA
  by_cases h0 : last = -1074
  · right; exact ⟨by omega, hn53⟩
  left
  have hB : 4503599627370496 * 2 ^ (last - place).toNat ≤ mag * 2 ^ (place - last).toNat := by
    have p52 : 4503599627370496 = 2 ^ 52 := by decide
    rw [p52, ← Nat.pow_add]
    have : 2 ^ mag.log2 * 2 ^ (place - last).toNat ≤ mag * 2 ^ (place - last).toNat := Nat.mul_le_mul_right _ hlo
    rw [← Nat.pow_add] at this
    exact Nat.le_trans (Nat.pow_le_pow_right (by decide) (by omega)) this
  refine ⟨rhe_ge hpb hc hB, hn53, fun _ => ?_⟩
  have a := Nat.mul_le_mul_right (uD place * 2 ^ (last + 1074).toNat) hB
  rw [← hr, Nat.mul_right_comm] at a
  exact Nat.le_of_mul_le_mul_right a hpb
end Go.Proofs.YtjpiplplohapnaaGreatDoor.Nr
namespace Go.Proofs.YtjpiplplohapnaaGreatDoor.Us
def unr (N D : Nat) : Nat := if N % D = 0 then N / D else N / D / 2 * 2 + 1
theorem unr_exact {N D q : Nat} (hD : 0 < D) (h : N = q * D) : unr N D = q := by
  unfold unr
  rw [h, Nat.mul_mod_left, if_pos rfl, Nat.mul_div_cancel _ hD]
theorem unr_between {N D q : Nat} (h1 : q * D < N) (h2 : N < (q + 1) * D) : unr N D = q / 2 * 2 + 1 := by
  have hd : N / D = q := Nat.div_eq_of_lt_le (Nat.le_of_lt h1) h2
  unfold unr
  rw [if_neg, hd]
  intro h
  have := Nat.div_add_mod N D
  rw [hd, h, Nat.mul_comm] at this
  omega
def usc (x hi lo s : Nat) : Nat :=
  let h := x * hi / 18446744073709551616
  let mid := x * hi % 18446744073709551616
  if h % 2 ^ s ≠ 0 then h / 2 ^ s / 2 * 2 + 1
  else
    let mid2 := x * lo / 18446744073709551616
    let h' := if mid < mid2 then h - 1 else h
    let r := if mid < mid2 then 18446744073709551616 + mid - mid2 else mid - mid2
    if 1 < r then h' / 2 ^ s / 2 * 2 + 1 else h' / 2 ^ s
structure RowOk (hi lo num den : Nat) : Prop where
  dpos : 0 < den
  small : lo < 18446744073709551616
  below : num + lo * den ≤ hi * 18446744073709551616 * den
  above : hi * 18446744073709551616 * den < num + lo * den + den
def Clean (x hi lo s num den : Nat) : Prop :=
  x * hi / 18446744073709551616 % 2 ^ s = 0 → x * lo / 18446744073709551616 ≤ x * hi % 18446744073709551616 → x * hi % 18446744073709551616 ≤ x * lo / 18446744073709551616 + 1 → x * num = x * hi / 18446744073709551616 * 340282366920938463463374607431768211456 * den
theorem usc_ok {x hi lo s num den : Nat} (hx : x < 18446744073709551616) (hx0 : 0 < x) (h : RowOk hi lo num den) (hc : Clean x hi lo s num den) : usc x hi lo s = unr (x * num) (den * (340282366920938463463374607431768211456 * 2 ^ s)) := by
  obtain ⟨hden, hlo, hb, ha⟩ := h
  unfold usc
  unfold Clean at hc
  have e1 := Nat.div_add_mod (x * hi) 18446744073709551616
  have m1 := Nat.mod_lt (x * hi) (show 0 < 18446744073709551616 by decide)
  have e2 := Nat.div_add_mod (x * lo) 18446744073709551616
  have m2 := Nat.mod_lt (x * lo) (show 0 < 18446744073709551616 by decide)
  have hxlo : x * lo ≤ (18446744073709551616 - 1) * (18446744073709551616 - 1) := Nat.mul_le_mul (by omega) (by omega)
  have hmid2 : x * lo / 18446744073709551616 ≤ 18446744073709551616 - 2 := by
    have : x * lo / 18446744073709551616 < 18446744073709551616 - 1 := by
      rw [Nat.div_lt_iff_lt_mul (by decide)]
      exact Nat.lt_of_le_of_lt hxlo (by decide)
    omega
  have hp : 0 < 2 ^ s := Nat.pow_pos (by decide)
  have B1 : x * num + (x * lo) * den ≤ (x * hi) * 18446744073709551616 * den := by
    have := Nat.mul_le_mul_left x hb
    rw [Nat.mul_add, ← Nat.mul_assoc x lo, ← Nat.mul_assoc x, ← Nat.mul_assoc x] at this
    exact this
  have B2 : (x * hi) * 18446744073709551616 * den < x * num + (x * lo) * den + x * den := by
    have := Nat.mul_lt_mul_of_pos_left ha hx0
    rw [Nat.mul_add, Nat.mul_add, ← Nat.mul_assoc x lo, ← Nat.mul_assoc x, ← Nat.mul_assoc x] at this
    exact this
  generalize x * num = R at *
  generalize x * hi = P at *
  generalize x * lo = Lo at *
  generalize P / 18446744073709551616 = hh at *
  generalize P % 18446744073709551616 = mid at *
  generalize Lo / 18446744073709551616 = mid2 at *
  generalize Lo % 18446744073709551616 = f at *
  dsimp only
  have key : ∀ a b : Nat, a ≤ b → a * den ≤ b * den := fun a b h => Nat.mul_le_mul_right _ h
  have k1 : R ≤ (hh * 340282366920938463463374607431768211456 + mid * 18446744073709551616) * den := by
    have : P * 18446744073709551616 = hh * 340282366920938463463374607431768211456 + mid * 18446744073709551616 := by rw [← e1]; omega
    rw [← this]; omega
  have k2 : (hh * 340282366920938463463374607431768211456 + mid * 18446744073709551616) * den < R + (Lo + x) * den := by
    have : P * 18446744073709551616 = hh * 340282366920938463463374607431768211456 + mid * 18446744073709551616 := by rw [← e1]; omega
    have hE := Nat.add_mul Lo x den
    have hP : P * 18446744073709551616 * den = (hh * 340282366920938463463374607431768211456 + mid * 18446744073709551616) * den := by rw [this]
    rw [← hP, hE, ← Nat.add_assoc]
    exact B2
  have between : ∀ q : Nat, q * (340282366920938463463374607431768211456 * 2 ^ s) * den < R → R < (q + 1) * (340282366920938463463374607431768211456 * 2 ^ s) * den → unr R (den * (340282366920938463463374607431768211456 * 2 ^ s)) = q / 2 * 2 + 1 := by
    intro q h1 h2
    refine unr_between ?_ ?_
    · rw [Nat.mul_comm den, ← Nat.mul_assoc]; exact h1
    rw [Nat.mul_comm den, ← Nat.mul_assoc]; exact h2
  by_cases c1 : hh % 2 ^ s = 0
  · rw [if_neg (by omega)]
    obtain ⟨q, hq⟩ : ∃ q, hh = q * 2 ^ s := ⟨hh / 2 ^ s, by have := Nat.div_add_mod hh (2 ^ s); rw [Nat.mul_comm]; omega⟩
    by_cases c2 : mid < mid2
    · rw [if_pos c2, if_pos c2, if_pos (by omega)]
      have hh1 : 1 ≤ hh := by
        rcases Nat.lt_or_ge 0 hh with h | h
        · exact h
        have : hh = 0 := by omega
        subst this
        exfalso
        have a1 : mid * 18446744073709551616 + 18446744073709551616 ≤ Lo := by omega
        have a2 : (mid * 18446744073709551616 + 18446744073709551616) * den ≤ Lo * den := key _ _ a1
        rw [Nat.add_mul] at a2
        have : 0 < 18446744073709551616 * den := Nat.mul_pos (by decide) hden
        rw [Nat.zero_mul, Nat.zero_add] at k1
        have : P * 18446744073709551616 * den = (mid * 18446744073709551616) * den := by
          have : P * 18446744073709551616 = mid * 18446744073709551616 := by rw [← e1]; omega
          rw [this]
        omega
      have hq1 : 1 ≤ q := by
        rcases Nat.lt_or_ge 0 q with h | h
        · exact h
        have : q = 0 := by omega
        subst this; omega
      have hd : (hh - 1) / 2 ^ s = q - 1 := by
        refine Nat.div_eq_of_lt_le ?_ ?_
        · have : (q - 1) * 2 ^ s + 2 ^ s = q * 2 ^ s := by rw [← Nat.succ_mul]; congr 1; omega
          omega
        have : (q - 1 + 1) * 2 ^ s = q * 2 ^ s := by congr 1; omega
        omega
      rw [hd]
      refine (between (q - 1) ?_ ?_).symm
      · have a1 : (q - 1) * (340282366920938463463374607431768211456 * 2 ^ s) + (Lo + x) ≤ hh * 340282366920938463463374607431768211456 + mid * 18446744073709551616 := by
          have b1 : (q - 1) * (340282366920938463463374607431768211456 * 2 ^ s) + 340282366920938463463374607431768211456 * 2 ^ s = hh * 340282366920938463463374607431768211456 := by
            rw [← Nat.succ_mul, hq, show (q - 1).succ = q by omega, Nat.mul_comm 340282366920938463463374607431768211456, Nat.mul_assoc]
          have b2 : 340282366920938463463374607431768211456 * 1 ≤ 340282366920938463463374607431768211456 * 2 ^ s := Nat.mul_le_mul_left _ hp
          omega
        have := key _ _ a1
        rw [Nat.add_mul] at this
        omega
      have a1 : hh * 340282366920938463463374607431768211456 + mid * 18446744073709551616 + 1 ≤ (q - 1 + 1) * (340282366920938463463374607431768211456 * 2 ^ s) + Lo := by
        have b1 : (q - 1 + 1) * (340282366920938463463374607431768211456 * 2 ^ s) = hh * 340282366920938463463374607431768211456 := by
          rw [hq, show q - 1 + 1 = q by omega, Nat.mul_comm 340282366920938463463374607431768211456, Nat.mul_assoc]
        omega
      have := key _ _ a1
      have hP : P * 18446744073709551616 * den = (hh * 340282366920938463463374607431768211456 + mid * 18446744073709551616) * den := by
        have : P * 18446744073709551616 = hh * 340282366920938463463374607431768211456 + mid * 18446744073709551616 := by rw [← e1]; omega
        rw [this]
      have e5 := Nat.succ_mul (hh * 340282366920938463463374607431768211456 + mid * 18446744073709551616) den
      have e6 := Nat.add_mul ((q - 1 + 1) * (340282366920938463463374607431768211456 * 2 ^ s)) Lo den
      rw [Nat.succ_eq_add_one] at e5
      omega
    rw [if_neg c2, if_neg c2]
    have hd : hh / 2 ^ s = q := by rw [hq, Nat.mul_div_cancel _ hp]
    by_cases c3 : 1 < mid - mid2
    · rw [if_pos c3, hd]
      refine (between q ?_ ?_).symm
      · have a1 : q * (340282366920938463463374607431768211456 * 2 ^ s) + (Lo + x) ≤ hh * 340282366920938463463374607431768211456 + mid * 18446744073709551616 := by
          have b1 : q * (340282366920938463463374607431768211456 * 2 ^ s) = hh * 340282366920938463463374607431768211456 := by rw [hq, Nat.mul_comm 340282366920938463463374607431768211456, Nat.mul_assoc]
          omega
        have := key _ _ a1
        rw [Nat.add_mul] at this
        omega
      have a1 : hh * 340282366920938463463374607431768211456 + mid * 18446744073709551616 + 1 ≤ (q + 1) * (340282366920938463463374607431768211456 * 2 ^ s) := by
        have b1 : q * (340282366920938463463374607431768211456 * 2 ^ s) = hh * 340282366920938463463374607431768211456 := by rw [hq, Nat.mul_comm 340282366920938463463374607431768211456, Nat.mul_assoc]
        have b2 : 340282366920938463463374607431768211456 * 1 ≤ 340282366920938463463374607431768211456 * 2 ^ s := Nat.mul_le_mul_left _ hp
        rw [Nat.add_mul]; omega
      have := key _ _ a1
      rw [Nat.add_mul] at this
      omega
    rw [if_neg c3, hd]
    have := hc c1 (by omega) (by omega)
    rw [unr_exact (q := q) (Nat.mul_pos hden (Nat.mul_pos (by decide) hp))]
    rw [this, hq, Nat.mul_comm den, ← Nat.mul_assoc, Nat.mul_assoc q, Nat.mul_comm (2 ^ s)]
  rw [if_pos c1]
  have hdm := Nat.div_add_mod hh (2 ^ s)
  have hml := Nat.mod_lt hh hp
  obtain ⟨q, hq⟩ : ∃ q, q = hh / 2 ^ s := ⟨_, rfl⟩
  rw [← hq] at hdm ⊢
  refine (between q ?_ ?_).symm
  · have a1 : q * (340282366920938463463374607431768211456 * 2 ^ s) + (Lo + x) ≤ hh * 340282366920938463463374607431768211456 + mid * 18446744073709551616 := by
      have b1 : q * (340282366920938463463374607431768211456 * 2 ^ s) = 2 ^ s * q * 340282366920938463463374607431768211456 := by
        rw [Nat.mul_comm 340282366920938463463374607431768211456, Nat.mul_comm (2 ^ s) q, Nat.mul_assoc]
      rw [b1]
      omega
    have := key _ _ a1
    rw [Nat.add_mul] at this
    omega
  have a1 : hh * 340282366920938463463374607431768211456 + mid * 18446744073709551616 + 1 ≤ (q + 1) * (340282366920938463463374607431768211456 * 2 ^ s) := by
    have b1 : q * (340282366920938463463374607431768211456 * 2 ^ s) = 2 ^ s * q * 340282366920938463463374607431768211456 := by
      rw [Nat.mul_comm 340282366920938463463374607431768211456, Nat.mul_comm (2 ^ s) q, Nat.mul_assoc]
    rw [Nat.add_mul, b1, Nat.one_mul, Nat.mul_comm 340282366920938463463374607431768211456 (2 ^ s)]
    have : (hh + 1) * 340282366920938463463374607431768211456 ≤ (2 ^ s * q + 2 ^ s) * 340282366920938463463374607431768211456 := Nat.mul_le_mul_right _ (by omega)
    rw [Nat.add_mul, Nat.add_mul] at this
    omega
  have := key _ _ a1
  rw [Nat.add_mul] at this
  omega
end Go.Proofs.YtjpiplplohapnaaGreatDoor.Us
namespace Go.Proofs.YtjpiplplohapnaaGreatDoor.Us
def lp (p : Int) : Int := p * 108853 / 32768
def num (p : Int) : Nat := 10 ^ p.toNat * 2 ^ (127 - lp p).toNat
def den (p : Int) : Nat := 10 ^ (-p).toNat * 2 ^ (lp p - 127).toNat
def seek (fuel q1 m1 a1 q2 m2 a2 : Nat) : Nat × Nat × Nat × Nat × Nat × Nat :=
  match fuel with
  | 0 => (q1, m1, a1, q2, m2, a2)
  | fuel + 1 =>
    if 18446744073709551616 ≤ q1 + q2 then (q1, m1, a1, q2, m2, a2)
    else if a2 < a1 then
      let k := if q2 = 0 then (a1 - 1) / a2 else min ((a1 - 1) / a2) ((18446744073709551615 - q1 - q2) / q2 + 1)
      seek fuel (q1 + k * q2) (m1 + k * m2) (a1 - k * a2) q2 m2 a2
    else
      let k := min ((a2 - 1) / a1) ((18446744073709551615 - q1 - q2) / q1 + 1)
      seek fuel q1 m1 a1 (q2 + k * q1) (m2 + k * m1) (a2 - k * a1)
structure Fence (pm q1 m1 a1 q2 m2 a2 : Nat) : Prop where
  one : a1 + m1 * 87112285931760246646623899502532662132736 = q1 * pm
  two : a2 + q2 * pm = m2 * 87112285931760246646623899502532662132736
  det : q1 * m2 = q2 * m1 + 1
  wide : 18446744073709551616 ≤ q1 + q2
  far1 : q1 ≠ 0 ∧ 18446744073709551616 < (9223372036854775808 + q1 - 1) / q1 * a1
  far2 : q2 ≠ 0 ∧ 18446744073709551616 ≤ (9223372036854775808 + q2 - 1) / q2 * a2
instance (pm q1 m1 a1 q2 m2 a2 : Nat) : Decidable (Fence pm q1 m1 a1 q2 m2 a2) :=
  decidable_of_iff (a1 + m1 * 87112285931760246646623899502532662132736 = q1 * pm ∧ a2 + q2 * pm = m2 * 87112285931760246646623899502532662132736 ∧ q1 * m2 = q2 * m1 + 1 ∧ 18446744073709551616 ≤ q1 + q2 ∧ (q1 ≠ 0 ∧ 18446744073709551616 < (9223372036854775808 + q1 - 1) / q1 * a1) ∧ (q2 ≠ 0 ∧ 18446744073709551616 ≤ (9223372036854775808 + q2 - 1) / q2 * a2))
    ⟨fun ⟨a, b, c, d, e, f⟩ => ⟨a, b, c, d, e, f⟩, fun ⟨a, b, c, d, e, f⟩ => ⟨a, b, c, d, e, f⟩⟩
def rowCheck (p : Int) (r : Nat × Nat) : Bool :=
  let n := num p
  let d := den p
  let pm := r.1 * 18446744073709551616
  decide (0 < d ∧ r.2 < 18446744073709551616 ∧ n + r.2 * d ≤ pm * d ∧ pm * d < n + r.2 * d + d ∧ 9223372036854775808 ≤ r.1 ∧ r.1 ≤ 18437736874454810624 ∧ 2 ^ 127 * d ≤ n)
def z5u (p : Int) (r : Nat × Nat) : Bool :=
  if -27 ≤ p ∧ p ≤ 27 then
    if 0 ≤ p then decide (r.2 = 0 ∧ r.1 % 2 = 0 ∧ num p = r.1 * 18446744073709551616 * den p)
    else decide (2 ^ 65 * den p ≤ 2 ^ (min (127 - lp p).toNat (136 + (-p).toNat)) ∧ lp p ≤ 127)
  else
    let pm := r.1 * 18446744073709551616 - r.2
    let t := seek 100 1 0 pm 0 1 87112285931760246646623899502532662132736
    decide (Fence pm t.1 t.2.1 t.2.2.1 t.2.2.2.1 t.2.2.2.2.1 t.2.2.2.2.2)
def allFrom (f : Int → Nat × Nat → Bool) : Int → List (Nat × Nat) → Bool
  | _, [] => true
  | p, r :: l => f p r && allFrom f (p + 1) l
theorem z6d (f : Int → Nat × Nat → Bool) : ∀ (l : List (Nat × Nat)) (p : Int), allFrom f p l = true → ∀ (i : Nat) (r : Nat × Nat), l[i]? = some r → f (p + i) r = true
  | [], _, _, i, r, h => by simp at h
  | x :: l, p, ha, i, r, h => by
    simp only [allFrom, Bool.and_eq_true] at ha
    cases i with
    | zero => simp at h; subst h; simpa using ha.1
    | succ i =>
      have := z6d f l (p + 1) ha.2 i r (by simpa using h)
      rw [show p + ((i + 1 : Nat) : Int) = p + 1 + (i : Int) by omega]
      exact this
set_option maxRecDepth 100000 in
theorem rows_ok : allFrom rowCheck (-348) Pinned.pow10Rows = true := by decide +kernel
set_option maxRecDepth 100000 in
theorem fences_ok : allFrom z5u (-348) Pinned.pow10Rows = true := by decide +kernel
theorem row_ok {i : Nat} {r : Nat × Nat} (h : Pinned.pow10Rows[i]? = some r) : RowOk r.1 r.2 (num ((i : Int) - 348)) (den ((i : Int) - 348)) ∧ 9223372036854775808 ≤ r.1 ∧ r.1 ≤ 18437736874454810624 ∧ 2 ^ 127 * den ((i : Int) - 348) ≤ num ((i : Int) - 348) := by
  have h1 := z6d rowCheck _ _ rows_ok i r h
  rw [show (-348 : Int) + (i : Int) = (i : Int) - 348 by omega] at h1
  have h2 := of_decide_eq_true h1
  exact ⟨⟨h2.1, h2.2.1, h2.2.2.1, h2.2.2.2.1⟩, h2.2.2.2.2⟩
theorem fence_far {pm q1 m1 a1 q2 m2 a2 x M : Nat} (F : Fence pm q1 m1 a1 q2 m2 a2) (hx1 : 9223372036854775808 ≤ x) (hx2 : x < 18446744073709551616)
    (h1 : x * pm ≤ M * 87112285931760246646623899502532662132736 + 18446744073709551616) (h2 : M * 87112285931760246646623899502532662132736 < x * pm + 18446744073709551616) : False := by
  obtain ⟨f1, f2, f3, f4, ⟨f5, f6⟩, ⟨f7, f8⟩⟩ := F
  generalize 87112285931760246646623899502532662132736 = W at *
  obtain ⟨i, hi⟩ : ∃ i : Int, i = x * m2 - M * q2 := ⟨_, rfl⟩
  obtain ⟨j, hj⟩ : ∃ j : Int, j = M * q1 - x * m1 := ⟨_, rfl⟩
  have g1 : (a1 : Int) = q1 * pm - m1 * W := by have := congrArg (Nat.cast (R := Int)) f1; rw [Int.natCast_add, Int.natCast_mul, Int.natCast_mul] at this; omega
  have g2 : (a2 : Int) = m2 * W - q2 * pm := by have := congrArg (Nat.cast (R := Int)) f2; rw [Int.natCast_add, Int.natCast_mul, Int.natCast_mul] at this; omega
  have g3 : (q1 : Int) * m2 = q2 * m1 + 1 := by have := congrArg (Nat.cast (R := Int)) f3; push_cast at this; omega
  have ex : i * q1 + j * q2 = (x : Int) := by
    rw [hi, hj]
    grind
  have er : i * a1 - j * a2 = (x : Int) * pm - M * W := by
    rw [hi, hj, g1, g2]
    grind
  have h1' : (x : Int) * pm ≤ M * W + 18446744073709551616 := by have := Int.ofNat_le.2 h1; rw [Int.natCast_mul, Int.natCast_add, Int.natCast_mul] at this; omega
  have h2' : (M : Int) * W < x * pm + 18446744073709551616 := by have := Int.ofNat_lt.2 h2; rw [Int.natCast_mul, Int.natCast_add, Int.natCast_mul] at this; omega
  have k1 : ((9223372036854775808 + q1 - 1) / q1 : Nat) * q1 < 9223372036854775808 + q1 := by
    have := Nat.div_mul_le_self (9223372036854775808 + q1 - 1) q1
    omega
  have k2 : ((9223372036854775808 + q2 - 1) / q2 : Nat) * q2 < 9223372036854775808 + q2 := by
    have := Nat.div_mul_le_self (9223372036854775808 + q2 - 1) q2
    omega
  generalize (9223372036854775808 + q1 - 1) / q1 = c1 at *
  generalize (9223372036854775808 + q2 - 1) / q2 = c2 at *
  rcases Int.lt_or_le 0 i with hi1 | hi1
  · rcases Int.lt_or_le 0 j with hj1 | hj1
    · have b1 : (1 : Int) * q1 ≤ i * q1 := Int.mul_le_mul_of_nonneg_right hi1 (by omega)
      have b2 : (1 : Int) * q2 ≤ j * q2 := Int.mul_le_mul_of_nonneg_right hj1 (by omega)
      omega
    have b2 : j * q2 ≤ 0 := Int.mul_nonpos_of_nonpos_of_nonneg hj1 (by omega)
    have b3 : j * a2 ≤ 0 := Int.mul_nonpos_of_nonpos_of_nonneg hj1 (by omega)
    have b4 : (c1 : Int) ≤ i := by
      rcases Int.lt_or_le i c1 with h | h
      · exfalso
        have d1 : i * q1 ≤ ((c1 : Int) - 1) * q1 := Int.mul_le_mul_of_nonneg_right (by omega) (by omega)
        rw [Int.sub_mul] at d1
        have : ((c1 * q1 : Nat) : Int) = (c1 : Int) * q1 := by push_cast; rfl
        omega
      exact h
    have b5 : (c1 : Int) * a1 ≤ i * a1 := Int.mul_le_mul_of_nonneg_right b4 (by omega)
    have : ((c1 * a1 : Nat) : Int) = (c1 : Int) * a1 := by push_cast; rfl
    omega
  have b2 : i * q1 ≤ 0 := Int.mul_nonpos_of_nonpos_of_nonneg hi1 (by omega)
  have b3 : i * a1 ≤ 0 := Int.mul_nonpos_of_nonpos_of_nonneg hi1 (by omega)
  have b4 : (c2 : Int) ≤ j := by
    rcases Int.lt_or_le j c2 with h | h
    · exfalso
      have d1 : j * q2 ≤ ((c2 : Int) - 1) * q2 := Int.mul_le_mul_of_nonneg_right (by omega) (by omega)
      rw [Int.sub_mul] at d1
      have : ((c2 * q2 : Nat) : Int) = (c2 : Int) * q2 := by push_cast; rfl
      omega
    exact h
  have b5 : (c2 : Int) * a2 ≤ j * a2 := Int.mul_le_mul_of_nonneg_right b4 (by omega)
  have : ((c2 * a2 : Nat) : Int) = (c2 : Int) * a2 := by push_cast; rfl
  omega
theorem z8s : Pinned.pow10Rows.length = 696 := by decide +kernel
end Go.Proofs.YtjpiplplohapnaaGreatDoor.Us
