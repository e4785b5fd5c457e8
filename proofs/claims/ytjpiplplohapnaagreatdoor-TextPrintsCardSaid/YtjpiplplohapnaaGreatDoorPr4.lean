/- Part 4 of the proof: RCmp, RSub, RShUp, BigC. -/
import Derived.Test.YtjpiplplohapnaaGreatDoorPr3
set_option linter.unusedVariables false
set_option linter.unusedSimpArgs false
namespace Go.Proofs.YtjpiplplohapnaaGreatDoor.PText
open Go.RowKit Go.Proofs.YtjpiplplohapnaaGreatDoorW.PrintWords Go.Proofs.YtjpiplplohapnaaGreatDoorW.PrintLast Go.Proofs.YtjpiplplohapnaaGreatDoorW.PrintMore
attribute [local go_sem] max2_int min2_int max_two min_two max_three min_three max_four min_four
set_option linter.unusedVariables false
set_option linter.unusedSimpArgs false
def tenorref1_CmpDigits.l0 : Nat → List Int → List Int → Int → Option (Int)
  | 0, _, _, _ => none
  | k + 1, x0, x1, x5 => if x5 ≥ 0 then (if 0 ≤ x5 then (if x5 < (x0.length : Int) then (if x5 < (x1.length : Int) then (if (rd x0 x5) < (rd x1 x5) then (some (-1)) else (if (rd x0 x5) > (rd x1 x5) then (some 1) else (tenorref1_CmpDigits.l0 k x0 x1 (wrap64 (x5 - 1))))) else (none)) else (none)) else (none)) else (some 0)
def tenorref1_CmpDigits.f (k : Nat) (l0 : List Int) (l1 : List Int) : Option (Int) := if (l0.length : Int) = (l1.length : Int) then (tenorref1_CmpDigits.l0 k l0 l1 (wrap64 ((l0.length : Int) - 1))) else (if (l0.length : Int) < (l1.length : Int) then (some (-1)) else (some 1))
set_option maxHeartbeats 8000000 in
set_option maxRecDepth 100000 in
theorem tenorref1_CmpDigits.calls (k : Nat) (A0 : Option Addr) (c0 : Nat) (l0 : List Int) (A1 : Option Addr) (c1 : Nat) (l1 : List Int) (r : Int) (w : World) (hr0 : Kd.C (Kd.int .u64) w A0 l0.length l0) (hc0 : l0.length ≤ c0) (hr1 : Kd.C (Kd.int .u64) w A1 l1.length l1) (hc1 : l1.length ≤ c1) (h : tenorref1_CmpDigits.f k l0 l1 = some r) :
    Calls Tryz.prog 96 #[.slice A0 l0.length c0, .slice A1 l1.length c1] w fun e w' => e = .returned (.int .i64 r) ∧ Drawn0 w w' := by
  have HR0 := Aside0.mk hr0
  have HC0 := Aside0.mk hc0
  clear hr0 hc0
  have HR1 := Aside0.mk hr1
  have HC1 := Aside0.mk hc1
  clear hr1 hc1
  have H : (if (l0.length : Int) = (l1.length : Int) then (tenorref1_CmpDigits.l0 k l0 l1 (wrap64 ((l0.length : Int) - 1))) else (if (l0.length : Int) < (l1.length : Int) then (some (-1)) else (some 1))) = some r := h
  clear h
  by_cases c3 : (l0.length : Int) = (l1.length : Int)
  · rw [if_pos c3] at H
    have c3b0 : ((l0.length : Int) == (l1.length : Int)) = true := beq_iff_eq.mpr c3
    have c3b1 : ((l0.length : Int) != (l1.length : Int)) = false := bne_eq_false_iff_eq.mpr c3
    have c3b2 : (l0.length == l1.length) = true := by first | simpa using c3 | (simp at c3 ⊢; omega)
    clear c3
    have H' := Aside0.mk H
    clear H
    go_enter Tryz.func96, Tryz.ntmps96
    go_wp2
    repeat (go_quiet (fail); try go_wp2)
    go_loopg [5] k (fun kq v5 w' => ∃ (x5_1 : Int), v5 = .int .i64 x5_1 ∧ Aside0 (tenorref1_CmpDigits.l0 kq l0 l1 x5_1 = some r) ∧ Aside0 (kq ≤ k) ∧ Drawn0 w w')
    case atStart => exact ⟨(wrap64 ((l0.length : Int) - 1)), (by first | rfl | (simp; done) | (simp [*]; done)), H', ⟨Nat.le_refl _⟩, by repeat (first | exact Drawn0.refl _ | apply Drawn0.step)⟩
    case round =>
      clear H'
      (try clear c1); (try clear p2); (try clear c3); (try clear c3b0); (try clear c3b1); (try clear c3b2)
      obtain ⟨x5_1, rfl, HA, HK1, ⟨m1, rfl⟩⟩ := hrel
      cases gk with
      | zero => exact absurd HA.out (by simp [tenorref1_CmpDigits.l0])
      | succ k1 =>
        have H := HA.out
        clear HA
        simp only [tenorref1_CmpDigits.l0] at H
        by_cases c4 : x5_1 ≥ 0
        · rw [if_pos c4] at H
          have c4b0 : decide (0 ≤ x5_1) = true := decide_eq_true c4
          clear c4
          by_cases c5 : 0 ≤ x5_1
          · rw [if_pos c5] at H
            have c5b0 : decide (0 ≤ x5_1) = true := decide_eq_true c5
            clear c5
            by_cases c6 : x5_1 < (l0.length : Int)
            · rw [if_pos c6] at H
              have c6b0 : decide (x5_1 < (l0.length : Int)) = true := decide_eq_true c6
              clear c6
              by_cases c7 : x5_1 < (l1.length : Int)
              · rw [if_pos c7] at H
                have c7b0 : decide (x5_1 < (l1.length : Int)) = true := decide_eq_true c7
                clear c7
                by_cases c8 : (rd l0 x5_1) < (rd l1 x5_1)
                · rw [if_pos c8] at H
                  have c8b0 : decide ((rd l0 x5_1) < (rd l1 x5_1)) = true := decide_eq_true c8
                  clear c8
                  obtain rfl := Option.some.inj H
                  have p252 : 0 ≤ (x5_1 : Int) := of_decide_eq_true (by first | (with_reducible assumption) | assumption)
                  have q252 : x5_1 < (l0.length : Int) := of_decide_eq_true (by first | (with_reducible assumption) | assumption)
                  obtain ⟨ad252, e252, hx252_0⟩ := Kd.at_int HR0.out x5_1 p252 q252
                  cases e252
                  replace p252 := eq_true p252
                  replace q252 := eq_true q252
                  have p253 : 0 ≤ (x5_1 : Int) := of_decide_eq_true (by first | (with_reducible assumption) | assumption)
                  have q253 : x5_1 < (l1.length : Int) := of_decide_eq_true (by first | (with_reducible assumption) | assumption)
                  obtain ⟨ad253, e253, hx253_0⟩ := Kd.at_int HR1.out x5_1 p253 q253
                  cases e253
                  replace p253 := eq_true p253
                  replace q253 := eq_true q253
                  go_wp2
                  repeat (go_quiet (fail); try go_wp2)
                  go_ret
                  exact ⟨by first | rfl | (simp; done) | (simp [*]; done), by repeat (first | exact Drawn0.refl _ | apply Drawn0.step)⟩
                rw [if_neg c8] at H
                have c8b0 : decide ((rd l0 x5_1) < (rd l1 x5_1)) = false := decide_eq_false c8
                clear c8
                by_cases c9 : (rd l0 x5_1) > (rd l1 x5_1)
                · rw [if_pos c9] at H
                  have c9b0 : decide ((rd l1 x5_1) < (rd l0 x5_1)) = true := decide_eq_true c9
                  clear c9
                  obtain rfl := Option.some.inj H
                  have p252 : 0 ≤ (x5_1 : Int) := of_decide_eq_true (by first | (with_reducible assumption) | assumption)
                  have q252 : x5_1 < (l0.length : Int) := of_decide_eq_true (by first | (with_reducible assumption) | assumption)
                  obtain ⟨ad252, e252, hx252_0⟩ := Kd.at_int HR0.out x5_1 p252 q252
                  cases e252
                  replace p252 := eq_true p252
                  replace q252 := eq_true q252
                  have p253 : 0 ≤ (x5_1 : Int) := of_decide_eq_true (by first | (with_reducible assumption) | assumption)
                  have q253 : x5_1 < (l1.length : Int) := of_decide_eq_true (by first | (with_reducible assumption) | assumption)
                  obtain ⟨ad253, e253, hx253_0⟩ := Kd.at_int HR1.out x5_1 p253 q253
                  cases e253
                  replace p253 := eq_true p253
                  replace q253 := eq_true q253
                  have p254 : 0 ≤ (x5_1 : Int) := of_decide_eq_true (by first | (with_reducible assumption) | assumption)
                  have q254 : x5_1 < (l0.length : Int) := of_decide_eq_true (by first | (with_reducible assumption) | assumption)
                  obtain ⟨ad254, e254, hx254_0⟩ := Kd.at_int HR0.out x5_1 p254 q254
                  obtain rfl : ad252 = ad254 := (by injection e254)
                  replace p254 := eq_true p254
                  replace q254 := eq_true q254
                  have p255 : 0 ≤ (x5_1 : Int) := of_decide_eq_true (by first | (with_reducible assumption) | assumption)
                  have q255 : x5_1 < (l1.length : Int) := of_decide_eq_true (by first | (with_reducible assumption) | assumption)
                  obtain ⟨ad255, e255, hx255_0⟩ := Kd.at_int HR1.out x5_1 p255 q255
                  obtain rfl : ad253 = ad255 := (by injection e255)
                  replace p255 := eq_true p255
                  replace q255 := eq_true q255
                  go_wp2
                  repeat (go_quiet (fail); try go_wp2)
                  go_ret
                  exact ⟨by first | rfl | (simp; done) | (simp [*]; done), by repeat (first | exact Drawn0.refl _ | apply Drawn0.step)⟩
                rw [if_neg c9] at H
                have c9b0 : decide ((rd l1 x5_1) < (rd l0 x5_1)) = false := decide_eq_false c9
                clear c9
                have H' := Aside0.mk H
                clear H
                have p252 : 0 ≤ (x5_1 : Int) := of_decide_eq_true (by first | (with_reducible assumption) | assumption)
                have q252 : x5_1 < (l0.length : Int) := of_decide_eq_true (by first | (with_reducible assumption) | assumption)
                obtain ⟨ad252, e252, hx252_0⟩ := Kd.at_int HR0.out x5_1 p252 q252
                cases e252
                replace p252 := eq_true p252
                replace q252 := eq_true q252
                have p253 : 0 ≤ (x5_1 : Int) := of_decide_eq_true (by first | (with_reducible assumption) | assumption)
                have q253 : x5_1 < (l1.length : Int) := of_decide_eq_true (by first | (with_reducible assumption) | assumption)
                obtain ⟨ad253, e253, hx253_0⟩ := Kd.at_int HR1.out x5_1 p253 q253
                cases e253
                replace p253 := eq_true p253
                replace q253 := eq_true q253
                have p254 : 0 ≤ (x5_1 : Int) := of_decide_eq_true (by first | (with_reducible assumption) | assumption)
                have q254 : x5_1 < (l0.length : Int) := of_decide_eq_true (by first | (with_reducible assumption) | assumption)
                obtain ⟨ad254, e254, hx254_0⟩ := Kd.at_int HR0.out x5_1 p254 q254
                obtain rfl : ad252 = ad254 := (by injection e254)
                replace p254 := eq_true p254
                replace q254 := eq_true q254
                have p255 : 0 ≤ (x5_1 : Int) := of_decide_eq_true (by first | (with_reducible assumption) | assumption)
                have q255 : x5_1 < (l1.length : Int) := of_decide_eq_true (by first | (with_reducible assumption) | assumption)
                obtain ⟨ad255, e255, hx255_0⟩ := Kd.at_int HR1.out x5_1 p255 q255
                obtain rfl : ad253 = ad255 := (by injection e255)
                replace p255 := eq_true p255
                replace q255 := eq_true q255
                go_wp2
                repeat (go_quiet (fail); try go_wp2)
                go_roundg k1
                case measure => have := HK1.out; omega
                case rel => exact ⟨(wrap64 (x5_1 - 1)), (by first | rfl | (simp; done) | (simp [*]; done)), H', ⟨by have := HK1.out; omega⟩, by repeat (first | exact Drawn0.refl _ | apply Drawn0.step)⟩
              rw [if_neg c7] at H
              exact absurd H (by simp)
            rw [if_neg c6] at H
            exact absurd H (by simp)
          rw [if_neg c5] at H
          exact absurd H (by simp)
        rw [if_neg c4] at H
        have c4b0 : decide (0 ≤ x5_1) = false := decide_eq_false c4
        clear c4
        obtain rfl := Option.some.inj H
        go_wp2
        repeat (go_quiet (fail); try go_wp2)
        go_ret
        exact ⟨by first | rfl | (simp; done) | (simp [*]; done), by repeat (first | exact Drawn0.refl _ | apply Drawn0.step)⟩
  rw [if_neg c3] at H
  have c3b0 : ((l0.length : Int) == (l1.length : Int)) = false := beq_eq_false_iff_ne.mpr c3
  have c3b1 : ((l0.length : Int) != (l1.length : Int)) = true := bne_iff_ne.mpr c3
  have c3b2 : (l0.length == l1.length) = false := by first | simpa using c3 | (simp at c3 ⊢; omega)
  by_cases c10 : (l0.length : Int) < (l1.length : Int)
  · rw [if_pos c10] at H
    have c10b0 : decide ((l0.length : Int) < (l1.length : Int)) = true := decide_eq_true c10
    have c10b1 : decide (l0.length < l1.length) = true := decide_eq_true (Int.ofNat_lt.mp c10)
    clear c10
    obtain rfl := Option.some.inj H
    go_enter Tryz.func96, Tryz.ntmps96
    go_wp2
    repeat (go_quiet (fail); try go_wp2)
    go_ret
    exact ⟨by first | rfl | (simp; done) | (simp [*]; done), by repeat (first | exact Drawn0.refl _ | apply Drawn0.step)⟩
  rw [if_neg c10] at H
  have c10b0 : decide ((l0.length : Int) < (l1.length : Int)) = false := decide_eq_false c10
  have c10b1 : decide (l0.length < l1.length) = false := decide_eq_false (fun h => c10 (Int.ofNat_lt.mpr h))
  clear c10
  obtain rfl := Option.some.inj H
  go_enter Tryz.func96, Tryz.ntmps96
  go_wp2
  repeat (go_quiet (fail); try go_wp2)
  go_ret
  exact ⟨by first | rfl | (simp; done) | (simp [*]; done), by repeat (first | exact Drawn0.refl _ | apply Drawn0.step)⟩
end Go.Proofs.YtjpiplplohapnaaGreatDoor.PText
namespace Go.Proofs.YtjpiplplohapnaaGreatDoor.PText
open Go.RowKit Go.Proofs.YtjpiplplohapnaaGreatDoorW.PrintWords Go.Proofs.YtjpiplplohapnaaGreatDoorW.PrintLast Go.Proofs.YtjpiplplohapnaaGreatDoorW.PrintMore
attribute [local go_sem] max2_int min2_int max_two min_two max_three min_three max_four min_four
set_option linter.unusedVariables false
set_option linter.unusedSimpArgs false
def tenorref1_SubDigits.l0 : Nat → List Int → List Int → List Int → Int → Int → Option (List Int)
  | 0, _, _, _, _, _ => none
  | k + 1, x0, x1, x5, x6, x7 => if x7 < (x0.length : Int) then (if 0 ≤ x7 then ((tenorref1_digit.f x1 x7).bind fun t260 => (if x7 < (x5.length : Int) then (tenorref1_SubDigits.l0 k x0 x1 (x5.set (x7 : Int).toNat (Int.tmod (IntKind.u64.wrap ((IntKind.u64.wrap ((IntKind.u64.wrap ((rd x0 x7) + 4294967296)) - t260)) - x6)) 4294967296)) (IntKind.u64.wrap (1 - (IntKind.u64.wrap (Int.tdiv (IntKind.u64.wrap ((IntKind.u64.wrap ((IntKind.u64.wrap ((rd x0 x7) + 4294967296)) - t260)) - x6)) 4294967296)))) (wrap64 (x7 + 1))) else (none))) else (none)) else ((tenorref1_trim.f k x5).bind fun t262 => (some t262))
def tenorref1_SubDigits.f (k : Nat) (l0 : List Int) (l1 : List Int) : Option (List Int) := if 0 ≤ (l0.length : Int) then (if ((l0.length : Int) : Int).toNat ≤ 35184372088832 then (tenorref1_SubDigits.l0 k l0 l1 (List.replicate ((l0.length : Int) : Int).toNat 0) 0 0) else (none)) else (none)
set_option maxHeartbeats 8000000 in
set_option maxRecDepth 100000 in
theorem tenorref1_SubDigits.calls (k : Nat) (A0 : Option Addr) (c0 : Nat) (l0 : List Int) (A1 : Option Addr) (c1 : Nat) (l1 : List Int) (r : List Int) (w : World) (hr0 : Kd.C (Kd.int .u64) w A0 l0.length l0) (hc0 : l0.length ≤ c0) (hr1 : Kd.C (Kd.int .u64) w A1 l1.length l1) (hc1 : l1.length ≤ c1) (h : tenorref1_SubDigits.f k l0 l1 = some r) :
    Calls Tryz.prog 97 #[.slice A0 l0.length c0, .slice A1 l1.length c1] w fun e w' => ∃ v0_ : Value, e = .returned (v0_) ∧ Kd.R (Kd.int .u64) 26 w' w.heap.size (fun _ => True) v0_ r ∧ Below w.heap.size w w' := by
  have HR0 := Aside0.mk hr0
  have HC0 := Aside0.mk hc0
  clear hr0 hc0
  have HR1 := Aside0.mk hr1
  have HC1 := Aside0.mk hc1
  clear hr1 hc1
  have HB := Aside0.mk (Below.refl w.heap.size w)
  have H : (if 0 ≤ (l0.length : Int) then (if ((l0.length : Int) : Int).toNat ≤ 35184372088832 then (tenorref1_SubDigits.l0 k l0 l1 (List.replicate ((l0.length : Int) : Int).toNat 0) 0 0) else (none)) else (none)) = some r := h
  clear h
  by_cases c3 : 0 ≤ (l0.length : Int)
  · rw [if_pos c3] at H
    have c3b0 := eq_true c3
    have c3b1 : decide (0 ≤ (l0.length : Int)) = true := decide_eq_true c3
    clear c3
    by_cases c4 : ((l0.length : Int) : Int).toNat ≤ 35184372088832
    · rw [if_pos c4] at H
      have c4b0 := eq_true c4
      have c4b1 : decide (((l0.length : Int) : Int).toNat ≤ 35184372088832) = true := decide_eq_true c4
      clear c4
      obtain ⟨y256, hy256⟩ : ∃ y_ : List Int, y_ = (List.replicate ((l0.length : Int) : Int).toNat 0) := ⟨_, rfl⟩
      replace H : (tenorref1_SubDigits.l0 k l0 l1 y256 0 0) = some r := by first | (rw [hy256]; with_reducible exact H) | (have H2_ := (Option.bind_some _ _).symm.trans H; rw [hy256]; with_reducible exact H2_) | (have H2_ := (Option.bind_some _ _).symm.trans H; with_reducible exact H2_) | with_reducible exact H | (rw [hy256]; exact H) | exact H
      have Ny256 := Aside0.mk hy256
      clear hy256
      have H' := Aside0.mk H
      clear H
      go_enter Tryz.func97, Tryz.ntmps97
      go_wp2_with (first | ((with_reducible refine gate_dst (N := 11) rfl ?_); refine Kd.R_make (Kd.int .u64) _ 26 rfl (N := 11) rfl 51 _ _ rfl (l0.length : Int) rfl rfl Tryz.underlying51 (.int .u64 0) 8 info26 rfl (by decide) (by omega) 0 (ok := fun _ => True) (okp := fun _ => True) rfl (fun _ hk => hk) trivial (of_decide_eq_true (by first | (with_reducible assumption) | assumption)) (Nat.le_trans (Nat.mul_le_mul_right _ (of_decide_eq_true (by first | (with_reducible assumption) | assumption) : (l0.length : Int).toNat ≤ 35184372088832)) (by omega)) (Below.refl _ _) (Nat.le_refl _) ?_; intro v257 w5 ho6 hb hg_ hnew_; clear hg_ hnew_; (first | rw [← Ny256.out] at ho6 | (simp only [Int.reduceToNat] at ho6; rw [← Ny256.out] at ho6)); have n0_ := Aside0.mk (Kd.R_lower ho6 (below_size (by repeat (first | (with_reducible first | exact HB.out | apply below_alloc | apply pw_below_drewN | apply below_drew1) | exact HB.out)))); have n1_ := Aside0.mk (below_step (by repeat (first | (with_reducible first | exact HB.out | apply below_alloc | apply pw_below_drewN | apply below_drew1) | exact HB.out)) hb); clear HB; have HO258 := n0_; have HB := n1_; clear n0_ n1_; clear hb ho6))
      repeat (go_quiet (first | ((with_reducible refine gate_dst (N := 11) rfl ?_); refine Kd.R_make (Kd.int .u64) _ 26 rfl (N := 11) rfl 51 _ _ rfl (l0.length : Int) rfl rfl Tryz.underlying51 (.int .u64 0) 8 info26 rfl (by decide) (by omega) 0 (ok := fun _ => True) (okp := fun _ => True) rfl (fun _ hk => hk) trivial (of_decide_eq_true (by first | (with_reducible assumption) | assumption)) (Nat.le_trans (Nat.mul_le_mul_right _ (of_decide_eq_true (by first | (with_reducible assumption) | assumption) : (l0.length : Int).toNat ≤ 35184372088832)) (by omega)) (Below.refl _ _) (Nat.le_refl _) ?_; intro v257 w5 ho6 hb hg_ hnew_; clear hg_ hnew_; (first | rw [← Ny256.out] at ho6 | (simp only [Int.reduceToNat] at ho6; rw [← Ny256.out] at ho6)); have n0_ := Aside0.mk (Kd.R_lower ho6 (below_size (by repeat (first | (with_reducible first | exact HB.out | apply below_alloc | apply pw_below_drewN | apply below_drew1) | exact HB.out)))); have n1_ := Aside0.mk (below_step (by repeat (first | (with_reducible first | exact HB.out | apply below_alloc | apply pw_below_drewN | apply below_drew1) | exact HB.out)) hb); clear HB; have HO258 := n0_; have HB := n1_; clear n0_ n1_; clear hb ho6)); try go_wp2_with (first | ((with_reducible refine gate_dst (N := 11) rfl ?_); refine Kd.R_make (Kd.int .u64) _ 26 rfl (N := 11) rfl 51 _ _ rfl (l0.length : Int) rfl rfl Tryz.underlying51 (.int .u64 0) 8 info26 rfl (by decide) (by omega) 0 (ok := fun _ => True) (okp := fun _ => True) rfl (fun _ hk => hk) trivial (of_decide_eq_true (by first | (with_reducible assumption) | assumption)) (Nat.le_trans (Nat.mul_le_mul_right _ (of_decide_eq_true (by first | (with_reducible assumption) | assumption) : (l0.length : Int).toNat ≤ 35184372088832)) (by omega)) (Below.refl _ _) (Nat.le_refl _) ?_; intro v257 w5 ho6 hb hg_ hnew_; clear hg_ hnew_; (first | rw [← Ny256.out] at ho6 | (simp only [Int.reduceToNat] at ho6; rw [← Ny256.out] at ho6)); have n0_ := Aside0.mk (Kd.R_lower ho6 (below_size (by repeat (first | (with_reducible first | exact HB.out | apply below_alloc | apply pw_below_drewN | apply below_drew1) | exact HB.out)))); have n1_ := Aside0.mk (below_step (by repeat (first | (with_reducible first | exact HB.out | apply below_alloc | apply pw_below_drewN | apply below_drew1) | exact HB.out)) hb); clear HB; have HO258 := n0_; have HB := n1_; clear n0_ n1_; clear hb ho6)))
      go_loopg [6, 7] k (fun kq v6 v7 w' => ∃ (x5_1 : List Int) (x6_1 : Int) (x7_1 : Int), v6 = .int .u64 x6_1 ∧ v7 = .int .i64 x7_1 ∧ Aside0 (tenorref1_SubDigits.l0 kq l0 l1 x5_1 x6_1 x7_1 = some r) ∧ Aside0 (kq ≤ k) ∧ Aside0 (Kd.R (Kd.int .u64) 26 w' w.heap.size (fun _ => True) v257 x5_1) ∧ Aside0 (Below w.heap.size w w'))
      case atStart => exact ⟨(y256), (0), (0), (by first | rfl | (simp; done) | (simp [*]; done)), (by first | rfl | (simp; done) | (simp [*]; done)), H', ⟨Nat.le_refl _⟩, ⟨by (with_reducible repeat (first | apply Kd.R_alloc | apply Kd.R_drewN | apply Kd.R_drew)); exact HO258.out⟩, ⟨by repeat (first | (with_reducible first | exact HB.out | apply below_alloc | apply pw_below_drewN | apply below_drew1) | exact HB.out)⟩⟩
      case round =>
        clear H'
        (try clear c1); (try clear p2); (try clear c3); (try clear c3b0); (try clear c3b1); (try clear c4); (try clear c4b0); (try clear c4b1)
        obtain ⟨x5_1, x6_1, x7_1, rfl, rfl, HA, HK1, HO_5, HB⟩ := hrel
        cases gk with
        | zero => exact absurd HA.out (by simp [tenorref1_SubDigits.l0])
        | succ k1 =>
          have H := HA.out
          clear HA
          simp only [tenorref1_SubDigits.l0] at H
          by_cases c7 : x7_1 < (l0.length : Int)
          · rw [if_pos c7] at H
            have c7b0 : decide (x7_1 < (l0.length : Int)) = true := decide_eq_true c7
            clear c7
            by_cases c8 : 0 ≤ x7_1
            · rw [if_pos c8] at H
              have c8b0 : decide (0 ≤ x7_1) = true := decide_eq_true c8
              clear c8
              replace H := Option.bind_eq_some_iff.mp H
              obtain ⟨t260, A90, H⟩ := H
              replace H : (if x7_1 < (x5_1.length : Int) then (tenorref1_SubDigits.l0 k1 l0 l1 (x5_1.set (x7_1 : Int).toNat (Int.tmod (IntKind.u64.wrap ((IntKind.u64.wrap ((IntKind.u64.wrap ((rd l0 x7_1) + 4294967296)) - t260)) - x6_1)) 4294967296)) (IntKind.u64.wrap (1 - (IntKind.u64.wrap (Int.tdiv (IntKind.u64.wrap ((IntKind.u64.wrap ((IntKind.u64.wrap ((rd l0 x7_1) + 4294967296)) - t260)) - x6_1)) 4294967296)))) (wrap64 (x7_1 + 1))) else (none)) = some r := H
              have A9 := Aside0.mk A90
              clear A90
              by_cases c10 : x7_1 < (x5_1.length : Int)
              · rw [if_pos c10] at H
                have c10b0 : decide (x7_1 < (x5_1.length : Int)) = true := decide_eq_true c10
                clear c10
                obtain ⟨y261, hy261⟩ : ∃ y_ : List Int, y_ = (x5_1.set (x7_1 : Int).toNat (Int.tmod (IntKind.u64.wrap ((IntKind.u64.wrap ((IntKind.u64.wrap ((rd l0 x7_1) + 4294967296)) - t260)) - x6_1)) 4294967296)) := ⟨_, rfl⟩
                replace H : (tenorref1_SubDigits.l0 k1 l0 l1 y261 (IntKind.u64.wrap (1 - (IntKind.u64.wrap (Int.tdiv (IntKind.u64.wrap ((IntKind.u64.wrap ((IntKind.u64.wrap ((rd l0 x7_1) + 4294967296)) - t260)) - x6_1)) 4294967296)))) (wrap64 (x7_1 + 1))) = some r := by first | (rw [hy261]; with_reducible exact H) | (have H2_ := (Option.bind_some _ _).symm.trans H; rw [hy261]; with_reducible exact H2_) | (have H2_ := (Option.bind_some _ _).symm.trans H; with_reducible exact H2_) | with_reducible exact H | (rw [hy261]; exact H) | exact H
                have Ny261 := Aside0.mk hy261
                clear hy261
                have H' := Aside0.mk H
                clear H
                have p259 : 0 ≤ (x7_1 : Int) := of_decide_eq_true (by first | (with_reducible assumption) | assumption)
                have q259 : x7_1 < (l0.length : Int) := of_decide_eq_true (by first | (with_reducible assumption) | assumption)
                obtain ⟨ad259, e259, hx259_0⟩ := Kd.at_int HR0.out x7_1 p259 q259
                cases e259
                replace hx259_0 := (HB.out.cell (World.block_lt_of_cell? w _ hx259_0)).trans hx259_0
                replace p259 := eq_true p259
                replace q259 := eq_true q259
                go_wp2_with (first | (go_at_call 69; (with_reducible refine (tenorref1_digit.calls _ _ l1 x7_1 t260 _ ?side1 ?side2 A9.out).mono ?_); (case side1 => repeat (first | exact (Kd.C_below HR1.out HB.out) | (with_reducible refine Kd.C_alloc ?_ _) | (with_reducible refine Kd.C_drewN ?_ _) | (with_reducible refine Kd.C_drew ?_))); (case side2 => exact HC1.out); rintro e w' ⟨rfl, ⟨nd, rfl⟩⟩; (try first | exact ⟨rfl, _, World.drewN_drewN _ _ _⟩ | exact ⟨rfl, _, Eq.trans (World.drewN_drewN _ _ _) (congrArg (World.drewN _) (Nat.add_assoc _ _ _))⟩); have p11 : 0 ≤ (x7_1 : Int) := of_decide_eq_true (by first | (with_reducible assumption) | assumption); have q11 : (x7_1 : Int) < ((x5_1.length : Int) : Int) := of_decide_eq_true (by first | (with_reducible assumption) | assumption); obtain ⟨go11, co11, eo11, gb11, gl11, cl11, HG11⟩ := Kd.R_form HO_5.out (by omega); (first | cases eo11 | (injection eo11 with ea_ en_ ec_; (first | subst ea_ | (injection ea_ with ea_; subst ea_)); subst ec_; clear en_)); have GB11 := Aside0.mk gb11; have GG11 := Aside0.mk HG11; clear gb11 gl11 HG11; obtain ⟨hx11_0, hf11_0⟩ := Kd.R_celln 0 HO_5.out (x7_1 : Int) p11 q11; replace p11 := eq_true p11; replace q11 := eq_true q11; obtain ⟨hy12_, hz12_⟩ := Kd.R_celln 0 HO_5.out (x7_1 : Int) (of_decide_eq_true (by first | (with_reducible assumption) | assumption)) (of_decide_eq_true (by first | (with_reducible assumption) | assumption)); have HP12 := Kd.R_putg HO_5.out (x7_1 : Int) (Int.tmod (IntKind.u64.wrap ((IntKind.u64.wrap ((IntKind.u64.wrap ((rd l0 x7_1) + 4294967296)) - t260)) - x6_1)) 4294967296)) | ((with_reducible refine gate_store (t := 26) (p := 33) rfl ?_); (try (rw [drewN_self wr]; generalize hq_ : World.drewN wr _ = wr; have n0_ := Aside0.mk (Kd.R_at hq_ HO_5.out); have n1_ := Aside0.mk (below_at hq_ HB.out); clear hq_ HO_5 HB; have HO_5 := n0_; have HB := n1_; clear n0_ n1_; (try (obtain ⟨hy12_, hz12_⟩ := Kd.R_celln 0 HO_5.out (x7_1 : Int) (of_decide_eq_true (by first | (with_reducible assumption) | assumption)) (of_decide_eq_true (by first | (with_reducible assumption) | assumption)))); (try (have HP12 := Kd.R_putg HO_5.out (x7_1 : Int) (Int.tmod (IntKind.u64.wrap ((IntKind.u64.wrap ((IntKind.u64.wrap ((rd l0 x7_1) + 4294967296)) - t260)) - x6_1)) 4294967296))))); refine store_event (t := 26) (p := 33) (v := ?vo_w13) (w1 := (wr.setCell ⟨go11, (x7_1 : Int).toNat, none⟩ (.int .u64 (Int.tmod (IntKind.u64.wrap ((IntKind.u64.wrap ((IntKind.u64.wrap ((rd l0 x7_1) + 4294967296)) - t260)) - x6_1)) 4294967296)))) ?hg ?ho ?hn ?hr ?_; (case ho => rfl); (case hg => rfl); (case hn => rfl); (case hr => first | (go_simp; done) | (go_simp; rfl)); intro w13 hw; have hg : wr.grownBy w13 (some go11) := (by rw [hw]; exact HP12.2); have hp_ : Kd.R (Kd.int .u64) 26 w13 w.heap.size (fun _ => True) (.slice (some ⟨go11, 0, none⟩) x5_1.length co11) y261 := (by rw [hw, Ny261.out]; exact HP12.1); clear HP12; have n0_ := Aside0.mk (hp_); have n1_ := Aside0.mk ((by rw [hw]; exact below_set (HB.out) GB11.out : Below w.heap.size w w13)); clear HO_5; clear HB; have HO_5 := n0_; have HB := n1_; clear n0_ n1_; clear hg hw hp_))
                repeat (go_quiet (first | (go_at_call 69; (with_reducible refine (tenorref1_digit.calls _ _ l1 x7_1 t260 _ ?side1 ?side2 A9.out).mono ?_); (case side1 => repeat (first | exact (Kd.C_below HR1.out HB.out) | (with_reducible refine Kd.C_alloc ?_ _) | (with_reducible refine Kd.C_drewN ?_ _) | (with_reducible refine Kd.C_drew ?_))); (case side2 => exact HC1.out); rintro e w' ⟨rfl, ⟨nd, rfl⟩⟩; (try first | exact ⟨rfl, _, World.drewN_drewN _ _ _⟩ | exact ⟨rfl, _, Eq.trans (World.drewN_drewN _ _ _) (congrArg (World.drewN _) (Nat.add_assoc _ _ _))⟩); have p11 : 0 ≤ (x7_1 : Int) := of_decide_eq_true (by first | (with_reducible assumption) | assumption); have q11 : (x7_1 : Int) < ((x5_1.length : Int) : Int) := of_decide_eq_true (by first | (with_reducible assumption) | assumption); obtain ⟨go11, co11, eo11, gb11, gl11, cl11, HG11⟩ := Kd.R_form HO_5.out (by omega); (first | cases eo11 | (injection eo11 with ea_ en_ ec_; (first | subst ea_ | (injection ea_ with ea_; subst ea_)); subst ec_; clear en_)); have GB11 := Aside0.mk gb11; have GG11 := Aside0.mk HG11; clear gb11 gl11 HG11; obtain ⟨hx11_0, hf11_0⟩ := Kd.R_celln 0 HO_5.out (x7_1 : Int) p11 q11; replace p11 := eq_true p11; replace q11 := eq_true q11; obtain ⟨hy12_, hz12_⟩ := Kd.R_celln 0 HO_5.out (x7_1 : Int) (of_decide_eq_true (by first | (with_reducible assumption) | assumption)) (of_decide_eq_true (by first | (with_reducible assumption) | assumption)); have HP12 := Kd.R_putg HO_5.out (x7_1 : Int) (Int.tmod (IntKind.u64.wrap ((IntKind.u64.wrap ((IntKind.u64.wrap ((rd l0 x7_1) + 4294967296)) - t260)) - x6_1)) 4294967296)) | ((with_reducible refine gate_store (t := 26) (p := 33) rfl ?_); (try (rw [drewN_self wr]; generalize hq_ : World.drewN wr _ = wr; have n0_ := Aside0.mk (Kd.R_at hq_ HO_5.out); have n1_ := Aside0.mk (below_at hq_ HB.out); clear hq_ HO_5 HB; have HO_5 := n0_; have HB := n1_; clear n0_ n1_; (try (obtain ⟨hy12_, hz12_⟩ := Kd.R_celln 0 HO_5.out (x7_1 : Int) (of_decide_eq_true (by first | (with_reducible assumption) | assumption)) (of_decide_eq_true (by first | (with_reducible assumption) | assumption)))); (try (have HP12 := Kd.R_putg HO_5.out (x7_1 : Int) (Int.tmod (IntKind.u64.wrap ((IntKind.u64.wrap ((IntKind.u64.wrap ((rd l0 x7_1) + 4294967296)) - t260)) - x6_1)) 4294967296))))); refine store_event (t := 26) (p := 33) (v := ?vo_w13) (w1 := (wr.setCell ⟨go11, (x7_1 : Int).toNat, none⟩ (.int .u64 (Int.tmod (IntKind.u64.wrap ((IntKind.u64.wrap ((IntKind.u64.wrap ((rd l0 x7_1) + 4294967296)) - t260)) - x6_1)) 4294967296)))) ?hg ?ho ?hn ?hr ?_; (case ho => rfl); (case hg => rfl); (case hn => rfl); (case hr => first | (go_simp; done) | (go_simp; rfl)); intro w13 hw; have hg : wr.grownBy w13 (some go11) := (by rw [hw]; exact HP12.2); have hp_ : Kd.R (Kd.int .u64) 26 w13 w.heap.size (fun _ => True) (.slice (some ⟨go11, 0, none⟩) x5_1.length co11) y261 := (by rw [hw, Ny261.out]; exact HP12.1); clear HP12; have n0_ := Aside0.mk (hp_); have n1_ := Aside0.mk ((by rw [hw]; exact below_set (HB.out) GB11.out : Below w.heap.size w w13)); clear HO_5; clear HB; have HO_5 := n0_; have HB := n1_; clear n0_ n1_; clear hg hw hp_)); try go_wp2_with (first | (go_at_call 69; (with_reducible refine (tenorref1_digit.calls _ _ l1 x7_1 t260 _ ?side1 ?side2 A9.out).mono ?_); (case side1 => repeat (first | exact (Kd.C_below HR1.out HB.out) | (with_reducible refine Kd.C_alloc ?_ _) | (with_reducible refine Kd.C_drewN ?_ _) | (with_reducible refine Kd.C_drew ?_))); (case side2 => exact HC1.out); rintro e w' ⟨rfl, ⟨nd, rfl⟩⟩; (try first | exact ⟨rfl, _, World.drewN_drewN _ _ _⟩ | exact ⟨rfl, _, Eq.trans (World.drewN_drewN _ _ _) (congrArg (World.drewN _) (Nat.add_assoc _ _ _))⟩); have p11 : 0 ≤ (x7_1 : Int) := of_decide_eq_true (by first | (with_reducible assumption) | assumption); have q11 : (x7_1 : Int) < ((x5_1.length : Int) : Int) := of_decide_eq_true (by first | (with_reducible assumption) | assumption); obtain ⟨go11, co11, eo11, gb11, gl11, cl11, HG11⟩ := Kd.R_form HO_5.out (by omega); (first | cases eo11 | (injection eo11 with ea_ en_ ec_; (first | subst ea_ | (injection ea_ with ea_; subst ea_)); subst ec_; clear en_)); have GB11 := Aside0.mk gb11; have GG11 := Aside0.mk HG11; clear gb11 gl11 HG11; obtain ⟨hx11_0, hf11_0⟩ := Kd.R_celln 0 HO_5.out (x7_1 : Int) p11 q11; replace p11 := eq_true p11; replace q11 := eq_true q11; obtain ⟨hy12_, hz12_⟩ := Kd.R_celln 0 HO_5.out (x7_1 : Int) (of_decide_eq_true (by first | (with_reducible assumption) | assumption)) (of_decide_eq_true (by first | (with_reducible assumption) | assumption)); have HP12 := Kd.R_putg HO_5.out (x7_1 : Int) (Int.tmod (IntKind.u64.wrap ((IntKind.u64.wrap ((IntKind.u64.wrap ((rd l0 x7_1) + 4294967296)) - t260)) - x6_1)) 4294967296)) | ((with_reducible refine gate_store (t := 26) (p := 33) rfl ?_); (try (rw [drewN_self wr]; generalize hq_ : World.drewN wr _ = wr; have n0_ := Aside0.mk (Kd.R_at hq_ HO_5.out); have n1_ := Aside0.mk (below_at hq_ HB.out); clear hq_ HO_5 HB; have HO_5 := n0_; have HB := n1_; clear n0_ n1_; (try (obtain ⟨hy12_, hz12_⟩ := Kd.R_celln 0 HO_5.out (x7_1 : Int) (of_decide_eq_true (by first | (with_reducible assumption) | assumption)) (of_decide_eq_true (by first | (with_reducible assumption) | assumption)))); (try (have HP12 := Kd.R_putg HO_5.out (x7_1 : Int) (Int.tmod (IntKind.u64.wrap ((IntKind.u64.wrap ((IntKind.u64.wrap ((rd l0 x7_1) + 4294967296)) - t260)) - x6_1)) 4294967296))))); refine store_event (t := 26) (p := 33) (v := ?vo_w13) (w1 := (wr.setCell ⟨go11, (x7_1 : Int).toNat, none⟩ (.int .u64 (Int.tmod (IntKind.u64.wrap ((IntKind.u64.wrap ((IntKind.u64.wrap ((rd l0 x7_1) + 4294967296)) - t260)) - x6_1)) 4294967296)))) ?hg ?ho ?hn ?hr ?_; (case ho => rfl); (case hg => rfl); (case hn => rfl); (case hr => first | (go_simp; done) | (go_simp; rfl)); intro w13 hw; have hg : wr.grownBy w13 (some go11) := (by rw [hw]; exact HP12.2); have hp_ : Kd.R (Kd.int .u64) 26 w13 w.heap.size (fun _ => True) (.slice (some ⟨go11, 0, none⟩) x5_1.length co11) y261 := (by rw [hw, Ny261.out]; exact HP12.1); clear HP12; have n0_ := Aside0.mk (hp_); have n1_ := Aside0.mk ((by rw [hw]; exact below_set (HB.out) GB11.out : Below w.heap.size w w13)); clear HO_5; clear HB; have HO_5 := n0_; have HB := n1_; clear n0_ n1_; clear hg hw hp_)))
                go_roundg k1
                case measure => have := HK1.out; omega
                case rel => exact ⟨(y261), (IntKind.u64.wrap (1 - (IntKind.u64.wrap (Int.tdiv (IntKind.u64.wrap ((IntKind.u64.wrap ((IntKind.u64.wrap ((rd l0 x7_1) + 4294967296)) - t260)) - x6_1)) 4294967296)))), (wrap64 (x7_1 + 1)), (by first | rfl | (simp; done) | (simp [*]; done)), (by first | rfl | (simp; done) | (simp [*]; done)), H', ⟨by have := HK1.out; omega⟩, ⟨by (with_reducible repeat (first | apply Kd.R_alloc | apply Kd.R_drewN | apply Kd.R_drew)); exact HO_5.out⟩, ⟨by repeat (first | (with_reducible first | exact HB.out | apply below_alloc | apply pw_below_drewN | apply below_drew1) | exact HB.out)⟩⟩
              rw [if_neg c10] at H
              exact absurd H (by simp)
            rw [if_neg c8] at H
            exact absurd H (by simp)
          rw [if_neg c7] at H
          have c7b0 : decide (x7_1 < (l0.length : Int)) = false := decide_eq_false c7
          clear c7
          replace H := Option.bind_eq_some_iff.mp H
          obtain ⟨t262, A140, H⟩ := H
          replace H : (some t262) = some r := H
          have A14 := Aside0.mk A140
          clear A140
          obtain rfl := Option.some.inj H
          obtain ⟨Ao15, co15, eo15⟩ := Kd.R_slice HO_5.out
          subst eo15
          go_wp2_with (first | (go_at_call 68; (with_reducible refine (tenorref1_trim.calls k1 (fun k_ => some k_ = (.slice Ao15 x5_1.length co15 : Value).ownBlock) (.slice Ao15 x5_1.length co15) x5_1 t262 w _ ?side1 ?side2 A14.out).mono ?_); (case side1 => repeat (first | (with_reducible first | exact HB.out | apply below_alloc | apply pw_below_drewN | apply below_drew1) | exact HB.out)); (case side2 => exact Kd.R_tight rfl HO_5.out); rintro e w16 ⟨v263, rfl, ho0, hb, hkp⟩; have n0_ := Aside0.mk (Kd.R_mono (ok' := fun k_ => True) ho0 (fun k_ hk_ => trivial)); have n1_ := Aside0.mk (hb); clear HB; clear HO_5; have HO264 := n0_; have HB := n1_; clear n0_ n1_; (try clear hb); (try clear hkp); (try clear ho0)))
          repeat (go_quiet (first | (go_at_call 68; (with_reducible refine (tenorref1_trim.calls k1 (fun k_ => some k_ = (.slice Ao15 x5_1.length co15 : Value).ownBlock) (.slice Ao15 x5_1.length co15) x5_1 t262 w _ ?side1 ?side2 A14.out).mono ?_); (case side1 => repeat (first | (with_reducible first | exact HB.out | apply below_alloc | apply pw_below_drewN | apply below_drew1) | exact HB.out)); (case side2 => exact Kd.R_tight rfl HO_5.out); rintro e w16 ⟨v263, rfl, ho0, hb, hkp⟩; have n0_ := Aside0.mk (Kd.R_mono (ok' := fun k_ => True) ho0 (fun k_ hk_ => trivial)); have n1_ := Aside0.mk (hb); clear HB; clear HO_5; have HO264 := n0_; have HB := n1_; clear n0_ n1_; (try clear hb); (try clear hkp); (try clear ho0))); try go_wp2_with (first | (go_at_call 68; (with_reducible refine (tenorref1_trim.calls k1 (fun k_ => some k_ = (.slice Ao15 x5_1.length co15 : Value).ownBlock) (.slice Ao15 x5_1.length co15) x5_1 t262 w _ ?side1 ?side2 A14.out).mono ?_); (case side1 => repeat (first | (with_reducible first | exact HB.out | apply below_alloc | apply pw_below_drewN | apply below_drew1) | exact HB.out)); (case side2 => exact Kd.R_tight rfl HO_5.out); rintro e w16 ⟨v263, rfl, ho0, hb, hkp⟩; have n0_ := Aside0.mk (Kd.R_mono (ok' := fun k_ => True) ho0 (fun k_ hk_ => trivial)); have n1_ := Aside0.mk (hb); clear HB; clear HO_5; have HO264 := n0_; have HB := n1_; clear n0_ n1_; (try clear hb); (try clear hkp); (try clear ho0))))
          go_ret
          exact ⟨_, by first | rfl | (simp [errW_none, errW_some] <;> rfl) | (simp [*, errW_none, errW_some] <;> rfl), by (with_reducible repeat (first | apply Kd.R_alloc | apply Kd.R_drewN | apply Kd.R_drew)); exact HO264.out, by repeat (first | (with_reducible first | exact HB.out | apply below_alloc | apply pw_below_drewN | apply below_drew1) | exact HB.out)⟩
    rw [if_neg c4] at H
    exact absurd H (by simp)
  rw [if_neg c3] at H
  exact absurd H (by simp)
end Go.Proofs.YtjpiplplohapnaaGreatDoor.PText
namespace Go.Proofs.YtjpiplplohapnaaGreatDoor.PText
open Go.RowKit Go.Proofs.YtjpiplplohapnaaGreatDoorW.PrintWords Go.Proofs.YtjpiplplohapnaaGreatDoorW.PrintLast Go.Proofs.YtjpiplplohapnaaGreatDoorW.PrintMore
attribute [local go_sem] max2_int min2_int max_two min_two max_three min_three max_four min_four
set_option linter.unusedVariables false
set_option linter.unusedSimpArgs false
def tenorref1_ShiftUp.l0 : Nat → List Int → Int → List Int → Int → Option (List Int)
  | 0, _, _, _, _ => none
  | k + 1, x0, x1, x5, x6 => if x6 < (x0.length : Int) then (if 0 ≤ x6 then (if 0 ≤ (Int.tmod x1 32) then (if 0 ≤ (wrap64 (x6 + (wrap64 (Int.tdiv x1 32)))) then (if (wrap64 (x6 + (wrap64 (Int.tdiv x1 32)))) < (x5.length : Int) then (if 0 ≤ (wrap64 ((wrap64 (x6 + (wrap64 (Int.tdiv x1 32)))) + 1)) then (if (wrap64 ((wrap64 (x6 + (wrap64 (Int.tdiv x1 32)))) + 1)) < (x5.length : Int) then (tenorref1_ShiftUp.l0 k x0 x1 ((x5.set ((wrap64 (x6 + (wrap64 (Int.tdiv x1 32)))) : Int).toNat (IntKind.u64.wrap ((rd x5 (wrap64 (x6 + (wrap64 (Int.tdiv x1 32))))) + (Int.tmod (shl .u64 (rd x0 x6) (Int.tmod x1 32)) 4294967296)))).set ((wrap64 ((wrap64 (x6 + (wrap64 (Int.tdiv x1 32)))) + 1)) : Int).toNat (IntKind.u64.wrap (Int.tdiv (shl .u64 (rd x0 x6) (Int.tmod x1 32)) 4294967296))) (wrap64 (x6 + 1))) else (none)) else (none)) else (none)) else (none)) else (none)) else (none)) else ((tenorref1_trim.f k x5).bind fun t211 => (some t211))
def tenorref1_ShiftUp.f (k : Nat) (l0 : List Int) (a1 : Int) : Option (List Int) := if (l0.length : Int) = 0 then (some ([] : List Int)) else (if 0 ≤ (wrap64 ((wrap64 ((l0.length : Int) + (wrap64 (Int.tdiv a1 32)))) + 1)) then (if (wrap64 ((wrap64 ((l0.length : Int) + (wrap64 (Int.tdiv a1 32)))) + 1) : Int).toNat ≤ 35184372088832 then (tenorref1_ShiftUp.l0 k l0 a1 (List.replicate (wrap64 ((wrap64 ((l0.length : Int) + (wrap64 (Int.tdiv a1 32)))) + 1) : Int).toNat 0) 0) else (none)) else (none))
set_option maxHeartbeats 8000000 in
set_option maxRecDepth 100000 in
theorem tenorref1_ShiftUp.calls (k : Nat) (A0 : Option Addr) (c0 : Nat) (l0 : List Int) (a1 : Int) (r : List Int) (w : World) (hr0 : Kd.C (Kd.int .u64) w A0 l0.length l0) (hc0 : l0.length ≤ c0) (h : tenorref1_ShiftUp.f k l0 a1 = some r) :
    Calls Tryz.prog 37 #[.slice A0 l0.length c0, .int .i64 a1] w fun e w' => ∃ v0_ : Value, e = .returned (v0_) ∧ Kd.R (Kd.int .u64) 26 w' w.heap.size (fun _ => True) v0_ r ∧ Below w.heap.size w w' := by
  have HR0 := Aside0.mk hr0
  have HC0 := Aside0.mk hc0
  clear hr0 hc0
  have HB := Aside0.mk (Below.refl w.heap.size w)
  have H : (if (l0.length : Int) = 0 then (some ([] : List Int)) else (if 0 ≤ (wrap64 ((wrap64 ((l0.length : Int) + (wrap64 (Int.tdiv a1 32)))) + 1)) then (if (wrap64 ((wrap64 ((l0.length : Int) + (wrap64 (Int.tdiv a1 32)))) + 1) : Int).toNat ≤ 35184372088832 then (tenorref1_ShiftUp.l0 k l0 a1 (List.replicate (wrap64 ((wrap64 ((l0.length : Int) + (wrap64 (Int.tdiv a1 32)))) + 1) : Int).toNat 0) 0) else (none)) else (none))) = some r := h
  clear h
  by_cases c3 : (l0.length : Int) = 0
  · rw [if_pos c3] at H
    have c3b0 : ((l0.length : Int) == 0) = true := beq_iff_eq.mpr c3
    have c3b1 : ((l0.length : Int) != 0) = false := bne_eq_false_iff_eq.mpr c3
    clear c3
    obtain rfl := Option.some.inj H
    go_enter Tryz.func37, Tryz.ntmps37
    go_wp2
    go_ret
    exact ⟨_, by first | rfl | (simp [errW_none, errW_some] <;> rfl) | (simp [*, errW_none, errW_some] <;> rfl), by first | exact Kd.R_nil _ _ _ _ _ | exact Kd.N_nil _ _ _ _ _ | exact Kd.V_nil _ _ _ _ _ | exact Kd.Q_nil _ _ _ _ _ | exact Kd.S_nil _ _ _ _ _, by repeat (first | (with_reducible first | exact HB.out | apply below_alloc | apply pw_below_drewN | apply below_drew1) | exact HB.out)⟩
  rw [if_neg c3] at H
  have c3b0 : ((l0.length : Int) == 0) = false := beq_eq_false_iff_ne.mpr c3
  have c3b1 : ((l0.length : Int) != 0) = true := bne_iff_ne.mpr c3
  have c3b2 : ¬ (l0 = []) := fun h_ => c3 (by rw [h_]; rfl)
  obtain ⟨ji4, hji4⟩ : ∃ j_ : Int, (wrap64 ((wrap64 ((l0.length : Int) + (wrap64 (Int.tdiv a1 32)))) + 1)) = j_ := ⟨_, rfl⟩
  replace H : (if 0 ≤ (ji4) then (if (ji4 : Int).toNat ≤ 35184372088832 then (tenorref1_ShiftUp.l0 k l0 a1 (List.replicate (ji4 : Int).toNat 0) 0) else (none)) else (none)) = some r := by first | (rw [hji4] at H; exact H) | (simp only [hji4] at H ⊢; exact H)
  have hji4w : (IntKind.i64.wrap ((wrap64 ((l0.length : Int) + (wrap64 (Int.tdiv a1 32)))) + 1)) = ji4 := (i64_w _).trans hji4
  by_cases c5 : 0 ≤ (ji4)
  · rw [if_pos c5] at H
    have c5b0 := eq_true c5
    have c5b1 : decide (0 ≤ (ji4)) = true := decide_eq_true c5
    clear c5
    by_cases c6 : (ji4 : Int).toNat ≤ 35184372088832
    · rw [if_pos c6] at H
      have c6b0 := eq_true c6
      have c6b1 : decide ((ji4 : Int).toNat ≤ 35184372088832) = true := decide_eq_true c6
      clear c6
      obtain ⟨y204, hy204⟩ : ∃ y_ : List Int, y_ = (List.replicate (ji4 : Int).toNat 0) := ⟨_, rfl⟩
      replace H : (tenorref1_ShiftUp.l0 k l0 a1 y204 0) = some r := by first | (rw [hy204]; with_reducible exact H) | (have H2_ := (Option.bind_some _ _).symm.trans H; rw [hy204]; with_reducible exact H2_) | (have H2_ := (Option.bind_some _ _).symm.trans H; with_reducible exact H2_) | with_reducible exact H | (rw [hy204]; exact H) | exact H
      have Ny204 := Aside0.mk hy204
      clear hy204
      have H' := Aside0.mk H
      clear H
      go_enter Tryz.func37, Tryz.ntmps37
      go_wp2_with (first | ((with_reducible refine gate_dst (N := 17) rfl ?_); refine Kd.R_make (Kd.int .u64) _ 26 rfl (N := 17) rfl 51 _ _ rfl ji4 rfl rfl Tryz.underlying51 (.int .u64 0) 8 info26 rfl (by decide) (by omega) 0 (ok := fun _ => True) (okp := fun _ => True) rfl (fun _ hk => hk) trivial (of_decide_eq_true (by first | (with_reducible assumption) | assumption)) (Nat.le_trans (Nat.mul_le_mul_right _ (of_decide_eq_true (by first | (with_reducible assumption) | assumption) : ji4.toNat ≤ 35184372088832)) (by omega)) (Below.refl _ _) (Nat.le_refl _) ?_; intro v205 w7 ho8 hb hg_ hnew_; clear hg_ hnew_; (first | rw [← Ny204.out] at ho8 | (simp only [Int.reduceToNat] at ho8; rw [← Ny204.out] at ho8)); have n0_ := Aside0.mk (Kd.R_lower ho8 (below_size (by repeat (first | (with_reducible first | exact HB.out | apply below_alloc | apply pw_below_drewN | apply below_drew1) | exact HB.out)))); have n1_ := Aside0.mk (below_step (by repeat (first | (with_reducible first | exact HB.out | apply below_alloc | apply pw_below_drewN | apply below_drew1) | exact HB.out)) hb); clear HB; have HO206 := n0_; have HB := n1_; clear n0_ n1_; clear hb ho8))
      go_loopg [6] k (fun kq v6 w' => ∃ (x5_1 : List Int) (x6_1 : Int), v6 = .int .i64 x6_1 ∧ Aside0 (tenorref1_ShiftUp.l0 kq l0 a1 x5_1 x6_1 = some r) ∧ Aside0 (kq ≤ k) ∧ Aside0 (Kd.R (Kd.int .u64) 26 w' w.heap.size (fun _ => True) v205 x5_1) ∧ Aside0 (Below w.heap.size w w'))
      case atStart => exact ⟨(y204), (0), (by first | rfl | (simp; done) | (simp [*]; done)), H', ⟨Nat.le_refl _⟩, ⟨by (with_reducible repeat (first | apply Kd.R_alloc | apply Kd.R_drewN | apply Kd.R_drew)); exact HO206.out⟩, ⟨by repeat (first | (with_reducible first | exact HB.out | apply below_alloc | apply pw_below_drewN | apply below_drew1) | exact HB.out)⟩⟩
      case round =>
        clear H'
        (try clear p2); (try clear c3); (try clear c3b0); (try clear c3b1); (try clear c3b2); (try clear c5); (try clear c5b0); (try clear c5b1); (try clear c6); (try clear c6b0); (try clear c6b1); (try clear p6)
        obtain ⟨x5_1, x6_1, rfl, HA, HK1, HO_5, HB⟩ := hrel
        cases gk with
        | zero => exact absurd HA.out (by simp [tenorref1_ShiftUp.l0])
        | succ k1 =>
          have H := HA.out
          clear HA
          simp only [tenorref1_ShiftUp.l0] at H
          by_cases c9 : x6_1 < (l0.length : Int)
          · rw [if_pos c9] at H
            have c9b0 : decide (x6_1 < (l0.length : Int)) = true := decide_eq_true c9
            clear c9
            by_cases c10 : 0 ≤ x6_1
            · rw [if_pos c10] at H
              have c10b0 : decide (0 ≤ x6_1) = true := decide_eq_true c10
              clear c10
              obtain ⟨ji11, hji11⟩ : ∃ j_ : Int, (Int.tmod a1 32) = j_ := ⟨_, rfl⟩
              replace H : (if 0 ≤ (ji11) then (if 0 ≤ (wrap64 (x6_1 + (wrap64 (Int.tdiv a1 32)))) then (if (wrap64 (x6_1 + (wrap64 (Int.tdiv a1 32)))) < (x5_1.length : Int) then (if 0 ≤ (wrap64 ((wrap64 (x6_1 + (wrap64 (Int.tdiv a1 32)))) + 1)) then (if (wrap64 ((wrap64 (x6_1 + (wrap64 (Int.tdiv a1 32)))) + 1)) < (x5_1.length : Int) then (tenorref1_ShiftUp.l0 k1 l0 a1 ((x5_1.set ((wrap64 (x6_1 + (wrap64 (Int.tdiv a1 32)))) : Int).toNat (IntKind.u64.wrap ((rd x5_1 (wrap64 (x6_1 + (wrap64 (Int.tdiv a1 32))))) + (Int.tmod (shl .u64 (rd l0 x6_1) (ji11)) 4294967296)))).set ((wrap64 ((wrap64 (x6_1 + (wrap64 (Int.tdiv a1 32)))) + 1)) : Int).toNat (IntKind.u64.wrap (Int.tdiv (shl .u64 (rd l0 x6_1) (ji11)) 4294967296))) (wrap64 (x6_1 + 1))) else (none)) else (none)) else (none)) else (none)) else (none)) = some r := by first | (rw [hji11] at H; exact H) | (simp only [hji11] at H ⊢; exact H)
              by_cases c12 : 0 ≤ (ji11)
              · rw [if_pos c12] at H
                have c12b0 := eq_true c12
                have c12b1 : decide (0 ≤ (ji11)) = true := decide_eq_true c12
                clear c12
                obtain ⟨ji13, hji13⟩ : ∃ j_ : Int, (shl .u64 (rd l0 x6_1) (ji11)) = j_ := ⟨_, rfl⟩
                replace H : (if 0 ≤ (wrap64 (x6_1 + (wrap64 (Int.tdiv a1 32)))) then (if (wrap64 (x6_1 + (wrap64 (Int.tdiv a1 32)))) < (x5_1.length : Int) then (if 0 ≤ (wrap64 ((wrap64 (x6_1 + (wrap64 (Int.tdiv a1 32)))) + 1)) then (if (wrap64 ((wrap64 (x6_1 + (wrap64 (Int.tdiv a1 32)))) + 1)) < (x5_1.length : Int) then (tenorref1_ShiftUp.l0 k1 l0 a1 ((x5_1.set ((wrap64 (x6_1 + (wrap64 (Int.tdiv a1 32)))) : Int).toNat (IntKind.u64.wrap ((rd x5_1 (wrap64 (x6_1 + (wrap64 (Int.tdiv a1 32))))) + (Int.tmod (ji13) 4294967296)))).set ((wrap64 ((wrap64 (x6_1 + (wrap64 (Int.tdiv a1 32)))) + 1)) : Int).toNat (IntKind.u64.wrap (Int.tdiv (ji13) 4294967296))) (wrap64 (x6_1 + 1))) else (none)) else (none)) else (none)) else (none)) = some r := by first | (rw [hji13] at H; exact H) | (simp only [hji13] at H ⊢; exact H)
                have hji13_ : (IntKind.u64.wrap ((rd l0 x6_1) * 2 ^ min (ji11).toNat 64)) = ji13 := hji13
                have hji13z : (ji11) ≤ 64 → (IntKind.u64.wrap ((rd l0 x6_1) * 2 ^ (ji11).toNat)) = ji13 := shl_small hji13
                obtain ⟨ji14, hji14⟩ : ∃ j_ : Int, (wrap64 (x6_1 + (wrap64 (Int.tdiv a1 32)))) = j_ := ⟨_, rfl⟩
                replace H : (if 0 ≤ (ji14) then (if (ji14) < (x5_1.length : Int) then (if 0 ≤ (wrap64 ((ji14) + 1)) then (if (wrap64 ((ji14) + 1)) < (x5_1.length : Int) then (tenorref1_ShiftUp.l0 k1 l0 a1 ((x5_1.set ((ji14) : Int).toNat (IntKind.u64.wrap ((rd x5_1 (ji14)) + (Int.tmod (ji13) 4294967296)))).set ((wrap64 ((ji14) + 1)) : Int).toNat (IntKind.u64.wrap (Int.tdiv (ji13) 4294967296))) (wrap64 (x6_1 + 1))) else (none)) else (none)) else (none)) else (none)) = some r := by first | (rw [hji14] at H; exact H) | (simp only [hji14] at H ⊢; exact H)
                have hji14w : (IntKind.i64.wrap (x6_1 + (wrap64 (Int.tdiv a1 32)))) = ji14 := (i64_w _).trans hji14
                by_cases c15 : 0 ≤ (ji14)
                · rw [if_pos c15] at H
                  have c15b0 : decide (0 ≤ (ji14)) = true := decide_eq_true c15
                  clear c15
                  by_cases c16 : (ji14) < (x5_1.length : Int)
                  · rw [if_pos c16] at H
                    have c16b0 : decide ((ji14) < (x5_1.length : Int)) = true := decide_eq_true c16
                    clear c16
                    obtain ⟨y209, hy209⟩ : ∃ y_ : List Int, y_ = (x5_1.set ((ji14) : Int).toNat (IntKind.u64.wrap ((rd x5_1 (ji14)) + (Int.tmod (ji13) 4294967296)))) := ⟨_, rfl⟩
                    replace H : (if 0 ≤ (wrap64 ((ji14) + 1)) then (if (wrap64 ((ji14) + 1)) < (x5_1.length : Int) then (tenorref1_ShiftUp.l0 k1 l0 a1 (y209.set ((wrap64 ((ji14) + 1)) : Int).toNat (IntKind.u64.wrap (Int.tdiv (ji13) 4294967296))) (wrap64 (x6_1 + 1))) else (none)) else (none)) = some r := by first | (rw [hy209]; with_reducible exact H) | (have H2_ := (Option.bind_some _ _).symm.trans H; rw [hy209]; with_reducible exact H2_) | (have H2_ := (Option.bind_some _ _).symm.trans H; with_reducible exact H2_) | with_reducible exact H | (rw [hy209]; exact H) | exact H
                    have Ny209 := Aside0.mk hy209
                    clear hy209
                    obtain ⟨ji18, hji18⟩ : ∃ j_ : Int, (wrap64 ((ji14) + 1)) = j_ := ⟨_, rfl⟩
                    replace H : (if 0 ≤ (ji18) then (if (ji18) < (x5_1.length : Int) then (tenorref1_ShiftUp.l0 k1 l0 a1 (y209.set ((ji18) : Int).toNat (IntKind.u64.wrap (Int.tdiv (ji13) 4294967296))) (wrap64 (x6_1 + 1))) else (none)) else (none)) = some r := by first | (rw [hji18] at H; exact H) | (simp only [hji18] at H ⊢; exact H)
                    have hji18w : (IntKind.i64.wrap ((ji14) + 1)) = ji18 := (i64_w _).trans hji18
                    by_cases c19 : 0 ≤ (ji18)
                    · rw [if_pos c19] at H
                      have c19b0 : decide (0 ≤ (ji18)) = true := decide_eq_true c19
                      clear c19
                      by_cases c20 : (ji18) < (x5_1.length : Int)
                      · rw [if_pos c20] at H
                        have c20b0 : decide ((ji18) < (x5_1.length : Int)) = true := decide_eq_true c20
                        clear c20
                        obtain ⟨y210, hy210⟩ : ∃ y_ : List Int, y_ = (y209.set ((ji18) : Int).toNat (IntKind.u64.wrap (Int.tdiv (ji13) 4294967296))) := ⟨_, rfl⟩
                        replace H : (tenorref1_ShiftUp.l0 k1 l0 a1 y210 (wrap64 (x6_1 + 1))) = some r := by first | (rw [hy210]; with_reducible exact H) | (have H2_ := (Option.bind_some _ _).symm.trans H; rw [hy210]; with_reducible exact H2_) | (have H2_ := (Option.bind_some _ _).symm.trans H; with_reducible exact H2_) | with_reducible exact H | (rw [hy210]; exact H) | exact H
                        have Ny210 := Aside0.mk hy210
                        clear hy210
                        have H' := Aside0.mk H
                        clear H
                        have p207 : 0 ≤ (x6_1 : Int) := of_decide_eq_true (by first | (with_reducible assumption) | assumption)
                        have q207 : x6_1 < (l0.length : Int) := of_decide_eq_true (by first | (with_reducible assumption) | assumption)
                        obtain ⟨ad207, e207, hx207_0⟩ := Kd.at_int HR0.out x6_1 p207 q207
                        cases e207
                        replace hx207_0 := (HB.out.cell (World.block_lt_of_cell? w _ hx207_0)).trans hx207_0
                        replace p207 := eq_true p207
                        replace q207 := eq_true q207
                        obtain ⟨Ao22, co22, eo22⟩ := Kd.R_slice HO_5.out
                        subst eo22
                        have p208 : 0 ≤ ((ji14) : Int) := of_decide_eq_true (by first | (with_reducible assumption) | assumption)
                        have q208 : (ji14) < (x5_1.length : Int) := of_decide_eq_true (by first | (with_reducible assumption) | assumption)
                        obtain ⟨ad208, e208, hx208_0⟩ := Kd.at_int (Kd.R_reads' HO_5.out).2.2 (ji14) p208 q208
                        cases e208
                        replace p208 := eq_true p208
                        replace q208 := eq_true q208
                        have p17 : 0 ≤ ((ji14) : Int) := of_decide_eq_true (by first | (with_reducible assumption) | assumption)
                        have q17 : ((ji14) : Int) < ((x5_1.length : Int) : Int) := of_decide_eq_true (by first | (with_reducible assumption) | assumption)
                        obtain ⟨go17, co17, eo17, gb17, gl17, cl17, HG17⟩ := Kd.R_form HO_5.out (by omega)
                        (first | cases eo17 | (injection eo17 with ea_ en_ ec_; (first | subst ea_ | (injection ea_ with ea_; subst ea_)); subst ec_; clear en_))
                        have GB17 := Aside0.mk gb17
                        have GG17 := Aside0.mk HG17
                        clear gb17 gl17 HG17
                        (first | simp only [add_plain] at hx208_0 | skip)
                        obtain ⟨hx17_0, hf17_0⟩ := Kd.R_celln 0 HO_5.out ((ji14) : Int) p17 q17
                        replace p17 := eq_true p17
                        replace q17 := eq_true q17
                        have HP23 := Kd.R_putg HO_5.out ((ji14) : Int) (IntKind.u64.wrap ((rd x5_1 (ji14)) + (Int.tmod (ji13) 4294967296)))
                        go_wp2_with (first | ((with_reducible refine gate_store (t := 26) (p := 46) rfl ?_); refine store_event (t := 26) (p := 46) (v := ?vo_w24) (w1 := (wr.setCell ⟨go17, ((ji14) : Int).toNat, none⟩ (.int .u64 (IntKind.u64.wrap ((rd x5_1 (ji14)) + (Int.tmod (ji13) 4294967296)))))) ?hg ?ho ?hn ?hr ?_; (case ho => rfl); (case hg => rfl); (case hn => rfl); (case hr => first | (go_simp; done) | (go_simp; rfl)); intro w24 hw; have hg : wr.grownBy w24 (some go17) := (by rw [hw]; exact HP23.2); have hp_ : Kd.R (Kd.int .u64) 26 w24 w.heap.size (fun _ => True) (.slice (some ⟨go17, 0, none⟩) x5_1.length co22) y209 := (by rw [hw, Ny209.out]; exact HP23.1); clear HP23; have n0_ := Aside0.mk (hp_); have n1_ := Aside0.mk ((by rw [hw]; exact below_set (HB.out) GB17.out : Below w.heap.size w w24)); clear HO_5; clear HB; have HO_5 := n0_; have HB := n1_; clear n0_ n1_; clear hg hw hp_; have p21 : 0 ≤ ((ji18) : Int) := of_decide_eq_true (by first | (with_reducible assumption) | assumption); have q21 : ((ji18) : Int) < ((x5_1.length : Int) : Int) := of_decide_eq_true (by first | (with_reducible assumption) | assumption); obtain ⟨hx21_0, hf21_0⟩ := Kd.R_celln 0 HO_5.out ((ji18) : Int) p21 q21; replace p21 := eq_true p21; replace q21 := eq_true q21; obtain ⟨hy25_, hz25_⟩ := Kd.R_celln 0 HO_5.out ((ji18) : Int) (of_decide_eq_true (by first | (with_reducible assumption) | assumption)) (of_decide_eq_true (by first | (with_reducible assumption) | assumption)); have HP25 := Kd.R_putg HO_5.out ((ji18) : Int) (IntKind.u64.wrap (Int.tdiv (ji13) 4294967296))) | ((with_reducible refine gate_store (t := 26) (p := 55) rfl ?_); refine store_event (t := 26) (p := 55) (v := ?vo_w26) (w1 := (w24.setCell ⟨go17, ((ji18) : Int).toNat, none⟩ (.int .u64 (IntKind.u64.wrap (Int.tdiv (ji13) 4294967296))))) ?hg ?ho ?hn ?hr ?_; (case ho => rfl); (case hg => rfl); (case hn => rfl); (case hr => first | (go_simp; done) | (go_simp; rfl)); intro w26 hw; have hg : w24.grownBy w26 (some go17) := (by rw [hw]; exact HP25.2); have hp_ : Kd.R (Kd.int .u64) 26 w26 w.heap.size (fun _ => True) (.slice (some ⟨go17, 0, none⟩) x5_1.length co22) y210 := (by rw [hw, Ny210.out]; exact HP25.1); clear HP25; have n0_ := Aside0.mk (hp_); have n1_ := Aside0.mk ((by rw [hw]; exact below_set (HB.out) GB17.out : Below w.heap.size w w26)); clear HO_5; clear HB; have HO_5 := n0_; have HB := n1_; clear n0_ n1_; clear hg hw hp_))
                        go_roundg k1
                        case measure => have := HK1.out; omega
                        case rel => exact ⟨(y210), (wrap64 (x6_1 + 1)), (by first | rfl | (simp; done) | (simp [*]; done)), H', ⟨by have := HK1.out; omega⟩, ⟨by (with_reducible repeat (first | apply Kd.R_alloc | apply Kd.R_drewN | apply Kd.R_drew)); exact HO_5.out⟩, ⟨by repeat (first | (with_reducible first | exact HB.out | apply below_alloc | apply pw_below_drewN | apply below_drew1) | exact HB.out)⟩⟩
                      rw [if_neg c20] at H
                      exact absurd H (by simp)
                    rw [if_neg c19] at H
                    exact absurd H (by simp)
                  rw [if_neg c16] at H
                  exact absurd H (by simp)
                rw [if_neg c15] at H
                exact absurd H (by simp)
              rw [if_neg c12] at H
              exact absurd H (by simp)
            rw [if_neg c10] at H
            exact absurd H (by simp)
          rw [if_neg c9] at H
          have c9b0 : decide (x6_1 < (l0.length : Int)) = false := decide_eq_false c9
          clear c9
          replace H := Option.bind_eq_some_iff.mp H
          obtain ⟨t211, A270, H⟩ := H
          replace H : (some t211) = some r := H
          have A27 := Aside0.mk A270
          clear A270
          obtain rfl := Option.some.inj H
          obtain ⟨Ao28, co28, eo28⟩ := Kd.R_slice HO_5.out
          subst eo28
          go_wp2_with (first | ((with_reducible refine gate_callee (f := 68) rfl ?_); refine goesL_ (some 57) rfl rfl Tryz.func68 (by kernel_rfl) rfl #[.slice Ao28 x5_1.length co28] rfl (by (try simp only [List.map_toArray, List.map_cons, List.map_nil]); first | done | rfl | (simp only [List.length_drop, List.length_take]; rfl)) ?_; (with_reducible refine (tenorref1_trim.calls k1 (fun k_ => some k_ = (.slice Ao28 x5_1.length co28 : Value).ownBlock) (.slice Ao28 x5_1.length co28) x5_1 t211 w _ ?side1 ?side2 A27.out).mono ?_); (case side1 => repeat (first | (with_reducible first | exact HB.out | apply below_alloc | apply pw_below_drewN | apply below_drew1) | exact HB.out)); (case side2 => exact Kd.R_tight rfl HO_5.out); rintro e w29 ⟨v212, rfl, ho0, hb, hkp⟩; refine ⟨_, rfl, ?_⟩; have n0_ := Aside0.mk (Kd.R_mono (ok' := fun k_ => True) ho0 (fun k_ hk_ => trivial)); have n1_ := Aside0.mk (hb); clear HB; clear HO_5; have HO213 := n0_; have HB := n1_; clear n0_ n1_; (try clear hb); (try clear hkp); (try clear ho0)))
          go_ret
          exact ⟨_, by first | rfl | (simp [errW_none, errW_some] <;> rfl) | (simp only [← hji4]; first | rfl | (simp [errW_none, errW_some] <;> rfl)) | (simp [*, errW_none, errW_some] <;> rfl), by (with_reducible repeat (first | apply Kd.R_alloc | apply Kd.R_drewN | apply Kd.R_drew)); exact HO213.out, by repeat (first | (with_reducible first | exact HB.out | apply below_alloc | apply pw_below_drewN | apply below_drew1) | exact HB.out)⟩
    rw [if_neg c6] at H
    exact absurd H (by simp)
  rw [if_neg c5] at H
  exact absurd H (by simp)
end Go.Proofs.YtjpiplplohapnaaGreatDoor.PText
namespace Go.Proofs.YtjpiplplohapnaaGreatDoor.Big
open Go.RowKit Go.Proofs.YtjpiplplohapnaaGreatDoorW.PrintWords Go.Proofs.YtjpiplplohapnaaGreatDoor.PText
def cmp3 (a b : Nat) : Int := if a < b then -1 else if b < a then 1 else 0
theorem div_dig (a i : Nat) : a / B ^ i = a / B ^ (i + 1) * B + dig a i := by
  unfold dig
  rw [Nat.pow_succ, ← Nat.div_div_eq_div_mul]
  have := Nat.div_add_mod (a / B ^ i) B
  rw [Nat.mul_comm] at this
  exact this.symm
theorem lt_of_div_lt {a b i : Nat} (h : a / B ^ i < b / B ^ i) : a < b := by
  rcases Nat.lt_or_ge a b with h1 | h1
  · exact h1
  · have := Nat.div_le_div_right (c := B ^ i) h1
    omega
theorem cmp_l0 (a b L : Nat) (ha : ln a = L) (hb : ln b = L) (hL : L ≤ top) : ∀ i, i ≤ L → a / B ^ i = b / B ^ i → Ev (fun k => tenorref1_CmpDigits.l0 k (dg a) (dg b) ((i : Int) - 1)) (cmp3 a b)
  | 0, _, h => by
    have e : a = b := by simpa using h
    subst e
    refine Ev.step (f := fun _ => some 0) (fun k => ?_) ?_
    · rw [tenorref1_CmpDigits.l0, if_neg (by omega)]
    · have : cmp3 a a = 0 := by unfold cmp3; rw [if_neg (by omega), if_neg (by omega)]
      rw [this]; exact Ev.now _
  | i + 1, hi, h => by
    have la : (dg a).length = L := by rw [dg_length, ha]
    have lb : (dg b).length = L := by rw [dg_length, hb]
    have e1 : ((i + 1 : Nat) : Int) - 1 = i := by omega
    have da := div_dig a i
    have db := div_dig b i
    rw [h] at da
    have ra := rd_dg a i (by omega)
    have rb := rd_dg b i (by omega)
    rw [e1]
    by_cases h1 : dig a i < dig b i
    · refine Ev.step (f := fun _ => some (-1)) (fun k => ?_) ?_
      · rw [tenorref1_CmpDigits.l0, if_pos (by omega), if_pos (by omega), if_pos (by omega), if_pos (by omega), ra, rb, if_pos (by omega)]
      · have : a < b := lt_of_div_lt (i := i) (by omega)
        unfold cmp3; rw [if_pos this]; exact Ev.now _
    · by_cases h2 : dig b i < dig a i
      · refine Ev.step (f := fun _ => some 1) (fun k => ?_) ?_
        · rw [tenorref1_CmpDigits.l0, if_pos (by omega), if_pos (by omega), if_pos (by omega), if_pos (by omega), ra, rb, if_neg (by omega), if_pos (by omega)]
        · have : b < a := lt_of_div_lt (i := i) (by omega)
          unfold cmp3; rw [if_neg (by omega), if_pos this]; exact Ev.now _
      · refine Ev.step (f := fun k => tenorref1_CmpDigits.l0 k (dg a) (dg b) ((i : Int) - 1)) (fun k => ?_) (cmp_l0 a b L ha hb hL i (by omega) (by omega))
        rw [tenorref1_CmpDigits.l0, if_pos (by omega), if_pos (by omega), if_pos (by omega), if_pos (by omega), ra, rb, if_neg (by omega), if_neg (by omega), w64 (by omega) (by unfold top at hL; omega)]
theorem cmp_ev (a b : Nat) (ha : ln a ≤ top) (hb : ln b ≤ top) : Ev (fun k => tenorref1_CmpDigits.f k (dg a) (dg b)) (cmp3 a b) := by
  rcases Nat.lt_trichotomy (ln a) (ln b) with h | h | h
  · have hlt : a < b := by
      rcases Nat.lt_or_ge a b with h1 | h1
      · exact h1
      · have := ln_mono h1; omega
    refine Ev.congr (f := fun _ => some (-1)) (fun k => ?_) ?_
    · unfold tenorref1_CmpDigits.f
      rw [dg_length, dg_length, if_neg (by omega), if_pos (by omega)]
    · unfold cmp3; rw [if_pos hlt]; exact Ev.now _
  · refine Ev.congr (f := fun k => tenorref1_CmpDigits.l0 k (dg a) (dg b) ((ln a : Int) - 1)) (fun k => ?_) (cmp_l0 a b (ln a) rfl h.symm ha (ln a) (Nat.le_refl _) ?_)
    · unfold tenorref1_CmpDigits.f
      rw [dg_length, dg_length, if_pos (by omega), w64 (by omega) (by unfold top at ha; omega)]
    · rw [Nat.div_eq_of_lt (lt_pow_ln a), h, Nat.div_eq_of_lt (lt_pow_ln b)]
  · have hlt : b < a := by
      rcases Nat.lt_or_ge b a with h1 | h1
      · exact h1
      · have := ln_mono h1; omega
    refine Ev.congr (f := fun _ => some 1) (fun k => ?_) ?_
    · unfold tenorref1_CmpDigits.f
      rw [dg_length, dg_length, if_neg (by omega), if_neg (by omega)]
    · unfold cmp3; rw [if_neg (by omega), if_pos hlt]; exact Ev.now _
theorem sub_l0 (a b : Nat) (L : Nat) (hL : L = ln a) (ht : L ≤ top) (hab : b ≤ a) :
    ∀ (d i m c : Nat), d + i = L → m < B ^ i → c ≤ 1 → m + b % B ^ i = a % B ^ i + c * B ^ i →
    Ev (fun k => tenorref1_SubDigits.l0 k (dg a) (dg b) (dgL L m) (c : Int) (i : Int)) (dg (a - b)) := by
  intro d
  have hB : B = 4294967296 := rfl
  have haL : a < B ^ L := hL ▸ lt_pow_ln a
  induction d with
  | zero =>
    intro i m c hd hm hc he
    obtain rfl : i = L := by omega
    have ha : a % B ^ i = a := Nat.mod_eq_of_lt (by omega)
    have hb : b % B ^ i = b := Nat.mod_eq_of_lt (by omega)
    rw [ha, hb] at he
    have hc0 : c = 0 := by
      rcases Nat.lt_or_ge 0 c with h | h
      · obtain rfl : c = 1 := by omega
        omega
      · omega
    subst hc0
    obtain rfl : m = a - b := by omega
    refine Ev.step (f := fun k => (tenorref1_trim.f k (dgL i (a - b))).bind fun t => some t) (fun k => ?_) (Ev.bind (f := fun _ t => some t) (trim_ev i _ ht hm) (Ev.now _))
    simp only [tenorref1_SubDigits.l0]
    rw [dg_length, if_neg (by omega)]
  | succ d ih =>
    intro i m c hd hm hc he
    have x1 := dig_lt a i
    have x2 := dig_lt b i
    obtain ⟨s, hs⟩ : ∃ s, s + dig b i + c = dig a i + B := ⟨dig a i + B - dig b i - c, by omega⟩
    have hset := setD_eq m i (s % B)
    have hz : dig m i = 0 := dig_of_lt hm
    rw [hz] at hset
    have hcs : s / B ≤ 1 := Nat.le_of_lt_succ (divB_lt s 2 (by omega))
    have hmi : setD m i (s % B) < B ^ (i + 1) := by
      have h1 := Nat.mod_lt s Bpos
      have h2 : (s % B + 1) * B ^ i ≤ B * B ^ i := Nat.mul_le_mul_right _ h1
      rw [Nat.add_mul] at h2
      rw [Nat.pow_succ']; omega
    refine Ev.step (fun k => ?_) (ih (i + 1) (setD m i (s % B)) (1 - s / B) (by omega) hmi (Nat.sub_le 1 _) ?_)
    · simp only [tenorref1_SubDigits.l0]
      rw [dg_length, if_pos (by omega), if_pos (by omega), digit_dg]
      simp only [Option.bind_some]
      rw [dgL_length, if_pos (by omega), Int.toNat_natCast, rd_dg _ _ (by omega)]
      have e3 : ((dig a i : Nat) : Int) + 4294967296 = ((dig a i + B : Nat) : Int) := by omega
      rw [e3, wun _ (by omega)]
      have e4 : ((dig a i + B : Nat) : Int) - ((dig b i : Nat) : Int) = ((s + c : Nat) : Int) := by omega
      rw [e4, wun _ (by omega)]
      have e7 : ((s + c : Nat) : Int) - (c : Int) = (s : Int) := by omega
      rw [e7, wun _ (by omega)]
      have e5 : Int.tmod (s : Int) 4294967296 = ((s % B : Nat) : Int) := by rw [Int.tmod_eq_emod_of_nonneg (by omega)]; rfl
      have e6 : Int.tdiv (s : Int) 4294967296 = ((s / B : Nat) : Int) := by rw [Int.tdiv_eq_ediv_of_nonneg (by omega)]; rfl
      rw [e5, e6, wun (s / B) (by omega), set_dgL _ _ _ _ (by omega) (Nat.mod_lt _ Bpos), w64 (by omega) (by unfold top at ht; omega)]
      have e8 : (1 : Int) - ((s / B : Nat) : Int) = ((1 - s / B : Nat) : Int) := by omega
      rw [e8, wun _ (Nat.lt_of_le_of_lt (Nat.sub_le 1 _) (by omega))]
      rfl
    · rw [mod_step a i, mod_step b i, Nat.pow_succ']
      have hdm := Nat.div_add_mod s B
      have t3 : (s + dig b i + c) * B ^ i = (dig a i + B) * B ^ i := by rw [hs]
      have t2 : (B * (s / B) + s % B) * B ^ i = s * B ^ i := by rw [hdm]
      have t4 : (1 - s / B) * (B * B ^ i) + B * (s / B) * B ^ i = B * B ^ i := by
        rw [Nat.mul_comm B (s / B), Nat.mul_assoc, ← Nat.add_mul]
        rw [show 1 - s / B + s / B = 1 by omega, Nat.one_mul]
      rw [Nat.add_mul, Nat.add_mul] at t3
      rw [Nat.add_mul] at t3 t2
      omega
theorem sub_ev (a b : Nat) (ht : ln a ≤ top) (hab : b ≤ a) : Ev (fun k => tenorref1_SubDigits.f k (dg a) (dg b)) (dg (a - b)) := by
  refine Ev.congr (fun k => ?_) (sub_l0 a b (ln a) rfl ht hab (ln a) 0 0 0 (by omega) (by simp) (by omega) (by simp [Nat.mod_one]))
  unfold tenorref1_SubDigits.f
  unfold top at ht
  rw [dg_length, if_pos (by omega), if_pos (by omega)]
  rw [Int.toNat_natCast, dgL_zero]
  rfl
theorem setD_add (m j y : Nat) : setD m j (dig m j + y) = m + y * B ^ j := by
  have := setD_eq m j (dig m j + y)
  rw [Nat.add_mul] at this
  omega
theorem shl_ev (x r : Nat) (hr : r ≤ 32) (hx : x < 4294967296) : shl .u64 (x : Int) (r : Int) = ((x * 2 ^ r : Nat) : Int) := by
  have h32 : (2 : Nat) ^ r ≤ 2 ^ 32 := Nat.pow_le_pow_right (by omega) hr
  have h1 : x * 2 ^ r ≤ x * 2 ^ 32 := Nat.mul_le_mul_left _ h32
  have h2 : x * 2 ^ r < 18446744073709551616 := by
    have : (2 : Nat) ^ 32 = 4294967296 := by decide
    omega
  unfold shl
  rw [Nat.min_eq_left (by show ((r : Int)).toNat ≤ 64; omega), Int.toNat_natCast]
  rw [← wun _ h2]
  congr 1
theorem up_l0 (a n q r L : Nat) (hn : n = 32 * q + r) (hr : r < 32) (hL : L = ln a + q + 1) (ht : L ≤ top) :
    ∀ (d i m : Nat), d + i = ln a → m = a % B ^ i * 2 ^ n → Ev (fun k => tenorref1_ShiftUp.l0 k (dg a) (n : Int) (dgL L m) (i : Int)) (dg (a * 2 ^ n)) := by
  have hB : B = 4294967296 := rfl
  have h2n : 2 ^ n = B ^ q * 2 ^ r := by rw [hn, Nat.pow_add, B_eq]
  have h2r : 2 ^ r < B := by
    have := Nat.pow_lt_pow_right (a := 2) (by omega) hr
    have : (2 : Nat) ^ 32 = B := by decide
    omega
  have hrp : 0 < 2 ^ r := Nat.pow_pos (by omega)
  intro d
  induction d with
  | zero =>
    intro i m hd hm
    obtain rfl : i = ln a := by omega
    have ha : a % B ^ ln a = a := Nat.mod_eq_of_lt (lt_pow_ln a)
    rw [ha] at hm
    subst hm
    have hlt : a * 2 ^ n < B ^ L := by
      rw [h2n, hL, Nat.pow_add, Nat.pow_add, Nat.pow_one, Nat.mul_assoc]
      exact Nat.mul_lt_mul'' (lt_pow_ln a) (Nat.mul_lt_mul_of_pos_left h2r (Bpow_pos q))
    refine Ev.step (f := fun k => (tenorref1_trim.f k (dgL L (a * 2 ^ n))).bind fun t => some t) (fun k => ?_) (Ev.bind (f := fun _ t => some t) (trim_ev L _ ht hlt) (Ev.now _))
    simp only [tenorref1_ShiftUp.l0]
    rw [dg_length, if_neg (by omega)]
  | succ d ih =>
    intro i m hd hm
    have x1 := dig_lt a i
    have hmlt : m < 2 ^ r * B ^ (i + q) := by
      rw [hm, h2n, Nat.pow_add, ← Nat.mul_assoc, Nat.mul_comm (2 ^ r)]
      exact Nat.mul_lt_mul_of_pos_right (Nat.mul_lt_mul_of_pos_right (Nat.mod_lt _ (Bpow_pos i)) (Bpow_pos q)) hrp
    obtain ⟨x, hx⟩ : ∃ x, x = dig a i * 2 ^ r := ⟨_, rfl⟩
    have hdm : dig m (i + q) < 2 ^ r := by
      have : m / B ^ (i + q) < 2 ^ r := Nat.div_lt_of_lt_mul (by rw [Nat.mul_comm]; exact hmlt)
      exact Nat.lt_of_le_of_lt (Nat.mod_le _ _) this
    have hsum : dig m (i + q) + x % B < B := by
      have hBr : B = 2 ^ (32 - r) * 2 ^ r := by rw [← Nat.pow_add, show 32 - r + r = 32 by omega]
      have h1 : x % B = dig a i % 2 ^ (32 - r) * 2 ^ r := by rw [hx, hBr, Nat.mul_mod_mul_right]
      have h2 : dig a i % 2 ^ (32 - r) < 2 ^ (32 - r) := Nat.mod_lt _ (Nat.pow_pos (by omega))
      have h3 : (dig a i % 2 ^ (32 - r) + 1) * 2 ^ r ≤ 2 ^ (32 - r) * 2 ^ r := Nat.mul_le_mul_right _ h2
      rw [Nat.add_mul, ← hBr] at h3
      omega
    have hxB : x / B < B := by
      have : x < B * B := by rw [hx]; exact Nat.mul_lt_mul'' x1 h2r
      exact Nat.div_lt_of_lt_mul this
    have hmi : m < B ^ (i + q + 1) := by
      have := Nat.mul_le_mul_right (B ^ (i + q)) (Nat.le_of_lt h2r)
      rw [Nat.pow_succ']; omega
    have hm1 : m + x % B * B ^ (i + q) < B ^ (i + q + 1) := by
      have h1 := Nat.div_add_mod m (B ^ (i + q))
      have h2 := Nat.mod_lt m (Bpow_pos (i + q))
      have h3 : m / B ^ (i + q) = dig m (i + q) := by
        unfold dig
        rw [Nat.mod_eq_of_lt]
        have : m / B ^ (i + q) < 2 ^ r := Nat.div_lt_of_lt_mul (by rw [Nat.mul_comm]; exact hmlt)
        omega
      rw [h3, Nat.mul_comm] at h1
      have h4 : (dig m (i + q) + x % B + 1) * B ^ (i + q) ≤ B * B ^ (i + q) := Nat.mul_le_mul_right _ hsum
      rw [Nat.add_mul, Nat.add_mul] at h4
      rw [Nat.pow_succ']; omega
    have hz : dig (m + x % B * B ^ (i + q)) (i + q + 1) = 0 := dig_of_lt hm1
    have s1 : setD m (i + q) (dig m (i + q) + x % B) = m + x % B * B ^ (i + q) := setD_add _ _ _
    have s2 : setD (m + x % B * B ^ (i + q)) (i + q + 1) (x / B) = m + x * B ^ (i + q) := by
      have := setD_add (m + x % B * B ^ (i + q)) (i + q + 1) (x / B)
      rw [hz, Nat.zero_add] at this
      rw [this, Nat.pow_succ', ← Nat.mul_assoc]
      have hdv := Nat.div_add_mod x B
      have t : (B * (x / B) + x % B) * B ^ (i + q) = x * B ^ (i + q) := by rw [hdv]
      rw [Nat.add_mul, Nat.mul_comm B] at t
      omega
    refine Ev.step (fun k => ?_) (ih (i + 1) (m + x * B ^ (i + q)) (by omega) ?_)
    · simp only [tenorref1_ShiftUp.l0]
      have e1 : Int.tmod (n : Int) 32 = (r : Int) := by rw [Int.tmod_eq_emod_of_nonneg (by omega)]; omega
      have e2 : Int.tdiv (n : Int) 32 = (q : Int) := by rw [Int.tdiv_eq_ediv_of_nonneg (by omega)]; omega
      have t9 : top = 1000000000 := rfl
      rw [e1, e2, w64 (x := (q : Int)) (by omega) (by omega)]
      rw [show (i : Int) + (q : Int) = ((i + q : Nat) : Int) by omega, w64 (x := ((i + q : Nat) : Int)) (by omega) (by omega)]
      rw [show ((i + q : Nat) : Int) + 1 = ((i + q + 1 : Nat) : Int) by omega, w64 (x := ((i + q + 1 : Nat) : Int)) (by omega) (by omega)]
      rw [dg_length, dgL_length, if_pos (by omega), if_pos (by omega), if_pos (by omega), if_pos (by omega), if_pos (by omega), if_pos (by omega), if_pos (by omega)]
      rw [rd_dg _ _ (by omega), rd_dgL _ _ _ (by omega), shl_ev _ _ (by omega) x1, ← hx]
      have e5 : Int.tmod (x : Int) 4294967296 = ((x % B : Nat) : Int) := by rw [Int.tmod_eq_emod_of_nonneg (by omega)]; rfl
      have e6 : Int.tdiv (x : Int) 4294967296 = ((x / B : Nat) : Int) := by rw [Int.tdiv_eq_ediv_of_nonneg (by omega)]; rfl
      rw [e5, e6, show ((dig m (i + q) : Nat) : Int) + ((x % B : Nat) : Int) = ((dig m (i + q) + x % B : Nat) : Int) by omega, wun _ (by omega), wun _ (by omega), Int.toNat_natCast, Int.toNat_natCast]
      rw [set_dgL _ _ _ _ (by omega) hsum, s1, set_dgL _ _ _ _ (by omega) hxB, s2, w64 (by omega) (by omega)]
      rfl
    · rw [mod_step, Nat.add_mul, ← hm, hx, h2n]
      congr 1
      rw [Nat.pow_add]
      simp only [Nat.mul_assoc, Nat.mul_comm, Nat.mul_left_comm]
theorem up_ev (a n : Nat) (hn : n ≤ 10000000) (ht : ln a ≤ 10000000) : Ev (fun k => tenorref1_ShiftUp.f k (dg a) (n : Int)) (dg (a * 2 ^ n)) := by
  have t9 : top = 1000000000 := rfl
  by_cases h0 : ln a = 0
  · have : a = 0 := by
      have := lt_pow_ln a
      rw [h0] at this
      simpa using this
    subst this
    refine Ev.congr (f := fun _ => some (dg (0 * 2 ^ n))) (fun k => ?_) (Ev.now _)
    unfold tenorref1_ShiftUp.f
    rw [dg_length, if_pos (by omega), Nat.zero_mul]
    simp [dg, ln_zero, dgL]
  · refine Ev.congr (fun k => ?_) (up_l0 a n (n / 32) (n % 32) (ln a + n / 32 + 1) (by omega) (by omega) rfl (by omega) (ln a) 0 0 (by omega) (by simp [Nat.mod_one]))
    unfold tenorref1_ShiftUp.f
    have e2 : Int.tdiv (n : Int) 32 = ((n / 32 : Nat) : Int) := by rw [Int.tdiv_eq_ediv_of_nonneg (by omega)]; omega
    rw [e2, w64 (x := ((n / 32 : Nat) : Int)) (by omega) (by omega), dg_length, if_neg (by omega)]
    rw [show ((ln a : Nat) : Int) + ((n / 32 : Nat) : Int) = ((ln a + n / 32 : Nat) : Int) by omega, w64 (x := ((ln a + n / 32 : Nat) : Int)) (by omega) (by omega)]
    rw [show ((ln a + n / 32 : Nat) : Int) + 1 = ((ln a + n / 32 + 1 : Nat) : Int) by omega, w64 (x := ((ln a + n / 32 + 1 : Nat) : Int)) (by omega) (by omega)]
    rw [if_pos (by omega), Int.toNat_natCast, if_pos (by omega), dgL_zero]
    rfl
end Go.Proofs.YtjpiplplohapnaaGreatDoor.Big
