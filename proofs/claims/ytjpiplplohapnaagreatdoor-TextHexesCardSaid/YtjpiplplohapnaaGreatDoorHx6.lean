/- Part 6 of the proof: RUnB. -/
import Derived.Test.YtjpiplplohapnaaGreatDoorHx5
set_option linter.unusedVariables false
set_option linter.unusedSimpArgs false
namespace Go.Proofs.YtjpiplplohapnaaGreatDoor.PText
open Go.RowKit Go.Proofs.YtjpiplplohapnaaGreatDoorW.PrintWords Go.Proofs.YtjpiplplohapnaaGreatDoorW.PrintLast Go.Proofs.YtjpiplplohapnaaGreatDoorW.PrintMore
attribute [local go_sem] max2_int min2_int max_two min_two max_three min_three max_four min_four
set_option linter.unusedVariables false
set_option linter.unusedSimpArgs false
set_option maxHeartbeats 8000000 in
set_option maxRecDepth 100000 in
theorem tenorref2_Unhex.calls (k : Nat) (a0 : ByteArray) (r1 : Int) (r2 : Int) (w : World) (h : tenorref2_Unhex.f k a0 = some (r1, r2)) :
    Calls Tryz.prog 22 #[.string a0] w fun e w' => e = .returned (.tuple #[.int .u64 r1, .int .i64 r2]) ∧ Below w.heap.size w w' := by
  have HB := Aside0.mk (Below.refl w.heap.size w)
  have H : (if (a0.size : Int) > 40 then (some (0, 20)) else (if 0 < (a0.size : Int) then (tenorref2_Unhex.j0 k a0 0 ((bt a0 0) == 45)) else (tenorref2_Unhex.j0 k a0 0 false))) = some (r1, r2) := h
  clear h
  by_cases c2 : (a0.size : Int) > 40
  · rw [if_pos c2] at H
    have c2b0 : decide (40 < (a0.size : Int)) = true := decide_eq_true c2
    have c2b1 : decide (40 < a0.size) = true := decide_eq_true (by omega)
    clear c2
    simp only [Option.some.injEq, Prod.mk.injEq] at H
    obtain ⟨rfl, rfl⟩ := H
    go_enter Tryz.func22, Tryz.ntmps22
    go_wp2
    go_ret2
    exact ⟨by first | rfl | (simp [errW_none, errW_some] <;> rfl) | (simp [*, errW_none, errW_some] <;> rfl), by repeat (first | (with_reducible first | exact HB.out | apply below_alloc | apply pw_below_drewN | apply below_drew1) | exact HB.out)⟩
  rw [if_neg c2] at H
  have c2b0 : decide (40 < (a0.size : Int)) = false := decide_eq_false c2
  have c2b1 : decide (40 < a0.size) = false := decide_eq_false (by omega)
  clear c2
  have HC3 := Aside0.mk H
  clear H
  go_enter Tryz.func22, Tryz.ntmps22
  go_upto_region 4 with (fail)
  go_cut [24] (fun v24 wc => ∃ (kq : Nat) (x24_2 : Bool), v24 = .bool x24_2 ∧ Aside0 (tenorref2_Unhex.j0 kq a0 0 x24_2 = some (r1, r2)) ∧ Aside0 (kq ≤ k) ∧ Aside0 (Below w.heap.size w wc))
  case first => as_aux_lemma =>
    have H := HC3.out
    clear HC3
    by_cases c4 : 0 < (a0.size : Int)
    · rw [if_pos c4] at H
      have c4b0 : decide (0 < (a0.size : Int)) = true := decide_eq_true c4
      have c4b1 : decide (0 < a0.size) = true := decide_eq_true (by omega)
      clear c4
      (first | rw [c4b0] | (simp only [i64_w, i32_w]; rw [c4b0]) | skip)
      have H' := Aside0.mk H
      clear H
      have p5 : 0 ≤ (0 : Int) := (by omega)
      have q5 : 0 < a0.size := (by have : (0 : Int) < (a0.size : Int) := of_decide_eq_true (by first | (with_reducible assumption) | assumption); omega)
      have hx5 : ∀ h : 0 < a0.size, ((a0[0]'h).toNat : Int) = bt a0 0 := bt_at a0 0
      clear p5
      have qi5 : (0 < (a0.size : Int)) = True := eq_true (of_decide_eq_true (by first | (with_reducible assumption) | assumption))
      replace q5 := eq_true q5
      go_wp2
      go_meet
      case rel => exact ⟨_, (((bt a0 0) == 45)), (by first | rfl | (simp; done) | (simp [*]; done)), H', ⟨by first | omega | exact Nat.le_refl _⟩, ⟨by repeat (first | (with_reducible first | exact HB.out | apply below_alloc | apply pw_below_drewN | apply below_drew1) | exact HB.out)⟩⟩
    rw [if_neg c4] at H
    have c4b0 : decide (0 < (a0.size : Int)) = false := decide_eq_false c4
    have c4b1 : decide (0 < a0.size) = false := decide_eq_false (by omega)
    clear c4
    (first | rw [c4b0] | (simp only [i64_w, i32_w]; rw [c4b0]) | skip)
    have H' := Aside0.mk H
    clear H
    go_wp2
    go_meet
    case rel => exact ⟨_, (false), (by first | rfl | (simp; done) | (simp [*]; done)), H', ⟨by first | omega | exact Nat.le_refl _⟩, ⟨by repeat (first | (with_reducible first | exact HB.out | apply below_alloc | apply pw_below_drewN | apply below_drew1) | exact HB.out)⟩⟩
  clear HC3
  (try clear c2); (try clear c2b0); (try clear c2b1); (try clear p2); (try clear c4); (try clear c4b0); (try clear c4b1); (try clear p5); (try clear q5); (try clear hx5); (try clear qi5); (try clear p5); (try clear q5)
  obtain ⟨kq, x24_2, rfl, HA, HJ2, HB⟩ := hcut
  cases kq with
  | zero => exact absurd HA.out (by simp [tenorref2_Unhex.j0])
  | succ kj2 =>
    have H := HA.out
    clear HA
    simp only [tenorref2_Unhex.j0] at H
    have HC6 := Aside0.mk H
    clear H
    go_upto_if 24 with (fail)
    go_cut [4] (fun v4 wc => ∃ (kq : Nat) (x4_5 : Int), v4 = .int .i64 x4_5 ∧ Aside0 (tenorref2_Unhex.j1 kq a0 x4_5 = some (r1, r2)) ∧ Aside0 (kq ≤ kj2) ∧ Aside0 (Below w.heap.size w wc))
    case first => as_aux_lemma =>
      have H := HC6.out
      clear HC6
      by_cases c7 : x24_2 = true
      · subst c7
        have H1 : (tenorref2_Unhex.j1 kj2 a0 (wrap64 (0 + 1))) = some (r1, r2) := by rw [if_pos rfl] at H; exact H
        clear H
        have H := H1
        clear H1
        have H' := Aside0.mk H
        clear H
        go_wp2
        go_meet
        case rel => exact ⟨_, (wrap64 (0 + 1)), (by first | rfl | (simp; done) | (simp; unfold wrap64; omega)), H', ⟨by have := HJ2.out; first | omega | exact Nat.le_refl _⟩, ⟨by repeat (first | (with_reducible first | exact HB.out | apply below_alloc | apply pw_below_drewN | apply below_drew1) | exact HB.out)⟩⟩
      replace c7 := Bool.eq_false_iff.mpr c7
      subst c7
      have H1 : (tenorref2_Unhex.j1 kj2 a0 0) = some (r1, r2) := by rw [if_neg (show ¬ (false = true) by decide)] at H; exact H
      clear H
      have H := H1
      clear H1
      have H' := Aside0.mk H
      clear H
      go_wp2
      go_meet
      case rel => exact ⟨_, (0), (by first | rfl | (simp; done) | (simp [*]; done)), H', ⟨by have := HJ2.out; first | omega | exact Nat.le_refl _⟩, ⟨by repeat (first | (with_reducible first | exact HB.out | apply below_alloc | apply pw_below_drewN | apply below_drew1) | exact HB.out)⟩⟩
    clear HC6
    (try clear c2); (try clear c2b0); (try clear c2b1); (try clear p2); (try clear c4); (try clear c4b0); (try clear c4b1); (try clear p5); (try clear q5); (try clear hx5); (try clear qi5); (try clear p6); (try clear c7); (try clear p2); (try clear p5); (try clear q5)
    obtain ⟨kq, x4_5, rfl, HA, HJ5, HB⟩ := hcut
    cases kq with
    | zero => exact absurd HA.out (by simp [tenorref2_Unhex.j1])
    | succ kj5 =>
      have H := HA.out
      clear HA
      simp only [tenorref2_Unhex.j1] at H
      have HC8 := Aside0.mk H
      clear H
      go_upto_region 6 with (fail)
      go_cut [44] (fun v44 wc => ∃ (kq : Nat) (x44_7 : Bool), v44 = .bool x44_7 ∧ Aside0 (tenorref2_Unhex.j2 kq a0 x4_5 x44_7 = some (r1, r2)) ∧ Aside0 (kq ≤ kj5) ∧ Aside0 (Below w.heap.size w wc))
      case first => as_aux_lemma =>
        have H := HC8.out
        clear HC8
        by_cases c9 : (a0.size : Int) < (wrap64 (x4_5 + 5))
        · rw [if_pos c9] at H
          have c9b0 : decide ((a0.size : Int) < (wrap64 (x4_5 + 5))) = true := decide_eq_true c9
          clear c9
          (first | rw [c9b0] | (simp only [i64_w, i32_w]; rw [c9b0]) | skip)
          have H' := Aside0.mk H
          clear H
          go_wp2
          go_meet
          case rel => exact ⟨_, (true), (by first | rfl | (simp; done) | (simp [*]; done)), H', ⟨by have := HJ2.out; have := HJ5.out; first | omega | exact Nat.le_refl _⟩, ⟨by repeat (first | (with_reducible first | exact HB.out | apply below_alloc | apply pw_below_drewN | apply below_drew1) | exact HB.out)⟩⟩
        rw [if_neg c9] at H
        have c9b0 : decide ((a0.size : Int) < (wrap64 (x4_5 + 5))) = false := decide_eq_false c9
        clear c9
        (first | rw [c9b0] | (simp only [i64_w, i32_w]; rw [c9b0]) | skip)
        by_cases c10 : 0 ≤ x4_5
        · rw [if_pos c10] at H
          have c10b0 : decide (0 ≤ x4_5) = true := decide_eq_true c10
          clear c10
          by_cases c11 : x4_5 < (a0.size : Int)
          · rw [if_pos c11] at H
            have c11b0 : decide (x4_5 < (a0.size : Int)) = true := decide_eq_true c11
            clear c11
            by_cases c13 : (bt a0 x4_5) = 48
            · rw [if_pos c13] at H
              have c13b0 : ((bt a0 x4_5) == 48) = true := beq_iff_eq.mpr c13
              have c13b1 : ((bt a0 x4_5) != 48) = false := bne_eq_false_iff_eq.mpr c13
              clear c13
              obtain ⟨ji14, hji14⟩ : ∃ j_ : Int, (wrap64 (x4_5 + 1)) = j_ := ⟨_, rfl⟩
              replace H : (if 0 ≤ (ji14) then (if (ji14) < (a0.size : Int) then (tenorref2_Unhex.j2 kj5 a0 x4_5 ((bt a0 (ji14)) != 120)) else (none)) else (none)) = some (r1, r2) := by first | (rw [hji14] at H; exact H) | (simp only [hji14] at H ⊢; exact H)
              have hji14w : (IntKind.i64.wrap (x4_5 + 1)) = ji14 := (i64_w _).trans hji14
              by_cases c15 : 0 ≤ (ji14)
              · rw [if_pos c15] at H
                have c15b0 : decide (0 ≤ (ji14)) = true := decide_eq_true c15
                clear c15
                by_cases c16 : (ji14) < (a0.size : Int)
                · rw [if_pos c16] at H
                  have c16b0 : decide ((ji14) < (a0.size : Int)) = true := decide_eq_true c16
                  clear c16
                  have H' := Aside0.mk H
                  clear H
                  have p12 : 0 ≤ (x4_5 : Int) := of_decide_eq_true (by first | (with_reducible assumption) | assumption)
                  have q12 : x4_5 < (a0.size : Int) := of_decide_eq_true (by first | (with_reducible assumption) | assumption)
                  have hx12 := bt_at a0 x4_5
                  replace p12 := eq_true p12
                  replace q12 := eq_true q12
                  have p17 : 0 ≤ ((ji14) : Int) := of_decide_eq_true (by first | (with_reducible assumption) | assumption)
                  have q17 : (ji14) < (a0.size : Int) := of_decide_eq_true (by first | (with_reducible assumption) | assumption)
                  have hx17 := bt_at a0 (ji14)
                  replace p17 := eq_true p17
                  replace q17 := eq_true q17
                  go_wp2
                  go_meet
                  case rel => exact ⟨_, (((bt a0 (ji14)) != 120)), (by first | rfl | (simp; done) | (simp only [← hji14] <;> (first | rfl | simp)) | (simp [*]; done)), H', ⟨by have := HJ2.out; have := HJ5.out; first | omega | exact Nat.le_refl _⟩, ⟨by repeat (first | (with_reducible first | exact HB.out | apply below_alloc | apply pw_below_drewN | apply below_drew1) | exact HB.out)⟩⟩
                rw [if_neg c16] at H
                exact absurd H (by simp)
              rw [if_neg c15] at H
              exact absurd H (by simp)
            rw [if_neg c13] at H
            have c13b0 : ((bt a0 x4_5) == 48) = false := beq_eq_false_iff_ne.mpr c13
            have c13b1 : ((bt a0 x4_5) != 48) = true := bne_iff_ne.mpr c13
            have H' := Aside0.mk H
            clear H
            have p12 : 0 ≤ (x4_5 : Int) := of_decide_eq_true (by first | (with_reducible assumption) | assumption)
            have q12 : x4_5 < (a0.size : Int) := of_decide_eq_true (by first | (with_reducible assumption) | assumption)
            have hx12 := bt_at a0 x4_5
            replace p12 := eq_true p12
            replace q12 := eq_true q12
            go_wp2
            go_meet
            case rel => exact ⟨_, (true), (by first | rfl | (simp; done) | (simp [*]; done)), H', ⟨by have := HJ2.out; have := HJ5.out; first | omega | exact Nat.le_refl _⟩, ⟨by repeat (first | (with_reducible first | exact HB.out | apply below_alloc | apply pw_below_drewN | apply below_drew1) | exact HB.out)⟩⟩
          rw [if_neg c11] at H
          exact absurd H (by simp)
        rw [if_neg c10] at H
        exact absurd H (by simp)
      clear HC8
      (try clear c1); (try clear p1); (try clear q1); (try clear hx1); (try clear c2); (try clear c2b0); (try clear c2b1); (try clear p2); (try clear c4); (try clear c4b0); (try clear c4b1); (try clear p5); (try clear q5); (try clear hx5); (try clear qi5); (try clear p6); (try clear c7); (try clear c9); (try clear c9b0); (try clear c10); (try clear c10b0); (try clear c11); (try clear c11b0); (try clear p12); (try clear q12); (try clear hx12); (try clear c13); (try clear c13b0); (try clear c13b1); (try clear c15); (try clear c15b0); (try clear c16); (try clear c16b0); (try clear p17); (try clear q17); (try clear hx17); (try clear p12); (try clear p17); (try clear p2); (try clear p5); (try clear p6); (try clear q12); (try clear q17); (try clear q5)
      obtain ⟨kq, x44_7, rfl, HA, HJ7, HB⟩ := hcut
      cases kq with
      | zero => exact absurd HA.out (by simp [tenorref2_Unhex.j2])
      | succ kj7 =>
        have H := HA.out
        clear HA
        simp only [tenorref2_Unhex.j2] at H
        by_cases c18 : x44_7 = true
        · subst c18
          have H1 : (some (0, 20)) = some (r1, r2) := by rw [if_pos rfl] at H; exact H
          clear H
          have H := H1
          clear H1
          simp only [Option.some.injEq, Prod.mk.injEq] at H
          obtain ⟨rfl, rfl⟩ := H
          go_wp2
          go_ret2
          exact ⟨by first | rfl | (simp [errW_none, errW_some] <;> rfl) | (simp [*, errW_none, errW_some] <;> rfl), by repeat (first | (with_reducible first | exact HB.out | apply below_alloc | apply pw_below_drewN | apply below_drew1) | exact HB.out)⟩
        replace c18 := Bool.eq_false_iff.mpr c18
        subst c18
        have H1 : (if 0 ≤ (wrap64 (x4_5 + 2)) then (if (wrap64 (x4_5 + 2)) < (a0.size : Int) then ((tenorref2_nibble.f kj7 (bt a0 (wrap64 (x4_5 + 2)))).bind fun t482 => (if (wrap64 (x4_5 + 3)) < (a0.size : Int) then (if 0 ≤ (wrap64 (x4_5 + 3)) then (tenorref2_Unhex.j3 kj7 a0 (wrap64 (x4_5 + 3)) t482 0 ((bt a0 (wrap64 (x4_5 + 3))) == 46)) else (none)) else (tenorref2_Unhex.j3 kj7 a0 (wrap64 (x4_5 + 3)) t482 0 false))) else (none)) else (none)) = some (r1, r2) := by rw [if_neg (show ¬ (false = true) by decide)] at H; exact H
        clear H
        have H := H1
        clear H1
        obtain ⟨ji19, hji19⟩ : ∃ j_ : Int, (wrap64 (x4_5 + 2)) = j_ := ⟨_, rfl⟩
        replace H : (if 0 ≤ (ji19) then (if (ji19) < (a0.size : Int) then ((tenorref2_nibble.f kj7 (bt a0 (ji19))).bind fun t482 => (if (wrap64 (x4_5 + 3)) < (a0.size : Int) then (if 0 ≤ (wrap64 (x4_5 + 3)) then (tenorref2_Unhex.j3 kj7 a0 (wrap64 (x4_5 + 3)) t482 0 ((bt a0 (wrap64 (x4_5 + 3))) == 46)) else (none)) else (tenorref2_Unhex.j3 kj7 a0 (wrap64 (x4_5 + 3)) t482 0 false))) else (none)) else (none)) = some (r1, r2) := by first | (rw [hji19] at H; exact H) | (simp only [hji19] at H ⊢; exact H)
        have hji19w : (IntKind.i64.wrap (x4_5 + 2)) = ji19 := (i64_w _).trans hji19
        by_cases c20 : 0 ≤ (ji19)
        · rw [if_pos c20] at H
          have c20b0 : decide (0 ≤ (ji19)) = true := decide_eq_true c20
          clear c20
          by_cases c21 : (ji19) < (a0.size : Int)
          · rw [if_pos c21] at H
            have c21b0 : decide ((ji19) < (a0.size : Int)) = true := decide_eq_true c21
            clear c21
            replace H := Option.bind_eq_some_iff.mp H
            obtain ⟨t482, A230, H⟩ := H
            replace H : (if (wrap64 (x4_5 + 3)) < (a0.size : Int) then (if 0 ≤ (wrap64 (x4_5 + 3)) then (tenorref2_Unhex.j3 kj7 a0 (wrap64 (x4_5 + 3)) t482 0 ((bt a0 (wrap64 (x4_5 + 3))) == 46)) else (none)) else (tenorref2_Unhex.j3 kj7 a0 (wrap64 (x4_5 + 3)) t482 0 false)) = some (r1, r2) := H
            have A23 := Aside0.mk A230
            clear A230
            have HC24 := Aside0.mk H
            clear H
            have p22 : 0 ≤ ((ji19) : Int) := of_decide_eq_true (by first | (with_reducible assumption) | assumption)
            have q22 : (ji19) < (a0.size : Int) := of_decide_eq_true (by first | (with_reducible assumption) | assumption)
            have hx22 := bt_at a0 (ji19)
            replace p22 := eq_true p22
            replace q22 := eq_true q22
            go_upto_region 11 with (first | ((with_reducible refine gate_callee (f := 56) rfl ?_); refine goesL_ (some 49) rfl rfl Tryz.func56 (by kernel_rfl) rfl #[.int .u8 (bt a0 (ji19))] rfl (by (try simp only [List.map_toArray, List.map_cons, List.map_nil]); first | done | (simp only [hji19]; rfl) | rfl | (simp only [List.length_drop, List.length_take]; rfl)) ?_; (with_reducible refine (tenorref2_nibble.calls kj7 (bt a0 (ji19)) t482 _ A23.out).mono ?_); rintro e w' ⟨rfl, ⟨nd, rfl⟩⟩; refine ⟨_, rfl, ?_⟩))
            (try simp only [Act.put, List.setIfInBounds_toArray, List.set_cons_zero, List.set_cons_succ])
            go_cut [61] (fun v61 wc => ∃ (kq : Nat) (x61_23 : Bool), v61 = .bool x61_23 ∧ Aside0 (tenorref2_Unhex.j3 kq a0 (wrap64 (x4_5 + 3)) t482 0 x61_23 = some (r1, r2)) ∧ Aside0 (kq ≤ kj7) ∧ Aside0 (Below w.heap.size w wc))
            case first => as_aux_lemma =>
              have H := HC24.out
              clear HC24
              by_cases c25 : (wrap64 (x4_5 + 3)) < (a0.size : Int)
              · rw [if_pos c25] at H
                have c25b0 : decide ((wrap64 (x4_5 + 3)) < (a0.size : Int)) = true := decide_eq_true c25
                clear c25
                (first | rw [c25b0] | (simp only [i64_w, i32_w]; rw [c25b0]) | skip)
                obtain ⟨ji26, hji26⟩ : ∃ j_ : Int, (wrap64 (x4_5 + 3)) = j_ := ⟨_, rfl⟩
                replace H : (if 0 ≤ (ji26) then (tenorref2_Unhex.j3 kj7 a0 ji26 t482 0 ((bt a0 (ji26)) == 46)) else (none)) = some (r1, r2) := by first | (rw [hji26] at H; exact H) | (simp only [hji26] at H ⊢; exact H)
                (try rw [hji26] at c25b0)
                have hji26w : (IntKind.i64.wrap (x4_5 + 3)) = ji26 := (i64_w _).trans hji26
                by_cases c27 : 0 ≤ (ji26)
                · rw [if_pos c27] at H
                  have c27b0 : decide (0 ≤ (ji26)) = true := decide_eq_true c27
                  clear c27
                  have H' := Aside0.mk H
                  clear H
                  have p28 : 0 ≤ ((ji26) : Int) := of_decide_eq_true (by first | (with_reducible assumption) | assumption)
                  have q28 : (ji26) < (a0.size : Int) := of_decide_eq_true (by first | (with_reducible assumption) | assumption)
                  have hx28 := bt_at a0 (ji26)
                  replace p28 := eq_true p28
                  replace q28 := eq_true q28
                  go_wp2
                  go_meet
                  case rel => exact ⟨_, (((bt a0 (ji26)) == 46)), (by first | rfl | (simp; done) | (simp only [← hji26] <;> (first | rfl | simp)) | (simp [*]; done)), (by first | exact H' | (rw [hji26]; exact H')), ⟨by have := HJ2.out; have := HJ5.out; have := HJ7.out; first | omega | exact Nat.le_refl _⟩, ⟨by repeat (first | (with_reducible first | exact HB.out | apply below_alloc | apply pw_below_drewN | apply below_drew1) | exact HB.out)⟩⟩
                rw [if_neg c27] at H
                exact absurd H (by simp)
              rw [if_neg c25] at H
              have c25b0 : decide ((wrap64 (x4_5 + 3)) < (a0.size : Int)) = false := decide_eq_false c25
              clear c25
              (first | rw [c25b0] | (simp only [i64_w, i32_w]; rw [c25b0]) | skip)
              have H' := Aside0.mk H
              clear H
              go_wp2
              go_meet
              case rel => exact ⟨_, (false), (by first | rfl | (simp; done) | (simp [*]; done)), H', ⟨by have := HJ2.out; have := HJ5.out; have := HJ7.out; first | omega | exact Nat.le_refl _⟩, ⟨by repeat (first | (with_reducible first | exact HB.out | apply below_alloc | apply pw_below_drewN | apply below_drew1) | exact HB.out)⟩⟩
            clear HC24
            (try clear c1); (try clear p1); (try clear q1); (try clear hx1); (try clear c2); (try clear c2b0); (try clear c2b1); (try clear p2); (try clear q2); (try clear hx2); (try clear c4); (try clear c4b0); (try clear c4b1); (try clear c5); (try clear p5); (try clear q5); (try clear hx5); (try clear qi5); (try clear p6); (try clear c7); (try clear c9); (try clear c9b0); (try clear c10); (try clear c10b0); (try clear c11); (try clear c11b0); (try clear p12); (try clear q12); (try clear hx12); (try clear c13); (try clear c13b0); (try clear c13b1); (try clear c15); (try clear c15b0); (try clear c16); (try clear c16b0); (try clear p17); (try clear q17); (try clear hx17); (try clear c18); (try clear c20); (try clear c20b0); (try clear c21); (try clear c21b0); (try clear c22); (try clear p22); (try clear q22); (try clear hx22); (try clear c25); (try clear c25b0); (try clear c27); (try clear c27b0); (try clear p28); (try clear q28); (try clear hx28); (try clear p1); (try clear p12); (try clear p17); (try clear p2); (try clear p22); (try clear p28); (try clear p5); (try clear p6); (try clear q1); (try clear q12); (try clear q17); (try clear q22); (try clear q28); (try clear q5)
            obtain ⟨kq, x61_23, rfl, HA, HJ23, HB⟩ := hcut
            cases kq with
            | zero => exact absurd HA.out (by simp [tenorref2_Unhex.j3])
            | succ kj23 =>
              have H := HA.out
              clear HA
              simp only [tenorref2_Unhex.j3] at H
              have HC29 := Aside0.mk H
              clear H
              go_upto_if 61 with (fail)
              go_cut [4, 5, 6] (fun v4 v5 v6 wc => ∃ (kq : Nat) (x4_28 : Int) (x5_28 : Int) (x6_28 : Int), v4 = .int .i64 x4_28 ∧ v5 = .int .i64 x5_28 ∧ v6 = .int .i64 x6_28 ∧ Aside0 (tenorref2_Unhex.j5 kq a0 x4_28 x5_28 x6_28 = some (r1, r2)) ∧ Aside0 (kq ≤ kj23) ∧ Aside0 (Below w.heap.size w wc))
              case first => as_aux_lemma =>
                have H := HC29.out
                clear HC29
                by_cases c30 : x61_23 = true
                · subst c30
                  have H1 : (tenorref2_Unhex.l0 kj23 a0 (wrap64 ((wrap64 (x4_5 + 3)) + 1)) t482 0) = some (r1, r2) := by rw [if_pos rfl] at H; exact H
                  clear H
                  have H := H1
                  clear H1
                  have H' := Aside0.mk H
                  clear H
                  go_wp2
                  go_loopg [4, 5, 6] kj23 (fun kq v4 v5 v6 w' => ∃ (x4_5 : Int) (x5_5 : Int) (x6_5 : Int), v4 = .int .i64 x4_5 ∧ v5 = .int .i64 x5_5 ∧ v6 = .int .i64 x6_5 ∧ Aside0 (tenorref2_Unhex.l0 kq a0 x4_5 x5_5 x6_5 = some (r1, r2)) ∧ Aside0 (kq ≤ kj23) ∧ Aside0 (Below w.heap.size w w'))
                  case atStart => exact ⟨(wrap64 ((wrap64 (x4_5 + 3)) + 1)), (t482), (0), (by first | rfl | (simp; done) | (simp [*]; done)), (by first | rfl | (simp; done) | (simp [*]; done)), (by first | rfl | (simp; done) | (simp [*]; done)), H', ⟨Nat.le_refl _⟩, ⟨by repeat (first | (with_reducible first | exact HB.out | apply below_alloc | apply pw_below_drewN | apply below_drew1) | exact HB.out)⟩⟩
                  case round => as_aux_lemma =>
                    clear H'
                    (try clear c1); (try clear p1); (try clear q1); (try clear hx1); (try clear c2); (try clear c2b0); (try clear c2b1); (try clear p2); (try clear q2); (try clear hx2); (try clear c3); (try clear c4); (try clear c4b0); (try clear c4b1); (try clear c5); (try clear p5); (try clear q5); (try clear hx5); (try clear qi5); (try clear p6); (try clear c7); (try clear c9); (try clear c9b0); (try clear c10); (try clear c10b0); (try clear c11); (try clear c11b0); (try clear p12); (try clear q12); (try clear hx12); (try clear c13); (try clear c13b0); (try clear c13b1); (try clear c15); (try clear c15b0); (try clear c16); (try clear c16b0); (try clear p17); (try clear q17); (try clear hx17); (try clear c18); (try clear c20); (try clear c20b0); (try clear c21); (try clear c21b0); (try clear c22); (try clear p22); (try clear q22); (try clear hx22); (try clear c25); (try clear c25b0); (try clear c27); (try clear c27b0); (try clear p28); (try clear q28); (try clear hx28); (try clear c30); (try clear p1); (try clear p12); (try clear p17); (try clear p2); (try clear p22); (try clear p28); (try clear p5); (try clear p6); (try clear q1); (try clear q12); (try clear q17); (try clear q2); (try clear q22); (try clear q28); (try clear q5)
                    obtain ⟨x4_5, x5_5, x6_5, rfl, rfl, rfl, HA, HK5, HB⟩ := hrel
                    cases gk with
                    | zero => exact absurd HA.out (by simp [tenorref2_Unhex.l0])
                    | succ k5 =>
                      have H := HA.out
                      clear HA
                      simp only [tenorref2_Unhex.l0] at H
                      by_cases c31 : x4_5 < (a0.size : Int)
                      · rw [if_pos c31] at H
                        have c31b0 : decide (x4_5 < (a0.size : Int)) = true := decide_eq_true c31
                        clear c31
                        (first | rw [c31b0] | (simp only [i64_w, i32_w]; rw [c31b0]) | skip)
                        by_cases c32 : 0 ≤ x4_5
                        · rw [if_pos c32] at H
                          have c32b0 : decide (0 ≤ x4_5) = true := decide_eq_true c32
                          clear c32
                          replace H := Option.bind_eq_some_iff.mp H
                          obtain ⟨t483, A340, H⟩ := H
                          replace H : (if t483 ≥ 0 then (if x6_5 > (-60) then ((tenorref2_nibble.f k5 (bt a0 x4_5)).bind fun t484 => (tenorref2_Unhex.l0 k5 a0 (wrap64 (x4_5 + 1)) (wrap64 ((wrap64 (16 * x5_5)) + t484)) (wrap64 (x6_5 - 4)))) else (tenorref2_Unhex.j5 k5 a0 x4_5 x5_5 x6_5)) else (tenorref2_Unhex.j5 k5 a0 x4_5 x5_5 x6_5)) = some (r1, r2) := H
                          have A34 := Aside0.mk A340
                          clear A340
                          by_cases c35 : t483 ≥ 0
                          · rw [if_pos c35] at H
                            have c35b0 : decide (0 ≤ t483) = true := decide_eq_true c35
                            clear c35
                            by_cases c36 : x6_5 > (-60)
                            · rw [if_pos c36] at H
                              have c36b0 : decide ((-60) < x6_5) = true := decide_eq_true c36
                              clear c36
                              replace H := Option.bind_eq_some_iff.mp H
                              obtain ⟨t484, A380, H⟩ := H
                              replace H : (tenorref2_Unhex.l0 k5 a0 (wrap64 (x4_5 + 1)) (wrap64 ((wrap64 (16 * x5_5)) + t484)) (wrap64 (x6_5 - 4))) = some (r1, r2) := H
                              have A38 := Aside0.mk A380
                              clear A380
                              have H' := Aside0.mk H
                              clear H
                              have p33 : 0 ≤ (x4_5 : Int) := of_decide_eq_true (by first | (with_reducible assumption) | assumption)
                              have q33 : x4_5 < (a0.size : Int) := of_decide_eq_true (by first | (with_reducible assumption) | assumption)
                              have hx33 := bt_at a0 x4_5
                              replace p33 := eq_true p33
                              replace q33 := eq_true q33
                              go_wp2_with (first | (go_at_call 56; (with_reducible refine (tenorref2_nibble.calls k5 (bt a0 x4_5) t483 _ A34.out).mono ?_); rintro e w' ⟨rfl, ⟨nd, rfl⟩⟩; have p37 : 0 ≤ (x4_5 : Int) := of_decide_eq_true (by first | (with_reducible assumption) | assumption); have q37 : x4_5 < (a0.size : Int) := of_decide_eq_true (by first | (with_reducible assumption) | assumption); have hx37 := bt_at a0 x4_5; replace p37 := eq_true p37; replace q37 := eq_true q37) | ((with_reducible refine gate_callee (f := 56) rfl ?_); refine goesL_ (some 86) rfl rfl Tryz.func56 (by kernel_rfl) rfl #[.int .u8 (bt a0 x4_5)] rfl (by (try simp only [List.map_toArray, List.map_cons, List.map_nil]); first | done | rfl | (simp only [List.length_drop, List.length_take]; rfl)) ?_; (with_reducible refine (tenorref2_nibble.calls k5 (bt a0 x4_5) t484 _ A38.out).mono ?_); rintro e w' ⟨rfl, ⟨nd, rfl⟩⟩; refine ⟨_, rfl, ?_⟩))
                              go_roundg k5
                              case measure => have := HJ2.out; have := HJ5.out; have := HJ7.out; have := HJ23.out; have := HK5.out; omega
                              case rel => exact ⟨(wrap64 (x4_5 + 1)), (wrap64 ((wrap64 (16 * x5_5)) + t484)), (wrap64 (x6_5 - 4)), (by first | rfl | (simp; done) | (simp [*]; done)), (by first | rfl | (simp; done) | (simp [*]; done)), (by first | rfl | (simp; done) | (simp [*]; done)), H', ⟨by have := HJ2.out; have := HJ5.out; have := HJ7.out; have := HJ23.out; have := HK5.out; omega⟩, ⟨by repeat (first | (with_reducible first | exact HB.out | apply below_alloc | apply pw_below_drewN | apply below_drew1) | exact HB.out)⟩⟩
                            rw [if_neg c36] at H
                            have c36b0 : decide ((-60) < x6_5) = false := decide_eq_false c36
                            clear c36
                            have H' := Aside0.mk H
                            clear H
                            have p33 : 0 ≤ (x4_5 : Int) := of_decide_eq_true (by first | (with_reducible assumption) | assumption)
                            have q33 : x4_5 < (a0.size : Int) := of_decide_eq_true (by first | (with_reducible assumption) | assumption)
                            have hx33 := bt_at a0 x4_5
                            replace p33 := eq_true p33
                            replace q33 := eq_true q33
                            go_wp2_with (first | (go_at_call 56; (with_reducible refine (tenorref2_nibble.calls k5 (bt a0 x4_5) t483 _ A34.out).mono ?_); rintro e w' ⟨rfl, ⟨nd, rfl⟩⟩))
                            go_meet
                            case rel => exact ⟨_, (x4_5), (x5_5), (x6_5), (by first | rfl | (simp; done) | (simp [*]; done)), (by first | rfl | (simp; done) | (simp [*]; done)), (by first | rfl | (simp; done) | (simp [*]; done)), H', ⟨by have := HJ2.out; have := HJ5.out; have := HJ7.out; have := HJ23.out; have := HK5.out; first | omega | exact Nat.le_refl _⟩, ⟨by repeat (first | (with_reducible first | exact HB.out | apply below_alloc | apply pw_below_drewN | apply below_drew1) | exact HB.out)⟩⟩
                          rw [if_neg c35] at H
                          have c35b0 : decide (0 ≤ t483) = false := decide_eq_false c35
                          clear c35
                          have H' := Aside0.mk H
                          clear H
                          have p33 : 0 ≤ (x4_5 : Int) := of_decide_eq_true (by first | (with_reducible assumption) | assumption)
                          have q33 : x4_5 < (a0.size : Int) := of_decide_eq_true (by first | (with_reducible assumption) | assumption)
                          have hx33 := bt_at a0 x4_5
                          replace p33 := eq_true p33
                          replace q33 := eq_true q33
                          go_wp2_with (first | (go_at_call 56; (with_reducible refine (tenorref2_nibble.calls k5 (bt a0 x4_5) t483 _ A34.out).mono ?_); rintro e w' ⟨rfl, ⟨nd, rfl⟩⟩))
                          go_meet
                          case rel => exact ⟨_, (x4_5), (x5_5), (x6_5), (by first | rfl | (simp; done) | (simp [*]; done)), (by first | rfl | (simp; done) | (simp [*]; done)), (by first | rfl | (simp; done) | (simp [*]; done)), H', ⟨by have := HJ2.out; have := HJ5.out; have := HJ7.out; have := HJ23.out; have := HK5.out; first | omega | exact Nat.le_refl _⟩, ⟨by repeat (first | (with_reducible first | exact HB.out | apply below_alloc | apply pw_below_drewN | apply below_drew1) | exact HB.out)⟩⟩
                        rw [if_neg c32] at H
                        exact absurd H (by simp)
                      rw [if_neg c31] at H
                      have c31b0 : decide (x4_5 < (a0.size : Int)) = false := decide_eq_false c31
                      clear c31
                      (first | rw [c31b0] | (simp only [i64_w, i32_w]; rw [c31b0]) | skip)
                      have H' := Aside0.mk H
                      clear H
                      go_wp2
                      go_meet
                      case rel => exact ⟨_, (x4_5), (x5_5), (x6_5), (by first | rfl | (simp; done) | (simp [*]; done)), (by first | rfl | (simp; done) | (simp [*]; done)), (by first | rfl | (simp; done) | (simp [*]; done)), H', ⟨by have := HJ2.out; have := HJ5.out; have := HJ7.out; have := HJ23.out; have := HK5.out; first | omega | exact Nat.le_refl _⟩, ⟨by repeat (first | (with_reducible first | exact HB.out | apply below_alloc | apply pw_below_drewN | apply below_drew1) | exact HB.out)⟩⟩
                replace c30 := Bool.eq_false_iff.mpr c30
                subst c30
                have H1 : (tenorref2_Unhex.j5 kj23 a0 (wrap64 (x4_5 + 3)) t482 0) = some (r1, r2) := by rw [if_neg (show ¬ (false = true) by decide)] at H; exact H
                clear H
                have H := H1
                clear H1
                have H' := Aside0.mk H
                clear H
                go_wp2
                go_meet
                case rel => exact ⟨_, ((wrap64 (x4_5 + 3))), (t482), (0), (by first | rfl | (simp; done) | (simp [*]; done)), (by first | rfl | (simp; done) | (simp [*]; done)), (by first | rfl | (simp; done) | (simp [*]; done)), H', ⟨by have := HJ2.out; have := HJ5.out; have := HJ7.out; have := HJ23.out; first | omega | exact Nat.le_refl _⟩, ⟨by repeat (first | (with_reducible first | exact HB.out | apply below_alloc | apply pw_below_drewN | apply below_drew1) | exact HB.out)⟩⟩
              clear HC29
              (try clear c1); (try clear p1); (try clear q1); (try clear hx1); (try clear c2); (try clear c2b0); (try clear c2b1); (try clear p2); (try clear q2); (try clear hx2); (try clear c3); (try clear p3); (try clear q3); (try clear hx3); (try clear c4); (try clear c4b0); (try clear c4b1); (try clear c5); (try clear p5); (try clear q5); (try clear hx5); (try clear qi5); (try clear p6); (try clear c7); (try clear c9); (try clear c9b0); (try clear c10); (try clear c10b0); (try clear c11); (try clear c11b0); (try clear p12); (try clear q12); (try clear hx12); (try clear c13); (try clear c13b0); (try clear c13b1); (try clear c15); (try clear c15b0); (try clear c16); (try clear c16b0); (try clear p17); (try clear q17); (try clear hx17); (try clear c18); (try clear c20); (try clear c20b0); (try clear c21); (try clear c21b0); (try clear c22); (try clear p22); (try clear q22); (try clear hx22); (try clear c25); (try clear c25b0); (try clear c27); (try clear c27b0); (try clear p28); (try clear q28); (try clear hx28); (try clear c30); (try clear c31); (try clear c31b0); (try clear c32); (try clear c32b0); (try clear p33); (try clear q33); (try clear hx33); (try clear c35); (try clear c35b0); (try clear c36); (try clear c36b0); (try clear p37); (try clear q37); (try clear hx37); (try clear p1); (try clear p12); (try clear p17); (try clear p2); (try clear p22); (try clear p28); (try clear p33); (try clear p37); (try clear p5); (try clear p6); (try clear q1); (try clear q12); (try clear q17); (try clear q2); (try clear q22); (try clear q28); (try clear q33); (try clear q37); (try clear q5)
              obtain ⟨kq, x4_28, x5_28, x6_28, rfl, rfl, rfl, HA, HJ28, HB⟩ := hcut
              cases kq with
              | zero => exact absurd HA.out (by simp [tenorref2_Unhex.j5])
              | succ kj28 =>
                have H := HA.out
                clear HA
                simp only [tenorref2_Unhex.j5] at H
                have HC39 := Aside0.mk H
                clear H
                go_upto_region 17 with (fail)
                go_cut [108] (fun v108 wc => ∃ (kq : Nat) (x108_38 : Bool), v108 = .bool x108_38 ∧ Aside0 (tenorref2_Unhex.j6 kq a0 x4_28 x5_28 x6_28 x108_38 = some (r1, r2)) ∧ Aside0 (kq ≤ kj28) ∧ Aside0 (Below w.heap.size w wc))
                case first => as_aux_lemma =>
                  have H := HC39.out
                  clear HC39
                  by_cases c40 : (wrap64 (x4_28 + 1)) ≥ (a0.size : Int)
                  · rw [if_pos c40] at H
                    have c40b0 : decide ((a0.size : Int) ≤ (wrap64 (x4_28 + 1))) = true := decide_eq_true c40
                    clear c40
                    (first | rw [c40b0] | (simp only [i64_w, i32_w]; rw [c40b0]) | skip)
                    have H' := Aside0.mk H
                    clear H
                    go_wp2
                    go_meet
                    case rel => exact ⟨_, (true), (by first | rfl | (simp; done) | (simp [*]; done)), H', ⟨by have := HJ2.out; have := HJ5.out; have := HJ7.out; have := HJ23.out; have := HJ28.out; first | omega | exact Nat.le_refl _⟩, ⟨by repeat (first | (with_reducible first | exact HB.out | apply below_alloc | apply pw_below_drewN | apply below_drew1) | exact HB.out)⟩⟩
                  rw [if_neg c40] at H
                  have c40b0 : decide ((a0.size : Int) ≤ (wrap64 (x4_28 + 1))) = false := decide_eq_false c40
                  clear c40
                  (first | rw [c40b0] | (simp only [i64_w, i32_w]; rw [c40b0]) | skip)
                  by_cases c41 : 0 ≤ x4_28
                  · rw [if_pos c41] at H
                    have c41b0 : decide (0 ≤ x4_28) = true := decide_eq_true c41
                    clear c41
                    by_cases c42 : x4_28 < (a0.size : Int)
                    · rw [if_pos c42] at H
                      have c42b0 : decide (x4_28 < (a0.size : Int)) = true := decide_eq_true c42
                      clear c42
                      by_cases c44 : (bt a0 x4_28) = 112
                      · rw [if_pos c44] at H
                        have c44b0 : ((bt a0 x4_28) == 112) = true := beq_iff_eq.mpr c44
                        have c44b1 : ((bt a0 x4_28) != 112) = false := bne_eq_false_iff_eq.mpr c44
                        clear c44
                        by_cases c45 : x5_28 < 0
                        · rw [if_pos c45] at H
                          have c45b0 : decide (x5_28 < 0) = true := decide_eq_true c45
                          clear c45
                          have H' := Aside0.mk H
                          clear H
                          have p43 : 0 ≤ (x4_28 : Int) := of_decide_eq_true (by first | (with_reducible assumption) | assumption)
                          have q43 : x4_28 < (a0.size : Int) := of_decide_eq_true (by first | (with_reducible assumption) | assumption)
                          have hx43 := bt_at a0 x4_28
                          replace p43 := eq_true p43
                          replace q43 := eq_true q43
                          go_wp2
                          go_meet
                          case rel => exact ⟨_, (true), (by first | rfl | (simp; done) | (simp [*]; done)), H', ⟨by have := HJ2.out; have := HJ5.out; have := HJ7.out; have := HJ23.out; have := HJ28.out; first | omega | exact Nat.le_refl _⟩, ⟨by repeat (first | (with_reducible first | exact HB.out | apply below_alloc | apply pw_below_drewN | apply below_drew1) | exact HB.out)⟩⟩
                        rw [if_neg c45] at H
                        have c45b0 : decide (x5_28 < 0) = false := decide_eq_false c45
                        clear c45
                        have H' := Aside0.mk H
                        clear H
                        have p43 : 0 ≤ (x4_28 : Int) := of_decide_eq_true (by first | (with_reducible assumption) | assumption)
                        have q43 : x4_28 < (a0.size : Int) := of_decide_eq_true (by first | (with_reducible assumption) | assumption)
                        have hx43 := bt_at a0 x4_28
                        replace p43 := eq_true p43
                        replace q43 := eq_true q43
                        go_wp2
                        go_meet
                        case rel => exact ⟨_, (decide (x5_28 ≥ 72057594037927936)), (by first | rfl | (simp; done) | (simp [*]; done)), H', ⟨by have := HJ2.out; have := HJ5.out; have := HJ7.out; have := HJ23.out; have := HJ28.out; first | omega | exact Nat.le_refl _⟩, ⟨by repeat (first | (with_reducible first | exact HB.out | apply below_alloc | apply pw_below_drewN | apply below_drew1) | exact HB.out)⟩⟩
                      rw [if_neg c44] at H
                      have c44b0 : ((bt a0 x4_28) == 112) = false := beq_eq_false_iff_ne.mpr c44
                      have c44b1 : ((bt a0 x4_28) != 112) = true := bne_iff_ne.mpr c44
                      have H' := Aside0.mk H
                      clear H
                      have p43 : 0 ≤ (x4_28 : Int) := of_decide_eq_true (by first | (with_reducible assumption) | assumption)
                      have q43 : x4_28 < (a0.size : Int) := of_decide_eq_true (by first | (with_reducible assumption) | assumption)
                      have hx43 := bt_at a0 x4_28
                      replace p43 := eq_true p43
                      replace q43 := eq_true q43
                      go_wp2
                      go_meet
                      case rel => exact ⟨_, (true), (by first | rfl | (simp; done) | (simp [*]; done)), H', ⟨by have := HJ2.out; have := HJ5.out; have := HJ7.out; have := HJ23.out; have := HJ28.out; first | omega | exact Nat.le_refl _⟩, ⟨by repeat (first | (with_reducible first | exact HB.out | apply below_alloc | apply pw_below_drewN | apply below_drew1) | exact HB.out)⟩⟩
                    rw [if_neg c42] at H
                    exact absurd H (by simp)
                  rw [if_neg c41] at H
                  exact absurd H (by simp)
                clear HC39
                (try clear c1); (try clear p1); (try clear q1); (try clear hx1); (try clear c2); (try clear c2b0); (try clear c2b1); (try clear p2); (try clear q2); (try clear hx2); (try clear c3); (try clear p3); (try clear q3); (try clear hx3); (try clear c4); (try clear c4b0); (try clear c4b1); (try clear p4); (try clear q4); (try clear hx4); (try clear c5); (try clear p5); (try clear q5); (try clear hx5); (try clear qi5); (try clear p6); (try clear c7); (try clear c9); (try clear c9b0); (try clear c10); (try clear c10b0); (try clear c11); (try clear c11b0); (try clear p12); (try clear q12); (try clear hx12); (try clear c13); (try clear c13b0); (try clear c13b1); (try clear c15); (try clear c15b0); (try clear c16); (try clear c16b0); (try clear p17); (try clear q17); (try clear hx17); (try clear c18); (try clear c20); (try clear c20b0); (try clear c21); (try clear c21b0); (try clear c22); (try clear p22); (try clear q22); (try clear hx22); (try clear c25); (try clear c25b0); (try clear c27); (try clear c27b0); (try clear p28); (try clear q28); (try clear hx28); (try clear c30); (try clear c31); (try clear c31b0); (try clear c32); (try clear c32b0); (try clear p33); (try clear q33); (try clear hx33); (try clear c35); (try clear c35b0); (try clear c36); (try clear c36b0); (try clear p37); (try clear q37); (try clear hx37); (try clear c40); (try clear c40b0); (try clear c41); (try clear c41b0); (try clear c42); (try clear c42b0); (try clear p43); (try clear q43); (try clear hx43); (try clear c44); (try clear c44b0); (try clear c44b1); (try clear c45); (try clear c45b0); (try clear p1); (try clear p12); (try clear p17); (try clear p2); (try clear p22); (try clear p28); (try clear p3); (try clear p33); (try clear p37); (try clear p43); (try clear p5); (try clear p6); (try clear q1); (try clear q12); (try clear q17); (try clear q2); (try clear q22); (try clear q28); (try clear q3); (try clear q33); (try clear q37); (try clear q43); (try clear q5)
                obtain ⟨kq, x108_38, rfl, HA, HJ38, HB⟩ := hcut
                cases kq with
                | zero => exact absurd HA.out (by simp [tenorref2_Unhex.j6])
                | succ kj38 =>
                  have H := HA.out
                  clear HA
                  simp only [tenorref2_Unhex.j6] at H
                  by_cases c46 : x108_38 = true
                  · subst c46
                    have H1 : (some (0, 20)) = some (r1, r2) := by rw [if_pos rfl] at H; exact H
                    clear H
                    have H := H1
                    clear H1
                    simp only [Option.some.injEq, Prod.mk.injEq] at H
                    obtain ⟨rfl, rfl⟩ := H
                    go_wp2
                    go_ret2
                    exact ⟨by first | rfl | (simp [errW_none, errW_some] <;> rfl) | (simp only [← hji19]; first | rfl | (simp [errW_none, errW_some] <;> rfl)) | (simp [*, errW_none, errW_some] <;> rfl), by repeat (first | (with_reducible first | exact HB.out | apply below_alloc | apply pw_below_drewN | apply below_drew1) | exact HB.out)⟩
                  replace c46 := Bool.eq_false_iff.mpr c46
                  subst c46
                  have H1 : (if 0 ≤ (wrap64 (x4_28 + 1)) then (if (wrap64 (x4_28 + 1)) < (a0.size : Int) then (tenorref2_Unhex.l1 kj38 a0 (wrap64 (x4_28 + 2)) x5_28 x6_28 ((bt a0 (wrap64 (x4_28 + 1))) == 45) 0) else (none)) else (none)) = some (r1, r2) := by rw [if_neg (show ¬ (false = true) by decide)] at H; exact H
                  clear H
                  have H := H1
                  clear H1
                  obtain ⟨ji47, hji47⟩ : ∃ j_ : Int, (wrap64 (x4_28 + 1)) = j_ := ⟨_, rfl⟩
                  replace H : (if 0 ≤ (ji47) then (if (ji47) < (a0.size : Int) then (tenorref2_Unhex.l1 kj38 a0 (wrap64 (x4_28 + 2)) x5_28 x6_28 ((bt a0 (ji47)) == 45) 0) else (none)) else (none)) = some (r1, r2) := by first | (rw [hji47] at H; exact H) | (simp only [hji47] at H ⊢; exact H)
                  have hji47w : (IntKind.i64.wrap (x4_28 + 1)) = ji47 := (i64_w _).trans hji47
                  by_cases c48 : 0 ≤ (ji47)
                  · rw [if_pos c48] at H
                    have c48b0 : decide (0 ≤ (ji47)) = true := decide_eq_true c48
                    clear c48
                    by_cases c49 : (ji47) < (a0.size : Int)
                    · rw [if_pos c49] at H
                      have c49b0 : decide ((ji47) < (a0.size : Int)) = true := decide_eq_true c49
                      clear c49
                      have HC51 := Aside0.mk H
                      clear H
                      have p50 : 0 ≤ ((ji47) : Int) := of_decide_eq_true (by first | (with_reducible assumption) | assumption)
                      have q50 : (ji47) < (a0.size : Int) := of_decide_eq_true (by first | (with_reducible assumption) | assumption)
                      have hx50 := bt_at a0 (ji47)
                      replace p50 := eq_true p50
                      replace q50 := eq_true q50
                      go_upto_block 2 with (fail)
                      go_cut [8] (fun v8 wc => ∃ (kq : Nat) (x8_50 : Int), v8 = .int .i64 x8_50 ∧ Aside0 (tenorref2_Unhex.j8 kq a0 x5_28 x6_28 ((bt a0 (ji47)) == 45) x8_50 = some (r1, r2)) ∧ Aside0 (kq ≤ kj38) ∧ Aside0 (Below w.heap.size w wc))
                      case first => as_aux_lemma =>
                        have H := HC51.out
                        clear HC51
                        have H' := Aside0.mk H
                        clear H
                        go_wp2
                        go_loopg [4, 8] kj38 (fun kq v4 v8 w' => ∃ (x4_7 : Int) (x8_7 : Int), v4 = .int .i64 x4_7 ∧ v8 = .int .i64 x8_7 ∧ Aside0 (tenorref2_Unhex.l1 kq a0 x4_7 x5_28 x6_28 ((bt a0 (ji47)) == 45) x8_7 = some (r1, r2)) ∧ Aside0 (kq ≤ kj38) ∧ Aside0 (Below w.heap.size w w'))
                        case atStart => exact ⟨(wrap64 (x4_28 + 2)), (0), (by first | rfl | (simp; done) | (simp [*]; done)), (by first | rfl | (simp; done) | (simp [*]; done)), H', ⟨Nat.le_refl _⟩, ⟨by repeat (first | (with_reducible first | exact HB.out | apply below_alloc | apply pw_below_drewN | apply below_drew1) | exact HB.out)⟩⟩
                        case round => as_aux_lemma =>
                          clear H'
                          (try clear c1); (try clear p1); (try clear q1); (try clear hx1); (try clear c2); (try clear c2b0); (try clear c2b1); (try clear p2); (try clear q2); (try clear hx2); (try clear c3); (try clear p3); (try clear q3); (try clear hx3); (try clear c4); (try clear c4b0); (try clear c4b1); (try clear p4); (try clear q4); (try clear hx4); (try clear c5); (try clear p5); (try clear q5); (try clear hx5); (try clear qi5); (try clear p6); (try clear c7); (try clear c9); (try clear c9b0); (try clear c10); (try clear c10b0); (try clear c11); (try clear c11b0); (try clear p12); (try clear q12); (try clear hx12); (try clear c13); (try clear c13b0); (try clear c13b1); (try clear c15); (try clear c15b0); (try clear c16); (try clear c16b0); (try clear p17); (try clear q17); (try clear hx17); (try clear c18); (try clear c20); (try clear c20b0); (try clear c21); (try clear c21b0); (try clear c22); (try clear p22); (try clear q22); (try clear hx22); (try clear c25); (try clear c25b0); (try clear c27); (try clear c27b0); (try clear p28); (try clear q28); (try clear hx28); (try clear c30); (try clear c31); (try clear c31b0); (try clear c32); (try clear c32b0); (try clear p33); (try clear q33); (try clear hx33); (try clear c35); (try clear c35b0); (try clear c36); (try clear c36b0); (try clear p37); (try clear q37); (try clear hx37); (try clear c40); (try clear c40b0); (try clear c41); (try clear c41b0); (try clear c42); (try clear c42b0); (try clear p43); (try clear q43); (try clear hx43); (try clear c44); (try clear c44b0); (try clear c44b1); (try clear c45); (try clear c45b0); (try clear c46); (try clear c48); (try clear c48b0); (try clear c49); (try clear c49b0); (try clear p50); (try clear q50); (try clear hx50); (try clear p1); (try clear p12); (try clear p17); (try clear p2); (try clear p22); (try clear p28); (try clear p3); (try clear p33); (try clear p37); (try clear p4); (try clear p43); (try clear p5); (try clear p50); (try clear p6); (try clear q1); (try clear q12); (try clear q17); (try clear q2); (try clear q22); (try clear q28); (try clear q3); (try clear q33); (try clear q37); (try clear q4); (try clear q43); (try clear q5); (try clear q50)
                          obtain ⟨x4_7, x8_7, rfl, rfl, HA, HK7, HB⟩ := hrel
                          cases gk with
                          | zero => exact absurd HA.out (by simp [tenorref2_Unhex.l1])
                          | succ k7 =>
                            have H := HA.out
                            clear HA
                            simp only [tenorref2_Unhex.l1] at H
                            by_cases c52 : x4_7 < (a0.size : Int)
                            · rw [if_pos c52] at H
                              have c52b0 : decide (x4_7 < (a0.size : Int)) = true := decide_eq_true c52
                              clear c52
                              (first | rw [c52b0] | (simp only [i64_w, i32_w]; rw [c52b0]) | skip)
                              by_cases c53 : 0 ≤ x4_7
                              · rw [if_pos c53] at H
                                have c53b0 : decide (0 ≤ x4_7) = true := decide_eq_true c53
                                clear c53
                                by_cases c55 : (bt a0 x4_7) ≥ 48
                                · rw [if_pos c55] at H
                                  have c55b0 : decide (48 ≤ (bt a0 x4_7)) = true := decide_eq_true c55
                                  clear c55
                                  by_cases c57 : (bt a0 x4_7) ≤ 57
                                  · rw [if_pos c57] at H
                                    have c57b0 : decide ((bt a0 x4_7) ≤ 57) = true := decide_eq_true c57
                                    clear c57
                                    by_cases c58 : x8_7 < 10000
                                    · rw [if_pos c58] at H
                                      have c58b0 : decide (x8_7 < 10000) = true := decide_eq_true c58
                                      clear c58
                                      have H' := Aside0.mk H
                                      clear H
                                      have p54 : 0 ≤ (x4_7 : Int) := of_decide_eq_true (by first | (with_reducible assumption) | assumption)
                                      have q54 : x4_7 < (a0.size : Int) := of_decide_eq_true (by first | (with_reducible assumption) | assumption)
                                      have hx54 := bt_at a0 x4_7
                                      replace p54 := eq_true p54
                                      replace q54 := eq_true q54
                                      have p56 : 0 ≤ (x4_7 : Int) := of_decide_eq_true (by first | (with_reducible assumption) | assumption)
                                      have q56 : x4_7 < (a0.size : Int) := of_decide_eq_true (by first | (with_reducible assumption) | assumption)
                                      have hx56 := bt_at a0 x4_7
                                      replace p56 := eq_true p56
                                      replace q56 := eq_true q56
                                      have p59 : 0 ≤ (x4_7 : Int) := of_decide_eq_true (by first | (with_reducible assumption) | assumption)
                                      have q59 : x4_7 < (a0.size : Int) := of_decide_eq_true (by first | (with_reducible assumption) | assumption)
                                      have hx59 := bt_at a0 x4_7
                                      replace p59 := eq_true p59
                                      replace q59 := eq_true q59
                                      go_wp2
                                      go_roundg k7
                                      case measure => have := HJ2.out; have := HJ5.out; have := HJ7.out; have := HJ23.out; have := HJ28.out; have := HJ38.out; have := HK7.out; omega
                                      case rel => exact ⟨(wrap64 (x4_7 + 1)), (wrap64 ((wrap64 (10 * x8_7)) + (((bt a0 x4_7) - 48) % 256))), (by first | rfl | (simp; done) | (simp [*]; done)), (by first | rfl | (simp; done) | (simp [*]; done)), H', ⟨by have := HJ2.out; have := HJ5.out; have := HJ7.out; have := HJ23.out; have := HJ28.out; have := HJ38.out; have := HK7.out; omega⟩, ⟨by repeat (first | (with_reducible first | exact HB.out | apply below_alloc | apply pw_below_drewN | apply below_drew1) | exact HB.out)⟩⟩
                                    rw [if_neg c58] at H
                                    have c58b0 : decide (x8_7 < 10000) = false := decide_eq_false c58
                                    clear c58
                                    have H' := Aside0.mk H
                                    clear H
                                    have p54 : 0 ≤ (x4_7 : Int) := of_decide_eq_true (by first | (with_reducible assumption) | assumption)
                                    have q54 : x4_7 < (a0.size : Int) := of_decide_eq_true (by first | (with_reducible assumption) | assumption)
                                    have hx54 := bt_at a0 x4_7
                                    replace p54 := eq_true p54
                                    replace q54 := eq_true q54
                                    have p56 : 0 ≤ (x4_7 : Int) := of_decide_eq_true (by first | (with_reducible assumption) | assumption)
                                    have q56 : x4_7 < (a0.size : Int) := of_decide_eq_true (by first | (with_reducible assumption) | assumption)
                                    have hx56 := bt_at a0 x4_7
                                    replace p56 := eq_true p56
                                    replace q56 := eq_true q56
                                    go_wp2
                                    go_meet
                                    case rel => exact ⟨_, (x8_7), (by first | rfl | (simp; done) | (simp [*]; done)), H', ⟨by have := HJ2.out; have := HJ5.out; have := HJ7.out; have := HJ23.out; have := HJ28.out; have := HJ38.out; have := HK7.out; first | omega | exact Nat.le_refl _⟩, ⟨by repeat (first | (with_reducible first | exact HB.out | apply below_alloc | apply pw_below_drewN | apply below_drew1) | exact HB.out)⟩⟩
                                  rw [if_neg c57] at H
                                  have c57b0 : decide ((bt a0 x4_7) ≤ 57) = false := decide_eq_false c57
                                  clear c57
                                  have H' := Aside0.mk H
                                  clear H
                                  have p54 : 0 ≤ (x4_7 : Int) := of_decide_eq_true (by first | (with_reducible assumption) | assumption)
                                  have q54 : x4_7 < (a0.size : Int) := of_decide_eq_true (by first | (with_reducible assumption) | assumption)
                                  have hx54 := bt_at a0 x4_7
                                  replace p54 := eq_true p54
                                  replace q54 := eq_true q54
                                  have p56 : 0 ≤ (x4_7 : Int) := of_decide_eq_true (by first | (with_reducible assumption) | assumption)
                                  have q56 : x4_7 < (a0.size : Int) := of_decide_eq_true (by first | (with_reducible assumption) | assumption)
                                  have hx56 := bt_at a0 x4_7
                                  replace p56 := eq_true p56
                                  replace q56 := eq_true q56
                                  go_wp2
                                  go_meet
                                  case rel => exact ⟨_, (x8_7), (by first | rfl | (simp; done) | (simp [*]; done)), H', ⟨by have := HJ2.out; have := HJ5.out; have := HJ7.out; have := HJ23.out; have := HJ28.out; have := HJ38.out; have := HK7.out; first | omega | exact Nat.le_refl _⟩, ⟨by repeat (first | (with_reducible first | exact HB.out | apply below_alloc | apply pw_below_drewN | apply below_drew1) | exact HB.out)⟩⟩
                                rw [if_neg c55] at H
                                have c55b0 : decide (48 ≤ (bt a0 x4_7)) = false := decide_eq_false c55
                                clear c55
                                have H' := Aside0.mk H
                                clear H
                                have p54 : 0 ≤ (x4_7 : Int) := of_decide_eq_true (by first | (with_reducible assumption) | assumption)
                                have q54 : x4_7 < (a0.size : Int) := of_decide_eq_true (by first | (with_reducible assumption) | assumption)
                                have hx54 := bt_at a0 x4_7
                                replace p54 := eq_true p54
                                replace q54 := eq_true q54
                                go_wp2
                                go_meet
                                case rel => exact ⟨_, (x8_7), (by first | rfl | (simp; done) | (simp [*]; done)), H', ⟨by have := HJ2.out; have := HJ5.out; have := HJ7.out; have := HJ23.out; have := HJ28.out; have := HJ38.out; have := HK7.out; first | omega | exact Nat.le_refl _⟩, ⟨by repeat (first | (with_reducible first | exact HB.out | apply below_alloc | apply pw_below_drewN | apply below_drew1) | exact HB.out)⟩⟩
                              rw [if_neg c53] at H
                              exact absurd H (by simp)
                            rw [if_neg c52] at H
                            have c52b0 : decide (x4_7 < (a0.size : Int)) = false := decide_eq_false c52
                            clear c52
                            (first | rw [c52b0] | (simp only [i64_w, i32_w]; rw [c52b0]) | skip)
                            have H' := Aside0.mk H
                            clear H
                            go_wp2
                            go_meet
                            case rel => exact ⟨_, (x8_7), (by first | rfl | (simp; done) | (simp [*]; done)), H', ⟨by have := HJ2.out; have := HJ5.out; have := HJ7.out; have := HJ23.out; have := HJ28.out; have := HJ38.out; have := HK7.out; first | omega | exact Nat.le_refl _⟩, ⟨by repeat (first | (with_reducible first | exact HB.out | apply below_alloc | apply pw_below_drewN | apply below_drew1) | exact HB.out)⟩⟩
                      clear HC51
                      (try clear c1); (try clear p1); (try clear q1); (try clear hx1); (try clear c2); (try clear c2b0); (try clear c2b1); (try clear p2); (try clear q2); (try clear hx2); (try clear c3); (try clear p3); (try clear q3); (try clear hx3); (try clear c4); (try clear c4b0); (try clear c4b1); (try clear p4); (try clear q4); (try clear hx4); (try clear c5); (try clear p5); (try clear q5); (try clear hx5); (try clear qi5); (try clear p6); (try clear c7); (try clear c9); (try clear c9b0); (try clear c10); (try clear c10b0); (try clear c11); (try clear c11b0); (try clear p12); (try clear q12); (try clear hx12); (try clear c13); (try clear c13b0); (try clear c13b1); (try clear c15); (try clear c15b0); (try clear c16); (try clear c16b0); (try clear p17); (try clear q17); (try clear hx17); (try clear c18); (try clear c20); (try clear c20b0); (try clear c21); (try clear c21b0); (try clear c22); (try clear p22); (try clear q22); (try clear hx22); (try clear c25); (try clear c25b0); (try clear c27); (try clear c27b0); (try clear p28); (try clear q28); (try clear hx28); (try clear c30); (try clear c31); (try clear c31b0); (try clear c32); (try clear c32b0); (try clear p33); (try clear q33); (try clear hx33); (try clear c35); (try clear c35b0); (try clear c36); (try clear c36b0); (try clear p37); (try clear q37); (try clear hx37); (try clear c40); (try clear c40b0); (try clear c41); (try clear c41b0); (try clear c42); (try clear c42b0); (try clear p43); (try clear q43); (try clear hx43); (try clear c44); (try clear c44b0); (try clear c44b1); (try clear c45); (try clear c45b0); (try clear c46); (try clear c48); (try clear c48b0); (try clear c49); (try clear c49b0); (try clear p50); (try clear q50); (try clear hx50); (try clear c52); (try clear c52b0); (try clear c53); (try clear c53b0); (try clear p54); (try clear q54); (try clear hx54); (try clear c55); (try clear c55b0); (try clear p56); (try clear q56); (try clear hx56); (try clear c57); (try clear c57b0); (try clear c58); (try clear c58b0); (try clear p59); (try clear q59); (try clear hx59); (try clear p1); (try clear p12); (try clear p17); (try clear p2); (try clear p22); (try clear p28); (try clear p3); (try clear p33); (try clear p37); (try clear p4); (try clear p43); (try clear p5); (try clear p50); (try clear p54); (try clear p56); (try clear p59); (try clear p6); (try clear q1); (try clear q12); (try clear q17); (try clear q2); (try clear q22); (try clear q28); (try clear q3); (try clear q33); (try clear q37); (try clear q4); (try clear q43); (try clear q5); (try clear q50); (try clear q54); (try clear q56); (try clear q59)
                      obtain ⟨kq, x8_50, rfl, HA, HJ50, HB⟩ := hcut
                      cases kq with
                      | zero => exact absurd HA.out (by simp [tenorref2_Unhex.j8])
                      | succ kj50 =>
                        have H := HA.out
                        clear HA
                        simp only [tenorref2_Unhex.j8] at H
                        have HC60 := Aside0.mk H
                        clear H
                        generalize ((bt a0 (ji47)) == 45) = b7 at HC60 ⊢
                        go_upto_if 146 with (fail)
                        go_cut [8] (fun v8 wc => ∃ (kq : Nat) (x8_59 : Int), v8 = .int .i64 x8_59 ∧ Aside0 (tenorref2_Unhex.j9 kq a0 x5_28 x6_28 x8_59 = some (r1, r2)) ∧ Aside0 (kq ≤ kj50) ∧ Aside0 (Below w.heap.size w wc))
                        case first => as_aux_lemma =>
                          have H := HC60.out
                          clear HC60
                          by_cases c61 : b7 = true
                          · subst c61
                            rw [if_pos rfl] at H
                            have H' := Aside0.mk H
                            clear H
                            go_wp2
                            go_meet
                            case rel => exact ⟨_, (wrap64 (-x8_50)), (by first | rfl | (simp; done) | (simp [*]; done)), H', ⟨by have := HJ2.out; have := HJ5.out; have := HJ7.out; have := HJ23.out; have := HJ28.out; have := HJ38.out; have := HJ50.out; first | omega | exact Nat.le_refl _⟩, ⟨by repeat (first | (with_reducible first | exact HB.out | apply below_alloc | apply pw_below_drewN | apply below_drew1) | exact HB.out)⟩⟩
                          replace c61 := Bool.eq_false_iff.mpr c61
                          subst c61
                          rw [if_neg (show ¬ (false = true) by decide)] at H
                          have H' := Aside0.mk H
                          clear H
                          go_wp2
                          go_meet
                          case rel => exact ⟨_, (x8_50), (by first | rfl | (simp; done) | (simp [*]; done)), H', ⟨by have := HJ2.out; have := HJ5.out; have := HJ7.out; have := HJ23.out; have := HJ28.out; have := HJ38.out; have := HJ50.out; first | omega | exact Nat.le_refl _⟩, ⟨by repeat (first | (with_reducible first | exact HB.out | apply below_alloc | apply pw_below_drewN | apply below_drew1) | exact HB.out)⟩⟩
                        clear HC60
                        (try clear c1); (try clear p1); (try clear q1); (try clear hx1); (try clear c2); (try clear c2b0); (try clear c2b1); (try clear p2); (try clear q2); (try clear hx2); (try clear c3); (try clear p3); (try clear q3); (try clear hx3); (try clear c4); (try clear c4b0); (try clear c4b1); (try clear p4); (try clear q4); (try clear hx4); (try clear c5); (try clear p5); (try clear q5); (try clear hx5); (try clear qi5); (try clear c6); (try clear p6); (try clear c7); (try clear c9); (try clear c9b0); (try clear c10); (try clear c10b0); (try clear c11); (try clear c11b0); (try clear p12); (try clear q12); (try clear hx12); (try clear c13); (try clear c13b0); (try clear c13b1); (try clear c15); (try clear c15b0); (try clear c16); (try clear c16b0); (try clear p17); (try clear q17); (try clear hx17); (try clear c18); (try clear c20); (try clear c20b0); (try clear c21); (try clear c21b0); (try clear c22); (try clear p22); (try clear q22); (try clear hx22); (try clear c25); (try clear c25b0); (try clear c27); (try clear c27b0); (try clear p28); (try clear q28); (try clear hx28); (try clear c30); (try clear c31); (try clear c31b0); (try clear c32); (try clear c32b0); (try clear p33); (try clear q33); (try clear hx33); (try clear c35); (try clear c35b0); (try clear c36); (try clear c36b0); (try clear p37); (try clear q37); (try clear hx37); (try clear c40); (try clear c40b0); (try clear c41); (try clear c41b0); (try clear c42); (try clear c42b0); (try clear p43); (try clear q43); (try clear hx43); (try clear c44); (try clear c44b0); (try clear c44b1); (try clear c45); (try clear c45b0); (try clear c46); (try clear c48); (try clear c48b0); (try clear c49); (try clear c49b0); (try clear p50); (try clear q50); (try clear hx50); (try clear c52); (try clear c52b0); (try clear c53); (try clear c53b0); (try clear p54); (try clear q54); (try clear hx54); (try clear c55); (try clear c55b0); (try clear p56); (try clear q56); (try clear hx56); (try clear c57); (try clear c57b0); (try clear c58); (try clear c58b0); (try clear p59); (try clear q59); (try clear hx59); (try clear c61); (try clear c61b0); (try clear c61b1); (try clear c61b2); (try clear p1); (try clear p12); (try clear p17); (try clear p2); (try clear p22); (try clear p28); (try clear p3); (try clear p33); (try clear p37); (try clear p4); (try clear p43); (try clear p5); (try clear p50); (try clear p54); (try clear p56); (try clear p59); (try clear p6); (try clear q1); (try clear q12); (try clear q17); (try clear q2); (try clear q22); (try clear q28); (try clear q3); (try clear q33); (try clear q37); (try clear q4); (try clear q43); (try clear q5); (try clear q50); (try clear q54); (try clear q56); (try clear q59)
                        obtain ⟨kq, x8_59, rfl, HA, HJ59, HB⟩ := hcut
                        cases kq with
                        | zero => exact absurd HA.out (by simp [tenorref2_Unhex.j9])
                        | succ kj59 =>
                          have H := HA.out
                          clear HA
                          simp only [tenorref2_Unhex.j9] at H
                          replace H := Option.bind_eq_some_iff.mp H
                          obtain ⟨t485, A620, H⟩ := H
                          replace H : (if 0 < (a0.size : Int) then (if (bt a0 0) = 45 then ((tenorref1_Flip.f t485).bind fun t486 => ((tenorref2_Hex.f kj59 t486).bind fun bt487 => (if bt487.2 = 0 then (if bt487.1.toList = a0.toList then (some (t486, 0)) else (some (0, 20))) else (some (0, 20))))) else ((tenorref2_Hex.f kj59 t485).bind fun bt489 => (if bt489.2 = 0 then (if bt489.1.toList = a0.toList then (some (t485, 0)) else (some (0, 20))) else (some (0, 20))))) else (none)) = some (r1, r2) := H
                          have A62 := Aside0.mk A620
                          clear A620
                          by_cases c63 : 0 < (a0.size : Int)
                          · rw [if_pos c63] at H
                            have c63b0 : decide (0 < (a0.size : Int)) = true := decide_eq_true c63
                            have c63b1 : decide (0 < a0.size) = true := decide_eq_true (by omega)
                            clear c63
                            by_cases c65 : (bt a0 0) = 45
                            · rw [if_pos c65] at H
                              have c65b0 : ((bt a0 0) == 45) = true := beq_iff_eq.mpr c65
                              have c65b1 : ((bt a0 0) != 45) = false := bne_eq_false_iff_eq.mpr c65
                              clear c65
                              replace H := Option.bind_eq_some_iff.mp H
                              obtain ⟨t486, A660, H⟩ := H
                              replace H : ((tenorref2_Hex.f kj59 t486).bind fun bt487 => (if bt487.2 = 0 then (if bt487.1.toList = a0.toList then (some (t486, 0)) else (some (0, 20))) else (some (0, 20)))) = some (r1, r2) := H
                              have A66 := Aside0.mk A660
                              clear A660
                              replace H := Option.bind_eq_some_iff.mp H
                              obtain ⟨⟨t487, t488⟩, A670, H⟩ := H
                              replace H : (if t488 = 0 then (if t487.toList = a0.toList then (some (t486, 0)) else (some (0, 20))) else (some (0, 20))) = some (r1, r2) := H
                              have A67 := Aside0.mk A670
                              clear A670
                              by_cases c68 : t488 = 0
                              · rw [if_pos c68] at H
                                have c68b0 : (t488 == 0) = true := beq_iff_eq.mpr c68
                                have c68b1 : (t488 != 0) = false := bne_eq_false_iff_eq.mpr c68
                                clear c68
                                by_cases c69 : t487.toList = a0.toList
                                · rw [if_pos c69] at H
                                  have c69b0 : (t487.toList == a0.toList) = true := beq_iff_eq.mpr c69
                                  have c69b1 : (t487.toList != a0.toList) = false := bne_eq_false_iff_eq.mpr c69
                                  clear c69
                                  simp only [Option.some.injEq, Prod.mk.injEq] at H
                                  obtain ⟨rfl, rfl⟩ := H
                                  go_wp2_with (first | ((with_reducible refine gate_callee (f := 57) rfl ?_); refine goesL_ (some 153) rfl rfl Tryz.func57 (by kernel_rfl) rfl #[.int .i64 x5_28, .int .i64 (wrap64 (x6_28 + x8_59))] rfl (by (try simp only [List.map_toArray, List.map_cons, List.map_nil]); first | done | rfl | (simp only [List.length_drop, List.length_take]; rfl)) ?_; (with_reducible refine (tenorref1_Join.calls kj59 x5_28 (wrap64 (x6_28 + x8_59)) t485 _ A62.out).mono ?_); rintro e w70 ⟨rfl, hb⟩; refine ⟨_, rfl, ?_⟩; have n0_ := Aside0.mk (below_step (by repeat (first | (with_reducible first | exact HB.out | apply below_alloc | apply pw_below_drewN | apply below_drew1) | exact HB.out)) hb); clear HB; have HB := n0_; clear n0_; (try clear hb); (try clear hb2); (try clear hk); (try clear hi); have p64 : 0 ≤ (0 : Int) := (by omega); have q64 : 0 < a0.size := (by have : (0 : Int) < (a0.size : Int) := of_decide_eq_true (by first | (with_reducible assumption) | assumption); omega); have hx64 : ∀ h : 0 < a0.size, ((a0[0]'h).toNat : Int) = bt a0 0 := bt_at a0 0; clear p64; have qi64 : (0 < (a0.size : Int)) = True := eq_true (of_decide_eq_true (by first | (with_reducible assumption) | assumption)); replace q64 := eq_true q64) | ((with_reducible refine gate_callee (f := 58) rfl ?_); refine goesL_ (some 158) rfl rfl Tryz.func58 (by kernel_rfl) rfl #[.int .u64 t485] rfl (by (try simp only [List.map_toArray, List.map_cons, List.map_nil]); first | done | rfl | (simp only [List.length_drop, List.length_take]; rfl)) ?_; (with_reducible refine (tenorref1_Flip.calls t485 t486 _ A66.out).mono ?_); rintro e w' ⟨rfl, ⟨nd, rfl⟩⟩; refine ⟨_, rfl, ?_⟩) | ((with_reducible refine gate_callee (f := 20) rfl ?_); refine goesL_ (some 161) rfl rfl Tryz.func20 (by kernel_rfl) rfl #[.int .u64 t486] rfl (by (try simp only [List.map_toArray, List.map_cons, List.map_nil]); first | done | rfl | (simp only [List.length_drop, List.length_take]; rfl)) ?_; (with_reducible refine (tenorref2_Hex.calls kj59 t486 t487 t488 _ A67.out).mono ?_); rintro e w71 ⟨rfl, hb⟩; refine ⟨_, rfl, ?_⟩; have n0_ := Aside0.mk (below_step (by repeat (first | (with_reducible first | exact HB.out | apply below_alloc | apply pw_below_drewN | apply below_drew1) | exact HB.out)) hb); clear HB; have HB := n0_; clear n0_; (try clear hb); (try clear hb2); (try clear hk); (try clear hi)))
                                  go_ret2
                                  exact ⟨by first | rfl | (simp [errW_none, errW_some] <;> rfl) | (simp only [← hji19, ← hji47]; first | rfl | (simp [errW_none, errW_some] <;> rfl)) | (simp [*, errW_none, errW_some] <;> rfl), by repeat (first | (with_reducible first | exact HB.out | apply below_alloc | apply pw_below_drewN | apply below_drew1) | exact HB.out)⟩
                                rw [if_neg c69] at H
                                have c69b0 : (t487.toList == a0.toList) = false := beq_eq_false_iff_ne.mpr c69
                                have c69b1 : (t487.toList != a0.toList) = true := bne_iff_ne.mpr c69
                                simp only [Option.some.injEq, Prod.mk.injEq] at H
                                obtain ⟨rfl, rfl⟩ := H
                                go_wp2_with (first | ((with_reducible refine gate_callee (f := 57) rfl ?_); refine goesL_ (some 153) rfl rfl Tryz.func57 (by kernel_rfl) rfl #[.int .i64 x5_28, .int .i64 (wrap64 (x6_28 + x8_59))] rfl (by (try simp only [List.map_toArray, List.map_cons, List.map_nil]); first | done | rfl | (simp only [List.length_drop, List.length_take]; rfl)) ?_; (with_reducible refine (tenorref1_Join.calls kj59 x5_28 (wrap64 (x6_28 + x8_59)) t485 _ A62.out).mono ?_); rintro e w72 ⟨rfl, hb⟩; refine ⟨_, rfl, ?_⟩; have n0_ := Aside0.mk (below_step (by repeat (first | (with_reducible first | exact HB.out | apply below_alloc | apply pw_below_drewN | apply below_drew1) | exact HB.out)) hb); clear HB; have HB := n0_; clear n0_; (try clear hb); (try clear hb2); (try clear hk); (try clear hi); have p64 : 0 ≤ (0 : Int) := (by omega); have q64 : 0 < a0.size := (by have : (0 : Int) < (a0.size : Int) := of_decide_eq_true (by first | (with_reducible assumption) | assumption); omega); have hx64 : ∀ h : 0 < a0.size, ((a0[0]'h).toNat : Int) = bt a0 0 := bt_at a0 0; clear p64; have qi64 : (0 < (a0.size : Int)) = True := eq_true (of_decide_eq_true (by first | (with_reducible assumption) | assumption)); replace q64 := eq_true q64) | ((with_reducible refine gate_callee (f := 58) rfl ?_); refine goesL_ (some 158) rfl rfl Tryz.func58 (by kernel_rfl) rfl #[.int .u64 t485] rfl (by (try simp only [List.map_toArray, List.map_cons, List.map_nil]); first | done | rfl | (simp only [List.length_drop, List.length_take]; rfl)) ?_; (with_reducible refine (tenorref1_Flip.calls t485 t486 _ A66.out).mono ?_); rintro e w' ⟨rfl, ⟨nd, rfl⟩⟩; refine ⟨_, rfl, ?_⟩) | ((with_reducible refine gate_callee (f := 20) rfl ?_); refine goesL_ (some 161) rfl rfl Tryz.func20 (by kernel_rfl) rfl #[.int .u64 t486] rfl (by (try simp only [List.map_toArray, List.map_cons, List.map_nil]); first | done | rfl | (simp only [List.length_drop, List.length_take]; rfl)) ?_; (with_reducible refine (tenorref2_Hex.calls kj59 t486 t487 t488 _ A67.out).mono ?_); rintro e w73 ⟨rfl, hb⟩; refine ⟨_, rfl, ?_⟩; have n0_ := Aside0.mk (below_step (by repeat (first | (with_reducible first | exact HB.out | apply below_alloc | apply pw_below_drewN | apply below_drew1) | exact HB.out)) hb); clear HB; have HB := n0_; clear n0_; (try clear hb); (try clear hb2); (try clear hk); (try clear hi)))
                                go_ret2
                                exact ⟨by first | rfl | (simp [errW_none, errW_some] <;> rfl) | (simp only [← hji19, ← hji47]; first | rfl | (simp [errW_none, errW_some] <;> rfl)) | (simp [*, errW_none, errW_some] <;> rfl), by repeat (first | (with_reducible first | exact HB.out | apply below_alloc | apply pw_below_drewN | apply below_drew1) | exact HB.out)⟩
                              rw [if_neg c68] at H
                              have c68b0 : (t488 == 0) = false := beq_eq_false_iff_ne.mpr c68
                              have c68b1 : (t488 != 0) = true := bne_iff_ne.mpr c68
                              simp only [Option.some.injEq, Prod.mk.injEq] at H
                              obtain ⟨rfl, rfl⟩ := H
                              go_wp2_with (first | ((with_reducible refine gate_callee (f := 57) rfl ?_); refine goesL_ (some 153) rfl rfl Tryz.func57 (by kernel_rfl) rfl #[.int .i64 x5_28, .int .i64 (wrap64 (x6_28 + x8_59))] rfl (by (try simp only [List.map_toArray, List.map_cons, List.map_nil]); first | done | rfl | (simp only [List.length_drop, List.length_take]; rfl)) ?_; (with_reducible refine (tenorref1_Join.calls kj59 x5_28 (wrap64 (x6_28 + x8_59)) t485 _ A62.out).mono ?_); rintro e w74 ⟨rfl, hb⟩; refine ⟨_, rfl, ?_⟩; have n0_ := Aside0.mk (below_step (by repeat (first | (with_reducible first | exact HB.out | apply below_alloc | apply pw_below_drewN | apply below_drew1) | exact HB.out)) hb); clear HB; have HB := n0_; clear n0_; (try clear hb); (try clear hb2); (try clear hk); (try clear hi); have p64 : 0 ≤ (0 : Int) := (by omega); have q64 : 0 < a0.size := (by have : (0 : Int) < (a0.size : Int) := of_decide_eq_true (by first | (with_reducible assumption) | assumption); omega); have hx64 : ∀ h : 0 < a0.size, ((a0[0]'h).toNat : Int) = bt a0 0 := bt_at a0 0; clear p64; have qi64 : (0 < (a0.size : Int)) = True := eq_true (of_decide_eq_true (by first | (with_reducible assumption) | assumption)); replace q64 := eq_true q64) | ((with_reducible refine gate_callee (f := 58) rfl ?_); refine goesL_ (some 158) rfl rfl Tryz.func58 (by kernel_rfl) rfl #[.int .u64 t485] rfl (by (try simp only [List.map_toArray, List.map_cons, List.map_nil]); first | done | rfl | (simp only [List.length_drop, List.length_take]; rfl)) ?_; (with_reducible refine (tenorref1_Flip.calls t485 t486 _ A66.out).mono ?_); rintro e w' ⟨rfl, ⟨nd, rfl⟩⟩; refine ⟨_, rfl, ?_⟩) | ((with_reducible refine gate_callee (f := 20) rfl ?_); refine goesL_ (some 161) rfl rfl Tryz.func20 (by kernel_rfl) rfl #[.int .u64 t486] rfl (by (try simp only [List.map_toArray, List.map_cons, List.map_nil]); first | done | rfl | (simp only [List.length_drop, List.length_take]; rfl)) ?_; (with_reducible refine (tenorref2_Hex.calls kj59 t486 t487 t488 _ A67.out).mono ?_); rintro e w75 ⟨rfl, hb⟩; refine ⟨_, rfl, ?_⟩; have n0_ := Aside0.mk (below_step (by repeat (first | (with_reducible first | exact HB.out | apply below_alloc | apply pw_below_drewN | apply below_drew1) | exact HB.out)) hb); clear HB; have HB := n0_; clear n0_; (try clear hb); (try clear hb2); (try clear hk); (try clear hi)))
                              go_ret2
                              exact ⟨by first | rfl | (simp [errW_none, errW_some] <;> rfl) | (simp only [← hji19, ← hji47]; first | rfl | (simp [errW_none, errW_some] <;> rfl)) | (simp [*, errW_none, errW_some] <;> rfl), by repeat (first | (with_reducible first | exact HB.out | apply below_alloc | apply pw_below_drewN | apply below_drew1) | exact HB.out)⟩
                            rw [if_neg c65] at H
                            have c65b0 : ((bt a0 0) == 45) = false := beq_eq_false_iff_ne.mpr c65
                            have c65b1 : ((bt a0 0) != 45) = true := bne_iff_ne.mpr c65
                            replace H := Option.bind_eq_some_iff.mp H
                            obtain ⟨⟨t489, t490⟩, A760, H⟩ := H
                            replace H : (if t490 = 0 then (if t489.toList = a0.toList then (some (t485, 0)) else (some (0, 20))) else (some (0, 20))) = some (r1, r2) := H
                            have A76 := Aside0.mk A760
                            clear A760
                            by_cases c77 : t490 = 0
                            · rw [if_pos c77] at H
                              have c77b0 : (t490 == 0) = true := beq_iff_eq.mpr c77
                              have c77b1 : (t490 != 0) = false := bne_eq_false_iff_eq.mpr c77
                              clear c77
                              by_cases c78 : t489.toList = a0.toList
                              · rw [if_pos c78] at H
                                have c78b0 : (t489.toList == a0.toList) = true := beq_iff_eq.mpr c78
                                have c78b1 : (t489.toList != a0.toList) = false := bne_eq_false_iff_eq.mpr c78
                                clear c78
                                simp only [Option.some.injEq, Prod.mk.injEq] at H
                                obtain ⟨rfl, rfl⟩ := H
                                go_wp2_with (first | ((with_reducible refine gate_callee (f := 57) rfl ?_); refine goesL_ (some 153) rfl rfl Tryz.func57 (by kernel_rfl) rfl #[.int .i64 x5_28, .int .i64 (wrap64 (x6_28 + x8_59))] rfl (by (try simp only [List.map_toArray, List.map_cons, List.map_nil]); first | done | rfl | (simp only [List.length_drop, List.length_take]; rfl)) ?_; (with_reducible refine (tenorref1_Join.calls kj59 x5_28 (wrap64 (x6_28 + x8_59)) t485 _ A62.out).mono ?_); rintro e w79 ⟨rfl, hb⟩; refine ⟨_, rfl, ?_⟩; have n0_ := Aside0.mk (below_step (by repeat (first | (with_reducible first | exact HB.out | apply below_alloc | apply pw_below_drewN | apply below_drew1) | exact HB.out)) hb); clear HB; have HB := n0_; clear n0_; (try clear hb); (try clear hb2); (try clear hk); (try clear hi); have p64 : 0 ≤ (0 : Int) := (by omega); have q64 : 0 < a0.size := (by have : (0 : Int) < (a0.size : Int) := of_decide_eq_true (by first | (with_reducible assumption) | assumption); omega); have hx64 : ∀ h : 0 < a0.size, ((a0[0]'h).toNat : Int) = bt a0 0 := bt_at a0 0; clear p64; have qi64 : (0 < (a0.size : Int)) = True := eq_true (of_decide_eq_true (by first | (with_reducible assumption) | assumption)); replace q64 := eq_true q64) | ((with_reducible refine gate_callee (f := 20) rfl ?_); refine goesL_ (some 161) rfl rfl Tryz.func20 (by kernel_rfl) rfl #[.int .u64 t485] rfl (by (try simp only [List.map_toArray, List.map_cons, List.map_nil]); first | done | rfl | (simp only [List.length_drop, List.length_take]; rfl)) ?_; (with_reducible refine (tenorref2_Hex.calls kj59 t485 t489 t490 _ A76.out).mono ?_); rintro e w80 ⟨rfl, hb⟩; refine ⟨_, rfl, ?_⟩; have n0_ := Aside0.mk (below_step (by repeat (first | (with_reducible first | exact HB.out | apply below_alloc | apply pw_below_drewN | apply below_drew1) | exact HB.out)) hb); clear HB; have HB := n0_; clear n0_; (try clear hb); (try clear hb2); (try clear hk); (try clear hi)))
                                go_ret2
                                exact ⟨by first | rfl | (simp [errW_none, errW_some] <;> rfl) | (simp only [← hji19, ← hji47]; first | rfl | (simp [errW_none, errW_some] <;> rfl)) | (simp [*, errW_none, errW_some] <;> rfl), by repeat (first | (with_reducible first | exact HB.out | apply below_alloc | apply pw_below_drewN | apply below_drew1) | exact HB.out)⟩
                              rw [if_neg c78] at H
                              have c78b0 : (t489.toList == a0.toList) = false := beq_eq_false_iff_ne.mpr c78
                              have c78b1 : (t489.toList != a0.toList) = true := bne_iff_ne.mpr c78
                              simp only [Option.some.injEq, Prod.mk.injEq] at H
                              obtain ⟨rfl, rfl⟩ := H
                              go_wp2_with (first | ((with_reducible refine gate_callee (f := 57) rfl ?_); refine goesL_ (some 153) rfl rfl Tryz.func57 (by kernel_rfl) rfl #[.int .i64 x5_28, .int .i64 (wrap64 (x6_28 + x8_59))] rfl (by (try simp only [List.map_toArray, List.map_cons, List.map_nil]); first | done | rfl | (simp only [List.length_drop, List.length_take]; rfl)) ?_; (with_reducible refine (tenorref1_Join.calls kj59 x5_28 (wrap64 (x6_28 + x8_59)) t485 _ A62.out).mono ?_); rintro e w81 ⟨rfl, hb⟩; refine ⟨_, rfl, ?_⟩; have n0_ := Aside0.mk (below_step (by repeat (first | (with_reducible first | exact HB.out | apply below_alloc | apply pw_below_drewN | apply below_drew1) | exact HB.out)) hb); clear HB; have HB := n0_; clear n0_; (try clear hb); (try clear hb2); (try clear hk); (try clear hi); have p64 : 0 ≤ (0 : Int) := (by omega); have q64 : 0 < a0.size := (by have : (0 : Int) < (a0.size : Int) := of_decide_eq_true (by first | (with_reducible assumption) | assumption); omega); have hx64 : ∀ h : 0 < a0.size, ((a0[0]'h).toNat : Int) = bt a0 0 := bt_at a0 0; clear p64; have qi64 : (0 < (a0.size : Int)) = True := eq_true (of_decide_eq_true (by first | (with_reducible assumption) | assumption)); replace q64 := eq_true q64) | ((with_reducible refine gate_callee (f := 20) rfl ?_); refine goesL_ (some 161) rfl rfl Tryz.func20 (by kernel_rfl) rfl #[.int .u64 t485] rfl (by (try simp only [List.map_toArray, List.map_cons, List.map_nil]); first | done | rfl | (simp only [List.length_drop, List.length_take]; rfl)) ?_; (with_reducible refine (tenorref2_Hex.calls kj59 t485 t489 t490 _ A76.out).mono ?_); rintro e w82 ⟨rfl, hb⟩; refine ⟨_, rfl, ?_⟩; have n0_ := Aside0.mk (below_step (by repeat (first | (with_reducible first | exact HB.out | apply below_alloc | apply pw_below_drewN | apply below_drew1) | exact HB.out)) hb); clear HB; have HB := n0_; clear n0_; (try clear hb); (try clear hb2); (try clear hk); (try clear hi)))
                              go_ret2
                              exact ⟨by first | rfl | (simp [errW_none, errW_some] <;> rfl) | (simp only [← hji19, ← hji47]; first | rfl | (simp [errW_none, errW_some] <;> rfl)) | (simp [*, errW_none, errW_some] <;> rfl), by repeat (first | (with_reducible first | exact HB.out | apply below_alloc | apply pw_below_drewN | apply below_drew1) | exact HB.out)⟩
                            rw [if_neg c77] at H
                            have c77b0 : (t490 == 0) = false := beq_eq_false_iff_ne.mpr c77
                            have c77b1 : (t490 != 0) = true := bne_iff_ne.mpr c77
                            simp only [Option.some.injEq, Prod.mk.injEq] at H
                            obtain ⟨rfl, rfl⟩ := H
                            go_wp2_with (first | ((with_reducible refine gate_callee (f := 57) rfl ?_); refine goesL_ (some 153) rfl rfl Tryz.func57 (by kernel_rfl) rfl #[.int .i64 x5_28, .int .i64 (wrap64 (x6_28 + x8_59))] rfl (by (try simp only [List.map_toArray, List.map_cons, List.map_nil]); first | done | rfl | (simp only [List.length_drop, List.length_take]; rfl)) ?_; (with_reducible refine (tenorref1_Join.calls kj59 x5_28 (wrap64 (x6_28 + x8_59)) t485 _ A62.out).mono ?_); rintro e w83 ⟨rfl, hb⟩; refine ⟨_, rfl, ?_⟩; have n0_ := Aside0.mk (below_step (by repeat (first | (with_reducible first | exact HB.out | apply below_alloc | apply pw_below_drewN | apply below_drew1) | exact HB.out)) hb); clear HB; have HB := n0_; clear n0_; (try clear hb); (try clear hb2); (try clear hk); (try clear hi); have p64 : 0 ≤ (0 : Int) := (by omega); have q64 : 0 < a0.size := (by have : (0 : Int) < (a0.size : Int) := of_decide_eq_true (by first | (with_reducible assumption) | assumption); omega); have hx64 : ∀ h : 0 < a0.size, ((a0[0]'h).toNat : Int) = bt a0 0 := bt_at a0 0; clear p64; have qi64 : (0 < (a0.size : Int)) = True := eq_true (of_decide_eq_true (by first | (with_reducible assumption) | assumption)); replace q64 := eq_true q64) | ((with_reducible refine gate_callee (f := 20) rfl ?_); refine goesL_ (some 161) rfl rfl Tryz.func20 (by kernel_rfl) rfl #[.int .u64 t485] rfl (by (try simp only [List.map_toArray, List.map_cons, List.map_nil]); first | done | rfl | (simp only [List.length_drop, List.length_take]; rfl)) ?_; (with_reducible refine (tenorref2_Hex.calls kj59 t485 t489 t490 _ A76.out).mono ?_); rintro e w84 ⟨rfl, hb⟩; refine ⟨_, rfl, ?_⟩; have n0_ := Aside0.mk (below_step (by repeat (first | (with_reducible first | exact HB.out | apply below_alloc | apply pw_below_drewN | apply below_drew1) | exact HB.out)) hb); clear HB; have HB := n0_; clear n0_; (try clear hb); (try clear hb2); (try clear hk); (try clear hi)))
                            go_ret2
                            exact ⟨by first | rfl | (simp [errW_none, errW_some] <;> rfl) | (simp only [← hji19, ← hji47]; first | rfl | (simp [errW_none, errW_some] <;> rfl)) | (simp [*, errW_none, errW_some] <;> rfl), by repeat (first | (with_reducible first | exact HB.out | apply below_alloc | apply pw_below_drewN | apply below_drew1) | exact HB.out)⟩
                          rw [if_neg c63] at H
                          exact absurd H (by simp)
                    rw [if_neg c49] at H
                    exact absurd H (by simp)
                  rw [if_neg c48] at H
                  exact absurd H (by simp)
          rw [if_neg c21] at H
          exact absurd H (by simp)
        rw [if_neg c20] at H
        exact absurd H (by simp)
end Go.Proofs.YtjpiplplohapnaaGreatDoor.PText
