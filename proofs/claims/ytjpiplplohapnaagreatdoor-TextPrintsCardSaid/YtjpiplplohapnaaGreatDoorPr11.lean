/- Part 11 of the proof: RPrint. -/
import Derived.Test.YtjpiplplohapnaaGreatDoorPr10
set_option linter.unusedVariables false
set_option linter.unusedSimpArgs false
namespace Go.Proofs.YtjpiplplohapnaaGreatDoor.PText
open Go.RowKit Go.Proofs.YtjpiplplohapnaaGreatDoorW.PrintWords Go.Proofs.YtjpiplplohapnaaGreatDoorW.PrintLast Go.Proofs.YtjpiplplohapnaaGreatDoorW.PrintMore
attribute [local go_sem] max2_int min2_int max_two min_two max_three min_three max_four min_four
set_option linter.unusedVariables false
set_option linter.unusedSimpArgs false
mutual
def tenorref2_Print.j0 : Nat → Int → Int → Bool → Option (ByteArray × Int)
  | 0, _, _, _ => none
  | k + 1, x0, x1, x23 => if x23 = true then (some ((⟨#[]⟩ : ByteArray), 20)) else ((tenorref1_Size.f x0).bind fun t429 => ((tenorref1_Of.f k t429).bind fun bt430 => ((tenorref2_ten.f k x1).bind fun t436 => ((tenorref1_MulDigits.f k bt430.2.1 t436).bind fun t439 => (if bt430.2.2 ≥ 0 then ((tenorref1_ShiftUp.f k t439 bt430.2.2).bind fun t442 => (tenorref2_Print.j1 k x0 x1 t442)) else ((tenorref1_ShiftDown.f k t439 (wrap64 (-bt430.2.2))).bind fun bt445 => ((tenorref1_ShiftDown.f k t439 (wrap64 ((wrap64 (-bt430.2.2)) - 1))).bind fun bt449 => ((tenorref2_odd.f bt449.1).bind fun t453 => (if t453 = true then (if bt449.2 = true then ((tenorref1_AddDigits.f k bt445.1 (([1] : List Int))).bind fun t457 => (tenorref2_Print.j1 k x0 x1 t457)) else ((tenorref2_odd.f bt445.1).bind fun t460 => (if t460 = true then ((tenorref1_AddDigits.f k bt445.1 (([1] : List Int))).bind fun t464 => (tenorref2_Print.j1 k x0 x1 t464)) else (tenorref2_Print.j1 k x0 x1 bt445.1)))) else (tenorref2_Print.j1 k x0 x1 bt445.1))))))))))
def tenorref2_Print.j1 : Nat → Int → Int → List Int → Option (ByteArray × Int)
  | 0, _, _, _ => none
  | k + 1, x0, x1, x7 => (tenorref2_Decimal.f k x7).bind fun t467 => (tenorref2_Print.l0 k x0 x1 t467)
def tenorref2_Print.l0 : Nat → Int → Int → ByteArray → Option (ByteArray × Int)
  | 0, _, _, _ => none
  | k + 1, x0, x1, x12 => if (x12.size : Int) ≤ x1 then (if 1 + x12.size ≤ 9223372036854775807 then (tenorref2_Print.l0 k x0 x1 ((⟨#[48]⟩ : ByteArray) ++ x12)) else (none)) else (if x1 > 0 then (if 0 ≤ (wrap64 ((x12.size : Int) - x1)) then (if (wrap64 ((x12.size : Int) - x1)) ≤ (x12.size : Int) then (if (x12.extract 0 ((wrap64 ((x12.size : Int) - x1)) : Int).toNat).size + 1 ≤ 9223372036854775807 then (if ((x12.extract 0 ((wrap64 ((x12.size : Int) - x1)) : Int).toNat) ++ (⟨#[46]⟩ : ByteArray)).size + (x12.extract ((wrap64 ((x12.size : Int) - x1)) : Int).toNat x12.size).size ≤ 9223372036854775807 then ((tenorref1_Negative.f x0).bind fun t468 => (if t468 = true then (if 1 + (((x12.extract 0 ((wrap64 ((x12.size : Int) - x1)) : Int).toNat) ++ (⟨#[46]⟩ : ByteArray)) ++ (x12.extract ((wrap64 ((x12.size : Int) - x1)) : Int).toNat x12.size)).size ≤ 9223372036854775807 then (some ((⟨#[45]⟩ : ByteArray) ++ (((x12.extract 0 ((wrap64 ((x12.size : Int) - x1)) : Int).toNat) ++ (⟨#[46]⟩ : ByteArray)) ++ (x12.extract ((wrap64 ((x12.size : Int) - x1)) : Int).toNat x12.size)), 0)) else (none)) else (some (((x12.extract 0 ((wrap64 ((x12.size : Int) - x1)) : Int).toNat) ++ (⟨#[46]⟩ : ByteArray)) ++ (x12.extract ((wrap64 ((x12.size : Int) - x1)) : Int).toNat x12.size), 0)))) else (none)) else (none)) else (none)) else (none)) else ((tenorref1_Negative.f x0).bind fun t469 => (if t469 = true then (if 1 + x12.size ≤ 9223372036854775807 then (some ((⟨#[45]⟩ : ByteArray) ++ x12, 0)) else (none)) else (some (x12, 0)))))
end
def tenorref2_Print.f (k : Nat) (a0 : Int) (a1 : Int) : Option (ByteArray × Int) := (tenorref1_Number.f a0).bind fun t428 => (if t428 = true then (if a1 < 0 then (tenorref2_Print.j0 k a0 a1 true) else (tenorref2_Print.j0 k a0 a1 (decide (a1 > 30)))) else (tenorref2_Print.j0 k a0 a1 true))
def tenorref2_Print.T16 : Bool × List (List Nat × List Nat) := (true, [([], []), ([], []), ([1], [1]), ([], []), ([2, 3], [2, 3]), ([0, 4], [0, 4]), ([5], [5]), ([], []), ([], []), ([8], [8]), ([], []), ([9, 10], [9, 10]), ([7, 11], [7, 11]), ([6, 12], [6, 12]), ([13, 0, 1, 2, 3, 4, 5, 6, 7, 8, 9, 10, 11, 12, 13], [0, 1, 7, 8, 13])])
def tenorref2_Print.B16 : List Nat := [0, 0, 2, 0, 14, 31, 63, 0, 0, 256, 0, 1792, 3968, 8191, 16383]
theorem tenorref2_Print.tab16 : rtab .any (opsOf Tryz.f15 16) = tenorref2_Print.T16 := by kernel_rfl
theorem tenorref2_Print.bits16 : waitsOk tenorref2_Print.T16.2 tenorref2_Print.B16 = true := by kernel_rfl
set_option maxHeartbeats 8000000 in
set_option maxRecDepth 100000 in
theorem tenorref2_Print.calls (k : Nat) (a0 : Int) (a1 : Int) (r1 : ByteArray) (r2 : Int) (w : World) (h : tenorref2_Print.f k a0 a1 = some (r1, r2)) :
    Calls Tryz.prog 15 #[.int .u64 a0, .int .i64 a1] w fun e w' => e = .returned (.tuple #[.string r1, .int .i64 r2]) ∧ Below w.heap.size w w' := by
  have hu61 := Tryz.underlying61
  have HB := Aside0.mk (Below.refl w.heap.size w)
  have H : ((tenorref1_Number.f a0).bind fun t428 => (if t428 = true then (if a1 < 0 then (tenorref2_Print.j0 k a0 a1 true) else (tenorref2_Print.j0 k a0 a1 (decide (a1 > 30)))) else (tenorref2_Print.j0 k a0 a1 true))) = some (r1, r2) := h
  clear h
  have HC3 := Aside0.mk H
  clear H
  go_enter Tryz.func15, Tryz.ntmps15
  go_upto_region 1 with (fail)
  go_cut [23] (fun v23 wc => ∃ (kq : Nat) (x23_2 : Bool), v23 = .bool x23_2 ∧ Aside0 (tenorref2_Print.j0 kq a0 a1 x23_2 = some (r1, r2)) ∧ Aside0 (kq ≤ k) ∧ Aside0 (Below w.heap.size w wc))
  case first =>
    have H := HC3.out
    clear HC3
    replace H := Option.bind_eq_some_iff.mp H
    obtain ⟨t428, A40, H⟩ := H
    replace H : (if t428 = true then (if a1 < 0 then (tenorref2_Print.j0 k a0 a1 true) else (tenorref2_Print.j0 k a0 a1 (decide (a1 > 30)))) else (tenorref2_Print.j0 k a0 a1 true)) = some (r1, r2) := H
    have A4 := Aside0.mk A40
    clear A40
    by_cases c5 : t428 = true
    · subst c5
      have H1 : (if a1 < 0 then (tenorref2_Print.j0 k a0 a1 true) else (tenorref2_Print.j0 k a0 a1 (decide (a1 > 30)))) = some (r1, r2) := by rw [if_pos rfl] at H; exact H
      clear H
      have H := H1
      clear H1
      by_cases c6 : a1 < 0
      · rw [if_pos c6] at H
        have c6b0 : decide (a1 < 0) = true := decide_eq_true c6
        clear c6
        (first | rw [c6b0] | (simp only [i64_w, i32_w]; rw [c6b0]) | skip)
        have H' := Aside0.mk H
        clear H
        go_wp2_with (first | ((with_reducible refine gate_callee (f := 32) rfl ?_); refine goesL_ (some 14) rfl rfl Tryz.func32 (by kernel_rfl) rfl #[.int .u64 a0] rfl (by (try simp only [List.map_toArray, List.map_cons, List.map_nil]); first | done | rfl | (simp only [List.length_drop, List.length_take]; rfl)) ?_; (with_reducible refine (tenorref1_Number.calls a0 true _ A4.out).mono ?_); rintro e w' ⟨rfl, ⟨nd, rfl⟩⟩; refine ⟨_, rfl, ?_⟩))
        go_meet
        case rel => exact ⟨_, (true), (by first | rfl | (simp; done) | (simp [*]; done)), H', ⟨by first | omega | exact Nat.le_refl _⟩, ⟨by repeat (first | (with_reducible first | exact HB.out | apply below_alloc | apply pw_below_drewN | apply below_drew1) | exact HB.out)⟩⟩
      rw [if_neg c6] at H
      have c6b0 : decide (a1 < 0) = false := decide_eq_false c6
      clear c6
      (first | rw [c6b0] | (simp only [i64_w, i32_w]; rw [c6b0]) | skip)
      have H' := Aside0.mk H
      clear H
      go_wp2_with (first | ((with_reducible refine gate_callee (f := 32) rfl ?_); refine goesL_ (some 14) rfl rfl Tryz.func32 (by kernel_rfl) rfl #[.int .u64 a0] rfl (by (try simp only [List.map_toArray, List.map_cons, List.map_nil]); first | done | rfl | (simp only [List.length_drop, List.length_take]; rfl)) ?_; (with_reducible refine (tenorref1_Number.calls a0 true _ A4.out).mono ?_); rintro e w' ⟨rfl, ⟨nd, rfl⟩⟩; refine ⟨_, rfl, ?_⟩))
      go_meet
      case rel => exact ⟨_, (decide (a1 > 30)), (by first | rfl | (simp; done) | (simp [*]; done)), H', ⟨by first | omega | exact Nat.le_refl _⟩, ⟨by repeat (first | (with_reducible first | exact HB.out | apply below_alloc | apply pw_below_drewN | apply below_drew1) | exact HB.out)⟩⟩
    replace c5 := Bool.eq_false_iff.mpr c5
    subst c5
    have H1 : (tenorref2_Print.j0 k a0 a1 true) = some (r1, r2) := by rw [if_neg (show ¬ (false = true) by decide)] at H; exact H
    clear H
    have H := H1
    clear H1
    have H' := Aside0.mk H
    clear H
    go_wp2_with (first | ((with_reducible refine gate_callee (f := 32) rfl ?_); refine goesL_ (some 14) rfl rfl Tryz.func32 (by kernel_rfl) rfl #[.int .u64 a0] rfl (by (try simp only [List.map_toArray, List.map_cons, List.map_nil]); first | done | rfl | (simp only [List.length_drop, List.length_take]; rfl)) ?_; (with_reducible refine (tenorref1_Number.calls a0 false _ A4.out).mono ?_); rintro e w' ⟨rfl, ⟨nd, rfl⟩⟩; refine ⟨_, rfl, ?_⟩))
    go_meet
    case rel => exact ⟨_, (true), (by first | rfl | (simp; done) | (simp [*]; done)), H', ⟨by first | omega | exact Nat.le_refl _⟩, ⟨by repeat (first | (with_reducible first | exact HB.out | apply below_alloc | apply pw_below_drewN | apply below_drew1) | exact HB.out)⟩⟩
  clear HC3
  (try clear c1); (try clear p2); (try clear c3); (try clear c5); (try clear c6); (try clear c6b0)
  obtain ⟨kq, x23_2, rfl, HA, HJ2, HB⟩ := hcut
  cases kq with
  | zero => exact absurd HA.out (by simp [tenorref2_Print.j0])
  | succ kj2 =>
    have H := HA.out
    clear HA
    simp only [tenorref2_Print.j0] at H
    by_cases c7 : x23_2 = true
    · subst c7
      have H1 : (some ((⟨#[]⟩ : ByteArray), 20)) = some (r1, r2) := by rw [if_pos rfl] at H; exact H
      clear H
      have H := H1
      clear H1
      simp only [Option.some.injEq, Prod.mk.injEq] at H
      obtain ⟨rfl, rfl⟩ := H
      go_wp2
      go_ret2
      exact ⟨by first | rfl | (simp [errW_none, errW_some] <;> rfl) | (simp [*, errW_none, errW_some] <;> rfl), by repeat (first | (with_reducible first | exact HB.out | apply below_alloc | apply pw_below_drewN | apply below_drew1) | exact HB.out)⟩
    replace c7 := Bool.eq_false_iff.mpr c7
    subst c7
    have H1 : ((tenorref1_Size.f a0).bind fun t429 => ((tenorref1_Of.f kj2 t429).bind fun bt430 => ((tenorref2_ten.f kj2 a1).bind fun t436 => ((tenorref1_MulDigits.f kj2 bt430.2.1 t436).bind fun t439 => (if bt430.2.2 ≥ 0 then ((tenorref1_ShiftUp.f kj2 t439 bt430.2.2).bind fun t442 => (tenorref2_Print.j1 kj2 a0 a1 t442)) else ((tenorref1_ShiftDown.f kj2 t439 (wrap64 (-bt430.2.2))).bind fun bt445 => ((tenorref1_ShiftDown.f kj2 t439 (wrap64 ((wrap64 (-bt430.2.2)) - 1))).bind fun bt449 => ((tenorref2_odd.f bt449.1).bind fun t453 => (if t453 = true then (if bt449.2 = true then ((tenorref1_AddDigits.f kj2 bt445.1 (([1] : List Int))).bind fun t457 => (tenorref2_Print.j1 kj2 a0 a1 t457)) else ((tenorref2_odd.f bt445.1).bind fun t460 => (if t460 = true then ((tenorref1_AddDigits.f kj2 bt445.1 (([1] : List Int))).bind fun t464 => (tenorref2_Print.j1 kj2 a0 a1 t464)) else (tenorref2_Print.j1 kj2 a0 a1 bt445.1)))) else (tenorref2_Print.j1 kj2 a0 a1 bt445.1)))))))))) = some (r1, r2) := by rw [if_neg (show ¬ (false = true) by decide)] at H; exact H
    clear H
    have H := H1
    clear H1
    replace H := Option.bind_eq_some_iff.mp H
    obtain ⟨t429, A80, H⟩ := H
    replace H : ((tenorref1_Of.f kj2 t429).bind fun bt430 => ((tenorref2_ten.f kj2 a1).bind fun t436 => ((tenorref1_MulDigits.f kj2 bt430.2.1 t436).bind fun t439 => (if bt430.2.2 ≥ 0 then ((tenorref1_ShiftUp.f kj2 t439 bt430.2.2).bind fun t442 => (tenorref2_Print.j1 kj2 a0 a1 t442)) else ((tenorref1_ShiftDown.f kj2 t439 (wrap64 (-bt430.2.2))).bind fun bt445 => ((tenorref1_ShiftDown.f kj2 t439 (wrap64 ((wrap64 (-bt430.2.2)) - 1))).bind fun bt449 => ((tenorref2_odd.f bt449.1).bind fun t453 => (if t453 = true then (if bt449.2 = true then ((tenorref1_AddDigits.f kj2 bt445.1 (([1] : List Int))).bind fun t457 => (tenorref2_Print.j1 kj2 a0 a1 t457)) else ((tenorref2_odd.f bt445.1).bind fun t460 => (if t460 = true then ((tenorref1_AddDigits.f kj2 bt445.1 (([1] : List Int))).bind fun t464 => (tenorref2_Print.j1 kj2 a0 a1 t464)) else (tenorref2_Print.j1 kj2 a0 a1 bt445.1)))) else (tenorref2_Print.j1 kj2 a0 a1 bt445.1))))))))) = some (r1, r2) := H
    have A8 := Aside0.mk A80
    clear A80
    replace H := Option.bind_eq_some_iff.mp H
    obtain ⟨⟨t430, t431, t434⟩, A90, H⟩ := H
    replace H : ((tenorref2_ten.f kj2 a1).bind fun t436 => ((tenorref1_MulDigits.f kj2 t431 t436).bind fun t439 => (if t434 ≥ 0 then ((tenorref1_ShiftUp.f kj2 t439 t434).bind fun t442 => (tenorref2_Print.j1 kj2 a0 a1 t442)) else ((tenorref1_ShiftDown.f kj2 t439 (wrap64 (-t434))).bind fun bt445 => ((tenorref1_ShiftDown.f kj2 t439 (wrap64 ((wrap64 (-t434)) - 1))).bind fun bt449 => ((tenorref2_odd.f bt449.1).bind fun t453 => (if t453 = true then (if bt449.2 = true then ((tenorref1_AddDigits.f kj2 bt445.1 (([1] : List Int))).bind fun t457 => (tenorref2_Print.j1 kj2 a0 a1 t457)) else ((tenorref2_odd.f bt445.1).bind fun t460 => (if t460 = true then ((tenorref1_AddDigits.f kj2 bt445.1 (([1] : List Int))).bind fun t464 => (tenorref2_Print.j1 kj2 a0 a1 t464)) else (tenorref2_Print.j1 kj2 a0 a1 bt445.1)))) else (tenorref2_Print.j1 kj2 a0 a1 bt445.1)))))))) = some (r1, r2) := H
    have A9 := Aside0.mk A90
    clear A90
    replace H := Option.bind_eq_some_iff.mp H
    obtain ⟨t436, A100, H⟩ := H
    replace H : ((tenorref1_MulDigits.f kj2 t431 t436).bind fun t439 => (if t434 ≥ 0 then ((tenorref1_ShiftUp.f kj2 t439 t434).bind fun t442 => (tenorref2_Print.j1 kj2 a0 a1 t442)) else ((tenorref1_ShiftDown.f kj2 t439 (wrap64 (-t434))).bind fun bt445 => ((tenorref1_ShiftDown.f kj2 t439 (wrap64 ((wrap64 (-t434)) - 1))).bind fun bt449 => ((tenorref2_odd.f bt449.1).bind fun t453 => (if t453 = true then (if bt449.2 = true then ((tenorref1_AddDigits.f kj2 bt445.1 (([1] : List Int))).bind fun t457 => (tenorref2_Print.j1 kj2 a0 a1 t457)) else ((tenorref2_odd.f bt445.1).bind fun t460 => (if t460 = true then ((tenorref1_AddDigits.f kj2 bt445.1 (([1] : List Int))).bind fun t464 => (tenorref2_Print.j1 kj2 a0 a1 t464)) else (tenorref2_Print.j1 kj2 a0 a1 bt445.1)))) else (tenorref2_Print.j1 kj2 a0 a1 bt445.1))))))) = some (r1, r2) := H
    have A10 := Aside0.mk A100
    clear A100
    replace H := Option.bind_eq_some_iff.mp H
    obtain ⟨t439, A110, H⟩ := H
    replace H : (if t434 ≥ 0 then ((tenorref1_ShiftUp.f kj2 t439 t434).bind fun t442 => (tenorref2_Print.j1 kj2 a0 a1 t442)) else ((tenorref1_ShiftDown.f kj2 t439 (wrap64 (-t434))).bind fun bt445 => ((tenorref1_ShiftDown.f kj2 t439 (wrap64 ((wrap64 (-t434)) - 1))).bind fun bt449 => ((tenorref2_odd.f bt449.1).bind fun t453 => (if t453 = true then (if bt449.2 = true then ((tenorref1_AddDigits.f kj2 bt445.1 (([1] : List Int))).bind fun t457 => (tenorref2_Print.j1 kj2 a0 a1 t457)) else ((tenorref2_odd.f bt445.1).bind fun t460 => (if t460 = true then ((tenorref1_AddDigits.f kj2 bt445.1 (([1] : List Int))).bind fun t464 => (tenorref2_Print.j1 kj2 a0 a1 t464)) else (tenorref2_Print.j1 kj2 a0 a1 bt445.1)))) else (tenorref2_Print.j1 kj2 a0 a1 bt445.1)))))) = some (r1, r2) := H
    have A11 := Aside0.mk A110
    clear A110
    have HC12 := Aside0.mk H
    clear H
    try go_wp2_with (first | ((with_reducible refine gate_callee (f := 34) rfl ?_); refine goesL_ (some 25) rfl rfl Tryz.func34 (by kernel_rfl) rfl #[.int .u64 a0] rfl (by (try simp only [List.map_toArray, List.map_cons, List.map_nil]); first | done | rfl | (simp only [List.length_drop, List.length_take]; rfl)) ?_; (with_reducible refine (tenorref1_Size.calls a0 t429 _ A8.out).mono ?_); rintro e w' ⟨rfl, ⟨nd, rfl⟩⟩; refine ⟨_, rfl, ?_⟩; (try (rw [drewN_self wc]; generalize hq_ : World.drewN wc _ = wc; have n0_ : Aside0 (Below w.heap.size w wc) := ⟨by rw [← hq_]; exact (by repeat (first | (with_reducible first | exact HB.out | apply below_alloc | apply pw_below_drewN | apply below_drew1) | exact HB.out))⟩; clear HB hq_; have HB := n0_; clear n0_))) | ((with_reducible refine gate_callee (f := 33) rfl ?_); refine goesL_ (some 26) rfl rfl Tryz.func33 (by kernel_rfl) rfl #[.int .u64 t429] rfl (by (try simp only [List.map_toArray, List.map_cons, List.map_nil]); first | done | rfl | (simp only [List.length_drop, List.length_take]; rfl)) ?_; (with_reducible refine (tenorref1_Of.calls kj2 t429 t430 t431 t434 _ A9.out).mono ?_); rintro e w13 ⟨v432, rfl, ho0, hb⟩; refine ⟨_, rfl, ?_⟩; have n0_ := Aside0.mk (Kd.R_lower ho0 (below_size (by repeat (first | (with_reducible first | exact HB.out | apply below_alloc | apply pw_below_drewN | apply below_drew1) | exact HB.out)))); have n1_ := Aside0.mk (below_step (by repeat (first | (with_reducible first | exact HB.out | apply below_alloc | apply pw_below_drewN | apply below_drew1) | exact HB.out)) hb); clear HB; have HO433 := n0_; have HB := n1_; clear n0_ n1_; (try clear hb); (try clear hb2); (try clear hk); (try clear hi); (try clear ho0)) | ((with_reducible refine gate_dst (N := 6) rfl ?_); refine box_event ?hg (N := 6) ?hd (cs := #[.bool false, .slice none 0 0, .int .i64 0]) (t := 61) ?hr ?_; (case hd => rfl); (case hg => rfl); (case hr => first | (go_simp; done) | (go_simp; rfl)); intro gb435 hg w14 hbox hb; have n0_ := Aside0.mk (Kd.R_below (by (with_reducible repeat (first | apply Kd.R_alloc | apply Kd.R_drewN | apply Kd.R_drew)); exact HO433.out) hb); have n1_ := Aside0.mk (below_step (by repeat (first | (with_reducible first | exact HB.out | apply below_alloc | apply pw_below_drewN | apply below_drew1) | exact HB.out)) hb); have n2_ := Aside0.mk (hbox); have n3_ := Aside0.mk ((by rw [hg]; exact (below_size (by repeat (first | (with_reducible first | exact HB.out | apply below_alloc | apply pw_below_drewN | apply below_drew1) | exact HB.out))) : w.heap.size ≤ gb435)); have n4_ := Aside0.mk ((by rw [hg]; exact (below_size (by repeat (first | (with_reducible first | exact HB.out | apply below_alloc | apply pw_below_drewN | apply below_drew1) | exact HB.out))) : w.heap.size ≤ gb435)); clear HO433; clear HB; have HO433 := n0_; have HB := n1_; have BK435 := n2_; have GW435 := n3_; have GE435 := n4_; clear n0_ n1_ n2_ n3_ n4_; clear hb hbox hg; have hcz15_0 : w14.cell? ⟨gb435, 0, none⟩ = some (.bool false) := (blk_cell BK435.out 0).trans rfl; have hcz15_1 : w14.cell? ⟨gb435, 1, none⟩ = some (.slice none 0 0) := (blk_cell BK435.out 1).trans rfl; have hcz15_2 : w14.cell? ⟨gb435, 2, none⟩ = some (.int .i64 0) := (blk_cell BK435.out 2).trans rfl; have hfz15_0 := blk_frozen BK435.out 0; have hfz15_1 := blk_frozen BK435.out 1; have hfz15_2 := blk_frozen BK435.out 2; obtain ⟨Ao16, co16, eo16⟩ := Kd.R_slice HO433.out; subst eo16))
    have n0_ : Aside0 (Kd.R (Kd.int .u64) 26 (((w14.setCell ⟨gb435, 0, none⟩ (.bool t430)).setCell ⟨gb435, 1, none⟩ (.slice Ao16 t431.length co16)).setCell ⟨gb435, 2, none⟩ (.int .i64 t434)) w.heap.size (fun _ => True) (.slice Ao16 t431.length co16) t431) := ⟨by (with_reducible repeat (first | apply Kd.R_alloc | apply Kd.R_drewN | apply Kd.R_drew)); exact Kd.R_mono (Kd.R_far (p := ⟨gb435, 2, none⟩) (Kd.R_far (p := ⟨gb435, 1, none⟩) (Kd.R_far (p := ⟨gb435, 0, none⟩) (Kd.R_types HO433.out BK435.out (by decide)) (fun _ hk => hk.2) (.bool t430)) (fun _ hk => hk.2) (.slice Ao16 t431.length co16)) (fun _ hk => hk.2) (.int .i64 t434)) (fun _ hk => trivial)⟩
    have n1_ : Aside0 ((((w14.setCell ⟨gb435, 0, none⟩ (.bool t430)).setCell ⟨gb435, 1, none⟩ (.slice Ao16 t431.length co16)).setCell ⟨gb435, 2, none⟩ (.int .i64 t434)).heap[gb435]? = some (.cells #[.bool t430, .slice Ao16 t431.length co16, .int .i64 t434] 61 (0, 0))) := ⟨by (with_reducible repeat (first | refine blk_drewN ?_ _ | refine blk_drew ?_ | refine blk_alloc ?_ _)); refine blk_put (cs := #[.bool t430, .slice Ao16 t431.length co16, .int .i64 0]) ?_ 2 _ rfl; (with_reducible repeat (first | refine blk_drewN ?_ _ | refine blk_drew ?_ | refine blk_alloc ?_ _)); refine blk_put (cs := #[.bool t430, .slice none 0 0, .int .i64 0]) ?_ 1 _ rfl; (with_reducible repeat (first | refine blk_drewN ?_ _ | refine blk_drew ?_ | refine blk_alloc ?_ _)); refine blk_put (cs := #[.bool false, .slice none 0 0, .int .i64 0]) ?_ 0 _ rfl; (with_reducible repeat (first | refine blk_drewN ?_ _ | refine blk_drew ?_ | refine blk_alloc ?_ _)); exact BK435.out⟩
    have n2_ : Aside0 (Below w.heap.size w (((w14.setCell ⟨gb435, 0, none⟩ (.bool t430)).setCell ⟨gb435, 1, none⟩ (.slice Ao16 t431.length co16)).setCell ⟨gb435, 2, none⟩ (.int .i64 t434))) := ⟨by repeat (first | (with_reducible first | exact HB.out | apply below_alloc | apply pw_below_drewN | apply below_drew1 | refine below_set ?_ GE435.out) | exact HB.out)⟩
    (try clear HO433)
    (try clear BK435)
    (try clear HB)
    generalize (((w14.setCell ⟨gb435, 0, none⟩ (.bool t430)).setCell ⟨gb435, 1, none⟩ (.slice Ao16 t431.length co16)).setCell ⟨gb435, 2, none⟩ (.int .i64 t434)) = w17 at n0_ n1_ n2_ ⊢
    have HO433 := n0_
    have BK435 := n1_
    have HB := n2_
    clear n0_ n1_ n2_
    have n0_ := Aside0.mk (Kd.R_drew HO433.out)
    have n1_ := Aside0.mk (blk_drew BK435.out)
    have n2_ := Aside0.mk (below_drew1 HB.out)
    clear HO433
    clear BK435
    clear HB
    have HO433 := n0_
    have BK435 := n1_
    have HB := n2_
    clear n0_ n1_ n2_
    refine start_ (n := 6) (S := fun w' => w'.cell? ⟨gb435, 0, none⟩ = some (.bool t430) ∧ w'.cell? ⟨gb435, 1, none⟩ = some (.slice Ao16 t431.length co16) ∧ w'.cell? ⟨gb435, 2, none⟩ = some (.int .i64 t434)) (ds := []) #[false, false, false, false, false, false] (by kernel_rfl) rfl rfl ⟨(blk_cell BK435.out 0).trans rfl, (blk_cell BK435.out 1).trans rfl, (blk_cell BK435.out 2).trans rfl⟩ (fun hHeld => ?_)
    generalize w17.drew = w18 at HO433 BK435 HB hHeld ⊢
    refine pure_ (i := 0) (N := some 27) (v := ?_) (a' := ?_) #[true, false, false, false, false, false] rfl rfl (by kernel_rfl) (fun _ _ _ h => h) (Or.inl ⟨by rfl, ?_⟩) ?_ ?_
    rotate_left
    · intro w'
      go_simp
      with_reducible rfl
    rotate_left
    · simp only [Act.put, List.setIfInBounds_toArray, List.set_cons_zero, List.set_cons_succ, i64_w, i32_w]
      rfl
    refine pure_ (i := 2) (N := some 29) (v := ?_) (a' := ?_) #[true, false, true, false, false, false] rfl rfl (by kernel_rfl) (fun _ _ _ h => h) (Or.inl ⟨by rfl, ?_⟩) ?_ ?_
    rotate_left
    · intro w'
      go_simp
      with_reducible rfl
    rotate_left
    · simp only [Act.put, List.setIfInBounds_toArray, List.set_cons_zero, List.set_cons_succ, i64_w, i32_w]
      rfl
    refine take_ (i := 1) (N := some 28) (v := ?_) (a' := ?_) #[true, true, true, false, false, false] rfl rfl (by kernel_rfl) (fun _ _ _ h => h) (Or.inl ⟨by rfl, ?_⟩) hHeld ?_ ?_
    rotate_left
    · rintro w' ⟨s0, s1, s2⟩
      go_simp
      with_reducible rfl
    rotate_left
    · simp only [Act.put, List.setIfInBounds_toArray, List.set_cons_zero, List.set_cons_succ, i64_w, i32_w]
      rfl
    refine one_ (i := 3) (N := some 30) #[true, true, true, true, false, false] rfl rfl (by kernel_rfl) (by decide) (fun K hK => ?_)
    refine goes_ Tryz.func36 (by kernel_rfl) rfl #[.int .i64 a1] (by rfl) rfl rfl (by (try simp only [List.map_toArray, List.map_cons, List.map_nil]); first | done | rfl | (simp only [List.length_drop, List.length_take]; rfl)) ?_
    with_reducible refine (tenorref2_ten.calls kj2 a1 t436 _ A10.out).mono ?_
    rintro e w19 ⟨v437, rfl, ho0, hb⟩
    refine ⟨_, rfl, ?_⟩
    have n0_ := Aside0.mk (Kd.R_elder' (by (with_reducible repeat (first | apply Kd.R_alloc | apply Kd.R_drewN | apply Kd.R_drew)); exact HO433.out) (Kd.R_base ho0) hb)
    have n1_ := Aside0.mk (Kd.R_lower (Kd.R_new' ho0 (Kd.R_lt (by (with_reducible repeat (first | apply Kd.R_alloc | apply Kd.R_drewN | apply Kd.R_drew)); exact HO433.out))) (below_size (by repeat (first | (with_reducible first | exact HB.out | apply below_alloc | apply pw_below_drewN | apply below_drew1 | refine below_set ?_ GE435.out) | exact HB.out))))
    have n2_ := Aside0.mk (blk_below (g := gb435) (o := .cells #[.bool t430, .slice Ao16 t431.length co16, .int .i64 t434] 61 (0, 0)) (by (with_reducible repeat (first | refine blk_drewN ?_ _ | refine blk_drew ?_ | refine blk_alloc ?_ _)); exact BK435.out) hb)
    have n3_ := Aside0.mk (below_step (by repeat (first | (with_reducible first | exact HB.out | apply below_alloc | apply pw_below_drewN | apply below_drew1 | refine below_set ?_ GE435.out) | exact HB.out)) hb)
    clear HO433
    clear BK435
    clear HB
    have HO433 := n0_
    have HO438 := n1_
    have BK435 := n2_
    have HB := n3_
    clear n0_ n1_ n2_ n3_
    (try clear hb)
    (try clear hb2)
    (try clear hk)
    (try clear hi)
    (try clear ho0)
    obtain ⟨Ao20, co20, eo20⟩ := Kd.R_slice HO438.out
    (first | subst eo20 | (injection eo20 with f1_ f2_ f3_; have f4_ := f1_.symm; have f5_ := f3_.symm; clear f1_ f2_ f3_; subst f4_; subst f5_))
    refine hK.out _ _ ⟨(blk_cell BK435.out 0).trans rfl, (blk_cell BK435.out 1).trans rfl, (blk_cell BK435.out 2).trans rfl⟩ (fun hHeld => ?_)
    clear hK K
    refine norm_ (a' := ?_) ?_ ?_
    rotate_left
    · show Act.put _ (some 30) _ = _
      simp only [Act.put, List.setIfInBounds_toArray, List.set_cons_zero, List.set_cons_succ, i64_w, i32_w]
      rfl
    refine one_ (i := 4) (N := some 31) #[true, true, true, true, true, false] rfl rfl (by kernel_rfl) (by decide) (fun K hK => ?_)
    refine goes_ Tryz.func35 (by kernel_rfl) rfl #[.slice Ao16 t431.length co16, .slice Ao20 t436.length co20] (by rfl) rfl rfl (by (try simp only [List.map_toArray, List.map_cons, List.map_nil]); first | done | rfl | (simp only [List.length_drop, List.length_take]; rfl)) ?_
    with_reducible refine (tenorref1_MulDigits.calls kj2 _ _ t431 _ _ t436 t439 _ ?side1 ?side2 ?side3 ?side4 A11.out).mono ?_
    (case side1 => repeat (first | exact (Kd.R_reads' HO433.out).2.2 | (with_reducible refine Kd.C_alloc ?_ _) | (with_reducible refine Kd.C_drewN ?_ _) | (with_reducible refine Kd.C_drew ?_)))
    (case side2 => exact (Kd.R_reads' HO433.out).2.1)
    (case side3 => repeat (first | exact (Kd.R_reads' HO438.out).2.2 | (with_reducible refine Kd.C_alloc ?_ _) | (with_reducible refine Kd.C_drewN ?_ _) | (with_reducible refine Kd.C_drew ?_)))
    (case side4 => exact (Kd.R_reads' HO438.out).2.1)
    rintro e w21 ⟨v440, rfl, ho0, hb⟩
    refine ⟨_, rfl, ?_⟩
    have n0_ := Aside0.mk (Kd.R_elder' (by (with_reducible repeat (first | apply Kd.R_alloc | apply Kd.R_drewN | apply Kd.R_drew)); exact HO433.out) (Kd.R_base ho0) hb)
    have n1_ := Aside0.mk (Kd.R_elder' (by (with_reducible repeat (first | apply Kd.R_alloc | apply Kd.R_drewN | apply Kd.R_drew)); exact HO438.out) (Kd.R_base ho0) hb)
    have n2_ := Aside0.mk (Kd.R_lower (Kd.R_new' (Kd.R_new' ho0 (Kd.R_lt (by (with_reducible repeat (first | apply Kd.R_alloc | apply Kd.R_drewN | apply Kd.R_drew)); exact HO433.out))) (Kd.R_lt (by (with_reducible repeat (first | apply Kd.R_alloc | apply Kd.R_drewN | apply Kd.R_drew)); exact HO438.out))) (below_size (by repeat (first | (with_reducible first | exact HB.out | apply below_alloc | apply pw_below_drewN | apply below_drew1 | refine below_set ?_ GE435.out) | exact HB.out))))
    have n3_ := Aside0.mk (blk_below (g := gb435) (o := .cells #[.bool t430, .slice Ao16 t431.length co16, .int .i64 t434] 61 (0, 0)) (by (with_reducible repeat (first | refine blk_drewN ?_ _ | refine blk_drew ?_ | refine blk_alloc ?_ _)); exact BK435.out) hb)
    have n4_ := Aside0.mk (below_step (by repeat (first | (with_reducible first | exact HB.out | apply below_alloc | apply pw_below_drewN | apply below_drew1 | refine below_set ?_ GE435.out) | exact HB.out)) hb)
    clear HO433
    clear HO438
    clear BK435
    clear HB
    have HO433 := n0_
    have HO438 := n1_
    have HO441 := n2_
    have BK435 := n3_
    have HB := n4_
    clear n0_ n1_ n2_ n3_ n4_
    (try clear hb)
    (try clear hb2)
    (try clear hk)
    (try clear hi)
    (try clear ho0)
    refine hK.out _ _ ⟨(blk_cell BK435.out 0).trans rfl, (blk_cell BK435.out 1).trans rfl, (blk_cell BK435.out 2).trans rfl⟩ (fun hHeld => ?_)
    clear hK K
    refine norm_ (a' := ?_) ?_ ?_
    rotate_left
    · show Act.put _ (some 31) _ = _
      simp only [Act.put, List.setIfInBounds_toArray, List.set_cons_zero, List.set_cons_succ, i64_w, i32_w]
      rfl
    refine pure_ (i := 5) (N := some 7) (v := ?_) (a' := ?_) #[true, true, true, true, true, true] rfl rfl (by kernel_rfl) (fun _ _ _ h => h) (Or.inl ⟨by rfl, ?_⟩) ?_ ?_
    rotate_left
    · intro w'
      go_simp
      with_reducible rfl
    rotate_left
    · simp only [Act.put, List.setIfInBounds_toArray, List.set_cons_zero, List.set_cons_succ, i64_w, i32_w]
      rfl
    refine done_ (by kernel_rfl) ?_
    have hcz22_0 : w21.cell? ⟨gb435, 0, none⟩ = some (.bool t430) := (blk_cell BK435.out 0).trans rfl
    have hcz22_1 : w21.cell? ⟨gb435, 1, none⟩ = some (.slice Ao16 t431.length co16) := (blk_cell BK435.out 1).trans rfl
    have hcz22_2 : w21.cell? ⟨gb435, 2, none⟩ = some (.int .i64 t434) := (blk_cell BK435.out 2).trans rfl
    have hfz22_0 := blk_frozen BK435.out 0
    have hfz22_1 := blk_frozen BK435.out 1
    have hfz22_2 := blk_frozen BK435.out 2
    go_upto_if 34 with (fail)
    go_cut [7] (fun v7 wc => ∃ (kq : Nat) (x7_11 : List Int), Aside0 (tenorref2_Print.j1 kq a0 a1 x7_11 = some (r1, r2)) ∧ Aside0 (kq ≤ kj2) ∧ Aside0 (Kd.R (Kd.int .u64) 26 wc w.heap.size (fun k_ => some k_ ≠ ((.slice Ao16 t431.length co16) : Value).ownBlock) v7 x7_11) ∧ Aside0 (Kd.R (Kd.int .u64) 26 wc w.heap.size (fun k_ => some k_ ≠ (v7 : Value).ownBlock) (.slice Ao16 t431.length co16) t431) ∧ Aside0 (wc.heap[gb435]? = some (.cells #[.bool t430, (.slice Ao16 t431.length co16), .int .i64 t434] 61 (0, 0))) ∧ Aside0 (Below w.heap.size w wc))
    case first =>
      have H := HC12.out
      clear HC12
      by_cases c23 : t434 ≥ 0
      · rw [if_pos c23] at H
        have c23b0 : decide (0 ≤ t434) = true := decide_eq_true c23
        clear c23
        (first | rw [c23b0] | (simp only [i64_w, i32_w]; rw [c23b0]) | skip)
        replace H := Option.bind_eq_some_iff.mp H
        obtain ⟨t442, A240, H⟩ := H
        replace H : (tenorref2_Print.j1 kj2 a0 a1 t442) = some (r1, r2) := H
        have A24 := Aside0.mk A240
        clear A240
        have H' := Aside0.mk H
        clear H
        have hcz25_0 : w21.cell? ⟨gb435, 0, none⟩ = some (.bool t430) := (blk_cell BK435.out 0).trans rfl
        have hcz25_1 : w21.cell? ⟨gb435, 1, none⟩ = some (.slice Ao16 t431.length co16) := (blk_cell BK435.out 1).trans rfl
        have hcz25_2 : w21.cell? ⟨gb435, 2, none⟩ = some (.int .i64 t434) := (blk_cell BK435.out 2).trans rfl
        have hfz25_0 := blk_frozen BK435.out 0
        have hfz25_1 := blk_frozen BK435.out 1
        have hfz25_2 := blk_frozen BK435.out 2
        obtain ⟨Ao26, co26, eo26⟩ := Kd.R_slice HO441.out
        subst eo26
        go_wp2_with (first | ((with_reducible refine gate_callee (f := 37) rfl ?_); refine goesL_ (some 38) rfl rfl Tryz.func37 (by kernel_rfl) rfl #[.slice Ao26 t439.length co26, .int .i64 t434] rfl (by (try simp only [List.map_toArray, List.map_cons, List.map_nil]); first | done | rfl | (simp only [List.length_drop, List.length_take]; rfl)) ?_; (with_reducible refine (tenorref1_ShiftUp.calls kj2 _ _ t439 t434 t442 _ ?side1 ?side2 A24.out).mono ?_); (case side1 => repeat (first | exact (Kd.R_reads' HO441.out).2.2 | (with_reducible refine Kd.C_alloc ?_ _) | (with_reducible refine Kd.C_drewN ?_ _) | (with_reducible refine Kd.C_drew ?_))); (case side2 => exact (Kd.R_reads' HO441.out).2.1); rintro e w27 ⟨v443, rfl, ho0, hb⟩; refine ⟨_, rfl, ?_⟩; have n0_ := Aside0.mk (Kd.R_elder' (by (with_reducible repeat (first | apply Kd.R_alloc | apply Kd.R_drewN | apply Kd.R_drew)); exact HO433.out) (Kd.R_base ho0) hb); have n1_ := Aside0.mk (Kd.R_elder' (by (with_reducible repeat (first | apply Kd.R_alloc | apply Kd.R_drewN | apply Kd.R_drew)); exact HO438.out) (Kd.R_base ho0) hb); have n2_ := Aside0.mk (Kd.R_elder' (by (with_reducible repeat (first | apply Kd.R_alloc | apply Kd.R_drewN | apply Kd.R_drew)); exact HO441.out) (Kd.R_base ho0) hb); have n3_ := Aside0.mk (Kd.R_lower (Kd.R_new' (Kd.R_new' (Kd.R_new' ho0 (Kd.R_lt (by (with_reducible repeat (first | apply Kd.R_alloc | apply Kd.R_drewN | apply Kd.R_drew)); exact HO433.out))) (Kd.R_lt (by (with_reducible repeat (first | apply Kd.R_alloc | apply Kd.R_drewN | apply Kd.R_drew)); exact HO438.out))) (Kd.R_lt (by (with_reducible repeat (first | apply Kd.R_alloc | apply Kd.R_drewN | apply Kd.R_drew)); exact HO441.out))) (below_size (by repeat (first | (with_reducible first | exact HB.out | apply below_alloc | apply pw_below_drewN | apply below_drew1 | refine below_set ?_ GE435.out) | exact HB.out)))); have n4_ := Aside0.mk (blk_below (g := gb435) (o := .cells #[.bool t430, .slice Ao16 t431.length co16, .int .i64 t434] 61 (0, 0)) (by (with_reducible repeat (first | refine blk_drewN ?_ _ | refine blk_drew ?_ | refine blk_alloc ?_ _)); exact BK435.out) hb); have n5_ := Aside0.mk (below_step (by repeat (first | (with_reducible first | exact HB.out | apply below_alloc | apply pw_below_drewN | apply below_drew1 | refine below_set ?_ GE435.out) | exact HB.out)) hb); clear HO433; clear HO438; clear HO441; clear BK435; clear HB; have HO433 := n0_; have HO438 := n1_; have HO441 := n2_; have HO444 := n3_; have BK435 := n4_; have HB := n5_; clear n0_ n1_ n2_ n3_ n4_ n5_; (try clear hb); (try clear hb2); (try clear hk); (try clear hi); (try clear ho0)))
        go_meet
        case rel => exact ⟨_, (t442), H', ⟨by have := HJ2.out; first | omega | exact Nat.le_refl _⟩, ⟨by (with_reducible repeat (first | apply Kd.R_alloc | apply Kd.R_drewN | apply Kd.R_drew)); exact Kd.R_mono HO444.out (fun _ hk => hk.1.1.2)⟩, ⟨by (with_reducible repeat (first | apply Kd.R_alloc | apply Kd.R_drewN | apply Kd.R_drew)); exact Kd.R_mono HO433.out (fun _ hk => hk.2)⟩, ⟨by (with_reducible repeat (first | refine blk_drewN ?_ _ | refine blk_drew ?_ | refine blk_alloc ?_ _)); exact BK435.out⟩, ⟨by repeat (first | (with_reducible first | exact HB.out | apply below_alloc | apply pw_below_drewN | apply below_drew1 | refine below_set ?_ GE435.out) | exact HB.out)⟩⟩
      rw [if_neg c23] at H
      have c23b0 : decide (0 ≤ t434) = false := decide_eq_false c23
      clear c23
      (first | rw [c23b0] | (simp only [i64_w, i32_w]; rw [c23b0]) | skip)
      replace H := Option.bind_eq_some_iff.mp H
      obtain ⟨⟨t445, t446⟩, A280, H⟩ := H
      replace H : ((tenorref1_ShiftDown.f kj2 t439 (wrap64 ((wrap64 (-t434)) - 1))).bind fun bt449 => ((tenorref2_odd.f bt449.1).bind fun t453 => (if t453 = true then (if bt449.2 = true then ((tenorref1_AddDigits.f kj2 t445 (([1] : List Int))).bind fun t457 => (tenorref2_Print.j1 kj2 a0 a1 t457)) else ((tenorref2_odd.f t445).bind fun t460 => (if t460 = true then ((tenorref1_AddDigits.f kj2 t445 (([1] : List Int))).bind fun t464 => (tenorref2_Print.j1 kj2 a0 a1 t464)) else (tenorref2_Print.j1 kj2 a0 a1 t445)))) else (tenorref2_Print.j1 kj2 a0 a1 t445)))) = some (r1, r2) := H
      have A28 := Aside0.mk A280
      clear A280
      replace H := Option.bind_eq_some_iff.mp H
      obtain ⟨⟨t449, t450⟩, A290, H⟩ := H
      replace H : ((tenorref2_odd.f t449).bind fun t453 => (if t453 = true then (if t450 = true then ((tenorref1_AddDigits.f kj2 t445 (([1] : List Int))).bind fun t457 => (tenorref2_Print.j1 kj2 a0 a1 t457)) else ((tenorref2_odd.f t445).bind fun t460 => (if t460 = true then ((tenorref1_AddDigits.f kj2 t445 (([1] : List Int))).bind fun t464 => (tenorref2_Print.j1 kj2 a0 a1 t464)) else (tenorref2_Print.j1 kj2 a0 a1 t445)))) else (tenorref2_Print.j1 kj2 a0 a1 t445))) = some (r1, r2) := H
      have A29 := Aside0.mk A290
      clear A290
      replace H := Option.bind_eq_some_iff.mp H
      obtain ⟨t453, A300, H⟩ := H
      replace H : (if t453 = true then (if t450 = true then ((tenorref1_AddDigits.f kj2 t445 (([1] : List Int))).bind fun t457 => (tenorref2_Print.j1 kj2 a0 a1 t457)) else ((tenorref2_odd.f t445).bind fun t460 => (if t460 = true then ((tenorref1_AddDigits.f kj2 t445 (([1] : List Int))).bind fun t464 => (tenorref2_Print.j1 kj2 a0 a1 t464)) else (tenorref2_Print.j1 kj2 a0 a1 t445)))) else (tenorref2_Print.j1 kj2 a0 a1 t445)) = some (r1, r2) := H
      have A30 := Aside0.mk A300
      clear A300
      by_cases c31 : t453 = true
      · subst c31
        have H1 : (if t450 = true then ((tenorref1_AddDigits.f kj2 t445 (([1] : List Int))).bind fun t457 => (tenorref2_Print.j1 kj2 a0 a1 t457)) else ((tenorref2_odd.f t445).bind fun t460 => (if t460 = true then ((tenorref1_AddDigits.f kj2 t445 (([1] : List Int))).bind fun t464 => (tenorref2_Print.j1 kj2 a0 a1 t464)) else (tenorref2_Print.j1 kj2 a0 a1 t445)))) = some (r1, r2) := by rw [if_pos rfl] at H; exact H
        clear H
        have H := H1
        clear H1
        by_cases c32 : t450 = true
        · subst c32
          have H1 : ((tenorref1_AddDigits.f kj2 t445 (([1] : List Int))).bind fun t457 => (tenorref2_Print.j1 kj2 a0 a1 t457)) = some (r1, r2) := by rw [if_pos rfl] at H; exact H
          clear H
          have H := H1
          clear H1
          obtain ⟨y454, hy454⟩ : ∃ y_ : List Int, y_ = (([1] : List Int)) := ⟨_, rfl⟩
          replace H : ((tenorref1_AddDigits.f kj2 t445 y454).bind fun t457 => (tenorref2_Print.j1 kj2 a0 a1 t457)) = some (r1, r2) := by first | (rw [hy454]; with_reducible exact H) | (have H2_ := (Option.bind_some _ _).symm.trans H; rw [hy454]; with_reducible exact H2_) | (have H2_ := (Option.bind_some _ _).symm.trans H; with_reducible exact H2_) | with_reducible exact H | (rw [hy454]; exact H) | exact H
          have Ny454 := Aside0.mk hy454
          clear hy454
          replace H := Option.bind_eq_some_iff.mp H
          obtain ⟨t457, A330, H⟩ := H
          replace H : (tenorref2_Print.j1 kj2 a0 a1 t457) = some (r1, r2) := H
          have A33 := Aside0.mk A330
          clear A330
          have H' := Aside0.mk H
          clear H
          have hcz34_0 : w21.cell? ⟨gb435, 0, none⟩ = some (.bool t430) := (blk_cell BK435.out 0).trans rfl
          have hcz34_1 : w21.cell? ⟨gb435, 1, none⟩ = some (.slice Ao16 t431.length co16) := (blk_cell BK435.out 1).trans rfl
          have hcz34_2 : w21.cell? ⟨gb435, 2, none⟩ = some (.int .i64 t434) := (blk_cell BK435.out 2).trans rfl
          have hfz34_0 := blk_frozen BK435.out 0
          have hfz34_1 := blk_frozen BK435.out 1
          have hfz34_2 := blk_frozen BK435.out 2
          obtain ⟨Ao35, co35, eo35⟩ := Kd.R_slice HO441.out
          subst eo35
          go_wp2_with (first | ((with_reducible refine gate_callee (f := 38) rfl ?_); refine goesL_ (some 44) rfl rfl Tryz.func38 (by kernel_rfl) rfl #[.slice Ao35 t439.length co35, .int .i64 (wrap64 (-t434))] rfl (by (try simp only [List.map_toArray, List.map_cons, List.map_nil]); first | done | rfl | (simp only [List.length_drop, List.length_take]; rfl)) ?_; (with_reducible refine (tenorref1_ShiftDown.calls kj2 _ _ t439 (wrap64 (-t434)) t445 t446 _ ?side1 ?side2 A28.out).mono ?_); (case side1 => repeat (first | exact (Kd.R_reads' HO441.out).2.2 | (with_reducible refine Kd.C_alloc ?_ _) | (with_reducible refine Kd.C_drewN ?_ _) | (with_reducible refine Kd.C_drew ?_))); (case side2 => exact (Kd.R_reads' HO441.out).2.1); rintro e w36 ⟨v447, rfl, ho0, hb⟩; refine ⟨_, rfl, ?_⟩; have n0_ := Aside0.mk (Kd.R_elder' (by (with_reducible repeat (first | apply Kd.R_alloc | apply Kd.R_drewN | apply Kd.R_drew)); exact HO433.out) (Kd.R_base ho0) hb); have n1_ := Aside0.mk (Kd.R_elder' (by (with_reducible repeat (first | apply Kd.R_alloc | apply Kd.R_drewN | apply Kd.R_drew)); exact HO438.out) (Kd.R_base ho0) hb); have n2_ := Aside0.mk (Kd.R_elder' (by (with_reducible repeat (first | apply Kd.R_alloc | apply Kd.R_drewN | apply Kd.R_drew)); exact HO441.out) (Kd.R_base ho0) hb); have n3_ := Aside0.mk (Kd.R_lower (Kd.R_new' (Kd.R_new' (Kd.R_new' ho0 (Kd.R_lt (by (with_reducible repeat (first | apply Kd.R_alloc | apply Kd.R_drewN | apply Kd.R_drew)); exact HO433.out))) (Kd.R_lt (by (with_reducible repeat (first | apply Kd.R_alloc | apply Kd.R_drewN | apply Kd.R_drew)); exact HO438.out))) (Kd.R_lt (by (with_reducible repeat (first | apply Kd.R_alloc | apply Kd.R_drewN | apply Kd.R_drew)); exact HO441.out))) (below_size (by repeat (first | (with_reducible first | exact HB.out | apply below_alloc | apply pw_below_drewN | apply below_drew1 | refine below_set ?_ GE435.out) | exact HB.out)))); have n4_ := Aside0.mk (blk_below (g := gb435) (o := .cells #[.bool t430, .slice Ao16 t431.length co16, .int .i64 t434] 61 (0, 0)) (by (with_reducible repeat (first | refine blk_drewN ?_ _ | refine blk_drew ?_ | refine blk_alloc ?_ _)); exact BK435.out) hb); have n5_ := Aside0.mk (below_step (by repeat (first | (with_reducible first | exact HB.out | apply below_alloc | apply pw_below_drewN | apply below_drew1 | refine below_set ?_ GE435.out) | exact HB.out)) hb); clear HO433; clear HO438; clear HO441; clear BK435; clear HB; have HO433 := n0_; have HO438 := n1_; have HO441 := n2_; have HO448 := n3_; have BK435 := n4_; have HB := n5_; clear n0_ n1_ n2_ n3_ n4_ n5_; (try clear hb); (try clear hb2); (try clear hk); (try clear hi); (try clear ho0); have hcz37_0 : w36.cell? ⟨gb435, 0, none⟩ = some (.bool t430) := (blk_cell BK435.out 0).trans rfl; have hcz37_1 : w36.cell? ⟨gb435, 1, none⟩ = some (.slice Ao16 t431.length co16) := (blk_cell BK435.out 1).trans rfl; have hcz37_2 : w36.cell? ⟨gb435, 2, none⟩ = some (.int .i64 t434) := (blk_cell BK435.out 2).trans rfl; have hfz37_0 := blk_frozen BK435.out 0; have hfz37_1 := blk_frozen BK435.out 1; have hfz37_2 := blk_frozen BK435.out 2) | ((with_reducible refine gate_callee (f := 38) rfl ?_); refine goesL_ (some 53) rfl rfl Tryz.func38 (by kernel_rfl) rfl #[.slice Ao35 t439.length co35, .int .i64 (wrap64 ((wrap64 (-t434)) - 1))] rfl (by (try simp only [List.map_toArray, List.map_cons, List.map_nil]); first | done | rfl | (simp only [List.length_drop, List.length_take]; rfl)) ?_; (with_reducible refine (tenorref1_ShiftDown.calls kj2 _ _ t439 (wrap64 ((wrap64 (-t434)) - 1)) t449 true _ ?side1 ?side2 A29.out).mono ?_); (case side1 => repeat (first | exact (Kd.R_reads' HO441.out).2.2 | (with_reducible refine Kd.C_alloc ?_ _) | (with_reducible refine Kd.C_drewN ?_ _) | (with_reducible refine Kd.C_drew ?_))); (case side2 => exact (Kd.R_reads' HO441.out).2.1); rintro e w38 ⟨v451, rfl, ho0, hb⟩; refine ⟨_, rfl, ?_⟩; have n0_ := Aside0.mk (Kd.R_elder' (by (with_reducible repeat (first | apply Kd.R_alloc | apply Kd.R_drewN | apply Kd.R_drew)); exact HO433.out) (Kd.R_base ho0) hb); have n1_ := Aside0.mk (Kd.R_elder' (by (with_reducible repeat (first | apply Kd.R_alloc | apply Kd.R_drewN | apply Kd.R_drew)); exact HO438.out) (Kd.R_base ho0) hb); have n2_ := Aside0.mk (Kd.R_elder' (by (with_reducible repeat (first | apply Kd.R_alloc | apply Kd.R_drewN | apply Kd.R_drew)); exact HO441.out) (Kd.R_base ho0) hb); have n3_ := Aside0.mk (Kd.R_elder' (by (with_reducible repeat (first | apply Kd.R_alloc | apply Kd.R_drewN | apply Kd.R_drew)); exact HO448.out) (Kd.R_base ho0) hb); have n4_ := Aside0.mk (Kd.R_lower (Kd.R_new' (Kd.R_new' (Kd.R_new' (Kd.R_new' ho0 (Kd.R_lt (by (with_reducible repeat (first | apply Kd.R_alloc | apply Kd.R_drewN | apply Kd.R_drew)); exact HO433.out))) (Kd.R_lt (by (with_reducible repeat (first | apply Kd.R_alloc | apply Kd.R_drewN | apply Kd.R_drew)); exact HO438.out))) (Kd.R_lt (by (with_reducible repeat (first | apply Kd.R_alloc | apply Kd.R_drewN | apply Kd.R_drew)); exact HO441.out))) (Kd.R_lt (by (with_reducible repeat (first | apply Kd.R_alloc | apply Kd.R_drewN | apply Kd.R_drew)); exact HO448.out))) (below_size (by repeat (first | (with_reducible first | exact HB.out | apply below_alloc | apply pw_below_drewN | apply below_drew1 | refine below_set ?_ GE435.out) | exact HB.out)))); have n5_ := Aside0.mk (blk_below (g := gb435) (o := .cells #[.bool t430, .slice Ao16 t431.length co16, .int .i64 t434] 61 (0, 0)) (by (with_reducible repeat (first | refine blk_drewN ?_ _ | refine blk_drew ?_ | refine blk_alloc ?_ _)); exact BK435.out) hb); have n6_ := Aside0.mk (below_step (by repeat (first | (with_reducible first | exact HB.out | apply below_alloc | apply pw_below_drewN | apply below_drew1 | refine below_set ?_ GE435.out) | exact HB.out)) hb); clear HO433; clear HO438; clear HO441; clear HO448; clear BK435; clear HB; have HO433 := n0_; have HO438 := n1_; have HO441 := n2_; have HO448 := n3_; have HO452 := n4_; have BK435 := n5_; have HB := n6_; clear n0_ n1_ n2_ n3_ n4_ n5_ n6_; (try clear hb); (try clear hb2); (try clear hk); (try clear hi); (try clear ho0); obtain ⟨Ao39, co39, eo39⟩ := Kd.R_slice HO452.out; subst eo39) | ((with_reducible refine gate_callee (f := 39) rfl ?_); refine goesL_ (some 57) rfl rfl Tryz.func39 (by kernel_rfl) rfl #[.slice Ao39 t449.length co39] rfl (by (try simp only [List.map_toArray, List.map_cons, List.map_nil]); first | done | rfl | (simp only [List.length_drop, List.length_take]; rfl)) ?_; (with_reducible refine (tenorref2_odd.calls _ _ t449 true _ ?side1 ?side2 A30.out).mono ?_); (case side1 => repeat (first | exact (Kd.R_reads' HO452.out).2.2 | (with_reducible refine Kd.C_alloc ?_ _) | (with_reducible refine Kd.C_drewN ?_ _) | (with_reducible refine Kd.C_drew ?_))); (case side2 => exact (Kd.R_reads' HO452.out).2.1); rintro e w' ⟨rfl, ⟨nd, rfl⟩⟩; refine ⟨_, rfl, ?_⟩) | ((with_reducible refine gate_dst (N := 66) rfl ?_); refine Kd.R_lit (Kd.int .u64) _ 26 ?hg (N := 66) ?hd (xs := ([1] : List Int)) (inner := [.int .u64 1]) (ok := fun _ => True) (okp := fun _ => True) ?hr ?hp (fun _ hk => hk) trivial (Below.refl _ _) (Nat.le_refl _) (by simp) ?_; (case hd => rfl); (case hg => rfl); (case hr => first | (go_simp; done) | (go_simp; rfl)); (case hp => exact (Reps.one (show Kd.M (Kd.int .u64) _ _ _ 1 [.int .u64 1] from rfl) (Reps.none _ _))); intro v455 w40 ho41 hb hg_ hnew_; clear hg_ hnew_; (first | rw [← Ny454.out] at ho41 | (simp only [Int.reduceToNat] at ho41; rw [← Ny454.out] at ho41)); have n0_ := Aside0.mk (Kd.R_elder' (by (with_reducible repeat (first | apply Kd.R_alloc | apply Kd.R_drewN | apply Kd.R_drew)); exact HO433.out) (Kd.R_base ho41) hb); have n1_ := Aside0.mk (Kd.R_elder' (by (with_reducible repeat (first | apply Kd.R_alloc | apply Kd.R_drewN | apply Kd.R_drew)); exact HO438.out) (Kd.R_base ho41) hb); have n2_ := Aside0.mk (Kd.R_elder' (by (with_reducible repeat (first | apply Kd.R_alloc | apply Kd.R_drewN | apply Kd.R_drew)); exact HO441.out) (Kd.R_base ho41) hb); have n3_ := Aside0.mk (Kd.R_elder' (by (with_reducible repeat (first | apply Kd.R_alloc | apply Kd.R_drewN | apply Kd.R_drew)); exact HO448.out) (Kd.R_base ho41) hb); have n4_ := Aside0.mk (Kd.R_elder' (by (with_reducible repeat (first | apply Kd.R_alloc | apply Kd.R_drewN | apply Kd.R_drew)); exact HO452.out) (Kd.R_base ho41) hb); have n5_ := Aside0.mk (Kd.R_lower (Kd.R_new' (Kd.R_new' (Kd.R_new' (Kd.R_new' (Kd.R_new' ho41 (Kd.R_lt (by (with_reducible repeat (first | apply Kd.R_alloc | apply Kd.R_drewN | apply Kd.R_drew)); exact HO433.out))) (Kd.R_lt (by (with_reducible repeat (first | apply Kd.R_alloc | apply Kd.R_drewN | apply Kd.R_drew)); exact HO438.out))) (Kd.R_lt (by (with_reducible repeat (first | apply Kd.R_alloc | apply Kd.R_drewN | apply Kd.R_drew)); exact HO441.out))) (Kd.R_lt (by (with_reducible repeat (first | apply Kd.R_alloc | apply Kd.R_drewN | apply Kd.R_drew)); exact HO448.out))) (Kd.R_lt (by (with_reducible repeat (first | apply Kd.R_alloc | apply Kd.R_drewN | apply Kd.R_drew)); exact HO452.out))) (below_size (by repeat (first | (with_reducible first | exact HB.out | apply below_alloc | apply pw_below_drewN | apply below_drew1 | refine below_set ?_ GE435.out) | exact HB.out)))); have n6_ := Aside0.mk (blk_below (g := gb435) (o := .cells #[.bool t430, .slice Ao16 t431.length co16, .int .i64 t434] 61 (0, 0)) (by (with_reducible repeat (first | refine blk_drewN ?_ _ | refine blk_drew ?_ | refine blk_alloc ?_ _)); exact BK435.out) hb); have n7_ := Aside0.mk (below_step (by repeat (first | (with_reducible first | exact HB.out | apply below_alloc | apply pw_below_drewN | apply below_drew1 | refine below_set ?_ GE435.out) | exact HB.out)) hb); clear HO433; clear HO438; clear HO441; clear HO448; clear HO452; clear BK435; clear HB; have HO433 := n0_; have HO438 := n1_; have HO441 := n2_; have HO448 := n3_; have HO452 := n4_; have HO456 := n5_; have BK435 := n6_; have HB := n7_; clear n0_ n1_ n2_ n3_ n4_ n5_ n6_ n7_; clear hb ho41; obtain ⟨Ao42, co42, eo42⟩ := Kd.R_slice HO448.out; subst eo42; obtain ⟨Ao43, co43, eo43⟩ := Kd.R_slice HO456.out; subst eo43) | ((with_reducible refine gate_callee (f := 40) rfl ?_); refine goesL_ (some 67) rfl rfl Tryz.func40 (by kernel_rfl) rfl #[.slice Ao42 t445.length co42, .slice Ao43 y454.length co43] rfl (by (try simp only [List.map_toArray, List.map_cons, List.map_nil]); first | done | rfl | (simp only [List.length_drop, List.length_take]; rfl)) ?_; (with_reducible refine (tenorref1_AddDigits.calls kj2 _ _ t445 _ _ y454 t457 _ ?side1 ?side2 ?side3 ?side4 A33.out).mono ?_); (case side1 => repeat (first | exact (Kd.R_reads' HO448.out).2.2 | (with_reducible refine Kd.C_alloc ?_ _) | (with_reducible refine Kd.C_drewN ?_ _) | (with_reducible refine Kd.C_drew ?_))); (case side2 => exact (Kd.R_reads' HO448.out).2.1); (case side3 => repeat (first | exact (Kd.R_reads' HO456.out).2.2 | (with_reducible refine Kd.C_alloc ?_ _) | (with_reducible refine Kd.C_drewN ?_ _) | (with_reducible refine Kd.C_drew ?_))); (case side4 => exact (Kd.R_reads' HO456.out).2.1); rintro e w44 ⟨v458, rfl, ho0, hb⟩; refine ⟨_, rfl, ?_⟩; have n0_ := Aside0.mk (Kd.R_elder' (by (with_reducible repeat (first | apply Kd.R_alloc | apply Kd.R_drewN | apply Kd.R_drew)); exact HO433.out) (Kd.R_base ho0) hb); have n1_ := Aside0.mk (Kd.R_elder' (by (with_reducible repeat (first | apply Kd.R_alloc | apply Kd.R_drewN | apply Kd.R_drew)); exact HO438.out) (Kd.R_base ho0) hb); have n2_ := Aside0.mk (Kd.R_elder' (by (with_reducible repeat (first | apply Kd.R_alloc | apply Kd.R_drewN | apply Kd.R_drew)); exact HO441.out) (Kd.R_base ho0) hb); have n3_ := Aside0.mk (Kd.R_elder' (by (with_reducible repeat (first | apply Kd.R_alloc | apply Kd.R_drewN | apply Kd.R_drew)); exact HO448.out) (Kd.R_base ho0) hb); have n4_ := Aside0.mk (Kd.R_elder' (by (with_reducible repeat (first | apply Kd.R_alloc | apply Kd.R_drewN | apply Kd.R_drew)); exact HO452.out) (Kd.R_base ho0) hb); have n5_ := Aside0.mk (Kd.R_elder' (by (with_reducible repeat (first | apply Kd.R_alloc | apply Kd.R_drewN | apply Kd.R_drew)); exact HO456.out) (Kd.R_base ho0) hb); have n6_ := Aside0.mk (Kd.R_lower (Kd.R_new' (Kd.R_new' (Kd.R_new' (Kd.R_new' (Kd.R_new' (Kd.R_new' ho0 (Kd.R_lt (by (with_reducible repeat (first | apply Kd.R_alloc | apply Kd.R_drewN | apply Kd.R_drew)); exact HO433.out))) (Kd.R_lt (by (with_reducible repeat (first | apply Kd.R_alloc | apply Kd.R_drewN | apply Kd.R_drew)); exact HO438.out))) (Kd.R_lt (by (with_reducible repeat (first | apply Kd.R_alloc | apply Kd.R_drewN | apply Kd.R_drew)); exact HO441.out))) (Kd.R_lt (by (with_reducible repeat (first | apply Kd.R_alloc | apply Kd.R_drewN | apply Kd.R_drew)); exact HO448.out))) (Kd.R_lt (by (with_reducible repeat (first | apply Kd.R_alloc | apply Kd.R_drewN | apply Kd.R_drew)); exact HO452.out))) (Kd.R_lt (by (with_reducible repeat (first | apply Kd.R_alloc | apply Kd.R_drewN | apply Kd.R_drew)); exact HO456.out))) (below_size (by repeat (first | (with_reducible first | exact HB.out | apply below_alloc | apply pw_below_drewN | apply below_drew1 | refine below_set ?_ GE435.out) | exact HB.out)))); have n7_ := Aside0.mk (blk_below (g := gb435) (o := .cells #[.bool t430, .slice Ao16 t431.length co16, .int .i64 t434] 61 (0, 0)) (by (with_reducible repeat (first | refine blk_drewN ?_ _ | refine blk_drew ?_ | refine blk_alloc ?_ _)); exact BK435.out) hb); have n8_ := Aside0.mk (below_step (by repeat (first | (with_reducible first | exact HB.out | apply below_alloc | apply pw_below_drewN | apply below_drew1 | refine below_set ?_ GE435.out) | exact HB.out)) hb); clear HO433; clear HO438; clear HO441; clear HO448; clear HO452; clear HO456; clear BK435; clear HB; have HO433 := n0_; have HO438 := n1_; have HO441 := n2_; have HO448 := n3_; have HO452 := n4_; have HO456 := n5_; have HO459 := n6_; have BK435 := n7_; have HB := n8_; clear n0_ n1_ n2_ n3_ n4_ n5_ n6_ n7_ n8_; (try clear hb); (try clear hb2); (try clear hk); (try clear hi); (try clear ho0)))
          go_meet
          case rel => exact ⟨_, (t457), H', ⟨by have := HJ2.out; first | omega | exact Nat.le_refl _⟩, ⟨by (with_reducible repeat (first | apply Kd.R_alloc | apply Kd.R_drewN | apply Kd.R_drew)); exact Kd.R_mono HO459.out (fun _ hk => hk.1.1.1.1.1.2)⟩, ⟨by (with_reducible repeat (first | apply Kd.R_alloc | apply Kd.R_drewN | apply Kd.R_drew)); exact Kd.R_mono HO433.out (fun _ hk => hk.2)⟩, ⟨by (with_reducible repeat (first | refine blk_drewN ?_ _ | refine blk_drew ?_ | refine blk_alloc ?_ _)); exact BK435.out⟩, ⟨by repeat (first | (with_reducible first | exact HB.out | apply below_alloc | apply pw_below_drewN | apply below_drew1 | refine below_set ?_ GE435.out) | exact HB.out)⟩⟩
        replace c32 := Bool.eq_false_iff.mpr c32
        subst c32
        have H1 : ((tenorref2_odd.f t445).bind fun t460 => (if t460 = true then ((tenorref1_AddDigits.f kj2 t445 (([1] : List Int))).bind fun t464 => (tenorref2_Print.j1 kj2 a0 a1 t464)) else (tenorref2_Print.j1 kj2 a0 a1 t445))) = some (r1, r2) := by rw [if_neg (show ¬ (false = true) by decide)] at H; exact H
        clear H
        have H := H1
        clear H1
        replace H := Option.bind_eq_some_iff.mp H
        obtain ⟨t460, A450, H⟩ := H
        replace H : (if t460 = true then ((tenorref1_AddDigits.f kj2 t445 (([1] : List Int))).bind fun t464 => (tenorref2_Print.j1 kj2 a0 a1 t464)) else (tenorref2_Print.j1 kj2 a0 a1 t445)) = some (r1, r2) := H
        have A45 := Aside0.mk A450
        clear A450
        by_cases c46 : t460 = true
        · subst c46
          have H1 : ((tenorref1_AddDigits.f kj2 t445 (([1] : List Int))).bind fun t464 => (tenorref2_Print.j1 kj2 a0 a1 t464)) = some (r1, r2) := by rw [if_pos rfl] at H; exact H
          clear H
          have H := H1
          clear H1
          obtain ⟨y461, hy461⟩ : ∃ y_ : List Int, y_ = (([1] : List Int)) := ⟨_, rfl⟩
          replace H : ((tenorref1_AddDigits.f kj2 t445 y461).bind fun t464 => (tenorref2_Print.j1 kj2 a0 a1 t464)) = some (r1, r2) := by first | (rw [hy461]; with_reducible exact H) | (have H2_ := (Option.bind_some _ _).symm.trans H; rw [hy461]; with_reducible exact H2_) | (have H2_ := (Option.bind_some _ _).symm.trans H; with_reducible exact H2_) | with_reducible exact H | (rw [hy461]; exact H) | exact H
          have Ny461 := Aside0.mk hy461
          clear hy461
          replace H := Option.bind_eq_some_iff.mp H
          obtain ⟨t464, A470, H⟩ := H
          replace H : (tenorref2_Print.j1 kj2 a0 a1 t464) = some (r1, r2) := H
          have A47 := Aside0.mk A470
          clear A470
          have H' := Aside0.mk H
          clear H
          have hcz48_0 : w21.cell? ⟨gb435, 0, none⟩ = some (.bool t430) := (blk_cell BK435.out 0).trans rfl
          have hcz48_1 : w21.cell? ⟨gb435, 1, none⟩ = some (.slice Ao16 t431.length co16) := (blk_cell BK435.out 1).trans rfl
          have hcz48_2 : w21.cell? ⟨gb435, 2, none⟩ = some (.int .i64 t434) := (blk_cell BK435.out 2).trans rfl
          have hfz48_0 := blk_frozen BK435.out 0
          have hfz48_1 := blk_frozen BK435.out 1
          have hfz48_2 := blk_frozen BK435.out 2
          obtain ⟨Ao49, co49, eo49⟩ := Kd.R_slice HO441.out
          subst eo49
          go_wp2_with (first | ((with_reducible refine gate_callee (f := 38) rfl ?_); refine goesL_ (some 44) rfl rfl Tryz.func38 (by kernel_rfl) rfl #[.slice Ao49 t439.length co49, .int .i64 (wrap64 (-t434))] rfl (by (try simp only [List.map_toArray, List.map_cons, List.map_nil]); first | done | rfl | (simp only [List.length_drop, List.length_take]; rfl)) ?_; (with_reducible refine (tenorref1_ShiftDown.calls kj2 _ _ t439 (wrap64 (-t434)) t445 t446 _ ?side1 ?side2 A28.out).mono ?_); (case side1 => repeat (first | exact (Kd.R_reads' HO441.out).2.2 | (with_reducible refine Kd.C_alloc ?_ _) | (with_reducible refine Kd.C_drewN ?_ _) | (with_reducible refine Kd.C_drew ?_))); (case side2 => exact (Kd.R_reads' HO441.out).2.1); rintro e w50 ⟨v447, rfl, ho0, hb⟩; refine ⟨_, rfl, ?_⟩; have n0_ := Aside0.mk (Kd.R_elder' (by (with_reducible repeat (first | apply Kd.R_alloc | apply Kd.R_drewN | apply Kd.R_drew)); exact HO433.out) (Kd.R_base ho0) hb); have n1_ := Aside0.mk (Kd.R_elder' (by (with_reducible repeat (first | apply Kd.R_alloc | apply Kd.R_drewN | apply Kd.R_drew)); exact HO438.out) (Kd.R_base ho0) hb); have n2_ := Aside0.mk (Kd.R_elder' (by (with_reducible repeat (first | apply Kd.R_alloc | apply Kd.R_drewN | apply Kd.R_drew)); exact HO441.out) (Kd.R_base ho0) hb); have n3_ := Aside0.mk (Kd.R_lower (Kd.R_new' (Kd.R_new' (Kd.R_new' ho0 (Kd.R_lt (by (with_reducible repeat (first | apply Kd.R_alloc | apply Kd.R_drewN | apply Kd.R_drew)); exact HO433.out))) (Kd.R_lt (by (with_reducible repeat (first | apply Kd.R_alloc | apply Kd.R_drewN | apply Kd.R_drew)); exact HO438.out))) (Kd.R_lt (by (with_reducible repeat (first | apply Kd.R_alloc | apply Kd.R_drewN | apply Kd.R_drew)); exact HO441.out))) (below_size (by repeat (first | (with_reducible first | exact HB.out | apply below_alloc | apply pw_below_drewN | apply below_drew1 | refine below_set ?_ GE435.out) | exact HB.out)))); have n4_ := Aside0.mk (blk_below (g := gb435) (o := .cells #[.bool t430, .slice Ao16 t431.length co16, .int .i64 t434] 61 (0, 0)) (by (with_reducible repeat (first | refine blk_drewN ?_ _ | refine blk_drew ?_ | refine blk_alloc ?_ _)); exact BK435.out) hb); have n5_ := Aside0.mk (below_step (by repeat (first | (with_reducible first | exact HB.out | apply below_alloc | apply pw_below_drewN | apply below_drew1 | refine below_set ?_ GE435.out) | exact HB.out)) hb); clear HO433; clear HO438; clear HO441; clear BK435; clear HB; have HO433 := n0_; have HO438 := n1_; have HO441 := n2_; have HO448 := n3_; have BK435 := n4_; have HB := n5_; clear n0_ n1_ n2_ n3_ n4_ n5_; (try clear hb); (try clear hb2); (try clear hk); (try clear hi); (try clear ho0); have hcz51_0 : w50.cell? ⟨gb435, 0, none⟩ = some (.bool t430) := (blk_cell BK435.out 0).trans rfl; have hcz51_1 : w50.cell? ⟨gb435, 1, none⟩ = some (.slice Ao16 t431.length co16) := (blk_cell BK435.out 1).trans rfl; have hcz51_2 : w50.cell? ⟨gb435, 2, none⟩ = some (.int .i64 t434) := (blk_cell BK435.out 2).trans rfl; have hfz51_0 := blk_frozen BK435.out 0; have hfz51_1 := blk_frozen BK435.out 1; have hfz51_2 := blk_frozen BK435.out 2) | ((with_reducible refine gate_callee (f := 38) rfl ?_); refine goesL_ (some 53) rfl rfl Tryz.func38 (by kernel_rfl) rfl #[.slice Ao49 t439.length co49, .int .i64 (wrap64 ((wrap64 (-t434)) - 1))] rfl (by (try simp only [List.map_toArray, List.map_cons, List.map_nil]); first | done | rfl | (simp only [List.length_drop, List.length_take]; rfl)) ?_; (with_reducible refine (tenorref1_ShiftDown.calls kj2 _ _ t439 (wrap64 ((wrap64 (-t434)) - 1)) t449 false _ ?side1 ?side2 A29.out).mono ?_); (case side1 => repeat (first | exact (Kd.R_reads' HO441.out).2.2 | (with_reducible refine Kd.C_alloc ?_ _) | (with_reducible refine Kd.C_drewN ?_ _) | (with_reducible refine Kd.C_drew ?_))); (case side2 => exact (Kd.R_reads' HO441.out).2.1); rintro e w52 ⟨v451, rfl, ho0, hb⟩; refine ⟨_, rfl, ?_⟩; have n0_ := Aside0.mk (Kd.R_elder' (by (with_reducible repeat (first | apply Kd.R_alloc | apply Kd.R_drewN | apply Kd.R_drew)); exact HO433.out) (Kd.R_base ho0) hb); have n1_ := Aside0.mk (Kd.R_elder' (by (with_reducible repeat (first | apply Kd.R_alloc | apply Kd.R_drewN | apply Kd.R_drew)); exact HO438.out) (Kd.R_base ho0) hb); have n2_ := Aside0.mk (Kd.R_elder' (by (with_reducible repeat (first | apply Kd.R_alloc | apply Kd.R_drewN | apply Kd.R_drew)); exact HO441.out) (Kd.R_base ho0) hb); have n3_ := Aside0.mk (Kd.R_elder' (by (with_reducible repeat (first | apply Kd.R_alloc | apply Kd.R_drewN | apply Kd.R_drew)); exact HO448.out) (Kd.R_base ho0) hb); have n4_ := Aside0.mk (Kd.R_lower (Kd.R_new' (Kd.R_new' (Kd.R_new' (Kd.R_new' ho0 (Kd.R_lt (by (with_reducible repeat (first | apply Kd.R_alloc | apply Kd.R_drewN | apply Kd.R_drew)); exact HO433.out))) (Kd.R_lt (by (with_reducible repeat (first | apply Kd.R_alloc | apply Kd.R_drewN | apply Kd.R_drew)); exact HO438.out))) (Kd.R_lt (by (with_reducible repeat (first | apply Kd.R_alloc | apply Kd.R_drewN | apply Kd.R_drew)); exact HO441.out))) (Kd.R_lt (by (with_reducible repeat (first | apply Kd.R_alloc | apply Kd.R_drewN | apply Kd.R_drew)); exact HO448.out))) (below_size (by repeat (first | (with_reducible first | exact HB.out | apply below_alloc | apply pw_below_drewN | apply below_drew1 | refine below_set ?_ GE435.out) | exact HB.out)))); have n5_ := Aside0.mk (blk_below (g := gb435) (o := .cells #[.bool t430, .slice Ao16 t431.length co16, .int .i64 t434] 61 (0, 0)) (by (with_reducible repeat (first | refine blk_drewN ?_ _ | refine blk_drew ?_ | refine blk_alloc ?_ _)); exact BK435.out) hb); have n6_ := Aside0.mk (below_step (by repeat (first | (with_reducible first | exact HB.out | apply below_alloc | apply pw_below_drewN | apply below_drew1 | refine below_set ?_ GE435.out) | exact HB.out)) hb); clear HO433; clear HO438; clear HO441; clear HO448; clear BK435; clear HB; have HO433 := n0_; have HO438 := n1_; have HO441 := n2_; have HO448 := n3_; have HO452 := n4_; have BK435 := n5_; have HB := n6_; clear n0_ n1_ n2_ n3_ n4_ n5_ n6_; (try clear hb); (try clear hb2); (try clear hk); (try clear hi); (try clear ho0); obtain ⟨Ao53, co53, eo53⟩ := Kd.R_slice HO452.out; subst eo53) | ((with_reducible refine gate_callee (f := 39) rfl ?_); refine goesL_ (some 57) rfl rfl Tryz.func39 (by kernel_rfl) rfl #[.slice Ao53 t449.length co53] rfl (by (try simp only [List.map_toArray, List.map_cons, List.map_nil]); first | done | rfl | (simp only [List.length_drop, List.length_take]; rfl)) ?_; (with_reducible refine (tenorref2_odd.calls _ _ t449 true _ ?side1 ?side2 A30.out).mono ?_); (case side1 => repeat (first | exact (Kd.R_reads' HO452.out).2.2 | (with_reducible refine Kd.C_alloc ?_ _) | (with_reducible refine Kd.C_drewN ?_ _) | (with_reducible refine Kd.C_drew ?_))); (case side2 => exact (Kd.R_reads' HO452.out).2.1); rintro e w' ⟨rfl, ⟨nd, rfl⟩⟩; refine ⟨_, rfl, ?_⟩; obtain ⟨Ao54, co54, eo54⟩ := Kd.R_slice HO448.out; subst eo54) | (go_at_call 39; (with_reducible refine (tenorref2_odd.calls _ _ t445 true _ ?side1 ?side2 A45.out).mono ?_); (case side1 => repeat (first | exact (Kd.R_reads' HO448.out).2.2 | (with_reducible refine Kd.C_alloc ?_ _) | (with_reducible refine Kd.C_drewN ?_ _) | (with_reducible refine Kd.C_drew ?_))); (case side2 => exact (Kd.R_reads' HO448.out).2.1); rintro e w' ⟨rfl, ⟨nd, rfl⟩⟩) | ((with_reducible refine gate_dst (N := 66) rfl ?_); refine Kd.R_lit (Kd.int .u64) _ 26 ?hg (N := 66) ?hd (xs := ([1] : List Int)) (inner := [.int .u64 1]) (ok := fun _ => True) (okp := fun _ => True) ?hr ?hp (fun _ hk => hk) trivial (Below.refl _ _) (Nat.le_refl _) (by simp) ?_; (case hd => rfl); (case hg => rfl); (case hr => first | (go_simp; done) | (go_simp; rfl)); (case hp => exact (Reps.one (show Kd.M (Kd.int .u64) _ _ _ 1 [.int .u64 1] from rfl) (Reps.none _ _))); intro v462 w55 ho56 hb hg_ hnew_; clear hg_ hnew_; (first | rw [← Ny461.out] at ho56 | (simp only [Int.reduceToNat] at ho56; rw [← Ny461.out] at ho56)); have n0_ := Aside0.mk (Kd.R_elder' (by (with_reducible repeat (first | apply Kd.R_alloc | apply Kd.R_drewN | apply Kd.R_drew)); exact HO433.out) (Kd.R_base ho56) hb); have n1_ := Aside0.mk (Kd.R_elder' (by (with_reducible repeat (first | apply Kd.R_alloc | apply Kd.R_drewN | apply Kd.R_drew)); exact HO438.out) (Kd.R_base ho56) hb); have n2_ := Aside0.mk (Kd.R_elder' (by (with_reducible repeat (first | apply Kd.R_alloc | apply Kd.R_drewN | apply Kd.R_drew)); exact HO441.out) (Kd.R_base ho56) hb); have n3_ := Aside0.mk (Kd.R_elder' (by (with_reducible repeat (first | apply Kd.R_alloc | apply Kd.R_drewN | apply Kd.R_drew)); exact HO448.out) (Kd.R_base ho56) hb); have n4_ := Aside0.mk (Kd.R_elder' (by (with_reducible repeat (first | apply Kd.R_alloc | apply Kd.R_drewN | apply Kd.R_drew)); exact HO452.out) (Kd.R_base ho56) hb); have n5_ := Aside0.mk (Kd.R_lower (Kd.R_new' (Kd.R_new' (Kd.R_new' (Kd.R_new' (Kd.R_new' ho56 (Kd.R_lt (by (with_reducible repeat (first | apply Kd.R_alloc | apply Kd.R_drewN | apply Kd.R_drew)); exact HO433.out))) (Kd.R_lt (by (with_reducible repeat (first | apply Kd.R_alloc | apply Kd.R_drewN | apply Kd.R_drew)); exact HO438.out))) (Kd.R_lt (by (with_reducible repeat (first | apply Kd.R_alloc | apply Kd.R_drewN | apply Kd.R_drew)); exact HO441.out))) (Kd.R_lt (by (with_reducible repeat (first | apply Kd.R_alloc | apply Kd.R_drewN | apply Kd.R_drew)); exact HO448.out))) (Kd.R_lt (by (with_reducible repeat (first | apply Kd.R_alloc | apply Kd.R_drewN | apply Kd.R_drew)); exact HO452.out))) (below_size (by repeat (first | (with_reducible first | exact HB.out | apply below_alloc | apply pw_below_drewN | apply below_drew1 | refine below_set ?_ GE435.out) | exact HB.out)))); have n6_ := Aside0.mk (blk_below (g := gb435) (o := .cells #[.bool t430, .slice Ao16 t431.length co16, .int .i64 t434] 61 (0, 0)) (by (with_reducible repeat (first | refine blk_drewN ?_ _ | refine blk_drew ?_ | refine blk_alloc ?_ _)); exact BK435.out) hb); have n7_ := Aside0.mk (below_step (by repeat (first | (with_reducible first | exact HB.out | apply below_alloc | apply pw_below_drewN | apply below_drew1 | refine below_set ?_ GE435.out) | exact HB.out)) hb); clear HO433; clear HO438; clear HO441; clear HO448; clear HO452; clear BK435; clear HB; have HO433 := n0_; have HO438 := n1_; have HO441 := n2_; have HO448 := n3_; have HO452 := n4_; have HO463 := n5_; have BK435 := n6_; have HB := n7_; clear n0_ n1_ n2_ n3_ n4_ n5_ n6_ n7_; clear hb ho56; obtain ⟨Ao57, co57, eo57⟩ := Kd.R_slice HO463.out; subst eo57) | ((with_reducible refine gate_callee (f := 40) rfl ?_); refine goesL_ (some 67) rfl rfl Tryz.func40 (by kernel_rfl) rfl #[.slice Ao54 t445.length co54, .slice Ao57 y461.length co57] rfl (by (try simp only [List.map_toArray, List.map_cons, List.map_nil]); first | done | rfl | (simp only [List.length_drop, List.length_take]; rfl)) ?_; (with_reducible refine (tenorref1_AddDigits.calls kj2 _ _ t445 _ _ y461 t464 _ ?side1 ?side2 ?side3 ?side4 A47.out).mono ?_); (case side1 => repeat (first | exact (Kd.R_reads' HO448.out).2.2 | (with_reducible refine Kd.C_alloc ?_ _) | (with_reducible refine Kd.C_drewN ?_ _) | (with_reducible refine Kd.C_drew ?_))); (case side2 => exact (Kd.R_reads' HO448.out).2.1); (case side3 => repeat (first | exact (Kd.R_reads' HO463.out).2.2 | (with_reducible refine Kd.C_alloc ?_ _) | (with_reducible refine Kd.C_drewN ?_ _) | (with_reducible refine Kd.C_drew ?_))); (case side4 => exact (Kd.R_reads' HO463.out).2.1); rintro e w58 ⟨v465, rfl, ho0, hb⟩; refine ⟨_, rfl, ?_⟩; have n0_ := Aside0.mk (Kd.R_elder' (by (with_reducible repeat (first | apply Kd.R_alloc | apply Kd.R_drewN | apply Kd.R_drew)); exact HO433.out) (Kd.R_base ho0) hb); have n1_ := Aside0.mk (Kd.R_elder' (by (with_reducible repeat (first | apply Kd.R_alloc | apply Kd.R_drewN | apply Kd.R_drew)); exact HO438.out) (Kd.R_base ho0) hb); have n2_ := Aside0.mk (Kd.R_elder' (by (with_reducible repeat (first | apply Kd.R_alloc | apply Kd.R_drewN | apply Kd.R_drew)); exact HO441.out) (Kd.R_base ho0) hb); have n3_ := Aside0.mk (Kd.R_elder' (by (with_reducible repeat (first | apply Kd.R_alloc | apply Kd.R_drewN | apply Kd.R_drew)); exact HO448.out) (Kd.R_base ho0) hb); have n4_ := Aside0.mk (Kd.R_elder' (by (with_reducible repeat (first | apply Kd.R_alloc | apply Kd.R_drewN | apply Kd.R_drew)); exact HO452.out) (Kd.R_base ho0) hb); have n5_ := Aside0.mk (Kd.R_elder' (by (with_reducible repeat (first | apply Kd.R_alloc | apply Kd.R_drewN | apply Kd.R_drew)); exact HO463.out) (Kd.R_base ho0) hb); have n6_ := Aside0.mk (Kd.R_lower (Kd.R_new' (Kd.R_new' (Kd.R_new' (Kd.R_new' (Kd.R_new' (Kd.R_new' ho0 (Kd.R_lt (by (with_reducible repeat (first | apply Kd.R_alloc | apply Kd.R_drewN | apply Kd.R_drew)); exact HO433.out))) (Kd.R_lt (by (with_reducible repeat (first | apply Kd.R_alloc | apply Kd.R_drewN | apply Kd.R_drew)); exact HO438.out))) (Kd.R_lt (by (with_reducible repeat (first | apply Kd.R_alloc | apply Kd.R_drewN | apply Kd.R_drew)); exact HO441.out))) (Kd.R_lt (by (with_reducible repeat (first | apply Kd.R_alloc | apply Kd.R_drewN | apply Kd.R_drew)); exact HO448.out))) (Kd.R_lt (by (with_reducible repeat (first | apply Kd.R_alloc | apply Kd.R_drewN | apply Kd.R_drew)); exact HO452.out))) (Kd.R_lt (by (with_reducible repeat (first | apply Kd.R_alloc | apply Kd.R_drewN | apply Kd.R_drew)); exact HO463.out))) (below_size (by repeat (first | (with_reducible first | exact HB.out | apply below_alloc | apply pw_below_drewN | apply below_drew1 | refine below_set ?_ GE435.out) | exact HB.out)))); have n7_ := Aside0.mk (blk_below (g := gb435) (o := .cells #[.bool t430, .slice Ao16 t431.length co16, .int .i64 t434] 61 (0, 0)) (by (with_reducible repeat (first | refine blk_drewN ?_ _ | refine blk_drew ?_ | refine blk_alloc ?_ _)); exact BK435.out) hb); have n8_ := Aside0.mk (below_step (by repeat (first | (with_reducible first | exact HB.out | apply below_alloc | apply pw_below_drewN | apply below_drew1 | refine below_set ?_ GE435.out) | exact HB.out)) hb); clear HO433; clear HO438; clear HO441; clear HO448; clear HO452; clear HO463; clear BK435; clear HB; have HO433 := n0_; have HO438 := n1_; have HO441 := n2_; have HO448 := n3_; have HO452 := n4_; have HO463 := n5_; have HO466 := n6_; have BK435 := n7_; have HB := n8_; clear n0_ n1_ n2_ n3_ n4_ n5_ n6_ n7_ n8_; (try clear hb); (try clear hb2); (try clear hk); (try clear hi); (try clear ho0)))
          go_meet
          case rel => exact ⟨_, (t464), H', ⟨by have := HJ2.out; first | omega | exact Nat.le_refl _⟩, ⟨by (with_reducible repeat (first | apply Kd.R_alloc | apply Kd.R_drewN | apply Kd.R_drew)); exact Kd.R_mono HO466.out (fun _ hk => hk.1.1.1.1.1.2)⟩, ⟨by (with_reducible repeat (first | apply Kd.R_alloc | apply Kd.R_drewN | apply Kd.R_drew)); exact Kd.R_mono HO433.out (fun _ hk => hk.2)⟩, ⟨by (with_reducible repeat (first | refine blk_drewN ?_ _ | refine blk_drew ?_ | refine blk_alloc ?_ _)); exact BK435.out⟩, ⟨by repeat (first | (with_reducible first | exact HB.out | apply below_alloc | apply pw_below_drewN | apply below_drew1 | refine below_set ?_ GE435.out) | exact HB.out)⟩⟩
        replace c46 := Bool.eq_false_iff.mpr c46
        subst c46
        have H1 : (tenorref2_Print.j1 kj2 a0 a1 t445) = some (r1, r2) := by rw [if_neg (show ¬ (false = true) by decide)] at H; exact H
        clear H
        have H := H1
        clear H1
        have H' := Aside0.mk H
        clear H
        have hcz59_0 : w21.cell? ⟨gb435, 0, none⟩ = some (.bool t430) := (blk_cell BK435.out 0).trans rfl
        have hcz59_1 : w21.cell? ⟨gb435, 1, none⟩ = some (.slice Ao16 t431.length co16) := (blk_cell BK435.out 1).trans rfl
        have hcz59_2 : w21.cell? ⟨gb435, 2, none⟩ = some (.int .i64 t434) := (blk_cell BK435.out 2).trans rfl
        have hfz59_0 := blk_frozen BK435.out 0
        have hfz59_1 := blk_frozen BK435.out 1
        have hfz59_2 := blk_frozen BK435.out 2
        obtain ⟨Ao60, co60, eo60⟩ := Kd.R_slice HO441.out
        subst eo60
        go_wp2_with (first | ((with_reducible refine gate_callee (f := 38) rfl ?_); refine goesL_ (some 44) rfl rfl Tryz.func38 (by kernel_rfl) rfl #[.slice Ao60 t439.length co60, .int .i64 (wrap64 (-t434))] rfl (by (try simp only [List.map_toArray, List.map_cons, List.map_nil]); first | done | rfl | (simp only [List.length_drop, List.length_take]; rfl)) ?_; (with_reducible refine (tenorref1_ShiftDown.calls kj2 _ _ t439 (wrap64 (-t434)) t445 t446 _ ?side1 ?side2 A28.out).mono ?_); (case side1 => repeat (first | exact (Kd.R_reads' HO441.out).2.2 | (with_reducible refine Kd.C_alloc ?_ _) | (with_reducible refine Kd.C_drewN ?_ _) | (with_reducible refine Kd.C_drew ?_))); (case side2 => exact (Kd.R_reads' HO441.out).2.1); rintro e w61 ⟨v447, rfl, ho0, hb⟩; refine ⟨_, rfl, ?_⟩; have n0_ := Aside0.mk (Kd.R_elder' (by (with_reducible repeat (first | apply Kd.R_alloc | apply Kd.R_drewN | apply Kd.R_drew)); exact HO433.out) (Kd.R_base ho0) hb); have n1_ := Aside0.mk (Kd.R_elder' (by (with_reducible repeat (first | apply Kd.R_alloc | apply Kd.R_drewN | apply Kd.R_drew)); exact HO438.out) (Kd.R_base ho0) hb); have n2_ := Aside0.mk (Kd.R_elder' (by (with_reducible repeat (first | apply Kd.R_alloc | apply Kd.R_drewN | apply Kd.R_drew)); exact HO441.out) (Kd.R_base ho0) hb); have n3_ := Aside0.mk (Kd.R_lower (Kd.R_new' (Kd.R_new' (Kd.R_new' ho0 (Kd.R_lt (by (with_reducible repeat (first | apply Kd.R_alloc | apply Kd.R_drewN | apply Kd.R_drew)); exact HO433.out))) (Kd.R_lt (by (with_reducible repeat (first | apply Kd.R_alloc | apply Kd.R_drewN | apply Kd.R_drew)); exact HO438.out))) (Kd.R_lt (by (with_reducible repeat (first | apply Kd.R_alloc | apply Kd.R_drewN | apply Kd.R_drew)); exact HO441.out))) (below_size (by repeat (first | (with_reducible first | exact HB.out | apply below_alloc | apply pw_below_drewN | apply below_drew1 | refine below_set ?_ GE435.out) | exact HB.out)))); have n4_ := Aside0.mk (blk_below (g := gb435) (o := .cells #[.bool t430, .slice Ao16 t431.length co16, .int .i64 t434] 61 (0, 0)) (by (with_reducible repeat (first | refine blk_drewN ?_ _ | refine blk_drew ?_ | refine blk_alloc ?_ _)); exact BK435.out) hb); have n5_ := Aside0.mk (below_step (by repeat (first | (with_reducible first | exact HB.out | apply below_alloc | apply pw_below_drewN | apply below_drew1 | refine below_set ?_ GE435.out) | exact HB.out)) hb); clear HO433; clear HO438; clear HO441; clear BK435; clear HB; have HO433 := n0_; have HO438 := n1_; have HO441 := n2_; have HO448 := n3_; have BK435 := n4_; have HB := n5_; clear n0_ n1_ n2_ n3_ n4_ n5_; (try clear hb); (try clear hb2); (try clear hk); (try clear hi); (try clear ho0); have hcz62_0 : w61.cell? ⟨gb435, 0, none⟩ = some (.bool t430) := (blk_cell BK435.out 0).trans rfl; have hcz62_1 : w61.cell? ⟨gb435, 1, none⟩ = some (.slice Ao16 t431.length co16) := (blk_cell BK435.out 1).trans rfl; have hcz62_2 : w61.cell? ⟨gb435, 2, none⟩ = some (.int .i64 t434) := (blk_cell BK435.out 2).trans rfl; have hfz62_0 := blk_frozen BK435.out 0; have hfz62_1 := blk_frozen BK435.out 1; have hfz62_2 := blk_frozen BK435.out 2) | ((with_reducible refine gate_callee (f := 38) rfl ?_); refine goesL_ (some 53) rfl rfl Tryz.func38 (by kernel_rfl) rfl #[.slice Ao60 t439.length co60, .int .i64 (wrap64 ((wrap64 (-t434)) - 1))] rfl (by (try simp only [List.map_toArray, List.map_cons, List.map_nil]); first | done | rfl | (simp only [List.length_drop, List.length_take]; rfl)) ?_; (with_reducible refine (tenorref1_ShiftDown.calls kj2 _ _ t439 (wrap64 ((wrap64 (-t434)) - 1)) t449 false _ ?side1 ?side2 A29.out).mono ?_); (case side1 => repeat (first | exact (Kd.R_reads' HO441.out).2.2 | (with_reducible refine Kd.C_alloc ?_ _) | (with_reducible refine Kd.C_drewN ?_ _) | (with_reducible refine Kd.C_drew ?_))); (case side2 => exact (Kd.R_reads' HO441.out).2.1); rintro e w63 ⟨v451, rfl, ho0, hb⟩; refine ⟨_, rfl, ?_⟩; have n0_ := Aside0.mk (Kd.R_elder' (by (with_reducible repeat (first | apply Kd.R_alloc | apply Kd.R_drewN | apply Kd.R_drew)); exact HO433.out) (Kd.R_base ho0) hb); have n1_ := Aside0.mk (Kd.R_elder' (by (with_reducible repeat (first | apply Kd.R_alloc | apply Kd.R_drewN | apply Kd.R_drew)); exact HO438.out) (Kd.R_base ho0) hb); have n2_ := Aside0.mk (Kd.R_elder' (by (with_reducible repeat (first | apply Kd.R_alloc | apply Kd.R_drewN | apply Kd.R_drew)); exact HO441.out) (Kd.R_base ho0) hb); have n3_ := Aside0.mk (Kd.R_elder' (by (with_reducible repeat (first | apply Kd.R_alloc | apply Kd.R_drewN | apply Kd.R_drew)); exact HO448.out) (Kd.R_base ho0) hb); have n4_ := Aside0.mk (Kd.R_lower (Kd.R_new' (Kd.R_new' (Kd.R_new' (Kd.R_new' ho0 (Kd.R_lt (by (with_reducible repeat (first | apply Kd.R_alloc | apply Kd.R_drewN | apply Kd.R_drew)); exact HO433.out))) (Kd.R_lt (by (with_reducible repeat (first | apply Kd.R_alloc | apply Kd.R_drewN | apply Kd.R_drew)); exact HO438.out))) (Kd.R_lt (by (with_reducible repeat (first | apply Kd.R_alloc | apply Kd.R_drewN | apply Kd.R_drew)); exact HO441.out))) (Kd.R_lt (by (with_reducible repeat (first | apply Kd.R_alloc | apply Kd.R_drewN | apply Kd.R_drew)); exact HO448.out))) (below_size (by repeat (first | (with_reducible first | exact HB.out | apply below_alloc | apply pw_below_drewN | apply below_drew1 | refine below_set ?_ GE435.out) | exact HB.out)))); have n5_ := Aside0.mk (blk_below (g := gb435) (o := .cells #[.bool t430, .slice Ao16 t431.length co16, .int .i64 t434] 61 (0, 0)) (by (with_reducible repeat (first | refine blk_drewN ?_ _ | refine blk_drew ?_ | refine blk_alloc ?_ _)); exact BK435.out) hb); have n6_ := Aside0.mk (below_step (by repeat (first | (with_reducible first | exact HB.out | apply below_alloc | apply pw_below_drewN | apply below_drew1 | refine below_set ?_ GE435.out) | exact HB.out)) hb); clear HO433; clear HO438; clear HO441; clear HO448; clear BK435; clear HB; have HO433 := n0_; have HO438 := n1_; have HO441 := n2_; have HO448 := n3_; have HO452 := n4_; have BK435 := n5_; have HB := n6_; clear n0_ n1_ n2_ n3_ n4_ n5_ n6_; (try clear hb); (try clear hb2); (try clear hk); (try clear hi); (try clear ho0); obtain ⟨Ao64, co64, eo64⟩ := Kd.R_slice HO452.out; subst eo64) | ((with_reducible refine gate_callee (f := 39) rfl ?_); refine goesL_ (some 57) rfl rfl Tryz.func39 (by kernel_rfl) rfl #[.slice Ao64 t449.length co64] rfl (by (try simp only [List.map_toArray, List.map_cons, List.map_nil]); first | done | rfl | (simp only [List.length_drop, List.length_take]; rfl)) ?_; (with_reducible refine (tenorref2_odd.calls _ _ t449 true _ ?side1 ?side2 A30.out).mono ?_); (case side1 => repeat (first | exact (Kd.R_reads' HO452.out).2.2 | (with_reducible refine Kd.C_alloc ?_ _) | (with_reducible refine Kd.C_drewN ?_ _) | (with_reducible refine Kd.C_drew ?_))); (case side2 => exact (Kd.R_reads' HO452.out).2.1); rintro e w' ⟨rfl, ⟨nd, rfl⟩⟩; refine ⟨_, rfl, ?_⟩; obtain ⟨Ao65, co65, eo65⟩ := Kd.R_slice HO448.out; subst eo65) | (go_at_call 39; (with_reducible refine (tenorref2_odd.calls _ _ t445 false _ ?side1 ?side2 A45.out).mono ?_); (case side1 => repeat (first | exact (Kd.R_reads' HO448.out).2.2 | (with_reducible refine Kd.C_alloc ?_ _) | (with_reducible refine Kd.C_drewN ?_ _) | (with_reducible refine Kd.C_drew ?_))); (case side2 => exact (Kd.R_reads' HO448.out).2.1); rintro e w' ⟨rfl, ⟨nd, rfl⟩⟩))
        go_meet
        case rel => exact ⟨_, (t445), H', ⟨by have := HJ2.out; first | omega | exact Nat.le_refl _⟩, ⟨by (with_reducible repeat (first | apply Kd.R_alloc | apply Kd.R_drewN | apply Kd.R_drew)); exact Kd.R_mono HO448.out (fun _ hk => hk.1.1.1.2)⟩, ⟨by (with_reducible repeat (first | apply Kd.R_alloc | apply Kd.R_drewN | apply Kd.R_drew)); exact Kd.R_mono HO433.out (fun _ hk => hk.1.2)⟩, ⟨by (with_reducible repeat (first | refine blk_drewN ?_ _ | refine blk_drew ?_ | refine blk_alloc ?_ _)); exact BK435.out⟩, ⟨by repeat (first | (with_reducible first | exact HB.out | apply below_alloc | apply pw_below_drewN | apply below_drew1 | refine below_set ?_ GE435.out) | exact HB.out)⟩⟩
      replace c31 := Bool.eq_false_iff.mpr c31
      subst c31
      have H1 : (tenorref2_Print.j1 kj2 a0 a1 t445) = some (r1, r2) := by rw [if_neg (show ¬ (false = true) by decide)] at H; exact H
      clear H
      have H := H1
      clear H1
      have H' := Aside0.mk H
      clear H
      have hcz66_0 : w21.cell? ⟨gb435, 0, none⟩ = some (.bool t430) := (blk_cell BK435.out 0).trans rfl
      have hcz66_1 : w21.cell? ⟨gb435, 1, none⟩ = some (.slice Ao16 t431.length co16) := (blk_cell BK435.out 1).trans rfl
      have hcz66_2 : w21.cell? ⟨gb435, 2, none⟩ = some (.int .i64 t434) := (blk_cell BK435.out 2).trans rfl
      have hfz66_0 := blk_frozen BK435.out 0
      have hfz66_1 := blk_frozen BK435.out 1
      have hfz66_2 := blk_frozen BK435.out 2
      obtain ⟨Ao67, co67, eo67⟩ := Kd.R_slice HO441.out
      subst eo67
      go_wp2_with (first | ((with_reducible refine gate_callee (f := 38) rfl ?_); refine goesL_ (some 44) rfl rfl Tryz.func38 (by kernel_rfl) rfl #[.slice Ao67 t439.length co67, .int .i64 (wrap64 (-t434))] rfl (by (try simp only [List.map_toArray, List.map_cons, List.map_nil]); first | done | rfl | (simp only [List.length_drop, List.length_take]; rfl)) ?_; (with_reducible refine (tenorref1_ShiftDown.calls kj2 _ _ t439 (wrap64 (-t434)) t445 t446 _ ?side1 ?side2 A28.out).mono ?_); (case side1 => repeat (first | exact (Kd.R_reads' HO441.out).2.2 | (with_reducible refine Kd.C_alloc ?_ _) | (with_reducible refine Kd.C_drewN ?_ _) | (with_reducible refine Kd.C_drew ?_))); (case side2 => exact (Kd.R_reads' HO441.out).2.1); rintro e w68 ⟨v447, rfl, ho0, hb⟩; refine ⟨_, rfl, ?_⟩; have n0_ := Aside0.mk (Kd.R_elder' (by (with_reducible repeat (first | apply Kd.R_alloc | apply Kd.R_drewN | apply Kd.R_drew)); exact HO433.out) (Kd.R_base ho0) hb); have n1_ := Aside0.mk (Kd.R_elder' (by (with_reducible repeat (first | apply Kd.R_alloc | apply Kd.R_drewN | apply Kd.R_drew)); exact HO438.out) (Kd.R_base ho0) hb); have n2_ := Aside0.mk (Kd.R_elder' (by (with_reducible repeat (first | apply Kd.R_alloc | apply Kd.R_drewN | apply Kd.R_drew)); exact HO441.out) (Kd.R_base ho0) hb); have n3_ := Aside0.mk (Kd.R_lower (Kd.R_new' (Kd.R_new' (Kd.R_new' ho0 (Kd.R_lt (by (with_reducible repeat (first | apply Kd.R_alloc | apply Kd.R_drewN | apply Kd.R_drew)); exact HO433.out))) (Kd.R_lt (by (with_reducible repeat (first | apply Kd.R_alloc | apply Kd.R_drewN | apply Kd.R_drew)); exact HO438.out))) (Kd.R_lt (by (with_reducible repeat (first | apply Kd.R_alloc | apply Kd.R_drewN | apply Kd.R_drew)); exact HO441.out))) (below_size (by repeat (first | (with_reducible first | exact HB.out | apply below_alloc | apply pw_below_drewN | apply below_drew1 | refine below_set ?_ GE435.out) | exact HB.out)))); have n4_ := Aside0.mk (blk_below (g := gb435) (o := .cells #[.bool t430, .slice Ao16 t431.length co16, .int .i64 t434] 61 (0, 0)) (by (with_reducible repeat (first | refine blk_drewN ?_ _ | refine blk_drew ?_ | refine blk_alloc ?_ _)); exact BK435.out) hb); have n5_ := Aside0.mk (below_step (by repeat (first | (with_reducible first | exact HB.out | apply below_alloc | apply pw_below_drewN | apply below_drew1 | refine below_set ?_ GE435.out) | exact HB.out)) hb); clear HO433; clear HO438; clear HO441; clear BK435; clear HB; have HO433 := n0_; have HO438 := n1_; have HO441 := n2_; have HO448 := n3_; have BK435 := n4_; have HB := n5_; clear n0_ n1_ n2_ n3_ n4_ n5_; (try clear hb); (try clear hb2); (try clear hk); (try clear hi); (try clear ho0); have hcz69_0 : w68.cell? ⟨gb435, 0, none⟩ = some (.bool t430) := (blk_cell BK435.out 0).trans rfl; have hcz69_1 : w68.cell? ⟨gb435, 1, none⟩ = some (.slice Ao16 t431.length co16) := (blk_cell BK435.out 1).trans rfl; have hcz69_2 : w68.cell? ⟨gb435, 2, none⟩ = some (.int .i64 t434) := (blk_cell BK435.out 2).trans rfl; have hfz69_0 := blk_frozen BK435.out 0; have hfz69_1 := blk_frozen BK435.out 1; have hfz69_2 := blk_frozen BK435.out 2) | ((with_reducible refine gate_callee (f := 38) rfl ?_); refine goesL_ (some 53) rfl rfl Tryz.func38 (by kernel_rfl) rfl #[.slice Ao67 t439.length co67, .int .i64 (wrap64 ((wrap64 (-t434)) - 1))] rfl (by (try simp only [List.map_toArray, List.map_cons, List.map_nil]); first | done | rfl | (simp only [List.length_drop, List.length_take]; rfl)) ?_; (with_reducible refine (tenorref1_ShiftDown.calls kj2 _ _ t439 (wrap64 ((wrap64 (-t434)) - 1)) t449 t450 _ ?side1 ?side2 A29.out).mono ?_); (case side1 => repeat (first | exact (Kd.R_reads' HO441.out).2.2 | (with_reducible refine Kd.C_alloc ?_ _) | (with_reducible refine Kd.C_drewN ?_ _) | (with_reducible refine Kd.C_drew ?_))); (case side2 => exact (Kd.R_reads' HO441.out).2.1); rintro e w70 ⟨v451, rfl, ho0, hb⟩; refine ⟨_, rfl, ?_⟩; have n0_ := Aside0.mk (Kd.R_elder' (by (with_reducible repeat (first | apply Kd.R_alloc | apply Kd.R_drewN | apply Kd.R_drew)); exact HO433.out) (Kd.R_base ho0) hb); have n1_ := Aside0.mk (Kd.R_elder' (by (with_reducible repeat (first | apply Kd.R_alloc | apply Kd.R_drewN | apply Kd.R_drew)); exact HO438.out) (Kd.R_base ho0) hb); have n2_ := Aside0.mk (Kd.R_elder' (by (with_reducible repeat (first | apply Kd.R_alloc | apply Kd.R_drewN | apply Kd.R_drew)); exact HO441.out) (Kd.R_base ho0) hb); have n3_ := Aside0.mk (Kd.R_elder' (by (with_reducible repeat (first | apply Kd.R_alloc | apply Kd.R_drewN | apply Kd.R_drew)); exact HO448.out) (Kd.R_base ho0) hb); have n4_ := Aside0.mk (Kd.R_lower (Kd.R_new' (Kd.R_new' (Kd.R_new' (Kd.R_new' ho0 (Kd.R_lt (by (with_reducible repeat (first | apply Kd.R_alloc | apply Kd.R_drewN | apply Kd.R_drew)); exact HO433.out))) (Kd.R_lt (by (with_reducible repeat (first | apply Kd.R_alloc | apply Kd.R_drewN | apply Kd.R_drew)); exact HO438.out))) (Kd.R_lt (by (with_reducible repeat (first | apply Kd.R_alloc | apply Kd.R_drewN | apply Kd.R_drew)); exact HO441.out))) (Kd.R_lt (by (with_reducible repeat (first | apply Kd.R_alloc | apply Kd.R_drewN | apply Kd.R_drew)); exact HO448.out))) (below_size (by repeat (first | (with_reducible first | exact HB.out | apply below_alloc | apply pw_below_drewN | apply below_drew1 | refine below_set ?_ GE435.out) | exact HB.out)))); have n5_ := Aside0.mk (blk_below (g := gb435) (o := .cells #[.bool t430, .slice Ao16 t431.length co16, .int .i64 t434] 61 (0, 0)) (by (with_reducible repeat (first | refine blk_drewN ?_ _ | refine blk_drew ?_ | refine blk_alloc ?_ _)); exact BK435.out) hb); have n6_ := Aside0.mk (below_step (by repeat (first | (with_reducible first | exact HB.out | apply below_alloc | apply pw_below_drewN | apply below_drew1 | refine below_set ?_ GE435.out) | exact HB.out)) hb); clear HO433; clear HO438; clear HO441; clear HO448; clear BK435; clear HB; have HO433 := n0_; have HO438 := n1_; have HO441 := n2_; have HO448 := n3_; have HO452 := n4_; have BK435 := n5_; have HB := n6_; clear n0_ n1_ n2_ n3_ n4_ n5_ n6_; (try clear hb); (try clear hb2); (try clear hk); (try clear hi); (try clear ho0); obtain ⟨Ao71, co71, eo71⟩ := Kd.R_slice HO452.out; subst eo71) | ((with_reducible refine gate_callee (f := 39) rfl ?_); refine goesL_ (some 57) rfl rfl Tryz.func39 (by kernel_rfl) rfl #[.slice Ao71 t449.length co71] rfl (by (try simp only [List.map_toArray, List.map_cons, List.map_nil]); first | done | rfl | (simp only [List.length_drop, List.length_take]; rfl)) ?_; (with_reducible refine (tenorref2_odd.calls _ _ t449 false _ ?side1 ?side2 A30.out).mono ?_); (case side1 => repeat (first | exact (Kd.R_reads' HO452.out).2.2 | (with_reducible refine Kd.C_alloc ?_ _) | (with_reducible refine Kd.C_drewN ?_ _) | (with_reducible refine Kd.C_drew ?_))); (case side2 => exact (Kd.R_reads' HO452.out).2.1); rintro e w' ⟨rfl, ⟨nd, rfl⟩⟩; refine ⟨_, rfl, ?_⟩))
      go_meet
      case rel => exact ⟨_, (t445), H', ⟨by have := HJ2.out; first | omega | exact Nat.le_refl _⟩, ⟨by (with_reducible repeat (first | apply Kd.R_alloc | apply Kd.R_drewN | apply Kd.R_drew)); exact Kd.R_mono HO448.out (fun _ hk => hk.1.1.1.2)⟩, ⟨by (with_reducible repeat (first | apply Kd.R_alloc | apply Kd.R_drewN | apply Kd.R_drew)); exact Kd.R_mono HO433.out (fun _ hk => hk.1.2)⟩, ⟨by (with_reducible repeat (first | refine blk_drewN ?_ _ | refine blk_drew ?_ | refine blk_alloc ?_ _)); exact BK435.out⟩, ⟨by repeat (first | (with_reducible first | exact HB.out | apply below_alloc | apply pw_below_drewN | apply below_drew1 | refine below_set ?_ GE435.out) | exact HB.out)⟩⟩
    clear HC12
    (try clear c1); (try clear c2); (try clear p2); (try clear c3); (try clear c4); (try clear c5); (try clear c6); (try clear c6b0); (try clear p6); (try clear c7); (try clear c15); (try clear c23); (try clear c23b0); (try clear c31); (try clear c32); (try clear c33); (try clear c34); (try clear c35); (try clear c36); (try clear c37); (try clear c38); (try clear c39); (try clear c40); (try clear c46); (try clear p64); (try clear hcz15_0); (try clear hcz15_1); (try clear hcz15_2); (try clear hcz22_0); (try clear hcz22_1); (try clear hcz22_2); (try clear hcz25_0); (try clear hcz25_1); (try clear hcz25_2); (try clear hcz34_0); (try clear hcz34_1); (try clear hcz34_2); (try clear hcz37_0); (try clear hcz37_1); (try clear hcz37_2); (try clear hcz48_0); (try clear hcz48_1); (try clear hcz48_2); (try clear hcz51_0); (try clear hcz51_1); (try clear hcz51_2); (try clear hcz59_0); (try clear hcz59_1); (try clear hcz59_2); (try clear hcz62_0); (try clear hcz62_1); (try clear hcz62_2); (try clear hcz66_0); (try clear hcz66_1); (try clear hcz66_2); (try clear hcz69_0); (try clear hcz69_1); (try clear hcz69_2); (try clear hfz15_0); (try clear hfz15_1); (try clear hfz15_2); (try clear hfz22_0); (try clear hfz22_1); (try clear hfz22_2); (try clear hfz25_0); (try clear hfz25_1); (try clear hfz25_2); (try clear hfz34_0); (try clear hfz34_1); (try clear hfz34_2); (try clear hfz37_0); (try clear hfz37_1); (try clear hfz37_2); (try clear hfz48_0); (try clear hfz48_1); (try clear hfz48_2); (try clear hfz51_0); (try clear hfz51_1); (try clear hfz51_2); (try clear hfz59_0); (try clear hfz59_1); (try clear hfz59_2); (try clear hfz62_0); (try clear hfz62_1); (try clear hfz62_2); (try clear hfz66_0); (try clear hfz66_1); (try clear hfz66_2); (try clear hfz69_0); (try clear hfz69_1); (try clear hfz69_2); (try clear p2)
    obtain ⟨kq, x7_11, HA, HJ11, HO_7, HO_436001, BK435, HB⟩ := hcut
    cases kq with
    | zero => exact absurd HA.out (by simp [tenorref2_Print.j1])
    | succ kj11 =>
      have H := HA.out
      clear HA
      simp only [tenorref2_Print.j1] at H
      replace H := Option.bind_eq_some_iff.mp H
      obtain ⟨t467, A720, H⟩ := H
      replace H : (tenorref2_Print.l0 kj11 a0 a1 t467) = some (r1, r2) := H
      have A72 := Aside0.mk A720
      clear A720
      have H' := Aside0.mk H
      clear H
      obtain ⟨Ao73, co73, eo73⟩ := Kd.R_slice HO_7.out
      subst eo73
      go_wp2_with (first | ((with_reducible refine gate_callee (f := 41) rfl ?_); refine goesL_ (some 70) rfl rfl Tryz.func41 (by kernel_rfl) rfl #[.slice Ao73 x7_11.length co73] rfl (by (try simp only [List.map_toArray, List.map_cons, List.map_nil]); first | done | rfl | (simp only [List.length_drop, List.length_take]; rfl)) ?_; (with_reducible refine (tenorref2_Decimal.calls kj11 (fun k_ => some k_ = (.slice Ao73 x7_11.length co73 : Value).ownBlock) _ _ x7_11 t467 _ ?side1 A72.out).mono ?_); (case side1 => exact Kd.R_V (Kd.R_tight rfl (Kd.R_types (HO_7.out) BK435.out (by decide)))); rintro e w74 ⟨rfl, hb⟩; refine ⟨_, rfl, ?_⟩; have n0_ := Aside0.mk (Kd.R_below (by (with_reducible repeat (first | apply Kd.R_alloc | apply Kd.R_drewN | apply Kd.R_drew)); exact HO_7.out) hb); have n1_ := Aside0.mk (Kd.R_below (by (with_reducible repeat (first | apply Kd.R_alloc | apply Kd.R_drewN | apply Kd.R_drew)); exact HO_436001.out) hb); have n2_ := Aside0.mk (blk_below (g := gb435) (o := .cells #[.bool t430, .slice Ao16 t431.length co16, .int .i64 t434] 61 (0, 0)) (by (with_reducible repeat (first | refine blk_drewN ?_ _ | refine blk_drew ?_ | refine blk_alloc ?_ _)); exact BK435.out) hb); have n3_ := Aside0.mk (below_step (by repeat (first | (with_reducible first | exact HB.out | apply below_alloc | apply pw_below_drewN | apply below_drew1 | refine below_set ?_ GE435.out) | exact HB.out)) hb); clear HO_7; clear HO_436001; clear BK435; clear HB; have HO_7 := n0_; have HO_436001 := n1_; have BK435 := n2_; have HB := n3_; clear n0_ n1_ n2_ n3_; (try clear hb); (try clear hb2); (try clear hk); (try clear hi)))
      go_loopg [12] kj11 (fun kq v12 w' => ∃ (x12_3 : ByteArray), v12 = .string x12_3 ∧ Aside0 (tenorref2_Print.l0 kq a0 a1 x12_3 = some (r1, r2)) ∧ Aside0 (kq ≤ kj11) ∧ Aside0 (Kd.R (Kd.int .u64) 26 w' w.heap.size (fun _ => True) (.slice Ao16 t431.length co16) t431) ∧ Aside0 (w'.heap[gb435]? = some (.cells #[.bool t430, (.slice Ao16 t431.length co16), .int .i64 t434] 61 (0, 0))) ∧ Aside0 (Below w.heap.size w w'))
      case atStart => exact ⟨(t467), (by first | rfl | (simp; done) | (simp [*]; done)), H', ⟨Nat.le_refl _⟩, ⟨by (with_reducible repeat (first | apply Kd.R_alloc | apply Kd.R_drewN | apply Kd.R_drew)); exact Kd.R_mono HO_436001.out (fun _ hk => trivial)⟩, ⟨by (with_reducible repeat (first | refine blk_drewN ?_ _ | refine blk_drew ?_ | refine blk_alloc ?_ _)); exact BK435.out⟩, ⟨by repeat (first | (with_reducible first | exact HB.out | apply below_alloc | apply pw_below_drewN | apply below_drew1 | refine below_set ?_ GE435.out) | exact HB.out)⟩⟩
      case round =>
        clear H'
        (try clear c1); (try clear c2); (try clear p2); (try clear c3); (try clear c4); (try clear c5); (try clear c6); (try clear c6b0); (try clear p6); (try clear c7); (try clear c15); (try clear c23); (try clear c23b0); (try clear c31); (try clear c32); (try clear c33); (try clear c34); (try clear c35); (try clear c36); (try clear c37); (try clear c38); (try clear c39); (try clear c40); (try clear c41); (try clear c46); (try clear p64); (try clear hcz15_0); (try clear hcz15_1); (try clear hcz15_2); (try clear hcz22_0); (try clear hcz22_1); (try clear hcz22_2); (try clear hcz25_0); (try clear hcz25_1); (try clear hcz25_2); (try clear hcz34_0); (try clear hcz34_1); (try clear hcz34_2); (try clear hcz37_0); (try clear hcz37_1); (try clear hcz37_2); (try clear hcz48_0); (try clear hcz48_1); (try clear hcz48_2); (try clear hcz51_0); (try clear hcz51_1); (try clear hcz51_2); (try clear hcz59_0); (try clear hcz59_1); (try clear hcz59_2); (try clear hcz62_0); (try clear hcz62_1); (try clear hcz62_2); (try clear hcz66_0); (try clear hcz66_1); (try clear hcz66_2); (try clear hcz69_0); (try clear hcz69_1); (try clear hcz69_2); (try clear hfz15_0); (try clear hfz15_1); (try clear hfz15_2); (try clear hfz22_0); (try clear hfz22_1); (try clear hfz22_2); (try clear hfz25_0); (try clear hfz25_1); (try clear hfz25_2); (try clear hfz34_0); (try clear hfz34_1); (try clear hfz34_2); (try clear hfz37_0); (try clear hfz37_1); (try clear hfz37_2); (try clear hfz48_0); (try clear hfz48_1); (try clear hfz48_2); (try clear hfz51_0); (try clear hfz51_1); (try clear hfz51_2); (try clear hfz59_0); (try clear hfz59_1); (try clear hfz59_2); (try clear hfz62_0); (try clear hfz62_1); (try clear hfz62_2); (try clear hfz66_0); (try clear hfz66_1); (try clear hfz66_2); (try clear hfz69_0); (try clear hfz69_1); (try clear hfz69_2); (try clear p2); (try clear p6); (try clear p64)
        obtain ⟨x12_3, rfl, HA, HK3, HO_436001, BK435, HB⟩ := hrel
        cases gk with
        | zero => exact absurd HA.out (by simp [tenorref2_Print.l0])
        | succ k3 =>
          have H := HA.out
          clear HA
          simp only [tenorref2_Print.l0] at H
          by_cases c75 : (x12_3.size : Int) ≤ a1
          · rw [if_pos c75] at H
            have c75b0 : decide ((x12_3.size : Int) ≤ a1) = true := decide_eq_true c75
            clear c75
            by_cases c76 : 1 + x12_3.size ≤ 9223372036854775807
            · rw [if_pos c76] at H
              have c76b0 := eq_true c76
              have c76b1 : decide (1 + x12_3.size ≤ 9223372036854775807) = true := decide_eq_true c76
              try have c76b2 : (9223372036854775807 < 1 + x12_3.size) = False := eq_false (Nat.not_lt.2 c76)
              have H' := Aside0.mk H
              clear H
              go_wp2
              go_roundg k3
              case measure => have := HJ2.out; have := HJ11.out; have := HK3.out; omega
              case rel => exact ⟨((⟨#[48]⟩ : ByteArray) ++ x12_3), (by first | rfl | (simp; done) | (simp [*]; done)), H', ⟨by have := HJ2.out; have := HJ11.out; have := HK3.out; omega⟩, ⟨by (with_reducible repeat (first | apply Kd.R_alloc | apply Kd.R_drewN | apply Kd.R_drew)); exact HO_436001.out⟩, ⟨by (with_reducible repeat (first | refine blk_drewN ?_ _ | refine blk_drew ?_ | refine blk_alloc ?_ _)); exact BK435.out⟩, ⟨by repeat (first | (with_reducible first | exact HB.out | apply below_alloc | apply pw_below_drewN | apply below_drew1 | refine below_set ?_ GE435.out) | exact HB.out)⟩⟩
            rw [if_neg c76] at H
            exact absurd H (by simp)
          rw [if_neg c75] at H
          have c75b0 : decide ((x12_3.size : Int) ≤ a1) = false := decide_eq_false c75
          clear c75
          by_cases c77 : a1 > 0
          · rw [if_pos c77] at H
            have c77b0 : decide (0 < a1) = true := decide_eq_true c77
            clear c77
            obtain ⟨ji78, hji78⟩ : ∃ j_ : Int, (wrap64 ((x12_3.size : Int) - a1)) = j_ := ⟨_, rfl⟩
            replace H : (if 0 ≤ (ji78) then (if (ji78) ≤ (x12_3.size : Int) then (if (x12_3.extract 0 ((ji78) : Int).toNat).size + 1 ≤ 9223372036854775807 then (if ((x12_3.extract 0 ((ji78) : Int).toNat) ++ (⟨#[46]⟩ : ByteArray)).size + (x12_3.extract ((ji78) : Int).toNat x12_3.size).size ≤ 9223372036854775807 then ((tenorref1_Negative.f a0).bind fun t468 => (if t468 = true then (if 1 + (((x12_3.extract 0 ((ji78) : Int).toNat) ++ (⟨#[46]⟩ : ByteArray)) ++ (x12_3.extract ((ji78) : Int).toNat x12_3.size)).size ≤ 9223372036854775807 then (some ((⟨#[45]⟩ : ByteArray) ++ (((x12_3.extract 0 ((ji78) : Int).toNat) ++ (⟨#[46]⟩ : ByteArray)) ++ (x12_3.extract ((ji78) : Int).toNat x12_3.size)), 0)) else (none)) else (some (((x12_3.extract 0 ((ji78) : Int).toNat) ++ (⟨#[46]⟩ : ByteArray)) ++ (x12_3.extract ((ji78) : Int).toNat x12_3.size), 0)))) else (none)) else (none)) else (none)) else (none)) = some (r1, r2) := by first | (rw [hji78] at H; exact H) | (simp only [hji78] at H ⊢; exact H)
            have hji78w : (IntKind.i64.wrap ((x12_3.size : Int) - a1)) = ji78 := (i64_w _).trans hji78
            by_cases c79 : 0 ≤ (ji78)
            · rw [if_pos c79] at H
              have c79b0 := eq_true c79
              have c79b1 : decide (0 ≤ (ji78)) = true := decide_eq_true c79
              clear c79
              by_cases c80 : (ji78) ≤ (x12_3.size : Int)
              · rw [if_pos c80] at H
                have c80b0 := eq_true c80
                have c80b1 : decide ((ji78) ≤ (x12_3.size : Int)) = true := decide_eq_true c80
                clear c80
                by_cases c81 : (x12_3.extract 0 ((ji78) : Int).toNat).size + 1 ≤ 9223372036854775807
                · rw [if_pos c81] at H
                  have c81b0 := eq_true c81
                  have c81b1 : decide ((x12_3.extract 0 ((ji78) : Int).toNat).size + 1 ≤ 9223372036854775807) = true := decide_eq_true c81
                  try have c81b2 : (9223372036854775807 < (x12_3.extract 0 ((ji78) : Int).toNat).size + 1) = False := eq_false (Nat.not_lt.2 c81)
                  have c80n := of_decide_eq_true c80b1
                  have hs1 : (x12_3.extract 0 (ji78 : Int).toNat).size = ji78.toNat := by rw [ByteArray.size_extract]; omega
                  have c81b3 : (9223372036854775807 < ji78.toNat + 1) = False := eq_false (by have h_ := c81; rw [hs1] at h_; omega)
                  have c82b0 := eq_true (of_decide_eq_true (by first | (with_reducible assumption) | assumption) : 0 ≤ (ji78))
                  have c83b0 := eq_true (of_decide_eq_true (by first | (with_reducible assumption) | assumption) : (ji78) ≤ (x12_3.size : Int))
                  by_cases c84 : ((x12_3.extract 0 ((ji78) : Int).toNat) ++ (⟨#[46]⟩ : ByteArray)).size + (x12_3.extract ((ji78) : Int).toNat x12_3.size).size ≤ 9223372036854775807
                  · rw [if_pos c84] at H
                    have c84b0 := eq_true c84
                    have c84b1 : decide (((x12_3.extract 0 ((ji78) : Int).toNat) ++ (⟨#[46]⟩ : ByteArray)).size + (x12_3.extract ((ji78) : Int).toNat x12_3.size).size ≤ 9223372036854775807) = true := decide_eq_true c84
                    try have c84b2 : (9223372036854775807 < ((x12_3.extract 0 ((ji78) : Int).toNat) ++ (⟨#[46]⟩ : ByteArray)).size + (x12_3.extract ((ji78) : Int).toNat x12_3.size).size) = False := eq_false (Nat.not_lt.2 c84)
                    have hs2 : (x12_3.extract (ji78 : Int).toNat x12_3.size).size = x12_3.size - ji78.toNat := by rw [ByteArray.size_extract]; omega
                    have hs3 : ((x12_3.extract 0 (ji78 : Int).toNat) ++ (⟨#[46]⟩ : ByteArray)).size = ji78.toNat + 1 := by rw [ByteArray.size_append, hs1]; rfl
                    have c84b3 : (9223372036854775807 < ji78.toNat + 1 + (x12_3.size - ji78.toNat)) = False := eq_false (by have h_ := c84; rw [hs2, hs3] at h_; omega)
                    replace H := Option.bind_eq_some_iff.mp H
                    obtain ⟨t468, A850, H⟩ := H
                    replace H : (if t468 = true then (if 1 + (((x12_3.extract 0 ((ji78) : Int).toNat) ++ (⟨#[46]⟩ : ByteArray)) ++ (x12_3.extract ((ji78) : Int).toNat x12_3.size)).size ≤ 9223372036854775807 then (some ((⟨#[45]⟩ : ByteArray) ++ (((x12_3.extract 0 ((ji78) : Int).toNat) ++ (⟨#[46]⟩ : ByteArray)) ++ (x12_3.extract ((ji78) : Int).toNat x12_3.size)), 0)) else (none)) else (some (((x12_3.extract 0 ((ji78) : Int).toNat) ++ (⟨#[46]⟩ : ByteArray)) ++ (x12_3.extract ((ji78) : Int).toNat x12_3.size), 0))) = some (r1, r2) := H
                    have A85 := Aside0.mk A850
                    clear A850
                    by_cases c86 : t468 = true
                    · subst c86
                      have H1 : (if 1 + (((x12_3.extract 0 ((ji78) : Int).toNat) ++ (⟨#[46]⟩ : ByteArray)) ++ (x12_3.extract ((ji78) : Int).toNat x12_3.size)).size ≤ 9223372036854775807 then (some ((⟨#[45]⟩ : ByteArray) ++ (((x12_3.extract 0 ((ji78) : Int).toNat) ++ (⟨#[46]⟩ : ByteArray)) ++ (x12_3.extract ((ji78) : Int).toNat x12_3.size)), 0)) else (none)) = some (r1, r2) := by rw [if_pos rfl] at H; exact H
                      clear H
                      have H := H1
                      clear H1
                      by_cases c87 : 1 + (((x12_3.extract 0 ((ji78) : Int).toNat) ++ (⟨#[46]⟩ : ByteArray)) ++ (x12_3.extract ((ji78) : Int).toNat x12_3.size)).size ≤ 9223372036854775807
                      · rw [if_pos c87] at H
                        have c87b0 := eq_true c87
                        have c87b1 : decide (1 + (((x12_3.extract 0 ((ji78) : Int).toNat) ++ (⟨#[46]⟩ : ByteArray)) ++ (x12_3.extract ((ji78) : Int).toNat x12_3.size)).size ≤ 9223372036854775807) = true := decide_eq_true c87
                        try have c87b2 : (9223372036854775807 < 1 + (((x12_3.extract 0 ((ji78) : Int).toNat) ++ (⟨#[46]⟩ : ByteArray)) ++ (x12_3.extract ((ji78) : Int).toNat x12_3.size)).size) = False := eq_false (Nat.not_lt.2 c87)
                        have c87b3 : (9223372036854775807 < 1 + (ji78.toNat + 1 + (x12_3.size - ji78.toNat))) = False := eq_false (by have h_ := c87; rw [ByteArray.size_append, hs2, hs3] at h_; omega)
                        simp only [Option.some.injEq, Prod.mk.injEq] at H
                        obtain ⟨rfl, rfl⟩ := H
                        try go_wp2
                        have n0_ := Aside0.mk (Kd.R_drew HO_436001.out)
                        have n1_ := Aside0.mk (blk_drew BK435.out)
                        have n2_ := Aside0.mk (below_drew1 HB.out)
                        clear HO_436001
                        clear BK435
                        clear HB
                        have HO_436001 := n0_
                        have BK435 := n1_
                        have HB := n2_
                        clear n0_ n1_ n2_
                        refine start_ (n := 15) (S := fun w' => True) (ds := []) #[false, false, false, false, false, false, false, false, false, false, false, false, false, false, false] (by kernel_rfl) rfl rfl trivial (fun hHeld => ?_); refine with_tabW tenorref2_Print.tab16 tenorref2_Print.bits16 (fun HT_ HW_ => ?_)
                        generalize wr.drew = w88 at HO_436001 BK435 HB hHeld ⊢
                        refine pure_ (i := 0) (N := some 79) (v := ?_) (a' := ?_) #[true, false, false, false, false, false, false, false, false, false, false, false, false, false, false] rfl rfl (any_of HT_.out (by kernel_rfl)) (fun _ _ _ h => h) (Or.inl ⟨by rfl, ?_⟩) ?_ ?_
                        rotate_left
                        · intro w'
                          go_simp
                          with_reducible rfl
                        rotate_left
                        · simp only [Act.put, List.setIfInBounds_toArray, List.set_cons_zero, List.set_cons_succ, i64_w, i32_w]
                          rfl
                        refine pure_ (i := 1) (N := some 80) (v := ?_) (a' := ?_) #[true, true, false, false, false, false, false, false, false, false, false, false, false, false, false] rfl rfl (any_of HT_.out (by kernel_rfl)) (fun _ _ _ h => h) (Or.inl ⟨by rfl, ?_⟩) ?_ ?_
                        rotate_left
                        · intro w'
                          go_simp
                          with_reducible rfl
                        rotate_left
                        · simp only [Act.put, List.setIfInBounds_toArray, List.set_cons_zero, List.set_cons_succ, i64_w, i32_w]
                          rfl
                        refine pure_ (i := 2) (N := some 81) (v := ?_) (a' := ?_) #[true, true, true, false, false, false, false, false, false, false, false, false, false, false, false] rfl rfl (any_of HT_.out (by kernel_rfl)) (fun _ _ _ h => h) (Or.inl ⟨by rfl, ?_⟩) ?_ ?_
                        rotate_left
                        · intro w'
                          go_simp
                          with_reducible rfl
                        rotate_left
                        · simp only [Act.put, List.setIfInBounds_toArray, List.set_cons_zero, List.set_cons_succ, i64_w, i32_w]
                          rfl
                        refine pure_ (i := 3) (N := some 82) (v := ?_) (a' := ?_) #[true, true, true, true, false, false, false, false, false, false, false, false, false, false, false] rfl rfl (any_of HT_.out (by kernel_rfl)) (fun _ _ _ h => h) (Or.inl ⟨by rfl, ?_⟩) ?_ ?_
                        rotate_left
                        · intro w'
                          go_simp
                          with_reducible rfl
                        rotate_left
                        · simp only [Act.put, List.setIfInBounds_toArray, List.set_cons_zero, List.set_cons_succ, i64_w, i32_w]
                          rfl
                        refine pure_ (i := 4) (N := some 83) (v := ?_) (a' := ?_) #[true, true, true, true, true, false, false, false, false, false, false, false, false, false, false] rfl rfl (any_of HT_.out (by kernel_rfl)) (fun _ _ _ h => h) (Or.inl ⟨by rfl, ?_⟩) ?_ ?_
                        rotate_left
                        · intro w'
                          go_simp
                          with_reducible rfl
                        rotate_left
                        · simp only [Act.put, List.setIfInBounds_toArray, List.set_cons_zero, List.set_cons_succ, i64_w, i32_w]
                          rfl
                        refine pure_ (i := 5) (N := some 84) (v := ?_) (a' := ?_) #[true, true, true, true, true, true, false, false, false, false, false, false, false, false, false] rfl rfl (any_of HT_.out (by kernel_rfl)) (fun _ _ _ h => h) (Or.inl ⟨by rfl, ?_⟩) ?_ ?_
                        rotate_left
                        · intro w'
                          go_simp
                          with_reducible rfl
                        rotate_left
                        · simp only [Act.put, List.setIfInBounds_toArray, List.set_cons_zero, List.set_cons_succ, i64_w, i32_w]
                          rfl
                        refine pure_ (i := 6) (N := some 85) (v := ?_) (a' := ?_) #[true, true, true, true, true, true, true, false, false, false, false, false, false, false, false] rfl rfl (any_of HT_.out (by kernel_rfl)) (fun _ _ _ h => h) (Or.inl ⟨by rfl, ?_⟩) ?_ ?_
                        rotate_left
                        · intro w'
                          go_simp
                          with_reducible rfl
                        rotate_left
                        · simp only [Act.put, List.setIfInBounds_toArray, List.set_cons_zero, List.set_cons_succ, i64_w, i32_w]
                          rfl
                        refine pure_ (i := 7) (N := some 86) (v := ?_) (a' := ?_) #[true, true, true, true, true, true, true, true, false, false, false, false, false, false, false] rfl rfl (any_of HT_.out (by kernel_rfl)) (fun _ _ _ h => h) (Or.inl ⟨by rfl, ?_⟩) ?_ ?_
                        rotate_left
                        · intro w'
                          go_simp
                          with_reducible rfl
                        rotate_left
                        · simp only [Act.put, List.setIfInBounds_toArray, List.set_cons_zero, List.set_cons_succ, i64_w, i32_w]
                          rfl
                        refine pure_ (i := 8) (N := some 87) (v := ?_) (a' := ?_) #[true, true, true, true, true, true, true, true, true, false, false, false, false, false, false] rfl rfl (any_of HT_.out (by kernel_rfl)) (fun _ _ _ h => h) (Or.inl ⟨by rfl, ?_⟩) ?_ ?_
                        rotate_left
                        · intro w'
                          go_simp
                          with_reducible rfl
                        rotate_left
                        · simp only [Act.put, List.setIfInBounds_toArray, List.set_cons_zero, List.set_cons_succ, i64_w, i32_w]
                          rfl
                        refine pure_ (i := 9) (N := some 88) (v := ?_) (a' := ?_) #[true, true, true, true, true, true, true, true, true, true, false, false, false, false, false] rfl rfl (any_of HT_.out (by kernel_rfl)) (fun _ _ _ h => h) (Or.inl ⟨by rfl, ?_⟩) ?_ ?_
                        rotate_left
                        · intro w'
                          go_simp
                          with_reducible rfl
                        rotate_left
                        · simp only [Act.put, List.setIfInBounds_toArray, List.set_cons_zero, List.set_cons_succ, i64_w, i32_w]
                          rfl
                        refine pure_ (i := 10) (N := some 89) (v := ?_) (a' := ?_) #[true, true, true, true, true, true, true, true, true, true, true, false, false, false, false] rfl rfl (any_of HT_.out (by kernel_rfl)) (fun _ _ _ h => h) (Or.inl ⟨by rfl, ?_⟩) ?_ ?_
                        rotate_left
                        · intro w'
                          go_simp
                          with_reducible rfl
                        rotate_left
                        · simp only [Act.put, List.setIfInBounds_toArray, List.set_cons_zero, List.set_cons_succ, i64_w, i32_w]
                          rfl
                        refine pure_ (i := 11) (N := some 90) (v := ?_) (a' := ?_) #[true, true, true, true, true, true, true, true, true, true, true, true, false, false, false] rfl rfl (any_of HT_.out (by kernel_rfl)) (fun _ _ _ h => h) (Or.inl ⟨by rfl, ?_⟩) ?_ ?_
                        rotate_left
                        · intro w'
                          go_simp
                          with_reducible rfl
                        rotate_left
                        · simp only [Act.put, List.setIfInBounds_toArray, List.set_cons_zero, List.set_cons_succ, i64_w, i32_w]
                          rfl
                        refine pure_ (i := 12) (N := some 91) (v := ?_) (a' := ?_) #[true, true, true, true, true, true, true, true, true, true, true, true, true, false, false] rfl rfl (any_of HT_.out (by kernel_rfl)) (fun _ _ _ h => h) (Or.inl ⟨by rfl, ?_⟩) ?_ ?_
                        rotate_left
                        · intro w'
                          go_simp
                          with_reducible rfl
                        rotate_left
                        · simp only [Act.put, List.setIfInBounds_toArray, List.set_cons_zero, List.set_cons_succ, i64_w, i32_w]
                          rfl
                        refine pure_ (i := 13) (N := some 92) (v := ?_) (a' := ?_) #[true, true, true, true, true, true, true, true, true, true, true, true, true, true, false] rfl rfl (any_of HT_.out (by kernel_rfl)) (fun _ _ _ h => h) (Or.inl ⟨by rfl, ?_⟩) ?_ ?_
                        rotate_left
                        · intro w'
                          go_simp
                          with_reducible rfl
                        rotate_left
                        · simp only [Act.put, List.setIfInBounds_toArray, List.set_cons_zero, List.set_cons_succ, i64_w, i32_w]
                          rfl
                        refine pure_ (i := 14) (N := some 12) (v := ?_) (a' := ?_) #[true, true, true, true, true, true, true, true, true, true, true, true, true, true, true] rfl rfl (any_of HT_.out (by kernel_rfl)) (fun _ _ _ h => h) (Or.inl ⟨by rfl, ?_⟩) ?_ ?_
                        rotate_left
                        · intro w'
                          go_simp
                          with_reducible rfl
                        rotate_left
                        · simp only [Act.put, List.setIfInBounds_toArray, List.set_cons_zero, List.set_cons_succ, i64_w, i32_w]
                          rfl
                        refine done_ (done_of HT_.out (by kernel_rfl)) ?_
                        try go_wp2_with (first | ((with_reducible refine gate_callee (f := 42) rfl ?_); refine goesL_ (some 94) rfl rfl Tryz.func42 (by kernel_rfl) rfl #[.int .u64 a0] rfl (by (try simp only [List.map_toArray, List.map_cons, List.map_nil]); first | done | rfl | (simp only [List.length_drop, List.length_take]; rfl)) ?_; (with_reducible refine (tenorref1_Negative.calls a0 true _ A85.out).mono ?_); rintro e w' ⟨rfl, ⟨nd, rfl⟩⟩; refine ⟨_, rfl, ?_⟩))
                        go_ret2
                        exact ⟨by first | rfl | (simp [errW_none, errW_some] <;> rfl) | (simp only [← hji78]; first | rfl | (simp [errW_none, errW_some] <;> rfl)) | (simp [*, errW_none, errW_some] <;> rfl), by repeat (first | (with_reducible first | exact HB.out | apply below_alloc | apply pw_below_drewN | apply below_drew1 | refine below_set ?_ GE435.out) | exact HB.out)⟩
                      rw [if_neg c87] at H
                      exact absurd H (by simp)
                    replace c86 := Bool.eq_false_iff.mpr c86
                    subst c86
                    have H1 : (some (((x12_3.extract 0 ((ji78) : Int).toNat) ++ (⟨#[46]⟩ : ByteArray)) ++ (x12_3.extract ((ji78) : Int).toNat x12_3.size), 0)) = some (r1, r2) := by rw [if_neg (show ¬ (false = true) by decide)] at H; exact H
                    clear H
                    have H := H1
                    clear H1
                    simp only [Option.some.injEq, Prod.mk.injEq] at H
                    obtain ⟨rfl, rfl⟩ := H
                    try go_wp2
                    have n0_ := Aside0.mk (Kd.R_drew HO_436001.out)
                    have n1_ := Aside0.mk (blk_drew BK435.out)
                    have n2_ := Aside0.mk (below_drew1 HB.out)
                    clear HO_436001
                    clear BK435
                    clear HB
                    have HO_436001 := n0_
                    have BK435 := n1_
                    have HB := n2_
                    clear n0_ n1_ n2_
                    refine start_ (n := 15) (S := fun w' => True) (ds := []) #[false, false, false, false, false, false, false, false, false, false, false, false, false, false, false] (by kernel_rfl) rfl rfl trivial (fun hHeld => ?_); refine with_tabW tenorref2_Print.tab16 tenorref2_Print.bits16 (fun HT_ HW_ => ?_)
                    generalize wr.drew = w89 at HO_436001 BK435 HB hHeld ⊢
                    refine pure_ (i := 0) (N := some 79) (v := ?_) (a' := ?_) #[true, false, false, false, false, false, false, false, false, false, false, false, false, false, false] rfl rfl (any_of HT_.out (by kernel_rfl)) (fun _ _ _ h => h) (Or.inl ⟨by rfl, ?_⟩) ?_ ?_
                    rotate_left
                    · intro w'
                      go_simp
                      with_reducible rfl
                    rotate_left
                    · simp only [Act.put, List.setIfInBounds_toArray, List.set_cons_zero, List.set_cons_succ, i64_w, i32_w]
                      rfl
                    refine pure_ (i := 1) (N := some 80) (v := ?_) (a' := ?_) #[true, true, false, false, false, false, false, false, false, false, false, false, false, false, false] rfl rfl (any_of HT_.out (by kernel_rfl)) (fun _ _ _ h => h) (Or.inl ⟨by rfl, ?_⟩) ?_ ?_
                    rotate_left
                    · intro w'
                      go_simp
                      with_reducible rfl
                    rotate_left
                    · simp only [Act.put, List.setIfInBounds_toArray, List.set_cons_zero, List.set_cons_succ, i64_w, i32_w]
                      rfl
                    refine pure_ (i := 2) (N := some 81) (v := ?_) (a' := ?_) #[true, true, true, false, false, false, false, false, false, false, false, false, false, false, false] rfl rfl (any_of HT_.out (by kernel_rfl)) (fun _ _ _ h => h) (Or.inl ⟨by rfl, ?_⟩) ?_ ?_
                    rotate_left
                    · intro w'
                      go_simp
                      with_reducible rfl
                    rotate_left
                    · simp only [Act.put, List.setIfInBounds_toArray, List.set_cons_zero, List.set_cons_succ, i64_w, i32_w]
                      rfl
                    refine pure_ (i := 3) (N := some 82) (v := ?_) (a' := ?_) #[true, true, true, true, false, false, false, false, false, false, false, false, false, false, false] rfl rfl (any_of HT_.out (by kernel_rfl)) (fun _ _ _ h => h) (Or.inl ⟨by rfl, ?_⟩) ?_ ?_
                    rotate_left
                    · intro w'
                      go_simp
                      with_reducible rfl
                    rotate_left
                    · simp only [Act.put, List.setIfInBounds_toArray, List.set_cons_zero, List.set_cons_succ, i64_w, i32_w]
                      rfl
                    refine pure_ (i := 4) (N := some 83) (v := ?_) (a' := ?_) #[true, true, true, true, true, false, false, false, false, false, false, false, false, false, false] rfl rfl (any_of HT_.out (by kernel_rfl)) (fun _ _ _ h => h) (Or.inl ⟨by rfl, ?_⟩) ?_ ?_
                    rotate_left
                    · intro w'
                      go_simp
                      with_reducible rfl
                    rotate_left
                    · simp only [Act.put, List.setIfInBounds_toArray, List.set_cons_zero, List.set_cons_succ, i64_w, i32_w]
                      rfl
                    refine pure_ (i := 5) (N := some 84) (v := ?_) (a' := ?_) #[true, true, true, true, true, true, false, false, false, false, false, false, false, false, false] rfl rfl (any_of HT_.out (by kernel_rfl)) (fun _ _ _ h => h) (Or.inl ⟨by rfl, ?_⟩) ?_ ?_
                    rotate_left
                    · intro w'
                      go_simp
                      with_reducible rfl
                    rotate_left
                    · simp only [Act.put, List.setIfInBounds_toArray, List.set_cons_zero, List.set_cons_succ, i64_w, i32_w]
                      rfl
                    refine pure_ (i := 6) (N := some 85) (v := ?_) (a' := ?_) #[true, true, true, true, true, true, true, false, false, false, false, false, false, false, false] rfl rfl (any_of HT_.out (by kernel_rfl)) (fun _ _ _ h => h) (Or.inl ⟨by rfl, ?_⟩) ?_ ?_
                    rotate_left
                    · intro w'
                      go_simp
                      with_reducible rfl
                    rotate_left
                    · simp only [Act.put, List.setIfInBounds_toArray, List.set_cons_zero, List.set_cons_succ, i64_w, i32_w]
                      rfl
                    refine pure_ (i := 7) (N := some 86) (v := ?_) (a' := ?_) #[true, true, true, true, true, true, true, true, false, false, false, false, false, false, false] rfl rfl (any_of HT_.out (by kernel_rfl)) (fun _ _ _ h => h) (Or.inl ⟨by rfl, ?_⟩) ?_ ?_
                    rotate_left
                    · intro w'
                      go_simp
                      with_reducible rfl
                    rotate_left
                    · simp only [Act.put, List.setIfInBounds_toArray, List.set_cons_zero, List.set_cons_succ, i64_w, i32_w]
                      rfl
                    refine pure_ (i := 8) (N := some 87) (v := ?_) (a' := ?_) #[true, true, true, true, true, true, true, true, true, false, false, false, false, false, false] rfl rfl (any_of HT_.out (by kernel_rfl)) (fun _ _ _ h => h) (Or.inl ⟨by rfl, ?_⟩) ?_ ?_
                    rotate_left
                    · intro w'
                      go_simp
                      with_reducible rfl
                    rotate_left
                    · simp only [Act.put, List.setIfInBounds_toArray, List.set_cons_zero, List.set_cons_succ, i64_w, i32_w]
                      rfl
                    refine pure_ (i := 9) (N := some 88) (v := ?_) (a' := ?_) #[true, true, true, true, true, true, true, true, true, true, false, false, false, false, false] rfl rfl (any_of HT_.out (by kernel_rfl)) (fun _ _ _ h => h) (Or.inl ⟨by rfl, ?_⟩) ?_ ?_
                    rotate_left
                    · intro w'
                      go_simp
                      with_reducible rfl
                    rotate_left
                    · simp only [Act.put, List.setIfInBounds_toArray, List.set_cons_zero, List.set_cons_succ, i64_w, i32_w]
                      rfl
                    refine pure_ (i := 10) (N := some 89) (v := ?_) (a' := ?_) #[true, true, true, true, true, true, true, true, true, true, true, false, false, false, false] rfl rfl (any_of HT_.out (by kernel_rfl)) (fun _ _ _ h => h) (Or.inl ⟨by rfl, ?_⟩) ?_ ?_
                    rotate_left
                    · intro w'
                      go_simp
                      with_reducible rfl
                    rotate_left
                    · simp only [Act.put, List.setIfInBounds_toArray, List.set_cons_zero, List.set_cons_succ, i64_w, i32_w]
                      rfl
                    refine pure_ (i := 11) (N := some 90) (v := ?_) (a' := ?_) #[true, true, true, true, true, true, true, true, true, true, true, true, false, false, false] rfl rfl (any_of HT_.out (by kernel_rfl)) (fun _ _ _ h => h) (Or.inl ⟨by rfl, ?_⟩) ?_ ?_
                    rotate_left
                    · intro w'
                      go_simp
                      with_reducible rfl
                    rotate_left
                    · simp only [Act.put, List.setIfInBounds_toArray, List.set_cons_zero, List.set_cons_succ, i64_w, i32_w]
                      rfl
                    refine pure_ (i := 12) (N := some 91) (v := ?_) (a' := ?_) #[true, true, true, true, true, true, true, true, true, true, true, true, true, false, false] rfl rfl (any_of HT_.out (by kernel_rfl)) (fun _ _ _ h => h) (Or.inl ⟨by rfl, ?_⟩) ?_ ?_
                    rotate_left
                    · intro w'
                      go_simp
                      with_reducible rfl
                    rotate_left
                    · simp only [Act.put, List.setIfInBounds_toArray, List.set_cons_zero, List.set_cons_succ, i64_w, i32_w]
                      rfl
                    refine pure_ (i := 13) (N := some 92) (v := ?_) (a' := ?_) #[true, true, true, true, true, true, true, true, true, true, true, true, true, true, false] rfl rfl (any_of HT_.out (by kernel_rfl)) (fun _ _ _ h => h) (Or.inl ⟨by rfl, ?_⟩) ?_ ?_
                    rotate_left
                    · intro w'
                      go_simp
                      with_reducible rfl
                    rotate_left
                    · simp only [Act.put, List.setIfInBounds_toArray, List.set_cons_zero, List.set_cons_succ, i64_w, i32_w]
                      rfl
                    refine pure_ (i := 14) (N := some 12) (v := ?_) (a' := ?_) #[true, true, true, true, true, true, true, true, true, true, true, true, true, true, true] rfl rfl (any_of HT_.out (by kernel_rfl)) (fun _ _ _ h => h) (Or.inl ⟨by rfl, ?_⟩) ?_ ?_
                    rotate_left
                    · intro w'
                      go_simp
                      with_reducible rfl
                    rotate_left
                    · simp only [Act.put, List.setIfInBounds_toArray, List.set_cons_zero, List.set_cons_succ, i64_w, i32_w]
                      rfl
                    refine done_ (done_of HT_.out (by kernel_rfl)) ?_
                    try go_wp2_with (first | ((with_reducible refine gate_callee (f := 42) rfl ?_); refine goesL_ (some 94) rfl rfl Tryz.func42 (by kernel_rfl) rfl #[.int .u64 a0] rfl (by (try simp only [List.map_toArray, List.map_cons, List.map_nil]); first | done | rfl | (simp only [List.length_drop, List.length_take]; rfl)) ?_; (with_reducible refine (tenorref1_Negative.calls a0 false _ A85.out).mono ?_); rintro e w' ⟨rfl, ⟨nd, rfl⟩⟩; refine ⟨_, rfl, ?_⟩))
                    go_ret2
                    exact ⟨by first | rfl | (simp [errW_none, errW_some] <;> rfl) | (simp only [← hji78]; first | rfl | (simp [errW_none, errW_some] <;> rfl)) | (simp [*, errW_none, errW_some] <;> rfl), by repeat (first | (with_reducible first | exact HB.out | apply below_alloc | apply pw_below_drewN | apply below_drew1 | refine below_set ?_ GE435.out) | exact HB.out)⟩
                  rw [if_neg c84] at H
                  exact absurd H (by simp)
                rw [if_neg c81] at H
                exact absurd H (by simp)
              rw [if_neg c80] at H
              exact absurd H (by simp)
            rw [if_neg c79] at H
            exact absurd H (by simp)
          rw [if_neg c77] at H
          have c77b0 : decide (0 < a1) = false := decide_eq_false c77
          clear c77
          replace H := Option.bind_eq_some_iff.mp H
          obtain ⟨t469, A900, H⟩ := H
          replace H : (if t469 = true then (if 1 + x12_3.size ≤ 9223372036854775807 then (some ((⟨#[45]⟩ : ByteArray) ++ x12_3, 0)) else (none)) else (some (x12_3, 0))) = some (r1, r2) := H
          have A90 := Aside0.mk A900
          clear A900
          by_cases c91 : t469 = true
          · subst c91
            have H1 : (if 1 + x12_3.size ≤ 9223372036854775807 then (some ((⟨#[45]⟩ : ByteArray) ++ x12_3, 0)) else (none)) = some (r1, r2) := by rw [if_pos rfl] at H; exact H
            clear H
            have H := H1
            clear H1
            by_cases c92 : 1 + x12_3.size ≤ 9223372036854775807
            · rw [if_pos c92] at H
              have c92b0 := eq_true c92
              have c92b1 : decide (1 + x12_3.size ≤ 9223372036854775807) = true := decide_eq_true c92
              try have c92b2 : (9223372036854775807 < 1 + x12_3.size) = False := eq_false (Nat.not_lt.2 c92)
              simp only [Option.some.injEq, Prod.mk.injEq] at H
              obtain ⟨rfl, rfl⟩ := H
              go_wp2_with (first | ((with_reducible refine gate_callee (f := 42) rfl ?_); refine goesL_ (some 94) rfl rfl Tryz.func42 (by kernel_rfl) rfl #[.int .u64 a0] rfl (by (try simp only [List.map_toArray, List.map_cons, List.map_nil]); first | done | rfl | (simp only [List.length_drop, List.length_take]; rfl)) ?_; (with_reducible refine (tenorref1_Negative.calls a0 true _ A90.out).mono ?_); rintro e w' ⟨rfl, ⟨nd, rfl⟩⟩; refine ⟨_, rfl, ?_⟩))
              go_ret2
              exact ⟨by first | rfl | (simp [errW_none, errW_some] <;> rfl) | (simp [*, errW_none, errW_some] <;> rfl), by repeat (first | (with_reducible first | exact HB.out | apply below_alloc | apply pw_below_drewN | apply below_drew1 | refine below_set ?_ GE435.out) | exact HB.out)⟩
            rw [if_neg c92] at H
            exact absurd H (by simp)
          replace c91 := Bool.eq_false_iff.mpr c91
          subst c91
          have H1 : (some (x12_3, 0)) = some (r1, r2) := by rw [if_neg (show ¬ (false = true) by decide)] at H; exact H
          clear H
          have H := H1
          clear H1
          simp only [Option.some.injEq, Prod.mk.injEq] at H
          obtain ⟨rfl, rfl⟩ := H
          go_wp2_with (first | ((with_reducible refine gate_callee (f := 42) rfl ?_); refine goesL_ (some 94) rfl rfl Tryz.func42 (by kernel_rfl) rfl #[.int .u64 a0] rfl (by (try simp only [List.map_toArray, List.map_cons, List.map_nil]); first | done | rfl | (simp only [List.length_drop, List.length_take]; rfl)) ?_; (with_reducible refine (tenorref1_Negative.calls a0 false _ A90.out).mono ?_); rintro e w' ⟨rfl, ⟨nd, rfl⟩⟩; refine ⟨_, rfl, ?_⟩))
          go_ret2
          exact ⟨by first | rfl | (simp [errW_none, errW_some] <;> rfl) | (simp [*, errW_none, errW_some] <;> rfl), by repeat (first | (with_reducible first | exact HB.out | apply below_alloc | apply pw_below_drewN | apply below_drew1 | refine below_set ?_ GE435.out) | exact HB.out)⟩
end Go.Proofs.YtjpiplplohapnaaGreatDoor.PText
