/- Part 7 of the proof: RShDn, BigF. -/
import Derived.Test.YtjpiplplohapnaaGreatDoorPs6
set_option linter.unusedVariables false
set_option linter.unusedSimpArgs false
namespace Go.Proofs.YtjpiplplohapnaaGreatDoor.PText
open Go.RowKit Go.Proofs.YtjpiplplohapnaaGreatDoorW.PrintWords Go.Proofs.YtjpiplplohapnaaGreatDoorW.PrintLast Go.Proofs.YtjpiplplohapnaaGreatDoorW.PrintMore
attribute [local go_sem] z2i z2j z3i z3k z2d z2c z2q z2r
set_option linter.unusedVariables false
set_option linter.unusedSimpArgs false
mutual
def z0a.l0 : Nat → List Int → Int → Bool → Int → Option (List Int × Bool)
  | 0, _, _, _, _ => none
  | k + 1, x0, x1, x6, x7 => if x7 < (wrap64 (Int.tdiv x1 32)) then (if x6 = true then (z0a.l0 k x0 x1 true (wrap64 (x7 + 1))) else (if 0 ≤ x7 then (if x7 < (x0.length : Int) then (z0a.l0 k x0 x1 ((rd x0 x7) != 0) (wrap64 (x7 + 1))) else (none)) else (none))) else (if x6 = true then (z0a.j1 k x0 x1 true) else (if 0 ≤ (wrap64 (Int.tdiv x1 32)) then (if (wrap64 (Int.tdiv x1 32)) < (x0.length : Int) then (if 0 ≤ (Int.tmod x1 32) then (if (shl .u64 1 (Int.tmod x1 32)) = 0 then (none) else (z0a.j1 k x0 x1 ((Int.tmod (rd x0 (wrap64 (Int.tdiv x1 32))) (shl .u64 1 (Int.tmod x1 32))) != 0))) else (none)) else (none)) else (none)))
def z0a.j1 : Nat → List Int → Int → Bool → Option (List Int × Bool)
  | 0, _, _, _ => none
  | k + 1, x0, x1, x6 => if 0 ≤ (wrap64 ((x0.length : Int) - (wrap64 (Int.tdiv x1 32)))) then (if (wrap64 ((x0.length : Int) - (wrap64 (Int.tdiv x1 32))) : Int).toNat ≤ 35184372088832 then (z0a.l1 k x0 x1 x6 (List.replicate (wrap64 ((x0.length : Int) - (wrap64 (Int.tdiv x1 32))) : Int).toNat 0) 0) else (none)) else (none)
def z0a.l1 : Nat → List Int → Int → Bool → List Int → Int → Option (List Int × Bool)
  | 0, _, _, _, _, _ => none
  | k + 1, x0, x1, x6, x8, x9 => if x9 < (x8.length : Int) then (if 0 ≤ (wrap64 (x9 + (wrap64 (Int.tdiv x1 32)))) then (if (wrap64 (x9 + (wrap64 (Int.tdiv x1 32)))) < (x0.length : Int) then ((z0g.f x0 (wrap64 ((wrap64 (x9 + (wrap64 (Int.tdiv x1 32)))) + 1))).bind fun t220 => (if 0 ≤ (Int.tmod x1 32) then (if 0 ≤ x9 then (z0a.l1 k x0 x1 x6 (x8.set (x9 : Int).toNat (Int.tmod (shr .u64 (IntKind.u64.wrap ((rd x0 (wrap64 (x9 + (wrap64 (Int.tdiv x1 32))))) + (IntKind.u64.wrap (t220 * 4294967296)))) (Int.tmod x1 32)) 4294967296)) (wrap64 (x9 + 1))) else (none)) else (none))) else (none)) else (none)) else ((z0r.f k x8).bind fun t222 => (some (t222, x6)))
end
def z0a.f (k : Nat) (l0 : List Int) (a1 : Int) : Option (List Int × Bool) := if a1 ≥ (wrap64 (32 * (l0.length : Int))) then (some (([] : List Int), decide ((l0.length : Int) > 0))) else (z0a.l0 k l0 a1 false 0)
def z0a.T8 : Bool × List (List Nat × List Nat) := (true, [([], []), ([0], [0]), ([1], [1]), ([1], [1]), ([3, 1], [1, 3]), ([2, 4, 1], [1, 2, 4]), ([5, 1], [1, 5]), ([1], [1]), ([7, 1], [1, 7]), ([8, 1], [1, 8]), ([6, 9, 1], [1, 6, 9]), ([10, 1], [1, 10]), ([1, 11], [1, 11]), ([12, 1, 0, 1, 2, 3, 4, 5, 6, 7, 8, 9, 10, 11, 12], [0, 12])])
def z0a.B8 : List Nat := [0, 1, 3, 3, 11, 31, 63, 3, 131, 387, 1023, 2047, 4095, 8191]
theorem z0a.tab8 : rtab .any (opsOf Tryz.f38 8) = z0a.T8 := by kernel_rfl
theorem z0a.bits8 : z4r z0a.T8.2 z0a.B8 = true := by kernel_rfl
def z0a.T13 : Bool × List (List Nat × List Nat) := (true, [([], []), ([], []), ([], []), ([], []), ([], []), ([4], [4]), ([3, 5], [3, 5]), ([2, 6], [2, 6]), ([7], [7]), ([], []), ([], []), ([], []), ([11], [11]), ([10, 12], [10, 12]), ([13], [13]), ([9, 14], [9, 14]), ([15], [15]), ([8, 16], [8, 16]), ([], []), ([18], [18]), ([17, 19], [17, 19]), ([20], [20]), ([0, 1, 0, 1, 2, 3, 4, 5, 6, 7, 8, 9, 10, 11, 12, 13, 14, 15, 16, 17, 18, 19, 20, 21], [0, 1]), ([22, 21, 15, 0, 1, 2, 3, 4, 5, 6, 7, 8, 9, 10, 11, 12, 13, 14, 15, 16, 17, 18, 19, 20, 21], [21, 22])])
def z0a.B13 : List Nat := [0, 0, 0, 0, 0, 16, 56, 124, 252, 0, 0, 0, 2048, 7168, 15360, 32256, 65024, 131068, 0, 262144, 1048572, 2097148, 4194303, 8388607]
theorem z0a.tab13 : rtab .any (opsOf Tryz.f38 13) = z0a.T13 := by kernel_rfl
theorem z0a.bits13 : z4r z0a.T13.2 z0a.B13 = true := by kernel_rfl
set_option maxHeartbeats 8000000 in
set_option maxRecDepth 100000 in
theorem z0a.calls (k : Nat) (A0 : Option Addr) (c0 : Nat) (l0 : List Int) (a1 : Int) (r1 : List Int) (r2 : Bool) (w : World) (hr0 : Kd.C (Kd.int .u64) w A0 l0.length l0) (hc0 : l0.length ≤ c0) (h : z0a.f k l0 a1 = some (r1, r2)) :
    Calls Tryz.prog 38 #[.slice A0 l0.length c0, .int .i64 a1] w fun e w' => ∃ v0_ : Value, e = .returned (.tuple #[v0_, .bool r2]) ∧ Kd.R (Kd.int .u64) 26 w' w.heap.size (fun _ => True) v0_ r1 ∧ Below w.heap.size w w' := by
  have HR0 := y9.mk hr0
  have HC0 := y9.mk hc0
  clear hr0 hc0
  have HB := y9.mk (Below.refl w.heap.size w)
  have H : (if a1 ≥ (wrap64 (32 * (l0.length : Int))) then (some (([] : List Int), decide ((l0.length : Int) > 0))) else (z0a.l0 k l0 a1 false 0)) = some (r1, r2) := h
  clear h
  by_cases c3 : a1 ≥ (wrap64 (32 * (l0.length : Int)))
  · rw [if_pos c3] at H
    have c3b0 : decide ((wrap64 (32 * (l0.length : Int))) ≤ a1) = true := decide_eq_true c3
    clear c3
    simp only [Option.some.injEq, Prod.mk.injEq] at H
    obtain ⟨rfl, rfl⟩ := H
    go_enter Tryz.func38, Tryz.ntmps38
    go_wp2
    go_ret2
    exact ⟨_, by (simp [errW_none, errW_some] <;> rfl), by exact Kd.R_nil _ _ _ _ _, by repeat ((with_reducible exact HB.out))⟩
  rw [if_neg c3] at H
  have c3b0 : decide ((wrap64 (32 * (l0.length : Int))) ≤ a1) = false := decide_eq_false c3
  clear c3
  have H' := y9.mk H
  clear H
  go_enter Tryz.func38, Tryz.ntmps38
  go_wp2
  go_loopg [6, 7] k (fun kq v6 v7 w' => ∃ (x6_1 : Bool) (x7_1 : Int), v6 = .bool x6_1 ∧ v7 = .int .i64 x7_1 ∧ y9 (z0a.l0 kq l0 a1 x6_1 x7_1 = some (r1, r2)) ∧ y9 (kq ≤ k) ∧ y9 (Below w.heap.size w w'))
  case atStart => exact ⟨(false), (0), (by rfl), (by rfl), H', ⟨Nat.le_refl _⟩, ⟨by repeat ((with_reducible exact HB.out))⟩⟩
  case round =>
    clear H'
    (try clear p2); (try clear c3); (try clear c3b0)
    obtain ⟨x6_1, x7_1, rfl, rfl, HA, HK1, HB⟩ := hrel
    cases gk with
    | zero => exact absurd HA.out (by simp [z0a.l0])
    | succ k1 =>
      have H := HA.out
      clear HA
      simp only [z0a.l0] at H
      by_cases c4 : x7_1 < (wrap64 (Int.tdiv a1 32))
      · rw [if_pos c4] at H
        have c4b0 : decide (x7_1 < (wrap64 (Int.tdiv a1 32))) = true := decide_eq_true c4
        clear c4
        by_cases c5 : x6_1 = true
        · subst c5
          have H1 : (z0a.l0 k1 l0 a1 true (wrap64 (x7_1 + 1))) = some (r1, r2) := by rw [if_pos rfl] at H; exact H
          clear H
          have H := H1
          clear H1
          have H' := y9.mk H
          clear H
          go_wp2
          go_roundg k1
          case measure => have := HK1.out; omega
          case rel => exact ⟨(true), (wrap64 (x7_1 + 1)), (by rfl), (by rfl), H', ⟨by have := HK1.out; omega⟩, ⟨by repeat ((with_reducible exact HB.out))⟩⟩
        replace c5 := Bool.eq_false_iff.mpr c5
        subst c5
        have H1 : (if 0 ≤ x7_1 then (if x7_1 < (l0.length : Int) then (z0a.l0 k1 l0 a1 ((rd l0 x7_1) != 0) (wrap64 (x7_1 + 1))) else (none)) else (none)) = some (r1, r2) := by rw [if_neg (show ¬ (false = true) by decide)] at H; exact H
        clear H
        have H := H1
        clear H1
        by_cases c6 : 0 ≤ x7_1
        · rw [if_pos c6] at H
          have c6b0 : decide (0 ≤ x7_1) = true := decide_eq_true c6
          clear c6
          by_cases c7 : x7_1 < (l0.length : Int)
          · rw [if_pos c7] at H
            have c7b0 : decide (x7_1 < (l0.length : Int)) = true := decide_eq_true c7
            clear c7
            have H' := y9.mk H
            clear H
            have p214 : 0 ≤ (x7_1 : Int) := of_decide_eq_true (by (with_reducible assumption))
            have q214 : x7_1 < (l0.length : Int) := of_decide_eq_true (by (with_reducible assumption))
            obtain ⟨ad214, e214, hx214_0⟩ := Kd.z2p HR0.out x7_1 p214 q214
            cases e214
            replace hx214_0 := (HB.out.cell (World.block_lt_of_cell? w _ hx214_0)).trans hx214_0
            replace p214 := eq_true p214
            replace q214 := eq_true q214
            go_wp2
            go_roundg k1
            case measure => have := HK1.out; omega
            case rel => exact ⟨(((rd l0 x7_1) != 0)), (wrap64 (x7_1 + 1)), (by rfl), (by rfl), H', ⟨by have := HK1.out; omega⟩, ⟨by repeat ((with_reducible exact HB.out))⟩⟩
          rw [if_neg c7] at H
          exact absurd H (by simp)
        rw [if_neg c6] at H
        exact absurd H (by simp)
      rw [if_neg c4] at H
      have c4b0 : decide (x7_1 < (wrap64 (Int.tdiv a1 32))) = false := decide_eq_false c4
      clear c4
      have HC8 := y9.mk H
      clear H
      go_upto_region 8 with (fail)
      go_cut [6] (fun v6 wc => ∃ (kq : Nat) (x6_7 : Bool), v6 = .bool x6_7 ∧ y9 (z0a.j1 kq l0 a1 x6_7 = some (r1, r2)) ∧ y9 (kq ≤ k1) ∧ y9 (Below w.heap.size w wc))
      case first =>
        have H := HC8.out
        clear HC8
        by_cases c9 : x6_1 = true
        · subst c9
          have H1 : (z0a.j1 k1 l0 a1 true) = some (r1, r2) := by rw [if_pos rfl] at H; exact H
          clear H
          have H := H1
          clear H1
          have H' := y9.mk H
          clear H
          try go_wp2
          have n0_ := y9.mk (z2y HB.out)
          clear HB
          have HB := n0_
          clear n0_
          refine z6f (n := 14) (S := fun w' => True) (ds := []) #[false, false, false, false, false, false, false, false, false, false, false, false, false, false] (by kernel_rfl) rfl rfl trivial (fun hHeld => ?_); refine z3x z0a.tab8 z0a.bits8 (fun HT_ HW_ => ?_)
          generalize wr.drew = w10 at HB hHeld ⊢
          refine z1b (i := 0) (N := some 32) (v := ?_) (a' := ?_) #[true, false, false, false, false, false, false, false, false, false, false, false, false, false] rfl rfl (z0x HT_.out (by kernel_rfl)) (fun _ _ _ h => h) (Or.inl ⟨by rfl, ?_⟩) ?_ ?_
          rotate_left
          · intro w'
            go_simp
            with_reducible rfl
          rotate_left
          · simp only [Act.put, List.setIfInBounds_toArray, List.set_cons_zero, List.set_cons_succ, z0t, z0z]
            rfl
          refine z1b (i := 1) (N := some 33) (v := ?_) (a' := ?_) #[true, true, false, false, false, false, false, false, false, false, false, false, false, false] rfl rfl (z0x HT_.out (by kernel_rfl)) (fun _ _ _ h => h) (Or.inl ⟨by rfl, ?_⟩) ?_ ?_
          rotate_left
          · intro w'
            go_simp
            with_reducible rfl
          rotate_left
          · simp only [Act.put, List.setIfInBounds_toArray, List.set_cons_zero, List.set_cons_succ, z0t, z0z]
            rfl
          refine z1b (i := 2) (N := some 34) (v := undef) (a' := ?_) #[true, true, true, false, false, false, false, false, false, false, false, false, false, false] rfl rfl (z0x HT_.out (by kernel_rfl)) (fun _ _ _ h => h) (Or.inr ⟨by rfl, rfl⟩) ?_ ?_
          rotate_left
          · simp only [Act.put, List.setIfInBounds_toArray, List.set_cons_zero, List.set_cons_succ, z0t, z0z]
            rfl
          refine z1b (i := 3) (N := some 35) (v := undef) (a' := ?_) #[true, true, true, true, false, false, false, false, false, false, false, false, false, false] rfl rfl (z0x HT_.out (by kernel_rfl)) (fun _ _ _ h => h) (Or.inr ⟨by rfl, rfl⟩) ?_ ?_
          rotate_left
          · simp only [Act.put, List.setIfInBounds_toArray, List.set_cons_zero, List.set_cons_succ, z0t, z0z]
            rfl
          refine z1b (i := 4) (N := some 36) (v := undef) (a' := ?_) #[true, true, true, true, true, false, false, false, false, false, false, false, false, false] rfl rfl (z0x HT_.out (by kernel_rfl)) (fun _ _ _ h => h) (Or.inr ⟨by rfl, rfl⟩) ?_ ?_
          rotate_left
          · simp only [Act.put, List.setIfInBounds_toArray, List.set_cons_zero, List.set_cons_succ, z0t, z0z]
            rfl
          refine z1b (i := 5) (N := some 37) (v := undef) (a' := ?_) #[true, true, true, true, true, true, false, false, false, false, false, false, false, false] rfl rfl (z0x HT_.out (by kernel_rfl)) (fun _ _ _ h => h) (Or.inr ⟨by rfl, rfl⟩) ?_ ?_
          rotate_left
          · simp only [Act.put, List.setIfInBounds_toArray, List.set_cons_zero, List.set_cons_succ, z0t, z0z]
            rfl
          refine z1b (i := 6) (N := some 38) (v := undef) (a' := ?_) #[true, true, true, true, true, true, true, false, false, false, false, false, false, false] rfl rfl (z0x HT_.out (by kernel_rfl)) (fun _ _ _ h => h) (Or.inr ⟨by rfl, rfl⟩) ?_ ?_
          rotate_left
          · simp only [Act.put, List.setIfInBounds_toArray, List.set_cons_zero, List.set_cons_succ, z0t, z0z]
            rfl
          refine z1b (i := 7) (N := some 39) (v := undef) (a' := ?_) #[true, true, true, true, true, true, true, true, false, false, false, false, false, false] rfl rfl (z0x HT_.out (by kernel_rfl)) (fun _ _ _ h => h) (Or.inr ⟨by rfl, rfl⟩) ?_ ?_
          rotate_left
          · simp only [Act.put, List.setIfInBounds_toArray, List.set_cons_zero, List.set_cons_succ, z0t, z0z]
            rfl
          refine z1b (i := 8) (N := some 40) (v := undef) (a' := ?_) #[true, true, true, true, true, true, true, true, true, false, false, false, false, false] rfl rfl (z0x HT_.out (by kernel_rfl)) (fun _ _ _ h => h) (Or.inr ⟨by rfl, rfl⟩) ?_ ?_
          rotate_left
          · simp only [Act.put, List.setIfInBounds_toArray, List.set_cons_zero, List.set_cons_succ, z0t, z0z]
            rfl
          refine z1b (i := 9) (N := some 41) (v := undef) (a' := ?_) #[true, true, true, true, true, true, true, true, true, true, false, false, false, false] rfl rfl (z0x HT_.out (by kernel_rfl)) (fun _ _ _ h => h) (Or.inr ⟨by rfl, rfl⟩) ?_ ?_
          rotate_left
          · simp only [Act.put, List.setIfInBounds_toArray, List.set_cons_zero, List.set_cons_succ, z0t, z0z]
            rfl
          refine z1b (i := 10) (N := some 42) (v := undef) (a' := ?_) #[true, true, true, true, true, true, true, true, true, true, true, false, false, false] rfl rfl (z0x HT_.out (by kernel_rfl)) (fun _ _ _ h => h) (Or.inr ⟨by rfl, rfl⟩) ?_ ?_
          rotate_left
          · simp only [Act.put, List.setIfInBounds_toArray, List.set_cons_zero, List.set_cons_succ, z0t, z0z]
            rfl
          refine z1b (i := 11) (N := some 43) (v := undef) (a' := ?_) #[true, true, true, true, true, true, true, true, true, true, true, true, false, false] rfl rfl (z0x HT_.out (by kernel_rfl)) (fun _ _ _ h => h) (Or.inr ⟨by rfl, rfl⟩) ?_ ?_
          rotate_left
          · simp only [Act.put, List.setIfInBounds_toArray, List.set_cons_zero, List.set_cons_succ, z0t, z0z]
            rfl
          refine z1b (i := 12) (N := some 44) (v := ?_) (a' := ?_) #[true, true, true, true, true, true, true, true, true, true, true, true, true, false] rfl rfl (z0x HT_.out (by kernel_rfl)) (fun _ _ _ h => h) (Or.inl ⟨by rfl, ?_⟩) ?_ ?_
          rotate_left
          · intro w'
            go_simp
            with_reducible rfl
          rotate_left
          · simp only [Act.put, List.setIfInBounds_toArray, List.set_cons_zero, List.set_cons_succ, z0t, z0z]
            rfl
          refine z1b (i := 13) (N := some 6) (v := ?_) (a' := ?_) #[true, true, true, true, true, true, true, true, true, true, true, true, true, true] rfl rfl (z0x HT_.out (by kernel_rfl)) (fun _ _ _ h => h) (Or.inl ⟨by rfl, ?_⟩) ?_ ?_
          rotate_left
          · intro w'
            go_simp
            with_reducible rfl
          rotate_left
          · simp only [Act.put, List.setIfInBounds_toArray, List.set_cons_zero, List.set_cons_succ, z0t, z0z]
            rfl
          refine done_ (z5i HT_.out (by kernel_rfl)) ?_
          try go_wp2
          go_meet
          case rel => exact ⟨_, (true), (by rfl), H', ⟨by have := HK1.out; omega⟩, ⟨by repeat ((with_reducible exact HB.out))⟩⟩
        replace c9 := Bool.eq_false_iff.mpr c9
        subst c9
        have H1 : (if 0 ≤ (wrap64 (Int.tdiv a1 32)) then (if (wrap64 (Int.tdiv a1 32)) < (l0.length : Int) then (if 0 ≤ (Int.tmod a1 32) then (if (shl .u64 1 (Int.tmod a1 32)) = 0 then (none) else (z0a.j1 k1 l0 a1 ((Int.tmod (rd l0 (wrap64 (Int.tdiv a1 32))) (shl .u64 1 (Int.tmod a1 32))) != 0))) else (none)) else (none)) else (none)) = some (r1, r2) := by rw [if_neg (show ¬ (false = true) by decide)] at H; exact H
        clear H
        have H := H1
        clear H1
        obtain ⟨ji11, hji11⟩ : ∃ j_ : Int, (wrap64 (Int.tdiv a1 32)) = j_ := ⟨_, rfl⟩
        replace H : (if 0 ≤ (ji11) then (if (ji11) < (l0.length : Int) then (if 0 ≤ (Int.tmod a1 32) then (if (shl .u64 1 (Int.tmod a1 32)) = 0 then (none) else (z0a.j1 k1 l0 a1 ((Int.tmod (rd l0 (ji11)) (shl .u64 1 (Int.tmod a1 32))) != 0))) else (none)) else (none)) else (none)) = some (r1, r2) := by (rw [hji11] at H; exact H)
        (try rw [hji11] at c4b0)
        have hji11w : (IntKind.i64.wrap (Int.tdiv a1 32)) = ji11 := (z0t _).trans hji11
        by_cases c12 : 0 ≤ (ji11)
        · rw [if_pos c12] at H
          have c12b0 : decide (0 ≤ (ji11)) = true := decide_eq_true c12
          clear c12
          (skip)
          by_cases c13 : (ji11) < (l0.length : Int)
          · rw [if_pos c13] at H
            have c13b0 : decide ((ji11) < (l0.length : Int)) = true := decide_eq_true c13
            clear c13
            obtain ⟨ji14, hji14⟩ : ∃ j_ : Int, (Int.tmod a1 32) = j_ := ⟨_, rfl⟩
            replace H : (if 0 ≤ (ji14) then (if (shl .u64 1 (ji14)) = 0 then (none) else (z0a.j1 k1 l0 a1 ((Int.tmod (rd l0 (ji11)) (shl .u64 1 (ji14))) != 0))) else (none)) = some (r1, r2) := by (rw [hji14] at H; exact H)
            by_cases c15 : 0 ≤ (ji14)
            · rw [if_pos c15] at H
              have c15b0 := eq_true c15
              have c15b1 : decide (0 ≤ (ji14)) = true := decide_eq_true c15
              clear c15
              obtain ⟨ji16, hji16⟩ : ∃ j_ : Int, (shl .u64 1 (ji14)) = j_ := ⟨_, rfl⟩
              replace H : (if (ji16) = 0 then (none) else (z0a.j1 k1 l0 a1 ((Int.tmod (rd l0 (ji11)) (ji16)) != 0))) = some (r1, r2) := by (rw [hji16] at H; exact H)
              have hji16_ : (IntKind.u64.wrap (1 * 2 ^ min (ji14).toNat 64)) = ji16 := hji16
              have hji16z : (ji14) ≤ 64 → (IntKind.u64.wrap (1 * 2 ^ (ji14).toNat)) = ji16 := z4a hji16
              have hji16u : (IntKind.u64.wrap (2 ^ min (ji14).toNat 64)) = ji16 := by have h_ := hji16_; rw [Int.one_mul] at h_; exact h_
              have hji16v : (ji14) ≤ 64 → (IntKind.u64.wrap (2 ^ (ji14).toNat)) = ji16 := fun hle_ => by have h_ := hji16z hle_; rw [Int.one_mul] at h_; exact h_
              by_cases c17 : (ji16) = 0
              · rw [if_pos c17] at H
                exact absurd H (by simp)
              rw [if_neg c17] at H
              have c17b0 : ((ji16) == 0) = false := beq_eq_false_iff_ne.mpr c17
              have c17b1 : ((ji16) != 0) = true := bne_iff_ne.mpr c17
              have H' := y9.mk H
              clear H
              try go_wp2
              have n0_ := y9.mk (z2y HB.out)
              clear HB
              have HB := n0_
              clear n0_
              have p215 : 0 ≤ ((ji11) : Int) := of_decide_eq_true (by (with_reducible assumption))
              have q215 : (ji11) < (l0.length : Int) := of_decide_eq_true (by (with_reducible assumption))
              obtain ⟨ad215, e215, hx215_0⟩ := Kd.z2p HR0.out (ji11) p215 q215
              have hw215_0 := hx215_0
              cases e215
              replace hx215_0 := (HB.out.cell (World.block_lt_of_cell? w _ hx215_0)).trans hx215_0
              replace p215 := eq_true p215
              replace q215 := eq_true q215
              refine z6f (n := 14) (S := fun w' => w'.cell? (ad215.add ((ji11)).toNat) = some (.int .u64 (rd l0 (ji11)))) (ds := []) #[false, false, false, false, false, false, false, false, false, false, false, false, false, false] (by kernel_rfl) rfl rfl (((HB.out.cell (World.block_lt_of_cell? w _ hw215_0)).trans hw215_0)) (fun hHeld => ?_); refine z3x z0a.tab8 z0a.bits8 (fun HT_ HW_ => ?_)
              generalize wr.drew = w18 at HB hx215_0 hHeld ⊢
              refine z1b (i := 0) (N := some 32) (v := ?_) (a' := ?_) #[true, false, false, false, false, false, false, false, false, false, false, false, false, false] rfl rfl (z0x HT_.out (by kernel_rfl)) (fun _ _ _ h => h) (Or.inl ⟨by rfl, ?_⟩) ?_ ?_
              rotate_left
              · intro w'
                go_simp
                with_reducible rfl
              rotate_left
              · simp only [Act.put, List.setIfInBounds_toArray, List.set_cons_zero, List.set_cons_succ, z0t, z0z]
                rfl
              refine z1b (i := 1) (N := some 33) (v := ?_) (a' := ?_) #[true, true, false, false, false, false, false, false, false, false, false, false, false, false] rfl rfl (z0x HT_.out (by kernel_rfl)) (fun _ _ _ h => h) (Or.inl ⟨by rfl, ?_⟩) ?_ ?_
              rotate_left
              · intro w'
                go_simp
                with_reducible rfl
              rotate_left
              · simp only [Act.put, List.setIfInBounds_toArray, List.set_cons_zero, List.set_cons_succ, z0t, z0z]
                rfl
              refine z1b (i := 2) (N := some 34) (v := ?_) (a' := ?_) #[true, true, true, false, false, false, false, false, false, false, false, false, false, false] rfl rfl (z0x HT_.out (by kernel_rfl)) (fun _ _ _ h => h) (Or.inl ⟨by rfl, ?_⟩) ?_ ?_
              rotate_left
              · intro w'
                go_simp
                with_reducible rfl
              rotate_left
              · simp only [Act.put, List.setIfInBounds_toArray, List.set_cons_zero, List.set_cons_succ, z0t, z0z]
                rfl
              refine z1b (i := 3) (N := some 35) (v := ?_) (a' := ?_) #[true, true, true, true, false, false, false, false, false, false, false, false, false, false] rfl rfl (z0x HT_.out (by kernel_rfl)) (fun _ _ _ h => h) (Or.inl ⟨by rfl, ?_⟩) ?_ ?_
              rotate_left
              · intro w'
                go_simp
                with_reducible rfl
              rotate_left
              · simp only [Act.put, List.setIfInBounds_toArray, List.set_cons_zero, List.set_cons_succ, z0t, z0z]
                rfl
              refine z1b (i := 4) (N := some 36) (v := ?_) (a' := ?_) #[true, true, true, true, true, false, false, false, false, false, false, false, false, false] rfl rfl (z0x HT_.out (by kernel_rfl)) (fun _ _ _ h => h) (Or.inl ⟨by rfl, ?_⟩) ?_ ?_
              rotate_left
              · intro w'
                go_simp
                with_reducible rfl
              rotate_left
              · simp only [Act.put, List.setIfInBounds_toArray, List.set_cons_zero, List.set_cons_succ, z0t, z0z]
                rfl
              refine z1b (i := 5) (N := some 37) (v := ?_) (a' := ?_) #[true, true, true, true, true, true, false, false, false, false, false, false, false, false] rfl rfl (z0x HT_.out (by kernel_rfl)) (fun _ _ _ h => h) (Or.inl ⟨by rfl, ?_⟩) ?_ ?_
              rotate_left
              · intro w'
                go_simp
                with_reducible rfl
              rotate_left
              · simp only [Act.put, List.setIfInBounds_toArray, List.set_cons_zero, List.set_cons_succ, z0t, z0z]
                rfl
              refine z1b (i := 7) (N := some 39) (v := ?_) (a' := ?_) #[true, true, true, true, true, true, false, true, false, false, false, false, false, false] rfl rfl (z0x HT_.out (by kernel_rfl)) (fun _ _ _ h => h) (Or.inl ⟨by rfl, ?_⟩) ?_ ?_
              rotate_left
              · intro w'
                go_simp
                with_reducible rfl
              rotate_left
              · simp only [Act.put, List.setIfInBounds_toArray, List.set_cons_zero, List.set_cons_succ, z0t, z0z]
                rfl
              refine z1b (i := 8) (N := some 40) (v := ?_) (a' := ?_) #[true, true, true, true, true, true, false, true, true, false, false, false, false, false] rfl rfl (z0x HT_.out (by kernel_rfl)) (fun _ _ _ h => h) (Or.inl ⟨by rfl, ?_⟩) ?_ ?_
              rotate_left
              · intro w'
                go_simp
                with_reducible rfl
              rotate_left
              · simp only [Act.put, List.setIfInBounds_toArray, List.set_cons_zero, List.set_cons_succ, z0t, z0z]
                rfl
              refine z1b (i := 9) (N := some 41) (v := ?_) (a' := ?_) #[true, true, true, true, true, true, false, true, true, true, false, false, false, false] rfl rfl (z0x HT_.out (by kernel_rfl)) (fun _ _ _ h => h) (Or.inl ⟨by rfl, ?_⟩) ?_ ?_
              rotate_left
              · intro w'
                go_simp
                with_reducible rfl
              rotate_left
              · simp only [Act.put, List.setIfInBounds_toArray, List.set_cons_zero, List.set_cons_succ, z0t, z0z]
                rfl
              refine z5s (i := 6) (N := some 38) (v := ?_) (a' := ?_) #[true, true, true, true, true, true, true, true, true, true, false, false, false, false] rfl rfl (z3j HT_.out HW_.out (by kernel_rfl)) (fun _ _ _ h => h) (Or.inl ⟨by rfl, ?_⟩) hHeld ?_ ?_
              rotate_left
              · intro w' s0
                go_simp
                with_reducible rfl
              rotate_left
              · simp only [Act.put, List.setIfInBounds_toArray, List.set_cons_zero, List.set_cons_succ, z0t, z0z]
                rfl
              refine z1b (i := 10) (N := some 42) (v := ?_) (a' := ?_) #[true, true, true, true, true, true, true, true, true, true, true, false, false, false] rfl rfl (z0x HT_.out (by kernel_rfl)) (fun _ _ _ h => h) (Or.inl ⟨by rfl, ?_⟩) ?_ ?_
              rotate_left
              · intro w'
                go_simp
                with_reducible rfl
              rotate_left
              · simp only [Act.put, List.setIfInBounds_toArray, List.set_cons_zero, List.set_cons_succ, z0t, z0z]
                rfl
              refine z1b (i := 11) (N := some 43) (v := ?_) (a' := ?_) #[true, true, true, true, true, true, true, true, true, true, true, true, false, false] rfl rfl (z0x HT_.out (by kernel_rfl)) (fun _ _ _ h => h) (Or.inl ⟨by rfl, ?_⟩) ?_ ?_
              rotate_left
              · intro w'
                go_simp
                with_reducible rfl
              rotate_left
              · simp only [Act.put, List.setIfInBounds_toArray, List.set_cons_zero, List.set_cons_succ, z0t, z0z]
                rfl
              refine z1b (i := 12) (N := some 44) (v := ?_) (a' := ?_) #[true, true, true, true, true, true, true, true, true, true, true, true, true, false] rfl rfl (z0x HT_.out (by kernel_rfl)) (fun _ _ _ h => h) (Or.inl ⟨by rfl, ?_⟩) ?_ ?_
              rotate_left
              · intro w'
                go_simp
                with_reducible rfl
              rotate_left
              · simp only [Act.put, List.setIfInBounds_toArray, List.set_cons_zero, List.set_cons_succ, z0t, z0z]
                rfl
              refine z1b (i := 13) (N := some 6) (v := ?_) (a' := ?_) #[true, true, true, true, true, true, true, true, true, true, true, true, true, true] rfl rfl (z0x HT_.out (by kernel_rfl)) (fun _ _ _ h => h) (Or.inl ⟨by rfl, ?_⟩) ?_ ?_
              rotate_left
              · intro w'
                go_simp
                with_reducible rfl
              rotate_left
              · simp only [Act.put, List.setIfInBounds_toArray, List.set_cons_zero, List.set_cons_succ, z0t, z0z]
                rfl
              refine done_ (z5i HT_.out (by kernel_rfl)) ?_
              try go_wp2
              go_meet
              case rel => exact ⟨_, (((Int.tmod (rd l0 (ji11)) (ji16)) != 0)), (by rfl), H', ⟨by have := HK1.out; omega⟩, ⟨by repeat ((with_reducible exact HB.out))⟩⟩
            rw [if_neg c15] at H
            exact absurd H (by simp)
          rw [if_neg c13] at H
          exact absurd H (by simp)
        rw [if_neg c12] at H
        exact absurd H (by simp)
      clear HC8
      (try clear c1); (try clear p2); (try clear q2); (try clear hx2); (try clear c3); (try clear c3b0); (try clear c4); (try clear c4b0); (try clear c5); (try clear c6); (try clear c6b0); (try clear p6); (try clear c7); (try clear c7b0); (try clear c9); (try clear c12); (try clear c12b0); (try clear c13); (try clear c13b0); (try clear c15); (try clear c15b0); (try clear c15b1); (try clear c17); (try clear c17b0); (try clear c17b1); (try clear hx214_0); (try clear hx215_0); (try clear p2); (try clear p214); (try clear p215); (try clear q214); (try clear q215)
      obtain ⟨kq, x6_7, rfl, HA, HJ7, HB⟩ := hcut
      cases kq with
      | zero => exact absurd HA.out (by simp [z0a.j1])
      | succ kj7 =>
        have H := HA.out
        clear HA
        simp only [z0a.j1] at H
        obtain ⟨ji19, hji19⟩ : ∃ j_ : Int, (wrap64 ((l0.length : Int) - (wrap64 (Int.tdiv a1 32)))) = j_ := ⟨_, rfl⟩
        replace H : (if 0 ≤ (ji19) then (if (ji19 : Int).toNat ≤ 35184372088832 then (z0a.l1 kj7 l0 a1 x6_7 (List.replicate (ji19 : Int).toNat 0) 0) else (none)) else (none)) = some (r1, r2) := by (rw [hji19] at H; exact H)
        have hji19w : (IntKind.i64.wrap ((l0.length : Int) - (wrap64 (Int.tdiv a1 32)))) = ji19 := (z0t _).trans hji19
        by_cases c20 : 0 ≤ (ji19)
        · rw [if_pos c20] at H
          have c20b0 := eq_true c20
          have c20b1 : decide (0 ≤ (ji19)) = true := decide_eq_true c20
          clear c20
          by_cases c21 : (ji19 : Int).toNat ≤ 35184372088832
          · rw [if_pos c21] at H
            have c21b0 := eq_true c21
            have c21b1 : decide ((ji19 : Int).toNat ≤ 35184372088832) = true := decide_eq_true c21
            clear c21
            obtain ⟨y216, hy216⟩ : ∃ y_ : List Int, y_ = (List.replicate (ji19 : Int).toNat 0) := ⟨_, rfl⟩
            replace H : (z0a.l1 kj7 l0 a1 x6_7 y216 0) = some (r1, r2) := by (rw [hy216]; with_reducible exact H)
            have Ny216 := y9.mk hy216
            clear hy216
            have H' := y9.mk H
            clear H
            go_wp2_with (((with_reducible refine z1s (N := 50) rfl ?_); refine Kd.R_make (Kd.int .u64) _ 26 rfl (N := 50) rfl 51 _ _ rfl ji19 rfl rfl Tryz.underlying51 (.int .u64 0) 8 info26 rfl (by decide) (by omega) 0 (ok := fun _ => True) (okp := fun _ => True) rfl (fun _ hk => hk) trivial (of_decide_eq_true (by (with_reducible assumption))) (Nat.le_trans (Nat.mul_le_mul_right _ (of_decide_eq_true (by (with_reducible assumption)) : ji19.toNat ≤ 35184372088832)) (by omega)) (Below.refl _ _) (Nat.le_refl _) ?_; intro v217 w22 ho23 hb hg_ hnew_; clear hg_ hnew_; (rw [← Ny216.out] at ho23); have n0_ := y9.mk (Kd.z1j ho23 (z0n (by repeat ((with_reducible exact HB.out))))); have n1_ := y9.mk (z0m (by repeat ((with_reducible exact HB.out))) hb); clear HB; have HO218 := n0_; have HB := n1_; clear n0_ n1_; clear hb ho23))
            go_loopg [9] kj7 (fun kq v9 w' => ∃ (x8_3 : List Int) (x9_3 : Int), v9 = .int .i64 x9_3 ∧ y9 (z0a.l1 kq l0 a1 x6_7 x8_3 x9_3 = some (r1, r2)) ∧ y9 (kq ≤ kj7) ∧ y9 (Kd.R (Kd.int .u64) 26 w' w.heap.size (fun _ => True) v217 x8_3) ∧ y9 (Below w.heap.size w w'))
            case atStart => exact ⟨(y216), (0), (by rfl), H', ⟨Nat.le_refl _⟩, ⟨by (with_reducible repeat (fail)); exact HO218.out⟩, ⟨by repeat ((with_reducible exact HB.out))⟩⟩
            case round =>
              clear H'
              (try clear c1); (try clear c2); (try clear p2); (try clear q2); (try clear hx2); (try clear c3); (try clear c3b0); (try clear c4); (try clear c4b0); (try clear c5); (try clear c6); (try clear c6b0); (try clear p6); (try clear c7); (try clear c7b0); (try clear c9); (try clear c12); (try clear c12b0); (try clear c13); (try clear c13b0); (try clear c15); (try clear c15b0); (try clear c15b1); (try clear c17); (try clear c17b0); (try clear c17b1); (try clear c20); (try clear c20b0); (try clear c20b1); (try clear c21); (try clear c21b0); (try clear c21b1); (try clear p21); (try clear q21); (try clear hx21); (try clear hx214_0); (try clear hx215_0); (try clear p2); (try clear p214); (try clear p215); (try clear p6); (try clear q2); (try clear q214); (try clear q215)
              obtain ⟨x8_3, x9_3, rfl, HA, HK3, HO_8, HB⟩ := hrel
              cases gk with
              | zero => exact absurd HA.out (by simp [z0a.l1])
              | succ k3 =>
                have H := HA.out
                clear HA
                simp only [z0a.l1] at H
                by_cases c24 : x9_3 < (x8_3.length : Int)
                · rw [if_pos c24] at H
                  have c24b0 : decide (x9_3 < (x8_3.length : Int)) = true := decide_eq_true c24
                  clear c24
                  obtain ⟨ji25, hji25⟩ : ∃ j_ : Int, (wrap64 (x9_3 + (wrap64 (Int.tdiv a1 32)))) = j_ := ⟨_, rfl⟩
                  replace H : (if 0 ≤ (ji25) then (if (ji25) < (l0.length : Int) then ((z0g.f l0 (wrap64 ((ji25) + 1))).bind fun t220 => (if 0 ≤ (Int.tmod a1 32) then (if 0 ≤ x9_3 then (z0a.l1 k3 l0 a1 x6_7 (x8_3.set (x9_3 : Int).toNat (Int.tmod (shr .u64 (IntKind.u64.wrap ((rd l0 (ji25)) + (IntKind.u64.wrap (t220 * 4294967296)))) (Int.tmod a1 32)) 4294967296)) (wrap64 (x9_3 + 1))) else (none)) else (none))) else (none)) else (none)) = some (r1, r2) := by (rw [hji25] at H; exact H)
                  have hji25w : (IntKind.i64.wrap (x9_3 + (wrap64 (Int.tdiv a1 32)))) = ji25 := (z0t _).trans hji25
                  by_cases c26 : 0 ≤ (ji25)
                  · rw [if_pos c26] at H
                    have c26b0 : decide (0 ≤ (ji25)) = true := decide_eq_true c26
                    clear c26
                    by_cases c27 : (ji25) < (l0.length : Int)
                    · rw [if_pos c27] at H
                      have c27b0 : decide ((ji25) < (l0.length : Int)) = true := decide_eq_true c27
                      clear c27
                      replace H := Option.bind_eq_some_iff.mp H
                      obtain ⟨t220, A280, H⟩ := H
                      have A28 := y9.mk A280
                      clear A280
                      obtain ⟨ji29, hji29⟩ : ∃ j_ : Int, (Int.tmod a1 32) = j_ := ⟨_, rfl⟩
                      replace H : (if 0 ≤ (ji29) then (if 0 ≤ x9_3 then (z0a.l1 k3 l0 a1 x6_7 (x8_3.set (x9_3 : Int).toNat (Int.tmod (shr .u64 (IntKind.u64.wrap ((rd l0 (ji25)) + (IntKind.u64.wrap (t220 * 4294967296)))) (ji29)) 4294967296)) (wrap64 (x9_3 + 1))) else (none)) else (none)) = some (r1, r2) := by (rw [hji29] at H; exact H)
                      (try rw [hji29] at A28)
                      by_cases c30 : 0 ≤ (ji29)
                      · rw [if_pos c30] at H
                        have c30b0 := eq_true c30
                        have c30b1 : decide (0 ≤ (ji29)) = true := decide_eq_true c30
                        clear c30
                        obtain ⟨ji31, hji31⟩ : ∃ j_ : Int, (shr .u64 (IntKind.u64.wrap ((rd l0 (ji25)) + (IntKind.u64.wrap (t220 * 4294967296)))) (ji29)) = j_ := ⟨_, rfl⟩
                        replace H : (if 0 ≤ x9_3 then (z0a.l1 k3 l0 a1 x6_7 (x8_3.set (x9_3 : Int).toNat (Int.tmod (ji31) 4294967296)) (wrap64 (x9_3 + 1))) else (none)) = some (r1, r2) := by (rw [hji31] at H; exact H)
                        (try rw [hji31] at A28)
                        have hji31_ : ((IntKind.u64.wrap ((rd l0 (ji25)) + (IntKind.u64.wrap (t220 * 4294967296)))) / 2 ^ min (ji29).toNat 64) = ji31 := hji31
                        have hji31z : (ji29) ≤ 64 → ((IntKind.u64.wrap ((rd l0 (ji25)) + (IntKind.u64.wrap (t220 * 4294967296)))) / 2 ^ (ji29).toNat) = ji31 := shr_small hji31
                        by_cases c32 : 0 ≤ x9_3
                        · rw [if_pos c32] at H
                          have c32b0 : decide (0 ≤ x9_3) = true := decide_eq_true c32
                          clear c32
                          obtain ⟨y221, hy221⟩ : ∃ y_ : List Int, y_ = (x8_3.set (x9_3 : Int).toNat (Int.tmod (ji31) 4294967296)) := ⟨_, rfl⟩
                          replace H : (z0a.l1 k3 l0 a1 x6_7 y221 (wrap64 (x9_3 + 1))) = some (r1, r2) := by (rw [hy221]; with_reducible exact H)
                          have Ny221 := y9.mk hy221
                          clear hy221
                          have H' := y9.mk H
                          clear H
                          obtain ⟨Ao34, co34, eo34⟩ := Kd.z1g HO_8.out
                          subst eo34
                          try go_wp2
                          have n0_ := y9.mk (Kd.R_drew HO_8.out)
                          have n1_ := y9.mk (z2y HB.out)
                          clear HO_8
                          clear HB
                          have HO_8 := n0_
                          have HB := n1_
                          clear n0_ n1_
                          have p219 : 0 ≤ ((ji25) : Int) := of_decide_eq_true (by (with_reducible assumption))
                          have q219 : (ji25) < (l0.length : Int) := of_decide_eq_true (by (with_reducible assumption))
                          obtain ⟨ad219, e219, hx219_0⟩ := Kd.z2p HR0.out (ji25) p219 q219
                          have hw219_0 := hx219_0
                          cases e219
                          replace hx219_0 := (HB.out.cell (World.block_lt_of_cell? w _ hx219_0)).trans hx219_0
                          replace p219 := eq_true p219
                          replace q219 := eq_true q219
                          refine z6f (n := 24) (S := fun w' => w'.cell? (ad219.add ((ji25)).toNat) = some (.int .u64 (rd l0 (ji25)))) (ds := [23]) #[false, false, false, false, false, false, false, false, false, false, false, false, false, false, false, false, false, false, false, false, false, false, false, false] (by kernel_rfl) rfl rfl (((HB.out.cell (World.block_lt_of_cell? w _ hw219_0)).trans hw219_0)) (fun hHeld => ?_); refine z3x z0a.tab13 z0a.bits13 (fun HT_ HW_ => ?_)
                          generalize wr.drew = w35 at HO_8 HB hx219_0 hHeld ⊢
                          refine z1b (i := 0) (N := some 57) (v := ?_) (a' := ?_) #[true, false, false, false, false, false, false, false, false, false, false, false, false, false, false, false, false, false, false, false, false, false, false, false] rfl rfl (z0x HT_.out (by kernel_rfl)) (fun _ _ _ h => h) (Or.inl ⟨by rfl, ?_⟩) ?_ ?_
                          rotate_left
                          · intro w'
                            go_simp
                            with_reducible rfl
                          rotate_left
                          · simp only [Act.put, List.setIfInBounds_toArray, List.set_cons_zero, List.set_cons_succ, z0t, z0z]
                            rfl
                          refine z1b (i := 1) (N := some 58) (v := ?_) (a' := ?_) #[true, true, false, false, false, false, false, false, false, false, false, false, false, false, false, false, false, false, false, false, false, false, false, false] rfl rfl (z0x HT_.out (by kernel_rfl)) (fun _ _ _ h => h) (Or.inl ⟨by rfl, ?_⟩) ?_ ?_
                          rotate_left
                          · intro w'
                            go_simp
                            with_reducible rfl
                          rotate_left
                          · simp only [Act.put, List.setIfInBounds_toArray, List.set_cons_zero, List.set_cons_succ, z0t, z0z]
                            rfl
                          refine z1b (i := 2) (N := some 59) (v := ?_) (a' := ?_) #[true, true, true, false, false, false, false, false, false, false, false, false, false, false, false, false, false, false, false, false, false, false, false, false] rfl rfl (z0x HT_.out (by kernel_rfl)) (fun _ _ _ h => h) (Or.inl ⟨by rfl, ?_⟩) ?_ ?_
                          rotate_left
                          · intro w'
                            go_simp
                            with_reducible rfl
                          rotate_left
                          · simp only [Act.put, List.setIfInBounds_toArray, List.set_cons_zero, List.set_cons_succ, z0t, z0z]
                            rfl
                          refine z1b (i := 3) (N := some 60) (v := ?_) (a' := ?_) #[true, true, true, true, false, false, false, false, false, false, false, false, false, false, false, false, false, false, false, false, false, false, false, false] rfl rfl (z0x HT_.out (by kernel_rfl)) (fun _ _ _ h => h) (Or.inl ⟨by rfl, ?_⟩) ?_ ?_
                          rotate_left
                          · intro w'
                            go_simp
                            with_reducible rfl
                          rotate_left
                          · simp only [Act.put, List.setIfInBounds_toArray, List.set_cons_zero, List.set_cons_succ, z0t, z0z]
                            rfl
                          refine z1b (i := 4) (N := some 61) (v := ?_) (a' := ?_) #[true, true, true, true, true, false, false, false, false, false, false, false, false, false, false, false, false, false, false, false, false, false, false, false] rfl rfl (z0x HT_.out (by kernel_rfl)) (fun _ _ _ h => h) (Or.inl ⟨by rfl, ?_⟩) ?_ ?_
                          rotate_left
                          · intro w'
                            go_simp
                            with_reducible rfl
                          rotate_left
                          · simp only [Act.put, List.setIfInBounds_toArray, List.set_cons_zero, List.set_cons_succ, z0t, z0z]
                            rfl
                          refine z1b (i := 5) (N := some 62) (v := ?_) (a' := ?_) #[true, true, true, true, true, true, false, false, false, false, false, false, false, false, false, false, false, false, false, false, false, false, false, false] rfl rfl (z0x HT_.out (by kernel_rfl)) (fun _ _ _ h => h) (Or.inl ⟨by rfl, ?_⟩) ?_ ?_
                          rotate_left
                          · intro w'
                            go_simp
                            with_reducible rfl
                          rotate_left
                          · simp only [Act.put, List.setIfInBounds_toArray, List.set_cons_zero, List.set_cons_succ, z0t, z0z]
                            rfl
                          refine z1b (i := 6) (N := some 63) (v := ?_) (a' := ?_) #[true, true, true, true, true, true, true, false, false, false, false, false, false, false, false, false, false, false, false, false, false, false, false, false] rfl rfl (z0x HT_.out (by kernel_rfl)) (fun _ _ _ h => h) (Or.inl ⟨by rfl, ?_⟩) ?_ ?_
                          rotate_left
                          · intro w'
                            go_simp
                            with_reducible rfl
                          rotate_left
                          · simp only [Act.put, List.setIfInBounds_toArray, List.set_cons_zero, List.set_cons_succ, z0t, z0z]
                            rfl
                          refine z1b (i := 7) (N := some 64) (v := ?_) (a' := ?_) #[true, true, true, true, true, true, true, true, false, false, false, false, false, false, false, false, false, false, false, false, false, false, false, false] rfl rfl (z0x HT_.out (by kernel_rfl)) (fun _ _ _ h => h) (Or.inl ⟨by rfl, ?_⟩) ?_ ?_
                          rotate_left
                          · intro w'
                            go_simp
                            with_reducible rfl
                          rotate_left
                          · simp only [Act.put, List.setIfInBounds_toArray, List.set_cons_zero, List.set_cons_succ, z0t, z0z]
                            rfl
                          refine z1b (i := 9) (N := some 66) (v := ?_) (a' := ?_) #[true, true, true, true, true, true, true, true, false, true, false, false, false, false, false, false, false, false, false, false, false, false, false, false] rfl rfl (z0x HT_.out (by kernel_rfl)) (fun _ _ _ h => h) (Or.inl ⟨by rfl, ?_⟩) ?_ ?_
                          rotate_left
                          · intro w'
                            go_simp
                            with_reducible rfl
                          rotate_left
                          · simp only [Act.put, List.setIfInBounds_toArray, List.set_cons_zero, List.set_cons_succ, z0t, z0z]
                            rfl
                          refine z1b (i := 10) (N := some 67) (v := ?_) (a' := ?_) #[true, true, true, true, true, true, true, true, false, true, true, false, false, false, false, false, false, false, false, false, false, false, false, false] rfl rfl (z0x HT_.out (by kernel_rfl)) (fun _ _ _ h => h) (Or.inl ⟨by rfl, ?_⟩) ?_ ?_
                          rotate_left
                          · intro w'
                            go_simp
                            with_reducible rfl
                          rotate_left
                          · simp only [Act.put, List.setIfInBounds_toArray, List.set_cons_zero, List.set_cons_succ, z0t, z0z]
                            rfl
                          refine z1b (i := 11) (N := some 68) (v := ?_) (a' := ?_) #[true, true, true, true, true, true, true, true, false, true, true, true, false, false, false, false, false, false, false, false, false, false, false, false] rfl rfl (z0x HT_.out (by kernel_rfl)) (fun _ _ _ h => h) (Or.inl ⟨by rfl, ?_⟩) ?_ ?_
                          rotate_left
                          · intro w'
                            go_simp
                            with_reducible rfl
                          rotate_left
                          · simp only [Act.put, List.setIfInBounds_toArray, List.set_cons_zero, List.set_cons_succ, z0t, z0z]
                            rfl
                          refine z1b (i := 12) (N := some 69) (v := ?_) (a' := ?_) #[true, true, true, true, true, true, true, true, false, true, true, true, true, false, false, false, false, false, false, false, false, false, false, false] rfl rfl (z0x HT_.out (by kernel_rfl)) (fun _ _ _ h => h) (Or.inl ⟨by rfl, ?_⟩) ?_ ?_
                          rotate_left
                          · intro w'
                            go_simp
                            with_reducible rfl
                          rotate_left
                          · simp only [Act.put, List.setIfInBounds_toArray, List.set_cons_zero, List.set_cons_succ, z0t, z0z]
                            rfl
                          refine z1b (i := 13) (N := some 70) (v := ?_) (a' := ?_) #[true, true, true, true, true, true, true, true, false, true, true, true, true, true, false, false, false, false, false, false, false, false, false, false] rfl rfl (z0x HT_.out (by kernel_rfl)) (fun _ _ _ h => h) (Or.inl ⟨by rfl, ?_⟩) ?_ ?_
                          rotate_left
                          · intro w'
                            go_simp
                            with_reducible rfl
                          rotate_left
                          · simp only [Act.put, List.setIfInBounds_toArray, List.set_cons_zero, List.set_cons_succ, z0t, z0z]
                            rfl
                          refine z1b (i := 14) (N := some 71) (v := ?_) (a' := ?_) #[true, true, true, true, true, true, true, true, false, true, true, true, true, true, true, false, false, false, false, false, false, false, false, false] rfl rfl (z0x HT_.out (by kernel_rfl)) (fun _ _ _ h => h) (Or.inl ⟨by rfl, ?_⟩) ?_ ?_
                          rotate_left
                          · intro w'
                            go_simp
                            with_reducible rfl
                          rotate_left
                          · simp only [Act.put, List.setIfInBounds_toArray, List.set_cons_zero, List.set_cons_succ, z0t, z0z]
                            rfl
                          refine z1b (i := 18) (N := some 75) (v := ?_) (a' := ?_) #[true, true, true, true, true, true, true, true, false, true, true, true, true, true, true, false, false, false, true, false, false, false, false, false] rfl rfl (z0x HT_.out (by kernel_rfl)) (fun _ _ _ h => h) (Or.inl ⟨by rfl, ?_⟩) ?_ ?_
                          rotate_left
                          · intro w'
                            go_simp
                            with_reducible rfl
                          rotate_left
                          · simp only [Act.put, List.setIfInBounds_toArray, List.set_cons_zero, List.set_cons_succ, z0t, z0z]
                            rfl
                          refine z1b (i := 19) (N := some 76) (v := ?_) (a' := ?_) #[true, true, true, true, true, true, true, true, false, true, true, true, true, true, true, false, false, false, true, true, false, false, false, false] rfl rfl (z0x HT_.out (by kernel_rfl)) (fun _ _ _ h => h) (Or.inl ⟨by rfl, ?_⟩) ?_ ?_
                          rotate_left
                          · intro w'
                            go_simp
                            with_reducible rfl
                          rotate_left
                          · simp only [Act.put, List.setIfInBounds_toArray, List.set_cons_zero, List.set_cons_succ, z0t, z0z]
                            rfl
                          refine z5s (i := 8) (N := some 65) (v := ?_) (a' := ?_) #[true, true, true, true, true, true, true, true, true, true, true, true, true, true, true, false, false, false, true, true, false, false, false, false] rfl rfl (z3j HT_.out HW_.out (by kernel_rfl)) (fun _ _ _ h => h) (Or.inl ⟨by rfl, ?_⟩) hHeld ?_ ?_
                          rotate_left
                          · intro w' s0
                            go_simp
                            with_reducible rfl
                          rotate_left
                          · simp only [Act.put, List.setIfInBounds_toArray, List.set_cons_zero, List.set_cons_succ, z0t, z0z]
                            rfl
                          refine one_ (i := 15) (N := some 72) #[true, true, true, true, true, true, true, true, true, true, true, true, true, true, true, true, false, false, true, true, false, false, false, false] rfl rfl (z6k HT_.out (by kernel_rfl)) (by decide) (fun K hK => ?_)
                          refine goes_ Tryz.func69 (by kernel_rfl) rfl #[.slice (some ad219) l0.length c0, .int .i64 (wrap64 ((ji25) + 1))] (by rfl) rfl rfl (by (try simp only [List.map_toArray, List.map_cons, List.map_nil]); rfl) ?_
                          with_reducible refine (z0g.calls _ _ l0 (wrap64 ((ji25) + 1)) t220 _ ?side1 ?side2 A28.out).mono ?_
                          (case side1 => repeat (exact (Kd.z1q HR0.out HB.out)))
                          (case side2 => exact HC0.out)
                          rintro e w' ⟨rfl, ⟨nd, rfl⟩⟩
                          refine ⟨_, rfl, ?_⟩
                          have p33 : 0 ≤ (x9_3 : Int) := of_decide_eq_true (by (with_reducible assumption))
                          have q33 : (x9_3 : Int) < ((x8_3.length : Int) : Int) := of_decide_eq_true (by (with_reducible assumption))
                          obtain ⟨go33, co33, eo33, gb33, gl33, cl33, HG33⟩ := Kd.R_form HO_8.out (by omega)
                          (cases eo33)
                          have GB33 := y9.mk gb33
                          have GG33 := y9.mk HG33
                          clear gb33 gl33 HG33
                          obtain ⟨hx33_0, hf33_0⟩ := Kd.z4j 0 HO_8.out (x9_3 : Int) p33 q33
                          replace p33 := eq_true p33
                          replace q33 := eq_true q33
                          have HP36 := Kd.R_putn HO_8.out (x9_3 : Int) (Int.tmod (ji31) 4294967296)
                          rw [← Ny221.out] at HP36
                          have HQ36 := y9.mk HP36
                          clear HP36
                          refine hK.out _ _ (((HB.out.cell (World.block_lt_of_cell? w _ hw219_0)).trans hw219_0)) (fun hHeld => ?_)
                          clear hK K
                          refine norm_ (a' := ?_) ?_ ?_
                          rotate_left
                          · show Act.put _ (some 72) _ = _
                            simp only [Act.put, List.setIfInBounds_toArray, List.set_cons_zero, List.set_cons_succ, z0t, z0z]
                            rfl
                          refine z1b (i := 16) (N := some 73) (v := ?_) (a' := ?_) #[true, true, true, true, true, true, true, true, true, true, true, true, true, true, true, true, true, false, true, true, false, false, false, false] rfl rfl (z0x HT_.out (by kernel_rfl)) (fun _ _ _ h => h) (Or.inl ⟨by rfl, ?_⟩) ?_ ?_
                          rotate_left
                          · intro w'
                            go_simp
                            with_reducible rfl
                          rotate_left
                          · simp only [Act.put, List.setIfInBounds_toArray, List.set_cons_zero, List.set_cons_succ, z0t, z0z]
                            rfl
                          refine z1b (i := 17) (N := some 74) (v := ?_) (a' := ?_) #[true, true, true, true, true, true, true, true, true, true, true, true, true, true, true, true, true, true, true, true, false, false, false, false] rfl rfl (z0x HT_.out (by kernel_rfl)) (fun _ _ _ h => h) (Or.inl ⟨by rfl, ?_⟩) ?_ ?_
                          rotate_left
                          · intro w'
                            go_simp
                            with_reducible rfl
                          rotate_left
                          · simp only [Act.put, List.setIfInBounds_toArray, List.set_cons_zero, List.set_cons_succ, z0t, z0z]
                            rfl
                          refine z1b (i := 20) (N := some 77) (v := ?_) (a' := ?_) #[true, true, true, true, true, true, true, true, true, true, true, true, true, true, true, true, true, true, true, true, true, false, false, false] rfl rfl (z0x HT_.out (by kernel_rfl)) (fun _ _ _ h => h) (Or.inl ⟨by rfl, ?_⟩) ?_ ?_
                          rotate_left
                          · intro w'
                            go_simp
                            with_reducible rfl
                          rotate_left
                          · simp only [Act.put, List.setIfInBounds_toArray, List.set_cons_zero, List.set_cons_succ, z0t, z0z]
                            rfl
                          refine z1b (i := 21) (N := some 78) (v := ?_) (a' := ?_) #[true, true, true, true, true, true, true, true, true, true, true, true, true, true, true, true, true, true, true, true, true, true, false, false] rfl rfl (z0x HT_.out (by kernel_rfl)) (fun _ _ _ h => h) (Or.inl ⟨by rfl, ?_⟩) ?_ ?_
                          rotate_left
                          · intro w'
                            go_simp
                            with_reducible rfl
                          rotate_left
                          · simp only [Act.put, List.setIfInBounds_toArray, List.set_cons_zero, List.set_cons_succ, z0t, z0z]
                            rfl
                          refine z1b (i := 22) (N := some 79) (v := ?_) (a' := ?_) #[true, true, true, true, true, true, true, true, true, true, true, true, true, true, true, true, true, true, true, true, true, true, true, false] rfl rfl (z0x HT_.out (by kernel_rfl)) (fun _ _ _ h => h) (Or.inl ⟨by rfl, ?_⟩) ?_ ?_
                          rotate_left
                          · intro w'
                            go_simp
                            with_reducible rfl
                          rotate_left
                          · simp only [Act.put, List.setIfInBounds_toArray, List.set_cons_zero, List.set_cons_succ, z0t, z0z]
                            rfl
                          refine last_ (i := 23) (N := none) #[true, true, true, true, true, true, true, true, true, true, true, true, true, true, true, true, true, true, true, true, true, true, true, true] rfl rfl (z6k HT_.out (by kernel_rfl)) (by decide) (fun K hK => ?_)
                          refine skip_ (w1 := ?_) (by rfl) rfl ?_ ?_
                          rotate_left
                          · go_simp
                            rfl
                          refine hK.out _ _ ?_
                          clear hK K
                          refine done_ (z5i HT_.out (by kernel_rfl)) ?_
                          try go_wp2
                          go_roundg k3
                          case measure => have := HK1.out; have := HJ7.out; have := HK3.out; omega
                          case rel => exact ⟨(y221), (wrap64 (x9_3 + 1)), (by rfl), H', ⟨by have := HK1.out; have := HJ7.out; have := HK3.out; omega⟩, ⟨by (with_reducible repeat (fail)); exact HQ36.out⟩, ⟨by repeat ((with_reducible first | exact HB.out | apply z0p | refine z3a ?_ GB33.out))⟩⟩
                        rw [if_neg c32] at H
                        exact absurd H (by simp)
                      rw [if_neg c30] at H
                      exact absurd H (by simp)
                    rw [if_neg c27] at H
                    exact absurd H (by simp)
                  rw [if_neg c26] at H
                  exact absurd H (by simp)
                rw [if_neg c24] at H
                have c24b0 : decide (x9_3 < (x8_3.length : Int)) = false := decide_eq_false c24
                clear c24
                replace H := Option.bind_eq_some_iff.mp H
                obtain ⟨t222, A370, H⟩ := H
                have A37 := y9.mk A370
                clear A370
                simp only [Option.some.injEq, Prod.mk.injEq] at H
                obtain ⟨rfl, rfl⟩ := H
                obtain ⟨Ao38, co38, eo38⟩ := Kd.z1g HO_8.out
                subst eo38
                go_wp2_with (((with_reducible refine z0y (f := 68) rfl ?_); refine z1p (some 81) rfl rfl Tryz.func68 (by kernel_rfl) rfl #[.slice Ao38 x8_3.length co38] rfl (by (try simp only [List.map_toArray, List.map_cons, List.map_nil]); rfl) ?_; (with_reducible refine (z0r.calls k3 (fun k_ => some k_ = (.slice Ao38 x8_3.length co38 : Value).ownBlock) (.slice Ao38 x8_3.length co38) x8_3 t222 w _ ?side1 ?side2 A37.out).mono ?_); (case side1 => repeat ((with_reducible exact HB.out))); (case side2 => exact Kd.z7d rfl HO_8.out); rintro e w39 ⟨v223, rfl, ho0, hb, hkp⟩; refine ⟨_, rfl, ?_⟩; have n0_ := y9.mk (Kd.z2l (ok' := fun k_ => True) ho0 (fun k_ hk_ => trivial)); have n1_ := y9.mk (hb); clear HB; clear HO_8; have HO224 := n0_; have HB := n1_; clear n0_ n1_; (try clear hb); (try clear hkp); (try clear ho0)))
                go_ret2
                exact ⟨_, by rfl, by (with_reducible repeat (fail)); exact HO224.out, by repeat ((with_reducible exact HB.out))⟩
          rw [if_neg c21] at H
          exact absurd H (by simp)
        rw [if_neg c20] at H
        exact absurd H (by simp)
end Go.Proofs.YtjpiplplohapnaaGreatDoor.PText
namespace Go.Proofs.YtjpiplplohapnaaGreatDoor.Big
open Go.RowKit Go.Proofs.YtjpiplplohapnaaGreatDoorW.PrintWords Go.Proofs.YtjpiplplohapnaaGreatDoorW.PrintLast Go.Proofs.YtjpiplplohapnaaGreatDoorW.PrintMore
open Go.Proofs.YtjpiplplohapnaaGreatDoor.PText
theorem B_split (r : Nat) (hr : r < 32) : B = 2 ^ r * 2 ^ (32 - r) := by
  rw [← Nat.pow_add, show r + (32 - r) = 32 by omega]
theorem mod_B_mod (y r : Nat) (hr : r < 32) : y % B % 2 ^ r = y % 2 ^ r :=
  Nat.mod_mod_of_dvd _ ⟨2 ^ (32 - r), B_split r hr⟩
theorem pow_n (n q r : Nat) (hn : n = 32 * q + r) : 2 ^ n = B ^ q * 2 ^ r := by rw [hn, Nat.pow_add, B_eq]
theorem dig_down (a n q r j : Nat) (hn : n = 32 * q + r) (hr : r < 32) : dig (a / 2 ^ n) j = (dig a (j + q) + dig a (j + q + 1) * B) / 2 ^ r % B := by
  obtain ⟨y, hy⟩ : ∃ y, y = a / B ^ (j + q) := ⟨_, rfl⟩
  have e1 : dig (a / 2 ^ n) j = y / 2 ^ r % B := by
    unfold dig
    rw [hy, Nat.div_div_eq_div_mul, Nat.div_div_eq_div_mul, pow_n n q r hn, Nat.pow_add]
    congr 2
    rw [Nat.mul_comm (B ^ j), Nat.mul_right_comm]
  have e2 : dig a (j + q) = y % B := by unfold dig; rw [hy]
  have e3 : dig a (j + q + 1) = y / B % B := by unfold dig; rw [hy, Nat.div_div_eq_div_mul, Nat.pow_succ]
  have e4 : y % B + y / B % B * B = y % (B * B) := by rw [Nat.mod_mul, Nat.mul_comm]
  rw [e1, e2, e3, e4]
  have e5 : B * B = 2 ^ r * (2 ^ (32 - r) * B) := by rw [← Nat.mul_assoc, ← B_split r hr]
  rw [e5, Nat.mod_mul_right_div_self, Nat.mod_mod_of_dvd _ ⟨2 ^ (32 - r), Nat.mul_comm _ _⟩]
theorem down_l1 (a n q r : Nat) (fl : Bool) (hn : n = 32 * q + r) (hr : r < 32) (hq : q < ln a) (ht : ln a ≤ 10000000) :
    ∀ (d j : Nat), d + j = ln a - q → Ev (fun k => z0a.l1 k (dg a) (n : Int) fl (dgL (ln a - q) (a / 2 ^ n % B ^ j)) (j : Int)) (dg (a / 2 ^ n), fl) := by
  have hB : B = 4294967296 := rfl
  have t9 : top = 1000000000 := rfl
  have e1 : Int.tmod (n : Int) 32 = (r : Int) := by rw [Int.tmod_eq_emod_of_nonneg (by omega)]; omega
  have e2 : Int.tdiv (n : Int) 32 = (q : Int) := by rw [Int.tdiv_eq_ediv_of_nonneg (by omega)]; omega
  have hlt : a / 2 ^ n < B ^ (ln a - q) := by
    refine Nat.div_lt_of_lt_mul ?_
    have h1 := z1r a
    have h2 : B ^ ln a = B ^ q * B ^ (ln a - q) := by rw [← Nat.pow_add]; congr 1; omega
    have h3 : B ^ q ≤ 2 ^ n := by rw [pow_n n q r hn]; exact Nat.le_mul_of_pos_right _ (Nat.pow_pos (by omega))
    exact Nat.lt_of_lt_of_le (h2 ▸ h1) (Nat.mul_le_mul_right _ h3)
  intro d
  induction d with
  | zero =>
    intro j hd
    obtain rfl : j = ln a - q := by omega
    rw [Nat.mod_eq_of_lt hlt]
    refine Ev.step (f := fun k => (z0r.f k (dgL (ln a - q) (a / 2 ^ n))).bind fun t => some (t, fl)) (fun k => ?_) (Ev.bind (f := fun _ t => some (t, fl)) (z6z _ _ (by omega) hlt) (Ev.now _))
    simp only [z0a.l1]
    rw [z3b, if_neg (by omega)]
  | succ d ih =>
    intro j hd
    refine Ev.step (fun k => ?_) (ih (j + 1) (by omega))
    simp only [z0a.l1]
    rw [e1, e2, w64 (x := (q : Int)) (by omega) (by omega)]
    rw [show (j : Int) + (q : Int) = ((j + q : Nat) : Int) by omega, w64 (x := ((j + q : Nat) : Int)) (by omega) (by omega)]
    rw [show ((j + q : Nat) : Int) + 1 = ((j + q + 1 : Nat) : Int) by omega, w64 (x := ((j + q + 1 : Nat) : Int)) (by omega) (by omega)]
    rw [z1c, z3b, if_pos (by omega), if_pos (by omega), if_pos (by omega), z4w, Option.bind_some, if_pos (by omega), if_pos (by omega)]
    have x1 := z4d a (j + q)
    have x2 := z4d a (j + q + 1)
    rw [rd_dg _ _ (by omega)]
    have hs : (((dig a (j + q) : Nat) : Int) + IntKind.u64.wrap (((dig a (j + q + 1) : Nat) : Int) * 4294967296)) = ((dig a (j + q) + dig a (j + q + 1) * 4294967296 : Nat) : Int) := by
      rw [wu (by omega) (by omega)]; omega
    rw [hs, wun _ (by omega)]
    have hsh : shr .u64 ((dig a (j + q) + dig a (j + q + 1) * 4294967296 : Nat) : Int) (r : Int) = (((dig a (j + q) + dig a (j + q + 1) * 4294967296) / 2 ^ r : Nat) : Int) := by
      unfold shr
      rw [Nat.min_eq_left (by show ((r : Int)).toNat ≤ 64; omega), Int.toNat_natCast]
      rw [Int.natCast_ediv, Int.natCast_pow]
      rfl
    rw [hsh]
    have hm : Int.tmod (((dig a (j + q) + dig a (j + q + 1) * 4294967296) / 2 ^ r : Nat) : Int) 4294967296 = ((dig (a / 2 ^ n) j : Nat) : Int) := by
      rw [Int.tmod_eq_emod_of_nonneg (Int.natCast_nonneg _), dig_down a n q r j hn hr, hB]; rfl
    rw [hm, Int.toNat_natCast, z5v _ _ _ _ (by omega) (z4d _ _)]
    have hz : dig (a / 2 ^ n % B ^ j) j = 0 := z5k (Nat.mod_lt _ (z2x j))
    have hsd := z8z (a / 2 ^ n % B ^ j) j (dig (a / 2 ^ n) j)
    rw [hz, Nat.zero_add] at hsd
    rw [hsd, ← z4s, w64 (by omega) (by omega)]
    rfl
theorem down_j1 (a n q r : Nat) (fl : Bool) (hn : n = 32 * q + r) (hr : r < 32) (hq : q < ln a) (ht : ln a ≤ 10000000) :
    Ev (fun k => z0a.j1 k (dg a) (n : Int) fl) (dg (a / 2 ^ n), fl) := by
  have e2 : Int.tdiv (n : Int) 32 = (q : Int) := by rw [Int.tdiv_eq_ediv_of_nonneg (by omega)]; omega
  have h := down_l1 a n q r fl hn hr hq ht (ln a - q) 0 (by omega)
  refine Ev.step (fun k => ?_) h
  simp only [z0a.j1]
  rw [e2, w64 (x := (q : Int)) (by omega) (by omega), z1c, show ((ln a : Nat) : Int) - (q : Int) = ((ln a - q : Nat) : Int) by omega, w64 (x := ((ln a - q : Nat) : Int)) (by omega) (by omega)]
  rw [if_pos (by omega), Int.toNat_natCast, if_pos (by omega), Nat.pow_zero, Nat.mod_one, z6o]
  rfl
theorem down_l0 (a n q r : Nat) (hn : n = 32 * q + r) (hr : r < 32) (hq : q < ln a) (ht : ln a ≤ 10000000) :
    ∀ (d i : Nat), d + i = q → Ev (fun k => z0a.l0 k (dg a) (n : Int) (decide (a % B ^ i ≠ 0)) (i : Int)) (dg (a / 2 ^ n), decide (a % 2 ^ n ≠ 0)) := by
  have hB : B = 4294967296 := rfl
  have e1 : Int.tmod (n : Int) 32 = (r : Int) := by rw [Int.tmod_eq_emod_of_nonneg (by omega)]; omega
  have e2 : Int.tdiv (n : Int) 32 = (q : Int) := by rw [Int.tdiv_eq_ediv_of_nonneg (by omega)]; omega
  have hsplit : a % 2 ^ n = a % B ^ q + B ^ q * (a / B ^ q % 2 ^ r) := by rw [pow_n n q r hn, Nat.mod_mul]
  have hbp := z2x q
  intro d
  induction d with
  | zero =>
    intro i hd
    obtain rfl : i = q := by omega
    by_cases hf : a % B ^ i = 0
    · rw [decide_eq_false (by simpa using hf)]
      have h2r : 2 ^ r < B := by
        have := Nat.pow_lt_pow_right (a := 2) (by omega) hr
        have : (2 : Nat) ^ 32 = B := by decide
        omega
      have hrp : 0 < 2 ^ r := Nat.pow_pos (by omega)
      refine Ev.step (fun k => ?_) (down_j1 a n i r (decide (a % 2 ^ n ≠ 0)) hn hr hq ht)
      simp only [z0a.l0]
      have hs : shl .u64 1 (r : Int) = ((2 ^ r : Nat) : Int) := by
        have := shl_ev 1 r (by omega) (by omega)
        rw [Nat.one_mul] at this
        exact this
      rw [e1, e2, w64 (x := (i : Int)) (by omega) (by omega), if_neg (by omega), if_neg (by simp), z1c, if_pos (by omega), if_pos (by omega), if_pos (by omega), hs, if_neg (by omega), rd_dg _ _ hq]
      congr 1
      have hm : Int.tmod ((dig a i : Nat) : Int) ((2 ^ r : Nat) : Int) = ((a / B ^ i % 2 ^ r : Nat) : Int) := by
        rw [Int.tmod_eq_emod_of_nonneg (by omega), ← Int.natCast_emod]
        unfold dig
        rw [mod_B_mod _ _ hr]
      rw [hm, hsplit, hf, Nat.zero_add]
      by_cases h0 : a / B ^ i % 2 ^ r = 0
      · rw [h0]; simp
      rw [decide_eq_true (Nat.mul_ne_zero (by omega) h0)]
      simpa using (by omega : ((a / B ^ i % 2 ^ r : Nat) : Int) ≠ 0)
    rw [decide_eq_true hf]
    have : decide (a % 2 ^ n ≠ 0) = true := decide_eq_true (by rw [hsplit]; exact Nat.ne_of_gt (Nat.lt_of_lt_of_le (Nat.pos_of_ne_zero hf) (Nat.le_add_right _ _)))
    rw [this]
    refine Ev.step (fun k => ?_) (down_j1 a n i r true hn hr hq ht)
    simp only [z0a.l0]
    rw [e2, w64 (x := (i : Int)) (by omega) (by omega), if_neg (by omega), if_pos (by simp)]
  | succ d ih =>
    intro i hd
    have hbi := z2x i
    have hst := z4s a i
    have hih := ih (i + 1) (by omega)
    refine Ev.step (fun k => ?_) hih
    simp only [z0a.l0]
    rw [e2, w64 (x := (q : Int)) (by omega) (by omega), if_pos (by omega), w64 (x := (i : Int) + 1) (by omega) (by omega)]
    by_cases hf : a % B ^ i = 0
    · rw [decide_eq_false (by simpa using hf), if_neg (by simp), z1c, if_pos (by omega), if_pos (by omega), rd_dg _ _ (by omega)]
      rw [hf, Nat.zero_add] at hst
      have : (((dig a i : Nat) : Int) != 0) = decide (a % B ^ (i + 1) ≠ 0) := by
        rw [hst]
        by_cases h0 : dig a i = 0
        · rw [h0]; simp
        rw [decide_eq_true (Nat.mul_ne_zero h0 (by omega))]
        simpa using (by omega : ((dig a i : Nat) : Int) ≠ 0)
      rw [this]
      rfl
    rw [decide_eq_true hf, if_pos (by simp)]
    have : decide (a % B ^ (i + 1) ≠ 0) = true := decide_eq_true (by rw [hst]; exact Nat.ne_of_gt (Nat.lt_of_lt_of_le (Nat.pos_of_ne_zero hf) (Nat.le_add_right _ _)))
    rw [this]
    rfl
theorem down_ev (a n : Nat) (hn : n ≤ 10000000) (ht : ln a ≤ 10000000) : Ev (fun k => z0a.f k (dg a) (n : Int)) (dg (a / 2 ^ n), decide (a % 2 ^ n ≠ 0)) := by
  by_cases h : 32 * ln a ≤ n
  · have hlt : a < 2 ^ n := by
      have h1 := z1r a
      rw [B_eq] at h1
      exact Nat.lt_of_lt_of_le h1 (Nat.pow_le_pow_right (by omega) h)
    refine Ev.congr (f := fun _ => some (dg (a / 2 ^ n), decide (a % 2 ^ n ≠ 0))) (fun k => ?_) (Ev.now _)
    unfold z0a.f
    rw [z1c, w64 (by omega) (by omega), if_pos (by omega), Nat.div_eq_of_lt hlt, Nat.mod_eq_of_lt hlt]
    have : decide (((ln a : Nat) : Int) > 0) = decide (a ≠ 0) := by
      by_cases h0 : a = 0
      · subst h0; simp [z3z]
      have := z5m h0
      rw [decide_eq_true h0, decide_eq_true (by omega)]
    rw [this]
    simp [dg, z3z, dgL]
  refine Ev.congr (fun k => ?_) (down_l0 a n (n / 32) (n % 32) (by omega) (by omega) (by omega) ht (n / 32) 0 (by omega))
  unfold z0a.f
  rw [z1c, w64 (by omega) (by omega), if_neg (by omega), Nat.pow_zero, Nat.mod_one]
  rfl
end Go.Proofs.YtjpiplplohapnaaGreatDoor.Big
