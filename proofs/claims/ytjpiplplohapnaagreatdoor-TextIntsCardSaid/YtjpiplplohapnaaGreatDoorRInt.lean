/- Functions of the program as Lean functions, each with the walk that its Go text comes to just this (sections of the kit's own print, laid by wip/tools/split.py). -/
import Derived.Test.YtjpiplplohapnaaGreatDoorRBase
import Derived.Test.YtjpiplplohapnaaGreatDoorRDig
import Derived.Test.YtjpiplplohapnaaGreatDoorRMore
namespace Go.Proofs.YtjpiplplohapnaaGreatDoor.PText
open Go.RowKit Go.Proofs.YtjpiplplohapnaaGreatDoorW.PrintWords Go.Proofs.YtjpiplplohapnaaGreatDoorW.PrintLast Go.Proofs.YtjpiplplohapnaaGreatDoorW.PrintMore
attribute [local go_sem] max2_int min2_int max_two min_two max_three min_three max_four min_four   -- for this text's walks alone
set_option linter.unusedVariables false
set_option linter.unusedSimpArgs false

/-! ### tenorref2_Int: function 18 -/
mutual
def tenorref2_Int.j0 : Nat → ByteArray → Bool → Option (Int × Bool)
  | 0, _, _ => none
  | k + 1, x0, x16 => if x16 = true then (some (0, false)) else (if 0 < (x0.size : Int) then (if (bt x0 0) = 45 then (tenorref2_Int.j1 k x0 1) else (tenorref2_Int.j1 k x0 0)) else (none))
def tenorref2_Int.j1 : Nat → ByteArray → Int → Option (Int × Bool)
  | 0, _, _ => none
  | k + 1, x0, x4 => tenorref2_Int.l0 k x0 x4 ([] : List Int) x4
def tenorref2_Int.l0 : Nat → ByteArray → Int → List Int → Int → Option (Int × Bool)
  | 0, _, _, _, _ => none
  | k + 1, x0, x4, x5, x6 => if x6 < (x0.size : Int) then (if 0 ≤ x6 then (if (bt x0 x6) < 48 then (some (0, false)) else (if (bt x0 x6) > 57 then (some (0, false)) else ((tenorref2_more.f k x5 (bt x0 x6)).bind fun t350 => (tenorref2_Int.l0 k x0 x4 t350 (wrap64 (x6 + 1)))))) else (none)) else (if x4 = (x0.size : Int) then (tenorref2_Int.j3 k x4 x5 true) else (if 0 ≤ x4 then (if x4 < (x0.size : Int) then (if (bt x0 x4) = 48 then (if (x0.size : Int) > 1 then (tenorref2_Int.j3 k x4 x5 true) else ((tenorref1_Len.f k x5).bind fun t353 => (tenorref2_Int.j3 k x4 x5 (decide (t353 > 64))))) else ((tenorref1_Len.f k x5).bind fun t354 => (tenorref2_Int.j3 k x4 x5 (decide (t354 > 64))))) else (none)) else (none)))
def tenorref2_Int.j3 : Nat → Int → List Int → Bool → Option (Int × Bool)
  | 0, _, _, _ => none
  | k + 1, x4, x5, x61 => if x61 = true then (some (0, false)) else (tenorref2_Int.l1 k x4 x5 0 (wrap64 ((x5.length : Int) - 1)))
def tenorref2_Int.l1 : Nat → Int → List Int → Int → Int → Option (Int × Bool)
  | 0, _, _, _, _ => none
  | k + 1, x4, x5, x7, x8 => if x8 ≥ 0 then (if 0 ≤ x8 then (if x8 < (x5.length : Int) then (tenorref2_Int.l1 k x4 x5 (IntKind.u64.wrap ((IntKind.u64.wrap (x7 * 4294967296)) + (rd x5 x8))) (wrap64 (x8 - 1))) else (none)) else (none)) else (if x4 = 1 then (if x7 > 9223372036854775808 then (some (0, false)) else (some (wrap64 ((wrap64 (-(wrap64 (IntKind.u64.wrap (x7 - 1))))) - 1), true))) else (if x7 ≥ 9223372036854775808 then (some (0, false)) else (some (wrap64 (x7), true))))
end
def tenorref2_Int.f (k : Nat) (a0 : ByteArray) : Option (Int × Bool) := if (a0.size : Int) = 0 then (tenorref2_Int.j0 k a0 true) else (tenorref2_Int.j0 k a0 (decide ((a0.size : Int) > 20)))
theorem tenorref2_Int.mono_l : ∀ k, (∀ y0 y1, LeO (tenorref2_Int.j0 k y0 y1) (tenorref2_Int.j0 (k + 1) y0 y1)) ∧ (∀ y0 y1, LeO (tenorref2_Int.j1 k y0 y1) (tenorref2_Int.j1 (k + 1) y0 y1)) ∧ (∀ y0 y1 y2 y3, LeO (tenorref2_Int.l0 k y0 y1 y2 y3) (tenorref2_Int.l0 (k + 1) y0 y1 y2 y3)) ∧ (∀ y0 y1 y2, LeO (tenorref2_Int.j3 k y0 y1 y2) (tenorref2_Int.j3 (k + 1) y0 y1 y2)) ∧ (∀ y0 y1 y2 y3, LeO (tenorref2_Int.l1 k y0 y1 y2 y3) (tenorref2_Int.l1 (k + 1) y0 y1 y2 y3))
  | 0 => ⟨fun _ _ r h => by simp [tenorref2_Int.j0] at h, fun _ _ r h => by simp [tenorref2_Int.j1] at h, fun _ _ _ _ r h => by simp [tenorref2_Int.l0] at h, fun _ _ _ r h => by simp [tenorref2_Int.j3] at h, fun _ _ _ _ r h => by simp [tenorref2_Int.l1] at h⟩
  | k + 1 => by
    obtain ⟨ih0, ih1, ih2, ih3, ih4⟩ := tenorref2_Int.mono_l k
    refine ⟨?_, ?_, ?_, ?_, ?_⟩
    · intro y0 y1
      unfold tenorref2_Int.j0
      repeat' first
      | (with_reducible exact ih0 _ _)
      | (with_reducible exact ih1 _ _)
      | (with_reducible exact ih2 _ _ _ _)
      | (with_reducible exact ih3 _ _ _)
      | (with_reducible exact ih4 _ _ _ _)
      | (with_reducible exact tenorref1_Len.mono _ _)
      | (with_reducible exact tenorref2_more.mono _ _ _)
      | (with_reducible exact LeO.refl _)
      | (with_reducible exact LeO.none _)
      | (with_reducible refine LeO.ite ?_ ?_)
      | (with_reducible refine LeO.bind ?_ (fun _ => ?_))
      | exact ih0 _ _
      | exact ih1 _ _
      | exact ih2 _ _ _ _
      | exact ih3 _ _ _
      | exact ih4 _ _ _ _
      | exact tenorref1_Len.mono _ _
      | exact tenorref2_more.mono _ _ _
      | exact LeO.none _
      | refine LeO.ite ?_ ?_
      | refine LeO.bind ?_ (fun _ => ?_)
    · intro y0 y1
      unfold tenorref2_Int.j1
      repeat' first
      | (with_reducible exact ih0 _ _)
      | (with_reducible exact ih1 _ _)
      | (with_reducible exact ih2 _ _ _ _)
      | (with_reducible exact ih3 _ _ _)
      | (with_reducible exact ih4 _ _ _ _)
      | (with_reducible exact tenorref1_Len.mono _ _)
      | (with_reducible exact tenorref2_more.mono _ _ _)
      | (with_reducible exact LeO.refl _)
      | (with_reducible exact LeO.none _)
      | (with_reducible refine LeO.ite ?_ ?_)
      | (with_reducible refine LeO.bind ?_ (fun _ => ?_))
      | exact ih0 _ _
      | exact ih1 _ _
      | exact ih2 _ _ _ _
      | exact ih3 _ _ _
      | exact ih4 _ _ _ _
      | exact tenorref1_Len.mono _ _
      | exact tenorref2_more.mono _ _ _
      | exact LeO.none _
      | refine LeO.ite ?_ ?_
      | refine LeO.bind ?_ (fun _ => ?_)
    · intro y0 y1 y2 y3
      unfold tenorref2_Int.l0
      repeat' first
      | (with_reducible exact ih0 _ _)
      | (with_reducible exact ih1 _ _)
      | (with_reducible exact ih2 _ _ _ _)
      | (with_reducible exact ih3 _ _ _)
      | (with_reducible exact ih4 _ _ _ _)
      | (with_reducible exact tenorref1_Len.mono _ _)
      | (with_reducible exact tenorref2_more.mono _ _ _)
      | (with_reducible exact LeO.refl _)
      | (with_reducible exact LeO.none _)
      | (with_reducible refine LeO.ite ?_ ?_)
      | (with_reducible refine LeO.bind ?_ (fun _ => ?_))
      | exact ih0 _ _
      | exact ih1 _ _
      | exact ih2 _ _ _ _
      | exact ih3 _ _ _
      | exact ih4 _ _ _ _
      | exact tenorref1_Len.mono _ _
      | exact tenorref2_more.mono _ _ _
      | exact LeO.none _
      | refine LeO.ite ?_ ?_
      | refine LeO.bind ?_ (fun _ => ?_)
    · intro y0 y1 y2
      unfold tenorref2_Int.j3
      repeat' first
      | (with_reducible exact ih0 _ _)
      | (with_reducible exact ih1 _ _)
      | (with_reducible exact ih2 _ _ _ _)
      | (with_reducible exact ih3 _ _ _)
      | (with_reducible exact ih4 _ _ _ _)
      | (with_reducible exact tenorref1_Len.mono _ _)
      | (with_reducible exact tenorref2_more.mono _ _ _)
      | (with_reducible exact LeO.refl _)
      | (with_reducible exact LeO.none _)
      | (with_reducible refine LeO.ite ?_ ?_)
      | (with_reducible refine LeO.bind ?_ (fun _ => ?_))
      | exact ih0 _ _
      | exact ih1 _ _
      | exact ih2 _ _ _ _
      | exact ih3 _ _ _
      | exact ih4 _ _ _ _
      | exact tenorref1_Len.mono _ _
      | exact tenorref2_more.mono _ _ _
      | exact LeO.none _
      | refine LeO.ite ?_ ?_
      | refine LeO.bind ?_ (fun _ => ?_)
    · intro y0 y1 y2 y3
      unfold tenorref2_Int.l1
      repeat' first
      | (with_reducible exact ih0 _ _)
      | (with_reducible exact ih1 _ _)
      | (with_reducible exact ih2 _ _ _ _)
      | (with_reducible exact ih3 _ _ _)
      | (with_reducible exact ih4 _ _ _ _)
      | (with_reducible exact tenorref1_Len.mono _ _)
      | (with_reducible exact tenorref2_more.mono _ _ _)
      | (with_reducible exact LeO.refl _)
      | (with_reducible exact LeO.none _)
      | (with_reducible refine LeO.ite ?_ ?_)
      | (with_reducible refine LeO.bind ?_ (fun _ => ?_))
      | exact ih0 _ _
      | exact ih1 _ _
      | exact ih2 _ _ _ _
      | exact ih3 _ _ _
      | exact ih4 _ _ _ _
      | exact tenorref1_Len.mono _ _
      | exact tenorref2_more.mono _ _ _
      | exact LeO.none _
      | refine LeO.ite ?_ ?_
      | refine LeO.bind ?_ (fun _ => ?_)
theorem tenorref2_Int.mono : ∀ a0 k, LeO (tenorref2_Int.f k a0) (tenorref2_Int.f (k + 1) a0) := by
  intro a0 k
  obtain ⟨ih0, ih1, ih2, ih3, ih4⟩ := tenorref2_Int.mono_l k
  unfold tenorref2_Int.f
  repeat' first
      | (with_reducible exact ih0 _ _)
      | (with_reducible exact ih1 _ _)
      | (with_reducible exact ih2 _ _ _ _)
      | (with_reducible exact ih3 _ _ _)
      | (with_reducible exact ih4 _ _ _ _)
      | (with_reducible exact tenorref1_Len.mono _ _)
      | (with_reducible exact tenorref2_more.mono _ _ _)
      | (with_reducible exact LeO.refl _)
      | (with_reducible exact LeO.none _)
      | (with_reducible refine LeO.ite ?_ ?_)
      | (with_reducible refine LeO.bind ?_ (fun _ => ?_))
      | exact ih0 _ _
      | exact ih1 _ _
      | exact ih2 _ _ _ _
      | exact ih3 _ _ _
      | exact ih4 _ _ _ _
      | exact tenorref1_Len.mono _ _
      | exact tenorref2_more.mono _ _ _
      | exact LeO.none _
      | refine LeO.ite ?_ ?_
      | refine LeO.bind ?_ (fun _ => ?_)
set_option maxHeartbeats 8000000 in
set_option maxRecDepth 100000 in
theorem tenorref2_Int.calls (k : Nat) (a0 : ByteArray) (r1 : Int) (r2 : Bool) (w : World) (h : tenorref2_Int.f k a0 = some (r1, r2)) :
    Calls Tryz.prog 18 #[.string a0] w fun e w' => e = .returned (.tuple #[.int .i64 r1, .bool r2]) ∧ Below w.heap.size w w' := by
  have HB := Aside0.mk (Below.refl w.heap.size w)
  have H : (if (a0.size : Int) = 0 then (tenorref2_Int.j0 k a0 true) else (tenorref2_Int.j0 k a0 (decide ((a0.size : Int) > 20)))) = some (r1, r2) := h
  clear h
  have HC2 := Aside0.mk H
  clear H
  go_enter Tryz.func18, Tryz.ntmps18
  go_upto_region 1 with (fail)
  go_cut [16] (fun v16 wc => ∃ (kq : Nat) (x16_1 : Bool), v16 = .bool x16_1 ∧ Aside0 (tenorref2_Int.j0 kq a0 x16_1 = some (r1, r2)) ∧ Aside0 (kq ≤ k) ∧ Aside0 (Below w.heap.size w wc))
  case first =>
    have H := HC2.out
    clear HC2
    by_cases c3 : (a0.size : Int) = 0
    · rw [if_pos c3] at H
      have c3b0 : ((a0.size : Int) == 0) = true := beq_iff_eq.mpr c3
      have c3b1 : ((a0.size : Int) != 0) = false := bne_eq_false_iff_eq.mpr c3
      clear c3
      (first | rw [c3b0] | (simp only [i64_w, i32_w]; rw [c3b0]) | skip)
      have H' := Aside0.mk H
      clear H
      go_wp2
      go_meet
      case rel => exact ⟨_, (true), (by first | rfl | (simp; done) | (simp [*]; done)), H', ⟨by first | omega | exact Nat.le_refl _⟩, ⟨by repeat (first | (with_reducible first | exact HB.out | apply below_alloc | apply pw_below_drewN | apply below_drew1) | exact HB.out)⟩⟩
    · rw [if_neg c3] at H
      have c3b0 : ((a0.size : Int) == 0) = false := beq_eq_false_iff_ne.mpr c3
      have c3b1 : ((a0.size : Int) != 0) = true := bne_iff_ne.mpr c3
      (first | rw [c3b0] | (simp only [i64_w, i32_w]; rw [c3b0]) | skip)
      have H' := Aside0.mk H
      clear H
      go_wp2
      go_meet
      case rel => exact ⟨_, (decide ((a0.size : Int) > 20)), (by first | rfl | (simp; done) | (simp [*]; done)), H', ⟨by first | omega | exact Nat.le_refl _⟩, ⟨by repeat (first | (with_reducible first | exact HB.out | apply below_alloc | apply pw_below_drewN | apply below_drew1) | exact HB.out)⟩⟩
  case rest =>
    clear HC2
    try clear c1
    try clear p2
    try clear c3
    try clear c3b0
    try clear c3b1
    obtain ⟨kq, x16_1, rfl, HA, HJ1, HB⟩ := hcut
    cases kq with
    | zero => exact absurd HA.out (by simp [tenorref2_Int.j0])
    | succ kj1 =>
      have H := HA.out
      clear HA
      simp only [tenorref2_Int.j0] at H
      by_cases c4 : x16_1 = true
      · subst c4
        have H1 : (some (0, false)) = some (r1, r2) := by rw [if_pos rfl] at H; exact H
        clear H
        have H := H1
        clear H1
        simp only [Option.some.injEq, Prod.mk.injEq] at H
        obtain ⟨rfl, rfl⟩ := H
        go_wp2
        go_ret2
        exact ⟨by first | rfl | (simp [errW_none, errW_some] <;> rfl) | (simp [*, errW_none, errW_some] <;> rfl), by repeat (first | (with_reducible first | exact HB.out | apply below_alloc | apply pw_below_drewN | apply below_drew1) | exact HB.out)⟩
      · replace c4 := Bool.eq_false_iff.mpr c4
        subst c4
        have H1 : (if 0 < (a0.size : Int) then (if (bt a0 0) = 45 then (tenorref2_Int.j1 kj1 a0 1) else (tenorref2_Int.j1 kj1 a0 0)) else (none)) = some (r1, r2) := by rw [if_neg (show ¬ (false = true) by decide)] at H; exact H
        clear H
        have H := H1
        clear H1
        by_cases c5 : 0 < (a0.size : Int)
        · rw [if_pos c5] at H
          have c5b0 : decide (0 < (a0.size : Int)) = true := decide_eq_true c5
          have c5b1 : decide (0 < a0.size) = true := decide_eq_true (by omega)
          clear c5
          have HC7 := Aside0.mk H
          clear H
          have p6 : 0 ≤ (0 : Int) := (by omega)
          have q6 : 0 < a0.size := (by have : (0 : Int) < (a0.size : Int) := of_decide_eq_true (by first | (with_reducible assumption) | assumption); omega)
          have hx6 : ∀ h : 0 < a0.size, ((a0[0]'h).toNat : Int) = bt a0 0 := bt_at a0 0
          clear p6
          have qi6 : (0 < (a0.size : Int)) = True := eq_true (of_decide_eq_true (by first | (with_reducible assumption) | assumption))
          replace q6 := eq_true q6
          go_upto_if 19 with (fail)
          go_cut [4] (fun v4 wc => ∃ (kq : Nat) (x4_6 : Int), v4 = .int .i64 x4_6 ∧ Aside0 (tenorref2_Int.j1 kq a0 x4_6 = some (r1, r2)) ∧ Aside0 (kq ≤ kj1) ∧ Aside0 (Below w.heap.size w wc))
          case first =>
            have H := HC7.out
            clear HC7
            by_cases c8 : (bt a0 0) = 45
            · rw [if_pos c8] at H
              have c8b0 : ((bt a0 0) == 45) = true := beq_iff_eq.mpr c8
              have c8b1 : ((bt a0 0) != 45) = false := bne_eq_false_iff_eq.mpr c8
              clear c8
              (first | rw [c8b0] | (simp only [i64_w, i32_w]; rw [c8b0]) | skip)
              have H' := Aside0.mk H
              clear H
              go_wp2
              go_meet
              case rel => exact ⟨_, (1), (by first | rfl | (simp; done) | (simp [*]; done)), H', ⟨by have := HJ1.out; first | omega | exact Nat.le_refl _⟩, ⟨by repeat (first | (with_reducible first | exact HB.out | apply below_alloc | apply pw_below_drewN | apply below_drew1) | exact HB.out)⟩⟩
            · rw [if_neg c8] at H
              have c8b0 : ((bt a0 0) == 45) = false := beq_eq_false_iff_ne.mpr c8
              have c8b1 : ((bt a0 0) != 45) = true := bne_iff_ne.mpr c8
              (first | rw [c8b0] | (simp only [i64_w, i32_w]; rw [c8b0]) | skip)
              have H' := Aside0.mk H
              clear H
              go_wp2
              go_meet
              case rel => exact ⟨_, (0), (by first | rfl | (simp; done) | (simp [*]; done)), H', ⟨by have := HJ1.out; first | omega | exact Nat.le_refl _⟩, ⟨by repeat (first | (with_reducible first | exact HB.out | apply below_alloc | apply pw_below_drewN | apply below_drew1) | exact HB.out)⟩⟩
          case rest =>
            clear HC7
            try clear c1
            try clear p2
            try clear c3
            try clear c3b0
            try clear c3b1
            try clear c4
            try clear c5
            try clear c5b0
            try clear c5b1
            try clear p6
            try clear q6
            try clear hx6
            try clear qi6
            try clear c8
            try clear c8b0
            try clear c8b1
            try clear p2
            try clear p6
            try clear q6
            obtain ⟨kq, x4_6, rfl, HA, HJ6, HB⟩ := hcut
            cases kq with
            | zero => exact absurd HA.out (by simp [tenorref2_Int.j1])
            | succ kj6 =>
              have H := HA.out
              clear HA
              simp only [tenorref2_Int.j1] at H
              have H' := Aside0.mk H
              clear H
              go_wp2
              go_loopg [5, 6] kj6 (fun kq v5 v6 w' => ∃ (x5_3 : List Int) (x6_3 : Int), v6 = .int .i64 x6_3 ∧ Aside0 (tenorref2_Int.l0 kq a0 x4_6 x5_3 x6_3 = some (r1, r2)) ∧ Aside0 (kq ≤ kj6) ∧ Aside0 (Kd.R (Kd.int .u64) 26 w' w.heap.size (fun _ => True) v5 x5_3) ∧ Aside0 (Below w.heap.size w w'))
              case atStart => exact ⟨(([] : List Int)), (x4_6), (by first | rfl | (simp; done) | (simp [*]; done)), H', ⟨Nat.le_refl _⟩, ⟨by first | exact Kd.R_nil _ _ _ _ _ | exact Kd.N_nil _ _ _ _ _ | exact Kd.V_nil _ _ _ _ _ | exact Kd.Q_nil _ _ _ _ _ | exact Kd.S_nil _ _ _ _ _⟩, ⟨by repeat (first | (with_reducible first | exact HB.out | apply below_alloc | apply pw_below_drewN | apply below_drew1) | exact HB.out)⟩⟩
              case round =>
                clear H'
                try clear c1
                try clear p2
                try clear c3
                try clear c3b0
                try clear c3b1
                try clear c4
                try clear c5
                try clear c5b0
                try clear c5b1
                try clear p6
                try clear q6
                try clear hx6
                try clear qi6
                try clear c8
                try clear c8b0
                try clear c8b1
                try clear p2
                try clear p6
                try clear q6
                obtain ⟨x5_3, x6_3, rfl, HA, HK3, HO_5, HB⟩ := hrel
                cases gk with
                | zero => exact absurd HA.out (by simp [tenorref2_Int.l0])
                | succ k3 =>
                  have H := HA.out
                  clear HA
                  simp only [tenorref2_Int.l0] at H
                  by_cases c9 : x6_3 < (a0.size : Int)
                  · rw [if_pos c9] at H
                    have c9b0 : decide (x6_3 < (a0.size : Int)) = true := decide_eq_true c9
                    clear c9
                    by_cases c10 : 0 ≤ x6_3
                    · rw [if_pos c10] at H
                      have c10b0 : decide (0 ≤ x6_3) = true := decide_eq_true c10
                      clear c10
                      by_cases c12 : (bt a0 x6_3) < 48
                      · rw [if_pos c12] at H
                        have c12b0 : decide ((bt a0 x6_3) < 48) = true := decide_eq_true c12
                        clear c12
                        simp only [Option.some.injEq, Prod.mk.injEq] at H
                        obtain ⟨rfl, rfl⟩ := H
                        have p11 : 0 ≤ (x6_3 : Int) := of_decide_eq_true (by first | (with_reducible assumption) | assumption)
                        have q11 : x6_3 < (a0.size : Int) := of_decide_eq_true (by first | (with_reducible assumption) | assumption)
                        have hx11 := bt_at a0 x6_3
                        replace p11 := eq_true p11
                        replace q11 := eq_true q11
                        go_wp2
                        go_ret2
                        exact ⟨by first | rfl | (simp [errW_none, errW_some] <;> rfl) | (simp [*, errW_none, errW_some] <;> rfl), by repeat (first | (with_reducible first | exact HB.out | apply below_alloc | apply pw_below_drewN | apply below_drew1) | exact HB.out)⟩
                      · rw [if_neg c12] at H
                        have c12b0 : decide ((bt a0 x6_3) < 48) = false := decide_eq_false c12
                        clear c12
                        by_cases c14 : (bt a0 x6_3) > 57
                        · rw [if_pos c14] at H
                          have c14b0 : decide (57 < (bt a0 x6_3)) = true := decide_eq_true c14
                          clear c14
                          simp only [Option.some.injEq, Prod.mk.injEq] at H
                          obtain ⟨rfl, rfl⟩ := H
                          have p11 : 0 ≤ (x6_3 : Int) := of_decide_eq_true (by first | (with_reducible assumption) | assumption)
                          have q11 : x6_3 < (a0.size : Int) := of_decide_eq_true (by first | (with_reducible assumption) | assumption)
                          have hx11 := bt_at a0 x6_3
                          replace p11 := eq_true p11
                          replace q11 := eq_true q11
                          have p13 : 0 ≤ (x6_3 : Int) := of_decide_eq_true (by first | (with_reducible assumption) | assumption)
                          have q13 : x6_3 < (a0.size : Int) := of_decide_eq_true (by first | (with_reducible assumption) | assumption)
                          have hx13 := bt_at a0 x6_3
                          replace p13 := eq_true p13
                          replace q13 := eq_true q13
                          go_wp2
                          go_ret2
                          exact ⟨by first | rfl | (simp [errW_none, errW_some] <;> rfl) | (simp [*, errW_none, errW_some] <;> rfl), by repeat (first | (with_reducible first | exact HB.out | apply below_alloc | apply pw_below_drewN | apply below_drew1) | exact HB.out)⟩
                        · rw [if_neg c14] at H
                          have c14b0 : decide (57 < (bt a0 x6_3)) = false := decide_eq_false c14
                          clear c14
                          replace H := Option.bind_eq_some_iff.mp H
                          obtain ⟨t350, A160, H⟩ := H
                          replace H : (tenorref2_Int.l0 k3 a0 x4_6 t350 (wrap64 (x6_3 + 1))) = some (r1, r2) := H
                          have A16 := Aside0.mk A160
                          clear A160
                          have H' := Aside0.mk H
                          clear H
                          have p11 : 0 ≤ (x6_3 : Int) := of_decide_eq_true (by first | (with_reducible assumption) | assumption)
                          have q11 : x6_3 < (a0.size : Int) := of_decide_eq_true (by first | (with_reducible assumption) | assumption)
                          have hx11 := bt_at a0 x6_3
                          replace p11 := eq_true p11
                          replace q11 := eq_true q11
                          have p13 : 0 ≤ (x6_3 : Int) := of_decide_eq_true (by first | (with_reducible assumption) | assumption)
                          have q13 : x6_3 < (a0.size : Int) := of_decide_eq_true (by first | (with_reducible assumption) | assumption)
                          have hx13 := bt_at a0 x6_3
                          replace p13 := eq_true p13
                          replace q13 := eq_true q13
                          have p15 : 0 ≤ (x6_3 : Int) := of_decide_eq_true (by first | (with_reducible assumption) | assumption)
                          have q15 : x6_3 < (a0.size : Int) := of_decide_eq_true (by first | (with_reducible assumption) | assumption)
                          have hx15 := bt_at a0 x6_3
                          replace p15 := eq_true p15
                          replace q15 := eq_true q15
                          obtain ⟨Ao17, co17, eo17⟩ := Kd.R_slice HO_5.out
                          subst eo17
                          go_wp2_with (first | ((with_reducible refine gate_callee (f := 26) rfl ?_); refine goesL_ (some 41) rfl rfl Tryz.func26 (by kernel_rfl) rfl #[.slice Ao17 x5_3.length co17, .int .u8 (bt a0 x6_3)] rfl (by (try simp only [List.map_toArray, List.map_cons, List.map_nil]); first | done | rfl | (simp only [List.length_drop, List.length_take]; rfl)) ?_; (with_reducible refine (tenorref2_more.calls k3 _ _ x5_3 (bt a0 x6_3) t350 _ ?side1 ?side2 A16.out).mono ?_); (case side1 => repeat (first | exact (Kd.R_reads' HO_5.out).2.2 | (with_reducible refine Kd.C_alloc ?_ _) | (with_reducible refine Kd.C_drewN ?_ _) | (with_reducible refine Kd.C_drew ?_))); (case side2 => exact (Kd.R_reads' HO_5.out).2.1); rintro e w18 ⟨v351, rfl, ho0, hb⟩; refine ⟨_, rfl, ?_⟩; have n0_ := Aside0.mk (Kd.R_elder' (by (with_reducible repeat (first | apply Kd.R_alloc | apply Kd.R_drewN | apply Kd.R_drew)); exact HO_5.out) (Kd.R_base ho0) hb); have n1_ := Aside0.mk (Kd.R_lower (Kd.R_new' ho0 (Kd.R_lt (by (with_reducible repeat (first | apply Kd.R_alloc | apply Kd.R_drewN | apply Kd.R_drew)); exact HO_5.out))) (below_size (by repeat (first | (with_reducible first | exact HB.out | apply below_alloc | apply pw_below_drewN | apply below_drew1) | exact HB.out)))); have n2_ := Aside0.mk (below_step (by repeat (first | (with_reducible first | exact HB.out | apply below_alloc | apply pw_below_drewN | apply below_drew1) | exact HB.out)) hb); clear HO_5; clear HB; have HO_5 := n0_; have HO352 := n1_; have HB := n2_; clear n0_ n1_ n2_; (try clear hb); (try clear hb2); (try clear hk); (try clear hi); (try clear ho0)))
                          go_roundg k3
                          case measure => have := HJ1.out; have := HJ6.out; have := HK3.out; omega
                          case rel => exact ⟨(t350), (wrap64 (x6_3 + 1)), (by first | rfl | (simp; done) | (simp [*]; done)), H', ⟨by have := HJ1.out; have := HJ6.out; have := HK3.out; omega⟩, ⟨by (with_reducible repeat (first | apply Kd.R_alloc | apply Kd.R_drewN | apply Kd.R_drew)); exact Kd.R_mono HO352.out (fun _ hk => trivial)⟩, ⟨by repeat (first | (with_reducible first | exact HB.out | apply below_alloc | apply pw_below_drewN | apply below_drew1) | exact HB.out)⟩⟩
                    · rw [if_neg c10] at H
                      exact absurd H (by simp)
                  · rw [if_neg c9] at H
                    have c9b0 : decide (x6_3 < (a0.size : Int)) = false := decide_eq_false c9
                    clear c9
                    have HC19 := Aside0.mk H
                    clear H
                    go_upto_region 13 with (fail)
                    go_cut [61] (fun v61 wc => ∃ (kq : Nat) (x61_18 : Bool), v61 = .bool x61_18 ∧ Aside0 (tenorref2_Int.j3 kq x4_6 x5_3 x61_18 = some (r1, r2)) ∧ Aside0 (kq ≤ k3) ∧ Aside0 (Kd.R (Kd.int .u64) 26 wc w.heap.size (fun _ => True) u5 x5_3) ∧ Aside0 (Below w.heap.size w wc))
                    case first =>
                      have H := HC19.out
                      clear HC19
                      by_cases c20 : x4_6 = (a0.size : Int)
                      · rw [if_pos c20] at H
                        have c20b0 : (x4_6 == (a0.size : Int)) = true := beq_iff_eq.mpr c20
                        have c20b1 : (x4_6 != (a0.size : Int)) = false := bne_eq_false_iff_eq.mpr c20
                        clear c20
                        (first | rw [c20b0] | (simp only [i64_w, i32_w]; rw [c20b0]) | skip)
                        have H' := Aside0.mk H
                        clear H
                        go_wp2
                        go_meet
                        case rel => exact ⟨_, (true), (by first | rfl | (simp; done) | (simp [*]; done)), H', ⟨by have := HJ1.out; have := HJ6.out; have := HK3.out; first | omega | exact Nat.le_refl _⟩, ⟨by (with_reducible repeat (first | apply Kd.R_alloc | apply Kd.R_drewN | apply Kd.R_drew)); exact HO_5.out⟩, ⟨by repeat (first | (with_reducible first | exact HB.out | apply below_alloc | apply pw_below_drewN | apply below_drew1) | exact HB.out)⟩⟩
                      · rw [if_neg c20] at H
                        have c20b0 : (x4_6 == (a0.size : Int)) = false := beq_eq_false_iff_ne.mpr c20
                        have c20b1 : (x4_6 != (a0.size : Int)) = true := bne_iff_ne.mpr c20
                        (first | rw [c20b0] | (simp only [i64_w, i32_w]; rw [c20b0]) | skip)
                        by_cases c21 : 0 ≤ x4_6
                        · rw [if_pos c21] at H
                          have c21b0 : decide (0 ≤ x4_6) = true := decide_eq_true c21
                          clear c21
                          by_cases c22 : x4_6 < (a0.size : Int)
                          · rw [if_pos c22] at H
                            have c22b0 : decide (x4_6 < (a0.size : Int)) = true := decide_eq_true c22
                            clear c22
                            by_cases c24 : (bt a0 x4_6) = 48
                            · rw [if_pos c24] at H
                              have c24b0 : ((bt a0 x4_6) == 48) = true := beq_iff_eq.mpr c24
                              have c24b1 : ((bt a0 x4_6) != 48) = false := bne_eq_false_iff_eq.mpr c24
                              clear c24
                              by_cases c25 : (a0.size : Int) > 1
                              · rw [if_pos c25] at H
                                have c25b0 : decide (1 < (a0.size : Int)) = true := decide_eq_true c25
                                have c25b1 : decide (1 < a0.size) = true := decide_eq_true (by omega)
                                clear c25
                                have H' := Aside0.mk H
                                clear H
                                have p23 : 0 ≤ (x4_6 : Int) := of_decide_eq_true (by first | (with_reducible assumption) | assumption)
                                have q23 : x4_6 < (a0.size : Int) := of_decide_eq_true (by first | (with_reducible assumption) | assumption)
                                have hx23 := bt_at a0 x4_6
                                replace p23 := eq_true p23
                                replace q23 := eq_true q23
                                go_wp2
                                go_meet
                                case rel => exact ⟨_, (true), (by first | rfl | (simp; done) | (simp [*]; done)), H', ⟨by have := HJ1.out; have := HJ6.out; have := HK3.out; first | omega | exact Nat.le_refl _⟩, ⟨by (with_reducible repeat (first | apply Kd.R_alloc | apply Kd.R_drewN | apply Kd.R_drew)); exact HO_5.out⟩, ⟨by repeat (first | (with_reducible first | exact HB.out | apply below_alloc | apply pw_below_drewN | apply below_drew1) | exact HB.out)⟩⟩
                              · rw [if_neg c25] at H
                                have c25b0 : decide (1 < (a0.size : Int)) = false := decide_eq_false c25
                                have c25b1 : decide (1 < a0.size) = false := decide_eq_false (by omega)
                                clear c25
                                replace H := Option.bind_eq_some_iff.mp H
                                obtain ⟨t353, A260, H⟩ := H
                                replace H : (tenorref2_Int.j3 k3 x4_6 x5_3 (decide (t353 > 64))) = some (r1, r2) := H
                                have A26 := Aside0.mk A260
                                clear A260
                                have H' := Aside0.mk H
                                clear H
                                have p23 : 0 ≤ (x4_6 : Int) := of_decide_eq_true (by first | (with_reducible assumption) | assumption)
                                have q23 : x4_6 < (a0.size : Int) := of_decide_eq_true (by first | (with_reducible assumption) | assumption)
                                have hx23 := bt_at a0 x4_6
                                replace p23 := eq_true p23
                                replace q23 := eq_true q23
                                obtain ⟨Ao27, co27, eo27⟩ := Kd.R_slice HO_5.out
                                subst eo27
                                go_wp2_with (first | (go_at_call 46; (with_reducible refine (tenorref1_Len.calls k3 _ _ x5_3 t353 _ ?side1 ?side2 A26.out).mono ?_); (case side1 => repeat (first | exact (Kd.R_reads' HO_5.out).2.2 | (with_reducible refine Kd.C_alloc ?_ _) | (with_reducible refine Kd.C_drewN ?_ _) | (with_reducible refine Kd.C_drew ?_))); (case side2 => exact (Kd.R_reads' HO_5.out).2.1); rintro e w' ⟨rfl, ⟨nd, rfl⟩⟩))
                                go_meet
                                case rel => exact ⟨_, (decide (t353 > 64)), (by first | rfl | (simp; done) | (simp [*]; done)), H', ⟨by have := HJ1.out; have := HJ6.out; have := HK3.out; first | omega | exact Nat.le_refl _⟩, ⟨by (with_reducible repeat (first | apply Kd.R_alloc | apply Kd.R_drewN | apply Kd.R_drew)); exact HO_5.out⟩, ⟨by repeat (first | (with_reducible first | exact HB.out | apply below_alloc | apply pw_below_drewN | apply below_drew1) | exact HB.out)⟩⟩
                            · rw [if_neg c24] at H
                              have c24b0 : ((bt a0 x4_6) == 48) = false := beq_eq_false_iff_ne.mpr c24
                              have c24b1 : ((bt a0 x4_6) != 48) = true := bne_iff_ne.mpr c24
                              replace H := Option.bind_eq_some_iff.mp H
                              obtain ⟨t354, A280, H⟩ := H
                              replace H : (tenorref2_Int.j3 k3 x4_6 x5_3 (decide (t354 > 64))) = some (r1, r2) := H
                              have A28 := Aside0.mk A280
                              clear A280
                              have H' := Aside0.mk H
                              clear H
                              have p23 : 0 ≤ (x4_6 : Int) := of_decide_eq_true (by first | (with_reducible assumption) | assumption)
                              have q23 : x4_6 < (a0.size : Int) := of_decide_eq_true (by first | (with_reducible assumption) | assumption)
                              have hx23 := bt_at a0 x4_6
                              replace p23 := eq_true p23
                              replace q23 := eq_true q23
                              obtain ⟨Ao29, co29, eo29⟩ := Kd.R_slice HO_5.out
                              subst eo29
                              go_wp2_with (first | (go_at_call 46; (with_reducible refine (tenorref1_Len.calls k3 _ _ x5_3 t354 _ ?side1 ?side2 A28.out).mono ?_); (case side1 => repeat (first | exact (Kd.R_reads' HO_5.out).2.2 | (with_reducible refine Kd.C_alloc ?_ _) | (with_reducible refine Kd.C_drewN ?_ _) | (with_reducible refine Kd.C_drew ?_))); (case side2 => exact (Kd.R_reads' HO_5.out).2.1); rintro e w' ⟨rfl, ⟨nd, rfl⟩⟩))
                              go_meet
                              case rel => exact ⟨_, (decide (t354 > 64)), (by first | rfl | (simp; done) | (simp [*]; done)), H', ⟨by have := HJ1.out; have := HJ6.out; have := HK3.out; first | omega | exact Nat.le_refl _⟩, ⟨by (with_reducible repeat (first | apply Kd.R_alloc | apply Kd.R_drewN | apply Kd.R_drew)); exact HO_5.out⟩, ⟨by repeat (first | (with_reducible first | exact HB.out | apply below_alloc | apply pw_below_drewN | apply below_drew1) | exact HB.out)⟩⟩
                          · rw [if_neg c22] at H
                            exact absurd H (by simp)
                        · rw [if_neg c21] at H
                          exact absurd H (by simp)
                    case rest =>
                      clear HC19
                      try clear c1
                      try clear p1
                      try clear q1
                      try clear hx1
                      try clear c2
                      try clear p2
                      try clear q2
                      try clear hx2
                      try clear c3
                      try clear c3b0
                      try clear c3b1
                      try clear c4
                      try clear c5
                      try clear c5b0
                      try clear c5b1
                      try clear p6
                      try clear q6
                      try clear hx6
                      try clear qi6
                      try clear c8
                      try clear c8b0
                      try clear c8b1
                      try clear c9
                      try clear c9b0
                      try clear c10
                      try clear c10b0
                      try clear p11
                      try clear q11
                      try clear hx11
                      try clear c12
                      try clear c12b0
                      try clear p13
                      try clear q13
                      try clear hx13
                      try clear c14
                      try clear c14b0
                      try clear p15
                      try clear q15
                      try clear hx15
                      try clear c18
                      try clear c20
                      try clear c20b0
                      try clear c20b1
                      try clear c21
                      try clear c21b0
                      try clear c22
                      try clear c22b0
                      try clear p23
                      try clear q23
                      try clear hx23
                      try clear c24
                      try clear c24b0
                      try clear c24b1
                      try clear c25
                      try clear c25b0
                      try clear c25b1
                      try clear c26
                      try clear p11
                      try clear p13
                      try clear p15
                      try clear p2
                      try clear p23
                      try clear p6
                      try clear q11
                      try clear q13
                      try clear q15
                      try clear q23
                      try clear q6
                      obtain ⟨kq, x61_18, rfl, HA, HJ18, HO_5, HB⟩ := hcut
                      cases kq with
                      | zero => exact absurd HA.out (by simp [tenorref2_Int.j3])
                      | succ kj18 =>
                        have H := HA.out
                        clear HA
                        simp only [tenorref2_Int.j3] at H
                        by_cases c30 : x61_18 = true
                        · subst c30
                          have H1 : (some (0, false)) = some (r1, r2) := by rw [if_pos rfl] at H; exact H
                          clear H
                          have H := H1
                          clear H1
                          simp only [Option.some.injEq, Prod.mk.injEq] at H
                          obtain ⟨rfl, rfl⟩ := H
                          go_wp2
                          go_ret2
                          exact ⟨by first | rfl | (simp [errW_none, errW_some] <;> rfl) | (simp [*, errW_none, errW_some] <;> rfl), by repeat (first | (with_reducible first | exact HB.out | apply below_alloc | apply pw_below_drewN | apply below_drew1) | exact HB.out)⟩
                        · replace c30 := Bool.eq_false_iff.mpr c30
                          subst c30
                          have H1 : (tenorref2_Int.l1 kj18 x4_6 x5_3 0 (wrap64 ((x5_3.length : Int) - 1))) = some (r1, r2) := by rw [if_neg (show ¬ (false = true) by decide)] at H; exact H
                          clear H
                          have H := H1
                          clear H1
                          have H' := Aside0.mk H
                          clear H
                          obtain ⟨Ao31, co31, eo31⟩ := Kd.R_slice HO_5.out
                          subst eo31
                          go_wp2
                          go_loopg [7, 8] kj18 (fun kq v7 v8 w' => ∃ (x7_5 : Int) (x8_5 : Int), v7 = .int .u64 x7_5 ∧ v8 = .int .i64 x8_5 ∧ Aside0 (tenorref2_Int.l1 kq x4_6 x5_3 x7_5 x8_5 = some (r1, r2)) ∧ Aside0 (kq ≤ kj18) ∧ Aside0 (Kd.R (Kd.int .u64) 26 w' w.heap.size (fun _ => True) (.slice Ao31 x5_3.length co31) x5_3) ∧ Aside0 (Below w.heap.size w w'))
                          case atStart => exact ⟨(0), (wrap64 ((x5_3.length : Int) - 1)), (by first | rfl | (simp; done) | (simp [*]; done)), (by first | rfl | (simp; done) | (simp [*]; done)), H', ⟨Nat.le_refl _⟩, ⟨by (with_reducible repeat (first | apply Kd.R_alloc | apply Kd.R_drewN | apply Kd.R_drew)); exact HO_5.out⟩, ⟨by repeat (first | (with_reducible first | exact HB.out | apply below_alloc | apply pw_below_drewN | apply below_drew1) | exact HB.out)⟩⟩
                          case round =>
                            clear H'
                            try clear c1
                            try clear p1
                            try clear q1
                            try clear hx1
                            try clear c2
                            try clear p2
                            try clear q2
                            try clear hx2
                            try clear c3
                            try clear c3b0
                            try clear c3b1
                            try clear c4
                            try clear c5
                            try clear c5b0
                            try clear c5b1
                            try clear p6
                            try clear q6
                            try clear hx6
                            try clear qi6
                            try clear c8
                            try clear c8b0
                            try clear c8b1
                            try clear c9
                            try clear c9b0
                            try clear c10
                            try clear c10b0
                            try clear p11
                            try clear q11
                            try clear hx11
                            try clear c12
                            try clear c12b0
                            try clear p13
                            try clear q13
                            try clear hx13
                            try clear c14
                            try clear c14b0
                            try clear p15
                            try clear q15
                            try clear hx15
                            try clear c18
                            try clear c20
                            try clear c20b0
                            try clear c20b1
                            try clear c21
                            try clear c21b0
                            try clear c22
                            try clear c22b0
                            try clear p23
                            try clear q23
                            try clear hx23
                            try clear c24
                            try clear c24b0
                            try clear c24b1
                            try clear c25
                            try clear c25b0
                            try clear c25b1
                            try clear c26
                            try clear c30
                            try clear p1
                            try clear p11
                            try clear p13
                            try clear p15
                            try clear p2
                            try clear p23
                            try clear p6
                            try clear q1
                            try clear q11
                            try clear q13
                            try clear q15
                            try clear q2
                            try clear q23
                            try clear q6
                            obtain ⟨x7_5, x8_5, rfl, rfl, HA, HK5, HO_5, HB⟩ := hrel
                            cases gk with
                            | zero => exact absurd HA.out (by simp [tenorref2_Int.l1])
                            | succ k5 =>
                              have H := HA.out
                              clear HA
                              simp only [tenorref2_Int.l1] at H
                              by_cases c32 : x8_5 ≥ 0
                              · rw [if_pos c32] at H
                                have c32b0 : decide (0 ≤ x8_5) = true := decide_eq_true c32
                                clear c32
                                by_cases c33 : 0 ≤ x8_5
                                · rw [if_pos c33] at H
                                  have c33b0 : decide (0 ≤ x8_5) = true := decide_eq_true c33
                                  clear c33
                                  by_cases c34 : x8_5 < (x5_3.length : Int)
                                  · rw [if_pos c34] at H
                                    have c34b0 : decide (x8_5 < (x5_3.length : Int)) = true := decide_eq_true c34
                                    clear c34
                                    have H' := Aside0.mk H
                                    clear H
                                    have p355 : 0 ≤ (x8_5 : Int) := of_decide_eq_true (by first | (with_reducible assumption) | assumption)
                                    have q355 : x8_5 < (x5_3.length : Int) := of_decide_eq_true (by first | (with_reducible assumption) | assumption)
                                    obtain ⟨ad355, e355, hx355_0⟩ := Kd.at_int (Kd.R_reads' HO_5.out).2.2 x8_5 p355 q355
                                    cases e355
                                    replace p355 := eq_true p355
                                    replace q355 := eq_true q355
                                    go_wp2
                                    go_roundg k5
                                    case measure => have := HJ1.out; have := HJ6.out; have := HK3.out; have := HJ18.out; have := HK5.out; omega
                                    case rel => exact ⟨(IntKind.u64.wrap ((IntKind.u64.wrap (x7_5 * 4294967296)) + (rd x5_3 x8_5))), (wrap64 (x8_5 - 1)), (by first | rfl | (simp; done) | (simp [*]; done)), (by first | rfl | (simp; done) | (simp [*]; done)), H', ⟨by have := HJ1.out; have := HJ6.out; have := HK3.out; have := HJ18.out; have := HK5.out; omega⟩, ⟨by (with_reducible repeat (first | apply Kd.R_alloc | apply Kd.R_drewN | apply Kd.R_drew)); exact HO_5.out⟩, ⟨by repeat (first | (with_reducible first | exact HB.out | apply below_alloc | apply pw_below_drewN | apply below_drew1) | exact HB.out)⟩⟩
                                  · rw [if_neg c34] at H
                                    exact absurd H (by simp)
                                · rw [if_neg c33] at H
                                  exact absurd H (by simp)
                              · rw [if_neg c32] at H
                                have c32b0 : decide (0 ≤ x8_5) = false := decide_eq_false c32
                                clear c32
                                by_cases c35 : x4_6 = 1
                                · rw [if_pos c35] at H
                                  have c35b0 : (x4_6 == 1) = true := beq_iff_eq.mpr c35
                                  have c35b1 : (x4_6 != 1) = false := bne_eq_false_iff_eq.mpr c35
                                  clear c35
                                  by_cases c36 : x7_5 > 9223372036854775808
                                  · rw [if_pos c36] at H
                                    have c36b0 : decide (9223372036854775808 < x7_5) = true := decide_eq_true c36
                                    clear c36
                                    simp only [Option.some.injEq, Prod.mk.injEq] at H
                                    obtain ⟨rfl, rfl⟩ := H
                                    go_wp2
                                    go_ret2
                                    exact ⟨by first | rfl | (simp [errW_none, errW_some] <;> rfl) | (simp [*, errW_none, errW_some] <;> rfl), by repeat (first | (with_reducible first | exact HB.out | apply below_alloc | apply pw_below_drewN | apply below_drew1) | exact HB.out)⟩
                                  · rw [if_neg c36] at H
                                    have c36b0 : decide (9223372036854775808 < x7_5) = false := decide_eq_false c36
                                    clear c36
                                    simp only [Option.some.injEq, Prod.mk.injEq] at H
                                    obtain ⟨rfl, rfl⟩ := H
                                    go_wp2
                                    go_ret2
                                    exact ⟨by first | rfl | (simp [errW_none, errW_some] <;> rfl) | (simp [*, errW_none, errW_some] <;> rfl), by repeat (first | (with_reducible first | exact HB.out | apply below_alloc | apply pw_below_drewN | apply below_drew1) | exact HB.out)⟩
                                · rw [if_neg c35] at H
                                  have c35b0 : (x4_6 == 1) = false := beq_eq_false_iff_ne.mpr c35
                                  have c35b1 : (x4_6 != 1) = true := bne_iff_ne.mpr c35
                                  by_cases c37 : x7_5 ≥ 9223372036854775808
                                  · rw [if_pos c37] at H
                                    have c37b0 : decide (9223372036854775808 ≤ x7_5) = true := decide_eq_true c37
                                    clear c37
                                    simp only [Option.some.injEq, Prod.mk.injEq] at H
                                    obtain ⟨rfl, rfl⟩ := H
                                    go_wp2
                                    go_ret2
                                    exact ⟨by first | rfl | (simp [errW_none, errW_some] <;> rfl) | (simp [*, errW_none, errW_some] <;> rfl), by repeat (first | (with_reducible first | exact HB.out | apply below_alloc | apply pw_below_drewN | apply below_drew1) | exact HB.out)⟩
                                  · rw [if_neg c37] at H
                                    have c37b0 : decide (9223372036854775808 ≤ x7_5) = false := decide_eq_false c37
                                    clear c37
                                    simp only [Option.some.injEq, Prod.mk.injEq] at H
                                    obtain ⟨rfl, rfl⟩ := H
                                    go_wp2
                                    go_ret2
                                    exact ⟨by first | rfl | (simp [errW_none, errW_some] <;> rfl) | (simp [*, errW_none, errW_some] <;> rfl), by repeat (first | (with_reducible first | exact HB.out | apply below_alloc | apply pw_below_drewN | apply below_drew1) | exact HB.out)⟩
        · rw [if_neg c5] at H
          exact absurd H (by simp)

-- NOT PRINTED: function 5 (tenorlaw2_TextInts)

end Go.Proofs.YtjpiplplohapnaaGreatDoor.PText
