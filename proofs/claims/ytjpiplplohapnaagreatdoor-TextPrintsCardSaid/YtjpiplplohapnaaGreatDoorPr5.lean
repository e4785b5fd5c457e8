/- Part 5 of the proof: RDiv, BigD. -/
import Derived.Test.YtjpiplplohapnaaGreatDoorPr4
set_option linter.unusedVariables false
set_option linter.unusedSimpArgs false
namespace Go.Proofs.YtjpiplplohapnaaGreatDoor.PText
open Go.RowKit Go.Proofs.YtjpiplplohapnaaGreatDoorW.PrintWords Go.Proofs.YtjpiplplohapnaaGreatDoorW.PrintLast Go.Proofs.YtjpiplplohapnaaGreatDoorW.PrintMore
attribute [local go_sem] max2_int min2_int max_two min_two max_three min_three max_four min_four
set_option linter.unusedVariables false
set_option linter.unusedSimpArgs false
mutual
def tenorref1_DivDigits.l0 : Nat → List Int → List Int → List Int → List Int → Int → Option (List Int × List Int)
  | 0, _, _, _, _, _ => none
  | k + 1, x0, x1, x6, x7, x8 => if x8 ≥ 0 then ((tenorref1_ShiftUp.f k x6 1).bind fun t272 => (if 0 ≤ (wrap64 (Int.tdiv x8 32)) then (if (wrap64 (Int.tdiv x8 32)) < (x0.length : Int) then (if 0 ≤ (Int.tmod x8 32) then (if (Int.tmod (shr .u64 (rd x0 (wrap64 (Int.tdiv x8 32))) (Int.tmod x8 32)) 2) = 1 then ((tenorref1_AddDigits.f k t272 (([1] : List Int))).bind fun t279 => (tenorref1_DivDigits.j1 k x0 x1 t279 x7 x8)) else (tenorref1_DivDigits.j1 k x0 x1 t272 x7 x8)) else (none)) else (none)) else (none))) else ((tenorref1_trim.f k x7).bind fun t269 => (some (t269, x6)))
def tenorref1_DivDigits.j1 : Nat → List Int → List Int → List Int → List Int → Int → Option (List Int × List Int)
  | 0, _, _, _, _, _ => none
  | k + 1, x0, x1, x6, x7, x8 => (tenorref1_CmpDigits.f k x6 x1).bind fun t282 => (if t282 ≥ 0 then ((tenorref1_SubDigits.f k x6 x1).bind fun t283 => (if 0 ≤ (wrap64 (Int.tdiv x8 32)) then (if (wrap64 (Int.tdiv x8 32)) < (x7.length : Int) then (if 0 ≤ (Int.tmod x8 32) then (tenorref1_DivDigits.l0 k x0 x1 t283 (x7.set ((wrap64 (Int.tdiv x8 32)) : Int).toNat (IntKind.u64.wrap ((rd x7 (wrap64 (Int.tdiv x8 32))) + (shl .u64 1 (Int.tmod x8 32))))) (wrap64 (x8 - 1))) else (none)) else (none)) else (none))) else (tenorref1_DivDigits.l0 k x0 x1 x6 x7 (wrap64 (x8 - 1))))
end
def tenorref1_DivDigits.f (k : Nat) (l0 : List Int) (l1 : List Int) : Option (List Int × List Int) := if 0 ≤ (l0.length : Int) then (if ((l0.length : Int) : Int).toNat ≤ 35184372088832 then ((tenorref1_Len.f k l0).bind fun t268 => (tenorref1_DivDigits.l0 k l0 l1 ([] : List Int) (List.replicate ((l0.length : Int) : Int).toNat 0) (wrap64 (t268 - 1)))) else (none)) else (none)
def tenorref1_DivDigits.T11 : Bool × List (List Nat × List Nat) := (true, [([], []), ([], []), ([1], [1]), ([], []), ([], []), ([4], [4]), ([3, 5], [3, 5]), ([6], [6]), ([], []), ([8], [8]), ([9], [9]), ([7, 10], [7, 10]), ([0, 2, 0, 1, 2, 3, 4, 5, 6, 7, 8, 9, 10, 11], [0, 2]), ([12, 11, 0, 1, 2, 3, 4, 5, 6, 7, 8, 9, 10, 11], [11, 12])])
def tenorref1_DivDigits.B11 : List Nat := [0, 0, 2, 0, 0, 16, 56, 120, 0, 256, 768, 2040, 4095, 8191]
theorem tenorref1_DivDigits.tab11 : rtab .any (opsOf Tryz.f70 11) = tenorref1_DivDigits.T11 := by kernel_rfl
theorem tenorref1_DivDigits.bits11 : waitsOk tenorref1_DivDigits.T11.2 tenorref1_DivDigits.B11 = true := by kernel_rfl
set_option maxHeartbeats 8000000 in
set_option maxRecDepth 100000 in
theorem tenorref1_DivDigits.calls (k : Nat) (A0 : Option Addr) (c0 : Nat) (l0 : List Int) (A1 : Option Addr) (c1 : Nat) (l1 : List Int) (r1 : List Int) (r2 : List Int) (w : World) (hr0 : Kd.C (Kd.int .u64) w A0 l0.length l0) (hc0 : l0.length ≤ c0) (hr1 : Kd.C (Kd.int .u64) w A1 l1.length l1) (hc1 : l1.length ≤ c1) (h : tenorref1_DivDigits.f k l0 l1 = some (r1, r2)) :
    Calls Tryz.prog 70 #[.slice A0 l0.length c0, .slice A1 l1.length c1] w fun e w' => ∃ v0_ v1_ : Value, e = .returned (.tuple #[v0_, v1_]) ∧ Kd.R (Kd.int .u64) 26 w' w.heap.size (fun k_ => some k_ ≠ (v1_ : Value).ownBlock) v0_ r1 ∧ Kd.R (Kd.int .u64) 26 w' w.heap.size (fun k_ => some k_ ≠ (v0_ : Value).ownBlock) v1_ r2 ∧ Below w.heap.size w w' := by
  have HR0 := Aside0.mk hr0
  have HC0 := Aside0.mk hc0
  clear hr0 hc0
  have HR1 := Aside0.mk hr1
  have HC1 := Aside0.mk hc1
  clear hr1 hc1
  have HB := Aside0.mk (Below.refl w.heap.size w)
  have H : (if 0 ≤ (l0.length : Int) then (if ((l0.length : Int) : Int).toNat ≤ 35184372088832 then ((tenorref1_Len.f k l0).bind fun t268 => (tenorref1_DivDigits.l0 k l0 l1 ([] : List Int) (List.replicate ((l0.length : Int) : Int).toNat 0) (wrap64 (t268 - 1)))) else (none)) else (none)) = some (r1, r2) := h
  clear h
  by_cases c3 : 0 ≤ (l0.length : Int)
  · rw [if_pos c3] at H
    have c3b0 := eq_true c3
    have c3b1 : decide (0 ≤ (l0.length : Int)) = true := decide_eq_true c3
    clear c3
    by_cases c4 : ((l0.length : Int) : Int).toNat ≤ 35184372088832
    · rw [if_pos c4] at H
      have c4b0 := eq_true c4
      have c4b1 : decide (((l0.length : Int) : Int).toNat ≤ 35184372088832) = true := decide_eq_true c4
      clear c4
      obtain ⟨y265, hy265⟩ : ∃ y_ : List Int, y_ = (List.replicate ((l0.length : Int) : Int).toNat 0) := ⟨_, rfl⟩
      replace H : ((tenorref1_Len.f k l0).bind fun t268 => (tenorref1_DivDigits.l0 k l0 l1 ([] : List Int) y265 (wrap64 (t268 - 1)))) = some (r1, r2) := by first | (rw [hy265]; with_reducible exact H) | (have H2_ := (Option.bind_some _ _).symm.trans H; rw [hy265]; with_reducible exact H2_) | (have H2_ := (Option.bind_some _ _).symm.trans H; with_reducible exact H2_) | with_reducible exact H | (rw [hy265]; exact H) | exact H
      have Ny265 := Aside0.mk hy265
      clear hy265
      replace H := Option.bind_eq_some_iff.mp H
      obtain ⟨t268, A50, H⟩ := H
      replace H : (tenorref1_DivDigits.l0 k l0 l1 ([] : List Int) y265 (wrap64 (t268 - 1))) = some (r1, r2) := H
      have A5 := Aside0.mk A50
      clear A50
      have H' := Aside0.mk H
      clear H
      go_enter Tryz.func70, Tryz.ntmps70
      go_wp2_with (first | ((with_reducible refine gate_dst (N := 11) rfl ?_); refine Kd.R_make (Kd.int .u64) _ 26 rfl (N := 11) rfl 51 _ _ rfl (l0.length : Int) rfl rfl Tryz.underlying51 (.int .u64 0) 8 info26 rfl (by decide) (by omega) 0 (ok := fun _ => True) (okp := fun _ => True) rfl (fun _ hk => hk) trivial (of_decide_eq_true (by first | (with_reducible assumption) | assumption)) (Nat.le_trans (Nat.mul_le_mul_right _ (of_decide_eq_true (by first | (with_reducible assumption) | assumption) : (l0.length : Int).toNat ≤ 35184372088832)) (by omega)) (Below.refl _ _) (Nat.le_refl _) ?_; intro v266 w6 ho7 hb hg_ hnew_; clear hg_ hnew_; (first | rw [← Ny265.out] at ho7 | (simp only [Int.reduceToNat] at ho7; rw [← Ny265.out] at ho7)); have n0_ := Aside0.mk (Kd.R_lower ho7 (below_size (by repeat (first | (with_reducible first | exact HB.out | apply below_alloc | apply pw_below_drewN | apply below_drew1) | exact HB.out)))); have n1_ := Aside0.mk (below_step (by repeat (first | (with_reducible first | exact HB.out | apply below_alloc | apply pw_below_drewN | apply below_drew1) | exact HB.out)) hb); clear HB; have HO267 := n0_; have HB := n1_; clear n0_ n1_; clear hb ho7) | ((with_reducible refine gate_callee (f := 46) rfl ?_); refine goesL_ (some 13) rfl rfl Tryz.func46 (by kernel_rfl) rfl #[.slice A0 l0.length c0] rfl (by (try simp only [List.map_toArray, List.map_cons, List.map_nil]); first | done | rfl | (simp only [List.length_drop, List.length_take]; rfl)) ?_; (with_reducible refine (tenorref1_Len.calls k _ _ l0 t268 _ ?side1 ?side2 A5.out).mono ?_); (case side1 => repeat (first | exact (Kd.C_below HR0.out HB.out) | (with_reducible refine Kd.C_alloc ?_ _) | (with_reducible refine Kd.C_drewN ?_ _) | (with_reducible refine Kd.C_drew ?_))); (case side2 => exact HC0.out); rintro e w' ⟨rfl, ⟨nd, rfl⟩⟩; refine ⟨_, rfl, ?_⟩))
      go_loopg [6, 8] k (fun kq v6 v8 w' => ∃ (x6_1 : List Int) (x7_1 : List Int) (x8_1 : Int), v8 = .int .i64 x8_1 ∧ Aside0 (tenorref1_DivDigits.l0 kq l0 l1 x6_1 x7_1 x8_1 = some (r1, r2)) ∧ Aside0 (kq ≤ k) ∧ Aside0 (Kd.R (Kd.int .u64) 26 w' w.heap.size (fun k_ => some k_ ≠ (v266 : Value).ownBlock) v6 x6_1) ∧ Aside0 (Kd.R (Kd.int .u64) 26 w' w.heap.size (fun k_ => some k_ ≠ (v6 : Value).ownBlock) v266 x7_1) ∧ Aside0 (Below w.heap.size w w'))
      case atStart => exact ⟨(([] : List Int)), (y265), (wrap64 (t268 - 1)), (by first | rfl | (simp; done) | (simp [*]; done)), H', ⟨Nat.le_refl _⟩, ⟨by first | exact Kd.R_nil _ _ _ _ _ | exact Kd.N_nil _ _ _ _ _ | exact Kd.V_nil _ _ _ _ _ | exact Kd.Q_nil _ _ _ _ _ | exact Kd.S_nil _ _ _ _ _⟩, ⟨by (with_reducible repeat (first | apply Kd.R_alloc | apply Kd.R_drewN | apply Kd.R_drew)); exact Kd.R_mono HO267.out (fun _ hk => (by simp [Value.ownBlock]))⟩, ⟨by repeat (first | (with_reducible first | exact HB.out | apply below_alloc | apply pw_below_drewN | apply below_drew1) | exact HB.out)⟩⟩
      case round =>
        clear H'
        (try clear c1); (try clear p2); (try clear c3); (try clear c3b0); (try clear c3b1); (try clear c4); (try clear c4b0); (try clear c4b1); (try clear p6); (try clear c7)
        obtain ⟨x6_1, x7_1, x8_1, rfl, HA, HK1, HO_6, HO_7, HB⟩ := hrel
        cases gk with
        | zero => exact absurd HA.out (by simp [tenorref1_DivDigits.l0])
        | succ k1 =>
          have H := HA.out
          clear HA
          simp only [tenorref1_DivDigits.l0] at H
          by_cases c8 : x8_1 ≥ 0
          · rw [if_pos c8] at H
            have c8b0 : decide (0 ≤ x8_1) = true := decide_eq_true c8
            clear c8
            replace H := Option.bind_eq_some_iff.mp H
            obtain ⟨t272, A90, H⟩ := H
            replace H : (if 0 ≤ (wrap64 (Int.tdiv x8_1 32)) then (if (wrap64 (Int.tdiv x8_1 32)) < (l0.length : Int) then (if 0 ≤ (Int.tmod x8_1 32) then (if (Int.tmod (shr .u64 (rd l0 (wrap64 (Int.tdiv x8_1 32))) (Int.tmod x8_1 32)) 2) = 1 then ((tenorref1_AddDigits.f k1 t272 (([1] : List Int))).bind fun t279 => (tenorref1_DivDigits.j1 k1 l0 l1 t279 x7_1 x8_1)) else (tenorref1_DivDigits.j1 k1 l0 l1 t272 x7_1 x8_1)) else (none)) else (none)) else (none)) = some (r1, r2) := H
            have A9 := Aside0.mk A90
            clear A90
            obtain ⟨ji10, hji10⟩ : ∃ j_ : Int, (wrap64 (Int.tdiv x8_1 32)) = j_ := ⟨_, rfl⟩
            replace H : (if 0 ≤ (ji10) then (if (ji10) < (l0.length : Int) then (if 0 ≤ (Int.tmod x8_1 32) then (if (Int.tmod (shr .u64 (rd l0 (ji10)) (Int.tmod x8_1 32)) 2) = 1 then ((tenorref1_AddDigits.f k1 t272 (([1] : List Int))).bind fun t279 => (tenorref1_DivDigits.j1 k1 l0 l1 t279 x7_1 x8_1)) else (tenorref1_DivDigits.j1 k1 l0 l1 t272 x7_1 x8_1)) else (none)) else (none)) else (none)) = some (r1, r2) := by first | (rw [hji10] at H; exact H) | (simp only [hji10] at H ⊢; exact H)
            (try rw [hji10] at A9)
            have hji10w : (IntKind.i64.wrap (Int.tdiv x8_1 32)) = ji10 := (i64_w _).trans hji10
            by_cases c11 : 0 ≤ (ji10)
            · rw [if_pos c11] at H
              have c11b0 : decide (0 ≤ (ji10)) = true := decide_eq_true c11
              clear c11
              by_cases c12 : (ji10) < (l0.length : Int)
              · rw [if_pos c12] at H
                have c12b0 : decide ((ji10) < (l0.length : Int)) = true := decide_eq_true c12
                clear c12
                obtain ⟨ji13, hji13⟩ : ∃ j_ : Int, (Int.tmod x8_1 32) = j_ := ⟨_, rfl⟩
                replace H : (if 0 ≤ (ji13) then (if (Int.tmod (shr .u64 (rd l0 (ji10)) (ji13)) 2) = 1 then ((tenorref1_AddDigits.f k1 t272 (([1] : List Int))).bind fun t279 => (tenorref1_DivDigits.j1 k1 l0 l1 t279 x7_1 x8_1)) else (tenorref1_DivDigits.j1 k1 l0 l1 t272 x7_1 x8_1)) else (none)) = some (r1, r2) := by first | (rw [hji13] at H; exact H) | (simp only [hji13] at H ⊢; exact H)
                (try rw [hji13] at A9)
                by_cases c14 : 0 ≤ (ji13)
                · rw [if_pos c14] at H
                  have c14b0 := eq_true c14
                  have c14b1 : decide (0 ≤ (ji13)) = true := decide_eq_true c14
                  clear c14
                  obtain ⟨ji15, hji15⟩ : ∃ j_ : Int, (shr .u64 (rd l0 (ji10)) (ji13)) = j_ := ⟨_, rfl⟩
                  replace H : (if (Int.tmod (ji15) 2) = 1 then ((tenorref1_AddDigits.f k1 t272 (([1] : List Int))).bind fun t279 => (tenorref1_DivDigits.j1 k1 l0 l1 t279 x7_1 x8_1)) else (tenorref1_DivDigits.j1 k1 l0 l1 t272 x7_1 x8_1)) = some (r1, r2) := by first | (rw [hji15] at H; exact H) | (simp only [hji15] at H ⊢; exact H)
                  (try rw [hji15] at A9)
                  have hji15_ : ((rd l0 (ji10)) / 2 ^ min (ji13).toNat 64) = ji15 := hji15
                  have hji15z : (ji13) ≤ 64 → ((rd l0 (ji10)) / 2 ^ (ji13).toNat) = ji15 := shr_small hji15
                  have HC16 := Aside0.mk H
                  clear H
                  obtain ⟨Ao17, co17, eo17⟩ := Kd.R_slice HO_6.out
                  subst eo17
                  go_upto_if 30 with (first | ((with_reducible refine gate_callee (f := 37) rfl ?_); refine goesL_ (some 20) rfl rfl Tryz.func37 (by kernel_rfl) rfl #[.slice Ao17 x6_1.length co17, .int .i64 1] rfl (by (try simp only [List.map_toArray, List.map_cons, List.map_nil]); first | done | rfl | (simp only [List.length_drop, List.length_take]; rfl)) ?_; (with_reducible refine (tenorref1_ShiftUp.calls k1 _ _ x6_1 1 t272 _ ?side1 ?side2 A9.out).mono ?_); (case side1 => repeat (first | exact (Kd.R_reads' HO_6.out).2.2 | (with_reducible refine Kd.C_alloc ?_ _) | (with_reducible refine Kd.C_drewN ?_ _) | (with_reducible refine Kd.C_drew ?_))); (case side2 => exact (Kd.R_reads' HO_6.out).2.1); rintro e w18 ⟨v273, rfl, ho0, hb⟩; refine ⟨_, rfl, ?_⟩; have n0_ := Aside0.mk (Kd.R_elder' (by (with_reducible repeat (first | apply Kd.R_alloc | apply Kd.R_drewN | apply Kd.R_drew)); exact HO_6.out) (Kd.R_base ho0) hb); have n1_ := Aside0.mk (Kd.R_elder' (by (with_reducible repeat (first | apply Kd.R_alloc | apply Kd.R_drewN | apply Kd.R_drew)); exact HO_7.out) (Kd.R_base ho0) hb); have n2_ := Aside0.mk (Kd.R_lower (Kd.R_new' (Kd.R_new' ho0 (Kd.R_lt (by (with_reducible repeat (first | apply Kd.R_alloc | apply Kd.R_drewN | apply Kd.R_drew)); exact HO_6.out))) (Kd.R_lt (by (with_reducible repeat (first | apply Kd.R_alloc | apply Kd.R_drewN | apply Kd.R_drew)); exact HO_7.out))) (below_size (by repeat (first | (with_reducible first | exact HB.out | apply below_alloc | apply pw_below_drewN | apply below_drew1) | exact HB.out)))); have n3_ := Aside0.mk (below_step (by repeat (first | (with_reducible first | exact HB.out | apply below_alloc | apply pw_below_drewN | apply below_drew1) | exact HB.out)) hb); clear HO_6; clear HO_7; clear HB; have HO_6 := n0_; have HO_7 := n1_; have HO274 := n2_; have HB := n3_; clear n0_ n1_ n2_ n3_; (try clear hb); (try clear hb2); (try clear hk); (try clear hi); (try clear ho0); have p275 : 0 ≤ ((ji10) : Int) := of_decide_eq_true (by first | (with_reducible assumption) | assumption); have q275 : (ji10) < (l0.length : Int) := of_decide_eq_true (by first | (with_reducible assumption) | assumption); obtain ⟨ad275, e275, hx275_0⟩ := Kd.at_int HR0.out (ji10) p275 q275; cases e275; replace hx275_0 := (HB.out.cell (World.block_lt_of_cell? w _ hx275_0)).trans hx275_0; replace p275 := eq_true p275; replace q275 := eq_true q275))
                  (try simp only [Act.put, List.setIfInBounds_toArray, List.set_cons_zero, List.set_cons_succ])
                  go_cut [6] (fun v6 wc => ∃ (kq : Nat) (x6_15 : List Int), Aside0 (tenorref1_DivDigits.j1 kq l0 l1 x6_15 x7_1 x8_1 = some (r1, r2)) ∧ Aside0 (kq ≤ k1) ∧ Aside0 (Kd.R (Kd.int .u64) 26 wc w.heap.size (fun k_ => some k_ ≠ (v266 : Value).ownBlock) v6 x6_15) ∧ Aside0 (Kd.R (Kd.int .u64) 26 wc w.heap.size (fun k_ => some k_ ≠ (v6 : Value).ownBlock) v266 x7_1) ∧ Aside0 (Below w.heap.size w wc))
                  case first =>
                    have H := HC16.out
                    clear HC16
                    by_cases c19 : (Int.tmod (ji15) 2) = 1
                    · rw [if_pos c19] at H
                      have c19b0 : ((Int.tmod (ji15) 2) == 1) = true := beq_iff_eq.mpr c19
                      have c19b1 : ((Int.tmod (ji15) 2) != 1) = false := bne_eq_false_iff_eq.mpr c19
                      clear c19
                      (first | rw [c19b0] | (simp only [i64_w, i32_w]; rw [c19b0]) | skip)
                      obtain ⟨y276, hy276⟩ : ∃ y_ : List Int, y_ = (([1] : List Int)) := ⟨_, rfl⟩
                      replace H : ((tenorref1_AddDigits.f k1 t272 y276).bind fun t279 => (tenorref1_DivDigits.j1 k1 l0 l1 t279 x7_1 x8_1)) = some (r1, r2) := by first | (rw [hy276]; with_reducible exact H) | (have H2_ := (Option.bind_some _ _).symm.trans H; rw [hy276]; with_reducible exact H2_) | (have H2_ := (Option.bind_some _ _).symm.trans H; with_reducible exact H2_) | with_reducible exact H | (rw [hy276]; exact H) | exact H
                      have Ny276 := Aside0.mk hy276
                      clear hy276
                      replace H := Option.bind_eq_some_iff.mp H
                      obtain ⟨t279, A200, H⟩ := H
                      replace H : (tenorref1_DivDigits.j1 k1 l0 l1 t279 x7_1 x8_1) = some (r1, r2) := H
                      have A20 := Aside0.mk A200
                      clear A200
                      have H' := Aside0.mk H
                      clear H
                      go_wp2_with (first | ((with_reducible refine gate_dst (N := 32) rfl ?_); refine Kd.R_lit (Kd.int .u64) _ 26 ?hg (N := 32) ?hd (xs := ([1] : List Int)) (inner := [.int .u64 1]) (ok := fun _ => True) (okp := fun _ => True) ?hr ?hp (fun _ hk => hk) trivial (Below.refl _ _) (Nat.le_refl _) (by simp) ?_; (case hd => rfl); (case hg => rfl); (case hr => first | (go_simp; done) | (go_simp; rfl)); (case hp => exact (Reps.one (show Kd.M (Kd.int .u64) _ _ _ 1 [.int .u64 1] from rfl) (Reps.none _ _))); intro v277 w21 ho22 hb hg_ hnew_; clear hg_ hnew_; (first | rw [← Ny276.out] at ho22 | (simp only [Int.reduceToNat] at ho22; rw [← Ny276.out] at ho22)); have n0_ := Aside0.mk (Kd.R_elder' (by (with_reducible repeat (first | apply Kd.R_alloc | apply Kd.R_drewN | apply Kd.R_drew)); exact HO_6.out) (Kd.R_base ho22) hb); have n1_ := Aside0.mk (Kd.R_elder' (by (with_reducible repeat (first | apply Kd.R_alloc | apply Kd.R_drewN | apply Kd.R_drew)); exact HO_7.out) (Kd.R_base ho22) hb); have n2_ := Aside0.mk (Kd.R_elder' (by (with_reducible repeat (first | apply Kd.R_alloc | apply Kd.R_drewN | apply Kd.R_drew)); exact HO274.out) (Kd.R_base ho22) hb); have n3_ := Aside0.mk (Kd.R_lower (Kd.R_new' (Kd.R_new' (Kd.R_new' ho22 (Kd.R_lt (by (with_reducible repeat (first | apply Kd.R_alloc | apply Kd.R_drewN | apply Kd.R_drew)); exact HO_6.out))) (Kd.R_lt (by (with_reducible repeat (first | apply Kd.R_alloc | apply Kd.R_drewN | apply Kd.R_drew)); exact HO_7.out))) (Kd.R_lt (by (with_reducible repeat (first | apply Kd.R_alloc | apply Kd.R_drewN | apply Kd.R_drew)); exact HO274.out))) (below_size (by repeat (first | (with_reducible first | exact HB.out | apply below_alloc | apply pw_below_drewN | apply below_drew1) | exact HB.out)))); have n4_ := Aside0.mk (below_step (by repeat (first | (with_reducible first | exact HB.out | apply below_alloc | apply pw_below_drewN | apply below_drew1) | exact HB.out)) hb); clear HO_6; clear HO_7; clear HO274; clear HB; have HO_6 := n0_; have HO_7 := n1_; have HO274 := n2_; have HO278 := n3_; have HB := n4_; clear n0_ n1_ n2_ n3_ n4_; clear hb ho22; obtain ⟨Ao23, co23, eo23⟩ := Kd.R_slice HO274.out; subst eo23; obtain ⟨Ao24, co24, eo24⟩ := Kd.R_slice HO278.out; subst eo24) | ((with_reducible refine gate_callee (f := 40) rfl ?_); refine goesL_ (some 33) rfl rfl Tryz.func40 (by kernel_rfl) rfl #[.slice Ao23 t272.length co23, .slice Ao24 y276.length co24] rfl (by (try simp only [List.map_toArray, List.map_cons, List.map_nil]); first | done | rfl | (simp only [List.length_drop, List.length_take]; rfl)) ?_; (with_reducible refine (tenorref1_AddDigits.calls k1 _ _ t272 _ _ y276 t279 _ ?side1 ?side2 ?side3 ?side4 A20.out).mono ?_); (case side1 => repeat (first | exact (Kd.R_reads' HO274.out).2.2 | (with_reducible refine Kd.C_alloc ?_ _) | (with_reducible refine Kd.C_drewN ?_ _) | (with_reducible refine Kd.C_drew ?_))); (case side2 => exact (Kd.R_reads' HO274.out).2.1); (case side3 => repeat (first | exact (Kd.R_reads' HO278.out).2.2 | (with_reducible refine Kd.C_alloc ?_ _) | (with_reducible refine Kd.C_drewN ?_ _) | (with_reducible refine Kd.C_drew ?_))); (case side4 => exact (Kd.R_reads' HO278.out).2.1); rintro e w25 ⟨v280, rfl, ho0, hb⟩; refine ⟨_, rfl, ?_⟩; have n0_ := Aside0.mk (Kd.R_elder' (by (with_reducible repeat (first | apply Kd.R_alloc | apply Kd.R_drewN | apply Kd.R_drew)); exact HO_6.out) (Kd.R_base ho0) hb); have n1_ := Aside0.mk (Kd.R_elder' (by (with_reducible repeat (first | apply Kd.R_alloc | apply Kd.R_drewN | apply Kd.R_drew)); exact HO_7.out) (Kd.R_base ho0) hb); have n2_ := Aside0.mk (Kd.R_elder' (by (with_reducible repeat (first | apply Kd.R_alloc | apply Kd.R_drewN | apply Kd.R_drew)); exact HO274.out) (Kd.R_base ho0) hb); have n3_ := Aside0.mk (Kd.R_elder' (by (with_reducible repeat (first | apply Kd.R_alloc | apply Kd.R_drewN | apply Kd.R_drew)); exact HO278.out) (Kd.R_base ho0) hb); have n4_ := Aside0.mk (Kd.R_lower (Kd.R_new' (Kd.R_new' (Kd.R_new' (Kd.R_new' ho0 (Kd.R_lt (by (with_reducible repeat (first | apply Kd.R_alloc | apply Kd.R_drewN | apply Kd.R_drew)); exact HO_6.out))) (Kd.R_lt (by (with_reducible repeat (first | apply Kd.R_alloc | apply Kd.R_drewN | apply Kd.R_drew)); exact HO_7.out))) (Kd.R_lt (by (with_reducible repeat (first | apply Kd.R_alloc | apply Kd.R_drewN | apply Kd.R_drew)); exact HO274.out))) (Kd.R_lt (by (with_reducible repeat (first | apply Kd.R_alloc | apply Kd.R_drewN | apply Kd.R_drew)); exact HO278.out))) (below_size (by repeat (first | (with_reducible first | exact HB.out | apply below_alloc | apply pw_below_drewN | apply below_drew1) | exact HB.out)))); have n5_ := Aside0.mk (below_step (by repeat (first | (with_reducible first | exact HB.out | apply below_alloc | apply pw_below_drewN | apply below_drew1) | exact HB.out)) hb); clear HO_6; clear HO_7; clear HO274; clear HO278; clear HB; have HO_6 := n0_; have HO_7 := n1_; have HO274 := n2_; have HO278 := n3_; have HO281 := n4_; have HB := n5_; clear n0_ n1_ n2_ n3_ n4_ n5_; (try clear hb); (try clear hb2); (try clear hk); (try clear hi); (try clear ho0)))
                      go_meet
                      case rel => exact ⟨_, (t279), H', ⟨by have := HK1.out; first | omega | exact Nat.le_refl _⟩, ⟨by (with_reducible repeat (first | apply Kd.R_alloc | apply Kd.R_drewN | apply Kd.R_drew)); exact Kd.R_mono HO281.out (fun _ hk => hk.1.1.2)⟩, ⟨by (with_reducible repeat (first | apply Kd.R_alloc | apply Kd.R_drewN | apply Kd.R_drew)); exact Kd.R_mono HO_7.out (fun _ hk => hk.2)⟩, ⟨by repeat (first | (with_reducible first | exact HB.out | apply below_alloc | apply pw_below_drewN | apply below_drew1) | exact HB.out)⟩⟩
                    rw [if_neg c19] at H
                    have c19b0 : ((Int.tmod (ji15) 2) == 1) = false := beq_eq_false_iff_ne.mpr c19
                    have c19b1 : ((Int.tmod (ji15) 2) != 1) = true := bne_iff_ne.mpr c19
                    (first | rw [c19b0] | (simp only [i64_w, i32_w]; rw [c19b0]) | skip)
                    have H' := Aside0.mk H
                    clear H
                    go_wp2
                    go_meet
                    case rel => exact ⟨_, (t272), H', ⟨by have := HK1.out; first | omega | exact Nat.le_refl _⟩, ⟨by (with_reducible repeat (first | apply Kd.R_alloc | apply Kd.R_drewN | apply Kd.R_drew)); exact Kd.R_mono HO274.out (fun _ hk => hk.2)⟩, ⟨by (with_reducible repeat (first | apply Kd.R_alloc | apply Kd.R_drewN | apply Kd.R_drew)); exact Kd.R_mono HO_7.out (fun _ hk => hk.2)⟩, ⟨by repeat (first | (with_reducible first | exact HB.out | apply below_alloc | apply pw_below_drewN | apply below_drew1) | exact HB.out)⟩⟩
                  clear HC16
                  (try clear c1); (try clear p2); (try clear q2); (try clear hx2); (try clear c3); (try clear c3b0); (try clear c3b1); (try clear c4); (try clear c4b0); (try clear c4b1); (try clear p6); (try clear c7); (try clear c8); (try clear c8b0); (try clear c11); (try clear c11b0); (try clear c12); (try clear c12b0); (try clear c14); (try clear c14b0); (try clear c14b1); (try clear c19); (try clear c19b0); (try clear c19b1); (try clear hx275_0); (try clear p2); (try clear p275); (try clear p6); (try clear q275)
                  obtain ⟨kq, x6_15, HA, HJ15, HO_6, HO_7, HB⟩ := hcut
                  cases kq with
                  | zero => exact absurd HA.out (by simp [tenorref1_DivDigits.j1])
                  | succ kj15 =>
                    have H := HA.out
                    clear HA
                    simp only [tenorref1_DivDigits.j1] at H
                    replace H := Option.bind_eq_some_iff.mp H
                    obtain ⟨t282, A260, H⟩ := H
                    replace H : (if t282 ≥ 0 then ((tenorref1_SubDigits.f kj15 x6_15 l1).bind fun t283 => (if 0 ≤ (wrap64 (Int.tdiv x8_1 32)) then (if (wrap64 (Int.tdiv x8_1 32)) < (x7_1.length : Int) then (if 0 ≤ (Int.tmod x8_1 32) then (tenorref1_DivDigits.l0 kj15 l0 l1 t283 (x7_1.set ((wrap64 (Int.tdiv x8_1 32)) : Int).toNat (IntKind.u64.wrap ((rd x7_1 (wrap64 (Int.tdiv x8_1 32))) + (shl .u64 1 (Int.tmod x8_1 32))))) (wrap64 (x8_1 - 1))) else (none)) else (none)) else (none))) else (tenorref1_DivDigits.l0 kj15 l0 l1 x6_15 x7_1 (wrap64 (x8_1 - 1)))) = some (r1, r2) := H
                    have A26 := Aside0.mk A260
                    clear A260
                    by_cases c27 : t282 ≥ 0
                    · rw [if_pos c27] at H
                      have c27b0 : decide (0 ≤ t282) = true := decide_eq_true c27
                      clear c27
                      replace H := Option.bind_eq_some_iff.mp H
                      obtain ⟨t283, A280, H⟩ := H
                      replace H : (if 0 ≤ (wrap64 (Int.tdiv x8_1 32)) then (if (wrap64 (Int.tdiv x8_1 32)) < (x7_1.length : Int) then (if 0 ≤ (Int.tmod x8_1 32) then (tenorref1_DivDigits.l0 kj15 l0 l1 t283 (x7_1.set ((wrap64 (Int.tdiv x8_1 32)) : Int).toNat (IntKind.u64.wrap ((rd x7_1 (wrap64 (Int.tdiv x8_1 32))) + (shl .u64 1 (Int.tmod x8_1 32))))) (wrap64 (x8_1 - 1))) else (none)) else (none)) else (none)) = some (r1, r2) := H
                      have A28 := Aside0.mk A280
                      clear A280
                      obtain ⟨ji29, hji29⟩ : ∃ j_ : Int, (wrap64 (Int.tdiv x8_1 32)) = j_ := ⟨_, rfl⟩
                      obtain rfl : ji29 = ji10 := hji29.symm.trans hji10
                      replace H : (if 0 ≤ (ji29) then (if (ji29) < (x7_1.length : Int) then (if 0 ≤ (Int.tmod x8_1 32) then (tenorref1_DivDigits.l0 kj15 l0 l1 t283 (x7_1.set ((ji29) : Int).toNat (IntKind.u64.wrap ((rd x7_1 (ji29)) + (shl .u64 1 (Int.tmod x8_1 32))))) (wrap64 (x8_1 - 1))) else (none)) else (none)) else (none)) = some (r1, r2) := by first | (rw [hji29] at H; exact H) | (simp only [hji29] at H ⊢; exact H)
                      (try rw [hji29] at A26)
                      (try rw [hji29] at A28)
                      have hji29w : (IntKind.i64.wrap (Int.tdiv x8_1 32)) = ji29 := (i64_w _).trans hji29
                      by_cases c30 : 0 ≤ (ji29)
                      · rw [if_pos c30] at H
                        have c30b0 : decide (0 ≤ (ji29)) = true := decide_eq_true c30
                        clear c30
                        by_cases c31 : (ji29) < (x7_1.length : Int)
                        · rw [if_pos c31] at H
                          have c31b0 : decide ((ji29) < (x7_1.length : Int)) = true := decide_eq_true c31
                          clear c31
                          obtain ⟨ji32, hji32⟩ : ∃ j_ : Int, (Int.tmod x8_1 32) = j_ := ⟨_, rfl⟩
                          obtain rfl : ji32 = ji13 := hji32.symm.trans hji13
                          replace H : (if 0 ≤ (ji32) then (tenorref1_DivDigits.l0 kj15 l0 l1 t283 (x7_1.set ((ji29) : Int).toNat (IntKind.u64.wrap ((rd x7_1 (ji29)) + (shl .u64 1 (ji32))))) (wrap64 (x8_1 - 1))) else (none)) = some (r1, r2) := by first | (rw [hji32] at H; exact H) | (simp only [hji32] at H ⊢; exact H)
                          (try rw [hji32] at A26)
                          (try rw [hji32] at A28)
                          by_cases c33 : 0 ≤ (ji32)
                          · rw [if_pos c33] at H
                            have c33b0 := eq_true c33
                            have c33b1 : decide (0 ≤ (ji32)) = true := decide_eq_true c33
                            clear c33
                            obtain ⟨ji34, hji34⟩ : ∃ j_ : Int, (shl .u64 1 (ji32)) = j_ := ⟨_, rfl⟩
                            replace H : (tenorref1_DivDigits.l0 kj15 l0 l1 t283 (x7_1.set ((ji29) : Int).toNat (IntKind.u64.wrap ((rd x7_1 (ji29)) + (ji34)))) (wrap64 (x8_1 - 1))) = some (r1, r2) := by first | (rw [hji34] at H; exact H) | (simp only [hji34] at H ⊢; exact H)
                            (try rw [hji34] at A26)
                            (try rw [hji34] at A28)
                            have hji34_ : (IntKind.u64.wrap (1 * 2 ^ min (ji32).toNat 64)) = ji34 := hji34
                            have hji34z : (ji32) ≤ 64 → (IntKind.u64.wrap (1 * 2 ^ (ji32).toNat)) = ji34 := shl_small hji34
                            have hji34u : (IntKind.u64.wrap (2 ^ min (ji32).toNat 64)) = ji34 := by have h_ := hji34_; rw [Int.one_mul] at h_; exact h_
                            have hji34v : (ji32) ≤ 64 → (IntKind.u64.wrap (2 ^ (ji32).toNat)) = ji34 := fun hle_ => by have h_ := hji34z hle_; rw [Int.one_mul] at h_; exact h_
                            obtain ⟨y287, hy287⟩ : ∃ y_ : List Int, y_ = (x7_1.set ((ji29) : Int).toNat (IntKind.u64.wrap ((rd x7_1 (ji29)) + (ji34)))) := ⟨_, rfl⟩
                            replace H : (tenorref1_DivDigits.l0 kj15 l0 l1 t283 y287 (wrap64 (x8_1 - 1))) = some (r1, r2) := by first | (rw [hy287]; with_reducible exact H) | (have H2_ := (Option.bind_some _ _).symm.trans H; rw [hy287]; with_reducible exact H2_) | (have H2_ := (Option.bind_some _ _).symm.trans H; with_reducible exact H2_) | with_reducible exact H | (rw [hy287]; exact H) | exact H
                            have Ny287 := Aside0.mk hy287
                            clear hy287
                            have H' := Aside0.mk H
                            clear H
                            obtain ⟨Ao36, co36, eo36⟩ := Kd.R_slice HO_6.out
                            subst eo36
                            try go_wp2_with (first | ((with_reducible refine gate_callee (f := 96) rfl ?_); refine goesL_ (some 36) rfl rfl Tryz.func96 (by kernel_rfl) rfl #[.slice Ao36 x6_15.length co36, .slice A1 l1.length c1] rfl (by (try simp only [List.map_toArray, List.map_cons, List.map_nil]); first | done | rfl | (simp only [List.length_drop, List.length_take]; rfl)) ?_; (with_reducible refine (tenorref1_CmpDigits.calls kj15 _ _ x6_15 _ _ l1 t282 _ ?side1 ?side2 ?side3 ?side4 A26.out).mono ?_); (case side1 => repeat (first | exact (Kd.R_reads' HO_6.out).2.2 | (with_reducible refine Kd.C_alloc ?_ _) | (with_reducible refine Kd.C_drewN ?_ _) | (with_reducible refine Kd.C_drew ?_))); (case side2 => exact (Kd.R_reads' HO_6.out).2.1); (case side3 => repeat (first | exact (Kd.C_below HR1.out HB.out) | (with_reducible refine Kd.C_alloc ?_ _) | (with_reducible refine Kd.C_drewN ?_ _) | (with_reducible refine Kd.C_drew ?_))); (case side4 => exact HC1.out); rintro e w' ⟨rfl, ⟨nd, rfl⟩⟩; refine ⟨_, rfl, ?_⟩; (try (rw [drewN_self wc]; generalize hq_ : World.drewN wc _ = wc; have n0_ : Aside0 (Kd.R (Kd.int .u64) 26 wc w.heap.size (fun k_ => some k_ ≠ (v266 : Value).ownBlock) (.slice Ao36 x6_15.length co36) x6_15) := ⟨by rw [← hq_]; exact (by (with_reducible repeat (first | apply Kd.R_alloc | apply Kd.R_drewN | apply Kd.R_drew)); exact HO_6.out)⟩; have n1_ : Aside0 (Kd.R (Kd.int .u64) 26 wc w.heap.size (fun k_ => some k_ ≠ (.slice Ao36 x6_15.length co36 : Value).ownBlock) v266 x7_1) := ⟨by rw [← hq_]; exact (by (with_reducible repeat (first | apply Kd.R_alloc | apply Kd.R_drewN | apply Kd.R_drew)); exact HO_7.out)⟩; have n2_ : Aside0 (Below w.heap.size w wc) := ⟨by rw [← hq_]; exact (by repeat (first | (with_reducible first | exact HB.out | apply below_alloc | apply pw_below_drewN | apply below_drew1) | exact HB.out))⟩; clear HO_6 HO_7 HB hq_; have HO_6 := n0_; have HO_7 := n1_; have HB := n2_; clear n0_ n1_ n2_))) | ((with_reducible refine gate_callee (f := 97) rfl ?_); refine goesL_ (some 40) rfl rfl Tryz.func97 (by kernel_rfl) rfl #[.slice Ao36 x6_15.length co36, .slice A1 l1.length c1] rfl (by (try simp only [List.map_toArray, List.map_cons, List.map_nil]); first | done | rfl | (simp only [List.length_drop, List.length_take]; rfl)) ?_; (with_reducible refine (tenorref1_SubDigits.calls kj15 _ _ x6_15 _ _ l1 t283 _ ?side1 ?side2 ?side3 ?side4 A28.out).mono ?_); (case side1 => repeat (first | exact (Kd.R_reads' HO_6.out).2.2 | (with_reducible refine Kd.C_alloc ?_ _) | (with_reducible refine Kd.C_drewN ?_ _) | (with_reducible refine Kd.C_drew ?_))); (case side2 => exact (Kd.R_reads' HO_6.out).2.1); (case side3 => repeat (first | exact (Kd.C_below HR1.out HB.out) | (with_reducible refine Kd.C_alloc ?_ _) | (with_reducible refine Kd.C_drewN ?_ _) | (with_reducible refine Kd.C_drew ?_))); (case side4 => exact HC1.out); rintro e w37 ⟨v284, rfl, ho0, hb⟩; refine ⟨_, rfl, ?_⟩; have n0_ := Aside0.mk (Kd.R_elder' (by (with_reducible repeat (first | apply Kd.R_alloc | apply Kd.R_drewN | apply Kd.R_drew)); exact HO_6.out) (Kd.R_base ho0) hb); have n1_ := Aside0.mk (Kd.R_elder' (by (with_reducible repeat (first | apply Kd.R_alloc | apply Kd.R_drewN | apply Kd.R_drew)); exact HO_7.out) (Kd.R_base ho0) hb); have n2_ := Aside0.mk (Kd.R_lower (Kd.R_new' (Kd.R_new' ho0 (Kd.R_lt (by (with_reducible repeat (first | apply Kd.R_alloc | apply Kd.R_drewN | apply Kd.R_drew)); exact HO_6.out))) (Kd.R_lt (by (with_reducible repeat (first | apply Kd.R_alloc | apply Kd.R_drewN | apply Kd.R_drew)); exact HO_7.out))) (below_size (by repeat (first | (with_reducible first | exact HB.out | apply below_alloc | apply pw_below_drewN | apply below_drew1) | exact HB.out)))); have n3_ := Aside0.mk (below_step (by repeat (first | (with_reducible first | exact HB.out | apply below_alloc | apply pw_below_drewN | apply below_drew1) | exact HB.out)) hb); clear HO_6; clear HO_7; clear HB; have HO_6 := n0_; have HO_7 := n1_; have HO285 := n2_; have HB := n3_; clear n0_ n1_ n2_ n3_; (try clear hb); (try clear hb2); (try clear hk); (try clear hi); (try clear ho0)))
                            have n0_ := Aside0.mk (Kd.R_drew HO_6.out)
                            have n1_ := Aside0.mk (Kd.R_drew HO_7.out)
                            have n2_ := Aside0.mk (Kd.R_drew HO285.out)
                            have n3_ := Aside0.mk (below_drew1 HB.out)
                            clear HO_6
                            clear HO_7
                            clear HO285
                            clear HB
                            have HO_6 := n0_
                            have HO_7 := n1_
                            have HO285 := n2_
                            have HB := n3_
                            clear n0_ n1_ n2_ n3_
                            obtain ⟨Ao39, co39, eo39⟩ := Kd.R_slice HO_7.out
                            (first | subst eo39 | (injection eo39 with f1_ f2_ f3_; have f4_ := f1_.symm; have f5_ := f3_.symm; clear f1_ f2_ f3_; subst f4_; subst f5_))
                            have p286 : 0 ≤ ((ji29) : Int) := of_decide_eq_true (by first | (with_reducible assumption) | assumption)
                            have q286 : (ji29) < (x7_1.length : Int) := of_decide_eq_true (by first | (with_reducible assumption) | assumption)
                            obtain ⟨ad286, e286, hx286_0⟩ := Kd.at_int (Kd.R_reads' HO_7.out).2.2 (ji29) p286 q286
                            cases e286
                            replace p286 := eq_true p286
                            replace q286 := eq_true q286
                            have p35 : 0 ≤ ((ji29) : Int) := of_decide_eq_true (by first | (with_reducible assumption) | assumption)
                            have q35 : ((ji29) : Int) < ((x7_1.length : Int) : Int) := of_decide_eq_true (by first | (with_reducible assumption) | assumption)
                            obtain ⟨go35, co35, eo35, gb35, gl35, cl35, HG35⟩ := Kd.R_form HO_7.out (by omega)
                            (first | cases eo35 | (injection eo35 with ea_ en_ ec_; (first | subst ea_ | (injection ea_ with ea_; subst ea_)); subst ec_; clear en_))
                            have GB35 := Aside0.mk gb35
                            have GG35 := Aside0.mk HG35
                            clear gb35 gl35 HG35
                            (first | simp only [add_plain] at hx286_0 | skip)
                            obtain ⟨hx35_0, hf35_0⟩ := Kd.R_celln 0 HO_7.out ((ji29) : Int) p35 q35
                            replace p35 := eq_true p35
                            replace q35 := eq_true q35
                            have HP40 := Kd.R_putn HO_7.out ((ji29) : Int) (IntKind.u64.wrap ((rd x7_1 (ji29)) + (ji34)))
                            rw [← Ny287.out] at HP40
                            have HQ40 := Aside0.mk HP40
                            clear HP40
                            refine start_ (n := 14) (S := fun w' => w'.cell? ⟨go35, ((ji29)).toNat, none⟩ = some (.int .u64 (rd x7_1 (ji29)))) (ds := [13]) #[false, false, false, false, false, false, false, false, false, false, false, false, false, false] (by kernel_rfl) rfl rfl (hx286_0) (fun hHeld => ?_); refine with_tabW tenorref1_DivDigits.tab11 tenorref1_DivDigits.bits11 (fun HT_ HW_ => ?_)
                            generalize w37.drew = w38 at HO_6 HO_7 HO285 HB GG35 HQ40 hf35_0 hx286_0 hx35_0 hHeld ⊢
                            refine pure_ (i := 0) (N := some 41) (v := ?_) (a' := ?_) #[true, false, false, false, false, false, false, false, false, false, false, false, false, false] rfl rfl (any_of HT_.out (by kernel_rfl)) (fun _ _ _ h => h) (Or.inl ⟨by rfl, ?_⟩) ?_ ?_
                            rotate_left
                            · intro w'
                              go_simp
                              with_reducible rfl
                            rotate_left
                            · simp only [Act.put, List.setIfInBounds_toArray, List.set_cons_zero, List.set_cons_succ, i64_w, i32_w]
                              rfl
                            refine pure_ (i := 1) (N := some 42) (v := ?_) (a' := ?_) #[true, true, false, false, false, false, false, false, false, false, false, false, false, false] rfl rfl (any_of HT_.out (by kernel_rfl)) (fun _ _ _ h => h) (Or.inl ⟨by rfl, ?_⟩) ?_ ?_
                            rotate_left
                            · intro w'
                              go_simp
                              with_reducible rfl
                            rotate_left
                            · simp only [Act.put, List.setIfInBounds_toArray, List.set_cons_zero, List.set_cons_succ, i64_w, i32_w]
                              rfl
                            refine pure_ (i := 2) (N := some 43) (v := ?_) (a' := ?_) #[true, true, true, false, false, false, false, false, false, false, false, false, false, false] rfl rfl (any_of HT_.out (by kernel_rfl)) (fun _ _ _ h => h) (Or.inl ⟨by rfl, ?_⟩) ?_ ?_
                            rotate_left
                            · intro w'
                              go_simp
                              with_reducible rfl
                            rotate_left
                            · simp only [Act.put, List.setIfInBounds_toArray, List.set_cons_zero, List.set_cons_succ, i64_w, i32_w]
                              rfl
                            refine pure_ (i := 3) (N := some 44) (v := ?_) (a' := ?_) #[true, true, true, true, false, false, false, false, false, false, false, false, false, false] rfl rfl (any_of HT_.out (by kernel_rfl)) (fun _ _ _ h => h) (Or.inl ⟨by rfl, ?_⟩) ?_ ?_
                            rotate_left
                            · intro w'
                              go_simp
                              with_reducible rfl
                            rotate_left
                            · simp only [Act.put, List.setIfInBounds_toArray, List.set_cons_zero, List.set_cons_succ, i64_w, i32_w]
                              rfl
                            refine pure_ (i := 4) (N := some 45) (v := ?_) (a' := ?_) #[true, true, true, true, true, false, false, false, false, false, false, false, false, false] rfl rfl (any_of HT_.out (by kernel_rfl)) (fun _ _ _ h => h) (Or.inl ⟨by rfl, ?_⟩) ?_ ?_
                            rotate_left
                            · intro w'
                              go_simp
                              with_reducible rfl
                            rotate_left
                            · simp only [Act.put, List.setIfInBounds_toArray, List.set_cons_zero, List.set_cons_succ, i64_w, i32_w]
                              rfl
                            refine pure_ (i := 5) (N := some 46) (v := ?_) (a' := ?_) #[true, true, true, true, true, true, false, false, false, false, false, false, false, false] rfl rfl (any_of HT_.out (by kernel_rfl)) (fun _ _ _ h => h) (Or.inl ⟨by rfl, ?_⟩) ?_ ?_
                            rotate_left
                            · intro w'
                              go_simp
                              with_reducible rfl
                            rotate_left
                            · simp only [Act.put, List.setIfInBounds_toArray, List.set_cons_zero, List.set_cons_succ, i64_w, i32_w]
                              rfl
                            refine pure_ (i := 6) (N := some 47) (v := ?_) (a' := ?_) #[true, true, true, true, true, true, true, false, false, false, false, false, false, false] rfl rfl (any_of HT_.out (by kernel_rfl)) (fun _ _ _ h => h) (Or.inl ⟨by rfl, ?_⟩) ?_ ?_
                            rotate_left
                            · intro w'
                              go_simp
                              with_reducible rfl
                            rotate_left
                            · simp only [Act.put, List.setIfInBounds_toArray, List.set_cons_zero, List.set_cons_succ, i64_w, i32_w]
                              rfl
                            refine pure_ (i := 8) (N := some 49) (v := ?_) (a' := ?_) #[true, true, true, true, true, true, true, false, true, false, false, false, false, false] rfl rfl (any_of HT_.out (by kernel_rfl)) (fun _ _ _ h => h) (Or.inl ⟨by rfl, ?_⟩) ?_ ?_
                            rotate_left
                            · intro w'
                              go_simp
                              with_reducible rfl
                            rotate_left
                            · simp only [Act.put, List.setIfInBounds_toArray, List.set_cons_zero, List.set_cons_succ, i64_w, i32_w]
                              rfl
                            refine pure_ (i := 9) (N := some 50) (v := ?_) (a' := ?_) #[true, true, true, true, true, true, true, false, true, true, false, false, false, false] rfl rfl (any_of HT_.out (by kernel_rfl)) (fun _ _ _ h => h) (Or.inl ⟨by rfl, ?_⟩) ?_ ?_
                            rotate_left
                            · intro w'
                              go_simp
                              with_reducible rfl
                            rotate_left
                            · simp only [Act.put, List.setIfInBounds_toArray, List.set_cons_zero, List.set_cons_succ, i64_w, i32_w]
                              rfl
                            refine pure_ (i := 10) (N := some 51) (v := ?_) (a' := ?_) #[true, true, true, true, true, true, true, false, true, true, true, false, false, false] rfl rfl (any_of HT_.out (by kernel_rfl)) (fun _ _ _ h => h) (Or.inl ⟨by rfl, ?_⟩) ?_ ?_
                            rotate_left
                            · intro w'
                              go_simp
                              with_reducible rfl
                            rotate_left
                            · simp only [Act.put, List.setIfInBounds_toArray, List.set_cons_zero, List.set_cons_succ, i64_w, i32_w]
                              rfl
                            refine take_ (i := 7) (N := some 48) (v := ?_) (a' := ?_) #[true, true, true, true, true, true, true, true, true, true, true, false, false, false] rfl rfl (take_ofW HT_.out HW_.out (by kernel_rfl)) (fun _ _ _ h => h) (Or.inl ⟨by rfl, ?_⟩) hHeld ?_ ?_
                            rotate_left
                            · intro w' s0
                              go_simp
                              with_reducible rfl
                            rotate_left
                            · simp only [Act.put, List.setIfInBounds_toArray, List.set_cons_zero, List.set_cons_succ, i64_w, i32_w]
                              rfl
                            refine pure_ (i := 11) (N := some 52) (v := ?_) (a' := ?_) #[true, true, true, true, true, true, true, true, true, true, true, true, false, false] rfl rfl (any_of HT_.out (by kernel_rfl)) (fun _ _ _ h => h) (Or.inl ⟨by rfl, ?_⟩) ?_ ?_
                            rotate_left
                            · intro w'
                              go_simp
                              with_reducible rfl
                            rotate_left
                            · simp only [Act.put, List.setIfInBounds_toArray, List.set_cons_zero, List.set_cons_succ, i64_w, i32_w]
                              rfl
                            refine pure_ (i := 12) (N := some 53) (v := ?_) (a' := ?_) #[true, true, true, true, true, true, true, true, true, true, true, true, true, false] rfl rfl (any_of HT_.out (by kernel_rfl)) (fun _ _ _ h => h) (Or.inl ⟨by rfl, ?_⟩) ?_ ?_
                            rotate_left
                            · intro w'
                              go_simp
                              with_reducible rfl
                            rotate_left
                            · simp only [Act.put, List.setIfInBounds_toArray, List.set_cons_zero, List.set_cons_succ, i64_w, i32_w]
                              rfl
                            refine last_ (i := 13) (N := none) #[true, true, true, true, true, true, true, true, true, true, true, true, true, true] rfl rfl (one_of HT_.out (by kernel_rfl)) (by decide) (fun K hK => ?_)
                            refine skip_ (w1 := ?_) (by rfl) rfl ?_ ?_
                            rotate_left
                            · go_simp
                              rfl
                            refine hK.out _ _ ?_
                            clear hK K
                            refine done_ (done_of HT_.out (by kernel_rfl)) ?_
                            try go_wp2
                            go_roundg kj15
                            case measure => have := HK1.out; have := HJ15.out; omega
                            case rel => exact ⟨(t283), (y287), (wrap64 (x8_1 - 1)), (by first | rfl | (simp; done) | (simp [*]; done)), H', ⟨by have := HK1.out; have := HJ15.out; omega⟩, ⟨by (with_reducible repeat (first | apply Kd.R_alloc | apply Kd.R_drewN | apply Kd.R_drew)); exact Kd.R_mono (Kd.R_far (p := ⟨go35, ((ji29) : Int).toNat, none⟩) (Kd.R_mono HO285.out (fun k_ hk => (⟨hk, fun e_ => hk.2 (by rw [e_]; rfl)⟩ : _ ∧ k_ ≠ go35))) (fun _ hk => hk.2) (.int .u64 (IntKind.u64.wrap ((rd x7_1 (ji29)) + (ji34))))) (fun _ hk => hk.1.2)⟩, ⟨by (with_reducible repeat (first | apply Kd.R_alloc | apply Kd.R_drewN | apply Kd.R_drew)); exact Kd.R_mono HQ40.out (fun _ hk => hk.2)⟩, ⟨by repeat (first | (with_reducible first | exact HB.out | apply below_alloc | apply pw_below_drewN | apply below_drew1 | refine below_set ?_ GB35.out) | exact HB.out)⟩⟩
                          rw [if_neg c33] at H
                          exact absurd H (by simp)
                        rw [if_neg c31] at H
                        exact absurd H (by simp)
                      rw [if_neg c30] at H
                      exact absurd H (by simp)
                    rw [if_neg c27] at H
                    have c27b0 : decide (0 ≤ t282) = false := decide_eq_false c27
                    clear c27
                    have H' := Aside0.mk H
                    clear H
                    obtain ⟨Ao41, co41, eo41⟩ := Kd.R_slice HO_6.out
                    subst eo41
                    go_wp2_with (first | ((with_reducible refine gate_callee (f := 96) rfl ?_); refine goesL_ (some 36) rfl rfl Tryz.func96 (by kernel_rfl) rfl #[.slice Ao41 x6_15.length co41, .slice A1 l1.length c1] rfl (by (try simp only [List.map_toArray, List.map_cons, List.map_nil]); first | done | rfl | (simp only [List.length_drop, List.length_take]; rfl)) ?_; (with_reducible refine (tenorref1_CmpDigits.calls kj15 _ _ x6_15 _ _ l1 t282 _ ?side1 ?side2 ?side3 ?side4 A26.out).mono ?_); (case side1 => repeat (first | exact (Kd.R_reads' HO_6.out).2.2 | (with_reducible refine Kd.C_alloc ?_ _) | (with_reducible refine Kd.C_drewN ?_ _) | (with_reducible refine Kd.C_drew ?_))); (case side2 => exact (Kd.R_reads' HO_6.out).2.1); (case side3 => repeat (first | exact (Kd.C_below HR1.out HB.out) | (with_reducible refine Kd.C_alloc ?_ _) | (with_reducible refine Kd.C_drewN ?_ _) | (with_reducible refine Kd.C_drew ?_))); (case side4 => exact HC1.out); rintro e w' ⟨rfl, ⟨nd, rfl⟩⟩; refine ⟨_, rfl, ?_⟩))
                    go_roundg kj15
                    case measure => have := HK1.out; have := HJ15.out; omega
                    case rel => exact ⟨(x6_15), (x7_1), (wrap64 (x8_1 - 1)), (by first | rfl | (simp; done) | (simp [*]; done)), H', ⟨by have := HK1.out; have := HJ15.out; omega⟩, ⟨by (with_reducible repeat (first | apply Kd.R_alloc | apply Kd.R_drewN | apply Kd.R_drew)); exact HO_6.out⟩, ⟨by (with_reducible repeat (first | apply Kd.R_alloc | apply Kd.R_drewN | apply Kd.R_drew)); exact HO_7.out⟩, ⟨by repeat (first | (with_reducible first | exact HB.out | apply below_alloc | apply pw_below_drewN | apply below_drew1) | exact HB.out)⟩⟩
                rw [if_neg c14] at H
                exact absurd H (by simp)
              rw [if_neg c12] at H
              exact absurd H (by simp)
            rw [if_neg c11] at H
            exact absurd H (by simp)
          rw [if_neg c8] at H
          have c8b0 : decide (0 ≤ x8_1) = false := decide_eq_false c8
          clear c8
          replace H := Option.bind_eq_some_iff.mp H
          obtain ⟨t269, A420, H⟩ := H
          replace H : (some (t269, x6_1)) = some (r1, r2) := H
          have A42 := Aside0.mk A420
          clear A420
          simp only [Option.some.injEq, Prod.mk.injEq] at H
          obtain ⟨rfl, rfl⟩ := H
          obtain ⟨Ao43, co43, eo43⟩ := Kd.R_slice HO_7.out
          subst eo43
          go_wp2_with (first | ((with_reducible refine gate_callee (f := 68) rfl ?_); refine goesL_ (some 55) rfl rfl Tryz.func68 (by kernel_rfl) rfl #[.slice Ao43 x7_1.length co43] rfl (by (try simp only [List.map_toArray, List.map_cons, List.map_nil]); first | done | rfl | (simp only [List.length_drop, List.length_take]; rfl)) ?_; (with_reducible refine (tenorref1_trim.calls k1 (fun k_ => some k_ = (.slice Ao43 x7_1.length co43 : Value).ownBlock) (.slice Ao43 x7_1.length co43) x7_1 t269 w _ ?side1 ?side2 A42.out).mono ?_); (case side1 => repeat (first | (with_reducible first | exact HB.out | apply below_alloc | apply pw_below_drewN | apply below_drew1) | exact HB.out)); (case side2 => exact Kd.R_tight rfl HO_7.out); rintro e w44 ⟨v270, rfl, ho0, hb, hkp⟩; refine ⟨_, rfl, ?_⟩; have n0_ := Aside0.mk (Kd.R_mono (ok' := fun k_ => some k_ ≠ (v270 : Value).ownBlock) (Kd.R_keptB (HO_6.out) hkp (fun k_ hk_ hs_ => (hk_) hs_)) (fun k_ hk_ => fun e_ => Or.elim (ho0.1 k_ e_.symm) (fun hs_ => hk_.2.1 hs_) (fun hn_ => Nat.not_le.2 hk_.2.2 hn_))); have n1_ := Aside0.mk (Kd.R_mono (ok' := fun k_ => some k_ ≠ (u6 : Value).ownBlock) ho0 (fun k_ hk_ => Or.elim hk_ (fun hs_ => fun e_ => (((HO_6.out).1 k_ e_.symm)) hs_) (fun hn_ => (Kd.fresh' (Kd.R_lt (by (with_reducible repeat (first | apply Kd.R_alloc | apply Kd.R_drewN | apply Kd.R_drew)); exact HO_6.out)) k_ hn_)))); have n2_ := Aside0.mk (hb); clear HO_6; clear HB; clear HO_7; have HO_6 := n0_; have HO271 := n1_; have HB := n2_; clear n0_ n1_ n2_; (try clear hb); (try clear hkp); (try clear ho0)))
          go_ret2
          exact ⟨_, _, by first | rfl | (simp [errW_none, errW_some] <;> rfl) | (simp [*, errW_none, errW_some] <;> rfl), by (with_reducible repeat (first | apply Kd.R_alloc | apply Kd.R_drewN | apply Kd.R_drew)); exact HO271.out, by (with_reducible repeat (first | apply Kd.R_alloc | apply Kd.R_drewN | apply Kd.R_drew)); exact HO_6.out, by repeat (first | (with_reducible first | exact HB.out | apply below_alloc | apply pw_below_drewN | apply below_drew1) | exact HB.out)⟩
    rw [if_neg c4] at H
    exact absurd H (by simp)
  rw [if_neg c3] at H
  exact absurd H (by simp)
end Go.Proofs.YtjpiplplohapnaaGreatDoor.PText
namespace Go.Proofs.YtjpiplplohapnaaGreatDoor.Big
open Go.RowKit Go.Proofs.YtjpiplplohapnaaGreatDoorW.PrintWords Go.Proofs.YtjpiplplohapnaaGreatDoorW.PrintLast Go.Proofs.YtjpiplplohapnaaGreatDoorW.PrintMore
open Go.Proofs.YtjpiplplohapnaaGreatDoor.PText
theorem tmod2 {y t : Nat} (h : y % 2 = t) : Int.tmod (y : Int) 2 = (t : Int) := by rw [Int.tmod_eq_emod_of_nonneg (by omega)]; omega
theorem half_step (a i : Nat) : a / 2 ^ i = 2 * (a / 2 ^ (i + 1)) + a / 2 ^ i % 2 := by
  rw [Nat.pow_succ, ← Nat.div_div_eq_div_mul]
  omega
theorem bit_dig (a i : Nat) : dig a (i / 32) / 2 ^ (i % 32) % 2 = a / 2 ^ i % 2 := by
  unfold dig
  have h1 : (2 : Nat) ^ i = B ^ (i / 32) * 2 ^ (i % 32) := by rw [B_eq, ← Nat.pow_add, Nat.div_add_mod]
  rw [h1, ← Nat.div_div_eq_div_mul]
  generalize a / B ^ (i / 32) = x
  have h2 : B = 2 ^ (i % 32) * (2 * 2 ^ (31 - i % 32)) := by
    rw [← Nat.pow_succ', ← Nat.pow_add, show i % 32 + (31 - i % 32 + 1) = 32 by omega]
  rw [h2, Nat.mod_mul, Nat.add_mul_div_left _ _ (Nat.pow_pos (by omega)), Nat.div_eq_of_lt (Nat.mod_lt _ (Nat.pow_pos (by omega))), Nat.zero_add, Nat.mod_mul_right_mod]
theorem bit_room (m i : Nat) : dig (m * 2 ^ (i + 1)) (i / 32) + 2 ^ (i % 32) < B := by
  unfold dig
  have h1 : (2 : Nat) ^ (i + 1) = B ^ (i / 32) * 2 ^ (i % 32 + 1) := by
    rw [B_eq, ← Nat.pow_add]; congr 1; omega
  have h2 : B = 2 ^ (31 - i % 32) * 2 ^ (i % 32 + 1) := by rw [← Nat.pow_add, show 31 - i % 32 + (i % 32 + 1) = 32 by omega]
  have h3 : m * 2 ^ (i + 1) / B ^ (i / 32) = m * 2 ^ (i % 32 + 1) := by
    rw [h1, ← Nat.mul_assoc, Nat.mul_comm m, Nat.mul_assoc, Nat.mul_div_cancel_left _ (Bpow_pos _)]
  rw [h3]
  have h4 : m * 2 ^ (i % 32 + 1) % B = m % 2 ^ (31 - i % 32) * 2 ^ (i % 32 + 1) := by rw [h2, Nat.mul_mod_mul_right]
  rw [h4]
  have h5 : m % 2 ^ (31 - i % 32) < 2 ^ (31 - i % 32) := Nat.mod_lt _ (Nat.pow_pos (by omega))
  have h6 : (m % 2 ^ (31 - i % 32) + 1) * 2 ^ (i % 32 + 1) ≤ 2 ^ (31 - i % 32) * 2 ^ (i % 32 + 1) := Nat.mul_le_mul_right _ h5
  rw [← h2, Nat.add_mul] at h6
  have h7 : 2 ^ (i % 32) < 1 * 2 ^ (i % 32 + 1) := by rw [Nat.pow_succ]; have := Nat.pow_pos (a := 2) (n := i % 32) (by omega); omega
  omega
theorem div_step (a b i : Nat) (hb : 0 < b) (x : Nat) (hx : x = a / 2 ^ (i + 1) % b * 2 + a / 2 ^ i % 2) :
    (b ≤ x → a / 2 ^ i / b = 2 * (a / 2 ^ (i + 1) / b) + 1 ∧ a / 2 ^ i % b = x - b) ∧ (x < b → a / 2 ^ i / b = 2 * (a / 2 ^ (i + 1) / b) ∧ a / 2 ^ i % b = x) ∧ x < 2 * b := by
  have h1 := half_step a i
  have h2 := Nat.div_add_mod (a / 2 ^ (i + 1)) b
  have h3 := Nat.mod_lt (a / 2 ^ (i + 1)) hb
  generalize a / 2 ^ (i + 1) / b = Q at *
  generalize a / 2 ^ (i + 1) % b = R at *
  have h4 : a / 2 ^ i = x + b * (2 * Q) := by
    have : b * (2 * Q) = 2 * (b * Q) := Nat.mul_left_comm _ _ _
    omega
  rw [h4]
  rw [Nat.add_mul_div_left _ _ hb, Nat.add_mul_mod_self_left]
  refine ⟨fun h => ?_, fun h => ?_, by omega⟩
  · have h5 : x = (x - b) + b * 1 := by omega
    have h6 : x - b < b := by omega
    refine ⟨?_, ?_⟩
    · rw [h5, Nat.add_mul_div_left _ _ hb, Nat.div_eq_of_lt h6]; omega
    · rw [h5, Nat.add_mul_mod_self_left, Nat.mod_eq_of_lt h6]; omega
  · rw [Nat.div_eq_of_lt h, Nat.mod_eq_of_lt h]; omega
theorem div_l0 (a b L : Nat) (hb : 0 < b) (hL : L = ln a) (ht : L ≤ 1000000) (htb : ln b ≤ 1000000) :
    ∀ (i : Nat), i ≤ 32 * L → Ev (fun k => tenorref1_DivDigits.l0 k (dg a) (dg b) (dg (a / 2 ^ i % b)) (dgL L (a / 2 ^ i / b * 2 ^ i)) ((i : Int) - 1)) (dg (a / b), dg (a % b)) := by
  have t9 : top = 1000000000 := rfl
  intro i
  induction i with
  | zero =>
    intro _
    have hlt : a / b < B ^ L := Nat.lt_of_le_of_lt (Nat.div_le_self _ _) (hL ▸ lt_pow_ln a)
    refine Ev.step (f := fun k => (tenorref1_trim.f k (dgL L (a / b))).bind fun t => some (t, dg (a % b))) (fun k => ?_) (Ev.bind (f := fun _ t => some (t, dg (a % b))) (trim_ev L _ (by omega) hlt) (Ev.now _))
    simp only [tenorref1_DivDigits.l0]
    rw [if_neg (by omega)]
    simp
  | succ i ih =>
    intro hi
    have hstep := div_step a b i hb _ rfl
    have hbit := bit_dig a i
    have hroom := bit_room (a / 2 ^ (i + 1) / b) i
    generalize hR : a / 2 ^ (i + 1) % b = R at *
    generalize hQ : a / 2 ^ (i + 1) / b = Q at *
    have hRb : R < b := hR ▸ Nat.mod_lt _ hb
    have hlR : ln R ≤ ln b := ln_mono (by omega)
    generalize ht2 : a / 2 ^ i % 2 = t at *
    have ht1 : t < 2 := by rw [← ht2]; omega
    have h2R : ln (R * 2 ^ 1) ≤ ln b + 1 := by
      refine ln_le ?_
      have h1 := lt_pow_ln b
      have h2 : R * 2 ^ 1 ≤ b * B := Nat.mul_le_mul (by omega) (by decide)
      have h3 : b * B < B ^ ln b * B := Nat.mul_lt_mul_of_pos_right h1 Bpos
      exact Nat.lt_of_le_of_lt h2 (by rw [Nat.pow_succ]; exact h3)
    have hx : ln (R * 2 + t) ≤ ln b + 1 := by
      refine ln_le ?_
      have h1 := lt_pow_ln b
      have h2 : R * 2 + t ≤ b * B := by
        have : b * 2 ≤ b * B := Nat.mul_le_mul_left _ (by decide)
        omega
      have h3 : b * B < B ^ ln b * B := Nat.mul_lt_mul_of_pos_right h1 Bpos
      rw [Nat.pow_succ]; omega
    have hj : Ev (fun k => tenorref1_DivDigits.j1 k (dg a) (dg b) (dg (R * 2 + t)) (dgL L (Q * 2 ^ (i + 1))) (i : Int)) (dg (a / b), dg (a % b)) := by
      have hcmp := cmp_ev (R * 2 + t) b (by omega) (by omega)
      rcases Nat.lt_or_ge (R * 2 + t) b with hlt | hge
      · obtain ⟨e1, e2⟩ := hstep.2.1 hlt
        have ih' := ih (by omega)
        rw [e1, e2] at ih'
        have e3 : 2 * Q * 2 ^ i = Q * 2 ^ (i + 1) := by rw [Nat.pow_succ', ← Nat.mul_assoc, Nat.mul_comm 2 Q]
        rw [e3] at ih'
        refine Ev.step (f := fun k => (tenorref1_CmpDigits.f k (dg (R * 2 + t)) (dg b)).bind fun t282 => if t282 ≥ 0 then _ else tenorref1_DivDigits.l0 k (dg a) (dg b) (dg (R * 2 + t)) (dgL L (Q * 2 ^ (i + 1))) (wrap64 ((i : Int) - 1))) (fun k => by simp only [tenorref1_DivDigits.j1]; rfl) (Ev.bind hcmp ?_)
        have e4 : cmp3 (R * 2 + t) b = -1 := by unfold cmp3; rw [if_pos hlt]
        rw [e4]
        refine Ev.congr (fun k => ?_) ih'
        rw [if_neg (by omega), w64 (by omega) (by omega)]
      · obtain ⟨e1, e2⟩ := hstep.1 hge
        have ih' := ih (by omega)
        rw [e1, e2] at ih'
        have hsub := sub_ev (R * 2 + t) b (by omega) hge
        have e3 : (2 * Q + 1) * 2 ^ i = Q * 2 ^ (i + 1) + 2 ^ (i % 32) * B ^ (i / 32) := by
          rw [Nat.add_mul, Nat.pow_succ', ← Nat.mul_assoc, Nat.mul_comm 2 Q, Nat.one_mul]
          congr 1
          rw [B_eq, ← Nat.pow_add]; congr 1; omega
        have e5 : setD (Q * 2 ^ (i + 1)) (i / 32) (dig (Q * 2 ^ (i + 1)) (i / 32) + 2 ^ (i % 32)) = (2 * Q + 1) * 2 ^ i := by rw [setD_add, e3]
        rw [← e5] at ih'
        refine Ev.step (f := fun k => (tenorref1_CmpDigits.f k (dg (R * 2 + t)) (dg b)).bind fun t282 => if t282 ≥ 0 then _ else tenorref1_DivDigits.l0 k (dg a) (dg b) (dg (R * 2 + t)) (dgL L (Q * 2 ^ (i + 1))) (wrap64 ((i : Int) - 1))) (fun k => by simp only [tenorref1_DivDigits.j1]; rfl) (Ev.bind hcmp ?_)
        have e4 : (0 : Int) ≤ cmp3 (R * 2 + t) b := by unfold cmp3; rw [if_neg (by omega)]; split <;> omega
        refine Ev.congr (f := fun k => (tenorref1_SubDigits.f k (dg (R * 2 + t)) (dg b)).bind fun t283 => tenorref1_DivDigits.l0 k (dg a) (dg b) t283 (dgL L (setD (Q * 2 ^ (i + 1)) (i / 32) (dig (Q * 2 ^ (i + 1)) (i / 32) + 2 ^ (i % 32)))) ((i : Int) - 1)) (fun k => ?_) (Ev.bind hsub ih')
        rw [if_pos e4]
        refine congrArg _ (funext fun t283 => ?_)
        have f1 : Int.tmod (i : Int) 32 = ((i % 32 : Nat) : Int) := by rw [Int.tmod_eq_emod_of_nonneg (by omega)]; omega
        have f2 : Int.tdiv (i : Int) 32 = ((i / 32 : Nat) : Int) := by rw [Int.tdiv_eq_ediv_of_nonneg (by omega)]; omega
        rw [f1, f2, w64 (x := ((i / 32 : Nat) : Int)) (by omega) (by omega), dgL_length, if_pos (by omega), if_pos (by omega), if_pos (by omega), rd_dgL _ _ _ (by omega), Int.toNat_natCast]
        have f3 := shl_ev 1 (i % 32) (by omega) (by omega)
        rw [Nat.one_mul] at f3
        rw [show ((1 : Nat) : Int) = 1 from rfl] at f3
        rw [f3, show ((dig (Q * 2 ^ (i + 1)) (i / 32) : Nat) : Int) + ((2 ^ (i % 32) : Nat) : Int) = ((dig (Q * 2 ^ (i + 1)) (i / 32) + 2 ^ (i % 32) : Nat) : Int) by omega, wun _ (Nat.lt_trans hroom (by decide)), set_dgL _ _ _ _ (by omega) hroom, w64 (by omega) (by omega)]
    have hup := up_ev R 1 (by omega) (by omega)
    have hadd := add_ev (R * 2 ^ 1) 1 (by have : ln 1 ≤ 1 := ln_small (by decide)
                                          omega)
    have f1 : Int.tmod (i : Int) 32 = ((i % 32 : Nat) : Int) := by rw [Int.tmod_eq_emod_of_nonneg (by omega)]; omega
    have f2 : Int.tdiv (i : Int) 32 = ((i / 32 : Nat) : Int) := by rw [Int.tdiv_eq_ediv_of_nonneg (by omega)]; omega
    have f3 : shr .u64 ((dig a (i / 32) : Nat) : Int) ((i % 32 : Nat) : Int) = ((dig a (i / 32) / 2 ^ (i % 32) : Nat) : Int) := by
      unfold shr
      rw [Nat.min_eq_left (by show (((i % 32 : Nat) : Int)).toNat ≤ 64; omega), Int.toNat_natCast, Int.natCast_ediv, Int.natCast_pow]
      rfl
    have f4 : Int.tmod ((dig a (i / 32) / 2 ^ (i % 32) : Nat) : Int) 2 = (t : Int) := tmod2 hbit
    refine Ev.step (f := fun k => (tenorref1_ShiftUp.f k (dg R) 1).bind fun t272 => if (t : Int) = 1 then ((tenorref1_AddDigits.f k t272 (([1] : List Int))).bind fun t279 => (tenorref1_DivDigits.j1 k (dg a) (dg b) t279 (dgL L (Q * 2 ^ (i + 1))) (i : Int))) else (tenorref1_DivDigits.j1 k (dg a) (dg b) t272 (dgL L (Q * 2 ^ (i + 1))) (i : Int))) (fun k => ?_) (Ev.bind hup ?_)
    · simp only [tenorref1_DivDigits.l0]
      rw [show ((i + 1 : Nat) : Int) - 1 = (i : Int) by omega, if_pos (by omega)]
      refine congrArg _ (funext fun t272 => ?_)
      rw [f1, f2, w64 (x := ((i / 32 : Nat) : Int)) (by omega) (by omega), dg_length, if_pos (by omega), if_pos (by omega), if_pos (by omega), rd_dg _ _ (by omega), f3, f4]
    · have ht01 : t = 0 ∨ t = 1 := by omega
      rcases ht01 with h | h
      · rw [h] at hj
        refine Ev.congr (fun k => ?_) hj
        rw [if_neg (by omega), Nat.pow_one]
        rfl
      · rw [h] at hj
        have e1 : dg 1 = [1] := dg_of_lt (by omega) (by decide)
        rw [e1, Nat.pow_one] at hadd
        refine Ev.congr (f := fun k => (tenorref1_AddDigits.f k (dg (R * 2)) [1]).bind fun t279 => tenorref1_DivDigits.j1 k (dg a) (dg b) t279 (dgL L (Q * 2 ^ (i + 1))) (i : Int)) (fun k => ?_) (Ev.bind hadd hj)
        rw [if_pos (by omega), Nat.pow_one]
theorem divd_ev (a b : Nat) (hb : 0 < b) (ht : ln a ≤ 1000000) (htb : ln b ≤ 1000000) : Ev (fun k => tenorref1_DivDigits.f k (dg a) (dg b)) (dg (a / b), dg (a % b)) := by
  have t9 : top = 1000000000 := rfl
  have hlen := len_ev a (by omega)
  have hbl : bl a ≤ 32 * ln a := bl_le (by rw [← B_eq]; exact lt_pow_ln a)
  have h0 := div_l0 a b (ln a) hb rfl ht htb (bl a) hbl
  rw [Nat.div_eq_of_lt (lt_two_bl a), Nat.zero_mod, Nat.zero_div, Nat.zero_mul] at h0
  have hd0 : dg 0 = [] := by simp [dg, ln_zero, dgL]
  rw [hd0] at h0
  refine Ev.congr (f := fun k => (tenorref1_Len.f k (dg a)).bind fun t268 => tenorref1_DivDigits.l0 k (dg a) (dg b) [] (dgL (ln a) 0) (wrap64 (t268 - 1))) (fun k => ?_) (Ev.bind hlen ?_)
  · unfold tenorref1_DivDigits.f
    rw [dg_length, if_pos (by omega), Int.toNat_natCast, if_pos (by omega), dgL_zero]
  · refine Ev.congr (fun k => ?_) h0
    rw [w64 (by omega) (by omega)]
end Go.Proofs.YtjpiplplohapnaaGreatDoor.Big
