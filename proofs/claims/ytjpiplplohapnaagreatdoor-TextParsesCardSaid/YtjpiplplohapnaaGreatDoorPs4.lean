/- Part 4 of the proof: RDiv, BigD, Num, PDig. -/
import Derived.Test.YtjpiplplohapnaaGreatDoorPs3
import Derived.Lib.AtoiAll
import Derived.Lib.ItoaNum
set_option linter.unusedVariables false
set_option linter.unusedSimpArgs false
namespace Go.Proofs.YtjpiplplohapnaaGreatDoor.PText
open Go.RowKit Go.Proofs.YtjpiplplohapnaaGreatDoorW.PrintWords Go.Proofs.YtjpiplplohapnaaGreatDoorW.PrintLast Go.Proofs.YtjpiplplohapnaaGreatDoorW.PrintMore
attribute [local go_sem] z2i z2j z3i z3k z2d z2c z2q z2r
set_option linter.unusedVariables false
set_option linter.unusedSimpArgs false
mutual
def z0e.l0 : Nat → List Int → List Int → List Int → List Int → Int → Option (List Int × List Int)
  | 0, _, _, _, _, _ => none
  | k + 1, x0, x1, x6, x7, x8 => if x8 ≥ 0 then ((z0l.f k x6 1).bind fun t272 => (if 0 ≤ (wrap64 (Int.tdiv x8 32)) then (if (wrap64 (Int.tdiv x8 32)) < (x0.length : Int) then (if 0 ≤ (Int.tmod x8 32) then (if (Int.tmod (shr .u64 (rd x0 (wrap64 (Int.tdiv x8 32))) (Int.tmod x8 32)) 2) = 1 then ((z0k.f k t272 (([1] : List Int))).bind fun t279 => (z0e.j1 k x0 x1 t279 x7 x8)) else (z0e.j1 k x0 x1 t272 x7 x8)) else (none)) else (none)) else (none))) else ((z0r.f k x7).bind fun t269 => (some (t269, x6)))
def z0e.j1 : Nat → List Int → List Int → List Int → List Int → Int → Option (List Int × List Int)
  | 0, _, _, _, _, _ => none
  | k + 1, x0, x1, x6, x7, x8 => (z0u.f k x6 x1).bind fun t282 => (if t282 ≥ 0 then ((z1a.f k x6 x1).bind fun t283 => (if 0 ≤ (wrap64 (Int.tdiv x8 32)) then (if (wrap64 (Int.tdiv x8 32)) < (x7.length : Int) then (if 0 ≤ (Int.tmod x8 32) then (z0e.l0 k x0 x1 t283 (x7.set ((wrap64 (Int.tdiv x8 32)) : Int).toNat (IntKind.u64.wrap ((rd x7 (wrap64 (Int.tdiv x8 32))) + (shl .u64 1 (Int.tmod x8 32))))) (wrap64 (x8 - 1))) else (none)) else (none)) else (none))) else (z0e.l0 k x0 x1 x6 x7 (wrap64 (x8 - 1))))
end
def z0e.f (k : Nat) (l0 : List Int) (l1 : List Int) : Option (List Int × List Int) := if 0 ≤ (l0.length : Int) then (if ((l0.length : Int) : Int).toNat ≤ 35184372088832 then ((z0j.f k l0).bind fun t268 => (z0e.l0 k l0 l1 ([] : List Int) (List.replicate ((l0.length : Int) : Int).toNat 0) (wrap64 (t268 - 1)))) else (none)) else (none)
def z0e.T11 : Bool × List (List Nat × List Nat) := (true, [([], []), ([], []), ([1], [1]), ([], []), ([], []), ([4], [4]), ([3, 5], [3, 5]), ([6], [6]), ([], []), ([8], [8]), ([9], [9]), ([7, 10], [7, 10]), ([0, 2, 0, 1, 2, 3, 4, 5, 6, 7, 8, 9, 10, 11], [0, 2]), ([12, 11, 0, 1, 2, 3, 4, 5, 6, 7, 8, 9, 10, 11], [11, 12])])
def z0e.B11 : List Nat := [0, 0, 2, 0, 0, 16, 56, 120, 0, 256, 768, 2040, 4095, 8191]
theorem z0e.tab11 : rtab .any (opsOf Tryz.f70 11) = z0e.T11 := by kernel_rfl
theorem z0e.bits11 : z4r z0e.T11.2 z0e.B11 = true := by kernel_rfl
set_option maxHeartbeats 8000000 in
set_option maxRecDepth 100000 in
theorem z0e.calls (k : Nat) (A0 : Option Addr) (c0 : Nat) (l0 : List Int) (A1 : Option Addr) (c1 : Nat) (l1 : List Int) (r1 : List Int) (r2 : List Int) (w : World) (hr0 : Kd.C (Kd.int .u64) w A0 l0.length l0) (hc0 : l0.length ≤ c0) (hr1 : Kd.C (Kd.int .u64) w A1 l1.length l1) (hc1 : l1.length ≤ c1) (h : z0e.f k l0 l1 = some (r1, r2)) :
    Calls Tryz.prog 70 #[.slice A0 l0.length c0, .slice A1 l1.length c1] w fun e w' => ∃ v0_ v1_ : Value, e = .returned (.tuple #[v0_, v1_]) ∧ Kd.R (Kd.int .u64) 26 w' w.heap.size (fun k_ => some k_ ≠ (v1_ : Value).ownBlock) v0_ r1 ∧ Kd.R (Kd.int .u64) 26 w' w.heap.size (fun k_ => some k_ ≠ (v0_ : Value).ownBlock) v1_ r2 ∧ Below w.heap.size w w' := by
  have HR0 := y9.mk hr0
  have HC0 := y9.mk hc0
  clear hr0 hc0
  have HR1 := y9.mk hr1
  have HC1 := y9.mk hc1
  clear hr1 hc1
  have HB := y9.mk (Below.refl w.heap.size w)
  have H : (if 0 ≤ (l0.length : Int) then (if ((l0.length : Int) : Int).toNat ≤ 35184372088832 then ((z0j.f k l0).bind fun t268 => (z0e.l0 k l0 l1 ([] : List Int) (List.replicate ((l0.length : Int) : Int).toNat 0) (wrap64 (t268 - 1)))) else (none)) else (none)) = some (r1, r2) := h
  clear h
  by_cases c3 : 0 ≤ (l0.length : Int)
  · rw [if_pos c3] at H
    have c3b0 := eq_true c3
    have c3b1 : decide (0 ≤ (l0.length : Int)) = true := decide_eq_true c3
    clear c3
    by_cases c4 : ((l0.length : Int) : Int).toNat ≤ 35184372088832
    · rw [if_pos c4] at H
      have c4b0 := eq_true c4
      have c4b1 : decide (((l0.length : Int) : Int).toNat ≤ 35184372088832) = true := decide_eq_true c4
      clear c4
      obtain ⟨y265, hy265⟩ : ∃ y_ : List Int, y_ = (List.replicate ((l0.length : Int) : Int).toNat 0) := ⟨_, rfl⟩
      replace H : ((z0j.f k l0).bind fun t268 => (z0e.l0 k l0 l1 ([] : List Int) y265 (wrap64 (t268 - 1)))) = some (r1, r2) := by (rw [hy265]; with_reducible exact H)
      have Ny265 := y9.mk hy265
      clear hy265
      replace H := Option.bind_eq_some_iff.mp H
      obtain ⟨t268, A50, H⟩ := H
      have A5 := y9.mk A50
      clear A50
      have H' := y9.mk H
      clear H
      go_enter Tryz.func70, Tryz.ntmps70
      go_wp2_with (first | ((with_reducible refine z1s (N := 11) rfl ?_); refine Kd.R_make (Kd.int .u64) _ 26 rfl (N := 11) rfl 51 _ _ rfl (l0.length : Int) rfl rfl Tryz.underlying51 (.int .u64 0) 8 info26 rfl (by decide) (by omega) 0 (ok := fun _ => True) (okp := fun _ => True) rfl (fun _ hk => hk) trivial (of_decide_eq_true (by (with_reducible assumption))) (Nat.le_trans (Nat.mul_le_mul_right _ (of_decide_eq_true (by (with_reducible assumption)) : (l0.length : Int).toNat ≤ 35184372088832)) (by omega)) (Below.refl _ _) (Nat.le_refl _) ?_; intro v266 w6 ho7 hb hg_ hnew_; clear hg_ hnew_; (rw [← Ny265.out] at ho7); have n0_ := y9.mk (Kd.z1j ho7 (z0n (by repeat ((with_reducible exact HB.out))))); have n1_ := y9.mk (z0m (by repeat ((with_reducible exact HB.out))) hb); clear HB; have HO267 := n0_; have HB := n1_; clear n0_ n1_; clear hb ho7) | ((with_reducible refine z0y (f := 46) rfl ?_); refine z1p (some 13) rfl rfl Tryz.func46 (by kernel_rfl) rfl #[.slice A0 l0.length c0] rfl (by (try simp only [List.map_toArray, List.map_cons, List.map_nil]); rfl) ?_; (with_reducible refine (z0j.calls k _ _ l0 t268 _ ?side1 ?side2 A5.out).mono ?_); (case side1 => repeat (exact (Kd.z1q HR0.out HB.out))); (case side2 => exact HC0.out); rintro e w' ⟨rfl, ⟨nd, rfl⟩⟩; refine ⟨_, rfl, ?_⟩))
      go_loopg [6, 8] k (fun kq v6 v8 w' => ∃ (x6_1 : List Int) (x7_1 : List Int) (x8_1 : Int), v8 = .int .i64 x8_1 ∧ y9 (z0e.l0 kq l0 l1 x6_1 x7_1 x8_1 = some (r1, r2)) ∧ y9 (kq ≤ k) ∧ y9 (Kd.R (Kd.int .u64) 26 w' w.heap.size (fun k_ => some k_ ≠ (v266 : Value).ownBlock) v6 x6_1) ∧ y9 (Kd.R (Kd.int .u64) 26 w' w.heap.size (fun k_ => some k_ ≠ (v6 : Value).ownBlock) v266 x7_1) ∧ y9 (Below w.heap.size w w'))
      case atStart => exact ⟨(([] : List Int)), (y265), (wrap64 (t268 - 1)), (by rfl), H', ⟨Nat.le_refl _⟩, ⟨by exact Kd.R_nil _ _ _ _ _⟩, ⟨by (with_reducible repeat (apply Kd.z4t)); exact Kd.z2l HO267.out (fun _ hk => (by simp [Value.ownBlock]))⟩, ⟨by repeat ((with_reducible first | exact HB.out | apply z0p))⟩⟩
      case round =>
        clear H'
        (try clear c1); (try clear p2); (try clear c3); (try clear c3b0); (try clear c3b1); (try clear c4); (try clear c4b0); (try clear c4b1); (try clear p6); (try clear c7)
        obtain ⟨x6_1, x7_1, x8_1, rfl, HA, HK1, HO_6, HO_7, HB⟩ := hrel
        cases gk with
        | zero => exact absurd HA.out (by simp [z0e.l0])
        | succ k1 =>
          have H := HA.out
          clear HA
          simp only [z0e.l0] at H
          by_cases c8 : x8_1 ≥ 0
          · rw [if_pos c8] at H
            have c8b0 : decide (0 ≤ x8_1) = true := decide_eq_true c8
            clear c8
            replace H := Option.bind_eq_some_iff.mp H
            obtain ⟨t272, A90, H⟩ := H
            have A9 := y9.mk A90
            clear A90
            obtain ⟨ji10, hji10⟩ : ∃ j_ : Int, (wrap64 (Int.tdiv x8_1 32)) = j_ := ⟨_, rfl⟩
            replace H : (if 0 ≤ (ji10) then (if (ji10) < (l0.length : Int) then (if 0 ≤ (Int.tmod x8_1 32) then (if (Int.tmod (shr .u64 (rd l0 (ji10)) (Int.tmod x8_1 32)) 2) = 1 then ((z0k.f k1 t272 (([1] : List Int))).bind fun t279 => (z0e.j1 k1 l0 l1 t279 x7_1 x8_1)) else (z0e.j1 k1 l0 l1 t272 x7_1 x8_1)) else (none)) else (none)) else (none)) = some (r1, r2) := by (rw [hji10] at H; exact H)
            (try rw [hji10] at A9)
            have hji10w : (IntKind.i64.wrap (Int.tdiv x8_1 32)) = ji10 := (z0t _).trans hji10
            by_cases c11 : 0 ≤ (ji10)
            · rw [if_pos c11] at H
              have c11b0 : decide (0 ≤ (ji10)) = true := decide_eq_true c11
              clear c11
              by_cases c12 : (ji10) < (l0.length : Int)
              · rw [if_pos c12] at H
                have c12b0 : decide ((ji10) < (l0.length : Int)) = true := decide_eq_true c12
                clear c12
                obtain ⟨ji13, hji13⟩ : ∃ j_ : Int, (Int.tmod x8_1 32) = j_ := ⟨_, rfl⟩
                replace H : (if 0 ≤ (ji13) then (if (Int.tmod (shr .u64 (rd l0 (ji10)) (ji13)) 2) = 1 then ((z0k.f k1 t272 (([1] : List Int))).bind fun t279 => (z0e.j1 k1 l0 l1 t279 x7_1 x8_1)) else (z0e.j1 k1 l0 l1 t272 x7_1 x8_1)) else (none)) = some (r1, r2) := by (rw [hji13] at H; exact H)
                (try rw [hji13] at A9)
                by_cases c14 : 0 ≤ (ji13)
                · rw [if_pos c14] at H
                  have c14b0 := eq_true c14
                  have c14b1 : decide (0 ≤ (ji13)) = true := decide_eq_true c14
                  clear c14
                  obtain ⟨ji15, hji15⟩ : ∃ j_ : Int, (shr .u64 (rd l0 (ji10)) (ji13)) = j_ := ⟨_, rfl⟩
                  replace H : (if (Int.tmod (ji15) 2) = 1 then ((z0k.f k1 t272 (([1] : List Int))).bind fun t279 => (z0e.j1 k1 l0 l1 t279 x7_1 x8_1)) else (z0e.j1 k1 l0 l1 t272 x7_1 x8_1)) = some (r1, r2) := by (rw [hji15] at H; exact H)
                  (try rw [hji15] at A9)
                  have hji15_ : ((rd l0 (ji10)) / 2 ^ min (ji13).toNat 64) = ji15 := hji15
                  have hji15z : (ji13) ≤ 64 → ((rd l0 (ji10)) / 2 ^ (ji13).toNat) = ji15 := shr_small hji15
                  have HC16 := y9.mk H
                  clear H
                  obtain ⟨Ao17, co17, eo17⟩ := Kd.z1g HO_6.out
                  subst eo17
                  go_upto_if 30 with (((with_reducible refine z0y (f := 37) rfl ?_); refine z1p (some 20) rfl rfl Tryz.func37 (by kernel_rfl) rfl #[.slice Ao17 x6_1.length co17, .int .i64 1] rfl (by (try simp only [List.map_toArray, List.map_cons, List.map_nil]); rfl) ?_; (with_reducible refine (z0l.calls k1 _ _ x6_1 1 t272 _ ?side1 ?side2 A9.out).mono ?_); (case side1 => repeat (exact (Kd.z0q HO_6.out).2.2)); (case side2 => exact (Kd.z0q HO_6.out).2.1); rintro e w18 ⟨v273, rfl, ho0, hb⟩; refine ⟨_, rfl, ?_⟩; have n0_ := y9.mk (Kd.z1o (by (with_reducible repeat (fail)); exact HO_6.out) (Kd.z2g ho0) hb); have n1_ := y9.mk (Kd.z1o (by (with_reducible repeat (fail)); exact HO_7.out) (Kd.z2g ho0) hb); have n2_ := y9.mk (Kd.z1j (Kd.z2f (Kd.z2f ho0 (Kd.R_lt (by (with_reducible repeat (fail)); exact HO_6.out))) (Kd.R_lt (by (with_reducible repeat (fail)); exact HO_7.out))) (z0n (by repeat ((with_reducible exact HB.out))))); have n3_ := y9.mk (z0m (by repeat ((with_reducible exact HB.out))) hb); clear HO_6; clear HO_7; clear HB; have HO_6 := n0_; have HO_7 := n1_; have HO274 := n2_; have HB := n3_; clear n0_ n1_ n2_ n3_; (try clear hb); (try clear hb2); (try clear hk); (try clear hi); (try clear ho0); have p275 : 0 ≤ ((ji10) : Int) := of_decide_eq_true (by (with_reducible assumption)); have q275 : (ji10) < (l0.length : Int) := of_decide_eq_true (by (with_reducible assumption)); obtain ⟨ad275, e275, hx275_0⟩ := Kd.z2p HR0.out (ji10) p275 q275; cases e275; replace hx275_0 := (HB.out.cell (World.block_lt_of_cell? w _ hx275_0)).trans hx275_0; replace p275 := eq_true p275; replace q275 := eq_true q275))
                  (try simp only [Act.put, List.setIfInBounds_toArray, List.set_cons_zero, List.set_cons_succ])
                  go_cut [6] (fun v6 wc => ∃ (kq : Nat) (x6_15 : List Int), y9 (z0e.j1 kq l0 l1 x6_15 x7_1 x8_1 = some (r1, r2)) ∧ y9 (kq ≤ k1) ∧ y9 (Kd.R (Kd.int .u64) 26 wc w.heap.size (fun k_ => some k_ ≠ (v266 : Value).ownBlock) v6 x6_15) ∧ y9 (Kd.R (Kd.int .u64) 26 wc w.heap.size (fun k_ => some k_ ≠ (v6 : Value).ownBlock) v266 x7_1) ∧ y9 (Below w.heap.size w wc))
                  case first =>
                    have H := HC16.out
                    clear HC16
                    by_cases c19 : (Int.tmod (ji15) 2) = 1
                    · rw [if_pos c19] at H
                      have c19b0 : ((Int.tmod (ji15) 2) == 1) = true := beq_iff_eq.mpr c19
                      have c19b1 : ((Int.tmod (ji15) 2) != 1) = false := bne_eq_false_iff_eq.mpr c19
                      clear c19
                      (rw [c19b0])
                      obtain ⟨y276, hy276⟩ : ∃ y_ : List Int, y_ = (([1] : List Int)) := ⟨_, rfl⟩
                      replace H : ((z0k.f k1 t272 y276).bind fun t279 => (z0e.j1 k1 l0 l1 t279 x7_1 x8_1)) = some (r1, r2) := by (rw [hy276]; with_reducible exact H)
                      have Ny276 := y9.mk hy276
                      clear hy276
                      replace H := Option.bind_eq_some_iff.mp H
                      obtain ⟨t279, A200, H⟩ := H
                      have A20 := y9.mk A200
                      clear A200
                      have H' := y9.mk H
                      clear H
                      go_wp2_with (first | ((with_reducible refine z1s (N := 32) rfl ?_); refine Kd.R_lit (Kd.int .u64) _ 26 ?hg (N := 32) ?hd (xs := ([1] : List Int)) (inner := [.int .u64 1]) (ok := fun _ => True) (okp := fun _ => True) ?hr ?hp (fun _ hk => hk) trivial (Below.refl _ _) (Nat.le_refl _) (by simp) ?_; (case hd => rfl); (case hg => rfl); (case hr => (go_simp; done)); (case hp => exact (Reps.one (show Kd.M (Kd.int .u64) _ _ _ 1 [.int .u64 1] from rfl) (Reps.none _ _))); intro v277 w21 ho22 hb hg_ hnew_; clear hg_ hnew_; (rw [← Ny276.out] at ho22); have n0_ := y9.mk (Kd.z1o (by (with_reducible repeat (fail)); exact HO_6.out) (Kd.z2g ho22) hb); have n1_ := y9.mk (Kd.z1o (by (with_reducible repeat (fail)); exact HO_7.out) (Kd.z2g ho22) hb); have n2_ := y9.mk (Kd.z1o (by (with_reducible repeat (fail)); exact HO274.out) (Kd.z2g ho22) hb); have n3_ := y9.mk (Kd.z1j (Kd.z2f (Kd.z2f (Kd.z2f ho22 (Kd.R_lt (by (with_reducible repeat (fail)); exact HO_6.out))) (Kd.R_lt (by (with_reducible repeat (fail)); exact HO_7.out))) (Kd.R_lt (by (with_reducible repeat (fail)); exact HO274.out))) (z0n (by repeat ((with_reducible exact HB.out))))); have n4_ := y9.mk (z0m (by repeat ((with_reducible exact HB.out))) hb); clear HO_6; clear HO_7; clear HO274; clear HB; have HO_6 := n0_; have HO_7 := n1_; have HO274 := n2_; have HO278 := n3_; have HB := n4_; clear n0_ n1_ n2_ n3_ n4_; clear hb ho22; obtain ⟨Ao23, co23, eo23⟩ := Kd.z1g HO274.out; subst eo23; obtain ⟨Ao24, co24, eo24⟩ := Kd.z1g HO278.out; subst eo24) | ((with_reducible refine z0y (f := 40) rfl ?_); refine z1p (some 33) rfl rfl Tryz.func40 (by kernel_rfl) rfl #[.slice Ao23 t272.length co23, .slice Ao24 y276.length co24] rfl (by (try simp only [List.map_toArray, List.map_cons, List.map_nil]); rfl) ?_; (with_reducible refine (z0k.calls k1 _ _ t272 _ _ y276 t279 _ ?side1 ?side2 ?side3 ?side4 A20.out).mono ?_); (case side1 => repeat (exact (Kd.z0q HO274.out).2.2)); (case side2 => exact (Kd.z0q HO274.out).2.1); (case side3 => repeat (exact (Kd.z0q HO278.out).2.2)); (case side4 => exact (Kd.z0q HO278.out).2.1); rintro e w25 ⟨v280, rfl, ho0, hb⟩; refine ⟨_, rfl, ?_⟩; have n0_ := y9.mk (Kd.z1o (by (with_reducible repeat (fail)); exact HO_6.out) (Kd.z2g ho0) hb); have n1_ := y9.mk (Kd.z1o (by (with_reducible repeat (fail)); exact HO_7.out) (Kd.z2g ho0) hb); have n2_ := y9.mk (Kd.z1o (by (with_reducible repeat (fail)); exact HO274.out) (Kd.z2g ho0) hb); have n3_ := y9.mk (Kd.z1o (by (with_reducible repeat (fail)); exact HO278.out) (Kd.z2g ho0) hb); have n4_ := y9.mk (Kd.z1j (Kd.z2f (Kd.z2f (Kd.z2f (Kd.z2f ho0 (Kd.R_lt (by (with_reducible repeat (fail)); exact HO_6.out))) (Kd.R_lt (by (with_reducible repeat (fail)); exact HO_7.out))) (Kd.R_lt (by (with_reducible repeat (fail)); exact HO274.out))) (Kd.R_lt (by (with_reducible repeat (fail)); exact HO278.out))) (z0n (by repeat ((with_reducible exact HB.out))))); have n5_ := y9.mk (z0m (by repeat ((with_reducible exact HB.out))) hb); clear HO_6; clear HO_7; clear HO274; clear HO278; clear HB; have HO_6 := n0_; have HO_7 := n1_; have HO274 := n2_; have HO278 := n3_; have HO281 := n4_; have HB := n5_; clear n0_ n1_ n2_ n3_ n4_ n5_; (try clear hb); (try clear hb2); (try clear hk); (try clear hi); (try clear ho0)))
                      go_meet
                      case rel => exact ⟨_, (t279), H', ⟨by have := HK1.out; omega⟩, ⟨by (with_reducible repeat (fail)); exact Kd.z2l HO281.out (fun _ hk => hk.1.1.2)⟩, ⟨by (with_reducible repeat (fail)); exact Kd.z2l HO_7.out (fun _ hk => hk.2)⟩, ⟨by repeat ((with_reducible exact HB.out))⟩⟩
                    rw [if_neg c19] at H
                    have c19b0 : ((Int.tmod (ji15) 2) == 1) = false := beq_eq_false_iff_ne.mpr c19
                    have c19b1 : ((Int.tmod (ji15) 2) != 1) = true := bne_iff_ne.mpr c19
                    (rw [c19b0])
                    have H' := y9.mk H
                    clear H
                    go_wp2
                    go_meet
                    case rel => exact ⟨_, (t272), H', ⟨by have := HK1.out; omega⟩, ⟨by (with_reducible repeat (fail)); exact Kd.z2l HO274.out (fun _ hk => hk.2)⟩, ⟨by (with_reducible repeat (fail)); exact Kd.z2l HO_7.out (fun _ hk => hk.2)⟩, ⟨by repeat ((with_reducible exact HB.out))⟩⟩
                  clear HC16
                  (try clear c1); (try clear p2); (try clear q2); (try clear hx2); (try clear c3); (try clear c3b0); (try clear c3b1); (try clear c4); (try clear c4b0); (try clear c4b1); (try clear p6); (try clear c7); (try clear c8); (try clear c8b0); (try clear c11); (try clear c11b0); (try clear c12); (try clear c12b0); (try clear c14); (try clear c14b0); (try clear c14b1); (try clear c19); (try clear c19b0); (try clear c19b1); (try clear hx275_0); (try clear p2); (try clear p275); (try clear p6); (try clear q275)
                  obtain ⟨kq, x6_15, HA, HJ15, HO_6, HO_7, HB⟩ := hcut
                  cases kq with
                  | zero => exact absurd HA.out (by simp [z0e.j1])
                  | succ kj15 =>
                    have H := HA.out
                    clear HA
                    simp only [z0e.j1] at H
                    replace H := Option.bind_eq_some_iff.mp H
                    obtain ⟨t282, A260, H⟩ := H
                    have A26 := y9.mk A260
                    clear A260
                    by_cases c27 : t282 ≥ 0
                    · rw [if_pos c27] at H
                      have c27b0 : decide (0 ≤ t282) = true := decide_eq_true c27
                      clear c27
                      replace H := Option.bind_eq_some_iff.mp H
                      obtain ⟨t283, A280, H⟩ := H
                      have A28 := y9.mk A280
                      clear A280
                      obtain ⟨ji29, hji29⟩ : ∃ j_ : Int, (wrap64 (Int.tdiv x8_1 32)) = j_ := ⟨_, rfl⟩
                      obtain rfl : ji29 = ji10 := hji29.symm.trans hji10
                      replace H : (if 0 ≤ (ji29) then (if (ji29) < (x7_1.length : Int) then (if 0 ≤ (Int.tmod x8_1 32) then (z0e.l0 kj15 l0 l1 t283 (x7_1.set ((ji29) : Int).toNat (IntKind.u64.wrap ((rd x7_1 (ji29)) + (shl .u64 1 (Int.tmod x8_1 32))))) (wrap64 (x8_1 - 1))) else (none)) else (none)) else (none)) = some (r1, r2) := by (rw [hji29] at H; exact H)
                      (try rw [hji29] at A26)
                      (try rw [hji29] at A28)
                      have hji29w : (IntKind.i64.wrap (Int.tdiv x8_1 32)) = ji29 := (z0t _).trans hji29
                      by_cases c30 : 0 ≤ (ji29)
                      · rw [if_pos c30] at H
                        have c30b0 : decide (0 ≤ (ji29)) = true := decide_eq_true c30
                        clear c30
                        by_cases c31 : (ji29) < (x7_1.length : Int)
                        · rw [if_pos c31] at H
                          have c31b0 : decide ((ji29) < (x7_1.length : Int)) = true := decide_eq_true c31
                          clear c31
                          obtain ⟨ji32, hji32⟩ : ∃ j_ : Int, (Int.tmod x8_1 32) = j_ := ⟨_, rfl⟩
                          obtain rfl : ji32 = ji13 := hji32.symm.trans hji13
                          replace H : (if 0 ≤ (ji32) then (z0e.l0 kj15 l0 l1 t283 (x7_1.set ((ji29) : Int).toNat (IntKind.u64.wrap ((rd x7_1 (ji29)) + (shl .u64 1 (ji32))))) (wrap64 (x8_1 - 1))) else (none)) = some (r1, r2) := by (rw [hji32] at H; exact H)
                          (try rw [hji32] at A26)
                          (try rw [hji32] at A28)
                          by_cases c33 : 0 ≤ (ji32)
                          · rw [if_pos c33] at H
                            have c33b0 := eq_true c33
                            have c33b1 : decide (0 ≤ (ji32)) = true := decide_eq_true c33
                            clear c33
                            obtain ⟨ji34, hji34⟩ : ∃ j_ : Int, (shl .u64 1 (ji32)) = j_ := ⟨_, rfl⟩
                            replace H : (z0e.l0 kj15 l0 l1 t283 (x7_1.set ((ji29) : Int).toNat (IntKind.u64.wrap ((rd x7_1 (ji29)) + (ji34)))) (wrap64 (x8_1 - 1))) = some (r1, r2) := by (rw [hji34] at H; exact H)
                            (try rw [hji34] at A26)
                            (try rw [hji34] at A28)
                            have hji34_ : (IntKind.u64.wrap (1 * 2 ^ min (ji32).toNat 64)) = ji34 := hji34
                            have hji34z : (ji32) ≤ 64 → (IntKind.u64.wrap (1 * 2 ^ (ji32).toNat)) = ji34 := z4a hji34
                            have hji34u : (IntKind.u64.wrap (2 ^ min (ji32).toNat 64)) = ji34 := by have h_ := hji34_; rw [Int.one_mul] at h_; exact h_
                            have hji34v : (ji32) ≤ 64 → (IntKind.u64.wrap (2 ^ (ji32).toNat)) = ji34 := fun hle_ => by have h_ := hji34z hle_; rw [Int.one_mul] at h_; exact h_
                            obtain ⟨y287, hy287⟩ : ∃ y_ : List Int, y_ = (x7_1.set ((ji29) : Int).toNat (IntKind.u64.wrap ((rd x7_1 (ji29)) + (ji34)))) := ⟨_, rfl⟩
                            replace H : (z0e.l0 kj15 l0 l1 t283 y287 (wrap64 (x8_1 - 1))) = some (r1, r2) := by (rw [hy287]; with_reducible exact H)
                            have Ny287 := y9.mk hy287
                            clear hy287
                            have H' := y9.mk H
                            clear H
                            obtain ⟨Ao36, co36, eo36⟩ := Kd.z1g HO_6.out
                            subst eo36
                            try go_wp2_with (first | ((with_reducible refine z0y (f := 96) rfl ?_); refine z1p (some 36) rfl rfl Tryz.func96 (by kernel_rfl) rfl #[.slice Ao36 x6_15.length co36, .slice A1 l1.length c1] rfl (by (try simp only [List.map_toArray, List.map_cons, List.map_nil]); rfl) ?_; (with_reducible refine (z0u.calls kj15 _ _ x6_15 _ _ l1 t282 _ ?side1 ?side2 ?side3 ?side4 A26.out).mono ?_); (case side1 => repeat (exact (Kd.z0q HO_6.out).2.2)); (case side2 => exact (Kd.z0q HO_6.out).2.1); (case side3 => repeat (exact (Kd.z1q HR1.out HB.out))); (case side4 => exact HC1.out); rintro e w' ⟨rfl, ⟨nd, rfl⟩⟩; refine ⟨_, rfl, ?_⟩; (try (rw [z4y wc]; generalize hq_ : World.drewN wc _ = wc; have n0_ : y9 (Kd.R (Kd.int .u64) 26 wc w.heap.size (fun k_ => some k_ ≠ (v266 : Value).ownBlock) (.slice Ao36 x6_15.length co36) x6_15) := ⟨by rw [← hq_]; exact (by (with_reducible repeat (apply Kd.z4t)); exact HO_6.out)⟩; have n1_ : y9 (Kd.R (Kd.int .u64) 26 wc w.heap.size (fun k_ => some k_ ≠ (.slice Ao36 x6_15.length co36 : Value).ownBlock) v266 x7_1) := ⟨by rw [← hq_]; exact (by (with_reducible repeat (apply Kd.z4t)); exact HO_7.out)⟩; have n2_ : y9 (Below w.heap.size w wc) := ⟨by rw [← hq_]; exact (by repeat ((with_reducible first | exact HB.out | apply z0p)))⟩; clear HO_6 HO_7 HB hq_; have HO_6 := n0_; have HO_7 := n1_; have HB := n2_; clear n0_ n1_ n2_))) | ((with_reducible refine z0y (f := 97) rfl ?_); refine z1p (some 40) rfl rfl Tryz.func97 (by kernel_rfl) rfl #[.slice Ao36 x6_15.length co36, .slice A1 l1.length c1] rfl (by (try simp only [List.map_toArray, List.map_cons, List.map_nil]); rfl) ?_; (with_reducible refine (z1a.calls kj15 _ _ x6_15 _ _ l1 t283 _ ?side1 ?side2 ?side3 ?side4 A28.out).mono ?_); (case side1 => repeat (exact (Kd.z0q HO_6.out).2.2)); (case side2 => exact (Kd.z0q HO_6.out).2.1); (case side3 => repeat (exact (Kd.z1q HR1.out HB.out))); (case side4 => exact HC1.out); rintro e w37 ⟨v284, rfl, ho0, hb⟩; refine ⟨_, rfl, ?_⟩; have n0_ := y9.mk (Kd.z1o (by (with_reducible repeat (fail)); exact HO_6.out) (Kd.z2g ho0) hb); have n1_ := y9.mk (Kd.z1o (by (with_reducible repeat (fail)); exact HO_7.out) (Kd.z2g ho0) hb); have n2_ := y9.mk (Kd.z1j (Kd.z2f (Kd.z2f ho0 (Kd.R_lt (by (with_reducible repeat (fail)); exact HO_6.out))) (Kd.R_lt (by (with_reducible repeat (fail)); exact HO_7.out))) (z0n (by repeat ((with_reducible exact HB.out))))); have n3_ := y9.mk (z0m (by repeat ((with_reducible exact HB.out))) hb); clear HO_6; clear HO_7; clear HB; have HO_6 := n0_; have HO_7 := n1_; have HO285 := n2_; have HB := n3_; clear n0_ n1_ n2_ n3_; (try clear hb); (try clear hb2); (try clear hk); (try clear hi); (try clear ho0)))
                            have n0_ := y9.mk (Kd.R_drew HO_6.out)
                            have n1_ := y9.mk (Kd.R_drew HO_7.out)
                            have n2_ := y9.mk (Kd.R_drew HO285.out)
                            have n3_ := y9.mk (z2y HB.out)
                            clear HO_6
                            clear HO_7
                            clear HO285
                            clear HB
                            have HO_6 := n0_
                            have HO_7 := n1_
                            have HO285 := n2_
                            have HB := n3_
                            clear n0_ n1_ n2_ n3_
                            obtain ⟨Ao39, co39, eo39⟩ := Kd.z1g HO_7.out
                            (subst eo39)
                            have p286 : 0 ≤ ((ji29) : Int) := of_decide_eq_true (by (with_reducible assumption))
                            have q286 : (ji29) < (x7_1.length : Int) := of_decide_eq_true (by (with_reducible assumption))
                            obtain ⟨ad286, e286, hx286_0⟩ := Kd.z2p (Kd.z0q HO_7.out).2.2 (ji29) p286 q286
                            cases e286
                            replace p286 := eq_true p286
                            replace q286 := eq_true q286
                            have p35 : 0 ≤ ((ji29) : Int) := of_decide_eq_true (by (with_reducible assumption))
                            have q35 : ((ji29) : Int) < ((x7_1.length : Int) : Int) := of_decide_eq_true (by (with_reducible assumption))
                            obtain ⟨go35, co35, eo35, gb35, gl35, cl35, HG35⟩ := Kd.R_form HO_7.out (by omega)
                            (cases eo35)
                            have GB35 := y9.mk gb35
                            have GG35 := y9.mk HG35
                            clear gb35 gl35 HG35
                            (simp only [add_plain] at hx286_0)
                            obtain ⟨hx35_0, hf35_0⟩ := Kd.z4j 0 HO_7.out ((ji29) : Int) p35 q35
                            replace p35 := eq_true p35
                            replace q35 := eq_true q35
                            have HP40 := Kd.R_putn HO_7.out ((ji29) : Int) (IntKind.u64.wrap ((rd x7_1 (ji29)) + (ji34)))
                            rw [← Ny287.out] at HP40
                            have HQ40 := y9.mk HP40
                            clear HP40
                            refine z6f (n := 14) (S := fun w' => w'.cell? ⟨go35, ((ji29)).toNat, none⟩ = some (.int .u64 (rd x7_1 (ji29)))) (ds := [13]) #[false, false, false, false, false, false, false, false, false, false, false, false, false, false] (by kernel_rfl) rfl rfl (hx286_0) (fun hHeld => ?_); refine z3x z0e.tab11 z0e.bits11 (fun HT_ HW_ => ?_)
                            generalize w37.drew = w38 at HO_6 HO_7 HO285 HB GG35 HQ40 hf35_0 hx286_0 hx35_0 hHeld ⊢
                            refine z1b (i := 0) (N := some 41) (v := ?_) (a' := ?_) #[true, false, false, false, false, false, false, false, false, false, false, false, false, false] rfl rfl (z0x HT_.out (by kernel_rfl)) (fun _ _ _ h => h) (Or.inl ⟨by rfl, ?_⟩) ?_ ?_
                            rotate_left
                            · intro w'
                              go_simp
                              with_reducible rfl
                            rotate_left
                            · simp only [Act.put, List.setIfInBounds_toArray, List.set_cons_zero, List.set_cons_succ, z0t, z0z]
                              rfl
                            refine z1b (i := 1) (N := some 42) (v := ?_) (a' := ?_) #[true, true, false, false, false, false, false, false, false, false, false, false, false, false] rfl rfl (z0x HT_.out (by kernel_rfl)) (fun _ _ _ h => h) (Or.inl ⟨by rfl, ?_⟩) ?_ ?_
                            rotate_left
                            · intro w'
                              go_simp
                              with_reducible rfl
                            rotate_left
                            · simp only [Act.put, List.setIfInBounds_toArray, List.set_cons_zero, List.set_cons_succ, z0t, z0z]
                              rfl
                            refine z1b (i := 2) (N := some 43) (v := ?_) (a' := ?_) #[true, true, true, false, false, false, false, false, false, false, false, false, false, false] rfl rfl (z0x HT_.out (by kernel_rfl)) (fun _ _ _ h => h) (Or.inl ⟨by rfl, ?_⟩) ?_ ?_
                            rotate_left
                            · intro w'
                              go_simp
                              with_reducible rfl
                            rotate_left
                            · simp only [Act.put, List.setIfInBounds_toArray, List.set_cons_zero, List.set_cons_succ, z0t, z0z]
                              rfl
                            refine z1b (i := 3) (N := some 44) (v := ?_) (a' := ?_) #[true, true, true, true, false, false, false, false, false, false, false, false, false, false] rfl rfl (z0x HT_.out (by kernel_rfl)) (fun _ _ _ h => h) (Or.inl ⟨by rfl, ?_⟩) ?_ ?_
                            rotate_left
                            · intro w'
                              go_simp
                              with_reducible rfl
                            rotate_left
                            · simp only [Act.put, List.setIfInBounds_toArray, List.set_cons_zero, List.set_cons_succ, z0t, z0z]
                              rfl
                            refine z1b (i := 4) (N := some 45) (v := ?_) (a' := ?_) #[true, true, true, true, true, false, false, false, false, false, false, false, false, false] rfl rfl (z0x HT_.out (by kernel_rfl)) (fun _ _ _ h => h) (Or.inl ⟨by rfl, ?_⟩) ?_ ?_
                            rotate_left
                            · intro w'
                              go_simp
                              with_reducible rfl
                            rotate_left
                            · simp only [Act.put, List.setIfInBounds_toArray, List.set_cons_zero, List.set_cons_succ, z0t, z0z]
                              rfl
                            refine z1b (i := 5) (N := some 46) (v := ?_) (a' := ?_) #[true, true, true, true, true, true, false, false, false, false, false, false, false, false] rfl rfl (z0x HT_.out (by kernel_rfl)) (fun _ _ _ h => h) (Or.inl ⟨by rfl, ?_⟩) ?_ ?_
                            rotate_left
                            · intro w'
                              go_simp
                              with_reducible rfl
                            rotate_left
                            · simp only [Act.put, List.setIfInBounds_toArray, List.set_cons_zero, List.set_cons_succ, z0t, z0z]
                              rfl
                            refine z1b (i := 6) (N := some 47) (v := ?_) (a' := ?_) #[true, true, true, true, true, true, true, false, false, false, false, false, false, false] rfl rfl (z0x HT_.out (by kernel_rfl)) (fun _ _ _ h => h) (Or.inl ⟨by rfl, ?_⟩) ?_ ?_
                            rotate_left
                            · intro w'
                              go_simp
                              with_reducible rfl
                            rotate_left
                            · simp only [Act.put, List.setIfInBounds_toArray, List.set_cons_zero, List.set_cons_succ, z0t, z0z]
                              rfl
                            refine z1b (i := 8) (N := some 49) (v := ?_) (a' := ?_) #[true, true, true, true, true, true, true, false, true, false, false, false, false, false] rfl rfl (z0x HT_.out (by kernel_rfl)) (fun _ _ _ h => h) (Or.inl ⟨by rfl, ?_⟩) ?_ ?_
                            rotate_left
                            · intro w'
                              go_simp
                              with_reducible rfl
                            rotate_left
                            · simp only [Act.put, List.setIfInBounds_toArray, List.set_cons_zero, List.set_cons_succ, z0t, z0z]
                              rfl
                            refine z1b (i := 9) (N := some 50) (v := ?_) (a' := ?_) #[true, true, true, true, true, true, true, false, true, true, false, false, false, false] rfl rfl (z0x HT_.out (by kernel_rfl)) (fun _ _ _ h => h) (Or.inl ⟨by rfl, ?_⟩) ?_ ?_
                            rotate_left
                            · intro w'
                              go_simp
                              with_reducible rfl
                            rotate_left
                            · simp only [Act.put, List.setIfInBounds_toArray, List.set_cons_zero, List.set_cons_succ, z0t, z0z]
                              rfl
                            refine z1b (i := 10) (N := some 51) (v := ?_) (a' := ?_) #[true, true, true, true, true, true, true, false, true, true, true, false, false, false] rfl rfl (z0x HT_.out (by kernel_rfl)) (fun _ _ _ h => h) (Or.inl ⟨by rfl, ?_⟩) ?_ ?_
                            rotate_left
                            · intro w'
                              go_simp
                              with_reducible rfl
                            rotate_left
                            · simp only [Act.put, List.setIfInBounds_toArray, List.set_cons_zero, List.set_cons_succ, z0t, z0z]
                              rfl
                            refine z5s (i := 7) (N := some 48) (v := ?_) (a' := ?_) #[true, true, true, true, true, true, true, true, true, true, true, false, false, false] rfl rfl (z3j HT_.out HW_.out (by kernel_rfl)) (fun _ _ _ h => h) (Or.inl ⟨by rfl, ?_⟩) hHeld ?_ ?_
                            rotate_left
                            · intro w' s0
                              go_simp
                              with_reducible rfl
                            rotate_left
                            · simp only [Act.put, List.setIfInBounds_toArray, List.set_cons_zero, List.set_cons_succ, z0t, z0z]
                              rfl
                            refine z1b (i := 11) (N := some 52) (v := ?_) (a' := ?_) #[true, true, true, true, true, true, true, true, true, true, true, true, false, false] rfl rfl (z0x HT_.out (by kernel_rfl)) (fun _ _ _ h => h) (Or.inl ⟨by rfl, ?_⟩) ?_ ?_
                            rotate_left
                            · intro w'
                              go_simp
                              with_reducible rfl
                            rotate_left
                            · simp only [Act.put, List.setIfInBounds_toArray, List.set_cons_zero, List.set_cons_succ, z0t, z0z]
                              rfl
                            refine z1b (i := 12) (N := some 53) (v := ?_) (a' := ?_) #[true, true, true, true, true, true, true, true, true, true, true, true, true, false] rfl rfl (z0x HT_.out (by kernel_rfl)) (fun _ _ _ h => h) (Or.inl ⟨by rfl, ?_⟩) ?_ ?_
                            rotate_left
                            · intro w'
                              go_simp
                              with_reducible rfl
                            rotate_left
                            · simp only [Act.put, List.setIfInBounds_toArray, List.set_cons_zero, List.set_cons_succ, z0t, z0z]
                              rfl
                            refine last_ (i := 13) (N := none) #[true, true, true, true, true, true, true, true, true, true, true, true, true, true] rfl rfl (z6k HT_.out (by kernel_rfl)) (by decide) (fun K hK => ?_)
                            refine skip_ (w1 := ?_) (by rfl) rfl ?_ ?_
                            rotate_left
                            · go_simp
                              rfl
                            refine hK.out _ _ ?_
                            clear hK K
                            refine done_ (z5i HT_.out (by kernel_rfl)) ?_
                            try go_wp2
                            go_roundg kj15
                            case measure => have := HK1.out; have := HJ15.out; omega
                            case rel => exact ⟨(t283), (y287), (wrap64 (x8_1 - 1)), (by rfl), H', ⟨by have := HK1.out; have := HJ15.out; omega⟩, ⟨by (with_reducible repeat (fail)); exact Kd.z2l (Kd.R_far (p := ⟨go35, ((ji29) : Int).toNat, none⟩) (Kd.z2l HO285.out (fun k_ hk => (⟨hk, fun e_ => hk.2 (by rw [e_]; rfl)⟩ : _ ∧ k_ ≠ go35))) (fun _ hk => hk.2) (.int .u64 (IntKind.u64.wrap ((rd x7_1 (ji29)) + (ji34))))) (fun _ hk => hk.1.2)⟩, ⟨by (with_reducible repeat (fail)); exact Kd.z2l HQ40.out (fun _ hk => hk.2)⟩, ⟨by repeat ((with_reducible first | exact HB.out | refine z3a ?_ GB35.out))⟩⟩
                          rw [if_neg c33] at H
                          exact absurd H (by simp)
                        rw [if_neg c31] at H
                        exact absurd H (by simp)
                      rw [if_neg c30] at H
                      exact absurd H (by simp)
                    rw [if_neg c27] at H
                    have c27b0 : decide (0 ≤ t282) = false := decide_eq_false c27
                    clear c27
                    have H' := y9.mk H
                    clear H
                    obtain ⟨Ao41, co41, eo41⟩ := Kd.z1g HO_6.out
                    subst eo41
                    go_wp2_with (((with_reducible refine z0y (f := 96) rfl ?_); refine z1p (some 36) rfl rfl Tryz.func96 (by kernel_rfl) rfl #[.slice Ao41 x6_15.length co41, .slice A1 l1.length c1] rfl (by (try simp only [List.map_toArray, List.map_cons, List.map_nil]); rfl) ?_; (with_reducible refine (z0u.calls kj15 _ _ x6_15 _ _ l1 t282 _ ?side1 ?side2 ?side3 ?side4 A26.out).mono ?_); (case side1 => repeat (exact (Kd.z0q HO_6.out).2.2)); (case side2 => exact (Kd.z0q HO_6.out).2.1); (case side3 => repeat (exact (Kd.z1q HR1.out HB.out))); (case side4 => exact HC1.out); rintro e w' ⟨rfl, ⟨nd, rfl⟩⟩; refine ⟨_, rfl, ?_⟩))
                    go_roundg kj15
                    case measure => have := HK1.out; have := HJ15.out; omega
                    case rel => exact ⟨(x6_15), (x7_1), (wrap64 (x8_1 - 1)), (by rfl), H', ⟨by have := HK1.out; have := HJ15.out; omega⟩, ⟨by (with_reducible repeat (apply Kd.z4t)); exact HO_6.out⟩, ⟨by (with_reducible repeat (apply Kd.z4t)); exact HO_7.out⟩, ⟨by repeat ((with_reducible first | exact HB.out | apply z0p))⟩⟩
                rw [if_neg c14] at H
                exact absurd H (by simp)
              rw [if_neg c12] at H
              exact absurd H (by simp)
            rw [if_neg c11] at H
            exact absurd H (by simp)
          rw [if_neg c8] at H
          have c8b0 : decide (0 ≤ x8_1) = false := decide_eq_false c8
          clear c8
          replace H := Option.bind_eq_some_iff.mp H
          obtain ⟨t269, A420, H⟩ := H
          have A42 := y9.mk A420
          clear A420
          simp only [Option.some.injEq, Prod.mk.injEq] at H
          obtain ⟨rfl, rfl⟩ := H
          obtain ⟨Ao43, co43, eo43⟩ := Kd.z1g HO_7.out
          subst eo43
          go_wp2_with (((with_reducible refine z0y (f := 68) rfl ?_); refine z1p (some 55) rfl rfl Tryz.func68 (by kernel_rfl) rfl #[.slice Ao43 x7_1.length co43] rfl (by (try simp only [List.map_toArray, List.map_cons, List.map_nil]); rfl) ?_; (with_reducible refine (z0r.calls k1 (fun k_ => some k_ = (.slice Ao43 x7_1.length co43 : Value).ownBlock) (.slice Ao43 x7_1.length co43) x7_1 t269 w _ ?side1 ?side2 A42.out).mono ?_); (case side1 => repeat ((with_reducible exact HB.out))); (case side2 => exact Kd.z7d rfl HO_7.out); rintro e w44 ⟨v270, rfl, ho0, hb, hkp⟩; refine ⟨_, rfl, ?_⟩; have n0_ := y9.mk (Kd.z2l (ok' := fun k_ => some k_ ≠ (v270 : Value).ownBlock) (Kd.R_keptB (HO_6.out) hkp (fun k_ hk_ hs_ => (hk_) hs_)) (fun k_ hk_ => fun e_ => Or.elim (ho0.1 k_ e_.symm) (fun hs_ => hk_.2.1 hs_) (fun hn_ => Nat.not_le.2 hk_.2.2 hn_))); have n1_ := y9.mk (Kd.z2l (ok' := fun k_ => some k_ ≠ (u6 : Value).ownBlock) ho0 (fun k_ hk_ => Or.elim hk_ (fun hs_ => fun e_ => (((HO_6.out).1 k_ e_.symm)) hs_) (fun hn_ => (Kd.fresh' (Kd.R_lt (by (with_reducible repeat (fail)); exact HO_6.out)) k_ hn_)))); have n2_ := y9.mk (hb); clear HO_6; clear HB; clear HO_7; have HO_6 := n0_; have HO271 := n1_; have HB := n2_; clear n0_ n1_ n2_; (try clear hb); (try clear hkp); (try clear ho0)))
          go_ret2
          exact ⟨_, _, by rfl, by (with_reducible repeat (fail)); exact HO271.out, by (with_reducible repeat (fail)); exact HO_6.out, by repeat ((with_reducible exact HB.out))⟩
    rw [if_neg c4] at H
    exact absurd H (by simp)
  rw [if_neg c3] at H
  exact absurd H (by simp)
end Go.Proofs.YtjpiplplohapnaaGreatDoor.PText
namespace Go.Proofs.YtjpiplplohapnaaGreatDoor.Big
open Go.RowKit Go.Proofs.YtjpiplplohapnaaGreatDoorW.PrintWords Go.Proofs.YtjpiplplohapnaaGreatDoorW.PrintLast Go.Proofs.YtjpiplplohapnaaGreatDoorW.PrintMore
open Go.Proofs.YtjpiplplohapnaaGreatDoor.PText
theorem tmod2 {y t : Nat} (h : y % 2 = t) : Int.tmod (y : Int) 2 = (t : Int) := by rw [Int.tmod_eq_emod_of_nonneg (by omega)]; omega
theorem half_step (a i : Nat) : a / 2 ^ i = 2 * (a / 2 ^ (i + 1)) + a / 2 ^ i % 2 := by
  rw [Nat.pow_succ, ← Nat.div_div_eq_div_mul]
  omega
theorem bit_dig (a i : Nat) : dig a (i / 32) / 2 ^ (i % 32) % 2 = a / 2 ^ i % 2 := by
  unfold dig
  have h1 : (2 : Nat) ^ i = B ^ (i / 32) * 2 ^ (i % 32) := by rw [B_eq, ← Nat.pow_add, Nat.div_add_mod]
  rw [h1, ← Nat.div_div_eq_div_mul]
  generalize a / B ^ (i / 32) = x
  have h2 : B = 2 ^ (i % 32) * (2 * 2 ^ (31 - i % 32)) := by
    rw [← Nat.pow_succ', ← Nat.pow_add, show i % 32 + (31 - i % 32 + 1) = 32 by omega]
  rw [h2, Nat.mod_mul, Nat.add_mul_div_left _ _ (Nat.pow_pos (by omega)), Nat.div_eq_of_lt (Nat.mod_lt _ (Nat.pow_pos (by omega))), Nat.zero_add, Nat.mod_mul_right_mod]
theorem bit_room (m i : Nat) : dig (m * 2 ^ (i + 1)) (i / 32) + 2 ^ (i % 32) < B := by
  unfold dig
  have h1 : (2 : Nat) ^ (i + 1) = B ^ (i / 32) * 2 ^ (i % 32 + 1) := by
    rw [B_eq, ← Nat.pow_add]; congr 1; omega
  have h2 : B = 2 ^ (31 - i % 32) * 2 ^ (i % 32 + 1) := by rw [← Nat.pow_add, show 31 - i % 32 + (i % 32 + 1) = 32 by omega]
  have h3 : m * 2 ^ (i + 1) / B ^ (i / 32) = m * 2 ^ (i % 32 + 1) := by
    rw [h1, ← Nat.mul_assoc, Nat.mul_comm m, Nat.mul_assoc, Nat.mul_div_cancel_left _ (z2x _)]
  rw [h3]
  have h4 : m * 2 ^ (i % 32 + 1) % B = m % 2 ^ (31 - i % 32) * 2 ^ (i % 32 + 1) := by rw [h2, Nat.mul_mod_mul_right]
  rw [h4]
  have h5 : m % 2 ^ (31 - i % 32) < 2 ^ (31 - i % 32) := Nat.mod_lt _ (Nat.pow_pos (by omega))
  have h6 : (m % 2 ^ (31 - i % 32) + 1) * 2 ^ (i % 32 + 1) ≤ 2 ^ (31 - i % 32) * 2 ^ (i % 32 + 1) := Nat.mul_le_mul_right _ h5
  rw [← h2, Nat.add_mul] at h6
  have h7 : 2 ^ (i % 32) < 1 * 2 ^ (i % 32 + 1) := by rw [Nat.pow_succ]; have := Nat.pow_pos (a := 2) (n := i % 32) (by omega); omega
  omega
theorem div_step (a b i : Nat) (hb : 0 < b) (x : Nat) (hx : x = a / 2 ^ (i + 1) % b * 2 + a / 2 ^ i % 2) :
    (b ≤ x → a / 2 ^ i / b = 2 * (a / 2 ^ (i + 1) / b) + 1 ∧ a / 2 ^ i % b = x - b) ∧ (x < b → a / 2 ^ i / b = 2 * (a / 2 ^ (i + 1) / b) ∧ a / 2 ^ i % b = x) ∧ x < 2 * b := by
  have h1 := half_step a i
  have h2 := Nat.div_add_mod (a / 2 ^ (i + 1)) b
  have h3 := Nat.mod_lt (a / 2 ^ (i + 1)) hb
  generalize a / 2 ^ (i + 1) / b = Q at *
  generalize a / 2 ^ (i + 1) % b = R at *
  have h4 : a / 2 ^ i = x + b * (2 * Q) := by
    have : b * (2 * Q) = 2 * (b * Q) := Nat.mul_left_comm _ _ _
    omega
  rw [h4]
  rw [Nat.add_mul_div_left _ _ hb, Nat.add_mul_mod_self_left]
  refine ⟨fun h => ?_, fun h => ?_, by omega⟩
  · have h5 : x = (x - b) + b * 1 := by omega
    have h6 : x - b < b := by omega
    refine ⟨?_, ?_⟩
    · rw [h5, Nat.add_mul_div_left _ _ hb, Nat.div_eq_of_lt h6]; omega
    rw [h5, Nat.add_mul_mod_self_left, Nat.mod_eq_of_lt h6]; omega
  rw [Nat.div_eq_of_lt h, Nat.mod_eq_of_lt h]; omega
theorem div_l0 (a b L : Nat) (hb : 0 < b) (hL : L = ln a) (ht : L ≤ 1000000) (htb : ln b ≤ 1000000) :
    ∀ (i : Nat), i ≤ 32 * L → Ev (fun k => z0e.l0 k (dg a) (dg b) (dg (a / 2 ^ i % b)) (dgL L (a / 2 ^ i / b * 2 ^ i)) ((i : Int) - 1)) (dg (a / b), dg (a % b)) := by
  have t9 : top = 1000000000 := rfl
  intro i
  induction i with
  | zero =>
    intro _
    have hlt : a / b < B ^ L := Nat.lt_of_le_of_lt (Nat.div_le_self _ _) (hL ▸ z1r a)
    refine Ev.step (f := fun k => (z0r.f k (dgL L (a / b))).bind fun t => some (t, dg (a % b))) (fun k => ?_) (Ev.bind (f := fun _ t => some (t, dg (a % b))) (z6z L _ (by omega) hlt) (Ev.now _))
    simp only [z0e.l0]
    rw [if_neg (by omega)]
    simp
  | succ i ih =>
    intro hi
    have hstep := div_step a b i hb _ rfl
    have hbit := bit_dig a i
    have hroom := bit_room (a / 2 ^ (i + 1) / b) i
    generalize hR : a / 2 ^ (i + 1) % b = R at *
    generalize hQ : a / 2 ^ (i + 1) / b = Q at *
    have hRb : R < b := hR ▸ Nat.mod_lt _ hb
    have hlR : ln R ≤ ln b := ln_mono (by omega)
    generalize ht2 : a / 2 ^ i % 2 = t at *
    have ht1 : t < 2 := by rw [← ht2]; omega
    have h2R : ln (R * 2 ^ 1) ≤ ln b + 1 := by
      refine ln_le ?_
      have h1 := z1r b
      have h2 : R * 2 ^ 1 ≤ b * B := Nat.mul_le_mul (by omega) (by decide)
      have h3 : b * B < B ^ ln b * B := Nat.mul_lt_mul_of_pos_right h1 Bpos
      exact Nat.lt_of_le_of_lt h2 (by rw [Nat.pow_succ]; exact h3)
    have hx : ln (R * 2 + t) ≤ ln b + 1 := by
      refine ln_le ?_
      have h1 := z1r b
      have h2 : R * 2 + t ≤ b * B := by
        have : b * 2 ≤ b * B := Nat.mul_le_mul_left _ (by decide)
        omega
      have h3 : b * B < B ^ ln b * B := Nat.mul_lt_mul_of_pos_right h1 Bpos
      rw [Nat.pow_succ]; omega
    have hj : Ev (fun k => z0e.j1 k (dg a) (dg b) (dg (R * 2 + t)) (dgL L (Q * 2 ^ (i + 1))) (i : Int)) (dg (a / b), dg (a % b)) := by
      have hcmp := cmp_ev (R * 2 + t) b (by omega) (by omega)
      rcases Nat.lt_or_ge (R * 2 + t) b with hlt | hge
      · obtain ⟨e1, e2⟩ := hstep.2.1 hlt
        have ih' := ih (by omega)
        rw [e1, e2] at ih'
        have e3 : 2 * Q * 2 ^ i = Q * 2 ^ (i + 1) := by rw [Nat.pow_succ', ← Nat.mul_assoc, Nat.mul_comm 2 Q]
        rw [e3] at ih'
        refine Ev.step (f := fun k => (z0u.f k (dg (R * 2 + t)) (dg b)).bind fun t282 => if t282 ≥ 0 then _ else z0e.l0 k (dg a) (dg b) (dg (R * 2 + t)) (dgL L (Q * 2 ^ (i + 1))) (wrap64 ((i : Int) - 1))) (fun k => by simp only [z0e.j1]; rfl) (Ev.bind hcmp ?_)
        have e4 : cmp3 (R * 2 + t) b = -1 := by unfold cmp3; rw [if_pos hlt]
        rw [e4]
        refine Ev.congr (fun k => ?_) ih'
        rw [if_neg (by omega), w64 (by omega) (by omega)]
      obtain ⟨e1, e2⟩ := hstep.1 hge
      have ih' := ih (by omega)
      rw [e1, e2] at ih'
      have hsub := sub_ev (R * 2 + t) b (by omega) hge
      have e3 : (2 * Q + 1) * 2 ^ i = Q * 2 ^ (i + 1) + 2 ^ (i % 32) * B ^ (i / 32) := by
        rw [Nat.add_mul, Nat.pow_succ', ← Nat.mul_assoc, Nat.mul_comm 2 Q, Nat.one_mul]
        congr 1
        rw [B_eq, ← Nat.pow_add]; congr 1; omega
      have e5 : setD (Q * 2 ^ (i + 1)) (i / 32) (dig (Q * 2 ^ (i + 1)) (i / 32) + 2 ^ (i % 32)) = (2 * Q + 1) * 2 ^ i := by rw [z8z, e3]
      rw [← e5] at ih'
      refine Ev.step (f := fun k => (z0u.f k (dg (R * 2 + t)) (dg b)).bind fun t282 => if t282 ≥ 0 then _ else z0e.l0 k (dg a) (dg b) (dg (R * 2 + t)) (dgL L (Q * 2 ^ (i + 1))) (wrap64 ((i : Int) - 1))) (fun k => by simp only [z0e.j1]; rfl) (Ev.bind hcmp ?_)
      have e4 : (0 : Int) ≤ cmp3 (R * 2 + t) b := by unfold cmp3; rw [if_neg (by omega)]; split <;> omega
      refine Ev.congr (f := fun k => (z1a.f k (dg (R * 2 + t)) (dg b)).bind fun t283 => z0e.l0 k (dg a) (dg b) t283 (dgL L (setD (Q * 2 ^ (i + 1)) (i / 32) (dig (Q * 2 ^ (i + 1)) (i / 32) + 2 ^ (i % 32)))) ((i : Int) - 1)) (fun k => ?_) (Ev.bind hsub ih')
      rw [if_pos e4]
      refine congrArg _ (funext fun t283 => ?_)
      have f1 : Int.tmod (i : Int) 32 = ((i % 32 : Nat) : Int) := by rw [Int.tmod_eq_emod_of_nonneg (by omega)]; omega
      have f2 : Int.tdiv (i : Int) 32 = ((i / 32 : Nat) : Int) := by rw [Int.tdiv_eq_ediv_of_nonneg (by omega)]; omega
      rw [f1, f2, w64 (x := ((i / 32 : Nat) : Int)) (by omega) (by omega), z3b, if_pos (by omega), if_pos (by omega), if_pos (by omega), z7l _ _ _ (by omega), Int.toNat_natCast]
      have f3 := shl_ev 1 (i % 32) (by omega) (by omega)
      rw [Nat.one_mul] at f3
      rw [show ((1 : Nat) : Int) = 1 from rfl] at f3
      rw [f3, show ((dig (Q * 2 ^ (i + 1)) (i / 32) : Nat) : Int) + ((2 ^ (i % 32) : Nat) : Int) = ((dig (Q * 2 ^ (i + 1)) (i / 32) + 2 ^ (i % 32) : Nat) : Int) by omega, wun _ (Nat.lt_trans hroom (by decide)), z5v _ _ _ _ (by omega) hroom, w64 (by omega) (by omega)]
    have hup := up_ev R 1 (by omega) (by omega)
    have hadd := add_ev (R * 2 ^ 1) 1 (by have : ln 1 ≤ 1 := z9a (by decide)
                                          omega)
    have f1 : Int.tmod (i : Int) 32 = ((i % 32 : Nat) : Int) := by rw [Int.tmod_eq_emod_of_nonneg (by omega)]; omega
    have f2 : Int.tdiv (i : Int) 32 = ((i / 32 : Nat) : Int) := by rw [Int.tdiv_eq_ediv_of_nonneg (by omega)]; omega
    have f3 : shr .u64 ((dig a (i / 32) : Nat) : Int) ((i % 32 : Nat) : Int) = ((dig a (i / 32) / 2 ^ (i % 32) : Nat) : Int) := by
      unfold shr
      rw [Nat.min_eq_left (by show (((i % 32 : Nat) : Int)).toNat ≤ 64; omega), Int.toNat_natCast, Int.natCast_ediv, Int.natCast_pow]
      rfl
    have f4 : Int.tmod ((dig a (i / 32) / 2 ^ (i % 32) : Nat) : Int) 2 = (t : Int) := tmod2 hbit
    refine Ev.step (f := fun k => (z0l.f k (dg R) 1).bind fun t272 => if (t : Int) = 1 then ((z0k.f k t272 (([1] : List Int))).bind fun t279 => (z0e.j1 k (dg a) (dg b) t279 (dgL L (Q * 2 ^ (i + 1))) (i : Int))) else (z0e.j1 k (dg a) (dg b) t272 (dgL L (Q * 2 ^ (i + 1))) (i : Int))) (fun k => ?_) (Ev.bind hup ?_)
    · simp only [z0e.l0]
      rw [show ((i + 1 : Nat) : Int) - 1 = (i : Int) by omega, if_pos (by omega)]
      refine congrArg _ (funext fun t272 => ?_)
      rw [f1, f2, w64 (x := ((i / 32 : Nat) : Int)) (by omega) (by omega), z1c, if_pos (by omega), if_pos (by omega), if_pos (by omega), rd_dg _ _ (by omega), f3, f4]
    have ht01 : t = 0 ∨ t = 1 := by omega
    rcases ht01 with h | h
    · rw [h] at hj
      refine Ev.congr (fun k => ?_) hj
      rw [if_neg (by omega), Nat.pow_one]
      rfl
    rw [h] at hj
    have e1 : dg 1 = [1] := z8u (by omega) (by decide)
    rw [e1, Nat.pow_one] at hadd
    refine Ev.congr (f := fun k => (z0k.f k (dg (R * 2)) [1]).bind fun t279 => z0e.j1 k (dg a) (dg b) t279 (dgL L (Q * 2 ^ (i + 1))) (i : Int)) (fun k => ?_) (Ev.bind hadd hj)
    rw [if_pos (by omega), Nat.pow_one]
theorem divd_ev (a b : Nat) (hb : 0 < b) (ht : ln a ≤ 1000000) (htb : ln b ≤ 1000000) : Ev (fun k => z0e.f k (dg a) (dg b)) (dg (a / b), dg (a % b)) := by
  have t9 : top = 1000000000 := rfl
  have hlen := len_ev a (by omega)
  have hbl : bl a ≤ 32 * ln a := bl_le (by rw [← B_eq]; exact z1r a)
  have h0 := div_l0 a b (ln a) hb rfl ht htb (bl a) hbl
  rw [Nat.div_eq_of_lt (z4b a), Nat.zero_mod, Nat.zero_div, Nat.zero_mul] at h0
  have hd0 : dg 0 = [] := by simp [dg, z3z, dgL]
  rw [hd0] at h0
  refine Ev.congr (f := fun k => (z0j.f k (dg a)).bind fun t268 => z0e.l0 k (dg a) (dg b) [] (dgL (ln a) 0) (wrap64 (t268 - 1))) (fun k => ?_) (Ev.bind hlen ?_)
  · unfold z0e.f
    rw [z1c, if_pos (by omega), Int.toNat_natCast, if_pos (by omega), z6o]
  refine Ev.congr (fun k => ?_) h0
  rw [w64 (by omega) (by omega)]
end Go.Proofs.YtjpiplplohapnaaGreatDoor.Big
namespace Go.Proofs.YtjpiplplohapnaaGreatDoor.Num
open Go
def isD (c : UInt8) : Prop := 48 ≤ c.toNat ∧ c.toNat ≤ 57
instance (c : UInt8) : Decidable (isD c) := inferInstanceAs (Decidable (_ ∧ _))
def st (a : Nat) (c : UInt8) : Nat := 10 * a + (c.toNat - 48)
def dv (acc : Nat) (l : List UInt8) : Nat := l.foldl st acc
theorem z3q (a : Nat) : dv a [] = a := by unfold dv; rw [List.foldl_nil]
theorem z2u (a : Nat) (c : UInt8) (r : List UInt8) : dv a (c :: r) = dv (10 * a + (c.toNat - 48)) r := by unfold dv; rw [List.foldl_cons]; rfl
theorem z7v (l m : List UInt8) (a : Nat) : dv a (l ++ m) = dv (dv a l) m := by
  induction l generalizing a with
  | nil => rw [z3q, List.nil_append]
  | cons c r ih => rw [List.cons_append, z2u, z2u, ih]
theorem dv_snoc (l : List UInt8) (c : UInt8) (a : Nat) : dv a (l ++ [c]) = 10 * dv a l + (c.toNat - 48) := by rw [z7v, z2u, z3q]
theorem dv_ge (l : List UInt8) (a : Nat) : a * 10 ^ l.length ≤ dv a l := by
  induction l generalizing a with
  | nil => simp [z3q]
  | cons c r ih =>
    have h1 := ih (10 * a + (c.toNat - 48))
    have h2 : 10 * a * 10 ^ r.length ≤ (10 * a + (c.toNat - 48)) * 10 ^ r.length := Nat.mul_le_mul_right _ (Nat.le_add_right _ _)
    have e : a * 10 ^ (r.length + 1) = 10 * a * 10 ^ r.length := by rw [Nat.pow_succ, Nat.mul_comm (10 ^ r.length) 10, ← Nat.mul_assoc, Nat.mul_comm a 10]
    rw [z2u, List.length_cons]
    rw [e]
    exact Nat.le_trans h2 h1
theorem dv_lt (l : List UInt8) (h : ∀ c ∈ l, isD c) (a : Nat) : dv a l < (a + 1) * 10 ^ l.length := by
  induction l generalizing a with
  | nil => simp [z3q]
  | cons c r ih =>
    have hc := h c (by simp)
    have h1 := ih (fun x hx => h x (by simp [hx])) (10 * a + (c.toNat - 48))
    have h2 : (10 * a + (c.toNat - 48) + 1) * 10 ^ r.length ≤ (10 * (a + 1)) * 10 ^ r.length := Nat.mul_le_mul_right _ (by unfold isD at hc; omega)
    have e : (a + 1) * 10 ^ (r.length + 1) = 10 * (a + 1) * 10 ^ r.length := by rw [Nat.pow_succ, Nat.mul_comm (10 ^ r.length) 10, ← Nat.mul_assoc, Nat.mul_comm (a + 1) 10]
    rw [z2u, List.length_cons]
    rw [e]
    exact Nat.lt_of_lt_of_le h1 h2
theorem z6e {d : Nat} (h : d < 10) : (UInt8.ofNat (48 + d)).toNat = 48 + d := by
  rw [UInt8.toNat_ofNat']; omega
theorem digit_of {c : UInt8} (h : isD c) : UInt8.ofNat (48 + (c.toNat - 48)) = c := by
  unfold isD at h
  rw [show 48 + (c.toNat - 48) = c.toNat by omega, UInt8.ofNat_toNat]
theorem dec_digits (u : Nat) : ∀ c ∈ Lib.decDigits u, isD c := by
  induction u using Nat.strongRecOn with
  | ind u ih =>
    rw [Lib.decDigits]
    by_cases h : u < 10
    · rw [dif_pos h]
      intro c hc
      obtain rfl := List.mem_singleton.1 hc
      unfold isD; rw [z6e h]; omega
    rw [dif_neg h]
    intro c hc
    rcases List.mem_append.1 hc with h1 | h1
    · exact ih (u / 10) (by omega) c h1
    obtain rfl := List.mem_singleton.1 h1
    unfold isD; rw [z6e (by omega)]; omega
theorem dec_ne (u : Nat) : Lib.decDigits u ≠ [] := by
  rw [Lib.decDigits]
  by_cases h : u < 10
  · rw [dif_pos h]; simp
  rw [dif_neg h]; simp
theorem dv_dec (u : Nat) : dv 0 (Lib.decDigits u) = u := by
  induction u using Nat.strongRecOn with
  | ind u ih =>
    rw [Lib.decDigits]
    by_cases h : u < 10
    · rw [dif_pos h]; simp only [z2u, z3q]; rw [z6e h]; omega
    rw [dif_neg h, dv_snoc, ih (u / 10) (by omega), z6e (by omega)]; omega
def canon (l : List UInt8) : Prop := l ≠ [] ∧ (∀ c ∈ l, isD c) ∧ (l.head? = some 48 → l.length = 1)
instance (l : List UInt8) : Decidable (canon l) := inferInstanceAs (Decidable (_ ∧ _ ∧ _))
theorem dec_canon (u : Nat) : canon (Lib.decDigits u) := by
  refine ⟨dec_ne u, dec_digits u, ?_⟩
  induction u using Nat.strongRecOn with
  | ind u ih =>
    rw [Lib.decDigits]
    by_cases h : u < 10
    · rw [dif_pos h]; simp
    rw [dif_neg h]
    have hne := dec_ne (u / 10)
    intro hh
    exfalso
    have hh' : (Lib.decDigits (u / 10)).head? = some 48 := by
      cases hl : Lib.decDigits (u / 10) with
      | nil => exact absurd hl hne
      | cons c r => rw [hl] at hh; simpa using hh
    have hlen := ih (u / 10) (by omega) hh'
    cases hl : Lib.decDigits (u / 10) with
    | nil => exact absurd hl hne
    | cons c r =>
      rw [hl] at hh' hlen
      obtain rfl : r = [] := by simpa using hlen
      obtain rfl : c = 48 := by simpa using hh'
      have := dv_dec (u / 10)
      rw [hl] at this
      simp only [z2u, z3q] at this
      have e : (48 : UInt8).toNat = 48 := rfl
      omega
theorem z8q (l : List UInt8) (h : canon l) : Lib.decDigits (dv 0 l) = l := by
  obtain ⟨hne, hd, h0⟩ := h
  generalize hn : l.length = n
  induction n generalizing l with
  | zero => exact absurd (List.length_eq_zero_iff.1 hn) hne
  | succ n ih =>
    obtain ⟨m, c, rfl⟩ : ∃ m c, l = m ++ [c] := ⟨l.dropLast, l.getLast hne, (List.dropLast_concat_getLast hne).symm⟩
    have hc : isD c := hd c (by simp)
    have hc' := hc
    unfold isD at hc'
    rw [dv_snoc]
    cases m with
    | nil =>
      rw [Lib.decDigits, dif_pos (by simp only [z3q]; omega)]
      simp only [z3q, Nat.mul_zero, Nat.zero_add, List.nil_append]
      rw [digit_of hc]
    | cons b r =>
      have hb : isD b := hd b (by simp)
      have hb' := hb
      unfold isD at hb'
      have hb0 : b ≠ 48 := by
        rintro rfl
        have := h0 (by simp)
        simp at this
      have hb1 : b.toNat ≠ 48 := fun e => hb0 (by rw [← UInt8.ofNat_toNat (x := b), e]; rfl)
      have hv : 1 ≤ dv 0 (b :: r) := by
        have := dv_ge r (10 * 0 + (b.toNat - 48))
        have h1 : 1 ≤ 10 ^ r.length := Nat.pow_pos (by decide)
        have h2 : 1 * 1 ≤ (10 * 0 + (b.toNat - 48)) * 10 ^ r.length := Nat.mul_le_mul (by omega) h1
        simp only [z2u]; omega
      have ihm := ih (b :: r) (by simp) (fun x hx => hd x (by simp at hx ⊢; rcases hx with rfl | hx <;> simp [*])) (fun e => absurd (by simpa using e) hb0) (by simp at hn ⊢; omega)
      rw [Lib.decDigits, dif_neg (by omega)]
      rw [show (10 * dv 0 (b :: r) + (c.toNat - 48)) / 10 = dv 0 (b :: r) by omega, show (10 * dv 0 (b :: r) + (c.toNat - 48)) % 10 = c.toNat - 48 by omega, ihm, digit_of hc]
def intOf (l : List UInt8) : Option Int :=
  match l with
  | [] => none
  | c :: r =>
    if c.toNat = 45 then (if canon r ∧ r.head? ≠ some 48 ∧ dv 0 r ≤ 9223372036854775808 then some (-(dv 0 r : Int)) else none)
    else if canon (c :: r) ∧ dv 0 (c :: r) < 9223372036854775808 then some (dv 0 (c :: r) : Int) else none
def told (o : Option Int) : Int × Bool := match o with | some n => (n, true) | none => (0, false)
theorem z9e (l : List UInt8) (h : ∀ c ∈ l, isD c) (a : Nat) (hl : dv a l < 18446744073709551616) : Lib.parseUint10 a l = .ok (dv a l) := by
  induction l generalizing a with
  | nil => rw [z3q]; rfl
  | cons c r ih =>
    have hc := h c (by simp)
    have hge := dv_ge r (10 * a + (c.toNat - 48))
    have h1 : 1 ≤ 10 ^ r.length := Nat.pow_pos (by decide)
    have h2 : (10 * a + (c.toNat - 48)) * 1 ≤ (10 * a + (c.toNat - 48)) * 10 ^ r.length := Nat.mul_le_mul_left _ h1
    simp only [z2u] at hl
    simp only [Lib.parseUint10, z2u]
    unfold isD at hc
    rw [if_pos hc, if_neg (by omega), if_neg (by omega), Nat.mul_comm a 10]
    exact ih (fun x hx => h x (by simp [hx])) _ hl
theorem atoi_of_intOf {l : List UInt8} {n : Int} (h : intOf l = some n) : Lib.atoiAll l = .ok n ∧ Lib.itoa n = l := by
  cases l with
  | nil => simp [intOf] at h
  | cons c r =>
    simp only [intOf] at h
    by_cases hc : c.toNat = 45
    · rw [if_pos hc] at h
      by_cases hr : canon r ∧ r.head? ≠ some 48 ∧ dv 0 r ≤ 9223372036854775808
      · rw [if_pos hr] at h
        obtain ⟨hcan, hz, hb⟩ := hr
        obtain rfl : -(dv 0 r : Int) = n := Option.some.inj h
        have hpos : 1 ≤ dv 0 r := by
          cases r with
          | nil => exact absurd rfl hcan.1
          | cons b q =>
            have hb1 := hcan.2.1 b (by simp)
            have hb0 : b.toNat ≠ 48 := fun e => hz (by rw [List.head?_cons, ← UInt8.ofNat_toNat (x := b), e]; rfl)
            have := dv_ge q (10 * 0 + (b.toNat - 48))
            have h1 : 1 ≤ 10 ^ q.length := Nat.pow_pos (by decide)
            unfold isD at hb1
            have h2 : 1 * 1 ≤ (10 * 0 + (b.toNat - 48)) * 10 ^ q.length := Nat.mul_le_mul (by omega) h1
            simp only [z2u]; omega
        constructor
        · simp only [Lib.atoiAll]
          rw [if_pos (Or.inr hc)]
          unfold Lib.parseMag
          rw [if_neg hcan.1, z9e r hcan.2.1 0 (by omega)]
          simp only [hc]
          rw [if_neg (by simp), if_neg (by omega)]
          simp
        unfold Lib.itoa
        rw [if_pos (by omega)]
        rw [show (-(dv 0 r : Int)).natAbs = dv 0 r by omega, z8q r hcan]
        congr 1
        rw [← UInt8.ofNat_toNat (x := c), hc]; rfl
      rw [if_neg hr] at h; cases h
    rw [if_neg hc] at h
    by_cases hr : canon (c :: r) ∧ dv 0 (c :: r) < 9223372036854775808
    · rw [if_pos hr] at h
      obtain ⟨hcan, hb⟩ := hr
      obtain rfl : (dv 0 (c :: r) : Int) = n := Option.some.inj h
      have hc1 := hcan.2.1 c (by simp)
      unfold isD at hc1
      constructor
      · simp only [Lib.atoiAll]
        rw [if_neg (by omega)]
        unfold Lib.parseMag
        rw [if_neg (by simp), z9e (c :: r) hcan.2.1 0 (by omega)]
        simp only
        rw [if_neg (by omega), if_neg (by omega), if_neg hc]
      unfold Lib.itoa
      rw [if_neg (by omega), Int.toNat_natCast, z8q _ hcan]
    rw [if_neg hr] at h; cases h
theorem intOf_itoa (n : Int) (h0 : -9223372036854775808 ≤ n) (h1 : n ≤ 9223372036854775807) : intOf (Lib.itoa n) = some n := by
  unfold Lib.itoa
  by_cases hn : n < 0
  · rw [if_pos hn]
    simp only [intOf]
    have e : (45 : UInt8).toNat = 45 := rfl
    have hnz : (Lib.decDigits n.natAbs).head? ≠ some 48 := by
      intro hz
      have hl := (dec_canon n.natAbs).2.2 hz
      cases hd : Lib.decDigits n.natAbs with
      | nil => exact dec_ne _ hd
      | cons c r =>
        rw [hd] at hz hl
        obtain rfl : r = [] := by simpa using hl
        obtain rfl : c = 48 := by simpa using hz
        have := dv_dec n.natAbs
        rw [hd] at this
        have e : (48 : UInt8).toNat = 48 := rfl
        simp only [z2u, z3q] at this; omega
    have hm : -((n.natAbs : Nat) : Int) = n := by omega
    rw [if_pos e, dv_dec, if_pos ⟨dec_canon _, hnz, by omega⟩, hm]
  rw [if_neg hn]
  have hcan := dec_canon n.toNat
  have hdv := dv_dec n.toNat
  cases hd : Lib.decDigits n.toNat with
  | nil => exact absurd hd (dec_ne _)
  | cons c r =>
    rw [hd] at hcan hdv
    have hc1 := hcan.2.1 c (by simp)
    unfold isD at hc1
    simp only [intOf]
    rw [if_neg (by omega), if_pos ⟨hcan, by omega⟩, hdv]
    congr 1; omega
def z3y (l : List UInt8) : Int × Bool := match Lib.atoiAll l with
  | .ok v => if Lib.itoa v = l then (v, true) else (0, false)
  | _ => (0, false)
theorem atoi_bounds {l : List UInt8} {v : Int} (h : Lib.atoiAll l = .ok v) : -9223372036854775808 ≤ v ∧ v ≤ 9223372036854775807 := by
  cases l with
  | nil => simp [Lib.atoiAll] at h
  | cons c r =>
    simp only [Lib.atoiAll] at h
    split at h
    · cases h
    · cases h
    split at h
    · cases h
    split at h
    · cases h
    injection h with h
    split at h <;> omega
theorem progInt_eq (l : List UInt8) : z3y l = told (intOf l) := by
  unfold z3y
  cases hi : intOf l with
  | some n =>
    obtain ⟨h1, h2⟩ := atoi_of_intOf hi
    rw [h1]; simp only; rw [if_pos h2]; rfl
  | none =>
    cases ha : Lib.atoiAll l with
    | ok v =>
      simp only
      by_cases he : Lib.itoa v = l
      · have hb := atoi_bounds ha
        have := intOf_itoa v hb.1 hb.2
        rw [he, hi] at this
        cases this
      rw [if_neg he]; rfl
    | _ => rfl
end Go.Proofs.YtjpiplplohapnaaGreatDoor.Num
namespace Go.Proofs.YtjpiplplohapnaaGreatDoor.PText
open Go.RowKit Go.Proofs.YtjpiplplohapnaaGreatDoorW.PrintWords Go.Proofs.YtjpiplplohapnaaGreatDoorW.PrintLast Go.Proofs.YtjpiplplohapnaaGreatDoorW.PrintMore
attribute [local go_sem] z2i z2j z3i z3k z2d z2c z2q z2r
set_option linter.unusedVariables false
set_option linter.unusedSimpArgs false
def z1k.l0 : Nat → ByteArray → Int → Option (Int)
  | 0, _, _ => none
  | k + 1, x0, x1 => if x1 < (x0.size : Int) then (if 0 ≤ x1 then (if (bt x0 x1) ≥ 48 then (if (bt x0 x1) ≤ 57 then (z1k.l0 k x0 (wrap64 (x1 + 1))) else (some x1)) else (some x1)) else (none)) else (some x1)
def z1k.f (k : Nat) (a0 : ByteArray) (a1 : Int) : Option (Int) := z1k.l0 k a0 a1
set_option maxHeartbeats 8000000 in
set_option maxRecDepth 100000 in
theorem z1k.calls (k : Nat) (a0 : ByteArray) (a1 : Int) (r : Int) (w : World) (h : z1k.f k a0 a1 = some r) :
    Calls Tryz.prog 59 #[.string a0, .int .i64 a1] w fun e w' => e = .returned (.int .i64 r) ∧ z0o w w' := by
  have H : (z1k.l0 k a0 a1) = some r := h
  clear h
  have H' := y9.mk H
  clear H
  go_enter Tryz.func59, Tryz.ntmps59
  go_wp2
  go_loopg [1] k (fun kq v1 w' => ∃ (x1_1 : Int), v1 = .int .i64 x1_1 ∧ y9 (z1k.l0 kq a0 x1_1 = some r) ∧ y9 (kq ≤ k) ∧ z0o w w')
  case atStart => exact ⟨(a1), (by first | rfl | (simp; done) | (simp [*]; done)), H', ⟨Nat.le_refl _⟩, by repeat (first | exact z0o.refl _ | apply z0o.step)⟩
  case round =>
    clear H'
    try clear p2
    obtain ⟨x1_1, rfl, HA, HK1, ⟨m1, rfl⟩⟩ := hrel
    cases gk with
    | zero => exact absurd HA.out (by simp [z1k.l0])
    | succ k1 =>
      have H := HA.out
      clear HA
      simp only [z1k.l0] at H
      by_cases c3 : x1_1 < (a0.size : Int)
      · rw [if_pos c3] at H
        have c3b0 : decide (x1_1 < (a0.size : Int)) = true := decide_eq_true c3
        clear c3
        by_cases c4 : 0 ≤ x1_1
        · rw [if_pos c4] at H
          have c4b0 : decide (0 ≤ x1_1) = true := decide_eq_true c4
          clear c4
          by_cases c6 : (bt a0 x1_1) ≥ 48
          · rw [if_pos c6] at H
            have c6b0 : decide (48 ≤ (bt a0 x1_1)) = true := decide_eq_true c6
            clear c6
            by_cases c8 : (bt a0 x1_1) ≤ 57
            · rw [if_pos c8] at H
              have c8b0 : decide ((bt a0 x1_1) ≤ 57) = true := decide_eq_true c8
              clear c8
              have H' := y9.mk H
              clear H
              have p5 : 0 ≤ (x1_1 : Int) := of_decide_eq_true (by first | (with_reducible assumption) | assumption)
              have q5 : x1_1 < (a0.size : Int) := of_decide_eq_true (by first | (with_reducible assumption) | assumption)
              have hx5 := z4f a0 x1_1
              replace p5 := eq_true p5
              replace q5 := eq_true q5
              have p7 : 0 ≤ (x1_1 : Int) := of_decide_eq_true (by first | (with_reducible assumption) | assumption)
              have q7 : x1_1 < (a0.size : Int) := of_decide_eq_true (by first | (with_reducible assumption) | assumption)
              have hx7 := z4f a0 x1_1
              replace p7 := eq_true p7
              replace q7 := eq_true q7
              go_wp2
              go_roundg k1
              case measure => have := HK1.out; omega
              case rel => exact ⟨(wrap64 (x1_1 + 1)), (by first | rfl | (simp; done) | (simp [*]; done)), H', ⟨by have := HK1.out; omega⟩, by repeat (first | exact z0o.refl _ | apply z0o.step)⟩
            rw [if_neg c8] at H
            have c8b0 : decide ((bt a0 x1_1) ≤ 57) = false := decide_eq_false c8
            clear c8
            obtain rfl := Option.some.inj H
            have p5 : 0 ≤ (x1_1 : Int) := of_decide_eq_true (by first | (with_reducible assumption) | assumption)
            have q5 : x1_1 < (a0.size : Int) := of_decide_eq_true (by first | (with_reducible assumption) | assumption)
            have hx5 := z4f a0 x1_1
            replace p5 := eq_true p5
            replace q5 := eq_true q5
            have p7 : 0 ≤ (x1_1 : Int) := of_decide_eq_true (by first | (with_reducible assumption) | assumption)
            have q7 : x1_1 < (a0.size : Int) := of_decide_eq_true (by first | (with_reducible assumption) | assumption)
            have hx7 := z4f a0 x1_1
            replace p7 := eq_true p7
            replace q7 := eq_true q7
            go_wp2
            go_ret
            exact ⟨by first | rfl | (simp; done) | (simp [*]; done), by repeat (first | exact z0o.refl _ | apply z0o.step)⟩
          rw [if_neg c6] at H
          have c6b0 : decide (48 ≤ (bt a0 x1_1)) = false := decide_eq_false c6
          clear c6
          obtain rfl := Option.some.inj H
          have p5 : 0 ≤ (x1_1 : Int) := of_decide_eq_true (by first | (with_reducible assumption) | assumption)
          have q5 : x1_1 < (a0.size : Int) := of_decide_eq_true (by first | (with_reducible assumption) | assumption)
          have hx5 := z4f a0 x1_1
          replace p5 := eq_true p5
          replace q5 := eq_true q5
          go_wp2
          go_ret
          exact ⟨by first | rfl | (simp; done) | (simp [*]; done), by repeat (first | exact z0o.refl _ | apply z0o.step)⟩
        rw [if_neg c4] at H
        exact absurd H (by simp)
      rw [if_neg c3] at H
      have c3b0 : decide (x1_1 < (a0.size : Int)) = false := decide_eq_false c3
      clear c3
      obtain rfl := Option.some.inj H
      go_wp2
      go_ret
      exact ⟨by first | rfl | (simp; done) | (simp [*]; done), by repeat (first | exact z0o.refl _ | apply z0o.step)⟩
end Go.Proofs.YtjpiplplohapnaaGreatDoor.PText
