/- Part 12 of the proof: ROver, Rr. -/
import Derived.Test.YtjpiplplohapnaaGreatDoorPs11
set_option linter.unusedVariables false
set_option linter.unusedSimpArgs false
namespace Go.Proofs.YtjpiplplohapnaaGreatDoor.PText
open Go.RowKit Go.Proofs.YtjpiplplohapnaaGreatDoorW.PrintWords Go.Proofs.YtjpiplplohapnaaGreatDoorW.PrintLast Go.Proofs.YtjpiplplohapnaaGreatDoorW.PrintMore
attribute [local go_sem] z2i z2j z3i z3k z2d z2c z2q z2r
set_option linter.unusedVariables false
set_option linter.unusedSimpArgs false
def z0w.f (k : Nat) (a0_0 : Bool) (l0_1 : List Int) (a0_2 : Int) (a1_0 : Bool) (l1_1 : List Int) (a1_2 : Int) : Option (Int) := (z1m.f a0_0 l0_1 a0_2).bind fun t290 => (if t290 = true then (some 0) else ((z0j.f k l0_1).bind fun t291 => ((z0j.f k l1_1).bind fun t292 => ((z0l.f k l0_1 (mx 0 (wrap64 ((wrap64 (70 - t291)) + t292)))).bind fun t293 => ((z0e.f k t293 l1_1).bind fun bt296 => ((z0f.f k a0_0 bt296.1 (wrap64 ((wrap64 (a0_2 - (mx 0 (wrap64 ((wrap64 (70 - t291)) + t292))))) - a1_2)) (decide (0 < bt296.2.length))).bind fun t302 => (some t302)))))))
def z0w.T3 : Bool × List (List Nat × List Nat) := (true, [([], []), ([0], [0]), ([1], [1]), ([2], [2]), ([], []), ([4], [4]), ([5, 2], [5]), ([3, 6], [3, 6]), ([7], [7]), ([8, 6, 0, 1, 2, 3, 4, 5, 6, 7, 8], [8])])
def z0w.B3 : List Nat := [0, 1, 3, 7, 0, 16, 55, 127, 255, 511]
theorem z0w.tab3 : rtab .any (opsOf Tryz.f64 3) = z0w.T3 := by kernel_rfl
theorem z0w.bits3 : z4r z0w.T3.2 z0w.B3 = true := by kernel_rfl
def z0w.T4 : Bool × List (List Nat × List Nat) := (true, [([], []), ([0], [0]), ([], []), ([1, 2], [1, 2]), ([], []), ([4], [4]), ([3, 5, 3], [3, 5]), ([6], [6]), ([7], [7]), ([7], [7]), ([8, 6, 0, 1, 2, 3, 4, 5, 6, 7, 8], [8]), ([9, 10, 0, 1, 2, 3, 4, 5, 6, 7, 8, 9, 10], [9])])
def z0w.B4 : List Nat := [0, 1, 0, 7, 0, 16, 63, 127, 255, 255, 511, 2047]
theorem z0w.tab4 : rtab .any (opsOf Tryz.f64 4) = z0w.T4 := by kernel_rfl
theorem z0w.bits4 : z4r z0w.T4.2 z0w.B4 = true := by kernel_rfl
set_option maxHeartbeats 8000000 in
set_option maxRecDepth 100000 in
theorem z0w.calls (k : Nat) (a0_0 : Bool) (A0_1 : Option Addr) (c0_1 : Nat) (l0_1 : List Int) (a0_2 : Int) (a1_0 : Bool) (A1_1 : Option Addr) (c1_1 : Nat) (l1_1 : List Int) (a1_2 : Int) (r : Int) (w : World) (hr0_1 : Kd.C (Kd.int .u64) w A0_1 l0_1.length l0_1) (hc0_1 : l0_1.length ≤ c0_1) (hr1_1 : Kd.C (Kd.int .u64) w A1_1 l1_1.length l1_1) (hc1_1 : l1_1.length ≤ c1_1) (h : z0w.f k a0_0 l0_1 a0_2 a1_0 l1_1 a1_2 = some r) :
    Calls Tryz.prog 64 #[.agg #[.bool a0_0, .slice A0_1 l0_1.length c0_1, .int .i64 a0_2], .agg #[.bool a1_0, .slice A1_1 l1_1.length c1_1, .int .i64 a1_2]] w fun e w' => e = .returned (.int .u64 r) ∧ Below w.heap.size w w' := by
  have hu61 := Tryz.underlying61
  have HR0_1 := y9.mk hr0_1
  have HC0_1 := y9.mk hc0_1
  clear hr0_1 hc0_1
  have HR1_1 := y9.mk hr1_1
  have HC1_1 := y9.mk hc1_1
  clear hr1_1 hc1_1
  have HB := y9.mk (Below.refl w.heap.size w)
  have H : ((z1m.f a0_0 l0_1 a0_2).bind fun t290 => (if t290 = true then (some 0) else ((z0j.f k l0_1).bind fun t291 => ((z0j.f k l1_1).bind fun t292 => ((z0l.f k l0_1 (mx 0 (wrap64 ((wrap64 (70 - t291)) + t292)))).bind fun t293 => ((z0e.f k t293 l1_1).bind fun bt296 => ((z0f.f k a0_0 bt296.1 (wrap64 ((wrap64 (a0_2 - (mx 0 (wrap64 ((wrap64 (70 - t291)) + t292))))) - a1_2)) (decide (0 < bt296.2.length))).bind fun t302 => (some t302)))))))) = some r := h
  clear h
  replace H := Option.bind_eq_some_iff.mp H
  obtain ⟨t290, A30, H⟩ := H
  have A3 := y9.mk A30
  clear A30
  by_cases c4 : t290 = true
  · subst c4
    have H1 : (some 0) = some r := by rw [if_pos rfl] at H; exact H
    clear H
    have H := H1
    clear H1
    obtain rfl := Option.some.inj H
    go_enter Tryz.func64, Tryz.ntmps64
    go_wp2_with (first | ((with_reducible refine z1s (N := 2) rfl ?_); refine z2m ?hg (N := 2) ?hd (cs := #[.bool a0_0, .slice A0_1 l0_1.length c0_1, .int .i64 a0_2]) (t := 61) ?hr ?_; (case hd => rfl); (case hg => rfl); (case hr => (go_simp; done)); intro gb288 hg w5 hbox hb; have n0_ := y9.mk (z0m (by repeat ((with_reducible exact HB.out))) hb); have n1_ := y9.mk (hbox); have n2_ := y9.mk ((by rw [hg]; exact (z0n (by repeat ((with_reducible exact HB.out)))) : w.heap.size ≤ gb288)); have n3_ := y9.mk ((by rw [hg]; exact (z0n (by repeat ((with_reducible exact HB.out)))) : w.heap.size ≤ gb288)); clear HB; have HB := n0_; have BK288 := n1_; have GW288 := n2_; have GE288 := n3_; clear n0_ n1_ n2_ n3_; clear hb hbox hg) | ((with_reducible refine z1s (N := 3) rfl ?_); refine z2m ?hg (N := 3) ?hd (cs := #[.bool a1_0, .slice A1_1 l1_1.length c1_1, .int .i64 a1_2]) (t := 61) ?hr ?_; (case hd => rfl); (case hg => rfl); (case hr => (go_simp; done)); intro gb289 hg w6 hbox hb; have n0_ := y9.mk (z1f (g := gb288) (o := .cells #[.bool a0_0, .slice A0_1 l0_1.length c0_1, .int .i64 a0_2] 61 (0, 0)) (by (with_reducible repeat (fail)); exact BK288.out) hb); have n1_ := y9.mk (z0m (by repeat ((with_reducible exact HB.out))) hb); have n2_ := y9.mk (hbox); have n3_ := y9.mk ((by rw [hg]; exact (z0n (by repeat ((with_reducible exact HB.out)))) : w.heap.size ≤ gb289)); have n4_ := y9.mk ((by rw [hg]; exact (z0n (by repeat ((with_reducible exact HB.out)))) : w.heap.size ≤ gb289)); have n5_ := y9.mk ((by rw [hg]; exact Nat.ne_of_lt (blk_lt (g := gb288) (o := .cells #[.bool a0_0, .slice A0_1 l0_1.length c0_1, .int .i64 a0_2] 61 (0, 0)) (by (with_reducible repeat (fail)); exact BK288.out)) : gb288 ≠ gb289)); have n6_ := y9.mk ((by rw [hg]; exact Nat.ne_of_gt (blk_lt (g := gb288) (o := .cells #[.bool a0_0, .slice A0_1 l0_1.length c0_1, .int .i64 a0_2] 61 (0, 0)) (by (with_reducible repeat (fail)); exact BK288.out)) : gb289 ≠ gb288)); clear BK288; clear HB; have BK288 := n0_; have HB := n1_; have BK289 := n2_; have GW289 := n3_; have GE289 := n4_; have NB288_289 := n5_; have NB289_288 := n6_; clear n0_ n1_ n2_ n3_ n4_ n5_ n6_; clear hb hbox hg; have hnb7 := NB288_289.out; have hnc7 := NB289_288.out; have hcz8_0 : w6.cell? ⟨gb288, 0, none⟩ = some (.bool a0_0) := (z0d BK288.out 0).trans rfl; have hcz8_1 : w6.cell? ⟨gb288, 1, none⟩ = some (.slice A0_1 l0_1.length c0_1) := (z0d BK288.out 1).trans rfl; have hcz8_2 : w6.cell? ⟨gb288, 2, none⟩ = some (.int .i64 a0_2) := (z0d BK288.out 2).trans rfl; have hfz8_0 := z0i BK288.out 0; have hfz8_1 := z0i BK288.out 1; have hfz8_2 := z0i BK288.out 2) | ((with_reducible refine z0y (f := 93) rfl ?_); refine z1p (some 9) rfl rfl Tryz.func93 (by kernel_rfl) rfl #[.agg #[.bool a0_0, .slice A0_1 l0_1.length c0_1, .int .i64 a0_2]] rfl (by (try simp only [List.map_toArray, List.map_cons, List.map_nil]); rfl) ?_; (with_reducible refine (z1m.calls a0_0 _ _ l0_1 a0_2 true _ ?side1 ?side2 A3.out).mono ?_); (case side1 => repeat (exact (Kd.z1q HR0_1.out HB.out))); (case side2 => exact HC0_1.out); rintro e w9 ⟨rfl, hb⟩; refine ⟨_, rfl, ?_⟩; have n0_ := y9.mk (z1f (g := gb288) (o := .cells #[.bool a0_0, .slice A0_1 l0_1.length c0_1, .int .i64 a0_2] 61 (0, 0)) (by (with_reducible repeat (fail)); exact BK288.out) hb); have n1_ := y9.mk (z1f (g := gb289) (o := .cells #[.bool a1_0, .slice A1_1 l1_1.length c1_1, .int .i64 a1_2] 61 (0, 0)) (by (with_reducible repeat (fail)); exact BK289.out) hb); have n2_ := y9.mk (z0m (by repeat ((with_reducible exact HB.out))) hb); clear BK288; clear BK289; clear HB; have BK288 := n0_; have BK289 := n1_; have HB := n2_; clear n0_ n1_ n2_; (try clear hb); (try clear hb2); (try clear hk); (try clear hi)))
    go_ret
    exact ⟨by rfl, by repeat ((with_reducible exact HB.out))⟩
  replace c4 := Bool.eq_false_iff.mpr c4
  subst c4
  have H1 : ((z0j.f k l0_1).bind fun t291 => ((z0j.f k l1_1).bind fun t292 => ((z0l.f k l0_1 (mx 0 (wrap64 ((wrap64 (70 - t291)) + t292)))).bind fun t293 => ((z0e.f k t293 l1_1).bind fun bt296 => ((z0f.f k a0_0 bt296.1 (wrap64 ((wrap64 (a0_2 - (mx 0 (wrap64 ((wrap64 (70 - t291)) + t292))))) - a1_2)) (decide (0 < bt296.2.length))).bind fun t302 => (some t302)))))) = some r := by rw [if_neg (show ¬ (false = true) by decide)] at H; exact H
  clear H
  have H := H1
  clear H1
  replace H := Option.bind_eq_some_iff.mp H
  obtain ⟨t291, A100, H⟩ := H
  have A10 := y9.mk A100
  clear A100
  replace H := Option.bind_eq_some_iff.mp H
  obtain ⟨t292, A110, H⟩ := H
  have A11 := y9.mk A110
  clear A110
  obtain ⟨ji12, hji12⟩ : ∃ j_ : Int, (mx 0 (wrap64 ((wrap64 (70 - t291)) + t292))) = j_ := ⟨_, rfl⟩
  replace H : ((z0l.f k l0_1 (ji12)).bind fun t293 => ((z0e.f k t293 l1_1).bind fun bt296 => ((z0f.f k a0_0 bt296.1 (wrap64 ((wrap64 (a0_2 - (ji12))) - a1_2)) (decide (0 < bt296.2.length))).bind fun t302 => (some t302)))) = some r := by (rw [hji12] at H; exact H)
  (try rw [hji12] at A3)
  (try rw [hji12] at A10)
  (try rw [hji12] at A11)
  (try (have hji12l : 0 ≤ ji12 := by (rw [← hji12]; unfold mx; (repeat' split) <;> omega)))
  (try (have hji12m : 0 ≤ ji12 := by omega))
  have hji12_ : (if 0 < (wrap64 ((wrap64 (70 - t291)) + t292)) then (wrap64 ((wrap64 (70 - t291)) + t292)) else 0) = ji12 := hji12
  replace H := Option.bind_eq_some_iff.mp H
  obtain ⟨t293, A130, H⟩ := H
  have A13 := y9.mk A130
  clear A130
  replace H := Option.bind_eq_some_iff.mp H
  obtain ⟨⟨t296, t297⟩, A140, H⟩ := H
  have A14 := y9.mk A140
  clear A140
  replace H := Option.bind_eq_some_iff.mp H
  obtain ⟨t302, A150, H⟩ := H
  have A15 := y9.mk A150
  clear A150
  obtain rfl := Option.some.inj H
  go_enter Tryz.func64, Tryz.ntmps64
  try go_wp2_with (first | ((with_reducible refine z1s (N := 2) rfl ?_); refine z2m ?hg (N := 2) ?hd (cs := #[.bool a0_0, .slice A0_1 l0_1.length c0_1, .int .i64 a0_2]) (t := 61) ?hr ?_; (case hd => rfl); (case hg => rfl); (case hr => (go_simp; done)); intro gb288 hg w16 hbox hb; have n0_ := y9.mk (z0m (by repeat ((with_reducible exact HB.out))) hb); have n1_ := y9.mk (hbox); have n2_ := y9.mk ((by rw [hg]; exact (z0n (by repeat ((with_reducible exact HB.out)))) : w.heap.size ≤ gb288)); have n3_ := y9.mk ((by rw [hg]; exact (z0n (by repeat ((with_reducible exact HB.out)))) : w.heap.size ≤ gb288)); clear HB; have HB := n0_; have BK288 := n1_; have GW288 := n2_; have GE288 := n3_; clear n0_ n1_ n2_ n3_; clear hb hbox hg) | ((with_reducible refine z1s (N := 3) rfl ?_); refine z2m ?hg (N := 3) ?hd (cs := #[.bool a1_0, .slice A1_1 l1_1.length c1_1, .int .i64 a1_2]) (t := 61) ?hr ?_; (case hd => rfl); (case hg => rfl); (case hr => (go_simp; done)); intro gb289 hg w17 hbox hb; have n0_ := y9.mk (z1f (g := gb288) (o := .cells #[.bool a0_0, .slice A0_1 l0_1.length c0_1, .int .i64 a0_2] 61 (0, 0)) (by (with_reducible repeat (fail)); exact BK288.out) hb); have n1_ := y9.mk (z0m (by repeat ((with_reducible exact HB.out))) hb); have n2_ := y9.mk (hbox); have n3_ := y9.mk ((by rw [hg]; exact (z0n (by repeat ((with_reducible exact HB.out)))) : w.heap.size ≤ gb289)); have n4_ := y9.mk ((by rw [hg]; exact (z0n (by repeat ((with_reducible exact HB.out)))) : w.heap.size ≤ gb289)); have n5_ := y9.mk ((by rw [hg]; exact Nat.ne_of_lt (blk_lt (g := gb288) (o := .cells #[.bool a0_0, .slice A0_1 l0_1.length c0_1, .int .i64 a0_2] 61 (0, 0)) (by (with_reducible repeat (fail)); exact BK288.out)) : gb288 ≠ gb289)); have n6_ := y9.mk ((by rw [hg]; exact Nat.ne_of_gt (blk_lt (g := gb288) (o := .cells #[.bool a0_0, .slice A0_1 l0_1.length c0_1, .int .i64 a0_2] 61 (0, 0)) (by (with_reducible repeat (fail)); exact BK288.out)) : gb289 ≠ gb288)); clear BK288; clear HB; have BK288 := n0_; have HB := n1_; have BK289 := n2_; have GW289 := n3_; have GE289 := n4_; have NB288_289 := n5_; have NB289_288 := n6_; clear n0_ n1_ n2_ n3_ n4_ n5_ n6_; clear hb hbox hg; have hnb18 := NB288_289.out; have hnc18 := NB289_288.out; have hcz19_0 : w17.cell? ⟨gb288, 0, none⟩ = some (.bool a0_0) := (z0d BK288.out 0).trans rfl; have hcz19_1 : w17.cell? ⟨gb288, 1, none⟩ = some (.slice A0_1 l0_1.length c0_1) := (z0d BK288.out 1).trans rfl; have hcz19_2 : w17.cell? ⟨gb288, 2, none⟩ = some (.int .i64 a0_2) := (z0d BK288.out 2).trans rfl; have hfz19_0 := z0i BK288.out 0; have hfz19_1 := z0i BK288.out 1; have hfz19_2 := z0i BK288.out 2) | ((with_reducible refine z0y (f := 93) rfl ?_); refine z1p (some 9) rfl rfl Tryz.func93 (by kernel_rfl) rfl #[.agg #[.bool a0_0, .slice A0_1 l0_1.length c0_1, .int .i64 a0_2]] rfl (by (try simp only [List.map_toArray, List.map_cons, List.map_nil]); rfl) ?_; (with_reducible refine (z1m.calls a0_0 _ _ l0_1 a0_2 false _ ?side1 ?side2 A3.out).mono ?_); (case side1 => repeat (exact (Kd.z1q HR0_1.out HB.out))); (case side2 => exact HC0_1.out); rintro e w20 ⟨rfl, hb⟩; refine ⟨_, rfl, ?_⟩; have n0_ := y9.mk (z1f (g := gb288) (o := .cells #[.bool a0_0, .slice A0_1 l0_1.length c0_1, .int .i64 a0_2] 61 (0, 0)) (by (with_reducible repeat (fail)); exact BK288.out) hb); have n1_ := y9.mk (z1f (g := gb289) (o := .cells #[.bool a1_0, .slice A1_1 l1_1.length c1_1, .int .i64 a1_2] 61 (0, 0)) (by (with_reducible repeat (fail)); exact BK289.out) hb); have n2_ := y9.mk (z0m (by repeat ((with_reducible exact HB.out))) hb); clear BK288; clear BK289; clear HB; have BK288 := n0_; have BK289 := n1_; have HB := n2_; clear n0_ n1_ n2_; (try clear hb); (try clear hb2); (try clear hk); (try clear hi)))
  have n0_ := y9.mk (z5c BK288.out)
  have n1_ := y9.mk (z5c BK289.out)
  have n2_ := y9.mk (z2y HB.out)
  clear BK288
  clear BK289
  clear HB
  have BK288 := n0_
  have BK289 := n1_
  have HB := n2_
  clear n0_ n1_ n2_
  refine z6f (n := 10) (S := fun w' => w'.cell? ⟨gb288, 0, none⟩ = some (.bool a0_0) ∧ w'.cell? ⟨gb288, 1, none⟩ = some (.slice A0_1 l0_1.length c0_1) ∧ w'.cell? ⟨gb288, 2, none⟩ = some (.int .i64 a0_2) ∧ w'.cell? ⟨gb289, 0, none⟩ = some (.bool a1_0) ∧ w'.cell? ⟨gb289, 1, none⟩ = some (.slice A1_1 l1_1.length c1_1) ∧ w'.cell? ⟨gb289, 2, none⟩ = some (.int .i64 a1_2)) (ds := []) #[false, false, false, false, false, false, false, false, false, false] (by kernel_rfl) rfl rfl ⟨(z0d BK288.out 0).trans rfl, (z0d BK288.out 1).trans rfl, (z0d BK288.out 2).trans rfl, (z0d BK289.out 0).trans rfl, (z0d BK289.out 1).trans rfl, (z0d BK289.out 2).trans rfl⟩ (fun hHeld => ?_); refine z3x z0w.tab3 z0w.bits3 (fun HT_ HW_ => ?_)
  generalize w20.drew = w21 at BK288 BK289 HB hHeld ⊢
  refine z1b (i := 0) (N := some 10) (v := ?_) (a' := ?_) #[true, false, false, false, false, false, false, false, false, false] rfl rfl (z0x HT_.out (by kernel_rfl)) (fun _ _ _ h => h) (Or.inl ⟨by rfl, ?_⟩) ?_ ?_
  rotate_left
  · intro w'
    go_simp
    with_reducible rfl
  rotate_left
  · simp only [Act.put, List.setIfInBounds_toArray, List.set_cons_zero, List.set_cons_succ, z0t, z0z]
    rfl
  refine z1b (i := 4) (N := some 14) (v := ?_) (a' := ?_) #[true, false, false, false, true, false, false, false, false, false] rfl rfl (z0x HT_.out (by kernel_rfl)) (fun _ _ _ h => h) (Or.inl ⟨by rfl, ?_⟩) ?_ ?_
  rotate_left
  · intro w'
    go_simp
    with_reducible rfl
  rotate_left
  · simp only [Act.put, List.setIfInBounds_toArray, List.set_cons_zero, List.set_cons_succ, z0t, z0z]
    rfl
  refine z5s (i := 1) (N := some 11) (v := ?_) (a' := ?_) #[true, true, false, false, true, false, false, false, false, false] rfl rfl (z3j HT_.out HW_.out (by kernel_rfl)) (fun _ _ _ h => h) (Or.inl ⟨by rfl, ?_⟩) hHeld ?_ ?_
  rotate_left
  · rintro w' ⟨s0, s1, s2, s3, s4, s5⟩
    go_simp
    with_reducible rfl
  rotate_left
  · simp only [Act.put, List.setIfInBounds_toArray, List.set_cons_zero, List.set_cons_succ, z0t, z0z]
    rfl
  refine z5s (i := 5) (N := some 15) (v := ?_) (a' := ?_) #[true, true, false, false, true, true, false, false, false, false] rfl rfl (z3j HT_.out HW_.out (by kernel_rfl)) (fun _ _ _ h => h) (Or.inl ⟨by rfl, ?_⟩) hHeld ?_ ?_
  rotate_left
  · rintro w' ⟨s0, s1, s2, s3, s4, s5⟩
    go_simp
    with_reducible rfl
  rotate_left
  · simp only [Act.put, List.setIfInBounds_toArray, List.set_cons_zero, List.set_cons_succ, z0t, z0z]
    rfl
  refine one_ (i := 2) (N := some 12) #[true, true, true, false, true, true, false, false, false, false] rfl rfl (z6k HT_.out (by kernel_rfl)) (by decide) (fun K hK => ?_)
  refine goes_ Tryz.func46 (by kernel_rfl) rfl #[.slice A0_1 l0_1.length c0_1] (by rfl) rfl rfl (by (try simp only [List.map_toArray, List.map_cons, List.map_nil]); rfl) ?_
  with_reducible refine (z0j.calls k _ _ l0_1 t291 _ ?side1 ?side2 A10.out).mono ?_
  (case side1 => repeat (exact (Kd.z1q HR0_1.out HB.out)))
  (case side2 => exact HC0_1.out)
  rintro e w' ⟨rfl, ⟨nd, rfl⟩⟩
  refine ⟨_, rfl, ?_⟩
  refine hK.out _ _ ⟨(z0d BK288.out 0).trans rfl, (z0d BK288.out 1).trans rfl, (z0d BK288.out 2).trans rfl, (z0d BK289.out 0).trans rfl, (z0d BK289.out 1).trans rfl, (z0d BK289.out 2).trans rfl⟩ (fun hHeld => ?_)
  clear hK K
  refine norm_ (a' := ?_) ?_ ?_
  rotate_left
  · show Act.put _ (some 12) _ = _
    simp only [Act.put, List.setIfInBounds_toArray, List.set_cons_zero, List.set_cons_succ, z0t, z0z]
    rfl
  refine z1b (i := 3) (N := some 13) (v := ?_) (a' := ?_) #[true, true, true, true, true, true, false, false, false, false] rfl rfl (z0x HT_.out (by kernel_rfl)) (fun _ _ _ h => h) (Or.inl ⟨by rfl, ?_⟩) ?_ ?_
  rotate_left
  · intro w'
    go_simp
    with_reducible rfl
  rotate_left
  · simp only [Act.put, List.setIfInBounds_toArray, List.set_cons_zero, List.set_cons_succ, z0t, z0z]
    rfl
  refine one_ (i := 6) (N := some 16) #[true, true, true, true, true, true, true, false, false, false] rfl rfl (z6k HT_.out (by kernel_rfl)) (by decide) (fun K hK => ?_)
  refine goes_ Tryz.func46 (by kernel_rfl) rfl #[.slice A1_1 l1_1.length c1_1] (by rfl) rfl rfl (by (try simp only [List.map_toArray, List.map_cons, List.map_nil]); rfl) ?_
  with_reducible refine (z0j.calls k _ _ l1_1 t292 _ ?side1 ?side2 A11.out).mono ?_
  (case side1 => repeat (exact (Kd.z1q HR1_1.out (by repeat ((with_reducible first | exact HB.out | apply z0p))))))
  (case side2 => exact HC1_1.out)
  rintro e w' ⟨rfl, ⟨nd, rfl⟩⟩
  refine ⟨_, rfl, ?_⟩
  refine hK.out _ _ ⟨(z0d BK288.out 0).trans rfl, (z0d BK288.out 1).trans rfl, (z0d BK288.out 2).trans rfl, (z0d BK289.out 0).trans rfl, (z0d BK289.out 1).trans rfl, (z0d BK289.out 2).trans rfl⟩ (fun hHeld => ?_)
  clear hK K
  refine norm_ (a' := ?_) ?_ ?_
  rotate_left
  · show Act.put _ (some 16) _ = _
    simp only [Act.put, List.setIfInBounds_toArray, List.set_cons_zero, List.set_cons_succ, z0t, z0z]
    rfl
  refine z1b (i := 7) (N := some 17) (v := ?_) (a' := ?_) #[true, true, true, true, true, true, true, true, false, false] rfl rfl (z0x HT_.out (by kernel_rfl)) (fun _ _ _ h => h) (Or.inl ⟨by rfl, ?_⟩) ?_ ?_
  rotate_left
  · intro w'
    go_simp
    with_reducible rfl
  rotate_left
  · simp only [Act.put, List.setIfInBounds_toArray, List.set_cons_zero, List.set_cons_succ, z0t, z0z]
    rfl
  refine z1b (i := 8) (N := some 18) (v := ?_) (a' := ?_) #[true, true, true, true, true, true, true, true, true, false] rfl rfl (z0x HT_.out (by kernel_rfl)) (fun _ _ _ h => h) (Or.inl ⟨by rfl, ?_⟩) ?_ ?_
  rotate_left
  · intro w'
    go_simp
    with_reducible rfl
  rotate_left
  · simp only [Act.put, List.setIfInBounds_toArray, List.set_cons_zero, List.set_cons_succ, z0t, z0z]
    rfl
  refine z1b (i := 9) (N := some 5) (v := ?_) (a' := ?_) #[true, true, true, true, true, true, true, true, true, true] rfl rfl (z0x HT_.out (by kernel_rfl)) (fun _ _ _ h => h) (Or.inl ⟨by rfl, ?_⟩) ?_ ?_
  rotate_left
  · intro w'
    go_simp
    with_reducible rfl
  rotate_left
  · simp only [Act.put, List.setIfInBounds_toArray, List.set_cons_zero, List.set_cons_succ, z0t, z0z]
    rfl
  refine done_ (z5i HT_.out (by kernel_rfl)) ?_
  try go_wp2
  (try (generalize hq_ : World.drewN w21 _ = w21; have n0_ : y9 (w21.heap[gb288]? = some (.cells #[.bool a0_0, .slice A0_1 l0_1.length c0_1, .int .i64 a0_2] 61 (0, 0))) := ⟨by rw [← hq_]; exact (by (with_reducible repeat (refine z6s ?_ _)); exact BK288.out)⟩; have n1_ : y9 (w21.heap[gb289]? = some (.cells #[.bool a1_0, .slice A1_1 l1_1.length c1_1, .int .i64 a1_2] 61 (0, 0))) := ⟨by rw [← hq_]; exact (by (with_reducible repeat (refine z6s ?_ _)); exact BK289.out)⟩; have n2_ : y9 (Below w.heap.size w w21) := ⟨by rw [← hq_]; exact (by repeat ((with_reducible first | exact HB.out | apply z0p)))⟩; clear BK288 BK289 HB hq_; have BK288 := n0_; have BK289 := n1_; have HB := n2_; clear n0_ n1_ n2_))
  (try (rw [z4y w21]; generalize hq_ : World.drewN w21 _ = w21; have n0_ : y9 (w21.heap[gb288]? = some (.cells #[.bool a0_0, .slice A0_1 l0_1.length c0_1, .int .i64 a0_2] 61 (0, 0))) := ⟨by rw [← hq_]; exact (by (with_reducible repeat (refine z6s ?_ _)); exact BK288.out)⟩; have n1_ : y9 (w21.heap[gb289]? = some (.cells #[.bool a1_0, .slice A1_1 l1_1.length c1_1, .int .i64 a1_2] 61 (0, 0))) := ⟨by rw [← hq_]; exact (by (with_reducible repeat (refine z6s ?_ _)); exact BK289.out)⟩; have n2_ : y9 (Below w.heap.size w w21) := ⟨by rw [← hq_]; exact (by repeat ((with_reducible first | exact HB.out | apply z0p)))⟩; clear BK288 BK289 HB hq_; have BK288 := n0_; have BK289 := n1_; have HB := n2_; clear n0_ n1_ n2_))
  have n0_ := y9.mk (z5c BK288.out)
  have n1_ := y9.mk (z5c BK289.out)
  have n2_ := y9.mk (z2y HB.out)
  clear BK288
  clear BK289
  clear HB
  have BK288 := n0_
  have BK289 := n1_
  have HB := n2_
  clear n0_ n1_ n2_
  refine z6f (n := 12) (S := fun w' => w'.cell? ⟨gb288, 0, none⟩ = some (.bool a0_0) ∧ w'.cell? ⟨gb288, 1, none⟩ = some (.slice A0_1 l0_1.length c0_1) ∧ w'.cell? ⟨gb288, 2, none⟩ = some (.int .i64 a0_2) ∧ w'.cell? ⟨gb289, 0, none⟩ = some (.bool a1_0) ∧ w'.cell? ⟨gb289, 1, none⟩ = some (.slice A1_1 l1_1.length c1_1) ∧ w'.cell? ⟨gb289, 2, none⟩ = some (.int .i64 a1_2)) (ds := []) #[false, false, false, false, false, false, false, false, false, false, false, false] (by kernel_rfl) rfl rfl ⟨(z0d BK288.out 0).trans rfl, (z0d BK288.out 1).trans rfl, (z0d BK288.out 2).trans rfl, (z0d BK289.out 0).trans rfl, (z0d BK289.out 1).trans rfl, (z0d BK289.out 2).trans rfl⟩ (fun hHeld => ?_); refine z3x z0w.tab4 z0w.bits4 (fun HT_ HW_ => ?_)
  generalize w21.drew = w22 at BK288 BK289 HB hHeld ⊢
  refine z1b (i := 0) (N := some 20) (v := ?_) (a' := ?_) #[true, false, false, false, false, false, false, false, false, false, false, false] rfl rfl (z0x HT_.out (by kernel_rfl)) (fun _ _ _ h => h) (Or.inl ⟨by rfl, ?_⟩) ?_ ?_
  rotate_left
  · intro w'
    go_simp
    with_reducible rfl
  rotate_left
  · simp only [Act.put, List.setIfInBounds_toArray, List.set_cons_zero, List.set_cons_succ, z0t, z0z]
    rfl
  refine z1b (i := 2) (N := some 22) (v := ?_) (a' := ?_) #[true, false, true, false, false, false, false, false, false, false, false, false] rfl rfl (z0x HT_.out (by kernel_rfl)) (fun _ _ _ h => h) (Or.inl ⟨by rfl, ?_⟩) ?_ ?_
  rotate_left
  · intro w'
    go_simp
    with_reducible rfl
  rotate_left
  · simp only [Act.put, List.setIfInBounds_toArray, List.set_cons_zero, List.set_cons_succ, z0t, z0z]
    rfl
  refine z1b (i := 4) (N := some 24) (v := ?_) (a' := ?_) #[true, false, true, false, true, false, false, false, false, false, false, false] rfl rfl (z0x HT_.out (by kernel_rfl)) (fun _ _ _ h => h) (Or.inl ⟨by rfl, ?_⟩) ?_ ?_
  rotate_left
  · intro w'
    go_simp
    with_reducible rfl
  rotate_left
  · simp only [Act.put, List.setIfInBounds_toArray, List.set_cons_zero, List.set_cons_succ, z0t, z0z]
    rfl
  refine z5s (i := 1) (N := some 21) (v := ?_) (a' := ?_) #[true, true, true, false, true, false, false, false, false, false, false, false] rfl rfl (z3j HT_.out HW_.out (by kernel_rfl)) (fun _ _ _ h => h) (Or.inl ⟨by rfl, ?_⟩) hHeld ?_ ?_
  rotate_left
  · rintro w' ⟨s0, s1, s2, s3, s4, s5⟩
    go_simp
    with_reducible rfl
  rotate_left
  · simp only [Act.put, List.setIfInBounds_toArray, List.set_cons_zero, List.set_cons_succ, z0t, z0z]
    rfl
  refine z5s (i := 5) (N := some 25) (v := ?_) (a' := ?_) #[true, true, true, false, true, true, false, false, false, false, false, false] rfl rfl (z3j HT_.out HW_.out (by kernel_rfl)) (fun _ _ _ h => h) (Or.inl ⟨by rfl, ?_⟩) hHeld ?_ ?_
  rotate_left
  · rintro w' ⟨s0, s1, s2, s3, s4, s5⟩
    go_simp
    with_reducible rfl
  rotate_left
  · simp only [Act.put, List.setIfInBounds_toArray, List.set_cons_zero, List.set_cons_succ, z0t, z0z]
    rfl
  refine one_ (i := 3) (N := some 23) #[true, true, true, true, true, true, false, false, false, false, false, false] rfl rfl (z6k HT_.out (by kernel_rfl)) (by decide) (fun K hK => ?_)
  refine goes_ Tryz.func37 (by kernel_rfl) rfl #[.slice A0_1 l0_1.length c0_1, .int .i64 ji12] (by rfl) rfl rfl (by (try simp only [List.map_toArray, List.map_cons, List.map_nil]); rfl) ?_
  with_reducible refine (z0l.calls k _ _ l0_1 ji12 t293 _ ?side1 ?side2 A13.out).mono ?_
  (case side1 => repeat (exact (Kd.z1q HR0_1.out HB.out)))
  (case side2 => exact HC0_1.out)
  rintro e w23 ⟨v294, rfl, ho0, hb⟩
  refine ⟨_, rfl, ?_⟩
  have n0_ := y9.mk (Kd.z1j ho0 (z0n (by repeat ((with_reducible exact HB.out)))))
  have n1_ := y9.mk (z1f (g := gb288) (o := .cells #[.bool a0_0, .slice A0_1 l0_1.length c0_1, .int .i64 a0_2] 61 (0, 0)) (by (with_reducible repeat (fail)); exact BK288.out) hb)
  have n2_ := y9.mk (z1f (g := gb289) (o := .cells #[.bool a1_0, .slice A1_1 l1_1.length c1_1, .int .i64 a1_2] 61 (0, 0)) (by (with_reducible repeat (fail)); exact BK289.out) hb)
  have n3_ := y9.mk (z0m (by repeat ((with_reducible exact HB.out))) hb)
  clear BK288
  clear BK289
  clear HB
  have HO295 := n0_
  have BK288 := n1_
  have BK289 := n2_
  have HB := n3_
  clear n0_ n1_ n2_ n3_
  (try clear hb)
  (try clear hb2)
  (try clear hk)
  (try clear hi)
  (try clear ho0)
  obtain ⟨Ao24, co24, eo24⟩ := Kd.z1g HO295.out
  (subst eo24)
  refine hK.out _ _ ⟨(z0d BK288.out 0).trans rfl, (z0d BK288.out 1).trans rfl, (z0d BK288.out 2).trans rfl, (z0d BK289.out 0).trans rfl, (z0d BK289.out 1).trans rfl, (z0d BK289.out 2).trans rfl⟩ (fun hHeld => ?_)
  clear hK K
  refine norm_ (a' := ?_) ?_ ?_
  rotate_left
  · show Act.put _ (some 23) _ = _
    simp only [Act.put, List.setIfInBounds_toArray, List.set_cons_zero, List.set_cons_succ, z0t, z0z]
    rfl
  refine one_ (i := 6) (N := some 26) #[true, true, true, true, true, true, true, false, false, false, false, false] rfl rfl (z6k HT_.out (by kernel_rfl)) (by decide) (fun K hK => ?_)
  refine goes_ Tryz.func70 (by kernel_rfl) rfl #[.slice Ao24 t293.length co24, .slice A1_1 l1_1.length c1_1] (by rfl) rfl rfl (by (try simp only [List.map_toArray, List.map_cons, List.map_nil]); rfl) ?_
  with_reducible refine (z0e.calls k _ _ t293 _ _ l1_1 t296 t297 _ ?side1 ?side2 ?side3 ?side4 A14.out).mono ?_
  (case side1 => repeat (exact (Kd.z0q HO295.out).2.2))
  (case side2 => exact (Kd.z0q HO295.out).2.1)
  (case side3 => repeat (exact (Kd.z1q HR1_1.out HB.out)))
  (case side4 => exact HC1_1.out)
  rintro e w25 ⟨v298, v300, rfl, ho0, ho1, hb⟩
  refine ⟨_, rfl, ?_⟩
  have n0_ := y9.mk (Kd.z2l (Kd.R_told (Kd.R_told (Kd.R_old (by (with_reducible repeat (fail)); exact HO295.out) hb) (Kd.z2g ho0)) (Kd.z2g ho1)) (fun _ h_ => h_.1))
  have n1_ := y9.mk (Kd.z1j (Kd.z2f ho0 (Kd.R_lt (by (with_reducible repeat (fail)); exact HO295.out))) (z0n (by repeat ((with_reducible exact HB.out)))))
  have n2_ := y9.mk (Kd.z1j (Kd.z2f ho1 (Kd.R_lt (by (with_reducible repeat (fail)); exact HO295.out))) (z0n (by repeat ((with_reducible exact HB.out)))))
  have n3_ := y9.mk (z1f (g := gb288) (o := .cells #[.bool a0_0, .slice A0_1 l0_1.length c0_1, .int .i64 a0_2] 61 (0, 0)) (by (with_reducible repeat (fail)); exact BK288.out) hb)
  have n4_ := y9.mk (z1f (g := gb289) (o := .cells #[.bool a1_0, .slice A1_1 l1_1.length c1_1, .int .i64 a1_2] 61 (0, 0)) (by (with_reducible repeat (fail)); exact BK289.out) hb)
  have n5_ := y9.mk (z0m (by repeat ((with_reducible exact HB.out))) hb)
  clear HO295
  clear BK288
  clear BK289
  clear HB
  have HO295 := n0_
  have HO299 := n1_
  have HO301 := n2_
  have BK288 := n3_
  have BK289 := n4_
  have HB := n5_
  clear n0_ n1_ n2_ n3_ n4_ n5_
  (try clear hb)
  (try clear hb2)
  (try clear hk)
  (try clear hi)
  (try clear ho0)
  (try clear ho1)
  refine hK.out _ _ ⟨(z0d BK288.out 0).trans rfl, (z0d BK288.out 1).trans rfl, (z0d BK288.out 2).trans rfl, (z0d BK289.out 0).trans rfl, (z0d BK289.out 1).trans rfl, (z0d BK289.out 2).trans rfl⟩ (fun hHeld => ?_)
  clear hK K
  refine norm_ (a' := ?_) ?_ ?_
  rotate_left
  · show Act.put _ (some 26) _ = _
    simp only [Act.put, List.setIfInBounds_toArray, List.set_cons_zero, List.set_cons_succ, z0t, z0z]
    rfl
  refine z1b (i := 7) (N := some 19) (v := ?_) (a' := ?_) #[true, true, true, true, true, true, true, true, false, false, false, false] rfl rfl (z0x HT_.out (by kernel_rfl)) (fun _ _ _ h => h) (Or.inl ⟨by rfl, ?_⟩) ?_ ?_
  rotate_left
  · intro w'
    go_simp
    with_reducible rfl
  rotate_left
  · simp only [Act.put, List.setIfInBounds_toArray, List.set_cons_zero, List.set_cons_succ, z0t, z0z]
    rfl
  refine z1b (i := 8) (N := some 27) (v := ?_) (a' := ?_) #[true, true, true, true, true, true, true, true, true, false, false, false] rfl rfl (z0x HT_.out (by kernel_rfl)) (fun _ _ _ h => h) (Or.inl ⟨by rfl, ?_⟩) ?_ ?_
  rotate_left
  · intro w'
    go_simp
    with_reducible rfl
  rotate_left
  · simp only [Act.put, List.setIfInBounds_toArray, List.set_cons_zero, List.set_cons_succ, z0t, z0z]
    rfl
  refine z1b (i := 9) (N := some 28) (v := ?_) (a' := ?_) #[true, true, true, true, true, true, true, true, true, true, false, false] rfl rfl (z0x HT_.out (by kernel_rfl)) (fun _ _ _ h => h) (Or.inl ⟨by rfl, ?_⟩) ?_ ?_
  rotate_left
  · intro w'
    go_simp
    with_reducible rfl
  rotate_left
  · simp only [Act.put, List.setIfInBounds_toArray, List.set_cons_zero, List.set_cons_succ, z0t, z0z]
    rfl
  refine z1b (i := 10) (N := some 6) (v := ?_) (a' := ?_) #[true, true, true, true, true, true, true, true, true, true, true, false] rfl rfl (z0x HT_.out (by kernel_rfl)) (fun _ _ _ h => h) (Or.inl ⟨by rfl, ?_⟩) ?_ ?_
  rotate_left
  · intro w'
    go_simp
    with_reducible rfl
  rotate_left
  · simp only [Act.put, List.setIfInBounds_toArray, List.set_cons_zero, List.set_cons_succ, z0t, z0z]
    rfl
  refine z1b (i := 11) (N := some 7) (v := ?_) (a' := ?_) #[true, true, true, true, true, true, true, true, true, true, true, true] rfl rfl (z0x HT_.out (by kernel_rfl)) (fun _ _ _ h => h) (Or.inl ⟨by rfl, ?_⟩) ?_ ?_
  rotate_left
  · intro w'
    go_simp
    with_reducible rfl
  rotate_left
  · simp only [Act.put, List.setIfInBounds_toArray, List.set_cons_zero, List.set_cons_succ, z0t, z0z]
    rfl
  refine done_ (z5i HT_.out (by kernel_rfl)) ?_
  have hcz26_0 : w25.cell? ⟨gb288, 0, none⟩ = some (.bool a0_0) := (z0d BK288.out 0).trans rfl
  have hcz26_1 : w25.cell? ⟨gb288, 1, none⟩ = some (.slice A0_1 l0_1.length c0_1) := (z0d BK288.out 1).trans rfl
  have hcz26_2 : w25.cell? ⟨gb288, 2, none⟩ = some (.int .i64 a0_2) := (z0d BK288.out 2).trans rfl
  have hfz26_0 := z0i BK288.out 0
  have hfz26_1 := z0i BK288.out 1
  have hfz26_2 := z0i BK288.out 2
  have hcz27_0 : w25.cell? ⟨gb289, 0, none⟩ = some (.bool a1_0) := (z0d BK289.out 0).trans rfl
  have hcz27_1 : w25.cell? ⟨gb289, 1, none⟩ = some (.slice A1_1 l1_1.length c1_1) := (z0d BK289.out 1).trans rfl
  have hcz27_2 : w25.cell? ⟨gb289, 2, none⟩ = some (.int .i64 a1_2) := (z0d BK289.out 2).trans rfl
  have hfz27_0 := z0i BK289.out 0
  have hfz27_1 := z0i BK289.out 1
  have hfz27_2 := z0i BK289.out 2
  obtain ⟨Ao28, co28, eo28⟩ := Kd.z1g HO299.out
  subst eo28
  obtain ⟨Ao29, co29, eo29⟩ := Kd.z1g HO301.out
  subst eo29
  try go_wp2_with (((with_reducible refine z0y (f := 92) rfl ?_); refine z1p (some 43) rfl rfl Tryz.func92 (by kernel_rfl) rfl #[.agg #[.bool a0_0, .slice Ao28 t296.length co28, .int .i64 (wrap64 ((wrap64 (a0_2 - (ji12))) - a1_2))], .bool (decide (0 < t297.length))] rfl (by (try simp only [List.map_toArray, List.map_cons, List.map_nil]); rfl) ?_; (with_reducible refine (z0f.calls k a0_0 _ _ t296 (wrap64 ((wrap64 (a0_2 - (ji12))) - a1_2)) (decide (0 < t297.length)) t302 _ ?side1 ?side2 A15.out).mono ?_); (case side1 => repeat (exact (Kd.z0q HO299.out).2.2)); (case side2 => exact (Kd.z0q HO299.out).2.1); rintro e w30 ⟨rfl, hb⟩; refine ⟨_, rfl, ?_⟩; have n0_ := y9.mk (Kd.z4z (by (with_reducible repeat (fail)); exact HO295.out) hb); have n1_ := y9.mk (Kd.z4z (by (with_reducible repeat (fail)); exact HO299.out) hb); have n2_ := y9.mk (Kd.z4z (by (with_reducible repeat (fail)); exact HO301.out) hb); have n3_ := y9.mk (z1f (g := gb288) (o := .cells #[.bool a0_0, .slice A0_1 l0_1.length c0_1, .int .i64 a0_2] 61 (0, 0)) (by (with_reducible repeat (fail)); exact BK288.out) hb); have n4_ := y9.mk (z1f (g := gb289) (o := .cells #[.bool a1_0, .slice A1_1 l1_1.length c1_1, .int .i64 a1_2] 61 (0, 0)) (by (with_reducible repeat (fail)); exact BK289.out) hb); have n5_ := y9.mk (z0m (by repeat ((with_reducible exact HB.out))) hb); clear HO295; clear HO299; clear HO301; clear BK288; clear BK289; clear HB; have HO295 := n0_; have HO299 := n1_; have HO301 := n2_; have BK288 := n3_; have BK289 := n4_; have HB := n5_; clear n0_ n1_ n2_ n3_ n4_ n5_; (try clear hb); (try clear hb2); (try clear hk); (try clear hi)))
  go_ret
  exact ⟨by rfl, by repeat ((with_reducible exact HB.out))⟩
def z0v.j0 : Nat → Bool → Int → Option (Int × Int)
  | 0, _, _ => none
  | k + 1, x2, x8 => if x8 = 9218868437227405312 then (some (0, 20)) else (if x2 = true then ((z3d.f x8).bind fun t315 => (some (t315, 0))) else (some (x8, 0)))
def z0v.f (k : Nat) (l0 : List Int) (a1 : Int) (a2 : Bool) : Option (Int × Int) := if (l0.length : Int) > 0 then (if a1 > 400 then (z0v.j0 k a2 9218868437227405312) else (if a1 ≥ 0 then ((z1e.f k a1).bind fun t304 => ((z0h.f k l0 t304).bind fun t307 => ((z3c.f k false t307 0).bind fun t310 => (z0v.j0 k a2 t310)))) else (if a1 > (-900) then ((z1e.f k (wrap64 (-a1))).bind fun t311 => ((z0w.f k false l0 0 false t311 0).bind fun t314 => (z0v.j0 k a2 t314))) else (z0v.j0 k a2 0)))) else (z0v.j0 k a2 0)
set_option maxHeartbeats 8000000 in
set_option maxRecDepth 100000 in
theorem z0v.calls (k : Nat) (A0 : Option Addr) (c0 : Nat) (l0 : List Int) (a1 : Int) (a2 : Bool) (r1 : Int) (r2 : Int) (w : World) (hr0 : Kd.C (Kd.int .u64) w A0 l0.length l0) (hc0 : l0.length ≤ c0) (h : z0v.f k l0 a1 a2 = some (r1, r2)) :
    Calls Tryz.prog 28 #[.slice A0 l0.length c0, .int .i64 a1, .bool a2] w fun e w' => e = .returned (.tuple #[.int .u64 r1, .int .i64 r2]) ∧ Below w.heap.size w w' := by
  have hu61 := Tryz.underlying61
  have HR0 := y9.mk hr0
  have HC0 := y9.mk hc0
  clear hr0 hc0
  have HB := y9.mk (Below.refl w.heap.size w)
  have H : (if (l0.length : Int) > 0 then (if a1 > 400 then (z0v.j0 k a2 9218868437227405312) else (if a1 ≥ 0 then ((z1e.f k a1).bind fun t304 => ((z0h.f k l0 t304).bind fun t307 => ((z3c.f k false t307 0).bind fun t310 => (z0v.j0 k a2 t310)))) else (if a1 > (-900) then ((z1e.f k (wrap64 (-a1))).bind fun t311 => ((z0w.f k false l0 0 false t311 0).bind fun t314 => (z0v.j0 k a2 t314))) else (z0v.j0 k a2 0)))) else (z0v.j0 k a2 0)) = some (r1, r2) := h
  clear h
  have HC4 := y9.mk H
  clear H
  go_enter Tryz.func28, Tryz.ntmps28
  go_upto_if 12 with (fail)
  go_cut [8] (fun v8 wc => ∃ (kq : Nat) (x8_3 : Int), v8 = .int .u64 x8_3 ∧ y9 (z0v.j0 kq a2 x8_3 = some (r1, r2)) ∧ y9 (kq ≤ k) ∧ y9 (Below w.heap.size w wc))
  case first =>
    have H := HC4.out
    clear HC4
    by_cases c5 : (l0.length : Int) > 0
    · rw [if_pos c5] at H
      have c5b0 : decide (0 < (l0.length : Int)) = true := decide_eq_true c5
      have c5b1 : decide (0 < l0.length) = true := decide_eq_true (by omega)
      have c5b2 : 0 < l0.length := of_decide_eq_true c5b1
      clear c5
      (skip)
      by_cases c6 : a1 > 400
      · rw [if_pos c6] at H
        have c6b0 : decide (400 < a1) = true := decide_eq_true c6
        clear c6
        have H' := y9.mk H
        clear H
        go_wp2_with (((with_reducible refine z1s (N := 9) rfl ?_); refine z2m ?hg (N := 9) ?hd (cs := #[.bool false, .slice none 0 0, .int .i64 0]) (t := 61) ?hr ?_; (case hd => rfl); (case hg => rfl); (case hr => (go_simp; done)); intro gb303 hg w7 hbox hb; have n0_ := y9.mk (z0m (by repeat ((with_reducible exact HB.out))) hb); have n1_ := y9.mk (hbox); have n2_ := y9.mk ((by rw [hg]; exact (z0n (by repeat ((with_reducible exact HB.out)))) : w.heap.size ≤ gb303)); have n3_ := y9.mk ((by rw [hg]; exact (z0n (by repeat ((with_reducible exact HB.out)))) : w.heap.size ≤ gb303)); clear HB; have HB := n0_; have BK303 := n1_; have GW303 := n2_; have GE303 := n3_; clear n0_ n1_ n2_ n3_; clear hb hbox hg; have hcz8_0 : w7.cell? ⟨gb303, 0, none⟩ = some (.bool false) := (z0d BK303.out 0).trans rfl; have hcz8_1 : w7.cell? ⟨gb303, 1, none⟩ = some (.slice none 0 0) := (z0d BK303.out 1).trans rfl; have hcz8_2 : w7.cell? ⟨gb303, 2, none⟩ = some (.int .i64 0) := (z0d BK303.out 2).trans rfl; have hfz8_0 := z0i BK303.out 0; have hfz8_1 := z0i BK303.out 1; have hfz8_2 := z0i BK303.out 2))
        go_meet
        case rel => exact ⟨_, (9218868437227405312), (by rfl), H', ⟨by omega⟩, ⟨by repeat ((with_reducible first | exact HB.out | refine z3a ?_ GE303.out))⟩⟩
      rw [if_neg c6] at H
      have c6b0 : decide (400 < a1) = false := decide_eq_false c6
      clear c6
      by_cases c9 : a1 ≥ 0
      · rw [if_pos c9] at H
        have c9b0 : decide (0 ≤ a1) = true := decide_eq_true c9
        clear c9
        replace H := Option.bind_eq_some_iff.mp H
        obtain ⟨t304, A100, H⟩ := H
        have A10 := y9.mk A100
        clear A100
        replace H := Option.bind_eq_some_iff.mp H
        obtain ⟨t307, A110, H⟩ := H
        have A11 := y9.mk A110
        clear A110
        replace H := Option.bind_eq_some_iff.mp H
        obtain ⟨t310, A120, H⟩ := H
        have A12 := y9.mk A120
        clear A120
        have H' := y9.mk H
        clear H
        go_wp2_with (first | ((with_reducible refine z1s (N := 9) rfl ?_); refine z2m ?hg (N := 9) ?hd (cs := #[.bool false, .slice none 0 0, .int .i64 0]) (t := 61) ?hr ?_; (case hd => rfl); (case hg => rfl); (case hr => (go_simp; done)); intro gb303 hg w13 hbox hb; have n0_ := y9.mk (z0m (by repeat ((with_reducible exact HB.out))) hb); have n1_ := y9.mk (hbox); have n2_ := y9.mk ((by rw [hg]; exact (z0n (by repeat ((with_reducible exact HB.out)))) : w.heap.size ≤ gb303)); have n3_ := y9.mk ((by rw [hg]; exact (z0n (by repeat ((with_reducible exact HB.out)))) : w.heap.size ≤ gb303)); clear HB; have HB := n0_; have BK303 := n1_; have GW303 := n2_; have GE303 := n3_; clear n0_ n1_ n2_ n3_; clear hb hbox hg; have hcz14_0 : w13.cell? ⟨gb303, 0, none⟩ = some (.bool false) := (z0d BK303.out 0).trans rfl; have hcz14_1 : w13.cell? ⟨gb303, 1, none⟩ = some (.slice none 0 0) := (z0d BK303.out 1).trans rfl; have hcz14_2 : w13.cell? ⟨gb303, 2, none⟩ = some (.int .i64 0) := (z0d BK303.out 2).trans rfl; have hfz14_0 := z0i BK303.out 0; have hfz14_1 := z0i BK303.out 1; have hfz14_2 := z0i BK303.out 2) | ((with_reducible refine z0y (f := 36) rfl ?_); refine z1p (some 21) rfl rfl Tryz.func36 (by kernel_rfl) rfl #[.int .i64 a1] rfl (by (try simp only [List.map_toArray, List.map_cons, List.map_nil]); rfl) ?_; (with_reducible refine (z1e.calls k a1 t304 _ A10.out).mono ?_); rintro e w15 ⟨v305, rfl, ho0, hb⟩; refine ⟨_, rfl, ?_⟩; have n0_ := y9.mk (Kd.z1j ho0 (z0n (by repeat ((with_reducible first | exact HB.out | refine z3a ?_ GE303.out))))); have n1_ := y9.mk (z1f (g := gb303) (o := .cells #[.bool false, .slice A0 l0.length c0, .int .i64 0] 61 (0, 0)) (by (with_reducible repeat (fail)); refine z1t (cs := #[.bool false, .slice A0 l0.length c0, .int .i64 0]) ?_ 2 _ rfl; (with_reducible repeat (fail)); refine z1t (cs := #[.bool false, .slice none 0 0, .int .i64 0]) ?_ 1 _ rfl; (with_reducible repeat (fail)); refine z1t (cs := #[.bool false, .slice none 0 0, .int .i64 0]) ?_ 0 _ rfl; (with_reducible repeat (fail)); exact BK303.out) hb); have n2_ := y9.mk (z0m (by repeat ((with_reducible first | exact HB.out | refine z3a ?_ GE303.out))) hb); clear BK303; clear HB; have HO306 := n0_; have BK303 := n1_; have HB := n2_; clear n0_ n1_ n2_; (try clear hb); (try clear hb2); (try clear hk); (try clear hi); (try clear ho0); obtain ⟨Ao16, co16, eo16⟩ := Kd.z1g HO306.out; subst eo16) | ((with_reducible refine z0y (f := 35) rfl ?_); refine z1p (some 22) rfl rfl Tryz.func35 (by kernel_rfl) rfl #[.slice A0 l0.length c0, .slice Ao16 t304.length co16] rfl (by (try simp only [List.map_toArray, List.map_cons, List.map_nil]); rfl) ?_; (with_reducible refine (z0h.calls k _ _ l0 _ _ t304 t307 _ ?side1 ?side2 ?side3 ?side4 A11.out).mono ?_); (case side1 => repeat (exact (Kd.z1q HR0.out HB.out))); (case side2 => exact HC0.out); (case side3 => repeat (exact (Kd.z0q HO306.out).2.2)); (case side4 => exact (Kd.z0q HO306.out).2.1); rintro e w17 ⟨v308, rfl, ho0, hb⟩; refine ⟨_, rfl, ?_⟩; have n0_ := y9.mk (Kd.z1o (by (with_reducible repeat (fail)); exact HO306.out) (Kd.z2g ho0) hb); have n1_ := y9.mk (Kd.z1j (Kd.z2f ho0 (Kd.R_lt (by (with_reducible repeat (fail)); exact HO306.out))) (z0n (by repeat ((with_reducible exact HB.out))))); have n2_ := y9.mk (z1f (g := gb303) (o := .cells #[.bool false, .slice A0 l0.length c0, .int .i64 0] 61 (0, 0)) (by (with_reducible repeat (fail)); exact BK303.out) hb); have n3_ := y9.mk (z0m (by repeat ((with_reducible exact HB.out))) hb); clear HO306; clear BK303; clear HB; have HO306 := n0_; have HO309 := n1_; have BK303 := n2_; have HB := n3_; clear n0_ n1_ n2_ n3_; (try clear hb); (try clear hb2); (try clear hk); (try clear hi); (try clear ho0); obtain ⟨Ao18, co18, eo18⟩ := Kd.z1g HO309.out; subst eo18) | ((with_reducible refine z0y (f := 63) rfl ?_); refine z1p (some 24) rfl rfl Tryz.func63 (by kernel_rfl) rfl #[.agg #[.bool false, .slice Ao18 t307.length co18, .int .i64 0]] rfl (by (try simp only [List.map_toArray, List.map_cons, List.map_nil]); rfl) ?_; (with_reducible refine (z3c.calls k false _ _ t307 0 t310 _ ?side1 ?side2 A12.out).mono ?_); (case side1 => repeat (exact (Kd.z0q HO309.out).2.2)); (case side2 => exact (Kd.z0q HO309.out).2.1); rintro e w19 ⟨rfl, hb⟩; refine ⟨_, rfl, ?_⟩; have n0_ := y9.mk (Kd.z4z (by (with_reducible repeat (fail)); exact HO306.out) hb); have n1_ := y9.mk (Kd.z4z (by (with_reducible repeat (fail)); exact HO309.out) hb); have n2_ := y9.mk (z1f (g := gb303) (o := .cells #[.bool false, .slice A0 l0.length c0, .int .i64 0] 61 (0, 0)) (by (with_reducible repeat (fail)); exact BK303.out) hb); have n3_ := y9.mk (z0m (by repeat ((with_reducible exact HB.out))) hb); clear HO306; clear HO309; clear BK303; clear HB; have HO306 := n0_; have HO309 := n1_; have BK303 := n2_; have HB := n3_; clear n0_ n1_ n2_ n3_; (try clear hb); (try clear hb2); (try clear hk); (try clear hi)))
        go_meet
        case rel => exact ⟨_, (t310), (by rfl), H', ⟨by omega⟩, ⟨by repeat ((with_reducible exact HB.out))⟩⟩
      rw [if_neg c9] at H
      have c9b0 : decide (0 ≤ a1) = false := decide_eq_false c9
      clear c9
      by_cases c20 : a1 > (-900)
      · rw [if_pos c20] at H
        have c20b0 : decide ((-900) < a1) = true := decide_eq_true c20
        clear c20
        replace H := Option.bind_eq_some_iff.mp H
        obtain ⟨t311, A210, H⟩ := H
        have A21 := y9.mk A210
        clear A210
        replace H := Option.bind_eq_some_iff.mp H
        obtain ⟨t314, A220, H⟩ := H
        have A22 := y9.mk A220
        clear A220
        have H' := y9.mk H
        clear H
        try go_wp2_with (((with_reducible refine z1s (N := 9) rfl ?_); refine z2m ?hg (N := 9) ?hd (cs := #[.bool false, .slice none 0 0, .int .i64 0]) (t := 61) ?hr ?_; (case hd => rfl); (case hg => rfl); (case hr => (go_simp; done)); intro gb303 hg w23 hbox hb; have n0_ := y9.mk (z0m (by repeat ((with_reducible exact HB.out))) hb); have n1_ := y9.mk (hbox); have n2_ := y9.mk ((by rw [hg]; exact (z0n (by repeat ((with_reducible exact HB.out)))) : w.heap.size ≤ gb303)); have n3_ := y9.mk ((by rw [hg]; exact (z0n (by repeat ((with_reducible exact HB.out)))) : w.heap.size ≤ gb303)); clear HB; have HB := n0_; have BK303 := n1_; have GW303 := n2_; have GE303 := n3_; clear n0_ n1_ n2_ n3_; clear hb hbox hg; have hcz24_0 : w23.cell? ⟨gb303, 0, none⟩ = some (.bool false) := (z0d BK303.out 0).trans rfl; have hcz24_1 : w23.cell? ⟨gb303, 1, none⟩ = some (.slice none 0 0) := (z0d BK303.out 1).trans rfl; have hcz24_2 : w23.cell? ⟨gb303, 2, none⟩ = some (.int .i64 0) := (z0d BK303.out 2).trans rfl; have hfz24_0 := z0i BK303.out 0; have hfz24_1 := z0i BK303.out 1; have hfz24_2 := z0i BK303.out 2))
        have n0_ : y9 ((((w23.setCell ⟨gb303, 0, none⟩ (.bool false)).setCell ⟨gb303, 1, none⟩ (.slice A0 l0.length c0)).setCell ⟨gb303, 2, none⟩ (.int .i64 0)).heap[gb303]? = some (.cells #[.bool false, .slice A0 l0.length c0, .int .i64 0] 61 (0, 0))) := ⟨by (with_reducible repeat (fail)); refine z1t (cs := #[.bool false, .slice A0 l0.length c0, .int .i64 0]) ?_ 2 _ rfl; (with_reducible repeat (fail)); refine z1t (cs := #[.bool false, .slice none 0 0, .int .i64 0]) ?_ 1 _ rfl; (with_reducible repeat (fail)); refine z1t (cs := #[.bool false, .slice none 0 0, .int .i64 0]) ?_ 0 _ rfl; (with_reducible repeat (fail)); exact BK303.out⟩
        have n1_ : y9 (Below w.heap.size w (((w23.setCell ⟨gb303, 0, none⟩ (.bool false)).setCell ⟨gb303, 1, none⟩ (.slice A0 l0.length c0)).setCell ⟨gb303, 2, none⟩ (.int .i64 0))) := ⟨by repeat ((with_reducible first | exact HB.out | refine z3a ?_ GE303.out))⟩
        (try clear BK303)
        (try clear HB)
        generalize (((w23.setCell ⟨gb303, 0, none⟩ (.bool false)).setCell ⟨gb303, 1, none⟩ (.slice A0 l0.length c0)).setCell ⟨gb303, 2, none⟩ (.int .i64 0)) = w25 at n0_ n1_ ⊢
        have BK303 := n0_
        have HB := n1_
        clear n0_ n1_
        have n0_ := y9.mk (z5c BK303.out)
        have n1_ := y9.mk (z2y HB.out)
        clear BK303
        clear HB
        have BK303 := n0_
        have HB := n1_
        clear n0_ n1_
        refine z6f (n := 7) (S := fun w' => w'.cell? ⟨gb303, 0, none⟩ = some (.bool false) ∧ w'.cell? ⟨gb303, 1, none⟩ = some (.slice A0 l0.length c0) ∧ w'.cell? ⟨gb303, 2, none⟩ = some (.int .i64 0)) (ds := []) #[false, false, false, false, false, false, false] (by kernel_rfl) rfl rfl ⟨(z0d BK303.out 0).trans rfl, (z0d BK303.out 1).trans rfl, (z0d BK303.out 2).trans rfl⟩ (fun hHeld => ?_)
        generalize w25.drew = w26 at BK303 HB hHeld ⊢
        refine z1b (i := 1) (N := some 28) (v := ?_) (a' := ?_) #[false, true, false, false, false, false, false] rfl rfl (by kernel_rfl) (fun _ _ _ h => h) (Or.inl ⟨by rfl, ?_⟩) ?_ ?_
        rotate_left
        · intro w'
          go_simp
          with_reducible rfl
        rotate_left
        · simp only [Act.put, List.setIfInBounds_toArray, List.set_cons_zero, List.set_cons_succ, z0t, z0z]
          rfl
        refine z1b (i := 2) (N := some 29) (v := ?_) (a' := ?_) #[false, true, true, false, false, false, false] rfl rfl (by kernel_rfl) (fun _ _ _ h => h) (Or.inl ⟨by rfl, ?_⟩) ?_ ?_
        rotate_left
        · intro w'
          go_simp
          with_reducible rfl
        rotate_left
        · simp only [Act.put, List.setIfInBounds_toArray, List.set_cons_zero, List.set_cons_succ, z0t, z0z]
          rfl
        refine z5s (i := 0) (N := some 27) (v := ?_) (a' := ?_) #[true, true, true, false, false, false, false] rfl rfl (by kernel_rfl) (fun _ _ _ h => h) (Or.inl ⟨by rfl, ?_⟩) hHeld ?_ ?_
        rotate_left
        · rintro w' ⟨s0, s1, s2⟩
          go_simp
          with_reducible rfl
        rotate_left
        · simp only [Act.put, List.setIfInBounds_toArray, List.set_cons_zero, List.set_cons_succ, z0t, z0z]
          rfl
        refine one_ (i := 3) (N := some 30) #[true, true, true, true, false, false, false] rfl rfl (by kernel_rfl) (by decide) (fun K hK => ?_)
        refine goes_ Tryz.func36 (by kernel_rfl) rfl #[.int .i64 (wrap64 (-a1))] (by rfl) rfl rfl (by (try simp only [List.map_toArray, List.map_cons, List.map_nil]); rfl) ?_
        with_reducible refine (z1e.calls k (wrap64 (-a1)) t311 _ A21.out).mono ?_
        rintro e w27 ⟨v312, rfl, ho0, hb⟩
        refine ⟨_, rfl, ?_⟩
        have n0_ := y9.mk (Kd.z1j ho0 (z0n (by repeat ((with_reducible exact HB.out)))))
        have n1_ := y9.mk (z1f (g := gb303) (o := .cells #[.bool false, .slice A0 l0.length c0, .int .i64 0] 61 (0, 0)) (by (with_reducible repeat (fail)); exact BK303.out) hb)
        have n2_ := y9.mk (z0m (by repeat ((with_reducible exact HB.out))) hb)
        clear BK303
        clear HB
        have HO313 := n0_
        have BK303 := n1_
        have HB := n2_
        clear n0_ n1_ n2_
        (try clear hb)
        (try clear hb2)
        (try clear hk)
        (try clear hi)
        (try clear ho0)
        obtain ⟨Ao28, co28, eo28⟩ := Kd.z1g HO313.out
        (subst eo28)
        refine hK.out _ _ ⟨(z0d BK303.out 0).trans rfl, (z0d BK303.out 1).trans rfl, (z0d BK303.out 2).trans rfl⟩ (fun hHeld => ?_)
        clear hK K
        refine norm_ (a' := ?_) ?_ ?_
        rotate_left
        · show Act.put _ (some 30) _ = _
          simp only [Act.put, List.setIfInBounds_toArray, List.set_cons_zero, List.set_cons_succ, z0t, z0z]
          rfl
        refine z1b (i := 4) (N := some 31) (v := ?_) (a' := ?_) #[true, true, true, true, true, false, false] rfl rfl (by kernel_rfl) (fun _ _ _ h => h) (Or.inl ⟨by rfl, ?_⟩) ?_ ?_
        rotate_left
        · intro w'
          go_simp
          with_reducible rfl
        rotate_left
        · simp only [Act.put, List.setIfInBounds_toArray, List.set_cons_zero, List.set_cons_succ, z0t, z0z]
          rfl
        refine one_ (i := 5) (N := some 32) #[true, true, true, true, true, true, false] rfl rfl (by kernel_rfl) (by decide) (fun K hK => ?_)
        refine goes_ Tryz.func64 (by kernel_rfl) rfl #[.agg #[.bool false, .slice A0 l0.length c0, .int .i64 0], .agg #[.bool false, .slice Ao28 t311.length co28, .int .i64 0]] (by rfl) rfl rfl (by (try simp only [List.map_toArray, List.map_cons, List.map_nil]); rfl) ?_
        with_reducible refine (z0w.calls k false _ _ l0 0 false _ _ t311 0 t314 _ ?side1 ?side2 ?side3 ?side4 A22.out).mono ?_
        (case side1 => repeat (exact (Kd.z1q HR0.out HB.out)))
        (case side2 => exact HC0.out)
        (case side3 => repeat (exact (Kd.z0q HO313.out).2.2))
        (case side4 => exact (Kd.z0q HO313.out).2.1)
        rintro e w29 ⟨rfl, hb⟩
        refine ⟨_, rfl, ?_⟩
        have n0_ := y9.mk (Kd.z4z (by (with_reducible repeat (fail)); exact HO313.out) hb)
        have n1_ := y9.mk (z1f (g := gb303) (o := .cells #[.bool false, .slice A0 l0.length c0, .int .i64 0] 61 (0, 0)) (by (with_reducible repeat (fail)); exact BK303.out) hb)
        have n2_ := y9.mk (z0m (by repeat ((with_reducible exact HB.out))) hb)
        clear HO313
        clear BK303
        clear HB
        have HO313 := n0_
        have BK303 := n1_
        have HB := n2_
        clear n0_ n1_ n2_
        (try clear hb)
        (try clear hb2)
        (try clear hk)
        (try clear hi)
        refine hK.out _ _ ⟨(z0d BK303.out 0).trans rfl, (z0d BK303.out 1).trans rfl, (z0d BK303.out 2).trans rfl⟩ (fun hHeld => ?_)
        clear hK K
        refine norm_ (a' := ?_) ?_ ?_
        rotate_left
        · show Act.put _ (some 32) _ = _
          simp only [Act.put, List.setIfInBounds_toArray, List.set_cons_zero, List.set_cons_succ, z0t, z0z]
          rfl
        refine z1b (i := 6) (N := some 8) (v := ?_) (a' := ?_) #[true, true, true, true, true, true, true] rfl rfl (by kernel_rfl) (fun _ _ _ h => h) (Or.inl ⟨by rfl, ?_⟩) ?_ ?_
        rotate_left
        · intro w'
          go_simp
          with_reducible rfl
        rotate_left
        · simp only [Act.put, List.setIfInBounds_toArray, List.set_cons_zero, List.set_cons_succ, z0t, z0z]
          rfl
        refine done_ (by kernel_rfl) ?_
        try go_wp2
        go_meet
        case rel => exact ⟨_, (t314), (by rfl), H', ⟨by omega⟩, ⟨by repeat ((with_reducible exact HB.out))⟩⟩
      rw [if_neg c20] at H
      have c20b0 : decide ((-900) < a1) = false := decide_eq_false c20
      clear c20
      have H' := y9.mk H
      clear H
      go_wp2_with (((with_reducible refine z1s (N := 9) rfl ?_); refine z2m ?hg (N := 9) ?hd (cs := #[.bool false, .slice none 0 0, .int .i64 0]) (t := 61) ?hr ?_; (case hd => rfl); (case hg => rfl); (case hr => (go_simp; done)); intro gb303 hg w30 hbox hb; have n0_ := y9.mk (z0m (by repeat ((with_reducible exact HB.out))) hb); have n1_ := y9.mk (hbox); have n2_ := y9.mk ((by rw [hg]; exact (z0n (by repeat ((with_reducible exact HB.out)))) : w.heap.size ≤ gb303)); have n3_ := y9.mk ((by rw [hg]; exact (z0n (by repeat ((with_reducible exact HB.out)))) : w.heap.size ≤ gb303)); clear HB; have HB := n0_; have BK303 := n1_; have GW303 := n2_; have GE303 := n3_; clear n0_ n1_ n2_ n3_; clear hb hbox hg; have hcz31_0 : w30.cell? ⟨gb303, 0, none⟩ = some (.bool false) := (z0d BK303.out 0).trans rfl; have hcz31_1 : w30.cell? ⟨gb303, 1, none⟩ = some (.slice none 0 0) := (z0d BK303.out 1).trans rfl; have hcz31_2 : w30.cell? ⟨gb303, 2, none⟩ = some (.int .i64 0) := (z0d BK303.out 2).trans rfl; have hfz31_0 := z0i BK303.out 0; have hfz31_1 := z0i BK303.out 1; have hfz31_2 := z0i BK303.out 2))
      go_meet
      case rel => exact ⟨_, (0), (by rfl), H', ⟨by omega⟩, ⟨by repeat ((with_reducible first | exact HB.out | refine z3a ?_ GE303.out))⟩⟩
    rw [if_neg c5] at H
    have c5b0 : decide (0 < (l0.length : Int)) = false := decide_eq_false c5
    have c5b1 : decide (0 < l0.length) = false := decide_eq_false (by omega)
    have c5b2 : ¬ 0 < l0.length := of_decide_eq_false c5b1
    clear c5
    (skip)
    have H' := y9.mk H
    clear H
    go_wp2
    go_meet
    case rel => exact ⟨_, (0), (by rfl), H', ⟨by omega⟩, ⟨by repeat ((with_reducible exact HB.out))⟩⟩
  clear HC4
  (try clear c2); (try clear p2); (try clear c3); (try clear c5); (try clear c5b0); (try clear c5b1); (try clear c6); (try clear c6b0); (try clear p6); (try clear c9); (try clear c9b0); (try clear c20); (try clear c20b0); (try clear c28); (try clear hcz14_0); (try clear hcz14_1); (try clear hcz14_2); (try clear hcz24_0); (try clear hcz24_1); (try clear hcz24_2); (try clear hcz31_0); (try clear hcz31_1); (try clear hcz31_2); (try clear hcz8_0); (try clear hcz8_1); (try clear hcz8_2); (try clear hfz14_0); (try clear hfz14_1); (try clear hfz14_2); (try clear hfz24_0); (try clear hfz24_1); (try clear hfz24_2); (try clear hfz31_0); (try clear hfz31_1); (try clear hfz31_2); (try clear hfz8_0); (try clear hfz8_1); (try clear hfz8_2)
  obtain ⟨kq, x8_3, rfl, HA, HJ3, HB⟩ := hcut
  cases kq with
  | zero => exact absurd HA.out (by simp [z0v.j0])
  | succ kj3 =>
    have H := HA.out
    clear HA
    simp only [z0v.j0] at H
    by_cases c32 : x8_3 = 9218868437227405312
    · rw [if_pos c32] at H
      have c32b0 : (x8_3 == 9218868437227405312) = true := beq_iff_eq.mpr c32
      have c32b1 : (x8_3 != 9218868437227405312) = false := bne_eq_false_iff_eq.mpr c32
      clear c32
      simp only [Option.some.injEq, Prod.mk.injEq] at H
      obtain ⟨rfl, rfl⟩ := H
      go_wp2
      go_ret2
      exact ⟨by rfl, by repeat ((with_reducible exact HB.out))⟩
    rw [if_neg c32] at H
    have c32b0 : (x8_3 == 9218868437227405312) = false := beq_eq_false_iff_ne.mpr c32
    have c32b1 : (x8_3 != 9218868437227405312) = true := bne_iff_ne.mpr c32
    by_cases c33 : a2 = true
    · subst c33
      have H1 : ((z3d.f x8_3).bind fun t315 => (some (t315, 0))) = some (r1, r2) := by rw [if_pos rfl] at H; exact H
      clear H
      have H := H1
      clear H1
      replace H := Option.bind_eq_some_iff.mp H
      obtain ⟨t315, A340, H⟩ := H
      have A34 := y9.mk A340
      clear A340
      simp only [Option.some.injEq, Prod.mk.injEq] at H
      obtain ⟨rfl, rfl⟩ := H
      go_wp2_with (((with_reducible refine z0y (f := 58) rfl ?_); refine z1p (some 37) rfl rfl Tryz.func58 (by kernel_rfl) rfl #[.int .u64 x8_3] rfl (by (try simp only [List.map_toArray, List.map_cons, List.map_nil]); rfl) ?_; (with_reducible refine (z3d.calls x8_3 t315 _ A34.out).mono ?_); rintro e w' ⟨rfl, ⟨nd, rfl⟩⟩; refine ⟨_, rfl, ?_⟩))
      go_ret2
      exact ⟨by rfl, by repeat ((with_reducible first | exact HB.out | apply z0p))⟩
    replace c33 := Bool.eq_false_iff.mpr c33
    subst c33
    have H1 : (some (x8_3, 0)) = some (r1, r2) := by rw [if_neg (show ¬ (false = true) by decide)] at H; exact H
    clear H
    have H := H1
    clear H1
    simp only [Option.some.injEq, Prod.mk.injEq] at H
    obtain ⟨rfl, rfl⟩ := H
    go_wp2
    go_ret2
    exact ⟨by rfl, by repeat ((with_reducible exact HB.out))⟩
end Go.Proofs.YtjpiplplohapnaaGreatDoor.PText
namespace Go.Proofs.YtjpiplplohapnaaGreatDoor.Big
open Go.Proofs.YtjpiplplohapnaaGreatDoor.Nr
theorem rhe_one (Q n : Nat) (hQ : 0 < Q) : Rhe (n * Q) Q n := by
  unfold Rhe
  have e1 : (2 * n + 1) * Q = 2 * (n * Q) + Q := by rw [Nat.add_mul, Nat.one_mul, Nat.mul_assoc]
  have e2 : 2 * n * Q = 2 * (n * Q) := Nat.mul_assoc _ _ _
  rw [e1, e2]
  generalize n * Q = Y
  refine ⟨by omega, by omega, fun h => ?_, fun h => ?_⟩ <;> omega
theorem rhe_core (X U W q b t n' D : Nat) (more : Bool) (hU : 0 < U) (hb : b < 2) (ht : t < W) (hD : D = q * (2 * W) + b * W + t)
    (h1 : D * U ≤ X) (h2 : X < (D + 1) * U) (h3 : more = false → X = D * U) (h4 : more = true → X ≠ D * U)
    (hn : n' = q + (if b = 1 ∧ (t ≠ 0 ∨ more = true ∨ q % 2 = 1) then 1 else 0)) : Rhe X (U * (2 * W)) n' := by
  have hT1 : (t + 1) * U ≤ W * U := Nat.mul_le_mul_right _ ht
  have hT0 : t ≠ 0 → U ≤ t * U := fun h => Nat.le_mul_of_pos_left _ (by omega)
  have hTz : t = 0 → t * U = 0 := fun h => by rw [h, Nat.zero_mul]
  have eD : D * U = 2 * (q * (W * U)) + b * (W * U) + t * U := by
    rw [hD]; grind
  rw [Nat.add_mul, Nat.one_mul] at h2 hT1
  have e1 : ∀ n, (2 * n + 1) * (U * (2 * W)) = 4 * (n * (W * U)) + 2 * (W * U) := by intro n; grind
  have e2 : ∀ n, 2 * n * (U * (2 * W)) = 4 * (n * (W * U)) := by intro n; grind
  have e3 : U * (2 * W) = 2 * (W * U) := by grind
  have e4 : (q + 1) * (W * U) = q * (W * U) + W * U := by rw [Nat.add_mul, Nat.one_mul]
  unfold Rhe
  rw [e1, e2, e3]
  have hb' : b = 0 ∨ b = 1 := by omega
  have hz0 : 0 * (W * U) = 0 := Nat.zero_mul _
  have hz1 : 1 * (W * U) = W * U := Nat.one_mul _
  by_cases hc : b = 1 ∧ (t ≠ 0 ∨ more = true ∨ q % 2 = 1)
  · rw [if_pos hc] at hn
    subst hn
    rw [e4]
    obtain ⟨rfl, hc⟩ := hc
    rw [hz1] at eD
    generalize q * (W * U) = G at *
    generalize W * U = Z at *
    generalize t * U = T at *
    refine ⟨by omega, by omega, fun h => by omega, fun h => ?_⟩
    have ht0 : t = 0 := by
      rcases Nat.eq_zero_or_pos t with h5 | h5
      · exact h5
      have := hT0 (by omega); omega
    have hm : more = false := by
      cases more
      · rfl
      have := h4 rfl
      have := hTz ht0
      omega
    rcases hc with hc | hc | hc
    · exact absurd ht0 hc
    · rw [hm] at hc; exact absurd hc (by simp)
    omega
  rw [if_neg hc, Nat.add_zero] at hn
  subst hn
  rcases hb' with rfl | rfl
  · rw [hz0] at eD
    generalize n' * (W * U) = G at *
    generalize W * U = Z at *
    generalize t * U = T at *
    refine ⟨by omega, by omega, fun h => by omega, fun h => by omega⟩
  have hc' : t = 0 ∧ more = false ∧ n' % 2 = 0 := by
    refine ⟨?_, ?_, ?_⟩
    · exact Decidable.byContradiction fun h => hc ⟨rfl, Or.inl h⟩
    · cases more
      · rfl
      exact absurd ⟨rfl, Or.inr (Or.inl rfl)⟩ hc
    rcases Nat.mod_two_eq_zero_or_one n' with h | h
    · exact h
    exact absurd ⟨rfl, Or.inr (Or.inr h)⟩ hc
  have hx := h3 hc'.2.1
  have htz := hTz hc'.1
  rw [hz1] at eD
  generalize n' * (W * U) = G at *
  generalize W * U = Z at *
  generalize t * U = T at *
  refine ⟨by omega, by omega, fun h => hc'.2.2, fun h => hc'.2.2⟩
def lsbI (D : Nat) (E : Int) : Int := max ((bl D : Int) - 53 + E) (-1074)
def upB (D n : Nat) (more : Bool) : Nat := if D / 2 ^ (n - 1) % 2 = 1 ∧ (D % 2 ^ (n - 1) ≠ 0 ∨ more = true ∨ D / 2 ^ n % 2 = 1) then 1 else 0
def rr (D : Nat) (E : Int) (more : Bool) : Nat :=
  if lsbI D E ≤ E then (lsbI D E + 1074).toNat * 4503599627370496 + D * 2 ^ (E - lsbI D E).toNat
  else (lsbI D E + 1074).toNat * 4503599627370496 + (D / 2 ^ (lsbI D E - E).toNat + upB D (lsbI D E - E).toNat more)
theorem p52 : (2 : Nat) ^ 52 = 4503599627370496 := by decide
theorem p53 : (2 : Nat) ^ 53 = 9007199254740992 := by decide
theorem rr_near (D : Nat) (hD : D ≠ 0) (E : Int) (more : Bool) (N M p s : Nat) (hM : 0 < M) (hps : (p : Int) - s = E + 1074)
    (h1 : D * 2 ^ p * M ≤ N * 2 ^ s) (h2 : N * 2 ^ s < (D + 1) * 2 ^ p * M) (h3 : more = false → N * 2 ^ s = D * 2 ^ p * M) (h4 : more = true → N * 2 ^ s ≠ D * 2 ^ p * M)
    (hmore : more = true → E < lsbI D E) : Near N M (rr D E more) := by
  have hs0 : 0 < 2 ^ s := Nat.pow_pos (by decide)
  have b1 := z4b D
  have b2 := z6l hD
  have hbl : 0 < bl D := by
    rcases Nat.eq_zero_or_pos (bl D) with h | h
    · rw [h] at b1; omega
    exact h
  obtain ⟨l, hl⟩ : ∃ l : Nat, (l : Int) = lsbI D E + 1074 := ⟨(lsbI D E + 1074).toNat, by unfold lsbI; omega⟩
  have hl' : (lsbI D E + 1074).toNat = l := by omega
  unfold rr
  rw [hl']
  by_cases hle : lsbI D E ≤ E
  · rw [if_pos hle]
    obtain ⟨g, hg⟩ : ∃ g : Nat, (E - lsbI D E).toNat = g := ⟨_, rfl⟩
    rw [hg]
    have hmf : more = false := by
      cases more
      · rfl
      have := hmore rfl; omega
    have hx := h3 hmf
    have hp : p = g + l + s := by omega
    have hN : N = D * 2 ^ g * (M * 2 ^ l) := by
      refine Nat.eq_of_mul_eq_mul_right hs0 ?_
      rw [hx, hp, Nat.pow_add, Nat.pow_add]
      simp only [Nat.mul_assoc, Nat.mul_comm, Nat.mul_left_comm]
    have hQ : 0 < M * 2 ^ l := Nat.mul_pos hM (Nat.pow_pos (by decide))
    have hgb : bl D + g ≤ 53 := by unfold lsbI at hg hle; omega
    have hn2 : D * 2 ^ g < 9007199254740992 := by
      have a1 : D * 2 ^ g < 2 ^ bl D * 2 ^ g := Nat.mul_lt_mul_of_pos_right b1 (Nat.pow_pos (by decide))
      have a2 : 2 ^ bl D * 2 ^ g ≤ 2 ^ 53 := by rw [← Nat.pow_add]; exact Nat.pow_le_pow_right (by decide) hgb
      rw [p53] at a2
      omega
    refine z3h hM ?_ ?_
    · have := rhe_one (M * 2 ^ l) (D * 2 ^ g) hQ
      rw [← hN] at this
      exact this
    by_cases hl0 : l = 0
    · exact Or.inr ⟨hl0, by omega⟩
    have hge : 53 = bl D + g := by unfold lsbI at hg hle hl; omega
    have hn1 : 4503599627370496 ≤ D * 2 ^ g := by
      have a1 : 2 ^ (bl D - 1) * 2 ^ g ≤ D * 2 ^ g := Nat.mul_le_mul_right _ b2
      rw [← Nat.pow_add, show bl D - 1 + g = 52 by omega, p52] at a1
      exact a1
    refine Or.inl ⟨hn1, by omega, fun _ => ?_⟩
    rw [hN]
    exact Nat.mul_le_mul_right _ hn1
  rw [if_neg hle]
  obtain ⟨n, hg⟩ : ∃ n : Nat, (lsbI D E - E).toNat = n := ⟨_, rfl⟩
  rw [hg]
  have hn1 : 1 ≤ n := by omega
  have hp : p + n = l + s := by omega
  obtain ⟨W, hW⟩ : ∃ W, W = 2 ^ (n - 1) := ⟨_, rfl⟩
  have hW2 : 2 ^ n = 2 * W := by rw [hW, ← Nat.pow_succ', show (n - 1).succ = n by omega]
  have hWp : 0 < W := by rw [hW]; exact Nat.pow_pos (by decide)
  have hUp : 0 < 2 ^ p * M := Nat.mul_pos (Nat.pow_pos (by decide)) hM
  have hQ : 2 ^ p * M * (2 * W) = M * 2 ^ l * 2 ^ s := by
    rw [← hW2, Nat.mul_assoc M, ← Nat.pow_add, ← hp, Nat.pow_add, Nat.mul_comm (2 ^ p) M]
    exact Nat.mul_assoc _ _ _
  have hqd : D / 2 ^ n = D / W / 2 := by rw [hW2, Nat.mul_comm, Nat.div_div_eq_div_mul]
  have hDs : D = D / 2 ^ n * (2 * W) + D / W % 2 * W + D % W := by
    have e1 := Nat.div_add_mod D W
    have e2 : D / W = 2 * (D / 2 ^ n) + D / W % 2 := by rw [hqd]; omega
    have e3 : W * (D / W) = D / 2 ^ n * (2 * W) + D / W % 2 * W := by
      generalize D / 2 ^ n = x at *
      generalize D / W % 2 = y at *
      rw [e2]; grind
    omega
  have hR := rhe_core (N * 2 ^ s) (2 ^ p * M) W (D / 2 ^ n) (D / W % 2) (D % W) (D / 2 ^ n + upB D n more) D more hUp (Nat.mod_lt _ (by decide)) (Nat.mod_lt _ hWp) hDs
    (by rw [← Nat.mul_assoc]; exact h1) (by rw [← Nat.mul_assoc]; exact h2) (fun h => by rw [← Nat.mul_assoc]; exact h3 h) (fun h => by rw [← Nat.mul_assoc]; exact h4 h)
    (by unfold upB; rw [← hW])
  rw [hQ] at hR
  have hup : upB D n more ≤ 1 := by unfold upB; split <;> omega
  have hq2 : D / 2 ^ n < 9007199254740992 := by
    refine Nat.div_lt_of_lt_mul ?_
    have a1 : 2 ^ bl D ≤ 2 ^ n * 2 ^ 53 := by
      rw [← Nat.pow_add]
      exact Nat.pow_le_pow_right (by decide) (by unfold lsbI at hg hle; omega)
    rw [p53] at a1
    omega
  refine z3h hM (rhe_scale (2 ^ s) hs0 hR) ?_
  by_cases hl0 : l = 0
  · exact Or.inr ⟨hl0, by omega⟩
  have hge : bl D = 53 + n := by unfold lsbI at hg hle hl; omega
  have hn3 : 4503599627370496 * 2 ^ n ≤ D := by
    rw [← p52, ← Nat.pow_add, show 52 + n = bl D - 1 by omega]
    exact b2
  have hq1 : 4503599627370496 ≤ D / 2 ^ n := (Nat.le_div_iff_mul_le (Nat.pow_pos (by decide))).2 hn3
  refine Or.inl ⟨by omega, by omega, fun _ => ?_⟩
  refine Nat.le_of_mul_le_mul_right ?_ hs0
  refine Nat.le_trans ?_ h1
  have e5 : 4503599627370496 * (M * 2 ^ l) * 2 ^ s = 4503599627370496 * 2 ^ n * (2 ^ p * M) := by
    rw [Nat.mul_assoc 4503599627370496, ← hQ, hW2]
    generalize 4503599627370496 = c
    simp only [Nat.mul_assoc, Nat.mul_comm, Nat.mul_left_comm]
  rw [e5, Nat.mul_assoc D]
  exact Nat.mul_le_mul_right _ hn3
end Go.Proofs.YtjpiplplohapnaaGreatDoor.Big
