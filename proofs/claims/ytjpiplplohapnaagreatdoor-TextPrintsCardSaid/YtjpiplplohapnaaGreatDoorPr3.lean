/- Part 3 of the proof: RAdd, RMul, BigB. -/
import Derived.Test.YtjpiplplohapnaaGreatDoorPr2
set_option linter.unusedVariables false
set_option linter.unusedSimpArgs false
namespace Go.Proofs.YtjpiplplohapnaaGreatDoor.PText
open Go.RowKit Go.Proofs.YtjpiplplohapnaaGreatDoorW.PrintWords Go.Proofs.YtjpiplplohapnaaGreatDoorW.PrintLast Go.Proofs.YtjpiplplohapnaaGreatDoorW.PrintMore
attribute [local go_sem] max2_int min2_int max_two min_two max_three min_three max_four min_four
set_option linter.unusedVariables false
set_option linter.unusedSimpArgs false
def tenorref1_AddDigits.l0 : Nat → List Int → List Int → Int → List Int → Int → Int → Option (List Int)
  | 0, _, _, _, _, _, _ => none
  | k + 1, x0, x1, x5, x6, x7, x8 => if x8 < x5 then ((tenorref1_digit.f x0 x8).bind fun t165 => ((tenorref1_digit.f x1 x8).bind fun t166 => (if 0 ≤ x8 then (if x8 < (x6.length : Int) then (tenorref1_AddDigits.l0 k x0 x1 x5 (x6.set (x8 : Int).toNat (Int.tmod (IntKind.u64.wrap ((IntKind.u64.wrap (t165 + t166)) + x7)) 4294967296)) (IntKind.u64.wrap (Int.tdiv (IntKind.u64.wrap ((IntKind.u64.wrap (t165 + t166)) + x7)) 4294967296)) (wrap64 (x8 + 1))) else (none)) else (none)))) else ((tenorref1_trim.f k x6).bind fun t168 => (some t168))
def tenorref1_AddDigits.f (k : Nat) (l0 : List Int) (l1 : List Int) : Option (List Int) := if 0 ≤ (wrap64 ((mx (l0.length : Int) (l1.length : Int)) + 1)) then (if (wrap64 ((mx (l0.length : Int) (l1.length : Int)) + 1) : Int).toNat ≤ 35184372088832 then (tenorref1_AddDigits.l0 k l0 l1 (wrap64 ((mx (l0.length : Int) (l1.length : Int)) + 1)) (List.replicate (wrap64 ((mx (l0.length : Int) (l1.length : Int)) + 1) : Int).toNat 0) 0 0) else (none)) else (none)
set_option maxHeartbeats 8000000 in
set_option maxRecDepth 100000 in
theorem tenorref1_AddDigits.calls (k : Nat) (A0 : Option Addr) (c0 : Nat) (l0 : List Int) (A1 : Option Addr) (c1 : Nat) (l1 : List Int) (r : List Int) (w : World) (hr0 : Kd.C (Kd.int .u64) w A0 l0.length l0) (hc0 : l0.length ≤ c0) (hr1 : Kd.C (Kd.int .u64) w A1 l1.length l1) (hc1 : l1.length ≤ c1) (h : tenorref1_AddDigits.f k l0 l1 = some r) :
    Calls Tryz.prog 40 #[.slice A0 l0.length c0, .slice A1 l1.length c1] w fun e w' => ∃ v0_ : Value, e = .returned (v0_) ∧ Kd.R (Kd.int .u64) 26 w' w.heap.size (fun _ => True) v0_ r ∧ Below w.heap.size w w' := by
  have HR0 := Aside0.mk hr0
  have HC0 := Aside0.mk hc0
  clear hr0 hc0
  have HR1 := Aside0.mk hr1
  have HC1 := Aside0.mk hc1
  clear hr1 hc1
  have HB := Aside0.mk (Below.refl w.heap.size w)
  have H : (if 0 ≤ (wrap64 ((mx (l0.length : Int) (l1.length : Int)) + 1)) then (if (wrap64 ((mx (l0.length : Int) (l1.length : Int)) + 1) : Int).toNat ≤ 35184372088832 then (tenorref1_AddDigits.l0 k l0 l1 (wrap64 ((mx (l0.length : Int) (l1.length : Int)) + 1)) (List.replicate (wrap64 ((mx (l0.length : Int) (l1.length : Int)) + 1) : Int).toNat 0) 0 0) else (none)) else (none)) = some r := h
  clear h
  obtain ⟨ji3, hji3⟩ : ∃ j_ : Int, (mx (l0.length : Int) (l1.length : Int)) = j_ := ⟨_, rfl⟩
  replace H : (if 0 ≤ (wrap64 ((ji3) + 1)) then (if (wrap64 ((ji3) + 1) : Int).toNat ≤ 35184372088832 then (tenorref1_AddDigits.l0 k l0 l1 (wrap64 ((ji3) + 1)) (List.replicate (wrap64 ((ji3) + 1) : Int).toNat 0) 0 0) else (none)) else (none)) = some r := by first | (rw [hji3] at H; exact H) | (simp only [hji3] at H ⊢; exact H)
  (try (have hji3l : 0 ≤ ji3 := by (rw [← hji3]; unfold mx; (repeat' split) <;> omega)))
  (try (have hji3m : 0 ≤ ji3 := by omega))
  have hji3_ : (if (l0.length : Int) < (l1.length : Int) then (l1.length : Int) else (l0.length : Int)) = ji3 := hji3
  obtain ⟨ji4, hji4⟩ : ∃ j_ : Int, (wrap64 ((ji3) + 1)) = j_ := ⟨_, rfl⟩
  replace H : (if 0 ≤ (ji4) then (if (ji4 : Int).toNat ≤ 35184372088832 then (tenorref1_AddDigits.l0 k l0 l1 ji4 (List.replicate (ji4 : Int).toNat 0) 0 0) else (none)) else (none)) = some r := by first | (rw [hji4] at H; exact H) | (simp only [hji4] at H ⊢; exact H)
  have hji4w : (IntKind.i64.wrap ((ji3) + 1)) = ji4 := (i64_w _).trans hji4
  by_cases c5 : 0 ≤ (ji4)
  · rw [if_pos c5] at H
    have c5b0 := eq_true c5
    have c5b1 : decide (0 ≤ (ji4)) = true := decide_eq_true c5
    clear c5
    by_cases c6 : (ji4 : Int).toNat ≤ 35184372088832
    · rw [if_pos c6] at H
      have c6b0 := eq_true c6
      have c6b1 : decide ((ji4 : Int).toNat ≤ 35184372088832) = true := decide_eq_true c6
      clear c6
      obtain ⟨y162, hy162⟩ : ∃ y_ : List Int, y_ = (List.replicate (ji4 : Int).toNat 0) := ⟨_, rfl⟩
      replace H : (tenorref1_AddDigits.l0 k l0 l1 ji4 y162 0 0) = some r := by first | (rw [hy162]; with_reducible exact H) | (have H2_ := (Option.bind_some _ _).symm.trans H; rw [hy162]; with_reducible exact H2_) | (have H2_ := (Option.bind_some _ _).symm.trans H; with_reducible exact H2_) | with_reducible exact H | (rw [hy162]; exact H) | exact H
      have Ny162 := Aside0.mk hy162
      clear hy162
      have H' := Aside0.mk H
      clear H
      have hx : (l0.length < l1.length ∧ wrap64 ((l1.length : Int) + 1) = ji4) ∨ (¬ l0.length < l1.length ∧ wrap64 ((l0.length : Int) + 1) = ji4) := by
        by_cases hlt : l0.length < l1.length
        · left; refine ⟨hlt, ?_⟩; rw [← hji4, ← hji3_, if_pos (by omega)]
        right; refine ⟨hlt, ?_⟩; rw [← hji4, ← hji3_, if_neg (by omega)]
      clear hji3 hji3_ hji3l hji3m hji4 hji4w
      rcases hx with ⟨hlt, hx⟩ | ⟨hlt, hx⟩
      all_goals
        go_enter Tryz.func40, Tryz.ntmps40
        go_wp2_with (first | ((with_reducible refine gate_dst (N := 17) rfl ?_); simp only [hx]; refine Kd.R_make (Kd.int .u64) _ 26 rfl (N := 17) rfl 51 _ _ rfl ji4 rfl rfl Tryz.underlying51 (.int .u64 0) 8 info26 rfl (by decide) (by omega) 0 (ok := fun _ => True) (okp := fun _ => True) rfl (fun _ hk => hk) trivial (of_decide_eq_true (by first | (with_reducible assumption) | assumption)) (Nat.le_trans (Nat.mul_le_mul_right _ (of_decide_eq_true (by first | (with_reducible assumption) | assumption) : ji4.toNat ≤ 35184372088832)) (by omega)) (Below.refl _ _) (Nat.le_refl _) ?_; intro v163 w7 ho8 hb hg_ hnew_; clear hg_ hnew_; (first | rw [← Ny162.out] at ho8 | (simp only [Int.reduceToNat] at ho8; rw [← Ny162.out] at ho8)); have n0_ := Aside0.mk (Kd.R_lower ho8 (below_size (by repeat (first | (with_reducible first | exact HB.out | apply below_alloc | apply pw_below_drewN | apply below_drew1) | exact HB.out)))); have n1_ := Aside0.mk (below_step (by repeat (first | (with_reducible first | exact HB.out | apply below_alloc | apply pw_below_drewN | apply below_drew1) | exact HB.out)) hb); clear HB; have HO164 := n0_; have HB := n1_; clear n0_ n1_; clear hb ho8))
        go_loopg [7, 8] k (fun kq v7 v8 w' => ∃ (x6_1 : List Int) (x7_1 : Int) (x8_1 : Int), v7 = .int .u64 x7_1 ∧ v8 = .int .i64 x8_1 ∧ Aside0 (tenorref1_AddDigits.l0 kq l0 l1 ji4 x6_1 x7_1 x8_1 = some r) ∧ Aside0 (kq ≤ k) ∧ Aside0 (Kd.R (Kd.int .u64) 26 w' w.heap.size (fun _ => True) v163 x6_1) ∧ Aside0 (Below w.heap.size w w'))
        case atStart => exact ⟨(y162), (0), (0), (by first | rfl | (simp; done) | (simp [*]; done)), (by first | rfl | (simp; done) | (simp [*]; done)), H', ⟨Nat.le_refl _⟩, ⟨by (with_reducible repeat (first | apply Kd.R_alloc | apply Kd.R_drewN | apply Kd.R_drew)); exact HO164.out⟩, ⟨by repeat (first | (with_reducible first | exact HB.out | apply below_alloc | apply pw_below_drewN | apply below_drew1) | exact HB.out)⟩⟩
        case round =>
          clear H'
          (try clear c1); (try clear p2); (try clear c4); (try clear c5); (try clear c5b0); (try clear c5b1); (try clear c6); (try clear c6b0); (try clear c6b1); (try clear p6)
          obtain ⟨x6_1, x7_1, x8_1, rfl, rfl, HA, HK1, HO_6, HB⟩ := hrel
          cases gk with
          | zero => exact absurd HA.out (by simp [tenorref1_AddDigits.l0])
          | succ k1 =>
            have H := HA.out
            clear HA
            simp only [tenorref1_AddDigits.l0] at H
            by_cases c9 : x8_1 < ji4
            · rw [if_pos c9] at H
              have c9b0 : decide (x8_1 < ji4) = true := decide_eq_true c9
              clear c9
              replace H := Option.bind_eq_some_iff.mp H
              obtain ⟨t165, A100, H⟩ := H
              replace H : ((tenorref1_digit.f l1 x8_1).bind fun t166 => (if 0 ≤ x8_1 then (if x8_1 < (x6_1.length : Int) then (tenorref1_AddDigits.l0 k1 l0 l1 ji4 (x6_1.set (x8_1 : Int).toNat (Int.tmod (IntKind.u64.wrap ((IntKind.u64.wrap (t165 + t166)) + x7_1)) 4294967296)) (IntKind.u64.wrap (Int.tdiv (IntKind.u64.wrap ((IntKind.u64.wrap (t165 + t166)) + x7_1)) 4294967296)) (wrap64 (x8_1 + 1))) else (none)) else (none))) = some r := H
              have A10 := Aside0.mk A100
              clear A100
              replace H := Option.bind_eq_some_iff.mp H
              obtain ⟨t166, A110, H⟩ := H
              replace H : (if 0 ≤ x8_1 then (if x8_1 < (x6_1.length : Int) then (tenorref1_AddDigits.l0 k1 l0 l1 ji4 (x6_1.set (x8_1 : Int).toNat (Int.tmod (IntKind.u64.wrap ((IntKind.u64.wrap (t165 + t166)) + x7_1)) 4294967296)) (IntKind.u64.wrap (Int.tdiv (IntKind.u64.wrap ((IntKind.u64.wrap (t165 + t166)) + x7_1)) 4294967296)) (wrap64 (x8_1 + 1))) else (none)) else (none)) = some r := H
              have A11 := Aside0.mk A110
              clear A110
              by_cases c12 : 0 ≤ x8_1
              · rw [if_pos c12] at H
                have c12b0 : decide (0 ≤ x8_1) = true := decide_eq_true c12
                clear c12
                by_cases c13 : x8_1 < (x6_1.length : Int)
                · rw [if_pos c13] at H
                  have c13b0 : decide (x8_1 < (x6_1.length : Int)) = true := decide_eq_true c13
                  clear c13
                  obtain ⟨y167, hy167⟩ : ∃ y_ : List Int, y_ = (x6_1.set (x8_1 : Int).toNat (Int.tmod (IntKind.u64.wrap ((IntKind.u64.wrap (t165 + t166)) + x7_1)) 4294967296)) := ⟨_, rfl⟩
                  replace H : (tenorref1_AddDigits.l0 k1 l0 l1 ji4 y167 (IntKind.u64.wrap (Int.tdiv (IntKind.u64.wrap ((IntKind.u64.wrap (t165 + t166)) + x7_1)) 4294967296)) (wrap64 (x8_1 + 1))) = some r := by first | (rw [hy167]; with_reducible exact H) | (have H2_ := (Option.bind_some _ _).symm.trans H; rw [hy167]; with_reducible exact H2_) | (have H2_ := (Option.bind_some _ _).symm.trans H; with_reducible exact H2_) | with_reducible exact H | (rw [hy167]; exact H) | exact H
                  have Ny167 := Aside0.mk hy167
                  clear hy167
                  have H' := Aside0.mk H
                  clear H
                  go_wp2_with (first | ((with_reducible refine gate_callee (f := 69) rfl ?_); refine goesL_ (some 25) rfl rfl Tryz.func69 (by kernel_rfl) rfl #[.slice A0 l0.length c0, .int .i64 x8_1] rfl (by (try simp only [List.map_toArray, List.map_cons, List.map_nil]); first | done | rfl | (simp only [List.length_drop, List.length_take]; rfl)) ?_; (with_reducible refine (tenorref1_digit.calls _ _ l0 x8_1 t165 _ ?side1 ?side2 A10.out).mono ?_); (case side1 => repeat (first | exact (Kd.C_below HR0.out HB.out) | (with_reducible refine Kd.C_alloc ?_ _) | (with_reducible refine Kd.C_drewN ?_ _) | (with_reducible refine Kd.C_drew ?_))); (case side2 => exact HC0.out); rintro e w' ⟨rfl, ⟨nd, rfl⟩⟩; refine ⟨_, rfl, ?_⟩; (try (rw [drewN_self wr]; generalize hq_ : World.drewN wr _ = wr; have n0_ : Aside0 (Kd.R (Kd.int .u64) 26 wr w.heap.size (fun _ => True) v163 x6_1) := ⟨by rw [← hq_]; exact (by (with_reducible repeat (first | apply Kd.R_alloc | apply Kd.R_drewN | apply Kd.R_drew)); exact HO_6.out)⟩; have n1_ : Aside0 (Below w.heap.size w wr) := ⟨by rw [← hq_]; exact (by repeat (first | (with_reducible first | exact HB.out | apply below_alloc | apply pw_below_drewN | apply below_drew1) | exact HB.out))⟩; clear HO_6 HB hq_; have HO_6 := n0_; have HB := n1_; clear n0_ n1_))) | ((with_reducible refine gate_callee (f := 69) rfl ?_); refine goesL_ (some 28) rfl rfl Tryz.func69 (by kernel_rfl) rfl #[.slice A1 l1.length c1, .int .i64 x8_1] rfl (by (try simp only [List.map_toArray, List.map_cons, List.map_nil]); first | done | rfl | (simp only [List.length_drop, List.length_take]; rfl)) ?_; (with_reducible refine (tenorref1_digit.calls _ _ l1 x8_1 t166 _ ?side1 ?side2 A11.out).mono ?_); (case side1 => repeat (first | exact (Kd.C_below HR1.out HB.out) | (with_reducible refine Kd.C_alloc ?_ _) | (with_reducible refine Kd.C_drewN ?_ _) | (with_reducible refine Kd.C_drew ?_))); (case side2 => exact HC1.out); rintro e w' ⟨rfl, ⟨nd, rfl⟩⟩; refine ⟨_, rfl, ?_⟩; (try (rw [drewN_self wr]; generalize hq_ : World.drewN wr _ = wr; have n0_ : Aside0 (Kd.R (Kd.int .u64) 26 wr w.heap.size (fun _ => True) v163 x6_1) := ⟨by rw [← hq_]; exact (by (with_reducible repeat (first | apply Kd.R_alloc | apply Kd.R_drewN | apply Kd.R_drew)); exact HO_6.out)⟩; have n1_ : Aside0 (Below w.heap.size w wr) := ⟨by rw [← hq_]; exact (by repeat (first | (with_reducible first | exact HB.out | apply below_alloc | apply pw_below_drewN | apply below_drew1) | exact HB.out))⟩; clear HO_6 HB hq_; have HO_6 := n0_; have HB := n1_; clear n0_ n1_)); have p14 : 0 ≤ (x8_1 : Int) := of_decide_eq_true (by first | (with_reducible assumption) | assumption); have q14 : (x8_1 : Int) < ((x6_1.length : Int) : Int) := of_decide_eq_true (by first | (with_reducible assumption) | assumption); obtain ⟨go14, co14, eo14, gb14, gl14, cl14, HG14⟩ := Kd.R_form HO_6.out (by omega); (first | cases eo14 | (injection eo14 with ea_ en_ ec_; (first | subst ea_ | (injection ea_ with ea_; subst ea_)); subst ec_; clear en_)); have GB14 := Aside0.mk gb14; have GG14 := Aside0.mk HG14; clear gb14 gl14 HG14; obtain ⟨hx14_0, hf14_0⟩ := Kd.R_celln 0 HO_6.out (x8_1 : Int) p14 q14; replace p14 := eq_true p14; replace q14 := eq_true q14; obtain ⟨hy15_, hz15_⟩ := Kd.R_celln 0 HO_6.out (x8_1 : Int) (of_decide_eq_true (by first | (with_reducible assumption) | assumption)) (of_decide_eq_true (by first | (with_reducible assumption) | assumption)); have HP15 := Kd.R_putg HO_6.out (x8_1 : Int) (Int.tmod (IntKind.u64.wrap ((IntKind.u64.wrap (t165 + t166)) + x7_1)) 4294967296)) | ((with_reducible refine gate_store (t := 26) (p := 36) rfl ?_); refine store_event (t := 26) (p := 36) (v := ?vo_w16) (w1 := (wr.setCell ⟨go14, (x8_1 : Int).toNat, none⟩ (.int .u64 (Int.tmod (IntKind.u64.wrap ((IntKind.u64.wrap (t165 + t166)) + x7_1)) 4294967296)))) ?hg ?ho ?hn ?hr ?_; (case ho => rfl); (case hg => rfl); (case hn => rfl); (case hr => first | (go_simp; done) | (go_simp; rfl)); intro w16 hw; have hg : wr.grownBy w16 (some go14) := (by rw [hw]; exact HP15.2); have hp_ : Kd.R (Kd.int .u64) 26 w16 w.heap.size (fun _ => True) (.slice (some ⟨go14, 0, none⟩) x6_1.length co14) y167 := (by rw [hw, Ny167.out]; exact HP15.1); clear HP15; have n0_ := Aside0.mk (hp_); have n1_ := Aside0.mk ((by rw [hw]; exact below_set (HB.out) GB14.out : Below w.heap.size w w16)); clear HO_6; clear HB; have HO_6 := n0_; have HB := n1_; clear n0_ n1_; clear hg hw hp_))
                  go_roundg k1
                  case measure => have := HK1.out; omega
                  case rel => exact ⟨(y167), (IntKind.u64.wrap (Int.tdiv (IntKind.u64.wrap ((IntKind.u64.wrap (t165 + t166)) + x7_1)) 4294967296)), (wrap64 (x8_1 + 1)), (by first | rfl | (simp; done) | (simp [*]; done)), (by first | rfl | (simp; done) | (simp [*]; done)), H', ⟨by have := HK1.out; omega⟩, ⟨by (with_reducible repeat (first | apply Kd.R_alloc | apply Kd.R_drewN | apply Kd.R_drew)); exact HO_6.out⟩, ⟨by repeat (first | (with_reducible first | exact HB.out | apply below_alloc | apply pw_below_drewN | apply below_drew1) | exact HB.out)⟩⟩
                rw [if_neg c13] at H
                exact absurd H (by simp)
              rw [if_neg c12] at H
              exact absurd H (by simp)
            rw [if_neg c9] at H
            have c9b0 : decide (x8_1 < ji4) = false := decide_eq_false c9
            clear c9
            replace H := Option.bind_eq_some_iff.mp H
            obtain ⟨t168, A170, H⟩ := H
            replace H : (some t168) = some r := H
            have A17 := Aside0.mk A170
            clear A170
            obtain rfl := Option.some.inj H
            obtain ⟨Ao18, co18, eo18⟩ := Kd.R_slice HO_6.out
            subst eo18
            go_wp2_with (first | ((with_reducible refine gate_callee (f := 68) rfl ?_); refine goesL_ (some 40) rfl rfl Tryz.func68 (by kernel_rfl) rfl #[.slice Ao18 x6_1.length co18] rfl (by (try simp only [List.map_toArray, List.map_cons, List.map_nil]); first | done | rfl | (simp only [List.length_drop, List.length_take]; rfl)) ?_; (with_reducible refine (tenorref1_trim.calls k1 (fun k_ => some k_ = (.slice Ao18 x6_1.length co18 : Value).ownBlock) (.slice Ao18 x6_1.length co18) x6_1 t168 w _ ?side1 ?side2 A17.out).mono ?_); (case side1 => repeat (first | (with_reducible first | exact HB.out | apply below_alloc | apply pw_below_drewN | apply below_drew1) | exact HB.out)); (case side2 => exact Kd.R_tight rfl HO_6.out); rintro e w19 ⟨v169, rfl, ho0, hb, hkp⟩; refine ⟨_, rfl, ?_⟩; have n0_ := Aside0.mk (Kd.R_mono (ok' := fun k_ => True) ho0 (fun k_ hk_ => trivial)); have n1_ := Aside0.mk (hb); clear HB; clear HO_6; have HO170 := n0_; have HB := n1_; clear n0_ n1_; (try clear hb); (try clear hkp); (try clear ho0)))
            go_ret
            exact ⟨_, by first | rfl | (simp [errW_none, errW_some] <;> rfl) | (simp only [← hji3, ← hji4]; first | rfl | (simp [errW_none, errW_some] <;> rfl)) | (simp [*, errW_none, errW_some] <;> rfl), by (with_reducible repeat (first | apply Kd.R_alloc | apply Kd.R_drewN | apply Kd.R_drew)); exact HO170.out, by repeat (first | (with_reducible first | exact HB.out | apply below_alloc | apply pw_below_drewN | apply below_drew1) | exact HB.out)⟩
    rw [if_neg c6] at H
    exact absurd H (by simp)
  rw [if_neg c5] at H
  exact absurd H (by simp)
end Go.Proofs.YtjpiplplohapnaaGreatDoor.PText
namespace Go.Proofs.YtjpiplplohapnaaGreatDoor.PText
open Go.RowKit Go.Proofs.YtjpiplplohapnaaGreatDoorW.PrintWords Go.Proofs.YtjpiplplohapnaaGreatDoorW.PrintLast Go.Proofs.YtjpiplplohapnaaGreatDoorW.PrintMore
attribute [local go_sem] max2_int min2_int max_two min_two max_three min_three max_four min_four
set_option linter.unusedVariables false
set_option linter.unusedSimpArgs false
mutual
def tenorref1_MulDigits.l0 : Nat → List Int → List Int → List Int → Int → Option (List Int)
  | 0, _, _, _, _ => none
  | k + 1, x0, x1, x5, x6 => if x6 < (x0.length : Int) then (tenorref1_MulDigits.l1 k x0 x1 x5 x6 0 0) else ((tenorref1_trim.f k x5).bind fun t152 => (some t152))
def tenorref1_MulDigits.l1 : Nat → List Int → List Int → List Int → Int → Int → Int → Option (List Int)
  | 0, _, _, _, _, _, _ => none
  | k + 1, x0, x1, x5, x6, x7, x8 => if x8 < (x1.length : Int) then (if 0 ≤ (wrap64 (x6 + x8)) then (if (wrap64 (x6 + x8)) < (x5.length : Int) then (if 0 ≤ x6 then (if x6 < (x0.length : Int) then (if 0 ≤ x8 then (tenorref1_MulDigits.l1 k x0 x1 (x5.set ((wrap64 (x6 + x8)) : Int).toNat (Int.tmod (IntKind.u64.wrap ((IntKind.u64.wrap ((rd x5 (wrap64 (x6 + x8))) + (IntKind.u64.wrap ((rd x0 x6) * (rd x1 x8))))) + x7)) 4294967296)) x6 (IntKind.u64.wrap (Int.tdiv (IntKind.u64.wrap ((IntKind.u64.wrap ((rd x5 (wrap64 (x6 + x8))) + (IntKind.u64.wrap ((rd x0 x6) * (rd x1 x8))))) + x7)) 4294967296)) (wrap64 (x8 + 1))) else (none)) else (none)) else (none)) else (none)) else (none)) else (if 0 ≤ (wrap64 (x6 + (x1.length : Int))) then (if (wrap64 (x6 + (x1.length : Int))) < (x5.length : Int) then (tenorref1_MulDigits.l0 k x0 x1 (x5.set ((wrap64 (x6 + (x1.length : Int))) : Int).toNat (IntKind.u64.wrap ((rd x5 (wrap64 (x6 + (x1.length : Int)))) + x7))) (wrap64 (x6 + 1))) else (none)) else (none))
end
def tenorref1_MulDigits.f (k : Nat) (l0 : List Int) (l1 : List Int) : Option (List Int) := if 0 ≤ (wrap64 ((wrap64 ((l0.length : Int) + (l1.length : Int))) + 1)) then (if (wrap64 ((wrap64 ((l0.length : Int) + (l1.length : Int))) + 1) : Int).toNat ≤ 35184372088832 then (tenorref1_MulDigits.l0 k l0 l1 (List.replicate (wrap64 ((wrap64 ((l0.length : Int) + (l1.length : Int))) + 1) : Int).toNat 0) 0) else (none)) else (none)
set_option maxHeartbeats 8000000 in
set_option maxRecDepth 100000 in
theorem tenorref1_MulDigits.calls (k : Nat) (A0 : Option Addr) (c0 : Nat) (l0 : List Int) (A1 : Option Addr) (c1 : Nat) (l1 : List Int) (r : List Int) (w : World) (hr0 : Kd.C (Kd.int .u64) w A0 l0.length l0) (hc0 : l0.length ≤ c0) (hr1 : Kd.C (Kd.int .u64) w A1 l1.length l1) (hc1 : l1.length ≤ c1) (h : tenorref1_MulDigits.f k l0 l1 = some r) :
    Calls Tryz.prog 35 #[.slice A0 l0.length c0, .slice A1 l1.length c1] w fun e w' => ∃ v0_ : Value, e = .returned (v0_) ∧ Kd.R (Kd.int .u64) 26 w' w.heap.size (fun _ => True) v0_ r ∧ Below w.heap.size w w' := by
  have HR0 := Aside0.mk hr0
  have HC0 := Aside0.mk hc0
  clear hr0 hc0
  have HR1 := Aside0.mk hr1
  have HC1 := Aside0.mk hc1
  clear hr1 hc1
  have HB := Aside0.mk (Below.refl w.heap.size w)
  have H : (if 0 ≤ (wrap64 ((wrap64 ((l0.length : Int) + (l1.length : Int))) + 1)) then (if (wrap64 ((wrap64 ((l0.length : Int) + (l1.length : Int))) + 1) : Int).toNat ≤ 35184372088832 then (tenorref1_MulDigits.l0 k l0 l1 (List.replicate (wrap64 ((wrap64 ((l0.length : Int) + (l1.length : Int))) + 1) : Int).toNat 0) 0) else (none)) else (none)) = some r := h
  clear h
  obtain ⟨ji3, hji3⟩ : ∃ j_ : Int, (wrap64 ((wrap64 ((l0.length : Int) + (l1.length : Int))) + 1)) = j_ := ⟨_, rfl⟩
  replace H : (if 0 ≤ (ji3) then (if (ji3 : Int).toNat ≤ 35184372088832 then (tenorref1_MulDigits.l0 k l0 l1 (List.replicate (ji3 : Int).toNat 0) 0) else (none)) else (none)) = some r := by first | (rw [hji3] at H; exact H) | (simp only [hji3] at H ⊢; exact H)
  have hji3w : (IntKind.i64.wrap ((wrap64 ((l0.length : Int) + (l1.length : Int))) + 1)) = ji3 := (i64_w _).trans hji3
  by_cases c4 : 0 ≤ (ji3)
  · rw [if_pos c4] at H
    have c4b0 := eq_true c4
    have c4b1 : decide (0 ≤ (ji3)) = true := decide_eq_true c4
    clear c4
    by_cases c5 : (ji3 : Int).toNat ≤ 35184372088832
    · rw [if_pos c5] at H
      have c5b0 := eq_true c5
      have c5b1 : decide ((ji3 : Int).toNat ≤ 35184372088832) = true := decide_eq_true c5
      clear c5
      obtain ⟨y149, hy149⟩ : ∃ y_ : List Int, y_ = (List.replicate (ji3 : Int).toNat 0) := ⟨_, rfl⟩
      replace H : (tenorref1_MulDigits.l0 k l0 l1 y149 0) = some r := by first | (rw [hy149]; with_reducible exact H) | (have H2_ := (Option.bind_some _ _).symm.trans H; rw [hy149]; with_reducible exact H2_) | (have H2_ := (Option.bind_some _ _).symm.trans H; with_reducible exact H2_) | with_reducible exact H | (rw [hy149]; exact H) | exact H
      have Ny149 := Aside0.mk hy149
      clear hy149
      have H' := Aside0.mk H
      clear H
      go_enter Tryz.func35, Tryz.ntmps35
      go_wp2_with (first | ((with_reducible refine gate_dst (N := 16) rfl ?_); refine Kd.R_make (Kd.int .u64) _ 26 rfl (N := 16) rfl 51 _ _ rfl ji3 rfl rfl Tryz.underlying51 (.int .u64 0) 8 info26 rfl (by decide) (by omega) 0 (ok := fun _ => True) (okp := fun _ => True) rfl (fun _ hk => hk) trivial (of_decide_eq_true (by first | (with_reducible assumption) | assumption)) (Nat.le_trans (Nat.mul_le_mul_right _ (of_decide_eq_true (by first | (with_reducible assumption) | assumption) : ji3.toNat ≤ 35184372088832)) (by omega)) (Below.refl _ _) (Nat.le_refl _) ?_; intro v150 w6 ho7 hb hg_ hnew_; clear hg_ hnew_; (first | rw [← Ny149.out] at ho7 | (simp only [Int.reduceToNat] at ho7; rw [← Ny149.out] at ho7)); have n0_ := Aside0.mk (Kd.R_lower ho7 (below_size (by repeat (first | (with_reducible first | exact HB.out | apply below_alloc | apply pw_below_drewN | apply below_drew1) | exact HB.out)))); have n1_ := Aside0.mk (below_step (by repeat (first | (with_reducible first | exact HB.out | apply below_alloc | apply pw_below_drewN | apply below_drew1) | exact HB.out)) hb); clear HB; have HO151 := n0_; have HB := n1_; clear n0_ n1_; clear hb ho7))
      repeat (go_quiet (first | ((with_reducible refine gate_dst (N := 16) rfl ?_); refine Kd.R_make (Kd.int .u64) _ 26 rfl (N := 16) rfl 51 _ _ rfl ji3 rfl rfl Tryz.underlying51 (.int .u64 0) 8 info26 rfl (by decide) (by omega) 0 (ok := fun _ => True) (okp := fun _ => True) rfl (fun _ hk => hk) trivial (of_decide_eq_true (by first | (with_reducible assumption) | assumption)) (Nat.le_trans (Nat.mul_le_mul_right _ (of_decide_eq_true (by first | (with_reducible assumption) | assumption) : ji3.toNat ≤ 35184372088832)) (by omega)) (Below.refl _ _) (Nat.le_refl _) ?_; intro v150 w6 ho7 hb hg_ hnew_; clear hg_ hnew_; (first | rw [← Ny149.out] at ho7 | (simp only [Int.reduceToNat] at ho7; rw [← Ny149.out] at ho7)); have n0_ := Aside0.mk (Kd.R_lower ho7 (below_size (by repeat (first | (with_reducible first | exact HB.out | apply below_alloc | apply pw_below_drewN | apply below_drew1) | exact HB.out)))); have n1_ := Aside0.mk (below_step (by repeat (first | (with_reducible first | exact HB.out | apply below_alloc | apply pw_below_drewN | apply below_drew1) | exact HB.out)) hb); clear HB; have HO151 := n0_; have HB := n1_; clear n0_ n1_; clear hb ho7)); try go_wp2_with (first | ((with_reducible refine gate_dst (N := 16) rfl ?_); refine Kd.R_make (Kd.int .u64) _ 26 rfl (N := 16) rfl 51 _ _ rfl ji3 rfl rfl Tryz.underlying51 (.int .u64 0) 8 info26 rfl (by decide) (by omega) 0 (ok := fun _ => True) (okp := fun _ => True) rfl (fun _ hk => hk) trivial (of_decide_eq_true (by first | (with_reducible assumption) | assumption)) (Nat.le_trans (Nat.mul_le_mul_right _ (of_decide_eq_true (by first | (with_reducible assumption) | assumption) : ji3.toNat ≤ 35184372088832)) (by omega)) (Below.refl _ _) (Nat.le_refl _) ?_; intro v150 w6 ho7 hb hg_ hnew_; clear hg_ hnew_; (first | rw [← Ny149.out] at ho7 | (simp only [Int.reduceToNat] at ho7; rw [← Ny149.out] at ho7)); have n0_ := Aside0.mk (Kd.R_lower ho7 (below_size (by repeat (first | (with_reducible first | exact HB.out | apply below_alloc | apply pw_below_drewN | apply below_drew1) | exact HB.out)))); have n1_ := Aside0.mk (below_step (by repeat (first | (with_reducible first | exact HB.out | apply below_alloc | apply pw_below_drewN | apply below_drew1) | exact HB.out)) hb); clear HB; have HO151 := n0_; have HB := n1_; clear n0_ n1_; clear hb ho7)))
      go_loopg [6] k (fun kq v6 w' => ∃ (x5_1 : List Int) (x6_1 : Int), v6 = .int .i64 x6_1 ∧ Aside0 (tenorref1_MulDigits.l0 kq l0 l1 x5_1 x6_1 = some r) ∧ Aside0 (kq ≤ k) ∧ Aside0 (Kd.R (Kd.int .u64) 26 w' w.heap.size (fun _ => True) v150 x5_1) ∧ Aside0 (Below w.heap.size w w'))
      case atStart => exact ⟨(y149), (0), (by first | rfl | (simp; done) | (simp [*]; done)), H', ⟨Nat.le_refl _⟩, ⟨by (with_reducible repeat (first | apply Kd.R_alloc | apply Kd.R_drewN | apply Kd.R_drew)); exact HO151.out⟩, ⟨by repeat (first | (with_reducible first | exact HB.out | apply below_alloc | apply pw_below_drewN | apply below_drew1) | exact HB.out)⟩⟩
      case round =>
        clear H'
        (try clear c1); (try clear p2); (try clear c3); (try clear c4); (try clear c4b0); (try clear c4b1); (try clear c5); (try clear c5b0); (try clear c5b1); (try clear p6)
        obtain ⟨x5_1, x6_1, rfl, HA, HK1, HO_5, HB⟩ := hrel
        cases gk with
        | zero => exact absurd HA.out (by simp [tenorref1_MulDigits.l0])
        | succ k1 =>
          have H := HA.out
          clear HA
          simp only [tenorref1_MulDigits.l0] at H
          by_cases c8 : x6_1 < (l0.length : Int)
          · rw [if_pos c8] at H
            have c8b0 : decide (x6_1 < (l0.length : Int)) = true := decide_eq_true c8
            clear c8
            have H' := Aside0.mk H
            clear H
            go_wp2
            repeat (go_quiet (fail); try go_wp2)
            go_loopg [7, 8] k1 (fun kq v7 v8 w' => ∃ (x5_2 : List Int) (x7_2 : Int) (x8_2 : Int), v7 = .int .u64 x7_2 ∧ v8 = .int .i64 x8_2 ∧ Aside0 (tenorref1_MulDigits.l1 kq l0 l1 x5_2 x6_1 x7_2 x8_2 = some r) ∧ Aside0 (kq ≤ k1) ∧ Aside0 (Kd.R (Kd.int .u64) 26 w' w.heap.size (fun _ => True) v150 x5_2) ∧ Aside0 (Below w.heap.size w w'))
            case atStart => exact ⟨(x5_1), (0), (0), (by first | rfl | (simp; done) | (simp [*]; done)), (by first | rfl | (simp; done) | (simp [*]; done)), H', ⟨Nat.le_refl _⟩, ⟨by (with_reducible repeat (first | apply Kd.R_alloc | apply Kd.R_drewN | apply Kd.R_drew)); exact HO_5.out⟩, ⟨by repeat (first | (with_reducible first | exact HB.out | apply below_alloc | apply pw_below_drewN | apply below_drew1) | exact HB.out)⟩⟩
            case round =>
              clear H'
              (try clear c1); (try clear p2); (try clear c3); (try clear c4); (try clear c4b0); (try clear c4b1); (try clear c5); (try clear c5b0); (try clear c5b1); (try clear p6); (try clear c8); (try clear c8b0); (try clear p2); (try clear p6)
              obtain ⟨x5_2, x7_2, x8_2, rfl, rfl, HA, HK2, HO_5, HB⟩ := hrel
              cases gk with
              | zero => exact absurd HA.out (by simp [tenorref1_MulDigits.l1])
              | succ k2 =>
                have H := HA.out
                clear HA
                simp only [tenorref1_MulDigits.l1] at H
                by_cases c9 : x8_2 < (l1.length : Int)
                · rw [if_pos c9] at H
                  have c9b0 : decide (x8_2 < (l1.length : Int)) = true := decide_eq_true c9
                  clear c9
                  obtain ⟨ji10, hji10⟩ : ∃ j_ : Int, (wrap64 (x6_1 + x8_2)) = j_ := ⟨_, rfl⟩
                  replace H : (if 0 ≤ (ji10) then (if (ji10) < (x5_2.length : Int) then (if 0 ≤ x6_1 then (if x6_1 < (l0.length : Int) then (if 0 ≤ x8_2 then (tenorref1_MulDigits.l1 k2 l0 l1 (x5_2.set ((ji10) : Int).toNat (Int.tmod (IntKind.u64.wrap ((IntKind.u64.wrap ((rd x5_2 (ji10)) + (IntKind.u64.wrap ((rd l0 x6_1) * (rd l1 x8_2))))) + x7_2)) 4294967296)) x6_1 (IntKind.u64.wrap (Int.tdiv (IntKind.u64.wrap ((IntKind.u64.wrap ((rd x5_2 (ji10)) + (IntKind.u64.wrap ((rd l0 x6_1) * (rd l1 x8_2))))) + x7_2)) 4294967296)) (wrap64 (x8_2 + 1))) else (none)) else (none)) else (none)) else (none)) else (none)) = some r := by first | (rw [hji10] at H; exact H) | (simp only [hji10] at H ⊢; exact H)
                  have hji10w : (IntKind.i64.wrap (x6_1 + x8_2)) = ji10 := (i64_w _).trans hji10
                  by_cases c11 : 0 ≤ (ji10)
                  · rw [if_pos c11] at H
                    have c11b0 : decide (0 ≤ (ji10)) = true := decide_eq_true c11
                    clear c11
                    by_cases c12 : (ji10) < (x5_2.length : Int)
                    · rw [if_pos c12] at H
                      have c12b0 : decide ((ji10) < (x5_2.length : Int)) = true := decide_eq_true c12
                      clear c12
                      by_cases c13 : 0 ≤ x6_1
                      · rw [if_pos c13] at H
                        have c13b0 : decide (0 ≤ x6_1) = true := decide_eq_true c13
                        clear c13
                        by_cases c14 : x6_1 < (l0.length : Int)
                        · rw [if_pos c14] at H
                          have c14b0 : decide (x6_1 < (l0.length : Int)) = true := decide_eq_true c14
                          clear c14
                          by_cases c15 : 0 ≤ x8_2
                          · rw [if_pos c15] at H
                            have c15b0 : decide (0 ≤ x8_2) = true := decide_eq_true c15
                            clear c15
                            obtain ⟨y158, hy158⟩ : ∃ y_ : List Int, y_ = (x5_2.set ((ji10) : Int).toNat (Int.tmod (IntKind.u64.wrap ((IntKind.u64.wrap ((rd x5_2 (ji10)) + (IntKind.u64.wrap ((rd l0 x6_1) * (rd l1 x8_2))))) + x7_2)) 4294967296)) := ⟨_, rfl⟩
                            replace H : (tenorref1_MulDigits.l1 k2 l0 l1 y158 x6_1 (IntKind.u64.wrap (Int.tdiv (IntKind.u64.wrap ((IntKind.u64.wrap ((rd x5_2 (ji10)) + (IntKind.u64.wrap ((rd l0 x6_1) * (rd l1 x8_2))))) + x7_2)) 4294967296)) (wrap64 (x8_2 + 1))) = some r := by first | (rw [hy158]; with_reducible exact H) | (have H2_ := (Option.bind_some _ _).symm.trans H; rw [hy158]; with_reducible exact H2_) | (have H2_ := (Option.bind_some _ _).symm.trans H; with_reducible exact H2_) | with_reducible exact H | (rw [hy158]; exact H) | exact H
                            have Ny158 := Aside0.mk hy158
                            clear hy158
                            have H' := Aside0.mk H
                            clear H
                            obtain ⟨Ao17, co17, eo17⟩ := Kd.R_slice HO_5.out
                            subst eo17
                            have p155 : 0 ≤ ((ji10) : Int) := of_decide_eq_true (by first | (with_reducible assumption) | assumption)
                            have q155 : (ji10) < (x5_2.length : Int) := of_decide_eq_true (by first | (with_reducible assumption) | assumption)
                            obtain ⟨ad155, e155, hx155_0⟩ := Kd.at_int (Kd.R_reads' HO_5.out).2.2 (ji10) p155 q155
                            cases e155
                            replace p155 := eq_true p155
                            replace q155 := eq_true q155
                            have p156 : 0 ≤ (x6_1 : Int) := of_decide_eq_true (by first | (with_reducible assumption) | assumption)
                            have q156 : x6_1 < (l0.length : Int) := of_decide_eq_true (by first | (with_reducible assumption) | assumption)
                            obtain ⟨ad156, e156, hx156_0⟩ := Kd.at_int HR0.out x6_1 p156 q156
                            cases e156
                            replace hx156_0 := (HB.out.cell (World.block_lt_of_cell? w _ hx156_0)).trans hx156_0
                            replace p156 := eq_true p156
                            replace q156 := eq_true q156
                            have p157 : 0 ≤ (x8_2 : Int) := of_decide_eq_true (by first | (with_reducible assumption) | assumption)
                            have q157 : x8_2 < (l1.length : Int) := of_decide_eq_true (by first | (with_reducible assumption) | assumption)
                            obtain ⟨ad157, e157, hx157_0⟩ := Kd.at_int HR1.out x8_2 p157 q157
                            cases e157
                            replace hx157_0 := (HB.out.cell (World.block_lt_of_cell? w _ hx157_0)).trans hx157_0
                            replace p157 := eq_true p157
                            replace q157 := eq_true q157
                            have p16 : 0 ≤ ((ji10) : Int) := of_decide_eq_true (by first | (with_reducible assumption) | assumption)
                            have q16 : ((ji10) : Int) < ((x5_2.length : Int) : Int) := of_decide_eq_true (by first | (with_reducible assumption) | assumption)
                            obtain ⟨go16, co16, eo16, gb16, gl16, cl16, HG16⟩ := Kd.R_form HO_5.out (by omega)
                            (first | cases eo16 | (injection eo16 with ea_ en_ ec_; (first | subst ea_ | (injection ea_ with ea_; subst ea_)); subst ec_; clear en_))
                            have GB16 := Aside0.mk gb16
                            have GG16 := Aside0.mk HG16
                            clear gb16 gl16 HG16
                            (first | simp only [add_plain] at hx155_0 | skip)
                            obtain ⟨hx16_0, hf16_0⟩ := Kd.R_celln 0 HO_5.out ((ji10) : Int) p16 q16
                            replace p16 := eq_true p16
                            replace q16 := eq_true q16
                            have HP18 := Kd.R_putg HO_5.out ((ji10) : Int) (Int.tmod (IntKind.u64.wrap ((IntKind.u64.wrap ((rd x5_2 (ji10)) + (IntKind.u64.wrap ((rd l0 x6_1) * (rd l1 x8_2))))) + x7_2)) 4294967296)
                            go_wp2_with (first | ((with_reducible refine gate_store (t := 26) (p := 53) rfl ?_); (try (rw [drewN_self wr]; generalize hq_ : World.drewN wr _ = wr; have n0_ := Aside0.mk (Kd.R_at hq_ HO_5.out); have n1_ := Aside0.mk (below_at hq_ HB.out); clear hq_ HO_5 HB; have HO_5 := n0_; have HB := n1_; clear n0_ n1_; (try (have HP18 := Kd.R_putg HO_5.out ((ji10) : Int) (Int.tmod (IntKind.u64.wrap ((IntKind.u64.wrap ((rd x5_2 (ji10)) + (IntKind.u64.wrap ((rd l0 x6_1) * (rd l1 x8_2))))) + x7_2)) 4294967296))))); refine store_event (t := 26) (p := 53) (v := ?vo_w19) (w1 := (wr.setCell ⟨go16, ((ji10) : Int).toNat, none⟩ (.int .u64 (Int.tmod (IntKind.u64.wrap ((IntKind.u64.wrap ((rd x5_2 (ji10)) + (IntKind.u64.wrap ((rd l0 x6_1) * (rd l1 x8_2))))) + x7_2)) 4294967296)))) ?hg ?ho ?hn ?hr ?_; (case ho => rfl); (case hg => rfl); (case hn => rfl); (case hr => first | (go_simp; done) | (go_simp; rfl)); intro w19 hw; have hg : wr.grownBy w19 (some go16) := (by rw [hw]; exact HP18.2); have hp_ : Kd.R (Kd.int .u64) 26 w19 w.heap.size (fun _ => True) (.slice (some ⟨go16, 0, none⟩) x5_2.length co17) y158 := (by rw [hw, Ny158.out]; exact HP18.1); clear HP18; have n0_ := Aside0.mk (hp_); have n1_ := Aside0.mk ((by rw [hw]; exact below_set (HB.out) GB16.out : Below w.heap.size w w19)); clear HO_5; clear HB; have HO_5 := n0_; have HB := n1_; clear n0_ n1_; clear hg hw hp_))
                            repeat (go_quiet (first | ((with_reducible refine gate_store (t := 26) (p := 53) rfl ?_); (try (rw [drewN_self wr]; generalize hq_ : World.drewN wr _ = wr; have n0_ := Aside0.mk (Kd.R_at hq_ HO_5.out); have n1_ := Aside0.mk (below_at hq_ HB.out); clear hq_ HO_5 HB; have HO_5 := n0_; have HB := n1_; clear n0_ n1_; (try (have HP18 := Kd.R_putg HO_5.out ((ji10) : Int) (Int.tmod (IntKind.u64.wrap ((IntKind.u64.wrap ((rd x5_2 (ji10)) + (IntKind.u64.wrap ((rd l0 x6_1) * (rd l1 x8_2))))) + x7_2)) 4294967296))))); refine store_event (t := 26) (p := 53) (v := ?vo_w19) (w1 := (wr.setCell ⟨go16, ((ji10) : Int).toNat, none⟩ (.int .u64 (Int.tmod (IntKind.u64.wrap ((IntKind.u64.wrap ((rd x5_2 (ji10)) + (IntKind.u64.wrap ((rd l0 x6_1) * (rd l1 x8_2))))) + x7_2)) 4294967296)))) ?hg ?ho ?hn ?hr ?_; (case ho => rfl); (case hg => rfl); (case hn => rfl); (case hr => first | (go_simp; done) | (go_simp; rfl)); intro w19 hw; have hg : wr.grownBy w19 (some go16) := (by rw [hw]; exact HP18.2); have hp_ : Kd.R (Kd.int .u64) 26 w19 w.heap.size (fun _ => True) (.slice (some ⟨go16, 0, none⟩) x5_2.length co17) y158 := (by rw [hw, Ny158.out]; exact HP18.1); clear HP18; have n0_ := Aside0.mk (hp_); have n1_ := Aside0.mk ((by rw [hw]; exact below_set (HB.out) GB16.out : Below w.heap.size w w19)); clear HO_5; clear HB; have HO_5 := n0_; have HB := n1_; clear n0_ n1_; clear hg hw hp_)); try go_wp2_with (first | ((with_reducible refine gate_store (t := 26) (p := 53) rfl ?_); (try (rw [drewN_self wr]; generalize hq_ : World.drewN wr _ = wr; have n0_ := Aside0.mk (Kd.R_at hq_ HO_5.out); have n1_ := Aside0.mk (below_at hq_ HB.out); clear hq_ HO_5 HB; have HO_5 := n0_; have HB := n1_; clear n0_ n1_; (try (have HP18 := Kd.R_putg HO_5.out ((ji10) : Int) (Int.tmod (IntKind.u64.wrap ((IntKind.u64.wrap ((rd x5_2 (ji10)) + (IntKind.u64.wrap ((rd l0 x6_1) * (rd l1 x8_2))))) + x7_2)) 4294967296))))); refine store_event (t := 26) (p := 53) (v := ?vo_w19) (w1 := (wr.setCell ⟨go16, ((ji10) : Int).toNat, none⟩ (.int .u64 (Int.tmod (IntKind.u64.wrap ((IntKind.u64.wrap ((rd x5_2 (ji10)) + (IntKind.u64.wrap ((rd l0 x6_1) * (rd l1 x8_2))))) + x7_2)) 4294967296)))) ?hg ?ho ?hn ?hr ?_; (case ho => rfl); (case hg => rfl); (case hn => rfl); (case hr => first | (go_simp; done) | (go_simp; rfl)); intro w19 hw; have hg : wr.grownBy w19 (some go16) := (by rw [hw]; exact HP18.2); have hp_ : Kd.R (Kd.int .u64) 26 w19 w.heap.size (fun _ => True) (.slice (some ⟨go16, 0, none⟩) x5_2.length co17) y158 := (by rw [hw, Ny158.out]; exact HP18.1); clear HP18; have n0_ := Aside0.mk (hp_); have n1_ := Aside0.mk ((by rw [hw]; exact below_set (HB.out) GB16.out : Below w.heap.size w w19)); clear HO_5; clear HB; have HO_5 := n0_; have HB := n1_; clear n0_ n1_; clear hg hw hp_)))
                            go_roundg k2
                            case measure => have := HK1.out; have := HK2.out; omega
                            case rel => exact ⟨(y158), (IntKind.u64.wrap (Int.tdiv (IntKind.u64.wrap ((IntKind.u64.wrap ((rd x5_2 (ji10)) + (IntKind.u64.wrap ((rd l0 x6_1) * (rd l1 x8_2))))) + x7_2)) 4294967296)), (wrap64 (x8_2 + 1)), (by first | rfl | (simp; done) | (simp only [← hji10] <;> (first | rfl | simp)) | (simp [*]; done)), (by first | rfl | (simp; done) | (simp [*]; done)), H', ⟨by have := HK1.out; have := HK2.out; omega⟩, ⟨by (with_reducible repeat (first | apply Kd.R_alloc | apply Kd.R_drewN | apply Kd.R_drew)); first | exact HO_5.out | (rw [Ny158.out]; exact (Kd.R_putg (Kd.R_drewN HO_5.out _) ji10 _).1)⟩, ⟨by first | exact below_set (pw_below_drewN HB.out _) GB16.out | exact HB.out⟩⟩
                          rw [if_neg c15] at H
                          exact absurd H (by simp)
                        rw [if_neg c14] at H
                        exact absurd H (by simp)
                      rw [if_neg c13] at H
                      exact absurd H (by simp)
                    rw [if_neg c12] at H
                    exact absurd H (by simp)
                  rw [if_neg c11] at H
                  exact absurd H (by simp)
                rw [if_neg c9] at H
                have c9b0 : decide (x8_2 < (l1.length : Int)) = false := decide_eq_false c9
                clear c9
                obtain ⟨ji20, hji20⟩ : ∃ j_ : Int, (wrap64 (x6_1 + (l1.length : Int))) = j_ := ⟨_, rfl⟩
                replace H : (if 0 ≤ (ji20) then (if (ji20) < (x5_2.length : Int) then (tenorref1_MulDigits.l0 k2 l0 l1 (x5_2.set ((ji20) : Int).toNat (IntKind.u64.wrap ((rd x5_2 (ji20)) + x7_2))) (wrap64 (x6_1 + 1))) else (none)) else (none)) = some r := by first | (rw [hji20] at H; exact H) | (simp only [hji20] at H ⊢; exact H)
                have hji20w : (IntKind.i64.wrap (x6_1 + (l1.length : Int))) = ji20 := (i64_w _).trans hji20
                by_cases c21 : 0 ≤ (ji20)
                · rw [if_pos c21] at H
                  have c21b0 : decide (0 ≤ (ji20)) = true := decide_eq_true c21
                  clear c21
                  by_cases c22 : (ji20) < (x5_2.length : Int)
                  · rw [if_pos c22] at H
                    have c22b0 : decide ((ji20) < (x5_2.length : Int)) = true := decide_eq_true c22
                    clear c22
                    obtain ⟨y160, hy160⟩ : ∃ y_ : List Int, y_ = (x5_2.set ((ji20) : Int).toNat (IntKind.u64.wrap ((rd x5_2 (ji20)) + x7_2))) := ⟨_, rfl⟩
                    replace H : (tenorref1_MulDigits.l0 k2 l0 l1 y160 (wrap64 (x6_1 + 1))) = some r := by first | (rw [hy160]; with_reducible exact H) | (have H2_ := (Option.bind_some _ _).symm.trans H; rw [hy160]; with_reducible exact H2_) | (have H2_ := (Option.bind_some _ _).symm.trans H; with_reducible exact H2_) | with_reducible exact H | (rw [hy160]; exact H) | exact H
                    have Ny160 := Aside0.mk hy160
                    clear hy160
                    have H' := Aside0.mk H
                    clear H
                    obtain ⟨Ao24, co24, eo24⟩ := Kd.R_slice HO_5.out
                    subst eo24
                    have p159 : 0 ≤ ((ji20) : Int) := of_decide_eq_true (by first | (with_reducible assumption) | assumption)
                    have q159 : (ji20) < (x5_2.length : Int) := of_decide_eq_true (by first | (with_reducible assumption) | assumption)
                    obtain ⟨ad159, e159, hx159_0⟩ := Kd.at_int (Kd.R_reads' HO_5.out).2.2 (ji20) p159 q159
                    cases e159
                    replace p159 := eq_true p159
                    replace q159 := eq_true q159
                    have p23 : 0 ≤ ((ji20) : Int) := of_decide_eq_true (by first | (with_reducible assumption) | assumption)
                    have q23 : ((ji20) : Int) < ((x5_2.length : Int) : Int) := of_decide_eq_true (by first | (with_reducible assumption) | assumption)
                    obtain ⟨go23, co23, eo23, gb23, gl23, cl23, HG23⟩ := Kd.R_form HO_5.out (by omega)
                    (first | cases eo23 | (injection eo23 with ea_ en_ ec_; (first | subst ea_ | (injection ea_ with ea_; subst ea_)); subst ec_; clear en_))
                    have GB23 := Aside0.mk gb23
                    have GG23 := Aside0.mk HG23
                    clear gb23 gl23 HG23
                    (first | simp only [add_plain] at hx159_0 | skip)
                    obtain ⟨hx23_0, hf23_0⟩ := Kd.R_celln 0 HO_5.out ((ji20) : Int) p23 q23
                    replace p23 := eq_true p23
                    replace q23 := eq_true q23
                    have HP25 := Kd.R_putg HO_5.out ((ji20) : Int) (IntKind.u64.wrap ((rd x5_2 (ji20)) + x7_2))
                    go_wp2_with (first | ((with_reducible refine gate_store (t := 26) (p := 70) rfl ?_); (try (rw [drewN_self wr]; generalize hq_ : World.drewN wr _ = wr; have n0_ := Aside0.mk (Kd.R_at hq_ HO_5.out); have n1_ := Aside0.mk (below_at hq_ HB.out); clear hq_ HO_5 HB; have HO_5 := n0_; have HB := n1_; clear n0_ n1_; (try (have HP25 := Kd.R_putg HO_5.out ((ji20) : Int) (IntKind.u64.wrap ((rd x5_2 (ji20)) + x7_2)))))); refine store_event (t := 26) (p := 70) (v := ?vo_w26) (w1 := (wr.setCell ⟨go23, ((ji20) : Int).toNat, none⟩ (.int .u64 (IntKind.u64.wrap ((rd x5_2 (ji20)) + x7_2))))) ?hg ?ho ?hn ?hr ?_; (case ho => rfl); (case hg => rfl); (case hn => rfl); (case hr => first | (go_simp; done) | (go_simp; rfl)); intro w26 hw; have hg : wr.grownBy w26 (some go23) := (by rw [hw]; exact HP25.2); have hp_ : Kd.R (Kd.int .u64) 26 w26 w.heap.size (fun _ => True) (.slice (some ⟨go23, 0, none⟩) x5_2.length co24) y160 := (by rw [hw, Ny160.out]; exact HP25.1); clear HP25; have n0_ := Aside0.mk (hp_); have n1_ := Aside0.mk ((by rw [hw]; exact below_set (HB.out) GB23.out : Below w.heap.size w w26)); clear HO_5; clear HB; have HO_5 := n0_; have HB := n1_; clear n0_ n1_; clear hg hw hp_))
                    repeat (go_quiet (first | ((with_reducible refine gate_store (t := 26) (p := 70) rfl ?_); (try (rw [drewN_self wr]; generalize hq_ : World.drewN wr _ = wr; have n0_ := Aside0.mk (Kd.R_at hq_ HO_5.out); have n1_ := Aside0.mk (below_at hq_ HB.out); clear hq_ HO_5 HB; have HO_5 := n0_; have HB := n1_; clear n0_ n1_; (try (have HP25 := Kd.R_putg HO_5.out ((ji20) : Int) (IntKind.u64.wrap ((rd x5_2 (ji20)) + x7_2)))))); refine store_event (t := 26) (p := 70) (v := ?vo_w26) (w1 := (wr.setCell ⟨go23, ((ji20) : Int).toNat, none⟩ (.int .u64 (IntKind.u64.wrap ((rd x5_2 (ji20)) + x7_2))))) ?hg ?ho ?hn ?hr ?_; (case ho => rfl); (case hg => rfl); (case hn => rfl); (case hr => first | (go_simp; done) | (go_simp; rfl)); intro w26 hw; have hg : wr.grownBy w26 (some go23) := (by rw [hw]; exact HP25.2); have hp_ : Kd.R (Kd.int .u64) 26 w26 w.heap.size (fun _ => True) (.slice (some ⟨go23, 0, none⟩) x5_2.length co24) y160 := (by rw [hw, Ny160.out]; exact HP25.1); clear HP25; have n0_ := Aside0.mk (hp_); have n1_ := Aside0.mk ((by rw [hw]; exact below_set (HB.out) GB23.out : Below w.heap.size w w26)); clear HO_5; clear HB; have HO_5 := n0_; have HB := n1_; clear n0_ n1_; clear hg hw hp_)); try go_wp2_with (first | ((with_reducible refine gate_store (t := 26) (p := 70) rfl ?_); (try (rw [drewN_self wr]; generalize hq_ : World.drewN wr _ = wr; have n0_ := Aside0.mk (Kd.R_at hq_ HO_5.out); have n1_ := Aside0.mk (below_at hq_ HB.out); clear hq_ HO_5 HB; have HO_5 := n0_; have HB := n1_; clear n0_ n1_; (try (have HP25 := Kd.R_putg HO_5.out ((ji20) : Int) (IntKind.u64.wrap ((rd x5_2 (ji20)) + x7_2)))))); refine store_event (t := 26) (p := 70) (v := ?vo_w26) (w1 := (wr.setCell ⟨go23, ((ji20) : Int).toNat, none⟩ (.int .u64 (IntKind.u64.wrap ((rd x5_2 (ji20)) + x7_2))))) ?hg ?ho ?hn ?hr ?_; (case ho => rfl); (case hg => rfl); (case hn => rfl); (case hr => first | (go_simp; done) | (go_simp; rfl)); intro w26 hw; have hg : wr.grownBy w26 (some go23) := (by rw [hw]; exact HP25.2); have hp_ : Kd.R (Kd.int .u64) 26 w26 w.heap.size (fun _ => True) (.slice (some ⟨go23, 0, none⟩) x5_2.length co24) y160 := (by rw [hw, Ny160.out]; exact HP25.1); clear HP25; have n0_ := Aside0.mk (hp_); have n1_ := Aside0.mk ((by rw [hw]; exact below_set (HB.out) GB23.out : Below w.heap.size w w26)); clear HO_5; clear HB; have HO_5 := n0_; have HB := n1_; clear n0_ n1_; clear hg hw hp_)))
                    go_roundg k2
                    case measure => have := HK1.out; have := HK2.out; omega
                    case rel => exact ⟨(y160), (wrap64 (x6_1 + 1)), (by first | rfl | (simp; done) | (simp [*]; done)), H', ⟨by have := HK1.out; have := HK2.out; omega⟩, ⟨by (with_reducible repeat (first | apply Kd.R_alloc | apply Kd.R_drewN | apply Kd.R_drew)); exact HO_5.out⟩, ⟨by repeat (first | (with_reducible first | exact HB.out | apply below_alloc | apply pw_below_drewN | apply below_drew1) | exact HB.out)⟩⟩
                  rw [if_neg c22] at H
                  exact absurd H (by simp)
                rw [if_neg c21] at H
                exact absurd H (by simp)
          rw [if_neg c8] at H
          have c8b0 : decide (x6_1 < (l0.length : Int)) = false := decide_eq_false c8
          clear c8
          replace H := Option.bind_eq_some_iff.mp H
          obtain ⟨t152, A270, H⟩ := H
          replace H : (some t152) = some r := H
          have A27 := Aside0.mk A270
          clear A270
          obtain rfl := Option.some.inj H
          obtain ⟨Ao28, co28, eo28⟩ := Kd.R_slice HO_5.out
          subst eo28
          go_wp2_with (first | (go_at_call 68; (with_reducible refine (tenorref1_trim.calls k1 (fun k_ => some k_ = (.slice Ao28 x5_1.length co28 : Value).ownBlock) (.slice Ao28 x5_1.length co28) x5_1 t152 w _ ?side1 ?side2 A27.out).mono ?_); (case side1 => repeat (first | (with_reducible first | exact HB.out | apply below_alloc | apply pw_below_drewN | apply below_drew1) | exact HB.out)); (case side2 => exact Kd.R_tight rfl HO_5.out); rintro e w29 ⟨v153, rfl, ho0, hb, hkp⟩; have n0_ := Aside0.mk (Kd.R_mono (ok' := fun k_ => True) ho0 (fun k_ hk_ => trivial)); have n1_ := Aside0.mk (hb); clear HB; clear HO_5; have HO154 := n0_; have HB := n1_; clear n0_ n1_; (try clear hb); (try clear hkp); (try clear ho0)))
          repeat (go_quiet (first | (go_at_call 68; (with_reducible refine (tenorref1_trim.calls k1 (fun k_ => some k_ = (.slice Ao28 x5_1.length co28 : Value).ownBlock) (.slice Ao28 x5_1.length co28) x5_1 t152 w _ ?side1 ?side2 A27.out).mono ?_); (case side1 => repeat (first | (with_reducible first | exact HB.out | apply below_alloc | apply pw_below_drewN | apply below_drew1) | exact HB.out)); (case side2 => exact Kd.R_tight rfl HO_5.out); rintro e w29 ⟨v153, rfl, ho0, hb, hkp⟩; have n0_ := Aside0.mk (Kd.R_mono (ok' := fun k_ => True) ho0 (fun k_ hk_ => trivial)); have n1_ := Aside0.mk (hb); clear HB; clear HO_5; have HO154 := n0_; have HB := n1_; clear n0_ n1_; (try clear hb); (try clear hkp); (try clear ho0))); try go_wp2_with (first | (go_at_call 68; (with_reducible refine (tenorref1_trim.calls k1 (fun k_ => some k_ = (.slice Ao28 x5_1.length co28 : Value).ownBlock) (.slice Ao28 x5_1.length co28) x5_1 t152 w _ ?side1 ?side2 A27.out).mono ?_); (case side1 => repeat (first | (with_reducible first | exact HB.out | apply below_alloc | apply pw_below_drewN | apply below_drew1) | exact HB.out)); (case side2 => exact Kd.R_tight rfl HO_5.out); rintro e w29 ⟨v153, rfl, ho0, hb, hkp⟩; have n0_ := Aside0.mk (Kd.R_mono (ok' := fun k_ => True) ho0 (fun k_ hk_ => trivial)); have n1_ := Aside0.mk (hb); clear HB; clear HO_5; have HO154 := n0_; have HB := n1_; clear n0_ n1_; (try clear hb); (try clear hkp); (try clear ho0))))
          go_ret
          exact ⟨_, by first | rfl | (simp [errW_none, errW_some] <;> rfl) | (simp only [← hji3]; first | rfl | (simp [errW_none, errW_some] <;> rfl)) | (simp [*, errW_none, errW_some] <;> rfl), by (with_reducible repeat (first | apply Kd.R_alloc | apply Kd.R_drewN | apply Kd.R_drew)); exact HO154.out, by repeat (first | (with_reducible first | exact HB.out | apply below_alloc | apply pw_below_drewN | apply below_drew1) | exact HB.out)⟩
    rw [if_neg c5] at H
    exact absurd H (by simp)
  rw [if_neg c4] at H
  exact absurd H (by simp)
end Go.Proofs.YtjpiplplohapnaaGreatDoor.PText
namespace Go.Proofs.YtjpiplplohapnaaGreatDoor.Big
open Go.RowKit Go.Proofs.YtjpiplplohapnaaGreatDoorW.PrintWords Go.Proofs.YtjpiplplohapnaaGreatDoorW.PrintLast Go.Proofs.YtjpiplplohapnaaGreatDoorW.PrintMore
open Go.Proofs.YtjpiplplohapnaaGreatDoor.PText
abbrev top : Nat := 1000000000
theorem trim_l0 (L n : Nat) (hL : L ≤ top) (i : Nat) (hi : i ≤ L) (hn : n < B ^ i) : Ev (fun k => tenorref1_trim.l0 k (dgL L n) (i : Int)) (dg n) := by
  induction i with
  | zero =>
    refine Ev.step (f := fun _ => some (dg n)) (fun k => ?_) (Ev.now _)
    have : n = 0 := by simpa using hn
    subst this
    simp only [tenorref1_trim.l0]
    rw [if_neg (by omega), if_pos (by omega), if_pos (by simp)]
    simp [dg, ln_zero, dgL]
  | succ i ih =>
    have e : wrap64 (((i + 1 : Nat) : Int) - 1) = (i : Int) := by rw [w64 (by omega) (by unfold top at hL; omega)]; omega
    by_cases h0 : dig n i = 0
    · have hn' : n < B ^ i := by
        have := split_at n i
        rw [h0, Nat.div_eq_of_lt hn] at this
        have h2 := Nat.mod_lt n (Bpow_pos i)
        omega
      refine Ev.step (fun k => ?_) (ih (by omega) hn')
      simp only [tenorref1_trim.l0]
      rw [e, if_pos (by omega), if_pos (by omega), if_pos (by simp; omega), rd_dgL _ _ _ (by omega), h0, if_pos (by simp)]
    · refine Ev.step (f := fun _ => some (dg n)) (fun k => ?_) (Ev.now _)
      simp only [tenorref1_trim.l0]
      rw [e, if_pos (by omega), if_pos (by omega), if_pos (by simp; omega), rd_dgL _ _ _ (by omega), if_neg (by omega), if_pos (by omega), if_pos (by simp; omega)]
      have hl : ln n = i + 1 := by
        have h1 := ln_le hn
        by_cases h2 : ln n ≤ i
        · exact absurd (dig_ge_ln h2) h0
        · omega
      rw [Int.toNat_natCast, take_dgL _ _ _ hi, dg, hl]
theorem trim_ev (L n : Nat) (hL : L ≤ top) (hn : n < B ^ L) : Ev (fun k => tenorref1_trim.f k (dgL L n)) (dg n) := by
  unfold tenorref1_trim.f
  rw [dgL_length]
  exact trim_l0 L n hL L (Nat.le_refl _) hn
theorem digit_dgL (L n i : Nat) : tenorref1_digit.f (dgL L n) (i : Int) = some (if i < L then ((dig n i : Nat) : Int) else 0) := by
  unfold tenorref1_digit.f
  rw [if_neg (by omega), dgL_length]
  by_cases h : i < L
  · rw [if_neg (by omega), if_pos (by omega), if_pos (by omega), rd_dgL _ _ _ h, if_pos h]
  · rw [if_pos (by omega), if_neg h]
theorem digit_dg (n i : Nat) : tenorref1_digit.f (dg n) (i : Int) = some ((dig n i : Nat) : Int) := by
  unfold dg
  rw [digit_dgL]
  by_cases h : i < ln n
  · rw [if_pos h]
  · rw [if_neg h, dig_ge_ln (by omega)]; rfl
theorem setD_lt {m L j v : Nat} (hm : m < B ^ L) (hj : j < L) (hv : v < B) : setD m j v < B ^ L := by
  induction L generalizing m j with
  | zero => omega
  | succ L ih =>
    rw [Nat.pow_succ', Nat.mul_comm] at hm ⊢
    cases j with
    | zero =>
      rw [setD_zero]
      have h1 : m / B < B ^ L := Nat.div_lt_of_lt_mul (by rw [Nat.mul_comm]; exact hm)
      have := Nat.mul_le_mul_left B (show m / B + 1 ≤ B ^ L from h1)
      rw [Nat.mul_add] at this
      rw [Nat.mul_comm (B ^ L)]; omega
    | succ j =>
      rw [setD_succ]
      have h1 : m / B < B ^ L := Nat.div_lt_of_lt_mul (by rw [Nat.mul_comm]; exact hm)
      have h2 := ih (m := m / B) (j := j) h1 (by omega)
      have := Nat.mul_le_mul_left B (show setD (m / B) j v + 1 ≤ B ^ L from h2)
      rw [Nat.mul_add] at this
      have := Nat.mod_lt m Bpos
      rw [Nat.mul_comm (B ^ L)]; omega
theorem mod_step (b k : Nat) : b % B ^ (k + 1) = b % B ^ k + dig b k * B ^ k := by
  rw [Nat.pow_succ, Nat.mod_mul]; unfold dig; rw [Nat.mul_comm]
theorem mul_l1 (a b : Nat) (L : Nat) (hL : L = ln a + ln b + 1) (ht : L ≤ top) (i : Nat) (hi : i < ln a) (r : List Int)
    (hr : ∀ m, m < B ^ L → m = a % B ^ (i + 1) * b → Ev (fun k => tenorref1_MulDigits.l0 k (dg a) (dg b) (dgL L m) ((i + 1 : Nat) : Int)) r) :
    ∀ (d j m c : Nat), d + j = ln b → m < B ^ (i + ln b) → c < B → m + c * B ^ (i + j) = a % B ^ i * b + dig a i * B ^ i * (b % B ^ j) →
    Ev (fun k => tenorref1_MulDigits.l1 k (dg a) (dg b) (dgL L m) (i : Int) (c : Int) (j : Int)) r := by
  intro d
  have hmL : ∀ {m : Nat}, m < B ^ (i + ln b) → m < B ^ L := fun h => Nat.lt_of_lt_of_le h (Nat.pow_le_pow_right Bpos (by omega))
  induction d with
  | zero =>
    intro j m c hd hm hc he
    obtain rfl : j = ln b := by omega
    have hz : dig m (i + ln b) = 0 := dig_of_lt hm
    have hset := setD_eq m (i + ln b) c
    rw [hz] at hset
    have hb : b % B ^ ln b = b := Nat.mod_eq_of_lt (lt_pow_ln b)
    refine Ev.step (fun k => ?_) (hr (setD m (i + ln b) c) (setD_lt (hmL hm) (by omega) hc) ?_)
    · simp only [tenorref1_MulDigits.l1]
      rw [dg_length, if_neg (by omega), w64 (by omega) (by unfold top at ht; omega), if_pos (by omega), dgL_length, if_pos (by omega)]
      have e1 : ((i : Int) + (ln b : Int)) = ((i + ln b : Nat) : Int) := by omega
      rw [e1, rd_dgL _ _ _ (by omega), hz, Int.toNat_natCast]
      rw [w64 (x := (i : Int) + 1) (by omega) (by unfold top at ht; omega)]
      rw [show ((0 : Nat) : Int) + (c : Int) = (c : Int) by omega, wun c (by have : B = 4294967296 := rfl; omega), set_dgL _ _ _ _ (by omega) hc]
      rfl
    · rw [mod_step, Nat.add_mul]
      have : dig a i * B ^ i * b = dig a i * B ^ i * (b % B ^ ln b) := by rw [hb]
      omega
  | succ d ih =>
    intro j m c hd hm hc he
    have hj : j < ln b := by omega
    have hB : B = 4294967296 := rfl
    have x1 := dig_lt m (i + j)
    have x2 := dig_lt a i
    have x3 := dig_lt b j
    have x4 : dig a i * dig b j ≤ 4294967295 * 4294967295 := Nat.mul_le_mul (by omega) (by omega)
    generalize hs : dig m (i + j) + dig a i * dig b j + c = s
    have hsl : s < 18446744073709551616 := by omega
    have hset := setD_eq m (i + j) (s % B)
    have hcs : s / B < B := Nat.div_lt_of_lt_mul (by omega)
    have hlt : setD m (i + j) (s % B) < B ^ (i + ln b) := setD_lt hm (by omega) (Nat.mod_lt _ Bpos)
    refine Ev.step (fun k => ?_) (ih (j + 1) (setD m (i + j) (s % B)) (s / B) (by omega) hlt hcs ?_)
    · simp only [tenorref1_MulDigits.l1]
      rw [dg_length, dg_length, if_pos (by omega), w64 (by omega) (by unfold top at ht; omega), if_pos (by omega), dgL_length, if_pos (by omega), if_pos (by omega), if_pos (by omega), if_pos (by omega)]
      have e1 : ((i : Int) + (j : Int)) = ((i + j : Nat) : Int) := by omega
      rw [e1, rd_dgL _ _ _ (by omega), rd_dg _ _ hi, rd_dg _ _ hj, Int.toNat_natCast]
      have e2 : ((dig a i : Nat) : Int) * ((dig b j : Nat) : Int) = ((dig a i * dig b j : Nat) : Int) := by rw [Int.natCast_mul]
      rw [e2, wun _ (by omega)]
      have e3 : ((dig m (i + j) : Nat) : Int) + ((dig a i * dig b j : Nat) : Int) = ((dig m (i + j) + dig a i * dig b j : Nat) : Int) := by rw [Int.natCast_add]
      rw [e3, wun _ (by omega)]
      have e4 : ((dig m (i + j) + dig a i * dig b j : Nat) : Int) + (c : Int) = (s : Int) := by rw [← hs]; omega
      rw [e4, wun _ hsl]
      have e5 : Int.tmod (s : Int) 4294967296 = ((s % B : Nat) : Int) := by rw [Int.tmod_eq_emod_of_nonneg (by omega)]; rfl
      have e6 : Int.tdiv (s : Int) 4294967296 = ((s / B : Nat) : Int) := by rw [Int.tdiv_eq_ediv_of_nonneg (by omega)]; rfl
      rw [e5, e6, wun _ (by omega), set_dgL _ _ _ _ (by omega) (Nat.mod_lt _ Bpos), w64 (by omega) (by unfold top at ht; omega)]
      rfl
    · rw [mod_step b j]
      have hp : B ^ (i + (j + 1)) = B * B ^ (i + j) := by rw [← Nat.add_assoc, Nat.pow_succ']
      have hq : B ^ (i + j) = B ^ i * B ^ j := Nat.pow_add _ _ _
      have hdm := Nat.div_add_mod s B
      rw [hp]
      have t1 : s / B * (B * B ^ (i + j)) = B * (s / B) * B ^ (i + j) := by rw [← Nat.mul_assoc, Nat.mul_comm (s / B)]
      have t2 : (B * (s / B) + s % B) * B ^ (i + j) = s * B ^ (i + j) := by rw [hdm]
      rw [Nat.add_mul] at t2
      have t3 : s * B ^ (i + j) = dig m (i + j) * B ^ (i + j) + dig a i * dig b j * B ^ (i + j) + c * B ^ (i + j) := by rw [← hs, Nat.add_mul, Nat.add_mul]
      have t4 : dig a i * B ^ i * (b % B ^ j + dig b j * B ^ j) = dig a i * B ^ i * (b % B ^ j) + dig a i * dig b j * B ^ (i + j) := by
        rw [Nat.mul_add, hq]; congr 1; simp only [Nat.mul_assoc, Nat.mul_left_comm]
      rw [t1, t4]
      omega
theorem mul_l0 (a b : Nat) (L : Nat) (hL : L = ln a + ln b + 1) (ht : L ≤ top) :
    ∀ (d i m : Nat), d + i = ln a → m < B ^ L → m = a % B ^ i * b →
    Ev (fun k => tenorref1_MulDigits.l0 k (dg a) (dg b) (dgL L m) (i : Int)) (dg (a * b)) := by
  intro d
  induction d with
  | zero =>
    intro i m hd hm he
    obtain rfl : i = ln a := by omega
    rw [Nat.mod_eq_of_lt (lt_pow_ln a)] at he
    subst he
    refine Ev.step (f := fun k => (tenorref1_trim.f k (dgL L (a * b))).bind fun t => some t) (fun k => ?_) (Ev.bind (f := fun _ t => some t) (trim_ev L _ ht hm) (Ev.now _))
    simp only [tenorref1_MulDigits.l0]
    rw [dg_length, if_neg (by omega)]
  | succ d ih =>
    intro i m hd hm he
    have hlt : m < B ^ (i + ln b) := by
      rw [he, Nat.pow_add]
      by_cases hb : b = 0
      · subst hb; simp; exact Nat.mul_pos (Bpow_pos _) (Bpow_pos _)
      · exact Nat.mul_lt_mul_of_lt_of_le (Nat.mod_lt _ (Bpow_pos i)) (Nat.le_of_lt (lt_pow_ln b)) (Bpow_pos _)
    refine Ev.step (fun k => ?_) (mul_l1 a b L hL ht i (by omega) (dg (a * b)) (fun m' h1 h2 => ih (i + 1) m' (by omega) h1 h2) (ln b) 0 m 0 (by omega) hlt (by decide) (by simp [he, Nat.mod_one]))
    simp only [tenorref1_MulDigits.l0]
    rw [dg_length, if_pos (by omega)]; rfl
theorem mul_ev (a b : Nat) (ht : ln a + ln b + 1 ≤ top) : Ev (fun k => tenorref1_MulDigits.f k (dg a) (dg b)) (dg (a * b)) := by
  refine Ev.congr (fun k => ?_) (mul_l0 a b (ln a + ln b + 1) rfl ht (ln a) 0 0 (by omega) (Bpow_pos _) (by simp [Nat.mod_one]))
  unfold tenorref1_MulDigits.f
  unfold top at ht
  rw [dg_length, dg_length, w64 (x := (ln a : Int) + (ln b : Int)) (by omega) (by omega), w64 (by omega) (by omega), if_pos (by omega), if_pos (by omega)]
  rw [show ((ln a : Int) + (ln b : Int) + 1).toNat = ln a + ln b + 1 by omega, dgL_zero]
  rfl
theorem divB_lt (s q : Nat) (h : s < q * 4294967296) : s / B < q := Nat.div_lt_of_lt_mul (by rw [Nat.mul_comm]; exact h)
theorem add_l0 (a b : Nat) (L : Nat) (hL : L = max (ln a) (ln b) + 1) (ht : L ≤ top) :
    ∀ (d i m c : Nat), d + i = L → m < B ^ i → c ≤ 1 → m + c * B ^ i = a % B ^ i + b % B ^ i →
    Ev (fun k => tenorref1_AddDigits.l0 k (dg a) (dg b) (L : Int) (dgL L m) (c : Int) (i : Int)) (dg (a + b)) := by
  intro d
  have hB : B = 4294967296 := rfl
  have haL : a < B ^ (L - 1) := Nat.lt_of_lt_of_le (lt_pow_ln a) (Nat.pow_le_pow_right Bpos (by omega))
  have hbL : b < B ^ (L - 1) := Nat.lt_of_lt_of_le (lt_pow_ln b) (Nat.pow_le_pow_right Bpos (by omega))
  have hp : B ^ L = B * B ^ (L - 1) := by rw [show L = (L - 1) + 1 by omega, Nat.pow_succ']; simp
  have h2B : 2 * B ^ (L - 1) ≤ B * B ^ (L - 1) := Nat.mul_le_mul_right _ (by decide)
  have hsum : a + b < B ^ L := by omega
  induction d with
  | zero =>
    intro i m c hd hm hc he
    obtain rfl : i = L := by omega
    have ha : a % B ^ i = a := Nat.mod_eq_of_lt (by omega)
    have hb : b % B ^ i = b := Nat.mod_eq_of_lt (by omega)
    rw [ha, hb] at he
    have hc0 : c = 0 := by
      rcases Nat.lt_or_ge 0 c with h | h
      · obtain rfl : c = 1 := by omega
        omega
      · omega
    subst hc0
    obtain rfl : m = a + b := by omega
    refine Ev.step (f := fun k => (tenorref1_trim.f k (dgL i (a + b))).bind fun t => some t) (fun k => ?_) (Ev.bind (f := fun _ t => some t) (trim_ev i _ ht hm) (Ev.now _))
    simp only [tenorref1_AddDigits.l0]
    rw [if_neg (by omega)]
  | succ d ih =>
    intro i m c hd hm hc he
    have x1 := dig_lt a i
    have x2 := dig_lt b i
    generalize hs : dig a i + dig b i + c = s
    have hset := setD_eq m i (s % B)
    have hz : dig m i = 0 := dig_of_lt hm
    rw [hz] at hset
    have hcs : s / B ≤ 1 := Nat.le_of_lt_succ (divB_lt s 2 (by omega))
    have hmi : setD m i (s % B) < B ^ (i + 1) := by
      have h1 := Nat.mod_lt s Bpos
      have h2 : (s % B + 1) * B ^ i ≤ B * B ^ i := Nat.mul_le_mul_right _ h1
      rw [Nat.add_mul] at h2
      rw [Nat.pow_succ']; omega
    refine Ev.step (fun k => ?_) (ih (i + 1) (setD m i (s % B)) (s / B) (by omega) hmi hcs ?_)
    · simp only [tenorref1_AddDigits.l0]
      rw [if_pos (by omega), digit_dg, digit_dg]
      simp only [Option.bind_some]
      rw [if_pos (by omega), dgL_length, if_pos (by omega), Int.toNat_natCast]
      have e3 : ((dig a i : Nat) : Int) + ((dig b i : Nat) : Int) = ((dig a i + dig b i : Nat) : Int) := by rw [Int.natCast_add]
      rw [e3, wun _ (by omega)]
      have e4 : ((dig a i + dig b i : Nat) : Int) + (c : Int) = (s : Int) := by rw [← hs]; omega
      rw [e4, wun _ (by omega)]
      have e5 : Int.tmod (s : Int) 4294967296 = ((s % B : Nat) : Int) := by rw [Int.tmod_eq_emod_of_nonneg (by omega)]; rfl
      have e6 : Int.tdiv (s : Int) 4294967296 = ((s / B : Nat) : Int) := by rw [Int.tdiv_eq_ediv_of_nonneg (by omega)]; rfl
      rw [e5, e6, wun _ (by omega), set_dgL _ _ _ _ (by omega) (Nat.mod_lt _ Bpos), w64 (by omega) (by unfold top at ht; omega)]
      rfl
    · rw [mod_step a i, mod_step b i, Nat.pow_succ']
      have hdm := Nat.div_add_mod s B
      have t1 : s / B * (B * B ^ i) = B * (s / B) * B ^ i := by rw [← Nat.mul_assoc, Nat.mul_comm (s / B)]
      have t2 : (B * (s / B) + s % B) * B ^ i = s * B ^ i := by rw [hdm]
      rw [Nat.add_mul] at t2
      have t3 : s * B ^ i = dig a i * B ^ i + dig b i * B ^ i + c * B ^ i := by rw [← hs, Nat.add_mul, Nat.add_mul]
      rw [t1]; omega
theorem add_ev (a b : Nat) (ht : max (ln a) (ln b) + 1 ≤ top) : Ev (fun k => tenorref1_AddDigits.f k (dg a) (dg b)) (dg (a + b)) := by
  refine Ev.congr (fun k => ?_) (add_l0 a b (max (ln a) (ln b) + 1) rfl ht (max (ln a) (ln b) + 1) 0 0 0 (by omega) (by simp) (by omega) (by simp [Nat.mod_one]))
  unfold tenorref1_AddDigits.f
  unfold top at ht
  have hm : mx ((dg a).length : Int) ((dg b).length : Int) = ((max (ln a) (ln b) : Nat) : Int) := by
    unfold mx; rw [dg_length, dg_length]; split <;> omega
  rw [hm, w64 (by omega) (by omega), if_pos (by omega), if_pos (by omega)]
  rw [show (((max (ln a) (ln b) : Nat) : Int) + 1).toNat = max (ln a) (ln b) + 1 by omega, dgL_zero]
  rfl
theorem ln_small {n : Nat} (h : n < B) : ln n ≤ 1 := ln_le (by simpa using h)
theorem digits_ev (n : Nat) (h : n < 18446744073709551616) : Ev (fun k => tenorref1_Digits.f k (n : Int)) (dg n) := by
  have hB : B = 4294967296 := rfl
  have e5 : Int.tmod (n : Int) 4294967296 = ((n % B : Nat) : Int) := by rw [Int.tmod_eq_emod_of_nonneg (by omega)]; rfl
  have e6 : Int.tdiv (n : Int) 4294967296 = ((n / B : Nat) : Int) := by rw [Int.tdiv_eq_ediv_of_nonneg (by omega)]; rfl
  have e : ([Int.tmod (n : Int) 4294967296, IntKind.u64.wrap (Int.tdiv (n : Int) 4294967296)] : List Int) = dgL 2 n := by
    have hq : n / B < B := divB_lt n B (by omega)
    rw [e5, e6, wun _ (by omega)]
    have : n / B % B = n / B := Nat.mod_eq_of_lt hq
    simp [dgL, this]
  refine Ev.congr (fun k => ?_) (Ev.bind (f := fun _ t => some t) (trim_ev 2 n (by decide) (by omega)) (Ev.now _))
  unfold tenorref1_Digits.f
  rw [e]
theorem dg_of_lt {n : Nat} (h0 : n ≠ 0) (h : n < B) : dg n = [(n : Int)] := by
  have : ln n = 1 := by rw [ln_pos h0, Nat.div_eq_of_lt h, ln_zero]
  unfold dg; rw [this]; simp [dgL, Nat.mod_eq_of_lt h]
def bl (n : Nat) : Nat := if n = 0 then 0 else Nat.log2 n + 1
theorem bl_half {n : Nat} (h : n ≠ 0) : bl n = bl (n / 2) + 1 := by
  unfold bl
  rw [if_neg h]
  by_cases h1 : n / 2 = 0
  · rw [if_pos h1]
    have : n = 1 := by omega
    subst this; rfl
  · rw [if_neg h1]
    have h2 : 2 ≤ n := by omega
    rw [Nat.log2_def n, if_pos h2]
theorem lt_two_bl (n : Nat) : n < 2 ^ bl n := by
  unfold bl
  by_cases h : n = 0
  · subst h; decide
  · rw [if_neg h]; exact Nat.lt_log2_self
theorem two_bl_le {n : Nat} (h : n ≠ 0) : 2 ^ (bl n - 1) ≤ n := by
  unfold bl
  rw [if_neg h]
  exact Nat.log2_self_le h
theorem bl_le {n k : Nat} (h : n < 2 ^ k) : bl n ≤ k := by
  by_cases h0 : n = 0
  · subst h0; unfold bl; simp
  · have := two_bl_le h0
    have h2 : 2 ^ (bl n - 1) < 2 ^ k := Nat.lt_of_le_of_lt this h
    have h3 := (Nat.pow_lt_pow_iff_right (by decide : 1 < 2)).1 h2
    omega
theorem lt_bl {n k : Nat} (h : 2 ^ k ≤ n) : k < bl n := by
  have := lt_two_bl n
  have h2 : 2 ^ k < 2 ^ bl n := Nat.lt_of_le_of_lt h this
  exact (Nat.pow_lt_pow_iff_right (by decide : 1 < 2)).1 h2
theorem len_l0 (x : Nat) (hx : x < 18446744073709551616) : ∀ (a : Nat), a + bl x ≤ 40000000000 → Ev (fun k => tenorref1_Len.l0 k (a : Int) (x : Int)) ((a + bl x : Nat) : Int) := by
  induction x using Nat.strongRecOn with
  | ind x ih =>
    intro a ha
    by_cases h0 : x = 0
    · subst h0
      refine Ev.step (f := fun _ => some ((a + bl 0 : Nat) : Int)) (fun k => ?_) (Ev.now _)
      simp only [tenorref1_Len.l0]
      rw [if_neg (by omega)]
      simp [bl]
    · have hb := bl_half h0
      have h := ih (x / 2) (by omega) (by omega) (a + 1) (by omega)
      rw [show a + 1 + bl (x / 2) = a + bl x by omega] at h
      refine Ev.step (fun k => ?_) h
      simp only [tenorref1_Len.l0]
      rw [if_pos (by omega), w64 (by omega) (by omega)]
      have e6 : Int.tdiv (x : Int) 2 = ((x / 2 : Nat) : Int) := by rw [Int.tdiv_eq_ediv_of_nonneg (by omega)]; rfl
      rw [e6, wun _ (by omega)]
      rfl
theorem bl_add {a k r : Nat} (ha : a ≠ 0) (hr : r < 2 ^ k) : bl (a * 2 ^ k + r) = bl a + k := by
  have h1 := two_bl_le ha
  have h2 := lt_two_bl a
  have h0 : bl a ≠ 0 := by unfold bl; rw [if_neg ha]; omega
  have a1 : bl (a * 2 ^ k + r) ≤ bl a + k := bl_le (by
    rw [Nat.pow_add]
    have : (a + 1) * 2 ^ k ≤ 2 ^ bl a * 2 ^ k := Nat.mul_le_mul_right _ h2
    rw [Nat.add_mul] at this; omega)
  have b1 : bl a - 1 + k < bl (a * 2 ^ k + r) := lt_bl (by
    rw [Nat.pow_add]
    have : 2 ^ (bl a - 1) * 2 ^ k ≤ a * 2 ^ k := Nat.mul_le_mul_right _ h1
    omega)
  omega
theorem B_eq (i : Nat) : B ^ i = 2 ^ (32 * i) := by rw [Nat.pow_mul]
theorem bl_ln {n : Nat} (h : n ≠ 0) : bl n = bl (dig n (ln n - 1)) + 32 * (ln n - 1) := by
  have e : ln n = ln n - 1 + 1 := by rw [ln_pos h]; omega
  have h1 := split_at n (ln n - 1)
  have h2 := lt_pow_ln n
  rw [e] at h2
  rw [Nat.div_eq_of_lt h2, Nat.zero_mul, Nat.zero_add] at h1
  have h3 := Nat.mod_lt n (Bpow_pos (ln n - 1))
  rw [B_eq] at h1 h3
  have h4 := bl_add (r := n % 2 ^ (32 * (ln n - 1))) (dig_top h) h3
  rw [← h4, ← h1]
theorem len_ev (n : Nat) (ht : ln n ≤ top) : Ev (fun k => tenorref1_Len.f k (dg n)) ((bl n : Nat) : Int) := by
  unfold top at ht
  by_cases h : n = 0
  · subst h
    refine Ev.congr (f := fun _ => some ((bl 0 : Nat) : Int)) (fun k => ?_) (Ev.now _)
    unfold tenorref1_Len.f
    rw [dg_length, ln_zero, if_pos (by rfl)]
    rfl
  · have e : 1 ≤ ln n := by rw [ln_pos h]; omega
    have x1 := dig_lt n (ln n - 1)
    have hB : B = 4294967296 := rfl
    have hbt : bl (dig n (ln n - 1)) ≤ 32 := bl_le (by omega)
    have hl := len_l0 (dig n (ln n - 1)) (by omega) (32 * (ln n - 1)) (by omega)
    rw [show 32 * (ln n - 1) + bl (dig n (ln n - 1)) = bl n by rw [bl_ln h]; omega] at hl
    refine Ev.congr (fun k => ?_) hl
    unfold tenorref1_Len.f
    have e1 : ((ln n : Int) - 1) = ((ln n - 1 : Nat) : Int) := by omega
    rw [dg_length, if_neg (by omega), e1, w64 (by omega) (by omega), if_pos (by omega), if_pos (by omega), rd_dg _ _ (by omega), w64 (by omega) (by omega)]
    rw [show (32 : Int) * ((ln n - 1 : Nat) : Int) = ((32 * (ln n - 1) : Nat) : Int) by omega]
end Go.Proofs.YtjpiplplohapnaaGreatDoor.Big
