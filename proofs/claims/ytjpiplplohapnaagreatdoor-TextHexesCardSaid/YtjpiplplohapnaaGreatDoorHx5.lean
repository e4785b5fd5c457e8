/- Part 5 of the proof: RJoin, RPow, RUnA. -/
import Derived.Test.YtjpiplplohapnaaGreatDoorHx4
set_option linter.unusedVariables false
set_option linter.unusedSimpArgs false
namespace Go.Proofs.YtjpiplplohapnaaGreatDoor.PText
open Go.RowKit Go.Proofs.YtjpiplplohapnaaGreatDoorW.PrintWords Go.Proofs.YtjpiplplohapnaaGreatDoorW.PrintLast Go.Proofs.YtjpiplplohapnaaGreatDoorW.PrintMore
attribute [local go_sem] max2_int min2_int max_two min_two max_three min_three max_four min_four
set_option linter.unusedVariables false
set_option linter.unusedSimpArgs false
def tenorref2_nibble.j0 : Nat → Int → Bool → Option (Int)
  | 0, _, _ => none
  | k + 1, x0, x3 => if x3 = true then (some ((x0 - 48) % 256)) else (if x0 ≥ 97 then (if x0 ≤ 102 then (some (((x0 - 97) % 256) + 10)) else (some (-1))) else (some (-1)))
def tenorref2_nibble.f (k : Nat) (a0 : Int) : Option (Int) := if a0 ≥ 48 then (tenorref2_nibble.j0 k a0 (decide (a0 ≤ 57))) else (tenorref2_nibble.j0 k a0 false)
set_option maxHeartbeats 8000000 in
set_option maxRecDepth 100000 in
theorem tenorref2_nibble.calls (k : Nat) (a0 : Int) (r : Int) (w : World) (h : tenorref2_nibble.f k a0 = some r) :
    Calls Tryz.prog 56 #[.int .u8 a0] w fun e w' => e = .returned (.int .i64 r) ∧ Drawn0 w w' := by
  have H : (if a0 ≥ 48 then (tenorref2_nibble.j0 k a0 (decide (a0 ≤ 57))) else (tenorref2_nibble.j0 k a0 false)) = some r := h
  clear h
  have HC2 := Aside0.mk H
  clear H
  go_enter Tryz.func56, Tryz.ntmps56
  go_upto_region 1 with (fail)
  go_cut [3] (fun v3 wc => ∃ (kq : Nat) (x3_1 : Bool), v3 = .bool x3_1 ∧ Aside0 (tenorref2_nibble.j0 kq a0 x3_1 = some r) ∧ Aside0 (kq ≤ k) ∧ Drawn0 w wc)
  case first =>
    have H := HC2.out
    clear HC2
    by_cases c3 : a0 ≥ 48
    · rw [if_pos c3] at H
      have c3b0 : decide (48 ≤ a0) = true := decide_eq_true c3
      clear c3
      (first | rw [c3b0] | (simp only [i64_w, i32_w]; rw [c3b0]) | skip)
      have H' := Aside0.mk H
      clear H
      go_wp2
      go_meet
      case rel => exact ⟨_, (decide (a0 ≤ 57)), (by first | rfl | (simp; done) | (simp [*]; done)), H', ⟨by first | omega | exact Nat.le_refl _⟩, by repeat (first | exact Drawn0.refl _ | apply Drawn0.step)⟩
    rw [if_neg c3] at H
    have c3b0 : decide (48 ≤ a0) = false := decide_eq_false c3
    clear c3
    (first | rw [c3b0] | (simp only [i64_w, i32_w]; rw [c3b0]) | skip)
    have H' := Aside0.mk H
    clear H
    go_wp2
    go_meet
    case rel => exact ⟨_, (false), (by first | rfl | (simp; done) | (simp [*]; done)), H', ⟨by first | omega | exact Nat.le_refl _⟩, by repeat (first | exact Drawn0.refl _ | apply Drawn0.step)⟩
  clear HC2
  (try clear p2); (try clear c3); (try clear c3b0)
  obtain ⟨kq, x3_1, rfl, HA, HJ1, ⟨mc1, rfl⟩⟩ := hcut
  cases kq with
  | zero => exact absurd HA.out (by simp [tenorref2_nibble.j0])
  | succ kj1 =>
    have H := HA.out
    clear HA
    simp only [tenorref2_nibble.j0] at H
    by_cases c4 : x3_1 = true
    · subst c4
      have H1 : (some ((a0 - 48) % 256)) = some r := by rw [if_pos rfl] at H; exact H
      clear H
      have H := H1
      clear H1
      obtain rfl := Option.some.inj H
      go_wp2
      go_ret
      exact ⟨by first | rfl | (simp; done) | (simp [*]; done), by repeat (first | exact Drawn0.refl _ | apply Drawn0.step)⟩
    replace c4 := Bool.eq_false_iff.mpr c4
    subst c4
    have H1 : (if a0 ≥ 97 then (if a0 ≤ 102 then (some (((a0 - 97) % 256) + 10)) else (some (-1))) else (some (-1))) = some r := by rw [if_neg (show ¬ (false = true) by decide)] at H; exact H
    clear H
    have H := H1
    clear H1
    by_cases c5 : a0 ≥ 97
    · rw [if_pos c5] at H
      have c5b0 : decide (97 ≤ a0) = true := decide_eq_true c5
      clear c5
      by_cases c6 : a0 ≤ 102
      · rw [if_pos c6] at H
        have c6b0 : decide (a0 ≤ 102) = true := decide_eq_true c6
        clear c6
        obtain rfl := Option.some.inj H
        go_wp2
        go_ret
        exact ⟨by first | rfl | (simp; done) | (simp [*]; done), by repeat (first | exact Drawn0.refl _ | apply Drawn0.step)⟩
      rw [if_neg c6] at H
      have c6b0 : decide (a0 ≤ 102) = false := decide_eq_false c6
      clear c6
      obtain rfl := Option.some.inj H
      go_wp2
      go_ret
      exact ⟨by first | rfl | (simp; done) | (simp [*]; done), by repeat (first | exact Drawn0.refl _ | apply Drawn0.step)⟩
    rw [if_neg c5] at H
    have c5b0 : decide (97 ≤ a0) = false := decide_eq_false c5
    clear c5
    obtain rfl := Option.some.inj H
    go_wp2
    go_ret
    exact ⟨by first | rfl | (simp; done) | (simp [*]; done), by repeat (first | exact Drawn0.refl _ | apply Drawn0.step)⟩
theorem twice_cell {w8 : World} {b : Nat} {z : Value} (h : w8.cell? ⟨b, 2, none⟩ = some z) (v0 v1 v2 v3 : Value) : ((((w8.setCell ⟨b, 0, none⟩ v0).setCell ⟨b, 1, none⟩ v1).setCell ⟨b, 2, none⟩ v2).setCell ⟨b, 2, none⟩ v3).cell? ⟨b, 2, none⟩ = some v3 := by
  obtain ⟨a1, h1⟩ := cell?_setCell_some (p := ⟨b, 0, none⟩) (x := v0) h
  obtain ⟨a2, h2⟩ := cell?_setCell_some (p := ⟨b, 1, none⟩) (x := v1) h1
  obtain ⟨a3, h3⟩ := cell?_setCell_some (p := ⟨b, 2, none⟩) (x := v2) h2
  exact World.cell?_setCell_same (h := h3) ..
def tenorref1_Join.f (k : Nat) (a0 : Int) (a1 : Int) : Option (Int) := (tenorref1_Whole.f k a0).bind fun bt475 => ((tenorref1_Near.f k bt475.1 bt475.2.1 (mn (mx a1 (-1048576)) 1048576)).bind fun t481 => (some t481))
set_option maxHeartbeats 8000000 in
set_option maxRecDepth 100000 in
theorem tenorref1_Join.calls (k : Nat) (a0 : Int) (a1 : Int) (r : Int) (w : World) (h : tenorref1_Join.f k a0 a1 = some r) :
    Calls Tryz.prog 57 #[.int .i64 a0, .int .i64 a1] w fun e w' => e = .returned (.int .u64 r) ∧ Below w.heap.size w w' := by
  have hu61 := Tryz.underlying61
  have HB := Aside0.mk (Below.refl w.heap.size w)
  have H : ((tenorref1_Whole.f k a0).bind fun bt475 => ((tenorref1_Near.f k bt475.1 bt475.2.1 (mn (mx a1 (-1048576)) 1048576)).bind fun t481 => (some t481))) = some r := h
  clear h
  replace H := Option.bind_eq_some_iff.mp H
  obtain ⟨⟨t475, t476, t479⟩, A30, H⟩ := H
  replace H : ((tenorref1_Near.f k t475 t476 (mn (mx a1 (-1048576)) 1048576)).bind fun t481 => (some t481)) = some r := H
  have A3 := Aside0.mk A30
  clear A30
  obtain ⟨ji4, hji4⟩ : ∃ j_ : Int, (mx a1 (-1048576)) = j_ := ⟨_, rfl⟩
  replace H : ((tenorref1_Near.f k t475 t476 (mn (ji4) 1048576)).bind fun t481 => (some t481)) = some r := by first | (rw [hji4] at H; exact H) | (simp only [hji4] at H ⊢; exact H)
  (try rw [hji4] at A3)
  have hji4_ : (if a1 < (-1048576) then (-1048576) else a1) = ji4 := hji4
  obtain ⟨ji5, hji5⟩ : ∃ j_ : Int, (mn (ji4) 1048576) = j_ := ⟨_, rfl⟩
  replace H : ((tenorref1_Near.f k t475 t476 (ji5)).bind fun t481 => (some t481)) = some r := by first | (rw [hji5] at H; exact H) | (simp only [hji5] at H ⊢; exact H)
  (try rw [hji5] at A3)
  have hji5_ : (if 1048576 < (ji4) then 1048576 else (ji4)) = ji5 := hji5
  replace H := Option.bind_eq_some_iff.mp H
  obtain ⟨t481, A60, H⟩ := H
  replace H : (some t481) = some r := H
  have A6 := Aside0.mk A60
  clear A60
  obtain rfl := Option.some.inj H
  go_enter Tryz.func57, Tryz.ntmps57
  go_wp2_with (first | ((with_reducible refine gate_callee (f := 84) rfl ?_); refine goesL_ (some 7) rfl rfl Tryz.func84 (by kernel_rfl) rfl #[.int .i64 a0] rfl (by (try simp only [List.map_toArray, List.map_cons, List.map_nil]); first | done | rfl | (simp only [List.length_drop, List.length_take]; rfl)) ?_; (with_reducible refine (tenorref1_Whole.calls k a0 t475 t476 t479 _ A3.out).mono ?_); rintro e w7 ⟨v477, rfl, ho0, hb⟩; refine ⟨_, rfl, ?_⟩; have n0_ := Aside0.mk (Kd.R_lower ho0 (below_size (by repeat (first | (with_reducible first | exact HB.out | apply below_alloc | apply pw_below_drewN | apply below_drew1) | exact HB.out)))); have n1_ := Aside0.mk (below_step (by repeat (first | (with_reducible first | exact HB.out | apply below_alloc | apply pw_below_drewN | apply below_drew1) | exact HB.out)) hb); clear HB; have HO478 := n0_; have HB := n1_; clear n0_ n1_; (try clear hb); (try clear hb2); (try clear hk); (try clear hi); (try clear ho0)) | ((with_reducible refine gate_dst (N := 5) rfl ?_); refine box_event ?hg (N := 5) ?hd (cs := #[.bool false, .slice none 0 0, .int .i64 0]) (t := 61) ?hr ?_; (case hd => rfl); (case hg => rfl); (case hr => first | (go_simp; done) | (go_simp; rfl)); intro gb480 hg w8 hbox hb; have n0_ := Aside0.mk (Kd.R_below (by (with_reducible repeat (first | apply Kd.R_alloc | apply Kd.R_drewN | apply Kd.R_drew)); exact HO478.out) hb); have n1_ := Aside0.mk (below_step (by repeat (first | (with_reducible first | exact HB.out | apply below_alloc | apply pw_below_drewN | apply below_drew1) | exact HB.out)) hb); have n2_ := Aside0.mk (hbox); have n3_ := Aside0.mk ((by rw [hg]; exact (below_size (by repeat (first | (with_reducible first | exact HB.out | apply below_alloc | apply pw_below_drewN | apply below_drew1) | exact HB.out))) : w.heap.size ≤ gb480)); have n4_ := Aside0.mk ((by rw [hg]; exact (below_size (by repeat (first | (with_reducible first | exact HB.out | apply below_alloc | apply pw_below_drewN | apply below_drew1) | exact HB.out))) : w.heap.size ≤ gb480)); clear HO478; clear HB; have HO478 := n0_; have HB := n1_; have BK480 := n2_; have GW480 := n3_; have GE480 := n4_; clear n0_ n1_ n2_ n3_ n4_; clear hb hbox hg; have hcz9_0 : w8.cell? ⟨gb480, 0, none⟩ = some (.bool false) := (blk_cell BK480.out 0).trans rfl; have hcz9_1 : w8.cell? ⟨gb480, 1, none⟩ = some (.slice none 0 0) := (blk_cell BK480.out 1).trans rfl; have hcz9_2 : w8.cell? ⟨gb480, 2, none⟩ = some (.int .i64 0) := (blk_cell BK480.out 2).trans rfl; have hfz9_0 := blk_frozen BK480.out 0; have hfz9_1 := blk_frozen BK480.out 1; have hfz9_2 := blk_frozen BK480.out 2; have hq9 := twice_cell hcz9_2; obtain ⟨Ao10, co10, eo10⟩ := Kd.R_slice HO478.out; subst eo10) | ((with_reducible refine gate_callee (f := 63) rfl ?_); refine goesL_ (some 13) rfl rfl Tryz.func63 (by kernel_rfl) rfl #[.agg #[.bool t475, .slice Ao10 t476.length co10, .int .i64 ji5]] rfl (by (try simp only [List.map_toArray, List.map_cons, List.map_nil]); first | done | (simp only [hji5]; rfl) | rfl | (simp only [List.length_drop, List.length_take]; rfl)) ?_; (with_reducible refine (tenorref1_Near.calls k t475 _ _ t476 ji5 t481 _ ?side1 ?side2 A6.out).mono ?_); (case side1 => refine (Kd.R_reads' (e := 26) (base := w.heap.size) (ok := fun k_ => True) (n := t476.length) (c := co10) ?_).2.2; exact (by (with_reducible repeat (first | apply Kd.R_alloc | apply Kd.R_drewN | apply Kd.R_drew)); exact (Kd.R_mono (Kd.R_far (p := ⟨gb480, 2, none⟩) (Kd.R_far (p := ⟨gb480, 2, none⟩) (Kd.R_far (p := ⟨gb480, 1, none⟩) (Kd.R_far (p := ⟨gb480, 0, none⟩) (Kd.R_types HO478.out BK480.out (by decide)) (fun _ hk => hk.2) (.bool t475)) (fun _ hk => hk.2) (.slice Ao10 t476.length co10)) (fun _ hk => hk.2) (.int .i64 t479)) (fun _ hk => hk.2) (.int .i64 ji5)) (fun _ h_ => h_.1)))); (case side2 => exact (Kd.R_reads' HO478.out).2.1); rintro e w11 ⟨rfl, hb⟩; refine ⟨_, rfl, ?_⟩; have n0_ := Aside0.mk (Kd.R_below (by (with_reducible repeat (first | apply Kd.R_alloc | apply Kd.R_drewN | apply Kd.R_drew)); exact (Kd.R_mono (Kd.R_far (p := ⟨gb480, 2, none⟩) (Kd.R_far (p := ⟨gb480, 2, none⟩) (Kd.R_far (p := ⟨gb480, 1, none⟩) (Kd.R_far (p := ⟨gb480, 0, none⟩) (Kd.R_types HO478.out BK480.out (by decide)) (fun _ hk => hk.2) (.bool t475)) (fun _ hk => hk.2) (.slice Ao10 t476.length co10)) (fun _ hk => hk.2) (.int .i64 t479)) (fun _ hk => hk.2) (.int .i64 ji5)) (fun _ h_ => h_.1))) hb); have n1_ := Aside0.mk (blk_below (g := gb480) (o := .cells #[.bool t475, .slice Ao10 t476.length co10, .int .i64 ji5] 61 (0, 0)) (by (with_reducible repeat (first | refine blk_drewN ?_ _ | refine blk_drew ?_ | refine blk_alloc ?_ _)); refine blk_put (cs := #[.bool t475, .slice Ao10 t476.length co10, .int .i64 t479]) ?_ 2 _ rfl; (with_reducible repeat (first | refine blk_drewN ?_ _ | refine blk_drew ?_ | refine blk_alloc ?_ _)); refine blk_put (cs := #[.bool t475, .slice Ao10 t476.length co10, .int .i64 0]) ?_ 2 _ rfl; (with_reducible repeat (first | refine blk_drewN ?_ _ | refine blk_drew ?_ | refine blk_alloc ?_ _)); refine blk_put (cs := #[.bool t475, .slice none 0 0, .int .i64 0]) ?_ 1 _ rfl; (with_reducible repeat (first | refine blk_drewN ?_ _ | refine blk_drew ?_ | refine blk_alloc ?_ _)); refine blk_put (cs := #[.bool false, .slice none 0 0, .int .i64 0]) ?_ 0 _ rfl; (with_reducible repeat (first | refine blk_drewN ?_ _ | refine blk_drew ?_ | refine blk_alloc ?_ _)); exact BK480.out) hb); have n2_ := Aside0.mk (below_step (by repeat (first | (with_reducible first | exact HB.out | apply below_alloc | apply pw_below_drewN | apply below_drew1 | refine below_set ?_ GE480.out) | exact HB.out)) hb); clear HO478; clear BK480; clear HB; have HO478 := n0_; have BK480 := n1_; have HB := n2_; clear n0_ n1_ n2_; (try clear hb); (try clear hb2); (try clear hk); (try clear hi)))
  go_ret
  exact ⟨by first | rfl | (simp [errW_none, errW_some] <;> rfl) | (simp only [← hji4, ← hji5]; first | rfl | (simp [errW_none, errW_some] <;> rfl)) | (simp [*, errW_none, errW_some] <;> rfl), by repeat (first | (with_reducible first | exact HB.out | apply below_alloc | apply pw_below_drewN | apply below_drew1 | refine below_set ?_ GE480.out) | exact HB.out)⟩
end Go.Proofs.YtjpiplplohapnaaGreatDoor.PText
namespace Go.Proofs.YtjpiplplohapnaaGreatDoor.PText
open Go.RowKit Go.Proofs.YtjpiplplohapnaaGreatDoorW.PrintWords Go.Proofs.YtjpiplplohapnaaGreatDoorW.PrintLast Go.Proofs.YtjpiplplohapnaaGreatDoorW.PrintMore
attribute [local go_sem] max2_int min2_int max_two min_two max_three min_three max_four min_four
set_option linter.unusedVariables false
set_option linter.unusedSimpArgs false
def tenorref1_Flip.f (a0 : Int) : Option (Int) := some (Go.bits .xor .u64 a0 9223372036854775808)
set_option maxHeartbeats 8000000 in
set_option maxRecDepth 100000 in
theorem tenorref1_Flip.calls (a0 : Int) (r : Int) (w : World) (h : tenorref1_Flip.f a0 = some r) :
    Calls Tryz.prog 58 #[.int .u64 a0] w fun e w' => e = .returned (.int .u64 r) ∧ Drawn0 w w' := by
  have H : (some (Go.bits .xor .u64 a0 9223372036854775808)) = some r := h
  clear h
  obtain rfl := Option.some.inj H
  go_enter Tryz.func58, Tryz.ntmps58
  go_wp2
  go_ret
  exact ⟨by first | rfl | (simp; done) | (simp [*]; done), by repeat (first | exact Drawn0.refl _ | apply Drawn0.step)⟩
end Go.Proofs.YtjpiplplohapnaaGreatDoor.PText
namespace Go.Proofs.YtjpiplplohapnaaGreatDoor.PText
open Go.RowKit Go.Proofs.YtjpiplplohapnaaGreatDoorW.PrintWords Go.Proofs.YtjpiplplohapnaaGreatDoorW.PrintLast Go.Proofs.YtjpiplplohapnaaGreatDoorW.PrintMore
attribute [local go_sem] max2_int min2_int max_two min_two max_three min_three max_four min_four
set_option linter.unusedVariables false
set_option linter.unusedSimpArgs false
mutual
def tenorref2_Unhex.j0 : Nat → ByteArray → Int → Bool → Option (Int × Int)
  | 0, _, _, _ => none
  | k + 1, x0, x4, x24 => if x24 = true then (tenorref2_Unhex.j1 k x0 (wrap64 (x4 + 1))) else (tenorref2_Unhex.j1 k x0 x4)
def tenorref2_Unhex.j1 : Nat → ByteArray → Int → Option (Int × Int)
  | 0, _, _ => none
  | k + 1, x0, x4 => if (x0.size : Int) < (wrap64 (x4 + 5)) then (tenorref2_Unhex.j2 k x0 x4 true) else (if 0 ≤ x4 then (if x4 < (x0.size : Int) then (if (bt x0 x4) = 48 then (if 0 ≤ (wrap64 (x4 + 1)) then (if (wrap64 (x4 + 1)) < (x0.size : Int) then (tenorref2_Unhex.j2 k x0 x4 ((bt x0 (wrap64 (x4 + 1))) != 120)) else (none)) else (none)) else (tenorref2_Unhex.j2 k x0 x4 true)) else (none)) else (none))
def tenorref2_Unhex.j2 : Nat → ByteArray → Int → Bool → Option (Int × Int)
  | 0, _, _, _ => none
  | k + 1, x0, x4, x44 => if x44 = true then (some (0, 20)) else (if 0 ≤ (wrap64 (x4 + 2)) then (if (wrap64 (x4 + 2)) < (x0.size : Int) then ((tenorref2_nibble.f k (bt x0 (wrap64 (x4 + 2)))).bind fun t482 => (if (wrap64 (x4 + 3)) < (x0.size : Int) then (if 0 ≤ (wrap64 (x4 + 3)) then (tenorref2_Unhex.j3 k x0 (wrap64 (x4 + 3)) t482 0 ((bt x0 (wrap64 (x4 + 3))) == 46)) else (none)) else (tenorref2_Unhex.j3 k x0 (wrap64 (x4 + 3)) t482 0 false))) else (none)) else (none))
def tenorref2_Unhex.j3 : Nat → ByteArray → Int → Int → Int → Bool → Option (Int × Int)
  | 0, _, _, _, _, _ => none
  | k + 1, x0, x4, x5, x6, x61 => if x61 = true then (tenorref2_Unhex.l0 k x0 (wrap64 (x4 + 1)) x5 x6) else (tenorref2_Unhex.j5 k x0 x4 x5 x6)
def tenorref2_Unhex.j5 : Nat → ByteArray → Int → Int → Int → Option (Int × Int)
  | 0, _, _, _, _ => none
  | k + 1, x0, x4, x5, x6 => if (wrap64 (x4 + 1)) ≥ (x0.size : Int) then (tenorref2_Unhex.j6 k x0 x4 x5 x6 true) else (if 0 ≤ x4 then (if x4 < (x0.size : Int) then (if (bt x0 x4) = 112 then (if x5 < 0 then (tenorref2_Unhex.j6 k x0 x4 x5 x6 true) else (tenorref2_Unhex.j6 k x0 x4 x5 x6 (decide (x5 ≥ 72057594037927936)))) else (tenorref2_Unhex.j6 k x0 x4 x5 x6 true)) else (none)) else (none))
def tenorref2_Unhex.j6 : Nat → ByteArray → Int → Int → Int → Bool → Option (Int × Int)
  | 0, _, _, _, _, _ => none
  | k + 1, x0, x4, x5, x6, x108 => if x108 = true then (some (0, 20)) else (if 0 ≤ (wrap64 (x4 + 1)) then (if (wrap64 (x4 + 1)) < (x0.size : Int) then (tenorref2_Unhex.l1 k x0 (wrap64 (x4 + 2)) x5 x6 ((bt x0 (wrap64 (x4 + 1))) == 45) 0) else (none)) else (none))
def tenorref2_Unhex.j8 : Nat → ByteArray → Int → Int → Bool → Int → Option (Int × Int)
  | 0, _, _, _, _, _ => none
  | k + 1, x0, x5, x6, x7, x8 => if x7 = true then (tenorref2_Unhex.j9 k x0 x5 x6 (wrap64 (-x8))) else (tenorref2_Unhex.j9 k x0 x5 x6 x8)
def tenorref2_Unhex.j9 : Nat → ByteArray → Int → Int → Int → Option (Int × Int)
  | 0, _, _, _, _ => none
  | k + 1, x0, x5, x6, x8 => (tenorref1_Join.f k x5 (wrap64 (x6 + x8))).bind fun t485 => (if 0 < (x0.size : Int) then (if (bt x0 0) = 45 then ((tenorref1_Flip.f t485).bind fun t486 => ((tenorref2_Hex.f k t486).bind fun bt487 => (if bt487.2 = 0 then (if bt487.1.toList = x0.toList then (some (t486, 0)) else (some (0, 20))) else (some (0, 20))))) else ((tenorref2_Hex.f k t485).bind fun bt489 => (if bt489.2 = 0 then (if bt489.1.toList = x0.toList then (some (t485, 0)) else (some (0, 20))) else (some (0, 20))))) else (none))
def tenorref2_Unhex.l1 : Nat → ByteArray → Int → Int → Int → Bool → Int → Option (Int × Int)
  | 0, _, _, _, _, _, _ => none
  | k + 1, x0, x4, x5, x6, x7, x8 => if x4 < (x0.size : Int) then (if 0 ≤ x4 then (if (bt x0 x4) ≥ 48 then (if (bt x0 x4) ≤ 57 then (if x8 < 10000 then (tenorref2_Unhex.l1 k x0 (wrap64 (x4 + 1)) x5 x6 x7 (wrap64 ((wrap64 (10 * x8)) + (((bt x0 x4) - 48) % 256)))) else (tenorref2_Unhex.j8 k x0 x5 x6 x7 x8)) else (tenorref2_Unhex.j8 k x0 x5 x6 x7 x8)) else (tenorref2_Unhex.j8 k x0 x5 x6 x7 x8)) else (none)) else (tenorref2_Unhex.j8 k x0 x5 x6 x7 x8)
def tenorref2_Unhex.l0 : Nat → ByteArray → Int → Int → Int → Option (Int × Int)
  | 0, _, _, _, _ => none
  | k + 1, x0, x4, x5, x6 => if x4 < (x0.size : Int) then (if 0 ≤ x4 then ((tenorref2_nibble.f k (bt x0 x4)).bind fun t483 => (if t483 ≥ 0 then (if x6 > (-60) then ((tenorref2_nibble.f k (bt x0 x4)).bind fun t484 => (tenorref2_Unhex.l0 k x0 (wrap64 (x4 + 1)) (wrap64 ((wrap64 (16 * x5)) + t484)) (wrap64 (x6 - 4)))) else (tenorref2_Unhex.j5 k x0 x4 x5 x6)) else (tenorref2_Unhex.j5 k x0 x4 x5 x6))) else (none)) else (tenorref2_Unhex.j5 k x0 x4 x5 x6)
end
def tenorref2_Unhex.f (k : Nat) (a0 : ByteArray) : Option (Int × Int) := if (a0.size : Int) > 40 then (some (0, 20)) else (if 0 < (a0.size : Int) then (tenorref2_Unhex.j0 k a0 0 ((bt a0 0) == 45)) else (tenorref2_Unhex.j0 k a0 0 false))
end Go.Proofs.YtjpiplplohapnaaGreatDoor.PText
