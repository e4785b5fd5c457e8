/- Part 6 of the proof: RDec, RNum, Num, BigE, PDig. -/
import Derived.Test.YtjpiplplohapnaaGreatDoorPr5
import Derived.Lib.AtoiAll
import Derived.Lib.ItoaNum
set_option linter.unusedVariables false
set_option linter.unusedSimpArgs false
namespace Go.Proofs.YtjpiplplohapnaaGreatDoor.PText
open Go.RowKit Go.Proofs.YtjpiplplohapnaaGreatDoorW.PrintWords Go.Proofs.YtjpiplplohapnaaGreatDoorW.PrintLast Go.Proofs.YtjpiplplohapnaaGreatDoorW.PrintMore
attribute [local go_sem] max2_int min2_int max_two min_two max_three min_three max_four min_four
set_option linter.unusedVariables false
set_option linter.unusedSimpArgs false
def tenorref2_odd.f (l0 : List Int) : Option (Bool) := if (l0.length : Int) > 0 then (if 0 < (l0.length : Int) then (some ((Int.tmod (rd l0 0) 2) == 1)) else (none)) else (some false)
set_option maxHeartbeats 8000000 in
set_option maxRecDepth 100000 in
theorem tenorref2_odd.calls (A0 : Option Addr) (c0 : Nat) (l0 : List Int) (r : Bool) (w : World) (hr0 : Kd.C (Kd.int .u64) w A0 l0.length l0) (hc0 : l0.length ≤ c0) (h : tenorref2_odd.f l0 = some r) :
    Calls Tryz.prog 39 #[.slice A0 l0.length c0] w fun e w' => e = .returned (.bool r) ∧ Drawn0 w w' := by
  have HR0 := Aside0.mk hr0
  have HC0 := Aside0.mk hc0
  clear hr0 hc0
  have H : (if (l0.length : Int) > 0 then (if 0 < (l0.length : Int) then (some ((Int.tmod (rd l0 0) 2) == 1)) else (none)) else (some false)) = some r := h
  clear h
  by_cases c2 : (l0.length : Int) > 0
  · rw [if_pos c2] at H
    have c2b0 : decide (0 < (l0.length : Int)) = true := decide_eq_true c2
    have c2b1 : decide (0 < l0.length) = true := decide_eq_true (by omega)
    clear c2
    by_cases c3 : 0 < (l0.length : Int)
    · rw [if_pos c3] at H
      have c3b0 : decide (0 < (l0.length : Int)) = true := decide_eq_true c3
      have c3b1 : decide (0 < l0.length) = true := decide_eq_true (by omega)
      clear c3
      obtain rfl := Option.some.inj H
      have p365 : 0 ≤ (0 : Int) := (by omega)
      have q365 : 0 < (l0.length : Int) := of_decide_eq_true (by first | (with_reducible assumption) | assumption)
      obtain ⟨ad365, e365, hx365_0⟩ := Kd.at_int HR0.out 0 p365 q365
      cases e365
      have qi365 : (0 < l0.length) = True := eq_true (by omega)
      (try rw [show ((0 : Int)).toNat = 0 from rfl] at hx365_0)
      (try rw [Addr.add_zero'] at hx365_0)
      replace p365 := eq_true p365
      replace q365 := eq_true q365
      go_enter Tryz.func39, Tryz.ntmps39
      go_wp2
      go_ret
      exact ⟨by first | rfl | (simp; done) | (simp [*]; done), by repeat (first | exact Drawn0.refl _ | apply Drawn0.step)⟩
    rw [if_neg c3] at H
    exact absurd H (by simp)
  rw [if_neg c2] at H
  have c2b0 : decide (0 < (l0.length : Int)) = false := decide_eq_false c2
  have c2b1 : decide (0 < l0.length) = false := decide_eq_false (by omega)
  clear c2
  obtain rfl := Option.some.inj H
  go_enter Tryz.func39, Tryz.ntmps39
  go_wp2
  go_ret
  exact ⟨by first | rfl | (simp; done) | (simp [*]; done), by repeat (first | exact Drawn0.refl _ | apply Drawn0.step)⟩
def tenorref2_Decimal.l0 : Nat → List Int → ByteArray → Option (ByteArray)
  | 0, _, _ => none
  | k + 1, x0, x3 => if (x0.length : Int) > 0 then ((tenorref1_DivDigits.f k x0 (([10] : List Int))).bind fun bt415 => (if (bt415.2.length : Int) > 0 then (if 0 < (bt415.2.length : Int) then ((some (([(48 + ((rd bt415.2 0) % 256)) % 256] : List Int) : List Int)).bind fun y422 => (if (strOfNums y422).size + x3.size ≤ 9223372036854775807 then (tenorref2_Decimal.l0 k bt415.1 ((strOfNums y422) ++ x3)) else (none))) else (none)) else ((some (([48] : List Int) : List Int)).bind fun y425 => (if (strOfNums y425).size + x3.size ≤ 9223372036854775807 then (tenorref2_Decimal.l0 k bt415.1 ((strOfNums y425) ++ x3)) else (none))))) else (if x3.toList = ([] : List UInt8) then (some (⟨#[48]⟩ : ByteArray)) else (some x3))
def tenorref2_Decimal.f (k : Nat) (l0 : List Int) : Option (ByteArray) := tenorref2_Decimal.l0 k l0 (⟨#[]⟩ : ByteArray)
set_option maxHeartbeats 8000000 in
set_option maxRecDepth 100000 in
theorem tenorref2_Decimal.calls (k : Nat) (P0_ : Nat → Prop) (A0 : Option Addr) (c0 : Nat) (l0 : List Int) (r : ByteArray) (w : World) (hs0 : Kd.V (Kd.int .u64) 26 w w.heap.size (fun k_ => P0_ k_) (.slice A0 l0.length c0) l0) (h : tenorref2_Decimal.f k l0 = some r) :
    Calls Tryz.prog 41 #[.slice A0 l0.length c0] w fun e w' => e = .returned (.string r) ∧ Below w.heap.size w w' := by
  have HO0 := Aside0.mk (show Kd.V (Kd.int .u64) 26 w w.heap.size (fun k_ => (P0_ k_ ∨ w.heap.size ≤ k_)) (.slice A0 l0.length c0) l0 from Kd.V_mono hs0 (fun k_ hk => .inl hk))
  have HB := Aside0.mk (Below.refl w.heap.size w)
  have H : (tenorref2_Decimal.l0 k l0 (⟨#[]⟩ : ByteArray)) = some r := h
  clear h
  have H' := Aside0.mk H
  clear H
  go_enter Tryz.func41, Tryz.ntmps41
  go_wp2
  go_loopg [0, 3] k (fun kq v0 v3 w' => ∃ (x0_1 : List Int) (x3_1 : ByteArray), v3 = .string x3_1 ∧ Aside0 (tenorref2_Decimal.l0 kq x0_1 x3_1 = some r) ∧ Aside0 (kq ≤ k) ∧ Aside0 (Kd.V (Kd.int .u64) 26 w' w.heap.size (fun k_ => (P0_ k_ ∨ w.heap.size ≤ k_)) v0 x0_1) ∧ Aside0 (Below w.heap.size w w'))
  case atStart => exact ⟨(l0), ((⟨#[]⟩ : ByteArray)), (by first | rfl | (simp; done) | (simp [*]; done)), H', ⟨Nat.le_refl _⟩, ⟨by (with_reducible repeat (first | apply Kd.V_alloc | apply Kd.V_drewN | apply Kd.V_drew)); exact HO0.out⟩, ⟨by repeat (first | (with_reducible first | exact HB.out | apply below_alloc | apply pw_below_drewN | apply below_drew1) | exact HB.out)⟩⟩
  case round =>
    clear H'
    obtain ⟨x0_1, x3_1, rfl, HA, HK1, HO_0, HB⟩ := hrel
    cases gk with
    | zero => exact absurd HA.out (by simp [tenorref2_Decimal.l0])
    | succ k1 =>
      have H := HA.out
      clear HA
      simp only [tenorref2_Decimal.l0] at H
      by_cases c2 : (x0_1.length : Int) > 0
      · rw [if_pos c2] at H
        have c2b0 : decide (0 < (x0_1.length : Int)) = true := decide_eq_true c2
        have c2b1 : decide (0 < x0_1.length) = true := decide_eq_true (by omega)
        clear c2
        obtain ⟨y412, hy412⟩ : ∃ y_ : List Int, y_ = (([10] : List Int)) := ⟨_, rfl⟩
        replace H : ((tenorref1_DivDigits.f k1 x0_1 y412).bind fun bt415 => (if (bt415.2.length : Int) > 0 then (if 0 < (bt415.2.length : Int) then ((some (([(48 + ((rd bt415.2 0) % 256)) % 256] : List Int) : List Int)).bind fun y422 => (if (strOfNums y422).size + x3_1.size ≤ 9223372036854775807 then (tenorref2_Decimal.l0 k1 bt415.1 ((strOfNums y422) ++ x3_1)) else (none))) else (none)) else ((some (([48] : List Int) : List Int)).bind fun y425 => (if (strOfNums y425).size + x3_1.size ≤ 9223372036854775807 then (tenorref2_Decimal.l0 k1 bt415.1 ((strOfNums y425) ++ x3_1)) else (none))))) = some r := by first | (rw [hy412]; with_reducible exact H) | (have H2_ := (Option.bind_some _ _).symm.trans H; rw [hy412]; with_reducible exact H2_) | (have H2_ := (Option.bind_some _ _).symm.trans H; with_reducible exact H2_) | with_reducible exact H | (rw [hy412]; exact H) | exact H
        have Ny412 := Aside0.mk hy412
        clear hy412
        replace H := Option.bind_eq_some_iff.mp H
        obtain ⟨⟨t415, t416⟩, A30, H⟩ := H
        replace H : (if (t416.length : Int) > 0 then (if 0 < (t416.length : Int) then ((some (([(48 + ((rd t416 0) % 256)) % 256] : List Int) : List Int)).bind fun y422 => (if (strOfNums y422).size + x3_1.size ≤ 9223372036854775807 then (tenorref2_Decimal.l0 k1 t415 ((strOfNums y422) ++ x3_1)) else (none))) else (none)) else ((some (([48] : List Int) : List Int)).bind fun y425 => (if (strOfNums y425).size + x3_1.size ≤ 9223372036854775807 then (tenorref2_Decimal.l0 k1 t415 ((strOfNums y425) ++ x3_1)) else (none)))) = some r := H
        have A3 := Aside0.mk A30
        clear A30
        by_cases c4 : (t416.length : Int) > 0
        · rw [if_pos c4] at H
          have c4b0 : decide (0 < (t416.length : Int)) = true := decide_eq_true c4
          have c4b1 : decide (0 < t416.length) = true := decide_eq_true (by omega)
          clear c4
          by_cases c5 : 0 < (t416.length : Int)
          · rw [if_pos c5] at H
            have c5b0 : decide (0 < (t416.length : Int)) = true := decide_eq_true c5
            have c5b1 : decide (0 < t416.length) = true := decide_eq_true (by omega)
            clear c5
            obtain ⟨y422, hy422⟩ : ∃ y_ : List Int, y_ = (([(48 + ((rd t416 0) % 256)) % 256] : List Int)) := ⟨_, rfl⟩
            replace H : (if (strOfNums y422).size + x3_1.size ≤ 9223372036854775807 then (tenorref2_Decimal.l0 k1 t415 ((strOfNums y422) ++ x3_1)) else (none)) = some r := by first | (rw [hy422]; with_reducible exact H) | (have H2_ := (Option.bind_some _ _).symm.trans H; rw [hy422]; with_reducible exact H2_) | (have H2_ := (Option.bind_some _ _).symm.trans H; with_reducible exact H2_) | with_reducible exact H | (rw [hy422]; exact H) | exact H
            have Ny422 := Aside0.mk hy422
            clear hy422
            by_cases c6 : (strOfNums y422).size + x3_1.size ≤ 9223372036854775807
            · rw [if_pos c6] at H
              have c6b0 := eq_true c6
              have c6b1 : decide ((strOfNums y422).size + x3_1.size ≤ 9223372036854775807) = true := decide_eq_true c6
              try have c6b2 : (9223372036854775807 < (strOfNums y422).size + x3_1.size) = False := eq_false (Nat.not_lt.2 c6)
              have H' := Aside0.mk H
              clear H
              obtain ⟨Ao7, co7, eo7⟩ := Kd.V_slice HO_0.out
              subst eo7
              go_wp2_with (first | ((with_reducible refine gate_dst (N := 12) rfl ?_); refine Kd.R_lit (Kd.int .u64) _ 26 ?hg (N := 12) ?hd (xs := ([10] : List Int)) (inner := [.int .u64 10]) (ok := fun _ => True) (okp := fun _ => True) ?hr ?hp (fun _ hk => hk) trivial (Below.refl _ _) (Nat.le_refl _) (by simp) ?_; (case hd => rfl); (case hg => rfl); (case hr => first | (go_simp; done) | (go_simp; rfl)); (case hp => exact (Reps.one (show Kd.M (Kd.int .u64) _ _ _ 10 [.int .u64 10] from rfl) (Reps.none _ _))); intro v413 w8 ho9 hb hg_ hnew_; clear hg_ hnew_; (first | rw [← Ny412.out] at ho9 | (simp only [Int.reduceToNat] at ho9; rw [← Ny412.out] at ho9)); have n0_ := Aside0.mk (Kd.V_elder' (by (with_reducible repeat (first | apply Kd.V_alloc | apply Kd.V_drewN | apply Kd.V_drew)); exact HO_0.out) (Kd.R_base ho9) hb); have n1_ := Aside0.mk (Kd.R_lower (Kd.R_newM (M := fun k_ => (w.heap.size ≤ k_)) ho9 (below_size (by repeat (first | (with_reducible first | exact HB.out | apply below_alloc | apply pw_below_drewN | apply below_drew1) | exact HB.out))) (fun k_ h_ => h_)) (below_size (by repeat (first | (with_reducible first | exact HB.out | apply below_alloc | apply pw_below_drewN | apply below_drew1) | exact HB.out)))); have n2_ := Aside0.mk (below_step (by repeat (first | (with_reducible first | exact HB.out | apply below_alloc | apply pw_below_drewN | apply below_drew1) | exact HB.out)) hb); clear HO_0; clear HB; have HO_0 := n0_; have HO414 := n1_; have HB := n2_; clear n0_ n1_ n2_; clear hb ho9; obtain ⟨Ao10, co10, eo10⟩ := Kd.R_slice HO414.out; subst eo10) | ((with_reducible refine gate_callee (f := 70) rfl ?_); refine goesL_ (some 13) rfl rfl Tryz.func70 (by kernel_rfl) rfl #[.slice Ao7 x0_1.length co7, .slice Ao10 y412.length co10] rfl (by (try simp only [List.map_toArray, List.map_cons, List.map_nil]); first | done | rfl | (simp only [List.length_drop, List.length_take]; rfl)) ?_; (with_reducible refine (tenorref1_DivDigits.calls k1 _ _ x0_1 _ _ y412 t415 t416 _ ?side1 ?side2 ?side3 ?side4 A3.out).mono ?_); (case side1 => repeat (first | exact (Kd.V_reads' HO_0.out).2.2 | (with_reducible refine Kd.C_alloc ?_ _) | (with_reducible refine Kd.C_drewN ?_ _) | (with_reducible refine Kd.C_drew ?_))); (case side2 => exact (Kd.V_reads' HO_0.out).2.1); (case side3 => repeat (first | exact (Kd.R_reads' HO414.out).2.2 | (with_reducible refine Kd.C_alloc ?_ _) | (with_reducible refine Kd.C_drewN ?_ _) | (with_reducible refine Kd.C_drew ?_))); (case side4 => exact (Kd.R_reads' HO414.out).2.1); rintro e w11 ⟨v417, v419, rfl, ho0, ho1, hb⟩; refine ⟨_, rfl, ?_⟩; have n0_ := Aside0.mk (Kd.V_mono (Kd.V_told (Kd.V_told (Kd.V_old (by (with_reducible repeat (first | apply Kd.V_alloc | apply Kd.V_drewN | apply Kd.V_drew)); exact HO_0.out) hb) (Kd.R_base ho0)) (Kd.R_base ho1)) (fun _ h_ => h_.1)); have n1_ := Aside0.mk (Kd.R_mono (Kd.R_told (Kd.R_told (Kd.R_old (by (with_reducible repeat (first | apply Kd.R_alloc | apply Kd.R_drewN | apply Kd.R_drew)); exact HO414.out) hb) (Kd.R_base ho0)) (Kd.R_base ho1)) (fun _ h_ => h_.1)); have n2_ := Aside0.mk (Kd.R_lower (Kd.R_new' (Kd.R_newM (M := fun k_ => (w.heap.size ≤ k_)) ho0 (below_size (by repeat (first | (with_reducible first | exact HB.out | apply below_alloc | apply pw_below_drewN | apply below_drew1) | exact HB.out))) (fun k_ h_ => h_)) (Kd.R_lt (by (with_reducible repeat (first | apply Kd.R_alloc | apply Kd.R_drewN | apply Kd.R_drew)); exact HO414.out))) (below_size (by repeat (first | (with_reducible first | exact HB.out | apply below_alloc | apply pw_below_drewN | apply below_drew1) | exact HB.out)))); have n3_ := Aside0.mk (Kd.R_lower (Kd.R_new' (Kd.R_newM (M := fun k_ => (w.heap.size ≤ k_)) ho1 (below_size (by repeat (first | (with_reducible first | exact HB.out | apply below_alloc | apply pw_below_drewN | apply below_drew1) | exact HB.out))) (fun k_ h_ => h_)) (Kd.R_lt (by (with_reducible repeat (first | apply Kd.R_alloc | apply Kd.R_drewN | apply Kd.R_drew)); exact HO414.out))) (below_size (by repeat (first | (with_reducible first | exact HB.out | apply below_alloc | apply pw_below_drewN | apply below_drew1) | exact HB.out)))); have n4_ := Aside0.mk (below_step (by repeat (first | (with_reducible first | exact HB.out | apply below_alloc | apply pw_below_drewN | apply below_drew1) | exact HB.out)) hb); clear HO_0; clear HO414; clear HB; have HO_0 := n0_; have HO414 := n1_; have HO418 := n2_; have HO420 := n3_; have HB := n4_; clear n0_ n1_ n2_ n3_ n4_; (try clear hb); (try clear hb2); (try clear hk); (try clear hi); (try clear ho0); (try clear ho1); obtain ⟨Ao12, co12, eo12⟩ := Kd.R_slice HO420.out; subst eo12; have p421 : 0 ≤ (0 : Int) := (by omega); have q421 : 0 < (t416.length : Int) := of_decide_eq_true (by first | (with_reducible assumption) | assumption); obtain ⟨ad421, e421, hx421_0⟩ := Kd.at_int (Kd.R_reads' HO420.out).2.2 0 p421 q421; cases e421; have qi421 : (0 < t416.length) = True := eq_true (by omega); (try rw [show ((0 : Int)).toNat = 0 from rfl] at hx421_0); (try rw [Addr.add_zero'] at hx421_0); replace p421 := eq_true p421; replace q421 := eq_true q421) | ((with_reducible refine gate_dst (N := 26) rfl ?_); refine Kd.R_lit (Kd.int .u8) _ 5 ?hg (N := 26) ?hd (xs := ([(48 + ((rd t416 0) % 256)) % 256] : List Int)) (inner := [.int .u8 ((48 + ((rd t416 0) % 256)) % 256)]) (ok := fun _ => True) (okp := fun _ => True) ?hr ?hp (fun _ hk => hk) trivial (Below.refl _ _) (Nat.le_refl _) (by simp) ?_; (case hd => rfl); (case hg => rfl); (case hr => first | (go_simp; done) | (go_simp; rfl)); (case hp => exact (Reps.one (show Kd.M (Kd.int .u8) _ _ _ ((48 + ((rd t416 0) % 256)) % 256) [.int .u8 ((48 + ((rd t416 0) % 256)) % 256)] from rfl) (Reps.none _ _))); intro v423 w13 ho14 hb hg_ hnew_; clear hg_ hnew_; (first | rw [← Ny422.out] at ho14 | (simp only [Int.reduceToNat] at ho14; rw [← Ny422.out] at ho14)); have n0_ := Aside0.mk (Kd.V_elder' (by (with_reducible repeat (first | apply Kd.V_alloc | apply Kd.V_drewN | apply Kd.V_drew)); exact HO_0.out) (Kd.R_base ho14) hb); have n1_ := Aside0.mk (Kd.R_below (by (with_reducible repeat (first | apply Kd.R_alloc | apply Kd.R_drewN | apply Kd.R_drew)); exact HO414.out) hb); have n2_ := Aside0.mk (Kd.R_below (by (with_reducible repeat (first | apply Kd.R_alloc | apply Kd.R_drewN | apply Kd.R_drew)); exact HO418.out) hb); have n3_ := Aside0.mk (Kd.R_below (by (with_reducible repeat (first | apply Kd.R_alloc | apply Kd.R_drewN | apply Kd.R_drew)); exact HO420.out) hb); have n4_ := Aside0.mk (Kd.R_lower (Kd.R_newM (M := fun k_ => (w.heap.size ≤ k_)) ho14 (below_size (by repeat (first | (with_reducible first | exact HB.out | apply below_alloc | apply pw_below_drewN | apply below_drew1) | exact HB.out))) (fun k_ h_ => h_)) (below_size (by repeat (first | (with_reducible first | exact HB.out | apply below_alloc | apply pw_below_drewN | apply below_drew1) | exact HB.out)))); have n5_ := Aside0.mk (below_step (by repeat (first | (with_reducible first | exact HB.out | apply below_alloc | apply pw_below_drewN | apply below_drew1) | exact HB.out)) hb); clear HO_0; clear HO414; clear HO418; clear HO420; clear HB; have HO_0 := n0_; have HO414 := n1_; have HO418 := n2_; have HO420 := n3_; have HO424 := n4_; have HB := n5_; clear n0_ n1_ n2_ n3_ n4_ n5_; clear hb ho14; have hcv15 := own_string (P := Tryz.prog) Tryz.underlying94 Tryz.underlying5 Tryz.underlying9 (Kd.own_of_R HO424.out)))
              go_roundg k1
              case measure => have := HK1.out; omega
              case rel => exact ⟨(t415), ((strOfNums y422) ++ x3_1), (by first | rfl | (simp; done) | (simp [*]; done)), H', ⟨by have := HK1.out; omega⟩, ⟨Kd.V_mono (Kd.R_V (by (with_reducible repeat (first | apply Kd.R_alloc | apply Kd.R_drewN | apply Kd.R_drew)); exact Kd.R_mono HO418.out (fun _ hk => hk.1.1))) (fun k_ hk => by first | exact ⟨(.inr (hk.1)), hk.2⟩ | exact (.inr (hk)))⟩, ⟨by repeat (first | (with_reducible first | exact HB.out | apply below_alloc | apply pw_below_drewN | apply below_drew1) | exact HB.out)⟩⟩
            rw [if_neg c6] at H
            exact absurd H (by simp)
          rw [if_neg c5] at H
          exact absurd H (by simp)
        rw [if_neg c4] at H
        have c4b0 : decide (0 < (t416.length : Int)) = false := decide_eq_false c4
        have c4b1 : decide (0 < t416.length) = false := decide_eq_false (by omega)
        clear c4
        obtain ⟨y425, hy425⟩ : ∃ y_ : List Int, y_ = (([48] : List Int)) := ⟨_, rfl⟩
        replace H : (if (strOfNums y425).size + x3_1.size ≤ 9223372036854775807 then (tenorref2_Decimal.l0 k1 t415 ((strOfNums y425) ++ x3_1)) else (none)) = some r := by first | (rw [hy425]; with_reducible exact H) | (have H2_ := (Option.bind_some _ _).symm.trans H; rw [hy425]; with_reducible exact H2_) | (have H2_ := (Option.bind_some _ _).symm.trans H; with_reducible exact H2_) | with_reducible exact H | (rw [hy425]; exact H) | exact H
        have Ny425 := Aside0.mk hy425
        clear hy425
        by_cases c16 : (strOfNums y425).size + x3_1.size ≤ 9223372036854775807
        · rw [if_pos c16] at H
          have c16b0 := eq_true c16
          have c16b1 : decide ((strOfNums y425).size + x3_1.size ≤ 9223372036854775807) = true := decide_eq_true c16
          try have c16b2 : (9223372036854775807 < (strOfNums y425).size + x3_1.size) = False := eq_false (Nat.not_lt.2 c16)
          have H' := Aside0.mk H
          clear H
          obtain ⟨Ao17, co17, eo17⟩ := Kd.V_slice HO_0.out
          subst eo17
          go_wp2_with (first | ((with_reducible refine gate_dst (N := 12) rfl ?_); refine Kd.R_lit (Kd.int .u64) _ 26 ?hg (N := 12) ?hd (xs := ([10] : List Int)) (inner := [.int .u64 10]) (ok := fun _ => True) (okp := fun _ => True) ?hr ?hp (fun _ hk => hk) trivial (Below.refl _ _) (Nat.le_refl _) (by simp) ?_; (case hd => rfl); (case hg => rfl); (case hr => first | (go_simp; done) | (go_simp; rfl)); (case hp => exact (Reps.one (show Kd.M (Kd.int .u64) _ _ _ 10 [.int .u64 10] from rfl) (Reps.none _ _))); intro v413 w18 ho19 hb hg_ hnew_; clear hg_ hnew_; (first | rw [← Ny412.out] at ho19 | (simp only [Int.reduceToNat] at ho19; rw [← Ny412.out] at ho19)); have n0_ := Aside0.mk (Kd.V_elder' (by (with_reducible repeat (first | apply Kd.V_alloc | apply Kd.V_drewN | apply Kd.V_drew)); exact HO_0.out) (Kd.R_base ho19) hb); have n1_ := Aside0.mk (Kd.R_lower (Kd.R_newM (M := fun k_ => (w.heap.size ≤ k_)) ho19 (below_size (by repeat (first | (with_reducible first | exact HB.out | apply below_alloc | apply pw_below_drewN | apply below_drew1) | exact HB.out))) (fun k_ h_ => h_)) (below_size (by repeat (first | (with_reducible first | exact HB.out | apply below_alloc | apply pw_below_drewN | apply below_drew1) | exact HB.out)))); have n2_ := Aside0.mk (below_step (by repeat (first | (with_reducible first | exact HB.out | apply below_alloc | apply pw_below_drewN | apply below_drew1) | exact HB.out)) hb); clear HO_0; clear HB; have HO_0 := n0_; have HO414 := n1_; have HB := n2_; clear n0_ n1_ n2_; clear hb ho19; obtain ⟨Ao20, co20, eo20⟩ := Kd.R_slice HO414.out; subst eo20) | ((with_reducible refine gate_callee (f := 70) rfl ?_); refine goesL_ (some 13) rfl rfl Tryz.func70 (by kernel_rfl) rfl #[.slice Ao17 x0_1.length co17, .slice Ao20 y412.length co20] rfl (by (try simp only [List.map_toArray, List.map_cons, List.map_nil]); first | done | rfl | (simp only [List.length_drop, List.length_take]; rfl)) ?_; (with_reducible refine (tenorref1_DivDigits.calls k1 _ _ x0_1 _ _ y412 t415 t416 _ ?side1 ?side2 ?side3 ?side4 A3.out).mono ?_); (case side1 => repeat (first | exact (Kd.V_reads' HO_0.out).2.2 | (with_reducible refine Kd.C_alloc ?_ _) | (with_reducible refine Kd.C_drewN ?_ _) | (with_reducible refine Kd.C_drew ?_))); (case side2 => exact (Kd.V_reads' HO_0.out).2.1); (case side3 => repeat (first | exact (Kd.R_reads' HO414.out).2.2 | (with_reducible refine Kd.C_alloc ?_ _) | (with_reducible refine Kd.C_drewN ?_ _) | (with_reducible refine Kd.C_drew ?_))); (case side4 => exact (Kd.R_reads' HO414.out).2.1); rintro e w21 ⟨v417, v419, rfl, ho0, ho1, hb⟩; refine ⟨_, rfl, ?_⟩; have n0_ := Aside0.mk (Kd.V_mono (Kd.V_told (Kd.V_told (Kd.V_old (by (with_reducible repeat (first | apply Kd.V_alloc | apply Kd.V_drewN | apply Kd.V_drew)); exact HO_0.out) hb) (Kd.R_base ho0)) (Kd.R_base ho1)) (fun _ h_ => h_.1)); have n1_ := Aside0.mk (Kd.R_mono (Kd.R_told (Kd.R_told (Kd.R_old (by (with_reducible repeat (first | apply Kd.R_alloc | apply Kd.R_drewN | apply Kd.R_drew)); exact HO414.out) hb) (Kd.R_base ho0)) (Kd.R_base ho1)) (fun _ h_ => h_.1)); have n2_ := Aside0.mk (Kd.R_lower (Kd.R_new' (Kd.R_newM (M := fun k_ => (w.heap.size ≤ k_)) ho0 (below_size (by repeat (first | (with_reducible first | exact HB.out | apply below_alloc | apply pw_below_drewN | apply below_drew1) | exact HB.out))) (fun k_ h_ => h_)) (Kd.R_lt (by (with_reducible repeat (first | apply Kd.R_alloc | apply Kd.R_drewN | apply Kd.R_drew)); exact HO414.out))) (below_size (by repeat (first | (with_reducible first | exact HB.out | apply below_alloc | apply pw_below_drewN | apply below_drew1) | exact HB.out)))); have n3_ := Aside0.mk (Kd.R_lower (Kd.R_new' (Kd.R_newM (M := fun k_ => (w.heap.size ≤ k_)) ho1 (below_size (by repeat (first | (with_reducible first | exact HB.out | apply below_alloc | apply pw_below_drewN | apply below_drew1) | exact HB.out))) (fun k_ h_ => h_)) (Kd.R_lt (by (with_reducible repeat (first | apply Kd.R_alloc | apply Kd.R_drewN | apply Kd.R_drew)); exact HO414.out))) (below_size (by repeat (first | (with_reducible first | exact HB.out | apply below_alloc | apply pw_below_drewN | apply below_drew1) | exact HB.out)))); have n4_ := Aside0.mk (below_step (by repeat (first | (with_reducible first | exact HB.out | apply below_alloc | apply pw_below_drewN | apply below_drew1) | exact HB.out)) hb); clear HO_0; clear HO414; clear HB; have HO_0 := n0_; have HO414 := n1_; have HO418 := n2_; have HO420 := n3_; have HB := n4_; clear n0_ n1_ n2_ n3_ n4_; (try clear hb); (try clear hb2); (try clear hk); (try clear hi); (try clear ho0); (try clear ho1); obtain ⟨Ao22, co22, eo22⟩ := Kd.R_slice HO420.out; subst eo22) | ((with_reducible refine gate_dst (N := 26) rfl ?_); refine Kd.R_lit (Kd.int .u8) _ 5 ?hg (N := 26) ?hd (xs := ([48] : List Int)) (inner := [.int .u8 48]) (ok := fun _ => True) (okp := fun _ => True) ?hr ?hp (fun _ hk => hk) trivial (Below.refl _ _) (Nat.le_refl _) (by simp) ?_; (case hd => rfl); (case hg => rfl); (case hr => first | (go_simp; done) | (go_simp; rfl)); (case hp => exact (Reps.one (show Kd.M (Kd.int .u8) _ _ _ 48 [.int .u8 48] from rfl) (Reps.none _ _))); intro v426 w23 ho24 hb hg_ hnew_; clear hg_ hnew_; (first | rw [← Ny425.out] at ho24 | (simp only [Int.reduceToNat] at ho24; rw [← Ny425.out] at ho24)); have n0_ := Aside0.mk (Kd.V_elder' (by (with_reducible repeat (first | apply Kd.V_alloc | apply Kd.V_drewN | apply Kd.V_drew)); exact HO_0.out) (Kd.R_base ho24) hb); have n1_ := Aside0.mk (Kd.R_below (by (with_reducible repeat (first | apply Kd.R_alloc | apply Kd.R_drewN | apply Kd.R_drew)); exact HO414.out) hb); have n2_ := Aside0.mk (Kd.R_below (by (with_reducible repeat (first | apply Kd.R_alloc | apply Kd.R_drewN | apply Kd.R_drew)); exact HO418.out) hb); have n3_ := Aside0.mk (Kd.R_below (by (with_reducible repeat (first | apply Kd.R_alloc | apply Kd.R_drewN | apply Kd.R_drew)); exact HO420.out) hb); have n4_ := Aside0.mk (Kd.R_lower (Kd.R_newM (M := fun k_ => (w.heap.size ≤ k_)) ho24 (below_size (by repeat (first | (with_reducible first | exact HB.out | apply below_alloc | apply pw_below_drewN | apply below_drew1) | exact HB.out))) (fun k_ h_ => h_)) (below_size (by repeat (first | (with_reducible first | exact HB.out | apply below_alloc | apply pw_below_drewN | apply below_drew1) | exact HB.out)))); have n5_ := Aside0.mk (below_step (by repeat (first | (with_reducible first | exact HB.out | apply below_alloc | apply pw_below_drewN | apply below_drew1) | exact HB.out)) hb); clear HO_0; clear HO414; clear HO418; clear HO420; clear HB; have HO_0 := n0_; have HO414 := n1_; have HO418 := n2_; have HO420 := n3_; have HO427 := n4_; have HB := n5_; clear n0_ n1_ n2_ n3_ n4_ n5_; clear hb ho24; have hcv25 := own_string (P := Tryz.prog) Tryz.underlying94 Tryz.underlying5 Tryz.underlying9 (Kd.own_of_R HO427.out)))
          go_roundg k1
          case measure => have := HK1.out; omega
          case rel => exact ⟨(t415), ((strOfNums y425) ++ x3_1), (by first | rfl | (simp; done) | (simp [*]; done)), H', ⟨by have := HK1.out; omega⟩, ⟨Kd.V_mono (Kd.R_V (by (with_reducible repeat (first | apply Kd.R_alloc | apply Kd.R_drewN | apply Kd.R_drew)); exact Kd.R_mono HO418.out (fun _ hk => hk.1.1))) (fun k_ hk => by first | exact ⟨(.inr (hk.1)), hk.2⟩ | exact (.inr (hk)))⟩, ⟨by repeat (first | (with_reducible first | exact HB.out | apply below_alloc | apply pw_below_drewN | apply below_drew1) | exact HB.out)⟩⟩
        rw [if_neg c16] at H
        exact absurd H (by simp)
      rw [if_neg c2] at H
      have c2b0 : decide (0 < (x0_1.length : Int)) = false := decide_eq_false c2
      have c2b1 : decide (0 < x0_1.length) = false := decide_eq_false (by omega)
      clear c2
      by_cases c26 : x3_1.toList = ([] : List UInt8)
      · rw [if_pos c26] at H
        have c26b0 : (x3_1.toList == ([] : List UInt8)) = true := beq_iff_eq.mpr c26
        have c26b1 : (x3_1.toList != ([] : List UInt8)) = false := bne_eq_false_iff_eq.mpr c26
        clear c26
        obtain rfl := Option.some.inj H
        obtain ⟨Ao27, co27, eo27⟩ := Kd.V_slice HO_0.out
        subst eo27
        go_wp2
        go_ret
        exact ⟨by first | rfl | (simp [errW_none, errW_some] <;> rfl) | (simp [*, errW_none, errW_some] <;> rfl), by repeat (first | (with_reducible first | exact HB.out | apply below_alloc | apply pw_below_drewN | apply below_drew1) | exact HB.out)⟩
      rw [if_neg c26] at H
      have c26b0 : (x3_1.toList == ([] : List UInt8)) = false := beq_eq_false_iff_ne.mpr c26
      have c26b1 : (x3_1.toList != ([] : List UInt8)) = true := bne_iff_ne.mpr c26
      obtain rfl := Option.some.inj H
      obtain ⟨Ao28, co28, eo28⟩ := Kd.V_slice HO_0.out
      subst eo28
      go_wp2
      go_ret
      exact ⟨by first | rfl | (simp [errW_none, errW_some] <;> rfl) | (simp [*, errW_none, errW_some] <;> rfl), by repeat (first | (with_reducible first | exact HB.out | apply below_alloc | apply pw_below_drewN | apply below_drew1) | exact HB.out)⟩
end Go.Proofs.YtjpiplplohapnaaGreatDoor.PText
namespace Go.Proofs.YtjpiplplohapnaaGreatDoor.PText
open Go.RowKit Go.Proofs.YtjpiplplohapnaaGreatDoorW.PrintWords Go.Proofs.YtjpiplplohapnaaGreatDoorW.PrintLast Go.Proofs.YtjpiplplohapnaaGreatDoorW.PrintMore
attribute [local go_sem] max2_int min2_int max_two min_two max_three min_three max_four min_four
set_option linter.unusedVariables false
set_option linter.unusedSimpArgs false
def tenorref1_Number.f (a0 : Int) : Option (Bool) := some (decide ((Go.bits .andNot .u64 a0 9223372036854775808) < 9218868437227405312))
set_option maxHeartbeats 8000000 in
set_option maxRecDepth 100000 in
theorem tenorref1_Number.calls (a0 : Int) (r : Bool) (w : World) (h : tenorref1_Number.f a0 = some r) :
    Calls Tryz.prog 32 #[.int .u64 a0] w fun e w' => e = .returned (.bool r) ∧ Drawn0 w w' := by
  have H : (some (decide ((Go.bits .andNot .u64 a0 9223372036854775808) < 9218868437227405312))) = some r := h
  clear h
  obtain rfl := Option.some.inj H
  go_enter Tryz.func32, Tryz.ntmps32
  go_wp2
  go_ret
  exact ⟨by first | rfl | (simp; done) | (simp [*]; done), by repeat (first | exact Drawn0.refl _ | apply Drawn0.step)⟩
def tenorref1_Of.f (k : Nat) (a0 : Int) : Option (Bool × List Int × Int) := if (wrap64 (Go.bits .and .u64 (a0 / 4503599627370496) 2047)) > 0 then (if (IntKind.u64.wrap ((Go.bits .and .u64 a0 4503599627370495) + 4503599627370496)) = 0 then (some (false, ([] : List Int), 0)) else ((tenorref1_Digits.f k (IntKind.u64.wrap ((Go.bits .and .u64 a0 4503599627370495) + 4503599627370496))).bind fun t316 => (some (decide (a0 ≥ 9223372036854775808), t316, wrap64 ((wrap64 (Go.bits .and .u64 (a0 / 4503599627370496) 2047)) - 1075))))) else (if (Go.bits .and .u64 a0 4503599627370495) = 0 then (some (false, ([] : List Int), 0)) else ((tenorref1_Digits.f k (Go.bits .and .u64 a0 4503599627370495)).bind fun t319 => (some (decide (a0 ≥ 9223372036854775808), t319, (-1074)))))
set_option maxHeartbeats 8000000 in
set_option maxRecDepth 100000 in
theorem tenorref1_Of.calls (k : Nat) (a0 : Int) (r1 : Bool) (r2 : List Int) (r3 : Int) (w : World) (h : tenorref1_Of.f k a0 = some (r1, r2, r3)) :
    Calls Tryz.prog 33 #[.int .u64 a0] w fun e w' => ∃ v1_ : Value, e = .returned (.agg #[.bool r1, v1_, .int .i64 r3]) ∧ Kd.R (Kd.int .u64) 26 w' w.heap.size (fun _ => True) v1_ r2 ∧ Below w.heap.size w w' := by
  have hu61 := Tryz.underlying61
  have HB := Aside0.mk (Below.refl w.heap.size w)
  have H : (if (wrap64 (Go.bits .and .u64 (a0 / 4503599627370496) 2047)) > 0 then (if (IntKind.u64.wrap ((Go.bits .and .u64 a0 4503599627370495) + 4503599627370496)) = 0 then (some (false, ([] : List Int), 0)) else ((tenorref1_Digits.f k (IntKind.u64.wrap ((Go.bits .and .u64 a0 4503599627370495) + 4503599627370496))).bind fun t316 => (some (decide (a0 ≥ 9223372036854775808), t316, wrap64 ((wrap64 (Go.bits .and .u64 (a0 / 4503599627370496) 2047)) - 1075))))) else (if (Go.bits .and .u64 a0 4503599627370495) = 0 then (some (false, ([] : List Int), 0)) else ((tenorref1_Digits.f k (Go.bits .and .u64 a0 4503599627370495)).bind fun t319 => (some (decide (a0 ≥ 9223372036854775808), t319, (-1074)))))) = some (r1, r2, r3) := h
  clear h
  by_cases c2 : (wrap64 (Go.bits .and .u64 (a0 / 4503599627370496) 2047)) > 0
  · rw [if_pos c2] at H
    have c2b0 : decide (0 < (wrap64 (Go.bits .and .u64 (a0 / 4503599627370496) 2047))) = true := decide_eq_true c2
    clear c2
    by_cases c3 : (IntKind.u64.wrap ((Go.bits .and .u64 a0 4503599627370495) + 4503599627370496)) = 0
    · rw [if_pos c3] at H
      have c3b0 : ((IntKind.u64.wrap ((Go.bits .and .u64 a0 4503599627370495) + 4503599627370496)) == 0) = true := beq_iff_eq.mpr c3
      have c3b1 : ((IntKind.u64.wrap ((Go.bits .and .u64 a0 4503599627370495) + 4503599627370496)) != 0) = false := bne_eq_false_iff_eq.mpr c3
      clear c3
      simp only [Option.some.injEq, Prod.mk.injEq] at H
      obtain ⟨rfl, rfl, rfl⟩ := H
      go_enter Tryz.func33, Tryz.ntmps33
      go_wp2_with (first | ((with_reducible refine gate_dst (N := 2) rfl ?_); refine box_event ?hg (N := 2) ?hd (cs := #[.bool false, .slice none 0 0, .int .i64 0]) (t := 61) ?hr ?_; (case hd => rfl); (case hg => rfl); (case hr => first | (go_simp; done) | (go_simp; rfl)); intro gb315 hg w4 hbox hb; have n0_ := Aside0.mk (below_step (by repeat (first | (with_reducible first | exact HB.out | apply below_alloc | apply pw_below_drewN | apply below_drew1) | exact HB.out)) hb); have n1_ := Aside0.mk (hbox); have n2_ := Aside0.mk ((by rw [hg]; exact (below_size (by repeat (first | (with_reducible first | exact HB.out | apply below_alloc | apply pw_below_drewN | apply below_drew1) | exact HB.out))) : w.heap.size ≤ gb315)); have n3_ := Aside0.mk ((by rw [hg]; exact (below_size (by repeat (first | (with_reducible first | exact HB.out | apply below_alloc | apply pw_below_drewN | apply below_drew1) | exact HB.out))) : w.heap.size ≤ gb315)); clear HB; have HB := n0_; have BK315 := n1_; have GW315 := n2_; have GE315 := n3_; clear n0_ n1_ n2_ n3_; clear hb hbox hg; have hcz5_0 : w4.cell? ⟨gb315, 0, none⟩ = some (.bool false) := (blk_cell BK315.out 0).trans rfl; have hcz5_1 : w4.cell? ⟨gb315, 1, none⟩ = some (.slice none 0 0) := (blk_cell BK315.out 1).trans rfl; have hcz5_2 : w4.cell? ⟨gb315, 2, none⟩ = some (.int .i64 0) := (blk_cell BK315.out 2).trans rfl; have hfz5_0 := blk_frozen BK315.out 0; have hfz5_1 := blk_frozen BK315.out 1; have hfz5_2 := blk_frozen BK315.out 2))
      refine bodyPost_ret (results_cell_row rfl _ _ gb315 61 #[.bool false, .slice none 0 0, .int .i64 0] (0, 0) _ rfl (by (with_reducible repeat (first | refine blk_drewN ?_ _ | refine blk_drew ?_ | refine blk_alloc ?_ _)); refine blk_put (cs := #[.bool false, .slice none 0 0, .int .i64 0]) ?_ 2 _ rfl; (with_reducible repeat (first | refine blk_drewN ?_ _ | refine blk_drew ?_ | refine blk_alloc ?_ _)); refine blk_put (cs := #[.bool false, .slice none 0 0, .int .i64 0]) ?_ 1 _ rfl; (with_reducible repeat (first | refine blk_drewN ?_ _ | refine blk_drew ?_ | refine blk_alloc ?_ _)); refine blk_put (cs := #[.bool false, .slice none 0 0, .int .i64 0]) ?_ 0 _ rfl; (with_reducible repeat (first | refine blk_drewN ?_ _ | refine blk_drew ?_ | refine blk_alloc ?_ _)); exact BK315.out) Tryz.underlying61 rfl (by kernel_rfl)) rfl ?_
      exact ⟨_, by first | rfl | (simp [errW_none, errW_some] <;> rfl) | (simp [*, errW_none, errW_some] <;> rfl), by first | exact Kd.R_nil _ _ _ _ _ | exact Kd.N_nil _ _ _ _ _ | exact Kd.V_nil _ _ _ _ _ | exact Kd.Q_nil _ _ _ _ _ | exact Kd.S_nil _ _ _ _ _, by repeat (first | (with_reducible first | exact HB.out | apply below_alloc | apply pw_below_drewN | apply below_drew1 | refine below_set ?_ GE315.out) | exact HB.out)⟩
    rw [if_neg c3] at H
    have c3b0 : ((IntKind.u64.wrap ((Go.bits .and .u64 a0 4503599627370495) + 4503599627370496)) == 0) = false := beq_eq_false_iff_ne.mpr c3
    have c3b1 : ((IntKind.u64.wrap ((Go.bits .and .u64 a0 4503599627370495) + 4503599627370496)) != 0) = true := bne_iff_ne.mpr c3
    replace H := Option.bind_eq_some_iff.mp H
    obtain ⟨t316, A60, H⟩ := H
    replace H : (some (decide (a0 ≥ 9223372036854775808), t316, wrap64 ((wrap64 (Go.bits .and .u64 (a0 / 4503599627370496) 2047)) - 1075))) = some (r1, r2, r3) := H
    have A6 := Aside0.mk A60
    clear A60
    simp only [Option.some.injEq, Prod.mk.injEq] at H
    obtain ⟨rfl, rfl, rfl⟩ := H
    go_enter Tryz.func33, Tryz.ntmps33
    go_wp2_with (first | ((with_reducible refine gate_dst (N := 2) rfl ?_); refine box_event ?hg (N := 2) ?hd (cs := #[.bool false, .slice none 0 0, .int .i64 0]) (t := 61) ?hr ?_; (case hd => rfl); (case hg => rfl); (case hr => first | (go_simp; done) | (go_simp; rfl)); intro gb315 hg w7 hbox hb; have n0_ := Aside0.mk (below_step (by repeat (first | (with_reducible first | exact HB.out | apply below_alloc | apply pw_below_drewN | apply below_drew1) | exact HB.out)) hb); have n1_ := Aside0.mk (hbox); have n2_ := Aside0.mk ((by rw [hg]; exact (below_size (by repeat (first | (with_reducible first | exact HB.out | apply below_alloc | apply pw_below_drewN | apply below_drew1) | exact HB.out))) : w.heap.size ≤ gb315)); have n3_ := Aside0.mk ((by rw [hg]; exact (below_size (by repeat (first | (with_reducible first | exact HB.out | apply below_alloc | apply pw_below_drewN | apply below_drew1) | exact HB.out))) : w.heap.size ≤ gb315)); clear HB; have HB := n0_; have BK315 := n1_; have GW315 := n2_; have GE315 := n3_; clear n0_ n1_ n2_ n3_; clear hb hbox hg) | ((with_reducible refine gate_callee (f := 62) rfl ?_); refine goesL_ (some 21) rfl rfl Tryz.func62 (by kernel_rfl) rfl #[.int .u64 (IntKind.u64.wrap ((Go.bits .and .u64 a0 4503599627370495) + 4503599627370496))] rfl (by (try simp only [List.map_toArray, List.map_cons, List.map_nil]); first | done | rfl | (simp only [List.length_drop, List.length_take]; rfl)) ?_; (with_reducible refine (tenorref1_Digits.calls k (IntKind.u64.wrap ((Go.bits .and .u64 a0 4503599627370495) + 4503599627370496)) t316 _ A6.out).mono ?_); rintro e w8 ⟨v317, rfl, ho0, hb⟩; refine ⟨_, rfl, ?_⟩; have n0_ := Aside0.mk (Kd.R_lower ho0 (below_size (by repeat (first | (with_reducible first | exact HB.out | apply below_alloc | apply pw_below_drewN | apply below_drew1 | refine below_set ?_ GE315.out) | exact HB.out)))); have n1_ := Aside0.mk (blk_below (g := gb315) (o := .cells #[.bool false, .slice none 0 0, .int .i64 0] 61 (0, 0)) (by (with_reducible repeat (first | refine blk_drewN ?_ _ | refine blk_drew ?_ | refine blk_alloc ?_ _)); exact BK315.out) hb); have n2_ := Aside0.mk (below_step (by repeat (first | (with_reducible first | exact HB.out | apply below_alloc | apply pw_below_drewN | apply below_drew1 | refine below_set ?_ GE315.out) | exact HB.out)) hb); clear BK315; clear HB; have HO318 := n0_; have BK315 := n1_; have HB := n2_; clear n0_ n1_ n2_; (try clear hb); (try clear hb2); (try clear hk); (try clear hi); (try clear ho0); obtain ⟨Ao9, co9, eo9⟩ := Kd.R_slice HO318.out; subst eo9; have hcz10_0 : w8.cell? ⟨gb315, 0, none⟩ = some (.bool false) := (blk_cell BK315.out 0).trans rfl; have hcz10_1 : w8.cell? ⟨gb315, 1, none⟩ = some (.slice none 0 0) := (blk_cell BK315.out 1).trans rfl; have hcz10_2 : w8.cell? ⟨gb315, 2, none⟩ = some (.int .i64 0) := (blk_cell BK315.out 2).trans rfl; have hfz10_0 := blk_frozen BK315.out 0; have hfz10_1 := blk_frozen BK315.out 1; have hfz10_2 := blk_frozen BK315.out 2))
    refine bodyPost_ret (results_cell_row rfl _ _ gb315 61 #[.bool (decide (a0 ≥ 9223372036854775808)), .slice Ao9 t316.length co9, .int .i64 (wrap64 ((wrap64 (Go.bits .and .u64 (a0 / 4503599627370496) 2047)) - 1075))] (0, 0) _ rfl (by (with_reducible repeat (first | refine blk_drewN ?_ _ | refine blk_drew ?_ | refine blk_alloc ?_ _)); refine blk_put (cs := #[.bool (decide (a0 ≥ 9223372036854775808)), .slice Ao9 t316.length co9, .int .i64 0]) ?_ 2 _ rfl; (with_reducible repeat (first | refine blk_drewN ?_ _ | refine blk_drew ?_ | refine blk_alloc ?_ _)); refine blk_put (cs := #[.bool (decide (a0 ≥ 9223372036854775808)), .slice none 0 0, .int .i64 0]) ?_ 1 _ rfl; (with_reducible repeat (first | refine blk_drewN ?_ _ | refine blk_drew ?_ | refine blk_alloc ?_ _)); refine blk_put (cs := #[.bool false, .slice none 0 0, .int .i64 0]) ?_ 0 _ rfl; (with_reducible repeat (first | refine blk_drewN ?_ _ | refine blk_drew ?_ | refine blk_alloc ?_ _)); exact BK315.out) Tryz.underlying61 rfl (by kernel_rfl)) rfl ?_
    exact ⟨_, by first | rfl | (simp [errW_none, errW_some] <;> rfl) | (simp [*, errW_none, errW_some] <;> rfl), by (with_reducible repeat (first | apply Kd.R_alloc | apply Kd.R_drewN | apply Kd.R_drew)); exact Kd.R_mono (Kd.R_far (p := ⟨gb315, 2, none⟩) (Kd.R_far (p := ⟨gb315, 1, none⟩) (Kd.R_far (p := ⟨gb315, 0, none⟩) (Kd.R_types HO318.out BK315.out (by decide)) (fun _ hk => hk.2) (.bool (decide (a0 ≥ 9223372036854775808)))) (fun _ hk => hk.2) (.slice Ao9 t316.length co9)) (fun _ hk => hk.2) (.int .i64 (wrap64 ((wrap64 (Go.bits .and .u64 (a0 / 4503599627370496) 2047)) - 1075)))) (fun _ hk => trivial), by repeat (first | (with_reducible first | exact HB.out | apply below_alloc | apply pw_below_drewN | apply below_drew1 | refine below_set ?_ GE315.out) | exact HB.out)⟩
  rw [if_neg c2] at H
  have c2b0 : decide (0 < (wrap64 (Go.bits .and .u64 (a0 / 4503599627370496) 2047))) = false := decide_eq_false c2
  clear c2
  by_cases c11 : (Go.bits .and .u64 a0 4503599627370495) = 0
  · rw [if_pos c11] at H
    have c11b0 : ((Go.bits .and .u64 a0 4503599627370495) == 0) = true := beq_iff_eq.mpr c11
    have c11b1 : ((Go.bits .and .u64 a0 4503599627370495) != 0) = false := bne_eq_false_iff_eq.mpr c11
    clear c11
    simp only [Option.some.injEq, Prod.mk.injEq] at H
    obtain ⟨rfl, rfl, rfl⟩ := H
    go_enter Tryz.func33, Tryz.ntmps33
    go_wp2_with (first | ((with_reducible refine gate_dst (N := 2) rfl ?_); refine box_event ?hg (N := 2) ?hd (cs := #[.bool false, .slice none 0 0, .int .i64 0]) (t := 61) ?hr ?_; (case hd => rfl); (case hg => rfl); (case hr => first | (go_simp; done) | (go_simp; rfl)); intro gb315 hg w12 hbox hb; have n0_ := Aside0.mk (below_step (by repeat (first | (with_reducible first | exact HB.out | apply below_alloc | apply pw_below_drewN | apply below_drew1) | exact HB.out)) hb); have n1_ := Aside0.mk (hbox); have n2_ := Aside0.mk ((by rw [hg]; exact (below_size (by repeat (first | (with_reducible first | exact HB.out | apply below_alloc | apply pw_below_drewN | apply below_drew1) | exact HB.out))) : w.heap.size ≤ gb315)); have n3_ := Aside0.mk ((by rw [hg]; exact (below_size (by repeat (first | (with_reducible first | exact HB.out | apply below_alloc | apply pw_below_drewN | apply below_drew1) | exact HB.out))) : w.heap.size ≤ gb315)); clear HB; have HB := n0_; have BK315 := n1_; have GW315 := n2_; have GE315 := n3_; clear n0_ n1_ n2_ n3_; clear hb hbox hg; have hcz13_0 : w12.cell? ⟨gb315, 0, none⟩ = some (.bool false) := (blk_cell BK315.out 0).trans rfl; have hcz13_1 : w12.cell? ⟨gb315, 1, none⟩ = some (.slice none 0 0) := (blk_cell BK315.out 1).trans rfl; have hcz13_2 : w12.cell? ⟨gb315, 2, none⟩ = some (.int .i64 0) := (blk_cell BK315.out 2).trans rfl; have hfz13_0 := blk_frozen BK315.out 0; have hfz13_1 := blk_frozen BK315.out 1; have hfz13_2 := blk_frozen BK315.out 2))
    refine bodyPost_ret (results_cell_row rfl _ _ gb315 61 #[.bool false, .slice none 0 0, .int .i64 0] (0, 0) _ rfl (by (with_reducible repeat (first | refine blk_drewN ?_ _ | refine blk_drew ?_ | refine blk_alloc ?_ _)); refine blk_put (cs := #[.bool false, .slice none 0 0, .int .i64 0]) ?_ 2 _ rfl; (with_reducible repeat (first | refine blk_drewN ?_ _ | refine blk_drew ?_ | refine blk_alloc ?_ _)); refine blk_put (cs := #[.bool false, .slice none 0 0, .int .i64 0]) ?_ 1 _ rfl; (with_reducible repeat (first | refine blk_drewN ?_ _ | refine blk_drew ?_ | refine blk_alloc ?_ _)); refine blk_put (cs := #[.bool false, .slice none 0 0, .int .i64 0]) ?_ 0 _ rfl; (with_reducible repeat (first | refine blk_drewN ?_ _ | refine blk_drew ?_ | refine blk_alloc ?_ _)); exact BK315.out) Tryz.underlying61 rfl (by kernel_rfl)) rfl ?_
    exact ⟨_, by first | rfl | (simp [errW_none, errW_some] <;> rfl) | (simp [*, errW_none, errW_some] <;> rfl), by first | exact Kd.R_nil _ _ _ _ _ | exact Kd.N_nil _ _ _ _ _ | exact Kd.V_nil _ _ _ _ _ | exact Kd.Q_nil _ _ _ _ _ | exact Kd.S_nil _ _ _ _ _, by repeat (first | (with_reducible first | exact HB.out | apply below_alloc | apply pw_below_drewN | apply below_drew1 | refine below_set ?_ GE315.out) | exact HB.out)⟩
  rw [if_neg c11] at H
  have c11b0 : ((Go.bits .and .u64 a0 4503599627370495) == 0) = false := beq_eq_false_iff_ne.mpr c11
  have c11b1 : ((Go.bits .and .u64 a0 4503599627370495) != 0) = true := bne_iff_ne.mpr c11
  replace H := Option.bind_eq_some_iff.mp H
  obtain ⟨t319, A140, H⟩ := H
  replace H : (some (decide (a0 ≥ 9223372036854775808), t319, (-1074))) = some (r1, r2, r3) := H
  have A14 := Aside0.mk A140
  clear A140
  simp only [Option.some.injEq, Prod.mk.injEq] at H
  obtain ⟨rfl, rfl, rfl⟩ := H
  go_enter Tryz.func33, Tryz.ntmps33
  go_wp2_with (first | ((with_reducible refine gate_dst (N := 2) rfl ?_); refine box_event ?hg (N := 2) ?hd (cs := #[.bool false, .slice none 0 0, .int .i64 0]) (t := 61) ?hr ?_; (case hd => rfl); (case hg => rfl); (case hr => first | (go_simp; done) | (go_simp; rfl)); intro gb315 hg w15 hbox hb; have n0_ := Aside0.mk (below_step (by repeat (first | (with_reducible first | exact HB.out | apply below_alloc | apply pw_below_drewN | apply below_drew1) | exact HB.out)) hb); have n1_ := Aside0.mk (hbox); have n2_ := Aside0.mk ((by rw [hg]; exact (below_size (by repeat (first | (with_reducible first | exact HB.out | apply below_alloc | apply pw_below_drewN | apply below_drew1) | exact HB.out))) : w.heap.size ≤ gb315)); have n3_ := Aside0.mk ((by rw [hg]; exact (below_size (by repeat (first | (with_reducible first | exact HB.out | apply below_alloc | apply pw_below_drewN | apply below_drew1) | exact HB.out))) : w.heap.size ≤ gb315)); clear HB; have HB := n0_; have BK315 := n1_; have GW315 := n2_; have GE315 := n3_; clear n0_ n1_ n2_ n3_; clear hb hbox hg) | ((with_reducible refine gate_callee (f := 62) rfl ?_); refine goesL_ (some 21) rfl rfl Tryz.func62 (by kernel_rfl) rfl #[.int .u64 (Go.bits .and .u64 a0 4503599627370495)] rfl (by (try simp only [List.map_toArray, List.map_cons, List.map_nil]); first | done | rfl | (simp only [List.length_drop, List.length_take]; rfl)) ?_; (with_reducible refine (tenorref1_Digits.calls k (Go.bits .and .u64 a0 4503599627370495) t319 _ A14.out).mono ?_); rintro e w16 ⟨v320, rfl, ho0, hb⟩; refine ⟨_, rfl, ?_⟩; have n0_ := Aside0.mk (Kd.R_lower ho0 (below_size (by repeat (first | (with_reducible first | exact HB.out | apply below_alloc | apply pw_below_drewN | apply below_drew1 | refine below_set ?_ GE315.out) | exact HB.out)))); have n1_ := Aside0.mk (blk_below (g := gb315) (o := .cells #[.bool false, .slice none 0 0, .int .i64 0] 61 (0, 0)) (by (with_reducible repeat (first | refine blk_drewN ?_ _ | refine blk_drew ?_ | refine blk_alloc ?_ _)); exact BK315.out) hb); have n2_ := Aside0.mk (below_step (by repeat (first | (with_reducible first | exact HB.out | apply below_alloc | apply pw_below_drewN | apply below_drew1 | refine below_set ?_ GE315.out) | exact HB.out)) hb); clear BK315; clear HB; have HO321 := n0_; have BK315 := n1_; have HB := n2_; clear n0_ n1_ n2_; (try clear hb); (try clear hb2); (try clear hk); (try clear hi); (try clear ho0); obtain ⟨Ao17, co17, eo17⟩ := Kd.R_slice HO321.out; subst eo17; have hcz18_0 : w16.cell? ⟨gb315, 0, none⟩ = some (.bool false) := (blk_cell BK315.out 0).trans rfl; have hcz18_1 : w16.cell? ⟨gb315, 1, none⟩ = some (.slice none 0 0) := (blk_cell BK315.out 1).trans rfl; have hcz18_2 : w16.cell? ⟨gb315, 2, none⟩ = some (.int .i64 0) := (blk_cell BK315.out 2).trans rfl; have hfz18_0 := blk_frozen BK315.out 0; have hfz18_1 := blk_frozen BK315.out 1; have hfz18_2 := blk_frozen BK315.out 2))
  refine bodyPost_ret (results_cell_row rfl _ _ gb315 61 #[.bool (decide (a0 ≥ 9223372036854775808)), .slice Ao17 t319.length co17, .int .i64 ((-1074))] (0, 0) _ rfl (by (with_reducible repeat (first | refine blk_drewN ?_ _ | refine blk_drew ?_ | refine blk_alloc ?_ _)); refine blk_put (cs := #[.bool (decide (a0 ≥ 9223372036854775808)), .slice Ao17 t319.length co17, .int .i64 0]) ?_ 2 _ rfl; (with_reducible repeat (first | refine blk_drewN ?_ _ | refine blk_drew ?_ | refine blk_alloc ?_ _)); refine blk_put (cs := #[.bool (decide (a0 ≥ 9223372036854775808)), .slice none 0 0, .int .i64 0]) ?_ 1 _ rfl; (with_reducible repeat (first | refine blk_drewN ?_ _ | refine blk_drew ?_ | refine blk_alloc ?_ _)); refine blk_put (cs := #[.bool false, .slice none 0 0, .int .i64 0]) ?_ 0 _ rfl; (with_reducible repeat (first | refine blk_drewN ?_ _ | refine blk_drew ?_ | refine blk_alloc ?_ _)); exact BK315.out) Tryz.underlying61 rfl (by kernel_rfl)) rfl ?_
  exact ⟨_, by first | rfl | (simp [errW_none, errW_some] <;> rfl) | (simp [*, errW_none, errW_some] <;> rfl), by (with_reducible repeat (first | apply Kd.R_alloc | apply Kd.R_drewN | apply Kd.R_drew)); exact Kd.R_mono (Kd.R_far (p := ⟨gb315, 2, none⟩) (Kd.R_far (p := ⟨gb315, 1, none⟩) (Kd.R_far (p := ⟨gb315, 0, none⟩) (Kd.R_types HO321.out BK315.out (by decide)) (fun _ hk => hk.2) (.bool (decide (a0 ≥ 9223372036854775808)))) (fun _ hk => hk.2) (.slice Ao17 t319.length co17)) (fun _ hk => hk.2) (.int .i64 ((-1074)))) (fun _ hk => trivial), by repeat (first | (with_reducible first | exact HB.out | apply below_alloc | apply pw_below_drewN | apply below_drew1 | refine below_set ?_ GE315.out) | exact HB.out)⟩
def tenorref1_Size.f (a0 : Int) : Option (Int) := some (Go.bits .andNot .u64 a0 9223372036854775808)
set_option maxHeartbeats 8000000 in
set_option maxRecDepth 100000 in
theorem tenorref1_Size.calls (a0 : Int) (r : Int) (w : World) (h : tenorref1_Size.f a0 = some r) :
    Calls Tryz.prog 34 #[.int .u64 a0] w fun e w' => e = .returned (.int .u64 r) ∧ Drawn0 w w' := by
  have H : (some (Go.bits .andNot .u64 a0 9223372036854775808)) = some r := h
  clear h
  obtain rfl := Option.some.inj H
  go_enter Tryz.func34, Tryz.ntmps34
  go_wp2
  go_ret
  exact ⟨by first | rfl | (simp; done) | (simp [*]; done), by repeat (first | exact Drawn0.refl _ | apply Drawn0.step)⟩
def tenorref1_Negative.f (a0 : Int) : Option (Bool) := some (decide (a0 ≥ 9223372036854775808))
set_option maxHeartbeats 8000000 in
set_option maxRecDepth 100000 in
theorem tenorref1_Negative.calls (a0 : Int) (r : Bool) (w : World) (h : tenorref1_Negative.f a0 = some r) :
    Calls Tryz.prog 42 #[.int .u64 a0] w fun e w' => e = .returned (.bool r) ∧ Drawn0 w w' := by
  have H : (some (decide (a0 ≥ 9223372036854775808))) = some r := h
  clear h
  obtain rfl := Option.some.inj H
  go_enter Tryz.func42, Tryz.ntmps42
  go_wp2
  go_ret
  exact ⟨by first | rfl | (simp; done) | (simp [*]; done), by repeat (first | exact Drawn0.refl _ | apply Drawn0.step)⟩
end Go.Proofs.YtjpiplplohapnaaGreatDoor.PText
namespace Go.Proofs.YtjpiplplohapnaaGreatDoor.Num
open Go
def isD (c : UInt8) : Prop := 48 ≤ c.toNat ∧ c.toNat ≤ 57
instance (c : UInt8) : Decidable (isD c) := inferInstanceAs (Decidable (_ ∧ _))
def st (a : Nat) (c : UInt8) : Nat := 10 * a + (c.toNat - 48)
def dv (acc : Nat) (l : List UInt8) : Nat := l.foldl st acc
theorem dv_nil (a : Nat) : dv a [] = a := by unfold dv; rw [List.foldl_nil]
theorem dv_cons (a : Nat) (c : UInt8) (r : List UInt8) : dv a (c :: r) = dv (10 * a + (c.toNat - 48)) r := by unfold dv; rw [List.foldl_cons]; rfl
theorem dv_append (l m : List UInt8) (a : Nat) : dv a (l ++ m) = dv (dv a l) m := by
  induction l generalizing a with
  | nil => rw [dv_nil, List.nil_append]
  | cons c r ih => rw [List.cons_append, dv_cons, dv_cons, ih]
theorem dv_snoc (l : List UInt8) (c : UInt8) (a : Nat) : dv a (l ++ [c]) = 10 * dv a l + (c.toNat - 48) := by rw [dv_append, dv_cons, dv_nil]
theorem dv_ge (l : List UInt8) (a : Nat) : a * 10 ^ l.length ≤ dv a l := by
  induction l generalizing a with
  | nil => simp [dv_nil]
  | cons c r ih =>
    have h1 := ih (10 * a + (c.toNat - 48))
    have h2 : 10 * a * 10 ^ r.length ≤ (10 * a + (c.toNat - 48)) * 10 ^ r.length := Nat.mul_le_mul_right _ (Nat.le_add_right _ _)
    have e : a * 10 ^ (r.length + 1) = 10 * a * 10 ^ r.length := by rw [Nat.pow_succ, Nat.mul_comm (10 ^ r.length) 10, ← Nat.mul_assoc, Nat.mul_comm a 10]
    rw [dv_cons, List.length_cons]
    rw [e]
    exact Nat.le_trans h2 h1
theorem toNat_digit {d : Nat} (h : d < 10) : (UInt8.ofNat (48 + d)).toNat = 48 + d := by
  rw [UInt8.toNat_ofNat']; omega
theorem digit_of {c : UInt8} (h : isD c) : UInt8.ofNat (48 + (c.toNat - 48)) = c := by
  unfold isD at h
  rw [show 48 + (c.toNat - 48) = c.toNat by omega, UInt8.ofNat_toNat]
theorem dec_digits (u : Nat) : ∀ c ∈ Lib.decDigits u, isD c := by
  induction u using Nat.strongRecOn with
  | ind u ih =>
    rw [Lib.decDigits]
    by_cases h : u < 10
    · rw [dif_pos h]
      intro c hc
      obtain rfl := List.mem_singleton.1 hc
      unfold isD; rw [toNat_digit h]; omega
    · rw [dif_neg h]
      intro c hc
      rcases List.mem_append.1 hc with h1 | h1
      · exact ih (u / 10) (by omega) c h1
      · obtain rfl := List.mem_singleton.1 h1
        unfold isD; rw [toNat_digit (by omega)]; omega
theorem dec_ne (u : Nat) : Lib.decDigits u ≠ [] := by
  rw [Lib.decDigits]
  by_cases h : u < 10
  · rw [dif_pos h]; simp
  · rw [dif_neg h]; simp
theorem dv_dec (u : Nat) : dv 0 (Lib.decDigits u) = u := by
  induction u using Nat.strongRecOn with
  | ind u ih =>
    rw [Lib.decDigits]
    by_cases h : u < 10
    · rw [dif_pos h]; simp only [dv_cons, dv_nil]; rw [toNat_digit h]; omega
    · rw [dif_neg h, dv_snoc, ih (u / 10) (by omega), toNat_digit (by omega)]; omega
def canon (l : List UInt8) : Prop := l ≠ [] ∧ (∀ c ∈ l, isD c) ∧ (l.head? = some 48 → l.length = 1)
instance (l : List UInt8) : Decidable (canon l) := inferInstanceAs (Decidable (_ ∧ _ ∧ _))
theorem dec_canon (u : Nat) : canon (Lib.decDigits u) := by
  refine ⟨dec_ne u, dec_digits u, ?_⟩
  induction u using Nat.strongRecOn with
  | ind u ih =>
    rw [Lib.decDigits]
    by_cases h : u < 10
    · rw [dif_pos h]; simp
    · rw [dif_neg h]
      have hne := dec_ne (u / 10)
      intro hh
      exfalso
      have hh' : (Lib.decDigits (u / 10)).head? = some 48 := by
        cases hl : Lib.decDigits (u / 10) with
        | nil => exact absurd hl hne
        | cons c r => rw [hl] at hh; simpa using hh
      have hlen := ih (u / 10) (by omega) hh'
      cases hl : Lib.decDigits (u / 10) with
      | nil => exact absurd hl hne
      | cons c r =>
        rw [hl] at hh' hlen
        obtain rfl : r = [] := by simpa using hlen
        obtain rfl : c = 48 := by simpa using hh'
        have := dv_dec (u / 10)
        rw [hl] at this
        simp only [dv_cons, dv_nil] at this
        have e : (48 : UInt8).toNat = 48 := rfl
        omega
theorem dec_of_canon (l : List UInt8) (h : canon l) : Lib.decDigits (dv 0 l) = l := by
  obtain ⟨hne, hd, h0⟩ := h
  generalize hn : l.length = n
  induction n generalizing l with
  | zero => exact absurd (List.length_eq_zero_iff.1 hn) hne
  | succ n ih =>
    obtain ⟨m, c, rfl⟩ : ∃ m c, l = m ++ [c] := ⟨l.dropLast, l.getLast hne, (List.dropLast_concat_getLast hne).symm⟩
    have hc : isD c := hd c (by simp)
    have hc' := hc
    unfold isD at hc'
    rw [dv_snoc]
    cases m with
    | nil =>
      rw [Lib.decDigits, dif_pos (by simp only [dv_nil]; omega)]
      simp only [dv_nil, Nat.mul_zero, Nat.zero_add, List.nil_append]
      rw [digit_of hc]
    | cons b r =>
      have hb : isD b := hd b (by simp)
      have hb' := hb
      unfold isD at hb'
      have hb0 : b ≠ 48 := by
        rintro rfl
        have := h0 (by simp)
        simp at this
      have hb1 : b.toNat ≠ 48 := fun e => hb0 (by rw [← UInt8.ofNat_toNat (x := b), e]; rfl)
      have hv : 1 ≤ dv 0 (b :: r) := by
        have := dv_ge r (10 * 0 + (b.toNat - 48))
        have h1 : 1 ≤ 10 ^ r.length := Nat.pow_pos (by decide)
        have h2 : 1 * 1 ≤ (10 * 0 + (b.toNat - 48)) * 10 ^ r.length := Nat.mul_le_mul (by omega) h1
        simp only [dv_cons]; omega
      have ihm := ih (b :: r) (by simp) (fun x hx => hd x (by simp at hx ⊢; rcases hx with rfl | hx <;> simp [*])) (fun e => absurd (by simpa using e) hb0) (by simp at hn ⊢; omega)
      rw [Lib.decDigits, dif_neg (by omega)]
      rw [show (10 * dv 0 (b :: r) + (c.toNat - 48)) / 10 = dv 0 (b :: r) by omega, show (10 * dv 0 (b :: r) + (c.toNat - 48)) % 10 = c.toNat - 48 by omega, ihm, digit_of hc]
def intOf (l : List UInt8) : Option Int :=
  match l with
  | [] => none
  | c :: r =>
    if c.toNat = 45 then (if canon r ∧ r.head? ≠ some 48 ∧ dv 0 r ≤ 9223372036854775808 then some (-(dv 0 r : Int)) else none)
    else if canon (c :: r) ∧ dv 0 (c :: r) < 9223372036854775808 then some (dv 0 (c :: r) : Int) else none
def told (o : Option Int) : Int × Bool := match o with | some n => (n, true) | none => (0, false)
theorem parse_digits (l : List UInt8) (h : ∀ c ∈ l, isD c) (a : Nat) (hl : dv a l < 18446744073709551616) : Lib.parseUint10 a l = .ok (dv a l) := by
  induction l generalizing a with
  | nil => rw [dv_nil]; rfl
  | cons c r ih =>
    have hc := h c (by simp)
    have hge := dv_ge r (10 * a + (c.toNat - 48))
    have h1 : 1 ≤ 10 ^ r.length := Nat.pow_pos (by decide)
    have h2 : (10 * a + (c.toNat - 48)) * 1 ≤ (10 * a + (c.toNat - 48)) * 10 ^ r.length := Nat.mul_le_mul_left _ h1
    simp only [dv_cons] at hl
    simp only [Lib.parseUint10, dv_cons]
    unfold isD at hc
    rw [if_pos hc, if_neg (by omega), if_neg (by omega), Nat.mul_comm a 10]
    exact ih (fun x hx => h x (by simp [hx])) _ hl
theorem atoi_of_intOf {l : List UInt8} {n : Int} (h : intOf l = some n) : Lib.atoiAll l = .ok n ∧ Lib.itoa n = l := by
  cases l with
  | nil => simp [intOf] at h
  | cons c r =>
    simp only [intOf] at h
    by_cases hc : c.toNat = 45
    · rw [if_pos hc] at h
      by_cases hr : canon r ∧ r.head? ≠ some 48 ∧ dv 0 r ≤ 9223372036854775808
      · rw [if_pos hr] at h
        obtain ⟨hcan, hz, hb⟩ := hr
        obtain rfl : -(dv 0 r : Int) = n := Option.some.inj h
        have hpos : 1 ≤ dv 0 r := by
          cases r with
          | nil => exact absurd rfl hcan.1
          | cons b q =>
            have hb1 := hcan.2.1 b (by simp)
            have hb0 : b.toNat ≠ 48 := fun e => hz (by rw [List.head?_cons, ← UInt8.ofNat_toNat (x := b), e]; rfl)
            have := dv_ge q (10 * 0 + (b.toNat - 48))
            have h1 : 1 ≤ 10 ^ q.length := Nat.pow_pos (by decide)
            unfold isD at hb1
            have h2 : 1 * 1 ≤ (10 * 0 + (b.toNat - 48)) * 10 ^ q.length := Nat.mul_le_mul (by omega) h1
            simp only [dv_cons]; omega
        constructor
        · simp only [Lib.atoiAll]
          rw [if_pos (Or.inr hc)]
          unfold Lib.parseMag
          rw [if_neg hcan.1, parse_digits r hcan.2.1 0 (by omega)]
          simp only [hc]
          rw [if_neg (by simp), if_neg (by omega)]
          simp
        · unfold Lib.itoa
          rw [if_pos (by omega)]
          rw [show (-(dv 0 r : Int)).natAbs = dv 0 r by omega, dec_of_canon r hcan]
          congr 1
          rw [← UInt8.ofNat_toNat (x := c), hc]; rfl
      · rw [if_neg hr] at h; cases h
    · rw [if_neg hc] at h
      by_cases hr : canon (c :: r) ∧ dv 0 (c :: r) < 9223372036854775808
      · rw [if_pos hr] at h
        obtain ⟨hcan, hb⟩ := hr
        obtain rfl : (dv 0 (c :: r) : Int) = n := Option.some.inj h
        have hc1 := hcan.2.1 c (by simp)
        unfold isD at hc1
        constructor
        · simp only [Lib.atoiAll]
          rw [if_neg (by omega)]
          unfold Lib.parseMag
          rw [if_neg (by simp), parse_digits (c :: r) hcan.2.1 0 (by omega)]
          simp only
          rw [if_neg (by omega), if_neg (by omega), if_neg hc]
        · unfold Lib.itoa
          rw [if_neg (by omega), Int.toNat_natCast, dec_of_canon _ hcan]
      · rw [if_neg hr] at h; cases h
theorem intOf_itoa (n : Int) (h0 : -9223372036854775808 ≤ n) (h1 : n ≤ 9223372036854775807) : intOf (Lib.itoa n) = some n := by
  unfold Lib.itoa
  by_cases hn : n < 0
  · rw [if_pos hn]
    simp only [intOf]
    have e : (45 : UInt8).toNat = 45 := rfl
    have hnz : (Lib.decDigits n.natAbs).head? ≠ some 48 := by
      intro hz
      have hl := (dec_canon n.natAbs).2.2 hz
      cases hd : Lib.decDigits n.natAbs with
      | nil => exact dec_ne _ hd
      | cons c r =>
        rw [hd] at hz hl
        obtain rfl : r = [] := by simpa using hl
        obtain rfl : c = 48 := by simpa using hz
        have := dv_dec n.natAbs
        rw [hd] at this
        have e : (48 : UInt8).toNat = 48 := rfl
        simp only [dv_cons, dv_nil] at this; omega
    have hm : -((n.natAbs : Nat) : Int) = n := by omega
    rw [if_pos e, dv_dec, if_pos ⟨dec_canon _, hnz, by omega⟩, hm]
  · rw [if_neg hn]
    have hcan := dec_canon n.toNat
    have hdv := dv_dec n.toNat
    cases hd : Lib.decDigits n.toNat with
    | nil => exact absurd hd (dec_ne _)
    | cons c r =>
      rw [hd] at hcan hdv
      have hc1 := hcan.2.1 c (by simp)
      unfold isD at hc1
      simp only [intOf]
      rw [if_neg (by omega), if_pos ⟨hcan, by omega⟩, hdv]
      congr 1; omega
def progInt (l : List UInt8) : Int × Bool := match Lib.atoiAll l with
  | .ok v => if Lib.itoa v = l then (v, true) else (0, false)
  | _ => (0, false)
theorem atoi_bounds {l : List UInt8} {v : Int} (h : Lib.atoiAll l = .ok v) : -9223372036854775808 ≤ v ∧ v ≤ 9223372036854775807 := by
  cases l with
  | nil => simp [Lib.atoiAll] at h
  | cons c r =>
    simp only [Lib.atoiAll] at h
    split at h
    · cases h
    · cases h
    · split at h
      · cases h
      · split at h
        · cases h
        · injection h with h
          split at h <;> omega
theorem progInt_eq (l : List UInt8) : progInt l = told (intOf l) := by
  unfold progInt
  cases hi : intOf l with
  | some n =>
    obtain ⟨h1, h2⟩ := atoi_of_intOf hi
    rw [h1]; simp only; rw [if_pos h2]; rfl
  | none =>
    cases ha : Lib.atoiAll l with
    | ok v =>
      simp only
      by_cases he : Lib.itoa v = l
      · have hb := atoi_bounds ha
        have := intOf_itoa v hb.1 hb.2
        rw [he, hi] at this
        cases this
      · rw [if_neg he]; rfl
    | _ => rfl
end Go.Proofs.YtjpiplplohapnaaGreatDoor.Num
namespace Go.Proofs.YtjpiplplohapnaaGreatDoor.Big
open Go.RowKit Go.Proofs.YtjpiplplohapnaaGreatDoorW.PrintWords Go.Proofs.YtjpiplplohapnaaGreatDoorW.PrintLast Go.Proofs.YtjpiplplohapnaaGreatDoorW.PrintMore
open Go.Proofs.YtjpiplplohapnaaGreatDoor.PText
theorem dec_step (x : Nat) (h : x ≠ 0) (acc : List UInt8) : (if x = 0 then acc else Lib.decDigits x ++ acc) = (if x / 10 = 0 then UInt8.ofNat (48 + x % 10) :: acc else Lib.decDigits (x / 10) ++ UInt8.ofNat (48 + x % 10) :: acc) := by
  rw [if_neg h]
  by_cases h1 : x < 10
  · rw [if_pos (by omega), Lib.decDigits, dif_pos h1, show x % 10 = x by omega]; rfl
  · rw [if_neg (by omega), Lib.decDigits, dif_neg h1]; simp
theorem digit_text (y : Nat) (h : y < 10) (acc : List UInt8) : (strOfNums [(48 + (y : Int) % 256) % 256] ++ (⟨acc.toArray⟩ : ByteArray)) = ⟨(UInt8.ofNat (48 + y) :: acc).toArray⟩ := by
  have e : ((48 + (y : Int) % 256) % 256).toNat = 48 + y := by omega
  unfold strOfNums
  rw [List.map_cons, List.map_nil, e]
  apply ByteArray.ext
  simp
theorem decimal_l0 : ∀ (x : Nat), ln x ≤ 1000000 → ∀ (acc : List UInt8), (if x = 0 then acc else Lib.decDigits x ++ acc).length ≤ 1000000000 →
    Ev (fun k => tenorref2_Decimal.l0 k (dg x) ⟨acc.toArray⟩) (if x = 0 ∧ acc = [] then ⟨#[48]⟩ else ⟨(if x = 0 then acc else Lib.decDigits x ++ acc).toArray⟩) := by
  intro x
  induction x using Nat.strongRecOn with
  | _ x ih =>
    intro hx acc hacc
    by_cases h0 : x = 0
    · subst h0
      refine Ev.step (f := fun _ => if acc = [] then some ⟨#[48]⟩ else some ⟨acc.toArray⟩) (fun k => ?_) ?_
      · rw [tenorref2_Decimal.l0, dg_length, ln_zero, if_neg (by omega)]
        have : ((⟨acc.toArray⟩ : ByteArray).toList = []) = (acc = []) := by rw [ByteArray.toList_eq]
        simp only [this]
      · by_cases h1 : acc = []
        · simp only [h1, if_true, and_self]; exact Ev.now _
        · simp only [h1, if_false, and_false, if_true]; exact Ev.now _
    · have hl0 : ln x ≠ 0 := by
        intro h
        have := lt_pow_ln x
        rw [h] at this
        simp at this; omega
      have e10 : dg 10 = [10] := dg_of_lt (by omega) (by decide)
      have hdiv := divd_ev x 10 (by omega) hx (Nat.le_trans (ln_small (by decide)) (by omega))
      rw [e10] at hdiv
      have hst := dec_step x h0 acc
      have hln : ln (x / 10) ≤ 1000000 := Nat.le_trans (ln_mono (Nat.div_le_self _ _)) hx
      have ih' := ih (x / 10) (by omega) hln (UInt8.ofNat (48 + x % 10) :: acc) (by rw [← hst]; exact hacc)
      rw [if_neg (by simp)] at ih'
      rw [if_neg (by simp [h0]), hst]
      have hal : acc.length ≤ 1000000000 := by
        rw [if_neg h0, List.length_append] at hacc
        omega
      have hdt := digit_text _ (Nat.mod_lt x (by omega : 10 > 0)) acc
      refine Ev.step (f := fun k => (tenorref1_DivDigits.f k (dg x) [10]).bind fun bt415 => _) (fun k => by rw [tenorref2_Decimal.l0, dg_length, if_pos (by omega)]) (Ev.bind hdiv ?_)
      refine Ev.congr (fun k => ?_) ih'
      have hsz : ∀ z : Int, (strOfNums [z]).size + (⟨acc.toArray⟩ : ByteArray).size ≤ 9223372036854775807 := by
        intro z
        show 1 + acc.toArray.size ≤ _
        rw [List.size_toArray]; omega
      simp only [Option.bind_some]
      rw [dg_length]
      by_cases hr : x % 10 = 0
      · rw [hr] at hdt ⊢
        rw [ln_zero, if_neg (by omega), if_pos (hsz _), ← hdt]
        rfl
      · have hl1 : ln (x % 10) ≠ 0 := by
          intro h
          have := lt_pow_ln (x % 10)
          rw [h] at this
          simp at this; omega
        have hrd : rd (dg (x % 10)) 0 = ((x % 10 : Nat) : Int) := by
          have := rd_dg (x % 10) 0 (by omega)
          have hm : x % 10 % B = x % 10 := Nat.mod_eq_of_lt (Nat.lt_trans (Nat.mod_lt x (by omega)) (by decide))
          rw [dig_zero, hm] at this
          exact this
        rw [if_pos (by omega), if_pos (by omega), hrd, if_pos (hsz _), hdt]
theorem decimal_ev (x : Nat) (hx : ln x ≤ 1000000) (hd : (Lib.decDigits x).length ≤ 1000000000) : Ev (fun k => tenorref2_Decimal.f k (dg x)) ⟨(Lib.decDigits x).toArray⟩ := by
  have h := decimal_l0 x hx [] (by split <;> simp_all)
  show Ev (fun k => tenorref2_Decimal.l0 k (dg x) ⟨#[]⟩) _
  by_cases h0 : x = 0
  · subst h0
    have e : (⟨(Lib.decDigits 0).toArray⟩ : ByteArray) = ⟨#[48]⟩ := by rw [Lib.decDigits, dif_pos (by omega)]; rfl
    rw [e]
    simpa using h
  · rw [if_neg (by simp [h0]), if_neg h0, List.append_nil] at h
    exact h
theorem dec_short : ∀ (n x : Nat), x < 10 ^ (n + 1) → (Lib.decDigits x).length ≤ n + 1
  | 0, x, h => by rw [Lib.decDigits, dif_pos (by omega)]; simp
  | n + 1, x, h => by
    rcases Nat.lt_or_ge x 10 with h1 | h1
    · rw [Lib.decDigits, dif_pos h1]; simp
    · rw [Lib.decDigits, dif_neg (by omega), List.length_append]
      have := dec_short n (x / 10) (by rw [Nat.div_lt_iff_lt_mul (by omega)]; rw [Nat.pow_succ] at h; exact h)
      simp; omega
end Go.Proofs.YtjpiplplohapnaaGreatDoor.Big
namespace Go.Proofs.YtjpiplplohapnaaGreatDoor.PText
open Go.RowKit Go.Proofs.YtjpiplplohapnaaGreatDoorW.PrintWords Go.Proofs.YtjpiplplohapnaaGreatDoorW.PrintLast Go.Proofs.YtjpiplplohapnaaGreatDoorW.PrintMore
attribute [local go_sem] max2_int min2_int max_two min_two max_three min_three max_four min_four
set_option linter.unusedVariables false
set_option linter.unusedSimpArgs false
def text_digits.l0 : Nat → ByteArray → Int → Option (Int)
  | 0, _, _ => none
  | k + 1, x0, x1 => if x1 < (x0.size : Int) then (if 0 ≤ x1 then (if (bt x0 x1) ≥ 48 then (if (bt x0 x1) ≤ 57 then (text_digits.l0 k x0 (wrap64 (x1 + 1))) else (some x1)) else (some x1)) else (none)) else (some x1)
def text_digits.f (k : Nat) (a0 : ByteArray) (a1 : Int) : Option (Int) := text_digits.l0 k a0 a1
theorem text_digits.mono_l : ∀ k, (∀ y0 y1, LeO (text_digits.l0 k y0 y1) (text_digits.l0 (k + 1) y0 y1))
  | 0 => fun _ _ r h => by simp [text_digits.l0] at h
  | k + 1 => by
    have ih0 := text_digits.mono_l k
    · intro y0 y1
      unfold text_digits.l0
      repeat' first
      | (with_reducible exact ih0 _ _)
      | (with_reducible exact LeO.refl _)
      | (with_reducible exact LeO.none _)
      | (with_reducible refine LeO.ite ?_ ?_)
      | (with_reducible refine LeO.bind ?_ (fun _ => ?_))
      | exact ih0 _ _
      | exact LeO.none _
      | refine LeO.ite ?_ ?_
      | refine LeO.bind ?_ (fun _ => ?_)
theorem text_digits.mono : ∀ a0 a1 k, LeO (text_digits.f k a0 a1) (text_digits.f (k + 1) a0 a1) := by
  intro a0 a1 k
  have ih0 := text_digits.mono_l k
  unfold text_digits.f
  repeat' first
      | (with_reducible exact ih0 _ _)
      | (with_reducible exact LeO.refl _)
      | (with_reducible exact LeO.none _)
      | (with_reducible refine LeO.ite ?_ ?_)
      | (with_reducible refine LeO.bind ?_ (fun _ => ?_))
      | exact ih0 _ _
      | exact LeO.none _
      | refine LeO.ite ?_ ?_
      | refine LeO.bind ?_ (fun _ => ?_)
set_option maxHeartbeats 8000000 in
set_option maxRecDepth 100000 in
theorem text_digits.calls (k : Nat) (a0 : ByteArray) (a1 : Int) (r : Int) (w : World) (h : text_digits.f k a0 a1 = some r) :
    Calls Tryz.prog 59 #[.string a0, .int .i64 a1] w fun e w' => e = .returned (.int .i64 r) ∧ Drawn0 w w' := by
  have H : (text_digits.l0 k a0 a1) = some r := h
  clear h
  have H' := Aside0.mk H
  clear H
  go_enter Tryz.func59, Tryz.ntmps59
  go_wp2
  go_loopg [1] k (fun kq v1 w' => ∃ (x1_1 : Int), v1 = .int .i64 x1_1 ∧ Aside0 (text_digits.l0 kq a0 x1_1 = some r) ∧ Aside0 (kq ≤ k) ∧ Drawn0 w w')
  case atStart => exact ⟨(a1), (by first | rfl | (simp; done) | (simp [*]; done)), H', ⟨Nat.le_refl _⟩, by repeat (first | exact Drawn0.refl _ | apply Drawn0.step)⟩
  case round =>
    clear H'
    try clear p2
    obtain ⟨x1_1, rfl, HA, HK1, ⟨m1, rfl⟩⟩ := hrel
    cases gk with
    | zero => exact absurd HA.out (by simp [text_digits.l0])
    | succ k1 =>
      have H := HA.out
      clear HA
      simp only [text_digits.l0] at H
      by_cases c3 : x1_1 < (a0.size : Int)
      · rw [if_pos c3] at H
        have c3b0 : decide (x1_1 < (a0.size : Int)) = true := decide_eq_true c3
        clear c3
        by_cases c4 : 0 ≤ x1_1
        · rw [if_pos c4] at H
          have c4b0 : decide (0 ≤ x1_1) = true := decide_eq_true c4
          clear c4
          by_cases c6 : (bt a0 x1_1) ≥ 48
          · rw [if_pos c6] at H
            have c6b0 : decide (48 ≤ (bt a0 x1_1)) = true := decide_eq_true c6
            clear c6
            by_cases c8 : (bt a0 x1_1) ≤ 57
            · rw [if_pos c8] at H
              have c8b0 : decide ((bt a0 x1_1) ≤ 57) = true := decide_eq_true c8
              clear c8
              have H' := Aside0.mk H
              clear H
              have p5 : 0 ≤ (x1_1 : Int) := of_decide_eq_true (by first | (with_reducible assumption) | assumption)
              have q5 : x1_1 < (a0.size : Int) := of_decide_eq_true (by first | (with_reducible assumption) | assumption)
              have hx5 := bt_at a0 x1_1
              replace p5 := eq_true p5
              replace q5 := eq_true q5
              have p7 : 0 ≤ (x1_1 : Int) := of_decide_eq_true (by first | (with_reducible assumption) | assumption)
              have q7 : x1_1 < (a0.size : Int) := of_decide_eq_true (by first | (with_reducible assumption) | assumption)
              have hx7 := bt_at a0 x1_1
              replace p7 := eq_true p7
              replace q7 := eq_true q7
              go_wp2
              go_roundg k1
              case measure => have := HK1.out; omega
              case rel => exact ⟨(wrap64 (x1_1 + 1)), (by first | rfl | (simp; done) | (simp [*]; done)), H', ⟨by have := HK1.out; omega⟩, by repeat (first | exact Drawn0.refl _ | apply Drawn0.step)⟩
            · rw [if_neg c8] at H
              have c8b0 : decide ((bt a0 x1_1) ≤ 57) = false := decide_eq_false c8
              clear c8
              obtain rfl := Option.some.inj H
              have p5 : 0 ≤ (x1_1 : Int) := of_decide_eq_true (by first | (with_reducible assumption) | assumption)
              have q5 : x1_1 < (a0.size : Int) := of_decide_eq_true (by first | (with_reducible assumption) | assumption)
              have hx5 := bt_at a0 x1_1
              replace p5 := eq_true p5
              replace q5 := eq_true q5
              have p7 : 0 ≤ (x1_1 : Int) := of_decide_eq_true (by first | (with_reducible assumption) | assumption)
              have q7 : x1_1 < (a0.size : Int) := of_decide_eq_true (by first | (with_reducible assumption) | assumption)
              have hx7 := bt_at a0 x1_1
              replace p7 := eq_true p7
              replace q7 := eq_true q7
              go_wp2
              go_ret
              exact ⟨by first | rfl | (simp; done) | (simp [*]; done), by repeat (first | exact Drawn0.refl _ | apply Drawn0.step)⟩
          · rw [if_neg c6] at H
            have c6b0 : decide (48 ≤ (bt a0 x1_1)) = false := decide_eq_false c6
            clear c6
            obtain rfl := Option.some.inj H
            have p5 : 0 ≤ (x1_1 : Int) := of_decide_eq_true (by first | (with_reducible assumption) | assumption)
            have q5 : x1_1 < (a0.size : Int) := of_decide_eq_true (by first | (with_reducible assumption) | assumption)
            have hx5 := bt_at a0 x1_1
            replace p5 := eq_true p5
            replace q5 := eq_true q5
            go_wp2
            go_ret
            exact ⟨by first | rfl | (simp; done) | (simp [*]; done), by repeat (first | exact Drawn0.refl _ | apply Drawn0.step)⟩
        · rw [if_neg c4] at H
          exact absurd H (by simp)
      · rw [if_neg c3] at H
        have c3b0 : decide (x1_1 < (a0.size : Int)) = false := decide_eq_false c3
        clear c3
        obtain rfl := Option.some.inj H
        go_wp2
        go_ret
        exact ⟨by first | rfl | (simp; done) | (simp [*]; done), by repeat (first | exact Drawn0.refl _ | apply Drawn0.step)⟩
end Go.Proofs.YtjpiplplohapnaaGreatDoor.PText
