/- Part 11 of the proof: RRound. -/
import Derived.Test.YtjpiplplohapnaaGreatDoorPs10
set_option linter.unusedVariables false
set_option linter.unusedSimpArgs false
namespace Go.Proofs.YtjpiplplohapnaaGreatDoor.PText
open Go.RowKit Go.Proofs.YtjpiplplohapnaaGreatDoorW.PrintWords Go.Proofs.YtjpiplplohapnaaGreatDoorW.PrintLast Go.Proofs.YtjpiplplohapnaaGreatDoorW.PrintMore
attribute [local go_sem] z2i z2j z3i z3k z2d z2c z2q z2r
set_option linter.unusedVariables false
set_option linter.unusedSimpArgs false
def z1m.f (a0_0 : Bool) (l0_1 : List Int) (a0_2 : Int) : Option (Bool) := some ((l0_1.length : Int) == 0)
set_option maxHeartbeats 8000000 in
set_option maxRecDepth 100000 in
theorem z1m.calls (a0_0 : Bool) (A0_1 : Option Addr) (c0_1 : Nat) (l0_1 : List Int) (a0_2 : Int) (r : Bool) (w : World) (hr0_1 : Kd.C (Kd.int .u64) w A0_1 l0_1.length l0_1) (hc0_1 : l0_1.length ≤ c0_1) (h : z1m.f a0_0 l0_1 a0_2 = some r) :
    Calls Tryz.prog 93 #[.agg #[.bool a0_0, .slice A0_1 l0_1.length c0_1, .int .i64 a0_2]] w fun e w' => e = .returned (.bool r) ∧ Below w.heap.size w w' := by
  have hu61 := Tryz.underlying61
  have HR0_1 := y9.mk hr0_1
  have HC0_1 := y9.mk hc0_1
  clear hr0_1 hc0_1
  have HB := y9.mk (Below.refl w.heap.size w)
  have H : (some ((l0_1.length : Int) == 0)) = some r := h
  clear h
  obtain rfl := Option.some.inj H
  go_enter Tryz.func93, Tryz.ntmps93
  go_wp2_with (((with_reducible refine z1s (N := 1) rfl ?_); refine z2m ?hg (N := 1) ?hd (cs := #[.bool a0_0, .slice A0_1 l0_1.length c0_1, .int .i64 a0_2]) (t := 61) ?hr ?_; (case hd => rfl); (case hg => rfl); (case hr => (go_simp; done)); intro gb200 hg w2 hbox hb; have n0_ := y9.mk (z0m (by repeat ((with_reducible exact HB.out))) hb); have n1_ := y9.mk (hbox); have n2_ := y9.mk ((by rw [hg]; exact (z0n (by repeat ((with_reducible exact HB.out)))) : w.heap.size ≤ gb200)); have n3_ := y9.mk ((by rw [hg]; exact (z0n (by repeat ((with_reducible exact HB.out)))) : w.heap.size ≤ gb200)); clear HB; have HB := n0_; have BK200 := n1_; have GW200 := n2_; have GE200 := n3_; clear n0_ n1_ n2_ n3_; clear hb hbox hg; have hcz3_0 : w2.cell? ⟨gb200, 0, none⟩ = some (.bool a0_0) := (z0d BK200.out 0).trans rfl; have hcz3_1 : w2.cell? ⟨gb200, 1, none⟩ = some (.slice A0_1 l0_1.length c0_1) := (z0d BK200.out 1).trans rfl; have hcz3_2 : w2.cell? ⟨gb200, 2, none⟩ = some (.int .i64 a0_2) := (z0d BK200.out 2).trans rfl; have hfz3_0 := z0i BK200.out 0; have hfz3_1 := z0i BK200.out 1; have hfz3_2 := z0i BK200.out 2))
  go_ret
  exact ⟨by rfl, by repeat ((with_reducible exact HB.out))⟩
def z2h.f (k : Nat) (a0_0 : Bool) (l0_1 : List Int) (a0_2 : Int) : Option (Bool) := (z0j.f k l0_1).bind fun t202 => (if (wrap64 (t202 + a0_2)) > 1100 then (some true) else ((z0j.f k l0_1).bind fun t203 => (some (decide ((wrap64 (t203 + a0_2)) < (-1200))))))
set_option maxHeartbeats 8000000 in
set_option maxRecDepth 100000 in
theorem z2h.calls (k : Nat) (a0_0 : Bool) (A0_1 : Option Addr) (c0_1 : Nat) (l0_1 : List Int) (a0_2 : Int) (r : Bool) (w : World) (hr0_1 : Kd.C (Kd.int .u64) w A0_1 l0_1.length l0_1) (hc0_1 : l0_1.length ≤ c0_1) (h : z2h.f k a0_0 l0_1 a0_2 = some r) :
    Calls Tryz.prog 115 #[.agg #[.bool a0_0, .slice A0_1 l0_1.length c0_1, .int .i64 a0_2]] w fun e w' => e = .returned (.bool r) ∧ Below w.heap.size w w' := by
  have hu61 := Tryz.underlying61
  have HR0_1 := y9.mk hr0_1
  have HC0_1 := y9.mk hc0_1
  clear hr0_1 hc0_1
  have HB := y9.mk (Below.refl w.heap.size w)
  have H : ((z0j.f k l0_1).bind fun t202 => (if (wrap64 (t202 + a0_2)) > 1100 then (some true) else ((z0j.f k l0_1).bind fun t203 => (some (decide ((wrap64 (t203 + a0_2)) < (-1200))))))) = some r := h
  clear h
  replace H := Option.bind_eq_some_iff.mp H
  obtain ⟨t202, A20, H⟩ := H
  have A2 := y9.mk A20
  clear A20
  by_cases c3 : (wrap64 (t202 + a0_2)) > 1100
  · rw [if_pos c3] at H
    have c3b0 : decide (1100 < (wrap64 (t202 + a0_2))) = true := decide_eq_true c3
    clear c3
    obtain rfl := Option.some.inj H
    go_enter Tryz.func115, Tryz.ntmps115
    go_wp2_with (((with_reducible refine z1s (N := 1) rfl ?_); refine z2m ?hg (N := 1) ?hd (cs := #[.bool a0_0, .slice A0_1 l0_1.length c0_1, .int .i64 a0_2]) (t := 61) ?hr ?_; (case hd => rfl); (case hg => rfl); (case hr => (go_simp; done)); intro gb201 hg w4 hbox hb; have n0_ := y9.mk (z0m (by repeat ((with_reducible exact HB.out))) hb); have n1_ := y9.mk (hbox); have n2_ := y9.mk ((by rw [hg]; exact (z0n (by repeat ((with_reducible exact HB.out)))) : w.heap.size ≤ gb201)); have n3_ := y9.mk ((by rw [hg]; exact (z0n (by repeat ((with_reducible exact HB.out)))) : w.heap.size ≤ gb201)); clear HB; have HB := n0_; have BK201 := n1_; have GW201 := n2_; have GE201 := n3_; clear n0_ n1_ n2_ n3_; clear hb hbox hg; have hcz5_0 : w4.cell? ⟨gb201, 0, none⟩ = some (.bool a0_0) := (z0d BK201.out 0).trans rfl; have hcz5_1 : w4.cell? ⟨gb201, 1, none⟩ = some (.slice A0_1 l0_1.length c0_1) := (z0d BK201.out 1).trans rfl; have hcz5_2 : w4.cell? ⟨gb201, 2, none⟩ = some (.int .i64 a0_2) := (z0d BK201.out 2).trans rfl; have hfz5_0 := z0i BK201.out 0; have hfz5_1 := z0i BK201.out 1; have hfz5_2 := z0i BK201.out 2))
    repeat (go_quiet ((go_at_call 46; (with_reducible refine (z0j.calls k _ _ l0_1 t202 _ ?side1 ?side2 A2.out).mono ?_); (case side1 => repeat (first | exact (Kd.z1q HR0_1.out HB.out) | (with_reducible refine Kd.C_drewN ?_ _))); (case side2 => exact HC0_1.out); rintro e w' ⟨rfl, ⟨nd, rfl⟩⟩; (try exact ⟨rfl, _, World.drewN_drewN _ _ _⟩))); try go_wp2_with (fail))
    go_ret
    exact ⟨by rfl, by repeat ((with_reducible first | exact HB.out | apply z0p))⟩
  rw [if_neg c3] at H
  have c3b0 : decide (1100 < (wrap64 (t202 + a0_2))) = false := decide_eq_false c3
  clear c3
  replace H := Option.bind_eq_some_iff.mp H
  obtain ⟨t203, A60, H⟩ := H
  have A6 := y9.mk A60
  clear A60
  obtain rfl : t202 = t203 := Option.some.inj (A2.out.symm.trans A6.out)
  obtain rfl := Option.some.inj H
  go_enter Tryz.func115, Tryz.ntmps115
  go_wp2_with (((with_reducible refine z1s (N := 1) rfl ?_); refine z2m ?hg (N := 1) ?hd (cs := #[.bool a0_0, .slice A0_1 l0_1.length c0_1, .int .i64 a0_2]) (t := 61) ?hr ?_; (case hd => rfl); (case hg => rfl); (case hr => (go_simp; done)); intro gb201 hg w7 hbox hb; have n0_ := y9.mk (z0m (by repeat ((with_reducible exact HB.out))) hb); have n1_ := y9.mk (hbox); have n2_ := y9.mk ((by rw [hg]; exact (z0n (by repeat ((with_reducible exact HB.out)))) : w.heap.size ≤ gb201)); have n3_ := y9.mk ((by rw [hg]; exact (z0n (by repeat ((with_reducible exact HB.out)))) : w.heap.size ≤ gb201)); clear HB; have HB := n0_; have BK201 := n1_; have GW201 := n2_; have GE201 := n3_; clear n0_ n1_ n2_ n3_; clear hb hbox hg; have hcz8_0 : w7.cell? ⟨gb201, 0, none⟩ = some (.bool a0_0) := (z0d BK201.out 0).trans rfl; have hcz8_1 : w7.cell? ⟨gb201, 1, none⟩ = some (.slice A0_1 l0_1.length c0_1) := (z0d BK201.out 1).trans rfl; have hcz8_2 : w7.cell? ⟨gb201, 2, none⟩ = some (.int .i64 a0_2) := (z0d BK201.out 2).trans rfl; have hfz8_0 := z0i BK201.out 0; have hfz8_1 := z0i BK201.out 1; have hfz8_2 := z0i BK201.out 2))
  repeat (go_quiet ((go_at_call 46; (with_reducible refine (z0j.calls k _ _ l0_1 t202 _ ?side1 ?side2 A2.out).mono ?_); (case side1 => repeat (first | exact (Kd.z1q HR0_1.out HB.out) | (with_reducible refine Kd.C_drewN ?_ _))); (case side2 => exact HC0_1.out); rintro e w' ⟨rfl, ⟨nd, rfl⟩⟩; (try exact ⟨rfl, _, World.drewN_drewN _ _ _⟩))); try go_wp2_with (fail))
  go_ret
  exact ⟨by rfl, by repeat ((with_reducible first | exact HB.out | apply z0p))⟩
def z1i.f (a0 : Bool) (a1 : Int) : Option (Int) := if a0 = true then (some (IntKind.u64.wrap ((mn a1 9218868437227405312) + 9223372036854775808))) else (some (mn a1 9218868437227405312))
set_option maxHeartbeats 8000000 in
set_option maxRecDepth 100000 in
theorem z1i.calls (a0 : Bool) (a1 : Int) (r : Int) (w : World) (h : z1i.f a0 a1 = some r) :
    Calls Tryz.prog 116 #[.bool a0, .int .u64 a1] w fun e w' => e = .returned (.int .u64 r) ∧ Below w.heap.size w w' := by
  have HB := y9.mk (Below.refl w.heap.size w)
  have H : (if a0 = true then (some (IntKind.u64.wrap ((mn a1 9218868437227405312) + 9223372036854775808))) else (some (mn a1 9218868437227405312))) = some r := h
  clear h
  obtain ⟨ji3, hji3⟩ : ∃ j_ : Int, (mn a1 9218868437227405312) = j_ := ⟨_, rfl⟩
  replace H : (if a0 = true then (some (IntKind.u64.wrap ((ji3) + 9223372036854775808))) else (some ji3)) = some r := by (rw [hji3] at H; exact H)
  (try (have hji3h : ji3 ≤ 9218868437227405312 := by (rw [← hji3]; unfold mn; (repeat' split) <;> omega)))
  (try (have hji3g : ji3 ≤ 64 := by omega))
  have hji3_ : (if 9218868437227405312 < a1 then 9218868437227405312 else a1) = ji3 := hji3
  by_cases c4 : a0 = true
  · subst c4
    have H1 : (some (IntKind.u64.wrap ((ji3) + 9223372036854775808))) = some r := by rw [if_pos rfl] at H; exact H
    clear H
    have H := H1
    clear H1
    obtain rfl := Option.some.inj H
    go_enter Tryz.func116, Tryz.ntmps116
    go_wp2
    go_ret
    exact ⟨by rfl, by repeat ((with_reducible exact HB.out))⟩
  replace c4 := Bool.eq_false_iff.mpr c4
  subst c4
  have H1 : (some ji3) = some r := by rw [if_neg (show ¬ (false = true) by decide)] at H; exact H
  clear H
  have H := H1
  clear H1
  obtain rfl := Option.some.inj H
  go_enter Tryz.func116, Tryz.ntmps116
  go_wp2
  go_ret
  exact ⟨by rfl, by repeat ((with_reducible exact HB.out))⟩
def z1l.f (k : Nat) (l0 : List Int) (a1 : Int) (a2 : Bool) (a3 : Int) (a4 : Int) : Option (Int) := (z0j.f k l0).bind fun t225 => (if (mx (wrap64 ((wrap64 (t225 - a3)) + a1)) a4) ≤ a1 then ((z0l.f k l0 (wrap64 (a1 - (mx (wrap64 ((wrap64 (t225 - a3)) + a1)) a4)))).bind fun t226 => (if 0 ≤ (wrap64 (a3 - 1)) then ((z0g.f t226 0).bind fun t229 => ((z0g.f t226 1).bind fun t230 => (some (IntKind.u64.wrap ((IntKind.u64.wrap ((shl .u64 (IntKind.u64.wrap (wrap64 ((mx (wrap64 ((wrap64 (t225 - a3)) + a1)) a4) - a4))) (wrap64 (a3 - 1))) + t229)) + (IntKind.u64.wrap (t230 * 4294967296))))))) else (none))) else ((z0a.f k l0 (wrap64 ((mx (wrap64 ((wrap64 (t225 - a3)) + a1)) a4) - a1))).bind fun bt231 => ((z0a.f k l0 (wrap64 ((wrap64 ((mx (wrap64 ((wrap64 (t225 - a3)) + a1)) a4) - a1)) - 1))).bind fun bt235 => ((z0g.f bt231.1 0).bind fun t239 => ((z0g.f bt231.1 1).bind fun t240 => ((z0g.f bt235.1 0).bind fun t241 => (if (Int.tmod t241 2) = 1 then (if bt235.2 = true then (if 0 ≤ (wrap64 (a3 - 1)) then (some (IntKind.u64.wrap ((shl .u64 (IntKind.u64.wrap (wrap64 ((mx (wrap64 ((wrap64 (t225 - a3)) + a1)) a4) - a4))) (wrap64 (a3 - 1))) + (IntKind.u64.wrap ((IntKind.u64.wrap (t239 + (IntKind.u64.wrap (t240 * 4294967296)))) + 1))))) else (none)) else (if a2 = true then (if 0 ≤ (wrap64 (a3 - 1)) then (some (IntKind.u64.wrap ((shl .u64 (IntKind.u64.wrap (wrap64 ((mx (wrap64 ((wrap64 (t225 - a3)) + a1)) a4) - a4))) (wrap64 (a3 - 1))) + (IntKind.u64.wrap ((IntKind.u64.wrap (t239 + (IntKind.u64.wrap (t240 * 4294967296)))) + 1))))) else (none)) else (if (Int.tmod (IntKind.u64.wrap (t239 + (IntKind.u64.wrap (t240 * 4294967296)))) 2) = 1 then (if 0 ≤ (wrap64 (a3 - 1)) then (some (IntKind.u64.wrap ((shl .u64 (IntKind.u64.wrap (wrap64 ((mx (wrap64 ((wrap64 (t225 - a3)) + a1)) a4) - a4))) (wrap64 (a3 - 1))) + (IntKind.u64.wrap ((IntKind.u64.wrap (t239 + (IntKind.u64.wrap (t240 * 4294967296)))) + 1))))) else (none)) else (if 0 ≤ (wrap64 (a3 - 1)) then (some (IntKind.u64.wrap ((shl .u64 (IntKind.u64.wrap (wrap64 ((mx (wrap64 ((wrap64 (t225 - a3)) + a1)) a4) - a4))) (wrap64 (a3 - 1))) + (IntKind.u64.wrap (t239 + (IntKind.u64.wrap (t240 * 4294967296))))))) else (none))))) else (if 0 ≤ (wrap64 (a3 - 1)) then (some (IntKind.u64.wrap ((shl .u64 (IntKind.u64.wrap (wrap64 ((mx (wrap64 ((wrap64 (t225 - a3)) + a1)) a4) - a4))) (wrap64 (a3 - 1))) + (IntKind.u64.wrap (t239 + (IntKind.u64.wrap (t240 * 4294967296))))))) else (none)))))))))
set_option maxHeartbeats 8000000 in
set_option maxRecDepth 100000 in
theorem z1l.calls (k : Nat) (A0 : Option Addr) (c0 : Nat) (l0 : List Int) (a1 : Int) (a2 : Bool) (a3 : Int) (a4 : Int) (r : Int) (w : World) (hr0 : Kd.C (Kd.int .u64) w A0 l0.length l0) (hc0 : l0.length ≤ c0) (h : z1l.f k l0 a1 a2 a3 a4 = some r) :
    Calls Tryz.prog 117 #[.slice A0 l0.length c0, .int .i64 a1, .bool a2, .int .i64 a3, .int .i64 a4] w fun e w' => e = .returned (.int .u64 r) ∧ Below w.heap.size w w' := by
  have HR0 := y9.mk hr0
  have HC0 := y9.mk hc0
  clear hr0 hc0
  have HB := y9.mk (Below.refl w.heap.size w)
  have H : ((z0j.f k l0).bind fun t225 => (if (mx (wrap64 ((wrap64 (t225 - a3)) + a1)) a4) ≤ a1 then ((z0l.f k l0 (wrap64 (a1 - (mx (wrap64 ((wrap64 (t225 - a3)) + a1)) a4)))).bind fun t226 => (if 0 ≤ (wrap64 (a3 - 1)) then ((z0g.f t226 0).bind fun t229 => ((z0g.f t226 1).bind fun t230 => (some (IntKind.u64.wrap ((IntKind.u64.wrap ((shl .u64 (IntKind.u64.wrap (wrap64 ((mx (wrap64 ((wrap64 (t225 - a3)) + a1)) a4) - a4))) (wrap64 (a3 - 1))) + t229)) + (IntKind.u64.wrap (t230 * 4294967296))))))) else (none))) else ((z0a.f k l0 (wrap64 ((mx (wrap64 ((wrap64 (t225 - a3)) + a1)) a4) - a1))).bind fun bt231 => ((z0a.f k l0 (wrap64 ((wrap64 ((mx (wrap64 ((wrap64 (t225 - a3)) + a1)) a4) - a1)) - 1))).bind fun bt235 => ((z0g.f bt231.1 0).bind fun t239 => ((z0g.f bt231.1 1).bind fun t240 => ((z0g.f bt235.1 0).bind fun t241 => (if (Int.tmod t241 2) = 1 then (if bt235.2 = true then (if 0 ≤ (wrap64 (a3 - 1)) then (some (IntKind.u64.wrap ((shl .u64 (IntKind.u64.wrap (wrap64 ((mx (wrap64 ((wrap64 (t225 - a3)) + a1)) a4) - a4))) (wrap64 (a3 - 1))) + (IntKind.u64.wrap ((IntKind.u64.wrap (t239 + (IntKind.u64.wrap (t240 * 4294967296)))) + 1))))) else (none)) else (if a2 = true then (if 0 ≤ (wrap64 (a3 - 1)) then (some (IntKind.u64.wrap ((shl .u64 (IntKind.u64.wrap (wrap64 ((mx (wrap64 ((wrap64 (t225 - a3)) + a1)) a4) - a4))) (wrap64 (a3 - 1))) + (IntKind.u64.wrap ((IntKind.u64.wrap (t239 + (IntKind.u64.wrap (t240 * 4294967296)))) + 1))))) else (none)) else (if (Int.tmod (IntKind.u64.wrap (t239 + (IntKind.u64.wrap (t240 * 4294967296)))) 2) = 1 then (if 0 ≤ (wrap64 (a3 - 1)) then (some (IntKind.u64.wrap ((shl .u64 (IntKind.u64.wrap (wrap64 ((mx (wrap64 ((wrap64 (t225 - a3)) + a1)) a4) - a4))) (wrap64 (a3 - 1))) + (IntKind.u64.wrap ((IntKind.u64.wrap (t239 + (IntKind.u64.wrap (t240 * 4294967296)))) + 1))))) else (none)) else (if 0 ≤ (wrap64 (a3 - 1)) then (some (IntKind.u64.wrap ((shl .u64 (IntKind.u64.wrap (wrap64 ((mx (wrap64 ((wrap64 (t225 - a3)) + a1)) a4) - a4))) (wrap64 (a3 - 1))) + (IntKind.u64.wrap (t239 + (IntKind.u64.wrap (t240 * 4294967296))))))) else (none))))) else (if 0 ≤ (wrap64 (a3 - 1)) then (some (IntKind.u64.wrap ((shl .u64 (IntKind.u64.wrap (wrap64 ((mx (wrap64 ((wrap64 (t225 - a3)) + a1)) a4) - a4))) (wrap64 (a3 - 1))) + (IntKind.u64.wrap (t239 + (IntKind.u64.wrap (t240 * 4294967296))))))) else (none)))))))))) = some r := h
  clear h
  replace H := Option.bind_eq_some_iff.mp H
  obtain ⟨t225, A60, H⟩ := H
  have A6 := y9.mk A60
  clear A60
  obtain ⟨ji7, hji7⟩ : ∃ j_ : Int, (mx (wrap64 ((wrap64 (t225 - a3)) + a1)) a4) = j_ := ⟨_, rfl⟩
  replace H : (if (ji7) ≤ a1 then ((z0l.f k l0 (wrap64 (a1 - (ji7)))).bind fun t226 => (if 0 ≤ (wrap64 (a3 - 1)) then ((z0g.f t226 0).bind fun t229 => ((z0g.f t226 1).bind fun t230 => (some (IntKind.u64.wrap ((IntKind.u64.wrap ((shl .u64 (IntKind.u64.wrap (wrap64 ((ji7) - a4))) (wrap64 (a3 - 1))) + t229)) + (IntKind.u64.wrap (t230 * 4294967296))))))) else (none))) else ((z0a.f k l0 (wrap64 ((ji7) - a1))).bind fun bt231 => ((z0a.f k l0 (wrap64 ((wrap64 ((ji7) - a1)) - 1))).bind fun bt235 => ((z0g.f bt231.1 0).bind fun t239 => ((z0g.f bt231.1 1).bind fun t240 => ((z0g.f bt235.1 0).bind fun t241 => (if (Int.tmod t241 2) = 1 then (if bt235.2 = true then (if 0 ≤ (wrap64 (a3 - 1)) then (some (IntKind.u64.wrap ((shl .u64 (IntKind.u64.wrap (wrap64 ((ji7) - a4))) (wrap64 (a3 - 1))) + (IntKind.u64.wrap ((IntKind.u64.wrap (t239 + (IntKind.u64.wrap (t240 * 4294967296)))) + 1))))) else (none)) else (if a2 = true then (if 0 ≤ (wrap64 (a3 - 1)) then (some (IntKind.u64.wrap ((shl .u64 (IntKind.u64.wrap (wrap64 ((ji7) - a4))) (wrap64 (a3 - 1))) + (IntKind.u64.wrap ((IntKind.u64.wrap (t239 + (IntKind.u64.wrap (t240 * 4294967296)))) + 1))))) else (none)) else (if (Int.tmod (IntKind.u64.wrap (t239 + (IntKind.u64.wrap (t240 * 4294967296)))) 2) = 1 then (if 0 ≤ (wrap64 (a3 - 1)) then (some (IntKind.u64.wrap ((shl .u64 (IntKind.u64.wrap (wrap64 ((ji7) - a4))) (wrap64 (a3 - 1))) + (IntKind.u64.wrap ((IntKind.u64.wrap (t239 + (IntKind.u64.wrap (t240 * 4294967296)))) + 1))))) else (none)) else (if 0 ≤ (wrap64 (a3 - 1)) then (some (IntKind.u64.wrap ((shl .u64 (IntKind.u64.wrap (wrap64 ((ji7) - a4))) (wrap64 (a3 - 1))) + (IntKind.u64.wrap (t239 + (IntKind.u64.wrap (t240 * 4294967296))))))) else (none))))) else (if 0 ≤ (wrap64 (a3 - 1)) then (some (IntKind.u64.wrap ((shl .u64 (IntKind.u64.wrap (wrap64 ((ji7) - a4))) (wrap64 (a3 - 1))) + (IntKind.u64.wrap (t239 + (IntKind.u64.wrap (t240 * 4294967296))))))) else (none))))))))) = some r := by (rw [hji7] at H; exact H)
  (try rw [hji7] at A6)
  have hji7_ : (if (wrap64 ((wrap64 (t225 - a3)) + a1)) < a4 then a4 else (wrap64 ((wrap64 (t225 - a3)) + a1))) = ji7 := hji7
  by_cases c8 : (ji7) ≤ a1
  · rw [if_pos c8] at H
    have c8b0 : decide ((ji7) ≤ a1) = true := decide_eq_true c8
    clear c8
    replace H := Option.bind_eq_some_iff.mp H
    obtain ⟨t226, A90, H⟩ := H
    have A9 := y9.mk A90
    clear A90
    obtain ⟨ji10, hji10⟩ : ∃ j_ : Int, (wrap64 (a3 - 1)) = j_ := ⟨_, rfl⟩
    replace H : (if 0 ≤ (ji10) then ((z0g.f t226 0).bind fun t229 => ((z0g.f t226 1).bind fun t230 => (some (IntKind.u64.wrap ((IntKind.u64.wrap ((shl .u64 (IntKind.u64.wrap (wrap64 ((ji7) - a4))) (ji10)) + t229)) + (IntKind.u64.wrap (t230 * 4294967296))))))) else (none)) = some r := by (rw [hji10] at H; exact H)
    (try rw [hji10] at A6)
    (try rw [hji10] at A9)
    have hji10w : (IntKind.i64.wrap (a3 - 1)) = ji10 := (z0t _).trans hji10
    by_cases c11 : 0 ≤ (ji10)
    · rw [if_pos c11] at H
      have c11b0 := eq_true c11
      have c11b1 : decide (0 ≤ (ji10)) = true := decide_eq_true c11
      clear c11
      obtain ⟨ji12, hji12⟩ : ∃ j_ : Int, (shl .u64 (IntKind.u64.wrap (wrap64 ((ji7) - a4))) (ji10)) = j_ := ⟨_, rfl⟩
      replace H : ((z0g.f t226 0).bind fun t229 => ((z0g.f t226 1).bind fun t230 => (some (IntKind.u64.wrap ((IntKind.u64.wrap ((ji12) + t229)) + (IntKind.u64.wrap (t230 * 4294967296))))))) = some r := by (rw [hji12] at H; exact H)
      (try rw [hji12] at A6)
      (try rw [hji12] at A9)
      have hji12_ : (IntKind.u64.wrap ((IntKind.u64.wrap (wrap64 ((ji7) - a4))) * 2 ^ min (ji10).toNat 64)) = ji12 := hji12
      have hji12z : (ji10) ≤ 64 → (IntKind.u64.wrap ((IntKind.u64.wrap (wrap64 ((ji7) - a4))) * 2 ^ (ji10).toNat)) = ji12 := z4a hji12
      replace H := Option.bind_eq_some_iff.mp H
      obtain ⟨t229, A130, H⟩ := H
      have A13 := y9.mk A130
      clear A130
      replace H := Option.bind_eq_some_iff.mp H
      obtain ⟨t230, A140, H⟩ := H
      have A14 := y9.mk A140
      clear A140
      obtain rfl := Option.some.inj H
      go_enter Tryz.func117, Tryz.ntmps117
      go_wp2_with (first | (go_at_call 46; (with_reducible refine (z0j.calls k _ _ l0 t225 _ ?side1 ?side2 A6.out).mono ?_); (case side1 => repeat (exact HR0.out)); (case side2 => exact HC0.out); rintro e w' ⟨rfl, ⟨nd, rfl⟩⟩; (try fail)) | (go_at_call 37; (with_reducible refine (z0l.calls k _ _ l0 (wrap64 (a1 - (ji7))) t226 _ ?side1 ?side2 A9.out).mono ?_); (case side1 => repeat (exact HR0.out)); (case side2 => exact HC0.out); rintro e w15 ⟨v227, rfl, ho0, hb⟩; have n0_ := y9.mk (Kd.z1j ho0 (z0n (by repeat ((with_reducible first | exact HB.out | apply z0p))))); have n1_ := y9.mk (z0m (by repeat ((with_reducible first | exact HB.out | apply z0p))) hb); clear HB; have HO228 := n0_; have HB := n1_; clear n0_ n1_; (try clear hb); (try clear hb2); (try clear hk); (try clear hi); (try clear ho0); obtain ⟨Ao16, co16, eo16⟩ := Kd.z1g HO228.out; subst eo16))
      repeat (go_quiet (first | (go_at_call 69; (with_reducible refine (z0g.calls _ _ t226 0 t229 _ ?side1 ?side2 A13.out).mono ?_); (case side1 => repeat (exact (Kd.z0q HO228.out).2.2)); (case side2 => exact (Kd.z0q HO228.out).2.1); rintro e w' ⟨rfl, ⟨nd, rfl⟩⟩; (try exact ⟨rfl, _, World.drewN_drewN _ _ _⟩)) | (go_at_call 69; (with_reducible refine (z0g.calls _ _ t226 1 t230 _ ?side1 ?side2 A14.out).mono ?_); (case side1 => repeat (exact (Kd.z0q HO228.out).2.2)); (case side2 => exact (Kd.z0q HO228.out).2.1); rintro e w' ⟨rfl, ⟨nd, rfl⟩⟩; (try exact ⟨rfl, _, World.drewN_drewN _ _ _⟩))); try go_wp2_with (fail))
      go_ret
      exact ⟨by rfl, by repeat ((with_reducible first | exact HB.out | apply z0p))⟩
    rw [if_neg c11] at H
    exact absurd H (by simp)
  rw [if_neg c8] at H
  have c8b0 : decide ((ji7) ≤ a1) = false := decide_eq_false c8
  clear c8
  replace H := Option.bind_eq_some_iff.mp H
  obtain ⟨⟨t231, t232⟩, A170, H⟩ := H
  have A17 := y9.mk A170
  clear A170
  replace H := Option.bind_eq_some_iff.mp H
  obtain ⟨⟨t235, t236⟩, A180, H⟩ := H
  have A18 := y9.mk A180
  clear A180
  replace H := Option.bind_eq_some_iff.mp H
  obtain ⟨t239, A190, H⟩ := H
  have A19 := y9.mk A190
  clear A190
  replace H := Option.bind_eq_some_iff.mp H
  obtain ⟨t240, A200, H⟩ := H
  have A20 := y9.mk A200
  clear A200
  replace H := Option.bind_eq_some_iff.mp H
  obtain ⟨t241, A210, H⟩ := H
  have A21 := y9.mk A210
  clear A210
  by_cases c22 : (Int.tmod t241 2) = 1
  · rw [if_pos c22] at H
    have c22b0 : ((Int.tmod t241 2) == 1) = true := beq_iff_eq.mpr c22
    have c22b1 : ((Int.tmod t241 2) != 1) = false := bne_eq_false_iff_eq.mpr c22
    clear c22
    by_cases c23 : t236 = true
    · subst c23
      have H1 : (if 0 ≤ (wrap64 (a3 - 1)) then (some (IntKind.u64.wrap ((shl .u64 (IntKind.u64.wrap (wrap64 ((ji7) - a4))) (wrap64 (a3 - 1))) + (IntKind.u64.wrap ((IntKind.u64.wrap (t239 + (IntKind.u64.wrap (t240 * 4294967296)))) + 1))))) else (none)) = some r := by rw [if_pos rfl] at H; exact H
      clear H
      have H := H1
      clear H1
      obtain ⟨ji24, hji24⟩ : ∃ j_ : Int, (wrap64 (a3 - 1)) = j_ := ⟨_, rfl⟩
      replace H : (if 0 ≤ (ji24) then (some (IntKind.u64.wrap ((shl .u64 (IntKind.u64.wrap (wrap64 ((ji7) - a4))) (ji24)) + (IntKind.u64.wrap ((IntKind.u64.wrap (t239 + (IntKind.u64.wrap (t240 * 4294967296)))) + 1))))) else (none)) = some r := by (rw [hji24] at H; exact H)
      (try rw [hji24] at A6)
      (try rw [hji24] at A17)
      (try rw [hji24] at A18)
      (try rw [hji24] at A19)
      (try rw [hji24] at A20)
      (try rw [hji24] at A21)
      have hji24w : (IntKind.i64.wrap (a3 - 1)) = ji24 := (z0t _).trans hji24
      by_cases c25 : 0 ≤ (ji24)
      · rw [if_pos c25] at H
        have c25b0 := eq_true c25
        have c25b1 : decide (0 ≤ (ji24)) = true := decide_eq_true c25
        clear c25
        obtain ⟨ji26, hji26⟩ : ∃ j_ : Int, (shl .u64 (IntKind.u64.wrap (wrap64 ((ji7) - a4))) (ji24)) = j_ := ⟨_, rfl⟩
        replace H : (some (IntKind.u64.wrap ((ji26) + (IntKind.u64.wrap ((IntKind.u64.wrap (t239 + (IntKind.u64.wrap (t240 * 4294967296)))) + 1))))) = some r := by (rw [hji26] at H; exact H)
        (try rw [hji26] at A6)
        (try rw [hji26] at A17)
        (try rw [hji26] at A18)
        (try rw [hji26] at A19)
        (try rw [hji26] at A20)
        (try rw [hji26] at A21)
        have hji26_ : (IntKind.u64.wrap ((IntKind.u64.wrap (wrap64 ((ji7) - a4))) * 2 ^ min (ji24).toNat 64)) = ji26 := hji26
        have hji26z : (ji24) ≤ 64 → (IntKind.u64.wrap ((IntKind.u64.wrap (wrap64 ((ji7) - a4))) * 2 ^ (ji24).toNat)) = ji26 := z4a hji26
        obtain rfl := Option.some.inj H
        go_enter Tryz.func117, Tryz.ntmps117
        go_wp2_with (first | (go_at_call 46; (with_reducible refine (z0j.calls k _ _ l0 t225 _ ?side1 ?side2 A6.out).mono ?_); (case side1 => repeat (exact HR0.out)); (case side2 => exact HC0.out); rintro e w' ⟨rfl, ⟨nd, rfl⟩⟩; (try fail)) | (go_at_call 38; (with_reducible refine (z0a.calls k _ _ l0 (wrap64 ((ji7) - a1)) t231 t232 _ ?side1 ?side2 A17.out).mono ?_); (case side1 => repeat (exact HR0.out)); (case side2 => exact HC0.out); rintro e w27 ⟨v233, rfl, ho0, hb⟩; have n0_ := y9.mk (Kd.z1j ho0 (z0n (by repeat ((with_reducible first | exact HB.out | apply z0p))))); have n1_ := y9.mk (z0m (by repeat ((with_reducible first | exact HB.out | apply z0p))) hb); clear HB; have HO234 := n0_; have HB := n1_; clear n0_ n1_; (try clear hb); (try clear hb2); (try clear hk); (try clear hi); (try clear ho0)) | (go_at_call 38; (with_reducible refine (z0a.calls k _ _ l0 (wrap64 ((wrap64 ((ji7) - a1)) - 1)) t235 true _ ?side1 ?side2 A18.out).mono ?_); (case side1 => repeat (exact (Kd.z1q HR0.out HB.out))); (case side2 => exact HC0.out); rintro e w28 ⟨v237, rfl, ho0, hb⟩; have n0_ := y9.mk (Kd.z1o (by (with_reducible repeat (fail)); exact HO234.out) (Kd.z2g ho0) hb); have n1_ := y9.mk (Kd.z1j (Kd.z2f ho0 (Kd.R_lt (by (with_reducible repeat (fail)); exact HO234.out))) (z0n (by repeat ((with_reducible exact HB.out))))); have n2_ := y9.mk (z0m (by repeat ((with_reducible exact HB.out))) hb); clear HO234; clear HB; have HO234 := n0_; have HO238 := n1_; have HB := n2_; clear n0_ n1_ n2_; (try clear hb); (try clear hb2); (try clear hk); (try clear hi); (try clear ho0); obtain ⟨Ao29, co29, eo29⟩ := Kd.z1g HO234.out; subst eo29) | (go_at_call 69; (with_reducible refine (z0g.calls _ _ t231 0 t239 _ ?side1 ?side2 A19.out).mono ?_); (case side1 => repeat (exact (Kd.z0q HO234.out).2.2)); (case side2 => exact (Kd.z0q HO234.out).2.1); rintro e w' ⟨rfl, ⟨nd, rfl⟩⟩; (try fail)) | (go_at_call 69; (with_reducible refine (z0g.calls _ _ t231 1 t240 _ ?side1 ?side2 A20.out).mono ?_); (case side1 => repeat (exact (Kd.z0q HO234.out).2.2)); (case side2 => exact (Kd.z0q HO234.out).2.1); rintro e w' ⟨rfl, ⟨nd, rfl⟩⟩; (try fail); obtain ⟨Ao30, co30, eo30⟩ := Kd.z1g HO238.out; subst eo30) | (go_at_call 69; (with_reducible refine (z0g.calls _ _ t235 0 t241 _ ?side1 ?side2 A21.out).mono ?_); (case side1 => repeat (exact (Kd.z0q HO238.out).2.2)); (case side2 => exact (Kd.z0q HO238.out).2.1); rintro e w' ⟨rfl, ⟨nd, rfl⟩⟩; (try fail)))
        repeat (go_quiet (fail); try go_wp2_with (fail))
        go_ret
        exact ⟨by rfl, by repeat ((with_reducible first | exact HB.out | apply z0p))⟩
      rw [if_neg c25] at H
      exact absurd H (by simp)
    replace c23 := Bool.eq_false_iff.mpr c23
    subst c23
    have H1 : (if a2 = true then (if 0 ≤ (wrap64 (a3 - 1)) then (some (IntKind.u64.wrap ((shl .u64 (IntKind.u64.wrap (wrap64 ((ji7) - a4))) (wrap64 (a3 - 1))) + (IntKind.u64.wrap ((IntKind.u64.wrap (t239 + (IntKind.u64.wrap (t240 * 4294967296)))) + 1))))) else (none)) else (if (Int.tmod (IntKind.u64.wrap (t239 + (IntKind.u64.wrap (t240 * 4294967296)))) 2) = 1 then (if 0 ≤ (wrap64 (a3 - 1)) then (some (IntKind.u64.wrap ((shl .u64 (IntKind.u64.wrap (wrap64 ((ji7) - a4))) (wrap64 (a3 - 1))) + (IntKind.u64.wrap ((IntKind.u64.wrap (t239 + (IntKind.u64.wrap (t240 * 4294967296)))) + 1))))) else (none)) else (if 0 ≤ (wrap64 (a3 - 1)) then (some (IntKind.u64.wrap ((shl .u64 (IntKind.u64.wrap (wrap64 ((ji7) - a4))) (wrap64 (a3 - 1))) + (IntKind.u64.wrap (t239 + (IntKind.u64.wrap (t240 * 4294967296))))))) else (none)))) = some r := by rw [if_neg (show ¬ (false = true) by decide)] at H; exact H
    clear H
    have H := H1
    clear H1
    by_cases c31 : a2 = true
    · subst c31
      have H1 : (if 0 ≤ (wrap64 (a3 - 1)) then (some (IntKind.u64.wrap ((shl .u64 (IntKind.u64.wrap (wrap64 ((ji7) - a4))) (wrap64 (a3 - 1))) + (IntKind.u64.wrap ((IntKind.u64.wrap (t239 + (IntKind.u64.wrap (t240 * 4294967296)))) + 1))))) else (none)) = some r := by rw [if_pos rfl] at H; exact H
      clear H
      have H := H1
      clear H1
      obtain ⟨ji32, hji32⟩ : ∃ j_ : Int, (wrap64 (a3 - 1)) = j_ := ⟨_, rfl⟩
      replace H : (if 0 ≤ (ji32) then (some (IntKind.u64.wrap ((shl .u64 (IntKind.u64.wrap (wrap64 ((ji7) - a4))) (ji32)) + (IntKind.u64.wrap ((IntKind.u64.wrap (t239 + (IntKind.u64.wrap (t240 * 4294967296)))) + 1))))) else (none)) = some r := by (rw [hji32] at H; exact H)
      (try rw [hji32] at A6)
      (try rw [hji32] at A17)
      (try rw [hji32] at A18)
      (try rw [hji32] at A19)
      (try rw [hji32] at A20)
      (try rw [hji32] at A21)
      have hji32w : (IntKind.i64.wrap (a3 - 1)) = ji32 := (z0t _).trans hji32
      by_cases c33 : 0 ≤ (ji32)
      · rw [if_pos c33] at H
        have c33b0 := eq_true c33
        have c33b1 : decide (0 ≤ (ji32)) = true := decide_eq_true c33
        clear c33
        obtain ⟨ji34, hji34⟩ : ∃ j_ : Int, (shl .u64 (IntKind.u64.wrap (wrap64 ((ji7) - a4))) (ji32)) = j_ := ⟨_, rfl⟩
        replace H : (some (IntKind.u64.wrap ((ji34) + (IntKind.u64.wrap ((IntKind.u64.wrap (t239 + (IntKind.u64.wrap (t240 * 4294967296)))) + 1))))) = some r := by (rw [hji34] at H; exact H)
        (try rw [hji34] at A6)
        (try rw [hji34] at A17)
        (try rw [hji34] at A18)
        (try rw [hji34] at A19)
        (try rw [hji34] at A20)
        (try rw [hji34] at A21)
        have hji34_ : (IntKind.u64.wrap ((IntKind.u64.wrap (wrap64 ((ji7) - a4))) * 2 ^ min (ji32).toNat 64)) = ji34 := hji34
        have hji34z : (ji32) ≤ 64 → (IntKind.u64.wrap ((IntKind.u64.wrap (wrap64 ((ji7) - a4))) * 2 ^ (ji32).toNat)) = ji34 := z4a hji34
        obtain rfl := Option.some.inj H
        go_enter Tryz.func117, Tryz.ntmps117
        go_wp2_with (first | (go_at_call 46; (with_reducible refine (z0j.calls k _ _ l0 t225 _ ?side1 ?side2 A6.out).mono ?_); (case side1 => repeat (exact HR0.out)); (case side2 => exact HC0.out); rintro e w' ⟨rfl, ⟨nd, rfl⟩⟩; (try fail)) | (go_at_call 38; (with_reducible refine (z0a.calls k _ _ l0 (wrap64 ((ji7) - a1)) t231 t232 _ ?side1 ?side2 A17.out).mono ?_); (case side1 => repeat (exact HR0.out)); (case side2 => exact HC0.out); rintro e w35 ⟨v233, rfl, ho0, hb⟩; have n0_ := y9.mk (Kd.z1j ho0 (z0n (by repeat ((with_reducible first | exact HB.out | apply z0p))))); have n1_ := y9.mk (z0m (by repeat ((with_reducible first | exact HB.out | apply z0p))) hb); clear HB; have HO234 := n0_; have HB := n1_; clear n0_ n1_; (try clear hb); (try clear hb2); (try clear hk); (try clear hi); (try clear ho0)) | (go_at_call 38; (with_reducible refine (z0a.calls k _ _ l0 (wrap64 ((wrap64 ((ji7) - a1)) - 1)) t235 false _ ?side1 ?side2 A18.out).mono ?_); (case side1 => repeat (exact (Kd.z1q HR0.out HB.out))); (case side2 => exact HC0.out); rintro e w36 ⟨v237, rfl, ho0, hb⟩; have n0_ := y9.mk (Kd.z1o (by (with_reducible repeat (fail)); exact HO234.out) (Kd.z2g ho0) hb); have n1_ := y9.mk (Kd.z1j (Kd.z2f ho0 (Kd.R_lt (by (with_reducible repeat (fail)); exact HO234.out))) (z0n (by repeat ((with_reducible exact HB.out))))); have n2_ := y9.mk (z0m (by repeat ((with_reducible exact HB.out))) hb); clear HO234; clear HB; have HO234 := n0_; have HO238 := n1_; have HB := n2_; clear n0_ n1_ n2_; (try clear hb); (try clear hb2); (try clear hk); (try clear hi); (try clear ho0); obtain ⟨Ao37, co37, eo37⟩ := Kd.z1g HO234.out; subst eo37) | (go_at_call 69; (with_reducible refine (z0g.calls _ _ t231 0 t239 _ ?side1 ?side2 A19.out).mono ?_); (case side1 => repeat (exact (Kd.z0q HO234.out).2.2)); (case side2 => exact (Kd.z0q HO234.out).2.1); rintro e w' ⟨rfl, ⟨nd, rfl⟩⟩; (try fail)) | (go_at_call 69; (with_reducible refine (z0g.calls _ _ t231 1 t240 _ ?side1 ?side2 A20.out).mono ?_); (case side1 => repeat (exact (Kd.z0q HO234.out).2.2)); (case side2 => exact (Kd.z0q HO234.out).2.1); rintro e w' ⟨rfl, ⟨nd, rfl⟩⟩; (try fail); obtain ⟨Ao38, co38, eo38⟩ := Kd.z1g HO238.out; subst eo38) | (go_at_call 69; (with_reducible refine (z0g.calls _ _ t235 0 t241 _ ?side1 ?side2 A21.out).mono ?_); (case side1 => repeat (exact (Kd.z0q HO238.out).2.2)); (case side2 => exact (Kd.z0q HO238.out).2.1); rintro e w' ⟨rfl, ⟨nd, rfl⟩⟩; (try fail)))
        repeat (go_quiet (fail); try go_wp2_with (fail))
        go_ret
        exact ⟨by rfl, by repeat ((with_reducible first | exact HB.out | apply z0p))⟩
      rw [if_neg c33] at H
      exact absurd H (by simp)
    replace c31 := Bool.eq_false_iff.mpr c31
    subst c31
    have H1 : (if (Int.tmod (IntKind.u64.wrap (t239 + (IntKind.u64.wrap (t240 * 4294967296)))) 2) = 1 then (if 0 ≤ (wrap64 (a3 - 1)) then (some (IntKind.u64.wrap ((shl .u64 (IntKind.u64.wrap (wrap64 ((ji7) - a4))) (wrap64 (a3 - 1))) + (IntKind.u64.wrap ((IntKind.u64.wrap (t239 + (IntKind.u64.wrap (t240 * 4294967296)))) + 1))))) else (none)) else (if 0 ≤ (wrap64 (a3 - 1)) then (some (IntKind.u64.wrap ((shl .u64 (IntKind.u64.wrap (wrap64 ((ji7) - a4))) (wrap64 (a3 - 1))) + (IntKind.u64.wrap (t239 + (IntKind.u64.wrap (t240 * 4294967296))))))) else (none))) = some r := by rw [if_neg (show ¬ (false = true) by decide)] at H; exact H
    clear H
    have H := H1
    clear H1
    by_cases c39 : (Int.tmod (IntKind.u64.wrap (t239 + (IntKind.u64.wrap (t240 * 4294967296)))) 2) = 1
    · rw [if_pos c39] at H
      have c39b0 : ((Int.tmod (IntKind.u64.wrap (t239 + (IntKind.u64.wrap (t240 * 4294967296)))) 2) == 1) = true := beq_iff_eq.mpr c39
      have c39b1 : ((Int.tmod (IntKind.u64.wrap (t239 + (IntKind.u64.wrap (t240 * 4294967296)))) 2) != 1) = false := bne_eq_false_iff_eq.mpr c39
      clear c39
      obtain ⟨ji40, hji40⟩ : ∃ j_ : Int, (wrap64 (a3 - 1)) = j_ := ⟨_, rfl⟩
      replace H : (if 0 ≤ (ji40) then (some (IntKind.u64.wrap ((shl .u64 (IntKind.u64.wrap (wrap64 ((ji7) - a4))) (ji40)) + (IntKind.u64.wrap ((IntKind.u64.wrap (t239 + (IntKind.u64.wrap (t240 * 4294967296)))) + 1))))) else (none)) = some r := by (rw [hji40] at H; exact H)
      (try rw [hji40] at A6)
      (try rw [hji40] at A17)
      (try rw [hji40] at A18)
      (try rw [hji40] at A19)
      (try rw [hji40] at A20)
      (try rw [hji40] at A21)
      have hji40w : (IntKind.i64.wrap (a3 - 1)) = ji40 := (z0t _).trans hji40
      by_cases c41 : 0 ≤ (ji40)
      · rw [if_pos c41] at H
        have c41b0 := eq_true c41
        have c41b1 : decide (0 ≤ (ji40)) = true := decide_eq_true c41
        clear c41
        obtain ⟨ji42, hji42⟩ : ∃ j_ : Int, (shl .u64 (IntKind.u64.wrap (wrap64 ((ji7) - a4))) (ji40)) = j_ := ⟨_, rfl⟩
        replace H : (some (IntKind.u64.wrap ((ji42) + (IntKind.u64.wrap ((IntKind.u64.wrap (t239 + (IntKind.u64.wrap (t240 * 4294967296)))) + 1))))) = some r := by (rw [hji42] at H; exact H)
        (try rw [hji42] at A6)
        (try rw [hji42] at A17)
        (try rw [hji42] at A18)
        (try rw [hji42] at A19)
        (try rw [hji42] at A20)
        (try rw [hji42] at A21)
        have hji42_ : (IntKind.u64.wrap ((IntKind.u64.wrap (wrap64 ((ji7) - a4))) * 2 ^ min (ji40).toNat 64)) = ji42 := hji42
        have hji42z : (ji40) ≤ 64 → (IntKind.u64.wrap ((IntKind.u64.wrap (wrap64 ((ji7) - a4))) * 2 ^ (ji40).toNat)) = ji42 := z4a hji42
        obtain rfl := Option.some.inj H
        go_enter Tryz.func117, Tryz.ntmps117
        go_wp2_with (first | (go_at_call 46; (with_reducible refine (z0j.calls k _ _ l0 t225 _ ?side1 ?side2 A6.out).mono ?_); (case side1 => repeat (exact HR0.out)); (case side2 => exact HC0.out); rintro e w' ⟨rfl, ⟨nd, rfl⟩⟩; (try fail)) | (go_at_call 38; (with_reducible refine (z0a.calls k _ _ l0 (wrap64 ((ji7) - a1)) t231 t232 _ ?side1 ?side2 A17.out).mono ?_); (case side1 => repeat (exact HR0.out)); (case side2 => exact HC0.out); rintro e w43 ⟨v233, rfl, ho0, hb⟩; have n0_ := y9.mk (Kd.z1j ho0 (z0n (by repeat ((with_reducible first | exact HB.out | apply z0p))))); have n1_ := y9.mk (z0m (by repeat ((with_reducible first | exact HB.out | apply z0p))) hb); clear HB; have HO234 := n0_; have HB := n1_; clear n0_ n1_; (try clear hb); (try clear hb2); (try clear hk); (try clear hi); (try clear ho0)) | (go_at_call 38; (with_reducible refine (z0a.calls k _ _ l0 (wrap64 ((wrap64 ((ji7) - a1)) - 1)) t235 false _ ?side1 ?side2 A18.out).mono ?_); (case side1 => repeat (exact (Kd.z1q HR0.out HB.out))); (case side2 => exact HC0.out); rintro e w44 ⟨v237, rfl, ho0, hb⟩; have n0_ := y9.mk (Kd.z1o (by (with_reducible repeat (fail)); exact HO234.out) (Kd.z2g ho0) hb); have n1_ := y9.mk (Kd.z1j (Kd.z2f ho0 (Kd.R_lt (by (with_reducible repeat (fail)); exact HO234.out))) (z0n (by repeat ((with_reducible exact HB.out))))); have n2_ := y9.mk (z0m (by repeat ((with_reducible exact HB.out))) hb); clear HO234; clear HB; have HO234 := n0_; have HO238 := n1_; have HB := n2_; clear n0_ n1_ n2_; (try clear hb); (try clear hb2); (try clear hk); (try clear hi); (try clear ho0); obtain ⟨Ao45, co45, eo45⟩ := Kd.z1g HO234.out; subst eo45) | (go_at_call 69; (with_reducible refine (z0g.calls _ _ t231 0 t239 _ ?side1 ?side2 A19.out).mono ?_); (case side1 => repeat (exact (Kd.z0q HO234.out).2.2)); (case side2 => exact (Kd.z0q HO234.out).2.1); rintro e w' ⟨rfl, ⟨nd, rfl⟩⟩; (try fail)) | (go_at_call 69; (with_reducible refine (z0g.calls _ _ t231 1 t240 _ ?side1 ?side2 A20.out).mono ?_); (case side1 => repeat (exact (Kd.z0q HO234.out).2.2)); (case side2 => exact (Kd.z0q HO234.out).2.1); rintro e w' ⟨rfl, ⟨nd, rfl⟩⟩; (try fail); obtain ⟨Ao46, co46, eo46⟩ := Kd.z1g HO238.out; subst eo46) | (go_at_call 69; (with_reducible refine (z0g.calls _ _ t235 0 t241 _ ?side1 ?side2 A21.out).mono ?_); (case side1 => repeat (exact (Kd.z0q HO238.out).2.2)); (case side2 => exact (Kd.z0q HO238.out).2.1); rintro e w' ⟨rfl, ⟨nd, rfl⟩⟩; (try fail)))
        repeat (go_quiet (fail); try go_wp2_with (fail))
        go_ret
        exact ⟨by rfl, by repeat ((with_reducible first | exact HB.out | apply z0p))⟩
      rw [if_neg c41] at H
      exact absurd H (by simp)
    rw [if_neg c39] at H
    have c39b0 : ((Int.tmod (IntKind.u64.wrap (t239 + (IntKind.u64.wrap (t240 * 4294967296)))) 2) == 1) = false := beq_eq_false_iff_ne.mpr c39
    have c39b1 : ((Int.tmod (IntKind.u64.wrap (t239 + (IntKind.u64.wrap (t240 * 4294967296)))) 2) != 1) = true := bne_iff_ne.mpr c39
    obtain ⟨ji47, hji47⟩ : ∃ j_ : Int, (wrap64 (a3 - 1)) = j_ := ⟨_, rfl⟩
    replace H : (if 0 ≤ (ji47) then (some (IntKind.u64.wrap ((shl .u64 (IntKind.u64.wrap (wrap64 ((ji7) - a4))) (ji47)) + (IntKind.u64.wrap (t239 + (IntKind.u64.wrap (t240 * 4294967296))))))) else (none)) = some r := by (rw [hji47] at H; exact H)
    (try rw [hji47] at A6)
    (try rw [hji47] at A17)
    (try rw [hji47] at A18)
    (try rw [hji47] at A19)
    (try rw [hji47] at A20)
    (try rw [hji47] at A21)
    have hji47w : (IntKind.i64.wrap (a3 - 1)) = ji47 := (z0t _).trans hji47
    by_cases c48 : 0 ≤ (ji47)
    · rw [if_pos c48] at H
      have c48b0 := eq_true c48
      have c48b1 : decide (0 ≤ (ji47)) = true := decide_eq_true c48
      clear c48
      obtain ⟨ji49, hji49⟩ : ∃ j_ : Int, (shl .u64 (IntKind.u64.wrap (wrap64 ((ji7) - a4))) (ji47)) = j_ := ⟨_, rfl⟩
      replace H : (some (IntKind.u64.wrap ((ji49) + (IntKind.u64.wrap (t239 + (IntKind.u64.wrap (t240 * 4294967296))))))) = some r := by (rw [hji49] at H; exact H)
      (try rw [hji49] at A6)
      (try rw [hji49] at A17)
      (try rw [hji49] at A18)
      (try rw [hji49] at A19)
      (try rw [hji49] at A20)
      (try rw [hji49] at A21)
      have hji49_ : (IntKind.u64.wrap ((IntKind.u64.wrap (wrap64 ((ji7) - a4))) * 2 ^ min (ji47).toNat 64)) = ji49 := hji49
      have hji49z : (ji47) ≤ 64 → (IntKind.u64.wrap ((IntKind.u64.wrap (wrap64 ((ji7) - a4))) * 2 ^ (ji47).toNat)) = ji49 := z4a hji49
      obtain rfl := Option.some.inj H
      go_enter Tryz.func117, Tryz.ntmps117
      go_wp2_with (first | (go_at_call 46; (with_reducible refine (z0j.calls k _ _ l0 t225 _ ?side1 ?side2 A6.out).mono ?_); (case side1 => repeat (exact HR0.out)); (case side2 => exact HC0.out); rintro e w' ⟨rfl, ⟨nd, rfl⟩⟩; (try fail)) | (go_at_call 38; (with_reducible refine (z0a.calls k _ _ l0 (wrap64 ((ji7) - a1)) t231 t232 _ ?side1 ?side2 A17.out).mono ?_); (case side1 => repeat (exact HR0.out)); (case side2 => exact HC0.out); rintro e w50 ⟨v233, rfl, ho0, hb⟩; have n0_ := y9.mk (Kd.z1j ho0 (z0n (by repeat ((with_reducible first | exact HB.out | apply z0p))))); have n1_ := y9.mk (z0m (by repeat ((with_reducible first | exact HB.out | apply z0p))) hb); clear HB; have HO234 := n0_; have HB := n1_; clear n0_ n1_; (try clear hb); (try clear hb2); (try clear hk); (try clear hi); (try clear ho0)) | (go_at_call 38; (with_reducible refine (z0a.calls k _ _ l0 (wrap64 ((wrap64 ((ji7) - a1)) - 1)) t235 false _ ?side1 ?side2 A18.out).mono ?_); (case side1 => repeat (exact (Kd.z1q HR0.out HB.out))); (case side2 => exact HC0.out); rintro e w51 ⟨v237, rfl, ho0, hb⟩; have n0_ := y9.mk (Kd.z1o (by (with_reducible repeat (fail)); exact HO234.out) (Kd.z2g ho0) hb); have n1_ := y9.mk (Kd.z1j (Kd.z2f ho0 (Kd.R_lt (by (with_reducible repeat (fail)); exact HO234.out))) (z0n (by repeat ((with_reducible exact HB.out))))); have n2_ := y9.mk (z0m (by repeat ((with_reducible exact HB.out))) hb); clear HO234; clear HB; have HO234 := n0_; have HO238 := n1_; have HB := n2_; clear n0_ n1_ n2_; (try clear hb); (try clear hb2); (try clear hk); (try clear hi); (try clear ho0); obtain ⟨Ao52, co52, eo52⟩ := Kd.z1g HO234.out; subst eo52) | (go_at_call 69; (with_reducible refine (z0g.calls _ _ t231 0 t239 _ ?side1 ?side2 A19.out).mono ?_); (case side1 => repeat (exact (Kd.z0q HO234.out).2.2)); (case side2 => exact (Kd.z0q HO234.out).2.1); rintro e w' ⟨rfl, ⟨nd, rfl⟩⟩; (try fail)) | (go_at_call 69; (with_reducible refine (z0g.calls _ _ t231 1 t240 _ ?side1 ?side2 A20.out).mono ?_); (case side1 => repeat (exact (Kd.z0q HO234.out).2.2)); (case side2 => exact (Kd.z0q HO234.out).2.1); rintro e w' ⟨rfl, ⟨nd, rfl⟩⟩; (try fail); obtain ⟨Ao53, co53, eo53⟩ := Kd.z1g HO238.out; subst eo53) | (go_at_call 69; (with_reducible refine (z0g.calls _ _ t235 0 t241 _ ?side1 ?side2 A21.out).mono ?_); (case side1 => repeat (exact (Kd.z0q HO238.out).2.2)); (case side2 => exact (Kd.z0q HO238.out).2.1); rintro e w' ⟨rfl, ⟨nd, rfl⟩⟩; (try fail)))
      repeat (go_quiet (fail); try go_wp2_with (fail))
      go_ret
      exact ⟨by rfl, by repeat ((with_reducible first | exact HB.out | apply z0p))⟩
    rw [if_neg c48] at H
    exact absurd H (by simp)
  rw [if_neg c22] at H
  have c22b0 : ((Int.tmod t241 2) == 1) = false := beq_eq_false_iff_ne.mpr c22
  have c22b1 : ((Int.tmod t241 2) != 1) = true := bne_iff_ne.mpr c22
  obtain ⟨ji54, hji54⟩ : ∃ j_ : Int, (wrap64 (a3 - 1)) = j_ := ⟨_, rfl⟩
  replace H : (if 0 ≤ (ji54) then (some (IntKind.u64.wrap ((shl .u64 (IntKind.u64.wrap (wrap64 ((ji7) - a4))) (ji54)) + (IntKind.u64.wrap (t239 + (IntKind.u64.wrap (t240 * 4294967296))))))) else (none)) = some r := by (rw [hji54] at H; exact H)
  (try rw [hji54] at A6)
  (try rw [hji54] at A17)
  (try rw [hji54] at A18)
  (try rw [hji54] at A19)
  (try rw [hji54] at A20)
  (try rw [hji54] at A21)
  have hji54w : (IntKind.i64.wrap (a3 - 1)) = ji54 := (z0t _).trans hji54
  by_cases c55 : 0 ≤ (ji54)
  · rw [if_pos c55] at H
    have c55b0 := eq_true c55
    have c55b1 : decide (0 ≤ (ji54)) = true := decide_eq_true c55
    clear c55
    obtain ⟨ji56, hji56⟩ : ∃ j_ : Int, (shl .u64 (IntKind.u64.wrap (wrap64 ((ji7) - a4))) (ji54)) = j_ := ⟨_, rfl⟩
    replace H : (some (IntKind.u64.wrap ((ji56) + (IntKind.u64.wrap (t239 + (IntKind.u64.wrap (t240 * 4294967296))))))) = some r := by (rw [hji56] at H; exact H)
    (try rw [hji56] at A6)
    (try rw [hji56] at A17)
    (try rw [hji56] at A18)
    (try rw [hji56] at A19)
    (try rw [hji56] at A20)
    (try rw [hji56] at A21)
    have hji56_ : (IntKind.u64.wrap ((IntKind.u64.wrap (wrap64 ((ji7) - a4))) * 2 ^ min (ji54).toNat 64)) = ji56 := hji56
    have hji56z : (ji54) ≤ 64 → (IntKind.u64.wrap ((IntKind.u64.wrap (wrap64 ((ji7) - a4))) * 2 ^ (ji54).toNat)) = ji56 := z4a hji56
    obtain rfl := Option.some.inj H
    go_enter Tryz.func117, Tryz.ntmps117
    go_wp2_with (first | (go_at_call 46; (with_reducible refine (z0j.calls k _ _ l0 t225 _ ?side1 ?side2 A6.out).mono ?_); (case side1 => repeat (exact HR0.out)); (case side2 => exact HC0.out); rintro e w' ⟨rfl, ⟨nd, rfl⟩⟩; (try fail)) | (go_at_call 38; (with_reducible refine (z0a.calls k _ _ l0 (wrap64 ((ji7) - a1)) t231 t232 _ ?side1 ?side2 A17.out).mono ?_); (case side1 => repeat (exact HR0.out)); (case side2 => exact HC0.out); rintro e w57 ⟨v233, rfl, ho0, hb⟩; have n0_ := y9.mk (Kd.z1j ho0 (z0n (by repeat ((with_reducible first | exact HB.out | apply z0p))))); have n1_ := y9.mk (z0m (by repeat ((with_reducible first | exact HB.out | apply z0p))) hb); clear HB; have HO234 := n0_; have HB := n1_; clear n0_ n1_; (try clear hb); (try clear hb2); (try clear hk); (try clear hi); (try clear ho0)) | (go_at_call 38; (with_reducible refine (z0a.calls k _ _ l0 (wrap64 ((wrap64 ((ji7) - a1)) - 1)) t235 t236 _ ?side1 ?side2 A18.out).mono ?_); (case side1 => repeat (exact (Kd.z1q HR0.out HB.out))); (case side2 => exact HC0.out); rintro e w58 ⟨v237, rfl, ho0, hb⟩; have n0_ := y9.mk (Kd.z1o (by (with_reducible repeat (fail)); exact HO234.out) (Kd.z2g ho0) hb); have n1_ := y9.mk (Kd.z1j (Kd.z2f ho0 (Kd.R_lt (by (with_reducible repeat (fail)); exact HO234.out))) (z0n (by repeat ((with_reducible exact HB.out))))); have n2_ := y9.mk (z0m (by repeat ((with_reducible exact HB.out))) hb); clear HO234; clear HB; have HO234 := n0_; have HO238 := n1_; have HB := n2_; clear n0_ n1_ n2_; (try clear hb); (try clear hb2); (try clear hk); (try clear hi); (try clear ho0); obtain ⟨Ao59, co59, eo59⟩ := Kd.z1g HO234.out; subst eo59) | (go_at_call 69; (with_reducible refine (z0g.calls _ _ t231 0 t239 _ ?side1 ?side2 A19.out).mono ?_); (case side1 => repeat (exact (Kd.z0q HO234.out).2.2)); (case side2 => exact (Kd.z0q HO234.out).2.1); rintro e w' ⟨rfl, ⟨nd, rfl⟩⟩; (try fail)) | (go_at_call 69; (with_reducible refine (z0g.calls _ _ t231 1 t240 _ ?side1 ?side2 A20.out).mono ?_); (case side1 => repeat (exact (Kd.z0q HO234.out).2.2)); (case side2 => exact (Kd.z0q HO234.out).2.1); rintro e w' ⟨rfl, ⟨nd, rfl⟩⟩; (try fail); obtain ⟨Ao60, co60, eo60⟩ := Kd.z1g HO238.out; subst eo60) | (go_at_call 69; (with_reducible refine (z0g.calls _ _ t235 0 t241 _ ?side1 ?side2 A21.out).mono ?_); (case side1 => repeat (exact (Kd.z0q HO238.out).2.2)); (case side2 => exact (Kd.z0q HO238.out).2.1); rintro e w' ⟨rfl, ⟨nd, rfl⟩⟩; (try fail)))
    repeat (go_quiet (fail); try go_wp2_with (fail))
    go_ret
    exact ⟨by rfl, by repeat ((with_reducible first | exact HB.out | apply z0p))⟩
  rw [if_neg c55] at H
  exact absurd H (by simp)
def z0f.j0 : Nat → Bool → Bool → List Int → Int → Option (Int)
  | 0, _, _, _, _ => none
  | k + 1, x20, x243000, x243001, x243002 => if x20 = true then ((z1i.f x243000 9218868437227405312).bind fun t246 => (some t246)) else ((z1i.f x243000 0).bind fun t247 => (some t247))
def z0f.f (k : Nat) (a0_0 : Bool) (l0_1 : List Int) (a0_2 : Int) (a1 : Bool) : Option (Int) := (z1m.f a0_0 l0_1 a0_2).bind fun t243 => (if t243 = true then (some 0) else ((z2h.f k a0_0 l0_1 a0_2).bind fun t244 => (if t244 = true then (if a0_2 > 0 then (z0f.j0 k true a0_0 l0_1 a0_2) else ((z0j.f k l0_1).bind fun t245 => (z0f.j0 k (decide ((wrap64 (t245 + a0_2)) > 0)) a0_0 l0_1 a0_2))) else ((z1l.f k l0_1 a0_2 a1 53 (-1074)).bind fun t248 => ((z1i.f a0_0 t248).bind fun t249 => (some t249))))))
def z0f.T4 : Bool × List (List Nat × List Nat) := (true, [([], []), ([0], [0]), ([1], [1]), ([2], [2]), ([3], [3]), ([4, 3], [3, 4]), ([5, 3, 3], [3, 5]), ([3], [3]), ([7, 3], [3, 7]), ([6, 8, 3], [3, 6, 8]), ([9, 3], [3, 9]), ([3, 10], [3, 10])])
def z0f.B4 : List Nat := [0, 1, 3, 7, 15, 31, 63, 15, 143, 511, 1023, 2047]
theorem z0f.tab4 : rtab .any (opsOf Tryz.f92 4) = z0f.T4 := by kernel_rfl
theorem z0f.bits4 : z4r z0f.T4.2 z0f.B4 = true := by kernel_rfl
def z0f.T7 : Bool × List (List Nat × List Nat) := (true, [([], []), ([0], [0]), ([], []), ([2], [2]), ([], []), ([4], [4]), ([], []), ([3, 5, 6], [3, 5, 6]), ([1, 7, 7], [1, 7]), ([8, 8, 0, 1, 2, 3, 4, 5, 6, 7, 8], [8])])
def z0f.B7 : List Nat := [0, 1, 0, 4, 0, 16, 0, 124, 255, 511]
theorem z0f.tab7 : rtab .any (opsOf Tryz.f92 7) = z0f.T7 := by kernel_rfl
theorem z0f.bits7 : z4r z0f.T7.2 z0f.B7 = true := by kernel_rfl
set_option maxHeartbeats 8000000 in
set_option maxRecDepth 100000 in
theorem z0f.calls (k : Nat) (a0_0 : Bool) (A0_1 : Option Addr) (c0_1 : Nat) (l0_1 : List Int) (a0_2 : Int) (a1 : Bool) (r : Int) (w : World) (hr0_1 : Kd.C (Kd.int .u64) w A0_1 l0_1.length l0_1) (hc0_1 : l0_1.length ≤ c0_1) (h : z0f.f k a0_0 l0_1 a0_2 a1 = some r) :
    Calls Tryz.prog 92 #[.agg #[.bool a0_0, .slice A0_1 l0_1.length c0_1, .int .i64 a0_2], .bool a1] w fun e w' => e = .returned (.int .u64 r) ∧ Below w.heap.size w w' := by
  have hu61 := Tryz.underlying61
  have HR0_1 := y9.mk hr0_1
  have HC0_1 := y9.mk hc0_1
  clear hr0_1 hc0_1
  have HB := y9.mk (Below.refl w.heap.size w)
  have H : ((z1m.f a0_0 l0_1 a0_2).bind fun t243 => (if t243 = true then (some 0) else ((z2h.f k a0_0 l0_1 a0_2).bind fun t244 => (if t244 = true then (if a0_2 > 0 then (z0f.j0 k true a0_0 l0_1 a0_2) else ((z0j.f k l0_1).bind fun t245 => (z0f.j0 k (decide ((wrap64 (t245 + a0_2)) > 0)) a0_0 l0_1 a0_2))) else ((z1l.f k l0_1 a0_2 a1 53 (-1074)).bind fun t248 => ((z1i.f a0_0 t248).bind fun t249 => (some t249))))))) = some r := h
  clear h
  replace H := Option.bind_eq_some_iff.mp H
  obtain ⟨t243, A30, H⟩ := H
  have A3 := y9.mk A30
  clear A30
  by_cases c4 : t243 = true
  · subst c4
    have H1 : (some 0) = some r := by rw [if_pos rfl] at H; exact H
    clear H
    have H := H1
    clear H1
    obtain rfl := Option.some.inj H
    go_enter Tryz.func92, Tryz.ntmps92
    go_wp2_with (first | ((with_reducible refine z1s (N := 2) rfl ?_); refine z2m ?hg (N := 2) ?hd (cs := #[.bool a0_0, .slice A0_1 l0_1.length c0_1, .int .i64 a0_2]) (t := 61) ?hr ?_; (case hd => rfl); (case hg => rfl); (case hr => (go_simp; done)); intro gb242 hg w5 hbox hb; have n0_ := y9.mk (z0m (by repeat ((with_reducible exact HB.out))) hb); have n1_ := y9.mk (hbox); have n2_ := y9.mk ((by rw [hg]; exact (z0n (by repeat ((with_reducible exact HB.out)))) : w.heap.size ≤ gb242)); have n3_ := y9.mk ((by rw [hg]; exact (z0n (by repeat ((with_reducible exact HB.out)))) : w.heap.size ≤ gb242)); clear HB; have HB := n0_; have BK242 := n1_; have GW242 := n2_; have GE242 := n3_; clear n0_ n1_ n2_ n3_; clear hb hbox hg; have hcz6_0 : w5.cell? ⟨gb242, 0, none⟩ = some (.bool a0_0) := (z0d BK242.out 0).trans rfl; have hcz6_1 : w5.cell? ⟨gb242, 1, none⟩ = some (.slice A0_1 l0_1.length c0_1) := (z0d BK242.out 1).trans rfl; have hcz6_2 : w5.cell? ⟨gb242, 2, none⟩ = some (.int .i64 a0_2) := (z0d BK242.out 2).trans rfl; have hfz6_0 := z0i BK242.out 0; have hfz6_1 := z0i BK242.out 1; have hfz6_2 := z0i BK242.out 2) | ((with_reducible refine z0y (f := 93) rfl ?_); refine z1p (some 6) rfl rfl Tryz.func93 (by kernel_rfl) rfl #[.agg #[.bool a0_0, .slice A0_1 l0_1.length c0_1, .int .i64 a0_2]] rfl (by (try simp only [List.map_toArray, List.map_cons, List.map_nil]); rfl) ?_; (with_reducible refine (z1m.calls a0_0 _ _ l0_1 a0_2 true _ ?side1 ?side2 A3.out).mono ?_); (case side1 => repeat (exact (Kd.z1q HR0_1.out HB.out))); (case side2 => exact HC0_1.out); rintro e w7 ⟨rfl, hb⟩; refine ⟨_, rfl, ?_⟩; have n0_ := y9.mk (z1f (g := gb242) (o := .cells #[.bool a0_0, .slice A0_1 l0_1.length c0_1, .int .i64 a0_2] 61 (0, 0)) (by (with_reducible repeat (fail)); exact BK242.out) hb); have n1_ := y9.mk (z0m (by repeat ((with_reducible exact HB.out))) hb); clear BK242; clear HB; have BK242 := n0_; have HB := n1_; clear n0_ n1_; (try clear hb); (try clear hb2); (try clear hk); (try clear hi)))
    go_ret
    exact ⟨by rfl, by repeat ((with_reducible exact HB.out))⟩
  replace c4 := Bool.eq_false_iff.mpr c4
  subst c4
  have H1 : ((z2h.f k a0_0 l0_1 a0_2).bind fun t244 => (if t244 = true then (if a0_2 > 0 then (z0f.j0 k true a0_0 l0_1 a0_2) else ((z0j.f k l0_1).bind fun t245 => (z0f.j0 k (decide ((wrap64 (t245 + a0_2)) > 0)) a0_0 l0_1 a0_2))) else ((z1l.f k l0_1 a0_2 a1 53 (-1074)).bind fun t248 => ((z1i.f a0_0 t248).bind fun t249 => (some t249))))) = some r := by rw [if_neg (show ¬ (false = true) by decide)] at H; exact H
  clear H
  have H := H1
  clear H1
  replace H := Option.bind_eq_some_iff.mp H
  obtain ⟨t244, A80, H⟩ := H
  have A8 := y9.mk A80
  clear A80
  by_cases c9 : t244 = true
  · subst c9
    have H1 : (if a0_2 > 0 then (z0f.j0 k true a0_0 l0_1 a0_2) else ((z0j.f k l0_1).bind fun t245 => (z0f.j0 k (decide ((wrap64 (t245 + a0_2)) > 0)) a0_0 l0_1 a0_2))) = some r := by rw [if_pos rfl] at H; exact H
    clear H
    have H := H1
    clear H1
    have HC10 := y9.mk H
    clear H
    go_enter Tryz.func92, Tryz.ntmps92
    go_upto_region 4 with (first | ((with_reducible refine z1s (N := 2) rfl ?_); refine z2m ?hg (N := 2) ?hd (cs := #[.bool a0_0, .slice A0_1 l0_1.length c0_1, .int .i64 a0_2]) (t := 61) ?hr ?_; (case hd => rfl); (case hg => rfl); (case hr => (go_simp; done)); intro gb242 hg w11 hbox hb; have n0_ := y9.mk (z0m (by repeat ((with_reducible exact HB.out))) hb); have n1_ := y9.mk (hbox); have n2_ := y9.mk ((by rw [hg]; exact (z0n (by repeat ((with_reducible exact HB.out)))) : w.heap.size ≤ gb242)); have n3_ := y9.mk ((by rw [hg]; exact (z0n (by repeat ((with_reducible exact HB.out)))) : w.heap.size ≤ gb242)); clear HB; have HB := n0_; have BK242 := n1_; have GW242 := n2_; have GE242 := n3_; clear n0_ n1_ n2_ n3_; clear hb hbox hg; have hcz12_0 : w11.cell? ⟨gb242, 0, none⟩ = some (.bool a0_0) := (z0d BK242.out 0).trans rfl; have hcz12_1 : w11.cell? ⟨gb242, 1, none⟩ = some (.slice A0_1 l0_1.length c0_1) := (z0d BK242.out 1).trans rfl; have hcz12_2 : w11.cell? ⟨gb242, 2, none⟩ = some (.int .i64 a0_2) := (z0d BK242.out 2).trans rfl; have hfz12_0 := z0i BK242.out 0; have hfz12_1 := z0i BK242.out 1; have hfz12_2 := z0i BK242.out 2) | ((with_reducible refine z0y (f := 93) rfl ?_); refine z1p (some 6) rfl rfl Tryz.func93 (by kernel_rfl) rfl #[.agg #[.bool a0_0, .slice A0_1 l0_1.length c0_1, .int .i64 a0_2]] rfl (by (try simp only [List.map_toArray, List.map_cons, List.map_nil]); rfl) ?_; (with_reducible refine (z1m.calls a0_0 _ _ l0_1 a0_2 false _ ?side1 ?side2 A3.out).mono ?_); (case side1 => repeat (exact (Kd.z1q HR0_1.out HB.out))); (case side2 => exact HC0_1.out); rintro e w13 ⟨rfl, hb⟩; refine ⟨_, rfl, ?_⟩; have n0_ := y9.mk (z1f (g := gb242) (o := .cells #[.bool a0_0, .slice A0_1 l0_1.length c0_1, .int .i64 a0_2] 61 (0, 0)) (by (with_reducible repeat (fail)); exact BK242.out) hb); have n1_ := y9.mk (z0m (by repeat ((with_reducible exact HB.out))) hb); clear BK242; clear HB; have BK242 := n0_; have HB := n1_; clear n0_ n1_; (try clear hb); (try clear hb2); (try clear hk); (try clear hi); have hcz14_0 : w13.cell? ⟨gb242, 0, none⟩ = some (.bool a0_0) := (z0d BK242.out 0).trans rfl; have hcz14_1 : w13.cell? ⟨gb242, 1, none⟩ = some (.slice A0_1 l0_1.length c0_1) := (z0d BK242.out 1).trans rfl; have hcz14_2 : w13.cell? ⟨gb242, 2, none⟩ = some (.int .i64 a0_2) := (z0d BK242.out 2).trans rfl; have hfz14_0 := z0i BK242.out 0; have hfz14_1 := z0i BK242.out 1; have hfz14_2 := z0i BK242.out 2) | ((with_reducible refine z0y (f := 115) rfl ?_); refine z1p (some 8) rfl rfl Tryz.func115 (by kernel_rfl) rfl #[.agg #[.bool a0_0, .slice A0_1 l0_1.length c0_1, .int .i64 a0_2]] rfl (by (try simp only [List.map_toArray, List.map_cons, List.map_nil]); rfl) ?_; (with_reducible refine (z2h.calls k a0_0 _ _ l0_1 a0_2 true _ ?side1 ?side2 A8.out).mono ?_); (case side1 => repeat (exact (Kd.z1q HR0_1.out HB.out))); (case side2 => exact HC0_1.out); rintro e w15 ⟨rfl, hb⟩; refine ⟨_, rfl, ?_⟩; have n0_ := y9.mk (z1f (g := gb242) (o := .cells #[.bool a0_0, .slice A0_1 l0_1.length c0_1, .int .i64 a0_2] 61 (0, 0)) (by (with_reducible repeat (fail)); exact BK242.out) hb); have n1_ := y9.mk (z0m (by repeat ((with_reducible exact HB.out))) hb); clear BK242; clear HB; have BK242 := n0_; have HB := n1_; clear n0_ n1_; (try clear hb); (try clear hb2); (try clear hk); (try clear hi)))
    (try simp only [Act.put, List.setIfInBounds_toArray, List.set_cons_zero, List.set_cons_succ])
    go_cut [20] (fun v20 wc => ∃ (kq : Nat) (x20_9 : Bool), v20 = .bool x20_9 ∧ y9 (z0f.j0 kq x20_9 a0_0 l0_1 a0_2 = some r) ∧ y9 (kq ≤ k) ∧ y9 (wc.heap[gb242]? = some (.cells #[.bool a0_0, (.slice A0_1 l0_1.length c0_1), .int .i64 a0_2] 61 (0, 0))) ∧ y9 (Below w.heap.size w wc))
    case first =>
      have H := HC10.out
      clear HC10
      by_cases c16 : a0_2 > 0
      · rw [if_pos c16] at H
        have c16b0 : decide (0 < a0_2) = true := decide_eq_true c16
        clear c16
        (skip)
        have H' := y9.mk H
        clear H
        try go_wp2
        have n0_ := y9.mk (z5c BK242.out)
        have n1_ := y9.mk (z2y HB.out)
        clear BK242
        clear HB
        have BK242 := n0_
        have HB := n1_
        clear n0_ n1_
        refine z6f (n := 12) (S := fun w' => w'.cell? ⟨gb242, 0, none⟩ = some (.bool a0_0) ∧ w'.cell? ⟨gb242, 1, none⟩ = some (.slice A0_1 l0_1.length c0_1) ∧ w'.cell? ⟨gb242, 2, none⟩ = some (.int .i64 a0_2)) (ds := []) #[false, false, false, false, false, false, false, false, false, false, false, false] (by kernel_rfl) rfl rfl ⟨(z0d BK242.out 0).trans rfl, (z0d BK242.out 1).trans rfl, (z0d BK242.out 2).trans rfl⟩ (fun hHeld => ?_); refine z3x z0f.tab4 z0f.bits4 (fun HT_ HW_ => ?_)
        generalize w15.drew = w17 at BK242 HB hHeld ⊢
        refine z1b (i := 0) (N := some 9) (v := ?_) (a' := ?_) #[true, false, false, false, false, false, false, false, false, false, false, false] rfl rfl (z0x HT_.out (by kernel_rfl)) (fun _ _ _ h => h) (Or.inl ⟨by rfl, ?_⟩) ?_ ?_
        rotate_left
        · intro w'
          go_simp
          with_reducible rfl
        rotate_left
        · simp only [Act.put, List.setIfInBounds_toArray, List.set_cons_zero, List.set_cons_succ, z0t, z0z]
          rfl
        refine z5s (i := 1) (N := some 10) (v := ?_) (a' := ?_) #[true, true, false, false, false, false, false, false, false, false, false, false] rfl rfl (z3j HT_.out HW_.out (by kernel_rfl)) (fun _ _ _ h => h) (Or.inl ⟨by rfl, ?_⟩) hHeld ?_ ?_
        rotate_left
        · rintro w' ⟨s0, s1, s2⟩
          go_simp
          with_reducible rfl
        rotate_left
        · simp only [Act.put, List.setIfInBounds_toArray, List.set_cons_zero, List.set_cons_succ, z0t, z0z]
          rfl
        refine z1b (i := 2) (N := some 11) (v := ?_) (a' := ?_) #[true, true, true, false, false, false, false, false, false, false, false, false] rfl rfl (z0x HT_.out (by kernel_rfl)) (fun _ _ _ h => h) (Or.inl ⟨by rfl, ?_⟩) ?_ ?_
        rotate_left
        · intro w'
          go_simp
          with_reducible rfl
        rotate_left
        · simp only [Act.put, List.setIfInBounds_toArray, List.set_cons_zero, List.set_cons_succ, z0t, z0z]
          rfl
        refine z1b (i := 3) (N := some 12) (v := ?_) (a' := ?_) #[true, true, true, true, false, false, false, false, false, false, false, false] rfl rfl (z0x HT_.out (by kernel_rfl)) (fun _ _ _ h => h) (Or.inl ⟨by rfl, ?_⟩) ?_ ?_
        rotate_left
        · intro w'
          go_simp
          with_reducible rfl
        rotate_left
        · simp only [Act.put, List.setIfInBounds_toArray, List.set_cons_zero, List.set_cons_succ, z0t, z0z]
          rfl
        refine z1b (i := 4) (N := some 13) (v := undef) (a' := ?_) #[true, true, true, true, true, false, false, false, false, false, false, false] rfl rfl (z0x HT_.out (by kernel_rfl)) (fun _ _ _ h => h) (Or.inr ⟨by rfl, rfl⟩) ?_ ?_
        rotate_left
        · simp only [Act.put, List.setIfInBounds_toArray, List.set_cons_zero, List.set_cons_succ, z0t, z0z]
          rfl
        refine z1b (i := 5) (N := some 14) (v := undef) (a' := ?_) #[true, true, true, true, true, true, false, false, false, false, false, false] rfl rfl (z0x HT_.out (by kernel_rfl)) (fun _ _ _ h => h) (Or.inr ⟨by rfl, rfl⟩) ?_ ?_
        rotate_left
        · simp only [Act.put, List.setIfInBounds_toArray, List.set_cons_zero, List.set_cons_succ, z0t, z0z]
          rfl
        refine z1b (i := 6) (N := some 15) (v := undef) (a' := ?_) #[true, true, true, true, true, true, true, false, false, false, false, false] rfl rfl (z0x HT_.out (by kernel_rfl)) (fun _ _ _ h => h) (Or.inr ⟨by rfl, rfl⟩) ?_ ?_
        rotate_left
        · simp only [Act.put, List.setIfInBounds_toArray, List.set_cons_zero, List.set_cons_succ, z0t, z0z]
          rfl
        refine z1b (i := 7) (N := some 16) (v := undef) (a' := ?_) #[true, true, true, true, true, true, true, true, false, false, false, false] rfl rfl (z0x HT_.out (by kernel_rfl)) (fun _ _ _ h => h) (Or.inr ⟨by rfl, rfl⟩) ?_ ?_
        rotate_left
        · simp only [Act.put, List.setIfInBounds_toArray, List.set_cons_zero, List.set_cons_succ, z0t, z0z]
          rfl
        refine z1b (i := 8) (N := some 17) (v := undef) (a' := ?_) #[true, true, true, true, true, true, true, true, true, false, false, false] rfl rfl (z0x HT_.out (by kernel_rfl)) (fun _ _ _ h => h) (Or.inr ⟨by rfl, rfl⟩) ?_ ?_
        rotate_left
        · simp only [Act.put, List.setIfInBounds_toArray, List.set_cons_zero, List.set_cons_succ, z0t, z0z]
          rfl
        refine z1b (i := 9) (N := some 18) (v := undef) (a' := ?_) #[true, true, true, true, true, true, true, true, true, true, false, false] rfl rfl (z0x HT_.out (by kernel_rfl)) (fun _ _ _ h => h) (Or.inr ⟨by rfl, rfl⟩) ?_ ?_
        rotate_left
        · simp only [Act.put, List.setIfInBounds_toArray, List.set_cons_zero, List.set_cons_succ, z0t, z0z]
          rfl
        refine z1b (i := 10) (N := some 19) (v := undef) (a' := ?_) #[true, true, true, true, true, true, true, true, true, true, true, false] rfl rfl (z0x HT_.out (by kernel_rfl)) (fun _ _ _ h => h) (Or.inr ⟨by rfl, rfl⟩) ?_ ?_
        rotate_left
        · simp only [Act.put, List.setIfInBounds_toArray, List.set_cons_zero, List.set_cons_succ, z0t, z0z]
          rfl
        refine z1b (i := 11) (N := some 20) (v := ?_) (a' := ?_) #[true, true, true, true, true, true, true, true, true, true, true, true] rfl rfl (z0x HT_.out (by kernel_rfl)) (fun _ _ _ h => h) (Or.inl ⟨by rfl, ?_⟩) ?_ ?_
        rotate_left
        · intro w'
          go_simp
          with_reducible rfl
        rotate_left
        · simp only [Act.put, List.setIfInBounds_toArray, List.set_cons_zero, List.set_cons_succ, z0t, z0z]
          rfl
        refine done_ (z5i HT_.out (by kernel_rfl)) ?_
        try go_wp2
        go_meet
        case rel => exact ⟨_, (true), (by rfl), H', ⟨by omega⟩, ⟨by (with_reducible repeat (fail)); exact BK242.out⟩, ⟨by repeat ((with_reducible exact HB.out))⟩⟩
      rw [if_neg c16] at H
      have c16b0 : decide (0 < a0_2) = false := decide_eq_false c16
      clear c16
      (skip)
      replace H := Option.bind_eq_some_iff.mp H
      obtain ⟨t245, A180, H⟩ := H
      have A18 := y9.mk A180
      clear A180
      have H' := y9.mk H
      clear H
      try go_wp2
      have n0_ := y9.mk (z5c BK242.out)
      have n1_ := y9.mk (z2y HB.out)
      clear BK242
      clear HB
      have BK242 := n0_
      have HB := n1_
      clear n0_ n1_
      refine z6f (n := 12) (S := fun w' => w'.cell? ⟨gb242, 0, none⟩ = some (.bool a0_0) ∧ w'.cell? ⟨gb242, 1, none⟩ = some (.slice A0_1 l0_1.length c0_1) ∧ w'.cell? ⟨gb242, 2, none⟩ = some (.int .i64 a0_2)) (ds := []) #[false, false, false, false, false, false, false, false, false, false, false, false] (by kernel_rfl) rfl rfl ⟨(z0d BK242.out 0).trans rfl, (z0d BK242.out 1).trans rfl, (z0d BK242.out 2).trans rfl⟩ (fun hHeld => ?_); refine z3x z0f.tab4 z0f.bits4 (fun HT_ HW_ => ?_)
      generalize w15.drew = w19 at BK242 HB hHeld ⊢
      refine z1b (i := 0) (N := some 9) (v := ?_) (a' := ?_) #[true, false, false, false, false, false, false, false, false, false, false, false] rfl rfl (z0x HT_.out (by kernel_rfl)) (fun _ _ _ h => h) (Or.inl ⟨by rfl, ?_⟩) ?_ ?_
      rotate_left
      · intro w'
        go_simp
        with_reducible rfl
      rotate_left
      · simp only [Act.put, List.setIfInBounds_toArray, List.set_cons_zero, List.set_cons_succ, z0t, z0z]
        rfl
      refine z5s (i := 1) (N := some 10) (v := ?_) (a' := ?_) #[true, true, false, false, false, false, false, false, false, false, false, false] rfl rfl (z3j HT_.out HW_.out (by kernel_rfl)) (fun _ _ _ h => h) (Or.inl ⟨by rfl, ?_⟩) hHeld ?_ ?_
      rotate_left
      · rintro w' ⟨s0, s1, s2⟩
        go_simp
        with_reducible rfl
      rotate_left
      · simp only [Act.put, List.setIfInBounds_toArray, List.set_cons_zero, List.set_cons_succ, z0t, z0z]
        rfl
      refine z1b (i := 2) (N := some 11) (v := ?_) (a' := ?_) #[true, true, true, false, false, false, false, false, false, false, false, false] rfl rfl (z0x HT_.out (by kernel_rfl)) (fun _ _ _ h => h) (Or.inl ⟨by rfl, ?_⟩) ?_ ?_
      rotate_left
      · intro w'
        go_simp
        with_reducible rfl
      rotate_left
      · simp only [Act.put, List.setIfInBounds_toArray, List.set_cons_zero, List.set_cons_succ, z0t, z0z]
        rfl
      refine z1b (i := 3) (N := some 12) (v := ?_) (a' := ?_) #[true, true, true, true, false, false, false, false, false, false, false, false] rfl rfl (z0x HT_.out (by kernel_rfl)) (fun _ _ _ h => h) (Or.inl ⟨by rfl, ?_⟩) ?_ ?_
      rotate_left
      · intro w'
        go_simp
        with_reducible rfl
      rotate_left
      · simp only [Act.put, List.setIfInBounds_toArray, List.set_cons_zero, List.set_cons_succ, z0t, z0z]
        rfl
      refine z1b (i := 4) (N := some 13) (v := ?_) (a' := ?_) #[true, true, true, true, true, false, false, false, false, false, false, false] rfl rfl (z0x HT_.out (by kernel_rfl)) (fun _ _ _ h => h) (Or.inl ⟨by rfl, ?_⟩) ?_ ?_
      rotate_left
      · intro w'
        go_simp
        with_reducible rfl
      rotate_left
      · simp only [Act.put, List.setIfInBounds_toArray, List.set_cons_zero, List.set_cons_succ, z0t, z0z]
        rfl
      refine z1b (i := 7) (N := some 16) (v := ?_) (a' := ?_) #[true, true, true, true, true, false, false, true, false, false, false, false] rfl rfl (z0x HT_.out (by kernel_rfl)) (fun _ _ _ h => h) (Or.inl ⟨by rfl, ?_⟩) ?_ ?_
      rotate_left
      · intro w'
        go_simp
        with_reducible rfl
      rotate_left
      · simp only [Act.put, List.setIfInBounds_toArray, List.set_cons_zero, List.set_cons_succ, z0t, z0z]
        rfl
      refine z5s (i := 5) (N := some 14) (v := ?_) (a' := ?_) #[true, true, true, true, true, true, false, true, false, false, false, false] rfl rfl (z3j HT_.out HW_.out (by kernel_rfl)) (fun _ _ _ h => h) (Or.inl ⟨by rfl, ?_⟩) hHeld ?_ ?_
      rotate_left
      · rintro w' ⟨s0, s1, s2⟩
        go_simp
        with_reducible rfl
      rotate_left
      · simp only [Act.put, List.setIfInBounds_toArray, List.set_cons_zero, List.set_cons_succ, z0t, z0z]
        rfl
      refine z5s (i := 8) (N := some 17) (v := ?_) (a' := ?_) #[true, true, true, true, true, true, false, true, true, false, false, false] rfl rfl (z3j HT_.out HW_.out (by kernel_rfl)) (fun _ _ _ h => h) (Or.inl ⟨by rfl, ?_⟩) hHeld ?_ ?_
      rotate_left
      · rintro w' ⟨s0, s1, s2⟩
        go_simp
        with_reducible rfl
      rotate_left
      · simp only [Act.put, List.setIfInBounds_toArray, List.set_cons_zero, List.set_cons_succ, z0t, z0z]
        rfl
      refine one_ (i := 6) (N := some 15) #[true, true, true, true, true, true, true, true, true, false, false, false] rfl rfl (z6k HT_.out (by kernel_rfl)) (by decide) (fun K hK => ?_)
      refine goes_ Tryz.func46 (by kernel_rfl) rfl #[.slice A0_1 l0_1.length c0_1] (by rfl) rfl rfl (by (try simp only [List.map_toArray, List.map_cons, List.map_nil]); rfl) ?_
      with_reducible refine (z0j.calls k _ _ l0_1 t245 _ ?side1 ?side2 A18.out).mono ?_
      (case side1 => repeat (exact (Kd.z1q HR0_1.out HB.out)))
      (case side2 => exact HC0_1.out)
      rintro e w' ⟨rfl, ⟨nd, rfl⟩⟩
      refine ⟨_, rfl, ?_⟩
      refine hK.out _ _ ⟨(z0d BK242.out 0).trans rfl, (z0d BK242.out 1).trans rfl, (z0d BK242.out 2).trans rfl⟩ (fun hHeld => ?_)
      clear hK K
      refine norm_ (a' := ?_) ?_ ?_
      rotate_left
      · show Act.put _ (some 15) _ = _
        simp only [Act.put, List.setIfInBounds_toArray, List.set_cons_zero, List.set_cons_succ, z0t, z0z]
        rfl
      refine z1b (i := 9) (N := some 18) (v := ?_) (a' := ?_) #[true, true, true, true, true, true, true, true, true, true, false, false] rfl rfl (z0x HT_.out (by kernel_rfl)) (fun _ _ _ h => h) (Or.inl ⟨by rfl, ?_⟩) ?_ ?_
      rotate_left
      · intro w'
        go_simp
        with_reducible rfl
      rotate_left
      · simp only [Act.put, List.setIfInBounds_toArray, List.set_cons_zero, List.set_cons_succ, z0t, z0z]
        rfl
      refine z1b (i := 10) (N := some 19) (v := ?_) (a' := ?_) #[true, true, true, true, true, true, true, true, true, true, true, false] rfl rfl (z0x HT_.out (by kernel_rfl)) (fun _ _ _ h => h) (Or.inl ⟨by rfl, ?_⟩) ?_ ?_
      rotate_left
      · intro w'
        go_simp
        with_reducible rfl
      rotate_left
      · simp only [Act.put, List.setIfInBounds_toArray, List.set_cons_zero, List.set_cons_succ, z0t, z0z]
        rfl
      refine z1b (i := 11) (N := some 20) (v := ?_) (a' := ?_) #[true, true, true, true, true, true, true, true, true, true, true, true] rfl rfl (z0x HT_.out (by kernel_rfl)) (fun _ _ _ h => h) (Or.inl ⟨by rfl, ?_⟩) ?_ ?_
      rotate_left
      · intro w'
        go_simp
        with_reducible rfl
      rotate_left
      · simp only [Act.put, List.setIfInBounds_toArray, List.set_cons_zero, List.set_cons_succ, z0t, z0z]
        rfl
      refine done_ (z5i HT_.out (by kernel_rfl)) ?_
      try go_wp2
      go_meet
      case rel => exact ⟨_, (decide ((wrap64 (t245 + a0_2)) > 0)), (by rfl), H', ⟨by omega⟩, ⟨by (with_reducible repeat (refine z6s ?_ _)); exact BK242.out⟩, ⟨by repeat ((with_reducible first | exact HB.out | apply z0p))⟩⟩
    clear HC10
    (try clear c1); (try clear p2); (try clear c4); (try clear p6); (try clear c9); (try clear c11); (try clear c16); (try clear c16b0); (try clear hcz12_0); (try clear hcz12_1); (try clear hcz12_2); (try clear hcz14_0); (try clear hcz14_1); (try clear hcz14_2); (try clear hcz6_0); (try clear hcz6_1); (try clear hcz6_2); (try clear hfz12_0); (try clear hfz12_1); (try clear hfz12_2); (try clear hfz14_0); (try clear hfz14_1); (try clear hfz14_2); (try clear hfz6_0); (try clear hfz6_1); (try clear hfz6_2)
    obtain ⟨kq, x20_9, rfl, HA, HJ9, BK242, HB⟩ := hcut
    cases kq with
    | zero => exact absurd HA.out (by simp [z0f.j0])
    | succ kj9 =>
      have H := HA.out
      clear HA
      simp only [z0f.j0] at H
      by_cases c20 : x20_9 = true
      · subst c20
        have H1 : ((z1i.f a0_0 9218868437227405312).bind fun t246 => (some t246)) = some r := by rw [if_pos rfl] at H; exact H
        clear H
        have H := H1
        clear H1
        replace H := Option.bind_eq_some_iff.mp H
        obtain ⟨t246, A210, H⟩ := H
        have A21 := y9.mk A210
        clear A210
        obtain rfl := Option.some.inj H
        have hcz22_0 : wc.cell? ⟨gb242, 0, none⟩ = some (.bool a0_0) := (z0d BK242.out 0).trans rfl
        have hcz22_1 : wc.cell? ⟨gb242, 1, none⟩ = some (.slice A0_1 l0_1.length c0_1) := (z0d BK242.out 1).trans rfl
        have hcz22_2 : wc.cell? ⟨gb242, 2, none⟩ = some (.int .i64 a0_2) := (z0d BK242.out 2).trans rfl
        have hfz22_0 := z0i BK242.out 0
        have hfz22_1 := z0i BK242.out 1
        have hfz22_2 := z0i BK242.out 2
        go_wp2_with (((with_reducible refine z0y (f := 116) rfl ?_); refine z1p (some 23) rfl rfl Tryz.func116 (by kernel_rfl) rfl #[.bool a0_0, .int .u64 9218868437227405312] rfl (by (try simp only [List.map_toArray, List.map_cons, List.map_nil]); rfl) ?_; (with_reducible refine (z1i.calls a0_0 9218868437227405312 t246 _ A21.out).mono ?_); rintro e w23 ⟨rfl, hb⟩; refine ⟨_, rfl, ?_⟩; have n0_ := y9.mk (z1f (g := gb242) (o := .cells #[.bool a0_0, .slice A0_1 l0_1.length c0_1, .int .i64 a0_2] 61 (0, 0)) (by (with_reducible repeat (fail)); exact BK242.out) hb); have n1_ := y9.mk (z0m (by repeat ((with_reducible exact HB.out))) hb); clear BK242; clear HB; have BK242 := n0_; have HB := n1_; clear n0_ n1_; (try clear hb); (try clear hb2); (try clear hk); (try clear hi)))
        go_ret
        exact ⟨by rfl, by repeat ((with_reducible exact HB.out))⟩
      replace c20 := Bool.eq_false_iff.mpr c20
      subst c20
      have H1 : ((z1i.f a0_0 0).bind fun t247 => (some t247)) = some r := by rw [if_neg (show ¬ (false = true) by decide)] at H; exact H
      clear H
      have H := H1
      clear H1
      replace H := Option.bind_eq_some_iff.mp H
      obtain ⟨t247, A240, H⟩ := H
      have A24 := y9.mk A240
      clear A240
      obtain rfl := Option.some.inj H
      have hcz25_0 : wc.cell? ⟨gb242, 0, none⟩ = some (.bool a0_0) := (z0d BK242.out 0).trans rfl
      have hcz25_1 : wc.cell? ⟨gb242, 1, none⟩ = some (.slice A0_1 l0_1.length c0_1) := (z0d BK242.out 1).trans rfl
      have hcz25_2 : wc.cell? ⟨gb242, 2, none⟩ = some (.int .i64 a0_2) := (z0d BK242.out 2).trans rfl
      have hfz25_0 := z0i BK242.out 0
      have hfz25_1 := z0i BK242.out 1
      have hfz25_2 := z0i BK242.out 2
      go_wp2_with (((with_reducible refine z0y (f := 116) rfl ?_); refine z1p (some 26) rfl rfl Tryz.func116 (by kernel_rfl) rfl #[.bool a0_0, .int .u64 0] rfl (by (try simp only [List.map_toArray, List.map_cons, List.map_nil]); rfl) ?_; (with_reducible refine (z1i.calls a0_0 0 t247 _ A24.out).mono ?_); rintro e w26 ⟨rfl, hb⟩; refine ⟨_, rfl, ?_⟩; have n0_ := y9.mk (z1f (g := gb242) (o := .cells #[.bool a0_0, .slice A0_1 l0_1.length c0_1, .int .i64 a0_2] 61 (0, 0)) (by (with_reducible repeat (fail)); exact BK242.out) hb); have n1_ := y9.mk (z0m (by repeat ((with_reducible exact HB.out))) hb); clear BK242; clear HB; have BK242 := n0_; have HB := n1_; clear n0_ n1_; (try clear hb); (try clear hb2); (try clear hk); (try clear hi)))
      go_ret
      exact ⟨by rfl, by repeat ((with_reducible exact HB.out))⟩
  replace c9 := Bool.eq_false_iff.mpr c9
  subst c9
  have H1 : ((z1l.f k l0_1 a0_2 a1 53 (-1074)).bind fun t248 => ((z1i.f a0_0 t248).bind fun t249 => (some t249))) = some r := by rw [if_neg (show ¬ (false = true) by decide)] at H; exact H
  clear H
  have H := H1
  clear H1
  replace H := Option.bind_eq_some_iff.mp H
  obtain ⟨t248, A270, H⟩ := H
  have A27 := y9.mk A270
  clear A270
  replace H := Option.bind_eq_some_iff.mp H
  obtain ⟨t249, A280, H⟩ := H
  have A28 := y9.mk A280
  clear A280
  obtain rfl := Option.some.inj H
  go_enter Tryz.func92, Tryz.ntmps92
  try go_wp2_with (first | ((with_reducible refine z1s (N := 2) rfl ?_); refine z2m ?hg (N := 2) ?hd (cs := #[.bool a0_0, .slice A0_1 l0_1.length c0_1, .int .i64 a0_2]) (t := 61) ?hr ?_; (case hd => rfl); (case hg => rfl); (case hr => (go_simp; done)); intro gb242 hg w29 hbox hb; have n0_ := y9.mk (z0m (by repeat ((with_reducible exact HB.out))) hb); have n1_ := y9.mk (hbox); have n2_ := y9.mk ((by rw [hg]; exact (z0n (by repeat ((with_reducible exact HB.out)))) : w.heap.size ≤ gb242)); have n3_ := y9.mk ((by rw [hg]; exact (z0n (by repeat ((with_reducible exact HB.out)))) : w.heap.size ≤ gb242)); clear HB; have HB := n0_; have BK242 := n1_; have GW242 := n2_; have GE242 := n3_; clear n0_ n1_ n2_ n3_; clear hb hbox hg; have hcz30_0 : w29.cell? ⟨gb242, 0, none⟩ = some (.bool a0_0) := (z0d BK242.out 0).trans rfl; have hcz30_1 : w29.cell? ⟨gb242, 1, none⟩ = some (.slice A0_1 l0_1.length c0_1) := (z0d BK242.out 1).trans rfl; have hcz30_2 : w29.cell? ⟨gb242, 2, none⟩ = some (.int .i64 a0_2) := (z0d BK242.out 2).trans rfl; have hfz30_0 := z0i BK242.out 0; have hfz30_1 := z0i BK242.out 1; have hfz30_2 := z0i BK242.out 2) | ((with_reducible refine z0y (f := 93) rfl ?_); refine z1p (some 6) rfl rfl Tryz.func93 (by kernel_rfl) rfl #[.agg #[.bool a0_0, .slice A0_1 l0_1.length c0_1, .int .i64 a0_2]] rfl (by (try simp only [List.map_toArray, List.map_cons, List.map_nil]); rfl) ?_; (with_reducible refine (z1m.calls a0_0 _ _ l0_1 a0_2 false _ ?side1 ?side2 A3.out).mono ?_); (case side1 => repeat (exact (Kd.z1q HR0_1.out HB.out))); (case side2 => exact HC0_1.out); rintro e w31 ⟨rfl, hb⟩; refine ⟨_, rfl, ?_⟩; have n0_ := y9.mk (z1f (g := gb242) (o := .cells #[.bool a0_0, .slice A0_1 l0_1.length c0_1, .int .i64 a0_2] 61 (0, 0)) (by (with_reducible repeat (fail)); exact BK242.out) hb); have n1_ := y9.mk (z0m (by repeat ((with_reducible exact HB.out))) hb); clear BK242; clear HB; have BK242 := n0_; have HB := n1_; clear n0_ n1_; (try clear hb); (try clear hb2); (try clear hk); (try clear hi); have hcz32_0 : w31.cell? ⟨gb242, 0, none⟩ = some (.bool a0_0) := (z0d BK242.out 0).trans rfl; have hcz32_1 : w31.cell? ⟨gb242, 1, none⟩ = some (.slice A0_1 l0_1.length c0_1) := (z0d BK242.out 1).trans rfl; have hcz32_2 : w31.cell? ⟨gb242, 2, none⟩ = some (.int .i64 a0_2) := (z0d BK242.out 2).trans rfl; have hfz32_0 := z0i BK242.out 0; have hfz32_1 := z0i BK242.out 1; have hfz32_2 := z0i BK242.out 2) | ((with_reducible refine z0y (f := 115) rfl ?_); refine z1p (some 8) rfl rfl Tryz.func115 (by kernel_rfl) rfl #[.agg #[.bool a0_0, .slice A0_1 l0_1.length c0_1, .int .i64 a0_2]] rfl (by (try simp only [List.map_toArray, List.map_cons, List.map_nil]); rfl) ?_; (with_reducible refine (z2h.calls k a0_0 _ _ l0_1 a0_2 false _ ?side1 ?side2 A8.out).mono ?_); (case side1 => repeat (exact (Kd.z1q HR0_1.out HB.out))); (case side2 => exact HC0_1.out); rintro e w33 ⟨rfl, hb⟩; refine ⟨_, rfl, ?_⟩; have n0_ := y9.mk (z1f (g := gb242) (o := .cells #[.bool a0_0, .slice A0_1 l0_1.length c0_1, .int .i64 a0_2] 61 (0, 0)) (by (with_reducible repeat (fail)); exact BK242.out) hb); have n1_ := y9.mk (z0m (by repeat ((with_reducible exact HB.out))) hb); clear BK242; clear HB; have BK242 := n0_; have HB := n1_; clear n0_ n1_; (try clear hb); (try clear hb2); (try clear hk); (try clear hi)))
  have n0_ := y9.mk (z5c BK242.out)
  have n1_ := y9.mk (z2y HB.out)
  clear BK242
  clear HB
  have BK242 := n0_
  have HB := n1_
  clear n0_ n1_
  refine z6f (n := 10) (S := fun w' => w'.cell? ⟨gb242, 0, none⟩ = some (.bool a0_0) ∧ w'.cell? ⟨gb242, 1, none⟩ = some (.slice A0_1 l0_1.length c0_1) ∧ w'.cell? ⟨gb242, 2, none⟩ = some (.int .i64 a0_2)) (ds := []) #[false, false, false, false, false, false, false, false, false, false] (by kernel_rfl) rfl rfl ⟨(z0d BK242.out 0).trans rfl, (z0d BK242.out 1).trans rfl, (z0d BK242.out 2).trans rfl⟩ (fun hHeld => ?_); refine z3x z0f.tab7 z0f.bits7 (fun HT_ HW_ => ?_)
  generalize w33.drew = w34 at BK242 HB hHeld ⊢
  refine z1b (i := 0) (N := some 27) (v := ?_) (a' := ?_) #[true, false, false, false, false, false, false, false, false, false] rfl rfl (z0x HT_.out (by kernel_rfl)) (fun _ _ _ h => h) (Or.inl ⟨by rfl, ?_⟩) ?_ ?_
  rotate_left
  · intro w'
    go_simp
    with_reducible rfl
  rotate_left
  · simp only [Act.put, List.setIfInBounds_toArray, List.set_cons_zero, List.set_cons_succ, z0t, z0z]
    rfl
  refine z1b (i := 2) (N := some 29) (v := ?_) (a' := ?_) #[true, false, true, false, false, false, false, false, false, false] rfl rfl (z0x HT_.out (by kernel_rfl)) (fun _ _ _ h => h) (Or.inl ⟨by rfl, ?_⟩) ?_ ?_
  rotate_left
  · intro w'
    go_simp
    with_reducible rfl
  rotate_left
  · simp only [Act.put, List.setIfInBounds_toArray, List.set_cons_zero, List.set_cons_succ, z0t, z0z]
    rfl
  refine z1b (i := 4) (N := some 31) (v := ?_) (a' := ?_) #[true, false, true, false, true, false, false, false, false, false] rfl rfl (z0x HT_.out (by kernel_rfl)) (fun _ _ _ h => h) (Or.inl ⟨by rfl, ?_⟩) ?_ ?_
  rotate_left
  · intro w'
    go_simp
    with_reducible rfl
  rotate_left
  · simp only [Act.put, List.setIfInBounds_toArray, List.set_cons_zero, List.set_cons_succ, z0t, z0z]
    rfl
  refine z1b (i := 6) (N := some 33) (v := ?_) (a' := ?_) #[true, false, true, false, true, false, true, false, false, false] rfl rfl (z0x HT_.out (by kernel_rfl)) (fun _ _ _ h => h) (Or.inl ⟨by rfl, ?_⟩) ?_ ?_
  rotate_left
  · intro w'
    go_simp
    with_reducible rfl
  rotate_left
  · simp only [Act.put, List.setIfInBounds_toArray, List.set_cons_zero, List.set_cons_succ, z0t, z0z]
    rfl
  refine z5s (i := 1) (N := some 28) (v := ?_) (a' := ?_) #[true, true, true, false, true, false, true, false, false, false] rfl rfl (z3j HT_.out HW_.out (by kernel_rfl)) (fun _ _ _ h => h) (Or.inl ⟨by rfl, ?_⟩) hHeld ?_ ?_
  rotate_left
  · rintro w' ⟨s0, s1, s2⟩
    go_simp
    with_reducible rfl
  rotate_left
  · simp only [Act.put, List.setIfInBounds_toArray, List.set_cons_zero, List.set_cons_succ, z0t, z0z]
    rfl
  refine z5s (i := 3) (N := some 30) (v := ?_) (a' := ?_) #[true, true, true, true, true, false, true, false, false, false] rfl rfl (z3j HT_.out HW_.out (by kernel_rfl)) (fun _ _ _ h => h) (Or.inl ⟨by rfl, ?_⟩) hHeld ?_ ?_
  rotate_left
  · rintro w' ⟨s0, s1, s2⟩
    go_simp
    with_reducible rfl
  rotate_left
  · simp only [Act.put, List.setIfInBounds_toArray, List.set_cons_zero, List.set_cons_succ, z0t, z0z]
    rfl
  refine z5s (i := 5) (N := some 32) (v := ?_) (a' := ?_) #[true, true, true, true, true, true, true, false, false, false] rfl rfl (z3j HT_.out HW_.out (by kernel_rfl)) (fun _ _ _ h => h) (Or.inl ⟨by rfl, ?_⟩) hHeld ?_ ?_
  rotate_left
  · rintro w' ⟨s0, s1, s2⟩
    go_simp
    with_reducible rfl
  rotate_left
  · simp only [Act.put, List.setIfInBounds_toArray, List.set_cons_zero, List.set_cons_succ, z0t, z0z]
    rfl
  refine one_ (i := 7) (N := some 34) #[true, true, true, true, true, true, true, true, false, false] rfl rfl (z6k HT_.out (by kernel_rfl)) (by decide) (fun K hK => ?_)
  refine goes_ Tryz.func117 (by kernel_rfl) rfl #[.slice A0_1 l0_1.length c0_1, .int .i64 a0_2, .bool a1, .int .i64 53, .int .i64 (-1074)] (by rfl) rfl rfl (by (try simp only [List.map_toArray, List.map_cons, List.map_nil]); rfl) ?_
  with_reducible refine (z1l.calls k _ _ l0_1 a0_2 a1 53 (-1074) t248 _ ?side1 ?side2 A27.out).mono ?_
  (case side1 => repeat (exact (Kd.z1q HR0_1.out HB.out)))
  (case side2 => exact HC0_1.out)
  rintro e w35 ⟨rfl, hb⟩
  refine ⟨_, rfl, ?_⟩
  have n0_ := y9.mk (z1f (g := gb242) (o := .cells #[.bool a0_0, .slice A0_1 l0_1.length c0_1, .int .i64 a0_2] 61 (0, 0)) (by (with_reducible repeat (fail)); exact BK242.out) hb)
  have n1_ := y9.mk (z0m (by repeat ((with_reducible exact HB.out))) hb)
  clear BK242
  clear HB
  have BK242 := n0_
  have HB := n1_
  clear n0_ n1_
  (try clear hb)
  (try clear hb2)
  (try clear hk)
  (try clear hi)
  refine hK.out _ _ ⟨(z0d BK242.out 0).trans rfl, (z0d BK242.out 1).trans rfl, (z0d BK242.out 2).trans rfl⟩ (fun hHeld => ?_)
  clear hK K
  refine norm_ (a' := ?_) ?_ ?_
  rotate_left
  · show Act.put _ (some 34) _ = _
    simp only [Act.put, List.setIfInBounds_toArray, List.set_cons_zero, List.set_cons_succ, z0t, z0z]
    rfl
  refine one_ (i := 8) (N := some 35) #[true, true, true, true, true, true, true, true, true, false] rfl rfl (z6k HT_.out (by kernel_rfl)) (by decide) (fun K hK => ?_)
  refine goes_ Tryz.func116 (by kernel_rfl) rfl #[.bool a0_0, .int .u64 t248] (by rfl) rfl rfl (by (try simp only [List.map_toArray, List.map_cons, List.map_nil]); rfl) ?_
  with_reducible refine (z1i.calls a0_0 t248 t249 _ A28.out).mono ?_
  rintro e w36 ⟨rfl, hb⟩
  refine ⟨_, rfl, ?_⟩
  have n0_ := y9.mk (z1f (g := gb242) (o := .cells #[.bool a0_0, .slice A0_1 l0_1.length c0_1, .int .i64 a0_2] 61 (0, 0)) (by (with_reducible repeat (fail)); exact BK242.out) hb)
  have n1_ := y9.mk (z0m (by repeat ((with_reducible exact HB.out))) hb)
  clear BK242
  clear HB
  have BK242 := n0_
  have HB := n1_
  clear n0_ n1_
  (try clear hb)
  (try clear hb2)
  (try clear hk)
  (try clear hi)
  refine hK.out _ _ ⟨(z0d BK242.out 0).trans rfl, (z0d BK242.out 1).trans rfl, (z0d BK242.out 2).trans rfl⟩ (fun hHeld => ?_)
  clear hK K
  refine norm_ (a' := ?_) ?_ ?_
  rotate_left
  · show Act.put _ (some 35) _ = _
    simp only [Act.put, List.setIfInBounds_toArray, List.set_cons_zero, List.set_cons_succ, z0t, z0z]
    rfl
  refine z1b (i := 9) (N := some 4) (v := ?_) (a' := ?_) #[true, true, true, true, true, true, true, true, true, true] rfl rfl (z0x HT_.out (by kernel_rfl)) (fun _ _ _ h => h) (Or.inl ⟨by rfl, ?_⟩) ?_ ?_
  rotate_left
  · intro w'
    go_simp
    with_reducible rfl
  rotate_left
  · simp only [Act.put, List.setIfInBounds_toArray, List.set_cons_zero, List.set_cons_succ, z0t, z0z]
    rfl
  refine done_ (z5i HT_.out (by kernel_rfl)) ?_
  try go_wp2
  go_ret
  exact ⟨by rfl, by repeat ((with_reducible exact HB.out))⟩
def z3c.f (k : Nat) (a0_0 : Bool) (l0_1 : List Int) (a0_2 : Int) : Option (Int) := (z0f.f k a0_0 l0_1 a0_2 false).bind fun t251 => (some t251)
set_option maxHeartbeats 8000000 in
set_option maxRecDepth 100000 in
theorem z3c.calls (k : Nat) (a0_0 : Bool) (A0_1 : Option Addr) (c0_1 : Nat) (l0_1 : List Int) (a0_2 : Int) (r : Int) (w : World) (hr0_1 : Kd.C (Kd.int .u64) w A0_1 l0_1.length l0_1) (hc0_1 : l0_1.length ≤ c0_1) (h : z3c.f k a0_0 l0_1 a0_2 = some r) :
    Calls Tryz.prog 63 #[.agg #[.bool a0_0, .slice A0_1 l0_1.length c0_1, .int .i64 a0_2]] w fun e w' => e = .returned (.int .u64 r) ∧ Below w.heap.size w w' := by
  have hu61 := Tryz.underlying61
  have HR0_1 := y9.mk hr0_1
  have HC0_1 := y9.mk hc0_1
  clear hr0_1 hc0_1
  have HB := y9.mk (Below.refl w.heap.size w)
  have H : ((z0f.f k a0_0 l0_1 a0_2 false).bind fun t251 => (some t251)) = some r := h
  clear h
  replace H := Option.bind_eq_some_iff.mp H
  obtain ⟨t251, A20, H⟩ := H
  have A2 := y9.mk A20
  clear A20
  obtain rfl := Option.some.inj H
  go_enter Tryz.func63, Tryz.ntmps63
  go_wp2_with (first | ((with_reducible refine z1s (N := 1) rfl ?_); refine z2m ?hg (N := 1) ?hd (cs := #[.bool a0_0, .slice A0_1 l0_1.length c0_1, .int .i64 a0_2]) (t := 61) ?hr ?_; (case hd => rfl); (case hg => rfl); (case hr => (go_simp; done)); intro gb250 hg w3 hbox hb; have n0_ := y9.mk (z0m (by repeat ((with_reducible exact HB.out))) hb); have n1_ := y9.mk (hbox); have n2_ := y9.mk ((by rw [hg]; exact (z0n (by repeat ((with_reducible exact HB.out)))) : w.heap.size ≤ gb250)); have n3_ := y9.mk ((by rw [hg]; exact (z0n (by repeat ((with_reducible exact HB.out)))) : w.heap.size ≤ gb250)); clear HB; have HB := n0_; have BK250 := n1_; have GW250 := n2_; have GE250 := n3_; clear n0_ n1_ n2_ n3_; clear hb hbox hg; have hcz4_0 : w3.cell? ⟨gb250, 0, none⟩ = some (.bool a0_0) := (z0d BK250.out 0).trans rfl; have hcz4_1 : w3.cell? ⟨gb250, 1, none⟩ = some (.slice A0_1 l0_1.length c0_1) := (z0d BK250.out 1).trans rfl; have hcz4_2 : w3.cell? ⟨gb250, 2, none⟩ = some (.int .i64 a0_2) := (z0d BK250.out 2).trans rfl; have hfz4_0 := z0i BK250.out 0; have hfz4_1 := z0i BK250.out 1; have hfz4_2 := z0i BK250.out 2) | ((with_reducible refine z0y (f := 92) rfl ?_); refine z1p (some 4) rfl rfl Tryz.func92 (by kernel_rfl) rfl #[.agg #[.bool a0_0, .slice A0_1 l0_1.length c0_1, .int .i64 a0_2], .bool false] rfl (by (try simp only [List.map_toArray, List.map_cons, List.map_nil]); rfl) ?_; (with_reducible refine (z0f.calls k a0_0 _ _ l0_1 a0_2 false t251 _ ?side1 ?side2 A2.out).mono ?_); (case side1 => repeat (exact (Kd.z1q HR0_1.out HB.out))); (case side2 => exact HC0_1.out); rintro e w5 ⟨rfl, hb⟩; refine ⟨_, rfl, ?_⟩; have n0_ := y9.mk (z1f (g := gb250) (o := .cells #[.bool a0_0, .slice A0_1 l0_1.length c0_1, .int .i64 a0_2] 61 (0, 0)) (by (with_reducible repeat (fail)); exact BK250.out) hb); have n1_ := y9.mk (z0m (by repeat ((with_reducible exact HB.out))) hb); clear BK250; clear HB; have BK250 := n0_; have HB := n1_; clear n0_ n1_; (try clear hb); (try clear hb2); (try clear hk); (try clear hi)))
  go_ret
  exact ⟨by rfl, by repeat ((with_reducible exact HB.out))⟩
end Go.Proofs.YtjpiplplohapnaaGreatDoor.PText
