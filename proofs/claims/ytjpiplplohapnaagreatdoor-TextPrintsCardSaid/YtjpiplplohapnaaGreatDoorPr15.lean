/- Part 15 of the proof: Fw, AHx, Up, Uw, Uv, Uz, Fv, Fd, Met, Mc. -/
import Derived.Test.YtjpiplplohapnaaGreatDoorPr14
import Derived.LoopTactic
import Derived.LaidEqlPtr
import Derived.Deep.CutBlock
import Derived.Deep.DeepCutAuto
import Derived.Laws.FloatArith
import Derived.WalkLawsBesides
import Derived.WalkSpells
import Derived.WalkMore
import Derived.Outline
import Derived.Lib.Hide
import Derived.Test.YtjpiplplohapnaaGreatDoorTie
import Derived.ProofKit
import Derived.LaidMore
import Derived.OpenShut
import Derived.Stop.Joined
import Derived.Stop.LaidErr
import Derived.Deep.DeepLaidRun
set_option linter.unusedVariables false
set_option linter.unusedSimpArgs false
namespace Go.Proofs.YtjpiplplohapnaaGreatDoor
open Go.RowKit Go.Sort Go.Proofs.YtjpiplplohapnaaGreatDoorW.PrintWords Dc
set_option maxRecDepth 100000 in
set_option maxHeartbeats 4000000 in
theorem fmt_walk (w : World) (B g nd : Nat) (d : Nat → Nat) (v sv : Value) (ng : Bool) (dp : Int) (p c : Nat) (hO : Out B w g nd d v [] w) (hnd : nd ≤ 800) (hdp1 : -100000 ≤ dp) (hdp2 : dp ≤ 100000) (hp : p ≤ 30) (hd : ∀ i, i < nd → d i < 256)
    (hsv : 0 < nd → sv = .slice (some ⟨g, 0, none⟩) c c ∧ nd ≤ c ∧ c ≤ 800) (hsv0 : 0 < dp → 0 < nd) :
    Calls Tryz.prog 122 #[v, .bool ng, sv, .int .i64 dp, .int .i64 nd, .int .i64 p, .int .u8 102, .bool false] w (FePost B w g nd d (efT ng d nd dp p)) := by
  have HO := Lib.hid hO
  obtain ⟨l1, hl1⟩ : ∃ l1 : List UInt8, l1 = if ng then [45] else [] := ⟨_, rfl⟩
  obtain ⟨l2, hl2⟩ : ∃ l2 : List UInt8, l2 = if 0 < dp then seg d (min nd dp.toNat) ++ List.replicate (dp.toNat - min nd dp.toNat) 48 else [48] := ⟨_, rfl⟩
  have hT : ∃ T, T = efT ng d nd dp p := ⟨_, rfl⟩
  obtain ⟨T, hT⟩ := hT
  rw [← hT]
  have HT : Hid (T = l1 ++ (l2 ++ frT d nd dp p)) := Lib.hid (by rw [hT, hl1, hl2]; rfl)
  have HL1 := Lib.hid hl1
  have HL2 := Lib.hid hl2
  have HS := Lib.hid hsv
  have HD := Lib.hid hd
  have HR : Hid (nd ≤ 800 ∧ p ≤ 30 ∧ (0 < dp → 0 < nd)) := Lib.hid ⟨hnd, hp, hsv0⟩
  clear hO hl1 hl2 hT hsv hsv0 hd
  go_enter Tryz.func122, Tryz.ntmps122
  go_upto_if 178 with (fail)
  go_cut [0] (fun v0 w' => Hid (Out B w g nd d v0 l1 w'))
  case first =>
    cases ng
    · go_wp2_with fail
      go_meet
      case rel => rw [show l1 = [] from HL1.out]; exact HO
    · go_wp2_with (at_builtin; refine step_app rfl (.tmp 179) (.tmp 180) rfl HO.out rfl 45 45 rfl rfl (by decide) ?_; intro v1 w1 HO1)
      go_meet
      case rel => rw [show l1 = [45] from HL1.out]; exact HO1
  case rest =>
    have HO := hcut
    clear hcut
    go_step
    go_upto_if 183 with (fail)
    go_cut [0] (fun v0 w' => Hid (Out B w g nd d v0 (l1 ++ l2) w'))
    case first =>
      have HLen : Hid (l1.length ≤ 1) := Lib.hid (by rw [HL1.out]; split <;> simp)
      by_cases h0 : 0 < dp
      · obtain ⟨D, hD⟩ : ∃ D : Nat, dp = D := ⟨dp.toNat, by omega⟩
        subst hD
        have hn := HR.out.2.2 h0
        obtain ⟨hsv, hc1, hc2⟩ := HS.out hn
        subst hsv
        have hl2 := HL2.out
        rw [if_pos h0, Int.toNat_natCast] at hl2
        obtain ⟨m, hm⟩ : ∃ m, m = min nd D := ⟨_, rfl⟩
        obtain ⟨z, hz⟩ : ∃ z, z = D - m := ⟨_, rfl⟩
        rw [← hm, ← hz] at hl2
        have HL2 := Lib.hid hl2
        have e1 : min (nd : Int) (D : Int) = (m : Int) := by omega
        have e2 : (D : Int) - (m : Int) = (z : Int) := by omega
        have e2b : IntKind.i64.wrap ((D : Int) - (m : Int)) = (z : Int) := by rw [Go.IntKind.wrap_i64]; omega
        have e2c : wrap64 (z : Int) = (z : Int) := by unfold wrap64; omega
        have e3 : (m : Int) ≤ c := by omega
        have HB : Hid (m ≤ nd ∧ m ≤ 800 ∧ z ≤ 100000 ∧ nd ≤ c ∧ c ≤ 800) := Lib.hid ⟨by omega, by omega, by omega, hc1, hc2⟩
        clear hl2 hm hz hn hdp1 hdp2 HL1 hc1
        go_wp2_with fail
        go_loopg [0, 191] m (fun gn v0 v191 w' => ∃ i : Nat, v191 = .int .i64 i ∧ Hid (gn + i = m) ∧ Hid (Out B w g nd d v0 (l1 ++ seg d i) w'))
        case atStart => exact ⟨0, rfl, Lib.hid rfl, by rw [show l1 ++ seg d 0 = l1 from List.append_nil _]; exact HO⟩
        case round =>
          obtain ⟨i, rfl, hg, hO⟩ := hrel
          by_cases him : i < m
          · have g1 : (i : Int) < m := by omega
            have g2 : decide ((i : Int) < (m : Int)) = true := decide_eq_true g1
            have hin : i < nd := by have := HB.out; omega
            have hlt := HD.out i hin
            have cb := hO.out.cell i hin
            obtain ⟨x, hx⟩ : ∃ x, x = d i := ⟨_, rfl⟩
            rw [← hx] at cb hlt
            have HX : Hid (((UInt8.ofNat x).toNat : Int) = (x : Int)) := Lib.hid (by rw [UInt8.toNat_ofNat']; omega)
            have HLn : Hid ((l1 ++ seg d i).length ≤ 1000000) := Lib.hid (by rw [List.length_append, seg_length]; have := HLen.out; have := HB.out; omega)
            have HXX : Hid (x = d i ∧ gk - 1 < gk ∧ gk - 1 + (i + 1) = m) := Lib.hid ⟨hx, by have := hg.out; omega, by have := hg.out; omega⟩
            clear hlt hx hg him hin
            go_wp2_with (at_builtin; refine step_app rfl (.tmp 195) (.tmp 197) rfl hO.out rfl (UInt8.ofNat x) (x : Int) HX.out rfl HLn.out ?_; intro v1 w1 HO1)
            go_roundg (gk - 1)
            case measure => exact HXX.out.2.1
            case rel => exact ⟨i + 1, by first | rfl | go_num, Lib.hid HXX.out.2.2, by rw [seg, ← HXX.out.1, ← List.append_assoc]; exact HO1⟩
          · have hi : i = m := by have := hg.out; omega
            subst hi
            have g1 : ¬ (i : Int) < i := by omega
            have g2 : decide ((i : Int) < (i : Int)) = false := decide_eq_false g1
            clear hg him
            go_wp2_with fail
            clear g1 g2 e1 e3
            go_loopg [0, 203] z (fun gn v0 v203 w' => ∃ k : Nat, v203 = .int .i64 k ∧ Hid (gn + k = z) ∧ Hid (Out B w g nd d v0 (l1 ++ seg d i ++ List.replicate k 48) w'))
            case atStart => exact ⟨0, rfl, Lib.hid rfl, by rw [show l1 ++ seg d i ++ List.replicate 0 48 = l1 ++ seg d i from List.append_nil _]; exact hO⟩
            case round =>
              obtain ⟨k, rfl, hg2, hO2⟩ := hrel
              by_cases hkz : k < z
              · have g3 : (k : Int) < z := by omega
                have g4 : decide ((k : Int) < (z : Int)) = true := decide_eq_true g3
                have HLn : Hid ((l1 ++ seg d i ++ List.replicate k 48).length ≤ 1000000) := Lib.hid (by rw [List.length_append, List.length_append, seg_length, List.length_replicate]; have := HLen.out; have := HB.out; omega)
                have HXX : Hid (gk - 1 < gk ∧ gk - 1 + (k + 1) = z) := Lib.hid ⟨by have := hg2.out; omega, by have := hg2.out; omega⟩
                have x1 : wrap64 ((k : Int) + 1) = (k : Int) + 1 := by have := HB.out; unfold wrap64; omega
                clear hg2 hkz
                go_wp2_with (at_builtin; refine step_app rfl (.tmp 205) (.tmp 206) rfl hO2.out rfl 48 48 rfl rfl HLn.out ?_; intro v1 w1 HO1)
                go_roundg (gk - 1)
                case measure => exact HXX.out.1
                case rel => exact ⟨k + 1, by first | rfl | go_num, Lib.hid HXX.out.2, by rw [List.replicate_succ', ← List.append_assoc]; exact HO1⟩
              · have hk : k = z := by have := hg2.out; omega
                subst hk
                have g3 : ¬ (k : Int) < k := by omega
                have g4 : decide ((k : Int) < (k : Int)) = false := decide_eq_false g3
                clear hg2 hkz
                go_wp2_with fail
                go_meet
                case rel => rw [HL2.out, ← List.append_assoc]; exact hO2
      · have hl2 := HL2.out
        rw [if_neg h0] at hl2
        have HL2 := Lib.hid hl2
        have g1 : ¬ (0 : Int) < dp := h0
        have g2 : decide ((0 : Int) < dp) = false := decide_eq_false g1
        have HLn : Hid (l1.length ≤ 1000000) := Lib.hid (by have := HLen.out; omega)
        clear hl2
        go_wp2_with (at_builtin; refine step_app rfl (.tmp 209) (.tmp 210) rfl HO.out rfl 48 48 rfl rfl HLn.out ?_; intro v1 w1 HO1)
        go_meet
        case rel => rw [HL2.out]; exact HO1
    case rest =>
      have HLn : Hid ((l1 ++ l2).length ≤ 200000) := Lib.hid (by
        rw [List.length_append]
        have h1 : l1.length ≤ 1 := by rw [HL1.out]; split <;> simp
        have h2 : l2.length ≤ 100001 := by
          rw [HL2.out]
          split
          · rw [List.length_append, seg_length, List.length_replicate]; omega
          · simp
        omega)
      have HT2 : Hid (T = (l1 ++ l2) ++ frT d nd dp p) := Lib.hid (by rw [HT.out, List.append_assoc])
      go_step
      exact fmt_frac _ B g nd d _ sv ng dp p c (l1 ++ l2) w hcut hnd hdp1 hdp2 hp HD HS HLn T HT2 _
end Go.Proofs.YtjpiplplohapnaaGreatDoor
namespace Go.Proofs.YtjpiplplohapnaaGreatDoor
open Go.RowKit Go.Proofs.YtjpiplplohapnaaGreatDoorW.PrintWords
namespace Ah
def up3 (m : Nat) : Prop := m % 4 = 3 ∨ (m % 4 = 2 ∧ m / 4 % 2 = 1)
instance (m : Nat) : Decidable (up3 m) := inferInstanceAs (Decidable (_ ∨ _))
end Ah
open Ah
theorem and1_bits (x : Nat) (hx : x < 18446744073709551616) : Go.bits .and .u64 (x : Int) 1 = ((x % 2 : Nat) : Int) := by
  have := Go.u64_and_nat x 1 hx (by omega)
  rw [show ((1 : Nat) : Int) = 1 from rfl] at this
  rw [this]
  exact congrArg _ (Nat.and_two_pow_sub_one_eq_mod x 1)
theorem or1_nat (h y : Nat) (hy : y < 2) : h ||| y = if y = 1 then h / 2 * 2 + 1 else h := by
  by_cases h1 : y = 1
  · subst h1
    rw [if_pos rfl]
    have e : h = h / 2 * 2 + h % 2 := by omega
    have e2 : h / 2 * 2 ||| h % 2 = h / 2 * 2 + h % 2 := Go.nat_join1 _ _ (by omega) (by omega)
    rcases Nat.mod_two_eq_zero_or_one h with h0 | h0
    · rw [h0] at e
      conv => lhs; rw [e]
      exact Go.nat_join1 _ _ (by omega) (by omega)
    · rw [h0] at e e2
      conv => lhs; rw [e, ← e2, Nat.or_assoc]
      rw [show (1 ||| 1 : Nat) = 1 from rfl]
      exact Go.nat_join1 _ _ (by omega) (by omega)
  · rw [if_neg h1, show y = 0 by omega, Nat.or_zero]
structure LaidB (w : World) : Prop where
  laid : Laid w
  b5 : ∃ cs t, w.heap[5]? = some (.cells cs t (0, 0))
  b6 : ∃ cs t, w.heap[6]? = some (.cells cs t (0, 0))
theorem LaidB.below {w w' : World} (h : LaidB w) (hb : Below w.heap.size w w') : LaidB w' := by
  have hs := h.laid.size
  obtain ⟨c5, t5, h5⟩ := h.b5
  obtain ⟨c6, t6, h6⟩ := h.b6
  exact ⟨h.laid.below hb, ⟨c5, t5, (hb.block 5 (by omega)).trans h5⟩, ⟨c6, t6, (hb.block 6 (by omega)).trans h6⟩⟩
end Go.Proofs.YtjpiplplohapnaaGreatDoor
namespace Go.Proofs.YtjpiplplohapnaaGreatDoor.Us
open Nr
def bln (d : Nat) : Nat := if d = 0 then 0 else d.log2 + 1
theorem bln_spec {d : Nat} (h : d ≠ 0) : 2 ^ (bln d - 1) ≤ d ∧ d < 2 ^ bln d ∧ 1 ≤ bln d := by
  unfold bln
  rw [if_neg h]
  exact ⟨Nat.log2_self_le h, Nat.lt_log2_self, by omega⟩
def ex : Nat := 1074
theorem bln_le {d k : Nat} (h : d < 2 ^ k) : bln d ≤ k := by
  by_cases h0 : d = 0
  · subst h0; unfold bln; simp
  · have := bln_spec h0
    have h2 : 2 ^ (bln d - 1) < 2 ^ k := Nat.lt_of_le_of_lt this.1 h
    have h3 := (Nat.pow_lt_pow_iff_right (by decide : 1 < 2)).1 h2
    omega
end Go.Proofs.YtjpiplplohapnaaGreatDoor.Us
namespace Go.Proofs.YtjpiplplohapnaaGreatDoor
open Go.RowKit Go.Proofs.YtjpiplplohapnaaGreatDoorW.PrintWords Nr Us
theorem or_one (v : Nat) (hv : v < 18446744073709551616) : Go.bits .or .u64 (v : Int) 1 = ((v / 2 * 2 + 1 : Nat) : Int) := by
  have := Go.u64_or_nat v 1 hv (by omega)
  rw [show ((1 : Nat) : Int) = 1 from rfl] at this
  rw [this, or1_nat _ _ (by decide), if_pos rfl]
theorem or_zero64 (v : Nat) (hv : v < 18446744073709551616) : Go.bits .or .u64 (v : Int) 0 = (v : Int) := by
  have := Go.u64_or_nat v 0 hv (by omega)
  rw [show ((0 : Nat) : Int) = 0 from rfl, Nat.or_zero] at this
  exact this
theorem and63 (s : Nat) (hs : s < 64) : Go.bits .and .i64 (s : Int) 63 = (s : Int) := by
  have key : ∀ s : Fin 64, Go.bits .and .i64 (s.val : Int) 63 = (s.val : Int) := by decide +kernel
  exact key ⟨s, hs⟩
theorem bitLenAux_eq : ∀ (f x : Nat), x < 2 ^ f → Lib.bitLenAux f x = bln x
  | 0, x, h => by
    have : x = 0 := by simpa using h
    subst this; rfl
  | f + 1, x, h => by
    rw [Lib.bitLenAux]
    by_cases h0 : x = 0
    · subst h0; rfl
    · rw [if_neg h0, bitLenAux_eq f (x / 2) (by rw [Nat.pow_succ] at h; omega)]
      unfold bln
      rw [if_neg h0]
      by_cases h1 : x / 2 = 0
      · rw [if_pos h1]
        have : x = 1 := by omega
        subst this; rfl
      · rw [if_neg h1, Nat.log2_def x, if_pos (by omega)]
        omega
theorem bitLen_eq (x : Nat) (h : x < 18446744073709551616) : Lib.bitLen x = bln x := bitLenAux_eq 64 x (by have : (2 : Nat) ^ 64 = 18446744073709551616 := by decide
                                                                                                           omega)
theorem log2_f (p : Int) (h1 : -100000 < p) (h2 : p < 100000) : PText.strconv_log2Pow10.f p = some (lp p) := by
  unfold PText.strconv_log2Pow10.f lp
  rw [show wrap64 (p * 108853) = p * 108853 by unfold wrap64; omega]
theorem lp_range (p : Int) (h1 : -400 ≤ p) (h2 : p ≤ 400) : -1400 ≤ lp p ∧ lp p ≤ 1400 := by unfold lp; omega
theorem round_f (u : Nat) (h : u < 18446744073709551610) : PText.strconv_unrounded_round.f (u : Int) = some ((rnd u : Nat) : Int) := by
  unfold PText.strconv_unrounded_round.f rnd
  have e1 : (u : Int) / 4 = ((u / 4 : Nat) : Int) := by omega
  rw [e1, and1_bits _ (by omega), IntWalk.u64_in ((u : Int) + 1) (by omega), IntWalk.u64_in _ (by omega)]
  congr 1
end Go.Proofs.YtjpiplplohapnaaGreatDoor
namespace Go.Proofs.YtjpiplplohapnaaGreatDoor
open Go.RowKit Go.Proofs.YtjpiplplohapnaaGreatDoorW.PrintWords Go.Proofs.YtjpiplplohapnaaGreatDoorW.PrintMore Nr Us
attribute [local go_sem] max2_int min2_int
theorem flat_two {α β : Type} (f g : α → β) : ∀ (l : List α) (i : Nat), (l.flatMap fun x => [f x, g x])[2 * i]? = (l[i]?).map f ∧ (l.flatMap fun x => [f x, g x])[2 * i + 1]? = (l[i]?).map g
  | [], i => by simp
  | x :: l, 0 => by simp
  | x :: l, i + 1 => by
    have := flat_two f g l i
    rw [List.flatMap_cons, show 2 * (i + 1) = 2 * i + 2 by omega]
    show ((f x :: g x :: (l.flatMap fun x => [f x, g x]))[2 * i + 2]? = _) ∧ ((f x :: g x :: (l.flatMap fun x => [f x, g x]))[2 * i + 2 + 1]? = _)
    exact this
theorem p10_row {w : World} (h : Laid w) {i : Nat} {r : Nat × Nat} (hi : Pinned.pow10Rows[i]? = some r) : w.cell? ⟨11, i * 2, none⟩ = some (.int .u64 r.1) ∧ w.cell? ⟨11, i * 2 + 1, none⟩ = some (.int .u64 r.2) := by
  have key := flat_two (fun x : Nat × Nat => Value.int .u64 x.1) (fun x : Nat × Nat => Value.int .u64 x.2) Pinned.pow10Rows i
  rw [hi, Nat.mul_comm 2 i] at key
  constructor
  · rw [h.p10Cell, List.getElem?_toArray]; exact key.1
  · rw [h.p10Cell, List.getElem?_toArray]; exact key.2
set_option maxRecDepth 100000 in
set_option maxHeartbeats 1000000 in
theorem prescale_walk (w : World) (hL : Laid w) (g B : Nat) (hB : B ≤ g) (hg : w.heap[g]? = some (.cells #[.int .u64 0, .int .u64 0, .int .i64 0] 203 (0, 0))) (h17 : 17 ≤ g)
    (e l p : Int) (i : Nat) (r : Nat × Nat) (hi : Pinned.pow10Rows[i]? = some r) (hp : p + 348 = i) (he1 : -10000 < e) (he2 : e < 10000) (hl1 : -10000 < l) (hl2 : l < 10000) :
    Calls Tryz.prog 158 #[.pointer (some ⟨g, 0, none⟩), .int .i64 e, .int .i64 p, .int .i64 l] w fun e' w' => e' = .returned (.tuple #[]) ∧ Below B w w' ∧ w'.heap[g]? = some (.cells #[.int .u64 r.1, .int .u64 r.2, .int .i64 (-(e + l + 3))] 203 (0, 0)) := by
  obtain ⟨p0, p1⟩ := p10_row hL hi
  have hlen := rows_len
  have hi2 : i < 696 := by
    have := (List.getElem?_eq_some_iff.1 hi).1
    omega
  obtain ⟨x, y⟩ := r
  dsimp only at p0 p1 ⊢
  have c0 : w.cell? ⟨g, 0, none⟩ = some (.int .u64 0) := (blk_cell hg 0).trans rfl
  have c1 : w.cell? ⟨g, 1, none⟩ = some (.int .u64 0) := (blk_cell hg 1).trans rfl
  have c2 : w.cell? ⟨g, 2, none⟩ = some (.int .i64 0) := (blk_cell hg 2).trans rfl
  have f0 := blk_frozen hg 0
  have f1 := blk_frozen hg 1
  have f2 := blk_frozen hg 2
  have hne : (11 : Nat) ≠ g := by omega
  have hw1 : IntKind.i64.wrap (p - -348) = (i : Int) := by rw [Go.IntKind.wrap_i64]; omega
  have hw2 : IntKind.i64.wrap (p + 348) = (i : Int) := by rw [Go.IntKind.wrap_i64]; omega
  have hi3 : (i : Int) < 696 := by omega
  have hpi : p = (i : Int) - 348 := by omega
  clear hi hL hlen hp
  subst hpi
  go_enter Tryz.func158, Tryz.ntmps158
  go_wp2_with fail
  go_end0
  refine ⟨rfl, (((Below.refl B w).setCell hB _).setCell hB _).setCell hB _, ?_⟩
  refine blk_put (cs := #[.int .u64 x, .int .u64 y, .int .i64 0]) ?_ 2 _ (by first | rfl | (congr 4; omega))
  refine blk_put (cs := #[.int .u64 x, .int .u64 0, .int .i64 0]) ?_ 1 _ rfl
  exact blk_put hg 0 _ rfl
theorem int_shr (v s : Nat) : (v : Int) / 2 ^ s = ((v / 2 ^ s : Nat) : Int) := by rw [Int.natCast_ediv, Int.natCast_pow]; rfl
theorem int_shl (v s : Nat) (h : v * 2 ^ s < 18446744073709551616) : IntKind.u64.wrap ((v : Int) * 2 ^ s) = ((v * 2 ^ s : Nat) : Int) := by
  rw [show ((v : Int) * 2 ^ s) = ((v * 2 ^ s : Nat) : Int) by rw [Int.natCast_mul, Int.natCast_pow]; rfl, IntWalk.u64_in _ (by omega)]
set_option maxRecDepth 100000 in
set_option maxHeartbeats 1000000 in
theorem uscale_odd (w : World) (g x hi lo s : Nat) (hx : x < 18446744073709551616) (hhi : hi < 18446744073709551616) (hs : s < 64)
    (hg : w.heap[g]? = some (.cells #[.int .u64 hi, .int .u64 lo, .int .i64 s] 203 (0, 0))) (h : x * hi / 18446744073709551616 % 2 ^ s ≠ 0) :
    Calls Tryz.prog 160 #[.int .u64 x, .pointer (some ⟨g, 0, none⟩)] w fun e w' => e = .returned (.int .u64 ((x * hi / 18446744073709551616 / 2 ^ s / 2 * 2 + 1 : Nat) : Int)) ∧ Below w.heap.size w w' := by
  have c0 : w.cell? ⟨g, 0, none⟩ = some (.int .u64 hi) := (blk_cell hg 0).trans rfl
  have c1 : w.cell? ⟨g, 1, none⟩ = some (.int .u64 lo) := (blk_cell hg 1).trans rfl
  have c2 : w.cell? ⟨g, 2, none⟩ = some (.int .i64 s) := (blk_cell hg 2).trans rfl
  have b63 := and63 s hs
  have HM := Lib.hid (Tryz.bits_Mul64 x hi hx hhi)
  have hH : x * hi / 18446744073709551616 < 18446744073709551616 := by
    rw [Nat.div_lt_iff_lt_mul (by decide)]
    exact Nat.lt_of_le_of_lt (Nat.mul_le_mul (show x ≤ 18446744073709551615 by omega) (show hi ≤ 18446744073709551615 by omega)) (by decide)
  generalize x * hi / 18446744073709551616 = H at *
  generalize x * hi % 18446744073709551616 = M at *
  have s1 := int_shr H s
  have hle : H / 2 ^ s * 2 ^ s ≤ H := Nat.div_mul_le_self _ _
  have s2 := int_shl (H / 2 ^ s) s (by omega)
  have hne : H / 2 ^ s * 2 ^ s ≠ H := by
    intro hh
    have := Nat.div_add_mod H (2 ^ s)
    rw [Nat.mul_comm] at this
    omega
  have ho := or_one (H / 2 ^ s) (Nat.lt_of_le_of_lt (Nat.div_le_self _ _) hH)
  generalize H / 2 ^ s / 2 * 2 + 1 = R at *
  generalize H / 2 ^ s * 2 ^ s = H2 at *
  generalize H / 2 ^ s = H1 at *
  have hb : ((H2 : Int) != (H : Int)) = true := by simp; omega
  clear h hle hne
  go_enter Tryz.func160, Tryz.ntmps160
  go_wp2_with fail
  refine (HM.out _).mono ?_
  rintro e w' ⟨rfl, rfl⟩
  clear HM
  go_wp2_with fail
  go_ret
  exact ⟨rfl, Below.refl _ _⟩
theorem bool2_u64b (b : Bool) (w : World) : Calls Tryz.prog 150 #[.bool b] w fun e w' => e = .returned (.int .u64 ((if b then 1 else 0 : Nat) : Int)) ∧ ∃ n, w' = w.drewN n := by
  cases b
  · exact (PText.strconv_bool2_uint64.calls false 0 w (by decide +kernel)).mono fun _ _ ⟨h1, n, h2⟩ => ⟨h1, n, h2⟩
  · exact (PText.strconv_bool2_uint64.calls true 1 w (by decide +kernel)).mono fun _ _ ⟨h1, n, h2⟩ => ⟨h1, n, h2⟩
set_option maxRecDepth 100000 in
set_option maxHeartbeats 1000000 in
theorem uscale_even (w : World) (g x hi lo s : Nat) (hx : x < 18446744073709551616) (hhi : hi < 18446744073709551616) (hlo : lo < 18446744073709551616) (hs : s < 64)
    (hg : w.heap[g]? = some (.cells #[.int .u64 hi, .int .u64 lo, .int .i64 s] 203 (0, 0))) (h : x * hi / 18446744073709551616 % 2 ^ s = 0) (hpos : 0 < x * hi / 18446744073709551616) :
    Calls Tryz.prog 160 #[.int .u64 x, .pointer (some ⟨g, 0, none⟩)] w fun e w' => e = .returned (.int .u64 ((usc x hi lo s : Nat) : Int)) ∧ Below w.heap.size w w' := by
  have c0 : w.cell? ⟨g, 0, none⟩ = some (.int .u64 hi) := (blk_cell hg 0).trans rfl
  have c1 : w.cell? ⟨g, 1, none⟩ = some (.int .u64 lo) := (blk_cell hg 1).trans rfl
  have c2 : w.cell? ⟨g, 2, none⟩ = some (.int .i64 s) := (blk_cell hg 2).trans rfl
  have b63 := and63 s hs
  have HM := Lib.hid (Tryz.bits_Mul64 x hi hx hhi)
  have HM2 := Lib.hid (Tryz.bits_Mul64 x lo hx hlo)
  have hH : x * hi / 18446744073709551616 < 18446744073709551616 := by
    rw [Nat.div_lt_iff_lt_mul (by decide)]
    exact Nat.lt_of_le_of_lt (Nat.mul_le_mul (show x ≤ 18446744073709551615 by omega) (show hi ≤ 18446744073709551615 by omega)) (by decide)
  have hM : x * hi % 18446744073709551616 < 18446744073709551616 := Nat.mod_lt _ (by decide)
  have hM2 : x * lo / 18446744073709551616 < 18446744073709551616 := by
    rw [Nat.div_lt_iff_lt_mul (by decide)]
    exact Nat.lt_of_le_of_lt (Nat.mul_le_mul (show x ≤ 18446744073709551615 by omega) (show lo ≤ 18446744073709551615 by omega)) (by decide)
  have hU : usc x hi lo s = (if 1 < (if x * hi % 18446744073709551616 < x * lo / 18446744073709551616 then 18446744073709551616 + x * hi % 18446744073709551616 - x * lo / 18446744073709551616 else x * hi % 18446744073709551616 - x * lo / 18446744073709551616)
      then (if x * hi % 18446744073709551616 < x * lo / 18446744073709551616 then x * hi / 18446744073709551616 - 1 else x * hi / 18446744073709551616) / 2 ^ s / 2 * 2 + 1
      else (if x * hi % 18446744073709551616 < x * lo / 18446744073709551616 then x * hi / 18446744073709551616 - 1 else x * hi / 18446744073709551616) / 2 ^ s) := by
    unfold usc
    dsimp only
    rw [if_neg (by omega)]
  rw [hU]
  clear hU
  generalize x * hi / 18446744073709551616 = H at *
  generalize x * hi % 18446744073709551616 = M at *
  generalize x * lo / 18446744073709551616 = M2 at *
  generalize x * lo % 18446744073709551616 = L2 at *
  have s1 := int_shr H s
  have hle : H / 2 ^ s * 2 ^ s = H := by
    have := Nat.div_add_mod H (2 ^ s)
    rw [Nat.mul_comm] at this
    omega
  have s2 := int_shl (H / 2 ^ s) s (by omega)
  rw [hle] at s2
  have hb : ((H : Int) != (H : Int)) = false := by simp
  obtain ⟨H', hH'⟩ : ∃ H', H' = if M < M2 then H - 1 else H := ⟨_, rfl⟩
  obtain ⟨D, hD⟩ : ∃ D, D = if M < M2 then 18446744073709551616 + M - M2 else M - M2 := ⟨_, rfl⟩
  rw [← hH', ← hD]
  have hH2 : H' < 18446744073709551616 := by rw [hH']; split <;> omega
  have s3 := int_shr H' s
  have ho := or_one (H' / 2 ^ s) (Nat.lt_of_le_of_lt (Nat.div_le_self _ _) hH2)
  have hz := or_zero64 (H' / 2 ^ s) (Nat.lt_of_le_of_lt (Nat.div_le_self _ _) hH2)
  have hwD : IntKind.u64.wrap ((M : Int) - (M2 : Int)) = (D : Int) := by rw [hD, Go.IntKind.wrap_u64]; split <;> omega
  have hwH : IntKind.u64.wrap ((H : Int) - ((if decide (M < M2) then 1 else 0 : Nat) : Int)) = (H' : Int) := by
    rw [hH', Go.IntKind.wrap_u64]
    by_cases hc : M < M2
    · rw [if_pos hc, decide_eq_true hc, if_pos rfl]; omega
    · rw [if_neg hc, decide_eq_false hc, if_neg (by decide)]; omega
  obtain ⟨b1, hb1⟩ : ∃ b1 : Nat, b1 = (if decide (M < M2) then 1 else 0 : Nat) := ⟨_, rfl⟩
  have B1 := Lib.hid (bool2_u64b (decide (M < M2)))
  rw [← hb1] at hwH B1
  generalize hd1 : decide (M < M2) = d1 at *
  generalize H' / 2 ^ s / 2 * 2 + 1 = R at *
  generalize H' / 2 ^ s = H1' at *
  generalize H / 2 ^ s = H1 at *
  clear h hle hH' hD hb1 hM hM2 hpos hH hH2
  by_cases hc : 1 < D
  · have hd2 : decide (1 < D) = true := decide_eq_true hc
    have hd3 : (1 : Int) < D := by omega
    rw [if_pos hc]
    have B2 : Hid (∀ w : World, Calls Tryz.prog 150 #[.bool true] w fun e w' => e = .returned (.int .u64 1) ∧ ∃ n, w' = w.drewN n) := Lib.hid (bool2_u64b true)
    clear hc hz
    go_enter Tryz.func160, Tryz.ntmps160
    go_wp2_with fail
    refine (HM.out _).mono ?_
    rintro e w' ⟨rfl, rfl⟩
    clear HM
    go_wp2_with fail
    refine (HM2.out _).mono ?_
    rintro e w' ⟨rfl, rfl⟩
    clear HM2
    go_wp2_with fail
    refine (B1.out _).mono ?_
    rintro e w' ⟨rfl, n1, rfl⟩
    clear B1
    go_wp2_with fail
    go_quiet ((go_at_call 150; (refine (B2.out _).mono ?_); rintro e w' ⟨rfl, ⟨nd, rfl⟩⟩; first | exact ⟨rfl, _, World.drewN_drewN _ _ _⟩ | exact ⟨rfl, _, Eq.trans (World.drewN_drewN _ _ _) (congrArg (World.drewN _) (Nat.add_assoc _ _ _))⟩))
    go_wp2_with fail
    go_ret
    exact ⟨rfl, below_drewN (below_drewN (Below.refl _ _) _) _⟩
  · have hd2 : decide (1 < D) = false := decide_eq_false hc
    have hd3 : ¬ (1 : Int) < D := by omega
    have hd6 : decide ((1 : Int) < (D : Int)) = false := decide_eq_false hd3
    clear hd2 hd3
    rw [if_neg hc]
    have B2 : Hid (∀ w : World, Calls Tryz.prog 150 #[.bool false] w fun e w' => e = .returned (.int .u64 0) ∧ ∃ n, w' = w.drewN n) := Lib.hid (bool2_u64b false)
    clear hc ho
    go_enter Tryz.func160, Tryz.ntmps160
    go_wp2_with fail
    refine (HM.out _).mono ?_
    rintro e w' ⟨rfl, rfl⟩
    clear HM
    go_wp2_with fail
    refine (HM2.out _).mono ?_
    rintro e w' ⟨rfl, rfl⟩
    clear HM2
    go_wp2_with fail
    refine (B1.out _).mono ?_
    rintro e w' ⟨rfl, n1, rfl⟩
    clear B1
    go_wp2_with fail
    go_quiet ((go_at_call 150; (refine (B2.out _).mono ?_); rintro e w' ⟨rfl, ⟨nd, rfl⟩⟩; first | exact ⟨rfl, _, World.drewN_drewN _ _ _⟩ | exact ⟨rfl, _, Eq.trans (World.drewN_drewN _ _ _) (congrArg (World.drewN _) (Nat.add_assoc _ _ _))⟩))
    go_wp2_with fail
    go_ret
    exact ⟨rfl, below_drewN (below_drewN (Below.refl _ _) _) _⟩
theorem uscale_walk (w : World) (g x hi lo s : Nat) (hx : x < 18446744073709551616) (hhi : hi < 18446744073709551616) (hlo : lo < 18446744073709551616) (hs : s < 64) (hpos : 0 < x * hi / 18446744073709551616)
    (hg : w.heap[g]? = some (.cells #[.int .u64 hi, .int .u64 lo, .int .i64 s] 203 (0, 0))) :
    Calls Tryz.prog 160 #[.int .u64 x, .pointer (some ⟨g, 0, none⟩)] w fun e w' => e = .returned (.int .u64 ((usc x hi lo s : Nat) : Int)) ∧ Below w.heap.size w w' := by
  by_cases h : x * hi / 18446744073709551616 % 2 ^ s = 0
  · exact uscale_even w g x hi lo s hx hhi hlo hs hg h hpos
  · have := uscale_odd w g x hi lo s hx hhi hs hg h
    have e : usc x hi lo s = x * hi / 18446744073709551616 / 2 ^ s / 2 * 2 + 1 := by
      unfold usc
      dsimp only
      rw [if_pos h]
    rw [e]
    exact this
end Go.Proofs.YtjpiplplohapnaaGreatDoor
namespace Go.Proofs.YtjpiplplohapnaaGreatDoor
open Go.RowKit Go.Proofs.YtjpiplplohapnaaGreatDoorW.PrintWords Go.Proofs.YtjpiplplohapnaaGreatDoorW.PrintMore Nr Us
attribute [local go_sem] max2_int min2_int
theorem len64_bln (d : Nat) (hd : d < 18446744073709551616) (w : World) : Calls Tryz.prog 123 #[.int .u64 (d : Int)] w fun e w' => e = .returned (.int .i64 ((bln d : Nat) : Int)) ∧ w' = w := by
  have := Tryz.bits_Len64 (d : Int) w (by omega) (by omega)
  rw [Int.toNat_natCast, bitLen_eq d hd] at this
  exact this
end Go.Proofs.YtjpiplplohapnaaGreatDoor
namespace Go.Proofs.YtjpiplplohapnaaGreatDoor
open Go.RowKit Go.Proofs.YtjpiplplohapnaaGreatDoorW.PrintWords Go.Proofs.YtjpiplplohapnaaGreatDoorW.PrintMore Nr Us Dc
theorem log10_f (x : Int) (h1 : -100000 < x) (h2 : x < 100000) : PText.strconv_log10Pow2.f x = some (l2 x) := by
  unfold PText.strconv_log10Pow2.f l2
  rw [show wrap64 (x * 78913) = x * 78913 by unfold wrap64; omega]
theorem ten18 (n : Nat) (h : n ≤ 18) : 1 ≤ 10 ^ n ∧ 10 ^ n ≤ 1000000000000000000 := by
  have h1 : 0 < 10 ^ n := Nat.pow_pos (by decide)
  have h2 : 10 ^ n ≤ 10 ^ 18 := Nat.pow_le_pow_right (by decide) h
  have h3 : (10 : Nat) ^ 18 = 1000000000000000000 := by decide
  omega
theorem unmin10_f (y : Nat) (h1 : 1 ≤ y) (h2 : y ≤ 1000000000000000000) : PText.strconv_unmin.f (y : Int) = some ((4 * y - 2 : Nat) : Int) := by
  unfold PText.strconv_unmin.f
  rw [IntWalk.u64_in ((y : Int) * 4) (by omega), IntWalk.u64_in _ (by omega)]
  congr 1; omega
theorem stick_or2 (q : Nat) (hq : q < 18446744073709551616) (a b : Bool) : Go.bits .or .u64 (Go.bits .or .u64 (q : Int) ((if a then 1 else 0 : Nat) : Int)) ((if b then 1 else 0 : Nat) : Int) = ((stick q (a || b) : Nat) : Int) := by
  have e1 : Go.bits .or .u64 (q : Int) ((if a then 1 else 0 : Nat) : Int) = ((stick q a : Nat) : Int) := by
    rw [Go.u64_or_nat q _ hq (by split <;> omega), or1_nat _ _ (by split <;> omega)]
    unfold stick
    cases a <;> simp
  have hs : stick q a < 18446744073709551616 := by unfold stick; split <;> omega
  rw [e1, Go.u64_or_nat _ _ hs (by split <;> omega), or1_nat _ _ (by split <;> omega)]
  unfold stick
  cases a <;> cases b <;> simp
  omega
theorem div_f (u : Nat) (h : u < 18446744073709551616) : PText.strconv_unrounded_div.f (u : Int) 10 = some ((stick (u / 10) (decide (u % 2 = 1) || decide (u % 10 ≠ 0)) : Nat) : Int) := by
  unfold PText.strconv_unrounded_div.f PText.strconv_unrounded.f
  rw [if_neg (by decide)]
  have e1 : Int.tmod (u : Int) 10 = ((u % 10 : Nat) : Int) := by rw [Int.tmod_eq_emod_of_nonneg (by omega)]; omega
  have e2 : Int.tdiv (u : Int) 10 = ((u / 10 : Nat) : Int) := by rw [Int.tdiv_eq_ediv_of_nonneg (by omega)]; omega
  have e3 : ((u % 2 : Nat) : Int) = ((if decide (u % 2 = 1) then 1 else 0 : Nat) : Int) := by
    by_cases c : u % 2 = 1
    · rw [decide_eq_true c, c]; rfl
    · rw [decide_eq_false c, show u % 2 = 0 by omega]; rfl
  rw [e1, e2, IntWalk.u64_in _ (by omega), and1_bits u h, e3]
  have e4 : (((u % 10 : Nat) : Int) != 0) = decide (u % 10 ≠ 0) := by
    by_cases c : u % 10 = 0
    · rw [c]; rfl
    · rw [decide_eq_true c]; simp; omega
  rw [e4]
  have e5 : (if decide (u % 10 ≠ 0) = true then some (1 : Int) else some 0) = some ((if decide (u % 10 ≠ 0) then 1 else 0 : Nat) : Int) := by
    cases decide (u % 10 ≠ 0) <;> rfl
  rw [e5, Option.bind_some, stick_or2 _ (by omega)]
theorem u10_at {w : World} (h : Laid w) (n : Nat) (hn : n < 20) : w.cell? ⟨4, n, none⟩ = some (.int .u64 ((10 ^ n : Nat) : Int)) := by
  rw [World.var?_cell gU10 h.u10 n, List.getElem?_toArray, List.getElem?_map]
  unfold Lib.pow10Tab
  rw [List.getElem?_map, List.getElem?_range hn]
  rfl
def FwPost (m c : Nat) (x : Int) (w : World) (e : Ending) (w' : World) : Prop :=
  ∃ Q : Nat, Rhe (wN m x * 10 ^ c) (2 ^ wR x) Q ∧ Q ≤ 2305843009213693953 ∧ e = .returned (.tuple #[.int .u64 (Q : Int), .int .i64 (-(c : Int))]) ∧ Below w.heap.size w w'
set_option maxRecDepth 100000 in
set_option maxHeartbeats 2000000 in
theorem fixed_walk (w : World) (hL : Laid w) (x : Int) (c m : Nat) (hc : c ≤ 30) (hm1 : 4503599627370496 ≤ m) (hm2 : m < 9007199254740992) (h1 : 1 ≤ dgF x c) (h18 : dgF x c ≤ 18) :
    Calls Tryz.prog 127 #[.int .u64 ((m * 2048 : Nat) : Int), .int .i64 (x - 63), .int .i64 (dgF x c), .int .i64 (c : Int), .int .u8 102] w (FwPost m c x w) := by
  obtain ⟨hk0, hs0, hs1, hP31, -⟩ := fast_ok hc h1 h18
  have hxr : -102 ≤ x ∧ x ≤ 58 := by
    unfold dgF l2 at h1 h18
    by_cases h : 0 ≤ x
    · rw [if_pos h] at h1 h18; omega
    · rw [if_neg h] at h1 h18; omega
  obtain ⟨n, hn⟩ : ∃ n : Nat, dgF x c = n := ⟨(dgF x c).toNat, by omega⟩
  obtain ⟨i, hi⟩ : ∃ i : Nat, fP x c + 348 = i := ⟨(fP x c + 348).toNat, by omega⟩
  have hlen := rows_len
  obtain ⟨r, hr⟩ : ∃ r, Pinned.pow10Rows[i]? = some r := ⟨_, List.getElem?_eq_getElem (by omega)⟩
  obtain ⟨hu, hcase⟩ := fast_main hc hm1 hm2 h1 h18 hr (by omega)
  obtain ⟨hrow, hr1, hr2, -⟩ := row_ok hr
  have hrlt : r.2 < 18446744073709551616 := hrow.small
  have hpos : 0 < m * 2048 * r.1 / 18446744073709551616 := by
    have a1 : 9223372036854775808 * 9223372036854775808 ≤ m * 2048 * r.1 := Nat.mul_le_mul (by omega) hr1
    exact Nat.div_pos (by omega) (by decide)
  have hl2 : -31 ≤ l2 x ∧ l2 x ≤ 18 := by unfold l2; omega
  have HLog := Lib.hid (log10_calls x (l2 x) (log10_f x (by omega) (by omega)))
  have HLog2 := Lib.hid (log2_calls (fP x c) (lp (fP x c)) (log2_f _ (by omega) (by omega)))
  have hlpr := lp_range (fP x c) (by omega) (by omega)
  obtain ⟨s, hs⟩ : ∃ s : Nat, fS x c = s := ⟨(fS x c).toNat, by omega⟩
  have hsv : -((x - 63) + lp (fP x c) + 3) = (s : Int) := by rw [← hs]; unfold fS; omega
  have HPre := Lib.hid (fun (W : World) (hLW : Laid W) (g B : Nat) hB hg h17 => prescale_walk W hLW g B hB hg h17 (x - 63) (lp (fP x c)) (fP x c) i r hr hi (by omega) (by omega) (by omega) (by omega))
  rw [hsv] at HPre
  have HU := Lib.hid (fun W g hg => uscale_walk W g (m * 2048) r.1 r.2 s (by omega) (by omega) hrlt (by omega) hpos hg)
  have hfu : fU x c m r = usc (m * 2048) r.1 r.2 s := by unfold fU; rw [hs, Int.toNat_natCast]
  rw [hfu, hn, Int.toNat_natCast] at hcase
  rw [hfu] at hu
  have hPx : fP x c = (n : Int) - 1 - l2 x := by unfold fP; rw [hn]
  rw [hn]
  generalize usc (m * 2048) r.1 r.2 s = u at *
  generalize m * 2048 = M at *
  obtain ⟨t1, t2⟩ := ten18 n (by omega)
  have HM := Lib.hid (unmin_calls ((10 ^ n : Nat) : Int) _ (unmin10_f (10 ^ n) t1 t2))
  have HC10 := Lib.hid (fun W (hLW : Laid W) => u10_at hLW n (by omega))
  have HDv := Lib.hid (div_calls (u : Int) 10 _ (div_f u (by omega)))
  have hst : stick (u / 10) (decide (u % 2 = 1) || decide (u % 10 ≠ 0)) ≤ 922337203685477581 + 1 := by unfold stick; split <;> omega
  generalize stick (u / 10) (decide (u % 2 = 1) || decide (u % 10 ≠ 0)) = t at *
  have HR1 := Lib.hid (round_calls (t : Int) _ (round_f t (by omega)))
  have HR0 := Lib.hid (round_calls (u : Int) _ (round_f u (by omega)))
  have hrt : rnd t ≤ 2305843009213693953 := by unfold rnd; omega
  have hru : rnd u ≤ 2305843009213693953 := by unfold rnd; omega
  generalize 10 ^ n = y at *
  obtain ⟨U, hU⟩ : ∃ U : Nat, U = 4 * y - 2 := ⟨_, rfl⟩
  rw [← hU] at HM hcase
  have hUb : U ≤ 4000000000000000000 := by omega
  generalize fP x c = P at *
  generalize lp P = lpv at *
  have e1 : x - 63 + 63 = x := by omega
  have e2 : (n : Int) - 1 - l2 x = P := hPx.symm
  generalize l2 x = lx at *
  have n18 : (n : Int) < 20 := by omega
  obtain ⟨rh, rl⟩ := r
  dsimp only at hr1 hr2 hrlt HPre HU
  have HL := Lib.hid hL
  have HCase := Lib.hid hcase
  have HK : Hid (-31 ≤ lx ∧ lx ≤ 18 ∧ P ≤ 31 ∧ 0 ≤ P) := Lib.hid ⟨hl2.1, hl2.2, hP31, by omega⟩
  have e3 : wrap64 ((n : Int) - 1) = (n : Int) - 1 := by unfold wrap64; omega
  have e4 : wrap64 P = P := by unfold wrap64; omega
  have e5 : wrap64 ((n : Int) - 1 - lx) = P := by rw [e2, e4]
  have e6 : IntKind.i64.wrap ((n : Int) - 1 - lx) = P := by rw [e2, Go.IntKind.wrap_i64]; omega
  clear hcase hk0 hs0 hs1 hlen hr hrow hpos hfu hs hsv hi hn hU hPx hl2 hr1 hr2 hrlt hst hu t1 t2 hL h1 h18 hm1 hm2 hlpr hUb
  go_enter Tryz.func127, Tryz.ntmps127
  go_wp2_with fail
  refine (HLog.out _).mono ?_
  rintro e w1 ⟨rfl, hb1⟩
  clear HLog
  have HB1 := Lib.hid hb1
  clear hb1
  go_wp2_with fail
  refine (HLog2.out _).mono ?_
  rintro e w2 ⟨rfl, hb2⟩
  clear HLog2
  have hL1 := HL.out.below HB1.out
  have hg2 : w2.heap[w1.heap.size]? = some (.cells #[.int .u64 0, .int .u64 0, .int .i64 0] 203 (0, 0)) := blk_below (blk_new _ _) hb2
  have hb02 : Below w.heap.size w w2 := HB1.out.trans ((((Below.refl _ _).alloc (Nat.le_refl _) _).trans (hb2.mono (by simp))).mono HB1.out.size)
  have HP := Lib.hid (HPre.out w2 (HL.out.below hb02) w1.heap.size w.heap.size HB1.out.size hg2 (by have := hL1.size; omega))
  have HB2 := Lib.hid hb02
  clear HPre hb2 hg2 hb02 hL1 HB1
  go_wp2_with fail
  refine HP.out.mono ?_
  rintro e w3 ⟨rfl, hb3, hg3⟩
  have HB3 := Lib.hid (HB2.out.trans hb3)
  have HUU := Lib.hid (HU.out w3 w1.heap.size hg3)
  clear HP HU hb3 hg3 HB2
  go_wp2_with fail
  refine HUU.out.mono ?_
  rintro e w4 ⟨rfl, hb4⟩
  have HB4 := Lib.hid (HB3.out.trans (hb4.mono HB3.out.size))
  clear HUU hb4 HB3
  have cu := HC10.out w4 (HL.out.below HB4.out)
  clear HC10
  go_wp2_with fail
  refine (HM.out _).mono ?_
  rintro e w5 ⟨rfl, hb5⟩
  have HB5 := Lib.hid (HB4.out.trans (hb5.mono HB4.out.size))
  clear HM hb5 HB4 cu
  rcases HCase.out with ⟨hP, hlt, hrh⟩ | ⟨hP, hrh⟩
  · have c1 : ¬ (U : Int) ≤ u := by omega
    have c2 : decide ((U : Int) ≤ (u : Int)) = false := decide_eq_false c1
    have HRh := Lib.hid hrh
    have c3 : ¬ (c : Int) < c := by omega
    have c4 : decide ((c : Int) < (c : Int)) = false := decide_eq_false c3
    have x1 : wrap64 (-(c : Int)) = -(c : Int) := by unfold wrap64; omega
    have HRU := Lib.hid hru
    subst hP
    clear HCase hlt hrh hru e2 e5 e6 hrt
    go_wp2_with fail
    refine wp_loop_rounds 1 ?_
    rw [rounds_succ]
    go_wp2_with fail
    refine (HR0.out _).mono ?_
    rintro e w6 ⟨rfl, hb6⟩
    have HB6 := Lib.hid (HB5.out.trans (hb6.mono HB5.out.size))
    clear HR0 hb6 HB5
    go_wp2_with fail
    go_ret2
    exact ⟨rnd u, HRh.out, HRU.out, rfl, HB6.out⟩
  · have HRh := Lib.hid hrh
    have HRU := Lib.hid hrt
    have c3 : ¬ (c : Int) < c := by omega
    have c4 : decide ((c : Int) < (c : Int)) = false := decide_eq_false c3
    have x1 : wrap64 (-(c : Int)) = -(c : Int) := by unfold wrap64; omega
    have x2 : wrap64 (P - 1) = (c : Int) := by unfold wrap64; omega
    have x3 : P - 1 = (c : Int) := by omega
    have c5 : (c : Int) < P := by omega
    have c6 : decide ((c : Int) < P) = true := decide_eq_true c5
    by_cases hge : (U : Int) ≤ u
    · have c2 : decide ((U : Int) ≤ (u : Int)) = true := decide_eq_true hge
      clear HCase hrh hru e2 e5 e6 hrt hP
      go_wp2_with fail
      refine (HDv.out _).mono ?_
      rintro e w6 ⟨rfl, hb6⟩
      have HB6 := Lib.hid (HB5.out.trans (hb6.mono HB5.out.size))
      clear HDv hb6 HB5
      go_wp2_with fail
      refine wp_loop_rounds 1 ?_
      rw [rounds_succ]
      go_wp2_with fail
      refine (HR1.out _).mono ?_
      rintro e w7 ⟨rfl, hb7⟩
      have HB7 := Lib.hid (HB6.out.trans (hb7.mono HB6.out.size))
      clear HR1 hb7 HB6
      go_wp2_with fail
      go_ret2
      exact ⟨rnd t, HRh.out, HRU.out, rfl, HB7.out⟩
    · have c2 : decide ((U : Int) ≤ (u : Int)) = false := decide_eq_false hge
      clear HCase hrh hru e2 e5 e6 hrt hP
      go_wp2_with fail
      refine wp_loop_rounds 2 ?_
      rw [rounds_succ]
      go_wp2_with fail
      refine (HDv.out _).mono ?_
      rintro e w6 ⟨rfl, hb6⟩
      have HB6 := Lib.hid (HB5.out.trans (hb6.mono HB5.out.size))
      clear HDv hb6 HB5
      go_wp2_with fail
      rw [rounds_succ]
      go_wp2_with fail
      refine (HR1.out _).mono ?_
      rintro e w7 ⟨rfl, hb7⟩
      have HB7 := Lib.hid (HB6.out.trans (hb7.mono HB6.out.size))
      clear HR1 hb7 HB6
      go_wp2_with fail
      go_ret2
      exact ⟨rnd t, HRh.out, HRU.out, rfl, HB7.out⟩
end Go.Proofs.YtjpiplplohapnaaGreatDoor
namespace Go.Proofs.YtjpiplplohapnaaGreatDoor
open Go.RowKit Go.Sort Go.Proofs.YtjpiplplohapnaaGreatDoorW.PrintWords Dc
def dgs (Q L i : Nat) : Nat := 48 + Q / 10 ^ (L - 1 - i) % 10
theorem putRow_block {w : World} {g : Nat} {cur : Array Value} {T : TypeId} (dk : Array UInt8) (h : w.heap[g]? = some (.cells cur T (0, 0))) :
    (putRow encB w g 0 dk).heap[g]? = some (.cells (putCells encB 0 dk cur) T (0, 0)) := by
  simp [putRow, mapBlock, Array.getElem?_modify, h, onCells]
theorem putCells_at {cur : Array Value} (dk : Array UInt8) (i : Nat) (hi : i < dk.size) (hc : i < cur.size) : (putCells encB 0 dk cur)[i]? = some (encB dk[i]!) := by
  simp only [putCells, Array.getElem?_mapIdx, Array.getElem?_eq_getElem hc, Option.map_some]
  rw [if_pos (by omega)]
  simp
set_option maxRecDepth 100000 in
set_option maxHeartbeats 1000000 in
theorem setDigits_walk (w : World) (g B : Nat) (hB : B ≤ g) (hg : w.heap[g]? = some (.cells (Array.replicate 24 (.int .u8 0)) 126 (0, 0))) (Q L c : Nat) (h2 : Q < 10 ^ L) (hL0 : 1 ≤ L) (hL : L ≤ 20) (hc : c ≤ 30) (hQ : Q < 18446744073709551616) :
    Calls Tryz.prog 125 #[.slice (some ⟨g, 0, none⟩) 24 24, .int .u64 (Q : Int), .int .i64 (-(c : Int)), .int .i64 (L : Int)] w fun e w' =>
      e = .returned (.tuple #[.int .i64 ((L : Int) - c), .int .i64 ((tl (dgs Q L) L : Nat) : Int)]) ∧ Below B w w' ∧ ∃ cs : Array Value, w'.heap[g]? = some (.cells cs 126 (0, 0)) ∧ ∀ i, i < L → cs[i]? = some (.int .u8 (dgs Q L i : Nat)) := by
  have hH : Holds encB w g 0 (Array.replicate L (0 : UInt8)) := by
    intro j hj
    have hj' : j < L := by simpa using hj
    refine ⟨?_, by simpa using blk_frozen hg (0 + j)⟩
    rw [show (0 : Nat) + j = j by omega]
    refine (blk_cell hg j).trans ?_
    rw [Array.getElem?_replicate, if_pos (by omega)]
    simp [hj']
  have HF := Lib.hid (Tryz.internal_strconv_formatBase10 g 0 24 Q (Array.replicate L 0) w hH (by simpa using h2) hQ (by simp; omega))
  rw [Array.size_replicate] at HF
  have k1 : (L : Int) ≤ 24 := by omega
  have k2 : (0 : Int) ≤ L := by omega
  have k3 : wrap64 ((L : Int) - c) = (L : Int) - c := by unfold wrap64; omega
  have k4 : (L : Int) + -(c : Int) = (L : Int) - c := by omega
  have k5 : wrap64 ((L : Int) + -(c : Int)) = (L : Int) - c := by rw [k4, k3]
  obtain ⟨D, hD⟩ : ∃ D : Int, D = (L : Int) - c := ⟨_, rfl⟩
  rw [← hD] at k3 k4 k5 ⊢
  obtain ⟨d, hd⟩ : ∃ d, d = dgs Q L := ⟨_, rfl⟩
  rw [← hd]
  have HDd := Lib.hid hd
  clear hd
  have HK3 := Lib.hid k3
  have HR : Hid (1 ≤ L ∧ L ≤ 20) := Lib.hid ⟨hL0, hL⟩
  clear hH hD h2 hL0 hL hc hQ
  go_enter Tryz.func125, Tryz.ntmps125
  go_wp2_with fail
  refine HF.out.mono ?_
  rintro e w1 ⟨rfl, n, v', dk, hw1, hFm⟩
  have hsz : dk.size = L := hFm.size
  have hbw : Below B w w1 := by rw [hw1]; exact below_putRow2 (Below.refl _ _) hB
  obtain ⟨cs, hcs⟩ : ∃ cs : Array Value, cs = putCells encB 0 dk (Array.replicate 24 (.int .u8 0)) := ⟨_, rfl⟩
  have hblk : w1.heap[g]? = some (.cells cs 126 (0, 0)) := by rw [hw1, hcs]; exact putRow_block dk hg
  have hat : ∀ i, i < L → cs[i]? = some (.int .u8 (d i : Nat)) := by
    intro i hi
    have hLr := HR.out
    rw [HDd.out, hcs, putCells_at dk i (by omega) (by simp; omega), hFm.done i (by omega) hi]
    unfold encB dgs Lib.dg
    rw [UInt8.toNat_ofNat', Nat.mod_eq_of_lt (by omega)]
  have HB := Lib.hid hbw
  have HA := Lib.hid (And.intro hblk hat)
  clear hFm hsz hbw hcs hblk hat hw1 HF hg
  go_wp2_with fail
  clear k1 k2 k4 k5
  go_loopg [3] L (fun gn v3 w' => v3 = .int .i64 (gn : Int) ∧ Hid (tl d gn = tl d L ∧ gn ≤ L) ∧ w1 = w')
  case atStart => exact ⟨rfl, Lib.hid ⟨rfl, Nat.le_refl _⟩, rfl⟩
  case round =>
    obtain ⟨rfl, hH, hww⟩ := hrel
    subst hww
    obtain ⟨p1, p2⟩ := hH.out
    have hLr := HR.out
    cases gk with
    | zero =>
      have hz : tl d L = 0 := p1.symm
      have HZ := Lib.hid hz
      clear hz hH p1 p2 hLr
      go_wp2_with fail
      go_ret2
      exact ⟨by rw [HZ.out]; show Ending.returned (.tuple #[.int .i64 (wrap64 D), .int .i64 ((0 : Nat) : Int)]) = _; rw [HK3.out], HB.out, cs, HA.out.1, HA.out.2⟩
    | succ j =>
      obtain ⟨m, hm⟩ : ∃ m : Int, m = ((j + 1 : Nat) : Int) := ⟨_, rfl⟩
      have cb : w1.cell? ⟨g, j, none⟩ = some (.int .u8 (d j : Nat)) := (blk_cell HA.out.1 j).trans (HA.out.2 j (by omega))
      have m1 : (0 : Int) < m := by omega
      have m1b : decide ((0 : Int) < m) = true := decide_eq_true m1
      have m3 : m - 1 = (j : Int) := by omega
      have m4 : (j : Int) < 24 := by omega
      have m5 : wrap64 (j : Int) = (j : Int) := by unfold wrap64; omega
      obtain ⟨b, hb⟩ : ∃ b, b = d j := ⟨_, rfl⟩
      rw [← hb] at cb
      have HM := Lib.hid hm
      rw [← hm]
      by_cases h48 : b = 48
      · have f1 : ((b : Int) == 48) = true := by simp [h48]
        have HX : Hid (tl d j = tl d L ∧ j ≤ L ∧ j < j + 1) := Lib.hid ⟨by rw [← p1, tl, if_pos (by rw [← hb]; exact h48)], by omega, by omega⟩
        clear hH p1 p2 hLr hb h48 hm
        go_wp2_with fail
        go_roundg j
        case measure => exact HX.out.2.2
        case rel => exact ⟨by first | rfl | go_num, Lib.hid ⟨HX.out.1, HX.out.2.1⟩, rfl⟩
      · have f1 : ((b : Int) == 48) = false := by simp; omega
        have HX : Hid (tl d L = j + 1) := Lib.hid (by rw [← p1, tl, if_neg (by rw [← hb]; exact h48)])
        clear hH p1 p2 hLr hb h48 hm
        go_wp2_with fail
        go_ret2
        exact ⟨by rw [HX.out, ← HM.out]; show Ending.returned (.tuple #[.int .i64 (wrap64 D), .int .i64 m]) = _; rw [HK3.out], HB.out, cs, HA.out.1, HA.out.2⟩
end Go.Proofs.YtjpiplplohapnaaGreatDoor
namespace Go.Proofs.YtjpiplplohapnaaGreatDoor
open Go.ChangeShapes Go.WideShapes Go.ChangeAt Go.RowKit
abbrev laidL : List (String × DataW Unit) := Rows.textIntsRow.laid
theorem laid_at {P : Program} {w : World} : ∀ {l : List (String × DataW Unit)} {ps : List MemPlace}, DataW.LaidVars P w l ps → ∀ {n : String} {d : DataW Unit}, (n, d) ∈ l →
    ∃ g t cs fuel p, P.globalNamed n = some g ∧ (P.globals[g]?).map (·.type) = some t ∧ w.var? P n = some cs ∧ DataW.trod (fun _ => ()) P w 0 (fun _ => true) false fuel t cs.toList = some (d, p)
  | [], _, _, _, _, hm => by cases hm
  | (m, e) :: r, ps, h, n, d, hm => by
    obtain ⟨g, t, cs, fuel, p, q, h1, h2, h3, h4, h5, _⟩ := h
    rcases List.mem_cons.1 hm with he | hm
    · cases he; exact ⟨g, t, cs, fuel, p, h1, h2, h3, h4⟩
    · exact laid_at h5 hm
theorem laid_at' {P : Program} {w : World} {l : List (String × DataW Unit)} (h : laidMet P l w) {n : String} {d : DataW Unit} (hm : (n, d) ∈ l) {g : Nat} {t : TypeId} (hg : P.globalNamed n = some g) (ht : (P.globals[g]?).map (·.type) = some t) :
    ∃ cs fuel p, w.var? P n = some cs ∧ DataW.trod (fun _ => ()) P w 0 (fun _ => true) false fuel t cs.toList = some (d, p) := by
  obtain ⟨ps, hv, -, -⟩ := h
  obtain ⟨g', t', cs, fuel, p, h1, h2, h3, h4⟩ := laid_at hv hm
  obtain rfl := Option.some.inj (hg.symm.trans h1)
  obtain rfl := Option.some.inj (ht.symm.trans h2)
  exact ⟨cs, fuel, p, h3, h4⟩
theorem chunks {α : Type} (c : Nat) : ∀ (vs : List (List α)) (cs : List α), cs.length = vs.length * c → (∀ i, i < vs.length → (cs.drop (i * c)).take c = vs.getD i []) → cs = vs.flatten
  | [], cs, hl, _ => by simpa using hl
  | v :: vs, cs, hl, h => by
    have h0 := h 0 (by simp)
    simp at h0
    have hl' : cs.length = vs.length * c + c := by rw [hl, List.length_cons, Nat.succ_mul]
    have hr := chunks c vs (cs.drop c) (by rw [List.length_drop, hl']; omega) (fun i hi => by
      have h1 := h (i + 1) (by simp; omega)
      rw [List.drop_drop]
      rw [Nat.succ_mul, Nat.add_comm] at h1
      exact h1.trans (by simp))
    rw [List.flatten_cons, ← hr, ← h0, List.take_append_drop]
theorem cells_of_parts {H : Type} {enc : TypeId × Value → H} {P : Program} {w : World} {base : Nat} {sp : Nat → Bool} {held : Bool} {fuel : Nat} {t e : TypeId} {n : Nat} {cs : List Value} {ds : List (DataW H)} {vs : List (List Value)} {p : List MemPlace}
    (ht : P.underlying t = some (.array n e)) (hct : P.cellsOf t = n * P.cellsOf e) (hl : vs.length = n)
    (hp : ∀ i, i < n → ∀ (m : Nat) (c : List Value) (d : DataW H) (q : List MemPlace), ds[i]? = some d → DataW.trod enc P w base sp held m e c = some (d, q) → c = vs.getD i [])
    (h : DataW.trod enc P w base sp held fuel t cs = some (.agg ds, p)) : cs = vs.flatten := by
  obtain ⟨xs, m, -, hx, hlen, hxl, hel⟩ := DataW.trod_array ht h
  have hds : ds = xs.map (·.1) := by simpa using congrArg Prod.fst hx
  refine chunks (P.cellsOf e) vs cs (by rw [hlen, hct, hl]) (fun i hi => ?_)
  rw [hl] at hi
  have h1 := hel i hi
  obtain ⟨⟨d, q⟩, hxi⟩ : ∃ y, xs[i]? = some y := ⟨_, List.getElem?_eq_getElem (by omega)⟩
  rw [hxi] at h1
  exact hp i hi m _ d q (by rw [hds, List.getElem?_map, hxi]; rfl) h1
theorem gAcc : Tryz.prog.globalNamed "unicode/utf8.acceptRanges" = some 16 := by kernel_rfl
theorem tSyn : (Tryz.prog.globals[1]?).map (·.type) = some 47 := by kernel_rfl
theorem tRng : (Tryz.prog.globals[2]?).map (·.type) = some 47 := by kernel_rfl
theorem tOpt : (Tryz.prog.globals[3]?).map (·.type) = some 4 := by kernel_rfl
theorem tU10 : (Tryz.prog.globals[4]?).map (·.type) = some 167 := by kernel_rfl
theorem tInf : (Tryz.prog.globals[6]?).map (·.type) = some 182 := by kernel_rfl
theorem tF10 : (Tryz.prog.globals[10]?).map (·.type) = some 223 := by kernel_rfl
theorem tP10 : (Tryz.prog.globals[11]?).map (·.type) = some 227 := by kernel_rfl
theorem tDb : (Tryz.prog.globals[14]?).map (·.type) = some 233 := by kernel_rfl
theorem tAcc : (Tryz.prog.globals[16]?).map (·.type) = some 237 := by kernel_rfl
theorem star : "*" ++ "errors.errorString" = "*errors.errorString" := by decide
theorem row196 (u : TypeId) (h : Tryz.prog.typeName? 3 u = some "*errors.errorString") : u = 196 :=
  typeName_ptr_named (nm := "errors.errorString") (by rw [star]; kernel_rfl) (by kernel_rfl) (by decide) u (by rw [star]; exact h)
theorem cells198 : Tryz.prog.cellsOf 198 = 1 := by kernel_rfl
theorem cells9 : Tryz.prog.cellsOf 9 = 1 := by kernel_rfl
theorem cells5 : Tryz.prog.cellsOf 5 = 1 := by kernel_rfl
theorem cells26 : Tryz.prog.cellsOf 26 = 1 := by kernel_rfl
theorem cells22 : Tryz.prog.cellsOf 22 = 1 := by kernel_rfl
theorem cells226 : Tryz.prog.cellsOf 226 = 2 := by kernel_rfl
theorem cells227 : Tryz.prog.cellsOf 227 = 696 * Tryz.prog.cellsOf 226 := by kernel_rfl
theorem cells167 : Tryz.prog.cellsOf 167 = 20 := by kernel_rfl
theorem cells233 : Tryz.prog.cellsOf 233 = 64 := by kernel_rfl
theorem cells182 : Tryz.prog.cellsOf 182 = 3 := by kernel_rfl
theorem cells75 : Tryz.prog.cellsOf 75 = 1 := by kernel_rfl
theorem cells3 : Tryz.prog.cellsOf 3 = 1 := by kernel_rfl
theorem p10_length : (Pinned.pow10Rows.map fun x : Nat × Nat => [Value.int .u64 x.1, Value.int .u64 x.2]).length = 696 := by kernel_rfl
theorem trod_float {H : Type} {enc : TypeId × Value → H} {P : Program} {w : World} {base : Nat} {sp : Nat → Bool} {held : Bool} {fuel : Nat} {t : TypeId} {k : FloatKind} {cs : List Value} {x : DataW H × List MemPlace}
    (ht : P.underlying t = some (.float k)) (h : DataW.trod enc P w base sp held fuel t cs = some x) : ∃ n, cs = [.float k n] ∧ x = (.lit (.float k n), []) := by
  cases fuel with
  | zero => simp [DataW.trod] at h
  | succ n =>
    unfold DataW.trod at h
    rw [ht] at h
    split at h <;> simp_all
theorem one_cell {w : World} {base : Nat} {a : Addr} {c : Value} (h : w.cells? base a 1 = some [c]) : w.cell? a = some c := by
  have e0 : a.add 0 = a := by simp [Addr.add]
  unfold World.cells? at h
  split at h
  · simp only [List.range_succ, List.range_zero, List.nil_append, List.mapM_cons, List.mapM_nil, e0] at h
    cases hcc : w.cell? a with
    | none => simp [hcc] at h
    | some c => simp [hcc] at h; rw [h]
  · cases h
theorem two_cells {P : Program} {w : World} {base : Nat} {sp : Nat → Bool} {fuel : Nat} {t : TypeId} {f0 f1 : Field} {k0 k1 : IntKind} {cs : List Value} {x y : Int} {p : List MemPlace}
    (ht : P.underlying t = some (.struct #[f0, f1])) (hct : P.cellsOf t = 2) (t0 : P.underlying f0.type = some (.int k0)) (t1 : P.underlying f1.type = some (.int k1)) (n0 : P.cellsOf f0.type = 1) (n1 : P.cellsOf f1.type = 1) (o0 : f0.offset = 0) (o1 : f1.offset = 1)
    (h : DataW.trod (fun _ => ()) P w base sp false fuel t cs = some (.agg [.lit (.int k0 x), .lit (.int k1 y)], p)) : cs = [.int k0 x, .int k1 y] := by
  obtain ⟨xs, m, -, hx, hlen, hxl, hel⟩ := DataW.trod_struct ht h
  rw [hct] at hlen
  have h0 := hel 0 _ rfl
  have h1 := hel 1 _ rfl
  match xs, hxl, hx, h0, h1 with
  | [x0, x1], _, hx, h0, h1 =>
    simp only [List.map_cons, List.map_nil, Prod.mk.injEq, DataW.agg.injEq, List.cons.injEq, and_true] at hx
    obtain ⟨⟨e0, e1⟩, -⟩ := hx
    simp only [List.getElem?_cons_zero, List.getElem?_cons_succ] at h0 h1
    obtain ⟨k0, c0, d0, -⟩ := DataW.trod_int t0 h0
    obtain ⟨k1, c1, d1, -⟩ := DataW.trod_int t1 h1
    subst d0; subst d1
    cases e0; cases e1
    match cs, hlen, c0, c1 with
    | [a, b], _, c0, c1 =>
      simp [n0, n1, o0, o1] at c0 c1
      rw [c0, c1]
theorem three_cells {P : Program} {w : World} {base : Nat} {sp : Nat → Bool} {fuel : Nat} {t : TypeId} {f0 f1 f2 : Field} {k0 k1 k2 : IntKind} {cs : List Value} {x y z : Int} {p : List MemPlace}
    (ht : P.underlying t = some (.struct #[f0, f1, f2])) (hct : P.cellsOf t = 3) (t0 : P.underlying f0.type = some (.int k0)) (t1 : P.underlying f1.type = some (.int k1)) (t2 : P.underlying f2.type = some (.int k2)) (n0 : P.cellsOf f0.type = 1) (n1 : P.cellsOf f1.type = 1) (n2 : P.cellsOf f2.type = 1) (o0 : f0.offset = 0) (o1 : f1.offset = 1) (o2 : f2.offset = 2)
    (h : DataW.trod (fun _ => ()) P w base sp false fuel t cs = some (.agg [.lit (.int k0 x), .lit (.int k1 y), .lit (.int k2 z)], p)) : cs = [.int k0 x, .int k1 y, .int k2 z] := by
  obtain ⟨xs, m, -, hx, hlen, hxl, hel⟩ := DataW.trod_struct ht h
  rw [hct] at hlen
  have h0 := hel 0 _ rfl
  have h1 := hel 1 _ rfl
  have h2 := hel 2 _ rfl
  match xs, hxl, hx, h0, h1, h2 with
  | [x0, x1, x2], _, hx, h0, h1, h2 =>
    simp only [List.map_cons, List.map_nil, Prod.mk.injEq, DataW.agg.injEq, List.cons.injEq, and_true] at hx
    obtain ⟨⟨e0, e1, e2⟩, -⟩ := hx
    simp only [List.getElem?_cons_zero, List.getElem?_cons_succ] at h0 h1 h2
    obtain ⟨k0, c0, d0, -⟩ := DataW.trod_int t0 h0
    obtain ⟨k1, c1, d1, -⟩ := DataW.trod_int t1 h1
    obtain ⟨k2, c2, d2, -⟩ := DataW.trod_int t2 h2
    subst d0; subst d1; subst d2
    cases e0; cases e1; cases e2
    match cs, hlen, c0, c1, c2 with
    | [a, b, c], _, c0, c1, c2 =>
      simp [n0, n1, n2, o0, o1, o2] at c0 c1 c2
      rw [c0, c1, c2]
theorem pair_cells {w : World} {base : Nat} {sp : Nat → Bool} {fuel : Nat} {cs : List Value} {x y : Nat} {p : List MemPlace}
    (h : DataW.trod (fun _ => ()) Tryz.prog w base sp false fuel 226 cs = some (.agg [.lit (.int .u64 x), .lit (.int .u64 y)], p)) : cs = [.int .u64 x, .int .u64 y] :=
  two_cells Tryz.underlying226 cells226 Tryz.underlying26 Tryz.underlying26 cells26 cells26 rfl rfl h
theorem p10_cells {w : World} {fuel : Nat} {cs : List Value} {ds : List (DataW Unit)} {vs : List (List Value)} {p : List MemPlace} (hl : vs.length = 696)
    (hp : ∀ i, i < 696 → ∀ (m : Nat) (c : List Value) (d : DataW Unit) (q : List MemPlace), ds[i]? = some d → DataW.trod (fun _ => ()) Tryz.prog w 0 (fun _ => true) false m 226 c = some (d, q) → c = vs.getD i [])
    (h : DataW.trod (fun _ => ()) Tryz.prog w 0 (fun _ => true) false fuel 227 cs = some (.agg ds, p)) : cs = vs.flatten :=
  cells_of_parts (n := 696) (e := 226) Tryz.underlying227 cells227 hl hp h
section
variable {W : World} (h : laidMet Tryz.prog laidL W)
include h
theorem met_size : 17 ≤ W.heap.size := by
  obtain ⟨cs, fuel, p, hv, -⟩ := laid_at' h (n := "unicode/utf8.acceptRanges") (d := Rows.laid_unicode_utf8_acceptRanges) (by simp [laidL, Rows.textIntsRow]) gAcc tAcc
  unfold World.var? at hv
  rw [gAcc] at hv
  simp only [Option.bind_some] at hv
  split at hv
  · rename_i heq
    have := (Array.getElem?_eq_some_iff.1 heq).1
    omega
  · cases hv
theorem met_opt : W.var? Tryz.prog "internal/strconv.optimize" = some #[.bool true] := by
  obtain ⟨cs, fuel, p, hv, hd⟩ := laid_at' h (n := "internal/strconv.optimize") (d := Rows.laid_internal_strconv_optimize) (by simp [laidL, Rows.textIntsRow]) gOpt tOpt
  obtain ⟨b, hb, hx⟩ := DataW.trod_bool Tryz.underlying4 hd
  cases hx
  rw [hv, Array.eq_one_of_toList hb]
theorem met_inf : W.var? Tryz.prog "internal/strconv.float64info" = some #[.int .u64 52, .int .u64 11, .int .i64 (-1023)] := by
  obtain ⟨cs, fuel, p, hv, hd⟩ := laid_at' h (n := "internal/strconv.float64info") (d := Rows.laid_internal_strconv_float64info) (by simp [laidL, Rows.textIntsRow]) gInf tInf
  have := three_cells Tryz.underlying182 cells182 Tryz.underlying75 Tryz.underlying75 Tryz.underlying3 cells75 cells75 cells3 rfl rfl rfl hd
  rw [hv]
  exact congrArg some (Array.toList_inj.1 this)
theorem met_u10 : Lib.TabIs Tryz.prog W "internal/strconv.uint64pow10" .u64 Lib.pow10Tab := by
  obtain ⟨cs, fuel, p, hv, hd⟩ := laid_at' h (n := "internal/strconv.uint64pow10") (d := Rows.laid_internal_strconv_uint64pow10) (by simp [laidL, Rows.textIntsRow]) gU10 tU10
  have e : (Rows.laid_internal_strconv_uint64pow10 : DataW Unit) = Lib.tabData .u64 Lib.pow10Tab := by rfl
  rw [e] at hd
  unfold Lib.TabIs
  rw [hv, ← Lib.cells_of_tab Tryz.underlying167 Tryz.underlying26 cells26 cells167 hd]
theorem met_db : Lib.TabIs Tryz.prog W "math/bits.deBruijn64tab" .u8 (Lib.deBruijn64tab.map fun x : Nat => (x : Int)) := by
  obtain ⟨cs, fuel, p, hv, hd⟩ := laid_at' h (n := "math/bits.deBruijn64tab") (d := Rows.laid_math_bits_deBruijn64tab) (by simp [laidL, Rows.textIntsRow]) gDb tDb
  have e : (Rows.laid_math_bits_deBruijn64tab : DataW Unit) = Lib.tabData .u8 (Lib.deBruijn64tab.map fun x : Nat => (x : Int)) := by rfl
  rw [e] at hd
  unfold Lib.TabIs
  rw [hv, ← Lib.cells_of_tab Tryz.underlying233 Tryz.underlying5 cells5 cells233 hd]
theorem met_f10 : ∃ a : Addr, W.var? Tryz.prog "internal/strconv.float64pow10" = some #[.slice (some a) 23 23] ∧ ∀ i, i < 23 → W.cell? (a.add i) = some (.float .f64 (f10tab.getD i 0)) := by
  obtain ⟨cs, fuel, p, hv, hd⟩ := laid_at' h (n := "internal/strconv.float64pow10") (d := Rows.laid_internal_strconv_float64pow10) (by simp [laidL, Rows.textIntsRow]) gF10 tF10
  rcases DataW.trod_slice Tryz.underlying223 hd with ⟨_, hx⟩ | ⟨a, len, cap, elems, rest, n, _, hcs, hx, _, hl, _, hlen, hel, hsp, _⟩
  · simp [Rows.laid_internal_strconv_float64pow10] at hx
  · simp only [Rows.laid_internal_strconv_float64pow10, Prod.mk.injEq, DataW.slice.injEq] at hx
    obtain ⟨⟨hE, hR⟩, -⟩ := hx
    have hr : rest = [] := List.map_eq_nil_iff.1 hR.symm
    subst hr
    have hc := (hsp rfl).1
    have hlen23 : len = 23 := by
      have := congrArg List.length hE
      simp at this; omega
    subst hlen23
    have hcap : cap = 23 := by simp at hc; omega
    subst hcap
    refine ⟨a, by rw [hv, Array.eq_one_of_toList hcs], fun i hi => ?_⟩
    have h1 := hel i hi
    rw [cells22, Nat.mul_one] at h1
    obtain ⟨y, hy⟩ : ∃ y, elems[i]? = some y := ⟨_, List.getElem?_eq_getElem (by omega)⟩
    rw [hy] at h1
    obtain ⟨c1, hc1, hy1⟩ := Option.bind_eq_some_iff.1 h1
    obtain ⟨k, rfl, hk⟩ := trod_float Tryz.underlying22 hy1
    have hd1 : (elems.map (·.1))[i]? = some (DataW.lit (.float .f64 k)) := by rw [List.getElem?_map, hy]; simp [hk]
    rw [← hE] at hd1
    have hkk : k = f10tab.getD i 0 := by
      have : ((f10tab.map fun x => (DataW.lit (.float .f64 x) : DataW Unit))[i]?) = some (DataW.lit (.float .f64 k)) := hd1
      rw [List.getElem?_map] at this
      obtain ⟨z, hz, hz2⟩ := Option.map_eq_some_iff.1 this
      cases hz2
      simp [List.getD, hz]
    rw [← hkk]
    exact one_cell hc1
theorem met_p10 : W.var? Tryz.prog "internal/strconv.pow10Tab" = some (Pinned.pow10Rows.flatMap fun x => [Value.int .u64 x.1, Value.int .u64 x.2]).toArray := by
  obtain ⟨cs, fuel, p, hv, hd⟩ := laid_at' h (n := "internal/strconv.pow10Tab") (d := Rows.laid_internal_strconv_pow10Tab) (by simp [laidL, Rows.textIntsRow]) gP10 tP10
  have e : (Rows.laid_internal_strconv_pow10Tab : DataW Unit) = .agg (Pinned.pow10Rows.map fun x => .agg [.lit (.int .u64 x.1), .lit (.int .u64 x.2)]) := rfl
  rw [e] at hd
  have hp : ∀ i, i < 696 → ∀ (m : Nat) (c : List Value) (d : DataW Unit) (q : List MemPlace), (Pinned.pow10Rows.map fun x : Nat × Nat => (.agg [.lit (.int .u64 x.1), .lit (.int .u64 x.2)] : DataW Unit))[i]? = some d →
      DataW.trod (fun _ => ()) Tryz.prog W 0 (fun _ => true) false m 226 c = some (d, q) → c = (Pinned.pow10Rows.map fun x : Nat × Nat => [Value.int .u64 x.1, Value.int .u64 x.2]).getD i [] := by
    intro i hi m c d q hdi ht
    rw [List.getElem?_map] at hdi
    obtain ⟨z, hz, rfl⟩ := Option.map_eq_some_iff.1 hdi
    have hg : (Pinned.pow10Rows.map fun x : Nat × Nat => [Value.int .u64 x.1, Value.int .u64 x.2]).getD i [] = [Value.int .u64 z.1, Value.int .u64 z.2] := by simp [List.getD, hz]
    rw [hg]
    exact pair_cells ht
  have := p10_cells p10_length hp hd
  rw [hv]
  refine congrArg some (Array.toList_inj.1 ?_)
  rw [this, List.flatMap_def]
theorem met_syn : ∃ te pe, W.var? Tryz.prog "strconv.ErrSyntax" = some #[.iface te pe] := by
  have h' := h.tail.tail.tail.tail.tail.tail.tail.tail.tail.tail.tail
  obtain ⟨a0, s0, hv0, -, -, -⟩ := laid_sentinel h' gSyn tSyn Tryz.underlying47 row196 Tryz.underlying196 Tryz.underlying198 rfl rfl Tryz.underlying9 cells198 cells9
  exact ⟨_, _, hv0⟩
theorem met_rng : ∃ te pe, W.var? Tryz.prog "strconv.ErrRange" = some #[.iface te pe] := by
  have h' := h.tail.tail.tail.tail.tail.tail.tail.tail.tail.tail
  obtain ⟨a0, s0, hv0, -, -, -⟩ := laid_sentinel h' gRng tRng Tryz.underlying47 row196 Tryz.underlying196 Tryz.underlying198 rfl rfl Tryz.underlying9 cells198 cells9
  exact ⟨_, _, hv0⟩
theorem laid_of_met : Laid W :=
  ⟨met_size h, met_syn h, met_rng h, met_opt h, met_inf h, met_u10 h, met_f10 h, met_p10 h, met_db h⟩
end
end Go.Proofs.YtjpiplplohapnaaGreatDoor
namespace Go.Proofs.YtjpiplplohapnaaGreatDoor
open Go.RowKit
theorem gLc : Tryz.prog.globalNamed "internal/strconv.leftcheats" = some 12 := by kernel_rfl
theorem tLc : (Tryz.prog.globals[12]?).map (·.type) = some 231 := by kernel_rfl
theorem cells230 : Tryz.prog.cellsOf 230 = 2 := by kernel_rfl
theorem cells9c : Tryz.prog.cellsOf 9 = 1 := by kernel_rfl
theorem cells3c : Tryz.prog.cellsOf 3 = 1 := by kernel_rfl
theorem pair_cell {w : World} {base : Nat} {a : Addr} {c0 c1 : Value} (h : w.cells? base a 2 = some [c0, c1]) : w.cell? a = some c0 ∧ w.cell? ⟨a.block, a.off + 1, none⟩ = some c1 := by
  have e0 : a.add 0 = a := by simp [Addr.add]
  have e1 : a.add 1 = ⟨a.block, a.off + 1, none⟩ := by simp [Addr.add]
  unfold World.cells? at h
  split at h
  · simp only [List.range_succ, List.range_zero, List.nil_append, List.cons_append, List.mapM_cons, List.mapM_nil, e0, e1] at h
    cases hcc : w.cell? a with
    | none => simp [hcc] at h
    | some c =>
      cases hcd : w.cell? ⟨a.block, a.off + 1, none⟩ with
      | none => simp [hcc, hcd] at h
      | some c' => simp [hcc, hcd] at h; rw [h.1, h.2]; exact ⟨rfl, rfl⟩
  · cases h
theorem two_of {α : Type} : ∀ {l : List α}, l.length = 2 → ∃ a b, l = [a, b]
  | [a, b], _ => ⟨a, b, rfl⟩
theorem int_str_cells {w : World} {base : Nat} {sp : Nat → Bool} {fuel : Nat} {cs : List Value} {x : Int} {l : List UInt8} {p : List MemPlace}
    (h : DataW.trod (fun _ => ()) Tryz.prog w base sp false fuel 230 cs = some (.agg [.lit (.int .i64 x), .lit (.string l)], p)) : cs = [.int .i64 x, .string ⟨l.toArray⟩] := by
  obtain ⟨xs, m, -, hx, hlen, hxl, hel⟩ := DataW.trod_struct Tryz.underlying230 h
  rw [cells230] at hlen
  have h0 := hel 0 _ rfl
  have h1 := hel 1 _ rfl
  match xs, hxl, hx, h0, h1 with
  | [x0, x1], _, hx, h0, h1 =>
    simp only [List.map_cons, List.map_nil, Prod.mk.injEq, DataW.agg.injEq, List.cons.injEq, and_true] at hx
    obtain ⟨⟨e0, e1⟩, -⟩ := hx
    simp only [List.getElem?_cons_zero, List.getElem?_cons_succ] at h0 h1
    obtain ⟨k0, c0, d0, -⟩ := DataW.trod_int Tryz.underlying3 h0
    obtain ⟨k1, c1, d1, -⟩ := DataW.trod_string Tryz.underlying9 h1
    subst d0; subst d1
    cases e0
    have e1' : l = k1.data.toList := Lit.string.inj (DataW.lit.inj e1)
    change (cs.drop 0).take (Tryz.prog.cellsOf 3) = _ at c0
    change (cs.drop 1).take (Tryz.prog.cellsOf 9) = _ at c1
    rw [cells3c] at c0
    rw [cells9c] at c1
    obtain ⟨a, b, hab⟩ := two_of hlen
    rw [hab] at c0 c1 ⊢
    have c0' : a = Value.int .i64 x := (List.cons.inj c0).1
    have c1' : b = Value.string k1 := (List.cons.inj c1).1
    rw [c0', c1', e1']
theorem cheats_length : Pinned.cheatRows.length = 61 := by decide +kernel
theorem met_cheats {W : World} (h : laidMet Tryz.prog laidL W) : Cheats W := by
  obtain ⟨cs, fuel, p, hv, hd⟩ := laid_at' h (n := "internal/strconv.leftcheats") (d := Rows.laid_internal_strconv_leftcheats) (by simp [laidL, Rows.textIntsRow]) gLc tLc
  have e : (Rows.laid_internal_strconv_leftcheats : DataW Unit) = .slice (Pinned.cheatRows.map fun x => .agg [.lit (.int .i64 x.1), .lit (.string x.2)]) [] := rfl
  rw [e] at hd
  rcases DataW.trod_slice Tryz.underlying231 hd with ⟨_, hx⟩ | ⟨a, len, cap, elems, rest, n, _, hcs, hx, _, hl, _, hlen, hel, hsp, _⟩
  · simp at hx
  · simp only [Prod.mk.injEq, DataW.slice.injEq] at hx
    obtain ⟨⟨hE, hR⟩, -⟩ := hx
    have hr : rest = [] := List.map_eq_nil_iff.1 hR.symm
    subst hr
    have hc := (hsp rfl).1
    have hlen61 : len = 61 := by
      have h1 := congrArg List.length hE
      rw [List.length_map, List.length_map, cheats_length] at h1
      omega
    subst hlen61
    have hcap : cap = 61 := by simp at hc; omega
    subst hcap
    have hcell : W.cell? ⟨12, 0, none⟩ = some (.slice (some a) 61 61) := by
      have h2 : W.var? Tryz.prog "internal/strconv.leftcheats" = some #[.slice (some a) 61 61] := by rw [hv, Array.eq_one_of_toList hcs]
      have := World.var?_cell gLc h2 0
      simpa using this
    refine ⟨a, hcell, fun k x hx => ?_⟩
    have hk : k < 61 := by
      have := (List.getElem?_eq_some_iff.1 hx).1
      rw [cheats_length] at this
      exact this
    have h1 := hel k hk
    rw [cells230] at h1
    obtain ⟨y, hy⟩ : ∃ y, elems[k]? = some y := ⟨_, List.getElem?_eq_getElem (by omega)⟩
    rw [hy] at h1
    obtain ⟨c1, hc1, hy1⟩ := Option.bind_eq_some_iff.1 h1
    have hd1 : (elems.map (·.1))[k]? = some (DataW.agg [.lit (.int .i64 x.1), .lit (.string x.2)]) := by
      rw [← hE, List.getElem?_map, hx]; rfl
    rw [List.getElem?_map, hy] at hd1
    have hy2 : y.1 = DataW.agg [.lit (.int .i64 x.1), .lit (.string x.2)] := by simpa using hd1
    have hy3 : y = (DataW.agg [.lit (.int .i64 x.1), .lit (.string x.2)], y.2) := by rw [← hy2]
    rw [hy3] at hy1
    have hcc := int_str_cells hy1
    rw [hcc] at hc1
    exact pair_cell hc1
def powTab : List Nat := [1, 3, 6, 9, 13, 16, 19, 23, 26]
def PowT (w : World) : Prop := ∃ a : Addr, w.cell? ⟨9, 0, none⟩ = some (.slice (some a) 9 9) ∧ ∀ i, i < 9 → w.cell? (a.add i) = some (.int .i64 (powTab.getD i 0 : Nat))
theorem PowT.below {w w' : World} (h : PowT w) (hb : Below w.heap.size w w') : PowT w' := by
  obtain ⟨a, h1, h2⟩ := h
  exact ⟨a, (hb.cell (World.block_lt_of_cell? w _ h1)).trans h1, fun i hi => (hb.cell (World.block_lt_of_cell? w _ (h2 i hi))).trans (h2 i hi)⟩
end Go.Proofs.YtjpiplplohapnaaGreatDoor
