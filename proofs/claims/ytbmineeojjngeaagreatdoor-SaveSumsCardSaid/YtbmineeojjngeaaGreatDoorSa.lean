/- SaveSums: the reference's sum of a text. -/
import Derived.Test.YtbmineeojjngeaaGreatDoorProg
import Derived.ProofKit
import Derived.WalkLawsBesides
import Derived.WalkSpells
import Derived.WalkMore
import Derived.Outline
import Derived.Lib.Hide
import Derived.LoopTactic
import Derived.Below
import Derived.Deep.CutBlock
import Derived.Deep.DeepCutAuto
namespace Go.Proofs.YtbmineeojjngeaaGreatDoor
open Go.RowKit
/-- one bit's step -/
def st (u : Nat) : Nat := if u % 2 = 1 then (u / 2) ^^^ 3988292384 else u / 2
/-- k steps -/
def sts : Nat → Nat → Nat
  | 0, u => u
  | k + 1, u => sts k (st u)
theorem xor_half (x y : Nat) : (x ^^^ y) / 2 = x / 2 ^^^ y / 2 := by
  have h := Nat.shiftRight_xor_distrib (a := x) (b := y) (i := 1)
  simpa [Nat.shiftRight_succ] using h
theorem xor_byte (x y : Nat) : (x ^^^ y) / 256 = x / 256 ^^^ y / 256 := by
  have h := Nat.shiftRight_xor_distrib (a := x) (b := y) (i := 8)
  simpa [Nat.shiftRight_eq_div_pow] using h
theorem xor_low (x y : Nat) : (x ^^^ y) % 256 = (x % 256) ^^^ (y % 256) := by
  have h := Nat.xor_mod_two_pow (a := x) (b := y) (n := 8)
  simpa using h
theorem xor_bit (x y : Nat) : (x ^^^ y) % 2 = (x % 2) ^^^ (y % 2) := by
  have h := Nat.xor_mod_two_pow (a := x) (b := y) (n := 1)
  simpa using h
theorem st_xor (x y : Nat) : st (x ^^^ y) = st x ^^^ st y := by
  unfold st
  rw [xor_bit, xor_half]
  rcases Nat.mod_two_eq_zero_or_one x with hx | hx <;> rcases Nat.mod_two_eq_zero_or_one y with hy | hy <;> rw [hx, hy]
  · simp
  · simp [Nat.xor_assoc]
  · simp only [Nat.xor_zero, if_pos]
    rw [if_neg (by decide), Nat.xor_assoc, Nat.xor_comm (y / 2), ← Nat.xor_assoc]
  · rw [if_neg (by decide), if_pos rfl, if_pos rfl]
    rw [Nat.xor_assoc, ← Nat.xor_assoc 3988292384, Nat.xor_comm 3988292384, Nat.xor_assoc (y / 2), Nat.xor_self, Nat.xor_zero]
theorem sts_xor : ∀ k x y, sts k (x ^^^ y) = sts k x ^^^ sts k y
  | 0, _, _ => rfl
  | k + 1, x, y => by
    show sts k (st (x ^^^ y)) = _
    rw [st_xor, sts_xor k]
    rfl
theorem sts_shift : ∀ k h, sts k (2 ^ k * h) = h
  | 0, h => by show 1 * h = h; omega
  | k + 1, h => by
    show sts k (st (2 ^ (k + 1) * h)) = h
    have e : st (2 ^ (k + 1) * h) = 2 ^ k * h := by
      unfold st
      rw [Nat.pow_succ, Nat.mul_comm (2 ^ k) 2, Nat.mul_assoc, if_neg (by omega)]
      omega
    rw [e, sts_shift k]
theorem parts (x : Nat) : x = (256 * (x / 256)) ^^^ (x % 256) := by
  apply Nat.eq_of_testBit_eq
  intro i
  rw [Nat.testBit_xor]
  have h1 : Nat.testBit (x % 256) i = (decide (i < 8) && x.testBit i) := by
    have := Nat.testBit_mod_two_pow x 8 i
    simpa using this
  have h2 : Nat.testBit (256 * (x / 256)) i = (decide (8 ≤ i) && x.testBit i) := by
    have := Nat.testBit_two_pow_mul (a := x / 256) (i := 8) (j := i)
    rw [show (2 : Nat) ^ 8 = 256 by decide] at this
    rw [this]
    by_cases h : 8 ≤ i
    · rw [decide_eq_true h]
      have h3 := Nat.testBit_div_two_pow (x := x) (i := i - 8) (n := 8)
      rw [show (2 : Nat) ^ 8 = 256 by decide, show i - 8 + 8 = i by omega] at h3
      simp [h3]
    · simp [h]
  rw [h1, h2]
  by_cases h : 8 ≤ i
  · simp [h, show ¬ i < 8 by omega]
  · simp [h, show i < 8 by omega]
/-- one byte: the table's way. -/
theorem byte_step (c b : Nat) (hb : b < 256) : sts 8 (c ^^^ b) = c / 256 ^^^ sts 8 ((c % 256) ^^^ b) := by
  have h := parts (c ^^^ b)
  rw [xor_byte, xor_low, Nat.mod_eq_of_lt hb, Nat.div_eq_of_lt hb, Nat.xor_zero] at h
  rw [h, sts_xor 8 (256 * (c / 256))]
  have h3 := sts_shift 8 (c / 256)
  rw [show (2 : Nat) ^ 8 = 256 by decide] at h3
  rw [h3]
theorem st_lt {u : Nat} (h : u < 4294967296) : st u < 4294967296 := by
  unfold st
  have h2 : u / 2 < 2 ^ 32 := by omega
  by_cases e : u % 2 = 1
  · rw [if_pos e]; exact Nat.xor_lt_two_pow h2 (by decide)
  · rw [if_neg e]; exact h2
theorem sts_lt : ∀ k {u : Nat}, u < 4294967296 → sts k u < 4294967296
  | 0, _, h => h
  | k + 1, _, h => sts_lt k (st_lt h)
/-- the sum before its last turn -/
def crcs : Nat → List UInt8 → Nat
  | c, [] => c
  | c, b :: r => crcs (sts 8 (c ^^^ b.toNat)) r

theorem xor_u32 (x y : Nat) (hx : x < 4294967296) (hy : y < 4294967296) : bits .xor .u32 (x : Int) (y : Int) = ((x ^^^ y : Nat) : Int) := by
  have h : x ^^^ y < 4294967296 := Nat.xor_lt_two_pow (n := 32) hx hy
  have e : bits .xor .u32 (x : Int) (y : Int) = IntKind.u32.wrap (((BitVec.ofInt 32 (x : Int)) ^^^ (BitVec.ofInt 32 (y : Int))).toNat : Int) := rfl
  rw [e, BitVec.toNat_xor, BitVec.ofInt_natCast, BitVec.ofInt_natCast, BitVec.toNat_ofNat, BitVec.toNat_ofNat, Nat.mod_eq_of_lt (by omega), Nat.mod_eq_of_lt (by omega)]
  generalize x ^^^ y = z at *
  rw [Go.IntKind.wrap_u32]; omega
theorem and_one (x : Nat) (hx : x < 4294967296) : bits .and .u32 (x : Int) 1 = ((x % 2 : Nat) : Int) := by
  have e : bits .and .u32 (x : Int) ((1 : Nat) : Int) = IntKind.u32.wrap (((BitVec.ofInt 32 (x : Int)) &&& (BitVec.ofInt 32 ((1 : Nat) : Int))).toNat : Int) := rfl
  rw [BitVec.toNat_and, BitVec.ofInt_natCast, BitVec.ofInt_natCast, BitVec.toNat_ofNat, BitVec.toNat_ofNat, Nat.mod_eq_of_lt (by omega), Nat.mod_eq_of_lt (by omega), Nat.and_one_is_mod] at e
  refine e.trans ?_
  rw [Go.IntKind.wrap_u32]; omega
/-- the sum of a text -/
def crc (s : ByteArray) : Nat := 4294967295 ^^^ crcs 4294967295 s.data.toList
theorem crcs_drop (s : ByteArray) (C i : Nat) (hi : i < s.size) : crcs C (s.data.toList.drop i) = crcs (sts 8 (C ^^^ s[i].toNat)) (s.data.toList.drop (i + 1)) := by
  have h : s.data.toList.drop i = s[i] :: s.data.toList.drop (i + 1) := List.drop_eq_getElem_cons (by rw [Array.length_toList]; exact hi)
  rw [h]; rfl
set_option maxRecDepth 100000 in
theorem refSum_walk (s : ByteArray) (hs : s.size < 4611686018427387904) (w : World) : Calls Tryz.prog 5 #[.string s] w fun e w' => e = .returned (.int .u32 (crc s : Int)) ∧ w = w' := by
  go_enter Tryz.func5, Tryz.ntmps5
  go_upto_block 0 with (fail)
  go_cut [3, 4, 5, 6] (fun v3 v4 v5 v6 w' => ∃ C : Nat, v3 = .int .u32 C ∧ Hid (C = crcs 4294967295 s.data.toList ∧ C < 4294967296) ∧ w = w')
  case first =>
    go_wp2_with fail
    go_loopg [3, 4, 5, 6] s.size (fun gn v3 v4 v5 v6 w' => ∃ (C i : Nat), v3 = .int .u32 C ∧ v4 = .int .i64 i ∧ Hid (gn + i = s.size ∧ C < 4294967296 ∧ crcs C (s.data.toList.drop i) = crcs 4294967295 s.data.toList) ∧ w = w')
    case atStart => exact ⟨4294967295, 0, rfl, rfl, Lib.hid ⟨by omega, by decide, rfl⟩, rfl⟩
    case round =>
      obtain ⟨C, i, rfl, rfl, hH, hww⟩ := hrel
      subst hww
      obtain ⟨q1, q2, q3⟩ := hH.out
      by_cases hi : i < s.size
      · have g1 : (i : Int) < s.size := by omega
        clear hH
        have hbl : s[i].toNat < 256 := s[i].toNat_lt
        have hx : C ^^^ s[i].toNat < 4294967296 := Nat.xor_lt_two_pow (n := 32) q2 (by omega)
        have w1 : Go.bits .xor .u32 (C : Int) (s[i].toNat : Int) = ((C ^^^ s[i].toNat : Nat) : Int) := by
          exact xor_u32 C s[i].toNat q2 (by omega)
        go_upto_block 2 with (fail)
        obtain ⟨C0, hC0⟩ : ∃ C0, C0 = C ^^^ s[i].toNat := ⟨_, rfl⟩
        rw [← hC0] at hx
        first | rw [← hC0] | skip
        have H0 : Hid (gk + i = s.size ∧ crcs C (s.data.toList.drop i) = crcs 4294967295 s.data.toList ∧ C0 = C ^^^ s[i].toNat) := Lib.hid ⟨q1, q3, hC0⟩
        have HX := Lib.hid hx
        obtain ⟨GK, hGK⟩ : ∃ GK, GK = gk - 1 := ⟨_, rfl⟩
        have HG : Hid (GK < gk ∧ GK + (i + 1) = s.size ∧ crcs (sts 8 C0) (s.data.toList.drop (i + 1)) = crcs 4294967295 s.data.toList) := Lib.hid ⟨by omega, by omega, by rw [← q3, crcs_drop s C i hi, hC0]⟩
        clear hGK
        clear w1 hbl q1 q2 q3 hx
        go_wp2_with fail
        go_loopg [3, 5, 6] 8 (fun gn v3 v5 v6 w' => ∃ (D k : Nat), v3 = .int .u32 D ∧ v5 = .int .i64 k ∧ Hid (gn + k = 8 ∧ D < 4294967296 ∧ sts (8 - k) D = sts 8 C0) ∧ w = w')
        case atStart => exact ⟨C0, 0, by first | rfl | (rw [hC0]), rfl, Lib.hid ⟨by omega, HX.out, rfl⟩, rfl⟩
        case round =>
          obtain ⟨D, k, rfl, rfl, hH, hww⟩ := hrel
          subst hww
          obtain ⟨q1, q2, q3⟩ := hH.out
          by_cases hk : k < 8
          · have g1 : (k : Int) < 8 := by omega
            clear hH
            have px := xor_u32 (D / 2) 3988292384 (by omega) (by decide)
            have HS : Hid (gk - 1 < gk ∧ gk - 1 + (k + 1) = 8 ∧ st D < 4294967296 ∧ sts (8 - (k + 1)) (st D) = sts 8 C0) := Lib.hid ⟨by omega, by omega, st_lt q2, by rw [← q3, show 8 - k = 8 - (k + 1) + 1 by omega]; rfl⟩
            have HS1 : Hid (D % 2 = 1 → st D = (D / 2) ^^^ 3988292384) := Lib.hid fun h => if_pos h
            have HS0 : Hid (¬ D % 2 = 1 → st D = D / 2) := Lib.hid fun h => if_neg h
            have HS2 := q2
            clear HG H0 q1 q2 q3 HX
            have px2 : bits .xor .u32 ((D : Int) / 2) 3988292384 = ((D / 2 ^^^ 3988292384 : Nat) : Int) := by
              have h : ((D : Int) / 2) = ((D / 2 : Nat) : Int) := by omega
              rw [h]; exact px
            by_cases hb : D % 2 = 1
            · have m1 : (D : Int) % 2 = 1 := by omega
              have p1 : bits .and .u32 (D : Int) 1 = 1 := by rw [and_one D HS2]; omega
              clear m1
              have e1 := HS1.out hb
              rw [e1] at HS
              clear hb e1 HS1 HS0 px
              obtain ⟨Y, hY⟩ : ∃ Y, Y = D / 2 ^^^ 3988292384 := ⟨_, rfl⟩
              rw [← hY] at HS px2
              clear hY
              go_wp2_with fail
              go_roundg (gk - 1)
              case measure => exact HS.out.1
              case rel => exact ⟨Y, k + 1, by first | rfl | exact congrArg (Value.int .u32) px2, by first | rfl | go_num, Lib.hid HS.out.2, rfl⟩
            · have m1 : (D : Int) % 2 = 0 := by omega
              have p1 : bits .and .u32 (D : Int) 1 = 0 := by rw [and_one D HS2]; omega
              clear m1
              have e0 := HS0.out hb
              rw [e0] at HS
              clear hb e0 HS1 HS0 px px2
              go_wp2_with fail
              go_roundg (gk - 1)
              case measure => exact HS.out.1
              case rel => exact ⟨D / 2, k + 1, by first | rfl | go_num, by first | rfl | go_num, Lib.hid HS.out.2, rfl⟩
          · have g1 : ¬ (k : Int) < 8 := by omega
            have g1b : decide ((k : Int) < 8) = false := decide_eq_false g1
            have hk8 : k = 8 := by omega
            subst hk8
            have HR : Hid (D = sts 8 C0 ∧ D < 4294967296) := Lib.hid ⟨q3, q2⟩
            have wi : wrap64 ((i : Int) + 1) = ((i + 1 : Nat) : Int) := by unfold wrap64; omega
            clear hH q1 q2 q3 hk
            go_wp2_with fail
            go_roundg GK
            case measure => exact HG.out.1
            case rel => exact ⟨D, i + 1, rfl, by first | rfl | (rw [wi]) | go_num, Lib.hid ⟨HG.out.2.1, HR.out.2, by rw [HR.out.1]; exact HG.out.2.2⟩, rfl⟩
      · have g1 : ¬ (i : Int) < s.size := by omega
        have g1b : decide ((i : Int) < (s.size : Int)) = false := decide_eq_false g1
        have HR : Hid (C = crcs 4294967295 s.data.toList ∧ C < 4294967296) := Lib.hid ⟨by rw [← q3, List.drop_of_length_le (by rw [Array.length_toList]; show s.size ≤ i; omega)]; rfl, q2⟩
        clear hH q1 q2 q3 hi
        go_wp2_with fail
        go_meet
        case rel => exact ⟨C, rfl, HR, rfl⟩
  case rest =>
    obtain ⟨C, rfl, hH, hww⟩ := hcut
    subst hww
    go_step
    have hx : bits .xor .u32 IntKind.u32.max (C : Int) = (crc s : Int) := by
      have h := xor_u32 4294967295 C (by decide) hH.out.2
      unfold crc
      rw [← hH.out.1]
      exact h
    have hsg : IntKind.u32.signed = false := rfl
    clear hH
    go_wp2_with fail
    all_goals go_ret
    all_goals exact ⟨rfl, rfl⟩
end Go.Proofs.YtbmineeojjngeaaGreatDoor
