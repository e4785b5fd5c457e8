/- SaveSums: the table and the sum of a text. -/
import Derived.Test.YtbmineeojjngeaaGreatDoorSa
import Derived.WalkKit
import Derived.OwnWalk
import Derived.OneCell
namespace Go.Proofs.YtbmineeojjngeaaGreatDoor
open Go.RowKit
/-- the table as far as it is filled -/
def tab (i : Nat) : List Value := (List.range 256).map fun j => .int .u32 (if j < i then (sts 8 j : Int) else 0)
theorem tab_len (i : Nat) : (tab i).length = 256 := by simp [tab]
theorem tab_get (i j : Nat) (h : j < 256) : (tab i)[j]? = some (.int .u32 (if j < i then (sts 8 j : Int) else 0)) := by
  unfold tab
  rw [List.getElem?_map, List.getElem?_range h]
  rfl
theorem tab_zero : tab 0 = List.replicate 256 (.int .u32 0) := by
  apply List.ext_getElem?
  intro j
  by_cases h : j < 256
  · rw [tab_get 0 j h, List.getElem?_replicate, if_pos h]
    rfl
  · rw [List.getElem?_eq_none (by rw [tab_len]; omega), List.getElem?_eq_none (by rw [List.length_replicate]; omega)]
theorem tab_succ (i : Nat) (h : i < 256) : tab (i + 1) = (tab i).set i (.int .u32 (sts 8 i : Int)) := by
  apply List.ext_getElem?
  intro j
  by_cases h2 : j < 256
  · rw [tab_get (i + 1) j h2, List.getElem?_set]
    by_cases e : i = j
    · subst e
      rw [if_pos rfl, if_pos (Nat.lt_succ_self i), if_pos (by rw [tab_len]; exact h)]
    · rw [if_neg e, tab_get i j h2]
      by_cases e2 : j < i
      · rw [if_pos e2, if_pos (by omega)]
      · rw [if_neg e2, if_neg (by omega)]
  · rw [List.getElem?_eq_none (by rw [tab_len]; omega), List.getElem?_eq_none (by rw [List.length_set, tab_len]; omega)]
theorem info22 : (Tryz.prog.info? 22).map (fun i => (i.zero, i.size, i.bytes)) = some (some (.int .u32 0), 1, 4) := by kernel_rfl
theorem sts_out : ∀ k x, sts (k + 1) x = st (sts k x)
  | 0, _ => rfl
  | k + 1, x => by
    show sts (k + 1) (st x) = st (sts k (st x))
    exact sts_out k (st x)
/-- what the table's block holds -/
def TabAt (B : Nat) (i : Nat) (w : World) : Prop := w.ownsRow B 22 1 (.slice (some ⟨B, 0, none⟩) 256 256) 256 (tab i)
set_option maxRecDepth 100000 in
theorem table_walk (w : World) : Calls Tryz.prog 7 #[] w fun e w' => e = .returned (.slice (some ⟨w.heap.size, 0, none⟩) 256 256) ∧ Below w.heap.size w w' ∧ TabAt w.heap.size 256 w' := by
  obtain ⟨i0, hi, hz0, hz1, hz2⟩ := info_parts info22
  obtain ⟨w0, hrun, hown, hgrow⟩ := run_make_full (P := Tryz.prog) w w.heap.size 26 22 i0 (.int .u32 0) 1 Tryz.underlying26 hi hz0 hz1 .i64 .i64 256 (by rw [hz2]; decide) (by decide) (Nat.le_refl _)
  have hT0 : TabAt w.heap.size 0 w0 := by
    unfold TabAt
    rw [tab_zero, ← toList_madeCells_one]
    exact hown
  have hb0 : Below w.heap.size w w0 := (Below.refl _ _).grown hgrow (Nat.le_refl _) (fun k h => by cases h)
  clear hown hgrow hi hz0 hz1 hz2
  have hrun' : (Instr.makeSlice 26 (.int .i64 256) (.int .i64 256)).run Tryz.prog w = .ok (.slice (some ⟨w.heap.size, 0, none⟩) 256 256) w0 := hrun
  clear hrun
  have HT := Lib.hid hT0
  have HB := Lib.hid hb0
  clear hT0 hb0
  generalize hBB : w.heap.size = B at *
  clear hBB
  go_enter Tryz.func7, Tryz.ntmps7
  go_wp2_with fail
  go_loopg [2, 3, 7] 256 (fun gn v2 v3 v7 w' => ∃ i : Nat, v7 = .int .i64 i ∧ Hid (gn + i = 256 ∧ Below B w w' ∧ TabAt B i w'))
  case atStart => exact ⟨0, rfl, Lib.hid ⟨by omega, HB.out, HT.out⟩⟩
  case round =>
    obtain ⟨i, rfl, hH⟩ := hrel
    clear HB HT hrun'
    obtain ⟨q1, q2, q3⟩ := hH.out
    clear hH
    by_cases hi : i < 256
    · have g1 : (i : Int) < 256 := by omega
      obtain ⟨GK, hGK⟩ : ∃ GK, GK = gk - 1 := ⟨_, rfl⟩
      have HX := Lib.hid (show GK < gk ∧ GK + (i + 1) = 256 by omega)
      clear hGK
      have HQ := Lib.hid (show Below B w wr ∧ TabAt B i wr from ⟨q2, q3⟩)
      have hi32 : (i : Int) < 4294967296 := by omega
      clear q1 q2 q3
      have HA := Lib.hid (show sts 8 i = sts 8 i from rfl)
      have hilt : i < 4294967296 := by omega
      have HI := Lib.hid hilt
      go_wp2_with fail
      go_loopg [3, 12] 8 (fun gn v3 v12 w' => ∃ (D k : Nat), v3 = .int .u32 D ∧ v12 = .int .i64 k ∧ Hid (gn + k = 8 ∧ D < 4294967296 ∧ sts (8 - k) D = sts 8 i) ∧ wr = w')
      case atStart => exact ⟨i, 0, rfl, rfl, Lib.hid ⟨by omega, hilt, rfl⟩, rfl⟩
      case round =>
        obtain ⟨D, k, rfl, rfl, hH, hww⟩ := hrel
        subst hww
        obtain ⟨q1, q2, q3⟩ := hH.out
        clear hilt HA
        by_cases hk : k < 8
        · have g2 : (k : Int) < 8 := by omega
          clear hH
          have px := xor_u32 (D / 2) 3988292384 (by omega) (by decide)
          have HS : Hid (gk - 1 < gk ∧ gk - 1 + (k + 1) = 8 ∧ st D < 4294967296 ∧ sts (8 - (k + 1)) (st D) = sts 8 i) := Lib.hid ⟨by omega, by omega, st_lt q2, by rw [← q3, show 8 - k = 8 - (k + 1) + 1 by omega]; rfl⟩
          have HS1 : Hid (D % 2 = 1 → st D = (D / 2) ^^^ 3988292384) := Lib.hid fun h => if_pos h
          have HS0 : Hid (¬ D % 2 = 1 → st D = D / 2) := Lib.hid fun h => if_neg h
          have HS2 := q2
          clear q1 q2 q3
          have px2 : bits .xor .u32 ((D : Int) / 2) 3988292384 = ((D / 2 ^^^ 3988292384 : Nat) : Int) := by
            have h : ((D : Int) / 2) = ((D / 2 : Nat) : Int) := by omega
            rw [h]; exact px
          by_cases hb : D % 2 = 1
          · have m1 : (D : Int) % 2 = 1 := by omega
            have p1 : bits .and .u32 (D : Int) 1 = 1 := by rw [and_one D HS2]; omega
            clear m1
            have e1 := HS1.out hb
            rw [e1] at HS
            clear hb e1 HS1 HS0 px
            obtain ⟨Y, hY⟩ : ∃ Y, Y = D / 2 ^^^ 3988292384 := ⟨_, rfl⟩
            rw [← hY] at HS px2
            clear hY
            go_wp2_with fail
            go_roundg (gk - 1)
            case measure => exact HS.out.1
            case rel => exact ⟨Y, k + 1, by first | rfl | exact congrArg (Value.int .u32) px2, by first | rfl | go_num, Lib.hid HS.out.2, rfl⟩
          · have m1 : (D : Int) % 2 = 0 := by omega
            have p1 : bits .and .u32 (D : Int) 1 = 0 := by rw [and_one D HS2]; omega
            clear m1
            have e0 := HS0.out hb
            rw [e0] at HS
            clear hb e0 HS1 HS0 px px2
            go_wp2_with fail
            go_roundg (gk - 1)
            case measure => exact HS.out.1
            case rel => exact ⟨D / 2, k + 1, by first | rfl | go_num, by first | rfl | go_num, Lib.hid HS.out.2, rfl⟩
        · have g2 : ¬ (k : Int) < 8 := by omega
          have g2b : decide ((k : Int) < 8) = false := decide_eq_false g2
          have hk8 : k = 8 := by omega
          subst hk8
          have HR : Hid (D = sts 8 i ∧ D < 4294967296) := Lib.hid ⟨q3, q2⟩
          have hc1 : wr.cell? ⟨B, i, none⟩ = some (.int .u32 0) := by
            have h := HQ.out.2.cellAt i (by omega)
            rw [tab_get i i hi, if_neg (by omega)] at h
            exact h
          have hf1 : wr.frozen? ⟨B, i, none⟩ = false := HQ.out.2.frozenAt i
          clear hH q1 q2 q3 hk
          have HN : Hid (Below B w (wr.setCell ⟨B, i, none⟩ (.int .u32 (D : Int))) ∧ TabAt B (i + 1) (wr.setCell ⟨B, i, none⟩ (.int .u32 (D : Int)))) := by
            refine Lib.hid ⟨HQ.out.1.setCell (Nat.le_refl _) _, ?_⟩
            unfold TabAt
            rw [tab_succ i hi, HR.out.1]
            exact (HQ.out.2.stored i _).1
          go_wp2_with fail
          go_roundg GK
          case measure => exact HX.out.1
          case rel => exact ⟨i + 1, by first | rfl | go_num, Lib.hid ⟨HX.out.2, HN.out⟩⟩
    · have hi256 : i = 256 := by omega
      subst hi256
      have g1 : ¬ ((256 : Nat) : Int) < 256 := by omega
      have HQ := Lib.hid (show Below B w wr ∧ TabAt B 256 wr from ⟨q2, q3⟩)
      clear q1 q2 q3 hi
      go_wp2_with fail
      go_ret
      exact ⟨rfl, HQ.out⟩
end Go.Proofs.YtbmineeojjngeaaGreatDoor
