/- Part 8 of the proof: AwG, AwH, GA, GB, TInt, GH, GI, LHex. -/
import Derived.Test.YtjpiplplohapnaaGreatDoorPr7
import Derived.Laws.BytesString
import Derived.Laws.BitsAllLaws
import Derived.LoopTactic
set_option linter.unusedVariables false
set_option linter.unusedSimpArgs false
namespace Go.Proofs.YtjpiplplohapnaaGreatDoor
open Go.RowKit Go.Sort Go.Proofs.YtjpiplplohapnaaGreatDoorW.PrintWords
set_option maxRecDepth 100000 in
set_option maxHeartbeats 1000000 in
theorem iformat_375 (w : World) (hL : Laid w) :
    Calls Tryz.prog 67 #[.float .f64 4600427019358961664, .int .u8 102, .int .i64 2, .int .i64 64] w fun e w' => e = .returned (.string ⟨#[48, 46, 51, 56]⟩) ∧ Below w.heap.size w w' := by
  have m1 : max (6 : Int) 24 = 24 := by decide
  have hmk : ∀ W, (Instr.makeSlice 94 (.int .i64 0) (.int .i64 24)).run Tryz.prog W = .ok (.slice (some ⟨W.heap.size, 0, none⟩) 0 24) (W.alloc (.cells (Array.replicate 24 (.int .u8 0)) 5)) := fun W => by kernel_rfl
  go_enter Tryz.func67, Tryz.ntmps67
  go_wp2_with fail
  have hs17 := hL.size
  refine (ftoa_375 _ (hL.below ((Below.refl _ _).alloc (Nat.le_refl _) _)) w.heap.size w.heap.size (Nat.le_refl _) 5 (.int .u8 0) (blk_new _ _) hs17 (by simp)).mono ?_
  rintro e w2 ⟨rfl, hb2, r0, r1, r2, r3⟩
  have hcv : (convert 94 9 (.slice (some ⟨w.heap.size, 0, none⟩) 4 24)).run Tryz.prog w2 = .ok (.string ⟨#[48, 46, 51, 56]⟩) w2 := by
    rw [run_convert_bytes_string w2 94 9 5 _ 4 24 Tryz.underlying94 Tryz.underlying5 Tryz.underlying9]
    rw [run_bytesToString w2 _ 4 24 [48, 46, 51, 56] (by simp [loadCells, r0, r1, r2, r3, go_sem])]
    rfl
  go_wp2_with fail
  go_ret
  exact ⟨rfl, ((Below.refl _ _).alloc (Nat.le_refl _) _).trans hb2⟩
set_option maxHeartbeats 1000000 in
theorem sformat_375 (w : World) (hL : Laid w) :
    Calls Tryz.prog 31 #[.float .f64 4600427019358961664, .int .u8 102, .int .i64 2, .int .i64 64] w fun e w' => e = .returned (.string ⟨#[48, 46, 51, 56]⟩) ∧ Below w.heap.size w w' := by
  go_enter Tryz.func31, Tryz.ntmps31
  go_wp2_with fail
  refine (iformat_375 _ hL).mono ?_
  rintro e w1 ⟨rfl, hb1⟩
  go_wp2_with fail
  go_ret
  exact ⟨rfl, hb1⟩
set_option maxRecDepth 100000 in
set_option maxHeartbeats 1000000 in
theorem print_375 (w : World) (hL : Laid w) :
    Calls Tryz.prog 14 #[.float .f64 4600427019358961664, .int .i64 2] w fun e w' => e = .returned (.tuple #[.string ⟨#[48, 46, 51, 56]⟩, .int .i64 0]) ∧ Below w.heap.size w w' := by
  go_enter Tryz.func14, Tryz.ntmps14
  go_wp2_with fail
  refine (number_375 _).mono ?_
  rintro e w1 ⟨rfl, rfl⟩
  go_wp2_with fail
  refine (sformat_375 _ hL).mono ?_
  rintro e w2 ⟨rfl, hb2⟩
  go_wp2_with fail
  go_ret2
  exact ⟨rfl, hb2⟩
end Go.Proofs.YtjpiplplohapnaaGreatDoor
namespace Go.Proofs.YtjpiplplohapnaaGreatDoor
open Go.RowKit Go.Sort Go.Proofs.YtjpiplplohapnaaGreatDoorW.PrintWords
set_option maxRecDepth 100000 in
theorem negative_15 (w : World) : Calls Tryz.prog 48 #[.float .f64 4609434218613702656] w fun e w' => e = .returned (.bool false) ∧ w' = w := by
  have s1 : ∀ W, (Op.shift BinOp.shr .u64 4609434218613702656 .i64 63).run Tryz.prog W = .ok (.int .u64 0) W := fun W => by kernel_rfl
  go_enter Tryz.func48, Tryz.ntmps48
  go_wp2_with fail
  refine (class_15 _).mono ?_
  rintro e w' ⟨rfl, rfl⟩
  go_wp2_with fail
  refine (apiBits 4609434218613702656 _).mono ?_
  rintro e w' ⟨rfl, rfl⟩
  go_wp2_with fail
  go_ret
  exact ⟨rfl, rfl⟩
set_option maxRecDepth 100000 in
theorem split_15 (w : World) : Calls Tryz.prog 47 #[.float .f64 4609434218613702656] w fun e w' => e = .returned (.tuple #[.int .i64 6755399441055744, .int .i64 (-52), .bool true]) ∧ w' = w := by
  have s1 : ∀ W, (Op.shift BinOp.shr .u64 4609434218613702656 .i64 52).run Tryz.prog W = .ok (.int .u64 1023) W := fun W => by kernel_rfl
  have a2 : Go.bits .and .u64 4609434218613702656 4503599627370495 = 2251799813685248 := by decide +kernel
  have a3 : Go.bits .or .u64 2251799813685248 4503599627370496 = 6755399441055744 := by decide +kernel
  go_enter Tryz.func47, Tryz.ntmps47
  go_wp2_with fail
  refine (size_calls 4609434218613702656 4609434218613702656 (by decide +kernel) _).mono ?_
  rintro e w' ⟨rfl, rfl⟩
  go_wp2_with fail
  refine (class_15 _).mono ?_
  rintro e w' ⟨rfl, rfl⟩
  go_wp2_with fail
  refine (negative_15 _).mono ?_
  rintro e w' ⟨rfl, rfl⟩
  go_wp2_with fail
  go_ret3
  exact ⟨rfl, rfl⟩
theorem db_15 {w : World} (h : Laid w) : w.cell? ⟨14, 15, none⟩ = some (.int .u8 4) := by
  have := World.var?_cell gDb h.db 15
  exact this.trans (by kernel_rfl)
set_option maxRecDepth 100000 in
theorem tz64_16 (w : World) (hL : Laid w) : Calls Tryz.prog 175 #[.int .u64 16] w fun e w' => e = .returned (.int .i64 4) ∧ Below w.heap.size w w' := by
  have hc := db_15 hL
  have a0 : IntKind.u64.wrap (-16) = 18446744073709551600 := by decide +kernel
  have a1 : Go.bits .and .u64 16 18446744073709551600 = 16 := by decide +kernel
  have a2 : IntKind.u64.wrap 4573923408821661840 = 4573923408821661840 := by decide +kernel
  go_enter Tryz.func175, Tryz.ntmps175
  go_wp2_with fail
  go_ret
  exact ⟨rfl, Below.refl _ _⟩
set_option maxRecDepth 100000 in
theorem tz_16 (w : World) (hL : Laid w) : Calls Tryz.prog 135 #[.int .u64 16] w fun e w' => e = .returned (.int .i64 4) ∧ Below w.heap.size w w' := by
  go_enter Tryz.func135, Tryz.ntmps135
  go_wp2_with fail
  refine (tz64_16 _ hL).mono ?_
  rintro e w1 ⟨rfl, hb1⟩
  go_wp2_with fail
  go_ret
  exact ⟨rfl, hb1⟩
theorem pow2_16 (w : World) : Calls Tryz.prog 134 #[.int .i64 16] w fun e w' => e = .returned (.bool true) ∧ Below w.heap.size w w' :=
  (PText.strconv_isPowerOfTwo.calls 16 true w (by decide +kernel)).mono fun _ _ ⟨h1, h2⟩ => ⟨h1, h2.below⟩
set_option maxRecDepth 100000 in
set_option maxHeartbeats 1000000 in
theorem formatBits_15 (w : World) (hL : Laid w) : Calls Tryz.prog 103 #[.slice none 0 0, .int .u64 2251799813685248, .int .i64 16, .bool false, .bool false] w fun e w' => e = .returned (.tuple #[.slice none 0 0, .string ⟨#[56, 48, 48, 48, 48, 48, 48, 48, 48, 48, 48, 48, 48]⟩]) ∧ Below w.heap.size w w' := by
  have s0 : ∀ W, (Op.shift BinOp.shr .u64 2251799813685248 .u64 4).run Tryz.prog W = .ok (.int .u64 140737488355328) W := fun W => by kernel_rfl
  have n0 : Go.bits .and .u64 2251799813685248 15 = 0 := by decide +kernel
  have s1 : ∀ W, (Op.shift BinOp.shr .u64 140737488355328 .u64 4).run Tryz.prog W = .ok (.int .u64 8796093022208) W := fun W => by kernel_rfl
  have n1 : Go.bits .and .u64 140737488355328 15 = 0 := by decide +kernel
  have s2 : ∀ W, (Op.shift BinOp.shr .u64 8796093022208 .u64 4).run Tryz.prog W = .ok (.int .u64 549755813888) W := fun W => by kernel_rfl
  have n2 : Go.bits .and .u64 8796093022208 15 = 0 := by decide +kernel
  have s3 : ∀ W, (Op.shift BinOp.shr .u64 549755813888 .u64 4).run Tryz.prog W = .ok (.int .u64 34359738368) W := fun W => by kernel_rfl
  have n3 : Go.bits .and .u64 549755813888 15 = 0 := by decide +kernel
  have s4 : ∀ W, (Op.shift BinOp.shr .u64 34359738368 .u64 4).run Tryz.prog W = .ok (.int .u64 2147483648) W := fun W => by kernel_rfl
  have n4 : Go.bits .and .u64 34359738368 15 = 0 := by decide +kernel
  have s5 : ∀ W, (Op.shift BinOp.shr .u64 2147483648 .u64 4).run Tryz.prog W = .ok (.int .u64 134217728) W := fun W => by kernel_rfl
  have n5 : Go.bits .and .u64 2147483648 15 = 0 := by decide +kernel
  have s6 : ∀ W, (Op.shift BinOp.shr .u64 134217728 .u64 4).run Tryz.prog W = .ok (.int .u64 8388608) W := fun W => by kernel_rfl
  have n6 : Go.bits .and .u64 134217728 15 = 0 := by decide +kernel
  have s7 : ∀ W, (Op.shift BinOp.shr .u64 8388608 .u64 4).run Tryz.prog W = .ok (.int .u64 524288) W := fun W => by kernel_rfl
  have n7 : Go.bits .and .u64 8388608 15 = 0 := by decide +kernel
  have s8 : ∀ W, (Op.shift BinOp.shr .u64 524288 .u64 4).run Tryz.prog W = .ok (.int .u64 32768) W := fun W => by kernel_rfl
  have n8 : Go.bits .and .u64 524288 15 = 0 := by decide +kernel
  have s9 : ∀ W, (Op.shift BinOp.shr .u64 32768 .u64 4).run Tryz.prog W = .ok (.int .u64 2048) W := fun W => by kernel_rfl
  have n9 : Go.bits .and .u64 32768 15 = 0 := by decide +kernel
  have s10 : ∀ W, (Op.shift BinOp.shr .u64 2048 .u64 4).run Tryz.prog W = .ok (.int .u64 128) W := fun W => by kernel_rfl
  have n10 : Go.bits .and .u64 2048 15 = 0 := by decide +kernel
  have s11 : ∀ W, (Op.shift BinOp.shr .u64 128 .u64 4).run Tryz.prog W = .ok (.int .u64 8) W := fun W => by kernel_rfl
  have n11 : Go.bits .and .u64 128 15 = 0 := by decide +kernel
  have HG := Lib.hid (blk_new w (.cells Tryz.zeroCells168 168 (0, 0)))
  have hL0 : Laid (w.alloc (.cells Tryz.zeroCells168 168 (0, 0))) := hL.below ((Below.refl _ _).alloc (Nat.le_refl _) _)
  have hb0 : Below w.heap.size w (w.alloc (.cells Tryz.zeroCells168 168 (0, 0))) := (Below.refl _ _).alloc (Nat.le_refl _) _
  go_enter Tryz.func103, Tryz.ntmps103
  go_wp2_with fail
  refine (pow2_16 _).mono ?_
  rintro e w1 ⟨rfl, hb1⟩
  have HG1 := Lib.hid (blk_below HG.out hb1)
  have hL1 := hL0.below hb1
  have hb01 := hb0.trans (hb1.mono (by simp))
  go_wp2_with fail
  refine (tz_16 _ hL1).mono ?_
  rintro e w2 ⟨rfl, hb2⟩
  have HG2 := Lib.hid (blk_below HG1.out hb2)
  have hb02 := hb01.trans (hb2.mono hb01.size)
  clear HG HG1 hL0 hL1 hb0 hb1 hb01 hb2
  go_wp2_with fail
  refine wp_loop_rounds 13 ?_
  have hg : w.heap.size < w2.heap.size := (Array.getElem?_eq_some_iff.1 HG2.out).1
  have c0 : w2.cell? ⟨w.heap.size, 64, none⟩ = some (.int .u8 0) := (blk_cell HG2.out 64).trans (by kernel_rfl)
  have f0 := blk_frozen HG2.out 64
  rw [rounds_succ]
  go_wp2_with fail
  show Code.rounds Tryz.prog _ _ _ _ (w2.setCell ⟨_, 64, none⟩ (.int .u8 48))
  have HV0 := Lib.hid (blk_put HG2.out 64 (.int .u8 48) rfl)
  have hv0 := hb02.setCell (p := ⟨w.heap.size, 64, none⟩) (Nat.le_refl _) (.int .u8 48)
  clear hg c0 f0 HG2 hb02
  generalize w2.setCell ⟨w.heap.size, 64, none⟩ (.int .u8 48) = v0 at *
  have hg : w.heap.size < v0.heap.size := (Array.getElem?_eq_some_iff.1 HV0.out).1
  have c0 : v0.cell? ⟨w.heap.size, 63, none⟩ = some (.int .u8 0) := (blk_cell HV0.out 63).trans (by kernel_rfl)
  have f0 := blk_frozen HV0.out 63
  rw [rounds_succ]
  go_wp2_with fail
  show Code.rounds Tryz.prog _ _ _ _ (v0.setCell ⟨_, 63, none⟩ (.int .u8 48))
  have HV1 := Lib.hid (blk_put HV0.out 63 (.int .u8 48) rfl)
  have hv1 := hv0.setCell (p := ⟨w.heap.size, 63, none⟩) (Nat.le_refl _) (.int .u8 48)
  clear hg c0 f0 HV0 hv0
  generalize v0.setCell ⟨w.heap.size, 63, none⟩ (.int .u8 48) = v1 at *
  have hg : w.heap.size < v1.heap.size := (Array.getElem?_eq_some_iff.1 HV1.out).1
  have c0 : v1.cell? ⟨w.heap.size, 62, none⟩ = some (.int .u8 0) := (blk_cell HV1.out 62).trans (by kernel_rfl)
  have f0 := blk_frozen HV1.out 62
  rw [rounds_succ]
  go_wp2_with fail
  show Code.rounds Tryz.prog _ _ _ _ (v1.setCell ⟨_, 62, none⟩ (.int .u8 48))
  have HV2 := Lib.hid (blk_put HV1.out 62 (.int .u8 48) rfl)
  have hv2 := hv1.setCell (p := ⟨w.heap.size, 62, none⟩) (Nat.le_refl _) (.int .u8 48)
  clear hg c0 f0 HV1 hv1
  generalize v1.setCell ⟨w.heap.size, 62, none⟩ (.int .u8 48) = v2 at *
  have hg : w.heap.size < v2.heap.size := (Array.getElem?_eq_some_iff.1 HV2.out).1
  have c0 : v2.cell? ⟨w.heap.size, 61, none⟩ = some (.int .u8 0) := (blk_cell HV2.out 61).trans (by kernel_rfl)
  have f0 := blk_frozen HV2.out 61
  rw [rounds_succ]
  go_wp2_with fail
  show Code.rounds Tryz.prog _ _ _ _ (v2.setCell ⟨_, 61, none⟩ (.int .u8 48))
  have HV3 := Lib.hid (blk_put HV2.out 61 (.int .u8 48) rfl)
  have hv3 := hv2.setCell (p := ⟨w.heap.size, 61, none⟩) (Nat.le_refl _) (.int .u8 48)
  clear hg c0 f0 HV2 hv2
  generalize v2.setCell ⟨w.heap.size, 61, none⟩ (.int .u8 48) = v3 at *
  have hg : w.heap.size < v3.heap.size := (Array.getElem?_eq_some_iff.1 HV3.out).1
  have c0 : v3.cell? ⟨w.heap.size, 60, none⟩ = some (.int .u8 0) := (blk_cell HV3.out 60).trans (by kernel_rfl)
  have f0 := blk_frozen HV3.out 60
  rw [rounds_succ]
  go_wp2_with fail
  show Code.rounds Tryz.prog _ _ _ _ (v3.setCell ⟨_, 60, none⟩ (.int .u8 48))
  have HV4 := Lib.hid (blk_put HV3.out 60 (.int .u8 48) rfl)
  have hv4 := hv3.setCell (p := ⟨w.heap.size, 60, none⟩) (Nat.le_refl _) (.int .u8 48)
  clear hg c0 f0 HV3 hv3
  generalize v3.setCell ⟨w.heap.size, 60, none⟩ (.int .u8 48) = v4 at *
  have hg : w.heap.size < v4.heap.size := (Array.getElem?_eq_some_iff.1 HV4.out).1
  have c0 : v4.cell? ⟨w.heap.size, 59, none⟩ = some (.int .u8 0) := (blk_cell HV4.out 59).trans (by kernel_rfl)
  have f0 := blk_frozen HV4.out 59
  rw [rounds_succ]
  go_wp2_with fail
  show Code.rounds Tryz.prog _ _ _ _ (v4.setCell ⟨_, 59, none⟩ (.int .u8 48))
  have HV5 := Lib.hid (blk_put HV4.out 59 (.int .u8 48) rfl)
  have hv5 := hv4.setCell (p := ⟨w.heap.size, 59, none⟩) (Nat.le_refl _) (.int .u8 48)
  clear hg c0 f0 HV4 hv4
  generalize v4.setCell ⟨w.heap.size, 59, none⟩ (.int .u8 48) = v5 at *
  have hg : w.heap.size < v5.heap.size := (Array.getElem?_eq_some_iff.1 HV5.out).1
  have c0 : v5.cell? ⟨w.heap.size, 58, none⟩ = some (.int .u8 0) := (blk_cell HV5.out 58).trans (by kernel_rfl)
  have f0 := blk_frozen HV5.out 58
  rw [rounds_succ]
  go_wp2_with fail
  show Code.rounds Tryz.prog _ _ _ _ (v5.setCell ⟨_, 58, none⟩ (.int .u8 48))
  have HV6 := Lib.hid (blk_put HV5.out 58 (.int .u8 48) rfl)
  have hv6 := hv5.setCell (p := ⟨w.heap.size, 58, none⟩) (Nat.le_refl _) (.int .u8 48)
  clear hg c0 f0 HV5 hv5
  generalize v5.setCell ⟨w.heap.size, 58, none⟩ (.int .u8 48) = v6 at *
  have hg : w.heap.size < v6.heap.size := (Array.getElem?_eq_some_iff.1 HV6.out).1
  have c0 : v6.cell? ⟨w.heap.size, 57, none⟩ = some (.int .u8 0) := (blk_cell HV6.out 57).trans (by kernel_rfl)
  have f0 := blk_frozen HV6.out 57
  rw [rounds_succ]
  go_wp2_with fail
  show Code.rounds Tryz.prog _ _ _ _ (v6.setCell ⟨_, 57, none⟩ (.int .u8 48))
  have HV7 := Lib.hid (blk_put HV6.out 57 (.int .u8 48) rfl)
  have hv7 := hv6.setCell (p := ⟨w.heap.size, 57, none⟩) (Nat.le_refl _) (.int .u8 48)
  clear hg c0 f0 HV6 hv6
  generalize v6.setCell ⟨w.heap.size, 57, none⟩ (.int .u8 48) = v7 at *
  have hg : w.heap.size < v7.heap.size := (Array.getElem?_eq_some_iff.1 HV7.out).1
  have c0 : v7.cell? ⟨w.heap.size, 56, none⟩ = some (.int .u8 0) := (blk_cell HV7.out 56).trans (by kernel_rfl)
  have f0 := blk_frozen HV7.out 56
  rw [rounds_succ]
  go_wp2_with fail
  show Code.rounds Tryz.prog _ _ _ _ (v7.setCell ⟨_, 56, none⟩ (.int .u8 48))
  have HV8 := Lib.hid (blk_put HV7.out 56 (.int .u8 48) rfl)
  have hv8 := hv7.setCell (p := ⟨w.heap.size, 56, none⟩) (Nat.le_refl _) (.int .u8 48)
  clear hg c0 f0 HV7 hv7
  generalize v7.setCell ⟨w.heap.size, 56, none⟩ (.int .u8 48) = v8 at *
  have hg : w.heap.size < v8.heap.size := (Array.getElem?_eq_some_iff.1 HV8.out).1
  have c0 : v8.cell? ⟨w.heap.size, 55, none⟩ = some (.int .u8 0) := (blk_cell HV8.out 55).trans (by kernel_rfl)
  have f0 := blk_frozen HV8.out 55
  rw [rounds_succ]
  go_wp2_with fail
  show Code.rounds Tryz.prog _ _ _ _ (v8.setCell ⟨_, 55, none⟩ (.int .u8 48))
  have HV9 := Lib.hid (blk_put HV8.out 55 (.int .u8 48) rfl)
  have hv9 := hv8.setCell (p := ⟨w.heap.size, 55, none⟩) (Nat.le_refl _) (.int .u8 48)
  clear hg c0 f0 HV8 hv8
  generalize v8.setCell ⟨w.heap.size, 55, none⟩ (.int .u8 48) = v9 at *
  have hg : w.heap.size < v9.heap.size := (Array.getElem?_eq_some_iff.1 HV9.out).1
  have c0 : v9.cell? ⟨w.heap.size, 54, none⟩ = some (.int .u8 0) := (blk_cell HV9.out 54).trans (by kernel_rfl)
  have f0 := blk_frozen HV9.out 54
  rw [rounds_succ]
  go_wp2_with fail
  show Code.rounds Tryz.prog _ _ _ _ (v9.setCell ⟨_, 54, none⟩ (.int .u8 48))
  have HV10 := Lib.hid (blk_put HV9.out 54 (.int .u8 48) rfl)
  have hv10 := hv9.setCell (p := ⟨w.heap.size, 54, none⟩) (Nat.le_refl _) (.int .u8 48)
  clear hg c0 f0 HV9 hv9
  generalize v9.setCell ⟨w.heap.size, 54, none⟩ (.int .u8 48) = v10 at *
  have hg : w.heap.size < v10.heap.size := (Array.getElem?_eq_some_iff.1 HV10.out).1
  have c0 : v10.cell? ⟨w.heap.size, 53, none⟩ = some (.int .u8 0) := (blk_cell HV10.out 53).trans (by kernel_rfl)
  have f0 := blk_frozen HV10.out 53
  rw [rounds_succ]
  go_wp2_with fail
  show Code.rounds Tryz.prog _ _ _ _ (v10.setCell ⟨_, 53, none⟩ (.int .u8 48))
  have HV11 := Lib.hid (blk_put HV10.out 53 (.int .u8 48) rfl)
  have hv11 := hv10.setCell (p := ⟨w.heap.size, 53, none⟩) (Nat.le_refl _) (.int .u8 48)
  clear hg c0 f0 HV10 hv10
  generalize v10.setCell ⟨w.heap.size, 53, none⟩ (.int .u8 48) = v11 at *
  have hg : w.heap.size < v11.heap.size := (Array.getElem?_eq_some_iff.1 HV11.out).1
  have c0 : v11.cell? ⟨w.heap.size, 52, none⟩ = some (.int .u8 0) := (blk_cell HV11.out 52).trans (by kernel_rfl)
  have f0 := blk_frozen HV11.out 52
  have HV12 := Lib.hid (blk_put HV11.out 52 (.int .u8 56) rfl)
  have hv12 := hv11.setCell (p := ⟨w.heap.size, 52, none⟩) (Nat.le_refl _) (.int .u8 56)
  have hcv' : (convert 94 9 (.slice (some ⟨w.heap.size, 52, none⟩) 13 13)).run Tryz.prog (v11.setCell ⟨w.heap.size, 52, none⟩ (.int .u8 56)) = .ok (.string ⟨#[56, 48, 48, 48, 48, 48, 48, 48, 48, 48, 48, 48, 48]⟩) (v11.setCell ⟨w.heap.size, 52, none⟩ (.int .u8 56)) := by
    clear hg c0 f0 hv12 HV11 hv11
    generalize v11.setCell ⟨w.heap.size, 52, none⟩ (.int .u8 56) = v12 at *
    rw [run_convert_bytes_string v12 94 9 5 _ 13 13 Tryz.underlying94 Tryz.underlying5 Tryz.underlying9]
    rw [run_bytesToString v12 _ 13 13 [56, 48, 48, 48, 48, 48, 48, 48, 48, 48, 48, 48, 48] (by
      have d0 : v12.cell? ⟨w.heap.size, 52, none⟩ = some (.int .u8 56) := (blk_cell HV12.out 52).trans (by kernel_rfl)
      have d1 : v12.cell? ⟨w.heap.size, 53, none⟩ = some (.int .u8 48) := (blk_cell HV12.out 53).trans (by kernel_rfl)
      have d2 : v12.cell? ⟨w.heap.size, 54, none⟩ = some (.int .u8 48) := (blk_cell HV12.out 54).trans (by kernel_rfl)
      have d3 : v12.cell? ⟨w.heap.size, 55, none⟩ = some (.int .u8 48) := (blk_cell HV12.out 55).trans (by kernel_rfl)
      have d4 : v12.cell? ⟨w.heap.size, 56, none⟩ = some (.int .u8 48) := (blk_cell HV12.out 56).trans (by kernel_rfl)
      have d5 : v12.cell? ⟨w.heap.size, 57, none⟩ = some (.int .u8 48) := (blk_cell HV12.out 57).trans (by kernel_rfl)
      have d6 : v12.cell? ⟨w.heap.size, 58, none⟩ = some (.int .u8 48) := (blk_cell HV12.out 58).trans (by kernel_rfl)
      have d7 : v12.cell? ⟨w.heap.size, 59, none⟩ = some (.int .u8 48) := (blk_cell HV12.out 59).trans (by kernel_rfl)
      have d8 : v12.cell? ⟨w.heap.size, 60, none⟩ = some (.int .u8 48) := (blk_cell HV12.out 60).trans (by kernel_rfl)
      have d9 : v12.cell? ⟨w.heap.size, 61, none⟩ = some (.int .u8 48) := (blk_cell HV12.out 61).trans (by kernel_rfl)
      have d10 : v12.cell? ⟨w.heap.size, 62, none⟩ = some (.int .u8 48) := (blk_cell HV12.out 62).trans (by kernel_rfl)
      have d11 : v12.cell? ⟨w.heap.size, 63, none⟩ = some (.int .u8 48) := (blk_cell HV12.out 63).trans (by kernel_rfl)
      have d12 : v12.cell? ⟨w.heap.size, 64, none⟩ = some (.int .u8 48) := (blk_cell HV12.out 64).trans (by kernel_rfl)
      simp [loadCells, d0, d1, d2, d3, d4, d5, d6, d7, d8, d9, d10, d11, d12, go_sem])]
    rfl
  have hcv : (convert 94 9 (.slice (some ⟨w.heap.size, 52, none⟩) 13 13)).run Tryz.prog (v11.setCell ⟨w.heap.size, 52, none⟩ (.int .u8 (({ data := #[48, 49, 50, 51, 52, 53, 54, 55, 56, 57, 97, 98, 99, 100, 101, 102, 103, 104, 105, 106, 107, 108, 109, 110, 111, 112, 113, 114, 115, 116, 117, 118, 119, 120, 121, 122] } : ByteArray)[8]'(by decide)).toNat)) = .ok (.string ⟨#[56, 48, 48, 48, 48, 48, 48, 48, 48, 48, 48, 48, 48]⟩) (v11.setCell ⟨w.heap.size, 52, none⟩ (.int .u8 (({ data := #[48, 49, 50, 51, 52, 53, 54, 55, 56, 57, 97, 98, 99, 100, 101, 102, 103, 104, 105, 106, 107, 108, 109, 110, 111, 112, 113, 114, 115, 116, 117, 118, 119, 120, 121, 122] } : ByteArray)[8]'(by decide)).toNat)) := hcv'
  clear hcv' HV12
  rw [rounds_succ]
  go_wp2_with fail
  go_ret2
  exact ⟨rfl, hv12⟩
set_option maxHeartbeats 1000000 in
theorem formatUint_15 (w : World) (hL : Laid w) : Calls Tryz.prog 74 #[.int .u64 2251799813685248, .int .i64 16] w fun e w' => e = .returned (.string ⟨#[56, 48, 48, 48, 48, 48, 48, 48, 48, 48, 48, 48, 48]⟩) ∧ Below w.heap.size w w' := by
  go_enter Tryz.func74, Tryz.ntmps74
  go_wp2_with fail
  refine (formatBits_15 _ hL).mono ?_
  rintro e w1 ⟨rfl, hb1⟩
  go_wp2_with fail
  go_ret
  exact ⟨rfl, hb1⟩
set_option maxHeartbeats 1000000 in
theorem sformatUint_15 (w : World) (hL : Laid w) : Calls Tryz.prog 49 #[.int .u64 2251799813685248, .int .i64 16] w fun e w' => e = .returned (.string ⟨#[56, 48, 48, 48, 48, 48, 48, 48, 48, 48, 48, 48, 48]⟩) ∧ Below w.heap.size w w' := by
  go_enter Tryz.func49, Tryz.ntmps49
  go_wp2_with fail
  refine (formatUint_15 _ hL).mono ?_
  rintro e w1 ⟨rfl, hb1⟩
  go_wp2_with fail
  go_ret
  exact ⟨rfl, hb1⟩
set_option maxRecDepth 100000 in
set_option maxHeartbeats 1000000 in
theorem hex_15 (w : World) (hL : Laid w) : Calls Tryz.prog 19 #[.float .f64 4609434218613702656] w fun e w' => e = .returned (.tuple #[.string ⟨#[48, 120, 49, 46, 56, 112, 43, 48]⟩, .int .i64 0]) ∧ Below w.heap.size w w' := by
  have a1 : Go.bits .and .u64 6755399441055744 4503599627370495 = 2251799813685248 := by decide +kernel
  go_enter Tryz.func19, Tryz.ntmps19
  go_wp2_with fail
  refine (split_15 _).mono ?_
  rintro e w1 ⟨rfl, rfl⟩
  go_wp2_with fail
  refine (negative_15 _).mono ?_
  rintro e w1 ⟨rfl, rfl⟩
  go_wp2_with fail
  refine wp_loop_rounds 1 ?_
  rw [rounds_succ]
  go_wp2_with fail
  refine (sformatUint_15 _ hL).mono ?_
  rintro e w1 ⟨rfl, hb1⟩
  go_wp2_with fail
  refine (Tryz.strings_Repeat_zero _ _).mono ?_
  rintro e w2 ⟨rfl, rfl⟩
  go_wp2_with fail
  refine (Tryz.strings_TrimRight_one _ 48 (by decide) _ (by decide)).mono ?_
  rintro e w2 ⟨rfl, rfl⟩
  have et : (⟨(Lib.trimRightB (⟨#[]⟩ ++ ⟨#[56, 48, 48, 48, 48, 48, 48, 48, 48, 48, 48, 48, 48]⟩ : ByteArray).data.toList 48).toArray⟩ : ByteArray) = ⟨#[56]⟩ := by kernel_rfl
  rw [et]
  go_wp2_with fail
  have hi : Calls Tryz.prog 45 #[.int .i64 0] w2 fun e w' => e = .returned (.string ⟨#[48]⟩) ∧ w' = w2 := by
    have e0 : (⟨(Lib.decDigits 0).toArray⟩ : ByteArray) = ⟨#[48]⟩ := by simp [Lib.decDigits]
    have := Tryz.strconv_Itoa_small 0 (by decide) w2
    rw [e0] at this; exact this
  refine hi.mono ?_
  rintro e w3 ⟨rfl, rfl⟩
  go_wp2_with fail
  refine bodyPost_ret (v := .tuple #[.string ⟨#[48, 120, 49, 46, 56, 112, 43, 48]⟩, .int .i64 0]) (by simp [results, Tryz.results19, go_sem]; decide +kernel) rfl ?_
  exact ⟨rfl, hb1⟩
end Go.Proofs.YtjpiplplohapnaaGreatDoor
namespace Go.Proofs.YtjpiplplohapnaaGreatDoor
open Go.RowKit Go.Proofs.YtjpiplplohapnaaGreatDoorW.PrintWords
def sz (b : Nat) : Nat := b % 9223372036854775808
theorem sz_bits (b : Nat) (hb : b < 18446744073709551616) : Go.bits .andNot .u64 (b : Int) 9223372036854775808 = (sz b : Nat) := by
  have := Go.u64_andNot_nat b 9223372036854775808 hb (by omega)
  rw [show ((9223372036854775808 : Nat) : Int) = 9223372036854775808 from rfl] at this
  rw [this]
  have := Nat.and_two_pow_sub_one_eq_mod b 63
  unfold sz
  exact congrArg _ this
def cls (r : Int) : Int := if r = 0 then 1 else if r < 4503599627370496 then 2 else if r < 9218868437227405312 then 3 else if r = 9218868437227405312 then 4 else 5
set_option maxRecDepth 100000 in
theorem class_calls (b : Nat) (r : Int) (hr : Go.bits .andNot .u64 (b : Int) 9223372036854775808 = r) (w : World) : Calls Tryz.prog 66 #[.float .f64 b] w fun e w' => e = .returned (.int .i64 (cls r)) ∧ w' = w := by
  go_enter Tryz.func66, Tryz.ntmps66
  go_wp2_with fail
  refine (size_calls b r hr _).mono ?_
  rintro e w' ⟨rfl, rfl⟩
  clear hr
  go_wp2_with fail
  all_goals (go_ret; refine ⟨congrArg (fun c => Ending.returned (.int .i64 c)) ?_, rfl⟩; simp only [beq_iff_eq, beq_eq_false_iff_ne, ne_eq] at *; unfold cls; repeat' split)
  all_goals omega
theorem number_calls (b : Nat) (hb : b < 18446744073709551616) (w : World) : Calls Tryz.prog 30 #[.float .f64 b] w fun e w' => e = .returned (.bool (decide (sz b < 9218868437227405312))) ∧ w' = w := by
  have hr := sz_bits b hb
  have hc : decide (cls (sz b : Nat) < 4) = decide (sz b < 9218868437227405312) := by
    unfold cls
    by_cases h : sz b < 9218868437227405312
    · rw [decide_eq_true h]
      repeat' split
      all_goals first | rfl | omega
    · rw [decide_eq_false h]
      repeat' split
      all_goals first | rfl | omega
  go_enter Tryz.func30, Tryz.ntmps30
  go_wp2_with fail
  refine (class_calls b _ hr _).mono ?_
  rintro e w' ⟨rfl, rfl⟩
  clear hr
  generalize cls (sz b : Nat) = c at *
  go_wp2_with fail
  go_ret
  exact ⟨rfl, rfl⟩
def spM (u : Nat) : Nat := if u < 4503599627370496 then u else u % 4503599627370496 + 4503599627370496
def spE (u : Nat) : Int := if u = 0 then 0 else if u < 4503599627370496 then -1074 else (u / 4503599627370496 : Nat) - 1075
def neg (b : Nat) : Bool := decide (9223372036854775808 ≤ b)
theorem norm_facts (u : Nat) (hu : u < 9218868437227405312) : Go.bits .and .u64 (u : Int) 4503599627370495 = ((u % 4503599627370496 : Nat) : Int) ∧
    Go.bits .or .u64 ((u % 4503599627370496 : Nat) : Int) 4503599627370496 = ((u % 4503599627370496 + 4503599627370496 : Nat) : Int) := by
  constructor
  · have := Go.u64_and_nat u 4503599627370495 (by omega) (by omega)
    rw [show ((4503599627370495 : Nat) : Int) = 4503599627370495 from rfl] at this
    rw [this]
    exact congrArg _ (Nat.and_two_pow_sub_one_eq_mod u 52)
  · have := Go.u64_or_nat (u % 4503599627370496) 4503599627370496 (by omega) (by omega)
    rw [show ((4503599627370496 : Nat) : Int) = 4503599627370496 from rfl] at this
    rw [this]
    refine congrArg _ ?_
    rw [Nat.or_comm, Go.nat_join 52 4503599627370496 (u % 4503599627370496) (by decide) (by omega)]
    omega
end Go.Proofs.YtjpiplplohapnaaGreatDoor
namespace Go.Proofs.YtjpiplplohapnaaGreatDoor
open Go.RowKit Go.Sort Go.Proofs.YtjpiplplohapnaaGreatDoorW.PrintWords
def hx (d : Nat) : UInt8 := if d < 10 then UInt8.ofNat (48 + d) else UInt8.ofNat (87 + d)
def hexL (x : Nat) : List UInt8 := if _h : x < 16 then [hx x] else hexL (x / 16) ++ [hx (x % 16)]
termination_by x
decreasing_by omega
theorem hexL_small {x : Nat} (h : x < 16) : hexL x = [hx x] := by rw [hexL, dif_pos h]
theorem hexL_step {x : Nat} (h : 16 ≤ x) : hexL x = hexL (x / 16) ++ [hx (x % 16)] := by rw [hexL, dif_neg (by omega)]
structure HexSt (w : World) (u x : Nat) (tl : List UInt8) (w' : World) : Prop where
  below : Below w.heap.size w w'
  row : ∃ cs : Array Value, w'.heap[w.heap.size]? = some (.cells cs 168 (0, 0)) ∧ cs.size = 65 ∧ ∀ j b, tl[j]? = some b → cs[65 - tl.length + j]? = some (encB b)
  val : hexL u = hexL x ++ tl
  len : x * 16 ^ tl.length ≤ u
  big : u < 18446744073709551616
  pos : tl = [] ∨ 1 ≤ x
theorem row_put {w' : World} {g j : Nat} {tl : List UInt8} {b : UInt8} (hj : j + 1 + tl.length = 65)
    (h : ∃ cs : Array Value, w'.heap[g]? = some (.cells cs 168 (0, 0)) ∧ cs.size = 65 ∧ ∀ j b, tl[j]? = some b → cs[65 - tl.length + j]? = some (encB b)) :
    ∃ cs : Array Value, (w'.setCell ⟨g, j, none⟩ (encB b)).heap[g]? = some (.cells cs 168 (0, 0)) ∧ cs.size = 65 ∧ ∀ i c, (b :: tl)[i]? = some c → cs[65 - (b :: tl).length + i]? = some (encB c) := by
  obtain ⟨cs, h1, h2, h3⟩ := h
  refine ⟨cs.setIfInBounds j (encB b), blk_put h1 j _ rfl, by simp [h2], fun i c hc => ?_⟩
  have e : 65 - (b :: tl).length = j := by simp; omega
  rw [e]
  cases i with
  | zero =>
    simp at hc
    subst hc
    simp [Array.getElem?_setIfInBounds, h2]; omega
  | succ i =>
    simp at hc
    have := h3 i c hc
    rw [Array.getElem?_setIfInBounds, if_neg (by omega)]
    rw [← this]
    congr 1; omega
theorem HexSt.put {w : World} {u x j : Nat} {tl : List UInt8} {w' : World} (h : HexSt w u x tl w') (hx16 : 16 ≤ x) (hj : j + 1 + tl.length = 65) :
    HexSt w u (x / 16) (hx (x % 16) :: tl) (w'.setCell ⟨w.heap.size, j, none⟩ (encB (hx (x % 16)))) where
  below := h.below.setCell (Nat.le_refl _) _
  row := row_put hj h.row
  val := by rw [h.val, hexL_step hx16]; simp
  len := by
    have := h.len
    rw [List.length_cons, Nat.pow_succ]
    have h1 : x / 16 * (16 ^ tl.length * 16) = x / 16 * 16 * 16 ^ tl.length := by rw [Nat.mul_assoc, Nat.mul_comm 16 (16 ^ tl.length)]
    rw [h1]
    exact Nat.le_trans (Nat.mul_le_mul_right _ (Nat.div_mul_le_self x 16)) this
  big := h.big
  pos := Or.inr (by omega)
theorem HexSt.cell {w : World} {u x j : Nat} {tl : List UInt8} {w' : World} (h : HexSt w u x tl w') (hj : j < 65) : ∃ v, w'.cell? ⟨w.heap.size, j, none⟩ = some v := by
  obtain ⟨cs, h1, h2, -⟩ := h.row
  exact ⟨cs[j]'(by omega), (blk_cell h1 j).trans (Array.getElem?_eq_getElem (by omega))⟩
theorem HexSt.frozen {w : World} {u x : Nat} {tl : List UInt8} {w' : World} (h : HexSt w u x tl w') (j : Nat) : w'.frozen? ⟨w.heap.size, j, none⟩ = false := by
  obtain ⟨cs, h1, -, -⟩ := h.row
  exact blk_frozen h1 j
theorem HexSt.lt {w : World} {u x : Nat} {tl : List UInt8} {w' : World} (h : HexSt w u x tl w') : w.heap.size < w'.heap.size := by
  obtain ⟨cs, h1, -, -⟩ := h.row
  exact (Array.getElem?_eq_some_iff.1 h1).1
theorem bytes_of_cells {w : World} {g i : Nat} {l : List UInt8} (h : ∀ j b, l[j]? = some b → w.cell? ⟨g, i + j, none⟩ = some (encB b)) :
    (convert 94 9 (.slice (some ⟨g, i, none⟩) l.length l.length)).run Tryz.prog w = .ok (.string ⟨l.toArray⟩) w := by
  rw [run_convert_bytes_string w 94 9 5 _ _ _ Tryz.underlying94 Tryz.underlying5 Tryz.underlying9]
  have hl := run_loadCells_list (P := Tryz.prog) (w := w) ⟨g, i, none⟩ (l.map encB) (fun j v hv => by
    rw [List.getElem?_map] at hv
    obtain ⟨b, hb, rfl⟩ := Option.map_eq_some_iff.1 hv
    have := h j b hb
    unfold Addr.add
    split
    · rename_i h0; subst h0; exact this
    · exact this)
  rw [List.length_map] at hl
  rw [run_bytesToString w _ _ _ (l.map fun b => (b.toNat : Int)) (by rw [hl, List.map_map]; rfl)]
  congr 2
  rw [List.foldl_map]
  have : ∀ (l : List UInt8) (acc : ByteArray), l.foldl (fun r n => r.push (UInt8.ofNat ((n.toNat : Int)).toNat)) acc = ⟨acc.data ++ l.toArray⟩ := by
    intro l
    induction l with
    | nil => intro acc; simp
    | cons b l ih => intro acc; rw [List.foldl_cons, ih]; simp [ByteArray.push]
  rw [this]
  simp
theorem HexSt.last {w : World} {u x i : Nat} {tl : List UInt8} {w' : World} (h : HexSt w u x tl w') (hi : i + 1 + tl.length = 65) (hx16 : x < 16) :
    (convert 94 9 (.slice (some ⟨w.heap.size, i, none⟩) (65 - i) (65 - i))).run Tryz.prog (w'.setCell ⟨w.heap.size, i, none⟩ (encB (hx x))) = .ok (.string ⟨(hexL u).toArray⟩) (w'.setCell ⟨w.heap.size, i, none⟩ (encB (hx x))) := by
  have hv : hexL u = hx x :: tl := by rw [h.val, hexL_small hx16]; rfl
  have hlen : (hx x :: tl).length = 65 - i := by rw [List.length_cons]; omega
  obtain ⟨cs, h1, h2, h3⟩ := row_put (b := hx x) hi h.row
  rw [hv, ← hlen]
  refine bytes_of_cells fun j b hb => ?_
  have := h3 j b hb
  rw [hlen, show 65 - (65 - i) = i by omega] at this
  exact (blk_cell h1 (i + j)).trans this
end Go.Proofs.YtjpiplplohapnaaGreatDoor
namespace Go.Proofs.YtjpiplplohapnaaGreatDoor
open Go.RowKit Go.Sort Go.Proofs.YtjpiplplohapnaaGreatDoorW.PrintWords
theorem grow_below {B : Nat} {a w : World} (h : Below B a w) (hB : B ≤ a.heap.size) (os : Array Obj) : Below B a (grow w os) :=
  ⟨h.os, h.tape, h.output, by have := h.size; simp [grow]; omega, fun i hi => by
    have h1 := h.block i hi
    have h2 : i < w.heap.size := by have := h.size; omega
    rw [← h1]
    show (w.heap ++ os)[i]? = _
    rw [Array.getElem?_append_left h2]⟩
set_option maxRecDepth 100000 in
theorem int_walk (s : ByteArray) (hlim : s.size ≤ 281474976710656) (w : World) (hL : Laid w) :
    Calls Tryz.prog 17 #[.string s] w fun e w' => e = .returned (.tuple #[.int .i64 (Num.progInt s.data.toList).1, .bool (Num.progInt s.data.toList).2]) ∧ Below w.heap.size w w' := by
  cases h : Lib.atoiAll s.data.toList with
  | ok v =>
    have hb := Num.atoi_bounds h
    have bw : ∀ {w1 : World}, (w1 = w ∨ ∃ t, w1 = Lib.bytesWorld w 5 t) → Below w.heap.size w w1 := by
      rintro w1 (rfl | ⟨t, rfl⟩)
      · exact Below.refl _ _
      · exact Lib.bytesWorld_below _ _ _
    by_cases he : Lib.itoa v = s.data.toList
    · have hr : Num.progInt s.data.toList = (v, true) := by simp only [Num.progInt, h]; rw [if_pos he]
      have et : (Lib.itoa v == s.toList) = true := by simpa [ByteArray.toList_eq] using he
      rw [hr]
      go_enter Tryz.func17, Tryz.ntmps17
      go_wp2_with fail
      refine (Tryz.strconv_Atoi_ok s (by omega) v h _).mono ?_
      rintro e w1 ⟨rfl, hw⟩
      have hb1 := bw hw
      have hL1 := hL.below hb1
      clear hw
      go_wp2_with fail
      refine (Tryz.strconv_Itoa v hb.1 hb.2 _ hL1.u10).mono ?_
      rintro e w2 ⟨rfl, k, os, rfl⟩
      have hb2 : Below w.heap.size w (grow (w1.drewN k) os) := grow_below (below_drewN hb1 k) (Nat.le_refl _) os
      generalize grow (w1.drewN k) os = w2 at *
      clear hL1 hb1
      go_wp2_with fail
      go_ret2
      exact ⟨rfl, hb2⟩
    · have hr : Num.progInt s.data.toList = (0, false) := by simp only [Num.progInt, h]; rw [if_neg he]
      have et : (Lib.itoa v == s.toList) = false := by simpa [ByteArray.toList_eq] using he
      rw [hr]
      go_enter Tryz.func17, Tryz.ntmps17
      go_wp2_with fail
      refine (Tryz.strconv_Atoi_ok s (by omega) v h _).mono ?_
      rintro e w1 ⟨rfl, hw⟩
      have hb1 := bw hw
      have hL1 := hL.below hb1
      clear hw
      go_wp2_with fail
      refine (Tryz.strconv_Itoa v hb.1 hb.2 _ hL1.u10).mono ?_
      rintro e w2 ⟨rfl, k, os, rfl⟩
      have hb2 : Below w.heap.size w (grow (w1.drewN k) os) := grow_below (below_drewN hb1 k) (Nat.le_refl _) os
      generalize grow (w1.drewN k) os = w2 at *
      clear hL1 hb1
      go_wp2_with fail
      go_ret2
      exact ⟨rfl, hb2⟩
  | range =>
    have hr : Num.progInt s.data.toList = (0, false) := by simp only [Num.progInt, h]
    obtain ⟨te, pe, hv⟩ := hL.rng
    have hv' := World.var?_cell gRng hv 0
    rw [hr]
    go_enter Tryz.func17, Tryz.ntmps17
    go_wp2_with fail
    refine (Tryz.strconv_Atoi_range s hlim h (.iface te pe) _ (by simpa using hv') (Or.inr ⟨te, pe, rfl⟩)).mono ?_
    rintro e W1 ⟨N, rfl, -, -, hb⟩
    go_wp2_with fail
    go_ret2
    exact ⟨rfl, hb⟩
  | _ =>
    have hr : Num.progInt s.data.toList = (0, false) := by simp only [Num.progInt, h]
    obtain ⟨te, pe, hv⟩ := hL.syn
    have hv' := World.var?_cell gSyn hv 0
    rw [hr]
    go_enter Tryz.func17, Tryz.ntmps17
    go_wp2_with fail
    refine (Tryz.strconv_Atoi_bad s hlim (fun n hn => by rw [h] at hn; cases hn) (fun hn => by rw [h] at hn; cases hn) (.iface te pe) _ (by simpa using hv') (Or.inr ⟨te, pe, rfl⟩)).mono ?_
    rintro e W1 ⟨N, rfl, -, -, hb⟩
    go_wp2_with fail
    go_ret2
    exact ⟨rfl, hb⟩
end Go.Proofs.YtjpiplplohapnaaGreatDoor
namespace Go.Proofs.YtjpiplplohapnaaGreatDoor
open Go.RowKit Go.Sort Go.Proofs.YtjpiplplohapnaaGreatDoorW.PrintWords
def HexLoop (m : Nat) (e : Int) (M : Nat) (E : Int) : Prop := ∃ j : Nat, M = m * 2 ^ j ∧ E + j = e
theorem HexLoop.done {m : Nat} {e : Int} {M : Nat} {E : Int} (h : HexLoop m e M E) (h1 : 4503599627370496 ≤ m) (h2 : M < 9007199254740992) : m = M ∧ e = E := by
  obtain ⟨j, h3, h4⟩ := h
  cases j with
  | zero => simp at h3 h4; exact ⟨h3.symm, h4.symm⟩
  | succ j =>
    exfalso
    rw [Nat.pow_succ] at h3
    have : 1 ≤ 2 ^ j := Nat.pow_pos (by omega)
    have : m * 1 ≤ m * 2 ^ j := Nat.mul_le_mul_left _ this
    have : m * (2 ^ j * 2) = m * 2 ^ j * 2 := (Nat.mul_assoc _ _ _).symm
    omega
theorem HexLoop.step {m : Nat} {e : Int} {M : Nat} {E : Int} (h : HexLoop m e M E) (h1 : m < 4503599627370496) (h2 : 4503599627370496 ≤ M) : HexLoop (m * 2) (e - 1) M E := by
  obtain ⟨j, h3, h4⟩ := h
  cases j with
  | zero => simp at h3; omega
  | succ j => exact ⟨j, by rw [h3, Nat.pow_succ, Nat.mul_assoc, Nat.mul_comm 2], by push_cast at h4; omega⟩
end Go.Proofs.YtjpiplplohapnaaGreatDoor
namespace Go.Proofs.YtjpiplplohapnaaGreatDoor
open Go.RowKit Go.Sort Go.Proofs.YtjpiplplohapnaaGreatDoorW.PrintWords
def up (m : Nat) : Nat := 52 - m.log2
theorem spM_range (u : Nat) (h : 0 < u) : 1 ≤ spM u ∧ spM u < 9007199254740992 := by
  unfold spM
  split <;> omega
theorem spE_range (u : Nat) (h : 0 < u) (h2 : u < 9218868437227405312) : -1074 ≤ spE u ∧ spE u ≤ 971 := by
  unfold spE
  rw [if_neg (by omega)]
  split <;> omega
end Go.Proofs.YtjpiplplohapnaaGreatDoor
namespace Go.Proofs.YtjpiplplohapnaaGreatDoor.Big
open Go.RowKit Go.Proofs.YtjpiplplohapnaaGreatDoorW.PrintWords Go.Proofs.YtjpiplplohapnaaGreatDoorW.PrintLast Go.Proofs.YtjpiplplohapnaaGreatDoorW.PrintMore
open Go.Proofs.YtjpiplplohapnaaGreatDoor.PText
theorem and2047 (x : Nat) (h : x < 18446744073709551616) : Go.bits .and .u64 (x : Int) 2047 = ((x % 2048 : Nat) : Int) := by
  have := Go.u64_and_nat x 2047 h (by omega)
  rw [show ((2047 : Nat) : Int) = 2047 from rfl] at this
  rw [this]
  exact congrArg _ (Nat.and_two_pow_sub_one_eq_mod x 11)
theorem of_ev (u : Nat) (h0 : 0 < u) (h1 : u < 9218868437227405312) : Ev (fun k => tenorref1_Of.f k (u : Int)) (false, dg (spM u), spE u) := by
  have ha := (norm_facts u h1).1
  have hb : Go.bits .and .u64 ((u : Int) / 4503599627370496) 2047 = ((u / 4503599627370496 : Nat) : Int) := by
    rw [show (u : Int) / 4503599627370496 = ((u / 4503599627370496 : Nat) : Int) by omega, and2047 _ (by omega)]
    omega
  have hs := spM_range u h0
  have hd := digits_ev (spM u) (by omega)
  by_cases h2 : u < 4503599627370496
  · have e1 : spM u = u := by unfold spM; rw [if_pos h2]
    have e2 : spE u = -1074 := by unfold spE; rw [if_neg (by omega), if_pos h2]
    rw [e1] at hd
    rw [e1, e2]
    refine Ev.congr (f := fun k => (tenorref1_Digits.f k (u : Int)).bind fun t => some (false, t, (-1074 : Int))) (fun k => ?_) (Ev.bind (f := fun _ t => some (false, t, (-1074 : Int))) hd (Ev.now _))
    unfold tenorref1_Of.f
    rw [hb, ha, w64 (by omega) (by omega), if_neg (by omega), if_neg (by omega), show ((u % 4503599627370496 : Nat) : Int) = (u : Int) by omega, decide_eq_false (by omega)]
  · have e1 : spM u = u % 4503599627370496 + 4503599627370496 := by unfold spM; rw [if_neg h2]
    have e2 : spE u = ((u / 4503599627370496 : Nat) : Int) - 1075 := by unfold spE; rw [if_neg (by omega), if_neg h2]
    refine Ev.congr (f := fun k => (tenorref1_Digits.f k (spM u : Int)).bind fun t => some (false, t, spE u)) (fun k => ?_) (Ev.bind (f := fun _ t => some (false, t, spE u)) hd (Ev.now _))
    unfold tenorref1_Of.f
    rw [hb, ha, w64 (x := ((u / 4503599627370496 : Nat) : Int)) (by omega) (by omega), if_pos (by omega), wu (by omega) (by omega), show ((u % 4503599627370496 : Nat) : Int) + 4503599627370496 = (spM u : Int) by omega, if_neg (by omega), w64 (by omega) (by omega), ← e2, decide_eq_false (by omega)]
end Go.Proofs.YtjpiplplohapnaaGreatDoor.Big
