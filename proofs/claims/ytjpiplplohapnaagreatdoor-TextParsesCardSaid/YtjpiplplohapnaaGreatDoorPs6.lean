/- Part 6 of the proof: AwF, AwG, AwH, TInt, LHex. -/
import Derived.Test.YtjpiplplohapnaaGreatDoorPs5
import Derived.Deep.RegionWith
import Derived.Laws.BytesString
import Derived.Laws.BitsAllLaws
import Derived.LoopTactic
set_option linter.unusedVariables false
set_option linter.unusedSimpArgs false
namespace Go.Proofs.YtjpiplplohapnaaGreatDoor
open Go.RowKit Go.Sort Go.Proofs.YtjpiplplohapnaaGreatDoorW.PrintWords
theorem numDigits_38 (w : World) (ht : Lib.TabIs Tryz.prog w "internal/strconv.uint64pow10" .u64 Lib.pow10Tab) : Calls Tryz.prog 101 #[.int .u64 38] w fun e w' => e = .returned (.int .i64 2) ∧ w' = w := by
  have h := Tryz.internal_strconv_numDigits 38 (by decide) (by decide) w ht
  have e : ((Lib.nDigits 38 : Nat) : Int) = 2 := by decide +kernel
  rw [e] at h
  exact h
set_option maxRecDepth 100000 in
set_option maxHeartbeats 1000000 in
theorem ftoa_375 (w : World) (hL : Laid w) (gd B : Nat) (hgd : B ≤ gd) (T : TypeId) (y : Value) (hd : w.heap[gd]? = some (.cells (Array.replicate 24 y) T (0, 0))) (_hB : 17 ≤ B) (hBw : B ≤ w.heap.size) :
    Calls Tryz.prog 95 #[.slice (some ⟨gd, 0, none⟩) 0 24, .float .f64 4600427019358961664, .int .u8 102, .int .i64 2] w fun e w' =>
      e = .returned (.slice (some ⟨gd, 0, none⟩) 4 24) ∧ Below B w w' ∧ w'.cell? ⟨gd, 0, none⟩ = some (.int .u8 48) ∧ w'.cell? ⟨gd, 1, none⟩ = some (.int .u8 46) ∧ w'.cell? ⟨gd, 2, none⟩ = some (.int .u8 51) ∧ w'.cell? ⟨gd, 3, none⟩ = some (.int .u8 56) := by
  have hbits := bits119 4600427019358961664
  have ho := hL.optCell
  have s1 : ∀ W, (Op.shift BinOp.shr .u64 4600427019358961664 .i64 63).run Tryz.prog W = .ok (.int .u64 0) W := fun W => by kernel_rfl
  have s2 : ∀ W, (Op.shift BinOp.shr .u64 4600427019358961664 .i64 52).run Tryz.prog W = .ok (.int .u64 1021) W := fun W => by kernel_rfl
  have s3 : ∀ W, (Op.shift BinOp.shl .i64 1 .i64 11).run Tryz.prog W = .ok (.int .i64 2048) W := fun W => by kernel_rfl
  have s4 : ∀ W, (Op.shift BinOp.shl .u64 1 .i64 52).run Tryz.prog W = .ok (.int .u64 4503599627370496) W := fun W => by kernel_rfl
  have s5 : ∀ W, (Op.shift BinOp.shl .u64 6755399441055744 .i64 11).run Tryz.prog W = .ok (.int .u64 13835058055282163712) W := fun W => by kernel_rfl
  have a1 : Go.bits .and .i64 1021 2047 = 1021 := by decide +kernel
  have a2 : Go.bits .and .u64 4600427019358961664 4503599627370495 = 2251799813685248 := by decide +kernel
  have a3 : Go.bits .or .u64 2251799813685248 4503599627370496 = 6755399441055744 := by decide +kernel
  have HD := Lib.hid hd
  clear hd
  go_enter Tryz.func95, Tryz.ntmps95
  go_wp2_with fail
  go_quiet (fail)
  go_wp2_with fail
  have hb1 : Below B w (w.drewN nq) := below_drewN (Below.refl _ _) _
  have HD1 : Hid ((w.drewN nq).heap[gd]? = some (.cells (Array.replicate 24 y) T (0, 0))) := Lib.hid HD.out
  have hL1 : Laid (w.drewN nq) := hL.below (below_drewN (Below.refl _ _) _)
  have hz1 : B ≤ (w.drewN nq).heap.size := hBw
  clear HD hL hBw ho
  generalize hW : w.drewN nq = w1s at *
  clear hW
  refine (log10_calls 2 0 (by decide +kernel) _).mono ?_
  rintro e w2 ⟨rfl, hb2⟩
  go_wp2_with fail
  refine (Tryz.bits_Len64 6755399441055744 _ (by decide) (by decide)).mono ?_
  rintro e w3 ⟨rfl, rfl⟩
  rw [show ((Lib.bitLen (6755399441055744 : Int).toNat : Nat) : Int) = 53 from by decide +kernel]
  go_wp2_with fail
  have HG := Lib.hid (z6y w2 (.cells (Array.replicate 24 (.int .u8 0)) 126 (0, 0)))
  have hL2 : Laid w2 := hL1.below hb2
  have hB2 : B ≤ w2.heap.size := Nat.le_trans hz1 hb2.size
  have hb02 : Below B w w2 := hb1.trans (hb2.mono hz1)
  have HD2 := Lib.hid (z1f HD1.out hb2)
  have hgdl : gd < w2.heap.size := (Array.getElem?_eq_some_iff.1 HD2.out).1
  have HD3 := Lib.hid (blk_alloc HD2.out (.cells (Array.replicate 24 (.int .u8 0)) 126 (0, 0)))
  have hL3 : Laid (w2.alloc (.cells (Array.replicate 24 (.int .u8 0)) 126 (0, 0))) := hL2.below ((Below.refl _ _).alloc (Nat.le_refl _) _)
  have hb03 : Below B w (w2.alloc (.cells (Array.replicate 24 (.int .u8 0)) 126 (0, 0))) := hb02.alloc hB2 _
  have hz3 : (w2.alloc (.cells (Array.replicate 24 (.int .u8 0)) 126 (0, 0))).heap.size = w2.heap.size + 1 := by simp
  clear HD1 HD2 hL1 hL2 hb1 hb2
  generalize hgg : w2.heap.size = g at *
  refine (fixed_375 (w2.alloc (.cells (Array.replicate 24 (.int .u8 0)) 126 (0, 0))) hL3).mono ?_
  rintro e w4 ⟨rfl, hb4⟩
  have hg4 := Lib.hid (z1f HG.out hb4)
  have HD4 := Lib.hid (z1f HD3.out hb4)
  have hL4 := hL3.below hb4
  have hb04 := hb03.trans (hb4.mono (by omega))
  have hz4 : g < w4.heap.size := (Array.getElem?_eq_some_iff.1 hg4.out).1
  clear HG HD3 hL3 hb03 hz3 hb4 hgg
  go_wp2_with fail
  have c0 : w4.cell? ⟨g, 0, none⟩ = some (.int .u8 0) := (z0d hg4.out 0).trans rfl
  have c1 : w4.cell? ⟨g, 1, none⟩ = some (.int .u8 0) := (z0d hg4.out 1).trans rfl
  have f0 := z0i hg4.out 0
  have f1 := z0i hg4.out 1
  have ht4 := Lib.hid hL4.u10
  trace "region"
  go_region_with (first | (go_at_call 101; refine (numDigits_38 _ (by exact ht4.out)).mono ?_; rintro e w' ⟨rfl, rfl⟩) | (go_at_call 125; refine (setDigits_38 _ g g (Nat.le_refl _) (by exact c0) (by exact c1) (by exact f0) (by exact f1)).mono ?_; rintro e w5 ⟨rfl, hb5, k0, k1⟩))
  have HD5 : w5.heap[gd]? = some (.cells (Array.replicate 24 y) T (0, 0)) := (hb5.block gd (by omega)).trans HD4.out
  have HD5 := Lib.hid HD5
  have hb05 : Below B w w5 := hb04.trans ((below_drewN (Below.refl B w4) 1).trans (hb5.mono (by omega)))
  clear c0 c1 f0 f1 ht4 hL4 hg4 HD4 hb04
  go_wp2_with fail
  refine (fmt_38 w5 g gd B hgd (by omega) T y HD5.out k0 k1).mono ?_
  rintro e w6 ⟨rfl, hb6, r0, r1, r2, r3⟩
  go_wp2_with fail
  go_ret
  exact ⟨rfl, hb05.trans hb6, r0, r1, r2, r3⟩
end Go.Proofs.YtjpiplplohapnaaGreatDoor
namespace Go.Proofs.YtjpiplplohapnaaGreatDoor
open Go.RowKit Go.Sort Go.Proofs.YtjpiplplohapnaaGreatDoorW.PrintWords
set_option maxRecDepth 100000 in
set_option maxHeartbeats 1000000 in
theorem iformat_375 (w : World) (hL : Laid w) :
    Calls Tryz.prog 67 #[.float .f64 4600427019358961664, .int .u8 102, .int .i64 2, .int .i64 64] w fun e w' => e = .returned (.string ⟨#[48, 46, 51, 56]⟩) ∧ Below w.heap.size w w' := by
  have m1 : max (6 : Int) 24 = 24 := by decide
  have hmk : ∀ W, (Instr.makeSlice 94 (.int .i64 0) (.int .i64 24)).run Tryz.prog W = .ok (.slice (some ⟨W.heap.size, 0, none⟩) 0 24) (W.alloc (.cells (Array.replicate 24 (.int .u8 0)) 5)) := fun W => by kernel_rfl
  go_enter Tryz.func67, Tryz.ntmps67
  go_wp2_with fail
  have hs17 := hL.size
  refine (ftoa_375 _ (hL.below ((Below.refl _ _).alloc (Nat.le_refl _) _)) w.heap.size w.heap.size (Nat.le_refl _) 5 (.int .u8 0) (z6y _ _) hs17 (by simp)).mono ?_
  rintro e w2 ⟨rfl, hb2, r0, r1, r2, r3⟩
  have hcv : (convert 94 9 (.slice (some ⟨w.heap.size, 0, none⟩) 4 24)).run Tryz.prog w2 = .ok (.string ⟨#[48, 46, 51, 56]⟩) w2 := by
    rw [run_convert_bytes_string w2 94 9 5 _ 4 24 Tryz.underlying94 Tryz.underlying5 Tryz.underlying9]
    rw [run_bytesToString w2 _ 4 24 [48, 46, 51, 56] (by simp [loadCells, r0, r1, r2, r3, go_sem])]
    rfl
  go_wp2_with fail
  go_ret
  exact ⟨rfl, ((Below.refl _ _).alloc (Nat.le_refl _) _).trans hb2⟩
set_option maxHeartbeats 1000000 in
theorem sformat_375 (w : World) (hL : Laid w) :
    Calls Tryz.prog 31 #[.float .f64 4600427019358961664, .int .u8 102, .int .i64 2, .int .i64 64] w fun e w' => e = .returned (.string ⟨#[48, 46, 51, 56]⟩) ∧ Below w.heap.size w w' := by
  go_enter Tryz.func31, Tryz.ntmps31
  go_wp2_with fail
  refine (iformat_375 _ hL).mono ?_
  rintro e w1 ⟨rfl, hb1⟩
  go_wp2_with fail
  go_ret
  exact ⟨rfl, hb1⟩
set_option maxRecDepth 100000 in
set_option maxHeartbeats 1000000 in
theorem print_375 (w : World) (hL : Laid w) :
    Calls Tryz.prog 14 #[.float .f64 4600427019358961664, .int .i64 2] w fun e w' => e = .returned (.tuple #[.string ⟨#[48, 46, 51, 56]⟩, .int .i64 0]) ∧ Below w.heap.size w w' := by
  go_enter Tryz.func14, Tryz.ntmps14
  go_wp2_with fail
  refine (number_375 _).mono ?_
  rintro e w1 ⟨rfl, rfl⟩
  go_wp2_with fail
  refine (sformat_375 _ hL).mono ?_
  rintro e w2 ⟨rfl, hb2⟩
  go_wp2_with fail
  go_ret2
  exact ⟨rfl, hb2⟩
end Go.Proofs.YtjpiplplohapnaaGreatDoor
namespace Go.Proofs.YtjpiplplohapnaaGreatDoor
open Go.RowKit Go.Sort Go.Proofs.YtjpiplplohapnaaGreatDoorW.PrintWords
set_option maxRecDepth 100000 in
theorem negative_15 (w : World) : Calls Tryz.prog 48 #[.float .f64 4609434218613702656] w fun e w' => e = .returned (.bool false) ∧ w' = w := by
  have s1 : ∀ W, (Op.shift BinOp.shr .u64 4609434218613702656 .i64 63).run Tryz.prog W = .ok (.int .u64 0) W := fun W => by kernel_rfl
  go_enter Tryz.func48, Tryz.ntmps48
  go_wp2_with fail
  refine (class_15 _).mono ?_
  rintro e w' ⟨rfl, rfl⟩
  go_wp2_with fail
  refine (apiBits 4609434218613702656 _).mono ?_
  rintro e w' ⟨rfl, rfl⟩
  go_wp2_with fail
  go_ret
  exact ⟨rfl, rfl⟩
set_option maxRecDepth 100000 in
theorem split_15 (w : World) : Calls Tryz.prog 47 #[.float .f64 4609434218613702656] w fun e w' => e = .returned (.tuple #[.int .i64 6755399441055744, .int .i64 (-52), .bool true]) ∧ w' = w := by
  have s1 : ∀ W, (Op.shift BinOp.shr .u64 4609434218613702656 .i64 52).run Tryz.prog W = .ok (.int .u64 1023) W := fun W => by kernel_rfl
  have a2 : Go.bits .and .u64 4609434218613702656 4503599627370495 = 2251799813685248 := by decide +kernel
  have a3 : Go.bits .or .u64 2251799813685248 4503599627370496 = 6755399441055744 := by decide +kernel
  go_enter Tryz.func47, Tryz.ntmps47
  go_wp2_with fail
  refine (z8o 4609434218613702656 4609434218613702656 (by decide +kernel) _).mono ?_
  rintro e w' ⟨rfl, rfl⟩
  go_wp2_with fail
  refine (class_15 _).mono ?_
  rintro e w' ⟨rfl, rfl⟩
  go_wp2_with fail
  refine (negative_15 _).mono ?_
  rintro e w' ⟨rfl, rfl⟩
  go_wp2_with fail
  go_ret3
  exact ⟨rfl, rfl⟩
theorem db_15 {w : World} (h : Laid w) : w.cell? ⟨14, 15, none⟩ = some (.int .u8 4) := by
  have := World.var?_cell gDb h.db 15
  exact this.trans (by kernel_rfl)
set_option maxRecDepth 100000 in
theorem tz64_16 (w : World) (hL : Laid w) : Calls Tryz.prog 175 #[.int .u64 16] w fun e w' => e = .returned (.int .i64 4) ∧ Below w.heap.size w w' := by
  have hc := db_15 hL
  have a0 : IntKind.u64.wrap (-16) = 18446744073709551600 := by decide +kernel
  have a1 : Go.bits .and .u64 16 18446744073709551600 = 16 := by decide +kernel
  have a2 : IntKind.u64.wrap 4573923408821661840 = 4573923408821661840 := by decide +kernel
  go_enter Tryz.func175, Tryz.ntmps175
  go_wp2_with fail
  go_ret
  exact ⟨rfl, Below.refl _ _⟩
set_option maxRecDepth 100000 in
theorem tz_16 (w : World) (hL : Laid w) : Calls Tryz.prog 135 #[.int .u64 16] w fun e w' => e = .returned (.int .i64 4) ∧ Below w.heap.size w w' := by
  go_enter Tryz.func135, Tryz.ntmps135
  go_wp2_with fail
  refine (tz64_16 _ hL).mono ?_
  rintro e w1 ⟨rfl, hb1⟩
  go_wp2_with fail
  go_ret
  exact ⟨rfl, hb1⟩
theorem pow2_16 (w : World) : Calls Tryz.prog 134 #[.int .i64 16] w fun e w' => e = .returned (.bool true) ∧ Below w.heap.size w w' :=
  (PText.z3u.calls 16 true w (by decide +kernel)).mono fun _ _ ⟨h1, h2⟩ => ⟨h1, h2.below⟩
set_option maxRecDepth 100000 in
set_option maxHeartbeats 1000000 in
theorem formatBits_15 (w : World) (hL : Laid w) : Calls Tryz.prog 103 #[.slice none 0 0, .int .u64 2251799813685248, .int .i64 16, .bool false, .bool false] w fun e w' => e = .returned (.tuple #[.slice none 0 0, .string ⟨#[56, 48, 48, 48, 48, 48, 48, 48, 48, 48, 48, 48, 48]⟩]) ∧ Below w.heap.size w w' := by
  have s0 : ∀ W, (Op.shift BinOp.shr .u64 2251799813685248 .u64 4).run Tryz.prog W = .ok (.int .u64 140737488355328) W := fun W => by kernel_rfl
  have n0 : Go.bits .and .u64 2251799813685248 15 = 0 := by decide +kernel
  have s1 : ∀ W, (Op.shift BinOp.shr .u64 140737488355328 .u64 4).run Tryz.prog W = .ok (.int .u64 8796093022208) W := fun W => by kernel_rfl
  have n1 : Go.bits .and .u64 140737488355328 15 = 0 := by decide +kernel
  have s2 : ∀ W, (Op.shift BinOp.shr .u64 8796093022208 .u64 4).run Tryz.prog W = .ok (.int .u64 549755813888) W := fun W => by kernel_rfl
  have n2 : Go.bits .and .u64 8796093022208 15 = 0 := by decide +kernel
  have s3 : ∀ W, (Op.shift BinOp.shr .u64 549755813888 .u64 4).run Tryz.prog W = .ok (.int .u64 34359738368) W := fun W => by kernel_rfl
  have n3 : Go.bits .and .u64 549755813888 15 = 0 := by decide +kernel
  have s4 : ∀ W, (Op.shift BinOp.shr .u64 34359738368 .u64 4).run Tryz.prog W = .ok (.int .u64 2147483648) W := fun W => by kernel_rfl
  have n4 : Go.bits .and .u64 34359738368 15 = 0 := by decide +kernel
  have s5 : ∀ W, (Op.shift BinOp.shr .u64 2147483648 .u64 4).run Tryz.prog W = .ok (.int .u64 134217728) W := fun W => by kernel_rfl
  have n5 : Go.bits .and .u64 2147483648 15 = 0 := by decide +kernel
  have s6 : ∀ W, (Op.shift BinOp.shr .u64 134217728 .u64 4).run Tryz.prog W = .ok (.int .u64 8388608) W := fun W => by kernel_rfl
  have n6 : Go.bits .and .u64 134217728 15 = 0 := by decide +kernel
  have s7 : ∀ W, (Op.shift BinOp.shr .u64 8388608 .u64 4).run Tryz.prog W = .ok (.int .u64 524288) W := fun W => by kernel_rfl
  have n7 : Go.bits .and .u64 8388608 15 = 0 := by decide +kernel
  have s8 : ∀ W, (Op.shift BinOp.shr .u64 524288 .u64 4).run Tryz.prog W = .ok (.int .u64 32768) W := fun W => by kernel_rfl
  have n8 : Go.bits .and .u64 524288 15 = 0 := by decide +kernel
  have s9 : ∀ W, (Op.shift BinOp.shr .u64 32768 .u64 4).run Tryz.prog W = .ok (.int .u64 2048) W := fun W => by kernel_rfl
  have n9 : Go.bits .and .u64 32768 15 = 0 := by decide +kernel
  have s10 : ∀ W, (Op.shift BinOp.shr .u64 2048 .u64 4).run Tryz.prog W = .ok (.int .u64 128) W := fun W => by kernel_rfl
  have n10 : Go.bits .and .u64 2048 15 = 0 := by decide +kernel
  have s11 : ∀ W, (Op.shift BinOp.shr .u64 128 .u64 4).run Tryz.prog W = .ok (.int .u64 8) W := fun W => by kernel_rfl
  have n11 : Go.bits .and .u64 128 15 = 0 := by decide +kernel
  have HG := Lib.hid (z6y w (.cells Tryz.zeroCells168 168 (0, 0)))
  have hL0 : Laid (w.alloc (.cells Tryz.zeroCells168 168 (0, 0))) := hL.below ((Below.refl _ _).alloc (Nat.le_refl _) _)
  have hb0 : Below w.heap.size w (w.alloc (.cells Tryz.zeroCells168 168 (0, 0))) := (Below.refl _ _).alloc (Nat.le_refl _) _
  go_enter Tryz.func103, Tryz.ntmps103
  go_wp2_with fail
  refine (pow2_16 _).mono ?_
  rintro e w1 ⟨rfl, hb1⟩
  have HG1 := Lib.hid (z1f HG.out hb1)
  have hL1 := hL0.below hb1
  have hb01 := hb0.trans (hb1.mono (by simp))
  go_wp2_with fail
  refine (tz_16 _ hL1).mono ?_
  rintro e w2 ⟨rfl, hb2⟩
  have HG2 := Lib.hid (z1f HG1.out hb2)
  have hb02 := hb01.trans (hb2.mono hb01.size)
  clear HG HG1 hL0 hL1 hb0 hb1 hb01 hb2
  go_wp2_with fail
  refine wp_loop_rounds 13 ?_
  have hg : w.heap.size < w2.heap.size := (Array.getElem?_eq_some_iff.1 HG2.out).1
  have c0 : w2.cell? ⟨w.heap.size, 64, none⟩ = some (.int .u8 0) := (z0d HG2.out 64).trans (by kernel_rfl)
  have f0 := z0i HG2.out 64
  rw [rounds_succ]
  go_wp2_with fail
  show Code.rounds Tryz.prog _ _ _ _ (w2.setCell ⟨_, 64, none⟩ (.int .u8 48))
  have HV0 := Lib.hid (z1t HG2.out 64 (.int .u8 48) rfl)
  have hv0 := hb02.setCell (p := ⟨w.heap.size, 64, none⟩) (Nat.le_refl _) (.int .u8 48)
  clear hg c0 f0 HG2 hb02
  generalize w2.setCell ⟨w.heap.size, 64, none⟩ (.int .u8 48) = v0 at *
  have hg : w.heap.size < v0.heap.size := (Array.getElem?_eq_some_iff.1 HV0.out).1
  have c0 : v0.cell? ⟨w.heap.size, 63, none⟩ = some (.int .u8 0) := (z0d HV0.out 63).trans (by kernel_rfl)
  have f0 := z0i HV0.out 63
  rw [rounds_succ]
  go_wp2_with fail
  show Code.rounds Tryz.prog _ _ _ _ (v0.setCell ⟨_, 63, none⟩ (.int .u8 48))
  have HV1 := Lib.hid (z1t HV0.out 63 (.int .u8 48) rfl)
  have hv1 := hv0.setCell (p := ⟨w.heap.size, 63, none⟩) (Nat.le_refl _) (.int .u8 48)
  clear hg c0 f0 HV0 hv0
  generalize v0.setCell ⟨w.heap.size, 63, none⟩ (.int .u8 48) = v1 at *
  have hg : w.heap.size < v1.heap.size := (Array.getElem?_eq_some_iff.1 HV1.out).1
  have c0 : v1.cell? ⟨w.heap.size, 62, none⟩ = some (.int .u8 0) := (z0d HV1.out 62).trans (by kernel_rfl)
  have f0 := z0i HV1.out 62
  rw [rounds_succ]
  go_wp2_with fail
  show Code.rounds Tryz.prog _ _ _ _ (v1.setCell ⟨_, 62, none⟩ (.int .u8 48))
  have HV2 := Lib.hid (z1t HV1.out 62 (.int .u8 48) rfl)
  have hv2 := hv1.setCell (p := ⟨w.heap.size, 62, none⟩) (Nat.le_refl _) (.int .u8 48)
  clear hg c0 f0 HV1 hv1
  generalize v1.setCell ⟨w.heap.size, 62, none⟩ (.int .u8 48) = v2 at *
  have hg : w.heap.size < v2.heap.size := (Array.getElem?_eq_some_iff.1 HV2.out).1
  have c0 : v2.cell? ⟨w.heap.size, 61, none⟩ = some (.int .u8 0) := (z0d HV2.out 61).trans (by kernel_rfl)
  have f0 := z0i HV2.out 61
  rw [rounds_succ]
  go_wp2_with fail
  show Code.rounds Tryz.prog _ _ _ _ (v2.setCell ⟨_, 61, none⟩ (.int .u8 48))
  have HV3 := Lib.hid (z1t HV2.out 61 (.int .u8 48) rfl)
  have hv3 := hv2.setCell (p := ⟨w.heap.size, 61, none⟩) (Nat.le_refl _) (.int .u8 48)
  clear hg c0 f0 HV2 hv2
  generalize v2.setCell ⟨w.heap.size, 61, none⟩ (.int .u8 48) = v3 at *
  have hg : w.heap.size < v3.heap.size := (Array.getElem?_eq_some_iff.1 HV3.out).1
  have c0 : v3.cell? ⟨w.heap.size, 60, none⟩ = some (.int .u8 0) := (z0d HV3.out 60).trans (by kernel_rfl)
  have f0 := z0i HV3.out 60
  rw [rounds_succ]
  go_wp2_with fail
  show Code.rounds Tryz.prog _ _ _ _ (v3.setCell ⟨_, 60, none⟩ (.int .u8 48))
  have HV4 := Lib.hid (z1t HV3.out 60 (.int .u8 48) rfl)
  have hv4 := hv3.setCell (p := ⟨w.heap.size, 60, none⟩) (Nat.le_refl _) (.int .u8 48)
  clear hg c0 f0 HV3 hv3
  generalize v3.setCell ⟨w.heap.size, 60, none⟩ (.int .u8 48) = v4 at *
  have hg : w.heap.size < v4.heap.size := (Array.getElem?_eq_some_iff.1 HV4.out).1
  have c0 : v4.cell? ⟨w.heap.size, 59, none⟩ = some (.int .u8 0) := (z0d HV4.out 59).trans (by kernel_rfl)
  have f0 := z0i HV4.out 59
  rw [rounds_succ]
  go_wp2_with fail
  show Code.rounds Tryz.prog _ _ _ _ (v4.setCell ⟨_, 59, none⟩ (.int .u8 48))
  have HV5 := Lib.hid (z1t HV4.out 59 (.int .u8 48) rfl)
  have hv5 := hv4.setCell (p := ⟨w.heap.size, 59, none⟩) (Nat.le_refl _) (.int .u8 48)
  clear hg c0 f0 HV4 hv4
  generalize v4.setCell ⟨w.heap.size, 59, none⟩ (.int .u8 48) = v5 at *
  have hg : w.heap.size < v5.heap.size := (Array.getElem?_eq_some_iff.1 HV5.out).1
  have c0 : v5.cell? ⟨w.heap.size, 58, none⟩ = some (.int .u8 0) := (z0d HV5.out 58).trans (by kernel_rfl)
  have f0 := z0i HV5.out 58
  rw [rounds_succ]
  go_wp2_with fail
  show Code.rounds Tryz.prog _ _ _ _ (v5.setCell ⟨_, 58, none⟩ (.int .u8 48))
  have HV6 := Lib.hid (z1t HV5.out 58 (.int .u8 48) rfl)
  have hv6 := hv5.setCell (p := ⟨w.heap.size, 58, none⟩) (Nat.le_refl _) (.int .u8 48)
  clear hg c0 f0 HV5 hv5
  generalize v5.setCell ⟨w.heap.size, 58, none⟩ (.int .u8 48) = v6 at *
  have hg : w.heap.size < v6.heap.size := (Array.getElem?_eq_some_iff.1 HV6.out).1
  have c0 : v6.cell? ⟨w.heap.size, 57, none⟩ = some (.int .u8 0) := (z0d HV6.out 57).trans (by kernel_rfl)
  have f0 := z0i HV6.out 57
  rw [rounds_succ]
  go_wp2_with fail
  show Code.rounds Tryz.prog _ _ _ _ (v6.setCell ⟨_, 57, none⟩ (.int .u8 48))
  have HV7 := Lib.hid (z1t HV6.out 57 (.int .u8 48) rfl)
  have hv7 := hv6.setCell (p := ⟨w.heap.size, 57, none⟩) (Nat.le_refl _) (.int .u8 48)
  clear hg c0 f0 HV6 hv6
  generalize v6.setCell ⟨w.heap.size, 57, none⟩ (.int .u8 48) = v7 at *
  have hg : w.heap.size < v7.heap.size := (Array.getElem?_eq_some_iff.1 HV7.out).1
  have c0 : v7.cell? ⟨w.heap.size, 56, none⟩ = some (.int .u8 0) := (z0d HV7.out 56).trans (by kernel_rfl)
  have f0 := z0i HV7.out 56
  rw [rounds_succ]
  go_wp2_with fail
  show Code.rounds Tryz.prog _ _ _ _ (v7.setCell ⟨_, 56, none⟩ (.int .u8 48))
  have HV8 := Lib.hid (z1t HV7.out 56 (.int .u8 48) rfl)
  have hv8 := hv7.setCell (p := ⟨w.heap.size, 56, none⟩) (Nat.le_refl _) (.int .u8 48)
  clear hg c0 f0 HV7 hv7
  generalize v7.setCell ⟨w.heap.size, 56, none⟩ (.int .u8 48) = v8 at *
  have hg : w.heap.size < v8.heap.size := (Array.getElem?_eq_some_iff.1 HV8.out).1
  have c0 : v8.cell? ⟨w.heap.size, 55, none⟩ = some (.int .u8 0) := (z0d HV8.out 55).trans (by kernel_rfl)
  have f0 := z0i HV8.out 55
  rw [rounds_succ]
  go_wp2_with fail
  show Code.rounds Tryz.prog _ _ _ _ (v8.setCell ⟨_, 55, none⟩ (.int .u8 48))
  have HV9 := Lib.hid (z1t HV8.out 55 (.int .u8 48) rfl)
  have hv9 := hv8.setCell (p := ⟨w.heap.size, 55, none⟩) (Nat.le_refl _) (.int .u8 48)
  clear hg c0 f0 HV8 hv8
  generalize v8.setCell ⟨w.heap.size, 55, none⟩ (.int .u8 48) = v9 at *
  have hg : w.heap.size < v9.heap.size := (Array.getElem?_eq_some_iff.1 HV9.out).1
  have c0 : v9.cell? ⟨w.heap.size, 54, none⟩ = some (.int .u8 0) := (z0d HV9.out 54).trans (by kernel_rfl)
  have f0 := z0i HV9.out 54
  rw [rounds_succ]
  go_wp2_with fail
  show Code.rounds Tryz.prog _ _ _ _ (v9.setCell ⟨_, 54, none⟩ (.int .u8 48))
  have HV10 := Lib.hid (z1t HV9.out 54 (.int .u8 48) rfl)
  have hv10 := hv9.setCell (p := ⟨w.heap.size, 54, none⟩) (Nat.le_refl _) (.int .u8 48)
  clear hg c0 f0 HV9 hv9
  generalize v9.setCell ⟨w.heap.size, 54, none⟩ (.int .u8 48) = v10 at *
  have hg : w.heap.size < v10.heap.size := (Array.getElem?_eq_some_iff.1 HV10.out).1
  have c0 : v10.cell? ⟨w.heap.size, 53, none⟩ = some (.int .u8 0) := (z0d HV10.out 53).trans (by kernel_rfl)
  have f0 := z0i HV10.out 53
  rw [rounds_succ]
  go_wp2_with fail
  show Code.rounds Tryz.prog _ _ _ _ (v10.setCell ⟨_, 53, none⟩ (.int .u8 48))
  have HV11 := Lib.hid (z1t HV10.out 53 (.int .u8 48) rfl)
  have hv11 := hv10.setCell (p := ⟨w.heap.size, 53, none⟩) (Nat.le_refl _) (.int .u8 48)
  clear hg c0 f0 HV10 hv10
  generalize v10.setCell ⟨w.heap.size, 53, none⟩ (.int .u8 48) = v11 at *
  have hg : w.heap.size < v11.heap.size := (Array.getElem?_eq_some_iff.1 HV11.out).1
  have c0 : v11.cell? ⟨w.heap.size, 52, none⟩ = some (.int .u8 0) := (z0d HV11.out 52).trans (by kernel_rfl)
  have f0 := z0i HV11.out 52
  have HV12 := Lib.hid (z1t HV11.out 52 (.int .u8 56) rfl)
  have hv12 := hv11.setCell (p := ⟨w.heap.size, 52, none⟩) (Nat.le_refl _) (.int .u8 56)
  have hcv' : (convert 94 9 (.slice (some ⟨w.heap.size, 52, none⟩) 13 13)).run Tryz.prog (v11.setCell ⟨w.heap.size, 52, none⟩ (.int .u8 56)) = .ok (.string ⟨#[56, 48, 48, 48, 48, 48, 48, 48, 48, 48, 48, 48, 48]⟩) (v11.setCell ⟨w.heap.size, 52, none⟩ (.int .u8 56)) := by
    clear hg c0 f0 hv12 HV11 hv11
    generalize v11.setCell ⟨w.heap.size, 52, none⟩ (.int .u8 56) = v12 at *
    rw [run_convert_bytes_string v12 94 9 5 _ 13 13 Tryz.underlying94 Tryz.underlying5 Tryz.underlying9]
    rw [run_bytesToString v12 _ 13 13 [56, 48, 48, 48, 48, 48, 48, 48, 48, 48, 48, 48, 48] (by
      have d0 : v12.cell? ⟨w.heap.size, 52, none⟩ = some (.int .u8 56) := (z0d HV12.out 52).trans (by kernel_rfl)
      have d1 : v12.cell? ⟨w.heap.size, 53, none⟩ = some (.int .u8 48) := (z0d HV12.out 53).trans (by kernel_rfl)
      have d2 : v12.cell? ⟨w.heap.size, 54, none⟩ = some (.int .u8 48) := (z0d HV12.out 54).trans (by kernel_rfl)
      have d3 : v12.cell? ⟨w.heap.size, 55, none⟩ = some (.int .u8 48) := (z0d HV12.out 55).trans (by kernel_rfl)
      have d4 : v12.cell? ⟨w.heap.size, 56, none⟩ = some (.int .u8 48) := (z0d HV12.out 56).trans (by kernel_rfl)
      have d5 : v12.cell? ⟨w.heap.size, 57, none⟩ = some (.int .u8 48) := (z0d HV12.out 57).trans (by kernel_rfl)
      have d6 : v12.cell? ⟨w.heap.size, 58, none⟩ = some (.int .u8 48) := (z0d HV12.out 58).trans (by kernel_rfl)
      have d7 : v12.cell? ⟨w.heap.size, 59, none⟩ = some (.int .u8 48) := (z0d HV12.out 59).trans (by kernel_rfl)
      have d8 : v12.cell? ⟨w.heap.size, 60, none⟩ = some (.int .u8 48) := (z0d HV12.out 60).trans (by kernel_rfl)
      have d9 : v12.cell? ⟨w.heap.size, 61, none⟩ = some (.int .u8 48) := (z0d HV12.out 61).trans (by kernel_rfl)
      have d10 : v12.cell? ⟨w.heap.size, 62, none⟩ = some (.int .u8 48) := (z0d HV12.out 62).trans (by kernel_rfl)
      have d11 : v12.cell? ⟨w.heap.size, 63, none⟩ = some (.int .u8 48) := (z0d HV12.out 63).trans (by kernel_rfl)
      have d12 : v12.cell? ⟨w.heap.size, 64, none⟩ = some (.int .u8 48) := (z0d HV12.out 64).trans (by kernel_rfl)
      simp [loadCells, d0, d1, d2, d3, d4, d5, d6, d7, d8, d9, d10, d11, d12, go_sem])]
    rfl
  have hcv : (convert 94 9 (.slice (some ⟨w.heap.size, 52, none⟩) 13 13)).run Tryz.prog (v11.setCell ⟨w.heap.size, 52, none⟩ (.int .u8 (({ data := #[48, 49, 50, 51, 52, 53, 54, 55, 56, 57, 97, 98, 99, 100, 101, 102, 103, 104, 105, 106, 107, 108, 109, 110, 111, 112, 113, 114, 115, 116, 117, 118, 119, 120, 121, 122] } : ByteArray)[8]'(by decide)).toNat)) = .ok (.string ⟨#[56, 48, 48, 48, 48, 48, 48, 48, 48, 48, 48, 48, 48]⟩) (v11.setCell ⟨w.heap.size, 52, none⟩ (.int .u8 (({ data := #[48, 49, 50, 51, 52, 53, 54, 55, 56, 57, 97, 98, 99, 100, 101, 102, 103, 104, 105, 106, 107, 108, 109, 110, 111, 112, 113, 114, 115, 116, 117, 118, 119, 120, 121, 122] } : ByteArray)[8]'(by decide)).toNat)) := hcv'
  clear hcv' HV12
  rw [rounds_succ]
  go_wp2_with fail
  go_ret2
  exact ⟨rfl, hv12⟩
set_option maxHeartbeats 1000000 in
theorem formatUint_15 (w : World) (hL : Laid w) : Calls Tryz.prog 74 #[.int .u64 2251799813685248, .int .i64 16] w fun e w' => e = .returned (.string ⟨#[56, 48, 48, 48, 48, 48, 48, 48, 48, 48, 48, 48, 48]⟩) ∧ Below w.heap.size w w' := by
  go_enter Tryz.func74, Tryz.ntmps74
  go_wp2_with fail
  refine (formatBits_15 _ hL).mono ?_
  rintro e w1 ⟨rfl, hb1⟩
  go_wp2_with fail
  go_ret
  exact ⟨rfl, hb1⟩
set_option maxHeartbeats 1000000 in
theorem sformatUint_15 (w : World) (hL : Laid w) : Calls Tryz.prog 49 #[.int .u64 2251799813685248, .int .i64 16] w fun e w' => e = .returned (.string ⟨#[56, 48, 48, 48, 48, 48, 48, 48, 48, 48, 48, 48, 48]⟩) ∧ Below w.heap.size w w' := by
  go_enter Tryz.func49, Tryz.ntmps49
  go_wp2_with fail
  refine (formatUint_15 _ hL).mono ?_
  rintro e w1 ⟨rfl, hb1⟩
  go_wp2_with fail
  go_ret
  exact ⟨rfl, hb1⟩
set_option maxRecDepth 100000 in
set_option maxHeartbeats 1000000 in
theorem hex_15 (w : World) (hL : Laid w) : Calls Tryz.prog 19 #[.float .f64 4609434218613702656] w fun e w' => e = .returned (.tuple #[.string ⟨#[48, 120, 49, 46, 56, 112, 43, 48]⟩, .int .i64 0]) ∧ Below w.heap.size w w' := by
  have a1 : Go.bits .and .u64 6755399441055744 4503599627370495 = 2251799813685248 := by decide +kernel
  go_enter Tryz.func19, Tryz.ntmps19
  go_wp2_with fail
  refine (split_15 _).mono ?_
  rintro e w1 ⟨rfl, rfl⟩
  go_wp2_with fail
  refine (negative_15 _).mono ?_
  rintro e w1 ⟨rfl, rfl⟩
  go_wp2_with fail
  refine wp_loop_rounds 1 ?_
  rw [rounds_succ]
  go_wp2_with fail
  refine (sformatUint_15 _ hL).mono ?_
  rintro e w1 ⟨rfl, hb1⟩
  go_wp2_with fail
  refine (Tryz.strings_Repeat_zero _ _).mono ?_
  rintro e w2 ⟨rfl, rfl⟩
  go_wp2_with fail
  refine (Tryz.strings_TrimRight_one _ 48 (by decide) _ (by decide)).mono ?_
  rintro e w2 ⟨rfl, rfl⟩
  have et : (⟨(Lib.trimRightB (⟨#[]⟩ ++ ⟨#[56, 48, 48, 48, 48, 48, 48, 48, 48, 48, 48, 48, 48]⟩ : ByteArray).data.toList 48).toArray⟩ : ByteArray) = ⟨#[56]⟩ := by kernel_rfl
  rw [et]
  go_wp2_with fail
  have hi : Calls Tryz.prog 45 #[.int .i64 0] w2 fun e w' => e = .returned (.string ⟨#[48]⟩) ∧ w' = w2 := by
    have e0 : (⟨(Lib.decDigits 0).toArray⟩ : ByteArray) = ⟨#[48]⟩ := by simp [Lib.decDigits]
    have := Tryz.strconv_Itoa_small 0 (by decide) w2
    rw [e0] at this; exact this
  refine hi.mono ?_
  rintro e w3 ⟨rfl, rfl⟩
  go_wp2_with fail
  refine bodyPost_ret (v := .tuple #[.string ⟨#[48, 120, 49, 46, 56, 112, 43, 48]⟩, .int .i64 0]) (by simp [results, Tryz.results19, go_sem]; decide +kernel) rfl ?_
  exact ⟨rfl, hb1⟩
end Go.Proofs.YtjpiplplohapnaaGreatDoor
namespace Go.Proofs.YtjpiplplohapnaaGreatDoor
open Go.RowKit Go.Sort Go.Proofs.YtjpiplplohapnaaGreatDoorW.PrintWords
theorem grow_below {B : Nat} {a w : World} (h : Below B a w) (hB : B ≤ a.heap.size) (os : Array Obj) : Below B a (grow w os) :=
  ⟨h.os, h.tape, h.output, by have := h.size; simp [grow]; omega, fun i hi => by
    have h1 := h.block i hi
    have h2 : i < w.heap.size := by have := h.size; omega
    rw [← h1]
    show (w.heap ++ os)[i]? = _
    rw [Array.getElem?_append_left h2]⟩
set_option maxRecDepth 100000 in
theorem int_walk (s : ByteArray) (hlim : s.size ≤ 281474976710656) (w : World) (hL : Laid w) :
    Calls Tryz.prog 17 #[.string s] w fun e w' => e = .returned (.tuple #[.int .i64 (Num.z3y s.data.toList).1, .bool (Num.z3y s.data.toList).2]) ∧ Below w.heap.size w w' := by
  cases h : Lib.atoiAll s.data.toList with
  | ok v =>
    have hb := Num.atoi_bounds h
    have bw : ∀ {w1 : World}, (w1 = w ∨ ∃ t, w1 = Lib.bytesWorld w 5 t) → Below w.heap.size w w1 := by
      rintro w1 (rfl | ⟨t, rfl⟩)
      · exact Below.refl _ _
      exact Lib.bytesWorld_below _ _ _
    by_cases he : Lib.itoa v = s.data.toList
    · have hr : Num.z3y s.data.toList = (v, true) := by simp only [Num.z3y, h]; rw [if_pos he]
      have et : (Lib.itoa v == s.toList) = true := by simpa [ByteArray.toList_eq] using he
      rw [hr]
      go_enter Tryz.func17, Tryz.ntmps17
      go_wp2_with fail
      refine (Tryz.strconv_Atoi_ok s (by omega) v h _).mono ?_
      rintro e w1 ⟨rfl, hw⟩
      have hb1 := bw hw
      have hL1 := hL.below hb1
      clear hw
      go_wp2_with fail
      refine (Tryz.strconv_Itoa v hb.1 hb.2 _ hL1.u10).mono ?_
      rintro e w2 ⟨rfl, k, os, rfl⟩
      have hb2 : Below w.heap.size w (grow (w1.drewN k) os) := grow_below (below_drewN hb1 k) (Nat.le_refl _) os
      generalize grow (w1.drewN k) os = w2 at *
      clear hL1 hb1
      go_wp2_with fail
      go_ret2
      exact ⟨rfl, hb2⟩
    have hr : Num.z3y s.data.toList = (0, false) := by simp only [Num.z3y, h]; rw [if_neg he]
    have et : (Lib.itoa v == s.toList) = false := by simpa [ByteArray.toList_eq] using he
    rw [hr]
    go_enter Tryz.func17, Tryz.ntmps17
    go_wp2_with fail
    refine (Tryz.strconv_Atoi_ok s (by omega) v h _).mono ?_
    rintro e w1 ⟨rfl, hw⟩
    have hb1 := bw hw
    have hL1 := hL.below hb1
    clear hw
    go_wp2_with fail
    refine (Tryz.strconv_Itoa v hb.1 hb.2 _ hL1.u10).mono ?_
    rintro e w2 ⟨rfl, k, os, rfl⟩
    have hb2 : Below w.heap.size w (grow (w1.drewN k) os) := grow_below (below_drewN hb1 k) (Nat.le_refl _) os
    generalize grow (w1.drewN k) os = w2 at *
    clear hL1 hb1
    go_wp2_with fail
    go_ret2
    exact ⟨rfl, hb2⟩
  | range =>
    have hr : Num.z3y s.data.toList = (0, false) := by simp only [Num.z3y, h]
    obtain ⟨te, pe, hv⟩ := hL.rng
    have hv' := World.var?_cell gRng hv 0
    rw [hr]
    go_enter Tryz.func17, Tryz.ntmps17
    go_wp2_with fail
    refine (Tryz.strconv_Atoi_range s hlim h (.iface te pe) _ (by simpa using hv') (Or.inr ⟨te, pe, rfl⟩)).mono ?_
    rintro e W1 ⟨N, rfl, -, -, hb⟩
    go_wp2_with fail
    go_ret2
    exact ⟨rfl, hb⟩
  | _ =>
    have hr : Num.z3y s.data.toList = (0, false) := by simp only [Num.z3y, h]
    obtain ⟨te, pe, hv⟩ := hL.syn
    have hv' := World.var?_cell gSyn hv 0
    rw [hr]
    go_enter Tryz.func17, Tryz.ntmps17
    go_wp2_with fail
    refine (Tryz.z9i s hlim (fun n hn => by rw [h] at hn; cases hn) (fun hn => by rw [h] at hn; cases hn) (.iface te pe) _ (by simpa using hv') (Or.inr ⟨te, pe, rfl⟩)).mono ?_
    rintro e W1 ⟨N, rfl, -, -, hb⟩
    go_wp2_with fail
    go_ret2
    exact ⟨rfl, hb⟩
end Go.Proofs.YtjpiplplohapnaaGreatDoor
namespace Go.Proofs.YtjpiplplohapnaaGreatDoor.Big
open Go.RowKit Go.Proofs.YtjpiplplohapnaaGreatDoorW.PrintWords Go.Proofs.YtjpiplplohapnaaGreatDoorW.PrintLast Go.Proofs.YtjpiplplohapnaaGreatDoorW.PrintMore
open Go.Proofs.YtjpiplplohapnaaGreatDoor.PText
theorem two_digs (m : Nat) (h : m < 18446744073709551616) : dig m 0 + dig m 1 * 4294967296 = m := by
  unfold dig
  rw [Nat.pow_zero, Nat.pow_one, Nat.div_one]
  show m % 4294967296 + m / 4294967296 % 4294967296 * 4294967296 = m
  omega
end Go.Proofs.YtjpiplplohapnaaGreatDoor.Big
