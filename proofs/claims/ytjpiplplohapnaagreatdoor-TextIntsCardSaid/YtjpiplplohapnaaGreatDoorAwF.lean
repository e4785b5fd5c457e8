/- Walks at the inputs of awake (6): ftoa64 at 0.375, two places. -/
import Derived.Test.YtjpiplplohapnaaGreatDoorAwE
import Derived.Deep.RegionWith
namespace Go.Proofs.YtjpiplplohapnaaGreatDoor
open Go.RowKit Go.Sort Go.Proofs.YtjpiplplohapnaaGreatDoorW.PrintWords
theorem numDigits_38 (w : World) (ht : Lib.TabIs Tryz.prog w "internal/strconv.uint64pow10" .u64 Lib.pow10Tab) : Calls Tryz.prog 101 #[.int .u64 38] w fun e w' => e = .returned (.int .i64 2) ∧ w' = w := by
  have h := Tryz.internal_strconv_numDigits 38 (by decide) (by decide) w ht
  have e : ((Lib.nDigits 38 : Nat) : Int) = 2 := by decide +kernel
  rw [e] at h
  exact h
set_option maxRecDepth 100000 in
set_option maxHeartbeats 1000000 in
theorem ftoa_375 (w : World) (hL : Laid w) (gd B : Nat) (hgd : B ≤ gd) (T : TypeId) (y : Value) (hd : w.heap[gd]? = some (.cells (Array.replicate 24 y) T (0, 0))) (_hB : 17 ≤ B) (hBw : B ≤ w.heap.size) :
    Calls Tryz.prog 95 #[.slice (some ⟨gd, 0, none⟩) 0 24, .float .f64 4600427019358961664, .int .u8 102, .int .i64 2] w fun e w' =>
      e = .returned (.slice (some ⟨gd, 0, none⟩) 4 24) ∧ Below B w w' ∧ w'.cell? ⟨gd, 0, none⟩ = some (.int .u8 48) ∧ w'.cell? ⟨gd, 1, none⟩ = some (.int .u8 46) ∧ w'.cell? ⟨gd, 2, none⟩ = some (.int .u8 51) ∧ w'.cell? ⟨gd, 3, none⟩ = some (.int .u8 56) := by
  have hbits := bits119 4600427019358961664
  have ho := hL.optCell
  have s1 : ∀ W, (Op.shift BinOp.shr .u64 4600427019358961664 .i64 63).run Tryz.prog W = .ok (.int .u64 0) W := fun W => by kernel_rfl
  have s2 : ∀ W, (Op.shift BinOp.shr .u64 4600427019358961664 .i64 52).run Tryz.prog W = .ok (.int .u64 1021) W := fun W => by kernel_rfl
  have s3 : ∀ W, (Op.shift BinOp.shl .i64 1 .i64 11).run Tryz.prog W = .ok (.int .i64 2048) W := fun W => by kernel_rfl
  have s4 : ∀ W, (Op.shift BinOp.shl .u64 1 .i64 52).run Tryz.prog W = .ok (.int .u64 4503599627370496) W := fun W => by kernel_rfl
  have s5 : ∀ W, (Op.shift BinOp.shl .u64 6755399441055744 .i64 11).run Tryz.prog W = .ok (.int .u64 13835058055282163712) W := fun W => by kernel_rfl
  have a1 : Go.bits .and .i64 1021 2047 = 1021 := by decide +kernel
  have a2 : Go.bits .and .u64 4600427019358961664 4503599627370495 = 2251799813685248 := by decide +kernel
  have a3 : Go.bits .or .u64 2251799813685248 4503599627370496 = 6755399441055744 := by decide +kernel
  have HD := Lib.hid hd
  clear hd
  go_enter Tryz.func95, Tryz.ntmps95
  go_wp2_with fail
  go_quiet (fail)
  go_wp2_with fail
  have hb1 : Below B w (w.drewN nq) := below_drewN (Below.refl _ _) _
  have HD1 : Hid ((w.drewN nq).heap[gd]? = some (.cells (Array.replicate 24 y) T (0, 0))) := Lib.hid HD.out
  have hL1 : Laid (w.drewN nq) := hL.below (below_drewN (Below.refl _ _) _)
  have hz1 : B ≤ (w.drewN nq).heap.size := hBw
  clear HD hL hBw ho
  generalize hW : w.drewN nq = w1s at *
  clear hW
  refine (log10_calls 2 0 (by decide +kernel) _).mono ?_
  rintro e w2 ⟨rfl, hb2⟩
  go_wp2_with fail
  refine (Tryz.bits_Len64 6755399441055744 _ (by decide) (by decide)).mono ?_
  rintro e w3 ⟨rfl, rfl⟩
  rw [show ((Lib.bitLen (6755399441055744 : Int).toNat : Nat) : Int) = 53 from by decide +kernel]
  go_wp2_with fail
  have HG := Lib.hid (blk_new w2 (.cells (Array.replicate 24 (.int .u8 0)) 126 (0, 0)))
  have hL2 : Laid w2 := hL1.below hb2
  have hB2 : B ≤ w2.heap.size := Nat.le_trans hz1 hb2.size
  have hb02 : Below B w w2 := hb1.trans (hb2.mono hz1)
  have HD2 := Lib.hid (blk_below HD1.out hb2)
  have hgdl : gd < w2.heap.size := (Array.getElem?_eq_some_iff.1 HD2.out).1
  have HD3 := Lib.hid (blk_alloc HD2.out (.cells (Array.replicate 24 (.int .u8 0)) 126 (0, 0)))
  have hL3 : Laid (w2.alloc (.cells (Array.replicate 24 (.int .u8 0)) 126 (0, 0))) := hL2.below ((Below.refl _ _).alloc (Nat.le_refl _) _)
  have hb03 : Below B w (w2.alloc (.cells (Array.replicate 24 (.int .u8 0)) 126 (0, 0))) := hb02.alloc hB2 _
  have hz3 : (w2.alloc (.cells (Array.replicate 24 (.int .u8 0)) 126 (0, 0))).heap.size = w2.heap.size + 1 := by simp
  clear HD1 HD2 hL1 hL2 hb1 hb2
  generalize hgg : w2.heap.size = g at *
  refine (fixed_375 (w2.alloc (.cells (Array.replicate 24 (.int .u8 0)) 126 (0, 0))) hL3).mono ?_
  rintro e w4 ⟨rfl, hb4⟩
  have hg4 := Lib.hid (blk_below HG.out hb4)
  have HD4 := Lib.hid (blk_below HD3.out hb4)
  have hL4 := hL3.below hb4
  have hb04 := hb03.trans (hb4.mono (by omega))
  have hz4 : g < w4.heap.size := (Array.getElem?_eq_some_iff.1 hg4.out).1
  clear HG HD3 hL3 hb03 hz3 hb4 hgg
  go_wp2_with fail
  have c0 : w4.cell? ⟨g, 0, none⟩ = some (.int .u8 0) := (blk_cell hg4.out 0).trans rfl
  have c1 : w4.cell? ⟨g, 1, none⟩ = some (.int .u8 0) := (blk_cell hg4.out 1).trans rfl
  have f0 := blk_frozen hg4.out 0
  have f1 := blk_frozen hg4.out 1
  have ht4 := Lib.hid hL4.u10
  trace "region"
  go_region_with (first | (go_at_call 101; refine (numDigits_38 _ (by exact ht4.out)).mono ?_; rintro e w' ⟨rfl, rfl⟩) | (go_at_call 125; refine (setDigits_38 _ g g (Nat.le_refl _) (by exact c0) (by exact c1) (by exact f0) (by exact f1)).mono ?_; rintro e w5 ⟨rfl, hb5, k0, k1⟩))
  have HD5 : w5.heap[gd]? = some (.cells (Array.replicate 24 y) T (0, 0)) := (hb5.block gd (by omega)).trans HD4.out
  have HD5 := Lib.hid HD5
  have hb05 : Below B w w5 := hb04.trans ((below_drewN (Below.refl B w4) 1).trans (hb5.mono (by omega)))
  clear c0 c1 f0 f1 ht4 hL4 hg4 HD4 hb04
  go_wp2_with fail
  refine (fmt_38 w5 g gd B hgd (by omega) T y HD5.out k0 k1).mono ?_
  rintro e w6 ⟨rfl, hb6, r0, r1, r2, r3⟩
  go_wp2_with fail
  go_ret
  exact ⟨rfl, hb05.trans hb6, r0, r1, r2, r3⟩
end Go.Proofs.YtjpiplplohapnaaGreatDoor
