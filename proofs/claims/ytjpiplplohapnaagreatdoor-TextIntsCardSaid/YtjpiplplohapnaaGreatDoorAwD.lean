/- Walks at the inputs of awake (4): fixedWidthFloat at 0.375. -/
import Derived.Test.YtjpiplplohapnaaGreatDoorAwC
import Derived.Deep.QuietTactic
import Derived.BigQuiet
namespace Go.Proofs.YtjpiplplohapnaaGreatDoor
open Go.RowKit Go.Proofs.YtjpiplplohapnaaGreatDoorW.PrintWords
set_option maxRecDepth 100000 in
set_option maxHeartbeats 1000000 in
theorem prescale_375 (w : World) (hL : Laid w) (g B : Nat) (hB : B ≤ g) (hg : w.heap[g]? = some (.cells #[.int .u64 0, .int .u64 0, .int .i64 0] 203 (0, 0))) (h17 : 17 ≤ g) :
    Calls Tryz.prog 158 #[.pointer (some ⟨g, 0, none⟩), .int .i64 (-65), .int .i64 3, .int .i64 9] w fun e w' => e = .returned (.tuple #[]) ∧ Below B w w' ∧ w'.heap[g]? = some (.cells #[.int .u64 18014398509481984000, .int .u64 0, .int .i64 53] 203 (0, 0)) := by
  obtain ⟨p0, p1⟩ := p10_351 hL
  have c0 : w.cell? ⟨g, 0, none⟩ = some (.int .u64 0) := (blk_cell hg 0).trans rfl
  have c1 : w.cell? ⟨g, 1, none⟩ = some (.int .u64 0) := (blk_cell hg 1).trans rfl
  have c2 : w.cell? ⟨g, 2, none⟩ = some (.int .i64 0) := (blk_cell hg 2).trans rfl
  have f0 := blk_frozen hg 0
  have f1 := blk_frozen hg 1
  have f2 := blk_frozen hg 2
  have hne : (11 : Nat) ≠ g := by omega
  go_enter Tryz.func158, Tryz.ntmps158
  go_wp2_with fail
  go_end0
  refine ⟨rfl, (((Below.refl B w).setCell hB _).setCell hB _).setCell hB _, ?_⟩
  refine blk_put (cs := #[.int .u64 18014398509481984000, .int .u64 0, .int .i64 0]) ?_ 2 _ rfl
  refine blk_put (cs := #[.int .u64 18014398509481984000, .int .u64 0, .int .i64 0]) ?_ 1 _ rfl
  exact blk_put hg 0 _ rfl
set_option maxRecDepth 100000 in
set_option maxHeartbeats 1000000 in
theorem uscale_375 (w : World) (g : Nat) (hg : w.heap[g]? = some (.cells #[.int .u64 18014398509481984000, .int .u64 0, .int .i64 53] 203 (0, 0))) :
    Calls Tryz.prog 160 #[.int .u64 13835058055282163712, .pointer (some ⟨g, 0, none⟩)] w fun e w' => e = .returned (.int .u64 1500) ∧ Below w.heap.size w w' := by
  have c0 : w.cell? ⟨g, 0, none⟩ = some (.int .u64 18014398509481984000) := (blk_cell hg 0).trans rfl
  have c1 : w.cell? ⟨g, 1, none⟩ = some (.int .u64 0) := (blk_cell hg 1).trans rfl
  have c2 : w.cell? ⟨g, 2, none⟩ = some (.int .i64 53) := (blk_cell hg 2).trans rfl
  have b53 : Go.bits .and .i64 53 63 = 53 := by decide +kernel
  have bo : Go.bits .or .u64 1500 0 = 1500 := by decide +kernel
  have s1 : ∀ W, (Op.shift BinOp.shr .u64 13510798882111488000 .i64 53).run Tryz.prog W = .ok (.int .u64 1500) W := fun W => by kernel_rfl
  have s2 : ∀ W, (Op.shift BinOp.shl .u64 1500 .i64 53).run Tryz.prog W = .ok (.int .u64 13510798882111488000) W := fun W => by kernel_rfl
  go_enter Tryz.func160, Tryz.ntmps160
  go_wp2_with fail
  refine (Tryz.bits_Mul64 13835058055282163712 18014398509481984000 (by decide) (by decide) _).mono ?_
  rintro e w' ⟨rfl, rfl⟩
  go_wp2_with fail
  refine (Tryz.bits_Mul64 13835058055282163712 0 (by decide) (by decide) _).mono ?_
  rintro e w1 ⟨rfl, rfl⟩
  go_wp2_with fail
  refine (bool2_u64f _).mono ?_
  rintro e w2 ⟨rfl, hb2⟩
  go_wp2_with fail
  go_quiet ((go_at_call 150; (with_reducible refine (PText.strconv_bool2_uint64.calls false 0 _ (by decide +kernel)).mono ?_); rintro e w' ⟨rfl, ⟨nd, rfl⟩⟩; first | exact ⟨rfl, _, World.drewN_drewN _ _ _⟩ | exact ⟨rfl, _, Eq.trans (World.drewN_drewN _ _ _) (congrArg (World.drewN _) (Nat.add_assoc _ _ _))⟩))
  go_wp2_with fail
  go_ret
  exact ⟨rfl, below_drewN hb2 _⟩
theorem unmin_calls (x r : Int) (h : PText.strconv_unmin.f x = some r) (w : World) : Calls Tryz.prog 165 #[.int .u64 x] w fun e w' => e = .returned (.int .u64 r) ∧ Below w.heap.size w w' :=
  (PText.strconv_unmin.calls x r w h).mono fun _ _ ⟨h1, h2⟩ => ⟨h1, h2.below⟩
theorem round_calls (x r : Int) (h : PText.strconv_unrounded_round.f x = some r) (w : World) : Calls Tryz.prog 164 #[.int .u64 x] w fun e w' => e = .returned (.int .u64 r) ∧ Below w.heap.size w w' :=
  (PText.strconv_unrounded_round.calls x r w h).mono fun _ _ ⟨h1, h2⟩ => ⟨h1, h2.below⟩
theorem div_calls (x d r : Int) (h : PText.strconv_unrounded_div.f x d = some r) (w : World) : Calls Tryz.prog 166 #[.int .u64 x, .int .u64 d] w fun e w' => e = .returned (.int .u64 r) ∧ Below w.heap.size w w' :=
  (PText.strconv_unrounded_div.calls x d r w h).mono fun _ _ ⟨h1, h2⟩ => ⟨h1, h2.below⟩
theorem u10_3 {w : World} (h : Laid w) : w.cell? ⟨4, 3, none⟩ = some (.int .u64 1000) := by
  have := World.var?_cell gU10 h.u10 3
  exact this.trans (by kernel_rfl)
set_option maxRecDepth 100000 in
set_option maxHeartbeats 1000000 in
theorem fixed_375 (w : World) (hL : Laid w) : Calls Tryz.prog 127 #[.int .u64 13835058055282163712, .int .i64 (-65), .int .i64 3, .int .i64 2, .int .u8 102] w fun e w' => e = .returned (.tuple #[.int .u64 38, .int .i64 (-2)]) ∧ Below w.heap.size w w' := by
  go_enter Tryz.func127, Tryz.ntmps127
  go_wp2_with fail
  refine (log10_calls (-2) (-1) (by decide +kernel) _).mono ?_
  rintro e w1 ⟨rfl, hb1⟩
  go_wp2_with fail
  refine (log2_calls 3 9 (by decide +kernel) _).mono ?_
  rintro e w2 ⟨rfl, hb2⟩
  have hL1 := hL.below hb1
  have hg2 : w2.heap[w1.heap.size]? = some (.cells #[.int .u64 0, .int .u64 0, .int .i64 0] 203 (0, 0)) := by
    exact blk_below (blk_new _ _) hb2
  have hb02 : Below w.heap.size w w2 := hb1.trans ((((Below.refl _ _).alloc (Nat.le_refl _) _).trans (hb2.mono (by simp))).mono hb1.size)
  have hL2 : Laid w2 := hL.below hb02
  go_wp2_with fail
  refine (prescale_375 w2 hL2 w1.heap.size w.heap.size hb1.size hg2 (by have := hL1.size; omega)).mono ?_
  rintro e w3 ⟨rfl, hb3, hg3⟩
  have hb03 := hb02.trans hb3
  go_wp2_with fail
  refine (uscale_375 w3 w1.heap.size hg3).mono ?_
  rintro e w4 ⟨rfl, hb4⟩
  have hb04 := hb03.trans (hb4.mono hb03.size)
  have hu := u10_3 (hL.below hb04)
  go_wp2_with fail
  refine (unmin_calls 1000 3998 (by decide +kernel) _).mono ?_
  rintro e w5 ⟨rfl, hb5⟩
  have hb05 := hb04.trans (hb5.mono hb04.size)
  go_wp2_with fail
  refine wp_loop_rounds 2 ?_
  rw [rounds_succ]
  go_wp2_with fail
  refine (div_calls 1500 10 150 (by decide +kernel) _).mono ?_
  rintro e w6 ⟨rfl, hb6⟩
  have hb06 := hb05.trans (hb6.mono hb05.size)
  go_wp2_with fail
  rw [rounds_succ]
  go_wp2_with fail
  refine (round_calls 150 38 (by decide +kernel) _).mono ?_
  rintro e w7 ⟨rfl, hb7⟩
  go_wp2_with fail
  go_ret2
  exact ⟨rfl, hb06.trans (hb7.mono hb06.size)⟩
end Go.Proofs.YtjpiplplohapnaaGreatDoor
