/- Walks at the inputs of awake (5): setDigits, fmtEFG at 38, two places. -/
import Derived.Test.YtjpiplplohapnaaGreatDoorAwD
import Derived.Lib.OwnBridge
import Derived.Deep.RegionHeld
namespace Go.Proofs.YtjpiplplohapnaaGreatDoor
open Go.RowKit Go.Sort Go.Proofs.YtjpiplplohapnaaGreatDoorW.PrintWords
abbrev encB (b : UInt8) : Value := .int .u8 (b.toNat : Int)
theorem below_putRow2 {B : Nat} {w0 w : World} {g n : Nat} {d : Array UInt8} (h : Below B w0 w) (hg : B ≤ g) : Below B w0 ((putRow encB w g 0 d).drewN n) := by
  have := Lib.below_putRow (enc := encB) (q := 0) (d := d) h hg
  exact below_drewN (by simpa [Sort.ahead] using this) n

set_option maxRecDepth 100000 in
set_option maxHeartbeats 1000000 in
theorem setDigits_38 (w : World) (g B : Nat) (hB : B ≤ g) (h0 : w.cell? ⟨g, 0, none⟩ = some (.int .u8 0)) (h1 : w.cell? ⟨g, 1, none⟩ = some (.int .u8 0)) (f0 : w.frozen? ⟨g, 0, none⟩ = false) (f1 : w.frozen? ⟨g, 1, none⟩ = false) :
    Calls Tryz.prog 125 #[.slice (some ⟨g, 0, none⟩) 24 24, .int .u64 38, .int .i64 (-2), .int .i64 2] w fun e w' => e = .returned (.tuple #[.int .i64 0, .int .i64 2]) ∧ Below B w w' ∧ w'.cell? ⟨g, 0, none⟩ = some (.int .u8 51) ∧ w'.cell? ⟨g, 1, none⟩ = some (.int .u8 56) := by
  have hH : Holds encB w g 0 #[0, 0] := by
    intro j hj
    have : j = 0 ∨ j = 1 := by simp at hj; omega
    rcases this with rfl | rfl
    · exact ⟨h0, f0⟩
    · exact ⟨h1, f1⟩
  go_enter Tryz.func125, Tryz.ntmps125
  go_wp2_with fail
  refine (Tryz.internal_strconv_formatBase10 g 0 24 38 #[0, 0] _ hH (by decide) (by decide) (by decide)).mono ?_
  rintro e w1 ⟨rfl, n, v', dk, rfl, hF⟩
  have e0 : dk[0]! = 51 := (hF.done 0 (by decide) (by decide)).trans (by decide)
  have e1 : dk[1]! = 56 := (hF.done 1 (by decide) (by decide)).trans (by decide)
  have hs : dk.size = 2 := hF.size
  have hbw : Below B w ((putRow encB w g 0 dk).drewN n) := below_putRow2 (Below.refl _ _) hB
  have k0 : ((putRow encB w g 0 dk).drewN n).cell? ⟨g, 0, none⟩ = some (.int .u8 51) := by
    have := cell?_putRow encB w g 0 #[0, 0] dk hH hs 0 (by omega)
    rw [e0] at this; exact this
  have k1 : ((putRow encB w g 0 dk).drewN n).cell? ⟨g, 1, none⟩ = some (.int .u8 56) := by
    have := cell?_putRow encB w g 0 #[0, 0] dk hH hs 1 (by omega)
    rw [e1] at this; exact this
  generalize (putRow encB w g 0 dk).drewN n = w2 at *
  clear hF e0 e1 hs hH
  go_wp2_with fail
  refine wp_loop_rounds 1 ?_
  rw [rounds_succ]
  go_wp2_with fail
  go_ret2
  exact ⟨rfl, hbw, k0, k1⟩

/-- What the walk asks of a row of bytes that is written, and of one that is read. -/
structure Two (B : Nat) (w0 : World) (gd g : Nat) (T : TypeId) (cs : Array Value) (w : World) : Prop where
  row : w.heap[gd]? = some (.cells cs T (0, 0))
  k0 : w.cell? ⟨g, 0, none⟩ = some (.int .u8 51)
  k1 : w.cell? ⟨g, 1, none⟩ = some (.int .u8 56)
  below : Below B w0 w
theorem Two.put {B gd g : Nat} {w0 w : World} {T : TypeId} {cs cs' : Array Value} (h : Two B w0 gd g T cs w) (hB : B ≤ gd) (hne : gd ≠ g) (j : Nat) (v : Value) (e : cs.setIfInBounds j v = cs') : Two B w0 gd g T cs' (w.setCell ⟨gd, j, none⟩ v) :=
  ⟨blk_put h.row j v e, (World.cell?_setCell_far w _ _ _ hne).trans h.k0, (World.cell?_setCell_far w _ _ _ hne).trans h.k1, h.below.setCell hB _⟩
theorem Two.new {B gd g : Nat} {w0 w : World} {T : TypeId} {cs : Array Value} (h : Two B w0 gd g T cs w) (hB : B ≤ w.heap.size) (o : Obj) : Two B w0 gd g T cs (w.alloc o) :=
  ⟨blk_alloc h.row o, (((Below.refl w.heap.size w).alloc (Nat.le_refl _) o).cell (World.block_lt_of_cell? w _ h.k0)).trans h.k0, (((Below.refl w.heap.size w).alloc (Nat.le_refl _) o).cell (World.block_lt_of_cell? w _ h.k1)).trans h.k1, h.below.alloc hB o⟩
theorem Two.lt {B gd g : Nat} {w0 w : World} {T : TypeId} {cs : Array Value} (h : Two B w0 gd g T cs w) : gd < w.heap.size ∧ g < w.heap.size := ⟨(Array.getElem?_eq_some_iff.1 h.row).1, World.block_lt_of_cell? w _ h.k0⟩

set_option maxRecDepth 100000 in
set_option maxHeartbeats 1000000 in
theorem fmt_38 (w : World) (g gd B : Nat) (hgd : B ≤ gd) (hne : gd ≠ g) (T : TypeId) (y : Value) (hd : w.heap[gd]? = some (.cells (Array.replicate 24 y) T (0, 0)))
    (k0 : w.cell? ⟨g, 0, none⟩ = some (.int .u8 51)) (k1 : w.cell? ⟨g, 1, none⟩ = some (.int .u8 56)) :
    Calls Tryz.prog 122 #[.slice (some ⟨gd, 0, none⟩) 0 24, .bool false, .slice (some ⟨g, 0, none⟩) 24 24, .int .i64 0, .int .i64 2, .int .i64 2, .int .u8 102, .bool false] w fun e w' =>
      e = .returned (.slice (some ⟨gd, 0, none⟩) 4 24) ∧ Below B w w' ∧ w'.cell? ⟨gd, 0, none⟩ = some (.int .u8 48) ∧ w'.cell? ⟨gd, 1, none⟩ = some (.int .u8 46) ∧ w'.cell? ⟨gd, 2, none⟩ = some (.int .u8 51) ∧ w'.cell? ⟨gd, 3, none⟩ = some (.int .u8 56) := by
  have hT : Two B w gd g T (Array.replicate 24 y) w := ⟨hd, k0, k1, Below.refl _ _⟩
  have HT := Lib.hid hT
  obtain ⟨hgl, hgl2⟩ := hT.lt
  have c0 : w.cell? ⟨gd, 0, none⟩ = some y := (blk_cell hd 0).trans (by simp)
  have c1 : w.cell? ⟨gd, 1, none⟩ = some y := (blk_cell hd 1).trans (by simp)
  have f0 := blk_frozen hd 0
  have f1 := blk_frozen hd 1
  have hne' : g ≠ gd := fun h => hne h.symm
  clear hd hT
  have m1 : min (2 : Int) 0 = 0 := by decide
  have m2 : max (0 : Int) 2 = 2 := by decide
  have m3 : min (2 : Int) 2 = 2 := by decide
  have m4 : max (0 : Int) 0 = 0 := by decide
  go_enter Tryz.func122, Tryz.ntmps122
  go_wp2_with fail
  refine wp_loop_rounds 1 ?_
  rw [rounds_succ]
  go_wp2_with fail
  have HT2 := Lib.hid ((((HT.out.put hgd hne 0 (.int .u8 48) rfl).put hgd hne 1 (.int .u8 46) rfl).new (by simp; omega) (Obj.cells #[.int .u8 48] 5)).new (by simp; omega) (Obj.cells #[.int .u8 46] 5))
  clear HT c0 c1 f0 f1 k0 k1 hgl hgl2
  generalize hW : (((w.setCell ⟨gd, 0, none⟩ (.int .u8 48)).setCell ⟨gd, 1, none⟩ (.int .u8 46)).alloc (Obj.cells #[.int .u8 48] 5)).alloc (Obj.cells #[.int .u8 46] 5) = W at *
  clear hW
  obtain ⟨hgl, hgl2⟩ := HT2.out.lt
  have k0 := HT2.out.k0
  have c2 : W.cell? ⟨gd, 2, none⟩ = some y := (blk_cell HT2.out.row 2).trans rfl
  have f2 := blk_frozen HT2.out.row 2
  refine wp_loop_rounds 3 ?_
  rw [rounds_succ]
  go_wp2_with fail
  have hBW : B ≤ W.heap.size := HT2.out.below.size |> fun h => by omega
  have HT3 := Lib.hid ((HT2.out.put hgd hne 2 (.int .u8 51) rfl).new (by simp; omega) (Obj.cells #[.int .u8 51] 5))
  clear HT2 c2 f2 k0 hgl hgl2 hBW
  generalize hW : (W.setCell ⟨gd, 2, none⟩ (.int .u8 51)).alloc (Obj.cells #[.int .u8 51] 5) = W3 at *
  clear hW
  obtain ⟨hgl, hgl2⟩ := HT3.out.lt
  have k1 := HT3.out.k1
  have c3 : W3.cell? ⟨gd, 3, none⟩ = some y := (blk_cell HT3.out.row 3).trans rfl
  have f3 := blk_frozen HT3.out.row 3
  rw [rounds_succ]
  go_wp2_with fail
  have HT4 := Lib.hid ((HT3.out.put hgd hne 3 (.int .u8 56) rfl).new (by simp; omega) (Obj.cells #[.int .u8 56] 5))
  clear HT3 c3 f3 k1 hgl hgl2
  generalize hW : (W3.setCell ⟨gd, 3, none⟩ (.int .u8 56)).alloc (Obj.cells #[.int .u8 56] 5) = W4 at *
  clear hW
  rw [rounds_succ]
  go_wp2_with fail
  refine wp_loop_rounds 1 ?_
  rw [rounds_succ]
  go_wp2_with fail
  go_ret
  have hr := HT4.out.row
  exact ⟨rfl, HT4.out.below, (blk_cell hr 0).trans rfl, (blk_cell hr 1).trans rfl, (blk_cell hr 2).trans rfl, (blk_cell hr 3).trans rfl⟩
end Go.Proofs.YtjpiplplohapnaaGreatDoor
