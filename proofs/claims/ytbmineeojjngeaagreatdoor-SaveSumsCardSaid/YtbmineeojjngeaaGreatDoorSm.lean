/- SaveSums: a book's copy. -/
import Derived.Test.YtbmineeojjngeaaGreatDoorSl
import Derived.Laws.Tables
namespace Go.Proofs.YtbmineeojjngeaaGreatDoor
open Go.RowKit
theorem info44 : (Tryz.prog.info? 44).map (·.size) = some 19 := by kernel_rfl
theorem empty_size (m : Nat) : (emptyCells m).size = 19 := rfl
theorem empty_one (m : Nat) : (emptyCells m).all (·.oneCell') = true := by simp [emptyCells, fill, Value.oneCell']
theorem info44e (m : Nat) : (Tryz.prog.info? 44).map (·.size) = some (emptyCells m).size := by rw [info44, empty_size]
abbrev zero44 : Array Value := #[.map none, .pointer none, .pointer none, .pointer none, .pointer none, .pointer none, .pointer none, .pointer none, .pointer none, .pointer none, .float .f64 0, .float .f64 0, .float .f64 0, .float .f64 0, .float .f64 0, .float .f64 0, .float .f64 0, .float .f64 0, .float .f64 0]
theorem zero_size0 : zero44.size = 19 := rfl
theorem zero_size (m : Nat) : zero44.size = (emptyCells m).size := zero_size0.trans (empty_size m).symm
theorem empty_put (m k : Nat) : (emptyCells m).setIfInBounds 0 (.map (some k)) = emptyCells k := rfl
set_option maxRecDepth 100000 in
theorem copy_walk (b : Nat) (w : World) (hE : EmptyBook w b) : Calls Tryz.prog 47 #[.pointer (some ⟨b, 0, none⟩)] w fun e w' => ∃ c, e = .returned (.pointer (some ⟨c, 0, none⟩)) ∧ EmptyBook w' c ∧ Below w.heap.size w w' := by
  obtain ⟨m, e1, e2⟩ := hE
  have hbl : b < w.heap.size := blk_lt e1
  have hml : m < w.heap.size := blk_lt e2
  have hmm := @run_makeMap Tryz.prog
  have hsm : ∀ (wx : World) (a : Addr) (md : Mode) (x : Option Nat), (store a (.map x) md).run Tryz.prog wx = stored Tryz.prog wx a (.map x) md := fun wx a md x => run_store _ wx a _ md rfl
  have HE1 := Lib.hid e1
  have HE2 := Lib.hid e2
  have c0 : w.cell? ⟨b, 0, none⟩ = some (.map (some m)) := (blk_cell e1 0).trans rfl
  clear e1 e2
  go_enter Tryz.func47, Tryz.ntmps47
  go_upto_region 2 with (first
    | (refine wpList_load_row rfl 44 (.tmp 7) rfl b rfl 44 (emptyCells m) (0, 0) _ HE1.out Tryz.underlying44 rfl (info44e m) ?_)
    | (refine wpList_store_row rfl 44 (.tmp 3) (.tmp 8) rfl w.heap.size (emptyCells m) rfl rfl 44 zero44 (heap_alloc_new _ _) (info44e m) (zero_size m) (empty_one m) ?_))
  generalize hw1 : (w.alloc _).setRow w.heap.size (emptyCells m) = w1
  have h1 : w1.heap[w.heap.size]? = some (.cells (emptyCells m) 44 (0, 0)) := by
    rw [← hw1]
    exact setRow_heap _ _ zero44 _ _ _ (heap_alloc_new _ _)
  have hb1 : Below w.heap.size w w1 := by
    rw [← hw1]
    refine ((Below.refl _ _).alloc (Nat.le_refl _) (.cells zero44 44)).trans ⟨rfl, rfl, rfl, ?_, fun k hk => setRow_other _ _ _ _ (by omega)⟩
    simp [World.setRow]
  have hs1 : w.heap.size < w1.heap.size := by
    rw [← hw1]
    simp [World.setRow]
  clear hw1
  have d0 : w1.cell? ⟨w.heap.size, 0, none⟩ = some (.map (some m)) := (blk_cell h1 0).trans rfl
  have f0 : w1.frozen? ⟨w.heap.size, 0, none⟩ = false := blk_frozen h1 0
  have H1 := Lib.hid h1
  have HB1 := Lib.hid hb1
  clear h1 hb1
  go_upto_region 3 with fail
  generalize hw2 : (w1.setCell _ _).alloc (Obj.map #[] 0) = w2
  have hE2 : Hid (EmptyBook w2 w.heap.size ∧ Below w.heap.size w w2) := by
    rw [← hw2]
    refine Lib.hid ⟨⟨w1.heap.size, ?_, ?_⟩, ?_⟩
    · rw [← empty_put m w1.heap.size]
      exact blk_alloc (blk_set H1.out 0 _) _
    · have h := blk_new (w1.setCell ⟨w.heap.size, 0, none⟩ (.map (some w1.heap.size))) (Obj.map #[] 0)
      rw [show (w1.setCell ⟨w.heap.size, 0, none⟩ (.map (some w1.heap.size))).heap.size = w1.heap.size by simp [World.setCell]] at h
      exact h
    · exact (HB1.out.setCell (Nat.le_refl _) _).alloc (HB1.out.setCell (Nat.le_refl _) _).size _
  have HE3 : Hid (w2.heap[b]? = some (.cells (emptyCells m) 44 (0, 0)) ∧ w2.heap[m]? = some (.map #[] 0)) := Lib.hid ⟨blk_below HE1.out hE2.out.2, blk_below HE2.out hE2.out.2⟩
  have c2 : w2.cell? ⟨b, 0, none⟩ = some (.map (some m)) := (blk_cell HE3.out.1 0).trans rfl
  have hr := run_range_map (P := Tryz.prog) w2 38 3 78 m #[] 0 Tryz.underlying38 HE3.out.2
  have hn := fun ty => next_empty w2 ty m HE3.out.2
  clear hw2 d0 f0 H1 HB1 hs1 hmm hsm HE1 HE2 HE3 c0
  go_wp2_with fail
  refine wp_loop_rounds 1 ?_
  rw [rounds_succ]
  go_wp2_with fail
  go_ret
  exact ⟨w.heap.size, rfl, hE2.out.1.alloc _, hE2.out.2.alloc hE2.out.2.size _⟩
end Go.Proofs.YtbmineeojjngeaaGreatDoor
