/- SaveSums: an empty book. -/
import Derived.Test.YtbmineeojjngeaaGreatDoorSc
namespace Go.Proofs.YtbmineeojjngeaaGreatDoor
open Go.RowKit
section
variable {w : World} {g : Nat} {t : TypeId} {cs : Array Value}
theorem blk_lt {o : Obj} (h : w.heap[g]? = some o) : g < w.heap.size := (Array.getElem?_eq_some_iff.1 h).1
theorem blk_set (h : w.heap[g]? = some (.cells cs t (0, 0))) (i : Nat) (u : Value) : (w.setCell ⟨g, i, none⟩ u).heap[g]? = some (.cells (cs.setIfInBounds i u) t (0, 0)) := heap_setCell_same w g i cs t u h
theorem blk_far {o : Obj} (h : w.heap[g]? = some o) {p : Addr} (hp : g ≠ p.block) (u : Value) : (w.setCell p u).heap[g]? = some o := (Below.heap_setCell w p u g hp).trans h
theorem blk_cell (h : w.heap[g]? = some (.cells cs t (0, 0))) (i : Nat) : w.cell? ⟨g, i, none⟩ = cs[i]? := cell_of_row w g i cs t (0, 0) h
theorem blk_frozen (h : w.heap[g]? = some (.cells cs t (0, 0))) (i : Nat) : w.frozen? ⟨g, i, none⟩ = false := by simp [World.frozen?, h]
theorem blk_alloc {o : Obj} (h : w.heap[g]? = some o) (o' : Obj) : (w.alloc o').heap[g]? = some o := (Below.heap_alloc w o' g (blk_lt h)).trans h
theorem blk_below {w1 : World} {o : Obj} (h : w.heap[g]? = some o) (hb : Below w.heap.size w w1) : w1.heap[g]? = some o := (hb.block g (blk_lt h)).trans h
theorem blk_new (w : World) (o : Obj) : (w.alloc o).heap[w.heap.size]? = some o := heap_alloc_new w o
end
/-- a book's cells while its rates are being laid -/
def fill (m i : Nat) : Array Value := #[.map (some m), .pointer none, .pointer none, .pointer none, .pointer none, .pointer none, .pointer none, .pointer none, .pointer none, .pointer none] ++ (List.map (fun j => Value.float .f64 (if j < i then 4607182418800017408 else 0)) [0, 1, 2, 3, 4, 5, 6, 7, 8]).toArray
theorem fill_zero (m : Nat) : fill m 0 = #[.map (some m), .pointer none, .pointer none, .pointer none, .pointer none, .pointer none, .pointer none, .pointer none, .pointer none, .pointer none, .float .f64 0, .float .f64 0, .float .f64 0, .float .f64 0, .float .f64 0, .float .f64 0, .float .f64 0, .float .f64 0, .float .f64 0] := rfl
theorem fill_succ (m : Nat) : ∀ i, i < 9 → (fill m i).setIfInBounds (10 + i) (.float .f64 4607182418800017408) = fill m (i + 1)
  | 0, _ => rfl
  | 1, _ => rfl
  | 2, _ => rfl
  | 3, _ => rfl
  | 4, _ => rfl
  | 5, _ => rfl
  | 6, _ => rfl
  | 7, _ => rfl
  | 8, _ => rfl
  | n + 9, h => by omega
theorem fill_get (m : Nat) : ∀ i, i < 9 → (fill m i)[10 + i]? = some (.float .f64 0)
  | 0, _ => rfl
  | 1, _ => rfl
  | 2, _ => rfl
  | 3, _ => rfl
  | 4, _ => rfl
  | 5, _ => rfl
  | 6, _ => rfl
  | 7, _ => rfl
  | 8, _ => rfl
  | n + 9, h => by omega
/-- the cells of an empty book -/
def emptyCells (m : Nat) : Array Value := fill m 9
/-- block b is an empty book -/
def EmptyBook (w : World) (b : Nat) : Prop := ∃ m, w.heap[b]? = some (.cells (emptyCells m) 44 (0, 0)) ∧ w.heap[m]? = some (.map #[] 0)
theorem EmptyBook.below {w w1 : World} {b : Nat} (h : EmptyBook w b) (hb : Below w.heap.size w w1) : EmptyBook w1 b := by
  obtain ⟨m, h1, h2⟩ := h
  exact ⟨m, blk_below h1 hb, blk_below h2 hb⟩
theorem EmptyBook.alloc {w : World} {b : Nat} (h : EmptyBook w b) (o : Obj) : EmptyBook (w.alloc o) b := h.below ((Below.refl _ _).alloc (Nat.le_refl _) _)
set_option maxRecDepth 100000 in
theorem new_walk (w : World) : Calls Tryz.prog 8 #[] w fun e w' => ∃ b, e = .returned (.pointer (some ⟨b, 0, none⟩)) ∧ w.heap.size ≤ b ∧ EmptyBook w' b ∧ Below w.heap.size w w' := by
  have hmm := @run_makeMap Tryz.prog
  generalize hB : w.heap.size = B
  have HB := Lib.hid hB
  go_enter Tryz.func8, Tryz.ntmps8
  go_wp2_with fail
  generalize hw0 : (w.alloc (Obj.map #[] 0)).alloc _ = w0
  have HW : Hid (Below B w w0 ∧ w0.heap[B + 1]? = some (.cells (fill B 0) 44 (0, 0)) ∧ w0.heap[B]? = some (.map #[] 0)) := by
    subst hw0
    subst hB
    refine Lib.hid ⟨((Below.refl _ _).alloc (Nat.le_refl _) _).alloc (by simp) _, ?_, ?_⟩
    · have h := blk_new (w.alloc (Obj.map #[] 0)) (.cells (fill w.heap.size 0) 44)
      rw [show (w.alloc (Obj.map #[] 0)).heap.size = w.heap.size + 1 by simp] at h
      exact h
    · exact blk_alloc (blk_new _ _) _
  clear hw0
  clear hmm
  go_loopg [2, 6] 9 (fun gn v2 v6 w' => ∃ i : Nat, v6 = .int .i64 i ∧ Hid (gn + i = 9 ∧ Below B w w' ∧ w'.heap[B + 1]? = some (.cells (fill B i) 44 (0, 0)) ∧ w'.heap[B]? = some (.map #[] 0)))
  case atStart => exact ⟨0, rfl, Lib.hid ⟨by omega, HW.out⟩⟩
  case round =>
    obtain ⟨i, rfl, hH⟩ := hrel
    clear HW
    by_cases hi : i < 9
    · have g1 : (i : Int) < 9 := by omega
      have c1 : wr.cell? ⟨B + 1, 10 + i, none⟩ = some (.float .f64 0) := (blk_cell hH.out.2.2.1 _).trans (fill_get B i hi)
      have f1 : wr.frozen? ⟨B + 1, 10 + i, none⟩ = false := blk_frozen hH.out.2.2.1 _
      have hsf : ∀ (wx : World) (a : Addr) (m : Mode) (x : Nat), (store a (.float .f64 x) m).run Tryz.prog wx = stored Tryz.prog wx a (.float .f64 x) m := fun wx a m x => run_store _ wx a _ m rfl
      have HN : Hid (gk - 1 < gk ∧ gk - 1 + (i + 1) = 9 ∧ Below B w (wr.setCell ⟨B + 1, 10 + i, none⟩ (.float .f64 4607182418800017408)) ∧ (wr.setCell ⟨B + 1, 10 + i, none⟩ (.float .f64 4607182418800017408)).heap[B + 1]? = some (.cells (fill B (i + 1)) 44 (0, 0)) ∧ (wr.setCell ⟨B + 1, 10 + i, none⟩ (.float .f64 4607182418800017408)).heap[B]? = some (.map #[] 0)) := by
        obtain ⟨q1, q2, q3, q4⟩ := hH.out
        refine Lib.hid ⟨by omega, by omega, q2.setCell (by show B ≤ B + 1; omega) _, ?_, blk_far q4 (by show B ≠ B + 1; omega) _⟩
        rw [← fill_succ B i hi]
        exact blk_set q3 (10 + i) _
      clear hH
      go_wp2_with fail
      go_roundg (gk - 1)
      case measure => exact HN.out.1
      case rel => exact ⟨i + 1, by first | rfl | go_num, Lib.hid HN.out.2⟩
    · have hi9 : i = 9 := by have := hH.out.1; omega
      subst hi9
      have HE : Hid (EmptyBook wr (B + 1) ∧ Below B w wr) := Lib.hid ⟨⟨B, hH.out.2.2.1, hH.out.2.2.2⟩, hH.out.2.1⟩
      clear hH hi
      go_wp2_with fail
      go_ret
      exact ⟨B + 1, rfl, by omega, HE.out⟩
end Go.Proofs.YtbmineeojjngeaaGreatDoor
