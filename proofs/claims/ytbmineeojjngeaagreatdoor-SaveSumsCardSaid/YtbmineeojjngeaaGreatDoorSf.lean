/- SaveSums: a fresh builder is written to. -/
import Derived.Test.YtbmineeojjngeaaGreatDoorSe
import Derived.Test.YtbmineeojjngeaaGreatDoorShelf
namespace Go.Proofs.YtbmineeojjngeaaGreatDoor
open Go.RowKit
theorem info48 : (Tryz.prog.info? 48).map (·.size) = some 2 := by kernel_rfl
theorem lies48 : liesAt Tryz.prog Tryz.prog.depth 48 (2 / Tryz.prog.cellsOf 48) 0 48 1 = true := by kernel_rfl
theorem info5 : (Tryz.prog.info? 5).map (fun i => (i.zero, i.size, i.bytes)) = some (some (.int .u8 0), 1, 1) := by kernel_rfl
set_option maxRecDepth 100000 in
theorem copyCheck_fresh (b : Nat) (w : World) (h0 : w.cell? ⟨b, 0, none⟩ = some (.pointer none)) (hsh : w.shape? b = some (48, 2)) (hfz : w.frozen? ⟨b, 0, none⟩ = false) :
    Calls Tryz.prog 28 #[.pointer (some ⟨b, 0, none⟩)] w fun e w' => e = .returned (.tuple #[]) ∧ w' = w.setCell ⟨b, 0, none⟩ (.pointer (some ⟨b, 0, none⟩)) := by
  obtain ⟨j, hj, hjs⟩ := Option.map_eq_some_iff.1 info48
  go_enter Tryz.func28, Tryz.ntmps28
  go_wp2_with fail
  rw [Lib.run_to_unsafe w ⟨b, 0, none⟩ Tryz.underlying45 Tryz.underlying103 hj (by rw [hjs]; decide) hsh (Nat.zero_lt_succ 1)]
  simp only [Result.andThen]
  rw [Oper.upon_value]
  go_wp2_with fail
  rw [run_callFunc_extern Tryz.func50 (by kernel_rfl) (by kernel_rfl) (by kernel_rfl) (e := Extern.AbiNoEscape.same) (by kernel_rfl)]
  rw [Lib.run_noEscape]
  simp only [Result.andThen]
  rw [Oper.upon_value]
  go_wp2_with fail
  rw [Lib.run_from_unsafe w ⟨b, 0, none⟩ Tryz.underlying103 Tryz.underlying45 hj hsh lies48]
  simp only [Result.andThen]
  rw [Oper.upon_value]
  go_wp2_with fail
  go_end0
  exact ⟨rfl, rfl⟩
set_option maxRecDepth 100000 in
theorem write_fresh (B b : Nat) (s : ByteArray) (w : World) (hB : B ≤ b) (hb : w.heap[b]? = some (.cells #[.pointer none, .slice none 0 0] 48 (0, 0))) (hs : s.size ≤ 1000) (hBw : B ≤ w.heap.size) :
    Calls Tryz.prog 12 #[.pointer (some ⟨b, 0, none⟩), .string s] w fun e w' => e = .returned (.tuple #[.int .i64 s.size, .nilIface]) ∧ Lib.IsBuilder 48 5 B b (Lib.strCells s) w' ∧ Below B w w' := by
  obtain ⟨i0, hi, hz0, hz1, hz2⟩ := info_parts info5
  have c0 : w.cell? ⟨b, 0, none⟩ = some (.pointer none) := by rw [Lib.cell_of_heap hb]; rfl
  have hsh : w.shape? b = some (48, 2) := by simp [World.shape?, hb]
  have hf0 : w.frozen? ⟨b, 0, none⟩ = false := Lib.frozen_of_heap hb 0
  have hbt : b < w.heap.size := blk_lt hb
  go_enter Tryz.func12, Tryz.ntmps12
  go_wp2_with fail
  refine (copyCheck_fresh b _ c0 hsh hf0).mono ?_
  rintro e w1 ⟨rfl, hw1⟩
  have hbk : w1.heap[b]? = some (.cells #[.pointer (some ⟨b, 0, none⟩), .slice none 0 0] 48 (0, 0)) := by
    rw [hw1]
    exact blk_set hb 0 _
  have hb1 : Below B w w1 := by
    rw [hw1]
    exact (Below.refl _ _).setCell hB _
  have hb1s : w.heap.size ≤ w1.heap.size := hb1.size
  have hlt : b < w1.heap.size := by omega
  clear hw1 c0 hsh hf0
  have c0 : w1.cell? ⟨b, 0, none⟩ = some (.pointer (some ⟨b, 0, none⟩)) := by rw [Lib.cell_of_heap hbk]; rfl
  have c1 : w1.cell? ⟨b, 1, none⟩ = some (.slice none 0 0) := by rw [Lib.cell_of_heap hbk]; rfl
  have hown : w1.ownsRow B 5 1 (.slice none 0 0) 0 [] := World.ownsRow_nil _ _ _ _
  go_wp2_with (at_builtin; refine Lib.wpList_append_own_string _ rfl _ _ 46 9 rfl B 5 i0 Tryz.underlying46 Tryz.underlying9 hi hz0 hz1 hz2 _ _ _ rfl hown s rfl ?c3 ?c4 ?c5 ?_)
  case c3 => unfold maxLen; omega
  case c4 => omega
  case c5 => omega
  intro v' w2 hown' hgrow _
  have hb2 : w2.heap[b]? = some (.cells #[.pointer (some ⟨b, 0, none⟩), .slice none 0 0] 48 (0, 0)) := by
    rw [hgrow.block b hlt (fun e => by cases e)]
    exact hbk
  have d0 : w2.cell? ⟨b, 0, none⟩ = some (.pointer (some ⟨b, 0, none⟩)) := by rw [Lib.cell_of_heap hb2]; rfl
  have d1 : w2.cell? ⟨b, 1, none⟩ = some (.slice none 0 0) := by rw [Lib.cell_of_heap hb2]; rfl
  have f1 : w2.frozen? ⟨b, 1, none⟩ = false := Lib.frozen_of_heap hb2 1
  obtain ⟨ao, n', cap, rfl⟩ : ∃ ao n' cap, v' = .slice ao n' cap := by
    rcases hown'.2 with ⟨hv, _⟩ | ⟨g, cap, cur, hv, _⟩
    · exact ⟨_, _, _, hv⟩
    · exact ⟨_, _, _, hv⟩
  go_wp2_with fail
  go_ret2
  refine ⟨rfl, Or.inr ?_, ?_⟩
  · exact Lib.BuilderAt.put (T := 48) (e := 5) hB hb2 (bs' := Lib.strCells s) (by simpa [Lib.strCells_length] using hown') (by decide)
  · exact (hb1.grown hgrow (by omega) (fun k hk => by cases hk)).setCell (p := ⟨b, 1, none⟩) hB _
end Go.Proofs.YtbmineeojjngeaaGreatDoor
