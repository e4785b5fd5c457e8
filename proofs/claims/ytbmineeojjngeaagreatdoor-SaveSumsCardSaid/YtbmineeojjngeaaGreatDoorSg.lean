/- SaveSums: the list of an empty book. -/
import Derived.Test.YtbmineeojjngeaaGreatDoorSf
import Derived.Maps.RangeRun
namespace Go.Proofs.YtbmineeojjngeaaGreatDoor
open Go.RowKit
theorem len_zero (w : World) : Calls Tryz.prog 49 #[.int .u64 0] w fun e w' => e = .returned (.int .i64 0) ∧ w = w' := by
  refine (Tryz.bits_Len 0 w (by decide) (by decide)).mono ?_
  rintro e w' ⟨he, hw⟩
  exact ⟨he, hw.symm⟩
theorem sort_none (w : World) : Calls Tryz.prog 26 #[.slice none 0 0] w fun e w' => e = .returned (.tuple #[]) ∧ w = w' := by
  go_enter Tryz.func26, Tryz.ntmps26
  go_wp2_with fail
  refine (len_zero _).mono ?_
  rintro e w1 ⟨rfl, hw1⟩
  subst hw1
  go_wp2_with fail
  refine (pdq_none 0 _).mono ?_
  rintro e w1 ⟨rfl, hw1⟩
  subst hw1
  go_wp2_with fail
  go_end0
  exact ⟨rfl, rfl⟩
theorem next_empty (w : World) (ty : TypeId) (m : Nat) (hb : w.heap[m]? = some (.map #[] 0)) :
    (Instr.next (.pointer (some ⟨w.heap.size, 0, none⟩)) false ty).run Tryz.prog (w.alloc (.mapIter (some m) 0 #[] 0)) = .ok (.tuple #[.bool false]) (w.alloc (.mapIter (some m) 0 #[] 0)) := by
  rcases run_next_map (P := Tryz.prog) w ty m 0 0 #[] #[] 0 hb (fun x h => by simp at h) (Nat.le_refl _) with ⟨_, h⟩ | ⟨e, he, _⟩
  · exact h
  · exact absurd he (by simp [leftOf])
set_option maxRecDepth 100000 in
theorem list_walk (b : Nat) (w : World) (hE : EmptyBook w b) : Calls Tryz.prog 11 #[.pointer (some ⟨b, 0, none⟩)] w fun e w' => e = .returned (.slice none 0 0) ∧ Below w.heap.size w w' := by
  obtain ⟨m, e1, e2⟩ := hE
  have hbl : b < w.heap.size := blk_lt e1
  have hml : m < w.heap.size := blk_lt e2
  have c0 : w.cell? ⟨b, 0, none⟩ = some (.map (some m)) := (blk_cell e1 0).trans rfl
  have hr := run_range_map (P := Tryz.prog) w 38 3 78 m #[] 0 Tryz.underlying38 e2
  have hn := fun ty => next_empty w ty m e2
  clear e1
  go_enter Tryz.func11, Tryz.ntmps11
  go_wp2_with fail
  refine wp_loop_rounds 1 ?_
  rw [rounds_succ]
  go_wp2_with fail
  refine (sort_none _).mono ?_
  rintro e w1 ⟨rfl, hw1⟩
  subst hw1
  go_wp2_with fail
  refine (clip_none _).mono ?_
  rintro e w1 ⟨rfl, hw1⟩
  subst hw1
  go_wp2_with fail
  go_ret
  exact ⟨rfl, (Below.refl _ _).alloc (Nat.le_refl _) _⟩
end Go.Proofs.YtbmineeojjngeaaGreatDoor
