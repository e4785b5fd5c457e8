/- SaveSums: the empty book's text is taken apart. -/
import Derived.Test.YtbmineeojjngeaaGreatDoorSj
namespace Go.Proofs.YtbmineeojjngeaaGreatDoor
open Go.RowKit
abbrev lst : ByteArray := ⟨#[115, 117, 109, 32, 54, 50, 100, 57, 54, 100, 97, 99, 10]⟩
set_option maxRecDepth 100000 in
theorem cut_walk (w : World) : Calls Tryz.prog 20 #[.string out] w fun e w' => e = .returned (.tuple #[.string line1, .string dg, .bool true]) ∧ Below w.heap.size w w' := by
  have x1 : out.extract 0 8 = line1 := by decide
  have x2 : out.extract 8 21 = lst := by decide
  have x3 : lst.extract 0 4 = ⟨#[115, 117, 109, 32]⟩ := by decide
  have x4 : lst.extract 4 12 = dg := by decide
  go_enter Tryz.func20, Tryz.ntmps20
  go_wp2_with fail
  go_quiet (fail)
  go_wp2_with fail
  have n0 : ∀ ty, (Instr.next (.pointer (some ⟨w.heap.size, 0, none⟩)) true ty).run Tryz.prog ((w.drewN nq).iter dg 0) = .ok (.tuple #[.bool true, .int .i64 0, .int .i32 54]) ((w.drewN nq).iter dg 1) := fun ty => run_next_ascii (P := Tryz.prog) (w.drewN nq) dg 0 ty (by decide) (by decide)
  have n1 : ∀ ty, (Instr.next (.pointer (some ⟨w.heap.size, 0, none⟩)) true ty).run Tryz.prog ((w.drewN nq).iter dg 1) = .ok (.tuple #[.bool true, .int .i64 1, .int .i32 50]) ((w.drewN nq).iter dg 2) := fun ty => run_next_ascii (P := Tryz.prog) (w.drewN nq) dg 1 ty (by decide) (by decide)
  have n2 : ∀ ty, (Instr.next (.pointer (some ⟨w.heap.size, 0, none⟩)) true ty).run Tryz.prog ((w.drewN nq).iter dg 2) = .ok (.tuple #[.bool true, .int .i64 2, .int .i32 100]) ((w.drewN nq).iter dg 3) := fun ty => run_next_ascii (P := Tryz.prog) (w.drewN nq) dg 2 ty (by decide) (by decide)
  have n3 : ∀ ty, (Instr.next (.pointer (some ⟨w.heap.size, 0, none⟩)) true ty).run Tryz.prog ((w.drewN nq).iter dg 3) = .ok (.tuple #[.bool true, .int .i64 3, .int .i32 57]) ((w.drewN nq).iter dg 4) := fun ty => run_next_ascii (P := Tryz.prog) (w.drewN nq) dg 3 ty (by decide) (by decide)
  have n4 : ∀ ty, (Instr.next (.pointer (some ⟨w.heap.size, 0, none⟩)) true ty).run Tryz.prog ((w.drewN nq).iter dg 4) = .ok (.tuple #[.bool true, .int .i64 4, .int .i32 54]) ((w.drewN nq).iter dg 5) := fun ty => run_next_ascii (P := Tryz.prog) (w.drewN nq) dg 4 ty (by decide) (by decide)
  have n5 : ∀ ty, (Instr.next (.pointer (some ⟨w.heap.size, 0, none⟩)) true ty).run Tryz.prog ((w.drewN nq).iter dg 5) = .ok (.tuple #[.bool true, .int .i64 5, .int .i32 100]) ((w.drewN nq).iter dg 6) := fun ty => run_next_ascii (P := Tryz.prog) (w.drewN nq) dg 5 ty (by decide) (by decide)
  have n6 : ∀ ty, (Instr.next (.pointer (some ⟨w.heap.size, 0, none⟩)) true ty).run Tryz.prog ((w.drewN nq).iter dg 6) = .ok (.tuple #[.bool true, .int .i64 6, .int .i32 97]) ((w.drewN nq).iter dg 7) := fun ty => run_next_ascii (P := Tryz.prog) (w.drewN nq) dg 6 ty (by decide) (by decide)
  have n7 : ∀ ty, (Instr.next (.pointer (some ⟨w.heap.size, 0, none⟩)) true ty).run Tryz.prog ((w.drewN nq).iter dg 7) = .ok (.tuple #[.bool true, .int .i64 7, .int .i32 99]) ((w.drewN nq).iter dg 8) := fun ty => run_next_ascii (P := Tryz.prog) (w.drewN nq) dg 7 ty (by decide) (by decide)
  have n8 : ∀ ty, (Instr.next (.pointer (some ⟨w.heap.size, 0, none⟩)) true ty).run Tryz.prog ((w.drewN nq).iter dg 8) = .ok (.tuple #[.bool false]) ((w.drewN nq).iter dg 8) := fun ty => run_next_end (P := Tryz.prog) (w.drewN nq) dg 8 ty (by decide)
  refine wp_loop_rounds 9 ?_
  rw [rounds_succ]
  go_wp2_with fail
  rw [rounds_succ]
  go_wp2_with fail
  rw [rounds_succ]
  go_wp2_with fail
  rw [rounds_succ]
  go_wp2_with fail
  rw [rounds_succ]
  go_wp2_with fail
  rw [rounds_succ]
  go_wp2_with fail
  rw [rounds_succ]
  go_wp2_with fail
  rw [rounds_succ]
  go_wp2_with fail
  rw [rounds_succ]
  go_wp2_with fail
  go_ret3
  exact ⟨rfl, (below_drewN (Below.refl _ _) nq).alloc (Nat.le_refl _) _⟩
end Go.Proofs.YtbmineeojjngeaaGreatDoor
