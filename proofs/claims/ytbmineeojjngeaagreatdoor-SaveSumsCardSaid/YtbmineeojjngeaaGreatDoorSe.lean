/- SaveSums: Get and List of an empty book. -/
import Derived.Test.YtbmineeojjngeaaGreatDoorSd
import Derived.Deep.QuietTactic
import Derived.BigQuiet
import Derived.Deep.RegionWith
import Derived.BigRegion
import Derived.RegionTactic
namespace Go.Proofs.YtbmineeojjngeaaGreatDoor
open Go.RowKit
theorem empty_curve (m : Nat) : ∀ k, k < 9 → (emptyCells m)[1 + k]? = some (.pointer none)
  | 0, _ => rfl
  | 1, _ => rfl
  | 2, _ => rfl
  | 3, _ => rfl
  | 4, _ => rfl
  | 5, _ => rfl
  | 6, _ => rfl
  | 7, _ => rfl
  | 8, _ => rfl
  | n + 9, h => by omega
theorem empty_rate (m : Nat) : ∀ k, k < 9 → (emptyCells m)[10 + k]? = some (.float .f64 4607182418800017408)
  | 0, _ => rfl
  | 1, _ => rfl
  | 2, _ => rfl
  | 3, _ => rfl
  | 4, _ => rfl
  | 5, _ => rfl
  | 6, _ => rfl
  | 7, _ => rfl
  | 8, _ => rfl
  | n + 9, h => by omega
theorem currency_walk (k : Nat) (h1 : 1 ≤ k) (h2 : k ≤ 8) (w : World) : Calls Tryz.prog 29 #[.int .i64 k] w fun e w' => e = .returned (.int .i64 0) ∧ w = w' := by
  have g1 : (1 : Int) ≤ k := by omega
  have g2 : (k : Int) ≤ 8 := by omega
  go_enter Tryz.func29, Tryz.ntmps29
  go_wp2_with fail
  go_ret
  exact ⟨rfl, rfl⟩
set_option maxRecDepth 100000 in
theorem get_walk (b k : Nat) (h1 : 1 ≤ k) (h2 : k ≤ 8) (w : World) (hE : EmptyBook w b) : Calls Tryz.prog 13 #[.pointer (some ⟨b, 0, none⟩), .int .i64 k] w fun e w' => e = .returned (.tuple #[.agg #[.int .i64 0, .int .i64 0, .slice none 0 0, .slice none 0 0], .bool false, .float .f64 4607182418800017408, .int .i64 0]) ∧ Below w.heap.size w w' := by
  obtain ⟨m, e1, e2⟩ := hE
  have c1 : w.cell? ⟨b, 1 + k, none⟩ = some (.pointer none) := (blk_cell e1 _).trans (empty_curve m k (by omega))
  have c2 : w.cell? ⟨b, 10 + k, none⟩ = some (.float .f64 4607182418800017408) := (blk_cell e1 _).trans (empty_rate m k (by omega))
  have g1 : (1 : Int) ≤ k := by omega
  have g2 : (k : Int) ≤ 8 := by omega
  have hbl : b < w.heap.size := blk_lt e1
  clear e1 e2
  go_enter Tryz.func13, Tryz.ntmps13
  go_wp2_with fail
  refine (currency_walk k h1 h2 _).mono ?_
  rintro e w1 ⟨rfl, hw1⟩
  subst hw1
  go_wp2_with fail
  go_region
  go_wp2_with fail
  exact bodyPost_ret (v := .tuple #[.agg #[.int .i64 0, .int .i64 0, .slice none 0 0, .slice none 0 0], .bool false, .float .f64 4607182418800017408, .int .i64 0]) (by simp [results, Tryz.results13, go_sem]) rfl ⟨rfl, ((Below.refl _ _).alloc (Nat.le_refl _) _).drew⟩
theorem insert_none (w : World) : Calls Tryz.prog 81 #[.slice none 0 0, .int .i64 0, .int .i64 0] w fun e w' => e = .returned (.tuple #[]) ∧ w = w' := by
  go_enter Tryz.func81, Tryz.ntmps81
  go_wp2_with fail
  refine wp_loop_rounds 1 ?_
  rw [rounds_succ]
  go_wp2_with fail
  go_end0
  exact ⟨rfl, rfl⟩
theorem pdq_none (L : Int) (w : World) : Calls Tryz.prog 48 #[.slice none 0 0, .int .i64 0, .int .i64 0, .int .i64 L] w fun e w' => e = .returned (.tuple #[]) ∧ w = w' := by
  go_enter Tryz.func48, Tryz.ntmps48
  go_wp2_with fail
  refine wp_loop_rounds 1 ?_
  rw [rounds_succ]
  go_wp2_with fail
  refine (insert_none _).mono ?_
  rintro e w1 ⟨rfl, hw1⟩
  subst hw1
  go_wp2_with fail
  exact bodyPost_ret (v := .tuple #[]) (by simp [results, Tryz.results48, go_sem]) rfl ⟨rfl, rfl⟩
theorem clip_none (w : World) : Calls Tryz.prog 27 #[.slice none 0 0] w fun e w' => e = .returned (.slice none 0 0) ∧ w = w' := by
  go_enter Tryz.func27, Tryz.ntmps27
  go_wp2_with fail
  go_ret
  exact ⟨rfl, rfl⟩
end Go.Proofs.YtbmineeojjngeaaGreatDoor
