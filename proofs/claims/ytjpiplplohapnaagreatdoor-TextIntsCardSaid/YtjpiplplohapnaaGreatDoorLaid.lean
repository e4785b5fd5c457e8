/- What the listed package-level variables hold, as the walks ask it; it stays where nothing that was there turns. -/
import Derived.Test.YtjpiplplohapnaaGreatDoorProg
import Derived.WalkSmall
import Derived.Lib.LaidTab
import Derived.Lib.ItoaNum
import Derived.Lib.TrailingZeros
import Derived.FnData
import GoSem.PinnedTables
import Derived.KernelRfl
namespace Go.Proofs.YtjpiplplohapnaaGreatDoor
open Go.RowKit

/-- Go's exact powers of ten, as floats' bits. -/
def f10tab : List Nat := [4607182418800017408, 4621819117588971520, 4636737291354636288, 4652007308841189376, 4666723172467343360, 4681608360884174848, 4696837146684686336, 4711630319722168320, 4726483295884279808, 4741671816366391296, 4756540486875873280, 4771362005757984768, 4786511204640096256, 4801453603149578240, 4816244402031689728, 4831355200913801216, 4846369599423283200, 4861130398305394688, 4876203697187506176, 4891288408196988160, 4906019910204099648, 4921056587992461136, 4936209963552724370]

theorem gSyn : Tryz.prog.globalNamed "strconv.ErrSyntax" = some 1 := by kernel_rfl
theorem gRng : Tryz.prog.globalNamed "strconv.ErrRange" = some 2 := by kernel_rfl
theorem gOpt : Tryz.prog.globalNamed "internal/strconv.optimize" = some 3 := by kernel_rfl
theorem gU10 : Tryz.prog.globalNamed "internal/strconv.uint64pow10" = some 4 := by kernel_rfl
theorem gInf : Tryz.prog.globalNamed "internal/strconv.float64info" = some 6 := by kernel_rfl
theorem gF10 : Tryz.prog.globalNamed "internal/strconv.float64pow10" = some 10 := by kernel_rfl
theorem gP10 : Tryz.prog.globalNamed "internal/strconv.pow10Tab" = some 11 := by kernel_rfl
theorem gDb : Tryz.prog.globalNamed "math/bits.deBruijn64tab" = some 14 := by kernel_rfl

structure Laid (w : World) : Prop where
  size : 17 ≤ w.heap.size
  syn : ∃ te pe, w.var? Tryz.prog "strconv.ErrSyntax" = some #[.iface te pe]
  rng : ∃ te pe, w.var? Tryz.prog "strconv.ErrRange" = some #[.iface te pe]
  opt : w.var? Tryz.prog "internal/strconv.optimize" = some #[.bool true]
  inf : w.var? Tryz.prog "internal/strconv.float64info" = some #[.int .u64 52, .int .u64 11, .int .i64 (-1023)]
  u10 : Lib.TabIs Tryz.prog w "internal/strconv.uint64pow10" .u64 Lib.pow10Tab
  f10 : ∃ a : Addr, w.var? Tryz.prog "internal/strconv.float64pow10" = some #[.slice (some a) 23 23] ∧ ∀ i, i < 23 → w.cell? (a.add i) = some (.float .f64 (f10tab.getD i 0))
  p10 : w.var? Tryz.prog "internal/strconv.pow10Tab" = some (Pinned.pow10Rows.flatMap fun x => [Value.int .u64 x.1, Value.int .u64 x.2]).toArray
  db : Lib.TabIs Tryz.prog w "math/bits.deBruijn64tab" .u8 (Lib.deBruijn64tab.map fun x : Nat => (x : Int))

theorem Laid.below {w w' : World} (h : Laid w) (hb : Below w.heap.size w w') : Laid w' := by
  have hs := h.size
  refine ⟨Nat.le_trans hs hb.size, ?_, ?_, var?_below hb gOpt (by omega) h.opt, var?_below hb gInf (by omega) h.inf, var?_below hb gU10 (by omega) h.u10, ?_, var?_below hb gP10 (by omega) h.p10, var?_below hb gDb (by omega) h.db⟩
  · obtain ⟨a, b, hv⟩ := h.syn
    exact ⟨a, b, var?_below hb gSyn (by omega) hv⟩
  · obtain ⟨a, b, hv⟩ := h.rng
    exact ⟨a, b, var?_below hb gRng (by omega) hv⟩
  · obtain ⟨a, hv, hc⟩ := h.f10
    exact ⟨a, var?_below hb gF10 (by omega) hv, fun i hi => (hb.cell (World.block_lt_of_cell? w _ (hc i hi))).trans (hc i hi)⟩

theorem Laid.optCell {w : World} (h : Laid w) : w.cell? ⟨3, 0, none⟩ = some (.bool true) := by
  have := World.var?_cell gOpt h.opt 0
  simpa using this

theorem Laid.infCell {w : World} (h : Laid w) : w.cell? ⟨6, 0, none⟩ = some (.int .u64 52) ∧ w.cell? ⟨6, 1, none⟩ = some (.int .u64 11) ∧ w.cell? ⟨6, 2, none⟩ = some (.int .i64 (-1023)) := by
  refine ⟨?_, ?_, ?_⟩
  · have := World.var?_cell gInf h.inf 0; simpa using this
  · have := World.var?_cell gInf h.inf 1; simpa using this
  · have := World.var?_cell gInf h.inf 2; simpa using this

theorem Laid.p10Cell {w : World} (h : Laid w) (i : Nat) : w.cell? ⟨11, i, none⟩ = ((Pinned.pow10Rows.flatMap fun x => [Value.int .u64 x.1, Value.int .u64 x.2]).toArray)[i]? := World.var?_cell gP10 h.p10 i

theorem Laid.f10Cell {w : World} (h : Laid w) : ∃ a : Addr, w.cell? ⟨10, 0, none⟩ = some (.slice (some a) 23 23) ∧ ∀ i, i < 23 → w.cell? (a.add i) = some (.float .f64 (f10tab.getD i 0)) := by
  obtain ⟨a, hv, hc⟩ := h.f10
  exact ⟨a, by have := World.var?_cell gF10 hv 0; simpa using this, hc⟩
end Go.Proofs.YtjpiplplohapnaaGreatDoor
