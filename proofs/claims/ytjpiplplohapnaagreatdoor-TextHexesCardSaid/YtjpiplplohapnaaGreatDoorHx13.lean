/- TextHexes: text.Hex and text.Unhex answer what the document answers, of every float and every string. Conditions: those of the given card alone. -/
import Derived.Test.YtjpiplplohapnaaGreatDoorHx12
import Derived.Test.YtjpiplplohapnaaGreatDoorTie
import Derived.ProofKit
import Derived.LaidMore
import Derived.OpenShut
import Derived.Stop.Joined
import Derived.Stop.LaidErr
import Derived.Deep.DeepLaidRun
import Derived.SizedLaws
import Derived.HandedShaped
import Derived.Test.YtjpiplplohapnaaGreatDoorCards
import Derived.Lay
import Derived.SevenTiedAt
set_option linter.unusedVariables false
set_option linter.unusedSimpArgs false
namespace Go.Proofs.YtjpiplplohapnaaGreatDoor
open Go.ChangeShapes Go.WideShapes Go.ChangeAt Go.RowKit
abbrev laidL : List (String × DataW Unit) := Rows.textIntsRow.laid
theorem laid_at {P : Program} {w : World} : ∀ {l : List (String × DataW Unit)} {ps : List MemPlace}, DataW.LaidVars P w l ps → ∀ {n : String} {d : DataW Unit}, (n, d) ∈ l →
    ∃ g t cs fuel p, P.globalNamed n = some g ∧ (P.globals[g]?).map (·.type) = some t ∧ w.var? P n = some cs ∧ DataW.trod (fun _ => ()) P w 0 (fun _ => true) false fuel t cs.toList = some (d, p)
  | [], _, _, _, _, hm => by cases hm
  | (m, e) :: r, ps, h, n, d, hm => by
    obtain ⟨g, t, cs, fuel, p, q, h1, h2, h3, h4, h5, _⟩ := h
    rcases List.mem_cons.1 hm with he | hm
    · cases he; exact ⟨g, t, cs, fuel, p, h1, h2, h3, h4⟩
    · exact laid_at h5 hm
theorem laid_at' {P : Program} {w : World} {l : List (String × DataW Unit)} (h : laidMet P l w) {n : String} {d : DataW Unit} (hm : (n, d) ∈ l) {g : Nat} {t : TypeId} (hg : P.globalNamed n = some g) (ht : (P.globals[g]?).map (·.type) = some t) :
    ∃ cs fuel p, w.var? P n = some cs ∧ DataW.trod (fun _ => ()) P w 0 (fun _ => true) false fuel t cs.toList = some (d, p) := by
  obtain ⟨ps, hv, -, -⟩ := h
  obtain ⟨g', t', cs, fuel, p, h1, h2, h3, h4⟩ := laid_at hv hm
  obtain rfl := Option.some.inj (hg.symm.trans h1)
  obtain rfl := Option.some.inj (ht.symm.trans h2)
  exact ⟨cs, fuel, p, h3, h4⟩
theorem chunks {α : Type} (c : Nat) : ∀ (vs : List (List α)) (cs : List α), cs.length = vs.length * c → (∀ i, i < vs.length → (cs.drop (i * c)).take c = vs.getD i []) → cs = vs.flatten
  | [], cs, hl, _ => by simpa using hl
  | v :: vs, cs, hl, h => by
    have h0 := h 0 (by simp)
    simp at h0
    have hl' : cs.length = vs.length * c + c := by rw [hl, List.length_cons, Nat.succ_mul]
    have hr := chunks c vs (cs.drop c) (by rw [List.length_drop, hl']; omega) (fun i hi => by
      have h1 := h (i + 1) (by simp; omega)
      rw [List.drop_drop]
      rw [Nat.succ_mul, Nat.add_comm] at h1
      exact h1.trans (by simp))
    rw [List.flatten_cons, ← hr, ← h0, List.take_append_drop]
theorem cells_of_parts {H : Type} {enc : TypeId × Value → H} {P : Program} {w : World} {base : Nat} {sp : Nat → Bool} {held : Bool} {fuel : Nat} {t e : TypeId} {n : Nat} {cs : List Value} {ds : List (DataW H)} {vs : List (List Value)} {p : List MemPlace}
    (ht : P.underlying t = some (.array n e)) (hct : P.cellsOf t = n * P.cellsOf e) (hl : vs.length = n)
    (hp : ∀ i, i < n → ∀ (m : Nat) (c : List Value) (d : DataW H) (q : List MemPlace), ds[i]? = some d → DataW.trod enc P w base sp held m e c = some (d, q) → c = vs.getD i [])
    (h : DataW.trod enc P w base sp held fuel t cs = some (.agg ds, p)) : cs = vs.flatten := by
  obtain ⟨xs, m, -, hx, hlen, hxl, hel⟩ := DataW.trod_array ht h
  have hds : ds = xs.map (·.1) := by simpa using congrArg Prod.fst hx
  refine chunks (P.cellsOf e) vs cs (by rw [hlen, hct, hl]) (fun i hi => ?_)
  rw [hl] at hi
  have h1 := hel i hi
  obtain ⟨⟨d, q⟩, hxi⟩ : ∃ y, xs[i]? = some y := ⟨_, List.getElem?_eq_getElem (by omega)⟩
  rw [hxi] at h1
  exact hp i hi m _ d q (by rw [hds, List.getElem?_map, hxi]; rfl) h1
theorem gAcc : Tryz.prog.globalNamed "unicode/utf8.acceptRanges" = some 16 := by kernel_rfl
theorem tSyn : (Tryz.prog.globals[1]?).map (·.type) = some 47 := by kernel_rfl
theorem tRng : (Tryz.prog.globals[2]?).map (·.type) = some 47 := by kernel_rfl
theorem tOpt : (Tryz.prog.globals[3]?).map (·.type) = some 4 := by kernel_rfl
theorem tU10 : (Tryz.prog.globals[4]?).map (·.type) = some 167 := by kernel_rfl
theorem tInf : (Tryz.prog.globals[6]?).map (·.type) = some 182 := by kernel_rfl
theorem tF10 : (Tryz.prog.globals[10]?).map (·.type) = some 223 := by kernel_rfl
theorem tP10 : (Tryz.prog.globals[11]?).map (·.type) = some 227 := by kernel_rfl
theorem tDb : (Tryz.prog.globals[14]?).map (·.type) = some 233 := by kernel_rfl
theorem tAcc : (Tryz.prog.globals[16]?).map (·.type) = some 237 := by kernel_rfl
theorem star : "*" ++ "errors.errorString" = "*errors.errorString" := by decide
theorem row196 (u : TypeId) (h : Tryz.prog.typeName? 3 u = some "*errors.errorString") : u = 196 :=
  typeName_ptr_named (nm := "errors.errorString") (by rw [star]; kernel_rfl) (by kernel_rfl) (by decide) u (by rw [star]; exact h)
theorem cells198 : Tryz.prog.cellsOf 198 = 1 := by kernel_rfl
theorem cells9 : Tryz.prog.cellsOf 9 = 1 := by kernel_rfl
theorem cells5 : Tryz.prog.cellsOf 5 = 1 := by kernel_rfl
theorem cells26 : Tryz.prog.cellsOf 26 = 1 := by kernel_rfl
theorem cells22 : Tryz.prog.cellsOf 22 = 1 := by kernel_rfl
theorem cells226 : Tryz.prog.cellsOf 226 = 2 := by kernel_rfl
theorem cells227 : Tryz.prog.cellsOf 227 = 696 * Tryz.prog.cellsOf 226 := by kernel_rfl
theorem cells167 : Tryz.prog.cellsOf 167 = 20 := by kernel_rfl
theorem cells233 : Tryz.prog.cellsOf 233 = 64 := by kernel_rfl
theorem cells182 : Tryz.prog.cellsOf 182 = 3 := by kernel_rfl
theorem cells75 : Tryz.prog.cellsOf 75 = 1 := by kernel_rfl
theorem cells3 : Tryz.prog.cellsOf 3 = 1 := by kernel_rfl
theorem p10_length : (Pinned.pow10Rows.map fun x : Nat × Nat => [Value.int .u64 x.1, Value.int .u64 x.2]).length = 696 := by kernel_rfl
theorem trod_float {H : Type} {enc : TypeId × Value → H} {P : Program} {w : World} {base : Nat} {sp : Nat → Bool} {held : Bool} {fuel : Nat} {t : TypeId} {k : FloatKind} {cs : List Value} {x : DataW H × List MemPlace}
    (ht : P.underlying t = some (.float k)) (h : DataW.trod enc P w base sp held fuel t cs = some x) : ∃ n, cs = [.float k n] ∧ x = (.lit (.float k n), []) := by
  cases fuel with
  | zero => simp [DataW.trod] at h
  | succ n =>
    unfold DataW.trod at h
    rw [ht] at h
    split at h <;> simp_all
theorem one_cell {w : World} {base : Nat} {a : Addr} {c : Value} (h : w.cells? base a 1 = some [c]) : w.cell? a = some c := by
  have e0 : a.add 0 = a := by simp [Addr.add]
  unfold World.cells? at h
  split at h
  · simp only [List.range_succ, List.range_zero, List.nil_append, List.mapM_cons, List.mapM_nil, e0] at h
    cases hcc : w.cell? a with
    | none => simp [hcc] at h
    | some c => simp [hcc] at h; rw [h]
  · cases h
theorem two_cells {P : Program} {w : World} {base : Nat} {sp : Nat → Bool} {fuel : Nat} {t : TypeId} {f0 f1 : Field} {k0 k1 : IntKind} {cs : List Value} {x y : Int} {p : List MemPlace}
    (ht : P.underlying t = some (.struct #[f0, f1])) (hct : P.cellsOf t = 2) (t0 : P.underlying f0.type = some (.int k0)) (t1 : P.underlying f1.type = some (.int k1)) (n0 : P.cellsOf f0.type = 1) (n1 : P.cellsOf f1.type = 1) (o0 : f0.offset = 0) (o1 : f1.offset = 1)
    (h : DataW.trod (fun _ => ()) P w base sp false fuel t cs = some (.agg [.lit (.int k0 x), .lit (.int k1 y)], p)) : cs = [.int k0 x, .int k1 y] := by
  obtain ⟨xs, m, -, hx, hlen, hxl, hel⟩ := DataW.trod_struct ht h
  rw [hct] at hlen
  have h0 := hel 0 _ rfl
  have h1 := hel 1 _ rfl
  match xs, hxl, hx, h0, h1 with
  | [x0, x1], _, hx, h0, h1 =>
    simp only [List.map_cons, List.map_nil, Prod.mk.injEq, DataW.agg.injEq, List.cons.injEq, and_true] at hx
    obtain ⟨⟨e0, e1⟩, -⟩ := hx
    simp only [List.getElem?_cons_zero, List.getElem?_cons_succ] at h0 h1
    obtain ⟨k0, c0, d0, -⟩ := DataW.trod_int t0 h0
    obtain ⟨k1, c1, d1, -⟩ := DataW.trod_int t1 h1
    subst d0; subst d1
    cases e0; cases e1
    match cs, hlen, c0, c1 with
    | [a, b], _, c0, c1 =>
      simp [n0, n1, o0, o1] at c0 c1
      rw [c0, c1]
theorem three_cells {P : Program} {w : World} {base : Nat} {sp : Nat → Bool} {fuel : Nat} {t : TypeId} {f0 f1 f2 : Field} {k0 k1 k2 : IntKind} {cs : List Value} {x y z : Int} {p : List MemPlace}
    (ht : P.underlying t = some (.struct #[f0, f1, f2])) (hct : P.cellsOf t = 3) (t0 : P.underlying f0.type = some (.int k0)) (t1 : P.underlying f1.type = some (.int k1)) (t2 : P.underlying f2.type = some (.int k2)) (n0 : P.cellsOf f0.type = 1) (n1 : P.cellsOf f1.type = 1) (n2 : P.cellsOf f2.type = 1) (o0 : f0.offset = 0) (o1 : f1.offset = 1) (o2 : f2.offset = 2)
    (h : DataW.trod (fun _ => ()) P w base sp false fuel t cs = some (.agg [.lit (.int k0 x), .lit (.int k1 y), .lit (.int k2 z)], p)) : cs = [.int k0 x, .int k1 y, .int k2 z] := by
  obtain ⟨xs, m, -, hx, hlen, hxl, hel⟩ := DataW.trod_struct ht h
  rw [hct] at hlen
  have h0 := hel 0 _ rfl
  have h1 := hel 1 _ rfl
  have h2 := hel 2 _ rfl
  match xs, hxl, hx, h0, h1, h2 with
  | [x0, x1, x2], _, hx, h0, h1, h2 =>
    simp only [List.map_cons, List.map_nil, Prod.mk.injEq, DataW.agg.injEq, List.cons.injEq, and_true] at hx
    obtain ⟨⟨e0, e1, e2⟩, -⟩ := hx
    simp only [List.getElem?_cons_zero, List.getElem?_cons_succ] at h0 h1 h2
    obtain ⟨k0, c0, d0, -⟩ := DataW.trod_int t0 h0
    obtain ⟨k1, c1, d1, -⟩ := DataW.trod_int t1 h1
    obtain ⟨k2, c2, d2, -⟩ := DataW.trod_int t2 h2
    subst d0; subst d1; subst d2
    cases e0; cases e1; cases e2
    match cs, hlen, c0, c1, c2 with
    | [a, b, c], _, c0, c1, c2 =>
      simp [n0, n1, n2, o0, o1, o2] at c0 c1 c2
      rw [c0, c1, c2]
theorem pair_cells {w : World} {base : Nat} {sp : Nat → Bool} {fuel : Nat} {cs : List Value} {x y : Nat} {p : List MemPlace}
    (h : DataW.trod (fun _ => ()) Tryz.prog w base sp false fuel 226 cs = some (.agg [.lit (.int .u64 x), .lit (.int .u64 y)], p)) : cs = [.int .u64 x, .int .u64 y] :=
  two_cells Tryz.underlying226 cells226 Tryz.underlying26 Tryz.underlying26 cells26 cells26 rfl rfl h
theorem p10_cells {w : World} {fuel : Nat} {cs : List Value} {ds : List (DataW Unit)} {vs : List (List Value)} {p : List MemPlace} (hl : vs.length = 696)
    (hp : ∀ i, i < 696 → ∀ (m : Nat) (c : List Value) (d : DataW Unit) (q : List MemPlace), ds[i]? = some d → DataW.trod (fun _ => ()) Tryz.prog w 0 (fun _ => true) false m 226 c = some (d, q) → c = vs.getD i [])
    (h : DataW.trod (fun _ => ()) Tryz.prog w 0 (fun _ => true) false fuel 227 cs = some (.agg ds, p)) : cs = vs.flatten :=
  cells_of_parts (n := 696) (e := 226) Tryz.underlying227 cells227 hl hp h
section
variable {W : World} (h : laidMet Tryz.prog laidL W)
include h
theorem met_size : 17 ≤ W.heap.size := by
  obtain ⟨cs, fuel, p, hv, -⟩ := laid_at' h (n := "unicode/utf8.acceptRanges") (d := Rows.laid_unicode_utf8_acceptRanges) (by simp [laidL, Rows.textIntsRow]) gAcc tAcc
  unfold World.var? at hv
  rw [gAcc] at hv
  simp only [Option.bind_some] at hv
  split at hv
  · rename_i heq
    have := (Array.getElem?_eq_some_iff.1 heq).1
    omega
  · cases hv
theorem met_opt : W.var? Tryz.prog "internal/strconv.optimize" = some #[.bool true] := by
  obtain ⟨cs, fuel, p, hv, hd⟩ := laid_at' h (n := "internal/strconv.optimize") (d := Rows.laid_internal_strconv_optimize) (by simp [laidL, Rows.textIntsRow]) gOpt tOpt
  obtain ⟨b, hb, hx⟩ := DataW.trod_bool Tryz.underlying4 hd
  cases hx
  rw [hv, Array.eq_one_of_toList hb]
theorem met_inf : W.var? Tryz.prog "internal/strconv.float64info" = some #[.int .u64 52, .int .u64 11, .int .i64 (-1023)] := by
  obtain ⟨cs, fuel, p, hv, hd⟩ := laid_at' h (n := "internal/strconv.float64info") (d := Rows.laid_internal_strconv_float64info) (by simp [laidL, Rows.textIntsRow]) gInf tInf
  have := three_cells Tryz.underlying182 cells182 Tryz.underlying75 Tryz.underlying75 Tryz.underlying3 cells75 cells75 cells3 rfl rfl rfl hd
  rw [hv]
  exact congrArg some (Array.toList_inj.1 this)
theorem met_u10 : Lib.TabIs Tryz.prog W "internal/strconv.uint64pow10" .u64 Lib.pow10Tab := by
  obtain ⟨cs, fuel, p, hv, hd⟩ := laid_at' h (n := "internal/strconv.uint64pow10") (d := Rows.laid_internal_strconv_uint64pow10) (by simp [laidL, Rows.textIntsRow]) gU10 tU10
  have e : (Rows.laid_internal_strconv_uint64pow10 : DataW Unit) = Lib.tabData .u64 Lib.pow10Tab := by rfl
  rw [e] at hd
  unfold Lib.TabIs
  rw [hv, ← Lib.cells_of_tab Tryz.underlying167 Tryz.underlying26 cells26 cells167 hd]
theorem met_db : Lib.TabIs Tryz.prog W "math/bits.deBruijn64tab" .u8 (Lib.deBruijn64tab.map fun x : Nat => (x : Int)) := by
  obtain ⟨cs, fuel, p, hv, hd⟩ := laid_at' h (n := "math/bits.deBruijn64tab") (d := Rows.laid_math_bits_deBruijn64tab) (by simp [laidL, Rows.textIntsRow]) gDb tDb
  have e : (Rows.laid_math_bits_deBruijn64tab : DataW Unit) = Lib.tabData .u8 (Lib.deBruijn64tab.map fun x : Nat => (x : Int)) := by rfl
  rw [e] at hd
  unfold Lib.TabIs
  rw [hv, ← Lib.cells_of_tab Tryz.underlying233 Tryz.underlying5 cells5 cells233 hd]
theorem met_f10 : ∃ a : Addr, W.var? Tryz.prog "internal/strconv.float64pow10" = some #[.slice (some a) 23 23] ∧ ∀ i, i < 23 → W.cell? (a.add i) = some (.float .f64 (f10tab.getD i 0)) := by
  obtain ⟨cs, fuel, p, hv, hd⟩ := laid_at' h (n := "internal/strconv.float64pow10") (d := Rows.laid_internal_strconv_float64pow10) (by simp [laidL, Rows.textIntsRow]) gF10 tF10
  rcases DataW.trod_slice Tryz.underlying223 hd with ⟨_, hx⟩ | ⟨a, len, cap, elems, rest, n, _, hcs, hx, _, hl, _, hlen, hel, hsp, _⟩
  · simp [Rows.laid_internal_strconv_float64pow10] at hx
  · simp only [Rows.laid_internal_strconv_float64pow10, Prod.mk.injEq, DataW.slice.injEq] at hx
    obtain ⟨⟨hE, hR⟩, -⟩ := hx
    have hr : rest = [] := List.map_eq_nil_iff.1 hR.symm
    subst hr
    have hc := (hsp rfl).1
    have hlen23 : len = 23 := by
      have := congrArg List.length hE
      simp at this; omega
    subst hlen23
    have hcap : cap = 23 := by simp at hc; omega
    subst hcap
    refine ⟨a, by rw [hv, Array.eq_one_of_toList hcs], fun i hi => ?_⟩
    have h1 := hel i hi
    rw [cells22, Nat.mul_one] at h1
    obtain ⟨y, hy⟩ : ∃ y, elems[i]? = some y := ⟨_, List.getElem?_eq_getElem (by omega)⟩
    rw [hy] at h1
    obtain ⟨c1, hc1, hy1⟩ := Option.bind_eq_some_iff.1 h1
    obtain ⟨k, rfl, hk⟩ := trod_float Tryz.underlying22 hy1
    have hd1 : (elems.map (·.1))[i]? = some (DataW.lit (.float .f64 k)) := by rw [List.getElem?_map, hy]; simp [hk]
    rw [← hE] at hd1
    have hkk : k = f10tab.getD i 0 := by
      have : ((f10tab.map fun x => (DataW.lit (.float .f64 x) : DataW Unit))[i]?) = some (DataW.lit (.float .f64 k)) := hd1
      rw [List.getElem?_map] at this
      obtain ⟨z, hz, hz2⟩ := Option.map_eq_some_iff.1 this
      cases hz2
      simp [List.getD, hz]
    rw [← hkk]
    exact one_cell hc1
theorem met_p10 : W.var? Tryz.prog "internal/strconv.pow10Tab" = some (Pinned.pow10Rows.flatMap fun x => [Value.int .u64 x.1, Value.int .u64 x.2]).toArray := by
  obtain ⟨cs, fuel, p, hv, hd⟩ := laid_at' h (n := "internal/strconv.pow10Tab") (d := Rows.laid_internal_strconv_pow10Tab) (by simp [laidL, Rows.textIntsRow]) gP10 tP10
  have e : (Rows.laid_internal_strconv_pow10Tab : DataW Unit) = .agg (Pinned.pow10Rows.map fun x => .agg [.lit (.int .u64 x.1), .lit (.int .u64 x.2)]) := rfl
  rw [e] at hd
  have hp : ∀ i, i < 696 → ∀ (m : Nat) (c : List Value) (d : DataW Unit) (q : List MemPlace), (Pinned.pow10Rows.map fun x : Nat × Nat => (.agg [.lit (.int .u64 x.1), .lit (.int .u64 x.2)] : DataW Unit))[i]? = some d →
      DataW.trod (fun _ => ()) Tryz.prog W 0 (fun _ => true) false m 226 c = some (d, q) → c = (Pinned.pow10Rows.map fun x : Nat × Nat => [Value.int .u64 x.1, Value.int .u64 x.2]).getD i [] := by
    intro i hi m c d q hdi ht
    rw [List.getElem?_map] at hdi
    obtain ⟨z, hz, rfl⟩ := Option.map_eq_some_iff.1 hdi
    have hg : (Pinned.pow10Rows.map fun x : Nat × Nat => [Value.int .u64 x.1, Value.int .u64 x.2]).getD i [] = [Value.int .u64 z.1, Value.int .u64 z.2] := by simp [List.getD, hz]
    rw [hg]
    exact pair_cells ht
  have := p10_cells p10_length hp hd
  rw [hv]
  refine congrArg some (Array.toList_inj.1 ?_)
  rw [this, List.flatMap_def]
theorem met_syn : ∃ te pe, W.var? Tryz.prog "strconv.ErrSyntax" = some #[.iface te pe] := by
  have h' := h.tail.tail.tail.tail.tail.tail.tail.tail.tail.tail.tail
  obtain ⟨a0, s0, hv0, -, -, -⟩ := laid_sentinel h' gSyn tSyn Tryz.underlying47 row196 Tryz.underlying196 Tryz.underlying198 rfl rfl Tryz.underlying9 cells198 cells9
  exact ⟨_, _, hv0⟩
theorem met_rng : ∃ te pe, W.var? Tryz.prog "strconv.ErrRange" = some #[.iface te pe] := by
  have h' := h.tail.tail.tail.tail.tail.tail.tail.tail.tail.tail
  obtain ⟨a0, s0, hv0, -, -, -⟩ := laid_sentinel h' gRng tRng Tryz.underlying47 row196 Tryz.underlying196 Tryz.underlying198 rfl rfl Tryz.underlying9 cells198 cells9
  exact ⟨_, _, hv0⟩
theorem laid_of_met : Laid W :=
  ⟨met_size h, met_syn h, met_rng h, met_opt h, met_inf h, met_u10 h, met_f10 h, met_p10 h, met_db h⟩
end
end Go.Proofs.YtjpiplplohapnaaGreatDoor
namespace Go.Proofs.YtjpiplplohapnaaGreatDoor
open Go.ChangeShapes Go.WideShapes Go.ChangeAt Go.RowKit
theorem returns_shaped {H : Type} {enc : TypeId × Value → H} {a : Assume} {C : Checked} {os : Os} {f : FuncId} {fn : Func} {s : ChangeSpec} {conds : List PathCond} {apart fresh handsOn again : Bool} {X : World → Array Value → Prop}
    (hX : ∀ (w w' : World) (args : Array Value), w.heap = w'.heap → X w args → X w' args)
    (own : ownKnob C.prog.godebug = none) (started : os.Started) (noInit : C.prog.inits.idxOf? f = none) (hfn : C.prog.funcs[f]? = some fn)
    (witness : ∃ (w : World) (tape : Tape) (i : Input), w.os = os ∧ (w.forCall tape i).Shaped C.prog ∧ i.vars = [] ∧ Input.okWide C.prog (w.forCall tape i) .any w.heap.size f i ∧
      ((s.pre enc C.prog fn conds apart (w.forCall tape i).memory i.args ∧ X (w.forCall tape i).memory i.args) ∧ sizedMet enc C.prog fn (OpenSpec.ofChange s) apart (w.forCall tape i).memory i.args) ∧ a.holds C.prog (lone (Frame.enter C.prog f i.args .normal) [] (w.forCall tape i)))
    (contract : ∀ (W : World) (base : Nat) (args : Array Value) (ds gs : List (DataW H)) (before : List MemPlace),
      (∀ (j : Nat) t v, fn.params[j]? = some t → args[j]? = some v → Value.okWide C.prog W .any base t v) →
      DataW.Whole enc C.prog fn.params.toList s.vars apart W args.toList ds gs before →
      conds.all (PathCond.test C.prog ⟨fn.params.toList, ds, s.plain.varTypes C.prog, gs⟩) = true →
      (DataW.weightsEach C.prog (fn.params.toList ++ s.plain.varTypes C.prog) (ds ++ gs)).all (· ≤ reachBytes) = true → X W args →
      W.ShapedOpen C.prog →
      Calls C.prog f args W fun e W' => ∃ v, e = .returned v ∧ s.post enc C.prog fn apart fresh handsOn again W args v W') :
    ReturnsInHanded a C os f .any (fun w args => (s.pre enc C.prog fn conds apart w args ∧ X w args) ∧ sizedMet enc C.prog fn (OpenSpec.ofChange s) apart w args) (s.post enc C.prog fn apart fresh handsOn again) := by
  refine returnsInHanded_of_calls own started noInit witness ?_
  intro w tape i _ hsh _ hok hpre _
  obtain ⟨_, _, _, fn', hfn', _, _, _, _, hval⟩ := hok
  have e : fn' = fn := Option.some.inj (hfn'.symm.trans hfn)
  subst e
  obtain ⟨⟨⟨ds, gs, before, hw, hc⟩, hx⟩, hz⟩ := hpre
  have hw' := DataW.Whole.of_heap (w' := w.forCall tape i) (by rfl) hw
  refine (contract (w.forCall tape i) w.heap.size i.args ds gs before hval hw' hc (hz.weights hw) (hX _ _ _ (by rfl) hx) hsh).mono fun e W' ⟨v, he, hp⟩ => ?_
  subst he
  exact ChangeSpec.post_blind hp
theorem row5 : ∃ z t, ((begin Tryz.prog (fun _ _ => 0) default).world.heap[5]?).bind Obj.row? = some (z, t) := ⟨#[.int .u64 0, .int .u64 0, .int .i64 0], 182, by kernel_rfl⟩
theorem row6 : ∃ z t, ((begin Tryz.prog (fun _ _ => 0) default).world.heap[6]?).bind Obj.row? = some (z, t) := ⟨#[.int .u64 0, .int .u64 0, .int .i64 0], 182, by kernel_rfl⟩
theorem globals_size : 7 ≤ Tryz.prog.globals.size := by
  have : decide (7 ≤ Tryz.prog.globals.size) = true := by kernel_rfl
  exact of_decide_eq_true this
theorem laidB_of {W : World} (h : laidMet Tryz.prog laidL W) (hs : W.ShapedOpen Tryz.prog) : LaidB W := by
  refine ⟨laid_of_met h, ?_, ?_⟩
  · obtain ⟨z, t, hr⟩ := row5
    obtain ⟨cs, hc, -⟩ := hs.1 5 z t (by have := globals_size; omega) hr
    exact ⟨cs, t, hc⟩
  · obtain ⟨z, t, hr⟩ := row6
    obtain ⟨cs, hc, -⟩ := hs.1 6 z t (by have := globals_size; omega) hr
    exact ⟨cs, t, hc⟩
end Go.Proofs.YtjpiplplohapnaaGreatDoor
namespace Go.Proofs.YtjpiplplohapnaaGreatDoor
open Go.ChangeShapes Go.WideShapes Go.ChangeAt Go.RowKit
open Go.ChangeMaps (open_string shut_string)
theorem ownB : ownKnob Tryz.prog.godebug = none := by kernel_rfl
theorem lt_of_wf {b : Nat} (h : (Lit.float .f64 b).wf = true) : b < 18446744073709551616 := by
  have h2 : decide (b < 2 ^ 64) = true := h
  exact of_decide_eq_true h2
set_option maxRecDepth 100000 in
theorem textHexes_lifted (os : Os) (started : os.Started) (H : Type) (enc : TypeId × Value → H) :
    ReturnsInHanded {} Tryz.checked os 8 .any (fun w args => (Rows.textHexesSpec.pre enc Tryz.prog Tryz.f8 Rows.textHexesRow.domain false w args ∧ laidMetH Tryz.prog laidL w) ∧ sizedMet enc Tryz.prog Tryz.f8 (OpenSpec.ofChange Rows.textHexesSpec) false w args)
      (Rows.textHexesSpec.post enc Tryz.prog Tryz.f8 false true false false) := by
  refine returns_shaped (C := Tryz.checked) (X := fun w _ => laidMetH Tryz.prog laidL w) (fun _ _ _ hh h => h.of_heap hh) ownB started (by kernel_rfl) Tryz.func8
    (ChangeSpec.witness_shaped (enc := enc) (C := Tryz.checked) (os := os) (X := fun w _ => laidMetH Tryz.prog laidL w) false (World.laidAll Tryz.prog os laidL) #[.float .f64 0, .string ⟨#[]⟩] 8 (World.laidAll_os _ _ _)
      (World.shaped_of_ZipB (by kernel_rfl) (by kernel_rfl)) (by kernel_rfl) (by kernel_rfl) (by kernel_rfl)
      (by rw [MakeChecks.laidMetH_plain _ _ _ (by kernel_rfl)]; exact laidMet_laidAll _ (by kernel_rfl) (by kernel_rfl))) ?_
  intro W base args ds gs before hval0 hW hc hsz0 hL hsh
  clear hc hsz0
  have hval : ∀ (j : Nat) t v, Tryz.f8.params[j]? = some t → args[j]? = some v → Value.okWide Tryz.prog W .any base t v := hval0
  have hW' := hW
  obtain ⟨p, q, hA0, hV, rfl, _, _⟩ := hW
  have hA : DataW.TrodAll enc Tryz.prog W 0 (fun _ => true) true Tryz.f8.params.toList args.toList ds p := hA0
  rw [Tryz.params8] at hA hval
  obtain ⟨v0, v1, d0, d1, p0, p1, rfl, rfl, rfl, h0, h1⟩ := trodAll_two hA
  obtain ⟨rfl, rfl⟩ := trodVars_none hV
  obtain ⟨x, rfl, rfl, rfl, wx⟩ := open_float Tryz.underlying22 (hval 0 22 v0 rfl rfl) h0
  obtain ⟨s, rfl, rfl, rfl, hs⟩ := open_string Tryz.underlying9 (hval 1 9 v1 rfl rfl) h1
  clear hA0 hval0
  simp only [List.append_nil] at hW'
  rw [MakeChecks.laidMetH_plain _ _ _ (by kernel_rfl)] at hL
  refine (textHexes_walk x (lt_of_wf wx) s W (laidB_of hL hsh)).mono fun e W' ⟨he, hb⟩ => ?_
  subst he
  refine ⟨_, rfl, _, _, _, [], [], [], hW', ?_, ?_, rfl, hb.frame _, fun h => by cases h⟩
  · exact trodAll_mk1 (shut_bool Tryz.underlying4 _)
  · exact trodAll_mk2 (shut_float Tryz.underlying22 wx) (shut_string Tryz.underlying9 hs)
theorem textHexes_holds : Rows.TextHexesSaid :=
  OpenClaim.holds_of_wide 8 Tryz.f8 rfl rfl rfl rfl rfl rfl rfl ⟨rfl, rfl, rfl, rfl, rfl⟩ rfl rfl rfl rfl rfl (by kernel_rfl) Tryz.func8 (by kernel_rfl)
    (of_decide_eq_true (by kernel_rfl)) (by unfold Func.isWrapper; first | (rw [if_pos (by decide +kernel)]; kernel_rfl) | (rw [if_neg (by decide +kernel)]; exact ⟨rfl, rfl⟩))
    (fun os started H enc _ => textHexes_lifted os started H enc)
#print axioms textHexes_holds
end Go.Proofs.YtjpiplplohapnaaGreatDoor
namespace Go.Proofs.YtjpiplplohapnaaGreatDoor
open Go
theorem textHexes_card : Rows.TextHexesCardSaid :=
  Claim7.holds_tied_plain_at .later [] [.data, .data, .widerDeep, .widerDeep, .data, .data, .data, .data, .data, .data, .sentinel, .sentinel, .pinned, .pinned, .pinned] true (true, "88b106d7fc526b4d2f4990cd12e5310ed366ec0058fe55e1a106d0c7beb3aadc") true
    textHexes_holds (fun _ h => by cases h) (by kernel_rfl) (fun _ h => by cases h) textHexes_row_tie rfl ⟨rfl, rfl⟩ (by kernel_rfl) rfl
    (fun f fn hf hfn => by
      obtain rfl : f = 8 := Option.some.inj ((show Tryz.prog.funcNamed "tenor/tenorlaw2.TextHexes" = some 8 by kernel_rfl).symm.trans hf) |>.symm
      obtain rfl : fn = Tryz.f8 := (Option.some.inj (Tryz.func8.symm.trans hfn)).symm
      exact ⟨by kernel_rfl, fun j t ht => by
        rw [Tryz.params8] at ht
        have hm : t ∈ [22, 9] := by simpa using Array.mem_of_getElem? ht
        have hall : ([22, 9].all fun u => !Tryz.prog.wantsStandIn u) = true := by kernel_rfl
        exact (show Tryz.prog.wantsStandIn t = false by simpa using List.all_eq_true.1 hall t hm)⟩)
    (by kernel_rfl)
#print axioms textHexes_card
end Go.Proofs.YtjpiplplohapnaaGreatDoor
