/- Part 20 of the proof: Sh, Rn, Met, Mc, Fb, Fc, Fy. -/
import Derived.Test.YtjpiplplohapnaaGreatDoorPs19
import Derived.Test.YtjpiplplohapnaaGreatDoorTie
import Derived.ProofKit
import Derived.LaidMore
import Derived.OpenShut
import Derived.Stop.Joined
import Derived.Stop.LaidErr
import Derived.Deep.DeepLaidRun
set_option linter.unusedVariables false
set_option linter.unusedSimpArgs false
namespace Go.Proofs.YtjpiplplohapnaaGreatDoor
open Go.RowKit Go.Proofs.YtjpiplplohapnaaGreatDoorW.PrintWords Dc
def Sh1 (g B : Nat) (ng : Bool) (s : St) (R : St → Prop) (w : World) (e : Ending) (w' : World) : Prop := e = .returned (.tuple #[]) ∧ Below B w w' ∧ ∃ t, R t ∧ Norm t ∧ t.is w' g ng ∧ s.dp - 19 ≤ t.dp ∧ t.dp ≤ s.dp + 19
theorem right_step1 (w : World) (g B : Nat) (hB : B ≤ g) (s : St) (hs : Weak s) (ng : Bool) (k : Nat) (hk1 : 1 ≤ k) (hk : k ≤ 60) (hdp1 : -100000 ≤ s.dp) (hdp2 : s.dp ≤ 100000) (h : s.is w g ng) :
    Calls Tryz.prog 169 #[.pointer (some ⟨g, 0, none⟩), .int .u64 k] w (Sh1 g B ng s (RStep k s) w) := by
  refine (z7j w g B hB s.d s.nd k s.dp ng s.tr hk1 hk hs.pos hs.le hdp1 hdp2 hs.dgs hs.first h).mono fun e w' ⟨h1, h2, d', r0, T, W, h3, h4⟩ => ⟨h1, h2, ?_⟩
  have hst : RStep k s ⟨d', tl d' W, s.dp - ((r0 : Int) - 1), s.tr || lost (dig s.d s.nd) (2 ^ k) r0 (T - r0)⟩ := ⟨r0, T, W, h3, rfl, rfl, rfl⟩
  have hn := (z8a hs hk hst).2
  have h1 := h3.lead.one
  have h20 := h3.lead.le20 hs.dig0 (two60 hk)
  have hz : dpz (tl d' W) (s.dp - ((r0 : Int) - 1)) = s.dp - ((r0 : Int) - 1) := by unfold dpz; rw [if_neg (Nat.ne_of_gt hn.pos)]
  rw [hz] at h4
  exact ⟨_, hst, hn, h4, by show s.dp - 19 ≤ s.dp - ((r0 : Int) - 1); omega, by show s.dp - ((r0 : Int) - 1) ≤ s.dp + 19; omega⟩
theorem left_step1 (w : World) (hC : z7k w) (g B : Nat) (hB : B ≤ g) (s : St) (hs : Weak s) (ng : Bool) (k : Nat) (hk1 : 1 ≤ k) (hk : k ≤ 60) (hdp1 : -100000 ≤ s.dp) (hdp2 : s.dp ≤ 100000) (h : s.is w g ng) :
    Calls Tryz.prog 168 #[.pointer (some ⟨g, 0, none⟩), .int .u64 k] w (Sh1 g B ng s (LStep k s) w) := by
  refine (leftShift_walk w hC g B hB s.d s.nd k s.dp ng s.tr hk1 hk hs.pos hs.le hdp1 hdp2 hs.dgs hs.first h).mono fun e w' ⟨h1, h2, d', L, W, h3, h4⟩ => ⟨h1, h2, ?_⟩
  have hst : LStep k s ⟨d', tl d' W, s.dp + ((L - s.nd : Nat) : Int), s.tr || z2w (N (dig s.d s.nd) s.nd * 2 ^ k) L L⟩ := ⟨L, W, h3, rfl, rfl, rfl⟩
  have hn := (left_q hs hst).2
  have hwd := h3.wide
  have hz : dpz (tl d' W) (s.dp + ((L - s.nd : Nat) : Int)) = s.dp + ((L - s.nd : Nat) : Int) := by unfold dpz; rw [if_neg (Nat.ne_of_gt hn.pos)]
  rw [hz] at h4
  exact ⟨_, hst, hn, h4, by show s.dp - 19 ≤ s.dp + ((L - s.nd : Nat) : Int); omega, by show s.dp + ((L - s.nd : Nat) : Int) ≤ s.dp + 19; omega⟩
set_option maxRecDepth 100000 in
set_option maxHeartbeats 1000000 in
theorem z7o (w : World) (g B : Nat) (hB : B ≤ g) (hC : z7k w) (s : St) (hs : Weak s) (ng : Bool) (k : Nat) (hk1 : 1 ≤ k) (hk : k ≤ 60) (hdp1 : -50000 ≤ s.dp) (hdp2 : s.dp ≤ 50000) (h : s.is w g ng) :
    Calls Tryz.prog 129 #[.pointer (some ⟨g, 0, none⟩), .int .i64 k] w (Sh1 g B ng s (LStep k s) w) := by
  have cnd : w.cell? ⟨g, 800, none⟩ = some (.int .i64 (s.nd : Nat)) := z1d.cnd h
  have HC := Lib.hid (left_step1 w hC g B hB s hs ng k hk1 hk (by omega) (by omega) h)
  have f0 : (((s.nd : Nat) : Int) == 0) = false := by have := hs.pos; simp; omega
  have f1 : (0 : Int) < k := by omega
  have f2 : decide ((0 : Int) < (k : Int)) = true := decide_eq_true f1
  have f3 : decide (0 < k) = true := decide_eq_true (by omega)
  have g1 : ¬ (60 : Int) < k := by omega
  have g2 : decide ((60 : Int) < (k : Int)) = false := decide_eq_false g1
  have w1 : IntKind.u64.wrap (k : Int) = (k : Int) := by rw [Go.IntKind.wrap_u64]; omega
  clear h hs hdp1 hdp2 hC
  go_enter Tryz.func129, Tryz.ntmps129
  go_wp2_with fail
  go_loopg [1] 1 (fun gn v1 w' => v1 = .int .i64 k ∧ w = w')
  case atStart => exact ⟨rfl, rfl⟩
  case round =>
    obtain ⟨rfl, hww⟩ := hrel
    obtain rfl := hww.symm
    clear hww
    go_wp2_with fail
    refine HC.out.mono ?_
    rintro e w2 ⟨rfl, h2⟩
    have H2 := Lib.hid h2
    clear h2 HC
    go_wp2_with fail
    go_end0
    exact ⟨rfl, H2.out⟩
set_option maxRecDepth 100000 in
set_option maxHeartbeats 1000000 in
theorem z8x (w : World) (g B : Nat) (hB : B ≤ g) (s : St) (hs : Weak s) (ng : Bool) (k : Nat) (hk1 : 1 ≤ k) (hk : k ≤ 60) (hdp1 : -50000 ≤ s.dp) (hdp2 : s.dp ≤ 50000) (h : s.is w g ng) :
    Calls Tryz.prog 129 #[.pointer (some ⟨g, 0, none⟩), .int .i64 (-(k : Int))] w (Sh1 g B ng s (RStep k s) w) := by
  have cnd : w.cell? ⟨g, 800, none⟩ = some (.int .i64 (s.nd : Nat)) := z1d.cnd h
  have HC := Lib.hid (right_step1 w g B hB s hs ng k hk1 hk (by omega) (by omega) h)
  have f0 : (((s.nd : Nat) : Int) == 0) = false := by have := hs.pos; simp; omega
  obtain ⟨m, hm⟩ : ∃ m : Int, m = -(k : Int) := ⟨_, rfl⟩
  have f1 : ¬ (0 : Int) < m := by omega
  have f2 : decide ((0 : Int) < m) = false := decide_eq_false f1
  have f3 : m < 0 := by omega
  have f4 : decide (m < 0) = true := decide_eq_true f3
  have g1 : ¬ m < -60 := by omega
  have g2 : decide (m < -60) = false := decide_eq_false g1
  have w0 : IntKind.i64.wrap (0 - m) = (k : Int) := by rw [Go.IntKind.wrap_i64]; omega
  have w2 : wrap64 (0 - m) = (k : Int) := by unfold wrap64; omega
  have w3 : wrap64 (-m) = (k : Int) := by unfold wrap64; omega
  have w4 : IntKind.i64.wrap (-m) = (k : Int) := by rw [Go.IntKind.wrap_i64]; omega
  have w1 : IntKind.u64.wrap (k : Int) = (k : Int) := by rw [Go.IntKind.wrap_u64]; omega
  rw [← hm]
  clear h hs hdp1 hdp2 hm
  go_enter Tryz.func129, Tryz.ntmps129
  go_wp2_with fail
  go_loopg [1] 1 (fun gn v1 w' => v1 = .int .i64 m ∧ w = w')
  case atStart => exact ⟨rfl, rfl⟩
  case round =>
    obtain ⟨rfl, hww⟩ := hrel
    obtain rfl := hww.symm
    clear hww
    go_wp2_with fail
    refine HC.out.mono ?_
    rintro e w2 ⟨rfl, h2⟩
    have H2 := Lib.hid h2
    clear h2 HC
    go_wp2_with fail
    go_end0
    exact ⟨rfl, H2.out⟩
end Go.Proofs.YtjpiplplohapnaaGreatDoor
namespace Go.Proofs.YtjpiplplohapnaaGreatDoor
open Go.RowKit Go.Proofs.YtjpiplplohapnaaGreatDoorW.PrintWords Dc
set_option maxRecDepth 100000 in
set_option maxHeartbeats 1500000 in
theorem rounded_neg (w : World) (g : Nat) (s : St) (ng : Bool) (hp : s.dp < 0) (hp2 : -1000000 ≤ s.dp) (h : s.is w g ng) :
    Calls Tryz.prog 185 #[.pointer (some ⟨g, 0, none⟩)] w fun e w' => e = .returned (.int .u64 0) ∧ ∃ n, w' = w.drewN n := by
  have cdp : w.cell? ⟨g, 801, none⟩ = some (.int .i64 s.dp) := z1d.cdp h
  have HU := Lib.hid (fun m => up_neg (w.drewN m) g s ng s.dp hp (h.drewN m))
  generalize s.dp = p at *
  have f1 : ¬ (20 : Int) < p := by omega
  have f2 : decide ((20 : Int) < p) = false := decide_eq_false f1
  have f3 : ¬ (0 : Int) < p := by omega
  have f4 : decide ((0 : Int) < p) = false := decide_eq_false f3
  clear h
  go_enter Tryz.func185, Tryz.ntmps185
  go_upto_block 0 with (fail)
  go_cut [3, 4] (fun v3 v4 w' => v3 = .int .i64 0 ∧ v4 = .int .u64 0 ∧ w = w')
  case first =>
    go_wp2_with fail
    go_loopg [3, 4] 1 (fun gn v3 v4 w' => v3 = .int .i64 0 ∧ v4 = .int .u64 0 ∧ w = w')
    case atStart => exact ⟨rfl, rfl, rfl⟩
    case round =>
      obtain ⟨rfl, rfl, hww⟩ := hrel
      subst hww
      go_wp2_with fail
      go_meet
      case rel => exact ⟨rfl, rfl, rfl⟩
  obtain ⟨rfl, rfl, hww⟩ := hcut
  subst hww
  go_step
  go_wp2_with fail
  go_loopg [3, 4] 1 (fun gn v3 v4 w' => v3 = .int .i64 0 ∧ v4 = .int .u64 0 ∧ w = w')
  case atStart => exact ⟨rfl, rfl, rfl⟩
  case round =>
    obtain ⟨rfl, rfl, hww⟩ := hrel
    subst hww
    go_wp2_with fail
    refine (HU.out 0).mono ?_
    rintro e w' ⟨rfl, hww⟩
    obtain rfl := hww.symm
    clear hww HU
    go_wp2_with fail
    go_ret
    exact ⟨rfl, 0, rfl⟩
theorem rounded_all (w : World) (g : Nat) (s : St) (hs : Norm s) (ng : Bool) (hp : s.dp ≤ 18) (hp2 : -1000000 ≤ s.dp) (h : s.is w g ng) :
    Calls Tryz.prog 185 #[.pointer (some ⟨g, 0, none⟩)] w fun e w' => e = .returned (.int .u64 ((z4e s : Nat) : Int)) ∧ ∃ n, w' = w.drewN n := by
  unfold z4e
  by_cases h0 : s.dp < 0
  · rw [if_pos h0]
    exact rounded_neg w g s ng h0 hp2 h
  rw [if_neg h0]
  exact rounded_walk w g s hs ng s.dp.toNat (by omega) (by omega) h
structure OutF (x0 E : Nat) : Prop where
  a1 : Go.bits .and .i64 (E : Int) 2047 = (E : Int)
  a2 : IntKind.u64.wrap (E : Int) = (E : Int)
  a3 : IntKind.u64.wrap ((E : Int) * 4503599627370496) = ((E * 4503599627370496 : Nat) : Int)
  a4 : Go.bits .or .u64 (x0 : Int) ((E * 4503599627370496 : Nat) : Int) = ((E * 4503599627370496 + x0 : Nat) : Int)
  a5 : Go.bits .or .u64 ((E * 4503599627370496 + x0 : Nat) : Int) 9223372036854775808 = ((9223372036854775808 + (E * 4503599627370496 + x0) : Nat) : Int)
set_option maxRecDepth 100000 in
theorem and2047e : ∀ E : Fin 2048, Go.bits .and .i64 (E.val : Int) 2047 = (E.val : Int) := by decide +kernel
theorem out_facts (x0 E : Nat) (hx : x0 < 4503599627370496) (hE : E < 2048) : OutF x0 E := by
  obtain ⟨z, hz⟩ : ∃ z, z = E * 4503599627370496 := ⟨_, rfl⟩
  refine ⟨and2047e ⟨E, hE⟩, by rw [Go.IntKind.wrap_u64]; omega, by rw [Go.IntKind.wrap_u64]; omega, ?_, ?_⟩
  · rw [← hz, Go.u64_or_nat x0 z (by omega) (by omega), Nat.or_comm, Go.nat_join 52 z x0 (by rw [hz]; exact Nat.mul_mod_left _ _) hx]
  obtain ⟨y, hy⟩ : ∃ y, y = E * 4503599627370496 + x0 := ⟨_, rfl⟩
  rw [← hy]
  have := Go.u64_or_nat y 9223372036854775808 (by omega) (by omega)
  rw [show ((9223372036854775808 : Nat) : Int) = 9223372036854775808 from rfl] at this
  rw [this, Nat.or_comm, Go.nat_join 63 9223372036854775808 y (by decide) (by omega)]
theorem and_low52 (M : Nat) (h : M < 18446744073709551616) : Go.bits .and .u64 (M : Int) 4503599627370495 = ((M % 4503599627370496 : Nat) : Int) := by
  have := Go.u64_and_nat M 4503599627370495 (by omega) (by omega)
  rw [show ((4503599627370495 : Nat) : Int) = 4503599627370495 from rfl] at this
  rw [this]
  exact congrArg _ (Nat.and_two_pow_sub_one_eq_mod M 52)
end Go.Proofs.YtjpiplplohapnaaGreatDoor
namespace Go.Proofs.YtjpiplplohapnaaGreatDoor
open Go.ChangeShapes Go.WideShapes Go.ChangeAt Go.RowKit
abbrev z5g : List (String × DataW Unit) := Rows.textIntsRow.laid
theorem laid_at {P : Program} {w : World} : ∀ {l : List (String × DataW Unit)} {ps : List MemPlace}, DataW.LaidVars P w l ps → ∀ {n : String} {d : DataW Unit}, (n, d) ∈ l →
    ∃ g t cs fuel p, P.globalNamed n = some g ∧ (P.globals[g]?).map (·.type) = some t ∧ w.var? P n = some cs ∧ DataW.trod (fun _ => ()) P w 0 (fun _ => true) false fuel t cs.toList = some (d, p)
  | [], _, _, _, _, hm => by cases hm
  | (m, e) :: r, ps, h, n, d, hm => by
    obtain ⟨g, t, cs, fuel, p, q, h1, h2, h3, h4, h5, _⟩ := h
    rcases List.mem_cons.1 hm with he | hm
    · cases he; exact ⟨g, t, cs, fuel, p, h1, h2, h3, h4⟩
    exact laid_at h5 hm
theorem z4q {P : Program} {w : World} {l : List (String × DataW Unit)} (h : laidMet P l w) {n : String} {d : DataW Unit} (hm : (n, d) ∈ l) {g : Nat} {t : TypeId} (hg : P.globalNamed n = some g) (ht : (P.globals[g]?).map (·.type) = some t) :
    ∃ cs fuel p, w.var? P n = some cs ∧ DataW.trod (fun _ => ()) P w 0 (fun _ => true) false fuel t cs.toList = some (d, p) := by
  obtain ⟨ps, hv, -, -⟩ := h
  obtain ⟨g', t', cs, fuel, p, h1, h2, h3, h4⟩ := laid_at hv hm
  obtain rfl := Option.some.inj (hg.symm.trans h1)
  obtain rfl := Option.some.inj (ht.symm.trans h2)
  exact ⟨cs, fuel, p, h3, h4⟩
theorem chunks {α : Type} (c : Nat) : ∀ (vs : List (List α)) (cs : List α), cs.length = vs.length * c → (∀ i, i < vs.length → (cs.drop (i * c)).take c = vs.getD i []) → cs = vs.flatten
  | [], cs, hl, _ => by simpa using hl
  | v :: vs, cs, hl, h => by
    have h0 := h 0 (by simp)
    simp at h0
    have hl' : cs.length = vs.length * c + c := by rw [hl, List.length_cons, Nat.succ_mul]
    have hr := chunks c vs (cs.drop c) (by rw [List.length_drop, hl']; omega) (fun i hi => by
      have h1 := h (i + 1) (by simp; omega)
      rw [List.drop_drop]
      rw [Nat.succ_mul, Nat.add_comm] at h1
      exact h1.trans (by simp))
    rw [List.flatten_cons, ← hr, ← h0, List.take_append_drop]
theorem cells_of_parts {H : Type} {enc : TypeId × Value → H} {P : Program} {w : World} {base : Nat} {sp : Nat → Bool} {held : Bool} {fuel : Nat} {t e : TypeId} {n : Nat} {cs : List Value} {ds : List (DataW H)} {vs : List (List Value)} {p : List MemPlace}
    (ht : P.underlying t = some (.array n e)) (hct : P.cellsOf t = n * P.cellsOf e) (hl : vs.length = n)
    (hp : ∀ i, i < n → ∀ (m : Nat) (c : List Value) (d : DataW H) (q : List MemPlace), ds[i]? = some d → DataW.trod enc P w base sp held m e c = some (d, q) → c = vs.getD i [])
    (h : DataW.trod enc P w base sp held fuel t cs = some (.agg ds, p)) : cs = vs.flatten := by
  obtain ⟨xs, m, -, hx, hlen, hxl, hel⟩ := DataW.trod_array ht h
  have hds : ds = xs.map (·.1) := by simpa using congrArg Prod.fst hx
  refine chunks (P.cellsOf e) vs cs (by rw [hlen, hct, hl]) (fun i hi => ?_)
  rw [hl] at hi
  have h1 := hel i hi
  obtain ⟨⟨d, q⟩, hxi⟩ : ∃ y, xs[i]? = some y := ⟨_, List.getElem?_eq_getElem (by omega)⟩
  rw [hxi] at h1
  exact hp i hi m _ d q (by rw [hds, List.getElem?_map, hxi]; rfl) h1
theorem gAcc : Tryz.prog.globalNamed "unicode/utf8.acceptRanges" = some 16 := by kernel_rfl
theorem tSyn : (Tryz.prog.globals[1]?).map (·.type) = some 47 := by kernel_rfl
theorem tRng : (Tryz.prog.globals[2]?).map (·.type) = some 47 := by kernel_rfl
theorem tOpt : (Tryz.prog.globals[3]?).map (·.type) = some 4 := by kernel_rfl
theorem tU10 : (Tryz.prog.globals[4]?).map (·.type) = some 167 := by kernel_rfl
theorem tInf : (Tryz.prog.globals[6]?).map (·.type) = some 182 := by kernel_rfl
theorem tF10 : (Tryz.prog.globals[10]?).map (·.type) = some 223 := by kernel_rfl
theorem tP10 : (Tryz.prog.globals[11]?).map (·.type) = some 227 := by kernel_rfl
theorem tDb : (Tryz.prog.globals[14]?).map (·.type) = some 233 := by kernel_rfl
theorem tAcc : (Tryz.prog.globals[16]?).map (·.type) = some 237 := by kernel_rfl
theorem star : "*" ++ "errors.errorString" = "*errors.errorString" := by decide
theorem row196 (u : TypeId) (h : Tryz.prog.typeName? 3 u = some "*errors.errorString") : u = 196 :=
  typeName_ptr_named (nm := "errors.errorString") (by rw [star]; kernel_rfl) (by kernel_rfl) (by decide) u (by rw [star]; exact h)
theorem cells198 : Tryz.prog.cellsOf 198 = 1 := by kernel_rfl
theorem cells9 : Tryz.prog.cellsOf 9 = 1 := by kernel_rfl
theorem cells5 : Tryz.prog.cellsOf 5 = 1 := by kernel_rfl
theorem cells26 : Tryz.prog.cellsOf 26 = 1 := by kernel_rfl
theorem cells22 : Tryz.prog.cellsOf 22 = 1 := by kernel_rfl
theorem cells226 : Tryz.prog.cellsOf 226 = 2 := by kernel_rfl
theorem cells227 : Tryz.prog.cellsOf 227 = 696 * Tryz.prog.cellsOf 226 := by kernel_rfl
theorem cells167 : Tryz.prog.cellsOf 167 = 20 := by kernel_rfl
theorem cells233 : Tryz.prog.cellsOf 233 = 64 := by kernel_rfl
theorem cells182 : Tryz.prog.cellsOf 182 = 3 := by kernel_rfl
theorem cells75 : Tryz.prog.cellsOf 75 = 1 := by kernel_rfl
theorem cells3 : Tryz.prog.cellsOf 3 = 1 := by kernel_rfl
theorem p10_length : (Pinned.pow10Rows.map fun x : Nat × Nat => [Value.int .u64 x.1, Value.int .u64 x.2]).length = 696 := by kernel_rfl
theorem trod_float {H : Type} {enc : TypeId × Value → H} {P : Program} {w : World} {base : Nat} {sp : Nat → Bool} {held : Bool} {fuel : Nat} {t : TypeId} {k : FloatKind} {cs : List Value} {x : DataW H × List MemPlace}
    (ht : P.underlying t = some (.float k)) (h : DataW.trod enc P w base sp held fuel t cs = some x) : ∃ n, cs = [.float k n] ∧ x = (.lit (.float k n), []) := by
  cases fuel with
  | zero => simp [DataW.trod] at h
  | succ n =>
    unfold DataW.trod at h
    rw [ht] at h
    split at h <;> simp_all
theorem one_cell {w : World} {base : Nat} {a : Addr} {c : Value} (h : w.cells? base a 1 = some [c]) : w.cell? a = some c := by
  have e0 : a.add 0 = a := by simp [Addr.add]
  unfold World.cells? at h
  split at h
  · simp only [List.range_succ, List.range_zero, List.nil_append, List.mapM_cons, List.mapM_nil, e0] at h
    cases hcc : w.cell? a with
    | none => simp [hcc] at h
    | some c => simp [hcc] at h; rw [h]
  cases h
theorem two_cells {P : Program} {w : World} {base : Nat} {sp : Nat → Bool} {fuel : Nat} {t : TypeId} {f0 f1 : Field} {k0 k1 : IntKind} {cs : List Value} {x y : Int} {p : List MemPlace}
    (ht : P.underlying t = some (.struct #[f0, f1])) (hct : P.cellsOf t = 2) (t0 : P.underlying f0.type = some (.int k0)) (t1 : P.underlying f1.type = some (.int k1)) (n0 : P.cellsOf f0.type = 1) (n1 : P.cellsOf f1.type = 1) (o0 : f0.offset = 0) (o1 : f1.offset = 1)
    (h : DataW.trod (fun _ => ()) P w base sp false fuel t cs = some (.agg [.lit (.int k0 x), .lit (.int k1 y)], p)) : cs = [.int k0 x, .int k1 y] := by
  obtain ⟨xs, m, -, hx, hlen, hxl, hel⟩ := DataW.trod_struct ht h
  rw [hct] at hlen
  have h0 := hel 0 _ rfl
  have h1 := hel 1 _ rfl
  match xs, hxl, hx, h0, h1 with
  | [x0, x1], _, hx, h0, h1 =>
    simp only [List.map_cons, List.map_nil, Prod.mk.injEq, DataW.agg.injEq, List.cons.injEq, and_true] at hx
    obtain ⟨⟨e0, e1⟩, -⟩ := hx
    simp only [List.getElem?_cons_zero, List.getElem?_cons_succ] at h0 h1
    obtain ⟨k0, c0, d0, -⟩ := DataW.trod_int t0 h0
    obtain ⟨k1, c1, d1, -⟩ := DataW.trod_int t1 h1
    subst d0; subst d1
    cases e0; cases e1
    match cs, hlen, c0, c1 with
    | [a, b], _, c0, c1 =>
      simp [n0, n1, o0, o1] at c0 c1
      rw [c0, c1]
theorem three_cells {P : Program} {w : World} {base : Nat} {sp : Nat → Bool} {fuel : Nat} {t : TypeId} {f0 f1 f2 : Field} {k0 k1 k2 : IntKind} {cs : List Value} {x y z : Int} {p : List MemPlace}
    (ht : P.underlying t = some (.struct #[f0, f1, f2])) (hct : P.cellsOf t = 3) (t0 : P.underlying f0.type = some (.int k0)) (t1 : P.underlying f1.type = some (.int k1)) (t2 : P.underlying f2.type = some (.int k2)) (n0 : P.cellsOf f0.type = 1) (n1 : P.cellsOf f1.type = 1) (n2 : P.cellsOf f2.type = 1) (o0 : f0.offset = 0) (o1 : f1.offset = 1) (o2 : f2.offset = 2)
    (h : DataW.trod (fun _ => ()) P w base sp false fuel t cs = some (.agg [.lit (.int k0 x), .lit (.int k1 y), .lit (.int k2 z)], p)) : cs = [.int k0 x, .int k1 y, .int k2 z] := by
  obtain ⟨xs, m, -, hx, hlen, hxl, hel⟩ := DataW.trod_struct ht h
  rw [hct] at hlen
  have h0 := hel 0 _ rfl
  have h1 := hel 1 _ rfl
  have h2 := hel 2 _ rfl
  match xs, hxl, hx, h0, h1, h2 with
  | [x0, x1, x2], _, hx, h0, h1, h2 =>
    simp only [List.map_cons, List.map_nil, Prod.mk.injEq, DataW.agg.injEq, List.cons.injEq, and_true] at hx
    obtain ⟨⟨e0, e1, e2⟩, -⟩ := hx
    simp only [List.getElem?_cons_zero, List.getElem?_cons_succ] at h0 h1 h2
    obtain ⟨k0, c0, d0, -⟩ := DataW.trod_int t0 h0
    obtain ⟨k1, c1, d1, -⟩ := DataW.trod_int t1 h1
    obtain ⟨k2, c2, d2, -⟩ := DataW.trod_int t2 h2
    subst d0; subst d1; subst d2
    cases e0; cases e1; cases e2
    match cs, hlen, c0, c1, c2 with
    | [a, b, c], _, c0, c1, c2 =>
      simp [n0, n1, n2, o0, o1, o2] at c0 c1 c2
      rw [c0, c1, c2]
theorem pair_cells {w : World} {base : Nat} {sp : Nat → Bool} {fuel : Nat} {cs : List Value} {x y : Nat} {p : List MemPlace}
    (h : DataW.trod (fun _ => ()) Tryz.prog w base sp false fuel 226 cs = some (.agg [.lit (.int .u64 x), .lit (.int .u64 y)], p)) : cs = [.int .u64 x, .int .u64 y] :=
  two_cells Tryz.underlying226 cells226 Tryz.underlying26 Tryz.underlying26 cells26 cells26 rfl rfl h
theorem p10_cells {w : World} {fuel : Nat} {cs : List Value} {ds : List (DataW Unit)} {vs : List (List Value)} {p : List MemPlace} (hl : vs.length = 696)
    (hp : ∀ i, i < 696 → ∀ (m : Nat) (c : List Value) (d : DataW Unit) (q : List MemPlace), ds[i]? = some d → DataW.trod (fun _ => ()) Tryz.prog w 0 (fun _ => true) false m 226 c = some (d, q) → c = vs.getD i [])
    (h : DataW.trod (fun _ => ()) Tryz.prog w 0 (fun _ => true) false fuel 227 cs = some (.agg ds, p)) : cs = vs.flatten :=
  cells_of_parts (n := 696) (e := 226) Tryz.underlying227 cells227 hl hp h
section
variable {W : World} (h : laidMet Tryz.prog z5g W)
include h
theorem met_size : 17 ≤ W.heap.size := by
  obtain ⟨cs, fuel, p, hv, -⟩ := z4q h (n := "unicode/utf8.acceptRanges") (d := Rows.laid_unicode_utf8_acceptRanges) (by simp [z5g, Rows.textIntsRow]) gAcc tAcc
  unfold World.var? at hv
  rw [gAcc] at hv
  simp only [Option.bind_some] at hv
  split at hv
  · rename_i heq
    have := (Array.getElem?_eq_some_iff.1 heq).1
    omega
  cases hv
theorem met_opt : W.var? Tryz.prog "internal/strconv.optimize" = some #[.bool true] := by
  obtain ⟨cs, fuel, p, hv, hd⟩ := z4q h (n := "internal/strconv.optimize") (d := Rows.laid_internal_strconv_optimize) (by simp [z5g, Rows.textIntsRow]) gOpt tOpt
  obtain ⟨b, hb, hx⟩ := DataW.trod_bool Tryz.underlying4 hd
  cases hx
  rw [hv, Array.eq_one_of_toList hb]
theorem met_inf : W.var? Tryz.prog "internal/strconv.float64info" = some #[.int .u64 52, .int .u64 11, .int .i64 (-1023)] := by
  obtain ⟨cs, fuel, p, hv, hd⟩ := z4q h (n := "internal/strconv.float64info") (d := Rows.laid_internal_strconv_float64info) (by simp [z5g, Rows.textIntsRow]) gInf tInf
  have := three_cells Tryz.underlying182 cells182 Tryz.underlying75 Tryz.underlying75 Tryz.underlying3 cells75 cells75 cells3 rfl rfl rfl hd
  rw [hv]
  exact congrArg some (Array.toList_inj.1 this)
theorem met_u10 : Lib.TabIs Tryz.prog W "internal/strconv.uint64pow10" .u64 Lib.pow10Tab := by
  obtain ⟨cs, fuel, p, hv, hd⟩ := z4q h (n := "internal/strconv.uint64pow10") (d := Rows.laid_internal_strconv_uint64pow10) (by simp [z5g, Rows.textIntsRow]) gU10 tU10
  have e : (Rows.laid_internal_strconv_uint64pow10 : DataW Unit) = Lib.tabData .u64 Lib.pow10Tab := by rfl
  rw [e] at hd
  unfold Lib.TabIs
  rw [hv, ← Lib.cells_of_tab Tryz.underlying167 Tryz.underlying26 cells26 cells167 hd]
theorem met_db : Lib.TabIs Tryz.prog W "math/bits.deBruijn64tab" .u8 (Lib.deBruijn64tab.map fun x : Nat => (x : Int)) := by
  obtain ⟨cs, fuel, p, hv, hd⟩ := z4q h (n := "math/bits.deBruijn64tab") (d := Rows.laid_math_bits_deBruijn64tab) (by simp [z5g, Rows.textIntsRow]) gDb tDb
  have e : (Rows.laid_math_bits_deBruijn64tab : DataW Unit) = Lib.tabData .u8 (Lib.deBruijn64tab.map fun x : Nat => (x : Int)) := by rfl
  rw [e] at hd
  unfold Lib.TabIs
  rw [hv, ← Lib.cells_of_tab Tryz.underlying233 Tryz.underlying5 cells5 cells233 hd]
theorem met_f10 : ∃ a : Addr, W.var? Tryz.prog "internal/strconv.float64pow10" = some #[.slice (some a) 23 23] ∧ ∀ i, i < 23 → W.cell? (a.add i) = some (.float .f64 (z1z.getD i 0)) := by
  obtain ⟨cs, fuel, p, hv, hd⟩ := z4q h (n := "internal/strconv.float64pow10") (d := Rows.laid_internal_strconv_float64pow10) (by simp [z5g, Rows.textIntsRow]) gF10 tF10
  rcases DataW.trod_slice Tryz.underlying223 hd with ⟨_, hx⟩ | ⟨a, len, cap, elems, rest, n, _, hcs, hx, _, hl, _, hlen, hel, hsp, _⟩
  · simp [Rows.laid_internal_strconv_float64pow10] at hx
  simp only [Rows.laid_internal_strconv_float64pow10, Prod.mk.injEq, DataW.slice.injEq] at hx
  obtain ⟨⟨hE, hR⟩, -⟩ := hx
  have hr : rest = [] := List.map_eq_nil_iff.1 hR.symm
  subst hr
  have hc := (hsp rfl).1
  have hlen23 : len = 23 := by
    have := congrArg List.length hE
    simp at this; omega
  subst hlen23
  have hcap : cap = 23 := by simp at hc; omega
  subst hcap
  refine ⟨a, by rw [hv, Array.eq_one_of_toList hcs], fun i hi => ?_⟩
  have h1 := hel i hi
  rw [cells22, Nat.mul_one] at h1
  obtain ⟨y, hy⟩ : ∃ y, elems[i]? = some y := ⟨_, List.getElem?_eq_getElem (by omega)⟩
  rw [hy] at h1
  obtain ⟨c1, hc1, hy1⟩ := Option.bind_eq_some_iff.1 h1
  obtain ⟨k, rfl, hk⟩ := trod_float Tryz.underlying22 hy1
  have hd1 : (elems.map (·.1))[i]? = some (DataW.lit (.float .f64 k)) := by rw [List.getElem?_map, hy]; simp [hk]
  rw [← hE] at hd1
  have hkk : k = z1z.getD i 0 := by
    have : ((z1z.map fun x => (DataW.lit (.float .f64 x) : DataW Unit))[i]?) = some (DataW.lit (.float .f64 k)) := hd1
    rw [List.getElem?_map] at this
    obtain ⟨z, hz, hz2⟩ := Option.map_eq_some_iff.1 this
    cases hz2
    simp [List.getD, hz]
  rw [← hkk]
  exact one_cell hc1
theorem met_p10 : W.var? Tryz.prog "internal/strconv.pow10Tab" = some (Pinned.pow10Rows.flatMap fun x => [Value.int .u64 x.1, Value.int .u64 x.2]).toArray := by
  obtain ⟨cs, fuel, p, hv, hd⟩ := z4q h (n := "internal/strconv.pow10Tab") (d := Rows.laid_internal_strconv_pow10Tab) (by simp [z5g, Rows.textIntsRow]) gP10 tP10
  have e : (Rows.laid_internal_strconv_pow10Tab : DataW Unit) = .agg (Pinned.pow10Rows.map fun x => .agg [.lit (.int .u64 x.1), .lit (.int .u64 x.2)]) := rfl
  rw [e] at hd
  have hp : ∀ i, i < 696 → ∀ (m : Nat) (c : List Value) (d : DataW Unit) (q : List MemPlace), (Pinned.pow10Rows.map fun x : Nat × Nat => (.agg [.lit (.int .u64 x.1), .lit (.int .u64 x.2)] : DataW Unit))[i]? = some d →
      DataW.trod (fun _ => ()) Tryz.prog W 0 (fun _ => true) false m 226 c = some (d, q) → c = (Pinned.pow10Rows.map fun x : Nat × Nat => [Value.int .u64 x.1, Value.int .u64 x.2]).getD i [] := by
    intro i hi m c d q hdi ht
    rw [List.getElem?_map] at hdi
    obtain ⟨z, hz, rfl⟩ := Option.map_eq_some_iff.1 hdi
    have hg : (Pinned.pow10Rows.map fun x : Nat × Nat => [Value.int .u64 x.1, Value.int .u64 x.2]).getD i [] = [Value.int .u64 z.1, Value.int .u64 z.2] := by simp [List.getD, hz]
    rw [hg]
    exact pair_cells ht
  have := p10_cells p10_length hp hd
  rw [hv]
  refine congrArg some (Array.toList_inj.1 ?_)
  rw [this, List.flatMap_def]
theorem met_syn : ∃ te pe, W.var? Tryz.prog "strconv.ErrSyntax" = some #[.iface te pe] := by
  have h' := h.tail.tail.tail.tail.tail.tail.tail.tail.tail.tail.tail
  obtain ⟨a0, s0, hv0, -, -, -⟩ := laid_sentinel h' gSyn tSyn Tryz.underlying47 row196 Tryz.underlying196 Tryz.underlying198 rfl rfl Tryz.underlying9 cells198 cells9
  exact ⟨_, _, hv0⟩
theorem met_rng : ∃ te pe, W.var? Tryz.prog "strconv.ErrRange" = some #[.iface te pe] := by
  have h' := h.tail.tail.tail.tail.tail.tail.tail.tail.tail.tail
  obtain ⟨a0, s0, hv0, -, -, -⟩ := laid_sentinel h' gRng tRng Tryz.underlying47 row196 Tryz.underlying196 Tryz.underlying198 rfl rfl Tryz.underlying9 cells198 cells9
  exact ⟨_, _, hv0⟩
theorem laid_of_met : Laid W :=
  ⟨met_size h, met_syn h, met_rng h, met_opt h, met_inf h, met_u10 h, met_f10 h, met_p10 h, met_db h⟩
end
end Go.Proofs.YtjpiplplohapnaaGreatDoor
namespace Go.Proofs.YtjpiplplohapnaaGreatDoor
open Go.RowKit
theorem gLc : Tryz.prog.globalNamed "internal/strconv.leftcheats" = some 12 := by kernel_rfl
theorem tLc : (Tryz.prog.globals[12]?).map (·.type) = some 231 := by kernel_rfl
theorem cells230 : Tryz.prog.cellsOf 230 = 2 := by kernel_rfl
theorem cells9c : Tryz.prog.cellsOf 9 = 1 := by kernel_rfl
theorem cells3c : Tryz.prog.cellsOf 3 = 1 := by kernel_rfl
theorem pair_cell {w : World} {base : Nat} {a : Addr} {c0 c1 : Value} (h : w.cells? base a 2 = some [c0, c1]) : w.cell? a = some c0 ∧ w.cell? ⟨a.block, a.off + 1, none⟩ = some c1 := by
  have e0 : a.add 0 = a := by simp [Addr.add]
  have e1 : a.add 1 = ⟨a.block, a.off + 1, none⟩ := by simp [Addr.add]
  unfold World.cells? at h
  split at h
  · simp only [List.range_succ, List.range_zero, List.nil_append, List.cons_append, List.mapM_cons, List.mapM_nil, e0, e1] at h
    cases hcc : w.cell? a with
    | none => simp [hcc] at h
    | some c =>
      cases hcd : w.cell? ⟨a.block, a.off + 1, none⟩ with
      | none => simp [hcc, hcd] at h
      | some c' => simp [hcc, hcd] at h; rw [h.1, h.2]; exact ⟨rfl, rfl⟩
  cases h
theorem two_of {α : Type} : ∀ {l : List α}, l.length = 2 → ∃ a b, l = [a, b]
  | [a, b], _ => ⟨a, b, rfl⟩
theorem int_str_cells {w : World} {base : Nat} {sp : Nat → Bool} {fuel : Nat} {cs : List Value} {x : Int} {l : List UInt8} {p : List MemPlace}
    (h : DataW.trod (fun _ => ()) Tryz.prog w base sp false fuel 230 cs = some (.agg [.lit (.int .i64 x), .lit (.string l)], p)) : cs = [.int .i64 x, .string ⟨l.toArray⟩] := by
  obtain ⟨xs, m, -, hx, hlen, hxl, hel⟩ := DataW.trod_struct Tryz.underlying230 h
  rw [cells230] at hlen
  have h0 := hel 0 _ rfl
  have h1 := hel 1 _ rfl
  match xs, hxl, hx, h0, h1 with
  | [x0, x1], _, hx, h0, h1 =>
    simp only [List.map_cons, List.map_nil, Prod.mk.injEq, DataW.agg.injEq, List.cons.injEq, and_true] at hx
    obtain ⟨⟨e0, e1⟩, -⟩ := hx
    simp only [List.getElem?_cons_zero, List.getElem?_cons_succ] at h0 h1
    obtain ⟨k0, c0, d0, -⟩ := DataW.trod_int Tryz.underlying3 h0
    obtain ⟨k1, c1, d1, -⟩ := DataW.trod_string Tryz.underlying9 h1
    subst d0; subst d1
    cases e0
    have e1' : l = k1.data.toList := Lit.string.inj (DataW.lit.inj e1)
    change (cs.drop 0).take (Tryz.prog.cellsOf 3) = _ at c0
    change (cs.drop 1).take (Tryz.prog.cellsOf 9) = _ at c1
    rw [cells3c] at c0
    rw [cells9c] at c1
    obtain ⟨a, b, hab⟩ := two_of hlen
    rw [hab] at c0 c1 ⊢
    have c0' : a = Value.int .i64 x := (List.cons.inj c0).1
    have c1' : b = Value.string k1 := (List.cons.inj c1).1
    rw [c0', c1', e1']
theorem z8g : Pinned.cheatRows.length = 61 := by decide +kernel
theorem met_cheats {W : World} (h : laidMet Tryz.prog z5g W) : z7k W := by
  obtain ⟨cs, fuel, p, hv, hd⟩ := z4q h (n := "internal/strconv.leftcheats") (d := Rows.laid_internal_strconv_leftcheats) (by simp [z5g, Rows.textIntsRow]) gLc tLc
  have e : (Rows.laid_internal_strconv_leftcheats : DataW Unit) = .slice (Pinned.cheatRows.map fun x => .agg [.lit (.int .i64 x.1), .lit (.string x.2)]) [] := rfl
  rw [e] at hd
  rcases DataW.trod_slice Tryz.underlying231 hd with ⟨_, hx⟩ | ⟨a, len, cap, elems, rest, n, _, hcs, hx, _, hl, _, hlen, hel, hsp, _⟩
  · simp at hx
  simp only [Prod.mk.injEq, DataW.slice.injEq] at hx
  obtain ⟨⟨hE, hR⟩, -⟩ := hx
  have hr : rest = [] := List.map_eq_nil_iff.1 hR.symm
  subst hr
  have hc := (hsp rfl).1
  have hlen61 : len = 61 := by
    have h1 := congrArg List.length hE
    rw [List.length_map, List.length_map, z8g] at h1
    omega
  subst hlen61
  have hcap : cap = 61 := by simp at hc; omega
  subst hcap
  have hcell : W.cell? ⟨12, 0, none⟩ = some (.slice (some a) 61 61) := by
    have h2 : W.var? Tryz.prog "internal/strconv.leftcheats" = some #[.slice (some a) 61 61] := by rw [hv, Array.eq_one_of_toList hcs]
    have := World.var?_cell gLc h2 0
    simpa using this
  refine ⟨a, hcell, fun k x hx => ?_⟩
  have hk : k < 61 := by
    have := (List.getElem?_eq_some_iff.1 hx).1
    rw [z8g] at this
    exact this
  have h1 := hel k hk
  rw [cells230] at h1
  obtain ⟨y, hy⟩ : ∃ y, elems[k]? = some y := ⟨_, List.getElem?_eq_getElem (by omega)⟩
  rw [hy] at h1
  obtain ⟨c1, hc1, hy1⟩ := Option.bind_eq_some_iff.1 h1
  have hd1 : (elems.map (·.1))[k]? = some (DataW.agg [.lit (.int .i64 x.1), .lit (.string x.2)]) := by
    rw [← hE, List.getElem?_map, hx]; rfl
  rw [List.getElem?_map, hy] at hd1
  have hy2 : y.1 = DataW.agg [.lit (.int .i64 x.1), .lit (.string x.2)] := by simpa using hd1
  have hy3 : y = (DataW.agg [.lit (.int .i64 x.1), .lit (.string x.2)], y.2) := by rw [← hy2]
  rw [hy3] at hy1
  have hcc := int_str_cells hy1
  rw [hcc] at hc1
  exact pair_cell hc1
theorem gPt : Tryz.prog.globalNamed "internal/strconv.powtab" = some 9 := by kernel_rfl
theorem tPt : (Tryz.prog.globals[9]?).map (·.type) = some 222 := by kernel_rfl
def powTab : List Nat := [1, 3, 6, 9, 13, 16, 19, 23, 26]
def PowT (w : World) : Prop := ∃ a : Addr, w.cell? ⟨9, 0, none⟩ = some (.slice (some a) 9 9) ∧ ∀ i, i < 9 → w.cell? (a.add i) = some (.int .i64 (powTab.getD i 0 : Nat))
theorem PowT.below {w w' : World} (h : PowT w) (hb : Below w.heap.size w w') : PowT w' := by
  obtain ⟨a, h1, h2⟩ := h
  exact ⟨a, (hb.cell (World.block_lt_of_cell? w _ h1)).trans h1, fun i hi => (hb.cell (World.block_lt_of_cell? w _ (h2 i hi))).trans (h2 i hi)⟩
theorem met_powt {W : World} (h : laidMet Tryz.prog z5g W) : PowT W := by
  obtain ⟨cs, fuel, p, hv, hd⟩ := z4q h (n := "internal/strconv.powtab") (d := Rows.laid_internal_strconv_powtab) (by simp [z5g, Rows.textIntsRow]) gPt tPt
  have e : (Rows.laid_internal_strconv_powtab : DataW Unit) = .slice (powTab.map fun x => .lit (.int .i64 (x : Nat))) [] := rfl
  rw [e] at hd
  rcases DataW.trod_slice Tryz.underlying222 hd with ⟨_, hx⟩ | ⟨a, len, cap, elems, rest, n, _, hcs, hx, _, hl, _, hlen, hel, hsp, _⟩
  · simp at hx
  simp only [Prod.mk.injEq, DataW.slice.injEq] at hx
  obtain ⟨⟨hE, hR⟩, -⟩ := hx
  have hr : rest = [] := List.map_eq_nil_iff.1 hR.symm
  subst hr
  have hc := (hsp rfl).1
  have hlen9 : len = 9 := by
    have h1 := congrArg List.length hE
    rw [List.length_map, List.length_map] at h1
    have h2 : powTab.length = 9 := rfl
    omega
  subst hlen9
  have hcap : cap = 9 := by simp at hc; omega
  subst hcap
  have hcell : W.cell? ⟨9, 0, none⟩ = some (.slice (some a) 9 9) := by
    have h2 : W.var? Tryz.prog "internal/strconv.powtab" = some #[.slice (some a) 9 9] := by rw [hv, Array.eq_one_of_toList hcs]
    have := World.var?_cell gPt h2 0
    simpa using this
  refine ⟨a, hcell, fun i hi => ?_⟩
  have h1 := hel i hi
  rw [cells3c, Nat.mul_one] at h1
  obtain ⟨y, hy⟩ : ∃ y, elems[i]? = some y := ⟨_, List.getElem?_eq_getElem (by omega)⟩
  rw [hy] at h1
  obtain ⟨c1, hc1, hy1⟩ := Option.bind_eq_some_iff.1 h1
  obtain ⟨k, rfl, hk, -⟩ := DataW.trod_int Tryz.underlying3 hy1
  have hd1 : (elems.map (·.1))[i]? = some (DataW.lit (.int .i64 k)) := by rw [List.getElem?_map, hy]; simp [hk]
  rw [← hE, List.getElem?_map] at hd1
  obtain ⟨z, hz, hz2⟩ := Option.map_eq_some_iff.1 hd1
  cases hz2
  rw [show powTab.getD i 0 = z by rw [List.getD_eq_getElem?_getD, hz]; rfl]
  exact one_cell hc1
end Go.Proofs.YtjpiplplohapnaaGreatDoor
namespace Go.Proofs.YtjpiplplohapnaaGreatDoor
open Go.RowKit Go.Proofs.YtjpiplplohapnaaGreatDoorW.PrintWords Dc Nr Us
structure z5y (w : World) : Prop where
  laid : Laid w
  cheats : z7k w
  powt : PowT w
theorem z5y.below {w w' : World} (h : z5y w) (hb : Below w.heap.size w w') : z5y w' := ⟨h.laid.below hb, h.cheats.below hb, h.powt.below hb⟩
def FbAns (s : St) (ng : Bool) (u : Nat) (ovf : Bool) : Prop := ∀ r, z5b s r → (r < 9218868437227405312 ∧ u = Ieee.double.word ng r ∧ ovf = false) ∨ (9218868437227405312 ≤ r ∧ u = Ieee.double.word ng 9218868437227405312 ∧ ovf = true)
def FbPost (g B : Nat) (s : St) (ng : Bool) (w : World) (e : Ending) (w' : World) : Prop := ∃ (u : Nat) (ovf : Bool), e = .returned (.tuple #[.int .u64 u, .bool ovf]) ∧ FbAns s ng u ovf ∧ Below B w w'
theorem tab_cell {w : World} (h : PowT w) : ∃ a : Addr, w.cell? ⟨9, 0, none⟩ = some (.slice (some a) 9 9) ∧ ∀ i, i < 9 → w.cell? (a.add i) = some (.int .i64 (tabN i : Nat)) := by
  obtain ⟨a, h1, h2⟩ := h
  refine ⟨a, h1, fun i hi => ?_⟩
  rw [h2 i hi]
  unfold tabN
  rw [if_neg (by omega)]
  rfl
def FinE (s : St) (y : Int) (s3 : St) : Prop := Weak s3 ∧ -100 ≤ s3.dp ∧ s3.dp ≤ 10 ∧ ((1024 ≤ y ∧ y ≤ 200000 ∧ ∀ R, z5b s R → 9218868437227405312 ≤ R) ∨
  (-1022 ≤ y ∧ y ≤ 1023 ∧ ∀ s4, LStep 53 s3 s4 → Norm s4 → -100 ≤ s4.dp ∧ s4.dp ≤ 16 ∧ z4e s4 ≤ 9007199254740992 ∧ (y ≠ -1022 → 4503599627370496 ≤ z4e s4) ∧ ∃ l : Nat, (l : Int) = y + 1022 ∧ z5b s (l * 4503599627370496 + z4e s4)))
theorem fin_mid {s s2 : St} {r l : Nat} (hT : Dc.Told s s2 r l) (hw : Weak s2) (h : l ≤ r + 1021) (y : Int) (hy : y = (r : Int) - l - 1) : FinE s y s2 := by
  have hd := hT.dp
  have hr := hT.rr
  refine ⟨hw, by omega, by omega, ?_⟩
  by_cases hi : l + 1025 ≤ r
  · exact Or.inl ⟨by omega, by omega, hT.inf hi⟩
  refine Or.inr ⟨by omega, by omega, fun s4 h4 _ => ?_⟩
  obtain ⟨a1, a2, a3, a4, a5⟩ := hT.mid h s4 h4
  refine ⟨by omega, a2, a4, fun _ => a3, (y + 1022).toNat, by omega, a5 _ ?_⟩
  rw [z5h]; omega
theorem fin_den {s s2 s3 : St} {r l : Nat} (hT : Dc.Told s s2 r l) (h : r + 1021 < l) (hR : Rights (l - 1021) s2 s3) (hn : Norm s3) : FinE s (-1022) s3 := by
  obtain ⟨rfl, -, -, hd⟩ := hT.den h
  obtain ⟨a1, a2, a3⟩ := hd s3 hR hn
  refine ⟨hn.weak, a1, by omega, Or.inr ⟨by omega, by omega, fun s4 h4 _ => ?_⟩⟩
  obtain ⟨b1, b2, b3, b4⟩ := a3 s4 h4
  exact ⟨b1, b2, by omega, fun h => absurd rfl h, 0, rfl, by rw [Nat.zero_mul, Nat.zero_add]; exact b4⟩
theorem out_facts2 (x0 E : Nat) (hx : x0 < 4503599627370496) (hE : E < 2048) : ∃ zz yy y63 : Nat, Go.bits .and .i64 (E : Int) 2047 = (E : Int) ∧ IntKind.u64.wrap (E : Int) = (E : Int) ∧ IntKind.u64.wrap ((E : Int) * 4503599627370496) = (zz : Int) ∧
    Go.bits .or .u64 (x0 : Int) (zz : Int) = (yy : Int) ∧ Go.bits .or .u64 (yy : Int) 9223372036854775808 = (y63 : Int) ∧ Hid (yy = E * 4503599627370496 + x0 ∧ y63 = 9223372036854775808 + yy) := by
  obtain ⟨a1, a2, a3, a4, a5⟩ := out_facts x0 E hx hE
  exact ⟨_, _, _, a1, a2, a3, a4, a5, Lib.hid ⟨rfl, rfl⟩⟩
theorem near_one {s : St} {r R : Nat} (h1 : z5b s r) (h2 : z5b s R) : R = r := z5a (z3l _) (z3l _) rfl h2 h1
theorem z4k {s : St} {ng : Bool} {r u : Nat} (h : z5b s r) (hr : r < 9218868437227405312) (hu : u = Ieee.double.word ng r) : FbAns s ng u false := fun R hR => by
  rw [near_one h hR]; exact Or.inl ⟨hr, hu, rfl⟩
theorem z4u {s : St} {ng : Bool} {u : Nat} (h : ∀ R, z5b s R → 9218868437227405312 ≤ R) (hu : u = Ieee.double.word ng 9218868437227405312) : FbAns s ng u true := fun R hR => Or.inr ⟨h R hR, hu, rfl⟩
set_option maxRecDepth 100000 in
set_option maxHeartbeats 8000000 in
theorem fb_walk (w : World) (g B : Nat) (hB : B ≤ g) (hLB : ∀ w', Below B w w' → z5y w') (s : St) (hs : Weak s) (htr : s.tr = false) (hnd : s.nd ≤ 400) (ng : Bool) (hdp1 : -326 ≤ s.dp) (hdp2 : s.dp ≤ 310) (h : s.is w g ng) :
    Calls Tryz.prog 149 #[.pointer (some ⟨g, 0, none⟩), .pointer (some ⟨6, 0, none⟩)] w (FbPost g B s ng w) := by
  have cnd : w.cell? ⟨g, 800, none⟩ = some (.int .i64 (s.nd : Nat)) := z1d.cnd h
  have cdp : w.cell? ⟨g, 801, none⟩ = some (.int .i64 s.dp) := z1d.cdp h
  have f0 : (((s.nd : Nat) : Int) == 0) = false := by have := hs.pos; simp; omega
  have f1 : ¬ 310 < s.dp := by omega
  have f2 : decide (310 < s.dp) = false := decide_eq_false f1
  have f3 : ¬ s.dp < -330 := by omega
  have f4 : decide (s.dp < -330) = false := decide_eq_false f3
  have HS := Lib.hid h
  have HLB := Lib.hid hLB
  have HW := Lib.hid hs
  have HD : Hid (-326 ≤ s.dp ∧ s.dp ≤ 310 ∧ s.nd ≤ 400 ∧ s.tr = false) := Lib.hid ⟨hdp1, hdp2, hnd, htr⟩
  clear hLB hs h hnd htr
  go_enter Tryz.func149, Tryz.ntmps149
  go_wp2_with fail
  refine z3w 3 ?_
  go_upto_block 0 with (fail)
  clear cnd cdp f0 f1 f2 f3 f4 hdp1 hdp2
  go_cut [6] (fun v6 w' => ∃ (r : Nat) (t : St), v6 = .int .i64 r ∧ Hid (Down r s t ∧ t.dp ≤ 0 ∧ -400 ≤ t.dp ∧ Weak t ∧ r ≤ 27 * 4000) ∧ t.is w' g ng ∧ Hid (Below B w w'))
  case first =>
    go_wp2_with fail
    go_loopg [6] (10 * s.dp + s.hd).toNat (fun gn v6 w' => ∃ (r : Nat) (t : St), v6 = .int .i64 r ∧ Hid (Down r s t ∧ -326 ≤ t.dp ∧ t.dp ≤ 310 ∧ Weak t ∧ (10 * t.dp + t.hd).toNat ≤ gn ∧ r + 27 * (10 * t.dp + t.hd).toNat ≤ 27 * 3109) ∧ t.is w' g ng ∧ Hid (Below B w w'))
    case atStart =>
      have h9 := HW.out.hd9
      have hd := HD.out
      exact ⟨0, s, rfl, Lib.hid ⟨Down.nil s, by omega, by omega, HW.out, Nat.le_refl _, by omega⟩, HS.out, Lib.hid (Below.refl _ _)⟩
    case round =>
      obtain ⟨r, t, rfl, hH, ht, hb⟩ := hrel
      obtain ⟨h1, h2, h3, h4, h5, h6⟩ := hH.out
      have cdp : wr.cell? ⟨g, 801, none⟩ = some (.int .i64 t.dp) := z1d.cdp ht
      by_cases hd : 0 < t.dp
      · obtain ⟨a, p1, p2⟩ := tab_cell (HLB.out _ hb.out).powt
        obtain ⟨n, hn⟩ : ∃ n : Nat, t.dp = n := ⟨t.dp.toNat, by omega⟩
        have hn0 : t.dp.toNat = n := by omega
        rw [hn] at cdp
        have h9 := h4.hd9
        have hk := z6n n
        have HRel : Hid (∀ u, RStep (tabN n) t u → Norm u → Down (r + tabN n) s u ∧ -326 ≤ u.dp ∧ u.dp ≤ 310 ∧ Weak u ∧ (10 * u.dp + u.hd).toNat < gk ∧ (10 * u.dp + u.hd).toNat ≤ gk - 1 ∧ r + tabN n + 27 * (10 * u.dp + u.hd).toNat ≤ 27 * 3109) := Lib.hid fun u hu1 hu2 => by
          have hst := hu1
          rw [← hn0] at hst
          obtain ⟨⟨r0, hq⟩, -⟩ := z8a h4 (by rw [hn0]; omega) hst
          obtain ⟨q1, q2, q3⟩ := right_tab h4 hd hq
          have hD := Down.snoc h1 hd hst hu2
          rw [hn0] at hD
          have hu9 := hu2.weak.hd9
          have hm : (10 * u.dp + u.hd).toNat + 1 ≤ (10 * t.dp + t.hd).toNat := by
            by_cases he : u.dp = t.dp
            · have := q3 he; omega
            omega
          exact ⟨hD, by omega, by omega, hu2.weak, by omega, by omega, by omega⟩
        have g1 : (0 : Int) < n := by omega
        have g1b : decide ((0 : Int) < (n : Int)) = true := decide_eq_true g1
        have hr : r ≤ 100000 := by omega
        by_cases h9n : 9 ≤ n
        · have g2 : (9 : Int) ≤ n := by omega
          have g2b : decide ((9 : Int) ≤ (n : Int)) = true := decide_eq_true g2
          have hk27 : tabN n = 27 := by unfold tabN; rw [if_pos h9n]
          rw [hk27] at HRel
          have HC : Hid (∀ m, Calls Tryz.prog 129 #[.pointer (some ⟨g, 0, none⟩), .int .i64 (-27)] (wr.drewN m) (Sh1 g B ng t (RStep 27 t) (wr.drewN m))) := Lib.hid fun m => z8x (wr.drewN m) g B hB t h4 ng 27 (by decide) (by decide) (by omega) (by omega) (ht.drewN m)
          have x1 : IntKind.i64.wrap ((r : Int) + 27) = ((r + 27 : Nat) : Int) := by rw [Go.IntKind.wrap_i64]; omega
          obtain ⟨r2, hr2⟩ : ∃ r2, r2 = r + 27 := ⟨_, rfl⟩
          rw [← hr2] at x1 HRel
          clear hH h1 h2 h3 h4 h5 h6 ht hn hn0 h9 hk h9n hk27 hd p2 hr2
          go_wp2_with fail
          go_quiet (fail)
          go_wp2_with fail
          try go_quiet (fail)
          try go_wp2_with fail
          refine (HC.out _).mono ?_
          rintro e w2 ⟨rfl, hb2, u, hu1, hu2, hu3, hu4⟩
          have HU := Lib.hid (HRel.out u hu1 hu2)
          have HB2 := Lib.hid ((below_drewN hb.out _).trans hb2)
          clear hu1 hu2 hu4 HRel HC hb2
          have HU3 := Lib.hid hu3
          go_wp2_with fail
          go_roundg (gk - 1)
          case measure => have := HU.out; omega
          case rel => exact ⟨r2, u, by first | rfl | go_num, Lib.hid ⟨HU.out.1, HU.out.2.1, HU.out.2.2.1, HU.out.2.2.2.1, HU.out.2.2.2.2.2.1, HU.out.2.2.2.2.2.2⟩, HU3.out, HB2⟩
        have g2 : ¬ (9 : Int) ≤ n := by omega
        have g2b : decide ((9 : Int) ≤ (n : Int)) = false := decide_eq_false g2
        have g3 : (n : Int) < 9 := by omega
        have hc := p2 n (by omega)
        have HC := Lib.hid fun m => z8x (wr.drewN m) g B hB t h4 ng (tabN n) (by omega) (by omega) (by omega) (by omega) (ht.drewN m)
        generalize tabN n = k at *
        have x1 : IntKind.i64.wrap ((r : Int) + (k : Int)) = ((r + k : Nat) : Int) := by rw [Go.IntKind.wrap_i64]; omega
        obtain ⟨r2, hr2⟩ : ∃ r2, r2 = r + k := ⟨_, rfl⟩
        rw [← hr2] at x1 HRel
        obtain ⟨m, hm⟩ : ∃ m : Int, m = -(k : Int) := ⟨_, rfl⟩
        rw [← hm] at HC
        have x2 : IntKind.i64.wrap (0 - (k : Int)) = m := by rw [hm, Go.IntKind.wrap_i64]; omega
        have x3 : wrap64 (0 - (k : Int)) = m := by rw [hm]; unfold wrap64; omega
        have x4 : wrap64 (-(k : Int)) = m := by rw [hm]; unfold wrap64; omega
        have x5 : IntKind.i64.wrap (-(k : Int)) = m := by rw [hm, Go.IntKind.wrap_i64]; omega
        clear hH h1 h2 h3 h4 h5 h6 ht hn hn0 h9 hk h9n hd p2 hr2 hm
        go_wp2_with fail
        go_quiet (fail)
        go_wp2_with fail
        try go_quiet (fail)
        try go_wp2_with fail
        refine (HC.out _).mono ?_
        rintro e w2 ⟨rfl, hb2, u, hu1, hu2, hu3, hu4⟩
        have HU := Lib.hid (HRel.out u hu1 hu2)
        have HB2 := Lib.hid ((below_drewN hb.out _).trans hb2)
        clear hu1 hu2 hu4 HRel HC hb2
        have HU3 := Lib.hid hu3
        go_wp2_with fail
        go_roundg (gk - 1)
        case measure => have := HU.out; omega
        case rel => exact ⟨r2, u, by first | rfl | go_num, Lib.hid ⟨HU.out.1, HU.out.2.1, HU.out.2.2.1, HU.out.2.2.2.1, HU.out.2.2.2.2.2.1, HU.out.2.2.2.2.2.2⟩, HU3.out, HB2⟩
      have g1 : ¬ (0 : Int) < t.dp := hd
      have g1b : decide (0 < t.dp) = false := decide_eq_false g1
      have HR : Hid (Down r s t ∧ t.dp ≤ 0 ∧ -400 ≤ t.dp ∧ Weak t ∧ r ≤ 27 * 4000) := Lib.hid ⟨h1, by omega, by omega, h4, by omega⟩
      have HT := Lib.hid ht
      clear hH h1 h2 h3 h4 h5 h6 ht hd
      go_wp2_with fail
      go_meet
      case rel => exact ⟨r, t, rfl, HR, HT.out, hb⟩
  obtain ⟨r, s1, rfl, hH1, hs1, hb1⟩ := hcut
  have HS1 := Lib.hid hs1
  clear hs1 HS
  go_step
  go_upto_block 2 with (fail)
  go_cut [6] (fun v6 w' => ∃ (x : Int) (t : St), v6 = .int .i64 x ∧ Hid (∃ l : Nat, x = (r : Int) - l ∧ Upw l s1 t ∧ 0 ≤ t.dp ∧ (t.dp = 0 → 53 ≤ t.d 0) ∧ l ≤ 27 * 5000) ∧ t.is w' g ng ∧ Hid (Below B w w'))
  case first =>
    go_wp2_with fail
    go_loopg [6] (10 * (-s1.dp) + (9 - s1.hd)).toNat (fun gn v6 w' => ∃ (x : Int) (l : Nat) (t : St), v6 = .int .i64 x ∧ Hid (x = (r : Int) - l ∧ Upw l s1 t ∧ t.dp ≤ 0 ∧ -400 ≤ t.dp ∧ Weak t ∧ (10 * (-t.dp) + (9 - t.hd)).toNat ≤ gn ∧ l + 27 * (10 * (-t.dp) + (9 - t.hd)).toNat ≤ 27 * 4010 ∧ r ≤ 27 * 4000) ∧ t.is w' g ng ∧ Hid (Below B w w'))
    case atStart =>
      obtain ⟨a1, a2, a3, a4, a5⟩ := hH1.out
      have h9 := a4.hd9
      exact ⟨r, 0, s1, rfl, Lib.hid ⟨by omega, Upw.nil s1, a2, a3, a4, Nat.le_refl _, by omega, a5⟩, HS1.out, hb1⟩
    case round =>
      obtain ⟨x, l, t, rfl, hH, ht, hb⟩ := hrel
      obtain ⟨h1, h2, h3, h4, h5, h6, h7, h8⟩ := hH.out
      have h9 := h5.hd9
      have cdp : wr.cell? ⟨g, 801, none⟩ = some (.int .i64 t.dp) := z1d.cdp ht
      have cb : wr.cell? ⟨g, 0, none⟩ = some (.int .u8 (t.d 0 : Nat)) := z1d.byte ht 0 (by decide)
      obtain ⟨m, hm⟩ : ∃ m, m = t.dp := ⟨_, rfl⟩
      obtain ⟨c, hc⟩ : ∃ c, c = t.d 0 := ⟨_, rfl⟩
      rw [← hm] at cdp
      rw [← hc] at cb
      by_cases hgo : m < 0 ∨ (m = 0 ∧ c < 53)
      · obtain ⟨a, p1, p2⟩ := tab_cell (HLB.out _ hb.out).powt
        obtain ⟨n, hn⟩ : ∃ n : Nat, t.dp = -(n : Int) := ⟨(-t.dp).toNat, by omega⟩
        have hn0 : (-t.dp).toNat = n := by omega
        have hk := z6n n
        have HRel : Hid (∀ u, LStep (tabN n) t u → Norm u → x - (tabN n : Nat) = (r : Int) - ((l + tabN n : Nat) : Int) ∧ Upw (l + tabN n) s1 u ∧ u.dp ≤ 0 ∧ -400 ≤ u.dp ∧ Weak u ∧ (10 * (-u.dp) + (9 - u.hd)).toNat < gk ∧ (10 * (-u.dp) + (9 - u.hd)).toNat ≤ gk - 1 ∧ l + tabN n + 27 * (10 * (-u.dp) + (9 - u.hd)).toNat ≤ 27 * 4010) := Lib.hid fun u hu1 hu2 => by
          have hst := hu1
          rw [← hn0] at hst
          have h53 : t.dp = 0 → t.d 0 < 53 := fun h => by omega
          obtain ⟨⟨L, hq⟩, -⟩ := left_q h5 hst
          obtain ⟨q0, q1, q2, q3⟩ := left_tab h5 h3 h53 hq
          have hU := Upw.snoc h2 h3 h53 hst hu2
          rw [hn0] at hU
          have hu9 := hu2.weak.hd9
          have hmm : (10 * (-u.dp) + (9 - u.hd)).toNat + 1 ≤ (10 * (-t.dp) + (9 - t.hd)).toNat := by
            by_cases he : u.dp = t.dp
            · have := q3 he; omega
            omega
          exact ⟨by omega, hU, q1, by omega, hu2.weak, by omega, by omega, by omega⟩
        have hx : -200000 ≤ x ∧ x ≤ 200000 := by omega
        have y1 : IntKind.i64.wrap (0 - m) = (n : Int) := by rw [Go.IntKind.wrap_i64]; omega
        have y2 : wrap64 (0 - m) = (n : Int) := by unfold wrap64; omega
        have y3 : wrap64 (-m) = (n : Int) := by unfold wrap64; omega
        have y4 : IntKind.i64.wrap (-m) = (n : Int) := by rw [Go.IntKind.wrap_i64]; omega
        have hcond : (m < 0 ∧ decide (m < 0) = true) ∨ (m = 0 ∧ (c : Int) < 53 ∧ decide ((c : Int) < 53) = true) := by
          rcases hgo with h | h
          · exact Or.inl ⟨h, decide_eq_true h⟩
          exact Or.inr ⟨h.1, by omega, decide_eq_true (by omega)⟩
        by_cases h9n : 9 ≤ n
        · have g2 : (9 : Int) ≤ n := by omega
          have g2b : decide ((9 : Int) ≤ (n : Int)) = true := decide_eq_true g2
          have hk27 : tabN n = 27 := by unfold tabN; rw [if_pos h9n]
          rw [hk27] at HRel
          have HC : Hid (∀ m, Calls Tryz.prog 129 #[.pointer (some ⟨g, 0, none⟩), .int .i64 27] (wr.drewN m) (Sh1 g B ng t (LStep 27 t) (wr.drewN m))) := Lib.hid fun m => z7o (wr.drewN m) g B hB (HLB.out _ (below_drewN hb.out m)).cheats t h5 ng 27 (by decide) (by decide) (by omega) (by omega) (ht.drewN m)
          obtain ⟨x2, hx2⟩ : ∃ x2, x2 = x - 27 := ⟨_, rfl⟩
          have x1 : IntKind.i64.wrap (x - 27) = x2 := by rw [Go.IntKind.wrap_i64]; omega
          have x1w : wrap64 (x - 27) = x2 := by unfold wrap64; omega
          have HR8 := Lib.hid h8
          have HX2 := Lib.hid hx2
          have z1 : m < 0 := by omega
          have z2 : decide (m < 0) = true := decide_eq_true z1
          clear hH h1 h2 h3 h4 h5 h6 h7 h8 ht hn hn0 h9 hk h9n hk27 p2 hx2 hcond hgo hm hc hx
          go_wp2_with fail
          go_quiet (fail)
          go_wp2_with fail
          try go_quiet (fail)
          try go_wp2_with fail
          refine (HC.out _).mono ?_
          rintro e w2 ⟨rfl, hb2, u, hu1, hu2, hu3, hu4⟩
          have HU := Lib.hid (HRel.out u hu1 hu2)
          have HB2 := Lib.hid ((below_drewN hb.out _).trans hb2)
          clear hu1 hu2 hu4 HRel HC hb2
          have HU3 := Lib.hid hu3
          go_wp2_with fail
          go_roundg (gk - 1)
          case measure => have := HU.out; omega
          case rel => exact ⟨x2, l + 27, u, by first | rfl | go_num, Lib.hid ⟨HX2.out.trans HU.out.1, HU.out.2.1, HU.out.2.2.1, HU.out.2.2.2.1, HU.out.2.2.2.2.1, HU.out.2.2.2.2.2.2.1, HU.out.2.2.2.2.2.2.2, HR8.out⟩, HU3.out, HB2⟩
        have g2 : ¬ (9 : Int) ≤ n := by omega
        have g2b : decide ((9 : Int) ≤ (n : Int)) = false := decide_eq_false g2
        have g3 : (n : Int) < 9 := by omega
        have hcl := p2 n (by omega)
        have HC : Hid (∀ m, Calls Tryz.prog 129 #[.pointer (some ⟨g, 0, none⟩), .int .i64 (tabN n : Nat)] (wr.drewN m) (Sh1 g B ng t (LStep (tabN n) t) (wr.drewN m))) := Lib.hid fun m => z7o (wr.drewN m) g B hB (HLB.out _ (below_drewN hb.out m)).cheats t h5 ng (tabN n) (by omega) (by omega) (by omega) (by omega) (ht.drewN m)
        generalize tabN n = k at *
        obtain ⟨x2, hx2⟩ : ∃ x2, x2 = x - (k : Int) := ⟨_, rfl⟩
        have x1 : IntKind.i64.wrap (x - (k : Int)) = x2 := by rw [Go.IntKind.wrap_i64]; omega
        have x1w : wrap64 (x - (k : Int)) = x2 := by unfold wrap64; omega
        have HR8 := Lib.hid h8
        have HX2 := Lib.hid hx2
        rcases hcond with ⟨z1, z2⟩ | ⟨z0, z1, z2⟩
        · clear hH h1 h2 h3 h4 h5 h6 h7 h8 ht hn hn0 h9 hk h9n p2 hx2 hgo hm hc hx
          go_wp2_with fail
          go_quiet (fail)
          go_wp2_with fail
          try go_quiet (fail)
          try go_wp2_with fail
          refine (HC.out _).mono ?_
          rintro e w2 ⟨rfl, hb2, u, hu1, hu2, hu3, hu4⟩
          have HU := Lib.hid (HRel.out u hu1 hu2)
          have HB2 := Lib.hid ((below_drewN hb.out _).trans hb2)
          clear hu1 hu2 hu4 HRel HC hb2
          have HU3 := Lib.hid hu3
          go_wp2_with fail
          go_roundg (gk - 1)
          case measure => have := HU.out; omega
          case rel => exact ⟨x2, l + k, u, by first | rfl | go_num, Lib.hid ⟨HX2.out.trans HU.out.1, HU.out.2.1, HU.out.2.2.1, HU.out.2.2.2.1, HU.out.2.2.2.2.1, HU.out.2.2.2.2.2.2.1, HU.out.2.2.2.2.2.2.2, HR8.out⟩, HU3.out, HB2⟩
        have hn00 : n = 0 := by omega
        clear hH h1 h2 h3 h4 h5 h6 h7 h8 ht hn hn0 h9 hk h9n p2 hx2 hgo hm hc hx
        subst z0 hn00
        have e0 : a.add 0 = a := by simp [Addr.add]
        have hcl0 : wr.cell? a = some (.int .i64 (k : Nat)) := by rw [← hcl, e0]
        clear y1 y2 y3 y4 g2 g2b g3
        go_wp2_with fail
        go_quiet (fail)
        go_wp2_with fail
        try go_quiet (fail)
        try go_wp2_with fail
        refine (HC.out _).mono ?_
        rintro e w2 ⟨rfl, hb2, u, hu1, hu2, hu3, hu4⟩
        have HU := Lib.hid (HRel.out u hu1 hu2)
        have HB2 := Lib.hid ((below_drewN hb.out _).trans hb2)
        clear hu1 hu2 hu4 HRel HC hb2
        have HU3 := Lib.hid hu3
        go_wp2_with fail
        go_roundg (gk - 1)
        case measure => have := HU.out; omega
        case rel => exact ⟨x2, l + k, u, by first | rfl | go_num, Lib.hid ⟨HX2.out.trans HU.out.1, HU.out.2.1, HU.out.2.2.1, HU.out.2.2.2.1, HU.out.2.2.2.2.1, HU.out.2.2.2.2.2.2.1, HU.out.2.2.2.2.2.2.2, HR8.out⟩, HU3.out, HB2⟩
      have HR : Hid (∃ l : Nat, x = (r : Int) - l ∧ Upw l s1 t ∧ 0 ≤ t.dp ∧ (t.dp = 0 → 53 ≤ t.d 0) ∧ l ≤ 27 * 5000) := Lib.hid ⟨l, h1, h2, by omega, fun _ => by omega, by omega⟩
      have HT := Lib.hid ht
      have hm0 : m = 0 := by omega
      have g1 : ¬ (c : Int) < 53 := by omega
      have g1b : decide ((c : Int) < 53) = false := decide_eq_false g1
      clear hH h1 h2 h3 h4 h5 h6 h7 h8 h9 ht hgo hm hc
      subst hm0
      go_wp2_with fail
      go_meet
      case rel => exact ⟨x, t, rfl, HR, HT.out, hb⟩
  obtain ⟨x, s2, rfl, hH2, hs2, hb2⟩ := hcut
  obtain ⟨l, hx, hU, he1, he2, hlb⟩ := hH2.out
  obtain ⟨d1, d2, d3, d4, d5⟩ := hH1.out
  have hD := HD.out
  have hT := fb_told HW.out hD.2.2.2 hD.1 hD.2.1 hD.2.2.1 d1 d2 hU he1 he2
  have hw2 := hU.weak d4
  have hrr := hT.rr
  have hll := hT.ll
  have hdd := hT.dp
  obtain ⟨y, hy⟩ : ∃ y, y = x - 1 := ⟨_, rfl⟩
  have x1 : IntKind.i64.wrap (x - 1) = y := by rw [Go.IntKind.wrap_i64]; omega
  have x1w : wrap64 (x - 1) = y := by unfold wrap64; omega
  have hyb : -2000 ≤ y ∧ y ≤ 2000 := by omega
  have HT := Lib.hid hT
  have HS2 := Lib.hid hs2
  have HW2 := Lib.hid hw2
  have HY : Hid (y = (r : Int) - l - 1 ∧ s2.dp = 0) := Lib.hid ⟨by omega, hdd⟩
  obtain ⟨i0, i1, i2⟩ := (HLB.out _ hb2.out).laid.z3e
  clear hH2 hx hU he1 he2 hlb d1 d2 d3 d4 d5 hD hT hw2 hrr hll hdd hs2 hy hH1 hb1 HS1 HD
  go_step
  go_upto_if 111 with (fail)
  clear x1 x1w
  go_cut [6] (fun v6 w' => ∃ (y' : Int) (s3 : St), v6 = .int .i64 y' ∧ Hid (FinE s y' s3) ∧ s3.is w' g ng ∧ Hid (Below B w w'))
  case first =>
    by_cases hden : y < -1022
    · obtain ⟨n, hn⟩ : ∃ n, n = l - 1021 := ⟨_, rfl⟩
      have hY := HY.out
      have hdn := HT.out.den (by omega)
      have HR : Hid (∀ s3, Rights n s2 s3 → Norm s3 → FinE s (-1022) s3) := Lib.hid fun s3 h1 h2 => fin_den (r := r) (l := l) HT.out (by omega) (by rw [← hn]; exact h1) h2
      obtain ⟨m, hm⟩ : ∃ m : Int, m = -(n : Int) := ⟨_, rfl⟩
      have HC := Lib.hid fun W (h : s2.is W g ng) => shift_right W g B hB s2 hdn.2.2.1 ng n (by omega) (by omega) (by omega) (by omega) h
      rw [← hm] at HC
      have g1 : decide (y < -1022) = true := decide_eq_true hden
      have y1 : IntKind.i64.wrap (-1022 - y) = (n : Int) := by rw [Go.IntKind.wrap_i64]; omega
      have y2 : wrap64 (-1022 - y) = (n : Int) := by unfold wrap64; omega
      have y3 : IntKind.i64.wrap (0 - (n : Int)) = m := by rw [hm, Go.IntKind.wrap_i64]; omega
      have y4 : wrap64 (0 - (n : Int)) = m := by rw [hm]; unfold wrap64; omega
      have y5 : wrap64 (-(n : Int)) = m := by rw [hm]; unfold wrap64; omega
      have y6 : IntKind.i64.wrap (-(n : Int)) = m := by rw [hm, Go.IntKind.wrap_i64]; omega
      have y7 : IntKind.i64.wrap (y + (n : Int)) = -1022 := by rw [Go.IntKind.wrap_i64]; omega
      have y8 : wrap64 (y + (n : Int)) = -1022 := by unfold wrap64; omega
      clear hn hY hdn hm hyb
      go_wp2_with fail
      refine (HC.out _ HS2.out).mono ?_
      rintro e w3 ⟨rfl, hb3, s3, hR3, hN3, hs3, -, -⟩
      have HF := Lib.hid (HR.out s3 hR3 hN3)
      have HB3 := Lib.hid (hb2.out.trans hb3)
      have HS3 := Lib.hid hs3
      clear hR3 hN3 hs3 hb3 HC HR
      go_wp2_with fail
      go_meet
      case rel => exact ⟨-1022, s3, by first | rfl | go_num, HF, HS3.out, HB3⟩
    have g1 : decide (y < -1022) = false := decide_eq_false hden
    have HF : Hid (FinE s y s2) := Lib.hid (fin_mid HT.out HW2.out (by have := HY.out; omega) y HY.out.1)
    clear hyb
    go_wp2_with fail
    go_meet
    case rel => exact ⟨y, s2, rfl, HF, HS2.out, hb2⟩
  obtain ⟨z, s3, rfl, hF, hs3, hb3⟩ := hcut
  clear i0 i1 i2 HS2 HW2 HY HT hyb
  have HS3 := Lib.hid hs3
  clear hs3
  obtain ⟨i0, i1, i2⟩ := (HLB.out _ hb3.out).laid.z3e
  obtain ⟨e1, e2, e3, e4⟩ := hF.out
  have k1 : Go.bits .and .u64 0 4503599627370495 = 0 := by decide +kernel
  have k2 : Go.bits .and .i64 2047 2047 = 2047 := by decide +kernel
  have k3 : Go.bits .or .u64 0 9218868437227405312 = 9218868437227405312 := by decide +kernel
  have k4 : Go.bits .or .u64 9218868437227405312 9223372036854775808 = 18442240474082181120 := by decide +kernel
  rcases e4 with ⟨e4, e5, e6⟩ | ⟨e4, e5, e6⟩
  · have HI := Lib.hid e6
    have x1 : IntKind.i64.wrap (z + 1023) = z + 1023 := by rw [Go.IntKind.wrap_i64]; omega
    have x2 : (2047 : Int) ≤ z + 1023 := by omega
    have x3 : decide ((2047 : Int) ≤ z + 1023) = true := decide_eq_true x2
    have cng := z1d.cng HS3.out
    clear e1 e2 e3 e6 hF
    go_step
    go_wp2_with fail
    go_quiet (fail)
    go_wp2_with fail
    go_step3
    refine Exit.z3m _ _ rfl ?_
    go_wp2_with fail
    go_quiet (fail)
    go_wp2_with fail
    go_step3
    go_wp2_with fail
    go_quiet (fail)
    cases ng
    · go_wp2_with fail
      try rw [Exit.z2o]
      go_ret2
      first | exact ⟨_, true, rfl, z4u HI.out (by decide +kernel), below_drewN hb3.out _⟩ | exact ⟨_, true, rfl, z4u HI.out (by decide +kernel), below_drewN (below_drewN hb3.out _) _⟩
    go_wp2_with fail
    go_quiet (fail)
    go_wp2_with fail
    try rw [Exit.z2o]
    go_ret2
    first | exact ⟨_, true, rfl, z4u HI.out (by decide +kernel), below_drewN hb3.out _⟩ | exact ⟨_, true, rfl, z4u HI.out (by decide +kernel), below_drewN (below_drewN hb3.out _) _⟩
  have HC := Lib.hid fun W (hW : Below B w W) (h : s3.is W g ng) => z7o W g B hB (HLB.out _ hW).cheats s3 e1 ng 53 (by decide) (by decide) (by omega) (by omega) h
  have HE := Lib.hid e6
  have x1 : IntKind.i64.wrap (z + 1023) = z + 1023 := by rw [Go.IntKind.wrap_i64]; omega
  have x2 : ¬ (2047 : Int) ≤ z + 1023 := by omega
  have x3 : decide ((2047 : Int) ≤ z + 1023) = false := decide_eq_false x2
  have HZ : Hid (-1022 ≤ z ∧ z ≤ 1023) := Lib.hid ⟨e4, e5⟩
  clear e1 e2 e3 e6 hF k1 k2 k3 k4
  go_step
  go_wp2_with fail
  go_quiet (fail)
  go_wp2_with fail
  refine (HC.out _ (below_drewN hb3.out _) (HS3.out.drewN _)).mono ?_
  rintro e w4 ⟨rfl, hb4, s4, hL4, hN4, hs4, hd4⟩
  have HB4 := Lib.hid ((below_drewN hb3.out _).trans hb4)
  obtain ⟨m1, m2, m3, m4, l0, hl, hN⟩ := HE.out s4 hL4 hN4
  have HRo := Lib.hid (rounded_all w4 g s4 hN4 ng (by omega) (by omega) hs4)
  generalize z4e s4 = M at *
  have cng := z1d.cng hs4
  clear i0 i1 i2 HC HE HS3 hL4 hN4 hs4 hd4 hb4 m1 m2 x1 x2 x3 e4 e5
  obtain ⟨i0, i1, i2⟩ := (HLB.out _ HB4.out).laid.z3e
  have HL0 := Lib.hid hl
  have HN0 := Lib.hid hN
  have HM : Hid (M ≤ 9007199254740992 ∧ (z ≠ -1022 → 4503599627370496 ≤ M)) := Lib.hid ⟨m3, m4⟩
  clear hl hN m3 m4 hb3
  go_wp2_with fail
  refine HRo.out.mono ?_
  rintro e w5 ⟨rfl, n5, rfl⟩
  clear HRo
  have k0 : Go.bits .and .u64 4503599627370496 4503599627370496 = 4503599627370496 := by decide +kernel
  by_cases h53 : M = 9007199254740992
  · obtain ⟨z1, hz1⟩ : ∃ z1, z1 = z + 1 := ⟨_, rfl⟩
    have hZ := HZ.out
    have hl := HL0.out
    have y1 : IntKind.i64.wrap (z + 1) = z1 := by rw [Go.IntKind.wrap_i64]; omega
    have y2 : wrap64 (z + 1) = z1 := by unfold wrap64; omega
    by_cases hinf : z = 1023
    · have HI : Hid (∀ R, z5b s R → 9218868437227405312 ≤ R) := Lib.hid fun R hR => by
        rw [near_one HN0.out hR]; omega
      have x1 : IntKind.i64.wrap (z1 + 1023) = z1 + 1023 := by rw [Go.IntKind.wrap_i64]; omega
      have x2 : (2047 : Int) ≤ z1 + 1023 := by omega
      have x3 : decide ((2047 : Int) ≤ z1 + 1023) = true := decide_eq_true x2
      have k1 : Go.bits .and .u64 0 4503599627370495 = 0 := by decide +kernel
      have k2 : Go.bits .and .i64 2047 2047 = 2047 := by decide +kernel
      have k3 : Go.bits .or .u64 0 9218868437227405312 = 9218868437227405312 := by decide +kernel
      have k4 : Go.bits .or .u64 9218868437227405312 9223372036854775808 = 18442240474082181120 := by decide +kernel
      clear hz1 hZ hl hinf
      subst h53
      go_wp2_with fail
      go_quiet (fail)
      go_wp2_with fail
      go_step3
      refine Exit.z3m _ _ rfl ?_
      go_wp2_with fail
      go_quiet (fail)
      go_wp2_with fail
      go_step3
      go_wp2_with fail
      go_quiet (fail)
      cases ng
      · go_wp2_with fail
        try rw [Exit.z2o]
        go_ret2
        first | exact ⟨_, true, rfl, z4u HI.out (by decide +kernel), below_drewN HB4.out _⟩ | exact ⟨_, true, rfl, z4u HI.out (by decide +kernel), below_drewN (below_drewN HB4.out _) _⟩
      go_wp2_with fail
      go_quiet (fail)
      go_wp2_with fail
      try rw [Exit.z2o]
      go_ret2
      first | exact ⟨_, true, rfl, z4u HI.out (by decide +kernel), below_drewN HB4.out _⟩ | exact ⟨_, true, rfl, z4u HI.out (by decide +kernel), below_drewN (below_drewN HB4.out _) _⟩
    obtain ⟨E, hE⟩ : ∃ E, E = l0 + 2 := ⟨_, rfl⟩
    obtain ⟨r, hr⟩ : ∃ r, r = l0 * 4503599627370496 + M := ⟨_, rfl⟩
    have hN := HN0.out
    rw [← hr] at hN
    have HN := Lib.hid hN
    have HR : Hid (r < 9218868437227405312) := Lib.hid (by omega)
    obtain ⟨zz, yy, y63, o1, o2, o3, o4, o5, HO⟩ := out_facts2 0 E (by decide) (by omega)
    have HU : Hid (∀ ng, Ieee.double.word ng r = if ng then y63 else yy) := Lib.hid fun ng => by
      obtain ⟨q1, q2⟩ := HO.out
      rw [z4i]
      cases ng
      · rw [show sgB false = 0 from rfl, if_neg (by decide)]; omega
      rw [show sgB true = 9223372036854775808 from rfl, if_pos rfl]; omega
    have x1 : IntKind.i64.wrap (z1 + 1023) = (E : Int) := by rw [Go.IntKind.wrap_i64]; omega
    have x1b : z1 + 1023 = (E : Int) := by omega
    have x2 : ¬ (2047 : Int) ≤ (E : Int) := by omega
    have x3 : decide ((2047 : Int) ≤ (E : Int)) = false := decide_eq_false x2
    have k1 : Go.bits .and .u64 4503599627370496 4503599627370495 = 0 := by decide +kernel
    have o4' : Go.bits .or .u64 0 (zz : Int) = (yy : Int) := o4
    clear hz1 hZ hl hinf hE hr hN o4 HN0 HM HL0 HO
    subst h53
    go_wp2_with fail
    go_quiet (fail)
    go_wp2_with fail
    go_step3
    refine Exit.z3m _ _ rfl ?_
    go_wp2_with fail
    go_quiet (fail)
    cases ng
    · go_wp2_with fail
      try rw [Exit.z2o]
      go_ret2
      first | exact ⟨_, false, rfl, z4k HN.out HR.out (by rw [HU.out]; rfl), below_drewN HB4.out _⟩ | exact ⟨_, false, rfl, z4k HN.out HR.out (by rw [HU.out]; rfl), below_drewN (below_drewN HB4.out _) _⟩
    go_wp2_with fail
    go_quiet (fail)
    go_wp2_with fail
    try rw [Exit.z2o]
    go_ret2
    first | exact ⟨_, false, rfl, z4k HN.out HR.out (by rw [HU.out]; rfl), below_drewN HB4.out _⟩ | exact ⟨_, false, rfl, z4k HN.out HR.out (by rw [HU.out]; rfl), below_drewN (below_drewN HB4.out _) _⟩
  have hM := HM.out
  have hZ := HZ.out
  have hl := HL0.out
  have f53 : ((M : Int) == 9007199254740992) = false := by simp; omega
  obtain ⟨r, hr⟩ : ∃ r, r = l0 * 4503599627370496 + M := ⟨_, rfl⟩
  have hN := HN0.out
  rw [← hr] at hN
  have HN := Lib.hid hN
  have HR : Hid (r < 9218868437227405312) := Lib.hid (by omega)
  by_cases hlo : 4503599627370496 ≤ M
  · obtain ⟨E, hE⟩ : ∃ E, E = l0 + 1 := ⟨_, rfl⟩
    obtain ⟨x0, hx0⟩ : ∃ x0, x0 = M % 4503599627370496 := ⟨_, rfl⟩
    have k1 := and_low52 M (by omega)
    rw [← hx0] at k1
    have k5 : Go.bits .and .u64 (M : Int) 4503599627370496 = 4503599627370496 := by rw [and52 M (by omega), show M / 4503599627370496 % 2 * 4503599627370496 = 4503599627370496 by omega]; rfl
    obtain ⟨zz, yy, y63, o1, o2, o3, o4, o5, HO⟩ := out_facts2 x0 E (by omega) (by omega)
    have HU : Hid (∀ ng, Ieee.double.word ng r = if ng then y63 else yy) := Lib.hid fun ng => by
      obtain ⟨q1, q2⟩ := HO.out
      rw [z4i]
      cases ng
      · rw [show sgB false = 0 from rfl, if_neg (by decide)]; omega
      rw [show sgB true = 9223372036854775808 from rfl, if_pos rfl]; omega
    have x1 : IntKind.i64.wrap (z + 1023) = (E : Int) := by rw [Go.IntKind.wrap_i64]; omega
    have x1b : z + 1023 = (E : Int) := by omega
    have x1c : wrap64 (E : Int) = (E : Int) := by unfold wrap64; omega
    clear hM hZ hl hE hr hN HN0 HM HL0 HO hx0 hlo h53 k0
    go_wp2_with fail
    go_step3
    refine Exit.z3m _ _ rfl ?_
    go_wp2_with fail
    go_quiet (fail)
    cases ng
    · go_wp2_with fail
      try rw [Exit.z2o]
      go_ret2
      first | exact ⟨_, false, rfl, z4k HN.out HR.out (by rw [HU.out]; rfl), below_drewN HB4.out _⟩ | exact ⟨_, false, rfl, z4k HN.out HR.out (by rw [HU.out]; rfl), below_drewN (below_drewN HB4.out _) _⟩
    go_wp2_with fail
    go_quiet (fail)
    go_wp2_with fail
    try rw [Exit.z2o]
    go_ret2
    first | exact ⟨_, false, rfl, z4k HN.out HR.out (by rw [HU.out]; rfl), below_drewN HB4.out _⟩ | exact ⟨_, false, rfl, z4k HN.out HR.out (by rw [HU.out]; rfl), below_drewN (below_drewN HB4.out _) _⟩
  have hz : z = -1022 := by omega
  obtain ⟨y63, h63⟩ : ∃ y63, y63 = 9223372036854775808 + M := ⟨_, rfl⟩
  have k1 := and_low52 M (by omega)
  rw [Nat.mod_eq_of_lt (by omega)] at k1
  have k5 : Go.bits .and .u64 (M : Int) 4503599627370496 = 0 := by rw [and52 M (by omega), show M / 4503599627370496 % 2 * 4503599627370496 = 0 by omega]; rfl
  have k2 : Go.bits .and .i64 0 2047 = 0 := by decide +kernel
  have k3 : Go.bits .or .u64 (M : Int) 0 = (M : Int) := or_zero64 M (by omega)
  have k4 : Go.bits .or .u64 (M : Int) 9223372036854775808 = (y63 : Int) := by
    have := Go.u64_or_nat M 9223372036854775808 (by omega) (by omega)
    rw [show ((9223372036854775808 : Nat) : Int) = 9223372036854775808 from rfl] at this
    rw [this, Nat.or_comm, Go.nat_join 63 9223372036854775808 M (by decide) (by omega), h63]
  have HU : Hid (∀ ng, Ieee.double.word ng r = if ng then y63 else M) := Lib.hid fun ng => by
    rw [z4i]
    cases ng
    · rw [show sgB false = 0 from rfl, if_neg (by decide)]; omega
    rw [show sgB true = 9223372036854775808 from rfl, if_pos rfl]; omega
  clear hM hZ hl hr hN HN0 HM HL0 hlo h53 k0 h63
  go_wp2_with fail
  go_step3
  refine Exit.z3m _ _ rfl ?_
  go_wp2_with fail
  go_quiet (fail)
  cases ng
  · go_wp2_with fail
    try rw [Exit.z2o]
    go_ret2
    first | exact ⟨_, false, rfl, z4k HN.out HR.out (by rw [HU.out]; rfl), below_drewN HB4.out _⟩ | exact ⟨_, false, rfl, z4k HN.out HR.out (by rw [HU.out]; rfl), below_drewN (below_drewN HB4.out _) _⟩
  go_wp2_with fail
  go_quiet (fail)
  go_wp2_with fail
  try rw [Exit.z2o]
  go_ret2
  first | exact ⟨_, false, rfl, z4k HN.out HR.out (by rw [HU.out]; rfl), below_drewN HB4.out _⟩ | exact ⟨_, false, rfl, z4k HN.out HR.out (by rw [HU.out]; rfl), below_drewN (below_drewN HB4.out _) _⟩
end Go.Proofs.YtjpiplplohapnaaGreatDoor
namespace Go.Proofs.YtjpiplplohapnaaGreatDoor
open Go.RowKit Go.Proofs.YtjpiplplohapnaaGreatDoorW.PrintWords Dc Nr Us
set_option maxRecDepth 100000 in
set_option maxHeartbeats 2000000 in
theorem fb_over (w : World) (g B : Nat) (hLB : z5y w) (s : St) (hs : Weak s) (ng : Bool) (hdp1 : 310 < s.dp) (hdp2 : s.dp ≤ 1000) (h : s.is w g ng) (hb0 : B ≤ w.heap.size) :
    Calls Tryz.prog 149 #[.pointer (some ⟨g, 0, none⟩), .pointer (some ⟨6, 0, none⟩)] w (FbPost g B s ng w) := by
  have cnd : w.cell? ⟨g, 800, none⟩ = some (.int .i64 (s.nd : Nat)) := z1d.cnd h
  have cdp : w.cell? ⟨g, 801, none⟩ = some (.int .i64 s.dp) := z1d.cdp h
  have cng := z1d.cng h
  have f0 : (((s.nd : Nat) : Int) == 0) = false := by have := hs.pos; simp; omega
  have f2 : decide (310 < s.dp) = true := decide_eq_true hdp1
  have HI := Lib.hid (fb_great hs hdp1 hdp2)
  obtain ⟨i0, i1, i2⟩ := hLB.laid.z3e
  have k1 : Go.bits .and .u64 0 4503599627370495 = 0 := by decide +kernel
  have k2 : Go.bits .and .i64 2047 2047 = 2047 := by decide +kernel
  have k3 : Go.bits .or .u64 0 9218868437227405312 = 9218868437227405312 := by decide +kernel
  have k4 : Go.bits .or .u64 9218868437227405312 9223372036854775808 = 18442240474082181120 := by decide +kernel
  clear hs h hLB hdp2 hb0
  generalize s.dp = p at *
  go_enter Tryz.func149, Tryz.ntmps149
  go_wp2_with fail
  refine z3w 3 ?_
  go_wp2_with fail
  go_step3
  refine Exit.z3m _ _ rfl ?_
  go_wp2_with fail
  go_quiet (fail)
  go_wp2_with fail
  go_step3
  go_wp2_with fail
  go_quiet (fail)
  cases ng
  · go_wp2_with fail
    try rw [Exit.z2o]
    go_ret2
    exact ⟨_, true, rfl, z4u HI.out (by decide +kernel), below_drewN (Below.refl _ _) _⟩
  go_wp2_with fail
  go_quiet (fail)
  go_wp2_with fail
  try rw [Exit.z2o]
  go_ret2
  first | exact ⟨_, true, rfl, z4u HI.out (by decide +kernel), below_drewN (Below.refl _ _) _⟩ | exact ⟨_, true, rfl, z4u HI.out (by decide +kernel), below_drewN (below_drewN (Below.refl _ _) _) _⟩
theorem fb_all (w : World) (g B : Nat) (hB : B ≤ g) (hB2 : B ≤ w.heap.size) (hLB : ∀ w', Below B w w' → z5y w') (s : St) (hs : Weak s) (htr : s.tr = false) (hnd : s.nd ≤ 400) (ng : Bool) (hdp1 : -326 ≤ s.dp) (hdp2 : s.dp ≤ 1000) (h : s.is w g ng) :
    Calls Tryz.prog 149 #[.pointer (some ⟨g, 0, none⟩), .pointer (some ⟨6, 0, none⟩)] w (FbPost g B s ng w) := by
  by_cases h310 : 310 < s.dp
  · exact fb_over w g B (hLB w (Below.refl _ _)) s hs ng h310 hdp2 h hB2
  exact fb_walk w g B hB hLB s hs htr hnd ng hdp1 (by omega) h
end Go.Proofs.YtjpiplplohapnaaGreatDoor
namespace Go.Proofs.YtjpiplplohapnaaGreatDoor
open Go.RowKit Go.Proofs.YtjpiplplohapnaaGreatDoorW.PrintWords Dc Us
theorem zero162 : Tryz.zeroCells162 = dcells (fun _ => 0) 0 0 false false := by kernel_rfl
end Go.Proofs.YtjpiplplohapnaaGreatDoor
