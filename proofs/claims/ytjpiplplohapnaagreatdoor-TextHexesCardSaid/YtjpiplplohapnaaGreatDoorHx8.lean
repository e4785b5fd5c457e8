/- Part 8 of the proof: LRb, AwD, AwE, AwF, AwG, AwH, GB, Num, TInt, GH, GI, Pad, LRx, LAh, Pf1, RfE. -/
import Derived.Test.YtjpiplplohapnaaGreatDoorHx7
import Derived.Deep.QuietTactic
import Derived.BigQuiet
import Derived.Lib.OwnBridge
import Derived.Deep.RegionHeld
import Derived.Deep.RegionWith
import Derived.Laws.BytesString
import Derived.LoopTactic
import Derived.Lib.AtoiAll
import Derived.Lib.ItoaNum
import Derived.Deep.CutBlock
import Derived.Deep.DeepCutAuto
set_option linter.unusedVariables false
set_option linter.unusedSimpArgs false
namespace Go.Proofs.YtjpiplplohapnaaGreatDoor.Rf
theorem stp_ok {hx : Bool} {c : Nat} (hc : c < 256) {t t' : St} {k : Nat} (h : Ok hx t k) (hs : stp hx c t = some t') : Ok hx t' (k + 1) := by
  obtain ⟨h1, h2, h3, h4, h5⟩ := h
  have hb10 : 10 ≤ bs hx := by cases hx <;> decide
  have hb16 : bs true = 16 := rfl
  unfold stp at hs
  split at hs
  · cases hs; exact ⟨by dsimp only; omega, h2, h3, by dsimp only; omega, by dsimp only; omega⟩
  · split at hs
    · split at hs
      · cases hs
      · cases hs; exact ⟨by dsimp only; omega, h2, h3, by dsimp only; omega, by dsimp only; omega⟩
    · split at hs
      · rename_i hd
        split at hs
        · cases hs; exact ⟨by dsimp only; omega, h2, h3, by dsimp only; omega, by dsimp only; omega⟩
        · split at hs
          · rename_i hn
            have := (⟨h1, h2, h3, h4, h5⟩ : Ok hx t k).room (d := c - 48) hn (by omega)
            cases hs; exact ⟨by dsimp only; omega, by dsimp only; omega, this.1, by dsimp only; omega, by dsimp only; omega⟩
          · cases hs; exact ⟨by dsimp only; omega, h2, h3, by dsimp only; omega, by dsimp only; omega⟩
      · split at hs
        · rename_i hl
          obtain ⟨rfl, hl1, hl2⟩ := hl
          split at hs
          · rename_i hn
            have := (⟨h1, h2, h3, h4, h5⟩ : Ok true t k).room (d := (lw c - 87).toNat) hn (by rw [hb16]; omega)
            cases hs; exact ⟨by dsimp only; omega, by dsimp only; omega, this.1, by dsimp only; omega, by dsimp only; omega⟩
          · cases hs; exact ⟨by dsimp only; omega, h2, h3, by dsimp only; omega, by dsimp only; omega⟩
        · cases hs
theorem scan_ok {hx : Bool} : ∀ (l : List UInt8) (t : St) (k : Nat), Ok hx t k → Ok hx (scan hx l t).1 (k + l.length)
  | [], t, k, h => h
  | c :: l, t, k, h => by
    rw [scan]
    cases hs : stp hx c.toNat t with
    | none =>
      dsimp only
      obtain ⟨h1, h2, h3, h4, h5⟩ := h
      exact ⟨by simp; omega, h2, h3, by simp; omega, by simp; omega⟩
    | some t' =>
      dsimp only
      have := scan_ok l t' (k + 1) (stp_ok (UInt8.toNat_lt c) h hs)
      rw [List.length_cons, show k + (l.length + 1) = k + 1 + l.length by omega]
      exact this
theorem escan_le : ∀ (l : List UInt8) (e : Nat) (us : Bool), e ≤ 99999 → (escan l e us).1 ≤ 99999
  | [], e, us, h => h
  | c :: l, e, us, h => by
    rw [escan]
    split
    · exact escan_le l e true h
    · split
      · rename_i hd
        refine escan_le l _ us ?_
        split <;> omega
      · exact h
theorem esign_one (l : List UInt8) : (esign l).1 = 1 ∨ (esign l).1 = -1 := by
  cases l with
  | nil => exact Or.inl rfl
  | cons c l =>
    show (if c.toNat = 43 then ((1 : Int), l) else if c.toNat = 45 then (-1, l) else (1, c :: l)).1 = 1 ∨ (if c.toNat = 43 then ((1 : Int), l) else if c.toNat = 45 then (-1, l) else (1, c :: l)).1 = -1
    by_cases h1 : c.toNat = 43
    · rw [if_pos h1]; exact Or.inl rfl
    · rw [if_neg h1]
      by_cases h2 : c.toNat = 45
      · rw [if_pos h2]; exact Or.inr rfl
      · rw [if_neg h2]; exact Or.inl rfl
theorem eat_bound {us : Bool} {r : List UInt8} {x : Int × Bool × List UInt8} (h : eat us r = some x) : -99999 ≤ x.1 ∧ x.1 ≤ 99999 := by
  unfold eat at h
  split at h
  · cases h
    dsimp only
    have h1 := escan_le (esign r).2 0 us (by omega)
    generalize (escan (esign r).2 0 us).1 = e at *
    rcases esign_one r with h | h <;> rw [h] <;> omega
  · cases h
theorem expPart_bound {hx us : Bool} {r : List UInt8} {x : Int × Bool × List UInt8} (h : expPart hx us r = some x) : -99999 ≤ x.1 ∧ x.1 ≤ 99999 := by
  cases r with
  | nil =>
    cases hx
    · rw [show expPart false us [] = some (0, us, []) from rfl] at h
      cases h; exact ⟨by dsimp only; omega, by dsimp only; omega⟩
    · rw [show expPart true us [] = none from rfl] at h
      cases h
  | cons c r =>
    cases hx
    · by_cases h1 : lw c.toNat = 101
      · rw [expPart_hit_d h1] at h; exact eat_bound h
      · rw [expPart_miss_d h1] at h; cases h; exact ⟨by dsimp only; omega, by dsimp only; omega⟩
    · by_cases h1 : lw c.toNat = 112
      · rw [expPart_hit_x h1] at h; exact eat_bound h
      · rw [expPart_miss_x h1] at h; cases h
theorem fin_bound {hx : Bool} {l : List UInt8} (hl : l.length ≤ 1000) {o : Out} (h : fin hx (scan hx l st0).1 (scan hx l st0).2 = some o) : o.m < 18446744073709551616 ∧ -300000 ≤ o.e ∧ o.e ≤ 300000 := by
  have hk := scan_ok (hx := hx) l st0 0 (ok0 hx 0)
  generalize (scan hx l st0).1 = t at *
  generalize (scan hx l st0).2 = r at *
  obtain ⟨h1, h2, h3, h4, h5⟩ := hk
  unfold fin at h
  split at h
  · cases he : expPart hx t.us r with
    | none => rw [he] at h; cases h
    | some x =>
      rw [he] at h
      cases h
      have hb := expPart_bound he
      have hm : t.m < 18446744073709551616 := Nat.lt_of_lt_of_le h3 (Nat.le_trans (Nat.pow_le_pow_right (by cases hx <;> decide) h2) (pow_max hx))
      refine ⟨hm, ?_⟩
      dsimp only
      have hn : t.nm ≤ 19 := Nat.le_trans h2 (by cases hx <;> decide)
      have hD : -5000 ≤ dpv hx t ∧ dpv hx t ≤ 5000 := by
        unfold dpv
        cases hx <;> cases t.dot <;> simp <;> omega
      have hN : 0 ≤ nmv hx t ∧ nmv hx t ≤ 100 := by
        unfold nmv
        cases hx <;> simp <;> omega
      split <;> omega
  · cases h
end Go.Proofs.YtjpiplplohapnaaGreatDoor.Rf
namespace Go.Proofs.YtjpiplplohapnaaGreatDoor
open Go.RowKit Go.Proofs.YtjpiplplohapnaaGreatDoorW.PrintWords
set_option maxRecDepth 100000 in
set_option maxHeartbeats 1000000 in
theorem prescale_375 (w : World) (hL : Laid w) (g B : Nat) (hB : B ≤ g) (hg : w.heap[g]? = some (.cells #[.int .u64 0, .int .u64 0, .int .i64 0] 203 (0, 0))) (h17 : 17 ≤ g) :
    Calls Tryz.prog 158 #[.pointer (some ⟨g, 0, none⟩), .int .i64 (-65), .int .i64 3, .int .i64 9] w fun e w' => e = .returned (.tuple #[]) ∧ Below B w w' ∧ w'.heap[g]? = some (.cells #[.int .u64 18014398509481984000, .int .u64 0, .int .i64 53] 203 (0, 0)) := by
  obtain ⟨p0, p1⟩ := p10_351 hL
  have c0 : w.cell? ⟨g, 0, none⟩ = some (.int .u64 0) := (blk_cell hg 0).trans rfl
  have c1 : w.cell? ⟨g, 1, none⟩ = some (.int .u64 0) := (blk_cell hg 1).trans rfl
  have c2 : w.cell? ⟨g, 2, none⟩ = some (.int .i64 0) := (blk_cell hg 2).trans rfl
  have f0 := blk_frozen hg 0
  have f1 := blk_frozen hg 1
  have f2 := blk_frozen hg 2
  have hne : (11 : Nat) ≠ g := by omega
  go_enter Tryz.func158, Tryz.ntmps158
  go_wp2_with fail
  go_end0
  refine ⟨rfl, (((Below.refl B w).setCell hB _).setCell hB _).setCell hB _, ?_⟩
  refine blk_put (cs := #[.int .u64 18014398509481984000, .int .u64 0, .int .i64 0]) ?_ 2 _ rfl
  refine blk_put (cs := #[.int .u64 18014398509481984000, .int .u64 0, .int .i64 0]) ?_ 1 _ rfl
  exact blk_put hg 0 _ rfl
set_option maxRecDepth 100000 in
set_option maxHeartbeats 1000000 in
theorem uscale_375 (w : World) (g : Nat) (hg : w.heap[g]? = some (.cells #[.int .u64 18014398509481984000, .int .u64 0, .int .i64 53] 203 (0, 0))) :
    Calls Tryz.prog 160 #[.int .u64 13835058055282163712, .pointer (some ⟨g, 0, none⟩)] w fun e w' => e = .returned (.int .u64 1500) ∧ Below w.heap.size w w' := by
  have c0 : w.cell? ⟨g, 0, none⟩ = some (.int .u64 18014398509481984000) := (blk_cell hg 0).trans rfl
  have c1 : w.cell? ⟨g, 1, none⟩ = some (.int .u64 0) := (blk_cell hg 1).trans rfl
  have c2 : w.cell? ⟨g, 2, none⟩ = some (.int .i64 53) := (blk_cell hg 2).trans rfl
  have b53 : Go.bits .and .i64 53 63 = 53 := by decide +kernel
  have bo : Go.bits .or .u64 1500 0 = 1500 := by decide +kernel
  have s1 : ∀ W, (Op.shift BinOp.shr .u64 13510798882111488000 .i64 53).run Tryz.prog W = .ok (.int .u64 1500) W := fun W => by kernel_rfl
  have s2 : ∀ W, (Op.shift BinOp.shl .u64 1500 .i64 53).run Tryz.prog W = .ok (.int .u64 13510798882111488000) W := fun W => by kernel_rfl
  go_enter Tryz.func160, Tryz.ntmps160
  go_wp2_with fail
  refine (Tryz.bits_Mul64 13835058055282163712 18014398509481984000 (by decide) (by decide) _).mono ?_
  rintro e w' ⟨rfl, rfl⟩
  go_wp2_with fail
  refine (Tryz.bits_Mul64 13835058055282163712 0 (by decide) (by decide) _).mono ?_
  rintro e w1 ⟨rfl, rfl⟩
  go_wp2_with fail
  refine (bool2_u64f _).mono ?_
  rintro e w2 ⟨rfl, hb2⟩
  go_wp2_with fail
  go_quiet ((go_at_call 150; (with_reducible refine (PText.strconv_bool2_uint64.calls false 0 _ (by decide +kernel)).mono ?_); rintro e w' ⟨rfl, ⟨nd, rfl⟩⟩; first | exact ⟨rfl, _, World.drewN_drewN _ _ _⟩ | exact ⟨rfl, _, Eq.trans (World.drewN_drewN _ _ _) (congrArg (World.drewN _) (Nat.add_assoc _ _ _))⟩))
  go_wp2_with fail
  go_ret
  exact ⟨rfl, below_drewN hb2 _⟩
theorem unmin_calls (x r : Int) (h : PText.strconv_unmin.f x = some r) (w : World) : Calls Tryz.prog 165 #[.int .u64 x] w fun e w' => e = .returned (.int .u64 r) ∧ Below w.heap.size w w' :=
  (PText.strconv_unmin.calls x r w h).mono fun _ _ ⟨h1, h2⟩ => ⟨h1, h2.below⟩
theorem round_calls (x r : Int) (h : PText.strconv_unrounded_round.f x = some r) (w : World) : Calls Tryz.prog 164 #[.int .u64 x] w fun e w' => e = .returned (.int .u64 r) ∧ Below w.heap.size w w' :=
  (PText.strconv_unrounded_round.calls x r w h).mono fun _ _ ⟨h1, h2⟩ => ⟨h1, h2.below⟩
theorem div_calls (x d r : Int) (h : PText.strconv_unrounded_div.f x d = some r) (w : World) : Calls Tryz.prog 166 #[.int .u64 x, .int .u64 d] w fun e w' => e = .returned (.int .u64 r) ∧ Below w.heap.size w w' :=
  (PText.strconv_unrounded_div.calls x d r w h).mono fun _ _ ⟨h1, h2⟩ => ⟨h1, h2.below⟩
theorem u10_3 {w : World} (h : Laid w) : w.cell? ⟨4, 3, none⟩ = some (.int .u64 1000) := by
  have := World.var?_cell gU10 h.u10 3
  exact this.trans (by kernel_rfl)
set_option maxRecDepth 100000 in
set_option maxHeartbeats 1000000 in
theorem fixed_375 (w : World) (hL : Laid w) : Calls Tryz.prog 127 #[.int .u64 13835058055282163712, .int .i64 (-65), .int .i64 3, .int .i64 2, .int .u8 102] w fun e w' => e = .returned (.tuple #[.int .u64 38, .int .i64 (-2)]) ∧ Below w.heap.size w w' := by
  go_enter Tryz.func127, Tryz.ntmps127
  go_wp2_with fail
  refine (log10_calls (-2) (-1) (by decide +kernel) _).mono ?_
  rintro e w1 ⟨rfl, hb1⟩
  go_wp2_with fail
  refine (log2_calls 3 9 (by decide +kernel) _).mono ?_
  rintro e w2 ⟨rfl, hb2⟩
  have hL1 := hL.below hb1
  have hg2 : w2.heap[w1.heap.size]? = some (.cells #[.int .u64 0, .int .u64 0, .int .i64 0] 203 (0, 0)) := by
    exact blk_below (blk_new _ _) hb2
  have hb02 : Below w.heap.size w w2 := hb1.trans ((((Below.refl _ _).alloc (Nat.le_refl _) _).trans (hb2.mono (by simp))).mono hb1.size)
  have hL2 : Laid w2 := hL.below hb02
  go_wp2_with fail
  refine (prescale_375 w2 hL2 w1.heap.size w.heap.size hb1.size hg2 (by have := hL1.size; omega)).mono ?_
  rintro e w3 ⟨rfl, hb3, hg3⟩
  have hb03 := hb02.trans hb3
  go_wp2_with fail
  refine (uscale_375 w3 w1.heap.size hg3).mono ?_
  rintro e w4 ⟨rfl, hb4⟩
  have hb04 := hb03.trans (hb4.mono hb03.size)
  have hu := u10_3 (hL.below hb04)
  go_wp2_with fail
  refine (unmin_calls 1000 3998 (by decide +kernel) _).mono ?_
  rintro e w5 ⟨rfl, hb5⟩
  have hb05 := hb04.trans (hb5.mono hb04.size)
  go_wp2_with fail
  refine wp_loop_rounds 2 ?_
  rw [rounds_succ]
  go_wp2_with fail
  refine (div_calls 1500 10 150 (by decide +kernel) _).mono ?_
  rintro e w6 ⟨rfl, hb6⟩
  have hb06 := hb05.trans (hb6.mono hb05.size)
  go_wp2_with fail
  rw [rounds_succ]
  go_wp2_with fail
  refine (round_calls 150 38 (by decide +kernel) _).mono ?_
  rintro e w7 ⟨rfl, hb7⟩
  go_wp2_with fail
  go_ret2
  exact ⟨rfl, hb06.trans (hb7.mono hb06.size)⟩
end Go.Proofs.YtjpiplplohapnaaGreatDoor
namespace Go.Proofs.YtjpiplplohapnaaGreatDoor
open Go.RowKit Go.Sort Go.Proofs.YtjpiplplohapnaaGreatDoorW.PrintWords
abbrev encB (b : UInt8) : Value := .int .u8 (b.toNat : Int)
theorem below_putRow2 {B : Nat} {w0 w : World} {g n : Nat} {d : Array UInt8} (h : Below B w0 w) (hg : B ≤ g) : Below B w0 ((putRow encB w g 0 d).drewN n) := by
  have := Lib.below_putRow (enc := encB) (q := 0) (d := d) h hg
  exact below_drewN (by simpa [Sort.ahead] using this) n
set_option maxRecDepth 100000 in
set_option maxHeartbeats 1000000 in
theorem setDigits_38 (w : World) (g B : Nat) (hB : B ≤ g) (h0 : w.cell? ⟨g, 0, none⟩ = some (.int .u8 0)) (h1 : w.cell? ⟨g, 1, none⟩ = some (.int .u8 0)) (f0 : w.frozen? ⟨g, 0, none⟩ = false) (f1 : w.frozen? ⟨g, 1, none⟩ = false) :
    Calls Tryz.prog 125 #[.slice (some ⟨g, 0, none⟩) 24 24, .int .u64 38, .int .i64 (-2), .int .i64 2] w fun e w' => e = .returned (.tuple #[.int .i64 0, .int .i64 2]) ∧ Below B w w' ∧ w'.cell? ⟨g, 0, none⟩ = some (.int .u8 51) ∧ w'.cell? ⟨g, 1, none⟩ = some (.int .u8 56) := by
  have hH : Holds encB w g 0 #[0, 0] := by
    intro j hj
    have : j = 0 ∨ j = 1 := by simp at hj; omega
    rcases this with rfl | rfl
    · exact ⟨h0, f0⟩
    · exact ⟨h1, f1⟩
  go_enter Tryz.func125, Tryz.ntmps125
  go_wp2_with fail
  refine (Tryz.internal_strconv_formatBase10 g 0 24 38 #[0, 0] _ hH (by decide) (by decide) (by decide)).mono ?_
  rintro e w1 ⟨rfl, n, v', dk, rfl, hF⟩
  have e0 : dk[0]! = 51 := (hF.done 0 (by decide) (by decide)).trans (by decide)
  have e1 : dk[1]! = 56 := (hF.done 1 (by decide) (by decide)).trans (by decide)
  have hs : dk.size = 2 := hF.size
  have hbw : Below B w ((putRow encB w g 0 dk).drewN n) := below_putRow2 (Below.refl _ _) hB
  have k0 : ((putRow encB w g 0 dk).drewN n).cell? ⟨g, 0, none⟩ = some (.int .u8 51) := by
    have := cell?_putRow encB w g 0 #[0, 0] dk hH hs 0 (by omega)
    rw [e0] at this; exact this
  have k1 : ((putRow encB w g 0 dk).drewN n).cell? ⟨g, 1, none⟩ = some (.int .u8 56) := by
    have := cell?_putRow encB w g 0 #[0, 0] dk hH hs 1 (by omega)
    rw [e1] at this; exact this
  generalize (putRow encB w g 0 dk).drewN n = w2 at *
  clear hF e0 e1 hs hH
  go_wp2_with fail
  refine wp_loop_rounds 1 ?_
  rw [rounds_succ]
  go_wp2_with fail
  go_ret2
  exact ⟨rfl, hbw, k0, k1⟩
structure Two (B : Nat) (w0 : World) (gd g : Nat) (T : TypeId) (cs : Array Value) (w : World) : Prop where
  row : w.heap[gd]? = some (.cells cs T (0, 0))
  k0 : w.cell? ⟨g, 0, none⟩ = some (.int .u8 51)
  k1 : w.cell? ⟨g, 1, none⟩ = some (.int .u8 56)
  below : Below B w0 w
theorem Two.put {B gd g : Nat} {w0 w : World} {T : TypeId} {cs cs' : Array Value} (h : Two B w0 gd g T cs w) (hB : B ≤ gd) (hne : gd ≠ g) (j : Nat) (v : Value) (e : cs.setIfInBounds j v = cs') : Two B w0 gd g T cs' (w.setCell ⟨gd, j, none⟩ v) :=
  ⟨blk_put h.row j v e, (World.cell?_setCell_far w _ _ _ hne).trans h.k0, (World.cell?_setCell_far w _ _ _ hne).trans h.k1, h.below.setCell hB _⟩
theorem Two.new {B gd g : Nat} {w0 w : World} {T : TypeId} {cs : Array Value} (h : Two B w0 gd g T cs w) (hB : B ≤ w.heap.size) (o : Obj) : Two B w0 gd g T cs (w.alloc o) :=
  ⟨blk_alloc h.row o, (((Below.refl w.heap.size w).alloc (Nat.le_refl _) o).cell (World.block_lt_of_cell? w _ h.k0)).trans h.k0, (((Below.refl w.heap.size w).alloc (Nat.le_refl _) o).cell (World.block_lt_of_cell? w _ h.k1)).trans h.k1, h.below.alloc hB o⟩
theorem Two.lt {B gd g : Nat} {w0 w : World} {T : TypeId} {cs : Array Value} (h : Two B w0 gd g T cs w) : gd < w.heap.size ∧ g < w.heap.size := ⟨(Array.getElem?_eq_some_iff.1 h.row).1, World.block_lt_of_cell? w _ h.k0⟩
set_option maxRecDepth 100000 in
set_option maxHeartbeats 1000000 in
theorem fmt_38 (w : World) (g gd B : Nat) (hgd : B ≤ gd) (hne : gd ≠ g) (T : TypeId) (y : Value) (hd : w.heap[gd]? = some (.cells (Array.replicate 24 y) T (0, 0)))
    (k0 : w.cell? ⟨g, 0, none⟩ = some (.int .u8 51)) (k1 : w.cell? ⟨g, 1, none⟩ = some (.int .u8 56)) :
    Calls Tryz.prog 122 #[.slice (some ⟨gd, 0, none⟩) 0 24, .bool false, .slice (some ⟨g, 0, none⟩) 24 24, .int .i64 0, .int .i64 2, .int .i64 2, .int .u8 102, .bool false] w fun e w' =>
      e = .returned (.slice (some ⟨gd, 0, none⟩) 4 24) ∧ Below B w w' ∧ w'.cell? ⟨gd, 0, none⟩ = some (.int .u8 48) ∧ w'.cell? ⟨gd, 1, none⟩ = some (.int .u8 46) ∧ w'.cell? ⟨gd, 2, none⟩ = some (.int .u8 51) ∧ w'.cell? ⟨gd, 3, none⟩ = some (.int .u8 56) := by
  have hT : Two B w gd g T (Array.replicate 24 y) w := ⟨hd, k0, k1, Below.refl _ _⟩
  have HT := Lib.hid hT
  obtain ⟨hgl, hgl2⟩ := hT.lt
  have c0 : w.cell? ⟨gd, 0, none⟩ = some y := (blk_cell hd 0).trans (by simp)
  have c1 : w.cell? ⟨gd, 1, none⟩ = some y := (blk_cell hd 1).trans (by simp)
  have f0 := blk_frozen hd 0
  have f1 := blk_frozen hd 1
  have hne' : g ≠ gd := fun h => hne h.symm
  clear hd hT
  have m1 : min (2 : Int) 0 = 0 := by decide
  have m2 : max (0 : Int) 2 = 2 := by decide
  have m3 : min (2 : Int) 2 = 2 := by decide
  have m4 : max (0 : Int) 0 = 0 := by decide
  go_enter Tryz.func122, Tryz.ntmps122
  go_wp2_with fail
  refine wp_loop_rounds 1 ?_
  rw [rounds_succ]
  go_wp2_with fail
  have HT2 := Lib.hid ((((HT.out.put hgd hne 0 (.int .u8 48) rfl).put hgd hne 1 (.int .u8 46) rfl).new (by simp; omega) (Obj.cells #[.int .u8 48] 5)).new (by simp; omega) (Obj.cells #[.int .u8 46] 5))
  clear HT c0 c1 f0 f1 k0 k1 hgl hgl2
  generalize hW : (((w.setCell ⟨gd, 0, none⟩ (.int .u8 48)).setCell ⟨gd, 1, none⟩ (.int .u8 46)).alloc (Obj.cells #[.int .u8 48] 5)).alloc (Obj.cells #[.int .u8 46] 5) = W at *
  clear hW
  obtain ⟨hgl, hgl2⟩ := HT2.out.lt
  have k0 := HT2.out.k0
  have c2 : W.cell? ⟨gd, 2, none⟩ = some y := (blk_cell HT2.out.row 2).trans rfl
  have f2 := blk_frozen HT2.out.row 2
  refine wp_loop_rounds 3 ?_
  rw [rounds_succ]
  go_wp2_with fail
  have hBW : B ≤ W.heap.size := HT2.out.below.size |> fun h => by omega
  have HT3 := Lib.hid ((HT2.out.put hgd hne 2 (.int .u8 51) rfl).new (by simp; omega) (Obj.cells #[.int .u8 51] 5))
  clear HT2 c2 f2 k0 hgl hgl2 hBW
  generalize hW : (W.setCell ⟨gd, 2, none⟩ (.int .u8 51)).alloc (Obj.cells #[.int .u8 51] 5) = W3 at *
  clear hW
  obtain ⟨hgl, hgl2⟩ := HT3.out.lt
  have k1 := HT3.out.k1
  have c3 : W3.cell? ⟨gd, 3, none⟩ = some y := (blk_cell HT3.out.row 3).trans rfl
  have f3 := blk_frozen HT3.out.row 3
  rw [rounds_succ]
  go_wp2_with fail
  have HT4 := Lib.hid ((HT3.out.put hgd hne 3 (.int .u8 56) rfl).new (by simp; omega) (Obj.cells #[.int .u8 56] 5))
  clear HT3 c3 f3 k1 hgl hgl2
  generalize hW : (W3.setCell ⟨gd, 3, none⟩ (.int .u8 56)).alloc (Obj.cells #[.int .u8 56] 5) = W4 at *
  clear hW
  rw [rounds_succ]
  go_wp2_with fail
  refine wp_loop_rounds 1 ?_
  rw [rounds_succ]
  go_wp2_with fail
  go_ret
  have hr := HT4.out.row
  exact ⟨rfl, HT4.out.below, (blk_cell hr 0).trans rfl, (blk_cell hr 1).trans rfl, (blk_cell hr 2).trans rfl, (blk_cell hr 3).trans rfl⟩
end Go.Proofs.YtjpiplplohapnaaGreatDoor
namespace Go.Proofs.YtjpiplplohapnaaGreatDoor
open Go.RowKit Go.Sort Go.Proofs.YtjpiplplohapnaaGreatDoorW.PrintWords
theorem numDigits_38 (w : World) (ht : Lib.TabIs Tryz.prog w "internal/strconv.uint64pow10" .u64 Lib.pow10Tab) : Calls Tryz.prog 101 #[.int .u64 38] w fun e w' => e = .returned (.int .i64 2) ∧ w' = w := by
  have h := Tryz.internal_strconv_numDigits 38 (by decide) (by decide) w ht
  have e : ((Lib.nDigits 38 : Nat) : Int) = 2 := by decide +kernel
  rw [e] at h
  exact h
set_option maxRecDepth 100000 in
set_option maxHeartbeats 1000000 in
theorem ftoa_375 (w : World) (hL : Laid w) (gd B : Nat) (hgd : B ≤ gd) (T : TypeId) (y : Value) (hd : w.heap[gd]? = some (.cells (Array.replicate 24 y) T (0, 0))) (_hB : 17 ≤ B) (hBw : B ≤ w.heap.size) :
    Calls Tryz.prog 95 #[.slice (some ⟨gd, 0, none⟩) 0 24, .float .f64 4600427019358961664, .int .u8 102, .int .i64 2] w fun e w' =>
      e = .returned (.slice (some ⟨gd, 0, none⟩) 4 24) ∧ Below B w w' ∧ w'.cell? ⟨gd, 0, none⟩ = some (.int .u8 48) ∧ w'.cell? ⟨gd, 1, none⟩ = some (.int .u8 46) ∧ w'.cell? ⟨gd, 2, none⟩ = some (.int .u8 51) ∧ w'.cell? ⟨gd, 3, none⟩ = some (.int .u8 56) := by
  have hbits := bits119 4600427019358961664
  have ho := hL.optCell
  have s1 : ∀ W, (Op.shift BinOp.shr .u64 4600427019358961664 .i64 63).run Tryz.prog W = .ok (.int .u64 0) W := fun W => by kernel_rfl
  have s2 : ∀ W, (Op.shift BinOp.shr .u64 4600427019358961664 .i64 52).run Tryz.prog W = .ok (.int .u64 1021) W := fun W => by kernel_rfl
  have s3 : ∀ W, (Op.shift BinOp.shl .i64 1 .i64 11).run Tryz.prog W = .ok (.int .i64 2048) W := fun W => by kernel_rfl
  have s4 : ∀ W, (Op.shift BinOp.shl .u64 1 .i64 52).run Tryz.prog W = .ok (.int .u64 4503599627370496) W := fun W => by kernel_rfl
  have s5 : ∀ W, (Op.shift BinOp.shl .u64 6755399441055744 .i64 11).run Tryz.prog W = .ok (.int .u64 13835058055282163712) W := fun W => by kernel_rfl
  have a1 : Go.bits .and .i64 1021 2047 = 1021 := by decide +kernel
  have a2 : Go.bits .and .u64 4600427019358961664 4503599627370495 = 2251799813685248 := by decide +kernel
  have a3 : Go.bits .or .u64 2251799813685248 4503599627370496 = 6755399441055744 := by decide +kernel
  have HD := Lib.hid hd
  clear hd
  go_enter Tryz.func95, Tryz.ntmps95
  go_wp2_with fail
  go_quiet (fail)
  go_wp2_with fail
  have hb1 : Below B w (w.drewN nq) := below_drewN (Below.refl _ _) _
  have HD1 : Hid ((w.drewN nq).heap[gd]? = some (.cells (Array.replicate 24 y) T (0, 0))) := Lib.hid HD.out
  have hL1 : Laid (w.drewN nq) := hL.below (below_drewN (Below.refl _ _) _)
  have hz1 : B ≤ (w.drewN nq).heap.size := hBw
  clear HD hL hBw ho
  generalize hW : w.drewN nq = w1s at *
  clear hW
  refine (log10_calls 2 0 (by decide +kernel) _).mono ?_
  rintro e w2 ⟨rfl, hb2⟩
  go_wp2_with fail
  refine (Tryz.bits_Len64 6755399441055744 _ (by decide) (by decide)).mono ?_
  rintro e w3 ⟨rfl, rfl⟩
  rw [show ((Lib.bitLen (6755399441055744 : Int).toNat : Nat) : Int) = 53 from by decide +kernel]
  go_wp2_with fail
  have HG := Lib.hid (blk_new w2 (.cells (Array.replicate 24 (.int .u8 0)) 126 (0, 0)))
  have hL2 : Laid w2 := hL1.below hb2
  have hB2 : B ≤ w2.heap.size := Nat.le_trans hz1 hb2.size
  have hb02 : Below B w w2 := hb1.trans (hb2.mono hz1)
  have HD2 := Lib.hid (blk_below HD1.out hb2)
  have hgdl : gd < w2.heap.size := (Array.getElem?_eq_some_iff.1 HD2.out).1
  have HD3 := Lib.hid (blk_alloc HD2.out (.cells (Array.replicate 24 (.int .u8 0)) 126 (0, 0)))
  have hL3 : Laid (w2.alloc (.cells (Array.replicate 24 (.int .u8 0)) 126 (0, 0))) := hL2.below ((Below.refl _ _).alloc (Nat.le_refl _) _)
  have hb03 : Below B w (w2.alloc (.cells (Array.replicate 24 (.int .u8 0)) 126 (0, 0))) := hb02.alloc hB2 _
  have hz3 : (w2.alloc (.cells (Array.replicate 24 (.int .u8 0)) 126 (0, 0))).heap.size = w2.heap.size + 1 := by simp
  clear HD1 HD2 hL1 hL2 hb1 hb2
  generalize hgg : w2.heap.size = g at *
  refine (fixed_375 (w2.alloc (.cells (Array.replicate 24 (.int .u8 0)) 126 (0, 0))) hL3).mono ?_
  rintro e w4 ⟨rfl, hb4⟩
  have hg4 := Lib.hid (blk_below HG.out hb4)
  have HD4 := Lib.hid (blk_below HD3.out hb4)
  have hL4 := hL3.below hb4
  have hb04 := hb03.trans (hb4.mono (by omega))
  have hz4 : g < w4.heap.size := (Array.getElem?_eq_some_iff.1 hg4.out).1
  clear HG HD3 hL3 hb03 hz3 hb4 hgg
  go_wp2_with fail
  have c0 : w4.cell? ⟨g, 0, none⟩ = some (.int .u8 0) := (blk_cell hg4.out 0).trans rfl
  have c1 : w4.cell? ⟨g, 1, none⟩ = some (.int .u8 0) := (blk_cell hg4.out 1).trans rfl
  have f0 := blk_frozen hg4.out 0
  have f1 := blk_frozen hg4.out 1
  have ht4 := Lib.hid hL4.u10
  trace "region"
  go_region_with (first | (go_at_call 101; refine (numDigits_38 _ (by exact ht4.out)).mono ?_; rintro e w' ⟨rfl, rfl⟩) | (go_at_call 125; refine (setDigits_38 _ g g (Nat.le_refl _) (by exact c0) (by exact c1) (by exact f0) (by exact f1)).mono ?_; rintro e w5 ⟨rfl, hb5, k0, k1⟩))
  have HD5 : w5.heap[gd]? = some (.cells (Array.replicate 24 y) T (0, 0)) := (hb5.block gd (by omega)).trans HD4.out
  have HD5 := Lib.hid HD5
  have hb05 : Below B w w5 := hb04.trans ((below_drewN (Below.refl B w4) 1).trans (hb5.mono (by omega)))
  clear c0 c1 f0 f1 ht4 hL4 hg4 HD4 hb04
  go_wp2_with fail
  refine (fmt_38 w5 g gd B hgd (by omega) T y HD5.out k0 k1).mono ?_
  rintro e w6 ⟨rfl, hb6, r0, r1, r2, r3⟩
  go_wp2_with fail
  go_ret
  exact ⟨rfl, hb05.trans hb6, r0, r1, r2, r3⟩
end Go.Proofs.YtjpiplplohapnaaGreatDoor
namespace Go.Proofs.YtjpiplplohapnaaGreatDoor
open Go.RowKit Go.Sort Go.Proofs.YtjpiplplohapnaaGreatDoorW.PrintWords
set_option maxRecDepth 100000 in
set_option maxHeartbeats 1000000 in
theorem iformat_375 (w : World) (hL : Laid w) :
    Calls Tryz.prog 67 #[.float .f64 4600427019358961664, .int .u8 102, .int .i64 2, .int .i64 64] w fun e w' => e = .returned (.string ⟨#[48, 46, 51, 56]⟩) ∧ Below w.heap.size w w' := by
  have m1 : max (6 : Int) 24 = 24 := by decide
  have hmk : ∀ W, (Instr.makeSlice 94 (.int .i64 0) (.int .i64 24)).run Tryz.prog W = .ok (.slice (some ⟨W.heap.size, 0, none⟩) 0 24) (W.alloc (.cells (Array.replicate 24 (.int .u8 0)) 5)) := fun W => by kernel_rfl
  go_enter Tryz.func67, Tryz.ntmps67
  go_wp2_with fail
  have hs17 := hL.size
  refine (ftoa_375 _ (hL.below ((Below.refl _ _).alloc (Nat.le_refl _) _)) w.heap.size w.heap.size (Nat.le_refl _) 5 (.int .u8 0) (blk_new _ _) hs17 (by simp)).mono ?_
  rintro e w2 ⟨rfl, hb2, r0, r1, r2, r3⟩
  have hcv : (convert 94 9 (.slice (some ⟨w.heap.size, 0, none⟩) 4 24)).run Tryz.prog w2 = .ok (.string ⟨#[48, 46, 51, 56]⟩) w2 := by
    rw [run_convert_bytes_string w2 94 9 5 _ 4 24 Tryz.underlying94 Tryz.underlying5 Tryz.underlying9]
    rw [run_bytesToString w2 _ 4 24 [48, 46, 51, 56] (by simp [loadCells, r0, r1, r2, r3, go_sem])]
    rfl
  go_wp2_with fail
  go_ret
  exact ⟨rfl, ((Below.refl _ _).alloc (Nat.le_refl _) _).trans hb2⟩
set_option maxHeartbeats 1000000 in
theorem sformat_375 (w : World) (hL : Laid w) :
    Calls Tryz.prog 31 #[.float .f64 4600427019358961664, .int .u8 102, .int .i64 2, .int .i64 64] w fun e w' => e = .returned (.string ⟨#[48, 46, 51, 56]⟩) ∧ Below w.heap.size w w' := by
  go_enter Tryz.func31, Tryz.ntmps31
  go_wp2_with fail
  refine (iformat_375 _ hL).mono ?_
  rintro e w1 ⟨rfl, hb1⟩
  go_wp2_with fail
  go_ret
  exact ⟨rfl, hb1⟩
set_option maxRecDepth 100000 in
set_option maxHeartbeats 1000000 in
theorem print_375 (w : World) (hL : Laid w) :
    Calls Tryz.prog 14 #[.float .f64 4600427019358961664, .int .i64 2] w fun e w' => e = .returned (.tuple #[.string ⟨#[48, 46, 51, 56]⟩, .int .i64 0]) ∧ Below w.heap.size w w' := by
  go_enter Tryz.func14, Tryz.ntmps14
  go_wp2_with fail
  refine (number_375 _).mono ?_
  rintro e w1 ⟨rfl, rfl⟩
  go_wp2_with fail
  refine (sformat_375 _ hL).mono ?_
  rintro e w2 ⟨rfl, hb2⟩
  go_wp2_with fail
  go_ret2
  exact ⟨rfl, hb2⟩
end Go.Proofs.YtjpiplplohapnaaGreatDoor
namespace Go.Proofs.YtjpiplplohapnaaGreatDoor
open Go.RowKit Go.Sort Go.Proofs.YtjpiplplohapnaaGreatDoorW.PrintWords
set_option maxRecDepth 100000 in
theorem negative_15 (w : World) : Calls Tryz.prog 48 #[.float .f64 4609434218613702656] w fun e w' => e = .returned (.bool false) ∧ w' = w := by
  have s1 : ∀ W, (Op.shift BinOp.shr .u64 4609434218613702656 .i64 63).run Tryz.prog W = .ok (.int .u64 0) W := fun W => by kernel_rfl
  go_enter Tryz.func48, Tryz.ntmps48
  go_wp2_with fail
  refine (class_15 _).mono ?_
  rintro e w' ⟨rfl, rfl⟩
  go_wp2_with fail
  refine (apiBits 4609434218613702656 _).mono ?_
  rintro e w' ⟨rfl, rfl⟩
  go_wp2_with fail
  go_ret
  exact ⟨rfl, rfl⟩
set_option maxRecDepth 100000 in
theorem split_15 (w : World) : Calls Tryz.prog 47 #[.float .f64 4609434218613702656] w fun e w' => e = .returned (.tuple #[.int .i64 6755399441055744, .int .i64 (-52), .bool true]) ∧ w' = w := by
  have s1 : ∀ W, (Op.shift BinOp.shr .u64 4609434218613702656 .i64 52).run Tryz.prog W = .ok (.int .u64 1023) W := fun W => by kernel_rfl
  have a2 : Go.bits .and .u64 4609434218613702656 4503599627370495 = 2251799813685248 := by decide +kernel
  have a3 : Go.bits .or .u64 2251799813685248 4503599627370496 = 6755399441055744 := by decide +kernel
  go_enter Tryz.func47, Tryz.ntmps47
  go_wp2_with fail
  refine (size_calls 4609434218613702656 4609434218613702656 (by decide +kernel) _).mono ?_
  rintro e w' ⟨rfl, rfl⟩
  go_wp2_with fail
  refine (class_15 _).mono ?_
  rintro e w' ⟨rfl, rfl⟩
  go_wp2_with fail
  refine (negative_15 _).mono ?_
  rintro e w' ⟨rfl, rfl⟩
  go_wp2_with fail
  go_ret3
  exact ⟨rfl, rfl⟩
theorem db_15 {w : World} (h : Laid w) : w.cell? ⟨14, 15, none⟩ = some (.int .u8 4) := by
  have := World.var?_cell gDb h.db 15
  exact this.trans (by kernel_rfl)
set_option maxRecDepth 100000 in
theorem tz64_16 (w : World) (hL : Laid w) : Calls Tryz.prog 175 #[.int .u64 16] w fun e w' => e = .returned (.int .i64 4) ∧ Below w.heap.size w w' := by
  have hc := db_15 hL
  have a0 : IntKind.u64.wrap (-16) = 18446744073709551600 := by decide +kernel
  have a1 : Go.bits .and .u64 16 18446744073709551600 = 16 := by decide +kernel
  have a2 : IntKind.u64.wrap 4573923408821661840 = 4573923408821661840 := by decide +kernel
  go_enter Tryz.func175, Tryz.ntmps175
  go_wp2_with fail
  go_ret
  exact ⟨rfl, Below.refl _ _⟩
set_option maxRecDepth 100000 in
theorem tz_16 (w : World) (hL : Laid w) : Calls Tryz.prog 135 #[.int .u64 16] w fun e w' => e = .returned (.int .i64 4) ∧ Below w.heap.size w w' := by
  go_enter Tryz.func135, Tryz.ntmps135
  go_wp2_with fail
  refine (tz64_16 _ hL).mono ?_
  rintro e w1 ⟨rfl, hb1⟩
  go_wp2_with fail
  go_ret
  exact ⟨rfl, hb1⟩
theorem pow2_16 (w : World) : Calls Tryz.prog 134 #[.int .i64 16] w fun e w' => e = .returned (.bool true) ∧ Below w.heap.size w w' :=
  (PText.strconv_isPowerOfTwo.calls 16 true w (by decide +kernel)).mono fun _ _ ⟨h1, h2⟩ => ⟨h1, h2.below⟩
set_option maxRecDepth 100000 in
set_option maxHeartbeats 1000000 in
theorem formatBits_15 (w : World) (hL : Laid w) : Calls Tryz.prog 103 #[.slice none 0 0, .int .u64 2251799813685248, .int .i64 16, .bool false, .bool false] w fun e w' => e = .returned (.tuple #[.slice none 0 0, .string ⟨#[56, 48, 48, 48, 48, 48, 48, 48, 48, 48, 48, 48, 48]⟩]) ∧ Below w.heap.size w w' := by
  have s0 : ∀ W, (Op.shift BinOp.shr .u64 2251799813685248 .u64 4).run Tryz.prog W = .ok (.int .u64 140737488355328) W := fun W => by kernel_rfl
  have n0 : Go.bits .and .u64 2251799813685248 15 = 0 := by decide +kernel
  have s1 : ∀ W, (Op.shift BinOp.shr .u64 140737488355328 .u64 4).run Tryz.prog W = .ok (.int .u64 8796093022208) W := fun W => by kernel_rfl
  have n1 : Go.bits .and .u64 140737488355328 15 = 0 := by decide +kernel
  have s2 : ∀ W, (Op.shift BinOp.shr .u64 8796093022208 .u64 4).run Tryz.prog W = .ok (.int .u64 549755813888) W := fun W => by kernel_rfl
  have n2 : Go.bits .and .u64 8796093022208 15 = 0 := by decide +kernel
  have s3 : ∀ W, (Op.shift BinOp.shr .u64 549755813888 .u64 4).run Tryz.prog W = .ok (.int .u64 34359738368) W := fun W => by kernel_rfl
  have n3 : Go.bits .and .u64 549755813888 15 = 0 := by decide +kernel
  have s4 : ∀ W, (Op.shift BinOp.shr .u64 34359738368 .u64 4).run Tryz.prog W = .ok (.int .u64 2147483648) W := fun W => by kernel_rfl
  have n4 : Go.bits .and .u64 34359738368 15 = 0 := by decide +kernel
  have s5 : ∀ W, (Op.shift BinOp.shr .u64 2147483648 .u64 4).run Tryz.prog W = .ok (.int .u64 134217728) W := fun W => by kernel_rfl
  have n5 : Go.bits .and .u64 2147483648 15 = 0 := by decide +kernel
  have s6 : ∀ W, (Op.shift BinOp.shr .u64 134217728 .u64 4).run Tryz.prog W = .ok (.int .u64 8388608) W := fun W => by kernel_rfl
  have n6 : Go.bits .and .u64 134217728 15 = 0 := by decide +kernel
  have s7 : ∀ W, (Op.shift BinOp.shr .u64 8388608 .u64 4).run Tryz.prog W = .ok (.int .u64 524288) W := fun W => by kernel_rfl
  have n7 : Go.bits .and .u64 8388608 15 = 0 := by decide +kernel
  have s8 : ∀ W, (Op.shift BinOp.shr .u64 524288 .u64 4).run Tryz.prog W = .ok (.int .u64 32768) W := fun W => by kernel_rfl
  have n8 : Go.bits .and .u64 524288 15 = 0 := by decide +kernel
  have s9 : ∀ W, (Op.shift BinOp.shr .u64 32768 .u64 4).run Tryz.prog W = .ok (.int .u64 2048) W := fun W => by kernel_rfl
  have n9 : Go.bits .and .u64 32768 15 = 0 := by decide +kernel
  have s10 : ∀ W, (Op.shift BinOp.shr .u64 2048 .u64 4).run Tryz.prog W = .ok (.int .u64 128) W := fun W => by kernel_rfl
  have n10 : Go.bits .and .u64 2048 15 = 0 := by decide +kernel
  have s11 : ∀ W, (Op.shift BinOp.shr .u64 128 .u64 4).run Tryz.prog W = .ok (.int .u64 8) W := fun W => by kernel_rfl
  have n11 : Go.bits .and .u64 128 15 = 0 := by decide +kernel
  have HG := Lib.hid (blk_new w (.cells Tryz.zeroCells168 168 (0, 0)))
  have hL0 : Laid (w.alloc (.cells Tryz.zeroCells168 168 (0, 0))) := hL.below ((Below.refl _ _).alloc (Nat.le_refl _) _)
  have hb0 : Below w.heap.size w (w.alloc (.cells Tryz.zeroCells168 168 (0, 0))) := (Below.refl _ _).alloc (Nat.le_refl _) _
  go_enter Tryz.func103, Tryz.ntmps103
  go_wp2_with fail
  refine (pow2_16 _).mono ?_
  rintro e w1 ⟨rfl, hb1⟩
  have HG1 := Lib.hid (blk_below HG.out hb1)
  have hL1 := hL0.below hb1
  have hb01 := hb0.trans (hb1.mono (by simp))
  go_wp2_with fail
  refine (tz_16 _ hL1).mono ?_
  rintro e w2 ⟨rfl, hb2⟩
  have HG2 := Lib.hid (blk_below HG1.out hb2)
  have hb02 := hb01.trans (hb2.mono hb01.size)
  clear HG HG1 hL0 hL1 hb0 hb1 hb01 hb2
  go_wp2_with fail
  refine wp_loop_rounds 13 ?_
  have hg : w.heap.size < w2.heap.size := (Array.getElem?_eq_some_iff.1 HG2.out).1
  have c0 : w2.cell? ⟨w.heap.size, 64, none⟩ = some (.int .u8 0) := (blk_cell HG2.out 64).trans (by kernel_rfl)
  have f0 := blk_frozen HG2.out 64
  rw [rounds_succ]
  go_wp2_with fail
  show Code.rounds Tryz.prog _ _ _ _ (w2.setCell ⟨_, 64, none⟩ (.int .u8 48))
  have HV0 := Lib.hid (blk_put HG2.out 64 (.int .u8 48) rfl)
  have hv0 := hb02.setCell (p := ⟨w.heap.size, 64, none⟩) (Nat.le_refl _) (.int .u8 48)
  clear hg c0 f0 HG2 hb02
  generalize w2.setCell ⟨w.heap.size, 64, none⟩ (.int .u8 48) = v0 at *
  have hg : w.heap.size < v0.heap.size := (Array.getElem?_eq_some_iff.1 HV0.out).1
  have c0 : v0.cell? ⟨w.heap.size, 63, none⟩ = some (.int .u8 0) := (blk_cell HV0.out 63).trans (by kernel_rfl)
  have f0 := blk_frozen HV0.out 63
  rw [rounds_succ]
  go_wp2_with fail
  show Code.rounds Tryz.prog _ _ _ _ (v0.setCell ⟨_, 63, none⟩ (.int .u8 48))
  have HV1 := Lib.hid (blk_put HV0.out 63 (.int .u8 48) rfl)
  have hv1 := hv0.setCell (p := ⟨w.heap.size, 63, none⟩) (Nat.le_refl _) (.int .u8 48)
  clear hg c0 f0 HV0 hv0
  generalize v0.setCell ⟨w.heap.size, 63, none⟩ (.int .u8 48) = v1 at *
  have hg : w.heap.size < v1.heap.size := (Array.getElem?_eq_some_iff.1 HV1.out).1
  have c0 : v1.cell? ⟨w.heap.size, 62, none⟩ = some (.int .u8 0) := (blk_cell HV1.out 62).trans (by kernel_rfl)
  have f0 := blk_frozen HV1.out 62
  rw [rounds_succ]
  go_wp2_with fail
  show Code.rounds Tryz.prog _ _ _ _ (v1.setCell ⟨_, 62, none⟩ (.int .u8 48))
  have HV2 := Lib.hid (blk_put HV1.out 62 (.int .u8 48) rfl)
  have hv2 := hv1.setCell (p := ⟨w.heap.size, 62, none⟩) (Nat.le_refl _) (.int .u8 48)
  clear hg c0 f0 HV1 hv1
  generalize v1.setCell ⟨w.heap.size, 62, none⟩ (.int .u8 48) = v2 at *
  have hg : w.heap.size < v2.heap.size := (Array.getElem?_eq_some_iff.1 HV2.out).1
  have c0 : v2.cell? ⟨w.heap.size, 61, none⟩ = some (.int .u8 0) := (blk_cell HV2.out 61).trans (by kernel_rfl)
  have f0 := blk_frozen HV2.out 61
  rw [rounds_succ]
  go_wp2_with fail
  show Code.rounds Tryz.prog _ _ _ _ (v2.setCell ⟨_, 61, none⟩ (.int .u8 48))
  have HV3 := Lib.hid (blk_put HV2.out 61 (.int .u8 48) rfl)
  have hv3 := hv2.setCell (p := ⟨w.heap.size, 61, none⟩) (Nat.le_refl _) (.int .u8 48)
  clear hg c0 f0 HV2 hv2
  generalize v2.setCell ⟨w.heap.size, 61, none⟩ (.int .u8 48) = v3 at *
  have hg : w.heap.size < v3.heap.size := (Array.getElem?_eq_some_iff.1 HV3.out).1
  have c0 : v3.cell? ⟨w.heap.size, 60, none⟩ = some (.int .u8 0) := (blk_cell HV3.out 60).trans (by kernel_rfl)
  have f0 := blk_frozen HV3.out 60
  rw [rounds_succ]
  go_wp2_with fail
  show Code.rounds Tryz.prog _ _ _ _ (v3.setCell ⟨_, 60, none⟩ (.int .u8 48))
  have HV4 := Lib.hid (blk_put HV3.out 60 (.int .u8 48) rfl)
  have hv4 := hv3.setCell (p := ⟨w.heap.size, 60, none⟩) (Nat.le_refl _) (.int .u8 48)
  clear hg c0 f0 HV3 hv3
  generalize v3.setCell ⟨w.heap.size, 60, none⟩ (.int .u8 48) = v4 at *
  have hg : w.heap.size < v4.heap.size := (Array.getElem?_eq_some_iff.1 HV4.out).1
  have c0 : v4.cell? ⟨w.heap.size, 59, none⟩ = some (.int .u8 0) := (blk_cell HV4.out 59).trans (by kernel_rfl)
  have f0 := blk_frozen HV4.out 59
  rw [rounds_succ]
  go_wp2_with fail
  show Code.rounds Tryz.prog _ _ _ _ (v4.setCell ⟨_, 59, none⟩ (.int .u8 48))
  have HV5 := Lib.hid (blk_put HV4.out 59 (.int .u8 48) rfl)
  have hv5 := hv4.setCell (p := ⟨w.heap.size, 59, none⟩) (Nat.le_refl _) (.int .u8 48)
  clear hg c0 f0 HV4 hv4
  generalize v4.setCell ⟨w.heap.size, 59, none⟩ (.int .u8 48) = v5 at *
  have hg : w.heap.size < v5.heap.size := (Array.getElem?_eq_some_iff.1 HV5.out).1
  have c0 : v5.cell? ⟨w.heap.size, 58, none⟩ = some (.int .u8 0) := (blk_cell HV5.out 58).trans (by kernel_rfl)
  have f0 := blk_frozen HV5.out 58
  rw [rounds_succ]
  go_wp2_with fail
  show Code.rounds Tryz.prog _ _ _ _ (v5.setCell ⟨_, 58, none⟩ (.int .u8 48))
  have HV6 := Lib.hid (blk_put HV5.out 58 (.int .u8 48) rfl)
  have hv6 := hv5.setCell (p := ⟨w.heap.size, 58, none⟩) (Nat.le_refl _) (.int .u8 48)
  clear hg c0 f0 HV5 hv5
  generalize v5.setCell ⟨w.heap.size, 58, none⟩ (.int .u8 48) = v6 at *
  have hg : w.heap.size < v6.heap.size := (Array.getElem?_eq_some_iff.1 HV6.out).1
  have c0 : v6.cell? ⟨w.heap.size, 57, none⟩ = some (.int .u8 0) := (blk_cell HV6.out 57).trans (by kernel_rfl)
  have f0 := blk_frozen HV6.out 57
  rw [rounds_succ]
  go_wp2_with fail
  show Code.rounds Tryz.prog _ _ _ _ (v6.setCell ⟨_, 57, none⟩ (.int .u8 48))
  have HV7 := Lib.hid (blk_put HV6.out 57 (.int .u8 48) rfl)
  have hv7 := hv6.setCell (p := ⟨w.heap.size, 57, none⟩) (Nat.le_refl _) (.int .u8 48)
  clear hg c0 f0 HV6 hv6
  generalize v6.setCell ⟨w.heap.size, 57, none⟩ (.int .u8 48) = v7 at *
  have hg : w.heap.size < v7.heap.size := (Array.getElem?_eq_some_iff.1 HV7.out).1
  have c0 : v7.cell? ⟨w.heap.size, 56, none⟩ = some (.int .u8 0) := (blk_cell HV7.out 56).trans (by kernel_rfl)
  have f0 := blk_frozen HV7.out 56
  rw [rounds_succ]
  go_wp2_with fail
  show Code.rounds Tryz.prog _ _ _ _ (v7.setCell ⟨_, 56, none⟩ (.int .u8 48))
  have HV8 := Lib.hid (blk_put HV7.out 56 (.int .u8 48) rfl)
  have hv8 := hv7.setCell (p := ⟨w.heap.size, 56, none⟩) (Nat.le_refl _) (.int .u8 48)
  clear hg c0 f0 HV7 hv7
  generalize v7.setCell ⟨w.heap.size, 56, none⟩ (.int .u8 48) = v8 at *
  have hg : w.heap.size < v8.heap.size := (Array.getElem?_eq_some_iff.1 HV8.out).1
  have c0 : v8.cell? ⟨w.heap.size, 55, none⟩ = some (.int .u8 0) := (blk_cell HV8.out 55).trans (by kernel_rfl)
  have f0 := blk_frozen HV8.out 55
  rw [rounds_succ]
  go_wp2_with fail
  show Code.rounds Tryz.prog _ _ _ _ (v8.setCell ⟨_, 55, none⟩ (.int .u8 48))
  have HV9 := Lib.hid (blk_put HV8.out 55 (.int .u8 48) rfl)
  have hv9 := hv8.setCell (p := ⟨w.heap.size, 55, none⟩) (Nat.le_refl _) (.int .u8 48)
  clear hg c0 f0 HV8 hv8
  generalize v8.setCell ⟨w.heap.size, 55, none⟩ (.int .u8 48) = v9 at *
  have hg : w.heap.size < v9.heap.size := (Array.getElem?_eq_some_iff.1 HV9.out).1
  have c0 : v9.cell? ⟨w.heap.size, 54, none⟩ = some (.int .u8 0) := (blk_cell HV9.out 54).trans (by kernel_rfl)
  have f0 := blk_frozen HV9.out 54
  rw [rounds_succ]
  go_wp2_with fail
  show Code.rounds Tryz.prog _ _ _ _ (v9.setCell ⟨_, 54, none⟩ (.int .u8 48))
  have HV10 := Lib.hid (blk_put HV9.out 54 (.int .u8 48) rfl)
  have hv10 := hv9.setCell (p := ⟨w.heap.size, 54, none⟩) (Nat.le_refl _) (.int .u8 48)
  clear hg c0 f0 HV9 hv9
  generalize v9.setCell ⟨w.heap.size, 54, none⟩ (.int .u8 48) = v10 at *
  have hg : w.heap.size < v10.heap.size := (Array.getElem?_eq_some_iff.1 HV10.out).1
  have c0 : v10.cell? ⟨w.heap.size, 53, none⟩ = some (.int .u8 0) := (blk_cell HV10.out 53).trans (by kernel_rfl)
  have f0 := blk_frozen HV10.out 53
  rw [rounds_succ]
  go_wp2_with fail
  show Code.rounds Tryz.prog _ _ _ _ (v10.setCell ⟨_, 53, none⟩ (.int .u8 48))
  have HV11 := Lib.hid (blk_put HV10.out 53 (.int .u8 48) rfl)
  have hv11 := hv10.setCell (p := ⟨w.heap.size, 53, none⟩) (Nat.le_refl _) (.int .u8 48)
  clear hg c0 f0 HV10 hv10
  generalize v10.setCell ⟨w.heap.size, 53, none⟩ (.int .u8 48) = v11 at *
  have hg : w.heap.size < v11.heap.size := (Array.getElem?_eq_some_iff.1 HV11.out).1
  have c0 : v11.cell? ⟨w.heap.size, 52, none⟩ = some (.int .u8 0) := (blk_cell HV11.out 52).trans (by kernel_rfl)
  have f0 := blk_frozen HV11.out 52
  have HV12 := Lib.hid (blk_put HV11.out 52 (.int .u8 56) rfl)
  have hv12 := hv11.setCell (p := ⟨w.heap.size, 52, none⟩) (Nat.le_refl _) (.int .u8 56)
  have hcv' : (convert 94 9 (.slice (some ⟨w.heap.size, 52, none⟩) 13 13)).run Tryz.prog (v11.setCell ⟨w.heap.size, 52, none⟩ (.int .u8 56)) = .ok (.string ⟨#[56, 48, 48, 48, 48, 48, 48, 48, 48, 48, 48, 48, 48]⟩) (v11.setCell ⟨w.heap.size, 52, none⟩ (.int .u8 56)) := by
    clear hg c0 f0 hv12 HV11 hv11
    generalize v11.setCell ⟨w.heap.size, 52, none⟩ (.int .u8 56) = v12 at *
    rw [run_convert_bytes_string v12 94 9 5 _ 13 13 Tryz.underlying94 Tryz.underlying5 Tryz.underlying9]
    rw [run_bytesToString v12 _ 13 13 [56, 48, 48, 48, 48, 48, 48, 48, 48, 48, 48, 48, 48] (by
      have d0 : v12.cell? ⟨w.heap.size, 52, none⟩ = some (.int .u8 56) := (blk_cell HV12.out 52).trans (by kernel_rfl)
      have d1 : v12.cell? ⟨w.heap.size, 53, none⟩ = some (.int .u8 48) := (blk_cell HV12.out 53).trans (by kernel_rfl)
      have d2 : v12.cell? ⟨w.heap.size, 54, none⟩ = some (.int .u8 48) := (blk_cell HV12.out 54).trans (by kernel_rfl)
      have d3 : v12.cell? ⟨w.heap.size, 55, none⟩ = some (.int .u8 48) := (blk_cell HV12.out 55).trans (by kernel_rfl)
      have d4 : v12.cell? ⟨w.heap.size, 56, none⟩ = some (.int .u8 48) := (blk_cell HV12.out 56).trans (by kernel_rfl)
      have d5 : v12.cell? ⟨w.heap.size, 57, none⟩ = some (.int .u8 48) := (blk_cell HV12.out 57).trans (by kernel_rfl)
      have d6 : v12.cell? ⟨w.heap.size, 58, none⟩ = some (.int .u8 48) := (blk_cell HV12.out 58).trans (by kernel_rfl)
      have d7 : v12.cell? ⟨w.heap.size, 59, none⟩ = some (.int .u8 48) := (blk_cell HV12.out 59).trans (by kernel_rfl)
      have d8 : v12.cell? ⟨w.heap.size, 60, none⟩ = some (.int .u8 48) := (blk_cell HV12.out 60).trans (by kernel_rfl)
      have d9 : v12.cell? ⟨w.heap.size, 61, none⟩ = some (.int .u8 48) := (blk_cell HV12.out 61).trans (by kernel_rfl)
      have d10 : v12.cell? ⟨w.heap.size, 62, none⟩ = some (.int .u8 48) := (blk_cell HV12.out 62).trans (by kernel_rfl)
      have d11 : v12.cell? ⟨w.heap.size, 63, none⟩ = some (.int .u8 48) := (blk_cell HV12.out 63).trans (by kernel_rfl)
      have d12 : v12.cell? ⟨w.heap.size, 64, none⟩ = some (.int .u8 48) := (blk_cell HV12.out 64).trans (by kernel_rfl)
      simp [loadCells, d0, d1, d2, d3, d4, d5, d6, d7, d8, d9, d10, d11, d12, go_sem])]
    rfl
  have hcv : (convert 94 9 (.slice (some ⟨w.heap.size, 52, none⟩) 13 13)).run Tryz.prog (v11.setCell ⟨w.heap.size, 52, none⟩ (.int .u8 (({ data := #[48, 49, 50, 51, 52, 53, 54, 55, 56, 57, 97, 98, 99, 100, 101, 102, 103, 104, 105, 106, 107, 108, 109, 110, 111, 112, 113, 114, 115, 116, 117, 118, 119, 120, 121, 122] } : ByteArray)[8]'(by decide)).toNat)) = .ok (.string ⟨#[56, 48, 48, 48, 48, 48, 48, 48, 48, 48, 48, 48, 48]⟩) (v11.setCell ⟨w.heap.size, 52, none⟩ (.int .u8 (({ data := #[48, 49, 50, 51, 52, 53, 54, 55, 56, 57, 97, 98, 99, 100, 101, 102, 103, 104, 105, 106, 107, 108, 109, 110, 111, 112, 113, 114, 115, 116, 117, 118, 119, 120, 121, 122] } : ByteArray)[8]'(by decide)).toNat)) := hcv'
  clear hcv' HV12
  rw [rounds_succ]
  go_wp2_with fail
  go_ret2
  exact ⟨rfl, hv12⟩
set_option maxHeartbeats 1000000 in
theorem formatUint_15 (w : World) (hL : Laid w) : Calls Tryz.prog 74 #[.int .u64 2251799813685248, .int .i64 16] w fun e w' => e = .returned (.string ⟨#[56, 48, 48, 48, 48, 48, 48, 48, 48, 48, 48, 48, 48]⟩) ∧ Below w.heap.size w w' := by
  go_enter Tryz.func74, Tryz.ntmps74
  go_wp2_with fail
  refine (formatBits_15 _ hL).mono ?_
  rintro e w1 ⟨rfl, hb1⟩
  go_wp2_with fail
  go_ret
  exact ⟨rfl, hb1⟩
set_option maxHeartbeats 1000000 in
theorem sformatUint_15 (w : World) (hL : Laid w) : Calls Tryz.prog 49 #[.int .u64 2251799813685248, .int .i64 16] w fun e w' => e = .returned (.string ⟨#[56, 48, 48, 48, 48, 48, 48, 48, 48, 48, 48, 48, 48]⟩) ∧ Below w.heap.size w w' := by
  go_enter Tryz.func49, Tryz.ntmps49
  go_wp2_with fail
  refine (formatUint_15 _ hL).mono ?_
  rintro e w1 ⟨rfl, hb1⟩
  go_wp2_with fail
  go_ret
  exact ⟨rfl, hb1⟩
set_option maxRecDepth 100000 in
set_option maxHeartbeats 1000000 in
theorem hex_15 (w : World) (hL : Laid w) : Calls Tryz.prog 19 #[.float .f64 4609434218613702656] w fun e w' => e = .returned (.tuple #[.string ⟨#[48, 120, 49, 46, 56, 112, 43, 48]⟩, .int .i64 0]) ∧ Below w.heap.size w w' := by
  have a1 : Go.bits .and .u64 6755399441055744 4503599627370495 = 2251799813685248 := by decide +kernel
  go_enter Tryz.func19, Tryz.ntmps19
  go_wp2_with fail
  refine (split_15 _).mono ?_
  rintro e w1 ⟨rfl, rfl⟩
  go_wp2_with fail
  refine (negative_15 _).mono ?_
  rintro e w1 ⟨rfl, rfl⟩
  go_wp2_with fail
  refine wp_loop_rounds 1 ?_
  rw [rounds_succ]
  go_wp2_with fail
  refine (sformatUint_15 _ hL).mono ?_
  rintro e w1 ⟨rfl, hb1⟩
  go_wp2_with fail
  refine (Tryz.strings_Repeat_zero _ _).mono ?_
  rintro e w2 ⟨rfl, rfl⟩
  go_wp2_with fail
  refine (Tryz.strings_TrimRight_one _ 48 (by decide) _ (by decide)).mono ?_
  rintro e w2 ⟨rfl, rfl⟩
  have et : (⟨(Lib.trimRightB (⟨#[]⟩ ++ ⟨#[56, 48, 48, 48, 48, 48, 48, 48, 48, 48, 48, 48, 48]⟩ : ByteArray).data.toList 48).toArray⟩ : ByteArray) = ⟨#[56]⟩ := by kernel_rfl
  rw [et]
  go_wp2_with fail
  have hi : Calls Tryz.prog 45 #[.int .i64 0] w2 fun e w' => e = .returned (.string ⟨#[48]⟩) ∧ w' = w2 := by
    have e0 : (⟨(Lib.decDigits 0).toArray⟩ : ByteArray) = ⟨#[48]⟩ := by simp [Lib.decDigits]
    have := Tryz.strconv_Itoa_small 0 (by decide) w2
    rw [e0] at this; exact this
  refine hi.mono ?_
  rintro e w3 ⟨rfl, rfl⟩
  go_wp2_with fail
  refine bodyPost_ret (v := .tuple #[.string ⟨#[48, 120, 49, 46, 56, 112, 43, 48]⟩, .int .i64 0]) (by simp [results, Tryz.results19, go_sem]; decide +kernel) rfl ?_
  exact ⟨rfl, hb1⟩
end Go.Proofs.YtjpiplplohapnaaGreatDoor
namespace Go.Proofs.YtjpiplplohapnaaGreatDoor
open Go.RowKit Go.Sort Go.Proofs.YtjpiplplohapnaaGreatDoorW.PrintWords
def hx (d : Nat) : UInt8 := if d < 10 then UInt8.ofNat (48 + d) else UInt8.ofNat (87 + d)
def hexL (x : Nat) : List UInt8 := if _h : x < 16 then [hx x] else hexL (x / 16) ++ [hx (x % 16)]
termination_by x
decreasing_by omega
theorem hexL_small {x : Nat} (h : x < 16) : hexL x = [hx x] := by rw [hexL, dif_pos h]
theorem hexL_step {x : Nat} (h : 16 ≤ x) : hexL x = hexL (x / 16) ++ [hx (x % 16)] := by rw [hexL, dif_neg (by omega)]
structure HexSt (w : World) (u x : Nat) (tl : List UInt8) (w' : World) : Prop where
  below : Below w.heap.size w w'
  row : ∃ cs : Array Value, w'.heap[w.heap.size]? = some (.cells cs 168 (0, 0)) ∧ cs.size = 65 ∧ ∀ j b, tl[j]? = some b → cs[65 - tl.length + j]? = some (encB b)
  val : hexL u = hexL x ++ tl
  len : x * 16 ^ tl.length ≤ u
  big : u < 18446744073709551616
  pos : tl = [] ∨ 1 ≤ x
theorem HexSt.short {w : World} {u x : Nat} {tl : List UInt8} {w' : World} (h : HexSt w u x tl w') (hx : 1 ≤ x) : tl.length < 16 := by
  have h1 := h.len
  have h2 := h.big
  rcases Nat.lt_or_ge tl.length 16 with h3 | h3
  · exact h3
  · have : 16 ^ 16 ≤ 16 ^ tl.length := Nat.pow_le_pow_right (by omega) h3
    have h4 : 1 * 16 ^ tl.length ≤ x * 16 ^ tl.length := Nat.mul_le_mul_right _ hx
    have h5 : (16 : Nat) ^ 16 = 18446744073709551616 := by decide
    omega
theorem row_put {w' : World} {g j : Nat} {tl : List UInt8} {b : UInt8} (hj : j + 1 + tl.length = 65)
    (h : ∃ cs : Array Value, w'.heap[g]? = some (.cells cs 168 (0, 0)) ∧ cs.size = 65 ∧ ∀ j b, tl[j]? = some b → cs[65 - tl.length + j]? = some (encB b)) :
    ∃ cs : Array Value, (w'.setCell ⟨g, j, none⟩ (encB b)).heap[g]? = some (.cells cs 168 (0, 0)) ∧ cs.size = 65 ∧ ∀ i c, (b :: tl)[i]? = some c → cs[65 - (b :: tl).length + i]? = some (encB c) := by
  obtain ⟨cs, h1, h2, h3⟩ := h
  refine ⟨cs.setIfInBounds j (encB b), blk_put h1 j _ rfl, by simp [h2], fun i c hc => ?_⟩
  have e : 65 - (b :: tl).length = j := by simp; omega
  rw [e]
  cases i with
  | zero =>
    simp at hc
    subst hc
    simp [Array.getElem?_setIfInBounds, h2]; omega
  | succ i =>
    simp at hc
    have := h3 i c hc
    rw [Array.getElem?_setIfInBounds, if_neg (by omega)]
    rw [← this]
    congr 1; omega
theorem HexSt.put {w : World} {u x j : Nat} {tl : List UInt8} {w' : World} (h : HexSt w u x tl w') (hx16 : 16 ≤ x) (hj : j + 1 + tl.length = 65) :
    HexSt w u (x / 16) (hx (x % 16) :: tl) (w'.setCell ⟨w.heap.size, j, none⟩ (encB (hx (x % 16)))) where
  below := h.below.setCell (Nat.le_refl _) _
  row := row_put hj h.row
  val := by rw [h.val, hexL_step hx16]; simp
  len := by
    have := h.len
    rw [List.length_cons, Nat.pow_succ]
    have h1 : x / 16 * (16 ^ tl.length * 16) = x / 16 * 16 * 16 ^ tl.length := by rw [Nat.mul_assoc, Nat.mul_comm 16 (16 ^ tl.length)]
    rw [h1]
    exact Nat.le_trans (Nat.mul_le_mul_right _ (Nat.div_mul_le_self x 16)) this
  big := h.big
  pos := Or.inr (by omega)
theorem HexSt.cell {w : World} {u x j : Nat} {tl : List UInt8} {w' : World} (h : HexSt w u x tl w') (hj : j < 65) : ∃ v, w'.cell? ⟨w.heap.size, j, none⟩ = some v := by
  obtain ⟨cs, h1, h2, -⟩ := h.row
  exact ⟨cs[j]'(by omega), (blk_cell h1 j).trans (Array.getElem?_eq_getElem (by omega))⟩
theorem HexSt.frozen {w : World} {u x : Nat} {tl : List UInt8} {w' : World} (h : HexSt w u x tl w') (j : Nat) : w'.frozen? ⟨w.heap.size, j, none⟩ = false := by
  obtain ⟨cs, h1, -, -⟩ := h.row
  exact blk_frozen h1 j
theorem HexSt.lt {w : World} {u x : Nat} {tl : List UInt8} {w' : World} (h : HexSt w u x tl w') : w.heap.size < w'.heap.size := by
  obtain ⟨cs, h1, -, -⟩ := h.row
  exact (Array.getElem?_eq_some_iff.1 h1).1
abbrev digs : ByteArray := { data := #[48, 49, 50, 51, 52, 53, 54, 55, 56, 57, 97, 98, 99, 100, 101, 102, 103, 104, 105, 106, 107, 108, 109, 110, 111, 112, 113, 114, 115, 116, 117, 118, 119, 120, 121, 122] }
theorem digs_hx (d : Nat) (h : d < 16) (h' : d < digs.size) : digs[d] = hx d := by
  have : ∀ d : Fin 16, digs.data[d.val]? = some (hx d.val) := by decide
  have := this ⟨d, h⟩
  have h2 : digs.data[d]? = some (digs.data[d]) := Array.getElem?_eq_getElem h'
  exact Option.some.inj (h2.symm.trans this)
theorem bytes_of_cells {w : World} {g i : Nat} {l : List UInt8} (h : ∀ j b, l[j]? = some b → w.cell? ⟨g, i + j, none⟩ = some (encB b)) :
    (convert 94 9 (.slice (some ⟨g, i, none⟩) l.length l.length)).run Tryz.prog w = .ok (.string ⟨l.toArray⟩) w := by
  rw [run_convert_bytes_string w 94 9 5 _ _ _ Tryz.underlying94 Tryz.underlying5 Tryz.underlying9]
  have hl := run_loadCells_list (P := Tryz.prog) (w := w) ⟨g, i, none⟩ (l.map encB) (fun j v hv => by
    rw [List.getElem?_map] at hv
    obtain ⟨b, hb, rfl⟩ := Option.map_eq_some_iff.1 hv
    have := h j b hb
    unfold Addr.add
    split
    · rename_i h0; subst h0; exact this
    · exact this)
  rw [List.length_map] at hl
  rw [run_bytesToString w _ _ _ (l.map fun b => (b.toNat : Int)) (by rw [hl, List.map_map]; rfl)]
  congr 2
  rw [List.foldl_map]
  have : ∀ (l : List UInt8) (acc : ByteArray), l.foldl (fun r n => r.push (UInt8.ofNat ((n.toNat : Int)).toNat)) acc = ⟨acc.data ++ l.toArray⟩ := by
    intro l
    induction l with
    | nil => intro acc; simp
    | cons b l ih => intro acc; rw [List.foldl_cons, ih]; simp [ByteArray.push]
  rw [this]
  simp
theorem HexSt.last {w : World} {u x i : Nat} {tl : List UInt8} {w' : World} (h : HexSt w u x tl w') (hi : i + 1 + tl.length = 65) (hx16 : x < 16) :
    (convert 94 9 (.slice (some ⟨w.heap.size, i, none⟩) (65 - i) (65 - i))).run Tryz.prog (w'.setCell ⟨w.heap.size, i, none⟩ (encB (hx x))) = .ok (.string ⟨(hexL u).toArray⟩) (w'.setCell ⟨w.heap.size, i, none⟩ (encB (hx x))) := by
  have hv : hexL u = hx x :: tl := by rw [h.val, hexL_small hx16]; rfl
  have hlen : (hx x :: tl).length = 65 - i := by rw [List.length_cons]; omega
  obtain ⟨cs, h1, h2, h3⟩ := row_put (b := hx x) hi h.row
  rw [hv, ← hlen]
  refine bytes_of_cells fun j b hb => ?_
  have := h3 j b hb
  rw [hlen, show 65 - (65 - i) = i by omega] at this
  exact (blk_cell h1 (i + j)).trans this
set_option maxRecDepth 100000 in
set_option maxHeartbeats 1000000 in
theorem formatBits16 (u : Nat) (hu : u < 18446744073709551616) (w : World) (hL : Laid w) : Calls Tryz.prog 103 #[.slice none 0 0, .int .u64 u, .int .i64 16, .bool false, .bool false] w fun e w' => e = .returned (.tuple #[.slice none 0 0, .string ⟨(hexL u).toArray⟩]) ∧ Below w.heap.size w w' := by
  have HG := Lib.hid (blk_new w (.cells Tryz.zeroCells168 168 (0, 0)))
  have hL0 : Laid (w.alloc (.cells Tryz.zeroCells168 168 (0, 0))) := hL.below ((Below.refl _ _).alloc (Nat.le_refl _) _)
  have hb0 : Below w.heap.size w (w.alloc (.cells Tryz.zeroCells168 168 (0, 0))) := (Below.refl _ _).alloc (Nat.le_refl _) _
  go_enter Tryz.func103, Tryz.ntmps103
  go_wp2_with fail
  refine (pow2_16 _).mono ?_
  rintro e w1 ⟨rfl, hb1⟩
  have HG1 := Lib.hid (blk_below HG.out hb1)
  have hL1 := hL0.below hb1
  have hb01 := hb0.trans (hb1.mono (by simp))
  go_wp2_with fail
  refine (tz_16 _ hL1).mono ?_
  rintro e w2 ⟨rfl, hb2⟩
  have HG2 := Lib.hid (blk_below HG1.out hb2)
  have hb02 := hb01.trans (hb2.mono hb01.size)
  have HS : HexSt w u u [] w2 := ⟨hb02, ⟨_, HG2.out, by kernel_rfl, fun j b h => by cases h⟩, by simp, by simp, hu, Or.inl rfl⟩
  clear HG HG1 HG2 hL0 hL1 hb0 hb1 hb01 hb2 hb02
  go_wp2_with fail
  go_loopw [1, 13] (fun v1 v13 w' => ∃ (x j : Nat) (tl : List UInt8), v1 = .int .u64 x ∧ v13 = .int .i64 j ∧ j + tl.length = 65 ∧ HexSt w u x tl w') (fun v1 _ _ => (RowKit.intOf v1).toNat)
  case atStart => exact ⟨u, 65, [], rfl, rfl, rfl, HS⟩
  case round =>
    obtain ⟨x, j, tl, rfl, rfl, hj, HS⟩ := hrel
    by_cases h16 : x < 16
    · have h16' : ¬ (16 : Int) ≤ x := by omega
      have hshort : tl.length < 16 := by
        rcases HS.pos with h | h
        · rw [h]; decide
        · exact HS.short h
      obtain ⟨i, rfl⟩ : ∃ i, j = i + 1 := ⟨j - 1, by omega⟩
      have hi64 : (i : Int) < 65 := by omega
      have hi0 : (0 : Int) ≤ i := by omega
      have hwi : IntKind.i64.wrap (i : Int) = i := wrap_i64_in (by omega) (by omega)
      obtain ⟨v, hcell⟩ := HS.cell (j := i) (by omega)
      have hfro := HS.frozen i
      have hlt := HS.lt
      have HS' := Lib.hid HS
      have hx36 : (x : Int) < 36 := by omega
      have hi65 : (i : Int) ≤ 65 := by omega
      have hdg := digs_hx x h16 (by show _ < 36; omega)
      have hcv := HS.last (by omega) h16
      have hbl := HS.below.setCell (p := ⟨w.heap.size, i, none⟩) (Nat.le_refl _) (encB (hx x))
      clear HS
      go_wp2_with fail
      go_ret2
      exact ⟨rfl, hbl⟩
    · have h16' : (16 : Int) ≤ x := by omega
      have hsh := HS.short (by omega)
      obtain ⟨i, rfl⟩ : ∃ i, j = i + 1 := ⟨j - 1, by omega⟩
      have hi64 : (i : Int) < 65 := by omega
      have hi0 : (0 : Int) ≤ i := by omega
      have hwi : IntKind.i64.wrap (i : Int) = i := wrap_i64_in (by omega) (by omega)
      obtain ⟨v, hcell⟩ := HS.cell (j := i) (by omega)
      have hfro := HS.frozen i
      have hlt := HS.lt
      have hand : Go.bits .and .u64 (x : Int) 15 = ((x % 16 : Nat) : Int) := by
        have := Go.u64_and_nat x 15 (by have := HS.len; have := HS.big; have h1 : 1 ≤ 16 ^ tl.length := Nat.pow_pos (by omega); have : x * 1 ≤ x * 16 ^ tl.length := Nat.mul_le_mul_left _ h1; omega) (by omega)
        rw [show ((15 : Nat) : Int) = 15 from rfl] at this
        rw [this]
        exact congrArg _ (Nat.and_two_pow_sub_one_eq_mod x 4)
      have hd : x % 16 < 16 := by omega
      have HS' := Lib.hid HS
      clear HS
      go_wp2_with fail
      have hS2 := HS'.out.put (j := i) (by omega) (by omega)
      refine ⟨⟨x / 16, i, hx (x % 16) :: tl, by rw [Int.natCast_ediv]; rfl, rfl, by rw [List.length_cons]; omega, ?_⟩, by simp [RowKit.intOf]; omega⟩
      have hdg := digs_hx (x % 16) (by omega) (by show _ < 36; omega)
      show HexSt w u (x / 16) (hx (x % 16) :: tl) (wr.setCell _ (encB (digs[x % 16]'(by show _ < 36; omega))))
      rw [hdg]
      exact hS2
set_option maxHeartbeats 1000000 in
theorem formatUint16 (u : Nat) (hu : u < 18446744073709551616) (w : World) (hL : Laid w) : Calls Tryz.prog 74 #[.int .u64 u, .int .i64 16] w fun e w' => e = .returned (.string ⟨(hexL u).toArray⟩) ∧ Below w.heap.size w w' := by
  go_enter Tryz.func74, Tryz.ntmps74
  go_wp2_with fail
  refine (formatBits16 u hu _ hL).mono ?_
  rintro e w1 ⟨rfl, hb1⟩
  go_wp2_with fail
  go_ret
  exact ⟨rfl, hb1⟩
set_option maxHeartbeats 1000000 in
theorem sformatUint16 (u : Nat) (hu : u < 18446744073709551616) (w : World) (hL : Laid w) : Calls Tryz.prog 49 #[.int .u64 u, .int .i64 16] w fun e w' => e = .returned (.string ⟨(hexL u).toArray⟩) ∧ Below w.heap.size w w' := by
  go_enter Tryz.func49, Tryz.ntmps49
  go_wp2_with fail
  refine (formatUint16 u hu _ hL).mono ?_
  rintro e w1 ⟨rfl, hb1⟩
  go_wp2_with fail
  go_ret
  exact ⟨rfl, hb1⟩
theorem repeat0 (c : Nat) (hc : c ≤ 13) (w : World) : Calls Tryz.prog 50 #[.string ⟨#[48]⟩, .int .i64 c] w fun e w' => e = .returned (.string ⟨(List.replicate c (48 : UInt8)).toArray⟩) ∧ Below w.heap.size w w' := by
  rcases Nat.lt_or_ge c 2 with h | h
  · have : c = 0 ∨ c = 1 := by omega
    rcases this with rfl | rfl
    · exact (Tryz.strings_Repeat_zero _ w).mono fun e w' ⟨h1, h2⟩ => ⟨h1, h2 ▸ Below.refl _ _⟩
    · exact (Tryz.strings_Repeat_one _ w).mono fun e w' ⟨h1, h2⟩ => ⟨h1, h2 ▸ Below.refl _ _⟩
  · refine (Tryz.strings_Repeat_main ⟨#[48]⟩ c w h (by omega) (by show 1 * c ≤ _; omega) (by decide)).mono fun e w' ⟨h1, h2⟩ => ⟨?_, h2⟩
    rw [h1]
    have : ∀ n, Lib.repeatL [48] n = List.replicate n (48 : UInt8) := by
      intro n
      induction n with
      | zero => rfl
      | succ n ih => rw [List.replicate_succ, ← ih]; rfl
    rw [← this]
end Go.Proofs.YtjpiplplohapnaaGreatDoor
namespace Go.Proofs.YtjpiplplohapnaaGreatDoor.Num
open Go
def isD (c : UInt8) : Prop := 48 ≤ c.toNat ∧ c.toNat ≤ 57
instance (c : UInt8) : Decidable (isD c) := inferInstanceAs (Decidable (_ ∧ _))
def st (a : Nat) (c : UInt8) : Nat := 10 * a + (c.toNat - 48)
def dv (acc : Nat) (l : List UInt8) : Nat := l.foldl st acc
theorem dv_nil (a : Nat) : dv a [] = a := by unfold dv; rw [List.foldl_nil]
theorem dv_cons (a : Nat) (c : UInt8) (r : List UInt8) : dv a (c :: r) = dv (10 * a + (c.toNat - 48)) r := by unfold dv; rw [List.foldl_cons]; rfl
theorem dv_append (l m : List UInt8) (a : Nat) : dv a (l ++ m) = dv (dv a l) m := by
  induction l generalizing a with
  | nil => rw [dv_nil, List.nil_append]
  | cons c r ih => rw [List.cons_append, dv_cons, dv_cons, ih]
theorem dv_snoc (l : List UInt8) (c : UInt8) (a : Nat) : dv a (l ++ [c]) = 10 * dv a l + (c.toNat - 48) := by rw [dv_append, dv_cons, dv_nil]
theorem dv_ge (l : List UInt8) (a : Nat) : a * 10 ^ l.length ≤ dv a l := by
  induction l generalizing a with
  | nil => simp [dv_nil]
  | cons c r ih =>
    have h1 := ih (10 * a + (c.toNat - 48))
    have h2 : 10 * a * 10 ^ r.length ≤ (10 * a + (c.toNat - 48)) * 10 ^ r.length := Nat.mul_le_mul_right _ (Nat.le_add_right _ _)
    have e : a * 10 ^ (r.length + 1) = 10 * a * 10 ^ r.length := by rw [Nat.pow_succ, Nat.mul_comm (10 ^ r.length) 10, ← Nat.mul_assoc, Nat.mul_comm a 10]
    rw [dv_cons, List.length_cons]
    rw [e]
    exact Nat.le_trans h2 h1
theorem toNat_digit {d : Nat} (h : d < 10) : (UInt8.ofNat (48 + d)).toNat = 48 + d := by
  rw [UInt8.toNat_ofNat']; omega
theorem digit_of {c : UInt8} (h : isD c) : UInt8.ofNat (48 + (c.toNat - 48)) = c := by
  unfold isD at h
  rw [show 48 + (c.toNat - 48) = c.toNat by omega, UInt8.ofNat_toNat]
theorem dec_digits (u : Nat) : ∀ c ∈ Lib.decDigits u, isD c := by
  induction u using Nat.strongRecOn with
  | ind u ih =>
    rw [Lib.decDigits]
    by_cases h : u < 10
    · rw [dif_pos h]
      intro c hc
      obtain rfl := List.mem_singleton.1 hc
      unfold isD; rw [toNat_digit h]; omega
    · rw [dif_neg h]
      intro c hc
      rcases List.mem_append.1 hc with h1 | h1
      · exact ih (u / 10) (by omega) c h1
      · obtain rfl := List.mem_singleton.1 h1
        unfold isD; rw [toNat_digit (by omega)]; omega
theorem dec_ne (u : Nat) : Lib.decDigits u ≠ [] := by
  rw [Lib.decDigits]
  by_cases h : u < 10
  · rw [dif_pos h]; simp
  · rw [dif_neg h]; simp
theorem dv_dec (u : Nat) : dv 0 (Lib.decDigits u) = u := by
  induction u using Nat.strongRecOn with
  | ind u ih =>
    rw [Lib.decDigits]
    by_cases h : u < 10
    · rw [dif_pos h]; simp only [dv_cons, dv_nil]; rw [toNat_digit h]; omega
    · rw [dif_neg h, dv_snoc, ih (u / 10) (by omega), toNat_digit (by omega)]; omega
def canon (l : List UInt8) : Prop := l ≠ [] ∧ (∀ c ∈ l, isD c) ∧ (l.head? = some 48 → l.length = 1)
instance (l : List UInt8) : Decidable (canon l) := inferInstanceAs (Decidable (_ ∧ _ ∧ _))
theorem dec_canon (u : Nat) : canon (Lib.decDigits u) := by
  refine ⟨dec_ne u, dec_digits u, ?_⟩
  induction u using Nat.strongRecOn with
  | ind u ih =>
    rw [Lib.decDigits]
    by_cases h : u < 10
    · rw [dif_pos h]; simp
    · rw [dif_neg h]
      have hne := dec_ne (u / 10)
      intro hh
      exfalso
      have hh' : (Lib.decDigits (u / 10)).head? = some 48 := by
        cases hl : Lib.decDigits (u / 10) with
        | nil => exact absurd hl hne
        | cons c r => rw [hl] at hh; simpa using hh
      have hlen := ih (u / 10) (by omega) hh'
      cases hl : Lib.decDigits (u / 10) with
      | nil => exact absurd hl hne
      | cons c r =>
        rw [hl] at hh' hlen
        obtain rfl : r = [] := by simpa using hlen
        obtain rfl : c = 48 := by simpa using hh'
        have := dv_dec (u / 10)
        rw [hl] at this
        simp only [dv_cons, dv_nil] at this
        have e : (48 : UInt8).toNat = 48 := rfl
        omega
theorem dec_of_canon (l : List UInt8) (h : canon l) : Lib.decDigits (dv 0 l) = l := by
  obtain ⟨hne, hd, h0⟩ := h
  generalize hn : l.length = n
  induction n generalizing l with
  | zero => exact absurd (List.length_eq_zero_iff.1 hn) hne
  | succ n ih =>
    obtain ⟨m, c, rfl⟩ : ∃ m c, l = m ++ [c] := ⟨l.dropLast, l.getLast hne, (List.dropLast_concat_getLast hne).symm⟩
    have hc : isD c := hd c (by simp)
    have hc' := hc
    unfold isD at hc'
    rw [dv_snoc]
    cases m with
    | nil =>
      rw [Lib.decDigits, dif_pos (by simp only [dv_nil]; omega)]
      simp only [dv_nil, Nat.mul_zero, Nat.zero_add, List.nil_append]
      rw [digit_of hc]
    | cons b r =>
      have hb : isD b := hd b (by simp)
      have hb' := hb
      unfold isD at hb'
      have hb0 : b ≠ 48 := by
        rintro rfl
        have := h0 (by simp)
        simp at this
      have hb1 : b.toNat ≠ 48 := fun e => hb0 (by rw [← UInt8.ofNat_toNat (x := b), e]; rfl)
      have hv : 1 ≤ dv 0 (b :: r) := by
        have := dv_ge r (10 * 0 + (b.toNat - 48))
        have h1 : 1 ≤ 10 ^ r.length := Nat.pow_pos (by decide)
        have h2 : 1 * 1 ≤ (10 * 0 + (b.toNat - 48)) * 10 ^ r.length := Nat.mul_le_mul (by omega) h1
        simp only [dv_cons]; omega
      have ihm := ih (b :: r) (by simp) (fun x hx => hd x (by simp at hx ⊢; rcases hx with rfl | hx <;> simp [*])) (fun e => absurd (by simpa using e) hb0) (by simp at hn ⊢; omega)
      rw [Lib.decDigits, dif_neg (by omega)]
      rw [show (10 * dv 0 (b :: r) + (c.toNat - 48)) / 10 = dv 0 (b :: r) by omega, show (10 * dv 0 (b :: r) + (c.toNat - 48)) % 10 = c.toNat - 48 by omega, ihm, digit_of hc]
def intOf (l : List UInt8) : Option Int :=
  match l with
  | [] => none
  | c :: r =>
    if c.toNat = 45 then (if canon r ∧ r.head? ≠ some 48 ∧ dv 0 r ≤ 9223372036854775808 then some (-(dv 0 r : Int)) else none)
    else if canon (c :: r) ∧ dv 0 (c :: r) < 9223372036854775808 then some (dv 0 (c :: r) : Int) else none
def told (o : Option Int) : Int × Bool := match o with | some n => (n, true) | none => (0, false)
theorem parse_digits (l : List UInt8) (h : ∀ c ∈ l, isD c) (a : Nat) (hl : dv a l < 18446744073709551616) : Lib.parseUint10 a l = .ok (dv a l) := by
  induction l generalizing a with
  | nil => rw [dv_nil]; rfl
  | cons c r ih =>
    have hc := h c (by simp)
    have hge := dv_ge r (10 * a + (c.toNat - 48))
    have h1 : 1 ≤ 10 ^ r.length := Nat.pow_pos (by decide)
    have h2 : (10 * a + (c.toNat - 48)) * 1 ≤ (10 * a + (c.toNat - 48)) * 10 ^ r.length := Nat.mul_le_mul_left _ h1
    simp only [dv_cons] at hl
    simp only [Lib.parseUint10, dv_cons]
    unfold isD at hc
    rw [if_pos hc, if_neg (by omega), if_neg (by omega), Nat.mul_comm a 10]
    exact ih (fun x hx => h x (by simp [hx])) _ hl
theorem atoi_of_intOf {l : List UInt8} {n : Int} (h : intOf l = some n) : Lib.atoiAll l = .ok n ∧ Lib.itoa n = l := by
  cases l with
  | nil => simp [intOf] at h
  | cons c r =>
    simp only [intOf] at h
    by_cases hc : c.toNat = 45
    · rw [if_pos hc] at h
      by_cases hr : canon r ∧ r.head? ≠ some 48 ∧ dv 0 r ≤ 9223372036854775808
      · rw [if_pos hr] at h
        obtain ⟨hcan, hz, hb⟩ := hr
        obtain rfl : -(dv 0 r : Int) = n := Option.some.inj h
        have hpos : 1 ≤ dv 0 r := by
          cases r with
          | nil => exact absurd rfl hcan.1
          | cons b q =>
            have hb1 := hcan.2.1 b (by simp)
            have hb0 : b.toNat ≠ 48 := fun e => hz (by rw [List.head?_cons, ← UInt8.ofNat_toNat (x := b), e]; rfl)
            have := dv_ge q (10 * 0 + (b.toNat - 48))
            have h1 : 1 ≤ 10 ^ q.length := Nat.pow_pos (by decide)
            unfold isD at hb1
            have h2 : 1 * 1 ≤ (10 * 0 + (b.toNat - 48)) * 10 ^ q.length := Nat.mul_le_mul (by omega) h1
            simp only [dv_cons]; omega
        constructor
        · simp only [Lib.atoiAll]
          rw [if_pos (Or.inr hc)]
          unfold Lib.parseMag
          rw [if_neg hcan.1, parse_digits r hcan.2.1 0 (by omega)]
          simp only [hc]
          rw [if_neg (by simp), if_neg (by omega)]
          simp
        · unfold Lib.itoa
          rw [if_pos (by omega)]
          rw [show (-(dv 0 r : Int)).natAbs = dv 0 r by omega, dec_of_canon r hcan]
          congr 1
          rw [← UInt8.ofNat_toNat (x := c), hc]; rfl
      · rw [if_neg hr] at h; cases h
    · rw [if_neg hc] at h
      by_cases hr : canon (c :: r) ∧ dv 0 (c :: r) < 9223372036854775808
      · rw [if_pos hr] at h
        obtain ⟨hcan, hb⟩ := hr
        obtain rfl : (dv 0 (c :: r) : Int) = n := Option.some.inj h
        have hc1 := hcan.2.1 c (by simp)
        unfold isD at hc1
        constructor
        · simp only [Lib.atoiAll]
          rw [if_neg (by omega)]
          unfold Lib.parseMag
          rw [if_neg (by simp), parse_digits (c :: r) hcan.2.1 0 (by omega)]
          simp only
          rw [if_neg (by omega), if_neg (by omega), if_neg hc]
        · unfold Lib.itoa
          rw [if_neg (by omega), Int.toNat_natCast, dec_of_canon _ hcan]
      · rw [if_neg hr] at h; cases h
theorem intOf_itoa (n : Int) (h0 : -9223372036854775808 ≤ n) (h1 : n ≤ 9223372036854775807) : intOf (Lib.itoa n) = some n := by
  unfold Lib.itoa
  by_cases hn : n < 0
  · rw [if_pos hn]
    simp only [intOf]
    have e : (45 : UInt8).toNat = 45 := rfl
    have hnz : (Lib.decDigits n.natAbs).head? ≠ some 48 := by
      intro hz
      have hl := (dec_canon n.natAbs).2.2 hz
      cases hd : Lib.decDigits n.natAbs with
      | nil => exact dec_ne _ hd
      | cons c r =>
        rw [hd] at hz hl
        obtain rfl : r = [] := by simpa using hl
        obtain rfl : c = 48 := by simpa using hz
        have := dv_dec n.natAbs
        rw [hd] at this
        have e : (48 : UInt8).toNat = 48 := rfl
        simp only [dv_cons, dv_nil] at this; omega
    have hm : -((n.natAbs : Nat) : Int) = n := by omega
    rw [if_pos e, dv_dec, if_pos ⟨dec_canon _, hnz, by omega⟩, hm]
  · rw [if_neg hn]
    have hcan := dec_canon n.toNat
    have hdv := dv_dec n.toNat
    cases hd : Lib.decDigits n.toNat with
    | nil => exact absurd hd (dec_ne _)
    | cons c r =>
      rw [hd] at hcan hdv
      have hc1 := hcan.2.1 c (by simp)
      unfold isD at hc1
      simp only [intOf]
      rw [if_neg (by omega), if_pos ⟨hcan, by omega⟩, hdv]
      congr 1; omega
def progInt (l : List UInt8) : Int × Bool := match Lib.atoiAll l with
  | .ok v => if Lib.itoa v = l then (v, true) else (0, false)
  | _ => (0, false)
theorem atoi_bounds {l : List UInt8} {v : Int} (h : Lib.atoiAll l = .ok v) : -9223372036854775808 ≤ v ∧ v ≤ 9223372036854775807 := by
  cases l with
  | nil => simp [Lib.atoiAll] at h
  | cons c r =>
    simp only [Lib.atoiAll] at h
    split at h
    · cases h
    · cases h
    · split at h
      · cases h
      · split at h
        · cases h
        · injection h with h
          split at h <;> omega
theorem progInt_eq (l : List UInt8) : progInt l = told (intOf l) := by
  unfold progInt
  cases hi : intOf l with
  | some n =>
    obtain ⟨h1, h2⟩ := atoi_of_intOf hi
    rw [h1]; simp only; rw [if_pos h2]; rfl
  | none =>
    cases ha : Lib.atoiAll l with
    | ok v =>
      simp only
      by_cases he : Lib.itoa v = l
      · have hb := atoi_bounds ha
        have := intOf_itoa v hb.1 hb.2
        rw [he, hi] at this
        cases this
      · rw [if_neg he]; rfl
    | _ => rfl
end Go.Proofs.YtjpiplplohapnaaGreatDoor.Num
namespace Go.Proofs.YtjpiplplohapnaaGreatDoor
open Go.RowKit Go.Sort Go.Proofs.YtjpiplplohapnaaGreatDoorW.PrintWords
theorem grow_below {B : Nat} {a w : World} (h : Below B a w) (hB : B ≤ a.heap.size) (os : Array Obj) : Below B a (grow w os) :=
  ⟨h.os, h.tape, h.output, by have := h.size; simp [grow]; omega, fun i hi => by
    have h1 := h.block i hi
    have h2 : i < w.heap.size := by have := h.size; omega
    rw [← h1]
    show (w.heap ++ os)[i]? = _
    rw [Array.getElem?_append_left h2]⟩
set_option maxRecDepth 100000 in
theorem int_walk (s : ByteArray) (hlim : s.size ≤ 281474976710656) (w : World) (hL : Laid w) :
    Calls Tryz.prog 17 #[.string s] w fun e w' => e = .returned (.tuple #[.int .i64 (Num.progInt s.data.toList).1, .bool (Num.progInt s.data.toList).2]) ∧ Below w.heap.size w w' := by
  cases h : Lib.atoiAll s.data.toList with
  | ok v =>
    have hb := Num.atoi_bounds h
    have bw : ∀ {w1 : World}, (w1 = w ∨ ∃ t, w1 = Lib.bytesWorld w 5 t) → Below w.heap.size w w1 := by
      rintro w1 (rfl | ⟨t, rfl⟩)
      · exact Below.refl _ _
      · exact Lib.bytesWorld_below _ _ _
    by_cases he : Lib.itoa v = s.data.toList
    · have hr : Num.progInt s.data.toList = (v, true) := by simp only [Num.progInt, h]; rw [if_pos he]
      have et : (Lib.itoa v == s.toList) = true := by simpa [ByteArray.toList_eq] using he
      rw [hr]
      go_enter Tryz.func17, Tryz.ntmps17
      go_wp2_with fail
      refine (Tryz.strconv_Atoi_ok s (by omega) v h _).mono ?_
      rintro e w1 ⟨rfl, hw⟩
      have hb1 := bw hw
      have hL1 := hL.below hb1
      clear hw
      go_wp2_with fail
      refine (Tryz.strconv_Itoa v hb.1 hb.2 _ hL1.u10).mono ?_
      rintro e w2 ⟨rfl, k, os, rfl⟩
      have hb2 : Below w.heap.size w (grow (w1.drewN k) os) := grow_below (below_drewN hb1 k) (Nat.le_refl _) os
      generalize grow (w1.drewN k) os = w2 at *
      clear hL1 hb1
      go_wp2_with fail
      go_ret2
      exact ⟨rfl, hb2⟩
    · have hr : Num.progInt s.data.toList = (0, false) := by simp only [Num.progInt, h]; rw [if_neg he]
      have et : (Lib.itoa v == s.toList) = false := by simpa [ByteArray.toList_eq] using he
      rw [hr]
      go_enter Tryz.func17, Tryz.ntmps17
      go_wp2_with fail
      refine (Tryz.strconv_Atoi_ok s (by omega) v h _).mono ?_
      rintro e w1 ⟨rfl, hw⟩
      have hb1 := bw hw
      have hL1 := hL.below hb1
      clear hw
      go_wp2_with fail
      refine (Tryz.strconv_Itoa v hb.1 hb.2 _ hL1.u10).mono ?_
      rintro e w2 ⟨rfl, k, os, rfl⟩
      have hb2 : Below w.heap.size w (grow (w1.drewN k) os) := grow_below (below_drewN hb1 k) (Nat.le_refl _) os
      generalize grow (w1.drewN k) os = w2 at *
      clear hL1 hb1
      go_wp2_with fail
      go_ret2
      exact ⟨rfl, hb2⟩
  | range =>
    have hr : Num.progInt s.data.toList = (0, false) := by simp only [Num.progInt, h]
    obtain ⟨te, pe, hv⟩ := hL.rng
    have hv' := World.var?_cell gRng hv 0
    rw [hr]
    go_enter Tryz.func17, Tryz.ntmps17
    go_wp2_with fail
    refine (Tryz.strconv_Atoi_range s hlim h (.iface te pe) _ (by simpa using hv') (Or.inr ⟨te, pe, rfl⟩)).mono ?_
    rintro e W1 ⟨N, rfl, -, -, hb⟩
    go_wp2_with fail
    go_ret2
    exact ⟨rfl, hb⟩
  | _ =>
    have hr : Num.progInt s.data.toList = (0, false) := by simp only [Num.progInt, h]
    obtain ⟨te, pe, hv⟩ := hL.syn
    have hv' := World.var?_cell gSyn hv 0
    rw [hr]
    go_enter Tryz.func17, Tryz.ntmps17
    go_wp2_with fail
    refine (Tryz.strconv_Atoi_bad s hlim (fun n hn => by rw [h] at hn; cases hn) (fun hn => by rw [h] at hn; cases hn) (.iface te pe) _ (by simpa using hv') (Or.inr ⟨te, pe, rfl⟩)).mono ?_
    rintro e W1 ⟨N, rfl, -, -, hb⟩
    go_wp2_with fail
    go_ret2
    exact ⟨rfl, hb⟩
end Go.Proofs.YtjpiplplohapnaaGreatDoor
namespace Go.Proofs.YtjpiplplohapnaaGreatDoor
open Go.RowKit Go.Sort Go.Proofs.YtjpiplplohapnaaGreatDoorW.PrintWords
def frac (r : Nat) : List UInt8 := Lib.trimRightB (List.replicate (13 - (hexL r).length) 48 ++ hexL r) 48
def hexT (ng : Bool) (m : Nat) (e : Int) : List UInt8 :=
  (if ng then [45] else []) ++ [48, 120, 49] ++ (if m = 4503599627370496 then [] else 46 :: frac (m - 4503599627370496)) ++ (if 0 ≤ e then [112, 43] else [112]) ++ Lib.itoa e
def hexZ (ng : Bool) : List UInt8 := (if ng then [45] else []) ++ [48, 120, 48, 112, 43, 48]
theorem hex_not (b : Nat) (hb : b < 18446744073709551616) (h1 : ¬ sz b < 9218868437227405312) (w : World) : Calls Tryz.prog 19 #[.float .f64 b] w fun e w' => e = .returned (.tuple #[.string ⟨#[]⟩, .int .i64 20]) ∧ w' = w := by
  go_enter Tryz.func19, Tryz.ntmps19
  go_wp2_with fail
  refine (split_not b hb h1 _).mono ?_
  rintro e w' ⟨rfl, rfl⟩
  go_wp2_with fail
  go_ret2
  exact ⟨rfl, rfl⟩
set_option maxRecDepth 100000 in
theorem hex_zero (b : Nat) (hb : b < 18446744073709551616) (h1 : sz b = 0) (w : World) : Calls Tryz.prog 19 #[.float .f64 b] w fun e w' => e = .returned (.tuple #[.string ⟨(hexZ (neg b)).toArray⟩, .int .i64 0]) ∧ w' = w := by
  have hn := negative_calls b hb (by omega)
  unfold neg
  generalize decide (9223372036854775808 ≤ b) = ng at *
  have hs := split_zero b hb h1
  cases ng
  all_goals
    go_enter Tryz.func19, Tryz.ntmps19
    go_wp2_with fail
    refine (hs _).mono ?_
    rintro e w' ⟨rfl, rfl⟩
    go_wp2_with fail
    refine (hn _).mono ?_
    rintro e w' ⟨rfl, rfl⟩
    go_wp2_with fail
  · refine bodyPost_ret (v := .tuple #[.string ⟨(hexZ false).toArray⟩, .int .i64 0]) (by simp [results, Tryz.results19, go_sem]; decide +kernel) rfl ?_
    exact ⟨rfl, rfl⟩
  · refine bodyPost_ret (v := .tuple #[.string ⟨(hexZ true).toArray⟩, .int .i64 0]) (by simp [results, Tryz.results19, go_sem]; decide +kernel) rfl ?_
    exact ⟨rfl, rfl⟩
theorem hexL_len : ∀ (n x : Nat), x < 16 ^ (n + 1) → (hexL x).length ≤ n + 1
  | 0, x, h => by rw [hexL_small (by omega)]; simp
  | n + 1, x, h => by
    rcases Nat.lt_or_ge x 16 with h1 | h1
    · rw [hexL_small h1]; simp
    · rw [hexL_step h1, List.length_append]
      have := hexL_len n (x / 16) (by rw [Nat.div_lt_iff_lt_mul (by omega)]; rw [Nat.pow_succ] at h; exact h)
      simp; omega
theorem dec_len : ∀ (n x : Nat), x < 10 ^ (n + 1) → (Lib.decDigits x).length ≤ n + 1
  | 0, x, h => by rw [Lib.decDigits, dif_pos (by omega)]; simp
  | n + 1, x, h => by
    rcases Nat.lt_or_ge x 10 with h1 | h1
    · rw [Lib.decDigits, dif_pos h1]; simp
    · rw [Lib.decDigits, dif_neg (by omega), List.length_append]
      have := dec_len n (x / 10) (by rw [Nat.div_lt_iff_lt_mul (by omega)]; rw [Nat.pow_succ] at h; exact h)
      simp; omega
theorem itoa_len (n : Int) (h1 : -10000 < n) (h2 : n < 10000) : (Lib.itoa n).length ≤ 5 := by
  unfold Lib.itoa
  split
  · have := dec_len 3 n.natAbs (by have : (10 : Nat) ^ (3 + 1) = 10000 := by decide
                                   omega)
    simp; omega
  · have := dec_len 3 n.toNat (by have : (10 : Nat) ^ (3 + 1) = 10000 := by decide
                                  omega)
    omega
theorem frac_len (q : Nat) (h : q < 4503599627370496) : (frac q).length ≤ 13 := by
  have hl := hexL_len 12 q (by have : (16 : Nat) ^ 13 = 4503599627370496 := by decide
                               omega)
  unfold frac Lib.trimRightB
  rw [List.length_reverse]
  refine Nat.le_trans (List.dropWhile_sublist _).length_le ?_
  rw [List.length_reverse, List.length_append, List.length_replicate]
  omega
def HexLoop (m : Nat) (e : Int) (M : Nat) (E : Int) : Prop := ∃ j : Nat, M = m * 2 ^ j ∧ E + j = e
theorem HexLoop.done {m : Nat} {e : Int} {M : Nat} {E : Int} (h : HexLoop m e M E) (h1 : 4503599627370496 ≤ m) (h2 : M < 9007199254740992) : m = M ∧ e = E := by
  obtain ⟨j, h3, h4⟩ := h
  cases j with
  | zero => simp at h3 h4; exact ⟨h3.symm, h4.symm⟩
  | succ j =>
    exfalso
    rw [Nat.pow_succ] at h3
    have : 1 ≤ 2 ^ j := Nat.pow_pos (by omega)
    have : m * 1 ≤ m * 2 ^ j := Nat.mul_le_mul_left _ this
    have : m * (2 ^ j * 2) = m * 2 ^ j * 2 := (Nat.mul_assoc _ _ _).symm
    omega
theorem HexLoop.step {m : Nat} {e : Int} {M : Nat} {E : Int} (h : HexLoop m e M E) (h1 : m < 4503599627370496) (h2 : 4503599627370496 ≤ M) : HexLoop (m * 2) (e - 1) M E := by
  obtain ⟨j, h3, h4⟩ := h
  cases j with
  | zero => simp at h3; omega
  | succ j => exact ⟨j, by rw [h3, Nat.pow_succ, Nat.mul_assoc, Nat.mul_comm 2], by push_cast at h4; omega⟩
theorem hexT_some (ng : Bool) (x q : Nat) (n : Int) (hx : ¬ x = 4503599627370496) (hq : q = x - 4503599627370496) (sg pb : ByteArray) (hsg : sg = if ng then ⟨#[45]⟩ else ⟨#[]⟩) (hpb : (0 ≤ n ∧ pb = ⟨#[112, 43]⟩) ∨ (n < 0 ∧ pb = ⟨#[112]⟩)) :
    sg ++ ⟨#[48, 120, 49]⟩ ++ (⟨#[46]⟩ ++ ⟨(frac q).toArray⟩) ++ pb ++ ⟨(Lib.itoa n).toArray⟩ = ⟨(hexT ng x n).toArray⟩ := by
  have h1 : hexT ng x n = (if ng then [45] else []) ++ [48, 120, 49] ++ (46 :: frac q) ++ (if 0 ≤ n then [112, 43] else [112]) ++ Lib.itoa n := by
    rw [hq]
    exact (congrArg (fun l => (if ng then [45] else []) ++ [48, 120, 49] ++ l ++ (if 0 ≤ n then [112, 43] else [112]) ++ Lib.itoa n) (if_neg hx))
  rw [h1]
  clear hx hq h1
  subst hsg
  rcases hpb with ⟨h, rfl⟩ | ⟨h, rfl⟩
  · rw [if_pos h]
    cases ng <;> (apply ByteArray.ext; simp)
  · rw [if_neg (by omega : ¬ 0 ≤ n)]
    cases ng <;> (apply ByteArray.ext; simp)
theorem hexT_at (ng : Bool) (n : Int) : hexT ng 4503599627370496 n = (if ng then [45] else []) ++ [48, 120, 49] ++ (if 0 ≤ n then [112, 43] else [112]) ++ Lib.itoa n := by
  unfold hexT
  generalize hz : (4503599627370496 : Nat) = z
  rw [if_pos rfl, List.append_nil]
theorem hexT_none (ng : Bool) (n : Int) (sg pb : ByteArray) (hsg : sg = if ng then ⟨#[45]⟩ else ⟨#[]⟩) (hpb : (0 ≤ n ∧ pb = ⟨#[112, 43]⟩) ∨ (n < 0 ∧ pb = ⟨#[112]⟩)) :
    sg ++ ⟨#[48, 120, 49]⟩ ++ pb ++ ⟨(Lib.itoa n).toArray⟩ = ⟨(hexT ng 4503599627370496 n).toArray⟩ := by
  rw [hexT_at]
  subst hsg
  rcases hpb with ⟨h, rfl⟩ | ⟨h, rfl⟩
  · rw [if_pos h]
    cases ng <;> (apply ByteArray.ext; simp)
  · rw [if_neg (by omega : ¬ 0 ≤ n)]
    cases ng <;> (apply ByteArray.ext; simp)
set_option maxRecDepth 100000 in
set_option maxHeartbeats 1000000 in
theorem hex_num (b m M : Nat) (e E : Int) (ng : Bool) (hm : 1 ≤ m) (hm2 : m < 9007199254740992) (he : -1100 ≤ e) (he2 : e ≤ 1000) (hM : HexLoop m e M E) (hM1 : 4503599627370496 ≤ M) (hM2 : M < 9007199254740992)
    (hs : ∀ w, Calls Tryz.prog 47 #[.float .f64 b] w fun r w' => r = .returned (.tuple #[.int .i64 (if ng then -(m : Int) else m), .int .i64 e, .bool true]) ∧ w' = w)
    (hn : ∀ w, Calls Tryz.prog 48 #[.float .f64 b] w fun r w' => r = .returned (.bool ng) ∧ w' = w)
    (w : World) (hL : Laid w) : Calls Tryz.prog 19 #[.float .f64 b] w fun r w' => r = .returned (.tuple #[.string ⟨(hexT ng M (E + 52)).toArray⟩, .int .i64 0]) ∧ Below w.heap.size w w' := by
  have hE : E ≤ e ∧ e - 53 ≤ E := by
    obtain ⟨j, h3, h4⟩ := hM
    have h5 : 1 * 2 ^ j ≤ m * 2 ^ j := Nat.mul_le_mul_right _ hm
    have h6 : j < 53 := by
      rcases Nat.lt_or_ge j 53 with h | h
      · exact h
      · have : (2 : Nat) ^ 53 ≤ 2 ^ j := Nat.pow_le_pow_right (by omega) h
        have : (2 : Nat) ^ 53 = 9007199254740992 := by decide
        omega
    omega
  have hwm : IntKind.i64.wrap (-(-(m : Int))) = m := by rw [Int.neg_neg]; exact wrap_i64_in (by omega) (by omega)
  have hwm2 : IntKind.i64.wrap (m : Int) = m := wrap_i64_in (by omega) (by omega)
  have hm0 : ¬ (m : Int) = 0 := by omega
  cases ng
  · go_enter Tryz.func19, Tryz.ntmps19
    go_wp2_with fail
    refine (hs _).mono ?_
    rintro r w' ⟨rfl, rfl⟩
    go_wp2_with fail
    refine (hn _).mono ?_
    rintro r w' ⟨rfl, rfl⟩
    go_wp2_with fail
    go_loop [4, 5] (fun v4 v5 => ∃ (x : Nat) (y : Int), v4 = .int .i64 x ∧ v5 = .int .i64 y ∧ 1 ≤ x ∧ x < 9007199254740992 ∧ HexLoop x y M E ∧ y ≤ e) (fun v4 _ => 9007199254740992 - (RowKit.intOf v4).toNat)
    case atStart => exact ⟨m, e, rfl, rfl, hm, hm2, hM, Int.le_refl _⟩
    case round =>
      obtain ⟨x, y, rfl, rfl, hx1, hx2, hx3, hy⟩ := hrel
      have hy2 : E ≤ y := by obtain ⟨j, _, h⟩ := hx3; omega
      by_cases hx : x < 4503599627370496
      · have hx' : (x : Int) < 4503599627370496 := by omega
        have hw1 : IntKind.i64.wrap ((x : Int) * 2) = ((x * 2 : Nat) : Int) := by rw [wrap_i64_in (by omega) (by omega)]; push_cast; rfl
        have hw2 : IntKind.i64.wrap (y - 1) = y - 1 := wrap_i64_in (by omega) (by omega)
        have hst := hx3.step hx hM1
        have hH := Lib.hid hst
        clear hst hx3
        go_wp2_with fail
        exact ⟨⟨x * 2, y - 1, by rw [Int.natCast_mul]; rfl, rfl, by omega, by omega, hH.out, by omega⟩, by simp [RowKit.intOf]; omega⟩
      · obtain ⟨rfl, rfl⟩ := hx3.done (by omega) hM2
        have hx' : ¬ (x : Int) < 4503599627370496 := by omega
        have hE1 : -1200 ≤ y := by omega
        have hE2 : y ≤ 1000 := by omega
        have hwy : IntKind.i64.wrap (y + 52) = y + 52 := wrap_i64_in (by omega) (by omega)
        by_cases h0 : x = 4503599627370496
        · subst h0
          clear hM hx3 hE hwm hwm2 hm0 hx hs hn hm hm2 he he2 hM1 hM2 hx1 hx2 hy hy2
          have hil := itoa_len (y + 52) (by omega) (by omega)
          have hc5 : ¬ 9223372036854775807 < 3 + 2 + (Lib.itoa (y + 52)).length := by omega
          have hc6 : ¬ 9223372036854775807 < 3 + 1 + (Lib.itoa (y + 52)).length := by omega
          go_wp2_with fail
          all_goals
            refine (Tryz.strconv_Itoa (y + 52) (by omega) (by omega) _ hL.u10).mono ?_
            rintro r w4 ⟨rfl, k, os, rfl⟩
            have hb4 : Below w'.heap.size w' (grow (w'.drewN k) os) := grow_below (below_drewN (Below.refl _ _) k) (Nat.le_refl _) os
            generalize grow (w'.drewN k) os = w4 at *
            go_wp2_with fail
          · have he1 := hexT_none false (y + 52) ⟨#[]⟩ ⟨#[112, 43]⟩ rfl (Or.inl ⟨by omega, rfl⟩)
            refine bodyPost_ret (v := .tuple #[.string ⟨(hexT false 4503599627370496 (y + 52)).toArray⟩, .int .i64 0]) (by rw [← he1]; simp [results, Tryz.results19, go_sem]) rfl ?_
            exact ⟨rfl, hb4⟩
          · have he1 := hexT_none false (y + 52) ⟨#[]⟩ ⟨#[112]⟩ rfl (Or.inr ⟨by omega, rfl⟩)
            refine bodyPost_ret (v := .tuple #[.string ⟨(hexT false 4503599627370496 (y + 52)).toArray⟩, .int .i64 0]) (by rw [← he1]; simp [results, Tryz.results19, go_sem]) rfl ?_
            exact ⟨rfl, hb4⟩
        · obtain ⟨q, hq⟩ : ∃ q : Nat, q = x - 4503599627370496 := ⟨_, rfl⟩
          have hwx : IntKind.i64.wrap ((x : Int) - 4503599627370496) = q := by rw [wrap_i64_in (by omega) (by omega)]; omega
          have hwq : IntKind.u64.wrap (q : Int) = q := wrap_u64_in (by omega) (by omega)
          have hq0 : ¬ (q : Int) = 0 := by omega
          have hq2 : q < 4503599627370496 := by omega
          have hMx := Lib.hid (show q = x - 4503599627370496 from hq)
          have hxx := Lib.hid (show ¬ x = 4503599627370496 from h0)
          clear hM hx3 hE hwm hwm2 hm0 hx hs hn hm hm2 he he2 hM1 hM2 hx1 hx2 hy hy2 hq h0
          generalize (x : Int) = z at *
          have hfl := frac_len q hq2
          have hl := hexL_len 12 q (by have : (16 : Nat) ^ 13 = 4503599627370496 := by decide
                                       omega)
          have hw13 : IntKind.i64.wrap (13 - ((hexL q).length : Int)) = ((13 - (hexL q).length : Nat) : Int) := by rw [wrap_i64_in (by omega) (by omega)]; omega
          have HF := Lib.hid (sformatUint16 q (by omega) w' hL)
          have hfr := Lib.hid (show frac q = Lib.trimRightB (List.replicate (13 - (hexL q).length) 48 ++ hexL q) 48 from rfl)
          have hr := Lib.hid (repeat0 (13 - (hexL q).length) (by omega))
          generalize hexL q = h at *
          clear hq2
          go_wp2_with fail
          refine HF.out.mono ?_
          rintro r w1 ⟨rfl, hb1⟩
          have hL1 := hL.below hb1
          clear HF
          go_wp2_with fail
          refine (hr.out _).mono ?_
          rintro r w2 ⟨rfl, hb2⟩
          have hL2 := hL1.below hb2
          have hb02 := hb1.trans (hb2.mono hb1.size)
          clear hr hL1 hb1 hb2
          go_wp2_with fail
          refine (Tryz.strings_TrimRight_one _ 48 (by decide) _ (by rw [ByteArray.size_append]; show (Array.replicate _ _).size + h.toArray.size ≤ _; simp; omega)).mono ?_
          rintro r w3 ⟨rfl, rfl⟩
          have et : (Lib.trimRightB ((⟨Array.replicate (13 - h.length) (48 : UInt8)⟩ : ByteArray) ++ (⟨h.toArray⟩ : ByteArray)).data.toList 48) = frac q := by rw [hfr.out]; congr 1
          rw [et]
          clear et
          have hil := itoa_len (y + 52) (by omega) (by omega)
          have hc1 : ¬ 9223372036854775807 < 1 + (frac q).length := by omega
          have hc2 : ¬ 9223372036854775807 < 3 + (1 + (frac q).length) := by omega
          have hc3 : ¬ 9223372036854775807 < 3 + (1 + (frac q).length) + 2 := by omega
          have hc4 : ¬ 9223372036854775807 < 3 + (1 + (frac q).length) + 1 := by omega
          have hc5 : ¬ 9223372036854775807 < 3 + (1 + (frac q).length) + 2 + (Lib.itoa (y + 52)).length := by omega
          have hc6 : ¬ 9223372036854775807 < 3 + (1 + (frac q).length) + 1 + (Lib.itoa (y + 52)).length := by omega
          go_wp2_with fail
          all_goals
            refine (Tryz.strconv_Itoa (y + 52) (by omega) (by omega) _ hL2.u10).mono ?_
            rintro r w4 ⟨rfl, k, os, rfl⟩
            have hb4 : Below w'.heap.size w' (grow (w3.drewN k) os) := grow_below (below_drewN hb02 k) (Nat.le_refl _) os
            generalize grow (w3.drewN k) os = w4 at *
            go_wp2_with fail
          · have he1 := hexT_some false x q (y + 52) hxx.out hMx.out ⟨#[]⟩ ⟨#[112, 43]⟩ rfl (Or.inl ⟨by omega, rfl⟩)
            refine bodyPost_ret (v := .tuple #[.string ⟨(hexT false x (y + 52)).toArray⟩, .int .i64 0]) (by rw [← he1]; simp [results, Tryz.results19, go_sem]) rfl ?_
            exact ⟨rfl, hb4⟩
          · have he1 := hexT_some false x q (y + 52) hxx.out hMx.out ⟨#[]⟩ ⟨#[112]⟩ rfl (Or.inr ⟨by omega, rfl⟩)
            refine bodyPost_ret (v := .tuple #[.string ⟨(hexT false x (y + 52)).toArray⟩, .int .i64 0]) (by rw [← he1]; simp [results, Tryz.results19, go_sem]) rfl ?_
            exact ⟨rfl, hb4⟩
  · go_enter Tryz.func19, Tryz.ntmps19
    go_wp2_with fail
    refine (hs _).mono ?_
    rintro r w' ⟨rfl, rfl⟩
    go_wp2_with fail
    refine (hn _).mono ?_
    rintro r w' ⟨rfl, rfl⟩
    go_wp2_with fail
    go_loop [4, 5] (fun v4 v5 => ∃ (x : Nat) (y : Int), v4 = .int .i64 x ∧ v5 = .int .i64 y ∧ 1 ≤ x ∧ x < 9007199254740992 ∧ HexLoop x y M E ∧ y ≤ e) (fun v4 _ => 9007199254740992 - (RowKit.intOf v4).toNat)
    case atStart => exact ⟨m, e, rfl, rfl, hm, hm2, hM, Int.le_refl _⟩
    case round =>
      obtain ⟨x, y, rfl, rfl, hx1, hx2, hx3, hy⟩ := hrel
      have hy2 : E ≤ y := by obtain ⟨j, _, h⟩ := hx3; omega
      by_cases hx : x < 4503599627370496
      · have hx' : (x : Int) < 4503599627370496 := by omega
        have hw1 : IntKind.i64.wrap ((x : Int) * 2) = ((x * 2 : Nat) : Int) := by rw [wrap_i64_in (by omega) (by omega)]; push_cast; rfl
        have hw2 : IntKind.i64.wrap (y - 1) = y - 1 := wrap_i64_in (by omega) (by omega)
        have hst := hx3.step hx hM1
        have hH := Lib.hid hst
        clear hst hx3
        go_wp2_with fail
        exact ⟨⟨x * 2, y - 1, by rw [Int.natCast_mul]; rfl, rfl, by omega, by omega, hH.out, by omega⟩, by simp [RowKit.intOf]; omega⟩
      · obtain ⟨rfl, rfl⟩ := hx3.done (by omega) hM2
        have hx' : ¬ (x : Int) < 4503599627370496 := by omega
        have hE1 : -1200 ≤ y := by omega
        have hE2 : y ≤ 1000 := by omega
        have hwy : IntKind.i64.wrap (y + 52) = y + 52 := wrap_i64_in (by omega) (by omega)
        by_cases h0 : x = 4503599627370496
        · subst h0
          clear hM hx3 hE hwm hwm2 hm0 hx hs hn hm hm2 he he2 hM1 hM2 hx1 hx2 hy hy2
          have hil := itoa_len (y + 52) (by omega) (by omega)
          have hc5 : ¬ 9223372036854775807 < 4 + 2 + (Lib.itoa (y + 52)).length := by omega
          have hc6 : ¬ 9223372036854775807 < 4 + 1 + (Lib.itoa (y + 52)).length := by omega
          go_wp2_with fail
          all_goals
            refine (Tryz.strconv_Itoa (y + 52) (by omega) (by omega) _ hL.u10).mono ?_
            rintro r w4 ⟨rfl, k, os, rfl⟩
            have hb4 : Below w'.heap.size w' (grow (w'.drewN k) os) := grow_below (below_drewN (Below.refl _ _) k) (Nat.le_refl _) os
            generalize grow (w'.drewN k) os = w4 at *
            go_wp2_with fail
          · have he1 := hexT_none true (y + 52) ⟨#[45]⟩ ⟨#[112, 43]⟩ rfl (Or.inl ⟨by omega, rfl⟩)
            refine bodyPost_ret (v := .tuple #[.string ⟨(hexT true 4503599627370496 (y + 52)).toArray⟩, .int .i64 0]) (by rw [← he1]; simp [results, Tryz.results19, go_sem]) rfl ?_
            exact ⟨rfl, hb4⟩
          · have he1 := hexT_none true (y + 52) ⟨#[45]⟩ ⟨#[112]⟩ rfl (Or.inr ⟨by omega, rfl⟩)
            refine bodyPost_ret (v := .tuple #[.string ⟨(hexT true 4503599627370496 (y + 52)).toArray⟩, .int .i64 0]) (by rw [← he1]; simp [results, Tryz.results19, go_sem]) rfl ?_
            exact ⟨rfl, hb4⟩
        · obtain ⟨q, hq⟩ : ∃ q : Nat, q = x - 4503599627370496 := ⟨_, rfl⟩
          have hwx : IntKind.i64.wrap ((x : Int) - 4503599627370496) = q := by rw [wrap_i64_in (by omega) (by omega)]; omega
          have hwq : IntKind.u64.wrap (q : Int) = q := wrap_u64_in (by omega) (by omega)
          have hq0 : ¬ (q : Int) = 0 := by omega
          have hq2 : q < 4503599627370496 := by omega
          have hMx := Lib.hid (show q = x - 4503599627370496 from hq)
          have hxx := Lib.hid (show ¬ x = 4503599627370496 from h0)
          clear hM hx3 hE hwm hwm2 hm0 hx hs hn hm hm2 he he2 hM1 hM2 hx1 hx2 hy hy2 hq h0
          generalize (x : Int) = z at *
          have hfl := frac_len q hq2
          have hl := hexL_len 12 q (by have : (16 : Nat) ^ 13 = 4503599627370496 := by decide
                                       omega)
          have hw13 : IntKind.i64.wrap (13 - ((hexL q).length : Int)) = ((13 - (hexL q).length : Nat) : Int) := by rw [wrap_i64_in (by omega) (by omega)]; omega
          have HF := Lib.hid (sformatUint16 q (by omega) w' hL)
          have hfr := Lib.hid (show frac q = Lib.trimRightB (List.replicate (13 - (hexL q).length) 48 ++ hexL q) 48 from rfl)
          have hr := Lib.hid (repeat0 (13 - (hexL q).length) (by omega))
          generalize hexL q = h at *
          clear hq2
          go_wp2_with fail
          refine HF.out.mono ?_
          rintro r w1 ⟨rfl, hb1⟩
          have hL1 := hL.below hb1
          clear HF
          go_wp2_with fail
          refine (hr.out _).mono ?_
          rintro r w2 ⟨rfl, hb2⟩
          have hL2 := hL1.below hb2
          have hb02 := hb1.trans (hb2.mono hb1.size)
          clear hr hL1 hb1 hb2
          go_wp2_with fail
          refine (Tryz.strings_TrimRight_one _ 48 (by decide) _ (by rw [ByteArray.size_append]; show (Array.replicate _ _).size + h.toArray.size ≤ _; simp; omega)).mono ?_
          rintro r w3 ⟨rfl, rfl⟩
          have et : (Lib.trimRightB ((⟨Array.replicate (13 - h.length) (48 : UInt8)⟩ : ByteArray) ++ (⟨h.toArray⟩ : ByteArray)).data.toList 48) = frac q := by rw [hfr.out]; congr 1
          rw [et]
          clear et
          have hil := itoa_len (y + 52) (by omega) (by omega)
          have hc1 : ¬ 9223372036854775807 < 1 + (frac q).length := by omega
          have hc2 : ¬ 9223372036854775807 < 4 + (1 + (frac q).length) := by omega
          have hc3 : ¬ 9223372036854775807 < 4 + (1 + (frac q).length) + 2 := by omega
          have hc4 : ¬ 9223372036854775807 < 4 + (1 + (frac q).length) + 1 := by omega
          have hc5 : ¬ 9223372036854775807 < 4 + (1 + (frac q).length) + 2 + (Lib.itoa (y + 52)).length := by omega
          have hc6 : ¬ 9223372036854775807 < 4 + (1 + (frac q).length) + 1 + (Lib.itoa (y + 52)).length := by omega
          go_wp2_with fail
          all_goals
            refine (Tryz.strconv_Itoa (y + 52) (by omega) (by omega) _ hL2.u10).mono ?_
            rintro r w4 ⟨rfl, k, os, rfl⟩
            have hb4 : Below w'.heap.size w' (grow (w3.drewN k) os) := grow_below (below_drewN hb02 k) (Nat.le_refl _) os
            generalize grow (w3.drewN k) os = w4 at *
            go_wp2_with fail
          · have he1 := hexT_some true x q (y + 52) hxx.out hMx.out ⟨#[45]⟩ ⟨#[112, 43]⟩ rfl (Or.inl ⟨by omega, rfl⟩)
            refine bodyPost_ret (v := .tuple #[.string ⟨(hexT true x (y + 52)).toArray⟩, .int .i64 0]) (by rw [← he1]; simp [results, Tryz.results19, go_sem]) rfl ?_
            exact ⟨rfl, hb4⟩
          · have he1 := hexT_some true x q (y + 52) hxx.out hMx.out ⟨#[45]⟩ ⟨#[112]⟩ rfl (Or.inr ⟨by omega, rfl⟩)
            refine bodyPost_ret (v := .tuple #[.string ⟨(hexT true x (y + 52)).toArray⟩, .int .i64 0]) (by rw [← he1]; simp [results, Tryz.results19, go_sem]) rfl ?_
            exact ⟨rfl, hb4⟩
end Go.Proofs.YtjpiplplohapnaaGreatDoor
namespace Go.Proofs.YtjpiplplohapnaaGreatDoor
open Go.RowKit Go.Sort Go.Proofs.YtjpiplplohapnaaGreatDoorW.PrintWords
def up (m : Nat) : Nat := 52 - m.log2
theorem up_spec (m : Nat) (h1 : 1 ≤ m) (h2 : m < 9007199254740992) : 4503599627370496 ≤ m * 2 ^ up m ∧ m * 2 ^ up m < 9007199254740992 := by
  have h0 : m ≠ 0 := by omega
  have ha := Nat.log2_self_le h0
  have hb : m < 2 ^ (m.log2 + 1) := Nat.lt_log2_self
  have hc : m.log2 < 53 := (Nat.log2_lt h0).2 (by have : (2 : Nat) ^ 53 = 9007199254740992 := by decide
                                                  omega)
  have e1 : m.log2 + up m = 52 := by unfold up; omega
  have p52 : (2 : Nat) ^ 52 = 4503599627370496 := by decide
  constructor
  · have := Nat.mul_le_mul_right (2 ^ up m) ha
    rw [← Nat.pow_add, e1, p52] at this
    exact this
  · have := Nat.mul_lt_mul_of_pos_right hb (Nat.pow_pos (a := 2) (n := up m) (by omega))
    rw [← Nat.pow_add, show m.log2 + 1 + up m = 53 by omega] at this
    have p53 : (2 : Nat) ^ 53 = 9007199254740992 := by decide
    omega
def hexOf (b : Nat) : List UInt8 :=
  if sz b = 0 then hexZ (neg b) else hexT (neg b) (spM (sz b) * 2 ^ up (spM (sz b))) (spE (sz b) - up (spM (sz b)) + 52)
theorem spM_range (u : Nat) (h : 0 < u) : 1 ≤ spM u ∧ spM u < 9007199254740992 := by
  unfold spM
  split <;> omega
theorem spE_range (u : Nat) (h : 0 < u) (h2 : u < 9218868437227405312) : -1074 ≤ spE u ∧ spE u ≤ 971 := by
  unfold spE
  rw [if_neg (by omega)]
  split <;> omega
theorem hex_walk (b : Nat) (hb : b < 18446744073709551616) (w : World) (hL : Laid w) :
    Calls Tryz.prog 19 #[.float .f64 b] w fun r w' => r = .returned (if sz b < 9218868437227405312 then .tuple #[.string ⟨(hexOf b).toArray⟩, .int .i64 0] else .tuple #[.string ⟨#[]⟩, .int .i64 20]) ∧ Below w.heap.size w w' := by
  by_cases h : sz b < 9218868437227405312
  · rw [if_pos h]
    by_cases h0 : sz b = 0
    · unfold hexOf
      rw [if_pos h0]
      exact (hex_zero b hb h0 w).mono fun r w' ⟨h1, h2⟩ => ⟨h1, h2 ▸ Below.refl _ _⟩
    · have hr := spM_range (sz b) (by omega)
      have he := spE_range (sz b) (by omega) h
      have hu := up_spec _ hr.1 hr.2
      have hn := negative_calls b hb (by omega)
      unfold hexOf
      rw [if_neg h0]
      refine hex_num b (spM (sz b)) _ (spE (sz b)) _ (neg b) hr.1 hr.2 (by omega) (by omega) ⟨up (spM (sz b)), rfl, by omega⟩ hu.1 hu.2 (fun w => ?_) hn w hL
      by_cases h1 : sz b < 4503599627370496
      · have e1 : spM (sz b) = sz b := by unfold spM; rw [if_pos h1]
        have e2 : spE (sz b) = -1074 := by unfold spE; rw [if_neg h0, if_pos h1]
        rw [e1, e2]
        exact split_sub b hb (by omega) h1 w
      · exact split_norm b hb (by omega) h w
  · rw [if_neg h]
    exact (hex_not b hb h w).mono fun r w' ⟨h1, h2⟩ => ⟨h1, h2 ▸ Below.refl _ _⟩
end Go.Proofs.YtjpiplplohapnaaGreatDoor
namespace Go.Proofs.YtjpiplplohapnaaGreatDoor
def pad : Nat → Nat → List UInt8
  | 0, _ => []
  | n + 1, m => hx (m / 16 ^ n) :: pad n (m % 16 ^ n)
def nib : Nat → Nat → List UInt8
  | 0, _ => []
  | n + 1, m => if m = 0 then [] else hx (m / 16 ^ n) :: nib n (m % 16 ^ n)
theorem pad_snoc : ∀ (n m : Nat), m < 16 ^ (n + 1) → pad (n + 1) m = pad n (m / 16) ++ [hx (m % 16)]
  | 0, m, h => by
    have : m < 16 := by simpa using h
    simp [pad]; congr 1; omega
  | n + 1, m, h => by
    have e1 : m / 16 ^ (n + 1) = m / 16 / 16 ^ n := by rw [Nat.pow_succ', Nat.div_div_eq_div_mul]
    have e2 : m % 16 ^ (n + 1) / 16 = m / 16 % 16 ^ n := by rw [Nat.pow_succ', Nat.mod_mul_right_div_self]
    have e3 : m % 16 ^ (n + 1) % 16 = m % 16 := by rw [Nat.pow_succ', Nat.mod_mul_right_mod]
    have ih := pad_snoc n (m % 16 ^ (n + 1)) (Nat.mod_lt _ (Nat.pow_pos (by omega)))
    rw [e2, e3] at ih
    rw [pad, ih, e1, pad]
    rfl
theorem pad_hexL : ∀ (n m : Nat), m < 16 ^ (n + 1) → List.replicate (n + 1 - (hexL m).length) 48 ++ hexL m = pad (n + 1) m
  | 0, m, h => by
    have : m < 16 := by simpa using h
    rw [hexL_small this]; simp [pad]
  | n + 1, m, h => by
    rw [pad_snoc _ _ h]
    rcases Nat.lt_or_ge m 16 with h1 | h1
    · have ih := pad_hexL n 0 (Nat.pow_pos (by omega))
      rw [hexL_small (by omega)] at ih
      rw [hexL_small h1, show m / 16 = 0 by omega, ← ih, show m % 16 = m by omega]
      have : hx 0 = 48 := rfl
      rw [this]
      simp [List.replicate_succ']
    · have ih := pad_hexL n (m / 16) (by rw [Nat.div_lt_iff_lt_mul (by omega)]; rw [Nat.pow_succ] at h; exact h)
      rw [hexL_step h1, ← ih]
      simp
theorem dropWhile_append_one (p : UInt8 → Bool) (x : UInt8) : ∀ l : List UInt8, (l ++ [x]).dropWhile p = if l.dropWhile p = [] then (if p x then [] else [x]) else l.dropWhile p ++ [x]
  | [] => by simp [List.dropWhile]; split <;> simp_all
  | y :: l => by
    rw [List.cons_append, List.dropWhile_cons, List.dropWhile_cons]
    by_cases h : p y
    · rw [if_pos h, if_pos h]; exact dropWhile_append_one p x l
    · rw [if_neg h, if_neg h, if_neg (by simp)]; simp
theorem trim_cons (x : UInt8) (l : List UInt8) : Lib.trimRightB (x :: l) 48 = if Lib.trimRightB l 48 = [] then (if x = 48 then [] else [x]) else x :: Lib.trimRightB l 48 := by
  unfold Lib.trimRightB
  rw [List.reverse_cons, dropWhile_append_one]
  generalize l.reverse.dropWhile (· == 48) = t
  by_cases h : t = []
  · subst h
    by_cases hx : x = 48 <;> simp [hx]
  · rw [if_neg h, if_neg (by simpa using h)]
    simp
theorem hx_zero {d : Nat} (h : d < 16) : hx d = 48 ↔ d = 0 := by
  have : ∀ d : Fin 16, hx d.val = 48 ↔ d.val = 0 := by decide
  exact this ⟨d, h⟩
theorem nib_trim : ∀ (n m : Nat), m < 16 ^ n → Lib.trimRightB (pad n m) 48 = nib n m ∧ (nib n m = [] ↔ m = 0)
  | 0, m, h => by
    have : m = 0 := by simpa using h
    subst this
    exact ⟨rfl, by simp [nib]⟩
  | n + 1, m, h => by
    have hr : m % 16 ^ n < 16 ^ n := Nat.mod_lt _ (Nat.pow_pos (by omega))
    obtain ⟨ih1, ih2⟩ := nib_trim n (m % 16 ^ n) hr
    have hd : m / 16 ^ n < 16 := Nat.div_lt_of_lt_mul (by rw [Nat.pow_succ] at h; exact h)
    have hdm := Nat.div_add_mod m (16 ^ n)
    rw [pad, trim_cons, ih1, nib]
    by_cases h0 : m = 0
    · subst h0
      rw [Nat.zero_mod] at ih2 ⊢
      rw [Nat.zero_div, if_pos (ih2.2 rfl), if_pos rfl, if_pos (by decide)]
      exact ⟨rfl, by simp⟩
    · rw [if_neg h0]
      refine ⟨?_, by simp [h0]⟩
      by_cases h1 : m % 16 ^ n = 0
      · have h2 : m / 16 ^ n ≠ 0 := by
          intro h3
          rw [h1, h3] at hdm
          simp at hdm; omega
        rw [if_pos (ih2.2 h1), if_neg (fun h3 => h2 ((hx_zero hd).1 h3)), ih2.2 h1]
      · rw [if_neg (fun h3 => h1 (ih2.1 h3))]
theorem frac_nib (q : Nat) (h : q < 4503599627370496) : frac q = nib 13 q := by
  have h2 : q < 16 ^ 13 := Nat.lt_of_lt_of_le h (by decide)
  unfold frac
  rw [pad_hexL 12 q h2]
  exact (nib_trim 13 q h2).1
end Go.Proofs.YtjpiplplohapnaaGreatDoor
namespace Go.Proofs.YtjpiplplohapnaaGreatDoor.Rf
theorem hx_cases {d : Nat} (h : d < 16) : ((hx d).toNat = 48 + d ∧ d < 10) ∨ ((hx d).toNat = 87 + d ∧ 10 ≤ d ∧ lw (87 + d) = 87 + (d : Int)) := by
  have key : ∀ d : Fin 16, ((hx d.val).toNat = 48 + d.val ∧ d.val < 10) ∨ ((hx d.val).toNat = 87 + d.val ∧ 10 ≤ d.val ∧ lw (87 + d.val) = 87 + (d.val : Int)) := by decide +kernel
  exact key ⟨d, h⟩
theorem stp_hx {d : Nat} (h : d < 16) {t : St} (hnm : t.nm < 16) (hnd : t.nd ≠ 0) : stp true (hx d).toNat t = some { t with sd := true, nd := t.nd + 1, nm := t.nm + 1, m := t.m * 16 + d } := by
  unfold stp
  rcases hx_cases h with ⟨e, h2⟩ | ⟨e, h2, h3⟩
  · rw [e, if_neg (by omega), if_neg (by omega), if_pos (by omega), if_neg (by omega), if_pos (show t.nm < mxd true from hnm)]
    rw [show 48 + d - 48 = d by omega]
    rfl
  · rw [e, if_neg (by omega), if_neg (by omega), if_neg (by omega), h3, if_pos ⟨rfl, by omega, by omega⟩, if_pos (show t.nm < mxd true from hnm)]
    rw [show ((87 : Int) + (d : Int) - 87).toNat = d by omega]
    rfl
theorem stp_p (t : St) : stp true 112 t = none := by
  unfold stp
  have : lw 112 = 112 := by decide +kernel
  rw [if_neg (by omega), if_neg (by omega), if_neg (by omega), this, if_neg (fun h => by omega)]
theorem scan_nib : ∀ (n m : Nat), m < 16 ^ n → ∀ (t : St) (r : List UInt8), t.nm + n ≤ 16 → t.nd ≠ 0 →
    ∃ v k : Nat, k ≤ n ∧ v * 16 ^ (n - k) = m ∧ v < 16 ^ k ∧ scan true (nib n m ++ 112 :: r) t = ({ t with sd := t.sd || decide (k ≠ 0), nd := t.nd + k, nm := t.nm + k, m := t.m * 16 ^ k + v }, 112 :: r)
  | 0, m, hm, t, r, h1, h2 => by
    have : m = 0 := by simpa using hm
    subst this
    refine ⟨0, 0, by omega, by simp, by simp, ?_⟩
    show scan true (112 :: r) t = _
    rw [scan, show (112 : UInt8).toNat = 112 from rfl, stp_p]
    simp
  | n + 1, m, hm, t, r, h1, h2 => by
    by_cases h0 : m = 0
    · subst h0
      refine ⟨0, 0, by omega, by simp, by simp, ?_⟩
      rw [nib, if_pos rfl]
      show scan true (112 :: r) t = _
      rw [scan, show (112 : UInt8).toNat = 112 from rfl, stp_p]
      simp
    · have hd : m / 16 ^ n < 16 := Nat.div_lt_of_lt_mul (by rw [Nat.pow_succ] at hm; exact hm)
      have hr : m % 16 ^ n < 16 ^ n := Nat.mod_lt _ (Nat.pow_pos (by omega))
      obtain ⟨v, k, hk, hv, hv2, hs⟩ := scan_nib n (m % 16 ^ n) hr { t with sd := true, nd := t.nd + 1, nm := t.nm + 1, m := t.m * 16 + m / 16 ^ n } r (by dsimp only; omega) (by dsimp only; omega)
      refine ⟨m / 16 ^ n * 16 ^ k + v, k + 1, by omega, ?_, ?_, ?_⟩
      · rw [show n + 1 - (k + 1) = n - k by omega, Nat.add_mul, Nat.mul_assoc, ← Nat.pow_add, show k + (n - k) = n by omega, hv]
        rw [Nat.mul_comm]; exact Nat.div_add_mod m (16 ^ n)
      · have : (m / 16 ^ n + 1) * 16 ^ k ≤ 16 * 16 ^ k := Nat.mul_le_mul_right _ hd
        rw [Nat.pow_succ, Nat.mul_comm (16 ^ k)]
        rw [Nat.add_mul] at this; omega
      · rw [nib, if_neg h0, List.cons_append, scan, stp_hx hd (by omega) h2]
        dsimp only
        rw [hs]
        dsimp only
        congr 1
        congr 1
        · simp
        · omega
        · omega
        · rw [Nat.pow_succ, Nat.add_mul, Nat.mul_assoc, Nat.mul_comm 16 (16 ^ k), Nat.add_assoc]
theorem esc_digits : ∀ (l : List UInt8) (e : Nat), (∀ c ∈ l, Num.isD c) → Num.dv e l < 100000 → l.length ≤ 4 ∨ Num.dv e l < 10000 → escan l e false = (Num.dv e l, false, [])
  | [], e, _, _, _ => by rw [escan, Num.dv_nil]
  | c :: l, e, h, h1, h2 => by
    have hc := h c (by simp)
    have hce : 48 ≤ c.toNat ∧ c.toNat ≤ 57 := hc
    have hge := Num.dv_ge l (10 * e + (c.toNat - 48))
    rw [Num.dv_cons] at h1 h2 ⊢
    have hp : 1 ≤ 10 ^ l.length := Nat.pow_pos (by decide)
    have hle : (10 * e + (c.toNat - 48)) * 1 ≤ (10 * e + (c.toNat - 48)) * 10 ^ l.length := Nat.mul_le_mul_left _ hp
    rw [escan, if_neg (by omega), if_pos hce, if_pos (by omega), show e * 10 + (c.toNat - 48) = 10 * e + (c.toNat - 48) by omega]
    exact esc_digits l _ (fun x hx => h x (by simp [hx])) h1 (by
      rcases h2 with h2 | h2
      · left; simp at h2; omega
      · right; exact h2)
theorem starts_digits {l : List UInt8} (h : ∀ c ∈ l, Num.isD c) (h0 : l ≠ []) : startsD l = true := by
  cases l with
  | nil => exact absurd rfl h0
  | cons c l =>
    have hc : 48 ≤ c.toNat ∧ c.toNat ≤ 57 := h c (by simp)
    rw [startsD, decide_eq_true hc.1, decide_eq_true hc.2]; rfl
theorem eat_itoa (e : Int) (h1 : -10000 < e) (h2 : e < 10000) : eat false ((if 0 ≤ e then [43] else []) ++ Lib.itoa e) = some (e, false, []) := by
  by_cases h : 0 ≤ e
  · rw [if_pos h]
    have hi : Lib.itoa e = Lib.decDigits e.toNat := by unfold Lib.itoa; rw [if_neg (by omega)]
    have hs : esign ([43] ++ Lib.itoa e) = (1, Lib.decDigits e.toNat) := by rw [hi]; rfl
    have hv := Num.dv_dec e.toNat
    have he := esc_digits (Lib.decDigits e.toNat) 0 (Num.dec_digits _) (by rw [hv]; omega) (Or.inr (by rw [hv]; omega))
    unfold eat
    rw [hs]
    dsimp only
    rw [starts_digits (Num.dec_digits _) (Num.dec_ne _), if_pos rfl, he, hv]
    congr 1
    congr 1
    omega
  · rw [if_neg h]
    have hi : Lib.itoa e = 45 :: Lib.decDigits e.natAbs := by unfold Lib.itoa; rw [if_pos (by omega)]
    have hs : esign ([] ++ Lib.itoa e) = (-1, Lib.decDigits e.natAbs) := by rw [hi]; rfl
    have hv := Num.dv_dec e.natAbs
    have he := esc_digits (Lib.decDigits e.natAbs) 0 (Num.dec_digits _) (by rw [hv]; omega) (Or.inr (by rw [hv]; omega))
    unfold eat
    rw [hs]
    dsimp only
    rw [starts_digits (Num.dec_digits _) (Num.dec_ne _), if_pos rfl, he, hv]
    congr 1
    congr 1
    omega
theorem tail_cons (e : Int) : (if 0 ≤ e then [112, 43] else [112]) ++ Lib.itoa e = 112 :: ((if 0 ≤ e then [43] else []) ++ Lib.itoa e) := by
  by_cases h : 0 ≤ e
  · rw [if_pos h, if_pos h]; rfl
  · rw [if_neg h, if_neg h]; rfl
theorem read_hex (M : Nat) (E : Int) (hM1 : 4503599627370496 ≤ M) (hM2 : M < 9007199254740992) (hE1 : -10000 < E) (hE2 : E < 10000) (l : List UInt8)
    (hl : l = [49] ++ (if M = 4503599627370496 then [] else 46 :: frac (M - 4503599627370496)) ++ (if 0 ≤ E then [112, 43] else [112]) ++ Lib.itoa E) :
    ∃ v k : Nat, k ≤ 13 ∧ v * 16 ^ (13 - k) = M - 4503599627370496 ∧ v < 16 ^ k ∧ fin true (scan true l st0).1 (scan true l st0).2 = some ⟨16 ^ k + v, E - 4 * k, false, false, []⟩ := by
  have h1 : stp true 49 st0 = some ⟨false, false, true, 1, 1, 0, 1, false⟩ := rfl
  have hx := eat_itoa E hE1 hE2
  by_cases h : M = 4503599627370496
  · rw [if_pos h, List.append_nil, List.append_assoc, tail_cons] at hl
    have hs : scan true l st0 = (⟨false, false, true, 1, 1, 0, 1, false⟩, 112 :: ((if 0 ≤ E then [43] else []) ++ Lib.itoa E)) := by
      rw [hl]
      rw [List.singleton_append, scan, show (49 : UInt8).toNat = 49 from rfl, h1]
      dsimp only
      rw [scan, show (112 : UInt8).toNat = 112 from rfl, stp_p]
    refine ⟨0, 0, by omega, by rw [h, Nat.zero_mul, Nat.sub_self], by simp, ?_⟩
    rw [hs]
    unfold fin
    rw [if_pos rfl, expPart_hit_x (by decide +kernel), hx]
    rw [Option.map_some]
    congr 1
    unfold dpv nmv
    simp
    omega
  · rw [if_neg h, List.append_assoc, tail_cons, frac_nib _ (by omega)] at hl
    obtain ⟨v, k, hk, hv, hv2, hs⟩ := scan_nib 13 (M - 4503599627370496) (by have : (16 : Nat) ^ 13 = 4503599627370496 := by decide
                                                                             omega) ⟨false, true, true, 1, 1, 1, 1, false⟩ ((if 0 ≤ E then [43] else []) ++ Lib.itoa E) (by decide) (by decide)
    refine ⟨v, k, hk, hv, hv2, ?_⟩
    have hs : scan true l st0 = (⟨false, true, true, 1 + k, 1 + k, 1, 1 * 16 ^ k + v, false⟩, 112 :: ((if 0 ≤ E then [43] else []) ++ Lib.itoa E)) := by
      rw [hl]
      rw [List.append_assoc, List.singleton_append, List.cons_append, scan, show (49 : UInt8).toNat = 49 from rfl, h1]
      dsimp only
      rw [scan, show (46 : UInt8).toNat = 46 from rfl, show stp true 46 ⟨false, false, true, 1, 1, 0, 1, false⟩ = some ⟨false, true, true, 1, 1, 1, 1, false⟩ from rfl]
      dsimp only
      rw [hs]
      rfl
    rw [hs]
    unfold fin
    rw [if_pos rfl, expPart_hit_x (by decide +kernel), hx]
    have hm : 1 * 16 ^ k + v ≠ 0 := by have := Nat.pow_pos (a := 16) (n := k) (by decide); omega
    have hP : 1 * 16 ^ k = 16 ^ k := Nat.one_mul _
    rw [hP] at hm ⊢
    generalize 16 ^ k = P at *
    rw [Option.map_some]
    unfold dpv nmv
    dsimp only
    rw [if_neg hm]
    refine congrArg (fun e => some (⟨P + v, e, false, false, []⟩ : Out)) ?_
    simp
    omega
end Go.Proofs.YtjpiplplohapnaaGreatDoor.Rf
namespace Go.Proofs.YtjpiplplohapnaaGreatDoor.Ah
theorem ah1_run : ∀ (j f m : Nat) (e : Int), m ≠ 0 → 18014398509481984 ≤ m * 2 ^ j → m * 2 ^ j < 36028797018963968 → j ≤ f → ah1 f m e = (m * 2 ^ j, e - j)
  | 0, f, m, e, h0, h1, h2, hf => by
    have : m * 2 ^ 0 = m := by simp
    rw [this] at h1 ⊢
    cases f with
    | zero => simp [ah1]
    | succ f => rw [ah1, if_neg (by omega)]; simp
  | j + 1, f, m, e, h0, h1, h2, hf => by
    obtain ⟨f, rfl⟩ : ∃ g, f = g + 1 := ⟨f - 1, by omega⟩
    have e1 : m * 2 ^ (j + 1) = 2 * m * 2 ^ j := by rw [Nat.pow_succ, Nat.mul_comm 2 m, Nat.mul_assoc, Nat.mul_comm 2]
    have hp : 1 ≤ 2 ^ j := Nat.pow_pos (by decide)
    have hm : m < 18014398509481984 := by
      have : 2 * m * 1 ≤ 2 * m * 2 ^ j := Nat.mul_le_mul_left _ hp
      omega
    rw [e1] at h1 h2 ⊢
    rw [ah1, if_pos ⟨h0, hm⟩, ah1_run j f (2 * m) (e - 1) (by omega) h1 h2 (by omega)]
    congr 1; omega
theorem sh1_even (m : Nat) : sh1 (2 * m) = m := by unfold sh1; rw [if_neg (by omega)]; omega
theorem ah3_run : ∀ (t f c : Nat) (e : Int), e + t = -1024 → 1 < c → t ≤ f → ah3 f (c * 2 ^ t) e = (c, -1024)
  | 0, f, c, e, h1, h2, hf => by
    have : c * 2 ^ 0 = c := by simp
    rw [this]
    cases f with
    | zero => simp [ah3]; omega
    | succ f => rw [ah3, if_neg (by omega)]; congr 1; omega
  | t + 1, f, c, e, h1, h2, hf => by
    obtain ⟨f, rfl⟩ : ∃ g, f = g + 1 := ⟨f - 1, by omega⟩
    have e1 : c * 2 ^ (t + 1) = 2 * (c * 2 ^ t) := by rw [Nat.pow_succ]; generalize 2 ^ t = p; rw [Nat.mul_comm p 2, Nat.mul_left_comm]
    have hp : 1 ≤ 2 ^ t := Nat.pow_pos (by decide)
    have hc : c * 1 ≤ c * 2 ^ t := Nat.mul_le_mul_left _ hp
    rw [e1, ah3, if_pos ⟨by omega, by omega⟩, sh1_even, ah3_run t f c (e + 1) (by omega) h2 (by omega)]
theorem ah3_stop (f m : Nat) (e : Int) (h : -1024 ≤ e) : ah3 f m e = (m, e) := by
  cases f with
  | zero => rfl
  | succ f => rw [ah3, if_neg (by omega)]
theorem ah2_stop (f m : Nat) (e : Int) (h : m < 36028797018963968) : ah2 f m e = (m, e) := by
  cases f with
  | zero => rfl
  | succ f => rw [ah2, if_neg (by omega)]
theorem ahR_four (c : Nat) (e : Int) : ahR (4 * c) e = (c, e + 2) := by
  unfold ahR
  have : ¬ up3 (4 * c) := by unfold up3; omega
  rw [if_neg this]
  congr 1; omega
theorem bits_parts (b : Nat) (hb : b < 18446744073709551616) : (if neg b then 9223372036854775808 else 0) + sz b = b := by
  unfold neg sz
  by_cases h : 9223372036854775808 ≤ b
  · rw [decide_eq_true h, if_pos rfl]; omega
  · rw [decide_eq_false h, if_neg (by decide)]; omega
theorem ah_zero (ng : Bool) : ah 0 0 ng false = ((if ng then 9223372036854775808 else 0), false) := by
  cases ng <;> decide +kernel
theorem ah_hex (b : Nat) (hb : b < 18446744073709551616) (h : sz b < 9218868437227405312) (h0 : sz b ≠ 0) (v k : Nat) (hk : k ≤ 13)
    (hv : v * 16 ^ (13 - k) = spM (sz b) * 2 ^ up (spM (sz b)) - 4503599627370496) :
    ah (16 ^ k + v) (spE (sz b) - up (spM (sz b)) + 52 - 4 * k) (neg b) false = (b, false) := by
  have hr := spM_range (sz b) (by omega)
  have hu := up_spec _ hr.1 hr.2
  have hup : up (spM (sz b)) ≤ 52 := by unfold up; omega
  have hM : (16 ^ k + v) * 2 ^ (54 - 4 * k) = 4 * (spM (sz b) * 2 ^ up (spM (sz b))) := by
    have e1 : 2 ^ (54 - 4 * k) = 16 ^ (13 - k) * 4 := by
      rw [show (16 : Nat) = 2 ^ 4 from rfl, ← Nat.pow_mul, show (4 : Nat) = 2 ^ 2 from rfl, ← Nat.pow_add]
      congr 1; omega
    have e2 : 16 ^ k * 16 ^ (13 - k) = 4503599627370496 := by
      rw [← Nat.pow_add, show k + (13 - k) = 13 by omega]
    rw [e1, ← Nat.mul_assoc, Nat.add_mul, e2, hv]
    omega
  have hm0 : 16 ^ k + v ≠ 0 := by have := Nat.pow_pos (a := 16) (n := k) (by decide); omega
  have a1 := ah1_run (54 - 4 * k) 64 (16 ^ k + v) (spE (sz b) - up (spM (sz b)) + 52 - 4 * k + 52) hm0 (by rw [hM]; omega) (by rw [hM]; omega) (by omega)
  rw [hM] at a1
  have he1 : spE (sz b) - up (spM (sz b)) + 52 - 4 * k + 52 - ((54 - 4 * k : Nat) : Int) = spE (sz b) - up (spM (sz b)) + 50 := by omega
  rw [he1] at a1
  unfold ah
  rw [a1]
  dsimp only
  rw [if_neg (by decide), ah2_stop _ _ _ (by omega)]
  dsimp only
  have hbp := bits_parts b hb
  by_cases hs : sz b < 4503599627370496
  · have e1 : spM (sz b) = sz b := by unfold spM; rw [if_pos hs]
    have e2 : spE (sz b) = -1074 := by unfold spE; rw [if_neg h0, if_pos hs]
    rw [e1] at hup ⊢
    rw [e2]
    rw [← Nat.mul_assoc, ah3_run (up (sz b)) 64 (4 * sz b) _ (by omega) (by omega) (by omega)]
    dsimp only
    rw [ahR_four]
    dsimp only
    unfold ahB
    dsimp only
    rw [if_pos hs, if_neg (by omega)]
    rw [show ((-1023 + 1023 : Int) % 2048).toNat = 0 by decide, Nat.zero_mul, Nat.zero_add, Nat.mod_eq_of_lt hs, hbp]
  · have e1 : spM (sz b) = sz b % 4503599627370496 + 4503599627370496 := by unfold spM; rw [if_neg hs]
    have e2 : spE (sz b) = ((sz b / 4503599627370496 : Nat) : Int) - 1075 := by unfold spE; rw [if_neg h0, if_neg hs]
    have e3 : up (spM (sz b)) = 0 := by
      unfold up
      have p52 : (2 : Nat) ^ 52 = 4503599627370496 := by decide
      have : 52 ≤ (spM (sz b)).log2 := (Nat.le_log2 (by omega)).2 (by rw [p52]; omega)
      omega
    rw [e3, Nat.pow_zero, Nat.mul_one]
    rw [ah3_stop _ _ _ (by omega)]
    dsimp only
    rw [ahR_four]
    dsimp only
    unfold ahB
    dsimp only
    have hc : (if spM (sz b) < 4503599627370496 then (-1023 : Int) else spE (sz b) - ((0 : Nat) : Int) + 50 + 2) = spE (sz b) - ((0 : Nat) : Int) + 50 + 2 := if_neg (by omega)
    rw [hc, if_neg (by omega)]
    have e4 : ((spE (sz b) - ((0 : Nat) : Int) + 50 + 2 + 1023) % 2048).toNat = sz b / 4503599627370496 := by omega
    have e5 : spM (sz b) % 4503599627370496 = sz b % 4503599627370496 := by omega
    rw [e4, e5]
    congr 1
    omega
theorem ah_lt (m : Nat) (e : Int) (ng tr : Bool) : (ah m e ng tr).1 < 18446744073709551616 := by
  have key : ∀ m e, (ahB ng m e).1 < 18446744073709551616 := by
    intro m e
    unfold ahB
    dsimp only
    generalize (if m < 4503599627370496 then (-1023 : Int) else e) = x
    split
    · dsimp only; split <;> omega
    · dsimp only; split <;> omega
  exact key _ _
end Go.Proofs.YtjpiplplohapnaaGreatDoor.Ah
namespace Go.Proofs.YtjpiplplohapnaaGreatDoor
open Go.RowKit Go.Proofs.YtjpiplplohapnaaGreatDoorW.PrintWords Rf
def SomeBool (w : World) (e : Ending) (w' : World) : Prop := (∃ b : Bool, e = .returned (.bool b)) ∧ w' = w
set_option maxRecDepth 100000 in
set_option maxHeartbeats 2000000 in
theorem under_calls (s : ByteArray) (hs : s.size ≤ 1000) (w : World) : Calls Tryz.prog 173 #[.string s] w (SomeBool w) := by
  go_enter Tryz.func173, Tryz.ntmps173
  go_upto_region 3 with (fail)
  go_cut [18] (fun v18 w' => (∃ b : Bool, v18 = .bool b ∧ (b = true → 1 ≤ s.size)) ∧ w = w')
  case first =>
    by_cases h1 : 1 ≤ s.size
    · have h1' : (1 : Int) ≤ s.size := by omega
      have h0 : 0 < s.size := h1
      go_wp2_with fail
      all_goals (go_meet; case rel => first | exact ⟨⟨_, rfl, fun _ => h1⟩, rfl⟩)
    · have h1' : ¬ (1 : Int) ≤ s.size := by omega
      have h1'' : (s.size : Int) < 1 := by omega
      go_wp2_with fail
      all_goals (go_meet; case rel => first | exact ⟨⟨false, rfl, fun h => by cases h⟩, rfl⟩)
  case rest =>
    obtain ⟨⟨b, rfl, hb⟩, rfl⟩ := hcut
    go_upto_if 18 with (fail)
    go_cut [0] (fun v0 w' => (∃ s' : ByteArray, v0 = .string s' ∧ s'.size ≤ 1000) ∧ w = w')
    case first =>
      cases b
      · go_wp2_with fail
        go_meet
        case rel => exact ⟨⟨s, rfl, hs⟩, rfl⟩
      · have h1 := hb rfl
        have h1' : (1 : Int) ≤ s.size := by omega
        go_wp2_with fail
        go_meet
        case rel => exact ⟨⟨_, rfl, by rw [ByteArray.size_extract]; omega⟩, rfl⟩
    case rest =>
      obtain ⟨⟨t, rfl, ht⟩, rfl⟩ := hcut
      clear hs hb
      go_upto_region 6 with (fail)
      go_cut [46] (fun v46 w' => (∃ b : Bool, v46 = .bool b ∧ (b = true → 2 ≤ t.size)) ∧ w = w')
      case first =>
        by_cases h1 : 2 ≤ t.size
        · have h1' : (2 : Int) ≤ t.size := by omega
          have h0 : 0 < t.size := by omega
          have h01 : 1 < t.size := by omega
          go_wp2_with (refine (Tryz.internal_strconv_lower _ _).mono ?_; rintro e w1 ⟨rfl, rfl⟩)
          all_goals (go_meet; case rel => first | exact ⟨⟨_, rfl, fun _ => h1⟩, rfl⟩)
        · have h1' : ¬ (2 : Int) ≤ t.size := by omega
          have h1'' : (t.size : Int) < 2 := by omega
          go_wp2_with fail
          all_goals (go_meet; case rel => first | exact ⟨⟨false, rfl, fun h => by cases h⟩, rfl⟩)
      case rest =>
        obtain ⟨⟨b, rfl, hb⟩, rfl⟩ := hcut
        go_upto_if 46 with (fail)
        go_cut [3, 4, 5] (fun v3 v4 v5 w' => (∃ (r : Int) (k : Nat) (h : Bool), v3 = .int .i32 r ∧ v4 = .int .i64 k ∧ v5 = .bool h ∧ k ≤ t.size) ∧ w = w')
        case first =>
          cases b
          · go_wp2_with fail
            go_meet
            case rel => exact ⟨⟨94, 0, false, rfl, rfl, rfl, by omega⟩, rfl⟩
          · have h1 := hb rfl
            have h01 : 1 < t.size := by omega
            go_wp2_with (refine (Tryz.internal_strconv_lower _ _).mono ?_; rintro e w1 ⟨rfl, rfl⟩)
            all_goals (go_meet; case rel => exact ⟨⟨48, 2, _, rfl, rfl, rfl, h1⟩, rfl⟩)
        case rest =>
          obtain ⟨⟨r0, k0, hx, rfl, rfl, rfl, hk0⟩, rfl⟩ := hcut
          clear hb
          go_wp2_with fail
          have hsz0 : t.size - k0 + k0 = t.size := by omega
          clear hk0
          go_loopg [3, 4] (t.size - k0) (fun gn v3 v4 w' => ∃ (r : Int) (k : Nat), gn + k = t.size ∧ v3 = .int .i32 r ∧ v4 = .int .i64 k ∧ w = w')
          case atStart => exact ⟨r0, k0, hsz0, rfl, rfl, rfl⟩
          case round =>
            obtain ⟨r, k, hg, rfl, rfl, rfl⟩ := hrel
            by_cases hk : k < t.size
            · have hw : IntKind.i64.wrap ((k : Int) + 1) = (k : Int) + 1 := by rw [Go.IntKind.wrap_i64]; omega
              go_upto_region 12 with (fail)
              go_cut [83] (fun v83 w' => (∃ b : Bool, v83 = .bool b) ∧ w = w')
              case first =>
                cases hx
                · go_wp2_with (refine (Tryz.internal_strconv_lower _ _).mono ?_; rintro e w1 ⟨rfl, rfl⟩)
                  all_goals (go_meet; case rel => exact ⟨⟨_, rfl⟩, rfl⟩)
                · go_wp2_with (refine (Tryz.internal_strconv_lower _ _).mono ?_; rintro e w1 ⟨rfl, rfl⟩)
                  all_goals (go_meet; case rel => exact ⟨⟨_, rfl⟩, rfl⟩)
              case rest =>
                obtain ⟨⟨b, rfl⟩, rfl⟩ := hcut
                cases b
                · go_wp2_with fail
                  · go_ret
                    exact ⟨⟨_, rfl⟩, rfl⟩
                  · go_roundg (gk - 1)
                    case measure => omega
                    case rel => exact ⟨95, k + 1, by omega, rfl, by go_num, rfl⟩
                  · go_ret
                    exact ⟨⟨_, rfl⟩, rfl⟩
                  · go_roundg (gk - 1)
                    case measure => omega
                    case rel => exact ⟨33, k + 1, by omega, rfl, by go_num, rfl⟩
                · go_wp2_with fail
                  go_roundg (gk - 1)
                  case measure => omega
                  case rel => exact ⟨48, k + 1, by omega, rfl, by go_num, rfl⟩
            · go_wp2_with fail
              all_goals (go_ret; exact ⟨⟨_, rfl⟩, rfl⟩)
def NoSpecial (w : World) (e : Ending) (w' : World) : Prop := e = .returned (.tuple #[.float .f64 0, .int .i64 0, .bool false]) ∧ w' = w
theorem special_digit (s : ByteArray) (h0 : 0 < s.size) (h1 : 48 ≤ s[0].toNat) (h2 : s[0].toNat ≤ 57) (w : World) : Calls Tryz.prog 141 #[.string s] w (NoSpecial w) := by
  have hne : ¬ s = ByteArray.empty := by rintro rfl; simp at h0
  obtain ⟨c, hc⟩ : ∃ c : Nat, s[0].toNat = c := ⟨_, rfl⟩
  have hcc : (s[0].toNat : Int) = (c : Int) := by rw [hc]
  rw [hc] at h1 h2
  clear hc
  have f1 : ((c : Int) == 43) = false := by simp; omega
  have f2 : ((c : Int) == 45) = false := by simp; omega
  have f3 : ((c : Int) == 105) = false := by simp; omega
  have f4 : ((c : Int) == 73) = false := by simp; omega
  have f5 : ((c : Int) == 110) = false := by simp; omega
  have f6 : ((c : Int) == 78) = false := by simp; omega
  go_enter Tryz.func141, Tryz.ntmps141
  go_wp2_with fail
  go_ret3
  exact ⟨rfl, rfl⟩
theorem common_digit (s : ByteArray) (h0 : 0 < s.size) (h1 : 48 ≤ s[0].toNat) (h2 : s[0].toNat ≤ 57) (w : World) : Calls Tryz.prog 181 #[.string s, .string ⟨#[105, 110, 102, 105, 110, 105, 116, 121]⟩] w fun e w' => e = .returned (.int .i64 0) ∧ w' = w := by
  obtain ⟨c, hc⟩ : ∃ c : Nat, s[0].toNat = c := ⟨_, rfl⟩
  have hcc : (s[0].toNat : Int) = (c : Int) := by rw [hc]
  rw [hc] at h1 h2
  clear hc
  have f1 : ¬ (65 : Int) ≤ (c : Int) := by omega
  have e105 : (⟨#[105, 110, 102, 105, 110, 105, 116, 121]⟩ : ByteArray)[0] = 105 := by decide
  have f2 : ((c : Int) != 105) = true := by simp; omega
  go_enter Tryz.func181, Tryz.ntmps181
  go_wp2_with fail
  refine wp_loop_rounds 1 ?_
  rw [rounds_succ]
  have hm : (0 : Int) < min 8 (s.size : Int) := by omega
  go_wp2_with fail
  go_ret
  exact ⟨rfl, rfl⟩
theorem special_minus (s : ByteArray) (hs : 1 < s.size) (hs2 : s.size ≤ 1000) (h45 : s[0].toNat = 45) (h1 : 48 ≤ s[1].toNat) (h2 : s[1].toNat ≤ 57) (w : World) : Calls Tryz.prog 141 #[.string s] w (NoSpecial w) := by
  have h0 : 0 < s.size := by omega
  have hne : ¬ s = ByteArray.empty := by rintro rfl; simp at h0
  have hcc : (s[0].toNat : Int) = 45 := by rw [h45]; rfl
  have hs' : (1 : Int) ≤ s.size := by omega
  have hx0 : 0 < (s.extract 1 s.size).size := by rw [ByteArray.size_extract]; omega
  have hx1 : (s.extract 1 s.size)[0] = s[1] := by
    simp [ByteArray.getElem_extract]
  have hcp := Lib.hid (common_digit (s.extract 1 s.size) hx0 (by rw [hx1]; exact h1) (by rw [hx1]; exact h2))
  clear h1 h2 hx0 hx1 h45
  go_enter Tryz.func141, Tryz.ntmps141
  go_wp2_with fail
  refine (hcp.out _).mono ?_
  rintro e w' ⟨rfl, rfl⟩
  go_wp2_with fail
  go_ret3
  exact ⟨rfl, rfl⟩
def RfPost (ng hx : Bool) (s : ByteArray) (o : Option Out) (w : World) (e : Ending) (w' : World) : Prop := w' = w ∧ match o with
  | none => ∃ (m x i : Int) (n t h : Bool), e = .returned (.tuple #[.int .u64 m, .int .i64 x, .bool n, .bool t, .bool h, .int .i64 i, .bool false])
  | some q => ∃ ok : Bool, (q.us = false → ok = true) ∧ e = .returned (.tuple #[.int .u64 q.m, .int .i64 q.e, .bool ng, .bool q.tr, .bool hx, .int .i64 ((s.size - q.rest.length : Nat) : Int), .bool ok])
theorem pos_of {s : ByteArray} {k : Nat} (h : k ≤ s.size) : s.size - (s.data.toList.drop k).length = k := by
  have : s.data.toList.length = s.size := Array.length_toList
  rw [List.length_drop]; omega
end Go.Proofs.YtjpiplplohapnaaGreatDoor
namespace Go.Proofs.YtjpiplplohapnaaGreatDoor
open Go.RowKit Go.Proofs.YtjpiplplohapnaaGreatDoorW.PrintWords Rf
def headR : Code → Option Nat
  | .region n _ _ => some n
  | .seq a _ => headR a
  | _ => none
def fromR (n : Nat) : Code → Option Code
  | .seq a b => if headR a = some n then some (.seq a b) else match fromR n a with
    | some c => some c
    | none => fromR n b
  | .cond _ a b => match fromR n a with
    | some c => some c
    | none => fromR n b
  | .block _ c => fromR n c
  | .scope c => fromR n c
  | .loop c => fromR n c
  | _ => none
noncomputable def rfCode77 : Code := ((Tryz.f142.body.bind (fromR 77)).getD .skip)
noncomputable def rfCode51 : Code := ((Tryz.f142.body.bind (fromR 51)).getD .skip)
set_option maxRecDepth 100000 in
set_option maxHeartbeats 4000000 in
theorem rfEnd (s : ByteArray) (hs : s.size ≤ 1000) (m k : Nat) (ng hx tr us : Bool) (N E : Int) (hk : k ≤ s.size) (e1 : -200000 ≤ E) (e2 : E ≤ 200000) (n1 : 0 ≤ N) (n2 : N ≤ 100) (o : Option Out) (ho : Hid (o = some ⟨m, if m = 0 then 0 else E - N, tr, us, s.data.toList.drop k⟩)) (w : World) {u1 u10 u11 u12 u13 u14 u15 u18 u19 u20 u21 u22 u23 u24 u25 u26 u27 u28 u29 u30 u31 u32 u33 u34 u35 u36 u37 u38 u39 u40 u41 u42 u43 u44 u45 u46 u47 u48 u49 u50 u51 u52 u53 u54 u55 u56 u57 u58 u59 u60 u61 u62 u63 u64 u65 u66 u67 u68 u69 u70 u71 u72 u73 u74 u75 u76 u77 u78 u79 u80 u81 u82 u83 u84 u85 u86 u87 u88 u89 u90 u91 u92 u93 u94 u95 u96 u97 u98 u99 u100 u101 u102 u103 u104 u105 u106 u107 u108 u109 u110 u111 u112 u113 u114 u115 u116 u117 u118 u119 u120 u121 u122 u123 u124 u125 u126 u127 u128 u129 u130 u131 u132 u133 u134 u135 u136 u137 u138 u139 u140 u141 u142 u143 u144 u145 u146 u147 u148 u149 u150 u151 u152 u153 u154 u155 u156 u157 u158 u159 u160 u161 u162 u163 u164 u165 u166 u167 u168 u169 u170 u171 u172 u173 u174 u175 u176 u177 u178 u179 u180 u181 u182 u183 u184 u185 u186 u187 u188 u189 u190 u191 u192 u193 u194 u195 u196 u197 u198 u199 u200 u201 u202 u203 u204 u205 u206 u207 u208 u209 u210 u211 u212 u213 u214 u215 u216 u217 u218 u219 u220 u221 u222 u223 u224 u225 u226 u227 u228 u229 u230 u231 u232 u233 u234 u235 u236 u237 u238 u239 u240 u241 u242 u243 u244 u245 u246 u247 u248 u249 u250 u251 u252 : Value} :
    rfCode77.wp Tryz.prog (Exit.noGoto (bodyPost Tryz.prog Tryz.f142 (RfPost ng hx s o w))) ⟨#[Value.string s, u1, Value.int .u64 m, Value.int .i64 0, Value.bool ng, Value.bool tr, Value.bool hx, Value.int .i64 (k : Int), Value.bool false, Value.bool us, u10, u11, u12, u13, u14, u15, Value.int .i64 N, Value.int .i64 E, u18, u19, u20, u21, u22, u23, u24, u25, u26, u27, u28, u29, u30, u31, u32, u33, u34, u35, u36, u37, u38, u39, u40, u41, u42, u43, u44, u45, u46, u47, u48, u49, u50, u51, u52, u53, u54, u55, u56, u57, u58, u59, u60, u61, u62, u63, u64, u65, u66, u67, u68, u69, u70, u71, u72, u73, u74, u75, u76, u77, u78, u79, u80, u81, u82, u83, u84, u85, u86, u87, u88, u89, u90, u91, u92, u93, u94, u95, u96, u97, u98, u99, u100, u101, u102, u103, u104, u105, u106, u107, u108, u109, u110, u111, u112, u113, u114, u115, u116, u117, u118, u119, u120, u121, u122, u123, u124, u125, u126, u127, u128, u129, u130, u131, u132, u133, u134, u135, u136, u137, u138, u139, u140, u141, u142, u143, u144, u145, u146, u147, u148, u149, u150, u151, u152, u153, u154, u155, u156, u157, u158, u159, u160, u161, u162, u163, u164, u165, u166, u167, u168, u169, u170, u171, u172, u173, u174, u175, u176, u177, u178, u179, u180, u181, u182, u183, u184, u185, u186, u187, u188, u189, u190, u191, u192, u193, u194, u195, u196, u197, u198, u199, u200, u201, u202, u203, u204, u205, u206, u207, u208, u209, u210, u211, u212, u213, u214, u215, u216, u217, u218, u219, u220, u221, u222, u223, u224, u225, u226, u227, u228, u229, u230, u231, u232, u233, u234, u235, u236, u237, u238, u239, u240, u241, u242, u243, u244, u245, u246, u247, u248, u249, u250, u251, u252], []⟩ w := by
  conv => arg 2; whnf
  have hwe : IntKind.i64.wrap (E - N) = E - N := by rw [Go.IntKind.wrap_i64]; omega
  clear e1 e2 n1 n2
  by_cases hm : m = 0
  · have fm : ((m : Int) != 0) = false := by simp [hm]
    have HM := Lib.hid (show (if m = 0 then (0 : Int) else E - N) = 0 from if_pos hm)
    clear hm
    cases us
    · go_wp2_with fail
      rw [Exit.noGoto_ret]
      refine bodyPost_ret (v := .tuple #[.int .u64 m, .int .i64 0, .bool ng, .bool tr, .bool hx, .int .i64 k, .bool true]) (by simp [results, Tryz.results142, go_sem]) rfl ⟨rfl, ?_⟩
      rw [ho.out]
      refine ⟨true, fun _ => rfl, ?_⟩
      dsimp only
      rw [HM.out, pos_of hk]
    · have hun := Lib.hid (under_calls (s.extract 0 k) (by rw [ByteArray.size_extract]; omega))
      go_wp2_with (refine (hun.out _).mono ?_; rintro e w1 ⟨⟨ok, rfl⟩, rfl⟩; cases ok)
      all_goals rw [Exit.noGoto_ret]
      · refine bodyPost_ret (v := .tuple #[.int .u64 m, .int .i64 0, .bool ng, .bool tr, .bool hx, .int .i64 k, .bool false]) (by simp [results, Tryz.results142, go_sem]) rfl ⟨rfl, ?_⟩
        rw [ho.out]
        refine ⟨false, fun h => (by first | rfl | (cases h)), ?_⟩
        dsimp only
        rw [HM.out, pos_of hk]
      · refine bodyPost_ret (v := .tuple #[.int .u64 m, .int .i64 0, .bool ng, .bool tr, .bool hx, .int .i64 k, .bool true]) (by simp [results, Tryz.results142, go_sem]) rfl ⟨rfl, ?_⟩
        rw [ho.out]
        refine ⟨true, fun h => (by first | rfl | (cases h)), ?_⟩
        dsimp only
        rw [HM.out, pos_of hk]
  · have fm : ((m : Int) != 0) = true := by simp; omega
    have HM := Lib.hid (show (if m = 0 then (0 : Int) else E - N) = (E - N) from if_neg hm)
    clear hm
    cases us
    · go_wp2_with fail
      rw [Exit.noGoto_ret]
      refine bodyPost_ret (v := .tuple #[.int .u64 m, .int .i64 (E - N), .bool ng, .bool tr, .bool hx, .int .i64 k, .bool true]) (by simp [results, Tryz.results142, go_sem]) rfl ⟨rfl, ?_⟩
      rw [ho.out]
      refine ⟨true, fun _ => rfl, ?_⟩
      dsimp only
      rw [HM.out, pos_of hk]
    · have hun := Lib.hid (under_calls (s.extract 0 k) (by rw [ByteArray.size_extract]; omega))
      go_wp2_with (refine (hun.out _).mono ?_; rintro e w1 ⟨⟨ok, rfl⟩, rfl⟩; cases ok)
      all_goals rw [Exit.noGoto_ret]
      · refine bodyPost_ret (v := .tuple #[.int .u64 m, .int .i64 (E - N), .bool ng, .bool tr, .bool hx, .int .i64 k, .bool false]) (by simp [results, Tryz.results142, go_sem]) rfl ⟨rfl, ?_⟩
        rw [ho.out]
        refine ⟨false, fun h => (by first | rfl | (cases h)), ?_⟩
        dsimp only
        rw [HM.out, pos_of hk]
      · refine bodyPost_ret (v := .tuple #[.int .u64 m, .int .i64 (E - N), .bool ng, .bool tr, .bool hx, .int .i64 k, .bool true]) (by simp [results, Tryz.results142, go_sem]) rfl ⟨rfl, ?_⟩
        rw [ho.out]
        refine ⟨true, fun h => (by first | rfl | (cases h)), ?_⟩
        dsimp only
        rw [HM.out, pos_of hk]
end Go.Proofs.YtjpiplplohapnaaGreatDoor
