/- SaveSums: the eight digits of a sum. -/
import Derived.Test.YtbmineeojjngeaaGreatDoorSg
namespace Go.Proofs.YtbmineeojjngeaaGreatDoor
open Go.RowKit
abbrev encB (b : UInt8) : Value := .int .u8 (b.toNat : Int)
theorem wrap_i64_in {n : Int} (h1 : -9223372036854775808 ≤ n) (h2 : n ≤ 9223372036854775807) : IntKind.i64.wrap n = n := by
  have := IntWalk.i64_in n ⟨h1, h2⟩
  exact this
/-- the one cell of the listed tables that is read -/
def Laid (w : World) : Prop := w.cell? ⟨6, 15, none⟩ = some (.int .u8 4)
theorem Laid.below {w w' : World} (h : Laid w) (hb : Below w.heap.size w w') : Laid w' := (hb.cell (World.block_lt_of_cell? w _ h)).trans h
set_option maxRecDepth 100000 in
theorem tz64_16 (w : World) (hL : Laid w) : Calls Tryz.prog 194 #[.int .u64 16] w fun e w' => e = .returned (.int .i64 4) ∧ Below w.heap.size w w' := by
  have hc : w.cell? ⟨6, 15, none⟩ = some (.int .u8 4) := hL
  have a0 : IntKind.u64.wrap (-16) = 18446744073709551600 := by decide +kernel
  have a1 : Go.bits .and .u64 16 18446744073709551600 = 16 := by decide +kernel
  have a2 : IntKind.u64.wrap 4573923408821661840 = 4573923408821661840 := by decide +kernel
  go_enter Tryz.func194, Tryz.ntmps194
  go_wp2_with fail
  go_ret
  exact ⟨rfl, Below.refl _ _⟩
set_option maxRecDepth 100000 in
theorem tz_16 (w : World) (hL : Laid w) : Calls Tryz.prog 151 #[.int .u64 16] w fun e w' => e = .returned (.int .i64 4) ∧ Below w.heap.size w w' := by
  go_enter Tryz.func151, Tryz.ntmps151
  go_wp2_with fail
  refine (tz64_16 _ hL).mono ?_
  rintro e w1 ⟨rfl, hb1⟩
  go_wp2_with fail
  go_ret
  exact ⟨rfl, hb1⟩
theorem pow2_16 (w : World) : Calls Tryz.prog 150 #[.int .i64 16] w fun e w' => e = .returned (.bool true) ∧ Below w.heap.size w w' := by
  have a1 : Go.bits .and .i64 16 15 = 0 := by decide +kernel
  go_enter Tryz.func150, Tryz.ntmps150
  go_wp2_with fail
  go_ret
  exact ⟨rfl, Below.refl _ _⟩
/-- A hexadecimal digit. -/
def hx (d : Nat) : UInt8 := if d < 10 then UInt8.ofNat (48 + d) else UInt8.ofNat (87 + d)
/-- The hexadecimal digits of a number, the greatest first. -/
def hexL (x : Nat) : List UInt8 := if _h : x < 16 then [hx x] else hexL (x / 16) ++ [hx (x % 16)]
termination_by x
decreasing_by omega
theorem hexL_small {x : Nat} (h : x < 16) : hexL x = [hx x] := by rw [hexL, dif_pos h]
theorem hexL_step {x : Nat} (h : 16 ≤ x) : hexL x = hexL (x / 16) ++ [hx (x % 16)] := by rw [hexL, dif_neg (by omega)]

structure HexSt (w : World) (u x : Nat) (tl : List UInt8) (w' : World) : Prop where
  below : Below w.heap.size w w'
  row : ∃ cs : Array Value, w'.heap[w.heap.size]? = some (.cells cs 202 (0, 0)) ∧ cs.size = 65 ∧ ∀ j b, tl[j]? = some b → cs[65 - tl.length + j]? = some (encB b)
  val : hexL u = hexL x ++ tl
  len : x * 16 ^ tl.length ≤ u
  big : u < 18446744073709551616
  pos : tl = [] ∨ 1 ≤ x

theorem HexSt.short {w : World} {u x : Nat} {tl : List UInt8} {w' : World} (h : HexSt w u x tl w') (hx : 1 ≤ x) : tl.length < 16 := by
  have h1 := h.len
  have h2 := h.big
  rcases Nat.lt_or_ge tl.length 16 with h3 | h3
  · exact h3
  · have : 16 ^ 16 ≤ 16 ^ tl.length := Nat.pow_le_pow_right (by omega) h3
    have h4 : 1 * 16 ^ tl.length ≤ x * 16 ^ tl.length := Nat.mul_le_mul_right _ hx
    have h5 : (16 : Nat) ^ 16 = 18446744073709551616 := by decide
    omega

theorem row_put {w' : World} {g j : Nat} {tl : List UInt8} {b : UInt8} (hj : j + 1 + tl.length = 65)
    (h : ∃ cs : Array Value, w'.heap[g]? = some (.cells cs 202 (0, 0)) ∧ cs.size = 65 ∧ ∀ j b, tl[j]? = some b → cs[65 - tl.length + j]? = some (encB b)) :
    ∃ cs : Array Value, (w'.setCell ⟨g, j, none⟩ (encB b)).heap[g]? = some (.cells cs 202 (0, 0)) ∧ cs.size = 65 ∧ ∀ i c, (b :: tl)[i]? = some c → cs[65 - (b :: tl).length + i]? = some (encB c) := by
  obtain ⟨cs, h1, h2, h3⟩ := h
  refine ⟨cs.setIfInBounds j (encB b), blk_set h1 j _, by simp [h2], fun i c hc => ?_⟩
  have e : 65 - (b :: tl).length = j := by simp; omega
  rw [e]
  cases i with
  | zero =>
    simp at hc
    subst hc
    simp [Array.getElem?_setIfInBounds, h2]; omega
  | succ i =>
    simp at hc
    have := h3 i c hc
    rw [Array.getElem?_setIfInBounds, if_neg (by omega)]
    rw [← this]
    congr 1; omega

theorem HexSt.put {w : World} {u x j : Nat} {tl : List UInt8} {w' : World} (h : HexSt w u x tl w') (hx16 : 16 ≤ x) (hj : j + 1 + tl.length = 65) :
    HexSt w u (x / 16) (hx (x % 16) :: tl) (w'.setCell ⟨w.heap.size, j, none⟩ (encB (hx (x % 16)))) where
  below := h.below.setCell (Nat.le_refl _) _
  row := row_put hj h.row
  val := by rw [h.val, hexL_step hx16]; simp
  len := by
    have := h.len
    rw [List.length_cons, Nat.pow_succ]
    have h1 : x / 16 * (16 ^ tl.length * 16) = x / 16 * 16 * 16 ^ tl.length := by rw [Nat.mul_assoc, Nat.mul_comm 16 (16 ^ tl.length)]
    rw [h1]
    exact Nat.le_trans (Nat.mul_le_mul_right _ (Nat.div_mul_le_self x 16)) this
  big := h.big
  pos := Or.inr (by omega)
theorem HexSt.cell {w : World} {u x j : Nat} {tl : List UInt8} {w' : World} (h : HexSt w u x tl w') (hj : j < 65) : ∃ v, w'.cell? ⟨w.heap.size, j, none⟩ = some v := by
  obtain ⟨cs, h1, h2, -⟩ := h.row
  exact ⟨cs[j]'(by omega), (blk_cell h1 j).trans (Array.getElem?_eq_getElem (by omega))⟩
theorem HexSt.frozen {w : World} {u x : Nat} {tl : List UInt8} {w' : World} (h : HexSt w u x tl w') (j : Nat) : w'.frozen? ⟨w.heap.size, j, none⟩ = false := by
  obtain ⟨cs, h1, -, -⟩ := h.row
  exact blk_frozen h1 j
theorem HexSt.lt {w : World} {u x : Nat} {tl : List UInt8} {w' : World} (h : HexSt w u x tl w') : w.heap.size < w'.heap.size := by
  obtain ⟨cs, h1, -, -⟩ := h.row
  exact (Array.getElem?_eq_some_iff.1 h1).1
abbrev digs : ByteArray := { data := #[48, 49, 50, 51, 52, 53, 54, 55, 56, 57, 97, 98, 99, 100, 101, 102, 103, 104, 105, 106, 107, 108, 109, 110, 111, 112, 113, 114, 115, 116, 117, 118, 119, 120, 121, 122] }
theorem digs_hx (d : Nat) (h : d < 16) (h' : d < digs.size) : digs[d] = hx d := by
  have : ∀ d : Fin 16, digs.data[d.val]? = some (hx d.val) := by decide
  have := this ⟨d, h⟩
  have h2 : digs.data[d]? = some (digs.data[d]) := Array.getElem?_eq_getElem h'
  exact Option.some.inj (h2.symm.trans this)
theorem bytes_of_cells {w : World} {g i : Nat} {l : List UInt8} (h : ∀ j b, l[j]? = some b → w.cell? ⟨g, i + j, none⟩ = some (encB b)) :
    (convert 46 9 (.slice (some ⟨g, i, none⟩) l.length l.length)).run Tryz.prog w = .ok (.string ⟨l.toArray⟩) w := by
  rw [run_convert_bytes_string w 46 9 5 _ _ _ Tryz.underlying46 Tryz.underlying5 Tryz.underlying9]
  have hl := run_loadCells_list (P := Tryz.prog) (w := w) ⟨g, i, none⟩ (l.map encB) (fun j v hv => by
    rw [List.getElem?_map] at hv
    obtain ⟨b, hb, rfl⟩ := Option.map_eq_some_iff.1 hv
    have := h j b hb
    unfold Addr.add
    split
    · rename_i h0; subst h0; exact this
    · exact this)
  rw [List.length_map] at hl
  rw [run_bytesToString w _ _ _ (l.map fun b => (b.toNat : Int)) (by rw [hl, List.map_map]; rfl)]
  congr 2
  rw [List.foldl_map]
  have : ∀ (l : List UInt8) (acc : ByteArray), l.foldl (fun r n => r.push (UInt8.ofNat ((n.toNat : Int)).toNat)) acc = ⟨acc.data ++ l.toArray⟩ := by
    intro l
    induction l with
    | nil => intro acc; simp
    | cons b l ih => intro acc; rw [List.foldl_cons, ih]; simp [ByteArray.push]
  rw [this]
  simp
theorem HexSt.last {w : World} {u x i : Nat} {tl : List UInt8} {w' : World} (h : HexSt w u x tl w') (hi : i + 1 + tl.length = 65) (hx16 : x < 16) :
    (convert 46 9 (.slice (some ⟨w.heap.size, i, none⟩) (65 - i) (65 - i))).run Tryz.prog (w'.setCell ⟨w.heap.size, i, none⟩ (encB (hx x))) = .ok (.string ⟨(hexL u).toArray⟩) (w'.setCell ⟨w.heap.size, i, none⟩ (encB (hx x))) := by
  have hv : hexL u = hx x :: tl := by rw [h.val, hexL_small hx16]; rfl
  have hlen : (hx x :: tl).length = 65 - i := by rw [List.length_cons]; omega
  obtain ⟨cs, h1, h2, h3⟩ := row_put (b := hx x) hi h.row
  rw [hv, ← hlen]
  refine bytes_of_cells fun j b hb => ?_
  have := h3 j b hb
  rw [hlen, show 65 - (65 - i) = i by omega] at this
  exact (blk_cell h1 (i + j)).trans this
set_option maxRecDepth 100000 in
set_option maxHeartbeats 1000000 in
theorem formatBits16 (u : Nat) (hu : u < 18446744073709551616) (w : World) (hL : Laid w) : Calls Tryz.prog 95 #[.slice none 0 0, .int .u64 u, .int .i64 16, .bool false, .bool false] w fun e w' => e = .returned (.tuple #[.slice none 0 0, .string ⟨(hexL u).toArray⟩]) ∧ Below w.heap.size w w' := by
  have HG := Lib.hid (blk_new w (.cells Tryz.zeroCells202 202 (0, 0)))
  have hL0 : Laid (w.alloc (.cells Tryz.zeroCells202 202 (0, 0))) := hL.below ((Below.refl _ _).alloc (Nat.le_refl _) _)
  have hb0 : Below w.heap.size w (w.alloc (.cells Tryz.zeroCells202 202 (0, 0))) := (Below.refl _ _).alloc (Nat.le_refl _) _
  go_enter Tryz.func95, Tryz.ntmps95
  go_wp2_with fail
  refine (pow2_16 _).mono ?_
  rintro e w1 ⟨rfl, hb1⟩
  have HG1 := Lib.hid (blk_below HG.out hb1)
  have hL1 := hL0.below hb1
  have hb01 := hb0.trans (hb1.mono (by simp))
  go_wp2_with fail
  refine (tz_16 _ hL1).mono ?_
  rintro e w2 ⟨rfl, hb2⟩
  have HG2 := Lib.hid (blk_below HG1.out hb2)
  have hb02 := hb01.trans (hb2.mono hb01.size)
  have HS : HexSt w u u [] w2 := ⟨hb02, ⟨_, HG2.out, by kernel_rfl, fun j b h => by cases h⟩, by simp, by simp, hu, Or.inl rfl⟩
  clear HG HG1 HG2 hL0 hL1 hb0 hb1 hb01 hb2 hb02
  go_wp2_with fail
  go_loopw [1, 13] (fun v1 v13 w' => ∃ (x j : Nat) (tl : List UInt8), v1 = .int .u64 x ∧ v13 = .int .i64 j ∧ j + tl.length = 65 ∧ HexSt w u x tl w') (fun v1 _ _ => (RowKit.intOf v1).toNat)
  case atStart => exact ⟨u, 65, [], rfl, rfl, rfl, HS⟩
  case round =>
    obtain ⟨x, j, tl, rfl, rfl, hj, HS⟩ := hrel
    by_cases h16 : x < 16
    · have h16' : ¬ (16 : Int) ≤ x := by omega
      have hshort : tl.length < 16 := by
        rcases HS.pos with h | h
        · rw [h]; decide
        · exact HS.short h
      obtain ⟨i, rfl⟩ : ∃ i, j = i + 1 := ⟨j - 1, by omega⟩
      have hi64 : (i : Int) < 65 := by omega
      have hi0 : (0 : Int) ≤ i := by omega
      have hwi : IntKind.i64.wrap (i : Int) = i := wrap_i64_in (by omega) (by omega)
      obtain ⟨v, hcell⟩ := HS.cell (j := i) (by omega)
      have hfro := HS.frozen i
      have hlt := HS.lt
      have HS' := Lib.hid HS
      have hx36 : (x : Int) < 36 := by omega
      have hi65 : (i : Int) ≤ 65 := by omega
      have hdg := digs_hx x h16 (by show _ < 36; omega)
      have hcv := HS.last (by omega) h16
      have hbl := HS.below.setCell (p := ⟨w.heap.size, i, none⟩) (Nat.le_refl _) (encB (hx x))
      clear HS
      go_wp2_with fail
      go_ret2
      exact ⟨rfl, hbl⟩
    · have h16' : (16 : Int) ≤ x := by omega
      have hsh := HS.short (by omega)
      obtain ⟨i, rfl⟩ : ∃ i, j = i + 1 := ⟨j - 1, by omega⟩
      have hi64 : (i : Int) < 65 := by omega
      have hi0 : (0 : Int) ≤ i := by omega
      have hwi : IntKind.i64.wrap (i : Int) = i := wrap_i64_in (by omega) (by omega)
      obtain ⟨v, hcell⟩ := HS.cell (j := i) (by omega)
      have hfro := HS.frozen i
      have hlt := HS.lt
      have hand : Go.bits .and .u64 (x : Int) 15 = ((x % 16 : Nat) : Int) := by
        have := Go.u64_and_nat x 15 (by have := HS.len; have := HS.big; have h1 : 1 ≤ 16 ^ tl.length := Nat.pow_pos (by omega); have : x * 1 ≤ x * 16 ^ tl.length := Nat.mul_le_mul_left _ h1; omega) (by omega)
        rw [show ((15 : Nat) : Int) = 15 from rfl] at this
        rw [this]
        exact congrArg _ (Nat.and_two_pow_sub_one_eq_mod x 4)
      have hd : x % 16 < 16 := by omega
      have HS' := Lib.hid HS
      clear HS
      go_wp2_with fail
      have hS2 := HS'.out.put (j := i) (by omega) (by omega)
      refine ⟨⟨x / 16, i, hx (x % 16) :: tl, by rw [Int.natCast_ediv]; rfl, rfl, by rw [List.length_cons]; omega, ?_⟩, by simp [RowKit.intOf]; omega⟩
      have hdg := digs_hx (x % 16) (by omega) (by show _ < 36; omega)
      show HexSt w u (x / 16) (hx (x % 16) :: tl) (wr.setCell _ (encB (digs[x % 16]'(by show _ < 36; omega))))
      rw [hdg]
      exact hS2
end Go.Proofs.YtbmineeojjngeaaGreatDoor
