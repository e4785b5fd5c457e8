/- Part 6 of the proof: TInt, GH, GI, Pad, LRx, LAh, Pf1, RfE, RfTd, RfTx, RfPx. -/
import Derived.Test.YtjpiplplohapnaaGreatDoorBk5
import Derived.LoopTactic
import Derived.Deep.CutBlock
import Derived.Deep.DeepCutAuto
/- The walk of text.Int: at every string of at most 2^48 bytes. -/
namespace Go.Proofs.YtjpiplplohapnaaGreatDoor
open Go.RowKit Go.Sort Go.Proofs.YtjpiplplohapnaaGreatDoorW.PrintWords
theorem grow_below {B : Nat} {a w : World} (h : Below B a w) (hB : B ≤ a.heap.size) (os : Array Obj) : Below B a (grow w os) :=
  ⟨h.os, h.tape, h.output, by have := h.size; simp [grow]; omega, fun i hi => by
    have h1 := h.block i hi
    have h2 : i < w.heap.size := by have := h.size; omega
    rw [← h1]
    show (w.heap ++ os)[i]? = _
    rw [Array.getElem?_append_left h2]⟩
set_option maxRecDepth 100000 in
theorem int_walk (s : ByteArray) (hlim : s.size ≤ 281474976710656) (w : World) (hL : Laid w) :
    Calls Tryz.prog 17 #[.string s] w fun e w' => e = .returned (.tuple #[.int .i64 (Num.progInt s.data.toList).1, .bool (Num.progInt s.data.toList).2]) ∧ Below w.heap.size w w' := by
  cases h : Lib.atoiAll s.data.toList with
  | ok v =>
    have hb := Num.atoi_bounds h
    have bw : ∀ {w1 : World}, (w1 = w ∨ ∃ t, w1 = Lib.bytesWorld w 5 t) → Below w.heap.size w w1 := by
      rintro w1 (rfl | ⟨t, rfl⟩)
      · exact Below.refl _ _
      · exact Lib.bytesWorld_below _ _ _
    by_cases he : Lib.itoa v = s.data.toList
    · have hr : Num.progInt s.data.toList = (v, true) := by simp only [Num.progInt, h]; rw [if_pos he]
      have et : (Lib.itoa v == s.toList) = true := by simpa [ByteArray.toList_eq] using he
      rw [hr]
      go_enter Tryz.func17, Tryz.ntmps17
      go_wp2_with fail
      refine (Tryz.strconv_Atoi_ok s (by omega) v h _).mono ?_
      rintro e w1 ⟨rfl, hw⟩
      have hb1 := bw hw
      have hL1 := hL.below hb1
      clear hw
      go_wp2_with fail
      refine (Tryz.strconv_Itoa v hb.1 hb.2 _ hL1.u10).mono ?_
      rintro e w2 ⟨rfl, k, os, rfl⟩
      have hb2 : Below w.heap.size w (grow (w1.drewN k) os) := grow_below (below_drewN hb1 k) (Nat.le_refl _) os
      generalize grow (w1.drewN k) os = w2 at *
      clear hL1 hb1
      go_wp2_with fail
      go_ret2
      exact ⟨rfl, hb2⟩
    · have hr : Num.progInt s.data.toList = (0, false) := by simp only [Num.progInt, h]; rw [if_neg he]
      have et : (Lib.itoa v == s.toList) = false := by simpa [ByteArray.toList_eq] using he
      rw [hr]
      go_enter Tryz.func17, Tryz.ntmps17
      go_wp2_with fail
      refine (Tryz.strconv_Atoi_ok s (by omega) v h _).mono ?_
      rintro e w1 ⟨rfl, hw⟩
      have hb1 := bw hw
      have hL1 := hL.below hb1
      clear hw
      go_wp2_with fail
      refine (Tryz.strconv_Itoa v hb.1 hb.2 _ hL1.u10).mono ?_
      rintro e w2 ⟨rfl, k, os, rfl⟩
      have hb2 : Below w.heap.size w (grow (w1.drewN k) os) := grow_below (below_drewN hb1 k) (Nat.le_refl _) os
      generalize grow (w1.drewN k) os = w2 at *
      clear hL1 hb1
      go_wp2_with fail
      go_ret2
      exact ⟨rfl, hb2⟩
  | range =>
    have hr : Num.progInt s.data.toList = (0, false) := by simp only [Num.progInt, h]
    obtain ⟨te, pe, hv⟩ := hL.rng
    have hv' := World.var?_cell gRng hv 0
    rw [hr]
    go_enter Tryz.func17, Tryz.ntmps17
    go_wp2_with fail
    refine (Tryz.strconv_Atoi_range s hlim h (.iface te pe) _ (by simpa using hv') (Or.inr ⟨te, pe, rfl⟩)).mono ?_
    rintro e W1 ⟨N, rfl, -, -, hb⟩
    go_wp2_with fail
    go_ret2
    exact ⟨rfl, hb⟩
  | _ =>
    have hr : Num.progInt s.data.toList = (0, false) := by simp only [Num.progInt, h]
    obtain ⟨te, pe, hv⟩ := hL.syn
    have hv' := World.var?_cell gSyn hv 0
    rw [hr]
    go_enter Tryz.func17, Tryz.ntmps17
    go_wp2_with fail
    refine (Tryz.strconv_Atoi_bad s hlim (fun n hn => by rw [h] at hn; cases hn) (fun hn => by rw [h] at hn; cases hn) (.iface te pe) _ (by simpa using hv') (Or.inr ⟨te, pe, rfl⟩)).mono ?_
    rintro e W1 ⟨N, rfl, -, -, hb⟩
    go_wp2_with fail
    go_ret2
    exact ⟨rfl, hb⟩
end Go.Proofs.YtjpiplplohapnaaGreatDoor
/- Walks at every float (3): text.Hex. -/
namespace Go.Proofs.YtjpiplplohapnaaGreatDoor
open Go.RowKit Go.Sort Go.Proofs.YtjpiplplohapnaaGreatDoorW.PrintWords

/-- The digits behind the point of a whole below 2^52: thirteen, without the zeros at the end. -/
def frac (r : Nat) : List UInt8 := Lib.trimRightB (List.replicate (13 - (hexL r).length) 48 ++ hexL r) 48
/-- The text of the number m * 2^(e - 52) with 2^52 <= m < 2^53. -/
def hexT (ng : Bool) (m : Nat) (e : Int) : List UInt8 :=
  (if ng then [45] else []) ++ [48, 120, 49] ++ (if m = 4503599627370496 then [] else 46 :: frac (m - 4503599627370496)) ++ (if 0 ≤ e then [112, 43] else [112]) ++ Lib.itoa e
def hexZ (ng : Bool) : List UInt8 := (if ng then [45] else []) ++ [48, 120, 48, 112, 43, 48]

theorem hex_not (b : Nat) (hb : b < 18446744073709551616) (h1 : ¬ sz b < 9218868437227405312) (w : World) : Calls Tryz.prog 19 #[.float .f64 b] w fun e w' => e = .returned (.tuple #[.string ⟨#[]⟩, .int .i64 20]) ∧ w' = w := by
  go_enter Tryz.func19, Tryz.ntmps19
  go_wp2_with fail
  refine (split_not b hb h1 _).mono ?_
  rintro e w' ⟨rfl, rfl⟩
  go_wp2_with fail
  go_ret2
  exact ⟨rfl, rfl⟩
set_option maxRecDepth 100000 in
theorem hex_zero (b : Nat) (hb : b < 18446744073709551616) (h1 : sz b = 0) (w : World) : Calls Tryz.prog 19 #[.float .f64 b] w fun e w' => e = .returned (.tuple #[.string ⟨(hexZ (neg b)).toArray⟩, .int .i64 0]) ∧ w' = w := by
  have hn := negative_calls b hb (by omega)
  unfold neg
  generalize decide (9223372036854775808 ≤ b) = ng at *
  have hs := split_zero b hb h1
  cases ng
  all_goals
    go_enter Tryz.func19, Tryz.ntmps19
    go_wp2_with fail
    refine (hs _).mono ?_
    rintro e w' ⟨rfl, rfl⟩
    go_wp2_with fail
    refine (hn _).mono ?_
    rintro e w' ⟨rfl, rfl⟩
    go_wp2_with fail
  · refine bodyPost_ret (v := .tuple #[.string ⟨(hexZ false).toArray⟩, .int .i64 0]) (by simp [results, Tryz.results19, go_sem]; decide +kernel) rfl ?_
    exact ⟨rfl, rfl⟩
  · refine bodyPost_ret (v := .tuple #[.string ⟨(hexZ true).toArray⟩, .int .i64 0]) (by simp [results, Tryz.results19, go_sem]; decide +kernel) rfl ?_
    exact ⟨rfl, rfl⟩

theorem hexL_len : ∀ (n x : Nat), x < 16 ^ (n + 1) → (hexL x).length ≤ n + 1
  | 0, x, h => by rw [hexL_small (by omega)]; simp
  | n + 1, x, h => by
    rcases Nat.lt_or_ge x 16 with h1 | h1
    · rw [hexL_small h1]; simp
    · rw [hexL_step h1, List.length_append]
      have := hexL_len n (x / 16) (by rw [Nat.div_lt_iff_lt_mul (by omega)]; rw [Nat.pow_succ] at h; exact h)
      simp; omega
theorem dec_len : ∀ (n x : Nat), x < 10 ^ (n + 1) → (Lib.decDigits x).length ≤ n + 1
  | 0, x, h => by rw [Lib.decDigits, dif_pos (by omega)]; simp
  | n + 1, x, h => by
    rcases Nat.lt_or_ge x 10 with h1 | h1
    · rw [Lib.decDigits, dif_pos h1]; simp
    · rw [Lib.decDigits, dif_neg (by omega), List.length_append]
      have := dec_len n (x / 10) (by rw [Nat.div_lt_iff_lt_mul (by omega)]; rw [Nat.pow_succ] at h; exact h)
      simp; omega
theorem itoa_len (n : Int) (h1 : -10000 < n) (h2 : n < 10000) : (Lib.itoa n).length ≤ 5 := by
  unfold Lib.itoa
  split
  · have := dec_len 3 n.natAbs (by have : (10 : Nat) ^ (3 + 1) = 10000 := by decide
                                   omega)
    simp; omega
  · have := dec_len 3 n.toNat (by have : (10 : Nat) ^ (3 + 1) = 10000 := by decide
                                  omega)
    omega
theorem frac_len (q : Nat) (h : q < 4503599627370496) : (frac q).length ≤ 13 := by
  have hl := hexL_len 12 q (by have : (16 : Nat) ^ 13 = 4503599627370496 := by decide
                               omega)
  unfold frac Lib.trimRightB
  rw [List.length_reverse]
  refine Nat.le_trans (List.dropWhile_sublist _).length_le ?_
  rw [List.length_reverse, List.length_append, List.length_replicate]
  omega
/-- What the loop keeps: the whole, doubled so often, is the one that the text shows. -/
def HexLoop (m : Nat) (e : Int) (M : Nat) (E : Int) : Prop := ∃ j : Nat, M = m * 2 ^ j ∧ E + j = e
theorem HexLoop.done {m : Nat} {e : Int} {M : Nat} {E : Int} (h : HexLoop m e M E) (h1 : 4503599627370496 ≤ m) (h2 : M < 9007199254740992) : m = M ∧ e = E := by
  obtain ⟨j, h3, h4⟩ := h
  cases j with
  | zero => simp at h3 h4; exact ⟨h3.symm, h4.symm⟩
  | succ j =>
    exfalso
    rw [Nat.pow_succ] at h3
    have : 1 ≤ 2 ^ j := Nat.pow_pos (by omega)
    have : m * 1 ≤ m * 2 ^ j := Nat.mul_le_mul_left _ this
    have : m * (2 ^ j * 2) = m * 2 ^ j * 2 := (Nat.mul_assoc _ _ _).symm
    omega
theorem HexLoop.step {m : Nat} {e : Int} {M : Nat} {E : Int} (h : HexLoop m e M E) (h1 : m < 4503599627370496) (h2 : 4503599627370496 ≤ M) : HexLoop (m * 2) (e - 1) M E := by
  obtain ⟨j, h3, h4⟩ := h
  cases j with
  | zero => simp at h3; omega
  | succ j => exact ⟨j, by rw [h3, Nat.pow_succ, Nat.mul_assoc, Nat.mul_comm 2], by push_cast at h4; omega⟩

theorem hexT_some (ng : Bool) (x q : Nat) (n : Int) (hx : ¬ x = 4503599627370496) (hq : q = x - 4503599627370496) (sg pb : ByteArray) (hsg : sg = if ng then ⟨#[45]⟩ else ⟨#[]⟩) (hpb : (0 ≤ n ∧ pb = ⟨#[112, 43]⟩) ∨ (n < 0 ∧ pb = ⟨#[112]⟩)) :
    sg ++ ⟨#[48, 120, 49]⟩ ++ (⟨#[46]⟩ ++ ⟨(frac q).toArray⟩) ++ pb ++ ⟨(Lib.itoa n).toArray⟩ = ⟨(hexT ng x n).toArray⟩ := by
  have h1 : hexT ng x n = (if ng then [45] else []) ++ [48, 120, 49] ++ (46 :: frac q) ++ (if 0 ≤ n then [112, 43] else [112]) ++ Lib.itoa n := by
    rw [hq]
    exact (congrArg (fun l => (if ng then [45] else []) ++ [48, 120, 49] ++ l ++ (if 0 ≤ n then [112, 43] else [112]) ++ Lib.itoa n) (if_neg hx))
  rw [h1]
  clear hx hq h1
  subst hsg
  rcases hpb with ⟨h, rfl⟩ | ⟨h, rfl⟩
  · rw [if_pos h]
    cases ng <;> (apply ByteArray.ext; simp)
  · rw [if_neg (by omega : ¬ 0 ≤ n)]
    cases ng <;> (apply ByteArray.ext; simp)
theorem hexT_at (ng : Bool) (n : Int) : hexT ng 4503599627370496 n = (if ng then [45] else []) ++ [48, 120, 49] ++ (if 0 ≤ n then [112, 43] else [112]) ++ Lib.itoa n := by
  unfold hexT
  generalize hz : (4503599627370496 : Nat) = z
  rw [if_pos rfl, List.append_nil]
theorem hexT_none (ng : Bool) (n : Int) (sg pb : ByteArray) (hsg : sg = if ng then ⟨#[45]⟩ else ⟨#[]⟩) (hpb : (0 ≤ n ∧ pb = ⟨#[112, 43]⟩) ∨ (n < 0 ∧ pb = ⟨#[112]⟩)) :
    sg ++ ⟨#[48, 120, 49]⟩ ++ pb ++ ⟨(Lib.itoa n).toArray⟩ = ⟨(hexT ng 4503599627370496 n).toArray⟩ := by
  rw [hexT_at]
  subst hsg
  rcases hpb with ⟨h, rfl⟩ | ⟨h, rfl⟩
  · rw [if_pos h]
    cases ng <;> (apply ByteArray.ext; simp)
  · rw [if_neg (by omega : ¬ 0 ≤ n)]
    cases ng <;> (apply ByteArray.ext; simp)

set_option maxRecDepth 100000 in
set_option maxHeartbeats 1000000 in
theorem hex_num (b m M : Nat) (e E : Int) (ng : Bool) (hm : 1 ≤ m) (hm2 : m < 9007199254740992) (he : -1100 ≤ e) (he2 : e ≤ 1000) (hM : HexLoop m e M E) (hM1 : 4503599627370496 ≤ M) (hM2 : M < 9007199254740992)
    (hs : ∀ w, Calls Tryz.prog 47 #[.float .f64 b] w fun r w' => r = .returned (.tuple #[.int .i64 (if ng then -(m : Int) else m), .int .i64 e, .bool true]) ∧ w' = w)
    (hn : ∀ w, Calls Tryz.prog 48 #[.float .f64 b] w fun r w' => r = .returned (.bool ng) ∧ w' = w)
    (w : World) (hL : Laid w) : Calls Tryz.prog 19 #[.float .f64 b] w fun r w' => r = .returned (.tuple #[.string ⟨(hexT ng M (E + 52)).toArray⟩, .int .i64 0]) ∧ Below w.heap.size w w' := by
  have hE : E ≤ e ∧ e - 53 ≤ E := by
    obtain ⟨j, h3, h4⟩ := hM
    have h5 : 1 * 2 ^ j ≤ m * 2 ^ j := Nat.mul_le_mul_right _ hm
    have h6 : j < 53 := by
      rcases Nat.lt_or_ge j 53 with h | h
      · exact h
      · have : (2 : Nat) ^ 53 ≤ 2 ^ j := Nat.pow_le_pow_right (by omega) h
        have : (2 : Nat) ^ 53 = 9007199254740992 := by decide
        omega
    omega
  have hwm : IntKind.i64.wrap (-(-(m : Int))) = m := by rw [Int.neg_neg]; exact wrap_i64_in (by omega) (by omega)
  have hwm2 : IntKind.i64.wrap (m : Int) = m := wrap_i64_in (by omega) (by omega)
  have hm0 : ¬ (m : Int) = 0 := by omega
  cases ng
  · go_enter Tryz.func19, Tryz.ntmps19
    go_wp2_with fail
    refine (hs _).mono ?_
    rintro r w' ⟨rfl, rfl⟩
    go_wp2_with fail
    refine (hn _).mono ?_
    rintro r w' ⟨rfl, rfl⟩
    go_wp2_with fail
    go_loop [4, 5] (fun v4 v5 => ∃ (x : Nat) (y : Int), v4 = .int .i64 x ∧ v5 = .int .i64 y ∧ 1 ≤ x ∧ x < 9007199254740992 ∧ HexLoop x y M E ∧ y ≤ e) (fun v4 _ => 9007199254740992 - (RowKit.intOf v4).toNat)
    case atStart => exact ⟨m, e, rfl, rfl, hm, hm2, hM, Int.le_refl _⟩
    case round =>
      obtain ⟨x, y, rfl, rfl, hx1, hx2, hx3, hy⟩ := hrel
      have hy2 : E ≤ y := by obtain ⟨j, _, h⟩ := hx3; omega
      by_cases hx : x < 4503599627370496
      · have hx' : (x : Int) < 4503599627370496 := by omega
        have hw1 : IntKind.i64.wrap ((x : Int) * 2) = ((x * 2 : Nat) : Int) := by rw [wrap_i64_in (by omega) (by omega)]; push_cast; rfl
        have hw2 : IntKind.i64.wrap (y - 1) = y - 1 := wrap_i64_in (by omega) (by omega)
        have hst := hx3.step hx hM1
        have hH := Lib.hid hst
        clear hst hx3
        go_wp2_with fail
        exact ⟨⟨x * 2, y - 1, by rw [Int.natCast_mul]; rfl, rfl, by omega, by omega, hH.out, by omega⟩, by simp [RowKit.intOf]; omega⟩
      · obtain ⟨rfl, rfl⟩ := hx3.done (by omega) hM2
        have hx' : ¬ (x : Int) < 4503599627370496 := by omega
        have hE1 : -1200 ≤ y := by omega
        have hE2 : y ≤ 1000 := by omega
        have hwy : IntKind.i64.wrap (y + 52) = y + 52 := wrap_i64_in (by omega) (by omega)
        by_cases h0 : x = 4503599627370496
        · subst h0
          clear hM hx3 hE hwm hwm2 hm0 hx hs hn hm hm2 he he2 hM1 hM2 hx1 hx2 hy hy2
          have hil := itoa_len (y + 52) (by omega) (by omega)
          have hc5 : ¬ 9223372036854775807 < 3 + 2 + (Lib.itoa (y + 52)).length := by omega
          have hc6 : ¬ 9223372036854775807 < 3 + 1 + (Lib.itoa (y + 52)).length := by omega
          go_wp2_with fail
          all_goals
            refine (Tryz.strconv_Itoa (y + 52) (by omega) (by omega) _ hL.u10).mono ?_
            rintro r w4 ⟨rfl, k, os, rfl⟩
            have hb4 : Below w'.heap.size w' (grow (w'.drewN k) os) := grow_below (below_drewN (Below.refl _ _) k) (Nat.le_refl _) os
            generalize grow (w'.drewN k) os = w4 at *
            go_wp2_with fail
          · have he1 := hexT_none false (y + 52) ⟨#[]⟩ ⟨#[112, 43]⟩ rfl (Or.inl ⟨by omega, rfl⟩)
            refine bodyPost_ret (v := .tuple #[.string ⟨(hexT false 4503599627370496 (y + 52)).toArray⟩, .int .i64 0]) (by rw [← he1]; simp [results, Tryz.results19, go_sem]) rfl ?_
            exact ⟨rfl, hb4⟩
          · have he1 := hexT_none false (y + 52) ⟨#[]⟩ ⟨#[112]⟩ rfl (Or.inr ⟨by omega, rfl⟩)
            refine bodyPost_ret (v := .tuple #[.string ⟨(hexT false 4503599627370496 (y + 52)).toArray⟩, .int .i64 0]) (by rw [← he1]; simp [results, Tryz.results19, go_sem]) rfl ?_
            exact ⟨rfl, hb4⟩
        · obtain ⟨q, hq⟩ : ∃ q : Nat, q = x - 4503599627370496 := ⟨_, rfl⟩
          have hwx : IntKind.i64.wrap ((x : Int) - 4503599627370496) = q := by rw [wrap_i64_in (by omega) (by omega)]; omega
          have hwq : IntKind.u64.wrap (q : Int) = q := wrap_u64_in (by omega) (by omega)
          have hq0 : ¬ (q : Int) = 0 := by omega
          have hq2 : q < 4503599627370496 := by omega
          have hMx := Lib.hid (show q = x - 4503599627370496 from hq)
          have hxx := Lib.hid (show ¬ x = 4503599627370496 from h0)
          clear hM hx3 hE hwm hwm2 hm0 hx hs hn hm hm2 he he2 hM1 hM2 hx1 hx2 hy hy2 hq h0
          generalize (x : Int) = z at *
          have hfl := frac_len q hq2
          have hl := hexL_len 12 q (by have : (16 : Nat) ^ 13 = 4503599627370496 := by decide
                                       omega)
          have hw13 : IntKind.i64.wrap (13 - ((hexL q).length : Int)) = ((13 - (hexL q).length : Nat) : Int) := by rw [wrap_i64_in (by omega) (by omega)]; omega
          have HF := Lib.hid (sformatUint16 q (by omega) w' hL)
          have hfr := Lib.hid (show frac q = Lib.trimRightB (List.replicate (13 - (hexL q).length) 48 ++ hexL q) 48 from rfl)
          have hr := Lib.hid (repeat0 (13 - (hexL q).length) (by omega))
          generalize hexL q = h at *
          clear hq2
          go_wp2_with fail
          refine HF.out.mono ?_
          rintro r w1 ⟨rfl, hb1⟩
          have hL1 := hL.below hb1
          clear HF
          go_wp2_with fail
          refine (hr.out _).mono ?_
          rintro r w2 ⟨rfl, hb2⟩
          have hL2 := hL1.below hb2
          have hb02 := hb1.trans (hb2.mono hb1.size)
          clear hr hL1 hb1 hb2
          go_wp2_with fail
          refine (Tryz.strings_TrimRight_one _ 48 (by decide) _ (by rw [ByteArray.size_append]; show (Array.replicate _ _).size + h.toArray.size ≤ _; simp; omega)).mono ?_
          rintro r w3 ⟨rfl, rfl⟩
          have et : (Lib.trimRightB ((⟨Array.replicate (13 - h.length) (48 : UInt8)⟩ : ByteArray) ++ (⟨h.toArray⟩ : ByteArray)).data.toList 48) = frac q := by rw [hfr.out]; congr 1
          rw [et]
          clear et
          have hil := itoa_len (y + 52) (by omega) (by omega)
          have hc1 : ¬ 9223372036854775807 < 1 + (frac q).length := by omega
          have hc2 : ¬ 9223372036854775807 < 3 + (1 + (frac q).length) := by omega
          have hc3 : ¬ 9223372036854775807 < 3 + (1 + (frac q).length) + 2 := by omega
          have hc4 : ¬ 9223372036854775807 < 3 + (1 + (frac q).length) + 1 := by omega
          have hc5 : ¬ 9223372036854775807 < 3 + (1 + (frac q).length) + 2 + (Lib.itoa (y + 52)).length := by omega
          have hc6 : ¬ 9223372036854775807 < 3 + (1 + (frac q).length) + 1 + (Lib.itoa (y + 52)).length := by omega
          go_wp2_with fail
          all_goals
            refine (Tryz.strconv_Itoa (y + 52) (by omega) (by omega) _ hL2.u10).mono ?_
            rintro r w4 ⟨rfl, k, os, rfl⟩
            have hb4 : Below w'.heap.size w' (grow (w3.drewN k) os) := grow_below (below_drewN hb02 k) (Nat.le_refl _) os
            generalize grow (w3.drewN k) os = w4 at *
            go_wp2_with fail
          · have he1 := hexT_some false x q (y + 52) hxx.out hMx.out ⟨#[]⟩ ⟨#[112, 43]⟩ rfl (Or.inl ⟨by omega, rfl⟩)
            refine bodyPost_ret (v := .tuple #[.string ⟨(hexT false x (y + 52)).toArray⟩, .int .i64 0]) (by rw [← he1]; simp [results, Tryz.results19, go_sem]) rfl ?_
            exact ⟨rfl, hb4⟩
          · have he1 := hexT_some false x q (y + 52) hxx.out hMx.out ⟨#[]⟩ ⟨#[112]⟩ rfl (Or.inr ⟨by omega, rfl⟩)
            refine bodyPost_ret (v := .tuple #[.string ⟨(hexT false x (y + 52)).toArray⟩, .int .i64 0]) (by rw [← he1]; simp [results, Tryz.results19, go_sem]) rfl ?_
            exact ⟨rfl, hb4⟩
  · go_enter Tryz.func19, Tryz.ntmps19
    go_wp2_with fail
    refine (hs _).mono ?_
    rintro r w' ⟨rfl, rfl⟩
    go_wp2_with fail
    refine (hn _).mono ?_
    rintro r w' ⟨rfl, rfl⟩
    go_wp2_with fail
    go_loop [4, 5] (fun v4 v5 => ∃ (x : Nat) (y : Int), v4 = .int .i64 x ∧ v5 = .int .i64 y ∧ 1 ≤ x ∧ x < 9007199254740992 ∧ HexLoop x y M E ∧ y ≤ e) (fun v4 _ => 9007199254740992 - (RowKit.intOf v4).toNat)
    case atStart => exact ⟨m, e, rfl, rfl, hm, hm2, hM, Int.le_refl _⟩
    case round =>
      obtain ⟨x, y, rfl, rfl, hx1, hx2, hx3, hy⟩ := hrel
      have hy2 : E ≤ y := by obtain ⟨j, _, h⟩ := hx3; omega
      by_cases hx : x < 4503599627370496
      · have hx' : (x : Int) < 4503599627370496 := by omega
        have hw1 : IntKind.i64.wrap ((x : Int) * 2) = ((x * 2 : Nat) : Int) := by rw [wrap_i64_in (by omega) (by omega)]; push_cast; rfl
        have hw2 : IntKind.i64.wrap (y - 1) = y - 1 := wrap_i64_in (by omega) (by omega)
        have hst := hx3.step hx hM1
        have hH := Lib.hid hst
        clear hst hx3
        go_wp2_with fail
        exact ⟨⟨x * 2, y - 1, by rw [Int.natCast_mul]; rfl, rfl, by omega, by omega, hH.out, by omega⟩, by simp [RowKit.intOf]; omega⟩
      · obtain ⟨rfl, rfl⟩ := hx3.done (by omega) hM2
        have hx' : ¬ (x : Int) < 4503599627370496 := by omega
        have hE1 : -1200 ≤ y := by omega
        have hE2 : y ≤ 1000 := by omega
        have hwy : IntKind.i64.wrap (y + 52) = y + 52 := wrap_i64_in (by omega) (by omega)
        by_cases h0 : x = 4503599627370496
        · subst h0
          clear hM hx3 hE hwm hwm2 hm0 hx hs hn hm hm2 he he2 hM1 hM2 hx1 hx2 hy hy2
          have hil := itoa_len (y + 52) (by omega) (by omega)
          have hc5 : ¬ 9223372036854775807 < 4 + 2 + (Lib.itoa (y + 52)).length := by omega
          have hc6 : ¬ 9223372036854775807 < 4 + 1 + (Lib.itoa (y + 52)).length := by omega
          go_wp2_with fail
          all_goals
            refine (Tryz.strconv_Itoa (y + 52) (by omega) (by omega) _ hL.u10).mono ?_
            rintro r w4 ⟨rfl, k, os, rfl⟩
            have hb4 : Below w'.heap.size w' (grow (w'.drewN k) os) := grow_below (below_drewN (Below.refl _ _) k) (Nat.le_refl _) os
            generalize grow (w'.drewN k) os = w4 at *
            go_wp2_with fail
          · have he1 := hexT_none true (y + 52) ⟨#[45]⟩ ⟨#[112, 43]⟩ rfl (Or.inl ⟨by omega, rfl⟩)
            refine bodyPost_ret (v := .tuple #[.string ⟨(hexT true 4503599627370496 (y + 52)).toArray⟩, .int .i64 0]) (by rw [← he1]; simp [results, Tryz.results19, go_sem]) rfl ?_
            exact ⟨rfl, hb4⟩
          · have he1 := hexT_none true (y + 52) ⟨#[45]⟩ ⟨#[112]⟩ rfl (Or.inr ⟨by omega, rfl⟩)
            refine bodyPost_ret (v := .tuple #[.string ⟨(hexT true 4503599627370496 (y + 52)).toArray⟩, .int .i64 0]) (by rw [← he1]; simp [results, Tryz.results19, go_sem]) rfl ?_
            exact ⟨rfl, hb4⟩
        · obtain ⟨q, hq⟩ : ∃ q : Nat, q = x - 4503599627370496 := ⟨_, rfl⟩
          have hwx : IntKind.i64.wrap ((x : Int) - 4503599627370496) = q := by rw [wrap_i64_in (by omega) (by omega)]; omega
          have hwq : IntKind.u64.wrap (q : Int) = q := wrap_u64_in (by omega) (by omega)
          have hq0 : ¬ (q : Int) = 0 := by omega
          have hq2 : q < 4503599627370496 := by omega
          have hMx := Lib.hid (show q = x - 4503599627370496 from hq)
          have hxx := Lib.hid (show ¬ x = 4503599627370496 from h0)
          clear hM hx3 hE hwm hwm2 hm0 hx hs hn hm hm2 he he2 hM1 hM2 hx1 hx2 hy hy2 hq h0
          generalize (x : Int) = z at *
          have hfl := frac_len q hq2
          have hl := hexL_len 12 q (by have : (16 : Nat) ^ 13 = 4503599627370496 := by decide
                                       omega)
          have hw13 : IntKind.i64.wrap (13 - ((hexL q).length : Int)) = ((13 - (hexL q).length : Nat) : Int) := by rw [wrap_i64_in (by omega) (by omega)]; omega
          have HF := Lib.hid (sformatUint16 q (by omega) w' hL)
          have hfr := Lib.hid (show frac q = Lib.trimRightB (List.replicate (13 - (hexL q).length) 48 ++ hexL q) 48 from rfl)
          have hr := Lib.hid (repeat0 (13 - (hexL q).length) (by omega))
          generalize hexL q = h at *
          clear hq2
          go_wp2_with fail
          refine HF.out.mono ?_
          rintro r w1 ⟨rfl, hb1⟩
          have hL1 := hL.below hb1
          clear HF
          go_wp2_with fail
          refine (hr.out _).mono ?_
          rintro r w2 ⟨rfl, hb2⟩
          have hL2 := hL1.below hb2
          have hb02 := hb1.trans (hb2.mono hb1.size)
          clear hr hL1 hb1 hb2
          go_wp2_with fail
          refine (Tryz.strings_TrimRight_one _ 48 (by decide) _ (by rw [ByteArray.size_append]; show (Array.replicate _ _).size + h.toArray.size ≤ _; simp; omega)).mono ?_
          rintro r w3 ⟨rfl, rfl⟩
          have et : (Lib.trimRightB ((⟨Array.replicate (13 - h.length) (48 : UInt8)⟩ : ByteArray) ++ (⟨h.toArray⟩ : ByteArray)).data.toList 48) = frac q := by rw [hfr.out]; congr 1
          rw [et]
          clear et
          have hil := itoa_len (y + 52) (by omega) (by omega)
          have hc1 : ¬ 9223372036854775807 < 1 + (frac q).length := by omega
          have hc2 : ¬ 9223372036854775807 < 4 + (1 + (frac q).length) := by omega
          have hc3 : ¬ 9223372036854775807 < 4 + (1 + (frac q).length) + 2 := by omega
          have hc4 : ¬ 9223372036854775807 < 4 + (1 + (frac q).length) + 1 := by omega
          have hc5 : ¬ 9223372036854775807 < 4 + (1 + (frac q).length) + 2 + (Lib.itoa (y + 52)).length := by omega
          have hc6 : ¬ 9223372036854775807 < 4 + (1 + (frac q).length) + 1 + (Lib.itoa (y + 52)).length := by omega
          go_wp2_with fail
          all_goals
            refine (Tryz.strconv_Itoa (y + 52) (by omega) (by omega) _ hL2.u10).mono ?_
            rintro r w4 ⟨rfl, k, os, rfl⟩
            have hb4 : Below w'.heap.size w' (grow (w3.drewN k) os) := grow_below (below_drewN hb02 k) (Nat.le_refl _) os
            generalize grow (w3.drewN k) os = w4 at *
            go_wp2_with fail
          · have he1 := hexT_some true x q (y + 52) hxx.out hMx.out ⟨#[45]⟩ ⟨#[112, 43]⟩ rfl (Or.inl ⟨by omega, rfl⟩)
            refine bodyPost_ret (v := .tuple #[.string ⟨(hexT true x (y + 52)).toArray⟩, .int .i64 0]) (by rw [← he1]; simp [results, Tryz.results19, go_sem]) rfl ?_
            exact ⟨rfl, hb4⟩
          · have he1 := hexT_some true x q (y + 52) hxx.out hMx.out ⟨#[45]⟩ ⟨#[112]⟩ rfl (Or.inr ⟨by omega, rfl⟩)
            refine bodyPost_ret (v := .tuple #[.string ⟨(hexT true x (y + 52)).toArray⟩, .int .i64 0]) (by rw [← he1]; simp [results, Tryz.results19, go_sem]) rfl ?_
            exact ⟨rfl, hb4⟩
end Go.Proofs.YtjpiplplohapnaaGreatDoor
/- Walks at every float (4): text.Hex, its answer as one plain word. -/
namespace Go.Proofs.YtjpiplplohapnaaGreatDoor
open Go.RowKit Go.Sort Go.Proofs.YtjpiplplohapnaaGreatDoorW.PrintWords

/-- How often a whole is doubled. -/
def up (m : Nat) : Nat := 52 - m.log2
theorem up_spec (m : Nat) (h1 : 1 ≤ m) (h2 : m < 9007199254740992) : 4503599627370496 ≤ m * 2 ^ up m ∧ m * 2 ^ up m < 9007199254740992 := by
  have h0 : m ≠ 0 := by omega
  have ha := Nat.log2_self_le h0
  have hb : m < 2 ^ (m.log2 + 1) := Nat.lt_log2_self
  have hc : m.log2 < 53 := (Nat.log2_lt h0).2 (by have : (2 : Nat) ^ 53 = 9007199254740992 := by decide
                                                  omega)
  have e1 : m.log2 + up m = 52 := by unfold up; omega
  have p52 : (2 : Nat) ^ 52 = 4503599627370496 := by decide
  constructor
  · have := Nat.mul_le_mul_right (2 ^ up m) ha
    rw [← Nat.pow_add, e1, p52] at this
    exact this
  · have := Nat.mul_lt_mul_of_pos_right hb (Nat.pow_pos (a := 2) (n := up m) (by omega))
    rw [← Nat.pow_add, show m.log2 + 1 + up m = 53 by omega] at this
    have p53 : (2 : Nat) ^ 53 = 9007199254740992 := by decide
    omega
/-- What Hex answers to a float of these bits. -/
def hexOf (b : Nat) : List UInt8 :=
  if sz b = 0 then hexZ (neg b) else hexT (neg b) (spM (sz b) * 2 ^ up (spM (sz b))) (spE (sz b) - up (spM (sz b)) + 52)
theorem spM_range (u : Nat) (h : 0 < u) : 1 ≤ spM u ∧ spM u < 9007199254740992 := by
  unfold spM
  split <;> omega
theorem spE_range (u : Nat) (h : 0 < u) (h2 : u < 9218868437227405312) : -1074 ≤ spE u ∧ spE u ≤ 971 := by
  unfold spE
  rw [if_neg (by omega)]
  split <;> omega
theorem hex_walk (b : Nat) (hb : b < 18446744073709551616) (w : World) (hL : Laid w) :
    Calls Tryz.prog 19 #[.float .f64 b] w fun r w' => r = .returned (if sz b < 9218868437227405312 then .tuple #[.string ⟨(hexOf b).toArray⟩, .int .i64 0] else .tuple #[.string ⟨#[]⟩, .int .i64 20]) ∧ Below w.heap.size w w' := by
  by_cases h : sz b < 9218868437227405312
  · rw [if_pos h]
    by_cases h0 : sz b = 0
    · unfold hexOf
      rw [if_pos h0]
      exact (hex_zero b hb h0 w).mono fun r w' ⟨h1, h2⟩ => ⟨h1, h2 ▸ Below.refl _ _⟩
    · have hr := spM_range (sz b) (by omega)
      have he := spE_range (sz b) (by omega) h
      have hu := up_spec _ hr.1 hr.2
      have hn := negative_calls b hb (by omega)
      unfold hexOf
      rw [if_neg h0]
      refine hex_num b (spM (sz b)) _ (spE (sz b)) _ (neg b) hr.1 hr.2 (by omega) (by omega) ⟨up (spM (sz b)), rfl, by omega⟩ hu.1 hu.2 (fun w => ?_) hn w hL
      by_cases h1 : sz b < 4503599627370496
      · have e1 : spM (sz b) = sz b := by unfold spM; rw [if_pos h1]
        have e2 : spE (sz b) = -1074 := by unfold spE; rw [if_neg h0, if_pos h1]
        rw [e1, e2]
        exact split_sub b hb (by omega) h1 w
      · exact split_norm b hb (by omega) h w
  · rw [if_neg h]
    exact (hex_not b hb h w).mono fun r w' ⟨h1, h2⟩ => ⟨h1, h2 ▸ Below.refl _ _⟩
end Go.Proofs.YtjpiplplohapnaaGreatDoor
/- Plain: thirteen hexadecimal digits, and the zeros at their end. -/
namespace Go.Proofs.YtjpiplplohapnaaGreatDoor
/-- n hexadecimal digits of a number. -/
def pad : Nat → Nat → List UInt8
  | 0, _ => []
  | n + 1, m => hx (m / 16 ^ n) :: pad n (m % 16 ^ n)
/-- The digits until the rest is nothing. -/
def nib : Nat → Nat → List UInt8
  | 0, _ => []
  | n + 1, m => if m = 0 then [] else hx (m / 16 ^ n) :: nib n (m % 16 ^ n)
theorem pad_snoc : ∀ (n m : Nat), m < 16 ^ (n + 1) → pad (n + 1) m = pad n (m / 16) ++ [hx (m % 16)]
  | 0, m, h => by
    have : m < 16 := by simpa using h
    simp [pad]; congr 1; omega
  | n + 1, m, h => by
    have e1 : m / 16 ^ (n + 1) = m / 16 / 16 ^ n := by rw [Nat.pow_succ', Nat.div_div_eq_div_mul]
    have e2 : m % 16 ^ (n + 1) / 16 = m / 16 % 16 ^ n := by rw [Nat.pow_succ', Nat.mod_mul_right_div_self]
    have e3 : m % 16 ^ (n + 1) % 16 = m % 16 := by rw [Nat.pow_succ', Nat.mod_mul_right_mod]
    have ih := pad_snoc n (m % 16 ^ (n + 1)) (Nat.mod_lt _ (Nat.pow_pos (by omega)))
    rw [e2, e3] at ih
    rw [pad, ih, e1, pad]
    rfl
theorem pad_hexL : ∀ (n m : Nat), m < 16 ^ (n + 1) → List.replicate (n + 1 - (hexL m).length) 48 ++ hexL m = pad (n + 1) m
  | 0, m, h => by
    have : m < 16 := by simpa using h
    rw [hexL_small this]; simp [pad]
  | n + 1, m, h => by
    rw [pad_snoc _ _ h]
    rcases Nat.lt_or_ge m 16 with h1 | h1
    · have ih := pad_hexL n 0 (Nat.pow_pos (by omega))
      rw [hexL_small (by omega)] at ih
      rw [hexL_small h1, show m / 16 = 0 by omega, ← ih, show m % 16 = m by omega]
      have : hx 0 = 48 := rfl
      rw [this]
      simp [List.replicate_succ']
    · have ih := pad_hexL n (m / 16) (by rw [Nat.div_lt_iff_lt_mul (by omega)]; rw [Nat.pow_succ] at h; exact h)
      rw [hexL_step h1, ← ih]
      simp
theorem dropWhile_append_one (p : UInt8 → Bool) (x : UInt8) : ∀ l : List UInt8, (l ++ [x]).dropWhile p = if l.dropWhile p = [] then (if p x then [] else [x]) else l.dropWhile p ++ [x]
  | [] => by simp [List.dropWhile]; split <;> simp_all
  | y :: l => by
    rw [List.cons_append, List.dropWhile_cons, List.dropWhile_cons]
    by_cases h : p y
    · rw [if_pos h, if_pos h]; exact dropWhile_append_one p x l
    · rw [if_neg h, if_neg h, if_neg (by simp)]; simp
theorem trim_cons (x : UInt8) (l : List UInt8) : Lib.trimRightB (x :: l) 48 = if Lib.trimRightB l 48 = [] then (if x = 48 then [] else [x]) else x :: Lib.trimRightB l 48 := by
  unfold Lib.trimRightB
  rw [List.reverse_cons, dropWhile_append_one]
  generalize l.reverse.dropWhile (· == 48) = t
  by_cases h : t = []
  · subst h
    by_cases hx : x = 48 <;> simp [hx]
  · rw [if_neg h, if_neg (by simpa using h)]
    simp
theorem hx_zero {d : Nat} (h : d < 16) : hx d = 48 ↔ d = 0 := by
  have : ∀ d : Fin 16, hx d.val = 48 ↔ d.val = 0 := by decide
  exact this ⟨d, h⟩
theorem nib_trim : ∀ (n m : Nat), m < 16 ^ n → Lib.trimRightB (pad n m) 48 = nib n m ∧ (nib n m = [] ↔ m = 0)
  | 0, m, h => by
    have : m = 0 := by simpa using h
    subst this
    exact ⟨rfl, by simp [nib]⟩
  | n + 1, m, h => by
    have hr : m % 16 ^ n < 16 ^ n := Nat.mod_lt _ (Nat.pow_pos (by omega))
    obtain ⟨ih1, ih2⟩ := nib_trim n (m % 16 ^ n) hr
    have hd : m / 16 ^ n < 16 := Nat.div_lt_of_lt_mul (by rw [Nat.pow_succ] at h; exact h)
    have hdm := Nat.div_add_mod m (16 ^ n)
    rw [pad, trim_cons, ih1, nib]
    by_cases h0 : m = 0
    · subst h0
      rw [Nat.zero_mod] at ih2 ⊢
      rw [Nat.zero_div, if_pos (ih2.2 rfl), if_pos rfl, if_pos (by decide)]
      exact ⟨rfl, by simp⟩
    · rw [if_neg h0]
      refine ⟨?_, by simp [h0]⟩
      by_cases h1 : m % 16 ^ n = 0
      · have h2 : m / 16 ^ n ≠ 0 := by
          intro h3
          rw [h1, h3] at hdm
          simp at hdm; omega
        rw [if_pos (ih2.2 h1), if_neg (fun h3 => h2 ((hx_zero hd).1 h3)), ih2.2 h1]
      · rw [if_neg (fun h3 => h1 (ih2.1 h3))]
theorem frac_nib (q : Nat) (h : q < 4503599627370496) : frac q = nib 13 q := by
  have h2 : q < 16 ^ 13 := Nat.lt_of_lt_of_le h (by decide)
  unfold frac
  rw [pad_hexL 12 q h2]
  exact (nib_trim 13 q h2).1
end Go.Proofs.YtjpiplplohapnaaGreatDoor
/- Plain: readFloat's reading of a hexadecimal text as Hex writes it. -/
namespace Go.Proofs.YtjpiplplohapnaaGreatDoor.Rf

theorem hx_cases {d : Nat} (h : d < 16) : ((hx d).toNat = 48 + d ∧ d < 10) ∨ ((hx d).toNat = 87 + d ∧ 10 ≤ d ∧ lw (87 + d) = 87 + (d : Int)) := by
  have key : ∀ d : Fin 16, ((hx d.val).toNat = 48 + d.val ∧ d.val < 10) ∨ ((hx d.val).toNat = 87 + d.val ∧ 10 ≤ d.val ∧ lw (87 + d.val) = 87 + (d.val : Int)) := by decide +kernel
  exact key ⟨d, h⟩

theorem stp_hx {d : Nat} (h : d < 16) {t : St} (hnm : t.nm < 16) (hnd : t.nd ≠ 0) : stp true (hx d).toNat t = some { t with sd := true, nd := t.nd + 1, nm := t.nm + 1, m := t.m * 16 + d } := by
  unfold stp
  rcases hx_cases h with ⟨e, h2⟩ | ⟨e, h2, h3⟩
  · rw [e, if_neg (by omega), if_neg (by omega), if_pos (by omega), if_neg (by omega), if_pos (show t.nm < mxd true from hnm)]
    rw [show 48 + d - 48 = d by omega]
    rfl
  · rw [e, if_neg (by omega), if_neg (by omega), if_neg (by omega), h3, if_pos ⟨rfl, by omega, by omega⟩, if_pos (show t.nm < mxd true from hnm)]
    rw [show ((87 : Int) + (d : Int) - 87).toNat = d by omega]
    rfl

theorem stp_p (t : St) : stp true 112 t = none := by
  unfold stp
  have : lw 112 = 112 := by decide +kernel
  rw [if_neg (by omega), if_neg (by omega), if_neg (by omega), this, if_neg (fun h => by omega)]

/-- The nibbles are read; then the 'p' stops. -/
theorem scan_nib : ∀ (n m : Nat), m < 16 ^ n → ∀ (t : St) (r : List UInt8), t.nm + n ≤ 16 → t.nd ≠ 0 →
    ∃ v k : Nat, k ≤ n ∧ v * 16 ^ (n - k) = m ∧ v < 16 ^ k ∧ scan true (nib n m ++ 112 :: r) t = ({ t with sd := t.sd || decide (k ≠ 0), nd := t.nd + k, nm := t.nm + k, m := t.m * 16 ^ k + v }, 112 :: r)
  | 0, m, hm, t, r, h1, h2 => by
    have : m = 0 := by simpa using hm
    subst this
    refine ⟨0, 0, by omega, by simp, by simp, ?_⟩
    show scan true (112 :: r) t = _
    rw [scan, show (112 : UInt8).toNat = 112 from rfl, stp_p]
    simp
  | n + 1, m, hm, t, r, h1, h2 => by
    by_cases h0 : m = 0
    · subst h0
      refine ⟨0, 0, by omega, by simp, by simp, ?_⟩
      rw [nib, if_pos rfl]
      show scan true (112 :: r) t = _
      rw [scan, show (112 : UInt8).toNat = 112 from rfl, stp_p]
      simp
    · have hd : m / 16 ^ n < 16 := Nat.div_lt_of_lt_mul (by rw [Nat.pow_succ] at hm; exact hm)
      have hr : m % 16 ^ n < 16 ^ n := Nat.mod_lt _ (Nat.pow_pos (by omega))
      obtain ⟨v, k, hk, hv, hv2, hs⟩ := scan_nib n (m % 16 ^ n) hr { t with sd := true, nd := t.nd + 1, nm := t.nm + 1, m := t.m * 16 + m / 16 ^ n } r (by dsimp only; omega) (by dsimp only; omega)
      refine ⟨m / 16 ^ n * 16 ^ k + v, k + 1, by omega, ?_, ?_, ?_⟩
      · rw [show n + 1 - (k + 1) = n - k by omega, Nat.add_mul, Nat.mul_assoc, ← Nat.pow_add, show k + (n - k) = n by omega, hv]
        rw [Nat.mul_comm]; exact Nat.div_add_mod m (16 ^ n)
      · have : (m / 16 ^ n + 1) * 16 ^ k ≤ 16 * 16 ^ k := Nat.mul_le_mul_right _ hd
        rw [Nat.pow_succ, Nat.mul_comm (16 ^ k)]
        rw [Nat.add_mul] at this; omega
      · rw [nib, if_neg h0, List.cons_append, scan, stp_hx hd (by omega) h2]
        dsimp only
        rw [hs]
        dsimp only
        congr 1
        congr 1
        · simp
        · omega
        · omega
        · rw [Nat.pow_succ, Nat.add_mul, Nat.mul_assoc, Nat.mul_comm 16 (16 ^ k), Nat.add_assoc]

theorem esc_digits : ∀ (l : List UInt8) (e : Nat), (∀ c ∈ l, Num.isD c) → Num.dv e l < 100000 → l.length ≤ 4 ∨ Num.dv e l < 10000 → escan l e false = (Num.dv e l, false, [])
  | [], e, _, _, _ => by rw [escan, Num.dv_nil]
  | c :: l, e, h, h1, h2 => by
    have hc := h c (by simp)
    have hce : 48 ≤ c.toNat ∧ c.toNat ≤ 57 := hc
    have hge := Num.dv_ge l (10 * e + (c.toNat - 48))
    rw [Num.dv_cons] at h1 h2 ⊢
    have hp : 1 ≤ 10 ^ l.length := Nat.pow_pos (by decide)
    have hle : (10 * e + (c.toNat - 48)) * 1 ≤ (10 * e + (c.toNat - 48)) * 10 ^ l.length := Nat.mul_le_mul_left _ hp
    rw [escan, if_neg (by omega), if_pos hce, if_pos (by omega), show e * 10 + (c.toNat - 48) = 10 * e + (c.toNat - 48) by omega]
    exact esc_digits l _ (fun x hx => h x (by simp [hx])) h1 (by
      rcases h2 with h2 | h2
      · left; simp at h2; omega
      · right; exact h2)
theorem starts_digits {l : List UInt8} (h : ∀ c ∈ l, Num.isD c) (h0 : l ≠ []) : startsD l = true := by
  cases l with
  | nil => exact absurd rfl h0
  | cons c l =>
    have hc : 48 ≤ c.toNat ∧ c.toNat ≤ 57 := h c (by simp)
    rw [startsD, decide_eq_true hc.1, decide_eq_true hc.2]; rfl
theorem eat_itoa (e : Int) (h1 : -10000 < e) (h2 : e < 10000) : eat false ((if 0 ≤ e then [43] else []) ++ Lib.itoa e) = some (e, false, []) := by
  by_cases h : 0 ≤ e
  · rw [if_pos h]
    have hi : Lib.itoa e = Lib.decDigits e.toNat := by unfold Lib.itoa; rw [if_neg (by omega)]
    have hs : esign ([43] ++ Lib.itoa e) = (1, Lib.decDigits e.toNat) := by rw [hi]; rfl
    have hv := Num.dv_dec e.toNat
    have he := esc_digits (Lib.decDigits e.toNat) 0 (Num.dec_digits _) (by rw [hv]; omega) (Or.inr (by rw [hv]; omega))
    unfold eat
    rw [hs]
    dsimp only
    rw [starts_digits (Num.dec_digits _) (Num.dec_ne _), if_pos rfl, he, hv]
    congr 1
    congr 1
    omega
  · rw [if_neg h]
    have hi : Lib.itoa e = 45 :: Lib.decDigits e.natAbs := by unfold Lib.itoa; rw [if_pos (by omega)]
    have hs : esign ([] ++ Lib.itoa e) = (-1, Lib.decDigits e.natAbs) := by rw [hi]; rfl
    have hv := Num.dv_dec e.natAbs
    have he := esc_digits (Lib.decDigits e.natAbs) 0 (Num.dec_digits _) (by rw [hv]; omega) (Or.inr (by rw [hv]; omega))
    unfold eat
    rw [hs]
    dsimp only
    rw [starts_digits (Num.dec_digits _) (Num.dec_ne _), if_pos rfl, he, hv]
    congr 1
    congr 1
    omega

theorem tail_cons (e : Int) : (if 0 ≤ e then [112, 43] else [112]) ++ Lib.itoa e = 112 :: ((if 0 ≤ e then [43] else []) ++ Lib.itoa e) := by
  by_cases h : 0 ≤ e
  · rw [if_pos h, if_pos h]; rfl
  · rw [if_neg h, if_neg h]; rfl

/-- What readFloat tells of a normal text. -/
theorem read_hex (M : Nat) (E : Int) (hM1 : 4503599627370496 ≤ M) (hM2 : M < 9007199254740992) (hE1 : -10000 < E) (hE2 : E < 10000) (l : List UInt8)
    (hl : l = [49] ++ (if M = 4503599627370496 then [] else 46 :: frac (M - 4503599627370496)) ++ (if 0 ≤ E then [112, 43] else [112]) ++ Lib.itoa E) :
    ∃ v k : Nat, k ≤ 13 ∧ v * 16 ^ (13 - k) = M - 4503599627370496 ∧ v < 16 ^ k ∧ fin true (scan true l st0).1 (scan true l st0).2 = some ⟨16 ^ k + v, E - 4 * k, false, false, []⟩ := by
  have h1 : stp true 49 st0 = some ⟨false, false, true, 1, 1, 0, 1, false⟩ := rfl
  have hx := eat_itoa E hE1 hE2
  by_cases h : M = 4503599627370496
  · rw [if_pos h, List.append_nil, List.append_assoc, tail_cons] at hl
    have hs : scan true l st0 = (⟨false, false, true, 1, 1, 0, 1, false⟩, 112 :: ((if 0 ≤ E then [43] else []) ++ Lib.itoa E)) := by
      rw [hl]
      rw [List.singleton_append, scan, show (49 : UInt8).toNat = 49 from rfl, h1]
      dsimp only
      rw [scan, show (112 : UInt8).toNat = 112 from rfl, stp_p]
    refine ⟨0, 0, by omega, by rw [h, Nat.zero_mul, Nat.sub_self], by simp, ?_⟩
    rw [hs]
    unfold fin
    rw [if_pos rfl, expPart_hit_x (by decide +kernel), hx]
    rw [Option.map_some]
    congr 1
    unfold dpv nmv
    simp
    omega
  · rw [if_neg h, List.append_assoc, tail_cons, frac_nib _ (by omega)] at hl
    obtain ⟨v, k, hk, hv, hv2, hs⟩ := scan_nib 13 (M - 4503599627370496) (by have : (16 : Nat) ^ 13 = 4503599627370496 := by decide
                                                                             omega) ⟨false, true, true, 1, 1, 1, 1, false⟩ ((if 0 ≤ E then [43] else []) ++ Lib.itoa E) (by decide) (by decide)
    refine ⟨v, k, hk, hv, hv2, ?_⟩
    have hs : scan true l st0 = (⟨false, true, true, 1 + k, 1 + k, 1, 1 * 16 ^ k + v, false⟩, 112 :: ((if 0 ≤ E then [43] else []) ++ Lib.itoa E)) := by
      rw [hl]
      rw [List.append_assoc, List.singleton_append, List.cons_append, scan, show (49 : UInt8).toNat = 49 from rfl, h1]
      dsimp only
      rw [scan, show (46 : UInt8).toNat = 46 from rfl, show stp true 46 ⟨false, false, true, 1, 1, 0, 1, false⟩ = some ⟨false, true, true, 1, 1, 1, 1, false⟩ from rfl]
      dsimp only
      rw [hs]
      rfl
    rw [hs]
    unfold fin
    rw [if_pos rfl, expPart_hit_x (by decide +kernel), hx]
    have hm : 1 * 16 ^ k + v ≠ 0 := by have := Nat.pow_pos (a := 16) (n := k) (by decide); omega
    have hP : 1 * 16 ^ k = 16 ^ k := Nat.one_mul _
    rw [hP] at hm ⊢
    generalize 16 ^ k = P at *
    rw [Option.map_some]
    unfold dpv nmv
    dsimp only
    rw [if_neg hm]
    refine congrArg (fun e => some (⟨P + v, e, false, false, []⟩ : Out)) ?_
    simp
    omega
end Go.Proofs.YtjpiplplohapnaaGreatDoor.Rf
/- Plain: atofHex gives back the float of a text that Hex wrote. -/
namespace Go.Proofs.YtjpiplplohapnaaGreatDoor.Ah

theorem ah1_run : ∀ (j f m : Nat) (e : Int), m ≠ 0 → 18014398509481984 ≤ m * 2 ^ j → m * 2 ^ j < 36028797018963968 → j ≤ f → ah1 f m e = (m * 2 ^ j, e - j)
  | 0, f, m, e, h0, h1, h2, hf => by
    have : m * 2 ^ 0 = m := by simp
    rw [this] at h1 ⊢
    cases f with
    | zero => simp [ah1]
    | succ f => rw [ah1, if_neg (by omega)]; simp
  | j + 1, f, m, e, h0, h1, h2, hf => by
    obtain ⟨f, rfl⟩ : ∃ g, f = g + 1 := ⟨f - 1, by omega⟩
    have e1 : m * 2 ^ (j + 1) = 2 * m * 2 ^ j := by rw [Nat.pow_succ, Nat.mul_comm 2 m, Nat.mul_assoc, Nat.mul_comm 2]
    have hp : 1 ≤ 2 ^ j := Nat.pow_pos (by decide)
    have hm : m < 18014398509481984 := by
      have : 2 * m * 1 ≤ 2 * m * 2 ^ j := Nat.mul_le_mul_left _ hp
      omega
    rw [e1] at h1 h2 ⊢
    rw [ah1, if_pos ⟨h0, hm⟩, ah1_run j f (2 * m) (e - 1) (by omega) h1 h2 (by omega)]
    congr 1; omega

theorem sh1_even (m : Nat) : sh1 (2 * m) = m := by unfold sh1; rw [if_neg (by omega)]; omega
theorem ah3_run : ∀ (t f c : Nat) (e : Int), e + t = -1024 → 1 < c → t ≤ f → ah3 f (c * 2 ^ t) e = (c, -1024)
  | 0, f, c, e, h1, h2, hf => by
    have : c * 2 ^ 0 = c := by simp
    rw [this]
    cases f with
    | zero => simp [ah3]; omega
    | succ f => rw [ah3, if_neg (by omega)]; congr 1; omega
  | t + 1, f, c, e, h1, h2, hf => by
    obtain ⟨f, rfl⟩ : ∃ g, f = g + 1 := ⟨f - 1, by omega⟩
    have e1 : c * 2 ^ (t + 1) = 2 * (c * 2 ^ t) := by rw [Nat.pow_succ]; generalize 2 ^ t = p; rw [Nat.mul_comm p 2, Nat.mul_left_comm]
    have hp : 1 ≤ 2 ^ t := Nat.pow_pos (by decide)
    have hc : c * 1 ≤ c * 2 ^ t := Nat.mul_le_mul_left _ hp
    rw [e1, ah3, if_pos ⟨by omega, by omega⟩, sh1_even, ah3_run t f c (e + 1) (by omega) h2 (by omega)]

theorem ah3_stop (f m : Nat) (e : Int) (h : -1024 ≤ e) : ah3 f m e = (m, e) := by
  cases f with
  | zero => rfl
  | succ f => rw [ah3, if_neg (by omega)]
theorem ah2_stop (f m : Nat) (e : Int) (h : m < 36028797018963968) : ah2 f m e = (m, e) := by
  cases f with
  | zero => rfl
  | succ f => rw [ah2, if_neg (by omega)]
theorem ahR_four (c : Nat) (e : Int) : ahR (4 * c) e = (c, e + 2) := by
  unfold ahR
  have : ¬ up3 (4 * c) := by unfold up3; omega
  rw [if_neg this]
  congr 1; omega
theorem bits_parts (b : Nat) (hb : b < 18446744073709551616) : (if neg b then 9223372036854775808 else 0) + sz b = b := by
  unfold neg sz
  by_cases h : 9223372036854775808 ≤ b
  · rw [decide_eq_true h, if_pos rfl]; omega
  · rw [decide_eq_false h, if_neg (by decide)]; omega

theorem ah_zero (ng : Bool) : ah 0 0 ng false = ((if ng then 9223372036854775808 else 0), false) := by
  cases ng <;> decide +kernel

/-- The text of a number is read back. -/
theorem ah_hex (b : Nat) (hb : b < 18446744073709551616) (h : sz b < 9218868437227405312) (h0 : sz b ≠ 0) (v k : Nat) (hk : k ≤ 13)
    (hv : v * 16 ^ (13 - k) = spM (sz b) * 2 ^ up (spM (sz b)) - 4503599627370496) :
    ah (16 ^ k + v) (spE (sz b) - up (spM (sz b)) + 52 - 4 * k) (neg b) false = (b, false) := by
  have hr := spM_range (sz b) (by omega)
  have hu := up_spec _ hr.1 hr.2
  have hup : up (spM (sz b)) ≤ 52 := by unfold up; omega
  have hM : (16 ^ k + v) * 2 ^ (54 - 4 * k) = 4 * (spM (sz b) * 2 ^ up (spM (sz b))) := by
    have e1 : 2 ^ (54 - 4 * k) = 16 ^ (13 - k) * 4 := by
      rw [show (16 : Nat) = 2 ^ 4 from rfl, ← Nat.pow_mul, show (4 : Nat) = 2 ^ 2 from rfl, ← Nat.pow_add]
      congr 1; omega
    have e2 : 16 ^ k * 16 ^ (13 - k) = 4503599627370496 := by
      rw [← Nat.pow_add, show k + (13 - k) = 13 by omega]
    rw [e1, ← Nat.mul_assoc, Nat.add_mul, e2, hv]
    omega
  have hm0 : 16 ^ k + v ≠ 0 := by have := Nat.pow_pos (a := 16) (n := k) (by decide); omega
  have a1 := ah1_run (54 - 4 * k) 64 (16 ^ k + v) (spE (sz b) - up (spM (sz b)) + 52 - 4 * k + 52) hm0 (by rw [hM]; omega) (by rw [hM]; omega) (by omega)
  rw [hM] at a1
  have he1 : spE (sz b) - up (spM (sz b)) + 52 - 4 * k + 52 - ((54 - 4 * k : Nat) : Int) = spE (sz b) - up (spM (sz b)) + 50 := by omega
  rw [he1] at a1
  unfold ah
  rw [a1]
  dsimp only
  rw [if_neg (by decide), ah2_stop _ _ _ (by omega)]
  dsimp only
  have hbp := bits_parts b hb
  by_cases hs : sz b < 4503599627370496
  · have e1 : spM (sz b) = sz b := by unfold spM; rw [if_pos hs]
    have e2 : spE (sz b) = -1074 := by unfold spE; rw [if_neg h0, if_pos hs]
    rw [e1] at hup ⊢
    rw [e2]
    rw [← Nat.mul_assoc, ah3_run (up (sz b)) 64 (4 * sz b) _ (by omega) (by omega) (by omega)]
    dsimp only
    rw [ahR_four]
    dsimp only
    unfold ahB
    dsimp only
    rw [if_pos hs, if_neg (by omega)]
    rw [show ((-1023 + 1023 : Int) % 2048).toNat = 0 by decide, Nat.zero_mul, Nat.zero_add, Nat.mod_eq_of_lt hs, hbp]
  · have e1 : spM (sz b) = sz b % 4503599627370496 + 4503599627370496 := by unfold spM; rw [if_neg hs]
    have e2 : spE (sz b) = ((sz b / 4503599627370496 : Nat) : Int) - 1075 := by unfold spE; rw [if_neg h0, if_neg hs]
    have e3 : up (spM (sz b)) = 0 := by
      unfold up
      have p52 : (2 : Nat) ^ 52 = 4503599627370496 := by decide
      have : 52 ≤ (spM (sz b)).log2 := (Nat.le_log2 (by omega)).2 (by rw [p52]; omega)
      omega
    rw [e3, Nat.pow_zero, Nat.mul_one]
    rw [ah3_stop _ _ _ (by omega)]
    dsimp only
    rw [ahR_four]
    dsimp only
    unfold ahB
    dsimp only
    have hc : (if spM (sz b) < 4503599627370496 then (-1023 : Int) else spE (sz b) - ((0 : Nat) : Int) + 50 + 2) = spE (sz b) - ((0 : Nat) : Int) + 50 + 2 := if_neg (by omega)
    rw [hc, if_neg (by omega)]
    have e4 : ((spE (sz b) - ((0 : Nat) : Int) + 50 + 2 + 1023) % 2048).toNat = sz b / 4503599627370496 := by omega
    have e5 : spM (sz b) % 4503599627370496 = sz b % 4503599627370496 := by omega
    rw [e4, e5]
    congr 1
    omega

theorem ah_lt (m : Nat) (e : Int) (ng tr : Bool) : (ah m e ng tr).1 < 18446744073709551616 := by
  have key : ∀ m e, (ahB ng m e).1 < 18446744073709551616 := by
    intro m e
    unfold ahB
    dsimp only
    generalize (if m < 4503599627370496 then (-1023 : Int) else e) = x
    split
    · dsimp only; split <;> omega
    · dsimp only; split <;> omega
  exact key _ _
end Go.Proofs.YtjpiplplohapnaaGreatDoor.Ah
/- Walks of ParseFloat (1): underscoreOK answers something; special at a text that begins with a digit, or with a sign and a digit. -/
namespace Go.Proofs.YtjpiplplohapnaaGreatDoor
open Go.RowKit Go.Proofs.YtjpiplplohapnaaGreatDoorW.PrintWords Rf

def SomeBool (w : World) (e : Ending) (w' : World) : Prop := (∃ b : Bool, e = .returned (.bool b)) ∧ w' = w
set_option maxRecDepth 100000 in
set_option maxHeartbeats 2000000 in
theorem under_calls (s : ByteArray) (hs : s.size ≤ 1000) (w : World) : Calls Tryz.prog 173 #[.string s] w (SomeBool w) := by
  go_enter Tryz.func173, Tryz.ntmps173
  go_upto_region 3 with (fail)
  go_cut [18] (fun v18 w' => (∃ b : Bool, v18 = .bool b ∧ (b = true → 1 ≤ s.size)) ∧ w = w')
  case first =>
    by_cases h1 : 1 ≤ s.size
    · have h1' : (1 : Int) ≤ s.size := by omega
      have h0 : 0 < s.size := h1
      go_wp2_with fail
      all_goals (go_meet; case rel => first | exact ⟨⟨_, rfl, fun _ => h1⟩, rfl⟩)
    · have h1' : ¬ (1 : Int) ≤ s.size := by omega
      have h1'' : (s.size : Int) < 1 := by omega
      go_wp2_with fail
      all_goals (go_meet; case rel => first | exact ⟨⟨false, rfl, fun h => by cases h⟩, rfl⟩)
  case rest =>
    obtain ⟨⟨b, rfl, hb⟩, rfl⟩ := hcut
    go_upto_if 18 with (fail)
    go_cut [0] (fun v0 w' => (∃ s' : ByteArray, v0 = .string s' ∧ s'.size ≤ 1000) ∧ w = w')
    case first =>
      cases b
      · go_wp2_with fail
        go_meet
        case rel => exact ⟨⟨s, rfl, hs⟩, rfl⟩
      · have h1 := hb rfl
        have h1' : (1 : Int) ≤ s.size := by omega
        go_wp2_with fail
        go_meet
        case rel => exact ⟨⟨_, rfl, by rw [ByteArray.size_extract]; omega⟩, rfl⟩
    case rest =>
      obtain ⟨⟨t, rfl, ht⟩, rfl⟩ := hcut
      clear hs hb
      go_upto_region 6 with (fail)
      go_cut [46] (fun v46 w' => (∃ b : Bool, v46 = .bool b ∧ (b = true → 2 ≤ t.size)) ∧ w = w')
      case first =>
        by_cases h1 : 2 ≤ t.size
        · have h1' : (2 : Int) ≤ t.size := by omega
          have h0 : 0 < t.size := by omega
          have h01 : 1 < t.size := by omega
          go_wp2_with (refine (Tryz.internal_strconv_lower _ _).mono ?_; rintro e w1 ⟨rfl, rfl⟩)
          all_goals (go_meet; case rel => first | exact ⟨⟨_, rfl, fun _ => h1⟩, rfl⟩)
        · have h1' : ¬ (2 : Int) ≤ t.size := by omega
          have h1'' : (t.size : Int) < 2 := by omega
          go_wp2_with fail
          all_goals (go_meet; case rel => first | exact ⟨⟨false, rfl, fun h => by cases h⟩, rfl⟩)
      case rest =>
        obtain ⟨⟨b, rfl, hb⟩, rfl⟩ := hcut
        go_upto_if 46 with (fail)
        go_cut [3, 4, 5] (fun v3 v4 v5 w' => (∃ (r : Int) (k : Nat) (h : Bool), v3 = .int .i32 r ∧ v4 = .int .i64 k ∧ v5 = .bool h ∧ k ≤ t.size) ∧ w = w')
        case first =>
          cases b
          · go_wp2_with fail
            go_meet
            case rel => exact ⟨⟨94, 0, false, rfl, rfl, rfl, by omega⟩, rfl⟩
          · have h1 := hb rfl
            have h01 : 1 < t.size := by omega
            go_wp2_with (refine (Tryz.internal_strconv_lower _ _).mono ?_; rintro e w1 ⟨rfl, rfl⟩)
            all_goals (go_meet; case rel => exact ⟨⟨48, 2, _, rfl, rfl, rfl, h1⟩, rfl⟩)
        case rest =>
          obtain ⟨⟨r0, k0, hx, rfl, rfl, rfl, hk0⟩, rfl⟩ := hcut
          clear hb
          go_wp2_with fail
          have hsz0 : t.size - k0 + k0 = t.size := by omega
          clear hk0
          go_loopg [3, 4] (t.size - k0) (fun gn v3 v4 w' => ∃ (r : Int) (k : Nat), gn + k = t.size ∧ v3 = .int .i32 r ∧ v4 = .int .i64 k ∧ w = w')
          case atStart => exact ⟨r0, k0, hsz0, rfl, rfl, rfl⟩
          case round =>
            obtain ⟨r, k, hg, rfl, rfl, rfl⟩ := hrel
            by_cases hk : k < t.size
            · have hw : IntKind.i64.wrap ((k : Int) + 1) = (k : Int) + 1 := by rw [Go.IntKind.wrap_i64]; omega
              go_upto_region 12 with (fail)
              go_cut [83] (fun v83 w' => (∃ b : Bool, v83 = .bool b) ∧ w = w')
              case first =>
                cases hx
                · go_wp2_with (refine (Tryz.internal_strconv_lower _ _).mono ?_; rintro e w1 ⟨rfl, rfl⟩)
                  all_goals (go_meet; case rel => exact ⟨⟨_, rfl⟩, rfl⟩)
                · go_wp2_with (refine (Tryz.internal_strconv_lower _ _).mono ?_; rintro e w1 ⟨rfl, rfl⟩)
                  all_goals (go_meet; case rel => exact ⟨⟨_, rfl⟩, rfl⟩)
              case rest =>
                obtain ⟨⟨b, rfl⟩, rfl⟩ := hcut
                cases b
                · go_wp2_with fail
                  · go_ret
                    exact ⟨⟨_, rfl⟩, rfl⟩
                  · go_roundg (gk - 1)
                    case measure => omega
                    case rel => exact ⟨95, k + 1, by omega, rfl, by go_num, rfl⟩
                  · go_ret
                    exact ⟨⟨_, rfl⟩, rfl⟩
                  · go_roundg (gk - 1)
                    case measure => omega
                    case rel => exact ⟨33, k + 1, by omega, rfl, by go_num, rfl⟩
                · go_wp2_with fail
                  go_roundg (gk - 1)
                  case measure => omega
                  case rel => exact ⟨48, k + 1, by omega, rfl, by go_num, rfl⟩
            · go_wp2_with fail
              all_goals (go_ret; exact ⟨⟨_, rfl⟩, rfl⟩)
def NoSpecial (w : World) (e : Ending) (w' : World) : Prop := e = .returned (.tuple #[.float .f64 0, .int .i64 0, .bool false]) ∧ w' = w
theorem special_digit (s : ByteArray) (h0 : 0 < s.size) (h1 : 48 ≤ s[0].toNat) (h2 : s[0].toNat ≤ 57) (w : World) : Calls Tryz.prog 141 #[.string s] w (NoSpecial w) := by
  have hne : ¬ s = ByteArray.empty := by rintro rfl; simp at h0
  obtain ⟨c, hc⟩ : ∃ c : Nat, s[0].toNat = c := ⟨_, rfl⟩
  have hcc : (s[0].toNat : Int) = (c : Int) := by rw [hc]
  rw [hc] at h1 h2
  clear hc
  have f1 : ((c : Int) == 43) = false := by simp; omega
  have f2 : ((c : Int) == 45) = false := by simp; omega
  have f3 : ((c : Int) == 105) = false := by simp; omega
  have f4 : ((c : Int) == 73) = false := by simp; omega
  have f5 : ((c : Int) == 110) = false := by simp; omega
  have f6 : ((c : Int) == 78) = false := by simp; omega
  go_enter Tryz.func141, Tryz.ntmps141
  go_wp2_with fail
  go_ret3
  exact ⟨rfl, rfl⟩
theorem common_digit (s : ByteArray) (h0 : 0 < s.size) (h1 : 48 ≤ s[0].toNat) (h2 : s[0].toNat ≤ 57) (w : World) : Calls Tryz.prog 181 #[.string s, .string ⟨#[105, 110, 102, 105, 110, 105, 116, 121]⟩] w fun e w' => e = .returned (.int .i64 0) ∧ w' = w := by
  obtain ⟨c, hc⟩ : ∃ c : Nat, s[0].toNat = c := ⟨_, rfl⟩
  have hcc : (s[0].toNat : Int) = (c : Int) := by rw [hc]
  rw [hc] at h1 h2
  clear hc
  have f1 : ¬ (65 : Int) ≤ (c : Int) := by omega
  have e105 : (⟨#[105, 110, 102, 105, 110, 105, 116, 121]⟩ : ByteArray)[0] = 105 := by decide
  have f2 : ((c : Int) != 105) = true := by simp; omega
  go_enter Tryz.func181, Tryz.ntmps181
  go_wp2_with fail
  refine wp_loop_rounds 1 ?_
  rw [rounds_succ]
  have hm : (0 : Int) < min 8 (s.size : Int) := by omega
  go_wp2_with fail
  go_ret
  exact ⟨rfl, rfl⟩
theorem special_minus (s : ByteArray) (hs : 1 < s.size) (hs2 : s.size ≤ 1000) (h45 : s[0].toNat = 45) (h1 : 48 ≤ s[1].toNat) (h2 : s[1].toNat ≤ 57) (w : World) : Calls Tryz.prog 141 #[.string s] w (NoSpecial w) := by
  have h0 : 0 < s.size := by omega
  have hne : ¬ s = ByteArray.empty := by rintro rfl; simp at h0
  have hcc : (s[0].toNat : Int) = 45 := by rw [h45]; rfl
  have hs' : (1 : Int) ≤ s.size := by omega
  have hx0 : 0 < (s.extract 1 s.size).size := by rw [ByteArray.size_extract]; omega
  have hx1 : (s.extract 1 s.size)[0] = s[1] := by
    simp [ByteArray.getElem_extract]
  have hcp := Lib.hid (common_digit (s.extract 1 s.size) hx0 (by rw [hx1]; exact h1) (by rw [hx1]; exact h2))
  clear h1 h2 hx0 hx1 h45
  go_enter Tryz.func141, Tryz.ntmps141
  go_wp2_with fail
  refine (hcp.out _).mono ?_
  rintro e w' ⟨rfl, rfl⟩
  go_wp2_with fail
  go_ret3
  exact ⟨rfl, rfl⟩
def RfPost (ng hx : Bool) (s : ByteArray) (o : Option Out) (w : World) (e : Ending) (w' : World) : Prop := w' = w ∧ match o with
  | none => ∃ (m x i : Int) (n t h : Bool), e = .returned (.tuple #[.int .u64 m, .int .i64 x, .bool n, .bool t, .bool h, .int .i64 i, .bool false])
  | some q => ∃ ok : Bool, (q.us = false → ok = true) ∧ e = .returned (.tuple #[.int .u64 q.m, .int .i64 q.e, .bool ng, .bool q.tr, .bool hx, .int .i64 ((s.size - q.rest.length : Nat) : Int), .bool ok])
theorem pos_of {s : ByteArray} {k : Nat} (h : k ≤ s.size) : s.size - (s.data.toList.drop k).length = k := by
  have : s.data.toList.length = s.size := Array.length_toList
  rw [List.length_drop]; omega
end Go.Proofs.YtjpiplplohapnaaGreatDoor
/- Walks of ParseFloat (2): readFloat, behind the digits. Printed by wip/tools/genrf3.py. -/
namespace Go.Proofs.YtjpiplplohapnaaGreatDoor
open Go.RowKit Go.Proofs.YtjpiplplohapnaaGreatDoorW.PrintWords Rf
/-- The first region of a piece of code. -/
def headR : Code → Option Nat
  | .region n _ _ => some n
  | .seq a _ => headR a
  | _ => none
/-- What stands from a region on, in its own sequence. -/
def fromR (n : Nat) : Code → Option Code
  | .seq a b => if headR a = some n then some (.seq a b) else match fromR n a with
    | some c => some c
    | none => fromR n b
  | .cond _ a b => match fromR n a with
    | some c => some c
    | none => fromR n b
  | .block _ c => fromR n c
  | .scope c => fromR n c
  | .loop c => fromR n c
  | _ => none
noncomputable def rfCode77 : Code := ((Tryz.f142.body.bind (fromR 77)).getD .skip)
noncomputable def rfCode51 : Code := ((Tryz.f142.body.bind (fromR 51)).getD .skip)
set_option maxRecDepth 100000 in
set_option maxHeartbeats 4000000 in
theorem rfEnd (s : ByteArray) (hs : s.size ≤ 1000) (m k : Nat) (ng hx tr us : Bool) (N E : Int) (hk : k ≤ s.size) (e1 : -200000 ≤ E) (e2 : E ≤ 200000) (n1 : 0 ≤ N) (n2 : N ≤ 100) (o : Option Out) (ho : Hid (o = some ⟨m, if m = 0 then 0 else E - N, tr, us, s.data.toList.drop k⟩)) (w : World) {u1 u10 u11 u12 u13 u14 u15 u18 u19 u20 u21 u22 u23 u24 u25 u26 u27 u28 u29 u30 u31 u32 u33 u34 u35 u36 u37 u38 u39 u40 u41 u42 u43 u44 u45 u46 u47 u48 u49 u50 u51 u52 u53 u54 u55 u56 u57 u58 u59 u60 u61 u62 u63 u64 u65 u66 u67 u68 u69 u70 u71 u72 u73 u74 u75 u76 u77 u78 u79 u80 u81 u82 u83 u84 u85 u86 u87 u88 u89 u90 u91 u92 u93 u94 u95 u96 u97 u98 u99 u100 u101 u102 u103 u104 u105 u106 u107 u108 u109 u110 u111 u112 u113 u114 u115 u116 u117 u118 u119 u120 u121 u122 u123 u124 u125 u126 u127 u128 u129 u130 u131 u132 u133 u134 u135 u136 u137 u138 u139 u140 u141 u142 u143 u144 u145 u146 u147 u148 u149 u150 u151 u152 u153 u154 u155 u156 u157 u158 u159 u160 u161 u162 u163 u164 u165 u166 u167 u168 u169 u170 u171 u172 u173 u174 u175 u176 u177 u178 u179 u180 u181 u182 u183 u184 u185 u186 u187 u188 u189 u190 u191 u192 u193 u194 u195 u196 u197 u198 u199 u200 u201 u202 u203 u204 u205 u206 u207 u208 u209 u210 u211 u212 u213 u214 u215 u216 u217 u218 u219 u220 u221 u222 u223 u224 u225 u226 u227 u228 u229 u230 u231 u232 u233 u234 u235 u236 u237 u238 u239 u240 u241 u242 u243 u244 u245 u246 u247 u248 u249 u250 u251 u252 : Value} :
    rfCode77.wp Tryz.prog (Exit.noGoto (bodyPost Tryz.prog Tryz.f142 (RfPost ng hx s o w))) ⟨#[Value.string s, u1, Value.int .u64 m, Value.int .i64 0, Value.bool ng, Value.bool tr, Value.bool hx, Value.int .i64 (k : Int), Value.bool false, Value.bool us, u10, u11, u12, u13, u14, u15, Value.int .i64 N, Value.int .i64 E, u18, u19, u20, u21, u22, u23, u24, u25, u26, u27, u28, u29, u30, u31, u32, u33, u34, u35, u36, u37, u38, u39, u40, u41, u42, u43, u44, u45, u46, u47, u48, u49, u50, u51, u52, u53, u54, u55, u56, u57, u58, u59, u60, u61, u62, u63, u64, u65, u66, u67, u68, u69, u70, u71, u72, u73, u74, u75, u76, u77, u78, u79, u80, u81, u82, u83, u84, u85, u86, u87, u88, u89, u90, u91, u92, u93, u94, u95, u96, u97, u98, u99, u100, u101, u102, u103, u104, u105, u106, u107, u108, u109, u110, u111, u112, u113, u114, u115, u116, u117, u118, u119, u120, u121, u122, u123, u124, u125, u126, u127, u128, u129, u130, u131, u132, u133, u134, u135, u136, u137, u138, u139, u140, u141, u142, u143, u144, u145, u146, u147, u148, u149, u150, u151, u152, u153, u154, u155, u156, u157, u158, u159, u160, u161, u162, u163, u164, u165, u166, u167, u168, u169, u170, u171, u172, u173, u174, u175, u176, u177, u178, u179, u180, u181, u182, u183, u184, u185, u186, u187, u188, u189, u190, u191, u192, u193, u194, u195, u196, u197, u198, u199, u200, u201, u202, u203, u204, u205, u206, u207, u208, u209, u210, u211, u212, u213, u214, u215, u216, u217, u218, u219, u220, u221, u222, u223, u224, u225, u226, u227, u228, u229, u230, u231, u232, u233, u234, u235, u236, u237, u238, u239, u240, u241, u242, u243, u244, u245, u246, u247, u248, u249, u250, u251, u252], []⟩ w := by
  conv => arg 2; whnf
  have hwe : IntKind.i64.wrap (E - N) = E - N := by rw [Go.IntKind.wrap_i64]; omega
  clear e1 e2 n1 n2
  by_cases hm : m = 0
  · have fm : ((m : Int) != 0) = false := by simp [hm]
    have HM := Lib.hid (show (if m = 0 then (0 : Int) else E - N) = 0 from if_pos hm)
    clear hm
    cases us
    · go_wp2_with fail
      rw [Exit.noGoto_ret]
      refine bodyPost_ret (v := .tuple #[.int .u64 m, .int .i64 0, .bool ng, .bool tr, .bool hx, .int .i64 k, .bool true]) (by simp [results, Tryz.results142, go_sem]) rfl ⟨rfl, ?_⟩
      rw [ho.out]
      refine ⟨true, fun _ => rfl, ?_⟩
      dsimp only
      rw [HM.out, pos_of hk]
    · have hun := Lib.hid (under_calls (s.extract 0 k) (by rw [ByteArray.size_extract]; omega))
      go_wp2_with (refine (hun.out _).mono ?_; rintro e w1 ⟨⟨ok, rfl⟩, rfl⟩; cases ok)
      all_goals rw [Exit.noGoto_ret]
      · refine bodyPost_ret (v := .tuple #[.int .u64 m, .int .i64 0, .bool ng, .bool tr, .bool hx, .int .i64 k, .bool false]) (by simp [results, Tryz.results142, go_sem]) rfl ⟨rfl, ?_⟩
        rw [ho.out]
        refine ⟨false, fun h => (by first | rfl | (cases h)), ?_⟩
        dsimp only
        rw [HM.out, pos_of hk]
      · refine bodyPost_ret (v := .tuple #[.int .u64 m, .int .i64 0, .bool ng, .bool tr, .bool hx, .int .i64 k, .bool true]) (by simp [results, Tryz.results142, go_sem]) rfl ⟨rfl, ?_⟩
        rw [ho.out]
        refine ⟨true, fun h => (by first | rfl | (cases h)), ?_⟩
        dsimp only
        rw [HM.out, pos_of hk]
  · have fm : ((m : Int) != 0) = true := by simp; omega
    have HM := Lib.hid (show (if m = 0 then (0 : Int) else E - N) = (E - N) from if_neg hm)
    clear hm
    cases us
    · go_wp2_with fail
      rw [Exit.noGoto_ret]
      refine bodyPost_ret (v := .tuple #[.int .u64 m, .int .i64 (E - N), .bool ng, .bool tr, .bool hx, .int .i64 k, .bool true]) (by simp [results, Tryz.results142, go_sem]) rfl ⟨rfl, ?_⟩
      rw [ho.out]
      refine ⟨true, fun _ => rfl, ?_⟩
      dsimp only
      rw [HM.out, pos_of hk]
    · have hun := Lib.hid (under_calls (s.extract 0 k) (by rw [ByteArray.size_extract]; omega))
      go_wp2_with (refine (hun.out _).mono ?_; rintro e w1 ⟨⟨ok, rfl⟩, rfl⟩; cases ok)
      all_goals rw [Exit.noGoto_ret]
      · refine bodyPost_ret (v := .tuple #[.int .u64 m, .int .i64 (E - N), .bool ng, .bool tr, .bool hx, .int .i64 k, .bool false]) (by simp [results, Tryz.results142, go_sem]) rfl ⟨rfl, ?_⟩
        rw [ho.out]
        refine ⟨false, fun h => (by first | rfl | (cases h)), ?_⟩
        dsimp only
        rw [HM.out, pos_of hk]
      · refine bodyPost_ret (v := .tuple #[.int .u64 m, .int .i64 (E - N), .bool ng, .bool tr, .bool hx, .int .i64 k, .bool true]) (by simp [results, Tryz.results142, go_sem]) rfl ⟨rfl, ?_⟩
        rw [ho.out]
        refine ⟨true, fun h => (by first | rfl | (cases h)), ?_⟩
        dsimp only
        rw [HM.out, pos_of hk]
end Go.Proofs.YtjpiplplohapnaaGreatDoor
/- Walks of ParseFloat (2): readFloat, behind the digits. Printed by wip/tools/genrf3.py. -/
namespace Go.Proofs.YtjpiplplohapnaaGreatDoor
open Go.RowKit Go.Proofs.YtjpiplplohapnaaGreatDoorW.PrintWords Rf
set_option maxRecDepth 100000 in
set_option maxHeartbeats 4000000 in
theorem rfTail_d (s : ByteArray) (hs : s.size ≤ 1000) (k : Nat) (hk : k ≤ s.size) (ng us dot sd : Bool) (nd nm : Nat) (dp : Int) (m : Nat) (tr : Bool) (hO : Ok false ⟨us, dot, sd, nd, nm, dp, m, tr⟩ k) (w : World) {u1 u18 u19 u20 u21 u22 u23 u24 u25 u26 u27 u28 u29 u30 u31 u32 u33 u34 u35 u36 u37 u38 u39 u40 u41 u42 u43 u44 u45 u46 u47 u48 u49 u50 u51 u52 u53 u54 u55 u56 u57 u58 u59 u60 u61 u62 u63 u64 u65 u66 u67 u68 u69 u70 u71 u72 u73 u74 u75 u76 u77 u78 u79 u80 u81 u82 u83 u84 u85 u86 u87 u88 u89 u90 u91 u92 u93 u94 u95 u96 u97 u98 u99 u100 u101 u102 u103 u104 u105 u106 u107 u108 u109 u110 u111 u112 u113 u114 u115 u116 u117 u118 u119 u120 u121 u122 u123 u124 u125 u126 u127 u128 u129 u130 u131 u132 u133 u134 u135 u136 u137 u138 u139 u140 u141 u142 u143 u144 u145 u146 u147 u148 u149 u150 u151 u152 u153 u154 u155 u156 u157 u158 u159 u160 u161 u162 u163 u164 u165 u166 u167 u168 u169 u170 u171 u172 u173 u174 u175 u176 u177 u178 u179 u180 u181 u182 u183 u184 u185 u186 u187 u188 u189 u190 u191 u192 u193 u194 u195 u196 u197 u198 u199 u200 u201 u202 u203 u204 u205 u206 u207 u208 u209 u210 u211 u212 u213 u214 u215 u216 u217 u218 u219 u220 u221 u222 u223 u224 u225 u226 u227 u228 u229 u230 u231 u232 u233 u234 u235 u236 u237 u238 u239 u240 u241 u242 u243 u244 u245 u246 u247 u248 u249 u250 u251 u252 : Value} :
    rfCode51.wp Tryz.prog (Exit.noGoto (bodyPost Tryz.prog Tryz.f142 (RfPost ng false s (fin false ⟨us, dot, sd, nd, nm, dp, m, tr⟩ (s.data.toList.drop k)) w))) ⟨#[Value.string s, u1, Value.int .u64 m, Value.int .i64 0, Value.bool ng, Value.bool tr, Value.bool false, Value.int .i64 (k : Int), Value.bool false, Value.bool us, Value.int .u64 10, Value.int .i64 19, Value.int .u8 101, Value.bool dot, Value.bool sd, Value.int .i64 (nd : Int), Value.int .i64 (nm : Int), Value.int .i64 dp, u18, u19, u20, u21, u22, u23, u24, u25, u26, u27, u28, u29, u30, u31, u32, u33, u34, u35, u36, u37, u38, u39, u40, u41, u42, u43, u44, u45, u46, u47, u48, u49, u50, u51, u52, u53, u54, u55, u56, u57, u58, u59, u60, u61, u62, u63, u64, u65, u66, u67, u68, u69, u70, u71, u72, u73, u74, u75, u76, u77, u78, u79, u80, u81, u82, u83, u84, u85, u86, u87, u88, u89, u90, u91, u92, u93, u94, u95, u96, u97, u98, u99, u100, u101, u102, u103, u104, u105, u106, u107, u108, u109, u110, u111, u112, u113, u114, u115, u116, u117, u118, u119, u120, u121, u122, u123, u124, u125, u126, u127, u128, u129, u130, u131, u132, u133, u134, u135, u136, u137, u138, u139, u140, u141, u142, u143, u144, u145, u146, u147, u148, u149, u150, u151, u152, u153, u154, u155, u156, u157, u158, u159, u160, u161, u162, u163, u164, u165, u166, u167, u168, u169, u170, u171, u172, u173, u174, u175, u176, u177, u178, u179, u180, u181, u182, u183, u184, u185, u186, u187, u188, u189, u190, u191, u192, u193, u194, u195, u196, u197, u198, u199, u200, u201, u202, u203, u204, u205, u206, u207, u208, u209, u210, u211, u212, u213, u214, u215, u216, u217, u218, u219, u220, u221, u222, u223, u224, u225, u226, u227, u228, u229, u230, u231, u232, u233, u234, u235, u236, u237, u238, u239, u240, u241, u242, u243, u244, u245, u246, u247, u248, u249, u250, u251, u252], []⟩ w := by
  conv => arg 2; whnf
  have b1 : nd ≤ 1000 := by have := hO.nd; dsimp only at this; omega
  have b2 : nm ≤ 19 := hO.nm
  have b3 : -1000 ≤ dp := by have := hO.dp1; dsimp only at this; omega
  have b4 : dp ≤ 1000 := by have := hO.dp2; dsimp only at this; omega
  clear hO
  cases sd
  · go_wp2_with fail
    try rw [Exit.noGoto_ret]
    exact bodyPost_ret (v := .tuple #[.int .u64 m, .int .i64 0, .bool ng, .bool tr, .bool false, .int .i64 k, .bool false]) (by simp [results, Tryz.results142, go_sem]) rfl ⟨rfl, ⟨_, _, _, _, _, _, rfl⟩⟩
  · obtain ⟨D, hD⟩ : ∃ D, D = dpv false ⟨us, dot, true, nd, nm, dp, m, tr⟩ := ⟨_, rfl⟩
    obtain ⟨N, hN⟩ : ∃ N, N = nmv false ⟨us, dot, true, nd, nm, dp, m, tr⟩ := ⟨_, rfl⟩
    have hD2 : (dot = true → D = dp * 1) ∧ (dot = false → D = nd * 1) := by rw [hD]; unfold dpv; cases dot <;> exact ⟨fun h => (by first | rfl | (cases h)), fun h => (by first | rfl | (cases h))⟩
    have hN2 : N = (nm : Int) * 1 := hN
    have d1 : -5000 ≤ D := by cases dot; (have := hD2.2 rfl; omega); (have := hD2.1 rfl; omega)
    have d2 : D ≤ 5000 := by cases dot; (have := hD2.2 rfl; omega); (have := hD2.1 rfl; omega)
    have n1 : 0 ≤ N := by omega
    have n2 : N ≤ 100 := by omega
    have HF := Lib.hid (show fin false ⟨us, dot, true, nd, nm, dp, m, tr⟩ (s.data.toList.drop k) = (expPart false us (s.data.toList.drop k)).map fun x => ⟨m, if m = 0 then 0 else D + x.1 - N, tr, x.2.1, x.2.2⟩ by rw [hD, hN]; rfl)
    clear hD hN
    obtain ⟨o, hofin⟩ : ∃ o, o = fin false ⟨us, dot, true, nd, nm, dp, m, tr⟩ (s.data.toList.drop k) := ⟨_, rfl⟩
    rw [← hofin]
    have HO := Lib.hid (hofin.trans HF.out)
    clear hofin HF
    go_upto_if 142 with (fail)
    go_cut [17] (fun v17 w' => (∃ q : Int, v17 = .int .i64 q ∧ Hid (D = q * 1) ∧ -1000 ≤ q ∧ q ≤ 1000) ∧ w = w')
    case first =>
      cases dot
      · have HQ := Lib.hid (hD2.2 rfl)
        clear hD2 hN2 d1 d2 n1 n2
        go_wp2_with fail
        go_meet
        case rel => exact ⟨⟨nd, rfl, HQ, by omega, by omega⟩, rfl⟩
      · have HQ := Lib.hid (hD2.1 rfl)
        clear hD2 hN2 d1 d2 n1 n2
        go_wp2_with fail
        go_meet
        case rel => exact ⟨⟨dp, rfl, HQ, by omega, by omega⟩, rfl⟩
    case rest =>
      obtain ⟨⟨q, rfl, hq, q1, q2⟩, rfl⟩ := hcut
      clear hD2 b1 b3 b4
      go_step
      go_step
      go_cut [16, 17] (fun v16 v17 w' => v16 = .int .i64 N ∧ v17 = .int .i64 D ∧ w = w')
      case first =>
        have hqq : q = D := by have := hq.out; omega
        have hnn : (nm : Int) = N := by omega
        have HQ := Lib.hid hqq
        have HN := Lib.hid hnn
        clear hqq hnn hN2
        go_wp2_with fail
        go_meet
        case rel => exact ⟨congrArg (Value.int .i64) HN.out, congrArg (Value.int .i64) HQ.out, rfl⟩
      case rest =>
        obtain ⟨rfl, rfl, rfl⟩ := hcut
        clear hq hN2 q1 q2 b2
        go_step
        go_step
        go_cut [7, 9, 17] (fun v7 v9 v17 w' => (∃ (k3 : Nat) (u : Bool) (E : Int), v7 = .int .i64 k3 ∧ v9 = .bool u ∧ v17 = .int .i64 (D + E) ∧ -100000 ≤ E ∧ E ≤ 100000 ∧ k3 ≤ s.size ∧ Hid (expPart false us (s.data.toList.drop k) = some (E, u, s.data.toList.drop k3))) ∧ w = w')
        case rest =>
          obtain ⟨⟨k3, u, E, rfl, rfl, rfl, hE1, hE2, hk3, hX⟩, rfl⟩ := hcut
          go_step
          exact rfEnd s hs m k3 ng false tr u N (D + E) hk3 (by omega) (by omega) n1 n2 o (Lib.hid (by rw [HO.out, hX.out]; rfl)) w
        case first => as_aux_lemma =>
          clear n1 n2
          by_cases hkl : k < s.size
          · have hl : k < s.data.toList.length := by simpa using hkl
            have hr2 := drop_at s.data.toList k hl
            have hsk : ((s[k].toNat : Nat) : Int) = ((s.data.toList[k].toNat : Nat) : Int) := rfl
            obtain ⟨c, hc⟩ : ∃ c, c = s.data.toList[k].toNat := ⟨_, rfl⟩
            rw [← hc] at hsk
            have hlw : Go.bits .or .u8 (c : Int) 32 = lw c := rfl
            by_cases hX : lw c = 101
            · have HE := Lib.hid (show expPart false us (s.data.toList.drop k) = eat us (s.data.toList.drop (k + 1)) by rw [hr2]; exact expPart_hit_d (by rw [← hc]; exact hX))
              clear hr2 hc
              have f1 : (lw c == 101) = true := by simp [hX]
              have hwk : IntKind.i64.wrap ((k : Int) + 1) = (k : Int) + 1 := by rw [Go.IntKind.wrap_i64]; omega
              clear hX
              by_cases hk1 : k + 1 < s.size
              · have hk1i : (k : Int) + 1 < s.size := by omega
                have hk1n : ¬ (s.size : Int) ≤ (k : Int) + 1 := by omega
                go_upto_block 4 with (go_at_call 156; refine (Tryz.internal_strconv_lower _ _).mono ?_; rintro e w1 ⟨rfl, hw1⟩; obtain rfl := hw1.symm)
                go_cut [7, 19] (fun v7 v19 w' => (∃ (k2 : Nat) (sg : Int), v7 = .int .i64 k2 ∧ v19 = .int .i64 sg ∧ Hid (esign (s.data.toList.drop (k + 1)) = (sg, s.data.toList.drop k2)) ∧ k2 ≤ s.size ∧ (sg = 1 ∨ sg = -1)) ∧ w = w')
                case first => as_aux_lemma =>
                  have hl1 : k + 1 < s.data.toList.length := by simpa using hk1
                  have hes := drop_at s.data.toList (k + 1) hl1
                  have hsk1 : ((s[k + 1].toNat : Nat) : Int) = ((s.data.toList[k + 1].toNat : Nat) : Int) := rfl
                  obtain ⟨d, hd⟩ : ∃ d, d = s.data.toList[k + 1].toNat := ⟨_, rfl⟩
                  rw [← hd] at hsk1
                  by_cases h43 : d = 43
                  · have HS := Lib.hid (show esign (s.data.toList.drop (k + 1)) = (1, s.data.toList.drop (k + 1 + 1)) by rw [hes, esign, ← hd, if_pos h43])
                    have g1 : ((d : Int) == 43) = true := by simp [h43]
                    have hwk2 : IntKind.i64.wrap ((k : Int) + 1 + 1) = (k : Int) + 1 + 1 := by rw [Go.IntKind.wrap_i64]; omega
                    clear hes hd h43
                    go_wp2_with fail
                    go_meet
                    case rel => exact ⟨⟨k + 1 + 1, 1, by go_num, rfl, HS, by omega, Or.inl rfl⟩, rfl⟩
                  · have g1 : ((d : Int) == 43) = false := by simp; omega
                    by_cases h45 : d = 45
                    · have HS := Lib.hid (show esign (s.data.toList.drop (k + 1)) = (-1, s.data.toList.drop (k + 1 + 1)) by rw [hes, esign, ← hd, if_neg h43, if_pos h45])
                      have g2 : ((d : Int) == 45) = true := by simp [h45]
                      have hwk2 : IntKind.i64.wrap ((k : Int) + 1 + 1) = (k : Int) + 1 + 1 := by rw [Go.IntKind.wrap_i64]; omega
                      clear hes hd h43 h45
                      go_wp2_with fail
                      go_meet
                      case rel => exact ⟨⟨k + 1 + 1, -1, by go_num, rfl, HS, by omega, Or.inr rfl⟩, rfl⟩
                    · have HS := Lib.hid (show esign (s.data.toList.drop (k + 1)) = (1, s.data.toList.drop (k + 1)) by rw [hes, esign, ← hd, if_neg h43, if_neg h45])
                      have g2 : ((d : Int) == 45) = false := by simp; omega
                      clear hes hd h43 h45
                      go_wp2_with fail
                      go_meet
                      case rel => exact ⟨⟨k + 1, 1, by go_num, rfl, HS, by omega, Or.inl rfl⟩, rfl⟩
                case rest => as_aux_lemma =>
                  obtain ⟨⟨k2, sg, rfl, rfl, hes, hk2, hsg⟩, hww⟩ := hcut
                  subst hww
                  clear hlw f1 hwk hk1n
                  have hET : eat us (s.data.toList.drop (k + 1)) = if startsD (s.data.toList.drop k2) then some (sg * ((escan (s.data.toList.drop k2) 0 us).1 : Nat), (escan (s.data.toList.drop k2) 0 us).2.1, (escan (s.data.toList.drop k2) 0 us).2.2) else none := by unfold eat; rw [hes.out]
                  have HT := Lib.hid (HE.out.trans hET)
                  clear hET HE hes
                  by_cases hk2l : k2 < s.size
                  · have hl2 : k2 < s.data.toList.length := by simpa using hk2l
                    have hd2 := drop_at s.data.toList k2 hl2
                    have hsk2 : ((s[k2].toNat : Nat) : Int) = ((s.data.toList[k2].toNat : Nat) : Int) := rfl
                    have hk2i : (k2 : Int) < s.size := by omega
                    have hk2n : ¬ (s.size : Int) ≤ (k2 : Int) := by omega
                    obtain ⟨d, hd⟩ : ∃ d, d = s.data.toList[k2].toNat := ⟨_, rfl⟩
                    rw [← hd] at hsk2
                    have hsd : startsD (s.data.toList.drop k2) = (decide (48 ≤ d) && decide (d ≤ 57)) := by rw [hd2, startsD, ← hd]
                    clear hd2 hd
                    by_cases hdd : 48 ≤ d ∧ d ≤ 57
                    · rw [decide_eq_true hdd.1, decide_eq_true hdd.2] at hsd
                      have HE := Lib.hid (HT.out.trans (if_pos hsd))
                      have f3 : ¬ (d : Int) < 48 := by omega
                      have f4 : ¬ (57 : Int) < (d : Int) := by omega
                      have f3b : (48 : Int) ≤ (d : Int) := by omega
                      have f4b : (d : Int) ≤ 57 := by omega
                      clear HT hsd hdd
                      obtain ⟨eF, uF, r3, hF⟩ : ∃ eF uF r3, escan (s.data.toList.drop k2) 0 us = (eF, uF, r3) := ⟨_, _, _, rfl⟩
                      have HE2 := HE.out
                      rw [hF] at HE2
                      have HE3 := Lib.hid HE2
                      have Hesc := Lib.hid hF
                      clear hF HE HE2
                      go_upto_block 5 with (fail)
                      go_cut [7, 9, 20] (fun v7 v9 v20 w' => (∃ k3 : Nat, v7 = .int .i64 k3 ∧ Hid (s.data.toList.drop k3 = r3) ∧ k3 ≤ s.size) ∧ v9 = .bool uF ∧ v20 = .int .i64 eF ∧ eF ≤ 99999 ∧ w = w')
                      case first => as_aux_lemma =>
                        go_wp2_with fail
                        clear hk2l hl2 hsk2 hk2i hk2n f3 f4 f3b f4b
                        go_loopg [7, 9, 20] (s.size - k2) (fun gn v7 v9 v20 w' => ∃ (k3 e : Nat) (u : Bool), gn + k3 = s.size ∧ v7 = .int .i64 k3 ∧ v9 = .bool u ∧ v20 = .int .i64 e ∧ e ≤ 99999 ∧ k3 ≤ s.size ∧ Hid (escan (s.data.toList.drop k3) e u = (eF, uF, r3)) ∧ w = w')
                        case atStart => exact ⟨k2, 0, us, by omega, rfl, rfl, rfl, by omega, hk2, Hesc, rfl⟩
                        case round =>
                          obtain ⟨k3, e, u, hg, rfl, rfl, rfl, he, hk3, hsc, rfl⟩ := hrel
                          clear Hesc HE3 HO
                          by_cases hkl : k3 < s.size
                          · have hl : k3 < s.data.toList.length := by simpa using hkl
                            have hsk : ((s[k3].toNat : Nat) : Int) = ((s.data.toList[k3].toNat : Nat) : Int) := rfl
                            have h1 := @escan_us s.data.toList k3 e u hl
                            have h2 := @escan_digit s.data.toList k3 e u hl
                            have h3 := @escan_stop s.data.toList k3 e u hl
                            obtain ⟨c, hc⟩ : ∃ c, c = s.data.toList[k3].toNat := ⟨_, rfl⟩
                            rw [← hc] at hsk h1 h2 h3
                            clear hc
                            have hwk : IntKind.i64.wrap ((k3 : Int) + 1) = (k3 : Int) + 1 := by rw [Go.IntKind.wrap_i64]; omega
                            by_cases h95 : c = 95
                            · have f1 : ((c : Int) == 95) = true := by simp [h95]
                              have f2 : ¬ (c : Int) ≤ 57 := by omega
                              have f2b : (57 : Int) < c := by omega
                              have f2c : (48 : Int) ≤ c := by omega
                              have HS := Lib.hid ((h1 h95).symm.trans hsc.out)
                              clear h1 h2 h3 hsc h95
                              go_wp2_with fail
                              go_roundg (gk - 1)
                              case measure => omega
                              case rel => exact ⟨k3 + 1, e, true, by omega, by go_num, rfl, rfl, he, by omega, HS, rfl⟩
                            · have f1 : ((c : Int) == 95) = false := by simp; omega
                              by_cases hdd : 48 ≤ c ∧ c ≤ 57
                              · have f2 : (c : Int) ≤ 57 := by omega
                                have f2c : (48 : Int) ≤ c := by omega
                                have HS0 := (h2 h95 hdd).symm.trans hsc.out
                                clear h1 h2 h3 hsc h95 hdd
                                by_cases h10 : e < 10000
                                · rw [if_pos h10] at HS0
                                  have HS := Lib.hid HS0
                                  have f5 : (e : Int) < 10000 := by omega
                                  have hw1 : IntKind.i64.wrap ((e : Int) * 10) = (e : Int) * 10 := by rw [Go.IntKind.wrap_i64]; omega
                                  have hw2 : IntKind.i64.wrap ((e : Int) * 10 + c) = (e : Int) * 10 + c := by rw [Go.IntKind.wrap_i64]; omega
                                  have hw3 : IntKind.i64.wrap ((e : Int) * 10 + c - 48) = (e : Int) * 10 + c - 48 := by rw [Go.IntKind.wrap_i64]; omega
                                  have hw4 : IntKind.i64.wrap (c : Int) = c := by rw [Go.IntKind.wrap_i64]; omega
                                  clear HS0
                                  go_wp2_with fail
                                  go_roundg (gk - 1)
                                  case measure => omega
                                  case rel => exact ⟨k3 + 1, e * 10 + (c - 48), u, by omega, by go_num, rfl, congrArg (Value.int .i64) (by omega), by omega, by omega, HS, rfl⟩
                                · rw [if_neg h10] at HS0
                                  have HS := Lib.hid HS0
                                  have f5 : ¬ (e : Int) < 10000 := by omega
                                  clear HS0
                                  go_wp2_with fail
                                  go_roundg (gk - 1)
                                  case measure => omega
                                  case rel => exact ⟨k3 + 1, e, u, by omega, by go_num, rfl, rfl, he, by omega, HS, rfl⟩
                              · have HS := Lib.hid ((h3 h95 hdd).symm.trans hsc.out)
                                clear h1 h2 h3 hsc h95
                                by_cases h48 : 48 ≤ c
                                · have f2c : (48 : Int) ≤ c := by omega
                                  have f2 : ¬ (c : Int) ≤ 57 := by omega
                                  have f2b : (57 : Int) < c := by omega
                                  clear hdd h48
                                  go_wp2_with fail
                                  go_meet
                                  case rel =>
                                    have hh := HS.out
                                    simp only [Prod.mk.injEq] at hh
                                    obtain ⟨rfl, rfl, hh3⟩ := hh
                                    exact ⟨⟨k3, rfl, Lib.hid hh3, hk3⟩, rfl, rfl, he, rfl⟩
                                · have f2c : ¬ (48 : Int) ≤ c := by omega
                                  have f2b : (c : Int) < 48 := by omega
                                  clear hdd h48
                                  go_wp2_with fail
                                  go_meet
                                  case rel =>
                                    have hh := HS.out
                                    simp only [Prod.mk.injEq] at hh
                                    obtain ⟨rfl, rfl, hh3⟩ := hh
                                    exact ⟨⟨k3, rfl, Lib.hid hh3, hk3⟩, rfl, rfl, he, rfl⟩
                          · have HS := Lib.hid ((@escan_end s.data.toList k3 e u (by simp; omega)).symm.trans hsc.out)
                            have hkn : ¬ (k3 : Int) < s.size := by omega
                            have hkn2 : (s.size : Int) ≤ k3 := by omega
                            clear hsc
                            go_wp2_with fail
                            go_meet
                            case rel =>
                              have hh := HS.out
                              simp only [Prod.mk.injEq] at hh
                              obtain ⟨rfl, rfl, hh3⟩ := hh
                              exact ⟨⟨k3, rfl, Lib.hid hh3, hk3⟩, rfl, rfl, he, rfl⟩
                      case rest => as_aux_lemma =>
                        obtain ⟨⟨k3, rfl, hr3, hk3⟩, rfl, rfl, heF, hww⟩ := hcut
                        subst hww
                        obtain ⟨E, hE⟩ : ∃ E : Int, E = sg * eF := ⟨_, rfl⟩
                        have hE1 : -100000 ≤ E ∧ E ≤ 100000 := by rcases hsg with rfl | rfl <;> omega
                        have hE2 : (eF : Int) * sg = E := by rw [hE, Int.mul_comm]
                        have hw1 : IntKind.i64.wrap E = E := by rw [Go.IntKind.wrap_i64]; omega
                        have hw2 : IntKind.i64.wrap (D + E) = D + E := by rw [Go.IntKind.wrap_i64]; omega
                        have HX : Hid (expPart false us (s.data.toList.drop k) = some (E, uF, s.data.toList.drop k3)) := Lib.hid (by rw [HE3.out, hE, hr3.out])
                        clear HE3 hE hr3 Hesc hk2l hl2 hsk2 hk2i hk2n f3 f4 f3b f4b heF hsg hk2
                        go_wp2_with fail
                        go_meet
                        case rel => exact ⟨⟨k3, uF, E, rfl, rfl, rfl, hE1.1, hE1.2, hk3, HX⟩, rfl⟩
                    · have hsd2 : ¬ startsD (s.data.toList.drop k2) = true := by rw [hsd]; simp; omega
                      have HE := Lib.hid (HT.out.trans (if_neg hsd2))
                      clear HT hsd hsd2
                      by_cases h48 : 48 ≤ d
                      · have f3 : ¬ (d : Int) < 48 := by omega
                        have f3b : (48 : Int) ≤ d := by omega
                        have f4 : (57 : Int) < (d : Int) := by omega
                        clear hdd h48
                        have HN : Hid (o = none) := Lib.hid (by rw [HO.out, HE.out]; rfl)
                        clear HO HE
                        go_wp2_with fail
                        try rw [Exit.noGoto_ret]
                        refine bodyPost_ret (v := .tuple #[.int .u64 m, .int .i64 0, .bool ng, .bool tr, .bool false, .int .i64 k2, .bool false]) (by simp [results, Tryz.results142, go_sem]) rfl ⟨rfl, ?_⟩
                        rw [HN.out]
                        exact ⟨_, _, _, _, _, _, rfl⟩
                      · have f3 : (d : Int) < 48 := by omega
                        clear hdd h48
                        have HN : Hid (o = none) := Lib.hid (by rw [HO.out, HE.out]; rfl)
                        clear HO HE
                        go_wp2_with fail
                        try rw [Exit.noGoto_ret]
                        refine bodyPost_ret (v := .tuple #[.int .u64 m, .int .i64 0, .bool ng, .bool tr, .bool false, .int .i64 k2, .bool false]) (by simp [results, Tryz.results142, go_sem]) rfl ⟨rfl, ?_⟩
                        rw [HN.out]
                        exact ⟨_, _, _, _, _, _, rfl⟩
                  · have HE := Lib.hid (HT.out.trans (if_neg (by rw [List.drop_of_length_le (by simp; omega), startsD]; simp)))
                    have hk2n : (s.size : Int) ≤ (k2 : Int) := by omega
                    clear HT
                    have HN : Hid (o = none) := Lib.hid (by rw [HO.out, HE.out]; rfl)
                    clear HO HE
                    go_wp2_with fail
                    try rw [Exit.noGoto_ret]
                    refine bodyPost_ret (v := .tuple #[.int .u64 m, .int .i64 0, .bool ng, .bool tr, .bool false, .int .i64 k2, .bool false]) (by simp [results, Tryz.results142, go_sem]) rfl ⟨rfl, ?_⟩
                    rw [HN.out]
                    exact ⟨_, _, _, _, _, _, rfl⟩
              · have hk1i : (s.size : Int) ≤ (k : Int) + 1 := by omega
                have hdr : s.data.toList.drop (k + 1) = [] := List.drop_of_length_le (by simp; omega)
                have HN : Hid (o = none) := Lib.hid (by rw [HO.out, HE.out, hdr]; rfl)
                clear HO HE hdr
                go_wp2_with (go_at_call 156; refine (Tryz.internal_strconv_lower _ _).mono ?_; rintro e w1 ⟨rfl, hw1⟩; obtain rfl := hw1.symm)
                try rw [Exit.noGoto_ret]
                refine bodyPost_ret (v := .tuple #[.int .u64 m, .int .i64 0, .bool ng, .bool tr, .bool false, .int .i64 (k + 1), .bool false]) (by simp [results, Tryz.results142, go_sem]) rfl ⟨rfl, ?_⟩
                rw [HN.out]
                exact ⟨_, _, _, _, _, _, rfl⟩
            · have f1 : (lw c == 101) = false := by simp [hX]
              have HE : Hid (expPart false us (s.data.toList.drop k) = some (0, us, s.data.toList.drop k)) := Lib.hid (by rw [hr2]; exact expPart_miss_d (by rw [← hc]; exact hX))
              have hD0 : D = D + 0 := by omega
              have HD0 := Lib.hid hD0
              clear hr2 hc hX hD0
              go_wp2_with (go_at_call 156; refine (Tryz.internal_strconv_lower _ _).mono ?_; rintro e w1 ⟨rfl, hw1⟩; obtain rfl := hw1.symm)
              go_meet
              case rel => exact ⟨⟨k, us, 0, rfl, rfl, congrArg (Value.int .i64) HD0.out, by omega, by omega, hk, HE⟩, rfl⟩
          · have hkn : ¬ (k : Int) < s.size := by omega
            have hkn2 : (s.size : Int) ≤ k := by omega
            have hr2 : s.data.toList.drop k = [] := List.drop_of_length_le (by simp; omega)
            have HE : Hid (expPart false us (s.data.toList.drop k) = some (0, us, s.data.toList.drop k)) := Lib.hid (by rw [hr2]; rfl)
            have hD0 : D = D + 0 := by omega
            have HD0 := Lib.hid hD0
            clear hr2 hD0
            go_wp2_with fail
            go_meet
            case rel => exact ⟨⟨k, us, 0, rfl, rfl, congrArg (Value.int .i64) HD0.out, by omega, by omega, hk, HE⟩, rfl⟩
set_option maxRecDepth 100000 in
theorem rfTail_d' (s : ByteArray) (hs : s.size ≤ 1000) (k : Nat) (hk : k ≤ s.size) (rF : List UInt8) (hr : s.data.toList.drop k = rF) (ng us dot sd : Bool) (nd nm : Nat) (dp : Int) (m : Nat) (tr : Bool) (hO : Ok false ⟨us, dot, sd, nd, nm, dp, m, tr⟩ k) (w : World) {u1 u18 u19 u20 u21 u22 u23 u24 u25 u26 u27 u28 u29 u30 u31 u32 u33 u34 u35 u36 u37 u38 u39 u40 u41 u42 u43 u44 u45 u46 u47 u48 u49 u50 u51 u52 u53 u54 u55 u56 u57 u58 u59 u60 u61 u62 u63 u64 u65 u66 u67 u68 u69 u70 u71 u72 u73 u74 u75 u76 u77 u78 u79 u80 u81 u82 u83 u84 u85 u86 u87 u88 u89 u90 u91 u92 u93 u94 u95 u96 u97 u98 u99 u100 u101 u102 u103 u104 u105 u106 u107 u108 u109 u110 u111 u112 u113 u114 u115 u116 u117 u118 u119 u120 u121 u122 u123 u124 u125 u126 u127 u128 u129 u130 u131 u132 u133 u134 u135 u136 u137 u138 u139 u140 u141 u142 u143 u144 u145 u146 u147 u148 u149 u150 u151 u152 u153 u154 u155 u156 u157 u158 u159 u160 u161 u162 u163 u164 u165 u166 u167 u168 u169 u170 u171 u172 u173 u174 u175 u176 u177 u178 u179 u180 u181 u182 u183 u184 u185 u186 u187 u188 u189 u190 u191 u192 u193 u194 u195 u196 u197 u198 u199 u200 u201 u202 u203 u204 u205 u206 u207 u208 u209 u210 u211 u212 u213 u214 u215 u216 u217 u218 u219 u220 u221 u222 u223 u224 u225 u226 u227 u228 u229 u230 u231 u232 u233 u234 u235 u236 u237 u238 u239 u240 u241 u242 u243 u244 u245 u246 u247 u248 u249 u250 u251 u252 : Value} :
    rfCode51.wp Tryz.prog (Exit.noGoto (bodyPost Tryz.prog Tryz.f142 (RfPost ng false s (fin false ⟨us, dot, sd, nd, nm, dp, m, tr⟩ rF) w))) ⟨#[Value.string s, u1, Value.int .u64 m, Value.int .i64 0, Value.bool ng, Value.bool tr, Value.bool false, Value.int .i64 (k : Int), Value.bool false, Value.bool us, Value.int .u64 10, Value.int .i64 19, Value.int .u8 101, Value.bool dot, Value.bool sd, Value.int .i64 (nd : Int), Value.int .i64 (nm : Int), Value.int .i64 dp, u18, u19, u20, u21, u22, u23, u24, u25, u26, u27, u28, u29, u30, u31, u32, u33, u34, u35, u36, u37, u38, u39, u40, u41, u42, u43, u44, u45, u46, u47, u48, u49, u50, u51, u52, u53, u54, u55, u56, u57, u58, u59, u60, u61, u62, u63, u64, u65, u66, u67, u68, u69, u70, u71, u72, u73, u74, u75, u76, u77, u78, u79, u80, u81, u82, u83, u84, u85, u86, u87, u88, u89, u90, u91, u92, u93, u94, u95, u96, u97, u98, u99, u100, u101, u102, u103, u104, u105, u106, u107, u108, u109, u110, u111, u112, u113, u114, u115, u116, u117, u118, u119, u120, u121, u122, u123, u124, u125, u126, u127, u128, u129, u130, u131, u132, u133, u134, u135, u136, u137, u138, u139, u140, u141, u142, u143, u144, u145, u146, u147, u148, u149, u150, u151, u152, u153, u154, u155, u156, u157, u158, u159, u160, u161, u162, u163, u164, u165, u166, u167, u168, u169, u170, u171, u172, u173, u174, u175, u176, u177, u178, u179, u180, u181, u182, u183, u184, u185, u186, u187, u188, u189, u190, u191, u192, u193, u194, u195, u196, u197, u198, u199, u200, u201, u202, u203, u204, u205, u206, u207, u208, u209, u210, u211, u212, u213, u214, u215, u216, u217, u218, u219, u220, u221, u222, u223, u224, u225, u226, u227, u228, u229, u230, u231, u232, u233, u234, u235, u236, u237, u238, u239, u240, u241, u242, u243, u244, u245, u246, u247, u248, u249, u250, u251, u252], []⟩ w := by
  subst hr
  exact rfTail_d s hs k hk ng us dot sd nd nm dp m tr hO w
end Go.Proofs.YtjpiplplohapnaaGreatDoor
/- Walks of ParseFloat (2): readFloat, behind the digits. Printed by wip/tools/genrf3.py. -/
namespace Go.Proofs.YtjpiplplohapnaaGreatDoor
open Go.RowKit Go.Proofs.YtjpiplplohapnaaGreatDoorW.PrintWords Rf
set_option maxRecDepth 100000 in
set_option maxHeartbeats 4000000 in
theorem rfTail_x (s : ByteArray) (hs : s.size ≤ 1000) (k : Nat) (hk : k ≤ s.size) (ng us dot sd : Bool) (nd nm : Nat) (dp : Int) (m : Nat) (tr : Bool) (hO : Ok true ⟨us, dot, sd, nd, nm, dp, m, tr⟩ k) (w : World) {u1 u18 u19 u20 u21 u22 u23 u24 u25 u26 u27 u28 u29 u30 u31 u32 u33 u34 u35 u36 u37 u38 u39 u40 u41 u42 u43 u44 u45 u46 u47 u48 u49 u50 u51 u52 u53 u54 u55 u56 u57 u58 u59 u60 u61 u62 u63 u64 u65 u66 u67 u68 u69 u70 u71 u72 u73 u74 u75 u76 u77 u78 u79 u80 u81 u82 u83 u84 u85 u86 u87 u88 u89 u90 u91 u92 u93 u94 u95 u96 u97 u98 u99 u100 u101 u102 u103 u104 u105 u106 u107 u108 u109 u110 u111 u112 u113 u114 u115 u116 u117 u118 u119 u120 u121 u122 u123 u124 u125 u126 u127 u128 u129 u130 u131 u132 u133 u134 u135 u136 u137 u138 u139 u140 u141 u142 u143 u144 u145 u146 u147 u148 u149 u150 u151 u152 u153 u154 u155 u156 u157 u158 u159 u160 u161 u162 u163 u164 u165 u166 u167 u168 u169 u170 u171 u172 u173 u174 u175 u176 u177 u178 u179 u180 u181 u182 u183 u184 u185 u186 u187 u188 u189 u190 u191 u192 u193 u194 u195 u196 u197 u198 u199 u200 u201 u202 u203 u204 u205 u206 u207 u208 u209 u210 u211 u212 u213 u214 u215 u216 u217 u218 u219 u220 u221 u222 u223 u224 u225 u226 u227 u228 u229 u230 u231 u232 u233 u234 u235 u236 u237 u238 u239 u240 u241 u242 u243 u244 u245 u246 u247 u248 u249 u250 u251 u252 : Value} :
    rfCode51.wp Tryz.prog (Exit.noGoto (bodyPost Tryz.prog Tryz.f142 (RfPost ng true s (fin true ⟨us, dot, sd, nd, nm, dp, m, tr⟩ (s.data.toList.drop k)) w))) ⟨#[Value.string s, u1, Value.int .u64 m, Value.int .i64 0, Value.bool ng, Value.bool tr, Value.bool true, Value.int .i64 (k : Int), Value.bool false, Value.bool us, Value.int .u64 16, Value.int .i64 16, Value.int .u8 112, Value.bool dot, Value.bool sd, Value.int .i64 (nd : Int), Value.int .i64 (nm : Int), Value.int .i64 dp, u18, u19, u20, u21, u22, u23, u24, u25, u26, u27, u28, u29, u30, u31, u32, u33, u34, u35, u36, u37, u38, u39, u40, u41, u42, u43, u44, u45, u46, u47, u48, u49, u50, u51, u52, u53, u54, u55, u56, u57, u58, u59, u60, u61, u62, u63, u64, u65, u66, u67, u68, u69, u70, u71, u72, u73, u74, u75, u76, u77, u78, u79, u80, u81, u82, u83, u84, u85, u86, u87, u88, u89, u90, u91, u92, u93, u94, u95, u96, u97, u98, u99, u100, u101, u102, u103, u104, u105, u106, u107, u108, u109, u110, u111, u112, u113, u114, u115, u116, u117, u118, u119, u120, u121, u122, u123, u124, u125, u126, u127, u128, u129, u130, u131, u132, u133, u134, u135, u136, u137, u138, u139, u140, u141, u142, u143, u144, u145, u146, u147, u148, u149, u150, u151, u152, u153, u154, u155, u156, u157, u158, u159, u160, u161, u162, u163, u164, u165, u166, u167, u168, u169, u170, u171, u172, u173, u174, u175, u176, u177, u178, u179, u180, u181, u182, u183, u184, u185, u186, u187, u188, u189, u190, u191, u192, u193, u194, u195, u196, u197, u198, u199, u200, u201, u202, u203, u204, u205, u206, u207, u208, u209, u210, u211, u212, u213, u214, u215, u216, u217, u218, u219, u220, u221, u222, u223, u224, u225, u226, u227, u228, u229, u230, u231, u232, u233, u234, u235, u236, u237, u238, u239, u240, u241, u242, u243, u244, u245, u246, u247, u248, u249, u250, u251, u252], []⟩ w := by
  conv => arg 2; whnf
  have b1 : nd ≤ 1000 := by have := hO.nd; dsimp only at this; omega
  have b2 : nm ≤ 16 := hO.nm
  have b3 : -1000 ≤ dp := by have := hO.dp1; dsimp only at this; omega
  have b4 : dp ≤ 1000 := by have := hO.dp2; dsimp only at this; omega
  clear hO
  cases sd
  · go_wp2_with fail
    try rw [Exit.noGoto_ret]
    exact bodyPost_ret (v := .tuple #[.int .u64 m, .int .i64 0, .bool ng, .bool tr, .bool true, .int .i64 k, .bool false]) (by simp [results, Tryz.results142, go_sem]) rfl ⟨rfl, ⟨_, _, _, _, _, _, rfl⟩⟩
  · obtain ⟨D, hD⟩ : ∃ D, D = dpv true ⟨us, dot, true, nd, nm, dp, m, tr⟩ := ⟨_, rfl⟩
    obtain ⟨N, hN⟩ : ∃ N, N = nmv true ⟨us, dot, true, nd, nm, dp, m, tr⟩ := ⟨_, rfl⟩
    have hD2 : (dot = true → D = dp * 4) ∧ (dot = false → D = nd * 4) := by rw [hD]; unfold dpv; cases dot <;> exact ⟨fun h => (by first | rfl | (cases h)), fun h => (by first | rfl | (cases h))⟩
    have hN2 : N = (nm : Int) * 4 := hN
    have d1 : -5000 ≤ D := by cases dot; (have := hD2.2 rfl; omega); (have := hD2.1 rfl; omega)
    have d2 : D ≤ 5000 := by cases dot; (have := hD2.2 rfl; omega); (have := hD2.1 rfl; omega)
    have n1 : 0 ≤ N := by omega
    have n2 : N ≤ 100 := by omega
    have HF := Lib.hid (show fin true ⟨us, dot, true, nd, nm, dp, m, tr⟩ (s.data.toList.drop k) = (expPart true us (s.data.toList.drop k)).map fun x => ⟨m, if m = 0 then 0 else D + x.1 - N, tr, x.2.1, x.2.2⟩ by rw [hD, hN]; rfl)
    clear hD hN
    obtain ⟨o, hofin⟩ : ∃ o, o = fin true ⟨us, dot, true, nd, nm, dp, m, tr⟩ (s.data.toList.drop k) := ⟨_, rfl⟩
    rw [← hofin]
    have HO := Lib.hid (hofin.trans HF.out)
    clear hofin HF
    go_upto_if 142 with (fail)
    go_cut [17] (fun v17 w' => (∃ q : Int, v17 = .int .i64 q ∧ Hid (D = q * 4) ∧ -1000 ≤ q ∧ q ≤ 1000) ∧ w = w')
    case first =>
      cases dot
      · have HQ := Lib.hid (hD2.2 rfl)
        clear hD2 hN2 d1 d2 n1 n2
        go_wp2_with fail
        go_meet
        case rel => exact ⟨⟨nd, rfl, HQ, by omega, by omega⟩, rfl⟩
      · have HQ := Lib.hid (hD2.1 rfl)
        clear hD2 hN2 d1 d2 n1 n2
        go_wp2_with fail
        go_meet
        case rel => exact ⟨⟨dp, rfl, HQ, by omega, by omega⟩, rfl⟩
    case rest =>
      obtain ⟨⟨q, rfl, hq, q1, q2⟩, rfl⟩ := hcut
      clear hD2 b1 b3 b4
      go_step
      go_step
      go_cut [16, 17] (fun v16 v17 w' => v16 = .int .i64 N ∧ v17 = .int .i64 D ∧ w = w')
      case first =>
        have hwq : IntKind.i64.wrap (q * 4) = D := by have hq := hq.out; rw [← hq, Go.IntKind.wrap_i64]; omega
        have hwn : IntKind.i64.wrap ((nm : Int) * 4) = N := by rw [← hN2, Go.IntKind.wrap_i64]; omega
        clear hN2 d1 d2 n1 n2 q1 q2 b2
        go_wp2_with fail
        go_meet
        case rel => exact ⟨rfl, rfl, rfl⟩
      case rest =>
        obtain ⟨rfl, rfl, rfl⟩ := hcut
        clear hq hN2 q1 q2 b2
        go_step
        go_step
        go_cut [7, 9, 17] (fun v7 v9 v17 w' => (∃ (k3 : Nat) (u : Bool) (E : Int), v7 = .int .i64 k3 ∧ v9 = .bool u ∧ v17 = .int .i64 (D + E) ∧ -100000 ≤ E ∧ E ≤ 100000 ∧ k3 ≤ s.size ∧ Hid (expPart true us (s.data.toList.drop k) = some (E, u, s.data.toList.drop k3))) ∧ w = w')
        case rest =>
          obtain ⟨⟨k3, u, E, rfl, rfl, rfl, hE1, hE2, hk3, hX⟩, rfl⟩ := hcut
          go_step
          exact rfEnd s hs m k3 ng true tr u N (D + E) hk3 (by omega) (by omega) n1 n2 o (Lib.hid (by rw [HO.out, hX.out]; rfl)) w
        case first => as_aux_lemma =>
          clear n1 n2
          by_cases hkl : k < s.size
          · have hl : k < s.data.toList.length := by simpa using hkl
            have hr2 := drop_at s.data.toList k hl
            have hsk : ((s[k].toNat : Nat) : Int) = ((s.data.toList[k].toNat : Nat) : Int) := rfl
            obtain ⟨c, hc⟩ : ∃ c, c = s.data.toList[k].toNat := ⟨_, rfl⟩
            rw [← hc] at hsk
            have hlw : Go.bits .or .u8 (c : Int) 32 = lw c := rfl
            by_cases hX : lw c = 112
            · have HE := Lib.hid (show expPart true us (s.data.toList.drop k) = eat us (s.data.toList.drop (k + 1)) by rw [hr2]; exact expPart_hit_x (by rw [← hc]; exact hX))
              clear hr2 hc
              have f1 : (lw c == 112) = true := by simp [hX]
              have hwk : IntKind.i64.wrap ((k : Int) + 1) = (k : Int) + 1 := by rw [Go.IntKind.wrap_i64]; omega
              clear hX
              by_cases hk1 : k + 1 < s.size
              · have hk1i : (k : Int) + 1 < s.size := by omega
                have hk1n : ¬ (s.size : Int) ≤ (k : Int) + 1 := by omega
                go_upto_block 4 with (go_at_call 156; refine (Tryz.internal_strconv_lower _ _).mono ?_; rintro e w1 ⟨rfl, hw1⟩; obtain rfl := hw1.symm)
                go_cut [7, 19] (fun v7 v19 w' => (∃ (k2 : Nat) (sg : Int), v7 = .int .i64 k2 ∧ v19 = .int .i64 sg ∧ Hid (esign (s.data.toList.drop (k + 1)) = (sg, s.data.toList.drop k2)) ∧ k2 ≤ s.size ∧ (sg = 1 ∨ sg = -1)) ∧ w = w')
                case first => as_aux_lemma =>
                  have hl1 : k + 1 < s.data.toList.length := by simpa using hk1
                  have hes := drop_at s.data.toList (k + 1) hl1
                  have hsk1 : ((s[k + 1].toNat : Nat) : Int) = ((s.data.toList[k + 1].toNat : Nat) : Int) := rfl
                  obtain ⟨d, hd⟩ : ∃ d, d = s.data.toList[k + 1].toNat := ⟨_, rfl⟩
                  rw [← hd] at hsk1
                  by_cases h43 : d = 43
                  · have HS := Lib.hid (show esign (s.data.toList.drop (k + 1)) = (1, s.data.toList.drop (k + 1 + 1)) by rw [hes, esign, ← hd, if_pos h43])
                    have g1 : ((d : Int) == 43) = true := by simp [h43]
                    have hwk2 : IntKind.i64.wrap ((k : Int) + 1 + 1) = (k : Int) + 1 + 1 := by rw [Go.IntKind.wrap_i64]; omega
                    clear hes hd h43
                    go_wp2_with fail
                    go_meet
                    case rel => exact ⟨⟨k + 1 + 1, 1, by go_num, rfl, HS, by omega, Or.inl rfl⟩, rfl⟩
                  · have g1 : ((d : Int) == 43) = false := by simp; omega
                    by_cases h45 : d = 45
                    · have HS := Lib.hid (show esign (s.data.toList.drop (k + 1)) = (-1, s.data.toList.drop (k + 1 + 1)) by rw [hes, esign, ← hd, if_neg h43, if_pos h45])
                      have g2 : ((d : Int) == 45) = true := by simp [h45]
                      have hwk2 : IntKind.i64.wrap ((k : Int) + 1 + 1) = (k : Int) + 1 + 1 := by rw [Go.IntKind.wrap_i64]; omega
                      clear hes hd h43 h45
                      go_wp2_with fail
                      go_meet
                      case rel => exact ⟨⟨k + 1 + 1, -1, by go_num, rfl, HS, by omega, Or.inr rfl⟩, rfl⟩
                    · have HS := Lib.hid (show esign (s.data.toList.drop (k + 1)) = (1, s.data.toList.drop (k + 1)) by rw [hes, esign, ← hd, if_neg h43, if_neg h45])
                      have g2 : ((d : Int) == 45) = false := by simp; omega
                      clear hes hd h43 h45
                      go_wp2_with fail
                      go_meet
                      case rel => exact ⟨⟨k + 1, 1, by go_num, rfl, HS, by omega, Or.inl rfl⟩, rfl⟩
                case rest => as_aux_lemma =>
                  obtain ⟨⟨k2, sg, rfl, rfl, hes, hk2, hsg⟩, hww⟩ := hcut
                  subst hww
                  clear hlw f1 hwk hk1n
                  have hET : eat us (s.data.toList.drop (k + 1)) = if startsD (s.data.toList.drop k2) then some (sg * ((escan (s.data.toList.drop k2) 0 us).1 : Nat), (escan (s.data.toList.drop k2) 0 us).2.1, (escan (s.data.toList.drop k2) 0 us).2.2) else none := by unfold eat; rw [hes.out]
                  have HT := Lib.hid (HE.out.trans hET)
                  clear hET HE hes
                  by_cases hk2l : k2 < s.size
                  · have hl2 : k2 < s.data.toList.length := by simpa using hk2l
                    have hd2 := drop_at s.data.toList k2 hl2
                    have hsk2 : ((s[k2].toNat : Nat) : Int) = ((s.data.toList[k2].toNat : Nat) : Int) := rfl
                    have hk2i : (k2 : Int) < s.size := by omega
                    have hk2n : ¬ (s.size : Int) ≤ (k2 : Int) := by omega
                    obtain ⟨d, hd⟩ : ∃ d, d = s.data.toList[k2].toNat := ⟨_, rfl⟩
                    rw [← hd] at hsk2
                    have hsd : startsD (s.data.toList.drop k2) = (decide (48 ≤ d) && decide (d ≤ 57)) := by rw [hd2, startsD, ← hd]
                    clear hd2 hd
                    by_cases hdd : 48 ≤ d ∧ d ≤ 57
                    · rw [decide_eq_true hdd.1, decide_eq_true hdd.2] at hsd
                      have HE := Lib.hid (HT.out.trans (if_pos hsd))
                      have f3 : ¬ (d : Int) < 48 := by omega
                      have f4 : ¬ (57 : Int) < (d : Int) := by omega
                      have f3b : (48 : Int) ≤ (d : Int) := by omega
                      have f4b : (d : Int) ≤ 57 := by omega
                      clear HT hsd hdd
                      obtain ⟨eF, uF, r3, hF⟩ : ∃ eF uF r3, escan (s.data.toList.drop k2) 0 us = (eF, uF, r3) := ⟨_, _, _, rfl⟩
                      have HE2 := HE.out
                      rw [hF] at HE2
                      have HE3 := Lib.hid HE2
                      have Hesc := Lib.hid hF
                      clear hF HE HE2
                      go_upto_block 5 with (fail)
                      go_cut [7, 9, 20] (fun v7 v9 v20 w' => (∃ k3 : Nat, v7 = .int .i64 k3 ∧ Hid (s.data.toList.drop k3 = r3) ∧ k3 ≤ s.size) ∧ v9 = .bool uF ∧ v20 = .int .i64 eF ∧ eF ≤ 99999 ∧ w = w')
                      case first => as_aux_lemma =>
                        go_wp2_with fail
                        clear hk2l hl2 hsk2 hk2i hk2n f3 f4 f3b f4b
                        go_loopg [7, 9, 20] (s.size - k2) (fun gn v7 v9 v20 w' => ∃ (k3 e : Nat) (u : Bool), gn + k3 = s.size ∧ v7 = .int .i64 k3 ∧ v9 = .bool u ∧ v20 = .int .i64 e ∧ e ≤ 99999 ∧ k3 ≤ s.size ∧ Hid (escan (s.data.toList.drop k3) e u = (eF, uF, r3)) ∧ w = w')
                        case atStart => exact ⟨k2, 0, us, by omega, rfl, rfl, rfl, by omega, hk2, Hesc, rfl⟩
                        case round =>
                          obtain ⟨k3, e, u, hg, rfl, rfl, rfl, he, hk3, hsc, rfl⟩ := hrel
                          clear Hesc HE3 HO
                          by_cases hkl : k3 < s.size
                          · have hl : k3 < s.data.toList.length := by simpa using hkl
                            have hsk : ((s[k3].toNat : Nat) : Int) = ((s.data.toList[k3].toNat : Nat) : Int) := rfl
                            have h1 := @escan_us s.data.toList k3 e u hl
                            have h2 := @escan_digit s.data.toList k3 e u hl
                            have h3 := @escan_stop s.data.toList k3 e u hl
                            obtain ⟨c, hc⟩ : ∃ c, c = s.data.toList[k3].toNat := ⟨_, rfl⟩
                            rw [← hc] at hsk h1 h2 h3
                            clear hc
                            have hwk : IntKind.i64.wrap ((k3 : Int) + 1) = (k3 : Int) + 1 := by rw [Go.IntKind.wrap_i64]; omega
                            by_cases h95 : c = 95
                            · have f1 : ((c : Int) == 95) = true := by simp [h95]
                              have f2 : ¬ (c : Int) ≤ 57 := by omega
                              have f2b : (57 : Int) < c := by omega
                              have f2c : (48 : Int) ≤ c := by omega
                              have HS := Lib.hid ((h1 h95).symm.trans hsc.out)
                              clear h1 h2 h3 hsc h95
                              go_wp2_with fail
                              go_roundg (gk - 1)
                              case measure => omega
                              case rel => exact ⟨k3 + 1, e, true, by omega, by go_num, rfl, rfl, he, by omega, HS, rfl⟩
                            · have f1 : ((c : Int) == 95) = false := by simp; omega
                              by_cases hdd : 48 ≤ c ∧ c ≤ 57
                              · have f2 : (c : Int) ≤ 57 := by omega
                                have f2c : (48 : Int) ≤ c := by omega
                                have HS0 := (h2 h95 hdd).symm.trans hsc.out
                                clear h1 h2 h3 hsc h95 hdd
                                by_cases h10 : e < 10000
                                · rw [if_pos h10] at HS0
                                  have HS := Lib.hid HS0
                                  have f5 : (e : Int) < 10000 := by omega
                                  have hw1 : IntKind.i64.wrap ((e : Int) * 10) = (e : Int) * 10 := by rw [Go.IntKind.wrap_i64]; omega
                                  have hw2 : IntKind.i64.wrap ((e : Int) * 10 + c) = (e : Int) * 10 + c := by rw [Go.IntKind.wrap_i64]; omega
                                  have hw3 : IntKind.i64.wrap ((e : Int) * 10 + c - 48) = (e : Int) * 10 + c - 48 := by rw [Go.IntKind.wrap_i64]; omega
                                  have hw4 : IntKind.i64.wrap (c : Int) = c := by rw [Go.IntKind.wrap_i64]; omega
                                  clear HS0
                                  go_wp2_with fail
                                  go_roundg (gk - 1)
                                  case measure => omega
                                  case rel => exact ⟨k3 + 1, e * 10 + (c - 48), u, by omega, by go_num, rfl, congrArg (Value.int .i64) (by omega), by omega, by omega, HS, rfl⟩
                                · rw [if_neg h10] at HS0
                                  have HS := Lib.hid HS0
                                  have f5 : ¬ (e : Int) < 10000 := by omega
                                  clear HS0
                                  go_wp2_with fail
                                  go_roundg (gk - 1)
                                  case measure => omega
                                  case rel => exact ⟨k3 + 1, e, u, by omega, by go_num, rfl, rfl, he, by omega, HS, rfl⟩
                              · have HS := Lib.hid ((h3 h95 hdd).symm.trans hsc.out)
                                clear h1 h2 h3 hsc h95
                                by_cases h48 : 48 ≤ c
                                · have f2c : (48 : Int) ≤ c := by omega
                                  have f2 : ¬ (c : Int) ≤ 57 := by omega
                                  have f2b : (57 : Int) < c := by omega
                                  clear hdd h48
                                  go_wp2_with fail
                                  go_meet
                                  case rel =>
                                    have hh := HS.out
                                    simp only [Prod.mk.injEq] at hh
                                    obtain ⟨rfl, rfl, hh3⟩ := hh
                                    exact ⟨⟨k3, rfl, Lib.hid hh3, hk3⟩, rfl, rfl, he, rfl⟩
                                · have f2c : ¬ (48 : Int) ≤ c := by omega
                                  have f2b : (c : Int) < 48 := by omega
                                  clear hdd h48
                                  go_wp2_with fail
                                  go_meet
                                  case rel =>
                                    have hh := HS.out
                                    simp only [Prod.mk.injEq] at hh
                                    obtain ⟨rfl, rfl, hh3⟩ := hh
                                    exact ⟨⟨k3, rfl, Lib.hid hh3, hk3⟩, rfl, rfl, he, rfl⟩
                          · have HS := Lib.hid ((@escan_end s.data.toList k3 e u (by simp; omega)).symm.trans hsc.out)
                            have hkn : ¬ (k3 : Int) < s.size := by omega
                            have hkn2 : (s.size : Int) ≤ k3 := by omega
                            clear hsc
                            go_wp2_with fail
                            go_meet
                            case rel =>
                              have hh := HS.out
                              simp only [Prod.mk.injEq] at hh
                              obtain ⟨rfl, rfl, hh3⟩ := hh
                              exact ⟨⟨k3, rfl, Lib.hid hh3, hk3⟩, rfl, rfl, he, rfl⟩
                      case rest => as_aux_lemma =>
                        obtain ⟨⟨k3, rfl, hr3, hk3⟩, rfl, rfl, heF, hww⟩ := hcut
                        subst hww
                        obtain ⟨E, hE⟩ : ∃ E : Int, E = sg * eF := ⟨_, rfl⟩
                        have hE1 : -100000 ≤ E ∧ E ≤ 100000 := by rcases hsg with rfl | rfl <;> omega
                        have hE2 : (eF : Int) * sg = E := by rw [hE, Int.mul_comm]
                        have hw1 : IntKind.i64.wrap E = E := by rw [Go.IntKind.wrap_i64]; omega
                        have hw2 : IntKind.i64.wrap (D + E) = D + E := by rw [Go.IntKind.wrap_i64]; omega
                        have HX : Hid (expPart true us (s.data.toList.drop k) = some (E, uF, s.data.toList.drop k3)) := Lib.hid (by rw [HE3.out, hE, hr3.out])
                        clear HE3 hE hr3 Hesc hk2l hl2 hsk2 hk2i hk2n f3 f4 f3b f4b heF hsg hk2
                        go_wp2_with fail
                        go_meet
                        case rel => exact ⟨⟨k3, uF, E, rfl, rfl, rfl, hE1.1, hE1.2, hk3, HX⟩, rfl⟩
                    · have hsd2 : ¬ startsD (s.data.toList.drop k2) = true := by rw [hsd]; simp; omega
                      have HE := Lib.hid (HT.out.trans (if_neg hsd2))
                      clear HT hsd hsd2
                      by_cases h48 : 48 ≤ d
                      · have f3 : ¬ (d : Int) < 48 := by omega
                        have f3b : (48 : Int) ≤ d := by omega
                        have f4 : (57 : Int) < (d : Int) := by omega
                        clear hdd h48
                        have HN : Hid (o = none) := Lib.hid (by rw [HO.out, HE.out]; rfl)
                        clear HO HE
                        go_wp2_with fail
                        try rw [Exit.noGoto_ret]
                        refine bodyPost_ret (v := .tuple #[.int .u64 m, .int .i64 0, .bool ng, .bool tr, .bool true, .int .i64 k2, .bool false]) (by simp [results, Tryz.results142, go_sem]) rfl ⟨rfl, ?_⟩
                        rw [HN.out]
                        exact ⟨_, _, _, _, _, _, rfl⟩
                      · have f3 : (d : Int) < 48 := by omega
                        clear hdd h48
                        have HN : Hid (o = none) := Lib.hid (by rw [HO.out, HE.out]; rfl)
                        clear HO HE
                        go_wp2_with fail
                        try rw [Exit.noGoto_ret]
                        refine bodyPost_ret (v := .tuple #[.int .u64 m, .int .i64 0, .bool ng, .bool tr, .bool true, .int .i64 k2, .bool false]) (by simp [results, Tryz.results142, go_sem]) rfl ⟨rfl, ?_⟩
                        rw [HN.out]
                        exact ⟨_, _, _, _, _, _, rfl⟩
                  · have HE := Lib.hid (HT.out.trans (if_neg (by rw [List.drop_of_length_le (by simp; omega), startsD]; simp)))
                    have hk2n : (s.size : Int) ≤ (k2 : Int) := by omega
                    clear HT
                    have HN : Hid (o = none) := Lib.hid (by rw [HO.out, HE.out]; rfl)
                    clear HO HE
                    go_wp2_with fail
                    try rw [Exit.noGoto_ret]
                    refine bodyPost_ret (v := .tuple #[.int .u64 m, .int .i64 0, .bool ng, .bool tr, .bool true, .int .i64 k2, .bool false]) (by simp [results, Tryz.results142, go_sem]) rfl ⟨rfl, ?_⟩
                    rw [HN.out]
                    exact ⟨_, _, _, _, _, _, rfl⟩
              · have hk1i : (s.size : Int) ≤ (k : Int) + 1 := by omega
                have hdr : s.data.toList.drop (k + 1) = [] := List.drop_of_length_le (by simp; omega)
                have HN : Hid (o = none) := Lib.hid (by rw [HO.out, HE.out, hdr]; rfl)
                clear HO HE hdr
                go_wp2_with (go_at_call 156; refine (Tryz.internal_strconv_lower _ _).mono ?_; rintro e w1 ⟨rfl, hw1⟩; obtain rfl := hw1.symm)
                try rw [Exit.noGoto_ret]
                refine bodyPost_ret (v := .tuple #[.int .u64 m, .int .i64 0, .bool ng, .bool tr, .bool true, .int .i64 (k + 1), .bool false]) (by simp [results, Tryz.results142, go_sem]) rfl ⟨rfl, ?_⟩
                rw [HN.out]
                exact ⟨_, _, _, _, _, _, rfl⟩
            · have f1 : (lw c == 112) = false := by simp [hX]
              have HE : Hid (expPart true us (s.data.toList.drop k) = none) := Lib.hid (by rw [hr2]; exact expPart_miss_x (by rw [← hc]; exact hX))
              have HN : Hid (o = none) := Lib.hid (by rw [HO.out, HE.out]; rfl)
              clear hr2 hc hX HE HO
              go_wp2_with (go_at_call 156; refine (Tryz.internal_strconv_lower _ _).mono ?_; rintro e w1 ⟨rfl, hw1⟩; obtain rfl := hw1.symm)
              try rw [Exit.noGoto_ret]
              refine bodyPost_ret (v := .tuple #[.int .u64 m, .int .i64 0, .bool ng, .bool tr, .bool true, .int .i64 k, .bool false]) (by simp [results, Tryz.results142, go_sem]) rfl ⟨rfl, ?_⟩
              rw [HN.out]
              exact ⟨_, _, _, _, _, _, rfl⟩
          · have hkn : ¬ (k : Int) < s.size := by omega
            have hkn2 : (s.size : Int) ≤ k := by omega
            have hr2 : s.data.toList.drop k = [] := List.drop_of_length_le (by simp; omega)
            have HE : Hid (expPart true us (s.data.toList.drop k) = none) := Lib.hid (by rw [hr2]; rfl)
            clear hr2
            have HN : Hid (o = none) := Lib.hid (by rw [HO.out, HE.out]; rfl)
            clear HO HE
            go_wp2_with fail
            try rw [Exit.noGoto_ret]
            refine bodyPost_ret (v := .tuple #[.int .u64 m, .int .i64 0, .bool ng, .bool tr, .bool true, .int .i64 k, .bool false]) (by simp [results, Tryz.results142, go_sem]) rfl ⟨rfl, ?_⟩
            rw [HN.out]
            exact ⟨_, _, _, _, _, _, rfl⟩
set_option maxRecDepth 100000 in
theorem rfTail_x' (s : ByteArray) (hs : s.size ≤ 1000) (k : Nat) (hk : k ≤ s.size) (rF : List UInt8) (hr : s.data.toList.drop k = rF) (ng us dot sd : Bool) (nd nm : Nat) (dp : Int) (m : Nat) (tr : Bool) (hO : Ok true ⟨us, dot, sd, nd, nm, dp, m, tr⟩ k) (w : World) {u1 u18 u19 u20 u21 u22 u23 u24 u25 u26 u27 u28 u29 u30 u31 u32 u33 u34 u35 u36 u37 u38 u39 u40 u41 u42 u43 u44 u45 u46 u47 u48 u49 u50 u51 u52 u53 u54 u55 u56 u57 u58 u59 u60 u61 u62 u63 u64 u65 u66 u67 u68 u69 u70 u71 u72 u73 u74 u75 u76 u77 u78 u79 u80 u81 u82 u83 u84 u85 u86 u87 u88 u89 u90 u91 u92 u93 u94 u95 u96 u97 u98 u99 u100 u101 u102 u103 u104 u105 u106 u107 u108 u109 u110 u111 u112 u113 u114 u115 u116 u117 u118 u119 u120 u121 u122 u123 u124 u125 u126 u127 u128 u129 u130 u131 u132 u133 u134 u135 u136 u137 u138 u139 u140 u141 u142 u143 u144 u145 u146 u147 u148 u149 u150 u151 u152 u153 u154 u155 u156 u157 u158 u159 u160 u161 u162 u163 u164 u165 u166 u167 u168 u169 u170 u171 u172 u173 u174 u175 u176 u177 u178 u179 u180 u181 u182 u183 u184 u185 u186 u187 u188 u189 u190 u191 u192 u193 u194 u195 u196 u197 u198 u199 u200 u201 u202 u203 u204 u205 u206 u207 u208 u209 u210 u211 u212 u213 u214 u215 u216 u217 u218 u219 u220 u221 u222 u223 u224 u225 u226 u227 u228 u229 u230 u231 u232 u233 u234 u235 u236 u237 u238 u239 u240 u241 u242 u243 u244 u245 u246 u247 u248 u249 u250 u251 u252 : Value} :
    rfCode51.wp Tryz.prog (Exit.noGoto (bodyPost Tryz.prog Tryz.f142 (RfPost ng true s (fin true ⟨us, dot, sd, nd, nm, dp, m, tr⟩ rF) w))) ⟨#[Value.string s, u1, Value.int .u64 m, Value.int .i64 0, Value.bool ng, Value.bool tr, Value.bool true, Value.int .i64 (k : Int), Value.bool false, Value.bool us, Value.int .u64 16, Value.int .i64 16, Value.int .u8 112, Value.bool dot, Value.bool sd, Value.int .i64 (nd : Int), Value.int .i64 (nm : Int), Value.int .i64 dp, u18, u19, u20, u21, u22, u23, u24, u25, u26, u27, u28, u29, u30, u31, u32, u33, u34, u35, u36, u37, u38, u39, u40, u41, u42, u43, u44, u45, u46, u47, u48, u49, u50, u51, u52, u53, u54, u55, u56, u57, u58, u59, u60, u61, u62, u63, u64, u65, u66, u67, u68, u69, u70, u71, u72, u73, u74, u75, u76, u77, u78, u79, u80, u81, u82, u83, u84, u85, u86, u87, u88, u89, u90, u91, u92, u93, u94, u95, u96, u97, u98, u99, u100, u101, u102, u103, u104, u105, u106, u107, u108, u109, u110, u111, u112, u113, u114, u115, u116, u117, u118, u119, u120, u121, u122, u123, u124, u125, u126, u127, u128, u129, u130, u131, u132, u133, u134, u135, u136, u137, u138, u139, u140, u141, u142, u143, u144, u145, u146, u147, u148, u149, u150, u151, u152, u153, u154, u155, u156, u157, u158, u159, u160, u161, u162, u163, u164, u165, u166, u167, u168, u169, u170, u171, u172, u173, u174, u175, u176, u177, u178, u179, u180, u181, u182, u183, u184, u185, u186, u187, u188, u189, u190, u191, u192, u193, u194, u195, u196, u197, u198, u199, u200, u201, u202, u203, u204, u205, u206, u207, u208, u209, u210, u211, u212, u213, u214, u215, u216, u217, u218, u219, u220, u221, u222, u223, u224, u225, u226, u227, u228, u229, u230, u231, u232, u233, u234, u235, u236, u237, u238, u239, u240, u241, u242, u243, u244, u245, u246, u247, u248, u249, u250, u251, u252], []⟩ w := by
  subst hr
  exact rfTail_x s hs k hk ng us dot sd nd nm dp m tr hO w
end Go.Proofs.YtjpiplplohapnaaGreatDoor
/- Walks of ParseFloat (2): readFloat. Printed by wip/tools/genrf2.py. -/
namespace Go.Proofs.YtjpiplplohapnaaGreatDoor
open Go.RowKit Go.Proofs.YtjpiplplohapnaaGreatDoorW.PrintWords Rf
set_option maxRecDepth 100000 in
set_option maxHeartbeats 8000000 in
theorem readFloat_px (s : ByteArray) (hs : s.size ≤ 1000) (h0 : 2 < s.size) (h48 : s[0].toNat = 48) (h120 : s[1].toNat = 120) (w : World) : Calls Tryz.prog 142 #[.string s] w (RfPost false true s (fin true (scan true (s.data.toList.drop 2) st0).1 (scan true (s.data.toList.drop 2) st0).2) w) := by
  obtain ⟨sF, rF, hsc⟩ : ∃ sF rF, scan true (s.data.toList.drop 2) st0 = (sF, rF) := ⟨_, _, rfl⟩
  rw [hsc]
  dsimp only
  have hne : ¬ s = ByteArray.empty := by rintro rfl; simp at h0
  have hz0 : 0 < s.size := by omega
  have e0 : (s[0].toNat : Int) = 48 := by rw [h48]; rfl
  have hh : (0 : Int) + 2 < s.size := by omega
  have hh2 : (2 : Int) < s.size := by omega
  have hi1 : 1 < s.size := by omega
  have hi0 : 0 < s.size := by omega
  have e2 : (s[1].toNat : Int) = 120 := by rw [h120]; rfl
  have e3 : Go.bits .or .u8 120 32 = 120 := by decide +kernel
  have hI0 : 2 ≤ s.size := by omega
  clear h0 h48 h120
  go_enter Tryz.func142, Tryz.ntmps142
  go_wp2_with fail
  go_step3
  go_upto_region 12 with (fail)
  go_cut [54] (fun v54 w' => v54 = .bool true ∧ w = w')
  case first =>
    go_wp2_with (go_at_call 156; refine (Tryz.internal_strconv_lower _ _).mono ?_; rintro e w1 ⟨rfl, hw1⟩; obtain rfl := hw1.symm)
    go_meet
    case rel => exact ⟨rfl, rfl⟩
  case rest =>
    obtain ⟨rfl, rfl⟩ := hcut
    clear e0 e2 e3 hh hh2 hi1
    go_wp2_with fail
    go_step3
    go_upto_block 1 with (fail)
    have HI := Lib.hid (ok0 true 2)
    go_cut [2, 5, 7, 9, 13, 14, 15, 16, 17] (fun v2 v5 v7 v9 v13 v14 v15 v16 v17 w' => v2 = .int .u64 sF.m ∧ v5 = .bool sF.tr ∧ (∃ k : Nat, v7 = .int .i64 k ∧ Hid (s.data.toList.drop k = rF) ∧ k ≤ s.size ∧ Hid (Ok true sF k)) ∧ v9 = .bool sF.us ∧ v13 = .bool sF.dot ∧ v14 = .bool sF.sd ∧ v15 = .int .i64 sF.nd ∧ v16 = .int .i64 sF.nm ∧ v17 = .int .i64 sF.dp ∧ w = w')
    case first =>
      go_wp2_with fail
      have Hsc := Lib.hid hsc
      clear hsc
      go_loopg [2, 5, 7, 9, 13, 14, 15, 16, 17] (s.size - 2) (fun gn v2 v5 v7 v9 v13 v14 v15 v16 v17 w' => ∃ (k : Nat) (t : St), gn + k = s.size ∧ v2 = .int .u64 t.m ∧ v5 = .bool t.tr ∧ v7 = .int .i64 k ∧ Hid (scan true (s.data.toList.drop k) t = (sF, rF)) ∧ k ≤ s.size ∧ Hid (Ok true t k) ∧ v9 = .bool t.us ∧ v13 = .bool t.dot ∧ v14 = .bool t.sd ∧ v15 = .int .i64 t.nd ∧ v16 = .int .i64 t.nm ∧ v17 = .int .i64 t.dp ∧ w = w')
      case atStart => exact ⟨2, st0, by omega, rfl, rfl, rfl, Hsc, by omega, HI, rfl, rfl, rfl, rfl, rfl, rfl, rfl⟩
      case round =>
        obtain ⟨k, t, hg, rfl, rfl, rfl, hsc, hk, hok, rfl, rfl, rfl, rfl, rfl, rfl, rfl⟩ := hrel
        obtain ⟨us, dot, sd, nd, nm, dp, m, tr⟩ := t
        have hok := hok.out
        clear Hsc HI
        by_cases hkl : k < s.size
        · have hl : k < s.data.toList.length := by simpa using hkl
          have hsk : ((s[k].toNat : Nat) : Int) = ((s.data.toList[k].toNat : Nat) : Int) := rfl
          have hss := fun t' => @scan_some true s.data.toList k ⟨us, dot, sd, nd, nm, dp, m, tr⟩ t' hl
          have hsn := @scan_none true s.data.toList k ⟨us, dot, sd, nd, nm, dp, m, tr⟩ hl
          have hc256 : s.data.toList[k].toNat < 256 := UInt8.toNat_lt _
          obtain ⟨c, hc⟩ : ∃ c, c = s.data.toList[k].toNat := ⟨_, rfl⟩
          rw [← hc] at hsk hss hsn hc256
          clear hc
          have hlw : Go.bits .or .u8 (c : Int) 32 = lw c := rfl
          have hlb := lw_range c
          have hld := lw_digit c
          by_cases h95 : c = 95
          · have f1 : ((c : Int) == 95) = true := by simp [h95]
            clear hlw hlb hld
            have HS := Lib.hid ((hss _ (by unfold stp; rw [if_pos h95])).symm.trans hsc.out)
            have HO : Hid (Ok true ⟨true, dot, sd, nd, nm, dp, m, tr⟩ (k + 1)) := Lib.hid ⟨by have := hok.nd; dsimp only at *; omega, hok.nm, hok.m, by have := hok.dp1; dsimp only at *; omega, by have := hok.dp2; dsimp only at *; omega⟩
            clear hss hsn hsc hok
            go_wp2_with (go_at_call 156; refine (Tryz.internal_strconv_lower _ _).mono ?_; rintro e w1 ⟨rfl, hw1⟩; obtain rfl := hw1.symm)
            go_roundg (gk - 1)
            case measure => omega
            case rel => exact ⟨k + 1, ⟨true, dot, sd, nd, nm, dp, m, tr⟩, by omega, rfl, rfl, by go_num, HS, by omega, HO, rfl, rfl, rfl, rfl, rfl, rfl, rfl⟩
          · have f1 : ((c : Int) == 95) = false := by simp; omega
            by_cases h46 : c = 46
            · have f2 : ((c : Int) == 46) = true := by simp [h46]
              clear hlw hlb hld
              cases dot
              ·
                have HS := Lib.hid ((hss _ (by unfold stp; rw [if_neg h95, if_pos h46]; rfl)).symm.trans hsc.out)
                have HO : Hid (Ok true ⟨us, true, sd, nd, nm, nd, m, tr⟩ (k + 1)) := Lib.hid ⟨by have := hok.nd; dsimp only at *; omega, hok.nm, hok.m, by have := hok.nd; dsimp only at *; omega, by have := hok.nd; dsimp only at *; omega⟩
                clear hss hsn hsc hok
                go_wp2_with (go_at_call 156; refine (Tryz.internal_strconv_lower _ _).mono ?_; rintro e w1 ⟨rfl, hw1⟩; obtain rfl := hw1.symm)
                go_roundg (gk - 1)
                case measure => omega
                case rel => exact ⟨k + 1, ⟨us, true, sd, nd, nm, nd, m, tr⟩, by omega, rfl, rfl, by go_num, HS, by omega, HO, rfl, rfl, rfl, rfl, rfl, rfl, rfl⟩
              ·
                have HS := Lib.hid ((hsn (by unfold stp; rw [if_neg h95, if_pos h46]; rfl)).symm.trans hsc.out)
                have HO := Lib.hid hok
                clear hss hsn hsc hok
                go_wp2_with (go_at_call 156; refine (Tryz.internal_strconv_lower _ _).mono ?_; rintro e w1 ⟨rfl, hw1⟩; obtain rfl := hw1.symm)
                go_meet
                case rel =>
                  obtain ⟨rfl, rfl⟩ := Prod.mk.inj HS.out
                  exact ⟨rfl, rfl, ⟨k, rfl, Lib.hid rfl, by omega, HO⟩, rfl, rfl, rfl, rfl, rfl, rfl, rfl⟩
            · have f2 : ((c : Int) == 46) = false := by simp; omega
              by_cases hd : 48 ≤ c ∧ c ≤ 57
              · have f3 : (48 : Int) ≤ c := by omega
                have f4 : (c : Int) ≤ 57 := by omega
                clear hlw hlb hld
                by_cases hz : c = 48 ∧ nd = 0
                · have f5 : ((c : Int) == 48) = true := by simp [hz.1]
                  have f6 : ((nd : Int) == 0) = true := by simp [hz.2]
                  have hw : IntKind.i64.wrap (dp - 1) = dp - 1 := by
                    have := hok.dp1
                    have := hok.dp2
                    dsimp only at *
                    rw [Go.IntKind.wrap_i64]; omega
                  have HS := Lib.hid ((hss _ (by unfold stp; rw [if_neg h95, if_neg h46, if_pos hd, if_pos hz])).symm.trans hsc.out)
                  have HO : Hid (Ok true ⟨us, dot, true, nd, nm, dp - 1, m, tr⟩ (k + 1)) := Lib.hid ⟨by have := hok.nd; dsimp only at *; omega, hok.nm, hok.m, by have := hok.dp1; dsimp only at *; omega, by have := hok.dp2; dsimp only at *; omega⟩
                  clear hss hsn hsc hok hz hd
                  go_wp2_with (go_at_call 156; refine (Tryz.internal_strconv_lower _ _).mono ?_; rintro e w1 ⟨rfl, hw1⟩; obtain rfl := hw1.symm)
                  go_roundg (gk - 1)
                  case measure => omega
                  case rel => exact ⟨k + 1, ⟨us, dot, true, nd, nm, dp - 1, m, tr⟩, by omega, rfl, rfl, by go_num, HS, by omega, HO, rfl, rfl, rfl, rfl, rfl, rfl, rfl⟩
                · have hnd : nd < 1000000 := by have := hok.nd; dsimp only at *; omega
                  have hnm : nm ≤ 16 := hok.nm
                  have hw15 : IntKind.i64.wrap ((nd : Int) + 1) = (nd : Int) + 1 := by rw [Go.IntKind.wrap_i64]; omega
                  have hw16 : IntKind.i64.wrap ((nm : Int) + 1) = (nm : Int) + 1 := by rw [Go.IntKind.wrap_i64]; omega
                  by_cases hm : nm < 16
                  · have f7 : (nm : Int) < 16 := by omega
                    have hroom := hok.room (d := c - 48) hm (by show c - 48 < 16; omega)
                    have hmb : m * 16 + (c - 48) < 18446744073709551616 := Nat.lt_of_lt_of_le hroom.1 hroom.2
                    have hw2 : IntKind.u64.wrap ((m : Int) * 16) = (m : Int) * 16 := by rw [Go.IntKind.wrap_u64]; omega
                    have hw3 : IntKind.u64.wrap ((m : Int) * 16 + ((c : Int) - 48)) = (m : Int) * 16 + ((c : Int) - 48) := by rw [Go.IntKind.wrap_u64]; omega
                    have hw4 : IntKind.u8.wrap ((c : Int) - 48) = (c : Int) - 48 := by rw [Go.IntKind.wrap_u8]; omega
                    have hw5 : IntKind.u64.wrap ((c : Int) - 48) = (c : Int) - 48 := by rw [Go.IntKind.wrap_u64]; omega
                    have hw6 : ((c : Int) - 48) % 256 = (c : Int) - 48 := by omega
                    have HS := Lib.hid ((hss _ (by unfold stp; rw [if_neg h95, if_neg h46, if_pos hd, if_neg hz, if_pos (show nm < mxd true from hm)])).symm.trans hsc.out)
                    have HO : Hid (Ok true ⟨us, dot, true, nd + 1, nm + 1, dp, m * 16 + (c - 48), tr⟩ (k + 1)) := Lib.hid ⟨by have := hok.nd; dsimp only at *; omega, hm, hroom.1, by have := hok.dp1; dsimp only at *; omega, by have := hok.dp2; dsimp only at *; omega⟩
                    clear hss hsn hsc hok hroom
                    by_cases h48 : c = 48
                    · have f5 : ((c : Int) == 48) = true := by simp [h48]
                      have f6 : ((nd : Int) == 0) = false := by simp; omega
                      clear hz hd h48
                      go_wp2_with (go_at_call 156; refine (Tryz.internal_strconv_lower _ _).mono ?_; rintro e w1 ⟨rfl, hw1⟩; obtain rfl := hw1.symm)
                      go_roundg (gk - 1)
                      case measure => omega
                      case rel => exact ⟨k + 1, ⟨us, dot, true, nd + 1, nm + 1, dp, m * 16 + (c - 48), tr⟩, by omega, congrArg (Value.int .u64) (by dsimp only; omega), rfl, by go_num, HS, by omega, HO, rfl, rfl, rfl, by go_num, by go_num, rfl, rfl⟩
                    · have f5 : ((c : Int) == 48) = false := by simp; omega
                      clear hz hd h48
                      go_wp2_with (go_at_call 156; refine (Tryz.internal_strconv_lower _ _).mono ?_; rintro e w1 ⟨rfl, hw1⟩; obtain rfl := hw1.symm)
                      go_roundg (gk - 1)
                      case measure => omega
                      case rel => exact ⟨k + 1, ⟨us, dot, true, nd + 1, nm + 1, dp, m * 16 + (c - 48), tr⟩, by omega, congrArg (Value.int .u64) (by dsimp only; omega), rfl, by go_num, HS, by omega, HO, rfl, rfl, rfl, by go_num, by go_num, rfl, rfl⟩
                  · have f7 : ¬ (nm : Int) < 16 := by omega
                    have HS := Lib.hid ((hss _ (by unfold stp; rw [if_neg h95, if_neg h46, if_pos hd, if_neg hz, if_neg (show ¬ nm < mxd true from hm)])).symm.trans hsc.out)
                    have HO : Hid (Ok true ⟨us, dot, true, nd + 1, nm, dp, m, tr || decide (c ≠ 48)⟩ (k + 1)) := Lib.hid ⟨by have := hok.nd; dsimp only at *; omega, hok.nm, hok.m, by have := hok.dp1; dsimp only at *; omega, by have := hok.dp2; dsimp only at *; omega⟩
                    clear hss hsn hsc hok
                    by_cases h48 : c = 48
                    · have f5 : ((c : Int) == 48) = true := by simp [h48]
                      have f8 : ((c : Int) != 48) = false := by simp [h48]
                      have f6 : ((nd : Int) == 0) = false := by simp; omega
                      have ht : (tr || decide (c ≠ 48)) = tr := by simp [h48]
                      rw [ht] at HS HO
                      clear hz hd h48 ht
                      go_wp2_with (go_at_call 156; refine (Tryz.internal_strconv_lower _ _).mono ?_; rintro e w1 ⟨rfl, hw1⟩; obtain rfl := hw1.symm)
                      go_roundg (gk - 1)
                      case measure => omega
                      case rel => exact ⟨k + 1, ⟨us, dot, true, nd + 1, nm, dp, m, tr⟩, by omega, rfl, rfl, by go_num, HS, by omega, HO, rfl, rfl, rfl, by go_num, rfl, rfl, rfl⟩
                    · have f5 : ((c : Int) == 48) = false := by simp; omega
                      have f8 : ((c : Int) != 48) = true := by simp; omega
                      have ht : (tr || decide (c ≠ 48)) = true := by simp [h48]
                      rw [ht] at HS HO
                      clear hz hd h48 ht
                      go_wp2_with (go_at_call 156; refine (Tryz.internal_strconv_lower _ _).mono ?_; rintro e w1 ⟨rfl, hw1⟩; obtain rfl := hw1.symm)
                      go_roundg (gk - 1)
                      case measure => omega
                      case rel => exact ⟨k + 1, ⟨us, dot, true, nd + 1, nm, dp, m, true⟩, by omega, rfl, rfl, by go_num, HS, by omega, HO, rfl, rfl, rfl, by go_num, rfl, rfl, rfl⟩
              ·
                by_cases hlt : 97 ≤ lw c ∧ lw c ≤ 102
                · have f9 : (97 : Int) ≤ lw c := hlt.1
                  have f10 : lw c ≤ 102 := hlt.2
                  have hnd : nd < 1000000 := by have := hok.nd; dsimp only at *; omega
                  have hnm : nm ≤ 16 := hok.nm
                  have hw15 : IntKind.i64.wrap ((nd : Int) + 1) = (nd : Int) + 1 := by rw [Go.IntKind.wrap_i64]; omega
                  have hw16 : IntKind.i64.wrap ((nm : Int) + 1) = (nm : Int) + 1 := by rw [Go.IntKind.wrap_i64]; omega
                  obtain ⟨x, hx⟩ : ∃ x : Nat, x = (lw c - 87).toNat := ⟨_, rfl⟩
                  have hx2 : (x : Int) = lw c - 87 := by omega
                  by_cases hm : nm < 16
                  · have f7 : (nm : Int) < 16 := by omega
                    have hroom := hok.room (d := x) hm (by show x < 16; omega)
                    have hmb : m * 16 + x < 18446744073709551616 := Nat.lt_of_lt_of_le hroom.1 hroom.2
                    have hw2 : IntKind.u64.wrap ((m : Int) * 16) = (m : Int) * 16 := by rw [Go.IntKind.wrap_u64]; omega
                    have hw3 : IntKind.u64.wrap ((m : Int) * 16 + (lw c - 87)) = (m : Int) * 16 + (lw c - 87) := by rw [Go.IntKind.wrap_u64]; omega
                    have hw4 : (lw c - 97) % 256 = lw c - 97 := by omega
                    have hw5 : (lw c - 97 + 10) % 256 = lw c - 87 := by omega
                    have hw7 : lw c - 97 + 10 = lw c - 87 := by omega
                    have hw8 : IntKind.u8.wrap (lw c - 97) = lw c - 97 := by rw [Go.IntKind.wrap_u8]; omega
                    have hw9 : IntKind.u8.wrap (lw c - 97 + 10) = lw c - 87 := by rw [Go.IntKind.wrap_u8]; omega
                    have hw6 : IntKind.u64.wrap (lw c - 87) = lw c - 87 := by rw [Go.IntKind.wrap_u64]; omega
                    have HS := Lib.hid ((hss _ (by unfold stp; rw [if_neg h95, if_neg h46, if_neg hd, if_pos ⟨rfl, hlt⟩, if_pos (show nm < mxd true from hm), ← hx])).symm.trans hsc.out)
                    have HO : Hid (Ok true ⟨us, dot, true, nd + 1, nm + 1, dp, m * 16 + x, tr⟩ (k + 1)) := Lib.hid ⟨by have := hok.nd; dsimp only at *; omega, hm, hroom.1, by have := hok.dp1; dsimp only at *; omega, by have := hok.dp2; dsimp only at *; omega⟩
                    have hx3 := Lib.hid hx2
                    clear hss hsn hsc hok hroom hx hx2 hlt
                    by_cases h3 : 48 ≤ c
                    · have f3 : (48 : Int) ≤ c := by omega
                      have f4 : ¬ (c : Int) ≤ 57 := by omega
                      have f4b : (57 : Int) < c := by omega
                      clear hd
                      go_wp2_with (go_at_call 156; refine (Tryz.internal_strconv_lower _ _).mono ?_; rintro e w1 ⟨rfl, hw1⟩; obtain rfl := hw1.symm)
                      go_roundg (gk - 1)
                      case measure => omega
                      case rel => exact ⟨k + 1, ⟨us, dot, true, nd + 1, nm + 1, dp, m * 16 + x, tr⟩, by omega, congrArg (Value.int .u64) (by have := hx3.out; dsimp only; omega), rfl, by go_num, HS, by omega, HO, rfl, rfl, rfl, by go_num, by go_num, rfl, rfl⟩
                    · have f3 : ¬ (48 : Int) ≤ c := by omega
                      have f3b : (c : Int) < 48 := by omega
                      clear hd
                      go_wp2_with (go_at_call 156; refine (Tryz.internal_strconv_lower _ _).mono ?_; rintro e w1 ⟨rfl, hw1⟩; obtain rfl := hw1.symm)
                      go_roundg (gk - 1)
                      case measure => omega
                      case rel => exact ⟨k + 1, ⟨us, dot, true, nd + 1, nm + 1, dp, m * 16 + x, tr⟩, by omega, congrArg (Value.int .u64) (by have := hx3.out; dsimp only; omega), rfl, by go_num, HS, by omega, HO, rfl, rfl, rfl, by go_num, by go_num, rfl, rfl⟩
                  · have f7 : ¬ (nm : Int) < 16 := by omega
                    have HS := Lib.hid ((hss _ (by unfold stp; rw [if_neg h95, if_neg h46, if_neg hd, if_pos ⟨rfl, hlt⟩, if_neg (show ¬ nm < mxd true from hm)])).symm.trans hsc.out)
                    have HO : Hid (Ok true ⟨us, dot, true, nd + 1, nm, dp, m, true⟩ (k + 1)) := Lib.hid ⟨by have := hok.nd; dsimp only at *; omega, hok.nm, hok.m, by have := hok.dp1; dsimp only at *; omega, by have := hok.dp2; dsimp only at *; omega⟩
                    clear hss hsn hsc hok hx hx2 hlt
                    by_cases h3 : 48 ≤ c
                    · have f3 : (48 : Int) ≤ c := by omega
                      have f4 : ¬ (c : Int) ≤ 57 := by omega
                      have f4b : (57 : Int) < c := by omega
                      clear hd
                      go_wp2_with (go_at_call 156; refine (Tryz.internal_strconv_lower _ _).mono ?_; rintro e w1 ⟨rfl, hw1⟩; obtain rfl := hw1.symm)
                      go_roundg (gk - 1)
                      case measure => omega
                      case rel => exact ⟨k + 1, ⟨us, dot, true, nd + 1, nm, dp, m, true⟩, by omega, rfl, rfl, by go_num, HS, by omega, HO, rfl, rfl, rfl, by go_num, rfl, rfl, rfl⟩
                    · have f3 : ¬ (48 : Int) ≤ c := by omega
                      have f3b : (c : Int) < 48 := by omega
                      clear hd
                      go_wp2_with (go_at_call 156; refine (Tryz.internal_strconv_lower _ _).mono ?_; rintro e w1 ⟨rfl, hw1⟩; obtain rfl := hw1.symm)
                      go_roundg (gk - 1)
                      case measure => omega
                      case rel => exact ⟨k + 1, ⟨us, dot, true, nd + 1, nm, dp, m, true⟩, by omega, rfl, rfl, by go_num, HS, by omega, HO, rfl, rfl, rfl, by go_num, rfl, rfl, rfl⟩
                · have hS := hsn (by unfold stp; rw [if_neg h95, if_neg h46, if_neg hd, if_neg (fun h => hlt h.2)])
                  have HS := Lib.hid (hS.symm.trans hsc.out)
                  have HO := Lib.hid hok
                  clear hss hsn hsc hok hS
                  by_cases h3 : 48 ≤ c
                  · have f3 : (48 : Int) ≤ c := by omega
                    have f4 : ¬ (c : Int) ≤ 57 := by omega
                    have f4b : (57 : Int) < c := by omega
                    clear hd
                    by_cases h9 : 97 ≤ lw c
                    · have f10 : ¬ lw c ≤ 102 := by omega
                      have f10b : 102 < lw c := by omega
                      clear hlt
                      go_wp2_with (go_at_call 156; refine (Tryz.internal_strconv_lower _ _).mono ?_; rintro e w1 ⟨rfl, hw1⟩; obtain rfl := hw1.symm)
                      go_meet
                      case rel =>
                        obtain ⟨rfl, rfl⟩ := Prod.mk.inj HS.out
                        exact ⟨rfl, rfl, ⟨k, rfl, Lib.hid rfl, by omega, HO⟩, rfl, rfl, rfl, rfl, rfl, rfl, rfl⟩
                    · have f9 : ¬ 97 ≤ lw c := by omega
                      have f9b : lw c < 97 := by omega
                      clear hlt
                      go_wp2_with (go_at_call 156; refine (Tryz.internal_strconv_lower _ _).mono ?_; rintro e w1 ⟨rfl, hw1⟩; obtain rfl := hw1.symm)
                      go_meet
                      case rel =>
                        obtain ⟨rfl, rfl⟩ := Prod.mk.inj HS.out
                        exact ⟨rfl, rfl, ⟨k, rfl, Lib.hid rfl, by omega, HO⟩, rfl, rfl, rfl, rfl, rfl, rfl, rfl⟩
                  · have f3 : ¬ (48 : Int) ≤ c := by omega
                    have f3b : (c : Int) < 48 := by omega
                    clear hd
                    by_cases h9 : 97 ≤ lw c
                    · have f10 : ¬ lw c ≤ 102 := by omega
                      have f10b : 102 < lw c := by omega
                      clear hlt
                      go_wp2_with (go_at_call 156; refine (Tryz.internal_strconv_lower _ _).mono ?_; rintro e w1 ⟨rfl, hw1⟩; obtain rfl := hw1.symm)
                      go_meet
                      case rel =>
                        obtain ⟨rfl, rfl⟩ := Prod.mk.inj HS.out
                        exact ⟨rfl, rfl, ⟨k, rfl, Lib.hid rfl, by omega, HO⟩, rfl, rfl, rfl, rfl, rfl, rfl, rfl⟩
                    · have f9 : ¬ 97 ≤ lw c := by omega
                      have f9b : lw c < 97 := by omega
                      clear hlt
                      go_wp2_with (go_at_call 156; refine (Tryz.internal_strconv_lower _ _).mono ?_; rintro e w1 ⟨rfl, hw1⟩; obtain rfl := hw1.symm)
                      go_meet
                      case rel =>
                        obtain ⟨rfl, rfl⟩ := Prod.mk.inj HS.out
                        exact ⟨rfl, rfl, ⟨k, rfl, Lib.hid rfl, by omega, HO⟩, rfl, rfl, rfl, rfl, rfl, rfl, rfl⟩
        · have hS := @scan_end true s.data.toList k ⟨us, dot, sd, nd, nm, dp, m, tr⟩ (by simp; omega)
          have HS := Lib.hid (hS.symm.trans hsc.out)
          have HO := Lib.hid hok
          have hkk : k = s.size := by omega
          clear hS hsc hok
          subst hkk
          go_wp2_with fail
          go_meet
          case rel =>
            obtain ⟨rfl, rfl⟩ := Prod.mk.inj HS.out
            exact ⟨rfl, rfl, ⟨s.size, rfl, Lib.hid rfl, by omega, HO⟩, rfl, rfl, rfl, rfl, rfl, rfl, rfl⟩
    case rest =>
      obtain ⟨rfl, rfl, ⟨k, rfl, hrF, hk, hO⟩, rfl, rfl, rfl, rfl, rfl, rfl, hww⟩ := hcut
      subst hww
      clear hsc HI
      obtain ⟨us, dot, sd, nd, nm, dp, m, tr⟩ := sF
      go_step
      exact rfTail_x' s hs k hk rF hrF.out false us dot sd nd nm dp m tr hO.out w
end Go.Proofs.YtjpiplplohapnaaGreatDoor
