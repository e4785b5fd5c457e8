/- Part 16 of the proof: Pt, Tp, Fe, Ff, Fw, Fv, Fd. -/
import Derived.Test.YtjpiplplohapnaaGreatDoorPl15
import Derived.WalkKit
import Derived.Deep.CutBlock
import Derived.Deep.DeepCutAuto
set_option linter.unusedVariables false
set_option linter.unusedSimpArgs false
namespace Go.Proofs.YtjpiplplohapnaaGreatDoor
open Go.RowKit Go.Proofs.YtjpiplplohapnaaGreatDoorW.PrintWords Rf Nr Us
theorem dN_ratio (m k : Nat) (p : Int) : dN (m * 10 ^ k) p * dD (k + p) = dN m (k + p) * dD p := by
  unfold dN dD
  have e : k + p.toNat + (-((k : Int) + p)).toNat = ((k : Int) + p).toNat + (-p).toNat := by omega
  have e2 : (10 : Nat) ^ k * 10 ^ p.toNat * 10 ^ (-((k : Int) + p)).toNat = 10 ^ ((k : Int) + p).toNat * 10 ^ (-p).toNat := by
    rw [← Nat.pow_add, ← Nat.pow_add, ← Nat.pow_add, e]
  generalize (10 : Nat) ^ k = a at *
  generalize (10 : Nat) ^ p.toNat = b at *
  generalize (10 : Nat) ^ (-((k : Int) + p)).toNat = c at *
  generalize (10 : Nat) ^ ((k : Int) + p).toNat = d at *
  generalize (10 : Nat) ^ (-p).toNat = f at *
  generalize (2 : Nat) ^ ex = g at *
  calc m * a * b * g * c = m * g * (a * b * c) := by grind
    _ = m * g * (d * f) := by rw [e2]
    _ = m * d * g * f := by grind
theorem near_move {m k r : Nat} {p : Int} (h : Near (dN m (k + p)) (dD (k + p)) r) : Near (dN (m * 10 ^ k) p) (dD p) r :=
  near_ratio (dD_pos _) (dD_pos _) (dN_ratio m k p).symm h
structure NumT (s : ByteArray) (ng : Bool) (l A D : List UInt8) (dot : Bool) (E : List UInt8) : Prop where
  eq : s.data.toList = if ng then 45 :: l else l
  form : Rf.Form l A D dot E
section
variable {s : ByteArray} {ng : Bool} {l A D E : List UInt8} {dot : Bool}
theorem NumT.len (h : NumT s ng l A D dot E) : s.size = (if ng then 1 else 0) + l.length := by
  have : s.data.toList.length = s.size := Array.length_toList
  rw [← this, h.eq]
  cases ng
  · simp
  simp; omega
theorem NumT.drop (h : NumT s ng l A D dot E) : s.data.toList.drop (if ng then 1 else 0) = l := by
  rw [h.eq]
  cases ng <;> rfl
theorem NumT.first (h : NumT s ng l A D dot E) : ∃ a r, l = a :: r ∧ 48 ≤ a.toNat ∧ a.toNat ≤ 57 := by
  cases hA : A with
  | nil => exact absurd hA h.form.nA
  | cons a A' =>
    have h1 := h.form.dA a (by rw [hA]; simp)
    have h2 := h.form.eq
    rw [hA, List.cons_append] at h2
    exact ⟨a, _, h2, h1.1, h1.2⟩
theorem NumT.digs (h : NumT s ng l A D dot E) : A.length + D.length ≤ l.length := by
  rw [h.form.eq]
  simp only [List.length_append]
  cases hd : dot
  · rw [h.form.eD hd]; simp
  rw [if_pos rfl]; simp; omega
theorem NumT.reads (h : NumT s ng l A D dot E) (hs : s.size ≤ 400) (q : Out) (hq : fin false (scan false l st0).1 (scan false l st0).2 = some q) (hr : q.rest = []) :
    (∀ w, Calls Tryz.prog 141 #[.string s] w (NoSpecial w)) ∧ (∀ w, Calls Tryz.prog 142 #[.string s] w (RfPost ng false s (some q) w)) := by
  obtain ⟨a, r, hl, ha1, ha2⟩ := h.first
  have hlen := h.len
  have hll : l.length = r.length + 1 := by rw [hl]; rfl
  have hdl : s.data.toList.length = s.size := Array.length_toList
  have heq := h.eq
  have hdr := h.drop
  cases hng : ng
  · rw [hng, if_neg (by decide)] at heq hlen hdr
    have e0 := list0 (s := s) (a := a) (l := r) (by rw [heq, hl]) (by omega)
    refine ⟨special_digit s (by omega) (by rw [e0]; exact ha1) (by rw [e0]; exact ha2), fun w => ?_⟩
    have hnx := not_hex hq hr
    rw [← heq, hdl] at hnx
    have := readFloat_pd s (by omega) (by omega) (by rw [e0]; omega) (by rw [e0]; omega) hnx w
    rw [hdr, hq] at this
    exact this
  rw [hng, if_pos rfl] at heq hlen hdr
  have e0 := list0 (s := s) (a := 45) (l := l) heq (by omega)
  have e1 := list1 (s := s) (a := 45) (b := a) (l := r) (by rw [heq, hl]) (by omega)
  refine ⟨special_minus s (by omega) (by omega) (by rw [e0]; rfl) (by rw [e1]; exact ha1) (by rw [e1]; exact ha2), fun w => ?_⟩
  have hnx := not_hex hq hr
  have g : ∀ i : Nat, l.getD i 0 = s.data.toList.getD (i + 1) 0 := by
    intro i
    rw [heq]; rfl
  rw [g 0, g 1] at hnx
  have := readFloat_nd s (by omega) (by omega) (by rw [e0]; rfl) (fun h => hnx ⟨by omega, h.2⟩) w
  rw [hdr, hq] at this
  exact this
theorem NumT.sets (h : NumT s ng l A D dot E) (hs : s.size ≤ 400) (hW : Num.dv 0 (A ++ D) ≠ 0) : ∃ S : Dc.St, Dc.Weak S ∧ S.tr = false ∧ S.nd ≤ 400 ∧ S.X = Num.dv 0 (A ++ D) ∧ S.dp - S.nd = powE E - D.length ∧
    ∀ w g, Dc.IsDec w g (fun _ => 0) 0 0 false false → Calls Tryz.prog 148 #[.pointer (some ⟨g, 0, none⟩), .string s] w fun e w' => e = .returned (.bool true) ∧ Below g w w' ∧ S.is w' g ng := by
  obtain ⟨a, r, hl, ha1, ha2⟩ := h.first
  have hlen := h.len
  have hll : l.length = r.length + 1 := by rw [hl]; rfl
  have heq := h.eq
  have hdr := h.drop
  have hdg := h.digs
  obtain ⟨t, hsc, hsd, hI⟩ := set_form h.form (fun _ => 0)
  have h400 : A.length + D.length ≤ 400 := by
    cases ng
    · rw [if_neg (by decide)] at hlen; omega
    rw [if_pos rfl] at hlen; omega
  obtain ⟨hw, hx⟩ := set_weak hI (powE E) hW (by omega)
  have hdp : setDp t E = (setSt t D.length (powE E)).dp := by
    show (if t.dot then t.dp else (t.nd : Int)) + powE E = (t.nd : Int) - D.length + powE E
    cases hd : t.dot
    · rw [if_neg (by decide), hI.nopt hd]; omega
    rw [if_pos rfl, hI.pt hd]
  have htl := hI.len
  refine ⟨setSt t D.length (powE E), hw, rfl, Nat.le_trans htl h400, hx, ?_, fun w g hD => ?_⟩
  · show (t.nd : Int) - D.length + powE E - t.nd = powE E - D.length
    omega
  cases hng : ng
  · rw [hng, if_neg (by decide)] at heq hlen hdr
    have e0 := list0 (s := s) (a := a) (l := r) (by rw [heq, hl]) (by omega)
    refine (set_p s hs (by omega) ⟨by rw [e0]; omega, by rw [e0]; omega⟩ w g _ hD t E (by rw [hdr]; exact hsc) hsd h.form.pw (by omega)).mono fun e w' ⟨h1, h2, h3⟩ => ⟨h1, h2, ?_⟩
    rw [hdp] at h3
    exact h3
  rw [hng, if_pos rfl] at heq hlen hdr
  have e0 := list0 (s := s) (a := 45) (l := l) heq (by omega)
  refine (set_n s hs (by omega) (by rw [e0]; rfl) w g _ hD t E (by rw [hdr]; exact hsc) hsd h.form.pw (by omega)).mono fun e w' ⟨h1, h2, h3⟩ => ⟨h1, h2, ?_⟩
  rw [hdp] at h3
  exact h3
theorem digits_eq {X a b : Nat} (h1 : 10 ^ (a - 1) ≤ X) (h2 : X < 10 ^ a) (h3 : 10 ^ (b - 1) ≤ X) (h4 : X < 10 ^ b) (ha : 0 < a) (hb : 0 < b) : a = b := by
  rcases Nat.lt_trichotomy a b with h | h | h
  · have : (10 : Nat) ^ a ≤ 10 ^ (b - 1) := Nat.pow_le_pow_right (by decide) (by omega)
    omega
  · exact h
  have : (10 : Nat) ^ b ≤ 10 ^ (a - 1) := Nat.pow_le_pow_right (by decide) (by omega)
  omega
theorem NumT.atof (h : NumT s ng l A D dot E) (hs : s.size ≤ 400) (r : Nat) (hr : Near (dN (Num.dv 0 (A ++ D)) (powE E - D.length)) (dD (powE E - D.length)) r) (w : World) (hL : LaidD w) :
    Calls Tryz.prog 112 #[.string s] w (AtPost (RungR ng s r) w) := by
  obtain ⟨o, k, hq, hu, hrest, hz, hnz, hlo, hhi, hwhole, hmore, hm19⟩ := fin_form h.form
  obtain ⟨hsp, hrf⟩ := h.reads hs o hq hrest
  have hlen := h.len
  have hlen2 : l.length ≤ 1000 := by
    cases ng
    · rw [if_neg (by decide)] at hlen; omega
    rw [if_pos rfl] at hlen; omega
  have hb := fin_bound hlen2 hq
  have hsz : ((s.size - o.rest.length : Nat) : Int) = (s.size : Int) := by rw [hrest]; rfl
  obtain ⟨p, hp⟩ : ∃ p : Int, p = powE E - D.length := ⟨_, rfl⟩
  rw [← hp] at hr
  by_cases hW : Num.dv 0 (A ++ D) = 0
  · refine (atof64_zero ng s o (hz hW) hu hsp hrf w hL.laid).mono fun e w' ⟨x, n, er, ⟨h1, h2, h3⟩, h4, h5, h6⟩ => ⟨x, n, er, ⟨by rw [h2, hsz], Or.inl ?_⟩, h4, h5, h6⟩
    rw [hW] at hr
    have e0 : dN 0 p = 0 := by unfold dN; rw [Nat.zero_mul, Nat.zero_mul]
    rw [e0] at hr
    have hr0 : r = 0 := near_unique (dD_pos _) (dD_pos _) rfl hr (near_zero _ (dD_pos p))
    rw [hr0]
    refine ⟨by decide, ?_, h3⟩
    rw [h1, word_sgB]
    cases ng <;> rfl
  obtain ⟨hm0, he⟩ := hnz hW
  have he' : o.e = (k : Int) + p := by rw [he, hp]; omega
  cases htr : o.tr
  · have hWm := hwhole htr
    refine (atof64_dec ng s o hm0 hb.1 hb.2.1 hb.2.2 hu htr hsp hrf w hL.laid).mono fun e w' ⟨x, n, er, ⟨h1, r', h2, h3⟩, h4, h5, h6⟩ => ⟨x, n, er, ⟨by rw [h1, hsz], ?_⟩, h4, h5, h6⟩
    rw [he'] at h2
    have h7 := near_move h2
    rw [← hWm] at h7
    have h8 : r' = r := near_unique (dD_pos _) (dD_pos _) rfl h7 hr
    rw [h8] at h3
    exact h3
  obtain ⟨hm1, hm2⟩ := hmore htr
  obtain ⟨S, hS, hStr, hSn, hSX, hSd, hset⟩ := h.sets hs hW
  have hnd : S.nd = 19 + k := by
    have b1 := Dc.X_low hS
    have b2 := Dc.X_high hS
    rw [hSX] at b1 b2
    refine digits_eq b1 b2 ?_ ?_ hS.pos (by omega)
    · have e : 19 + k - 1 = 18 + k := by omega
      rw [e, Nat.pow_add]
      exact Nat.le_trans (Nat.mul_le_mul_right _ hm2) hlo
    rw [Nat.pow_add]
    exact Nat.lt_of_lt_of_le hhi (Nat.mul_le_mul_right _ hm19)
  obtain ⟨qm, qe, qt, qu, qr⟩ := o
  dsimp only at hu hrest htr hm1 hm2 hm19 he' hlo hhi hb
  subst hu hrest htr
  refine atof64_tr ng s hs qm qe (by have : (10 : Nat) ^ 18 = 1000000000000000000 := by decide
                                     omega) (by have : (10 : Nat) ^ 19 = 10000000000000000000 := by decide
                                                omega) hb.2.1 hb.2.2 hsp hrf S hS hStr hSn (by omega) hset r ?_ (fun r1 h1 => ?_) (fun r2 h2 => ?_) w hL
  · unfold Dc.NearS
    rw [hSX, hSd, ← hp]
    exact hr
  · rw [he'] at h1
    exact near_mono (dD_pos _) (dD_pos _) (Nat.mul_le_mul_right _ (dN_mono hlo p)) (near_move h1) hr
  rw [he'] at h2
  exact near_mono (dD_pos _) (dD_pos _) (Nat.mul_le_mul_right _ (dN_mono (Nat.le_of_lt hhi) p)) hr (near_move h2)
end
set_option maxRecDepth 100000 in
set_option maxHeartbeats 1000000 in
theorem parse_formed2 (s : ByteArray) (hs : s.size ≤ 400) (hf : formL s.data.toList = true) (R : Nat → Option Int → Prop) (w : World) (hL : LaidD w) (hP : ∀ w, LaidD w → Calls Tryz.prog 24 #[.string s, .int .i64 64] w (SpPost R w)) :
    Calls Tryz.prog 10 #[.string s] w fun e w' => Below w.heap.size w w' ∧ ∃ x er, R x er ∧ ((er = none ∧ e = .returned (.tuple #[.float .f64 x, .int .i64 0])) ∨ (er ≠ none ∧ e = .returned (.tuple #[.float .f64 0, .int .i64 20]))) := by
  have hF := formed_walk s (by omega)
  rw [hf] at hF
  have HF := Lib.hid hF
  have HP := Lib.hid hP
  have h1 : ¬ (400 : Int) < s.size := by omega
  clear hs hf hF hP
  go_enter Tryz.func10, Tryz.ntmps10
  go_wp2_with fail
  refine (HF.out _).mono ?_
  rintro e w1 ⟨rfl, hb1⟩
  have hL1 := hL.below hb1
  clear HF hL
  go_wp2_with fail
  refine (HP.out _ hL1).mono ?_
  rintro e w2 ⟨x, er, hR, -, hb2, hc⟩
  have hb02 := hb1.trans (hb2.mono hb1.size)
  have HR := Lib.hid hR
  clear hR HP hL1
  rcases hc with ⟨rfl, rfl⟩ | ⟨hne, N, rfl⟩
  · go_wp2_with fail
    go_ret2
    exact ⟨hb02, x, none, HR.out, Or.inl ⟨rfl, rfl⟩⟩
  have HNE := Lib.hid hne
  clear hne
  go_wp2_with fail
  go_ret2
  exact ⟨hb02, x, er, HR.out, Or.inr ⟨HNE.out, rfl⟩⟩
def paX (ng : Bool) (r : Nat) : Nat := if 9218868437227405312 ≤ r then 0 else Ieee.double.word ng r
def paC (r : Nat) : Int := if 9218868437227405312 ≤ r then 20 else 0
theorem parse_num {s : ByteArray} {ng : Bool} {l A D E : List UInt8} {dot : Bool} (h : NumT s ng l A D dot E) (hs : s.size ≤ 400) (hf : formL s.data.toList = true) (r : Nat)
    (hr : Near (dN (Num.dv 0 (A ++ D)) (powE E - D.length)) (dD (powE E - D.length)) r) (w : World) (hL : LaidD w) :
    Calls Tryz.prog 10 #[.string s] w fun e w' => e = .returned (.tuple #[.float .f64 (paX ng r), .int .i64 (paC r)]) ∧ Below w.heap.size w w' := by
  refine (parse_formed2 s hs hf (whole s (RungR ng s r)) w hL (fun w hL => sparse_of s (by omega) _ w hL.laid (iparse_of s _ w (h.atof hs r hr w hL)))).mono ?_
  rintro e w' ⟨hb, x, er, hR, hc⟩
  refine ⟨?_, hb⟩
  unfold paX paC
  rcases hR with ⟨-, ⟨h1, h2, h3⟩ | ⟨h1, h2, h3⟩⟩ | ⟨-, -, y, n, r', hh, hne⟩
  · rw [if_neg (by omega), if_neg (by omega)]
    rcases hc with ⟨-, rfl⟩ | ⟨h4, -⟩
    · rw [h2]
    exact absurd h3 h4
  · rw [if_pos h1, if_pos h1]
    rcases hc with ⟨h4, -⟩ | ⟨-, rfl⟩
    · rw [h3] at h4; cases h4
    rfl
  exact absurd hh.1 hne
end Go.Proofs.YtjpiplplohapnaaGreatDoor
namespace Go.Proofs.YtjpiplplohapnaaGreatDoor
open Go.RowKit Rf Nr Us Dc
theorem rung_pow (d k : Nat) (hd : d ≤ 9007199254740992) (hk1 : 53 ≤ k) (hk2 : k ≤ ex) : ∃ r, V r = d * 2 ^ k ∧ r < 9218868437227405312 ∧ (0 < d → 0 < r) := by
  have hex := ex_eq
  by_cases h0 : d = 0
  · subst h0
    exact ⟨0, by rw [Nat.zero_mul]; rfl, by decide, fun h => absurd h (by decide)⟩
  by_cases h53 : d = 9007199254740992
  · refine ⟨(k + 1) * 4503599627370496 + 4503599627370496, ?_, by omega, fun _ => by omega⟩
    rw [V_form _ _ (Or.inl ⟨by decide, by decide⟩), h53, Nat.pow_succ]
    omega
  have hlo := Nat.log2_self_le h0
  have hhi : d < 2 ^ (d.log2 + 1) := Nat.lt_log2_self
  have p53 : (9007199254740992 : Nat) = 2 ^ 53 := by decide
  have p52 : (4503599627370496 : Nat) = 2 ^ 52 := by decide
  have hlg : d.log2 ≤ 52 := by
    have : d.log2 < 53 := (Nat.log2_lt h0).2 (by omega)
    omega
  have a1 : 4503599627370496 ≤ d * 2 ^ (52 - d.log2) := by
    have := Nat.mul_le_mul_right (2 ^ (52 - d.log2)) hlo
    rw [← Nat.pow_add, show d.log2 + (52 - d.log2) = 52 by omega, ← p52] at this
    exact this
  have a2 : d * 2 ^ (52 - d.log2) < 9007199254740992 := by
    have := Nat.mul_lt_mul_of_pos_right hhi (Nat.pow_pos (a := 2) (n := 52 - d.log2) (by decide))
    rw [← Nat.pow_add, show d.log2 + 1 + (52 - d.log2) = 53 by omega, ← p53] at this
    exact this
  refine ⟨(k - 52 + d.log2) * 4503599627370496 + d * 2 ^ (52 - d.log2), ?_, ?_, fun _ => ?_⟩
  · rw [V_form _ _ (Or.inl ⟨a1, Nat.le_of_lt a2⟩), Nat.mul_assoc, ← Nat.pow_add]
    congr 2; omega
  · generalize d * 2 ^ (52 - d.log2) = y at *
    omega
  generalize d * 2 ^ (52 - d.log2) = y at *
  omega
theorem conv_word (m : Int) (hm : m.natAbs ≤ 9007199254740992) : ∃ r, V r = m.natAbs * 2 ^ ex ∧ r < 9218868437227405312 ∧ (0 < m.natAbs → 0 < r) ∧ floatOfInt .f64 m = Ieee.double.word (decide (m < 0)) r := by
  obtain ⟨r, h1, h2, h3⟩ := rung_pow m.natAbs ex hm (by rw [ex_eq]; decide) (Nat.le_refl _)
  refine ⟨r, h1, h2, h3, ?_⟩
  show Ieee.double.write (.number (decide (m < 0)) m.natAbs 0) = _
  have h4 : rung m.natAbs 0 = r := by
    have hN := rung_near m.natAbs 0
    have h5 : Near (m.natAbs * 2 ^ ex) 1 r := near_exact (by decide) (by rw [h1, Nat.mul_one])
    refine near_unique (uD_pos _) (by decide) ?_ hN h5
    unfold uN uD
    rw [show ((0 : Int) + 1074).toNat = ex by rw [ex_eq]; rfl, show (-1074 - (0 : Int)).toNat = 0 by decide, Nat.pow_zero, Nat.mul_one]
    first | done | (rw [Nat.mul_one]; done) | rfl
  rw [write_number, h4, Nat.min_eq_left (by omega)]
theorem half_word (ng : Bool) (d k r : Nat) (hd : d ≤ 9007199254740992) (hk1 : 53 ≤ k) (hk2 : k + 1 ≤ ex) (hr : V r = d * 2 ^ (k + 1)) (hrl : r < 9218868437227405312) (hng : d = 0 → ng = false) :
    ∃ r', V r' = d * 2 ^ k ∧ r' < 9218868437227405312 ∧ Ieee.double.div (Ieee.double.word ng r) 4611686018427387904 = some (Ieee.double.word ng r') := by
  by_cases h0 : d = 0
  · have hng0 := hng h0
    subst h0 hng0
    rw [Nat.zero_mul] at hr
    have hr0 : r = 0 := by
      rcases Nat.eq_zero_or_pos r with h | h
      · exact h
      have := V_lt h
      have h1 : V 0 = 0 := rfl
      omega
    subst hr0
    exact ⟨0, by rw [Nat.zero_mul]; rfl, by decide, by decide +kernel⟩
  obtain ⟨r', h1, h2, h3⟩ := rung_pow d k hd hk1 (by omega)
  refine ⟨r', h1, h2, ?_⟩
  have hrp : 0 < r := by
    rcases Nat.eq_zero_or_pos r with h | h
    · exfalso
      rw [h] at hr
      have h1 : V 0 = 0 := rfl
      have := Nat.mul_pos (Nat.pos_of_ne_zero h0) (Nat.pow_pos (a := 2) (n := k + 1) (by decide))
      omega
    exact h
  obtain ⟨q, hq, hdiv⟩ := div_near ng false r 4611686018427387904 hrl (by decide) (by decide) hrp
  have hV2 : V 4611686018427387904 = 2 * 2 ^ ex := by
    have h := V_form 1023 4503599627370496 (Or.inl ⟨by decide, by decide⟩)
    have e : 1023 * 4503599627370496 + 4503599627370496 = 4611686018427387904 := by decide
    rw [e] at h
    have e2 : (4503599627370496 : Nat) = 2 ^ 52 := by decide
    obtain ⟨J, hJ⟩ : ∃ J, J = 1023 := ⟨_, rfl⟩
    rw [← hJ] at h
    rw [h, e2, ← Nat.pow_add]
    have e3 : 2 * 2 ^ ex = 2 ^ (ex + 1) := by rw [Nat.pow_succ, Nat.mul_comm]
    have hexx := ex_eq
    have e4 : 52 + J = ex + 1 := by omega
    exact (congrArg (fun z => 2 ^ z) e4).trans e3.symm
  have hqr : q = r' := by
    have h5 : Near (V r') 1 r' := near_exact (by decide) (by rw [Nat.mul_one])
    refine near_unique (V_pos (by decide)) (by decide) ?_ hq h5
    rw [Nat.mul_one, hr, h1, hV2, Nat.pow_succ]
    generalize 2 ^ k = a
    generalize 2 ^ ex = b
    grind
  have e2 : Ieee.double.word false 4611686018427387904 = 4611686018427387904 := by rw [word_sgB]; rfl
  rw [e2, hqr, Nat.min_eq_left (by omega), show (ng ^^ false) = ng by cases ng <;> rfl] at hdiv
  exact hdiv
theorem padL_isD (c q : Nat) : ∀ x ∈ padL c (Lib.decDigits q), Num.isD x := by
  intro x hx
  unfold padL at hx
  rcases List.mem_append.1 hx with h | h
  · rw [(List.mem_replicate.1 h).2]; exact ⟨by decide, by decide⟩
  exact Num.dec_digits q x h
theorem padL_len (c q : Nat) : c + 1 ≤ (padL c (Lib.decDigits q)).length := by
  unfold padL
  rw [List.length_append, List.length_replicate]
  omega
theorem dv_zeros : ∀ (n : Nat) (l : List UInt8), Num.dv 0 (List.replicate n 48 ++ l) = Num.dv 0 l
  | 0, l => rfl
  | n + 1, l => by
    rw [List.replicate_succ, List.cons_append, Num.dv_cons]
    exact dv_zeros n l
theorem padL_val (c q : Nat) : Num.dv 0 (padL c (Lib.decDigits q)) = q := by
  unfold padL
  rw [dv_zeros]
  exact Num.dv_dec q
theorem fix_form (c q : Nat) : ∃ A D dot, Rf.Form (Dc.dot c (padL c (Lib.decDigits q))) A D dot [] ∧ Num.dv 0 (A ++ D) = q ∧ D.length = c := by
  have hd := padL_isD c q
  have hl := padL_len c q
  have hv := padL_val c q
  generalize padL c (Lib.decDigits q) = l at *
  unfold Dc.dot
  by_cases hc : 0 < c
  · rw [if_pos hc]
    refine ⟨l.take (l.length - c), l.drop (l.length - c), true, ⟨by rw [if_pos rfl, List.append_nil], fun x hx => hd x (List.mem_of_mem_take hx), ?_, fun x hx => hd x (List.mem_of_mem_drop hx), fun _ => ?_, (fun h => by cases h), Or.inl rfl⟩, ?_, ?_⟩
    · intro h
      have := congrArg List.length h
      rw [List.length_take] at this
      simp at this
      omega
    · intro h
      have := congrArg List.length h
      rw [List.length_drop] at this
      simp at this
      omega
    · rw [List.take_append_drop]; exact hv
    rw [List.length_drop]; omega
  rw [if_neg hc]
  refine ⟨l, [], false, ⟨by simp, hd, ?_, (fun x hx => by cases hx), (fun h => by cases h), fun _ => rfl, Or.inl rfl⟩, by rw [List.append_nil]; exact hv, by show 0 = c; omega⟩
  intro h
  rw [h] at hl
  simp at hl
theorem formM_of {l A D E : List UInt8} {dot : Bool} (h : Rf.Form l A D dot E) (hE : E = []) : formM l = true := by
  subst hE
  have hA := h.nA
  have e := h.eq
  rw [List.append_nil] at e
  cases hd : dot
  · rw [hd, if_neg (by decide), List.append_nil] at e
    have h1 : dl l = A.length := by
      rw [e]
      have := dl_of_all A [] h.dA (fun c r hr => by cases hr)
      rw [List.append_nil] at this
      exact this
    have hne : A.length ≠ 0 := fun h => hA (List.length_eq_zero_iff.1 h)
    unfold formM
    rw [h1, if_neg hne, e, List.drop_length]
    rfl
  rw [hd, if_pos rfl] at e
  have h1 : dl l = A.length := by
    rw [e]
    exact dl_of_all A (46 :: D) h.dA (fun c r hr hc => by
      have := (List.cons.inj hr).1
      rw [← this] at hc
      exact absurd hc.1 (by decide))
  have hne : A.length ≠ 0 := fun h => hA (List.length_eq_zero_iff.1 h)
  have hD := h.nD hd
  have h2 : dl D = D.length := by
    have := dl_of_all D [] h.dD (fun c r hr => by cases hr)
    rw [List.append_nil] at this
    exact this
  have hne2 : D.length ≠ 0 := fun h => hD (List.length_eq_zero_iff.1 h)
  unfold formM
  rw [h1, if_neg hne, e, List.drop_left]
  show (if (46 : UInt8).toNat = 46 then (if dl D = 0 then false else powL (D.drop (dl D))) else powL (46 :: D)) = true
  rw [if_pos (by decide), h2, if_neg hne2, List.drop_length]
  rfl
theorem formL_of {s : ByteArray} {ng : Bool} {l A D E : List UInt8} {dot : Bool} (h : NumT s ng l A D dot E) (hE : E = []) : formL s.data.toList = true := by
  have h1 := formM_of h.form hE
  obtain ⟨a, r, hl, ha1, ha2⟩ := h.first
  rw [h.eq]
  cases ng
  · rw [if_neg (by decide)]
    rw [hl] at h1 ⊢
    unfold formL
    dsimp only
    rw [if_neg (by omega)]
    exact h1
  rw [if_pos rfl]
  unfold formL
  dsimp only
  rw [if_pos (by decide)]
  exact h1
theorem fix_numT (ng : Bool) (q c : Nat) (hq : q < 10 ^ 40) (hc : c ≤ 30) : ∃ l A D dot, NumT ⟨(fixT ng q c).toArray⟩ ng l A D dot [] ∧ Num.dv 0 (A ++ D) = q ∧ D.length = c ∧ (⟨(fixT ng q c).toArray⟩ : ByteArray).size ≤ 400 := by
  obtain ⟨A, D, dot, h1, h2, h3⟩ := fix_form c q
  refine ⟨_, A, D, dot, ⟨?_, h1⟩, h2, h3, ?_⟩
  · show (fixT ng q c).toArray.toList = _
    unfold fixT
    cases ng
    · rw [if_neg (by decide), if_neg (by decide), List.nil_append]
    rw [if_pos rfl, if_pos rfl]; rfl
  have hds := dec_sh 39 q hq
  have e : (⟨(fixT ng q c).toArray⟩ : ByteArray).size = (fixT ng q c).length := by show (fixT ng q c).toArray.size = _; simp
  rw [e]
  have hl : (padL c (Lib.decDigits q)).length ≤ 80 := by
    unfold padL
    rw [List.length_append, List.length_replicate]
    omega
  have hdot : (Dc.dot c (padL c (Lib.decDigits q))).length ≤ 81 := by
    generalize padL c (Lib.decDigits q) = l at *
    unfold Dc.dot
    split
    · rw [List.length_append, List.length_cons, List.length_take, List.length_drop]; omega
    omega
  unfold fixT
  rw [List.length_append]
  cases ng
  · rw [if_neg (by decide)]; simp; omega
  rw [if_pos rfl]; simp; omega
theorem places_near (d p r : Nat) (hp : p ≤ 30) (hr : V r * 2 ^ p = d * 2 ^ ex) : Near (dN (d * 5 ^ p) (powE [] - p)) (dD (powE [] - p)) r := by
  have e1 : (powE [] - (p : Int)) = -(p : Int) := by
    show (0 : Int) - p = -(p : Int)
    omega
  rw [e1, dN_neg, dD_neg]
  refine near_exact (Nat.pow_pos (by decide)) ?_
  have e2 : (10 : Nat) ^ p = 2 ^ p * 5 ^ p := by rw [← Nat.mul_pow]
  rw [e2, ← Nat.mul_assoc, hr]
  exact Nat.mul_right_comm _ _ _
end Go.Proofs.YtjpiplplohapnaaGreatDoor
namespace Go.Proofs.YtjpiplplohapnaaGreatDoor
open Go.RowKit Go.Sort Go.Proofs.YtjpiplplohapnaaGreatDoorW.PrintWords
namespace Dc
structure Out (B : Nat) (w0 : World) (g nd : Nat) (d : Nat → Nat) (v : Value) (l : List UInt8) (w : World) : Prop where
  own : w.ownsRow B 5 1 v l.length (l.map encB)
  src : 0 < nd → ∃ (cs : Array Value) (T : TypeId), w.heap[g]? = some (.cells cs T (0, 0)) ∧ T ≠ 5 ∧ ∀ i, i < nd → cs[i]? = some (.int .u8 (d i : Nat))
  below : Below B w0 w
  base : B ≤ w.heap.size
variable {B g nd : Nat} {w0 w w1 : World} {d : Nat → Nat} {v v' : Value} {l : List UInt8} {c : UInt8}
theorem Out.cell (h : Out B w0 g nd d v l w) (i : Nat) (hi : i < nd) : w.cell? ⟨g, i, none⟩ = some (.int .u8 (d i : Nat)) := by
  obtain ⟨cs, T, h1, h2, h3⟩ := h.src (by omega)
  exact (blk_cell h1 i).trans (h3 i hi)
theorem Out.app (h : Out B w0 g nd d v l w) {o : Obj} (hown : w1.ownsRow B 5 1 v' (l.length + 1) (l.map encB ++ [encB c])) (hg : (w.alloc o).grownBy w1 v.ownBlock) : Out B w0 g nd d v' (l ++ [c]) w1 := by
  have hsz : (w.alloc o).heap.size = w.heap.size + 1 := by simp
  refine ⟨by simpa using hown, fun hn => ?_, (h.below.alloc h.base o).grown hg (by have := h.base; omega) (fun k hk => (h.own.lt k hk).1), by have := hg.size; have := h.base; omega⟩
  obtain ⟨cs, T, h1, h2, h3⟩ := h.src hn
  refine ⟨cs, T, ?_, h2, h3⟩
  have hlt : g < w.heap.size := (Array.getElem?_eq_some_iff.1 h1).1
  have hne : some g ≠ v.ownBlock := by
    intro he
    rcases h.own.2 with ⟨rfl, _⟩ | ⟨g', cap, cur, rfl, _, hgg, _⟩
    · cases he
    injection he with he
    subst he
    rw [h1] at hgg
    injection hgg with hgg
    injection hgg with _ hT
    exact h2 hT
  rw [hg.block g (by omega) hne]
  exact (Below.heap_alloc w o g hlt).trans h1
end Dc
open Dc
theorem Tryz.info5 : (Tryz.prog.info? 5).map (fun i => (i.zero, i.size, i.bytes)) = some (some (.int .u8 0), 1, 1) := by kernel_rfl
theorem step_app {ops : Array Oper} {rest : List Oper} {o : Oper} {a : Act} {Q : Exit → Act → World → Prop} (hgd : o.guard = none) (s x : Operand)
    (ho : o.op = .call { callee := .builtin .append, args := #[s, x], argTypes := #[94, 94] })
    {B : Nat} {w0 w : World} {g nd : Nat} {d : Nat → Nat} {v : Value} {l : List UInt8} (h : Out B w0 g nd d v l w) (hs : a.eval s = v) (c : UInt8) (vc : Int) (hc : (c.toNat : Int) = vc)
    (hx : a.eval x = .slice (some ⟨w.heap.size, 0, none⟩) 1 1) (hl : l.length ≤ 1000000)
    (k : ∀ v' w', Out B w0 g nd d v' (l ++ [c]) w' → wpList Tryz.prog ops Q rest (a.put o.dst v') w') : wpList Tryz.prog ops Q (o :: rest) a (w.alloc (.cells #[.int .u8 vc] 5)) := by
  obtain ⟨i5, hi, hz0, hz1, hz2⟩ := info_parts Tryz.info5
  have hb := h.base
  refine wpList_append_own _ hgd s x 94 ho B 5 i5 (.int .u8 0) 1 1 Tryz.underlying94 hi hz0 hz1 hz2 rfl (by decide) v l.length (l.map encB) hs (h.own.alloc _) ⟨w.heap.size, 0, none⟩ 1 1 [.int .u8 vc] hx rfl ?_ ?_ ?_ ?_ ?_ ?_
  · intro j u hj
    match j, hj with
    | 0, hj =>
      simp at hj
      subst hj
      simp [Addr.add]
  · intro u hu
    simp at hu
    subst hu
    rfl
  · unfold maxLen; omega
  · omega
  · simp; omega
  intro v' w1 hown hg _
  refine k v' w1 (h.app (c := c) ?_ hg)
  rw [show encB c = .int .u8 vc by rw [← hc]]
  exact hown
end Go.Proofs.YtjpiplplohapnaaGreatDoor
namespace Go.Proofs.YtjpiplplohapnaaGreatDoor
open Go.RowKit Go.Sort Go.Proofs.YtjpiplplohapnaaGreatDoorW.PrintWords Dc
noncomputable def fwCode67 : Code := ((Tryz.f122.body.bind (fromR 67)).getD .skip)
def FePost (B : Nat) (w0 : World) (g nd : Nat) (d : Nat → Nat) (T : List UInt8) (e : Ending) (w' : World) : Prop := ∃ v', e = .returned v' ∧ Out B w0 g nd d v' T w'
def frT (d : Nat → Nat) (nd : Nat) (dp : Int) (p : Nat) : List UInt8 :=
  if 0 < p then 46 :: (List.replicate (min p (-dp).toNat) 48 ++ (seg (fun i => d ((dp + (min p (-dp).toNat : Nat)).toNat + i)) (min (p - min p (-dp).toNat) (nd - (dp + (min p (-dp).toNat : Nat)).toNat)) ++
    List.replicate (p - min p (-dp).toNat - min (p - min p (-dp).toNat) (nd - (dp + (min p (-dp).toNat : Nat)).toNat)) 48)) else []
theorem fr_lead (dp : Int) (p : Nat) : ∃ lz : Nat, lz = min p (-dp).toNat ∧ max 0 (-dp) = ((-dp).toNat : Int) ∧ min (p : Int) ((-dp).toNat : Int) = (lz : Int) ∧ lz ≤ p ∧ (lz = p ∨ 0 ≤ dp + (lz : Int)) ∧ (dp + (lz : Int) ≤ dp ∨ dp + (lz : Int) ≤ 0) := by
  refine ⟨min p (-dp).toNat, rfl, by omega, by omega, Nat.min_le_left _ _, ?_, ?_⟩
  · rcases Nat.le_total p (-dp).toNat with h | h
    · left; exact Nat.min_eq_left h
    right; rw [Nat.min_eq_right h]; omega
  rcases Nat.le_total p (-dp).toNat with h | h
  · rw [Nat.min_eq_left h]; omega
  rw [Nat.min_eq_right h]; omega
theorem fr_mid (off : Int) (pl nd : Nat) (h : pl = 0 ∨ 0 ≤ off) : ∃ m : Nat, m = min pl (nd - off.toNat) ∧ max 0 ((nd : Int) - off) = (((nd : Int) - off).toNat : Int) ∧ min (pl : Int) (((nd : Int) - off).toNat : Int) = (m : Int) ∧ m ≤ pl ∧ (0 < m → off.toNat + m ≤ nd ∧ off = (off.toNat : Int)) := by
  refine ⟨min pl (nd - off.toNat), rfl, by omega, ?_, Nat.min_le_left _ _, ?_⟩
  · rcases h with h | h
    · subst h; simp; omega
    have e : ((nd : Int) - off).toNat = nd - off.toNat := by omega
    rw [e]; omega
  intro hm
  rcases h with h | h
  · subst h; simp at hm
  have := Nat.min_le_right pl (nd - off.toNat); omega
set_option maxRecDepth 100000 in
set_option maxHeartbeats 4000000 in
theorem fmt_frac (w : World) (B g nd : Nat) (d : Nat → Nat) (v sv : Value) (ng : Bool) (dp : Int) (p c : Nat) (l : List UInt8) (w0 : World) (HO : Hid (Out B w0 g nd d v l w)) (hnd : nd ≤ 800) (hdp1 : -100000 ≤ dp) (hdp2 : dp ≤ 100000) (hp : p ≤ 30) (HD : Hid (∀ i, i < nd → d i < 256))
    (HS : Hid (0 < nd → sv = .slice (some ⟨g, 0, none⟩) c c ∧ nd ≤ c ∧ c ≤ 800)) (HLn : Hid (l.length ≤ 200000)) (T : List UInt8) (HT : Hid (T = l ++ frT d nd dp p)) (K : Act → World → Prop) {u8 u9 u10 u11 u12 u13 u14 u15 u16 u17 u18 u19 u20 u21 u22 u23 u24 u25 u26 u27 u28 u29 u30 u31 u32 u33 u34 u35 u36 u37 u38 u39 u40 u41 u42 u43 u44 u45 u46 u47 u48 u49 u50 u51 u52 u53 u54 u55 u56 u57 u58 u59 u60 u61 u62 u63 u64 u65 u66 u67 u68 u69 u70 u71 u72 u73 u74 u75 u76 u77 u78 u79 u80 u81 u82 u83 u84 u85 u86 u87 u88 u89 u90 u91 u92 u93 u94 u95 u96 u97 u98 u99 u100 u101 u102 u103 u104 u105 u106 u107 u108 u109 u110 u111 u112 u113 u114 u115 u116 u117 u118 u119 u120 u121 u122 u123 u124 u125 u126 u127 u128 u129 u130 u131 u132 u133 u134 u135 u136 u137 u138 u139 u140 u141 u142 u143 u144 u145 u146 u147 u148 u149 u150 u151 u152 u153 u154 u155 u156 u157 u158 u159 u160 u161 u162 u163 u164 u165 u166 u167 u168 u169 u170 u171 u172 u173 u174 u175 u176 u177 u178 u179 u180 u181 u182 u183 u184 u185 u186 u187 u188 u189 u190 u191 u192 u193 u194 u195 u196 u197 u198 u199 u200 u201 u202 u203 u204 u205 u206 u207 u208 u209 u210 u211 u212 u213 u214 u215 u216 u217 u218 u219 u220 u221 u222 u223 u224 u225 u226 u227 u228 u229 u230 u231 u232 u233 u234 u235 u236 u237 u238 u239 u240 u241 u242 u243 u244 u245 u246 u247 u248 u249 u250 u251 u252 u253 u254 u255 u256 u257 u258 u259 u260 u261 u262 u263 u264 u265 u266 u267 u268 u269 u270 u271 : Value} :
    fwCode67.wp Tryz.prog (Exit.inBlock 0 (Exit.then K (bodyPost Tryz.prog Tryz.f122 (FePost B w0 g nd d T)))) ⟨#[v, .bool ng, sv, .int .i64 dp, .int .i64 (nd : Int), .int .i64 (p : Int), .int .u8 102, .bool false, u8, u9, u10, u11, u12, u13, u14, u15, u16, u17, u18, u19, u20, u21, u22, u23, u24, u25, u26, u27, u28, u29, u30, u31, u32, u33, u34, u35, u36, u37, u38, u39, u40, u41, u42, u43, u44, u45, u46, u47, u48, u49, u50, u51, u52, u53, u54, u55, u56, u57, u58, u59, u60, u61, u62, u63, u64, u65, u66, u67, u68, u69, u70, u71, u72, u73, u74, u75, u76, u77, u78, u79, u80, u81, u82, u83, u84, u85, u86, u87, u88, u89, u90, u91, u92, u93, u94, u95, u96, u97, u98, u99, u100, u101, u102, u103, u104, u105, u106, u107, u108, u109, u110, u111, u112, u113, u114, u115, u116, u117, u118, u119, u120, u121, u122, u123, u124, u125, u126, u127, u128, u129, u130, u131, u132, u133, u134, u135, u136, u137, u138, u139, u140, u141, u142, u143, u144, u145, u146, u147, u148, u149, u150, u151, u152, u153, u154, u155, u156, u157, u158, u159, u160, u161, u162, u163, u164, u165, u166, u167, u168, u169, u170, u171, u172, u173, u174, u175, u176, u177, u178, u179, u180, u181, u182, u183, u184, u185, u186, u187, u188, u189, u190, u191, u192, u193, u194, u195, u196, u197, u198, u199, u200, u201, u202, u203, u204, u205, u206, u207, u208, u209, u210, u211, u212, u213, u214, u215, u216, u217, u218, u219, u220, u221, u222, u223, u224, u225, u226, u227, u228, u229, u230, u231, u232, u233, u234, u235, u236, u237, u238, u239, u240, u241, u242, u243, u244, u245, u246, u247, u248, u249, u250, u251, u252, u253, u254, u255, u256, u257, u258, u259, u260, u261, u262, u263, u264, u265, u266, u267, u268, u269, u270, u271], []⟩ w := by
  conv => arg 2; whnf
  have HT2 := HT.out
  unfold frT at HT2
  clear HT
  by_cases h0 : 0 < p
  · rw [if_pos h0] at HT2
    obtain ⟨lz, hlz, a3, a4, hb1, hb2, hb3⟩ := fr_lead dp p
    rw [← hlz] at HT2
    clear hlz
    generalize (-dp).toNat = z at a3 a4
    obtain ⟨q, a1⟩ : ∃ q : Int, -dp = q := ⟨_, rfl⟩
    have a2 : -100000 ≤ q ∧ q ≤ 100000 := by omega
    have Ha2 := Lib.hid a2
    clear a2
    rw [a1] at a3
    have A34 := Lib.hid (And.intro a3 a4)
    clear a3 a4
    obtain ⟨off, a5⟩ : ∃ off : Int, dp + (lz : Int) = off := ⟨_, rfl⟩
    rw [a5] at HT2 hb2 hb3
    have ho2 : -100000 ≤ off ∧ off ≤ 100000 := by omega
    have a6 : -100000 ≤ off ∧ off ≤ 100000 := ho2
    have Ha6 := Lib.hid a6
    clear a6
    obtain ⟨pl, hpl⟩ : ∃ pl, pl = p - lz := ⟨_, rfl⟩
    rw [← hpl] at HT2
    have a7 : (p : Int) - (lz : Int) = (pl : Int) := by omega
    have a8 : wrap64 (pl : Int) = (pl : Int) := by unfold wrap64; omega
    have Ha8 := Lib.hid a8
    clear a8
    have h0' : pl = 0 ∨ 0 ≤ off := hb2.elim (fun h => Or.inl (by rw [hpl, h, Nat.sub_self])) Or.inr
    clear hb2 hb3
    obtain ⟨y, a9⟩ : ∃ y : Int, (nd : Int) - off = y := ⟨_, rfl⟩
    have a10 : -200000 ≤ y ∧ y ≤ 200000 := by clear hb1; omega
    have Ha10 := Lib.hid a10
    clear a10
    obtain ⟨m, hm, a11, a12, hm1, hm2⟩ := fr_mid off pl nd h0'
    rw [← hm] at HT2
    clear hm h0'
    rw [a9] at a11 a12
    generalize y.toNat = y2 at a11 a12
    have A112 := Lib.hid (And.intro a11 a12)
    clear a11 a12
    have HM2 := Lib.hid hm2
    clear hm2
    obtain ⟨tz, htz⟩ : ∃ tz, tz = pl - m := ⟨_, rfl⟩
    rw [← htz] at HT2
    have a13 : (pl : Int) - (m : Int) = (tz : Int) := by omega
    have htz2 : tz ≤ 30 := by omega
    have hlz2 : lz ≤ 30 := by omega
    have a14 : wrap64 (tz : Int) = (tz : Int) := by unfold wrap64; omega
    have Ha14 := Lib.hid a14
    clear a14
    have a15 : max 0 (tz : Int) = (tz : Int) := Int.max_eq_right (by omega)
    have a16 : (0 : Int) < p := by omega
    have a17 : decide ((0 : Int) < (p : Int)) = true := decide_eq_true a16
    obtain ⟨o, ho⟩ : ∃ o, o = off.toNat := ⟨_, rfl⟩
    have hm2 := HM2.out
    rw [← ho] at HT2 hm2
    have HTT := Lib.hid HT2
    have HB : Hid (lz ≤ 30 ∧ m ≤ 30 ∧ tz ≤ 30 ∧ (0 < m → 0 ≤ off ∧ o + m ≤ nd ∧ off = (o : Int))) := Lib.hid ⟨hlz2, Nat.le_trans hm1 (by rw [hpl]; exact Nat.le_trans (Nat.sub_le _ _) hp), htz2, fun hm0 => ⟨by rw [(hm2 hm0).2]; exact Int.natCast_nonneg _, hm2 hm0⟩⟩
    have HLn4 : Hid (l.length ≤ 1000000) := Lib.hid (by have := HLn.out; omega)
    have A69 := Lib.hid (And.intro a1 (And.intro Ha2.out A34.out))
    have A70 := Lib.hid (And.intro a5 Ha6.out)
    have A71 := Lib.hid (And.intro a7 (And.intro Ha8.out (And.intro a9 (And.intro Ha10.out A112.out))))
    have A72 := Lib.hid (And.intro a7 (And.intro Ha8.out (And.intro a13 (And.intro Ha14.out a15))))
    clear ho hpl htz HT2 h0 hdp1 hdp2 hb1 ho2 hm1 hm2 HM2 htz2 hlz2 a1 Ha2 A34 a5 Ha6 a7 Ha8 a9 Ha10 A112 a13 Ha14 a15
    go_upto_region 69 with (at_builtin; refine step_app rfl (.tmp 214) (.tmp 215) rfl HO.out rfl 46 46 rfl rfl HLn4.out ?_; intro v1 w1 HO1)
    clear a16 a17
    obtain ⟨a1, ⟨a2, a2b⟩, a3, a4⟩ := A69.out
    go_upto_region 70 with (fail)
    clear a1 a2 a2b a3 a4
    obtain ⟨a5, a6, a6b⟩ := A70.out
    go_upto_region 71 with (fail)
    clear a5 a6 a6b
    obtain ⟨a7, a8, a9, ⟨a10, a10b⟩, a11, a12⟩ := A71.out
    go_upto_region 72 with (fail)
    clear a9 a10 a10b a11 a12
    obtain ⟨-, -, a13, a14, a15⟩ := A72.out
    go_upto_region 73 with (fail)
    clear a7 a8 a13 a14 a15
    go_wp2_with fail
    have HO4 := Lib.hid HO1
    clear HO1 HO
    go_loopg [0, 240] lz (fun gn v0 v240 w' => ∃ k : Nat, v240 = .int .i64 k ∧ Hid (gn + k = lz) ∧ Hid (Out B w0 g nd d v0 (l ++ [46] ++ List.replicate k 48) w'))
    case atStart => exact ⟨0, rfl, Lib.hid rfl, by rw [show l ++ [46] ++ List.replicate 0 48 = l ++ [46] from List.append_nil _]; exact HO4⟩
    case round =>
      obtain ⟨k, rfl, hg2, hO2⟩ := hrel
      by_cases hkz : k < lz
      · have g3 : (k : Int) < lz := by omega
        have g4 : decide ((k : Int) < (lz : Int)) = true := decide_eq_true g3
        have HLk : Hid ((l ++ [46] ++ List.replicate k 48).length ≤ 1000000) := Lib.hid (by rw [List.length_append, List.length_append, List.length_replicate]; have := HLn.out; have := HB.out; simp only [List.length_cons, List.length_nil]; omega)
        have HXX : Hid (gk - 1 < gk ∧ gk - 1 + (k + 1) = lz) := Lib.hid ⟨by have := hg2.out; omega, by have := hg2.out; omega⟩
        have x1 : wrap64 ((k : Int) + 1) = (k : Int) + 1 := by have := HB.out; unfold wrap64; omega
        clear hg2 hkz
        go_wp2_with (at_builtin; refine step_app rfl (.tmp 242) (.tmp 243) rfl hO2.out rfl 48 48 rfl rfl HLk.out ?_; intro v1 w1 HO1)
        go_roundg (gk - 1)
        case measure => exact HXX.out.1
        case rel => exact ⟨k + 1, by first | rfl | go_num, Lib.hid HXX.out.2, by rw [List.replicate_succ', ← List.append_assoc]; exact HO1⟩
      have hk : k = lz := by have := hg2.out; omega
      subst hk
      have g3 : ¬ (k : Int) < k := by omega
      have g4 : decide ((k : Int) < (k : Int)) = false := decide_eq_false g3
      clear hg2 hkz
      go_wp2_with fail
      clear g3 g4
      go_loopg [0, 30, 247] m (fun gn v0 v30 v247 w' => ∃ i : Nat, v247 = .int .i64 i ∧ Hid (gn + i = m) ∧ Hid (Out B w0 g nd d v0 (l ++ [46] ++ List.replicate k 48 ++ seg (fun i => d (o + i)) i) w'))
      case atStart => exact ⟨0, rfl, Lib.hid rfl, by rw [show l ++ [46] ++ List.replicate k 48 ++ seg (fun i => d (o + i)) 0 = l ++ [46] ++ List.replicate k 48 from List.append_nil _]; exact hO2⟩
      case round =>
        obtain ⟨i, rfl, hg3, hO3⟩ := hrel
        by_cases him : i < m
        · have g1 : (i : Int) < m := by omega
          have g2 : decide ((i : Int) < (m : Int)) = true := decide_eq_true g1
          obtain ⟨b1, b2, b3⟩ := HB.out.2.2.2 (by omega)
          obtain ⟨hsv, hc1, hc2⟩ := HS.out (by omega)
          subst hsv
          obtain ⟨j, hj⟩ : ∃ j, j = o + i := ⟨_, rfl⟩
          have cb := hO3.out.cell j (by omega)
          have hlt := HD.out j (by omega)
          have x1 : off + (i : Int) = (j : Int) := by omega
          have x2 : wrap64 (j : Int) = (j : Int) := by unfold wrap64; omega
          have x3 : (j : Int) < c := by omega
          have x4 : wrap64 ((i : Int) + 1) = (i : Int) + 1 := by have := HB.out; unfold wrap64; omega
          obtain ⟨x, hx⟩ : ∃ x, x = d j := ⟨_, rfl⟩
          rw [← hx] at cb hlt
          have HX : Hid (((UInt8.ofNat x).toNat : Int) = (x : Int)) := Lib.hid (by rw [UInt8.toNat_ofNat']; omega)
          have HLk : Hid ((l ++ [46] ++ List.replicate k 48 ++ seg (fun i => d (o + i)) i).length ≤ 1000000) := Lib.hid (by rw [List.length_append, List.length_append, List.length_append, List.length_replicate, seg_length]; have := HLn.out; have := HB.out; simp only [List.length_cons, List.length_nil]; omega)
          have HXX : Hid (x = d (o + i) ∧ gk - 1 < gk ∧ gk - 1 + (i + 1) = m) := Lib.hid ⟨by rw [hx, hj], by have := hg3.out; omega, by have := hg3.out; omega⟩
          clear hlt hx hg3 him hj b1 b2 b3 hc1 hc2
          go_wp2_with (at_builtin; refine step_app rfl (.tmp 250) (.tmp 257) rfl hO3.out rfl (UInt8.ofNat x) (x : Int) HX.out rfl HLk.out ?_; intro v1 w1 HO1)
          go_roundg (gk - 1)
          case measure => exact HXX.out.2.1
          case rel => exact ⟨i + 1, by first | rfl | go_num, Lib.hid HXX.out.2.2, by rw [seg, ← HXX.out.1, ← List.append_assoc]; exact HO1⟩
        have hi : i = m := by have := hg3.out; omega
        subst hi
        have g1 : ¬ (i : Int) < i := by omega
        have g2 : decide ((i : Int) < (i : Int)) = false := decide_eq_false g1
        clear hg3 him
        go_wp2_with fail
        clear g1 g2
        go_loopg [0, 261] tz (fun gn v0 v261 w' => ∃ t : Nat, v261 = .int .i64 t ∧ Hid (gn + t = tz) ∧ Hid (Out B w0 g nd d v0 (l ++ [46] ++ List.replicate k 48 ++ seg (fun i => d (o + i)) i ++ List.replicate t 48) w'))
        case atStart => exact ⟨0, rfl, Lib.hid rfl, by rw [show l ++ [46] ++ List.replicate k 48 ++ seg (fun i => d (o + i)) i ++ List.replicate 0 48 = l ++ [46] ++ List.replicate k 48 ++ seg (fun i => d (o + i)) i from List.append_nil _]; exact hO3⟩
        case round =>
          obtain ⟨t, rfl, hg4, hO4⟩ := hrel
          by_cases htz : t < tz
          · have g3 : (t : Int) < tz := by omega
            have g4 : decide ((t : Int) < (tz : Int)) = true := decide_eq_true g3
            have HLk : Hid ((l ++ [46] ++ List.replicate k 48 ++ seg (fun i => d (o + i)) i ++ List.replicate t 48).length ≤ 1000000) := Lib.hid (by rw [List.length_append, List.length_append, List.length_append, List.length_append, List.length_replicate, List.length_replicate, seg_length]; have := HLn.out; have := HB.out; simp only [List.length_cons, List.length_nil]; omega)
            have HXX : Hid (gk - 1 < gk ∧ gk - 1 + (t + 1) = tz) := Lib.hid ⟨by have := hg4.out; omega, by have := hg4.out; omega⟩
            have x1 : wrap64 ((t : Int) + 1) = (t : Int) + 1 := by have := HB.out; unfold wrap64; omega
            clear hg4 htz
            go_wp2_with (at_builtin; refine step_app rfl (.tmp 263) (.tmp 264) rfl hO4.out rfl 48 48 rfl rfl HLk.out ?_; intro v1 w1 HO1)
            go_roundg (gk - 1)
            case measure => exact HXX.out.1
            case rel => exact ⟨t + 1, by first | rfl | go_num, Lib.hid HXX.out.2, by rw [List.replicate_succ', ← List.append_assoc]; exact HO1⟩
          have ht : t = tz := by have := hg4.out; omega
          subst ht
          have g3 : ¬ (t : Int) < t := by omega
          have g4 : decide ((t : Int) < (t : Int)) = false := decide_eq_false g3
          clear hg4 htz
          have hfin := hO4.out
          have hTe : T = l ++ [46] ++ List.replicate k 48 ++ seg (fun i => d (o + i)) i ++ List.replicate t 48 := by rw [HTT.out]; simp
          rw [← hTe] at hfin
          have HF := Lib.hid hfin
          clear hfin hTe
          go_wp2_with fail
          go_ret
          exact ⟨_, rfl, HF.out⟩
  rw [if_neg h0, List.append_nil] at HT2
  have g1 : ¬ (0 : Int) < p := by omega
  have g2 : decide ((0 : Int) < (p : Int)) = false := decide_eq_false g1
  have HTT := Lib.hid HT2
  clear HT2 h0
  go_wp2_with fail
  go_ret
  exact ⟨_, rfl, by rw [HTT.out]; exact HO.out⟩
end Go.Proofs.YtjpiplplohapnaaGreatDoor
namespace Go.Proofs.YtjpiplplohapnaaGreatDoor
open Go.RowKit Go.Sort Go.Proofs.YtjpiplplohapnaaGreatDoorW.PrintWords Dc
set_option maxRecDepth 100000 in
set_option maxHeartbeats 4000000 in
theorem fmt_walk (w : World) (B g nd : Nat) (d : Nat → Nat) (v sv : Value) (ng : Bool) (dp : Int) (p c : Nat) (hO : Out B w g nd d v [] w) (hnd : nd ≤ 800) (hdp1 : -100000 ≤ dp) (hdp2 : dp ≤ 100000) (hp : p ≤ 30) (hd : ∀ i, i < nd → d i < 256)
    (hsv : 0 < nd → sv = .slice (some ⟨g, 0, none⟩) c c ∧ nd ≤ c ∧ c ≤ 800) (hsv0 : 0 < dp → 0 < nd) :
    Calls Tryz.prog 122 #[v, .bool ng, sv, .int .i64 dp, .int .i64 nd, .int .i64 p, .int .u8 102, .bool false] w (FePost B w g nd d (efT ng d nd dp p)) := by
  have HO := Lib.hid hO
  obtain ⟨l1, hl1⟩ : ∃ l1 : List UInt8, l1 = if ng then [45] else [] := ⟨_, rfl⟩
  obtain ⟨l2, hl2⟩ : ∃ l2 : List UInt8, l2 = if 0 < dp then seg d (min nd dp.toNat) ++ List.replicate (dp.toNat - min nd dp.toNat) 48 else [48] := ⟨_, rfl⟩
  have hT : ∃ T, T = efT ng d nd dp p := ⟨_, rfl⟩
  obtain ⟨T, hT⟩ := hT
  rw [← hT]
  have HT : Hid (T = l1 ++ (l2 ++ frT d nd dp p)) := Lib.hid (by rw [hT, hl1, hl2]; rfl)
  have HL1 := Lib.hid hl1
  have HL2 := Lib.hid hl2
  have HS := Lib.hid hsv
  have HD := Lib.hid hd
  have HR : Hid (nd ≤ 800 ∧ p ≤ 30 ∧ (0 < dp → 0 < nd)) := Lib.hid ⟨hnd, hp, hsv0⟩
  clear hO hl1 hl2 hT hsv hsv0 hd
  go_enter Tryz.func122, Tryz.ntmps122
  go_upto_if 178 with (fail)
  go_cut [0] (fun v0 w' => Hid (Out B w g nd d v0 l1 w'))
  case first =>
    cases ng
    · go_wp2_with fail
      go_meet
      case rel => rw [show l1 = [] from HL1.out]; exact HO
    go_wp2_with (at_builtin; refine step_app rfl (.tmp 179) (.tmp 180) rfl HO.out rfl 45 45 rfl rfl (by decide) ?_; intro v1 w1 HO1)
    go_meet
    case rel => rw [show l1 = [45] from HL1.out]; exact HO1
  have HO := hcut
  clear hcut
  go_step
  go_upto_if 183 with (fail)
  go_cut [0] (fun v0 w' => Hid (Out B w g nd d v0 (l1 ++ l2) w'))
  case first =>
    have HLen : Hid (l1.length ≤ 1) := Lib.hid (by rw [HL1.out]; split <;> simp)
    by_cases h0 : 0 < dp
    · obtain ⟨D, hD⟩ : ∃ D : Nat, dp = D := ⟨dp.toNat, by omega⟩
      subst hD
      have hn := HR.out.2.2 h0
      obtain ⟨hsv, hc1, hc2⟩ := HS.out hn
      subst hsv
      have hl2 := HL2.out
      rw [if_pos h0, Int.toNat_natCast] at hl2
      obtain ⟨m, hm⟩ : ∃ m, m = min nd D := ⟨_, rfl⟩
      obtain ⟨z, hz⟩ : ∃ z, z = D - m := ⟨_, rfl⟩
      rw [← hm, ← hz] at hl2
      have HL2 := Lib.hid hl2
      have e1 : min (nd : Int) (D : Int) = (m : Int) := by omega
      have e2 : (D : Int) - (m : Int) = (z : Int) := by omega
      have e2b : IntKind.i64.wrap ((D : Int) - (m : Int)) = (z : Int) := by rw [Go.IntKind.wrap_i64]; omega
      have e2c : wrap64 (z : Int) = (z : Int) := by unfold wrap64; omega
      have e3 : (m : Int) ≤ c := by omega
      have HB : Hid (m ≤ nd ∧ m ≤ 800 ∧ z ≤ 100000 ∧ nd ≤ c ∧ c ≤ 800) := Lib.hid ⟨by omega, by omega, by omega, hc1, hc2⟩
      clear hl2 hm hz hn hdp1 hdp2 HL1 hc1
      go_wp2_with fail
      go_loopg [0, 191] m (fun gn v0 v191 w' => ∃ i : Nat, v191 = .int .i64 i ∧ Hid (gn + i = m) ∧ Hid (Out B w g nd d v0 (l1 ++ seg d i) w'))
      case atStart => exact ⟨0, rfl, Lib.hid rfl, by rw [show l1 ++ seg d 0 = l1 from List.append_nil _]; exact HO⟩
      case round =>
        obtain ⟨i, rfl, hg, hO⟩ := hrel
        by_cases him : i < m
        · have g1 : (i : Int) < m := by omega
          have g2 : decide ((i : Int) < (m : Int)) = true := decide_eq_true g1
          have hin : i < nd := by have := HB.out; omega
          have hlt := HD.out i hin
          have cb := hO.out.cell i hin
          obtain ⟨x, hx⟩ : ∃ x, x = d i := ⟨_, rfl⟩
          rw [← hx] at cb hlt
          have HX : Hid (((UInt8.ofNat x).toNat : Int) = (x : Int)) := Lib.hid (by rw [UInt8.toNat_ofNat']; omega)
          have HLn : Hid ((l1 ++ seg d i).length ≤ 1000000) := Lib.hid (by rw [List.length_append, seg_length]; have := HLen.out; have := HB.out; omega)
          have HXX : Hid (x = d i ∧ gk - 1 < gk ∧ gk - 1 + (i + 1) = m) := Lib.hid ⟨hx, by have := hg.out; omega, by have := hg.out; omega⟩
          clear hlt hx hg him hin
          go_wp2_with (at_builtin; refine step_app rfl (.tmp 195) (.tmp 197) rfl hO.out rfl (UInt8.ofNat x) (x : Int) HX.out rfl HLn.out ?_; intro v1 w1 HO1)
          go_roundg (gk - 1)
          case measure => exact HXX.out.2.1
          case rel => exact ⟨i + 1, by first | rfl | go_num, Lib.hid HXX.out.2.2, by rw [seg, ← HXX.out.1, ← List.append_assoc]; exact HO1⟩
        have hi : i = m := by have := hg.out; omega
        subst hi
        have g1 : ¬ (i : Int) < i := by omega
        have g2 : decide ((i : Int) < (i : Int)) = false := decide_eq_false g1
        clear hg him
        go_wp2_with fail
        clear g1 g2 e1 e3
        go_loopg [0, 203] z (fun gn v0 v203 w' => ∃ k : Nat, v203 = .int .i64 k ∧ Hid (gn + k = z) ∧ Hid (Out B w g nd d v0 (l1 ++ seg d i ++ List.replicate k 48) w'))
        case atStart => exact ⟨0, rfl, Lib.hid rfl, by rw [show l1 ++ seg d i ++ List.replicate 0 48 = l1 ++ seg d i from List.append_nil _]; exact hO⟩
        case round =>
          obtain ⟨k, rfl, hg2, hO2⟩ := hrel
          by_cases hkz : k < z
          · have g3 : (k : Int) < z := by omega
            have g4 : decide ((k : Int) < (z : Int)) = true := decide_eq_true g3
            have HLn : Hid ((l1 ++ seg d i ++ List.replicate k 48).length ≤ 1000000) := Lib.hid (by rw [List.length_append, List.length_append, seg_length, List.length_replicate]; have := HLen.out; have := HB.out; omega)
            have HXX : Hid (gk - 1 < gk ∧ gk - 1 + (k + 1) = z) := Lib.hid ⟨by have := hg2.out; omega, by have := hg2.out; omega⟩
            have x1 : wrap64 ((k : Int) + 1) = (k : Int) + 1 := by have := HB.out; unfold wrap64; omega
            clear hg2 hkz
            go_wp2_with (at_builtin; refine step_app rfl (.tmp 205) (.tmp 206) rfl hO2.out rfl 48 48 rfl rfl HLn.out ?_; intro v1 w1 HO1)
            go_roundg (gk - 1)
            case measure => exact HXX.out.1
            case rel => exact ⟨k + 1, by first | rfl | go_num, Lib.hid HXX.out.2, by rw [List.replicate_succ', ← List.append_assoc]; exact HO1⟩
          have hk : k = z := by have := hg2.out; omega
          subst hk
          have g3 : ¬ (k : Int) < k := by omega
          have g4 : decide ((k : Int) < (k : Int)) = false := decide_eq_false g3
          clear hg2 hkz
          go_wp2_with fail
          go_meet
          case rel => rw [HL2.out, ← List.append_assoc]; exact hO2
    have hl2 := HL2.out
    rw [if_neg h0] at hl2
    have HL2 := Lib.hid hl2
    have g1 : ¬ (0 : Int) < dp := h0
    have g2 : decide ((0 : Int) < dp) = false := decide_eq_false g1
    have HLn : Hid (l1.length ≤ 1000000) := Lib.hid (by have := HLen.out; omega)
    clear hl2
    go_wp2_with (at_builtin; refine step_app rfl (.tmp 209) (.tmp 210) rfl HO.out rfl 48 48 rfl rfl HLn.out ?_; intro v1 w1 HO1)
    go_meet
    case rel => rw [HL2.out]; exact HO1
  have HLn : Hid ((l1 ++ l2).length ≤ 200000) := Lib.hid (by
    rw [List.length_append]
    have h1 : l1.length ≤ 1 := by rw [HL1.out]; split <;> simp
    have h2 : l2.length ≤ 100001 := by
      rw [HL2.out]
      split
      · rw [List.length_append, seg_length, List.length_replicate]; omega
      simp
    omega)
  have HT2 : Hid (T = (l1 ++ l2) ++ frT d nd dp p) := Lib.hid (by rw [HT.out, List.append_assoc])
  go_step
  exact fmt_frac _ B g nd d _ sv ng dp p c (l1 ++ l2) w hcut hnd hdp1 hdp2 hp HD HS HLn T HT2 _
end Go.Proofs.YtjpiplplohapnaaGreatDoor
namespace Go.Proofs.YtjpiplplohapnaaGreatDoor
open Go.RowKit Go.Proofs.YtjpiplplohapnaaGreatDoorW.PrintWords Go.Proofs.YtjpiplplohapnaaGreatDoorW.PrintMore Nr Us Dc
theorem log10_f (x : Int) (h1 : -100000 < x) (h2 : x < 100000) : PText.strconv_log10Pow2.f x = some (l2 x) := by
  unfold PText.strconv_log10Pow2.f l2
  rw [show wrap64 (x * 78913) = x * 78913 by unfold wrap64; omega]
theorem ten18 (n : Nat) (h : n ≤ 18) : 1 ≤ 10 ^ n ∧ 10 ^ n ≤ 1000000000000000000 := by
  have h1 : 0 < 10 ^ n := Nat.pow_pos (by decide)
  have h2 : 10 ^ n ≤ 10 ^ 18 := Nat.pow_le_pow_right (by decide) h
  have h3 : (10 : Nat) ^ 18 = 1000000000000000000 := by decide
  omega
theorem unmin10_f (y : Nat) (h1 : 1 ≤ y) (h2 : y ≤ 1000000000000000000) : PText.strconv_unmin.f (y : Int) = some ((4 * y - 2 : Nat) : Int) := by
  unfold PText.strconv_unmin.f
  rw [IntWalk.u64_in ((y : Int) * 4) (by omega), IntWalk.u64_in _ (by omega)]
  congr 1; omega
theorem stick_or2 (q : Nat) (hq : q < 18446744073709551616) (a b : Bool) : Go.bits .or .u64 (Go.bits .or .u64 (q : Int) ((if a then 1 else 0 : Nat) : Int)) ((if b then 1 else 0 : Nat) : Int) = ((stick q (a || b) : Nat) : Int) := by
  have e1 : Go.bits .or .u64 (q : Int) ((if a then 1 else 0 : Nat) : Int) = ((stick q a : Nat) : Int) := by
    rw [Go.u64_or_nat q _ hq (by split <;> omega), or1_nat _ _ (by split <;> omega)]
    unfold stick
    cases a <;> simp
  have hs : stick q a < 18446744073709551616 := by unfold stick; split <;> omega
  rw [e1, Go.u64_or_nat _ _ hs (by split <;> omega), or1_nat _ _ (by split <;> omega)]
  unfold stick
  cases a <;> cases b <;> simp
  omega
theorem div_f (u : Nat) (h : u < 18446744073709551616) : PText.strconv_unrounded_div.f (u : Int) 10 = some ((stick (u / 10) (decide (u % 2 = 1) || decide (u % 10 ≠ 0)) : Nat) : Int) := by
  unfold PText.strconv_unrounded_div.f PText.strconv_unrounded.f
  rw [if_neg (by decide)]
  have e1 : Int.tmod (u : Int) 10 = ((u % 10 : Nat) : Int) := by rw [Int.tmod_eq_emod_of_nonneg (by omega)]; omega
  have e2 : Int.tdiv (u : Int) 10 = ((u / 10 : Nat) : Int) := by rw [Int.tdiv_eq_ediv_of_nonneg (by omega)]; omega
  have e3 : ((u % 2 : Nat) : Int) = ((if decide (u % 2 = 1) then 1 else 0 : Nat) : Int) := by
    by_cases c : u % 2 = 1
    · rw [decide_eq_true c, c]; rfl
    rw [decide_eq_false c, show u % 2 = 0 by omega]; rfl
  rw [e1, e2, IntWalk.u64_in _ (by omega), and1_bits u h, e3]
  have e4 : (((u % 10 : Nat) : Int) != 0) = decide (u % 10 ≠ 0) := by
    by_cases c : u % 10 = 0
    · rw [c]; rfl
    rw [decide_eq_true c]; simp; omega
  rw [e4]
  have e5 : (if decide (u % 10 ≠ 0) = true then some (1 : Int) else some 0) = some ((if decide (u % 10 ≠ 0) then 1 else 0 : Nat) : Int) := by
    cases decide (u % 10 ≠ 0) <;> rfl
  rw [e5, Option.bind_some, stick_or2 _ (by omega)]
theorem u10_at {w : World} (h : Laid w) (n : Nat) (hn : n < 20) : w.cell? ⟨4, n, none⟩ = some (.int .u64 ((10 ^ n : Nat) : Int)) := by
  rw [World.var?_cell gU10 h.u10 n, List.getElem?_toArray, List.getElem?_map]
  unfold Lib.pow10Tab
  rw [List.getElem?_map, List.getElem?_range hn]
  rfl
def FwPost (m c : Nat) (x : Int) (w : World) (e : Ending) (w' : World) : Prop :=
  ∃ Q : Nat, Rhe (wN m x * 10 ^ c) (2 ^ wR x) Q ∧ Q ≤ 2305843009213693953 ∧ e = .returned (.tuple #[.int .u64 (Q : Int), .int .i64 (-(c : Int))]) ∧ Below w.heap.size w w'
set_option maxRecDepth 100000 in
set_option maxHeartbeats 2000000 in
theorem fixed_walk (w : World) (hL : Laid w) (x : Int) (c m : Nat) (hc : c ≤ 30) (hm1 : 4503599627370496 ≤ m) (hm2 : m < 9007199254740992) (h1 : 1 ≤ dgF x c) (h18 : dgF x c ≤ 18) :
    Calls Tryz.prog 127 #[.int .u64 ((m * 2048 : Nat) : Int), .int .i64 (x - 63), .int .i64 (dgF x c), .int .i64 (c : Int), .int .u8 102] w (FwPost m c x w) := by
  obtain ⟨hk0, hs0, hs1, hP31, -⟩ := fast_ok hc h1 h18
  have hxr : -102 ≤ x ∧ x ≤ 58 := by
    unfold dgF l2 at h1 h18
    by_cases h : 0 ≤ x
    · rw [if_pos h] at h1 h18; omega
    rw [if_neg h] at h1 h18; omega
  obtain ⟨n, hn⟩ : ∃ n : Nat, dgF x c = n := ⟨(dgF x c).toNat, by omega⟩
  obtain ⟨i, hi⟩ : ∃ i : Nat, fP x c + 348 = i := ⟨(fP x c + 348).toNat, by omega⟩
  have hlen := rows_len
  obtain ⟨r, hr⟩ : ∃ r, Pinned.pow10Rows[i]? = some r := ⟨_, List.getElem?_eq_getElem (by omega)⟩
  obtain ⟨hu, hcase⟩ := fast_main hc hm1 hm2 h1 h18 hr (by omega)
  obtain ⟨hrow, hr1, hr2, -⟩ := row_ok hr
  have hrlt : r.2 < 18446744073709551616 := hrow.small
  have hpos : 0 < m * 2048 * r.1 / 18446744073709551616 := by
    have a1 : 9223372036854775808 * 9223372036854775808 ≤ m * 2048 * r.1 := Nat.mul_le_mul (by omega) hr1
    exact Nat.div_pos (by omega) (by decide)
  have hl2 : -31 ≤ l2 x ∧ l2 x ≤ 18 := by unfold l2; omega
  have HLog := Lib.hid (log10_calls x (l2 x) (log10_f x (by omega) (by omega)))
  have HLog2 := Lib.hid (log2_calls (fP x c) (lp (fP x c)) (log2_f _ (by omega) (by omega)))
  have hlpr := lp_range (fP x c) (by omega) (by omega)
  obtain ⟨s, hs⟩ : ∃ s : Nat, fS x c = s := ⟨(fS x c).toNat, by omega⟩
  have hsv : -((x - 63) + lp (fP x c) + 3) = (s : Int) := by rw [← hs]; unfold fS; omega
  have HPre := Lib.hid (fun (W : World) (hLW : Laid W) (g B : Nat) hB hg h17 => prescale_walk W hLW g B hB hg h17 (x - 63) (lp (fP x c)) (fP x c) i r hr hi (by omega) (by omega) (by omega) (by omega))
  rw [hsv] at HPre
  have HU := Lib.hid (fun W g hg => uscale_walk W g (m * 2048) r.1 r.2 s (by omega) (by omega) hrlt (by omega) hpos hg)
  have hfu : fU x c m r = usc (m * 2048) r.1 r.2 s := by unfold fU; rw [hs, Int.toNat_natCast]
  rw [hfu, hn, Int.toNat_natCast] at hcase
  rw [hfu] at hu
  have hPx : fP x c = (n : Int) - 1 - l2 x := by unfold fP; rw [hn]
  rw [hn]
  generalize usc (m * 2048) r.1 r.2 s = u at *
  generalize m * 2048 = M at *
  obtain ⟨t1, t2⟩ := ten18 n (by omega)
  have HM := Lib.hid (unmin_calls ((10 ^ n : Nat) : Int) _ (unmin10_f (10 ^ n) t1 t2))
  have HC10 := Lib.hid (fun W (hLW : Laid W) => u10_at hLW n (by omega))
  have HDv := Lib.hid (div_calls (u : Int) 10 _ (div_f u (by omega)))
  have hst : stick (u / 10) (decide (u % 2 = 1) || decide (u % 10 ≠ 0)) ≤ 922337203685477581 + 1 := by unfold stick; split <;> omega
  generalize stick (u / 10) (decide (u % 2 = 1) || decide (u % 10 ≠ 0)) = t at *
  have HR1 := Lib.hid (round_calls (t : Int) _ (round_f t (by omega)))
  have HR0 := Lib.hid (round_calls (u : Int) _ (round_f u (by omega)))
  have hrt : rnd t ≤ 2305843009213693953 := by unfold rnd; omega
  have hru : rnd u ≤ 2305843009213693953 := by unfold rnd; omega
  generalize 10 ^ n = y at *
  obtain ⟨U, hU⟩ : ∃ U : Nat, U = 4 * y - 2 := ⟨_, rfl⟩
  rw [← hU] at HM hcase
  have hUb : U ≤ 4000000000000000000 := by omega
  generalize fP x c = P at *
  generalize lp P = lpv at *
  have e1 : x - 63 + 63 = x := by omega
  have e2 : (n : Int) - 1 - l2 x = P := hPx.symm
  generalize l2 x = lx at *
  have n18 : (n : Int) < 20 := by omega
  obtain ⟨rh, rl⟩ := r
  dsimp only at hr1 hr2 hrlt HPre HU
  have HL := Lib.hid hL
  have HCase := Lib.hid hcase
  have HK : Hid (-31 ≤ lx ∧ lx ≤ 18 ∧ P ≤ 31 ∧ 0 ≤ P) := Lib.hid ⟨hl2.1, hl2.2, hP31, by omega⟩
  have e3 : wrap64 ((n : Int) - 1) = (n : Int) - 1 := by unfold wrap64; omega
  have e4 : wrap64 P = P := by unfold wrap64; omega
  have e5 : wrap64 ((n : Int) - 1 - lx) = P := by rw [e2, e4]
  have e6 : IntKind.i64.wrap ((n : Int) - 1 - lx) = P := by rw [e2, Go.IntKind.wrap_i64]; omega
  clear hcase hk0 hs0 hs1 hlen hr hrow hpos hfu hs hsv hi hn hU hPx hl2 hr1 hr2 hrlt hst hu t1 t2 hL h1 h18 hm1 hm2 hlpr hUb
  go_enter Tryz.func127, Tryz.ntmps127
  go_wp2_with fail
  refine (HLog.out _).mono ?_
  rintro e w1 ⟨rfl, hb1⟩
  clear HLog
  have HB1 := Lib.hid hb1
  clear hb1
  go_wp2_with fail
  refine (HLog2.out _).mono ?_
  rintro e w2 ⟨rfl, hb2⟩
  clear HLog2
  have hL1 := HL.out.below HB1.out
  have hg2 : w2.heap[w1.heap.size]? = some (.cells #[.int .u64 0, .int .u64 0, .int .i64 0] 203 (0, 0)) := blk_below (blk_new _ _) hb2
  have hb02 : Below w.heap.size w w2 := HB1.out.trans ((((Below.refl _ _).alloc (Nat.le_refl _) _).trans (hb2.mono (by simp))).mono HB1.out.size)
  have HP := Lib.hid (HPre.out w2 (HL.out.below hb02) w1.heap.size w.heap.size HB1.out.size hg2 (by have := hL1.size; omega))
  have HB2 := Lib.hid hb02
  clear HPre hb2 hg2 hb02 hL1 HB1
  go_wp2_with fail
  refine HP.out.mono ?_
  rintro e w3 ⟨rfl, hb3, hg3⟩
  have HB3 := Lib.hid (HB2.out.trans hb3)
  have HUU := Lib.hid (HU.out w3 w1.heap.size hg3)
  clear HP HU hb3 hg3 HB2
  go_wp2_with fail
  refine HUU.out.mono ?_
  rintro e w4 ⟨rfl, hb4⟩
  have HB4 := Lib.hid (HB3.out.trans (hb4.mono HB3.out.size))
  clear HUU hb4 HB3
  have cu := HC10.out w4 (HL.out.below HB4.out)
  clear HC10
  go_wp2_with fail
  refine (HM.out _).mono ?_
  rintro e w5 ⟨rfl, hb5⟩
  have HB5 := Lib.hid (HB4.out.trans (hb5.mono HB4.out.size))
  clear HM hb5 HB4 cu
  rcases HCase.out with ⟨hP, hlt, hrh⟩ | ⟨hP, hrh⟩
  · have c1 : ¬ (U : Int) ≤ u := by omega
    have c2 : decide ((U : Int) ≤ (u : Int)) = false := decide_eq_false c1
    have HRh := Lib.hid hrh
    have c3 : ¬ (c : Int) < c := by omega
    have c4 : decide ((c : Int) < (c : Int)) = false := decide_eq_false c3
    have x1 : wrap64 (-(c : Int)) = -(c : Int) := by unfold wrap64; omega
    have HRU := Lib.hid hru
    subst hP
    clear HCase hlt hrh hru e2 e5 e6 hrt
    go_wp2_with fail
    refine wp_loop_rounds 1 ?_
    rw [rounds_succ]
    go_wp2_with fail
    refine (HR0.out _).mono ?_
    rintro e w6 ⟨rfl, hb6⟩
    have HB6 := Lib.hid (HB5.out.trans (hb6.mono HB5.out.size))
    clear HR0 hb6 HB5
    go_wp2_with fail
    go_ret2
    exact ⟨rnd u, HRh.out, HRU.out, rfl, HB6.out⟩
  have HRh := Lib.hid hrh
  have HRU := Lib.hid hrt
  have c3 : ¬ (c : Int) < c := by omega
  have c4 : decide ((c : Int) < (c : Int)) = false := decide_eq_false c3
  have x1 : wrap64 (-(c : Int)) = -(c : Int) := by unfold wrap64; omega
  have x2 : wrap64 (P - 1) = (c : Int) := by unfold wrap64; omega
  have x3 : P - 1 = (c : Int) := by omega
  have c5 : (c : Int) < P := by omega
  have c6 : decide ((c : Int) < P) = true := decide_eq_true c5
  by_cases hge : (U : Int) ≤ u
  · have c2 : decide ((U : Int) ≤ (u : Int)) = true := decide_eq_true hge
    clear HCase hrh hru e2 e5 e6 hrt hP
    go_wp2_with fail
    refine (HDv.out _).mono ?_
    rintro e w6 ⟨rfl, hb6⟩
    have HB6 := Lib.hid (HB5.out.trans (hb6.mono HB5.out.size))
    clear HDv hb6 HB5
    go_wp2_with fail
    refine wp_loop_rounds 1 ?_
    rw [rounds_succ]
    go_wp2_with fail
    refine (HR1.out _).mono ?_
    rintro e w7 ⟨rfl, hb7⟩
    have HB7 := Lib.hid (HB6.out.trans (hb7.mono HB6.out.size))
    clear HR1 hb7 HB6
    go_wp2_with fail
    go_ret2
    exact ⟨rnd t, HRh.out, HRU.out, rfl, HB7.out⟩
  have c2 : decide ((U : Int) ≤ (u : Int)) = false := decide_eq_false hge
  clear HCase hrh hru e2 e5 e6 hrt hP
  go_wp2_with fail
  refine wp_loop_rounds 2 ?_
  rw [rounds_succ]
  go_wp2_with fail
  refine (HDv.out _).mono ?_
  rintro e w6 ⟨rfl, hb6⟩
  have HB6 := Lib.hid (HB5.out.trans (hb6.mono HB5.out.size))
  clear HDv hb6 HB5
  go_wp2_with fail
  rw [rounds_succ]
  go_wp2_with fail
  refine (HR1.out _).mono ?_
  rintro e w7 ⟨rfl, hb7⟩
  have HB7 := Lib.hid (HB6.out.trans (hb7.mono HB6.out.size))
  clear HR1 hb7 HB6
  go_wp2_with fail
  go_ret2
  exact ⟨rnd t, HRh.out, HRU.out, rfl, HB7.out⟩
end Go.Proofs.YtjpiplplohapnaaGreatDoor
namespace Go.Proofs.YtjpiplplohapnaaGreatDoor
open Go.RowKit Go.Sort Go.Proofs.YtjpiplplohapnaaGreatDoorW.PrintWords Dc
def dgs (Q L i : Nat) : Nat := 48 + Q / 10 ^ (L - 1 - i) % 10
theorem putRow_block {w : World} {g : Nat} {cur : Array Value} {T : TypeId} (dk : Array UInt8) (h : w.heap[g]? = some (.cells cur T (0, 0))) :
    (putRow encB w g 0 dk).heap[g]? = some (.cells (putCells encB 0 dk cur) T (0, 0)) := by
  simp [putRow, mapBlock, Array.getElem?_modify, h, onCells]
theorem putCells_at {cur : Array Value} (dk : Array UInt8) (i : Nat) (hi : i < dk.size) (hc : i < cur.size) : (putCells encB 0 dk cur)[i]? = some (encB dk[i]!) := by
  simp only [putCells, Array.getElem?_mapIdx, Array.getElem?_eq_getElem hc, Option.map_some]
  rw [if_pos (by omega)]
  simp
set_option maxRecDepth 100000 in
set_option maxHeartbeats 1000000 in
theorem setDigits_walk (w : World) (g B : Nat) (hB : B ≤ g) (hg : w.heap[g]? = some (.cells (Array.replicate 24 (.int .u8 0)) 126 (0, 0))) (Q L c : Nat) (h2 : Q < 10 ^ L) (hL0 : 1 ≤ L) (hL : L ≤ 20) (hc : c ≤ 30) (hQ : Q < 18446744073709551616) :
    Calls Tryz.prog 125 #[.slice (some ⟨g, 0, none⟩) 24 24, .int .u64 (Q : Int), .int .i64 (-(c : Int)), .int .i64 (L : Int)] w fun e w' =>
      e = .returned (.tuple #[.int .i64 ((L : Int) - c), .int .i64 ((tl (dgs Q L) L : Nat) : Int)]) ∧ Below B w w' ∧ ∃ cs : Array Value, w'.heap[g]? = some (.cells cs 126 (0, 0)) ∧ ∀ i, i < L → cs[i]? = some (.int .u8 (dgs Q L i : Nat)) := by
  have hH : Holds encB w g 0 (Array.replicate L (0 : UInt8)) := by
    intro j hj
    have hj' : j < L := by simpa using hj
    refine ⟨?_, by simpa using blk_frozen hg (0 + j)⟩
    rw [show (0 : Nat) + j = j by omega]
    refine (blk_cell hg j).trans ?_
    rw [Array.getElem?_replicate, if_pos (by omega)]
    simp [hj']
  have HF := Lib.hid (Tryz.internal_strconv_formatBase10 g 0 24 Q (Array.replicate L 0) w hH (by simpa using h2) hQ (by simp; omega))
  rw [Array.size_replicate] at HF
  have k1 : (L : Int) ≤ 24 := by omega
  have k2 : (0 : Int) ≤ L := by omega
  have k3 : wrap64 ((L : Int) - c) = (L : Int) - c := by unfold wrap64; omega
  have k4 : (L : Int) + -(c : Int) = (L : Int) - c := by omega
  have k5 : wrap64 ((L : Int) + -(c : Int)) = (L : Int) - c := by rw [k4, k3]
  obtain ⟨D, hD⟩ : ∃ D : Int, D = (L : Int) - c := ⟨_, rfl⟩
  rw [← hD] at k3 k4 k5 ⊢
  obtain ⟨d, hd⟩ : ∃ d, d = dgs Q L := ⟨_, rfl⟩
  rw [← hd]
  have HDd := Lib.hid hd
  clear hd
  have HK3 := Lib.hid k3
  have HR : Hid (1 ≤ L ∧ L ≤ 20) := Lib.hid ⟨hL0, hL⟩
  clear hH hD h2 hL0 hL hc hQ
  go_enter Tryz.func125, Tryz.ntmps125
  go_wp2_with fail
  refine HF.out.mono ?_
  rintro e w1 ⟨rfl, n, v', dk, hw1, hFm⟩
  have hsz : dk.size = L := hFm.size
  have hbw : Below B w w1 := by rw [hw1]; exact below_putRow2 (Below.refl _ _) hB
  obtain ⟨cs, hcs⟩ : ∃ cs : Array Value, cs = putCells encB 0 dk (Array.replicate 24 (.int .u8 0)) := ⟨_, rfl⟩
  have hblk : w1.heap[g]? = some (.cells cs 126 (0, 0)) := by rw [hw1, hcs]; exact putRow_block dk hg
  have hat : ∀ i, i < L → cs[i]? = some (.int .u8 (d i : Nat)) := by
    intro i hi
    have hLr := HR.out
    rw [HDd.out, hcs, putCells_at dk i (by omega) (by simp; omega), hFm.done i (by omega) hi]
    unfold encB dgs Lib.dg
    rw [UInt8.toNat_ofNat', Nat.mod_eq_of_lt (by omega)]
  have HB := Lib.hid hbw
  have HA := Lib.hid (And.intro hblk hat)
  clear hFm hsz hbw hcs hblk hat hw1 HF hg
  go_wp2_with fail
  clear k1 k2 k4 k5
  go_loopg [3] L (fun gn v3 w' => v3 = .int .i64 (gn : Int) ∧ Hid (tl d gn = tl d L ∧ gn ≤ L) ∧ w1 = w')
  case atStart => exact ⟨rfl, Lib.hid ⟨rfl, Nat.le_refl _⟩, rfl⟩
  case round =>
    obtain ⟨rfl, hH, hww⟩ := hrel
    subst hww
    obtain ⟨p1, p2⟩ := hH.out
    have hLr := HR.out
    cases gk with
    | zero =>
      have hz : tl d L = 0 := p1.symm
      have HZ := Lib.hid hz
      clear hz hH p1 p2 hLr
      go_wp2_with fail
      go_ret2
      exact ⟨by rw [HZ.out]; show Ending.returned (.tuple #[.int .i64 (wrap64 D), .int .i64 ((0 : Nat) : Int)]) = _; rw [HK3.out], HB.out, cs, HA.out.1, HA.out.2⟩
    | succ j =>
      obtain ⟨m, hm⟩ : ∃ m : Int, m = ((j + 1 : Nat) : Int) := ⟨_, rfl⟩
      have cb : w1.cell? ⟨g, j, none⟩ = some (.int .u8 (d j : Nat)) := (blk_cell HA.out.1 j).trans (HA.out.2 j (by omega))
      have m1 : (0 : Int) < m := by omega
      have m1b : decide ((0 : Int) < m) = true := decide_eq_true m1
      have m3 : m - 1 = (j : Int) := by omega
      have m4 : (j : Int) < 24 := by omega
      have m5 : wrap64 (j : Int) = (j : Int) := by unfold wrap64; omega
      obtain ⟨b, hb⟩ : ∃ b, b = d j := ⟨_, rfl⟩
      rw [← hb] at cb
      have HM := Lib.hid hm
      rw [← hm]
      by_cases h48 : b = 48
      · have f1 : ((b : Int) == 48) = true := by simp [h48]
        have HX : Hid (tl d j = tl d L ∧ j ≤ L ∧ j < j + 1) := Lib.hid ⟨by rw [← p1, tl, if_pos (by rw [← hb]; exact h48)], by omega, by omega⟩
        clear hH p1 p2 hLr hb h48 hm
        go_wp2_with fail
        go_roundg j
        case measure => exact HX.out.2.2
        case rel => exact ⟨by first | rfl | go_num, Lib.hid ⟨HX.out.1, HX.out.2.1⟩, rfl⟩
      have f1 : ((b : Int) == 48) = false := by simp; omega
      have HX : Hid (tl d L = j + 1) := Lib.hid (by rw [← p1, tl, if_neg (by rw [← hb]; exact h48)])
      clear hH p1 p2 hLr hb h48 hm
      go_wp2_with fail
      go_ret2
      exact ⟨by rw [HX.out, ← HM.out]; show Ending.returned (.tuple #[.int .i64 (wrap64 D), .int .i64 m]) = _; rw [HK3.out], HB.out, cs, HA.out.1, HA.out.2⟩
end Go.Proofs.YtjpiplplohapnaaGreatDoor
