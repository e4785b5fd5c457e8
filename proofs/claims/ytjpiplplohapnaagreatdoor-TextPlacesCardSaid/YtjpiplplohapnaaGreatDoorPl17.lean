/- TextPlaces: a whole divided by two, printed and read again, at every whole and every number of places. Conditions: those of the given card alone. -/
import Derived.Test.YtjpiplplohapnaaGreatDoorPl16
import Derived.Deep.RegionWith
import Derived.Test.YtjpiplplohapnaaGreatDoorCards
import Derived.SizedLaws
import Derived.Lay
import Derived.SevenTiedAt
set_option linter.unusedVariables false
set_option linter.unusedSimpArgs false
namespace Go.Proofs.YtjpiplplohapnaaGreatDoor
open Go.RowKit Go.Sort Go.Proofs.YtjpiplplohapnaaGreatDoorW.PrintWords Dc Us Nr
def FtPost (B c m : Nat) (x : Int) (ng : Bool) (w0 : World) (e : Ending) (w' : World) : Prop :=
  ∃ (v' : Value) (Q : Nat), Rhe (wN m x * 10 ^ c) (2 ^ wR x) Q ∧ e = .returned v' ∧ w'.ownsRow B 5 1 v' (fixT ng Q c).length ((fixT ng Q c).map encB) ∧ Below B w0 w'
theorem own_below {w w' : World} {B : Nat} {v : Value} {n : Nat} {xs : List Value} (h : w.ownsRow B 5 1 v n xs) (hb : Below w.heap.size w w') : w'.ownsRow B 5 1 v n xs :=
  h.kept (row := none) ⟨hb.os, hb.tape, hb.output, hb.size, fun k hk _ => hb.block k hk⟩ (by cases hv : v.ownBlock <;> simp)
theorem own_below2 {w w' : World} {B g : Nat} {v : Value} (h : w.ownsRow B 5 1 v 0 []) (hv : ∀ k, v.ownBlock = some k → k < g) (hb : Below g w w') : w'.ownsRow B 5 1 v 0 [] := by
  refine ⟨h.1, ?_⟩
  rcases h.2 with h2 | ⟨g', cap, cur, rfl, h3, h4, h5⟩
  · exact .inl h2
  exact .inr ⟨g', cap, cur, rfl, h3, (hb.block g' (hv g' rfl)).trans h4, h5⟩
set_option maxRecDepth 100000 in
theorem and2047i : ∀ k : Fin 4096, Go.bits .and .i64 (k.val : Int) 2047 = ((k.val % 2048 : Nat) : Int) := by decide +kernel
def ftX (b : Nat) : Int := (if sz b = 0 then -1074 else spE (sz b)) + 52
def ftM (b : Nat) : Nat := if sz b = 0 then 0 else spM (sz b)
structure FtF (b N E4 E M : Nat) : Prop where
  s1 : (b : Int) / 9223372036854775808 = (N : Int)
  s2 : (b : Int) / 4503599627370496 = (E4 : Int)
  a0 : wrap64 (E4 : Int) = (E4 : Int)
  a1 : Go.bits .and .i64 (E4 : Int) 2047 = (E : Int)
  a2 : Go.bits .and .u64 (b : Int) 4503599627370495 = (M : Int)
  a3 : Go.bits .or .u64 (M : Int) 4503599627370496 = ((M + 4503599627370496 : Nat) : Int)
  n1 : ((N : Int) != 0) = neg b
  e1 : ((E : Int) == 2047) = false
  hx : ftX b = (if E = 0 then 1 else (E : Int)) - 1023
  hm : ftM b = if E = 0 then M else M + 4503599627370496
  hE : E < 2047
  hM : M < 4503599627370496
theorem ft_x {b E M : Nat} (hE : E = b % 9223372036854775808 / 4503599627370496) (hM : M = b % 9223372036854775808 % 4503599627370496) : ftX b = (if E = 0 then 1 else (E : Int)) - 1023 ∧ ftM b = if E = 0 then M else M + 4503599627370496 := by
  unfold ftX ftM spE spM sz
  generalize b % 9223372036854775808 = u at *
  by_cases h0 : u = 0
  · have hE0 : E = 0 := by omega
    rw [if_pos h0, if_pos h0, if_pos hE0, if_pos hE0]
    exact ⟨rfl, by omega⟩
  rw [if_neg h0, if_neg h0, if_neg h0]
  by_cases h1 : u < 4503599627370496
  · have hE0 : E = 0 := by omega
    rw [if_pos h1, if_pos h1, if_pos hE0, if_pos hE0]
    exact ⟨rfl, by omega⟩
  have hE0 : ¬ E = 0 := by omega
  rw [if_neg h1, if_neg h1, if_neg hE0, if_neg hE0]
  exact ⟨by omega, by omega⟩
theorem ft_facts (b : Nat) (hb : b < 18446744073709551616) (hsz : sz b < 9218868437227405312) : ∃ N E4 E M, FtF b N E4 E M := by
  have hE : sz b / 4503599627370496 = b % 9223372036854775808 / 4503599627370496 := rfl
  have hM : sz b % 4503599627370496 = b % 9223372036854775808 % 4503599627370496 := rfl
  obtain ⟨h1, h2⟩ := ft_x hE hM
  have h3 : sz b / 4503599627370496 = b / 4503599627370496 % 2048 := by rw [hE]; clear h1 h2 hE hM hsz; omega
  have h4 : sz b % 4503599627370496 = b % 4503599627370496 := by rw [hM]; clear h1 h2 h3 hE hM hsz; omega
  have h5 : b / 4503599627370496 < 4096 := by clear h1 h2 h3 h4 hE hM hsz; omega
  have h6 : sz b / 4503599627370496 < 2047 := by clear h1 h2 h3 h4 h5 hE hM; omega
  refine ⟨b / 9223372036854775808, b / 4503599627370496, sz b / 4503599627370496, sz b % 4503599627370496, ⟨by omega, by omega, by unfold wrap64; omega, ?_, ?_, (norm_facts (sz b) hsz).2, ?_, ?_, h1, h2, h6, Nat.mod_lt _ (by decide)⟩⟩
  · rw [h3]; exact and2047i ⟨_, h5⟩
  · rw [h4, show ((4503599627370495 : Int)) = ((4503599627370495 : Nat) : Int) from rfl, Go.u64_and_nat b 4503599627370495 hb (by decide)]
    exact congrArg Nat.cast (Nat.and_two_pow_sub_one_eq_mod b 52)
  · unfold neg
    by_cases h : 9223372036854775808 ≤ b
    · rw [decide_eq_true h]; exact bne_iff_ne.2 (by omega)
    rw [decide_eq_false h, show b / 9223372036854775808 = 0 by omega]; rfl
  simp; omega
set_option maxRecDepth 100000 in
set_option maxHeartbeats 4000000 in
theorem ftoa_walk (w : World) (hL : Laid w) (hC : Cheats w) (B b c : Nat) (v : Value) (hown : w.ownsRow B 5 1 v 0 []) (hB : B ≤ w.heap.size) (hb : b < 18446744073709551616) (hsz : sz b < 9218868437227405312) (hc : c ≤ 30) :
    Calls Tryz.prog 95 #[v, .float .f64 b, .int .u8 102, .int .i64 c] w (FtPost B c (ftM b) (ftX b) (neg b) w) := by
  have hbits := bits119 b
  have ho := hL.optCell
  obtain ⟨N, E4, E, M, hF⟩ := ft_facts b hb hsz
  obtain ⟨s1, s2, a0, a1, a2, a3, n1, e1, hx, hm, hEb, hMb⟩ := hF
  have s3 : ∀ W, (Op.shift BinOp.shl .i64 1 .i64 11).run Tryz.prog W = .ok (.int .i64 2048) W := fun W => by kernel_rfl
  have s4 : ∀ W, (Op.shift BinOp.shl .u64 1 .i64 52).run Tryz.prog W = .ok (.int .u64 4503599627370496) W := fun W => by kernel_rfl
  generalize ftX b = x at *
  generalize ftM b = m at *
  have HX : Hid (x = (if E = 0 then 1 else (E : Int)) - 1023 ∧ m = if E = 0 then M else M + 4503599627370496) := Lib.hid ⟨hx, hm⟩
  generalize neg b = ng at *
  have HE := Lib.hid hEb
  have HOwn := Lib.hid hown
  have HLd := Lib.hid hL
  have HC := Lib.hid hC
  have HMb := Lib.hid hMb
  clear hx hm hown hL hC hb hsz hEb hMb
  go_enter Tryz.func95, Tryz.ntmps95
  go_wp2_with fail
  go_quiet (fail)
  go_upto_region 22 with (fail)
  have hb1 : Below w.heap.size w (w.drewN nq) := below_drewN (Below.refl _ _) _
  have HLd1 := Lib.hid (HLd.out.below hb1)
  have HC1 := Lib.hid (HC.out.below hb1)
  have HOwn1 := Lib.hid (own_below HOwn.out hb1)
  have hsz1 : (w.drewN nq).heap.size = w.heap.size := rfl
  have HB1 := Lib.hid (And.intro hb1 hsz1)
  clear hb1 hsz1 HLd HC HOwn ho
  generalize w.drewN nq = w1 at *
  clear s1 s2 s3 a0 a1 a2 n1 e1
  go_upto_if 78 with (fail)
  have HMb2 : Hid (m < 9007199254740992 ∧ (4503599627370496 ≤ m ∨ x = -1022) ∧ -1022 ≤ x ∧ x ≤ 1023) := Lib.hid (by
    have h := HX.out
    have h1 := HMb.out
    have h2 := HE.out
    by_cases h0 : E = 0
    · rw [if_pos h0, if_pos h0] at h; omega
    rw [if_neg h0, if_neg h0] at h; omega)
  go_cut [14, 15] (fun v14 v15 w' => v14 = .int .i64 (x + 1023) ∧ v15 = .int .u64 (m : Int) ∧ w1 = w')
  case first => as_aux_lemma =>
    by_cases h0 : E = 0
    · have hx := HX.out
      rw [if_pos h0, if_pos h0] at hx
      obtain ⟨hx, hm⟩ := hx
      have HXX := Lib.hid (And.intro (show (1 : Int) = x + 1023 by omega) hm)
      clear hx hm
      have f1 : ((E : Int) == 0) = true := by simp [h0]
      subst h0
      go_wp2_with fail
      go_meet
      case rel => exact ⟨by rw [← HXX.out.1], by first | (rw [HXX.out.2]; done) | (rw [HXX.out.2]; go_num), rfl⟩
    have hx := HX.out
    rw [if_neg h0, if_neg h0] at hx
    obtain ⟨hx, hm⟩ := hx
    have HXX := Lib.hid (And.intro (show (E : Int) = x + 1023 by omega) hm)
    clear hx hm
    have f1 : ((E : Int) == 0) = false := by simp [h0]
    clear h0
    go_wp2_with fail
    go_meet
    case rel => exact ⟨by first | (rw [← HXX.out.1]; done) | (rw [← HXX.out.1]; go_num), by first | (rw [HXX.out.2]; done) | (rw [HXX.out.2]; go_num), rfl⟩
  obtain ⟨rfl, rfl, hww⟩ := hcut
  subst hww
  clear a3 s4 HX HE HMb
  have y1 : x + 1023 + -1023 = x := by omega
  have y2 : x + 1023 - 1023 = x := by omega
  have y3 : -1022 ≤ x := HMb2.out.2.2.1
  have y4 : x ≤ 1023 := HMb2.out.2.2.2
  have y5 : ¬ (c : Int) < 0 := by omega
  have y6 : decide ((c : Int) < 0) = false := decide_eq_false y5
  go_step
  by_cases hm0 : m = 0
  · subst hm0
    have HF := Lib.hid (fmt_walk w1 B 0 0 (fun _ => 48) v (.slice none 0 0) ng 0 c 0 ⟨HOwn1.out, fun h => absurd h (by decide), Below.refl _ _, by have := HB1.out.2; omega⟩ (by decide) (by decide) (by decide) hc (fun i hi => absurd hi (by omega)) (fun h => absurd h (by decide)) (fun h => absurd h (by decide)))
    go_wp2_with fail
    refine HF.out.mono ?_
    rintro e w2 ⟨v', rfl, hO⟩
    have HO := Lib.hid hO
    clear hO HF
    go_wp2_with fail
    go_ret
    rw [ef_fix (fun i hi => absurd hi (by omega)) (fun h => absurd h (by decide))] at HO
    have hz : atP (fun _ => 48) 0 0 c = 0 := by
      unfold atP
      rw [if_pos (by omega)]
      exact N_zero _ fun i _ => by unfold dig; rw [if_neg (by omega)]
    rw [hz] at HO
    refine ⟨v', 0, ?_, rfl, HO.out.own, (HB1.out.1.mono hB).trans HO.out.below⟩
    have := rhe_exact (2 ^ wR x) 0 (Nat.pow_pos (by decide))
    unfold wN
    rw [Nat.zero_mul, Nat.zero_mul]
    rw [Nat.zero_mul] at this
    exact this
  have f1 : ((m : Int) == 0) = false := by simp; omega
  have ho : w1.cell? ⟨3, 0, none⟩ = some (.bool true) := HLd1.out.optCell
  have HL3 := HLd1.out
  clear ho
  have ho : w1.cell? ⟨3, 0, none⟩ = some (.bool true) := HL3.optCell
  clear HL3
  go_upto_block 2 with (fail)
  go_cut [3, 24] (fun v3 v24 w' => v3 = .int .i64 (c : Int) ∧ v24 = .int .i64 (dgF x c) ∧ Hid (Below w1.heap.size w1 w'))
  case first => as_aux_lemma =>
    by_cases h0 : 0 ≤ x
    · have g1 : decide (0 ≤ x) = true := decide_eq_true h0
      have HLog := Lib.hid (log10_calls (1 + x) (l2 (1 + x)) (log10_f _ (by omega) (by omega)))
      have hl : 0 ≤ l2 (1 + x) ∧ l2 (1 + x) ≤ 400 := by unfold l2; omega
      have hD : 1 + l2 (1 + x) + c = dgF x c := by unfold dgF; rw [if_pos h0]
      generalize l2 (1 + x) = y at *
      obtain ⟨hl1, hl3⟩ := hl
      obtain ⟨n, hn⟩ : ∃ n, n = dgF x c := ⟨_, rfl⟩
      rw [← hn] at hD
      have HN := Lib.hid hn
      clear hn
      go_wp2_with fail
      refine (HLog.out _).mono ?_
      rintro e w2 ⟨rfl, hb2⟩
      have HB2 := Lib.hid hb2
      clear hb2 HLog
      go_wp2_with fail
      go_meet
      case rel => exact ⟨rfl, by rw [← HN.out], HB2⟩
    have g1 : decide (0 ≤ x) = false := decide_eq_false h0
    have HLog := Lib.hid (log10_calls (-x) (l2 (-x)) (log10_f _ (by omega) (by omega)))
    have hl : 0 ≤ l2 (-x) ∧ l2 (-x) ≤ 400 := by unfold l2; omega
    have hD : 1 + (c : Int) - l2 (-x) = dgF x c := by unfold dgF; rw [if_neg h0]
    generalize l2 (-x) = y at *
    obtain ⟨hl1, hl3⟩ := hl
    obtain ⟨n, hn⟩ : ∃ n, n = dgF x c := ⟨_, rfl⟩
    rw [← hn] at hD
    have HN := Lib.hid hn
    clear hn
    go_wp2_with fail
    refine (HLog.out _).mono ?_
    rintro e w2 ⟨rfl, hb2⟩
    have HB2 := Lib.hid hb2
    clear hb2 HLog
    go_wp2_with fail
    go_meet
    case rel => exact ⟨rfl, by rw [← HN.out], HB2⟩
  obtain ⟨rfl, rfl, HB2⟩ := hcut
  go_step
  obtain ⟨n, hn⟩ : ∃ n, n = dgF x c := ⟨_, rfl⟩
  rw [← hn]
  have HN := Lib.hid hn
  clear hn ho
  have HLd2 := Lib.hid (HLd1.out.below HB2.out)
  have HC2 := Lib.hid (HC1.out.below HB2.out)
  have HOwn2 := Lib.hid (own_below HOwn1.out HB2.out)
  have HB02 : Hid (Below w.heap.size w wc ∧ B ≤ wc.heap.size) := Lib.hid ⟨HB1.out.1.trans (HB2.out.mono (by have := HB1.out.2; omega)), by have := HB1.out.2; have := HB2.out.size; omega⟩
  clear HLd1 HC1 HOwn1 HB1 HB2 y1 y2 y5 y6 f1
  have HFz : Hid (∀ (W : World) (sv : Value), W.ownsRow B 5 1 v 0 [] → B ≤ W.heap.size → Calls Tryz.prog 122 #[v, .bool ng, sv, .int .i64 0, .int .i64 0, .int .i64 c, .int .u8 102, .bool false] W (FePost B W 0 0 (fun _ => 48) (fixT ng 0 c))) := Lib.hid fun W sv ho hb => by
    have h := fmt_walk W B 0 0 (fun _ => 48) v sv ng 0 c 0 ⟨ho, fun h => absurd h (by decide), Below.refl _ _, hb⟩ (by decide) (by decide) (by decide) hc (fun i hi => absurd hi (by omega)) (fun h => absurd h (by decide)) (fun h => absurd h (by decide))
    rw [ef_fix (fun i hi => absurd hi (by omega)) (fun h => absurd h (by decide))] at h
    have hz : atP (fun _ => 48) 0 0 c = 0 := by
      unfold atP
      rw [if_pos (by omega)]
      exact N_zero _ fun i _ => by unfold dig; rw [if_neg (by omega)]
    rw [hz] at h
    exact h
  by_cases h18 : n ≤ 18
  · have g2 : decide (n ≤ 18) = true := decide_eq_true h18
    by_cases hn0 : n ≤ 0
    · have g3 : decide (0 < n) = false := decide_eq_false (by omega)
      have HR : Hid (Rhe (wN m x * 10 ^ c) (2 ^ wR x) 0) := Lib.hid (fast_none (by omega) HMb2.out.1 (by rw [← HN.out]; exact hn0))
      have HOw3 := Lib.hid (HOwn2.out.alloc (.cells (Array.replicate 24 (.int .u8 0)) 126 (0, 0)))
      have hb3 : Below w.heap.size w (wc.alloc (.cells (Array.replicate 24 (.int .u8 0)) 126 (0, 0))) := HB02.out.1.alloc HB02.out.1.size _
      have HB3 := Lib.hid hb3
      have HZ3 : Hid (B ≤ (wc.alloc (.cells (Array.replicate 24 (.int .u8 0)) 126 (0, 0))).heap.size) := Lib.hid (by have := HB02.out.2; simp; omega)
      clear hb3 HLd2 HC2 HMb2 HN
      go_wp2_with fail
      refine (HFz.out _ _ HOw3.out HZ3.out).mono ?_
      rintro e w3 ⟨v', rfl, hO⟩
      have HO := Lib.hid hO
      clear hO HFz
      go_wp2_with fail
      go_ret
      exact ⟨v', 0, HR.out, rfl, HO.out.own, (HB3.out.mono hB).trans HO.out.below⟩
    have g3 : decide (0 < n) = true := decide_eq_true (by omega)
    have hdg1 : 1 ≤ dgF x c := by have := HN.out; omega
    have hdg2 : dgF x c ≤ 18 := by have := HN.out; omega
    have hm1 : 4503599627370496 ≤ m := by
      rcases HMb2.out.2.1 with h | h
      · exact h
      exfalso
      unfold dgF l2 at hdg1
      rw [h, if_neg (by decide)] at hdg1
      omega
    have hm2 := HMb2.out.1
    have hbl : bln m = 53 := by
      obtain ⟨b1, b2, b3⟩ := bln_spec hm0
      have b4 : bln m ≤ 53 := Us.bln_le (by have : (2 : Nat) ^ 53 = 9007199254740992 := by decide
                                            omega)
      rcases Nat.lt_or_ge (bln m) 53 with h | h
      · exfalso
        have : 2 ^ bln m ≤ 2 ^ 52 := Nat.pow_le_pow_right (by decide) (by omega)
        have h52 : (2 : Nat) ^ 52 = 4503599627370496 := by decide
        omega
      omega
    have HLen := Lib.hid (len64_bln m (by omega))
    rw [hbl] at HLen
    obtain ⟨M2, hM2⟩ : ∃ M2, M2 = m * 2048 := ⟨_, rfl⟩
    have z1 : (m : Int) * 2048 = (M2 : Int) := by omega
    have z2 : IntKind.u64.wrap (M2 : Int) = (M2 : Int) := by rw [Go.IntKind.wrap_u64]; omega
    have z3 : x - 11 - 52 = x - 63 := by omega
    have HFx : Hid (∀ W, Laid W → Calls Tryz.prog 127 #[.int .u64 (M2 : Int), .int .i64 (x - 63), .int .i64 n, .int .i64 (c : Int), .int .u8 102] W (FwPost m c x W)) := Lib.hid fun W hW => by
      have h := fixed_walk W hW x c m hc hm1 hm2 hdg1 hdg2
      rw [← hM2, ← HN.out] at h
      exact h
    have HG := Lib.hid (blk_new wc (.cells (Array.replicate 24 (.int .u8 0)) 126 (0, 0)))
    have hb3 : Below wc.heap.size wc (wc.alloc (.cells (Array.replicate 24 (.int .u8 0)) 126 (0, 0))) := below_alloc (Below.refl _ _) _
    have HB3 := Lib.hid hb3
    have HL3 := Lib.hid (HLd2.out.below hb3)
    have HOw3 := Lib.hid (own_below HOwn2.out hb3)
    have HVk : Hid (∀ k, v.ownBlock = some k → k < wc.heap.size) := Lib.hid (fun k hk => (HOwn2.out.lt k hk).2)
    have hz3 : (wc.alloc (.cells (Array.replicate 24 (.int .u8 0)) 126 (0, 0))).heap.size = wc.heap.size + 1 := by simp
    have HZ3 := Lib.hid hz3
    clear hdg1 hdg2 hm1 hm2 hbl hM2 hb3 hz3 HLd2 HC2 HMb2 HN HOwn2
    go_wp2_with fail
    obtain ⟨g, hg⟩ : ∃ g, g = wc.heap.size := ⟨_, rfl⟩
    have HGg := Lib.hid hg
    rw [← hg] at HG HZ3 HB3 HVk ⊢
    clear hg
    refine (HLen.out _).mono ?_
    rintro e w3 ⟨rfl, hw3⟩
    obtain rfl := hw3.symm
    clear hw3 HLen
    go_wp2_with fail
    refine (HFx.out _ HL3.out).mono ?_
    rintro e w4 ⟨Q, hQ1, hQ2, rfl, hb4⟩
    have HQ1 := Lib.hid hQ1
    have hb4' : Below (g + 1) (wc.alloc (.cells (Array.replicate 24 (.int .u8 0)) 126 (0, 0))) w4 := hb4.mono (by have := HZ3.out; omega)
    have HG4 : Hid (w4.heap[g]? = some (.cells (Array.replicate 24 (.int .u8 0)) 126 (0, 0))) := Lib.hid ((hb4'.block g (by omega)).trans HG.out)
    have HB4 : Hid (Below g wc w4) := Lib.hid (HB3.out.trans (hb4'.mono (by omega)))
    have HL4 := Lib.hid (HL3.out.below hb4)
    have HOw4 := Lib.hid (own_below HOw3.out hb4)
    clear hQ1 hb4 hb4' HFx HG HB3 HL3 HOw3 HZ3
    have HB04 : Hid (Below B w w4 ∧ B ≤ w4.heap.size) := Lib.hid ⟨(HB02.out.1.mono hB).trans (HB4.out.mono (by have := HB02.out.2; have := HGg.out; omega)), by have := HB02.out.2; have := HB4.out.size; omega⟩
    have HBg : Hid (B ≤ g) := Lib.hid (by have := HB02.out.2; have := HGg.out; omega)
    clear HB4 HB02
    by_cases hQ0 : Q = 0
    · subst hQ0
      go_wp2_with fail
      refine (HFz.out _ _ HOw4.out HB04.out.2).mono ?_
      rintro e w5 ⟨v', rfl, hO⟩
      have HO := Lib.hid hO
      clear hO HFz
      go_wp2_with fail
      go_ret
      exact ⟨v', 0, HQ1.out, rfl, HO.out.own, HB04.out.1.trans HO.out.below⟩
    have q1 : ((Q : Int) != 0) = true := bne_iff_ne.2 (by omega)
    obtain ⟨L, hLd⟩ : ∃ L, L = Lib.nDigits Q := ⟨_, rfl⟩
    have l1 : 1 ≤ L := by rw [hLd]; exact Lib.nDigits_pos Q
    have l4' : 10 ^ (L - 1) ≤ Q := by rw [hLd]; exact nd_low Q (by omega)
    have l2 : L ≤ 20 := by
      rcases Nat.lt_or_ge 20 L with h | h
      · exfalso
        have a1 : 10 ^ 20 ≤ 10 ^ (L - 1) := Nat.pow_le_pow_right (by decide) (by omega)
        have a2 : (10 : Nat) ^ 20 = 100000000000000000000 := by decide
        omega
      exact h
    have l3 : Q < 10 ^ L := by rw [hLd]; exact Lib.lt_pow_nDigits Q
    have l4 : 10 ^ (L - 1) ≤ Q := by rw [hLd]; exact nd_low Q (by omega)
    have HND := Lib.hid (fun W ht => Tryz.internal_strconv_numDigits Q (by omega) (by omega) W ht)
    have HT4 := Lib.hid HL4.out.u10
    rw [← hLd] at HND
    obtain ⟨q1', q2', q3', q4'⟩ := set_atP (c := c) (d := dgs Q L) (fun i _ => rfl) l4 l3 l1 l2
    have HSD := Lib.hid (fun W hg => setDigits_walk W g g (Nat.le_refl _) hg Q L c l3 l1 l2 hc (by omega))
    have HT : Hid (efT ng (dgs Q L) (tl (dgs Q L) L) ((L : Int) - c) c = fixT ng Q c) := Lib.hid (by rw [ef_fix q2' (fun _ => ⟨q3', q4'⟩), q1'])
    have htl := tl_le (dgs Q L) L
    have HDd : Hid (∀ i, i < tl (dgs Q L) L → dgs Q L i < 256) := Lib.hid (fun i hi => by have := (q2' i hi).2; omega)
    have HFn : Hid (∀ (W : World), W.ownsRow B 5 1 v 0 [] → B ≤ W.heap.size → (∃ cs : Array Value, W.heap[g]? = some (.cells cs 126 (0, 0)) ∧ ∀ i, i < L → cs[i]? = some (.int .u8 (dgs Q L i : Nat))) → Calls Tryz.prog 122 #[v, .bool ng, .slice (some ⟨g, 0, none⟩) 24 24, .int .i64 ((L : Int) - c), .int .i64 ((tl (dgs Q L) L : Nat) : Int), .int .i64 c, .int .u8 102, .bool false] W (FePost B W g (tl (dgs Q L) L) (dgs Q L) (fixT ng Q c))) := Lib.hid fun W ho hb hcs => by
      have h := fmt_walk W B g (tl (dgs Q L) L) (dgs Q L) v (.slice (some ⟨g, 0, none⟩) 24 24) ng ((L : Int) - c) c 24 ⟨ho, fun _ => by
        obtain ⟨cs, h1, h2⟩ := hcs
        exact ⟨cs, 126, h1, by decide, fun i hi => h2 i (by omega)⟩, Below.refl _ _, hb⟩ (by omega) (by omega) (by omega) hc HDd.out (fun _ => ⟨rfl, by omega, by decide⟩) (fun _ => q3')
      rw [HT.out] at h
      exact h
    clear q1' q2' q3' q4' htl HDd HT l3 l4 l4' hLd HFz
    generalize tl (dgs Q L) L = nd at *
    generalize dgs Q L = dd at *
    go_wp2_with fail
    go_region_with (first | (go_at_call 101; refine (HND.out _ (by exact HT4.out)).mono ?_; rintro e w' ⟨rfl, rfl⟩) | (go_at_call 125; refine (HSD.out _ (by exact HG4.out)).mono ?_; rintro e w5 ⟨rfl, hb5, hcs5⟩))
    have HOw5 := Lib.hid (own_below2 (w := w4.drew) HOw4.out HVk.out hb5)
    have HB5 : Hid (Below B w w5 ∧ B ≤ w5.heap.size) := Lib.hid ⟨HB04.out.1.trans ((below_drewN (Below.refl B w4) 1).trans (hb5.mono HBg.out)), Nat.le_trans HB04.out.2 hb5.size⟩
    have HCs := Lib.hid hcs5
    clear hb5 hcs5 HND HSD HT4 HG4 HOw4 HL4 HB04
    go_wp2_with fail
    refine (HFn.out _ HOw5.out HB5.out.2 HCs.out).mono ?_
    rintro e w6 ⟨v', rfl, hO⟩
    have HO := Lib.hid hO
    clear hO HFn
    go_wp2_with fail
    go_ret
    exact ⟨v', Q, HQ1.out, rfl, HO.out.own, HB5.out.1.trans HO.out.below⟩
  have g2 : decide (n ≤ 18) = false := decide_eq_false h18
  have HD0 : Hid (IsDec (wc.alloc (.cells Tryz.zeroCells162 162 (0, 0))) wc.heap.size (fun _ => 0) 0 0 false false) := Lib.hid (by unfold IsDec; rw [← zero162]; exact blk_new _ _)
  have hb3 : Below wc.heap.size wc (wc.alloc (.cells Tryz.zeroCells162 162 (0, 0))) := below_alloc (Below.refl _ _) _
  have HB3 := Lib.hid hb3
  have HC3 := Lib.hid (fun (W : World) (hW : Below wc.heap.size wc W) => HC2.out.below hW)
  have HVk : Hid (∀ k, v.ownBlock = some k → k < wc.heap.size) := Lib.hid (fun k hk => (HOwn2.out.lt k hk).2)
  have HA := Lib.hid (fun W g h => assign_calls W g m (by omega) HMb2.out.1 h)
  have HM2 := Lib.hid HMb2.out.1
  have HXr : Hid (-1022 ≤ x ∧ x ≤ 1023) := Lib.hid ⟨by omega, by omega⟩
  clear hb3 HFz HMb2 HLd2 HN HC2
  go_wp2_with fail
  obtain ⟨g, hg⟩ : ∃ g, g = wc.heap.size := ⟨_, rfl⟩
  have HGg := Lib.hid hg
  rw [← hg] at HD0 HB3 HC3 HVk ⊢
  clear hg
  refine (HA.out _ g HD0.out).mono ?_
  rintro e w3 ⟨rfl, hb, s, hs1, hs2, hs3, hs4, hs5, hs6⟩
  have HB03 := Lib.hid (HB3.out.trans hb)
  have HSh := Lib.hid (shift_calls w3 (HC3.out _ HB03.out) g (fun w' hw => HC3.out _ (HB03.out.trans hw)) s hs1 hs2 m HM2.out hs3 hs5 hs6 x HXr.out.1 HXr.out.2 hs4)
  clear hb hs1 hs2 hs3 hs4 hs5 hs6 HA HD0 HB3 HC3
  go_wp2_with fail
  refine HSh.out.mono ?_
  rintro e w4 ⟨rfl, hb4, t, ht1, ht2, ht3, ht4, ht5, ht6⟩
  have HB04 := Lib.hid (HB03.out.trans hb4)
  have cdp : w4.cell? ⟨g, 801, none⟩ = some (.int .i64 t.dp) := IsDec.cdp ht4
  have HRd := Lib.hid (roundp_calls w4 g t ht1 c ht5 ht6 ht4)
  obtain ⟨r1, r2⟩ := rd_rhe ht1 ht2 ht3 c
  have HR := Lib.hid r1
  have HRr := Lib.hid (And.intro r2 (rd_range ht1 c ht5 ht6))
  clear r1 r2 ht1 ht2 ht3 ht4 hb4 HSh HB03
  obtain ⟨td, htd⟩ : ∃ td : Int, td = t.dp := ⟨_, rfl⟩
  rw [← htd] at cdp HRd ht5 ht6
  clear htd
  go_wp2_with fail
  refine HRd.out.mono ?_
  rintro e w5 ⟨rfl, hb5, hd5⟩
  have HB05 := Lib.hid (HB04.out.trans hb5)
  clear HRd cdp ht5 ht6 hb5 HB04
  generalize rdSt t c = rd at *
  have HD5 := Lib.hid hd5
  have cdp : w5.cell? ⟨g, 801, none⟩ = some (.int .i64 rd.dp) := IsDec.cdp hd5
  have cnd : w5.cell? ⟨g, 800, none⟩ = some (.int .i64 (rd.nd : Nat)) := IsDec.cnd hd5
  have HOw5 := Lib.hid (own_below2 HOwn2.out HVk.out HB05.out)
  have HBB : Hid (Below B w w5 ∧ B ≤ w5.heap.size) := Lib.hid ⟨(HB02.out.1.mono hB).trans (HB05.out.mono (by have := HB02.out.2; have := HGg.out; omega)), Nat.le_trans HB02.out.2 HB05.out.size⟩
  have HFn : Hid (∀ (W : World), W.ownsRow B 5 1 v 0 [] → B ≤ W.heap.size → rd.is W g false → Calls Tryz.prog 122 #[v, .bool ng, .slice (some ⟨g, 0, none⟩) 800 800, .int .i64 rd.dp, .int .i64 ((rd.nd : Nat) : Int), .int .i64 c, .int .u8 102, .bool false] W (FePost B W g rd.nd rd.d (fixT ng (atP rd.d rd.nd rd.dp c) c))) := Lib.hid fun W ho hb hcs => by
    obtain ⟨f1, f2, f3, f4⟩ := HRr.out
    have h := fmt_walk W B g rd.nd rd.d v (.slice (some ⟨g, 0, none⟩) 800 800) ng rd.dp c 800 ⟨ho, fun _ => ⟨_, 162, hcs, by decide, fun i hi => by
      rw [dcells_get _ _ _ _ _ i (by omega)]
      unfold dcell
      rw [if_pos (by omega)]⟩, Below.refl _ _, hb⟩ f2 f3 f4 hc (fun i hi => by have := (f1.dgs i hi).2; omega) (fun _ => ⟨rfl, f2, by decide⟩) (fun h => (f1.first h).1)
    rw [ef_fix f1.dgs f1.first] at h
    exact h
  generalize atP rd.d rd.nd rd.dp c = Q at *
  clear hd5 HRr HB05 HVk HOwn2 HB02
  obtain ⟨rdp, hrdp⟩ : ∃ z, z = rd.dp := ⟨_, rfl⟩
  obtain ⟨rnd', hrnd⟩ : ∃ z, z = rd.nd := ⟨_, rfl⟩
  rw [← hrdp] at cdp HFn
  rw [← hrnd] at cnd HFn
  clear hrdp hrnd
  go_wp2_with fail
  go_region_with (go_at_call 122; refine (HFn.out _ (by exact HOw5.out) (by exact HBB.out.2) (by exact HD5.out)).mono ?_; rintro e w6 ⟨v', rfl, hO⟩)
  all_goals
    have HO := Lib.hid hO
    clear hO HFn
    go_wp2_with fail
    go_ret
    exact ⟨v', Q, HR.out, rfl, HO.out.own, HBB.out.1.trans ((below_drewN (Below.refl B w5) 1).trans HO.out.below)⟩
end Go.Proofs.YtjpiplplohapnaaGreatDoor
namespace Go.Proofs.YtjpiplplohapnaaGreatDoor
open Go.RowKit Go.Sort Go.Proofs.YtjpiplplohapnaaGreatDoorW.PrintWords Dc Us Nr
theorem bytes_of_own {w : World} {B : Nat} {v : Value} {l : List UInt8} (h : w.ownsRow B 5 1 v l.length (l.map encB)) (hl : l ≠ []) :
    (convert 94 9 v).run Tryz.prog w = .ok (.string ⟨l.toArray⟩) w := by
  have hcc := h.2
  rcases hcc with ⟨rfl, h0⟩ | ⟨g, cap, cur, rfl, _⟩
  · exact absurd (List.length_eq_zero_iff.1 h0) hl
  have hcell := h.cells (g := g) rfl
  rw [run_convert_bytes_string w 94 9 5 _ _ _ Tryz.underlying94 Tryz.underlying5 Tryz.underlying9]
  have hq := run_loadCells_list (P := Tryz.prog) (w := w) ⟨g, 0, none⟩ (l.map encB) (fun j v hv => hcell j v hv)
  rw [List.length_map] at hq
  rw [run_bytesToString w _ _ _ (l.map fun b => (b.toNat : Int)) (by rw [hq, List.map_map]; rfl)]
  congr 2
  rw [List.foldl_map]
  have : ∀ (l : List UInt8) (acc : ByteArray), l.foldl (fun r n => r.push (UInt8.ofNat ((n.toNat : Int)).toNat)) acc = ⟨acc.data ++ l.toArray⟩ := by
    intro l
    induction l with
    | nil => intro acc; simp
    | cons b l ih => intro acc; rw [List.foldl_cons, ih]; simp [ByteArray.push]
  rw [this]
  simp
theorem fixT_ne (ng : Bool) (q p : Nat) : fixT ng q p ≠ [] := by
  unfold fixT
  intro h
  have h2 : dot p (padL p (Lib.decDigits q)) = [] := (List.append_eq_nil_iff.1 h).2
  unfold dot at h2
  have h3 : padL p (Lib.decDigits q) ≠ [] := by
    unfold padL
    intro e
    exact Num.dec_ne q (List.append_eq_nil_iff.1 e).2
  by_cases hp : 0 < p
  · rw [if_pos hp] at h2
    have := (List.append_eq_nil_iff.1 h2).2
    cases this
  rw [if_neg hp] at h2
  exact h3 h2
theorem make_24 (W : World) : (Instr.makeSlice 94 (.int .i64 0) (.int .i64 24)).run Tryz.prog W = .ok (.slice (some ⟨W.heap.size, 0, none⟩) 0 24) (W.alloc (.cells (Array.replicate 24 (.int .u8 0)) 5)) := by kernel_rfl
theorem make_25 (W : World) : (Instr.makeSlice 94 (.int .i64 0) (.int .i64 25)).run Tryz.prog W = .ok (.slice (some ⟨W.heap.size, 0, none⟩) 0 25) (W.alloc (.cells (Array.replicate 25 (.int .u8 0)) 5)) := by kernel_rfl
theorem make_26 (W : World) : (Instr.makeSlice 94 (.int .i64 0) (.int .i64 26)).run Tryz.prog W = .ok (.slice (some ⟨W.heap.size, 0, none⟩) 0 26) (W.alloc (.cells (Array.replicate 26 (.int .u8 0)) 5)) := by kernel_rfl
theorem make_27 (W : World) : (Instr.makeSlice 94 (.int .i64 0) (.int .i64 27)).run Tryz.prog W = .ok (.slice (some ⟨W.heap.size, 0, none⟩) 0 27) (W.alloc (.cells (Array.replicate 27 (.int .u8 0)) 5)) := by kernel_rfl
theorem make_28 (W : World) : (Instr.makeSlice 94 (.int .i64 0) (.int .i64 28)).run Tryz.prog W = .ok (.slice (some ⟨W.heap.size, 0, none⟩) 0 28) (W.alloc (.cells (Array.replicate 28 (.int .u8 0)) 5)) := by kernel_rfl
theorem make_29 (W : World) : (Instr.makeSlice 94 (.int .i64 0) (.int .i64 29)).run Tryz.prog W = .ok (.slice (some ⟨W.heap.size, 0, none⟩) 0 29) (W.alloc (.cells (Array.replicate 29 (.int .u8 0)) 5)) := by kernel_rfl
theorem make_30 (W : World) : (Instr.makeSlice 94 (.int .i64 0) (.int .i64 30)).run Tryz.prog W = .ok (.slice (some ⟨W.heap.size, 0, none⟩) 0 30) (W.alloc (.cells (Array.replicate 30 (.int .u8 0)) 5)) := by kernel_rfl
theorem make_31 (W : World) : (Instr.makeSlice 94 (.int .i64 0) (.int .i64 31)).run Tryz.prog W = .ok (.slice (some ⟨W.heap.size, 0, none⟩) 0 31) (W.alloc (.cells (Array.replicate 31 (.int .u8 0)) 5)) := by kernel_rfl
theorem make_32 (W : World) : (Instr.makeSlice 94 (.int .i64 0) (.int .i64 32)).run Tryz.prog W = .ok (.slice (some ⟨W.heap.size, 0, none⟩) 0 32) (W.alloc (.cells (Array.replicate 32 (.int .u8 0)) 5)) := by kernel_rfl
theorem make_33 (W : World) : (Instr.makeSlice 94 (.int .i64 0) (.int .i64 33)).run Tryz.prog W = .ok (.slice (some ⟨W.heap.size, 0, none⟩) 0 33) (W.alloc (.cells (Array.replicate 33 (.int .u8 0)) 5)) := by kernel_rfl
theorem make_34 (W : World) : (Instr.makeSlice 94 (.int .i64 0) (.int .i64 34)).run Tryz.prog W = .ok (.slice (some ⟨W.heap.size, 0, none⟩) 0 34) (W.alloc (.cells (Array.replicate 34 (.int .u8 0)) 5)) := by kernel_rfl
theorem make_k (k : Nat) (h1 : 24 ≤ k) (h2 : k ≤ 34) (W : World) : (Instr.makeSlice 94 (.int .i64 0) (.int .i64 (k : Int))).run Tryz.prog W = .ok (.slice (some ⟨W.heap.size, 0, none⟩) 0 k) (W.alloc (.cells (Array.replicate k (.int .u8 0)) 5)) := by
  have h : k = 24 ∨ k = 25 ∨ k = 26 ∨ k = 27 ∨ k = 28 ∨ k = 29 ∨ k = 30 ∨ k = 31 ∨ k = 32 ∨ k = 33 ∨ k = 34 := by omega
  rcases h with rfl | rfl | rfl | rfl | rfl | rfl | rfl | rfl | rfl | rfl | rfl
  · exact make_24 W
  · exact make_25 W
  · exact make_26 W
  · exact make_27 W
  · exact make_28 W
  · exact make_29 W
  · exact make_30 W
  · exact make_31 W
  · exact make_32 W
  · exact make_33 W
  exact make_34 W
def FuPost (b c : Nat) (w : World) (e : Ending) (w' : World) : Prop :=
  ∃ Q : Nat, Rhe (wN (ftM b) (ftX b) * 10 ^ c) (2 ^ wR (ftX b)) Q ∧ e = .returned (.string ⟨(fixT (neg b) Q c).toArray⟩) ∧ Below w.heap.size w w'
set_option maxRecDepth 100000 in
set_option maxHeartbeats 1000000 in
theorem iformat_walk (w : World) (hL : Laid w) (hC : Cheats w) (b c : Nat) (hb : b < 18446744073709551616) (hsz : sz b < 9218868437227405312) (hc : c ≤ 30) :
    Calls Tryz.prog 67 #[.float .f64 b, .int .u8 102, .int .i64 c, .int .i64 64] w (FuPost b c w) := by
  obtain ⟨k, hk⟩ : ∃ k, k = max (c + 4) 24 := ⟨_, rfl⟩
  have hk1 : 24 ≤ k := by omega
  have hk2 : k ≤ 34 := by omega
  have m1 : max ((c : Int) + 4) 24 = (k : Int) := by omega
  have hmk := make_k k hk1 hk2
  have hbl : Below w.heap.size w (w.alloc (.cells (Array.replicate k (.int .u8 0)) 5)) := below_alloc (Below.refl _ _) _
  have HF := Lib.hid (ftoa_walk (w.alloc (.cells (Array.replicate k (.int .u8 0)) 5)) (hL.below hbl) (hC.below hbl) w.heap.size b c (.slice (some ⟨w.heap.size, 0, none⟩) 0 k) (World.ownsRow_made w _ k (Nat.le_refl _) (by unfold maxLen; omega) (by simp)) (by simp) hb hsz hc)
  have HB := Lib.hid hbl
  clear hk hk1 hk2 hbl hL hC hb hsz
  go_enter Tryz.func67, Tryz.ntmps67
  go_wp2_with fail
  refine HF.out.mono ?_
  rintro e w2 ⟨v', Q, hQ, rfl, hown, hb2⟩
  have HQ := Lib.hid hQ
  have HB2 := Lib.hid (HB.out.trans hb2)
  have hcv := bytes_of_own hown (fixT_ne _ _ _)
  clear hQ hb2 hown HF hmk
  obtain ⟨T, hT⟩ : ∃ T, T = fixT (neg b) Q c := ⟨_, rfl⟩
  rw [← hT] at hcv
  have HT := Lib.hid hT
  clear hT
  go_wp2_with fail
  go_ret
  exact ⟨Q, HQ.out, by rw [← HT.out]; rfl, HB2.out⟩
set_option maxHeartbeats 1000000 in
theorem sformat_walk (w : World) (hL : Laid w) (hC : Cheats w) (b c : Nat) (hb : b < 18446744073709551616) (hsz : sz b < 9218868437227405312) (hc : c ≤ 30) :
    Calls Tryz.prog 31 #[.float .f64 b, .int .u8 102, .int .i64 c, .int .i64 64] w (FuPost b c w) := by
  have HF := Lib.hid (iformat_walk w hL hC b c hb hsz hc)
  clear hL hC hb hsz hc
  go_enter Tryz.func31, Tryz.ntmps31
  go_wp2_with fail
  refine HF.out.mono ?_
  rintro e w2 ⟨Q, hQ, rfl, hb2⟩
  have HQ := Lib.hid hQ
  clear hQ HF
  go_wp2_with fail
  go_ret
  exact ⟨Q, HQ.out, rfl, hb2⟩
end Go.Proofs.YtjpiplplohapnaaGreatDoor
namespace Go.Proofs.YtjpiplplohapnaaGreatDoor
open Go.RowKit Go.Sort Go.Proofs.YtjpiplplohapnaaGreatDoorW.PrintWords Rf Nr Us Dc
theorem word_facts (ng : Bool) (r : Nat) (hr : r < 9218868437227405312) : Ieee.double.word ng r < 18446744073709551616 ∧ sz (Ieee.double.word ng r) = r ∧ neg (Ieee.double.word ng r) = ng := by
  rw [word_sgB]
  unfold sz neg
  cases ng
  · rw [show sgB false = 0 from rfl]
    exact ⟨by omega, by omega, decide_eq_false (by omega)⟩
  rw [show sgB true = 9223372036854775808 from rfl]
  exact ⟨by omega, by omega, decide_eq_true (by omega)⟩
theorem w_rung (b r : Nat) (hr : sz b = r) : wN (ftM b) (ftX b) * 2 ^ ex = V r * 2 ^ wR (ftX b) := by
  have hex := ex_eq
  obtain ⟨E, hE⟩ : ∃ E, E = b % 9223372036854775808 / 4503599627370496 := ⟨_, rfl⟩
  obtain ⟨M, hM⟩ : ∃ M, M = b % 9223372036854775808 % 4503599627370496 := ⟨_, rfl⟩
  obtain ⟨h1, h2⟩ := ft_x hE hM
  have hr' : b % 9223372036854775808 = r := hr
  rw [hr'] at hE hM
  rw [h1, h2]
  unfold wN wR V
  by_cases h0 : E = 0
  · rw [if_pos h0, if_pos h0, if_pos (by omega), show ((1 : Int) - 1023 - 52).toNat = 0 by decide, show ((52 : Int) - (1 - 1023)).toNat = ex by rw [hex]; decide, Nat.pow_zero, Nat.mul_one, show M = r by omega]
  rw [if_neg h0, if_neg h0, if_neg (by omega), ← hE, ← hM, Nat.mul_assoc, Nat.mul_assoc, ← Nat.pow_add, ← Nat.pow_add, Nat.add_comm M]
  congr 2
  omega
theorem print_exact (ng : Bool) (d c r : Nat) (hc : c ≤ 30) (hr : V r * 2 ^ c = d * 2 ^ ex) (hrl : r < 9218868437227405312) (w : World) (hL : Laid w) (hC : Cheats w) :
    Calls Tryz.prog 14 #[.float .f64 (Ieee.double.word ng r), .int .i64 c] w fun e w' => e = .returned (.tuple #[.string ⟨(fixT ng (d * 5 ^ c) c).toArray⟩, .int .i64 0]) ∧ Below w.heap.size w w' := by
  obtain ⟨hb, hsz, hng⟩ := word_facts ng r hrl
  obtain ⟨b, hbd⟩ : ∃ b, b = Ieee.double.word ng r := ⟨_, rfl⟩
  rw [← hbd] at hb hsz hng ⊢
  have HN := number_calls b hb
  rw [hsz, decide_eq_true hrl] at HN
  have HN := Lib.hid HN
  have HF := Lib.hid (sformat_walk w hL hC b c hb (by rw [hsz]; exact hrl) hc)
  have HQ : Hid (∀ Q, Rhe (wN (ftM b) (ftX b) * 10 ^ c) (2 ^ wR (ftX b)) Q → Q = d * 5 ^ c) := Lib.hid fun Q hQ => by
    have hw := w_rung b r hsz
    have e : wN (ftM b) (ftX b) * 10 ^ c = d * 5 ^ c * 2 ^ wR (ftX b) := by
      refine Nat.eq_of_mul_eq_mul_right (Nat.pow_pos (a := 2) (n := ex) (by decide)) ?_
      have e10 : (10 : Nat) ^ c = 2 ^ c * 5 ^ c := by rw [← Nat.mul_pow]
      rw [e10]
      generalize wN (ftM b) (ftX b) = x at *
      generalize 2 ^ wR (ftX b) = y at *
      generalize 2 ^ ex = z at *
      generalize (2 : Nat) ^ c = u at *
      generalize (5 : Nat) ^ c = v at *
      calc x * (u * v) * z = x * z * u * v := by grind
        _ = V r * y * u * v := by rw [hw]
        _ = V r * u * y * v := by grind
        _ = d * z * y * v := by rw [hr]
        _ = d * v * y * z := by grind
    rw [e] at hQ
    exact rhe_one (Nat.pow_pos (by decide)) hQ (rhe_exact _ _ (Nat.pow_pos (by decide)))
  have HG := Lib.hid hng
  have g1 : decide ((c : Int) < 0) = false := decide_eq_false (by omega)
  have g3 : ¬ (30 : Int) < c := by omega
  have g2 : decide (30 < (c : Int)) = false := decide_eq_false g3
  clear hL hC hsz hb hng hbd hr hrl hc
  go_enter Tryz.func14, Tryz.ntmps14
  go_wp2_with fail
  refine (HN.out _).mono ?_
  rintro e w1 ⟨rfl, hw1⟩
  obtain rfl := hw1.symm
  clear hw1 HN
  go_wp2_with fail
  refine HF.out.mono ?_
  rintro e w2 ⟨Q2, hQ2, rfl, hb2⟩
  have hq := HQ.out Q2 hQ2
  have HT := Lib.hid (show (fixT (neg b) Q2 c) = fixT ng (d * 5 ^ c) c by rw [hq, HG.out])
  clear hQ2 HF hq
  obtain ⟨T, hT⟩ : ∃ T, T = fixT (neg b) Q2 c := ⟨_, rfl⟩
  rw [← hT] at HT ⊢
  clear hT
  go_wp2_with fail
  go_ret2
  exact ⟨by rw [HT.out]; rfl, hb2⟩
set_option maxRecDepth 100000 in
set_option maxHeartbeats 2000000 in
theorem places_out (m p : Int) (h : p < 0 ∨ (¬ p < 0 ∧ (30 < p ∨ (¬ 30 < p ∧ (m < -9007199254740992 ∨ (¬ m < -9007199254740992 ∧ 9007199254740992 < m)))))) (w : World) (hL : Laid w) : Calls Tryz.prog 6 #[.int .i64 m, .int .i64 p] w fun e w' => e = .returned (.bool true) ∧ Below w.heap.size w w' := by
  have HA := Lib.hid (awake_true w hL)
  clear hL
  rcases h with h | ⟨h1, h | ⟨h2, h | ⟨h3, h⟩⟩⟩
  · have g1 : decide (p < 0) = true := decide_eq_true h
    go_enter Tryz.func6, Tryz.ntmps6
    go_wp2_with fail
    refine HA.out.mono ?_
    rintro e w1 ⟨rfl, hb1⟩
    go_wp2_with fail
    go_ret
    exact ⟨rfl, hb1⟩
  · have g1 : decide (p < 0) = false := decide_eq_false h1
    have g2 : decide (30 < p) = true := decide_eq_true h
    go_enter Tryz.func6, Tryz.ntmps6
    go_wp2_with fail
    refine HA.out.mono ?_
    rintro e w1 ⟨rfl, hb1⟩
    go_wp2_with fail
    go_ret
    exact ⟨rfl, hb1⟩
  · have g1 : decide (p < 0) = false := decide_eq_false h1
    have g2 : decide (30 < p) = false := decide_eq_false h2
    have g3 : decide (m < -9007199254740992) = true := decide_eq_true h
    go_enter Tryz.func6, Tryz.ntmps6
    go_wp2_with fail
    refine HA.out.mono ?_
    rintro e w1 ⟨rfl, hb1⟩
    go_wp2_with fail
    go_ret
    exact ⟨rfl, hb1⟩
  have g1 : decide (p < 0) = false := decide_eq_false h1
  have g2 : decide (30 < p) = false := decide_eq_false h2
  have g3 : decide (m < -9007199254740992) = false := decide_eq_false h3
  have g4 : decide (9007199254740992 < m) = true := decide_eq_true h
  go_enter Tryz.func6, Tryz.ntmps6
  go_wp2_with fail
  refine HA.out.mono ?_
  rintro e w1 ⟨rfl, hb1⟩
  go_wp2_with fail
  go_ret
  exact ⟨rfl, hb1⟩
set_option maxRecDepth 100000 in
set_option maxHeartbeats 4000000 in
theorem textPlaces_walk (m p : Int) (w : World) (hL : LaidD w) : Calls Tryz.prog 6 #[.int .i64 m, .int .i64 p] w fun e w' => e = .returned (.bool true) ∧ Below w.heap.size w w' := by
  by_cases hout : p < 0 ∨ (¬ p < 0 ∧ (30 < p ∨ (¬ 30 < p ∧ (m < -9007199254740992 ∨ (¬ m < -9007199254740992 ∧ 9007199254740992 < m)))))
  · exact places_out m p hout w hL.laid
  obtain ⟨c, hc⟩ : ∃ c : Nat, p = c := ⟨p.toNat, by omega⟩
  subst hc
  have hc30 : c ≤ 30 := by omega
  obtain ⟨r0, v1, v2, v3, hf⟩ := conv_word m (by omega)
  obtain ⟨ng, hng⟩ : ∃ ng, ng = decide (m < 0) := ⟨_, rfl⟩
  rw [← hng] at hf
  obtain ⟨d, hd⟩ : ∃ d, d = m.natAbs := ⟨_, rfl⟩
  rw [← hd] at v1
  have hd53 : d ≤ 9007199254740992 := by omega
  have hng0 : d = 0 → ng = false := fun h => by rw [hng]; exact decide_eq_false (by omega)
  have g1 : decide ((c : Int) < 0) = false := decide_eq_false (by omega)
  have g2 : decide (30 < (c : Int)) = false := decide_eq_false (by omega)
  have g3 : decide (m < -9007199254740992) = false := decide_eq_false (by omega)
  have g4 : decide (9007199254740992 < m) = false := decide_eq_false (by omega)
  have g1' : ¬ (c : Int) < 0 := by omega
  have g2' : ¬ 30 < (c : Int) := by omega
  have g3' : ¬ m < -9007199254740992 := by omega
  have g4' : ¬ 9007199254740992 < m := by omega
  obtain ⟨X0, hX0⟩ : ∃ X0, X0 = Ieee.double.word ng r0 := ⟨_, rfl⟩
  rw [← hX0] at hf
  have HD : Hid (d ≤ 9007199254740992 ∧ (d = 0 → ng = false) ∧ c ≤ 30) := Lib.hid ⟨hd53, hng0, hc30⟩
  have H0 : Hid (X0 = Ieee.double.word ng r0 ∧ V r0 = d * 2 ^ ex ∧ r0 < 9218868437227405312) := Lib.hid ⟨hX0, v1, v2⟩
  have HL := Lib.hid hL
  clear hout v1 v2 v3 hng hd hd53 hng0 hc30 hX0 hL
  go_enter Tryz.func6, Tryz.ntmps6
  go_upto_block 0 with (fail)
  clear g1 g2 g3 g4 g1' g2' g3' g4' hf
  go_cut [5, 6] (fun v5 v6 w' => ∃ (X r : Nat), v5 = .float .f64 X ∧ Hid (X = Ieee.double.word ng r ∧ V r = d * 2 ^ (ex - c) ∧ r < 9218868437227405312) ∧ w = w')
  case first =>
    go_wp2_with fail
    go_loopg [5, 6] c (fun gn v5 v6 w' => ∃ (X r i : Nat), v5 = .float .f64 X ∧ v6 = .int .i64 i ∧ Hid (gn + i = c ∧ X = Ieee.double.word ng r ∧ V r = d * 2 ^ (ex - i) ∧ r < 9218868437227405312) ∧ w = w')
    case atStart => exact ⟨X0, r0, 0, rfl, rfl, Lib.hid ⟨by omega, H0.out.1, by rw [Nat.sub_zero]; exact H0.out.2.1, H0.out.2.2⟩, rfl⟩
    case round =>
      obtain ⟨X, r, i, rfl, rfl, hH, hww⟩ := hrel
      subst hww
      obtain ⟨q1, q2, q3, q4⟩ := hH.out
      have hex := ex_eq
      by_cases hi : i < c
      · have hc30 := HD.out.2.2
        obtain ⟨r', a1, a2, a3⟩ := half_word ng d (ex - (i + 1)) r HD.out.1 (by omega) (by omega) (by rw [show ex - (i + 1) + 1 = ex - i by omega]; exact q3) q4 HD.out.2.1
        rw [← q2] at a3
        obtain ⟨Y, hY⟩ : ∃ Y, Y = Ieee.double.word ng r' := ⟨_, rfl⟩
        rw [← hY] at a3
        have hdv := run_quo a3
        have HR : Hid (gk - 1 < gk ∧ gk - 1 + (i + 1) = c ∧ Y = Ieee.double.word ng r' ∧ V r' = d * 2 ^ (ex - (i + 1)) ∧ r' < 9218868437227405312) := Lib.hid ⟨by omega, by omega, hY, a1, a2⟩
        have g1 : (i : Int) < c := by omega
        have w1 : IntKind.i64.wrap ((i : Int) + 1) = ((i + 1 : Nat) : Int) := by rw [Go.IntKind.wrap_i64]; omega
        clear hH q1 q2 q3 q4 hi a1 a2 a3 hY hex hc30
        go_wp2_with fail
        go_roundg (gk - 1)
        case measure => exact HR.out.1
        case rel => exact ⟨Y, r', i + 1, rfl, by first | rfl | go_num, Lib.hid HR.out.2, rfl⟩
      have hic : i = c := by omega
      have HR : Hid (X = Ieee.double.word ng r ∧ V r = d * 2 ^ (ex - c) ∧ r < 9218868437227405312) := Lib.hid ⟨q2, by rw [← hic]; exact q3, q4⟩
      have g1 : ¬ (i : Int) < c := by omega
      have g1b : decide ((i : Int) < (c : Int)) = false := decide_eq_false g1
      clear hH q1 q2 q3 q4 hi hex hic
      go_wp2_with fail
      go_meet
      case rel => exact ⟨X, r, rfl, HR, rfl⟩
  obtain ⟨X, r, rfl, hH, hww⟩ := hcut
  subst hww
  obtain ⟨q2, q3, q4⟩ := hH.out
  have hex := ex_eq
  have hVc : V r * 2 ^ c = d * 2 ^ ex := by
    rw [q3, Nat.mul_assoc, ← Nat.pow_add, show ex - c + c = ex by have := HD.out.2.2; omega]
  have HP := Lib.hid (print_exact ng d c r HD.out.2.2 hVc q4 w HL.out.laid HL.out.cheats)
  have hQ : d * 5 ^ c < 10 ^ 40 := by
    have h1 : d * 5 ^ c ≤ 9007199254740992 * 5 ^ 30 := Nat.mul_le_mul HD.out.1 (Nat.pow_le_pow_right (by decide) HD.out.2.2)
    exact Nat.lt_of_le_of_lt h1 (by decide)
  obtain ⟨l, A, D, dot, hN, hv, hDl, hs⟩ := fix_numT ng (d * 5 ^ c) c hQ HD.out.2.2
  have hnear := places_near d c r HD.out.2.2 hVc
  rw [← hv, ← hDl] at hnear
  have HQ := Lib.hid fun W (hW : LaidD W) => parse_num hN hs (formL_of hN rfl) r (by rw [hDl] at hnear ⊢; exact hnear) W hW
  have hx : paX ng r = X := by unfold paX; rw [if_neg (by omega), q2]
  have hcc : paC r = 0 := by unfold paC; rw [if_neg (by omega)]
  rw [hx, hcc] at HQ
  rw [← q2] at HP
  have heq : (FloatKind.f64.format.order X X == some .eq) = true := by
    rw [q2]
    have := eq_fin ng r r q4 q4
    rw [decide_eq_true rfl] at this
    exact this
  obtain ⟨T, hT⟩ : ∃ T : ByteArray, T = ⟨(fixT ng (d * 5 ^ c) c).toArray⟩ := ⟨_, rfl⟩
  rw [← hT] at HP HQ
  clear hT q2 q3 q4 hVc hQ hN hv hDl hs hnear hx hcc hH H0 hex
  go_step
  go_wp2_with fail
  refine HP.out.mono ?_
  rintro e w1 ⟨rfl, hb1⟩
  have hL1 := HL.out.below hb1
  clear HP
  go_wp2_with fail
  refine (HQ.out _ hL1).mono ?_
  rintro e w2 ⟨rfl, hb2⟩
  have hL2 := hL1.below hb2
  have hb02 := hb1.trans (hb2.mono hb1.size)
  clear HQ hL1 hb1 hb2
  go_wp2_with fail
  refine (awake_true _ hL2.laid).mono ?_
  rintro e w6 ⟨rfl, hb6⟩
  have hb06 := hb02.trans (hb6.mono hb02.size)
  go_wp2_with fail
  go_ret
  exact ⟨rfl, hb06⟩
end Go.Proofs.YtjpiplplohapnaaGreatDoor
namespace Go.Proofs.YtjpiplplohapnaaGreatDoor
open Go.ChangeShapes Go.WideShapes Go.ChangeAt Go.RowKit
open Go.ChangeMaps (open_string shut_string)
theorem ownT : ownKnob Tryz.prog.godebug = none := by kernel_rfl
set_option maxRecDepth 100000 in
theorem textPlaces_lifted (os : Os) (started : os.Started) (H : Type) (enc : TypeId × Value → H) :
    ReturnsInHanded {} Tryz.checked os 6 .any (fun w args => (Rows.textPlacesSpec.pre enc Tryz.prog Tryz.f6 Rows.textPlacesRow.domain false w args ∧ laidMetH Tryz.prog laidL w) ∧ sizedMet enc Tryz.prog Tryz.f6 (OpenSpec.ofChange Rows.textPlacesSpec) false w args)
      (Rows.textPlacesSpec.post enc Tryz.prog Tryz.f6 false true false false) := by
  refine returnsInHanded_of_change_and (C := Tryz.checked) (X := fun w _ => laidMetH Tryz.prog laidL w) (fun _ _ _ hh h => h.of_heap hh) ownT started (by kernel_rfl) Tryz.func6
    (ChangeSpec.witness_shaped (enc := enc) (C := Tryz.checked) (os := os) (X := fun w _ => laidMetH Tryz.prog laidL w) false (World.laidAll Tryz.prog os laidL) #[.int .i64 0, .int .i64 0] 8 (World.laidAll_os _ _ _)
      (World.shaped_of_ZipB (by kernel_rfl) (by kernel_rfl)) (by kernel_rfl) (by kernel_rfl) (by kernel_rfl)
      (by rw [MakeChecks.laidMetH_plain _ _ _ (by kernel_rfl)]; exact laidMet_laidAll _ (by kernel_rfl) (by kernel_rfl))) ?_
  intro W base args ds gs before hval0 hW hc hsz0 hL _
  clear hc hsz0
  have hval : ∀ (j : Nat) t v, Tryz.f6.params[j]? = some t → args[j]? = some v → Value.okWide Tryz.prog W .any base t v := hval0
  have hW' := hW
  obtain ⟨p, q, hA0, hV, rfl, _, _⟩ := hW
  have hA : DataW.TrodAll enc Tryz.prog W 0 (fun _ => true) true Tryz.f6.params.toList args.toList ds p := hA0
  rw [Tryz.params6] at hA hval
  obtain ⟨v0, v1, d0, d1, p0, p1, rfl, rfl, rfl, h0, h1⟩ := trodAll_two hA
  obtain ⟨rfl, rfl⟩ := trodVars_none hV
  obtain ⟨m, rfl, rfl, rfl, wm⟩ := open_int Tryz.underlying3 (hval 0 3 v0 rfl rfl) h0
  obtain ⟨n, rfl, rfl, rfl, wn⟩ := open_int Tryz.underlying3 (hval 1 3 v1 rfl rfl) h1
  clear hA0 hval0
  simp only [List.append_nil] at hW'
  rw [MakeChecks.laidMetH_plain _ _ _ (by kernel_rfl)] at hL
  refine (textPlaces_walk m n W ⟨laid_of_met hL, met_cheats hL, met_powt hL⟩).mono fun e W' ⟨he, hb⟩ => ?_
  subst he
  refine ⟨_, rfl, _, _, _, [], [], [], hW', ?_, ?_, rfl, hb.frame _, fun h => by cases h⟩
  · exact trodAll_mk1 (shut_bool Tryz.underlying4 _)
  exact trodAll_mk2 (shut_int Tryz.underlying3 wm) (shut_int Tryz.underlying3 wn)
theorem textPlaces_holds : Rows.TextPlacesSaid :=
  OpenClaim.holds_of_wide 6 Tryz.f6 rfl rfl rfl rfl rfl rfl rfl ⟨rfl, rfl, rfl, rfl, rfl⟩ rfl rfl rfl rfl rfl (by kernel_rfl) Tryz.func6 (by kernel_rfl)
    (of_decide_eq_true (by kernel_rfl)) (by unfold Func.isWrapper; first | (rw [if_pos (by decide +kernel)]; kernel_rfl) | (rw [if_neg (by decide +kernel)]; exact ⟨rfl, rfl⟩))
    (fun os started H enc _ => textPlaces_lifted os started H enc)
#print axioms textPlaces_holds
end Go.Proofs.YtjpiplplohapnaaGreatDoor
namespace Go.Proofs.YtjpiplplohapnaaGreatDoor
open Go
theorem textPlaces_card : Rows.TextPlacesCardSaid :=
  Claim7.holds_tied_plain_at .later [] [.data, .data, .widerDeep, .widerDeep, .data, .data, .data, .data, .data, .data, .sentinel, .sentinel, .pinned, .pinned, .pinned] true (true, "88b106d7fc526b4d2f4990cd12e5310ed366ec0058fe55e1a106d0c7beb3aadc") true
    textPlaces_holds (fun _ h => by cases h) (by kernel_rfl) (fun _ h => by cases h) textPlaces_row_tie rfl ⟨rfl, rfl⟩ (by kernel_rfl) rfl
    (fun f fn hf hfn => by
      obtain rfl : f = 6 := Option.some.inj ((show Tryz.prog.funcNamed "tenor/tenorlaw2.TextPlaces" = some 6 by kernel_rfl).symm.trans hf) |>.symm
      obtain rfl : fn = Tryz.f6 := (Option.some.inj (Tryz.func6.symm.trans hfn)).symm
      exact ⟨by kernel_rfl, fun j t ht => by
        rw [Tryz.params6] at ht
        have hm : t ∈ [3, 3] := by simpa using Array.mem_of_getElem? ht
        have hall : ([3, 3].all fun u => !Tryz.prog.wantsStandIn u) = true := by kernel_rfl
        exact (show Tryz.prog.wantsStandIn t = false by simpa using List.all_eq_true.1 hall t hm)⟩)
    (by kernel_rfl)
#print axioms textPlaces_card
end Go.Proofs.YtjpiplplohapnaaGreatDoor
