/- Part 15 of the proof: Tf, Ss, Sq, Sp, Sn. -/
import Derived.Test.YtjpiplplohapnaaGreatDoorPl14
set_option linter.unusedVariables false
set_option linter.unusedSimpArgs false
namespace Go.Proofs.YtjpiplplohapnaaGreatDoor.Rf
structure SI (t : St) (W q k : Nat) : Prop where
  us : t.us = false
  nm : t.nm ≤ 19
  nd : t.nd = t.nm + k
  zero : W = 0 → t.nd = 0
  lead : 1 ≤ t.nm → 10 ^ (t.nm - 1) ≤ t.m
  lo : t.m * 10 ^ k ≤ W
  hi : W < (t.m + 1) * 10 ^ k
  whole : t.tr = false → W = t.m * 10 ^ k
  more : t.tr = true → t.m * 10 ^ k < W
  full : 0 < k → t.nm = 19
  pt : t.dot = true → t.dp = (t.nd : Int) - q
  nopt : t.dot = false → q = 0
  small : t.m < 10 ^ t.nm
theorem si0 : SI st0 0 0 0 := ⟨rfl, by decide, rfl, fun _ => rfl, fun h => absurd h (by decide), by decide, by decide, fun _ => rfl, (fun h => by cases h), fun h => absurd h (by decide), (fun h => by cases h), fun _ => rfl, by decide⟩
theorem si_digit {t : St} {W q k : Nat} (h : SI t W q k) {c : UInt8} (hc : Num.isD c) : ∃ t' k', stp false c.toNat t = some t' ∧ t'.sd = true ∧ t'.dot = t.dot ∧ SI t' (10 * W + (c.toNat - 48)) (if t.dot then q + 1 else q) k' := by
  obtain ⟨h1, h2, h3, h4, h5, h6, h7, h8, h9, h10, h11, h12, h13⟩ := h
  have hd : 48 ≤ c.toNat ∧ c.toNat ≤ 57 := hc
  obtain ⟨f, hf⟩ : ∃ f, f = c.toNat - 48 := ⟨_, rfl⟩
  rw [← hf]
  have hf9 : f ≤ 9 := by omega
  unfold stp
  rw [if_neg (by omega), if_neg (by omega), if_pos hd]
  obtain ⟨us, dot, sd, nd, nm, dp, m, tr⟩ := t
  dsimp only at h1 h2 h3 h4 h5 h6 h7 h8 h9 h10 h11 h12 h13 ⊢
  by_cases hz : c.toNat = 48 ∧ nd = 0
  · rw [if_pos hz]
    have hnm : nm = 0 := by omega
    have hk : k = 0 := by omega
    subst hnm hk
    have hm : m = 0 := by rw [Nat.pow_zero] at h13; omega
    subst hm
    have hW : W = 0 := by rw [Nat.pow_zero] at h7; omega
    have hf0 : f = 0 := by omega
    subst hW hf0
    have htr : tr = false := by
      cases tr
      · rfl
      have := h9 rfl; omega
    subst htr
    refine ⟨_, 0, rfl, rfl, rfl, ⟨h1, Nat.zero_le _, h3, fun _ => hz.2, fun h => absurd h (by show ¬ 1 ≤ 0; decide), (by show 0 * 10 ^ 0 ≤ 10 * 0 + 0; decide), (by show 10 * 0 + 0 < (0 + 1) * 10 ^ 0; decide), fun _ => rfl, (fun h => by cases h), fun h => absurd h (by decide), fun h => ?_, fun h => ?_, (by show 0 < 10 ^ 0; decide)⟩⟩
    · have hdt : dot = true := h
      rw [hdt, if_pos rfl]
      have := h11 hdt
      show dp - 1 = (nd : Int) - ((q + 1 : Nat) : Int)
      omega
    have hdt : dot = false := h
    rw [hdt, if_neg (by decide)]; exact h12 hdt
  rw [if_neg hz]
  by_cases hn : nm < mxd false
  · rw [if_pos hn]
    have hn19 : nm < 19 := hn
    have hk : k = 0 := by
      rcases Nat.eq_zero_or_pos k with e | e
      · exact e
      have := h10 e; omega
    subst hk
    rw [Nat.pow_zero, Nat.mul_one] at h6 h7
    have hW : W = m := by omega
    subst hW
    have hnd : nd = nm := by omega
    subst hnd
    refine ⟨_, 0, rfl, rfl, rfl, ⟨h1, ?_, ?_, ?_, ?_, ?_, ?_, ?_, ?_, fun h => absurd h (by decide), fun h => ?_, fun h => ?_, ?_⟩⟩
    · show nd + 1 ≤ 19; omega
    · show nd + 1 = nd + 1 + 0; rfl
    · intro h0
      exfalso
      have hW0 : W = 0 := by omega
      have hnd0 := h4 hW0
      exact hz ⟨by omega, hnd0⟩
    · intro _
      show 10 ^ (nd + 1 - 1) ≤ W * 10 + (c.toNat - 48)
      rw [Nat.add_sub_cancel]
      rcases Nat.eq_zero_or_pos nd with e | e
      · subst e
        have hne : c.toNat ≠ 48 := fun h => hz ⟨h, rfl⟩
        rw [Nat.pow_zero]; omega
      have h5' := h5 e
      have e1 : 10 ^ nd = 10 ^ (nd - 1) * 10 := by rw [← Nat.pow_succ]; congr 1; omega
      rw [e1]
      omega
    · show (W * 10 + (c.toNat - 48)) * 10 ^ 0 ≤ 10 * W + f
      rw [Nat.pow_zero]; omega
    · show 10 * W + f < (W * 10 + (c.toNat - 48) + 1) * 10 ^ 0
      rw [Nat.pow_zero]; omega
    · intro _
      show 10 * W + f = (W * 10 + (c.toNat - 48)) * 10 ^ 0
      rw [Nat.pow_zero]; omega
    · intro ht
      have ht' : tr = true := ht
      exfalso
      have := h9 ht'
      rw [Nat.pow_zero] at this; omega
    · have hdt : dot = true := h
      rw [hdt, if_pos rfl]
      have := h11 hdt
      show dp = ((nd + 1 : Nat) : Int) - ((q + 1 : Nat) : Int)
      omega
    · have hdt : dot = false := h
      rw [hdt, if_neg (by decide)]; exact h12 hdt
    show W * 10 + (c.toNat - 48) < 10 ^ (nd + 1)
    rw [Nat.pow_succ]; omega
  rw [if_neg hn]
  have hn19 : nm = 19 := by have : ¬ nm < 19 := hn; omega
  have hp : 0 < 10 ^ k := Nat.pow_pos (by decide)
  have e1 : m * 10 ^ (k + 1) = m * 10 ^ k * 10 := by rw [Nat.pow_succ, Nat.mul_assoc]
  have e2 : (m + 1) * 10 ^ (k + 1) = (m + 1) * 10 ^ k * 10 := by rw [Nat.pow_succ, Nat.mul_assoc]
  refine ⟨_, k + 1, rfl, rfl, rfl, ⟨h1, h2, ?_, ?_, h5, ?_, ?_, ?_, ?_, fun _ => hn19, fun h => ?_, fun h => ?_, h13⟩⟩
  · show nd + 1 = nm + (k + 1); omega
  · intro h0
    exfalso
    have := h4 (by omega)
    omega
  · show m * 10 ^ (k + 1) ≤ 10 * W + f
    rw [e1]; omega
  · show 10 * W + f < (m + 1) * 10 ^ (k + 1)
    rw [e2]; omega
  · intro ht
    have ht' : (tr || decide (c.toNat ≠ 48)) = false := ht
    have h14 : tr = false ∧ c.toNat = 48 := by simpa using ht'
    have := h8 h14.1
    show 10 * W + f = m * 10 ^ (k + 1)
    rw [e1]; omega
  · intro ht
    have ht' : (tr || decide (c.toNat ≠ 48)) = true := ht
    show m * 10 ^ (k + 1) < 10 * W + f
    rw [e1]
    by_cases hc48 : c.toNat = 48
    · have htt : tr = true := by
        cases tr
        · simp [hc48] at ht'
        rfl
      have := h9 htt
      omega
    omega
  · have hdt : dot = true := h
    rw [hdt, if_pos rfl]
    have := h11 hdt
    show dp = ((nd + 1 : Nat) : Int) - ((q + 1 : Nat) : Int)
    omega
  have hdt : dot = false := h
  rw [hdt, if_neg (by decide)]; exact h12 hdt
theorem si_scan : ∀ (D r : List UInt8) (t : St) (W q k : Nat), (∀ c ∈ D, Num.isD c) → D ≠ [] → SI t W q k →
    ∃ t' k', scan false (D ++ r) t = scan false r t' ∧ t'.sd = true ∧ t'.dot = t.dot ∧ SI t' (Num.dv W D) (if t.dot then q + D.length else q) k'
  | [], r, t, W, q, k, _, h, _ => absurd rfl h
  | c :: D, r, t, W, q, k, hD, _, h => by
    obtain ⟨t1, k1, a1, a2, a3, a4⟩ := si_digit h (hD c (by simp))
    rw [List.cons_append, scan, a1, Num.dv_cons]
    dsimp only
    by_cases hn : D = []
    · subst hn
      refine ⟨t1, k1, rfl, a2, a3, ?_⟩
      rw [Num.dv_nil]
      exact a4
    obtain ⟨t2, k2, b1, b2, b3, b4⟩ := si_scan D r t1 _ _ k1 (fun d hd => hD d (by simp [hd])) hn a4
    refine ⟨t2, k2, b1, b2, b3.trans a3, ?_⟩
    rw [a3] at b4
    have e : (if t.dot = true then (if t.dot = true then q + 1 else q) + D.length else if t.dot = true then q + 1 else q) = if t.dot = true then q + (c :: D).length else q := by
      cases t.dot
      · rfl
      rw [if_pos rfl, if_pos rfl, if_pos rfl, List.length_cons]; omega
    rw [e] at b4
    exact b4
theorem si_dot {t : St} {W k : Nat} (h : SI t W 0 k) (hd : t.dot = false) : stp false 46 t = some { t with dot := true, dp := t.nd } ∧ SI { t with dot := true, dp := t.nd } W 0 k := by
  refine ⟨?_, ⟨h.us, h.nm, h.nd, h.zero, h.lead, h.lo, h.hi, h.whole, h.more, h.full, fun _ => ?_, (fun hh => by cases hh), h.small⟩⟩
  · unfold stp
    rw [if_neg (by decide), if_pos rfl, hd]
    rfl
  show (t.nd : Int) = (t.nd : Int) - ((0 : Nat) : Int)
  omega
structure Form (l A D : List UInt8) (dot : Bool) (E : List UInt8) : Prop where
  eq : l = A ++ ((if dot then 46 :: D else []) ++ E)
  dA : ∀ c ∈ A, Num.isD c
  nA : A ≠ []
  dD : ∀ c ∈ D, Num.isD c
  nD : dot = true → D ≠ []
  eD : dot = false → D = []
  pw : E = [] ∨ ∃ p, E = 101 :: p ∧ powD (sgn p) = true
def powE : List UInt8 → Int
  | [] => 0
  | _ :: p => powV p
theorem fin_form {l A D E : List UInt8} {dot : Bool} (h : Form l A D dot E) : ∃ (o : Out) (k : Nat), fin false (scan false l st0).1 (scan false l st0).2 = some o ∧ o.us = false ∧ o.rest = [] ∧
    (Num.dv 0 (A ++ D) = 0 → o.m = 0) ∧ (Num.dv 0 (A ++ D) ≠ 0 → o.m ≠ 0 ∧ o.e = (k : Int) + powE E - D.length) ∧ o.m * 10 ^ k ≤ Num.dv 0 (A ++ D) ∧ Num.dv 0 (A ++ D) < (o.m + 1) * 10 ^ k ∧
    (o.tr = false → Num.dv 0 (A ++ D) = o.m * 10 ^ k) ∧ (o.tr = true → o.m * 10 ^ k < Num.dv 0 (A ++ D) ∧ 10 ^ 18 ≤ o.m) ∧ o.m < 10 ^ 19 := by
  have key : ∃ t k, scan false l st0 = scan false E t ∧ t.sd = true ∧ SI t (Num.dv 0 (A ++ D)) D.length k := by
    obtain ⟨t1, k1, a1, a2, a3, a4⟩ := si_scan A ((if dot then 46 :: D else []) ++ E) st0 0 0 0 h.dA h.nA si0
    rw [← h.eq] at a1
    have a4' : SI t1 (Num.dv 0 A) 0 k1 := a4
    cases dot
    · have hD := h.eD rfl
      subst hD
      rw [if_neg (by decide), List.nil_append] at a1
      exact ⟨t1, k1, a1, a2, by rw [List.append_nil]; exact a4'⟩
    rw [if_pos rfl, List.cons_append, scan] at a1
    obtain ⟨b1, b2⟩ := si_dot a4' a3
    rw [show (46 : UInt8).toNat = 46 from rfl, b1] at a1
    dsimp only at a1
    obtain ⟨t2, k2, c1, c2, c3, c4⟩ := si_scan D E _ _ _ _ h.dD (h.nD rfl) b2
    refine ⟨t2, k2, a1.trans c1, c2, ?_⟩
    rw [Num.dv_append]
    have c4' : SI t2 (Num.dv (Num.dv 0 A) D) (0 + D.length) k2 := c4
    rw [Nat.zero_add] at c4'
    exact c4'
  obtain ⟨t, k, hs, hsd, hI⟩ := key
  have hend : scan false E t = (t, E) := by
    rcases h.pw with rfl | ⟨p, rfl, _⟩
    · rfl
    rw [scan, show (101 : UInt8).toNat = 101 from rfl, stp_e]
  rw [hs, hend]
  have hlw : lw (101 : UInt8).toNat = 101 := by decide +kernel
  have hx : expPart false t.us E = some (powE E, false, []) := by
    rcases h.pw with rfl | ⟨p, rfl, hp⟩
    · rw [hI.us]; rfl
    rw [expPart_hit_d hlw, hI.us, eat_pow p hp]; rfl
  refine ⟨⟨t.m, if t.m = 0 then 0 else dpv false t + powE E - nmv false t, t.tr, false, []⟩, k, ?_, rfl, rfl, ?_, ?_, hI.lo, hI.hi, hI.whole, ?_, ?_⟩
  · unfold fin
    dsimp only
    rw [if_pos hsd, hx]
    rfl
  · intro h0
    have h1 := hI.small
    have h2 : t.nm = 0 := by have := hI.zero h0; have := hI.nd; omega
    rw [h2, Nat.pow_zero] at h1
    show t.m = 0
    omega
  · intro h0
    have hm : t.m ≠ 0 := by
      intro hm
      rcases Nat.eq_zero_or_pos t.nm with e | e
      · have hk : k = 0 := by
          rcases Nat.eq_zero_or_pos k with g | g
          · exact g
          have := hI.full g; omega
        have := hI.hi
        rw [hm, hk] at this
        have h3 : Num.dv 0 (A ++ D) < 1 := by simpa using this
        omega
      have := hI.lead e
      have hp : 0 < 10 ^ (t.nm - 1) := Nat.pow_pos (by decide)
      omega
    refine ⟨hm, ?_⟩
    show (if t.m = 0 then (0 : Int) else dpv false t + powE E - nmv false t) = _
    rw [if_neg hm]
    unfold dpv nmv
    have hnd := hI.nd
    cases hdt : t.dot
    · have := hI.nopt hdt
      simp
      omega
    have := hI.pt hdt
    simp
    omega
  · intro ht
    refine ⟨hI.more ht, ?_⟩
    have hk : 0 < k := by
      rcases Nat.eq_zero_or_pos k with g | g
      · exfalso
        have h1 := hI.more ht
        have h2 := hI.hi
        rw [g, Nat.pow_zero] at h1 h2
        omega
      exact g
    have hn := hI.full hk
    have := hI.lead (by omega)
    rw [hn] at this
    exact this
  have h1 := hI.small
  exact Nat.lt_of_lt_of_le h1 (Nat.pow_le_pow_right (by decide) hI.nm)
end Go.Proofs.YtjpiplplohapnaaGreatDoor.Rf
namespace Go.Proofs.YtjpiplplohapnaaGreatDoor.Rf
open Dc (upd N N_succ N_congr)
structure Dst where
  nd : Nat
  dp : Int
  dot : Bool
  sd : Bool
  d : Nat → Nat
def sstp (c : Nat) (t : Dst) : Option Dst :=
  if c = 46 then (if t.dot then none else some { t with dot := true, dp := t.nd })
  else if 48 ≤ c ∧ c ≤ 57 then
    if c = 48 ∧ t.nd = 0 then some { t with sd := true, dp := t.dp - 1 }
    else some { t with sd := true, nd := t.nd + 1, d := upd t.d t.nd c }
  else none
def sscan : List UInt8 → Dst → Dst × List UInt8
  | [], t => (t, [])
  | c :: l, t => match sstp c.toNat t with
    | some t' => sscan l t'
    | none => (t, c :: l)
structure DI (t : Dst) (W q k : Nat) : Prop where
  dg : ∀ i, i < t.nd → 48 ≤ t.d i ∧ t.d i ≤ 57
  first : 0 < t.nd → t.d 0 ≠ 48
  val : N (fun i => t.d i - 48) t.nd = W
  pt : t.dot = true → t.dp = (t.nd : Int) - q
  nopt : t.dot = false → q = 0
  len : t.nd ≤ k
theorem upd_same (d : Nat → Nat) (i v : Nat) : upd d i v i = v := by unfold upd; rw [if_pos rfl]
theorem upd_other (d : Nat → Nat) {i j : Nat} (v : Nat) (h : j ≠ i) : upd d i v j = d j := by unfold upd; rw [if_neg h]
theorem sd_digit {t : Dst} {W q k : Nat} (h : DI t W q k) {c : UInt8} (hc : Num.isD c) : ∃ t', sstp c.toNat t = some t' ∧ t'.sd = true ∧ t'.dot = t.dot ∧ DI t' (10 * W + (c.toNat - 48)) (if t.dot then q + 1 else q) (k + 1) := by
  obtain ⟨h1, h2, h3, h4, h5, h6⟩ := h
  have hd : 48 ≤ c.toNat ∧ c.toNat ≤ 57 := hc
  obtain ⟨f, hf⟩ : ∃ f, f = c.toNat := ⟨_, rfl⟩
  rw [← hf] at hd ⊢
  unfold sstp
  rw [if_neg (by omega), if_pos hd]
  obtain ⟨nd, dp, dot, sd, d⟩ := t
  dsimp only at h1 h2 h3 h4 h5 h6 ⊢
  by_cases hz : f = 48 ∧ nd = 0
  · rw [if_pos hz]
    obtain ⟨z1, z2⟩ := hz
    subst z2
    have hW : W = 0 := h3.symm
    subst hW z1
    refine ⟨_, rfl, rfl, rfl, ⟨h1, h2, rfl, fun h => ?_, fun h => ?_, by show 0 ≤ k + 1; omega⟩⟩
    · have hdt : dot = true := h
      rw [hdt, if_pos rfl]
      have := h4 hdt
      show dp - 1 = ((0 : Nat) : Int) - ((q + 1 : Nat) : Int)
      omega
    have hdt : dot = false := h
    rw [hdt, if_neg (by decide)]; exact h5 hdt
  rw [if_neg hz]
  refine ⟨_, rfl, rfl, rfl, ⟨fun i hi => ?_, fun _ => ?_, ?_, fun h => ?_, fun h => ?_, by show nd + 1 ≤ k + 1; omega⟩⟩
  · have hi' : i < nd + 1 := hi
    show 48 ≤ upd d nd f i ∧ upd d nd f i ≤ 57
    by_cases e : i = nd
    · rw [e, upd_same]; exact hd
    rw [upd_other d f e]; exact h1 i (by omega)
  · show upd d nd f 0 ≠ 48
    by_cases e : nd = 0
    · subst e
      rw [upd_same]
      exact fun h => hz ⟨h, rfl⟩
    rw [upd_other d f (Ne.symm e)]; exact h2 (by omega)
  · show N (fun i => upd d nd f i - 48) (nd + 1) = 10 * W + (f - 48)
    have e : N (fun i => upd d nd f i - 48) nd = N (fun i => d i - 48) nd := N_congr nd fun i hi => by
      show upd d nd f i - 48 = d i - 48
      rw [upd_other d f (by omega)]
    rw [N_succ, e, h3, upd_same]
  · have hdt : dot = true := h
    rw [hdt, if_pos rfl]
    have := h4 hdt
    show dp = ((nd + 1 : Nat) : Int) - ((q + 1 : Nat) : Int)
    omega
  have hdt : dot = false := h
  rw [hdt, if_neg (by decide)]; exact h5 hdt
theorem sd_scan : ∀ (D r : List UInt8) (t : Dst) (W q k : Nat), (∀ c ∈ D, Num.isD c) → D ≠ [] → DI t W q k →
    ∃ t', sscan (D ++ r) t = sscan r t' ∧ t'.sd = true ∧ t'.dot = t.dot ∧ DI t' (Num.dv W D) (if t.dot then q + D.length else q) (k + D.length)
  | [], r, t, W, q, k, _, h, _ => absurd rfl h
  | c :: D, r, t, W, q, k, hD, _, h => by
    obtain ⟨t1, a1, a2, a3, a4⟩ := sd_digit h (hD c (by simp))
    rw [List.cons_append, sscan, a1, Num.dv_cons]
    dsimp only
    by_cases hn : D = []
    · subst hn
      refine ⟨t1, rfl, a2, a3, ?_⟩
      rw [Num.dv_nil]
      exact a4
    obtain ⟨t2, b1, b2, b3, b4⟩ := sd_scan D r t1 _ _ _ (fun d hd => hD d (by simp [hd])) hn a4
    refine ⟨t2, b1, b2, b3.trans a3, ?_⟩
    rw [a3] at b4
    have e : (if t.dot = true then (if t.dot = true then q + 1 else q) + D.length else if t.dot = true then q + 1 else q) = if t.dot = true then q + (c :: D).length else q := by
      cases t.dot
      · rfl
      rw [if_pos rfl, if_pos rfl, if_pos rfl, List.length_cons]; omega
    rw [e, show k + 1 + D.length = k + (c :: D).length by rw [List.length_cons]; omega] at b4
    exact b4
theorem sd_dot {t : Dst} {W k : Nat} (h : DI t W 0 k) (hd : t.dot = false) : sstp 46 t = some { t with dot := true, dp := t.nd } ∧ DI { t with dot := true, dp := t.nd } W 0 k := by
  refine ⟨?_, ⟨h.dg, h.first, h.val, fun _ => ?_, (fun hh => by cases hh), h.len⟩⟩
  · unfold sstp
    rw [if_pos rfl, hd]
    rfl
  show (t.nd : Int) = (t.nd : Int) - ((0 : Nat) : Int)
  omega
def dst0 (d : Nat → Nat) : Dst := ⟨0, 0, false, false, d⟩
theorem di0 (d : Nat → Nat) : DI (dst0 d) 0 0 0 := ⟨fun i hi => absurd hi (by show ¬ i < 0; omega), fun h => absurd h (by show ¬ 0 < 0; decide), rfl, (fun h => by cases h), fun _ => rfl, Nat.le_refl _⟩
theorem sstp_e (t : Dst) : sstp 101 t = none := by
  unfold sstp
  rw [if_neg (by omega), if_neg (by omega)]
theorem set_form {l A D E : List UInt8} {dot : Bool} (h : Form l A D dot E) (d : Nat → Nat) : ∃ t, sscan l (dst0 d) = (t, E) ∧ t.sd = true ∧ DI t (Num.dv 0 (A ++ D)) D.length (A.length + D.length) := by
  have key : ∃ t, sscan l (dst0 d) = sscan E t ∧ t.sd = true ∧ DI t (Num.dv 0 (A ++ D)) D.length (A.length + D.length) := by
    obtain ⟨t1, a1, a2, a3, a4⟩ := sd_scan A ((if dot then 46 :: D else []) ++ E) (dst0 d) 0 0 0 h.dA h.nA (di0 d)
    rw [← h.eq] at a1
    have a4' : DI t1 (Num.dv 0 A) 0 (0 + A.length) := a4
    rw [Nat.zero_add] at a4'
    cases dot
    · have hD := h.eD rfl
      subst hD
      rw [if_neg (by decide), List.nil_append] at a1
      exact ⟨t1, a1, a2, by rw [List.append_nil]; exact a4'⟩
    rw [if_pos rfl, List.cons_append, sscan] at a1
    obtain ⟨b1, b2⟩ := sd_dot a4' a3
    rw [show (46 : UInt8).toNat = 46 from rfl, b1] at a1
    dsimp only at a1
    obtain ⟨t2, c1, c2, c3, c4⟩ := sd_scan D E _ _ _ _ h.dD (h.nD rfl) b2
    refine ⟨t2, a1.trans c1, c2, ?_⟩
    rw [Num.dv_append]
    have c4' : DI t2 (Num.dv (Num.dv 0 A) D) (0 + D.length) (A.length + D.length) := c4
    rw [Nat.zero_add] at c4'
    exact c4'
  obtain ⟨t, hs, hsd, hI⟩ := key
  refine ⟨t, ?_, hsd, hI⟩
  rw [hs]
  rcases h.pw with rfl | ⟨p, rfl, _⟩
  · rfl
  rw [sscan, show (101 : UInt8).toNat = 101 from rfl, sstp_e]
theorem sscan_end {l : List UInt8} {k : Nat} {t : Dst} (h : l.length ≤ k) : sscan (l.drop k) t = (t, l.drop k) := by
  rw [List.drop_of_length_le h, sscan]
theorem sscan_some {l : List UInt8} {k : Nat} {t t' : Dst} (h : k < l.length) (hs : sstp l[k].toNat t = some t') : sscan (l.drop k) t = sscan (l.drop (k + 1)) t' := by
  rw [drop_at l k h, sscan, hs]
theorem sscan_none {l : List UInt8} {k : Nat} {t : Dst} (h : k < l.length) (hs : sstp l[k].toNat t = none) : sscan (l.drop k) t = (t, l.drop k) := by
  rw [drop_at l k h, sscan, hs]
def setSt (t : Dst) (q : Nat) (p : Int) : Dc.St := ⟨t.d, t.nd, (t.nd : Int) - q + p, false⟩
theorem set_weak {t : Dst} {W q k : Nat} (h : DI t W q k) (p : Int) (hW : W ≠ 0) (hk : k ≤ 800) : Dc.Weak (setSt t q p) ∧ (setSt t q p).X = W := by
  have hx : (setSt t q p).X = W := by
    rw [← h.val]
    show N (Dc.dig t.d t.nd) t.nd = _
    exact N_congr t.nd fun i hi => by unfold Dc.dig; rw [if_pos hi]
  have hn : 0 < t.nd := by
    rcases Nat.eq_zero_or_pos t.nd with e | e
    · exfalso
      apply hW
      have := h.val
      rw [e] at this
      exact this.symm
    exact e
  exact ⟨⟨hn, Nat.le_trans h.len hk, h.dg, h.first hn⟩, hx⟩
end Go.Proofs.YtjpiplplohapnaaGreatDoor.Rf
namespace Go.Proofs.YtjpiplplohapnaaGreatDoor
open Go.RowKit Go.Proofs.YtjpiplplohapnaaGreatDoorW.PrintWords Rf Dc
theorem Dc.IsDec.setNg {w : World} {g : Nat} {d : Nat → Nat} {nd dp : Int} {ng tr : Bool} (h : IsDec w g d nd dp ng tr) (v : Bool) : IsDec (w.setCell ⟨g, 802, none⟩ (.bool v)) g d nd dp v tr := by
  refine blk_put h 802 _ (dcells_set (fun j hj => ?_) (by omega))
  unfold dcell
  by_cases e : 802 = j
  · subst e; rfl
  rw [if_neg e]
  by_cases h1 : j < 800
  · rw [if_pos h1, if_pos h1]
  by_cases h2 : j = 800
  · rw [if_neg h1, if_neg h1, if_pos h2, if_pos h2]
  by_cases h3 : j = 801
  · rw [if_neg h1, if_neg h1, if_neg h2, if_neg h2, if_pos h3, if_pos h3]
  have h4 : j ≠ 802 := fun h => e h.symm
  rw [if_neg h1, if_neg h1, if_neg h2, if_neg h2, if_neg h3, if_neg h3, if_neg h4, if_neg h4]
def setDp (t : Dst) (E : List UInt8) : Int := (if t.dot then t.dp else t.nd) + powE E
def SetPost (g : Nat) (ng : Bool) (t : Dst) (E : List UInt8) (w : World) (e : Ending) (w' : World) : Prop := e = .returned (.bool true) ∧ Below g w w' ∧ IsDec w' g t.d t.nd (setDp t E) ng false
structure DOk (t : Dst) (k : Nat) : Prop where
  nd : t.nd ≤ k
  dp1 : -(k : Int) ≤ t.dp
  dp2 : t.dp ≤ k
end Go.Proofs.YtjpiplplohapnaaGreatDoor
namespace Go.Proofs.YtjpiplplohapnaaGreatDoor
open Go.RowKit Go.Proofs.YtjpiplplohapnaaGreatDoorW.PrintWords Rf Dc
set_option maxRecDepth 100000 in
set_option maxHeartbeats 8000000 in
theorem set_p (s : ByteArray) (hs : s.size ≤ 400) (h0 : 0 < s.size) (hsg : s[0].toNat ≠ 45 ∧ s[0].toNat ≠ 43) (w : World) (g : Nat) (d : Nat → Nat) (hD : IsDec w g d 0 0 false false) (tF : Dst) (E : List UInt8) (hsc : sscan (s.data.toList.drop 0) (dst0 d) = (tF, E)) (hsd : tF.sd = true) (hE : E = [] ∨ ∃ p, E = 101 :: p ∧ powD (sgn p) = true) (hlen : tF.nd ≤ 800) :
    Calls Tryz.prog 148 #[.pointer (some ⟨g, 0, none⟩), .string s] w (SetPost g false tF E w) := by
  have hne : ¬ s = ByteArray.empty := by rintro rfl; simp at h0
  have hz0 : 0 < s.size := by omega
  have hz0I : (0 : Int) < s.size := by omega
  obtain ⟨c0, hc0⟩ : ∃ c0 : Nat, s[0].toNat = c0 := ⟨_, rfl⟩
  have e0 : (s[0].toNat : Int) = c0 := by rw [hc0]
  rw [hc0] at hsg
  have g1 : ((c0 : Int) == 45) = false := by simp; omega
  have g2 : ((c0 : Int) == 43) = false := by simp; omega
  have cng := hD.cng
  have ctr := hD.ctr
  have fr2 := hD.frozen 802
  have fr3 := hD.frozen 803
  have h2 := (hD.setNg false).setTr false
  have HD := Lib.hid h2
  have HB := Lib.hid (((Below.refl g w).setCell (p := ⟨g, 802, none⟩) (Nat.le_refl g) (.bool false)).setCell (p := ⟨g, 803, none⟩) (Nat.le_refl g) (.bool false))
  clear hsg hc0 hD h2
  go_enter Tryz.func148, Tryz.ntmps148
  go_upto_block 1 with (fail)
  clear e0 g1 g2 cng ctr fr2 fr3
  go_cut [5, 6, 7] (fun v5 v6 v7 w' => ∃ k : Nat, v5 = .int .i64 k ∧ v6 = .bool tF.dot ∧ v7 = .bool tF.sd ∧ Hid (s.data.toList.drop k = E ∧ k ≤ s.size ∧ DOk tF k) ∧ IsDec w' g tF.d tF.nd tF.dp false false ∧ Hid (Below g w w'))
  case first =>
    go_wp2_with fail
    have Hsc := Lib.hid hsc
    clear hsc
    go_loopg [5, 6, 7] (s.size - 0) (fun gn v5 v6 v7 w' => ∃ (k : Nat) (t : Dst), v5 = .int .i64 k ∧ v6 = .bool t.dot ∧ v7 = .bool t.sd ∧ Hid (gn + k = s.size ∧ sscan (s.data.toList.drop k) t = (tF, E) ∧ DOk t k) ∧ IsDec w' g t.d t.nd t.dp false false ∧ Hid (Below g w w'))
    case atStart => exact ⟨0, dst0 d, rfl, rfl, rfl, Lib.hid ⟨by omega, Hsc.out, ⟨by show 0 ≤ 0; omega, by show -((0 : Nat) : Int) ≤ 0; omega, by show (0 : Int) ≤ ((0 : Nat) : Int); omega⟩⟩, HD.out, HB⟩
    case round =>
      obtain ⟨k, t, rfl, rfl, rfl, hH, hdec, hb⟩ := hrel
      obtain ⟨hg, hsc, hok⟩ := hH.out
      obtain ⟨nd, dp, dot, sd, d'⟩ := t
      have o1 : nd ≤ k := hok.nd
      have o2 : -(k : Int) ≤ dp := hok.dp1
      have o3 : dp ≤ k := hok.dp2
      dsimp only at hdec
      clear Hsc hok HD HB
      by_cases hkl : k < s.size
      · have hl : k < s.data.toList.length := by simpa using hkl
        have hkI : (k : Int) < s.size := by omega
        have hsk : ((s[k].toNat : Nat) : Int) = ((s.data.toList[k].toNat : Nat) : Int) := rfl
        have hss := fun t' => @sscan_some s.data.toList k ⟨nd, dp, dot, sd, d'⟩ t' hl
        have hsn := @sscan_none s.data.toList k ⟨nd, dp, dot, sd, d'⟩ hl
        have hend0 : ∀ c : Nat, c = s.data.toList[k].toNat → sstp c ⟨nd, dp, dot, sd, d'⟩ = none → c = 101 ∧ tF = ⟨nd, dp, dot, sd, d'⟩ ∧ s.data.toList.drop k = E := by
          intro c hc hn
          have h1 := (hsn (by rw [← hc]; exact hn)).symm.trans hsc
          obtain ⟨h2, h3⟩ := Prod.mk.inj h1
          refine ⟨?_, h2.symm, h3⟩
          rcases hE with h | ⟨p, h, _⟩
          · rw [h, drop_at _ k hl] at h3; cases h3
          rw [h, drop_at _ k hl] at h3
          have := (List.cons.inj h3).1
          rw [hc, this]; rfl
        have hc256 : s.data.toList[k].toNat < 256 := UInt8.toNat_lt _
        obtain ⟨c, hc⟩ : ∃ c, c = s.data.toList[k].toNat := ⟨_, rfl⟩
        have hend := hend0 c hc
        rw [← hc] at hsk hss hc256
        clear hc hsn hend0
        have hw5 : IntKind.i64.wrap ((k : Int) + 1) = ((k + 1 : Nat) : Int) := by rw [Go.IntKind.wrap_i64]; omega
        by_cases h46 : c = 46
        · have f1 : ((c : Int) == 95) = false := by simp; omega
          have f2 : ((c : Int) == 46) = true := by simp [h46]
          cases dot
          · have HS := Lib.hid ((hss _ (by unfold sstp; rw [if_pos h46]; rfl)).symm.trans hsc)
            have cnd := hdec.cnd
            have cdp := hdec.cdp
            have fdp := hdec.frozen 801
            have HD2 := Lib.hid (hdec.setDp (nd : Int))
            have HB2 := Lib.hid (hb.out.setCell (p := ⟨g, 801, none⟩) (Nat.le_refl g) (.int .i64 (nd : Nat)))
            have HR : Hid (gk - 1 < gk ∧ gk - 1 + (k + 1) = s.size ∧ DOk ⟨nd, nd, true, sd, d'⟩ (k + 1)) := Lib.hid ⟨by omega, by omega, ⟨by show nd ≤ k + 1; omega, by show -((k + 1 : Nat) : Int) ≤ (nd : Int); omega, by show (nd : Int) ≤ ((k + 1 : Nat) : Int); omega⟩⟩
            clear hss hend hsc hH hdec hb hg o1 o2 o3 h46
            go_wp2_with fail
            go_roundg (gk - 1)
            case measure => exact HR.out.1
            case rel => exact ⟨k + 1, ⟨nd, nd, true, sd, d'⟩, by first | rfl | go_num, rfl, rfl, Lib.hid ⟨HR.out.2.1, HS.out, HR.out.2.2⟩, HD2.out, HB2⟩
          exfalso
          have := (hend (by unfold sstp; rw [if_pos h46]; rfl)).1
          omega
        have f2 : ((c : Int) == 46) = false := by simp; omega
        by_cases hd : 48 ≤ c ∧ c ≤ 57
        · have f1 : ((c : Int) == 95) = false := by simp; omega
          have f3 : (48 : Int) ≤ c := by omega
          have f4 : (c : Int) ≤ 57 := by omega
          by_cases hz : c = 48 ∧ nd = 0
          · have f5 : ((c : Int) == 48) = true := by simp [hz.1]
            have hnd0 : nd = 0 := hz.2
            have HS := Lib.hid ((hss _ (by unfold sstp; rw [if_neg h46, if_pos hd, if_pos hz])).symm.trans hsc)
            have cnd := hdec.cnd
            have cdp := hdec.cdp
            have fdp := hdec.frozen 801
            have HD2 := Lib.hid (hdec.setDp (dp - 1))
            have HB2 := Lib.hid (hb.out.setCell (p := ⟨g, 801, none⟩) (Nat.le_refl g) (.int .i64 (dp - 1)))
            have HR : Hid (gk - 1 < gk ∧ gk - 1 + (k + 1) = s.size ∧ DOk ⟨nd, dp - 1, dot, true, d'⟩ (k + 1)) := Lib.hid ⟨by omega, by omega, ⟨by show nd ≤ k + 1; omega, by show -((k + 1 : Nat) : Int) ≤ dp - 1; omega, by show dp - 1 ≤ ((k + 1 : Nat) : Int); omega⟩⟩
            have hw : IntKind.i64.wrap (dp - 1) = dp - 1 := by rw [Go.IntKind.wrap_i64]; omega
            have hwb : wrap64 (dp - 1) = dp - 1 := by unfold wrap64; omega
            clear hss hend hsc hH hdec hb hg o1 o2 o3 h46 hz hd
            subst hnd0
            go_wp2_with fail
            go_roundg (gk - 1)
            case measure => exact HR.out.1
            case rel => exact ⟨k + 1, ⟨0, dp - 1, dot, true, d'⟩, by first | rfl | go_num, rfl, rfl, Lib.hid ⟨HR.out.2.1, HS.out, HR.out.2.2⟩, HD2.out, HB2⟩
          have hcond : (((c : Int) == 48) = true ∧ ((nd : Int) == 0) = false) ∨ ((c : Int) == 48) = false := by
            by_cases h48 : c = 48
            · exact Or.inl ⟨by simp [h48], by simp; omega⟩
            exact Or.inr (by simp; omega)
          have n8 : (nd : Int) < 800 := by omega
          have n8b : decide ((nd : Int) < 800) = true := decide_eq_true n8
          have n8c : nd < 800 := by omega
          have HS := Lib.hid ((hss _ (by unfold sstp; rw [if_neg h46, if_pos hd, if_neg hz])).symm.trans hsc)
          have cnd := hdec.cnd
          have cb := hdec.byte nd n8c
          have fb := hdec.frozen nd
          generalize d' nd = bv at cb
          have HD2 := Lib.hid (hdec.setByte nd c n8c)
          have HB2 := Lib.hid (hb.out.setCell (p := ⟨g, nd, none⟩) (Nat.le_refl g) (.int .u8 (c : Nat)))
          have HR : Hid (gk - 1 < gk ∧ gk - 1 + (k + 1) = s.size ∧ DOk ⟨nd + 1, dp, dot, true, upd d' nd c⟩ (k + 1)) := Lib.hid ⟨by omega, by omega, ⟨by show nd + 1 ≤ k + 1; omega, by show -((k + 1 : Nat) : Int) ≤ dp; omega, by show dp ≤ ((k + 1 : Nat) : Int); omega⟩⟩
          have hwn : IntKind.i64.wrap ((nd : Int) + 1) = (nd : Int) + 1 := by rw [Go.IntKind.wrap_i64]; omega
          have hwnb : wrap64 ((nd : Int) + 1) = (nd : Int) + 1 := by unfold wrap64; omega
          clear hss hend hsc hH hdec hb hg o1 o2 o3 h46 hz hd
          rcases hcond with ⟨f5, f6⟩ | f5
          all_goals
            go_upto_region 25 with (fail)
            clear f1 f2 f3 f4 f5
            go_region_with fail
          all_goals
            have HE2 : Hid (IsDec ((wr.setCell ⟨g, nd, none⟩ (.int .u8 (c : Nat))).drew) g (upd d' nd c) (nd : Nat) dp false false ∧ Below g w ((wr.setCell ⟨g, nd, none⟩ (.int .u8 (c : Nat))).drew)) := Lib.hid ⟨HD2.out, below_drewN HB2.out 1⟩
            clear HD2 HB2 cnd cb fb
            generalize (wr.setCell ⟨g, nd, none⟩ (.int .u8 (c : Nat))).drew = w5 at *
            have cnd : w5.cell? ⟨g, 800, none⟩ = some (.int .i64 (nd : Nat)) := HE2.out.1.cnd
            have fnd := HE2.out.1.frozen 800
            have HG := Lib.hid (And.intro (HE2.out.1.setNd ((nd : Int) + 1)) (HE2.out.2.setCell (p := ⟨g, 800, none⟩) (Nat.le_refl g) (.int .i64 ((nd : Int) + 1))))
            clear HE2
            go_wp2_with fail
            go_roundg (gk - 1)
            case measure => exact HR.out.1
            case rel => exact ⟨k + 1, ⟨nd + 1, dp, dot, true, upd d' nd c⟩, by first | rfl | go_num, rfl, rfl, Lib.hid ⟨HR.out.2.1, HS.out, HR.out.2.2⟩, HG.out.1, Lib.hid HG.out.2⟩
        obtain ⟨h101, h2, h3⟩ := hend (by unfold sstp; rw [if_neg h46, if_neg hd])
        have f1 : ((c : Int) == 95) = false := by simp; omega
        have f3 : (48 : Int) ≤ c := by omega
        have f4 : ¬ (c : Int) ≤ 57 := by omega
        have f4b : decide ((c : Int) ≤ 57) = false := decide_eq_false f4
        have HR : Hid (tF = ⟨nd, dp, dot, sd, d'⟩ ∧ s.data.toList.drop k = E ∧ k ≤ s.size ∧ DOk ⟨nd, dp, dot, sd, d'⟩ k) := Lib.hid ⟨h2, h3, by omega, ⟨o1, o2, o3⟩⟩
        have HDD := Lib.hid hdec
        clear hss hend hsc hH hdec hg o1 o2 o3 h46 hd h101 h2 h3
        go_wp2_with fail
        go_meet
        case rel => rw [HR.out.1]; exact ⟨k, rfl, rfl, rfl, Lib.hid HR.out.2, HDD.out, hb⟩
      have hkI : ¬ (k : Int) < s.size := by omega
      have hkb : decide ((k : Int) < (s.size : Int)) = false := decide_eq_false hkI
      have h1 := (sscan_end (l := s.data.toList) (k := k) (t := ⟨nd, dp, dot, sd, d'⟩) (by have : s.data.toList.length = s.size := by simp
                                                                                           omega)).symm.trans hsc
      obtain ⟨h2, h3⟩ := Prod.mk.inj h1
      have HR : Hid (tF = ⟨nd, dp, dot, sd, d'⟩ ∧ s.data.toList.drop k = E ∧ k ≤ s.size ∧ DOk ⟨nd, dp, dot, sd, d'⟩ k) := Lib.hid ⟨h2.symm, h3, by omega, ⟨o1, o2, o3⟩⟩
      have HDD := Lib.hid hdec
      clear hsc hH hdec hg o1 o2 o3 h1 h2 h3
      go_wp2_with fail
      go_meet
      case rel => rw [HR.out.1]; exact ⟨k, rfl, rfl, rfl, Lib.hid HR.out.2, HDD.out, hb⟩
  obtain ⟨k, rfl, rfl, rfl, hH, hdec, hb⟩ := hcut
  obtain ⟨hk1, hk2, hok⟩ := hH.out
  obtain ⟨nd, dp, dot, sd, d'⟩ := tF
  have o1 : nd ≤ k := hok.nd
  have o2 : -(k : Int) ≤ dp := hok.dp1
  have o3 : dp ≤ k := hok.dp2
  have hsd2 : sd = true := hsd
  subst hsd2
  obtain ⟨X, hX⟩ : ∃ X : Int, X = if dot then dp else (nd : Int) := ⟨_, rfl⟩
  have hXb0 : -(k : Int) ≤ X ∧ X ≤ k := by cases dot <;> simp at hX <;> omega
  have hXb : -400 ≤ X ∧ X ≤ 400 := by omega
  clear hXb0
  have HXX := Lib.hid hX
  have hdec' : IsDec wc g d' nd dp false false := hdec
  have cnd := hdec'.cnd
  have cdp := hdec'.cdp
  have fdp := hdec'.frozen 801
  have HK := Lib.hid hk1
  have HDD := Lib.hid hdec'
  have HDE := Lib.hid (hdec'.setDp (nd : Int))
  have HBE := Lib.hid (hb.out.setCell (p := ⟨g, 801, none⟩) (Nat.le_refl g) (.int .i64 (nd : Nat)))
  have HEE := Lib.hid hE
  clear hsc hsd hE hlen hne hz0 hz0I h0 HD HB hH hdec hdec' hok o1 o2 o3 hX hk1
  go_step
  go_upto_if 120 with (fail)
  go_cut [5] (fun v5 w' => v5 = .int .i64 k ∧ IsDec w' g d' nd X false false ∧ Hid (Below g w w'))
  case first =>
    cases dot
    · go_wp2_with fail
      go_meet
      case rel => exact ⟨rfl, by rw [show X = (nd : Int) from HXX.out]; exact HDE.out, HBE⟩
    go_wp2_with fail
    go_meet
    case rel => exact ⟨rfl, by rw [show X = dp from HXX.out]; exact HDD.out, hb⟩
  obtain ⟨rfl, hdec, hb2⟩ := hcut
  clear cnd cdp fdp HDD HDE HBE hb
  have HDC := Lib.hid hdec
  clear hdec
  have hsl : s.data.toList.length = s.size := by simp
  rcases HEE.out with hE | ⟨p, hE, hp⟩
  · have hks : k = s.size := by
      have h1 := HK.out
      rw [hE] at h1
      have := List.drop_eq_nil_iff.1 h1
      omega
    have HF : Hid (SetPost g false ⟨nd, dp, dot, true, d'⟩ E w (.returned (.bool true)) wc) := Lib.hid ⟨rfl, hb2.out, by
      have := HDC.out
      unfold setDp
      rw [hE]
      dsimp only [powE]
      rw [Int.add_zero, ← HXX.out]
      exact this⟩
    have f1 : ¬ (k : Int) < s.size := by omega
    have f2 : decide ((k : Int) < (s.size : Int)) = false := decide_eq_false f1
    have f3 : ((k : Int) != (s.size : Int)) = false := by simp; omega
    clear hE hk2 hXb hks
    go_step
    go_wp2_with fail
    go_ret
    exact HF.out
  have hpd := powD_spec hp
  have hlen1 : k < s.size := by
    rcases Nat.lt_or_ge k s.size with h | h
    · exact h
    exfalso
    have h1 := HK.out
    rw [hE, List.drop_of_length_le (by omega)] at h1
    cases h1
  have hdk := drop_at s.data.toList k (by omega)
  rw [HK.out, hE] at hdk
  obtain ⟨hd1, hd2⟩ := List.cons.inj hdk
  have e101 : ((s[k].toNat : Nat) : Int) = 101 := by
    show ((s.data.toList[k].toNat : Nat) : Int) = 101
    rw [← hd1]; rfl
  have hlw : Go.bits .or .u8 101 32 = 101 := by decide +kernel
  have hlen2 : k + 1 < s.size := by
    rcases Nat.lt_or_ge (k + 1) s.size with h | h
    · exact h
    exfalso
    rw [List.drop_of_length_le (by omega)] at hd2
    rw [hd2] at hpd
    have := hpd.2.1
    simp [sgn] at this
  have hlI : (k : Int) < s.size := by omega
  have hlIb : decide ((k : Int) < (s.size : Int)) = true := decide_eq_true hlI
  have hk5 : IntKind.i64.wrap ((k : Int) + 1) = ((k + 1 : Nat) : Int) := by rw [Go.IntKind.wrap_i64]; omega
  have hdk2 := drop_at s.data.toList (k + 1) (by omega)
  rw [← hd2] at hdk2
  obtain ⟨c1, hc1⟩ : ∃ c1 : Nat, c1 = s.data.toList[k + 1].toNat := ⟨_, rfl⟩
  obtain ⟨k1, hk1⟩ : ∃ k1, k1 = k + 1 := ⟨_, rfl⟩
  have ec1 : k1 < s.size := by omega
  have ec2 : ((s[k1].toNat : Nat) : Int) = (c1 : Int) := by
    subst hk1
    rw [hc1]; rfl
  have hsg : (c1 = 43 → sgn p = s.data.toList.drop (k1 + 1) ∧ (esign p).1 = 1) ∧ (c1 = 45 → sgn p = s.data.toList.drop (k1 + 1) ∧ (esign p).1 = -1) ∧ (c1 ≠ 43 → c1 ≠ 45 → sgn p = s.data.toList.drop k1 ∧ (esign p).1 = 1) := by
    subst hk1
    rw [hdk2, hc1]
    refine ⟨fun h => ?_, fun h => ?_, fun h h' => ?_⟩
    · exact ⟨by unfold sgn; exact if_pos (Or.inl h), by unfold esign; dsimp only; rw [if_pos h]⟩
    · exact ⟨by unfold sgn; exact if_pos (Or.inr h), by unfold esign; dsimp only; rw [if_neg (by omega), if_pos h]⟩
    exact ⟨by unfold sgn; rw [drop_at s.data.toList (k + 1) (by omega)]; exact if_neg (by omega), by unfold esign; dsimp only; rw [if_neg h, if_neg h']⟩
  rw [← hk1] at hk5
  have hk5b : (k : Int) + 1 = (k1 : Int) := by omega
  have HSG := Lib.hid hsg
  have HPD := Lib.hid hpd
  have HE := Lib.hid hE
  have hk1I : (k1 : Int) < s.size := by omega
  have hk1n : ¬ (s.size : Int) ≤ k1 := by omega
  have hk1b : decide ((s.size : Int) ≤ (k1 : Int)) = false := decide_eq_false hk1n
  have hw1 : IntKind.i64.wrap ((k1 : Int) + 1) = ((k1 + 1 : Nat) : Int) := by rw [Go.IntKind.wrap_i64]; omega
  clear hp hpd hdk hd1 hd2 hlen2 hdk2 hc1 hk1 hsg hE HEE hk2
  go_step
  go_upto_block 4 with (go_at_call 156; refine (Tryz.internal_strconv_lower _ _).mono ?_; rintro e w1 ⟨rfl, hw1⟩; obtain rfl := hw1.symm)
  clear e101 hlw hlI hlIb hk5 hk5b hk1n hk1b
  go_cut [5, 8] (fun v5 v8 w' => ∃ (k2 : Nat) (sg : Int), v5 = .int .i64 k2 ∧ v8 = .int .i64 sg ∧ Hid (sgn p = s.data.toList.drop k2 ∧ (esign p).1 = sg ∧ (sg = 1 ∨ sg = -1)) ∧ wc = w')
  case first =>
    by_cases h43 : c1 = 43
    · have f1 : ((c1 : Int) == 43) = true := by simp [h43]
      have hh := HSG.out.1 h43
      have HR := Lib.hid hh
      clear hh h43
      go_wp2_with fail
      go_meet
      case rel => exact ⟨k1 + 1, 1, by first | rfl | go_num, rfl, Lib.hid ⟨HR.out.1, HR.out.2, Or.inl rfl⟩, rfl⟩
    have f1 : ((c1 : Int) == 43) = false := by simp; omega
    by_cases h45 : c1 = 45
    · have f2 : ((c1 : Int) == 45) = true := by simp [h45]
      have hh := HSG.out.2.1 h45
      have HR := Lib.hid hh
      clear hh h43 h45
      go_wp2_with fail
      go_meet
      case rel => exact ⟨k1 + 1, -1, by first | rfl | go_num, rfl, Lib.hid ⟨HR.out.1, HR.out.2, Or.inr rfl⟩, rfl⟩
    have f2 : ((c1 : Int) == 45) = false := by simp; omega
    have hh := HSG.out.2.2 h43 h45
    have HR := Lib.hid hh
    clear hh h43 h45
    go_wp2_with fail
    go_meet
    case rel => exact ⟨k1, 1, rfl, rfl, Lib.hid ⟨HR.out.1, HR.out.2, Or.inl rfl⟩, rfl⟩
  obtain ⟨k2, sg, rfl, rfl, hQ, hww⟩ := hcut
  subst hww
  obtain ⟨q1, q2, q3⟩ := hQ.out
  have hpd := HPD.out
  have hk2s : k2 < s.size := by
    rcases Nat.lt_or_ge k2 s.size with h | h
    · exact h
    exfalso
    rw [q1, List.drop_of_length_le (by omega)] at hpd
    have := hpd.2.1
    simp at this
  have hk2l : k2 < s.data.toList.length := by omega
  obtain ⟨c2, hc2⟩ : ∃ c2 : Nat, c2 = s.data.toList[k2].toNat := ⟨_, rfl⟩
  have ec3 : ((s[k2].toNat : Nat) : Int) = (c2 : Int) := by rw [hc2]; rfl
  have hd2 : 48 ≤ c2 ∧ c2 ≤ 57 := by
    rw [hc2]
    exact hpd.1 _ (by rw [q1, drop_at s.data.toList k2 hk2l]; simp)
  have hlen4 : (s.data.toList.drop k2).length ≤ 4 := by rw [← q1]; exact hpd.2.2
  rw [List.length_drop, hsl] at hlen4
  have hall : ∀ c ∈ s.data.toList.drop k2, Num.isD c := by rw [← q1]; exact hpd.1
  obtain ⟨V, hV⟩ : ∃ V, V = Num.dv 0 (s.data.toList.drop k2) := ⟨_, rfl⟩
  have hVp : powE E = sg * (V : Int) := by
    rw [HE.out]
    show powV p = _
    unfold powV
    rw [q2, esign_sgn, q1, hV]
  have HVP := Lib.hid hVp
  have HV := Lib.hid hV
  have HAll := Lib.hid hall
  have k2I : (k2 : Int) < s.size := by omega
  have k2n : ¬ (s.size : Int) ≤ k2 := by omega
  have k2b : decide ((s.size : Int) ≤ (k2 : Int)) = false := decide_eq_false k2n
  have d1 : ¬ (c2 : Int) < 48 := by omega
  have d1b : decide ((c2 : Int) < 48) = false := decide_eq_false d1
  have d2 : ¬ (57 : Int) < c2 := by omega
  have d2b : decide ((57 : Int) < (c2 : Int)) = false := decide_eq_false d2
  clear q1 q2 hpd hc2 hd2 hall hV hVp hQ HSG HPD ec1 ec2 hk1I hw1 hlen1
  go_step
  go_upto_block 5 with (fail)
  clear d1 d1b d2 d2b ec3 k2n k2b
  go_cut [5, 9] (fun v5 v9 w' => v5 = .int .i64 s.size ∧ v9 = .int .i64 V ∧ Hid (V < 10000) ∧ wc = w')
  case first =>
    go_wp2_with fail
    go_loopg [5, 9] (s.size - k2) (fun gn v5 v9 w' => ∃ k3 e : Nat, v5 = .int .i64 k3 ∧ v9 = .int .i64 e ∧ Hid (gn + k3 = s.size ∧ Num.dv e (s.data.toList.drop k3) = V ∧ (∀ c ∈ s.data.toList.drop k3, Num.isD c) ∧ ∃ c, e < 10 ^ c ∧ c + (s.size - k3) ≤ 4) ∧ wc = w')
    case atStart => exact ⟨k2, 0, rfl, rfl, Lib.hid ⟨by omega, HV.out.symm, HAll.out, 0, by decide, by omega⟩, rfl⟩
    case round =>
      obtain ⟨k3, e, rfl, rfl, hH, hww⟩ := hrel
      subst hww
      obtain ⟨r1, r2, r3, cc, r4, r5⟩ := hH.out
      by_cases hk3 : k3 < s.size
      · have hk3l : k3 < s.data.toList.length := by omega
        obtain ⟨c3, hc3⟩ : ∃ c3 : Nat, c3 = s.data.toList[k3].toNat := ⟨_, rfl⟩
        have ec4 : ((s[k3].toNat : Nat) : Int) = (c3 : Int) := by rw [hc3]; rfl
        have hdk := drop_at s.data.toList k3 hk3l
        have hd3 : 48 ≤ c3 ∧ c3 ≤ 57 := by
          rw [hc3]
          exact r3 _ (by rw [hdk]; simp)
        have he : e < 1000 := by
          have : 10 ^ cc ≤ 10 ^ 3 := Nat.pow_le_pow_right (by decide) (by omega)
          omega
        obtain ⟨e2, he2⟩ : ∃ e2, e2 = 10 * e + (c3 - 48) := ⟨_, rfl⟩
        have HR : Hid (gk - 1 < gk ∧ gk - 1 + (k3 + 1) = s.size ∧ Num.dv e2 (s.data.toList.drop (k3 + 1)) = V ∧ (∀ c ∈ s.data.toList.drop (k3 + 1), Num.isD c) ∧ ∃ c, e2 < 10 ^ c ∧ c + (s.size - (k3 + 1)) ≤ 4) := Lib.hid ⟨by omega, by omega, by rw [hdk, Num.dv_cons, ← hc3, ← he2] at r2; exact r2, fun c h => r3 c (by rw [hdk]; exact List.mem_cons_of_mem _ h), cc + 1, by rw [Nat.pow_succ]; omega, by omega⟩
        have g1 : (k3 : Int) < s.size := by omega
        have g2 : (48 : Int) ≤ c3 := by omega
        have g3 : (c3 : Int) ≤ 57 := by omega
        have g4 : ((c3 : Int) == 95) = false := by simp; omega
        have g5 : (e : Int) < 10000 := by omega
        have g5b : decide ((e : Int) < 10000) = true := decide_eq_true g5
        have w1 : IntKind.i64.wrap ((e : Int) * 10) = (e : Int) * 10 := by rw [Go.IntKind.wrap_i64]; omega
        have w2 : IntKind.i64.wrap ((e : Int) * 10 + (c3 : Int)) = (e : Int) * 10 + (c3 : Int) := by rw [Go.IntKind.wrap_i64]; omega
        have w3 : IntKind.i64.wrap ((e : Int) * 10 + (c3 : Int) - 48) = (e2 : Int) := by rw [Go.IntKind.wrap_i64]; omega
        have w4 : IntKind.i64.wrap ((k3 : Int) + 1) = ((k3 + 1 : Nat) : Int) := by rw [Go.IntKind.wrap_i64]; omega
        have w5 : (e : Int) * 10 + (c3 : Int) - 48 = (e2 : Int) := by omega
        have w6 : IntKind.i64.wrap (c3 : Int) = (c3 : Int) := by rw [Go.IntKind.wrap_i64]; omega
        clear hH r1 r2 r3 r4 r5 hc3 hdk hd3 he he2
        go_wp2_with fail
        go_roundg (gk - 1)
        case measure => exact HR.out.1
        case rel => exact ⟨k3 + 1, e2, by first | rfl | go_num, by first | rfl | go_num, Lib.hid HR.out.2, rfl⟩
      have hk3e : k3 = s.size := by omega
      have hl3 : s.data.toList.drop k3 = [] := List.drop_of_length_le (by omega)
      rw [hl3, Num.dv_nil] at r2
      have HR : Hid (e = V ∧ V < 10000) := Lib.hid ⟨r2, by
        have : 10 ^ cc ≤ 10 ^ 4 := Nat.pow_le_pow_right (by decide) (by omega)
        omega⟩
      clear hH r1 r2 r3 r4 r5 hl3 hk3 k2I HV HVP
      subst hk3e
      have g1 : ¬ (s.size : Int) < s.size := by omega
      go_wp2_with fail
      go_meet
      case rel => exact ⟨rfl, by rw [HR.out.1], Lib.hid HR.out.2, rfl⟩
  obtain ⟨rfl, rfl, hVb, hww⟩ := hcut
  subst hww
  have hvb := hVb.out
  obtain ⟨P, hP⟩ : ∃ P : Int, P = sg * (V : Int) := ⟨_, rfl⟩
  have hPb : -10000 ≤ P ∧ P ≤ 10000 := by
    rcases q3 with h | h <;> subst h <;> omega
  have x1 : IntKind.i64.wrap ((V : Int) * sg) = P := by
    rw [hP, Int.mul_comm, Go.IntKind.wrap_i64]
    rw [← hP]; omega
  have x1b : wrap64 ((V : Int) * sg) = P := by
    rw [Int.mul_comm, ← hP]; unfold wrap64; omega
  have HFin : Hid (X + P = setDp ⟨nd, dp, dot, true, d'⟩ E) := Lib.hid (by
    unfold setDp
    rw [HVP.out, ← hP, HXX.out])
  obtain ⟨X2, hX2⟩ : ∃ X2, X2 = X + P := ⟨_, rfl⟩
  have x2 : IntKind.i64.wrap (X + P) = X2 := by rw [Go.IntKind.wrap_i64]; omega
  have x2b : wrap64 (X + P) = X2 := by unfold wrap64; omega
  have HX2 := Lib.hid hX2
  have cdp := HDC.out.cdp
  have fdp := HDC.out.frozen 801
  have f3 : ((s.size : Int) != (s.size : Int)) = false := by simp
  have HD3 := Lib.hid (HDC.out.setDp X2)
  have HB3 := Lib.hid (hb2.out.setCell (p := ⟨g, 801, none⟩) (Nat.le_refl g) (.int .i64 X2))
  clear q3 hvb hP hPb hX2 hVb HVP HV HAll hlen4 k2I hk2s hk2l hXb
  go_step
  go_wp2_with fail
  go_ret
  refine ⟨rfl, HB3.out, ?_⟩
  rw [← HFin.out, ← HX2.out]
  exact HD3.out
end Go.Proofs.YtjpiplplohapnaaGreatDoor
namespace Go.Proofs.YtjpiplplohapnaaGreatDoor
open Go.RowKit Go.Proofs.YtjpiplplohapnaaGreatDoorW.PrintWords Rf Dc
set_option maxRecDepth 100000 in
set_option maxHeartbeats 8000000 in
theorem set_n (s : ByteArray) (hs : s.size ≤ 400) (h0 : 1 < s.size) (hsg : s[0].toNat = 45) (w : World) (g : Nat) (d : Nat → Nat) (hD : IsDec w g d 0 0 false false) (tF : Dst) (E : List UInt8) (hsc : sscan (s.data.toList.drop 1) (dst0 d) = (tF, E)) (hsd : tF.sd = true) (hE : E = [] ∨ ∃ p, E = 101 :: p ∧ powD (sgn p) = true) (hlen : tF.nd ≤ 800) :
    Calls Tryz.prog 148 #[.pointer (some ⟨g, 0, none⟩), .string s] w (SetPost g true tF E w) := by
  have hne : ¬ s = ByteArray.empty := by rintro rfl; simp at h0
  have hz0 : 0 < s.size := by omega
  have hz0I : (0 : Int) < s.size := by omega
  obtain ⟨c0, hc0⟩ : ∃ c0 : Nat, s[0].toNat = c0 := ⟨_, rfl⟩
  have e0 : (s[0].toNat : Int) = c0 := by rw [hc0]
  rw [hc0] at hsg
  have g1 : ((c0 : Int) == 45) = true := by simp; omega
  have g2 : ((c0 : Int) == 43) = false := by simp; omega
  have cng := hD.cng
  have ctr := hD.ctr
  have fr2 := hD.frozen 802
  have fr3 := hD.frozen 803
  have h2 := (hD.setNg false).setTr false
  have HD := Lib.hid h2
  have HB := Lib.hid (((Below.refl g w).setCell (p := ⟨g, 802, none⟩) (Nat.le_refl g) (.bool false)).setCell (p := ⟨g, 803, none⟩) (Nat.le_refl g) (.bool false))
  clear hsg hc0 hD h2
  go_enter Tryz.func148, Tryz.ntmps148
  go_upto_block 1 with (fail)
  clear e0 g1 g2 cng ctr fr2 fr3
  go_cut [5, 6, 7] (fun v5 v6 v7 w' => ∃ k : Nat, v5 = .int .i64 k ∧ v6 = .bool tF.dot ∧ v7 = .bool tF.sd ∧ Hid (s.data.toList.drop k = E ∧ k ≤ s.size ∧ DOk tF k) ∧ IsDec w' g tF.d tF.nd tF.dp true false ∧ Hid (Below g w w'))
  case first =>
    go_wp2_with fail
    have Hsc := Lib.hid hsc
    clear hsc
    go_loopg [5, 6, 7] (s.size - 1) (fun gn v5 v6 v7 w' => ∃ (k : Nat) (t : Dst), v5 = .int .i64 k ∧ v6 = .bool t.dot ∧ v7 = .bool t.sd ∧ Hid (gn + k = s.size ∧ sscan (s.data.toList.drop k) t = (tF, E) ∧ DOk t k) ∧ IsDec w' g t.d t.nd t.dp true false ∧ Hid (Below g w w'))
    case atStart => exact ⟨1, dst0 d, rfl, rfl, rfl, Lib.hid ⟨by omega, Hsc.out, ⟨by show 0 ≤ 1; omega, by show -((1 : Nat) : Int) ≤ 0; omega, by show (0 : Int) ≤ ((1 : Nat) : Int); omega⟩⟩, (HD.out.setNg true), Lib.hid (HB.out.setCell (p := ⟨g, 802, none⟩) (Nat.le_refl g) (.bool true))⟩
    case round =>
      obtain ⟨k, t, rfl, rfl, rfl, hH, hdec, hb⟩ := hrel
      obtain ⟨hg, hsc, hok⟩ := hH.out
      obtain ⟨nd, dp, dot, sd, d'⟩ := t
      have o1 : nd ≤ k := hok.nd
      have o2 : -(k : Int) ≤ dp := hok.dp1
      have o3 : dp ≤ k := hok.dp2
      dsimp only at hdec
      clear Hsc hok HD HB
      by_cases hkl : k < s.size
      · have hl : k < s.data.toList.length := by simpa using hkl
        have hkI : (k : Int) < s.size := by omega
        have hsk : ((s[k].toNat : Nat) : Int) = ((s.data.toList[k].toNat : Nat) : Int) := rfl
        have hss := fun t' => @sscan_some s.data.toList k ⟨nd, dp, dot, sd, d'⟩ t' hl
        have hsn := @sscan_none s.data.toList k ⟨nd, dp, dot, sd, d'⟩ hl
        have hend0 : ∀ c : Nat, c = s.data.toList[k].toNat → sstp c ⟨nd, dp, dot, sd, d'⟩ = none → c = 101 ∧ tF = ⟨nd, dp, dot, sd, d'⟩ ∧ s.data.toList.drop k = E := by
          intro c hc hn
          have h1 := (hsn (by rw [← hc]; exact hn)).symm.trans hsc
          obtain ⟨h2, h3⟩ := Prod.mk.inj h1
          refine ⟨?_, h2.symm, h3⟩
          rcases hE with h | ⟨p, h, _⟩
          · rw [h, drop_at _ k hl] at h3; cases h3
          rw [h, drop_at _ k hl] at h3
          have := (List.cons.inj h3).1
          rw [hc, this]; rfl
        have hc256 : s.data.toList[k].toNat < 256 := UInt8.toNat_lt _
        obtain ⟨c, hc⟩ : ∃ c, c = s.data.toList[k].toNat := ⟨_, rfl⟩
        have hend := hend0 c hc
        rw [← hc] at hsk hss hc256
        clear hc hsn hend0
        have hw5 : IntKind.i64.wrap ((k : Int) + 1) = ((k + 1 : Nat) : Int) := by rw [Go.IntKind.wrap_i64]; omega
        by_cases h46 : c = 46
        · have f1 : ((c : Int) == 95) = false := by simp; omega
          have f2 : ((c : Int) == 46) = true := by simp [h46]
          cases dot
          · have HS := Lib.hid ((hss _ (by unfold sstp; rw [if_pos h46]; rfl)).symm.trans hsc)
            have cnd := hdec.cnd
            have cdp := hdec.cdp
            have fdp := hdec.frozen 801
            have HD2 := Lib.hid (hdec.setDp (nd : Int))
            have HB2 := Lib.hid (hb.out.setCell (p := ⟨g, 801, none⟩) (Nat.le_refl g) (.int .i64 (nd : Nat)))
            have HR : Hid (gk - 1 < gk ∧ gk - 1 + (k + 1) = s.size ∧ DOk ⟨nd, nd, true, sd, d'⟩ (k + 1)) := Lib.hid ⟨by omega, by omega, ⟨by show nd ≤ k + 1; omega, by show -((k + 1 : Nat) : Int) ≤ (nd : Int); omega, by show (nd : Int) ≤ ((k + 1 : Nat) : Int); omega⟩⟩
            clear hss hend hsc hH hdec hb hg o1 o2 o3 h46
            go_wp2_with fail
            go_roundg (gk - 1)
            case measure => exact HR.out.1
            case rel => exact ⟨k + 1, ⟨nd, nd, true, sd, d'⟩, by first | rfl | go_num, rfl, rfl, Lib.hid ⟨HR.out.2.1, HS.out, HR.out.2.2⟩, HD2.out, HB2⟩
          exfalso
          have := (hend (by unfold sstp; rw [if_pos h46]; rfl)).1
          omega
        have f2 : ((c : Int) == 46) = false := by simp; omega
        by_cases hd : 48 ≤ c ∧ c ≤ 57
        · have f1 : ((c : Int) == 95) = false := by simp; omega
          have f3 : (48 : Int) ≤ c := by omega
          have f4 : (c : Int) ≤ 57 := by omega
          by_cases hz : c = 48 ∧ nd = 0
          · have f5 : ((c : Int) == 48) = true := by simp [hz.1]
            have hnd0 : nd = 0 := hz.2
            have HS := Lib.hid ((hss _ (by unfold sstp; rw [if_neg h46, if_pos hd, if_pos hz])).symm.trans hsc)
            have cnd := hdec.cnd
            have cdp := hdec.cdp
            have fdp := hdec.frozen 801
            have HD2 := Lib.hid (hdec.setDp (dp - 1))
            have HB2 := Lib.hid (hb.out.setCell (p := ⟨g, 801, none⟩) (Nat.le_refl g) (.int .i64 (dp - 1)))
            have HR : Hid (gk - 1 < gk ∧ gk - 1 + (k + 1) = s.size ∧ DOk ⟨nd, dp - 1, dot, true, d'⟩ (k + 1)) := Lib.hid ⟨by omega, by omega, ⟨by show nd ≤ k + 1; omega, by show -((k + 1 : Nat) : Int) ≤ dp - 1; omega, by show dp - 1 ≤ ((k + 1 : Nat) : Int); omega⟩⟩
            have hw : IntKind.i64.wrap (dp - 1) = dp - 1 := by rw [Go.IntKind.wrap_i64]; omega
            have hwb : wrap64 (dp - 1) = dp - 1 := by unfold wrap64; omega
            clear hss hend hsc hH hdec hb hg o1 o2 o3 h46 hz hd
            subst hnd0
            go_wp2_with fail
            go_roundg (gk - 1)
            case measure => exact HR.out.1
            case rel => exact ⟨k + 1, ⟨0, dp - 1, dot, true, d'⟩, by first | rfl | go_num, rfl, rfl, Lib.hid ⟨HR.out.2.1, HS.out, HR.out.2.2⟩, HD2.out, HB2⟩
          have hcond : (((c : Int) == 48) = true ∧ ((nd : Int) == 0) = false) ∨ ((c : Int) == 48) = false := by
            by_cases h48 : c = 48
            · exact Or.inl ⟨by simp [h48], by simp; omega⟩
            exact Or.inr (by simp; omega)
          have n8 : (nd : Int) < 800 := by omega
          have n8b : decide ((nd : Int) < 800) = true := decide_eq_true n8
          have n8c : nd < 800 := by omega
          have HS := Lib.hid ((hss _ (by unfold sstp; rw [if_neg h46, if_pos hd, if_neg hz])).symm.trans hsc)
          have cnd := hdec.cnd
          have cb := hdec.byte nd n8c
          have fb := hdec.frozen nd
          generalize d' nd = bv at cb
          have HD2 := Lib.hid (hdec.setByte nd c n8c)
          have HB2 := Lib.hid (hb.out.setCell (p := ⟨g, nd, none⟩) (Nat.le_refl g) (.int .u8 (c : Nat)))
          have HR : Hid (gk - 1 < gk ∧ gk - 1 + (k + 1) = s.size ∧ DOk ⟨nd + 1, dp, dot, true, upd d' nd c⟩ (k + 1)) := Lib.hid ⟨by omega, by omega, ⟨by show nd + 1 ≤ k + 1; omega, by show -((k + 1 : Nat) : Int) ≤ dp; omega, by show dp ≤ ((k + 1 : Nat) : Int); omega⟩⟩
          have hwn : IntKind.i64.wrap ((nd : Int) + 1) = (nd : Int) + 1 := by rw [Go.IntKind.wrap_i64]; omega
          have hwnb : wrap64 ((nd : Int) + 1) = (nd : Int) + 1 := by unfold wrap64; omega
          clear hss hend hsc hH hdec hb hg o1 o2 o3 h46 hz hd
          rcases hcond with ⟨f5, f6⟩ | f5
          all_goals
            go_upto_region 25 with (fail)
            clear f1 f2 f3 f4 f5
            go_region_with fail
          all_goals
            have HE2 : Hid (IsDec ((wr.setCell ⟨g, nd, none⟩ (.int .u8 (c : Nat))).drew) g (upd d' nd c) (nd : Nat) dp true false ∧ Below g w ((wr.setCell ⟨g, nd, none⟩ (.int .u8 (c : Nat))).drew)) := Lib.hid ⟨HD2.out, below_drewN HB2.out 1⟩
            clear HD2 HB2 cnd cb fb
            generalize (wr.setCell ⟨g, nd, none⟩ (.int .u8 (c : Nat))).drew = w5 at *
            have cnd : w5.cell? ⟨g, 800, none⟩ = some (.int .i64 (nd : Nat)) := HE2.out.1.cnd
            have fnd := HE2.out.1.frozen 800
            have HG := Lib.hid (And.intro (HE2.out.1.setNd ((nd : Int) + 1)) (HE2.out.2.setCell (p := ⟨g, 800, none⟩) (Nat.le_refl g) (.int .i64 ((nd : Int) + 1))))
            clear HE2
            go_wp2_with fail
            go_roundg (gk - 1)
            case measure => exact HR.out.1
            case rel => exact ⟨k + 1, ⟨nd + 1, dp, dot, true, upd d' nd c⟩, by first | rfl | go_num, rfl, rfl, Lib.hid ⟨HR.out.2.1, HS.out, HR.out.2.2⟩, HG.out.1, Lib.hid HG.out.2⟩
        obtain ⟨h101, h2, h3⟩ := hend (by unfold sstp; rw [if_neg h46, if_neg hd])
        have f1 : ((c : Int) == 95) = false := by simp; omega
        have f3 : (48 : Int) ≤ c := by omega
        have f4 : ¬ (c : Int) ≤ 57 := by omega
        have f4b : decide ((c : Int) ≤ 57) = false := decide_eq_false f4
        have HR : Hid (tF = ⟨nd, dp, dot, sd, d'⟩ ∧ s.data.toList.drop k = E ∧ k ≤ s.size ∧ DOk ⟨nd, dp, dot, sd, d'⟩ k) := Lib.hid ⟨h2, h3, by omega, ⟨o1, o2, o3⟩⟩
        have HDD := Lib.hid hdec
        clear hss hend hsc hH hdec hg o1 o2 o3 h46 hd h101 h2 h3
        go_wp2_with fail
        go_meet
        case rel => rw [HR.out.1]; exact ⟨k, rfl, rfl, rfl, Lib.hid HR.out.2, HDD.out, hb⟩
      have hkI : ¬ (k : Int) < s.size := by omega
      have hkb : decide ((k : Int) < (s.size : Int)) = false := decide_eq_false hkI
      have h1 := (sscan_end (l := s.data.toList) (k := k) (t := ⟨nd, dp, dot, sd, d'⟩) (by have : s.data.toList.length = s.size := by simp
                                                                                           omega)).symm.trans hsc
      obtain ⟨h2, h3⟩ := Prod.mk.inj h1
      have HR : Hid (tF = ⟨nd, dp, dot, sd, d'⟩ ∧ s.data.toList.drop k = E ∧ k ≤ s.size ∧ DOk ⟨nd, dp, dot, sd, d'⟩ k) := Lib.hid ⟨h2.symm, h3, by omega, ⟨o1, o2, o3⟩⟩
      have HDD := Lib.hid hdec
      clear hsc hH hdec hg o1 o2 o3 h1 h2 h3
      go_wp2_with fail
      go_meet
      case rel => rw [HR.out.1]; exact ⟨k, rfl, rfl, rfl, Lib.hid HR.out.2, HDD.out, hb⟩
  obtain ⟨k, rfl, rfl, rfl, hH, hdec, hb⟩ := hcut
  obtain ⟨hk1, hk2, hok⟩ := hH.out
  obtain ⟨nd, dp, dot, sd, d'⟩ := tF
  have o1 : nd ≤ k := hok.nd
  have o2 : -(k : Int) ≤ dp := hok.dp1
  have o3 : dp ≤ k := hok.dp2
  have hsd2 : sd = true := hsd
  subst hsd2
  obtain ⟨X, hX⟩ : ∃ X : Int, X = if dot then dp else (nd : Int) := ⟨_, rfl⟩
  have hXb0 : -(k : Int) ≤ X ∧ X ≤ k := by cases dot <;> simp at hX <;> omega
  have hXb : -400 ≤ X ∧ X ≤ 400 := by omega
  clear hXb0
  have HXX := Lib.hid hX
  have hdec' : IsDec wc g d' nd dp true false := hdec
  have cnd := hdec'.cnd
  have cdp := hdec'.cdp
  have fdp := hdec'.frozen 801
  have HK := Lib.hid hk1
  have HDD := Lib.hid hdec'
  have HDE := Lib.hid (hdec'.setDp (nd : Int))
  have HBE := Lib.hid (hb.out.setCell (p := ⟨g, 801, none⟩) (Nat.le_refl g) (.int .i64 (nd : Nat)))
  have HEE := Lib.hid hE
  clear hsc hsd hE hlen hne hz0 hz0I h0 HD HB hH hdec hdec' hok o1 o2 o3 hX hk1
  go_step
  go_upto_if 120 with (fail)
  go_cut [5] (fun v5 w' => v5 = .int .i64 k ∧ IsDec w' g d' nd X true false ∧ Hid (Below g w w'))
  case first =>
    cases dot
    · go_wp2_with fail
      go_meet
      case rel => exact ⟨rfl, by rw [show X = (nd : Int) from HXX.out]; exact HDE.out, HBE⟩
    go_wp2_with fail
    go_meet
    case rel => exact ⟨rfl, by rw [show X = dp from HXX.out]; exact HDD.out, hb⟩
  obtain ⟨rfl, hdec, hb2⟩ := hcut
  clear cnd cdp fdp HDD HDE HBE hb
  have HDC := Lib.hid hdec
  clear hdec
  have hsl : s.data.toList.length = s.size := by simp
  rcases HEE.out with hE | ⟨p, hE, hp⟩
  · have hks : k = s.size := by
      have h1 := HK.out
      rw [hE] at h1
      have := List.drop_eq_nil_iff.1 h1
      omega
    have HF : Hid (SetPost g true ⟨nd, dp, dot, true, d'⟩ E w (.returned (.bool true)) wc) := Lib.hid ⟨rfl, hb2.out, by
      have := HDC.out
      unfold setDp
      rw [hE]
      dsimp only [powE]
      rw [Int.add_zero, ← HXX.out]
      exact this⟩
    have f1 : ¬ (k : Int) < s.size := by omega
    have f2 : decide ((k : Int) < (s.size : Int)) = false := decide_eq_false f1
    have f3 : ((k : Int) != (s.size : Int)) = false := by simp; omega
    clear hE hk2 hXb hks
    go_step
    go_wp2_with fail
    go_ret
    exact HF.out
  have hpd := powD_spec hp
  have hlen1 : k < s.size := by
    rcases Nat.lt_or_ge k s.size with h | h
    · exact h
    exfalso
    have h1 := HK.out
    rw [hE, List.drop_of_length_le (by omega)] at h1
    cases h1
  have hdk := drop_at s.data.toList k (by omega)
  rw [HK.out, hE] at hdk
  obtain ⟨hd1, hd2⟩ := List.cons.inj hdk
  have e101 : ((s[k].toNat : Nat) : Int) = 101 := by
    show ((s.data.toList[k].toNat : Nat) : Int) = 101
    rw [← hd1]; rfl
  have hlw : Go.bits .or .u8 101 32 = 101 := by decide +kernel
  have hlen2 : k + 1 < s.size := by
    rcases Nat.lt_or_ge (k + 1) s.size with h | h
    · exact h
    exfalso
    rw [List.drop_of_length_le (by omega)] at hd2
    rw [hd2] at hpd
    have := hpd.2.1
    simp [sgn] at this
  have hlI : (k : Int) < s.size := by omega
  have hlIb : decide ((k : Int) < (s.size : Int)) = true := decide_eq_true hlI
  have hk5 : IntKind.i64.wrap ((k : Int) + 1) = ((k + 1 : Nat) : Int) := by rw [Go.IntKind.wrap_i64]; omega
  have hdk2 := drop_at s.data.toList (k + 1) (by omega)
  rw [← hd2] at hdk2
  obtain ⟨c1, hc1⟩ : ∃ c1 : Nat, c1 = s.data.toList[k + 1].toNat := ⟨_, rfl⟩
  obtain ⟨k1, hk1⟩ : ∃ k1, k1 = k + 1 := ⟨_, rfl⟩
  have ec1 : k1 < s.size := by omega
  have ec2 : ((s[k1].toNat : Nat) : Int) = (c1 : Int) := by
    subst hk1
    rw [hc1]; rfl
  have hsg : (c1 = 43 → sgn p = s.data.toList.drop (k1 + 1) ∧ (esign p).1 = 1) ∧ (c1 = 45 → sgn p = s.data.toList.drop (k1 + 1) ∧ (esign p).1 = -1) ∧ (c1 ≠ 43 → c1 ≠ 45 → sgn p = s.data.toList.drop k1 ∧ (esign p).1 = 1) := by
    subst hk1
    rw [hdk2, hc1]
    refine ⟨fun h => ?_, fun h => ?_, fun h h' => ?_⟩
    · exact ⟨by unfold sgn; exact if_pos (Or.inl h), by unfold esign; dsimp only; rw [if_pos h]⟩
    · exact ⟨by unfold sgn; exact if_pos (Or.inr h), by unfold esign; dsimp only; rw [if_neg (by omega), if_pos h]⟩
    exact ⟨by unfold sgn; rw [drop_at s.data.toList (k + 1) (by omega)]; exact if_neg (by omega), by unfold esign; dsimp only; rw [if_neg h, if_neg h']⟩
  rw [← hk1] at hk5
  have hk5b : (k : Int) + 1 = (k1 : Int) := by omega
  have HSG := Lib.hid hsg
  have HPD := Lib.hid hpd
  have HE := Lib.hid hE
  have hk1I : (k1 : Int) < s.size := by omega
  have hk1n : ¬ (s.size : Int) ≤ k1 := by omega
  have hk1b : decide ((s.size : Int) ≤ (k1 : Int)) = false := decide_eq_false hk1n
  have hw1 : IntKind.i64.wrap ((k1 : Int) + 1) = ((k1 + 1 : Nat) : Int) := by rw [Go.IntKind.wrap_i64]; omega
  clear hp hpd hdk hd1 hd2 hlen2 hdk2 hc1 hk1 hsg hE HEE hk2
  go_step
  go_upto_block 4 with (go_at_call 156; refine (Tryz.internal_strconv_lower _ _).mono ?_; rintro e w1 ⟨rfl, hw1⟩; obtain rfl := hw1.symm)
  clear e101 hlw hlI hlIb hk5 hk5b hk1n hk1b
  go_cut [5, 8] (fun v5 v8 w' => ∃ (k2 : Nat) (sg : Int), v5 = .int .i64 k2 ∧ v8 = .int .i64 sg ∧ Hid (sgn p = s.data.toList.drop k2 ∧ (esign p).1 = sg ∧ (sg = 1 ∨ sg = -1)) ∧ wc = w')
  case first =>
    by_cases h43 : c1 = 43
    · have f1 : ((c1 : Int) == 43) = true := by simp [h43]
      have hh := HSG.out.1 h43
      have HR := Lib.hid hh
      clear hh h43
      go_wp2_with fail
      go_meet
      case rel => exact ⟨k1 + 1, 1, by first | rfl | go_num, rfl, Lib.hid ⟨HR.out.1, HR.out.2, Or.inl rfl⟩, rfl⟩
    have f1 : ((c1 : Int) == 43) = false := by simp; omega
    by_cases h45 : c1 = 45
    · have f2 : ((c1 : Int) == 45) = true := by simp [h45]
      have hh := HSG.out.2.1 h45
      have HR := Lib.hid hh
      clear hh h43 h45
      go_wp2_with fail
      go_meet
      case rel => exact ⟨k1 + 1, -1, by first | rfl | go_num, rfl, Lib.hid ⟨HR.out.1, HR.out.2, Or.inr rfl⟩, rfl⟩
    have f2 : ((c1 : Int) == 45) = false := by simp; omega
    have hh := HSG.out.2.2 h43 h45
    have HR := Lib.hid hh
    clear hh h43 h45
    go_wp2_with fail
    go_meet
    case rel => exact ⟨k1, 1, rfl, rfl, Lib.hid ⟨HR.out.1, HR.out.2, Or.inl rfl⟩, rfl⟩
  obtain ⟨k2, sg, rfl, rfl, hQ, hww⟩ := hcut
  subst hww
  obtain ⟨q1, q2, q3⟩ := hQ.out
  have hpd := HPD.out
  have hk2s : k2 < s.size := by
    rcases Nat.lt_or_ge k2 s.size with h | h
    · exact h
    exfalso
    rw [q1, List.drop_of_length_le (by omega)] at hpd
    have := hpd.2.1
    simp at this
  have hk2l : k2 < s.data.toList.length := by omega
  obtain ⟨c2, hc2⟩ : ∃ c2 : Nat, c2 = s.data.toList[k2].toNat := ⟨_, rfl⟩
  have ec3 : ((s[k2].toNat : Nat) : Int) = (c2 : Int) := by rw [hc2]; rfl
  have hd2 : 48 ≤ c2 ∧ c2 ≤ 57 := by
    rw [hc2]
    exact hpd.1 _ (by rw [q1, drop_at s.data.toList k2 hk2l]; simp)
  have hlen4 : (s.data.toList.drop k2).length ≤ 4 := by rw [← q1]; exact hpd.2.2
  rw [List.length_drop, hsl] at hlen4
  have hall : ∀ c ∈ s.data.toList.drop k2, Num.isD c := by rw [← q1]; exact hpd.1
  obtain ⟨V, hV⟩ : ∃ V, V = Num.dv 0 (s.data.toList.drop k2) := ⟨_, rfl⟩
  have hVp : powE E = sg * (V : Int) := by
    rw [HE.out]
    show powV p = _
    unfold powV
    rw [q2, esign_sgn, q1, hV]
  have HVP := Lib.hid hVp
  have HV := Lib.hid hV
  have HAll := Lib.hid hall
  have k2I : (k2 : Int) < s.size := by omega
  have k2n : ¬ (s.size : Int) ≤ k2 := by omega
  have k2b : decide ((s.size : Int) ≤ (k2 : Int)) = false := decide_eq_false k2n
  have d1 : ¬ (c2 : Int) < 48 := by omega
  have d1b : decide ((c2 : Int) < 48) = false := decide_eq_false d1
  have d2 : ¬ (57 : Int) < c2 := by omega
  have d2b : decide ((57 : Int) < (c2 : Int)) = false := decide_eq_false d2
  clear q1 q2 hpd hc2 hd2 hall hV hVp hQ HSG HPD ec1 ec2 hk1I hw1 hlen1
  go_step
  go_upto_block 5 with (fail)
  clear d1 d1b d2 d2b ec3 k2n k2b
  go_cut [5, 9] (fun v5 v9 w' => v5 = .int .i64 s.size ∧ v9 = .int .i64 V ∧ Hid (V < 10000) ∧ wc = w')
  case first =>
    go_wp2_with fail
    go_loopg [5, 9] (s.size - k2) (fun gn v5 v9 w' => ∃ k3 e : Nat, v5 = .int .i64 k3 ∧ v9 = .int .i64 e ∧ Hid (gn + k3 = s.size ∧ Num.dv e (s.data.toList.drop k3) = V ∧ (∀ c ∈ s.data.toList.drop k3, Num.isD c) ∧ ∃ c, e < 10 ^ c ∧ c + (s.size - k3) ≤ 4) ∧ wc = w')
    case atStart => exact ⟨k2, 0, rfl, rfl, Lib.hid ⟨by omega, HV.out.symm, HAll.out, 0, by decide, by omega⟩, rfl⟩
    case round =>
      obtain ⟨k3, e, rfl, rfl, hH, hww⟩ := hrel
      subst hww
      obtain ⟨r1, r2, r3, cc, r4, r5⟩ := hH.out
      by_cases hk3 : k3 < s.size
      · have hk3l : k3 < s.data.toList.length := by omega
        obtain ⟨c3, hc3⟩ : ∃ c3 : Nat, c3 = s.data.toList[k3].toNat := ⟨_, rfl⟩
        have ec4 : ((s[k3].toNat : Nat) : Int) = (c3 : Int) := by rw [hc3]; rfl
        have hdk := drop_at s.data.toList k3 hk3l
        have hd3 : 48 ≤ c3 ∧ c3 ≤ 57 := by
          rw [hc3]
          exact r3 _ (by rw [hdk]; simp)
        have he : e < 1000 := by
          have : 10 ^ cc ≤ 10 ^ 3 := Nat.pow_le_pow_right (by decide) (by omega)
          omega
        obtain ⟨e2, he2⟩ : ∃ e2, e2 = 10 * e + (c3 - 48) := ⟨_, rfl⟩
        have HR : Hid (gk - 1 < gk ∧ gk - 1 + (k3 + 1) = s.size ∧ Num.dv e2 (s.data.toList.drop (k3 + 1)) = V ∧ (∀ c ∈ s.data.toList.drop (k3 + 1), Num.isD c) ∧ ∃ c, e2 < 10 ^ c ∧ c + (s.size - (k3 + 1)) ≤ 4) := Lib.hid ⟨by omega, by omega, by rw [hdk, Num.dv_cons, ← hc3, ← he2] at r2; exact r2, fun c h => r3 c (by rw [hdk]; exact List.mem_cons_of_mem _ h), cc + 1, by rw [Nat.pow_succ]; omega, by omega⟩
        have g1 : (k3 : Int) < s.size := by omega
        have g2 : (48 : Int) ≤ c3 := by omega
        have g3 : (c3 : Int) ≤ 57 := by omega
        have g4 : ((c3 : Int) == 95) = false := by simp; omega
        have g5 : (e : Int) < 10000 := by omega
        have g5b : decide ((e : Int) < 10000) = true := decide_eq_true g5
        have w1 : IntKind.i64.wrap ((e : Int) * 10) = (e : Int) * 10 := by rw [Go.IntKind.wrap_i64]; omega
        have w2 : IntKind.i64.wrap ((e : Int) * 10 + (c3 : Int)) = (e : Int) * 10 + (c3 : Int) := by rw [Go.IntKind.wrap_i64]; omega
        have w3 : IntKind.i64.wrap ((e : Int) * 10 + (c3 : Int) - 48) = (e2 : Int) := by rw [Go.IntKind.wrap_i64]; omega
        have w4 : IntKind.i64.wrap ((k3 : Int) + 1) = ((k3 + 1 : Nat) : Int) := by rw [Go.IntKind.wrap_i64]; omega
        have w5 : (e : Int) * 10 + (c3 : Int) - 48 = (e2 : Int) := by omega
        have w6 : IntKind.i64.wrap (c3 : Int) = (c3 : Int) := by rw [Go.IntKind.wrap_i64]; omega
        clear hH r1 r2 r3 r4 r5 hc3 hdk hd3 he he2
        go_wp2_with fail
        go_roundg (gk - 1)
        case measure => exact HR.out.1
        case rel => exact ⟨k3 + 1, e2, by first | rfl | go_num, by first | rfl | go_num, Lib.hid HR.out.2, rfl⟩
      have hk3e : k3 = s.size := by omega
      have hl3 : s.data.toList.drop k3 = [] := List.drop_of_length_le (by omega)
      rw [hl3, Num.dv_nil] at r2
      have HR : Hid (e = V ∧ V < 10000) := Lib.hid ⟨r2, by
        have : 10 ^ cc ≤ 10 ^ 4 := Nat.pow_le_pow_right (by decide) (by omega)
        omega⟩
      clear hH r1 r2 r3 r4 r5 hl3 hk3 k2I HV HVP
      subst hk3e
      have g1 : ¬ (s.size : Int) < s.size := by omega
      go_wp2_with fail
      go_meet
      case rel => exact ⟨rfl, by rw [HR.out.1], Lib.hid HR.out.2, rfl⟩
  obtain ⟨rfl, rfl, hVb, hww⟩ := hcut
  subst hww
  have hvb := hVb.out
  obtain ⟨P, hP⟩ : ∃ P : Int, P = sg * (V : Int) := ⟨_, rfl⟩
  have hPb : -10000 ≤ P ∧ P ≤ 10000 := by
    rcases q3 with h | h <;> subst h <;> omega
  have x1 : IntKind.i64.wrap ((V : Int) * sg) = P := by
    rw [hP, Int.mul_comm, Go.IntKind.wrap_i64]
    rw [← hP]; omega
  have x1b : wrap64 ((V : Int) * sg) = P := by
    rw [Int.mul_comm, ← hP]; unfold wrap64; omega
  have HFin : Hid (X + P = setDp ⟨nd, dp, dot, true, d'⟩ E) := Lib.hid (by
    unfold setDp
    rw [HVP.out, ← hP, HXX.out])
  obtain ⟨X2, hX2⟩ : ∃ X2, X2 = X + P := ⟨_, rfl⟩
  have x2 : IntKind.i64.wrap (X + P) = X2 := by rw [Go.IntKind.wrap_i64]; omega
  have x2b : wrap64 (X + P) = X2 := by unfold wrap64; omega
  have HX2 := Lib.hid hX2
  have cdp := HDC.out.cdp
  have fdp := HDC.out.frozen 801
  have f3 : ((s.size : Int) != (s.size : Int)) = false := by simp
  have HD3 := Lib.hid (HDC.out.setDp X2)
  have HB3 := Lib.hid (hb2.out.setCell (p := ⟨g, 801, none⟩) (Nat.le_refl g) (.int .i64 X2))
  clear q3 hvb hP hPb hX2 hVb HVP HV HAll hlen4 k2I hk2s hk2l hXb
  go_step
  go_wp2_with fail
  go_ret
  refine ⟨rfl, HB3.out, ?_⟩
  rw [← HFin.out, ← HX2.out]
  exact HD3.out
end Go.Proofs.YtjpiplplohapnaaGreatDoor
