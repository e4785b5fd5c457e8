/- Part 14 of the proof: LRb, Fl, Tf, RParse, LInt, LPp, AHx, Uw. -/
import Derived.Test.YtjpiplplohapnaaGreatDoorPs13
import Derived.Lib.Hide
import Derived.LoopTactic
import Derived.LaidEqlPtr
import Derived.Deep.CutBlock
import Derived.Deep.DeepCutAuto
set_option linter.unusedVariables false
set_option linter.unusedSimpArgs false
namespace Go.Proofs.YtjpiplplohapnaaGreatDoor.Rf
theorem stp_ok {hx : Bool} {c : Nat} (hc : c < 256) {t t' : St} {k : Nat} (h : Ok hx t k) (hs : stp hx c t = some t') : Ok hx t' (k + 1) := by
  obtain ⟨h1, h2, h3, h4, h5⟩ := h
  have hb10 : 10 ≤ bs hx := by cases hx <;> decide
  have hb16 : bs true = 16 := rfl
  unfold stp at hs
  split at hs
  · cases hs; exact ⟨by dsimp only; omega, h2, h3, by dsimp only; omega, by dsimp only; omega⟩
  split at hs
  · split at hs
    · cases hs
    cases hs; exact ⟨by dsimp only; omega, h2, h3, by dsimp only; omega, by dsimp only; omega⟩
  split at hs
  · rename_i hd
    split at hs
    · cases hs; exact ⟨by dsimp only; omega, h2, h3, by dsimp only; omega, by dsimp only; omega⟩
    split at hs
    · rename_i hn
      have := (⟨h1, h2, h3, h4, h5⟩ : Ok hx t k).room (d := c - 48) hn (by omega)
      cases hs; exact ⟨by dsimp only; omega, by dsimp only; omega, this.1, by dsimp only; omega, by dsimp only; omega⟩
    cases hs; exact ⟨by dsimp only; omega, h2, h3, by dsimp only; omega, by dsimp only; omega⟩
  split at hs
  · rename_i hl
    obtain ⟨rfl, hl1, hl2⟩ := hl
    split at hs
    · rename_i hn
      have := (⟨h1, h2, h3, h4, h5⟩ : Ok true t k).room (d := (lw c - 87).toNat) hn (by rw [hb16]; omega)
      cases hs; exact ⟨by dsimp only; omega, by dsimp only; omega, this.1, by dsimp only; omega, by dsimp only; omega⟩
    cases hs; exact ⟨by dsimp only; omega, h2, h3, by dsimp only; omega, by dsimp only; omega⟩
  cases hs
theorem scan_ok {hx : Bool} : ∀ (l : List UInt8) (t : St) (k : Nat), Ok hx t k → Ok hx (scan hx l t).1 (k + l.length)
  | [], t, k, h => h
  | c :: l, t, k, h => by
    rw [scan]
    cases hs : stp hx c.toNat t with
    | none =>
      dsimp only
      obtain ⟨h1, h2, h3, h4, h5⟩ := h
      exact ⟨by simp; omega, h2, h3, by simp; omega, by simp; omega⟩
    | some t' =>
      dsimp only
      have := scan_ok l t' (k + 1) (stp_ok (UInt8.toNat_lt c) h hs)
      rw [List.length_cons, show k + (l.length + 1) = k + 1 + l.length by omega]
      exact this
theorem escan_le : ∀ (l : List UInt8) (e : Nat) (us : Bool), e ≤ 99999 → (z3n l e us).1 ≤ 99999
  | [], e, us, h => h
  | c :: l, e, us, h => by
    rw [z3n]
    split
    · exact escan_le l e true h
    split
    · rename_i hd
      refine escan_le l _ us ?_
      split <;> omega
    exact h
theorem esign_one (l : List UInt8) : (z2e l).1 = 1 ∨ (z2e l).1 = -1 := by
  cases l with
  | nil => exact Or.inl rfl
  | cons c l =>
    show (if c.toNat = 43 then ((1 : Int), l) else if c.toNat = 45 then (-1, l) else (1, c :: l)).1 = 1 ∨ (if c.toNat = 43 then ((1 : Int), l) else if c.toNat = 45 then (-1, l) else (1, c :: l)).1 = -1
    by_cases h1 : c.toNat = 43
    · rw [if_pos h1]; exact Or.inl rfl
    rw [if_neg h1]
    by_cases h2 : c.toNat = 45
    · rw [if_pos h2]; exact Or.inr rfl
    rw [if_neg h2]; exact Or.inl rfl
theorem eat_bound {us : Bool} {r : List UInt8} {x : Int × Bool × List UInt8} (h : eat us r = some x) : -99999 ≤ x.1 ∧ x.1 ≤ 99999 := by
  unfold eat at h
  split at h
  · cases h
    dsimp only
    have h1 := escan_le (z2e r).2 0 us (by omega)
    generalize (z3n (z2e r).2 0 us).1 = e at *
    rcases esign_one r with h | h <;> rw [h] <;> omega
  cases h
theorem expPart_bound {hx us : Bool} {r : List UInt8} {x : Int × Bool × List UInt8} (h : z2t hx us r = some x) : -99999 ≤ x.1 ∧ x.1 ≤ 99999 := by
  cases r with
  | nil =>
    cases hx
    · rw [show z2t false us [] = some (0, us, []) from rfl] at h
      cases h; exact ⟨by dsimp only; omega, by dsimp only; omega⟩
    rw [show z2t true us [] = none from rfl] at h
    cases h
  | cons c r =>
    cases hx
    · by_cases h1 : lw c.toNat = 101
      · rw [z6i h1] at h; exact eat_bound h
      rw [z5t h1] at h; cases h; exact ⟨by dsimp only; omega, by dsimp only; omega⟩
    by_cases h1 : lw c.toNat = 112
    · rw [expPart_hit_x h1] at h; exact eat_bound h
    rw [expPart_miss_x h1] at h; cases h
theorem fin_bound {hx : Bool} {l : List UInt8} (hl : l.length ≤ 1000) {o : Out} (h : fin hx (scan hx l st0).1 (scan hx l st0).2 = some o) : o.m < 18446744073709551616 ∧ -300000 ≤ o.e ∧ o.e ≤ 300000 := by
  have hk := scan_ok (hx := hx) l st0 0 (ok0 hx 0)
  generalize (scan hx l st0).1 = t at *
  generalize (scan hx l st0).2 = r at *
  obtain ⟨h1, h2, h3, h4, h5⟩ := hk
  unfold fin at h
  split at h
  · cases he : z2t hx t.us r with
    | none => rw [he] at h; cases h
    | some x =>
      rw [he] at h
      cases h
      have hb := expPart_bound he
      have hm : t.m < 18446744073709551616 := Nat.lt_of_lt_of_le h3 (Nat.le_trans (Nat.pow_le_pow_right (by cases hx <;> decide) h2) (pow_max hx))
      refine ⟨hm, ?_⟩
      dsimp only
      have hn : t.nm ≤ 19 := Nat.le_trans h2 (by cases hx <;> decide)
      have hD : -5000 ≤ dpv hx t ∧ dpv hx t ≤ 5000 := by
        unfold dpv
        cases hx <;> cases t.dot <;> simp <;> omega
      have hN : 0 ≤ nmv hx t ∧ nmv hx t ≤ 100 := by
        unfold nmv
        cases hx <;> simp <;> omega
      split <;> omega
  cases h
end Go.Proofs.YtjpiplplohapnaaGreatDoor.Rf
namespace Go.Proofs.YtjpiplplohapnaaGreatDoor.Rf
def dl : List UInt8 → Nat
  | [] => 0
  | c :: l => if 48 ≤ c.toNat ∧ c.toNat ≤ 57 then dl l + 1 else 0
theorem dl_le : ∀ l : List UInt8, dl l ≤ l.length
  | [] => Nat.le_refl _
  | c :: l => by
    rw [dl]
    have := dl_le l
    split
    · simp; omega
    simp
theorem dl_all : ∀ l : List UInt8, dl l = l.length → ∀ c ∈ l, Num.isD c
  | [], _ => by simp
  | c :: l, h => by
    rw [dl] at h
    split at h
    · rename_i hc
      have := dl_all l (by simpa using h)
      intro d hd
      rcases List.mem_cons.1 hd with rfl | hd
      · exact hc
      exact this d hd
    simp at h
def sgn : List UInt8 → List UInt8
  | [] => []
  | c :: l => if c.toNat = 43 ∨ c.toNat = 45 then l else c :: l
def powD (q : List UInt8) : Bool := decide (dl q = q.length ∧ 1 ≤ q.length ∧ q.length ≤ 4)
def powL : List UInt8 → Bool
  | [] => true
  | c :: r => if c.toNat = 101 then powD (sgn r) else false
def formT : List UInt8 → Bool
  | [] => true
  | c :: r => if c.toNat = 46 then (if dl r = 0 then false else powL (r.drop (dl r))) else powL (c :: r)
def z5r (l : List UInt8) : Bool := if dl l = 0 then false else formT (l.drop (dl l))
def z5x : List UInt8 → Bool
  | [] => false
  | c :: l => if c.toNat = 45 then z5r l else z5r (c :: l)
theorem stp_e (t : St) : stp false 101 t = none := by
  unfold stp
  rw [if_neg (by omega), if_neg (by omega), if_neg (by omega), if_neg (fun h => Bool.noConfusion h.1)]
def powV (pw : List UInt8) : Int := (z2e pw).1 * ((Num.dv 0 (z2e pw).2 : Nat) : Int)
theorem z6m (pw : List UInt8) : (z2e pw).2 = sgn pw := by
  cases pw with
  | nil => rfl
  | cons c l =>
    unfold z2e sgn
    dsimp only
    by_cases h1 : c.toNat = 43
    · rw [if_pos h1, if_pos (Or.inl h1)]
    rw [if_neg h1]
    by_cases h2 : c.toNat = 45
    · rw [if_pos h2, if_pos (Or.inr h2)]
    rw [if_neg h2, if_neg (by omega)]
theorem z8b {q : List UInt8} (h : powD q = true) : (∀ c ∈ q, Num.isD c) ∧ 1 ≤ q.length ∧ q.length ≤ 4 := by
  have h' := of_decide_eq_true h
  exact ⟨dl_all q h'.1, h'.2⟩
theorem eat_pow (pw : List UInt8) (h : powD (sgn pw) = true) : eat false pw = some (powV pw, false, []) := by
  obtain ⟨h1, h2, h3⟩ := z8b h
  have hd := Num.dv_lt (sgn pw) h1 0
  have h4 : 10 ^ (sgn pw).length ≤ 10 ^ 4 := Nat.pow_le_pow_right (by decide) h3
  unfold eat powV
  rw [z6m, if_pos (starts_digits h1 (by intro h; rw [h] at h2; simp at h2)), esc_digits _ 0 h1 (by omega) (Or.inl h3)]
end Go.Proofs.YtjpiplplohapnaaGreatDoor.Rf
namespace Go.Proofs.YtjpiplplohapnaaGreatDoor.Rf
structure SI (t : St) (W q k : Nat) : Prop where
  us : t.us = false
  nm : t.nm ≤ 19
  nd : t.nd = t.nm + k
  zero : W = 0 → t.nd = 0
  lead : 1 ≤ t.nm → 10 ^ (t.nm - 1) ≤ t.m
  lo : t.m * 10 ^ k ≤ W
  hi : W < (t.m + 1) * 10 ^ k
  whole : t.tr = false → W = t.m * 10 ^ k
  more : t.tr = true → t.m * 10 ^ k < W
  full : 0 < k → t.nm = 19
  pt : t.dot = true → t.dp = (t.nd : Int) - q
  nopt : t.dot = false → q = 0
  small : t.m < 10 ^ t.nm
theorem si0 : SI st0 0 0 0 := ⟨rfl, by decide, rfl, fun _ => rfl, fun h => absurd h (by decide), by decide, by decide, fun _ => rfl, (fun h => by cases h), fun h => absurd h (by decide), (fun h => by cases h), fun _ => rfl, by decide⟩
theorem si_digit {t : St} {W q k : Nat} (h : SI t W q k) {c : UInt8} (hc : Num.isD c) : ∃ t' k', stp false c.toNat t = some t' ∧ t'.sd = true ∧ t'.dot = t.dot ∧ SI t' (10 * W + (c.toNat - 48)) (if t.dot then q + 1 else q) k' := by
  obtain ⟨h1, h2, h3, h4, h5, h6, h7, h8, h9, h10, h11, h12, h13⟩ := h
  have hd : 48 ≤ c.toNat ∧ c.toNat ≤ 57 := hc
  obtain ⟨f, hf⟩ : ∃ f, f = c.toNat - 48 := ⟨_, rfl⟩
  rw [← hf]
  have hf9 : f ≤ 9 := by omega
  unfold stp
  rw [if_neg (by omega), if_neg (by omega), if_pos hd]
  obtain ⟨us, dot, sd, nd, nm, dp, m, tr⟩ := t
  dsimp only at h1 h2 h3 h4 h5 h6 h7 h8 h9 h10 h11 h12 h13 ⊢
  by_cases hz : c.toNat = 48 ∧ nd = 0
  · rw [if_pos hz]
    have hnm : nm = 0 := by omega
    have hk : k = 0 := by omega
    subst hnm hk
    have hm : m = 0 := by rw [Nat.pow_zero] at h13; omega
    subst hm
    have hW : W = 0 := by rw [Nat.pow_zero] at h7; omega
    have hf0 : f = 0 := by omega
    subst hW hf0
    have htr : tr = false := by
      cases tr
      · rfl
      have := h9 rfl; omega
    subst htr
    refine ⟨_, 0, rfl, rfl, rfl, ⟨h1, Nat.zero_le _, h3, fun _ => hz.2, fun h => absurd h (by show ¬ 1 ≤ 0; decide), (by show 0 * 10 ^ 0 ≤ 10 * 0 + 0; decide), (by show 10 * 0 + 0 < (0 + 1) * 10 ^ 0; decide), fun _ => rfl, (fun h => by cases h), fun h => absurd h (by decide), fun h => ?_, fun h => ?_, (by show 0 < 10 ^ 0; decide)⟩⟩
    · have hdt : dot = true := h
      rw [hdt, if_pos rfl]
      have := h11 hdt
      show dp - 1 = (nd : Int) - ((q + 1 : Nat) : Int)
      omega
    have hdt : dot = false := h
    rw [hdt, if_neg (by decide)]; exact h12 hdt
  rw [if_neg hz]
  by_cases hn : nm < mxd false
  · rw [if_pos hn]
    have hn19 : nm < 19 := hn
    have hk : k = 0 := by
      rcases Nat.eq_zero_or_pos k with e | e
      · exact e
      have := h10 e; omega
    subst hk
    rw [Nat.pow_zero, Nat.mul_one] at h6 h7
    have hW : W = m := by omega
    subst hW
    have hnd : nd = nm := by omega
    subst hnd
    refine ⟨_, 0, rfl, rfl, rfl, ⟨h1, ?_, ?_, ?_, ?_, ?_, ?_, ?_, ?_, fun h => absurd h (by decide), fun h => ?_, fun h => ?_, ?_⟩⟩
    · show nd + 1 ≤ 19; omega
    · show nd + 1 = nd + 1 + 0; rfl
    · intro h0
      exfalso
      have hW0 : W = 0 := by omega
      have hnd0 := h4 hW0
      exact hz ⟨by omega, hnd0⟩
    · intro _
      show 10 ^ (nd + 1 - 1) ≤ W * 10 + (c.toNat - 48)
      rw [Nat.add_sub_cancel]
      rcases Nat.eq_zero_or_pos nd with e | e
      · subst e
        have hne : c.toNat ≠ 48 := fun h => hz ⟨h, rfl⟩
        rw [Nat.pow_zero]; omega
      have h5' := h5 e
      have e1 : 10 ^ nd = 10 ^ (nd - 1) * 10 := by rw [← Nat.pow_succ]; congr 1; omega
      rw [e1]
      omega
    · show (W * 10 + (c.toNat - 48)) * 10 ^ 0 ≤ 10 * W + f
      rw [Nat.pow_zero]; omega
    · show 10 * W + f < (W * 10 + (c.toNat - 48) + 1) * 10 ^ 0
      rw [Nat.pow_zero]; omega
    · intro _
      show 10 * W + f = (W * 10 + (c.toNat - 48)) * 10 ^ 0
      rw [Nat.pow_zero]; omega
    · intro ht
      have ht' : tr = true := ht
      exfalso
      have := h9 ht'
      rw [Nat.pow_zero] at this; omega
    · have hdt : dot = true := h
      rw [hdt, if_pos rfl]
      have := h11 hdt
      show dp = ((nd + 1 : Nat) : Int) - ((q + 1 : Nat) : Int)
      omega
    · have hdt : dot = false := h
      rw [hdt, if_neg (by decide)]; exact h12 hdt
    show W * 10 + (c.toNat - 48) < 10 ^ (nd + 1)
    rw [Nat.pow_succ]; omega
  rw [if_neg hn]
  have hn19 : nm = 19 := by have : ¬ nm < 19 := hn; omega
  have hp : 0 < 10 ^ k := Nat.pow_pos (by decide)
  have e1 : m * 10 ^ (k + 1) = m * 10 ^ k * 10 := by rw [Nat.pow_succ, Nat.mul_assoc]
  have e2 : (m + 1) * 10 ^ (k + 1) = (m + 1) * 10 ^ k * 10 := by rw [Nat.pow_succ, Nat.mul_assoc]
  refine ⟨_, k + 1, rfl, rfl, rfl, ⟨h1, h2, ?_, ?_, h5, ?_, ?_, ?_, ?_, fun _ => hn19, fun h => ?_, fun h => ?_, h13⟩⟩
  · show nd + 1 = nm + (k + 1); omega
  · intro h0
    exfalso
    have := h4 (by omega)
    omega
  · show m * 10 ^ (k + 1) ≤ 10 * W + f
    rw [e1]; omega
  · show 10 * W + f < (m + 1) * 10 ^ (k + 1)
    rw [e2]; omega
  · intro ht
    have ht' : (tr || decide (c.toNat ≠ 48)) = false := ht
    have h14 : tr = false ∧ c.toNat = 48 := by simpa using ht'
    have := h8 h14.1
    show 10 * W + f = m * 10 ^ (k + 1)
    rw [e1]; omega
  · intro ht
    have ht' : (tr || decide (c.toNat ≠ 48)) = true := ht
    show m * 10 ^ (k + 1) < 10 * W + f
    rw [e1]
    by_cases hc48 : c.toNat = 48
    · have htt : tr = true := by
        cases tr
        · simp [hc48] at ht'
        rfl
      have := h9 htt
      omega
    omega
  · have hdt : dot = true := h
    rw [hdt, if_pos rfl]
    have := h11 hdt
    show dp = ((nd + 1 : Nat) : Int) - ((q + 1 : Nat) : Int)
    omega
  have hdt : dot = false := h
  rw [hdt, if_neg (by decide)]; exact h12 hdt
theorem si_scan : ∀ (D r : List UInt8) (t : St) (W q k : Nat), (∀ c ∈ D, Num.isD c) → D ≠ [] → SI t W q k →
    ∃ t' k', scan false (D ++ r) t = scan false r t' ∧ t'.sd = true ∧ t'.dot = t.dot ∧ SI t' (Num.dv W D) (if t.dot then q + D.length else q) k'
  | [], r, t, W, q, k, _, h, _ => absurd rfl h
  | c :: D, r, t, W, q, k, hD, _, h => by
    obtain ⟨t1, k1, a1, a2, a3, a4⟩ := si_digit h (hD c (by simp))
    rw [List.cons_append, scan, a1, Num.z2u]
    dsimp only
    by_cases hn : D = []
    · subst hn
      refine ⟨t1, k1, rfl, a2, a3, ?_⟩
      rw [Num.z3q]
      exact a4
    obtain ⟨t2, k2, b1, b2, b3, b4⟩ := si_scan D r t1 _ _ k1 (fun d hd => hD d (by simp [hd])) hn a4
    refine ⟨t2, k2, b1, b2, b3.trans a3, ?_⟩
    rw [a3] at b4
    have e : (if t.dot = true then (if t.dot = true then q + 1 else q) + D.length else if t.dot = true then q + 1 else q) = if t.dot = true then q + (c :: D).length else q := by
      cases t.dot
      · rfl
      rw [if_pos rfl, if_pos rfl, if_pos rfl, List.length_cons]; omega
    rw [e] at b4
    exact b4
theorem si_dot {t : St} {W k : Nat} (h : SI t W 0 k) (hd : t.dot = false) : stp false 46 t = some { t with dot := true, dp := t.nd } ∧ SI { t with dot := true, dp := t.nd } W 0 k := by
  refine ⟨?_, ⟨h.us, h.nm, h.nd, h.zero, h.lead, h.lo, h.hi, h.whole, h.more, h.full, fun _ => ?_, (fun hh => by cases hh), h.small⟩⟩
  · unfold stp
    rw [if_neg (by decide), if_pos rfl, hd]
    rfl
  show (t.nd : Int) = (t.nd : Int) - ((0 : Nat) : Int)
  omega
structure Form (l A D : List UInt8) (dot : Bool) (E : List UInt8) : Prop where
  eq : l = A ++ ((if dot then 46 :: D else []) ++ E)
  dA : ∀ c ∈ A, Num.isD c
  nA : A ≠ []
  dD : ∀ c ∈ D, Num.isD c
  nD : dot = true → D ≠ []
  eD : dot = false → D = []
  pw : E = [] ∨ ∃ p, E = 101 :: p ∧ powD (sgn p) = true
def powE : List UInt8 → Int
  | [] => 0
  | _ :: p => powV p
theorem dl_take : ∀ l : List UInt8, ∀ c ∈ l.take (dl l), Num.isD c
  | [] => by simp
  | c :: l => by
    rw [dl]
    by_cases h : 48 ≤ c.toNat ∧ c.toNat ≤ 57
    · rw [if_pos h, List.take_succ_cons]
      intro d hd
      rcases List.mem_cons.1 hd with rfl | hd
      · exact h
      exact dl_take l d hd
    rw [if_neg h]; simp
theorem take_ne {l : List UInt8} (h : dl l ≠ 0) : l.take (dl l) ≠ [] := by
  intro e
  have := congrArg List.length e
  rw [List.length_take, Nat.min_eq_left (dl_le l)] at this
  exact h this
theorem powL_spec {E : List UInt8} (h : powL E = true) : E = [] ∨ ∃ p, E = 101 :: p ∧ powD (sgn p) = true := by
  cases E with
  | nil => exact Or.inl rfl
  | cons c r =>
    right
    unfold powL at h
    by_cases hc : c.toNat = 101
    · have hc' : c = 101 := UInt8.toNat_inj.1 hc
      have h' : (if c.toNat = 101 then powD (sgn r) else false) = true := h
      rw [if_pos hc] at h'
      exact ⟨r, by rw [hc'], h'⟩
    have h' : (if c.toNat = 101 then powD (sgn r) else false) = true := h
    rw [if_neg hc] at h'; cases h'
theorem fin_form {l A D E : List UInt8} {dot : Bool} (h : Form l A D dot E) : ∃ (o : Out) (k : Nat), fin false (scan false l st0).1 (scan false l st0).2 = some o ∧ o.us = false ∧ o.rest = [] ∧
    (Num.dv 0 (A ++ D) = 0 → o.m = 0) ∧ (Num.dv 0 (A ++ D) ≠ 0 → o.m ≠ 0 ∧ o.e = (k : Int) + powE E - D.length) ∧ o.m * 10 ^ k ≤ Num.dv 0 (A ++ D) ∧ Num.dv 0 (A ++ D) < (o.m + 1) * 10 ^ k ∧
    (o.tr = false → Num.dv 0 (A ++ D) = o.m * 10 ^ k) ∧ (o.tr = true → o.m * 10 ^ k < Num.dv 0 (A ++ D) ∧ 10 ^ 18 ≤ o.m) ∧ o.m < 10 ^ 19 := by
  have key : ∃ t k, scan false l st0 = scan false E t ∧ t.sd = true ∧ SI t (Num.dv 0 (A ++ D)) D.length k := by
    obtain ⟨t1, k1, a1, a2, a3, a4⟩ := si_scan A ((if dot then 46 :: D else []) ++ E) st0 0 0 0 h.dA h.nA si0
    rw [← h.eq] at a1
    have a4' : SI t1 (Num.dv 0 A) 0 k1 := a4
    cases dot
    · have hD := h.eD rfl
      subst hD
      rw [if_neg (by decide), List.nil_append] at a1
      exact ⟨t1, k1, a1, a2, by rw [List.append_nil]; exact a4'⟩
    rw [if_pos rfl, List.cons_append, scan] at a1
    obtain ⟨b1, b2⟩ := si_dot a4' a3
    rw [show (46 : UInt8).toNat = 46 from rfl, b1] at a1
    dsimp only at a1
    obtain ⟨t2, k2, c1, c2, c3, c4⟩ := si_scan D E _ _ _ _ h.dD (h.nD rfl) b2
    refine ⟨t2, k2, a1.trans c1, c2, ?_⟩
    rw [Num.z7v]
    have c4' : SI t2 (Num.dv (Num.dv 0 A) D) (0 + D.length) k2 := c4
    rw [Nat.zero_add] at c4'
    exact c4'
  obtain ⟨t, k, hs, hsd, hI⟩ := key
  have hend : scan false E t = (t, E) := by
    rcases h.pw with rfl | ⟨p, rfl, _⟩
    · rfl
    rw [scan, show (101 : UInt8).toNat = 101 from rfl, stp_e]
  rw [hs, hend]
  have hlw : lw (101 : UInt8).toNat = 101 := by decide +kernel
  have hx : z2t false t.us E = some (powE E, false, []) := by
    rcases h.pw with rfl | ⟨p, rfl, hp⟩
    · rw [hI.us]; rfl
    rw [z6i hlw, hI.us, eat_pow p hp]; rfl
  refine ⟨⟨t.m, if t.m = 0 then 0 else dpv false t + powE E - nmv false t, t.tr, false, []⟩, k, ?_, rfl, rfl, ?_, ?_, hI.lo, hI.hi, hI.whole, ?_, ?_⟩
  · unfold fin
    dsimp only
    rw [if_pos hsd, hx]
    rfl
  · intro h0
    have h1 := hI.small
    have h2 : t.nm = 0 := by have := hI.zero h0; have := hI.nd; omega
    rw [h2, Nat.pow_zero] at h1
    show t.m = 0
    omega
  · intro h0
    have hm : t.m ≠ 0 := by
      intro hm
      rcases Nat.eq_zero_or_pos t.nm with e | e
      · have hk : k = 0 := by
          rcases Nat.eq_zero_or_pos k with g | g
          · exact g
          have := hI.full g; omega
        have := hI.hi
        rw [hm, hk] at this
        have h3 : Num.dv 0 (A ++ D) < 1 := by simpa using this
        omega
      have := hI.lead e
      have hp : 0 < 10 ^ (t.nm - 1) := Nat.pow_pos (by decide)
      omega
    refine ⟨hm, ?_⟩
    show (if t.m = 0 then (0 : Int) else dpv false t + powE E - nmv false t) = _
    rw [if_neg hm]
    unfold dpv nmv
    have hnd := hI.nd
    cases hdt : t.dot
    · have := hI.nopt hdt
      simp
      omega
    have := hI.pt hdt
    simp
    omega
  · intro ht
    refine ⟨hI.more ht, ?_⟩
    have hk : 0 < k := by
      rcases Nat.eq_zero_or_pos k with g | g
      · exfalso
        have h1 := hI.more ht
        have h2 := hI.hi
        rw [g, Nat.pow_zero] at h1 h2
        omega
      exact g
    have hn := hI.full hk
    have := hI.lead (by omega)
    rw [hn] at this
    exact this
  have h1 := hI.small
  exact Nat.lt_of_lt_of_le h1 (Nat.pow_le_pow_right (by decide) hI.nm)
end Go.Proofs.YtjpiplplohapnaaGreatDoor.Rf
namespace Go.Proofs.YtjpiplplohapnaaGreatDoor.PText
open Go.RowKit Go.Proofs.YtjpiplplohapnaaGreatDoorW.PrintWords Go.Proofs.YtjpiplplohapnaaGreatDoorW.PrintLast Go.Proofs.YtjpiplplohapnaaGreatDoorW.PrintMore
attribute [local go_sem] z2i z2j z3i z3k z2d z2c z2q z2r
set_option linter.unusedVariables false
set_option linter.unusedSimpArgs false
mutual
def z0b.j0 : Nat → ByteArray → Int → Bool → Option (Int × Int)
  | 0, _, _, _ => none
  | k + 1, x0, x4, x24 => if x24 = true then (z0b.j1 k x0 (wrap64 (x4 + 1))) else (z0b.j1 k x0 x4)
def z0b.j1 : Nat → ByteArray → Int → Option (Int × Int)
  | 0, _, _ => none
  | k + 1, x0, x4 => (z0s.f k x0 x4).bind fun t316 => (if t316 = x4 then (some (0, 20)) else (z0b.l0 k x0 t316 ([] : List Int) x4))
def z0b.l0 : Nat → ByteArray → Int → List Int → Int → Option (Int × Int)
  | 0, _, _, _, _ => none
  | k + 1, x0, x4, x6, x7 => if x7 < x4 then (if 0 ≤ x7 then (if x7 < (x0.size : Int) then ((z2a.f k x6 (bt x0 x7)).bind fun t317 => (z0b.l0 k x0 x4 t317 (wrap64 (x7 + 1)))) else (none)) else (none)) else (if x4 < (x0.size : Int) then (if 0 ≤ x4 then (z0b.j3 k x0 x4 x6 0 ((bt x0 x4) == 46)) else (none)) else (z0b.j3 k x0 x4 x6 0 false))
def z0b.j3 : Nat → ByteArray → Int → List Int → Int → Bool → Option (Int × Int)
  | 0, _, _, _, _, _ => none
  | k + 1, x0, x4, x6, x8, x54 => if x54 = true then ((z0s.f k x0 (wrap64 (x4 + 1))).bind fun t320 => (if t320 = (wrap64 (x4 + 1)) then (some (0, 20)) else (z0b.l1 k x0 t320 x6 (wrap64 (x4 + 1)) (wrap64 (x4 + 1))))) else (z0b.j5 k x0 x4 x6 x8)
def z0b.j5 : Nat → ByteArray → Int → List Int → Int → Option (Int × Int)
  | 0, _, _, _, _ => none
  | k + 1, x0, x4, x6, x8 => (z0c.f k x0 x4).bind fun bt324 => (if bt324.2 = (x0.size : Int) then (if 0 < (x0.size : Int) then ((z0v.f k x6 (wrap64 (bt324.1 - x8)) ((bt x0 0) == 45)).bind fun bt326 => (some (bt326.1, bt326.2))) else (none)) else (some (0, 20)))
def z0b.l1 : Nat → ByteArray → Int → List Int → Int → Int → Option (Int × Int)
  | 0, _, _, _, _, _ => none
  | k + 1, x0, x4, x6, x9, x10 => if x10 < x4 then (if 0 ≤ x10 then (if x10 < (x0.size : Int) then ((z2a.f k x6 (bt x0 x10)).bind fun t321 => (z0b.l1 k x0 x4 t321 x9 (wrap64 (x10 + 1)))) else (none)) else (none)) else (z0b.j5 k x0 x4 x6 (wrap64 (x4 - x9)))
end
def z0b.f (k : Nat) (a0 : ByteArray) : Option (Int × Int) := if (a0.size : Int) > 400 then (some (0, 20)) else (if 0 < (a0.size : Int) then (z0b.j0 k a0 0 ((bt a0 0) == 45)) else (z0b.j0 k a0 0 false))
set_option maxHeartbeats 8000000 in
set_option maxRecDepth 100000 in
theorem z0b.calls (k : Nat) (a0 : ByteArray) (r1 : Int) (r2 : Int) (w : World) (h : z0b.f k a0 = some (r1, r2)) :
    Calls Tryz.prog 11 #[.string a0] w fun e w' => e = .returned (.tuple #[.int .u64 r1, .int .i64 r2]) ∧ Below w.heap.size w w' := by
  have HB := y9.mk (Below.refl w.heap.size w)
  have H : (if (a0.size : Int) > 400 then (some (0, 20)) else (if 0 < (a0.size : Int) then (z0b.j0 k a0 0 ((bt a0 0) == 45)) else (z0b.j0 k a0 0 false))) = some (r1, r2) := h
  clear h
  by_cases c2 : (a0.size : Int) > 400
  · rw [if_pos c2] at H
    have c2b0 : decide (400 < (a0.size : Int)) = true := decide_eq_true c2
    have c2b1 : decide (400 < a0.size) = true := decide_eq_true (by omega)
    clear c2
    simp only [Option.some.injEq, Prod.mk.injEq] at H
    obtain ⟨rfl, rfl⟩ := H
    go_enter Tryz.func11, Tryz.ntmps11
    go_wp2
    go_ret2
    exact ⟨by rfl, by repeat ((with_reducible exact HB.out))⟩
  rw [if_neg c2] at H
  have c2b0 : decide (400 < (a0.size : Int)) = false := decide_eq_false c2
  have c2b1 : decide (400 < a0.size) = false := decide_eq_false (by omega)
  clear c2
  have HC3 := y9.mk H
  clear H
  go_enter Tryz.func11, Tryz.ntmps11
  go_upto_region 4 with (fail)
  go_cut [24] (fun v24 wc => ∃ (kq : Nat) (x24_2 : Bool), v24 = .bool x24_2 ∧ y9 (z0b.j0 kq a0 0 x24_2 = some (r1, r2)) ∧ y9 (kq ≤ k) ∧ y9 (Below w.heap.size w wc))
  case first =>
    have H := HC3.out
    clear HC3
    by_cases c4 : 0 < (a0.size : Int)
    · rw [if_pos c4] at H
      have c4b0 : decide (0 < (a0.size : Int)) = true := decide_eq_true c4
      have c4b1 : decide (0 < a0.size) = true := decide_eq_true (by omega)
      clear c4
      (skip)
      have H' := y9.mk H
      clear H
      have p5 : 0 ≤ (0 : Int) := (by omega)
      have q5 : 0 < a0.size := (by have : (0 : Int) < (a0.size : Int) := of_decide_eq_true (by (with_reducible assumption)); omega)
      have hx5 : ∀ h : 0 < a0.size, ((a0[0]'h).toNat : Int) = bt a0 0 := z4f a0 0
      clear p5
      have qi5 : (0 < (a0.size : Int)) = True := eq_true (of_decide_eq_true (by (with_reducible assumption)))
      replace q5 := eq_true q5
      go_wp2
      go_meet
      case rel => exact ⟨_, (((bt a0 0) == 45)), (by rfl), H', ⟨by omega⟩, ⟨by repeat ((with_reducible exact HB.out))⟩⟩
    rw [if_neg c4] at H
    have c4b0 : decide (0 < (a0.size : Int)) = false := decide_eq_false c4
    have c4b1 : decide (0 < a0.size) = false := decide_eq_false (by omega)
    clear c4
    (skip)
    have H' := y9.mk H
    clear H
    go_wp2
    go_meet
    case rel => exact ⟨_, (false), (by rfl), H', ⟨by omega⟩, ⟨by repeat ((with_reducible exact HB.out))⟩⟩
  clear HC3
  (try clear c1); (try clear c2); (try clear c2b0); (try clear c2b1); (try clear p2); (try clear c4); (try clear c4b0); (try clear c4b1); (try clear p5); (try clear q5); (try clear hx5); (try clear qi5); (try clear p5); (try clear q5)
  obtain ⟨kq, x24_2, rfl, HA, HJ2, HB⟩ := hcut
  cases kq with
  | zero => exact absurd HA.out (by simp [z0b.j0])
  | succ kj2 =>
    have H := HA.out
    clear HA
    simp only [z0b.j0] at H
    have HC6 := y9.mk H
    clear H
    go_upto_if 24 with (fail)
    go_cut [4] (fun v4 wc => ∃ (kq : Nat) (x4_5 : Int), v4 = .int .i64 x4_5 ∧ y9 (z0b.j1 kq a0 x4_5 = some (r1, r2)) ∧ y9 (kq ≤ kj2) ∧ y9 (Below w.heap.size w wc))
    case first =>
      have H := HC6.out
      clear HC6
      by_cases c7 : x24_2 = true
      · subst c7
        have H1 : (z0b.j1 kj2 a0 (wrap64 (0 + 1))) = some (r1, r2) := by rw [if_pos rfl] at H; exact H
        clear H
        have H := H1
        clear H1
        have H' := y9.mk H
        clear H
        go_wp2
        go_meet
        case rel => exact ⟨_, (wrap64 (0 + 1)), (by (rw [show wrap64 (0 + 1) = 1 from (by unfold wrap64; rfl)])), H', ⟨by have := HJ2.out; omega⟩, ⟨by repeat ((with_reducible exact HB.out))⟩⟩
      replace c7 := Bool.eq_false_iff.mpr c7
      subst c7
      have H1 : (z0b.j1 kj2 a0 0) = some (r1, r2) := by rw [if_neg (show ¬ (false = true) by decide)] at H; exact H
      clear H
      have H := H1
      clear H1
      have H' := y9.mk H
      clear H
      go_wp2
      go_meet
      case rel => exact ⟨_, (0), (by rfl), H', ⟨by have := HJ2.out; omega⟩, ⟨by repeat ((with_reducible exact HB.out))⟩⟩
    clear HC6
    (try clear c1); (try clear c2); (try clear c2b0); (try clear c2b1); (try clear p2); (try clear c4); (try clear c4b0); (try clear c4b1); (try clear p5); (try clear q5); (try clear hx5); (try clear qi5); (try clear p6); (try clear c7); (try clear p2); (try clear p5); (try clear q5)
    obtain ⟨kq, x4_5, rfl, HA, HJ5, HB⟩ := hcut
    cases kq with
    | zero => exact absurd HA.out (by simp [z0b.j1])
    | succ kj5 =>
      have H := HA.out
      clear HA
      simp only [z0b.j1] at H
      replace H := Option.bind_eq_some_iff.mp H
      obtain ⟨t316, A80, H⟩ := H
      have A8 := y9.mk A80
      clear A80
      by_cases c9 : t316 = x4_5
      · rw [if_pos c9] at H
        have c9b0 : (t316 == x4_5) = true := beq_iff_eq.mpr c9
        have c9b1 : (t316 != x4_5) = false := bne_eq_false_iff_eq.mpr c9
        clear c9
        simp only [Option.some.injEq, Prod.mk.injEq] at H
        obtain ⟨rfl, rfl⟩ := H
        go_wp2_with (((with_reducible refine z0y (f := 25) rfl ?_); refine z1p (some 30) rfl rfl Tryz.func25 (by kernel_rfl) rfl #[.string a0, .int .i64 x4_5] rfl (by (try simp only [List.map_toArray, List.map_cons, List.map_nil]); rfl) ?_; (with_reducible refine (z0s.calls kj5 a0 x4_5 t316 _ A8.out).mono ?_); rintro e w' ⟨rfl, ⟨nd, rfl⟩⟩; refine ⟨_, rfl, ?_⟩))
        go_ret2
        exact ⟨by rfl, by repeat ((with_reducible first | exact HB.out | apply z0p))⟩
      rw [if_neg c9] at H
      have c9b0 : (t316 == x4_5) = false := beq_eq_false_iff_ne.mpr c9
      have c9b1 : (t316 != x4_5) = true := bne_iff_ne.mpr c9
      have H' := y9.mk H
      clear H
      go_wp2_with (((with_reducible refine z0y (f := 25) rfl ?_); refine z1p (some 30) rfl rfl Tryz.func25 (by kernel_rfl) rfl #[.string a0, .int .i64 x4_5] rfl (by (try simp only [List.map_toArray, List.map_cons, List.map_nil]); rfl) ?_; (with_reducible refine (z0s.calls kj5 a0 x4_5 t316 _ A8.out).mono ?_); rintro e w' ⟨rfl, ⟨nd, rfl⟩⟩; refine ⟨_, rfl, ?_⟩))
      go_loopg [6, 7] kj5 (fun kq v6 v7 w' => ∃ (x6_3 : List Int) (x7_3 : Int), v7 = .int .i64 x7_3 ∧ y9 (z0b.l0 kq a0 t316 x6_3 x7_3 = some (r1, r2)) ∧ y9 (kq ≤ kj5) ∧ y9 (Kd.R (Kd.int .u64) 26 w' w.heap.size (fun _ => True) v6 x6_3) ∧ y9 (Below w.heap.size w w'))
      case atStart => exact ⟨(([] : List Int)), (x4_5), (by rfl), H', ⟨Nat.le_refl _⟩, ⟨by exact Kd.R_nil _ _ _ _ _⟩, ⟨by repeat ((with_reducible first | exact HB.out | apply z0p))⟩⟩
      case round =>
        clear H'
        (try clear c1); (try clear c2); (try clear c2b0); (try clear c2b1); (try clear p2); (try clear c4); (try clear c4b0); (try clear c4b1); (try clear p5); (try clear q5); (try clear hx5); (try clear qi5); (try clear p6); (try clear c7); (try clear c9); (try clear c9b0); (try clear c9b1); (try clear p2); (try clear p5); (try clear p6); (try clear q5)
        obtain ⟨x6_3, x7_3, rfl, HA, HK3, HO_6, HB⟩ := hrel
        cases gk with
        | zero => exact absurd HA.out (by simp [z0b.l0])
        | succ k3 =>
          have H := HA.out
          clear HA
          simp only [z0b.l0] at H
          by_cases c10 : x7_3 < t316
          · rw [if_pos c10] at H
            have c10b0 : decide (x7_3 < t316) = true := decide_eq_true c10
            clear c10
            by_cases c11 : 0 ≤ x7_3
            · rw [if_pos c11] at H
              have c11b0 : decide (0 ≤ x7_3) = true := decide_eq_true c11
              clear c11
              by_cases c12 : x7_3 < (a0.size : Int)
              · rw [if_pos c12] at H
                have c12b0 : decide (x7_3 < (a0.size : Int)) = true := decide_eq_true c12
                clear c12
                replace H := Option.bind_eq_some_iff.mp H
                obtain ⟨t317, A140, H⟩ := H
                have A14 := y9.mk A140
                clear A140
                have H' := y9.mk H
                clear H
                have p13 : 0 ≤ (x7_3 : Int) := of_decide_eq_true (by (with_reducible assumption))
                have q13 : x7_3 < (a0.size : Int) := of_decide_eq_true (by (with_reducible assumption))
                have hx13 := z4f a0 x7_3
                replace p13 := eq_true p13
                replace q13 := eq_true q13
                obtain ⟨Ao15, co15, eo15⟩ := Kd.z1g HO_6.out
                subst eo15
                go_wp2_with (((with_reducible refine z0y (f := 26) rfl ?_); refine z1p (some 44) rfl rfl Tryz.func26 (by kernel_rfl) rfl #[.slice Ao15 x6_3.length co15, .int .u8 (bt a0 x7_3)] rfl (by (try simp only [List.map_toArray, List.map_cons, List.map_nil]); rfl) ?_; (with_reducible refine (z2a.calls k3 _ _ x6_3 (bt a0 x7_3) t317 _ ?side1 ?side2 A14.out).mono ?_); (case side1 => repeat (exact (Kd.z0q HO_6.out).2.2)); (case side2 => exact (Kd.z0q HO_6.out).2.1); rintro e w16 ⟨v318, rfl, ho0, hb⟩; refine ⟨_, rfl, ?_⟩; have n0_ := y9.mk (Kd.z1o (by (with_reducible repeat (fail)); exact HO_6.out) (Kd.z2g ho0) hb); have n1_ := y9.mk (Kd.z1j (Kd.z2f ho0 (Kd.R_lt (by (with_reducible repeat (fail)); exact HO_6.out))) (z0n (by repeat ((with_reducible exact HB.out))))); have n2_ := y9.mk (z0m (by repeat ((with_reducible exact HB.out))) hb); clear HO_6; clear HB; have HO_6 := n0_; have HO319 := n1_; have HB := n2_; clear n0_ n1_ n2_; (try clear hb); (try clear hb2); (try clear hk); (try clear hi); (try clear ho0)))
                go_roundg k3
                case measure => have := HJ2.out; have := HJ5.out; have := HK3.out; omega
                case rel => exact ⟨(t317), (wrap64 (x7_3 + 1)), (by rfl), H', ⟨by have := HJ2.out; have := HJ5.out; have := HK3.out; omega⟩, ⟨by (with_reducible repeat (fail)); exact Kd.z2l HO319.out (fun _ hk => trivial)⟩, ⟨by repeat ((with_reducible exact HB.out))⟩⟩
              rw [if_neg c12] at H
              exact absurd H (by simp)
            rw [if_neg c11] at H
            exact absurd H (by simp)
          rw [if_neg c10] at H
          have c10b0 : decide (x7_3 < t316) = false := decide_eq_false c10
          clear c10
          have HC17 := y9.mk H
          clear H
          go_upto_region 16 with (fail)
          go_cut [54] (fun v54 wc => ∃ (kq : Nat) (x54_16 : Bool), v54 = .bool x54_16 ∧ y9 (z0b.j3 kq a0 t316 x6_3 0 x54_16 = some (r1, r2)) ∧ y9 (kq ≤ k3) ∧ y9 (Kd.R (Kd.int .u64) 26 wc w.heap.size (fun _ => True) u6 x6_3) ∧ y9 (Below w.heap.size w wc))
          case first =>
            have H := HC17.out
            clear HC17
            by_cases c18 : t316 < (a0.size : Int)
            · rw [if_pos c18] at H
              have c18b0 : decide (t316 < (a0.size : Int)) = true := decide_eq_true c18
              clear c18
              (skip)
              by_cases c19 : 0 ≤ t316
              · rw [if_pos c19] at H
                have c19b0 : decide (0 ≤ t316) = true := decide_eq_true c19
                clear c19
                have H' := y9.mk H
                clear H
                have p20 : 0 ≤ (t316 : Int) := of_decide_eq_true (by (with_reducible assumption))
                have q20 : t316 < (a0.size : Int) := of_decide_eq_true (by (with_reducible assumption))
                have hx20 := z4f a0 t316
                replace p20 := eq_true p20
                replace q20 := eq_true q20
                go_wp2
                go_meet
                case rel => exact ⟨_, (((bt a0 t316) == 46)), (by rfl), H', ⟨by have := HJ2.out; have := HJ5.out; have := HK3.out; omega⟩, ⟨by (with_reducible repeat (fail)); exact HO_6.out⟩, ⟨by repeat ((with_reducible exact HB.out))⟩⟩
              rw [if_neg c19] at H
              exact absurd H (by simp)
            rw [if_neg c18] at H
            have c18b0 : decide (t316 < (a0.size : Int)) = false := decide_eq_false c18
            clear c18
            (skip)
            have H' := y9.mk H
            clear H
            go_wp2
            go_meet
            case rel => exact ⟨_, (false), (by rfl), H', ⟨by have := HJ2.out; have := HJ5.out; have := HK3.out; omega⟩, ⟨by (with_reducible repeat (fail)); exact HO_6.out⟩, ⟨by repeat ((with_reducible exact HB.out))⟩⟩
          clear HC17
          (try clear c1); (try clear p1); (try clear q1); (try clear hx1); (try clear c2); (try clear c2b0); (try clear c2b1); (try clear p2); (try clear q2); (try clear hx2); (try clear c4); (try clear c4b0); (try clear c4b1); (try clear p5); (try clear q5); (try clear hx5); (try clear qi5); (try clear p6); (try clear c7); (try clear c9); (try clear c9b0); (try clear c9b1); (try clear c10); (try clear c10b0); (try clear c11); (try clear c11b0); (try clear c12); (try clear c12b0); (try clear p13); (try clear q13); (try clear hx13); (try clear c18); (try clear c18b0); (try clear c19); (try clear c19b0); (try clear p20); (try clear q20); (try clear hx20); (try clear p13); (try clear p2); (try clear p20); (try clear p5); (try clear p6); (try clear q13); (try clear q20); (try clear q5)
          obtain ⟨kq, x54_16, rfl, HA, HJ16, HO_6, HB⟩ := hcut
          cases kq with
          | zero => exact absurd HA.out (by simp [z0b.j3])
          | succ kj16 =>
            have H := HA.out
            clear HA
            simp only [z0b.j3] at H
            have HC21 := y9.mk H
            clear H
            go_upto_if 54 with (fail)
            go_cut [4, 6, 8] (fun v4 v6 v8 wc => ∃ (kq : Nat) (x4_20 : Int) (x6_20 : List Int) (x8_20 : Int), v4 = .int .i64 x4_20 ∧ v8 = .int .i64 x8_20 ∧ y9 (z0b.j5 kq a0 x4_20 x6_20 x8_20 = some (r1, r2)) ∧ y9 (kq ≤ kj16) ∧ y9 (Kd.R (Kd.int .u64) 26 wc w.heap.size (fun _ => True) v6 x6_20) ∧ y9 (Below w.heap.size w wc))
            case first =>
              have H := HC21.out
              clear HC21
              by_cases c22 : x54_16 = true
              · subst c22
                have H1 : ((z0s.f kj16 a0 (wrap64 (t316 + 1))).bind fun t320 => (if t320 = (wrap64 (t316 + 1)) then (some (0, 20)) else (z0b.l1 kj16 a0 t320 x6_3 (wrap64 (t316 + 1)) (wrap64 (t316 + 1))))) = some (r1, r2) := by rw [if_pos rfl] at H; exact H
                clear H
                have H := H1
                clear H1
                replace H := Option.bind_eq_some_iff.mp H
                obtain ⟨t320, A230, H⟩ := H
                have A23 := y9.mk A230
                clear A230
                by_cases c24 : t320 = (wrap64 (t316 + 1))
                · rw [if_pos c24] at H
                  have c24b0 : (t320 == (wrap64 (t316 + 1))) = true := beq_iff_eq.mpr c24
                  have c24b1 : (t320 != (wrap64 (t316 + 1))) = false := bne_eq_false_iff_eq.mpr c24
                  clear c24
                  (skip)
                  simp only [Option.some.injEq, Prod.mk.injEq] at H
                  obtain ⟨rfl, rfl⟩ := H
                  go_wp2_with (((with_reducible refine z0y (f := 25) rfl ?_); refine z1p (some 59) rfl rfl Tryz.func25 (by kernel_rfl) rfl #[.string a0, .int .i64 (wrap64 (t316 + 1))] rfl (by (try simp only [List.map_toArray, List.map_cons, List.map_nil]); rfl) ?_; (with_reducible refine (z0s.calls kj16 a0 (wrap64 (t316 + 1)) t320 _ A23.out).mono ?_); rintro e w' ⟨rfl, ⟨nd, rfl⟩⟩; refine ⟨_, rfl, ?_⟩))
                  go_ret2
                  exact ⟨by rfl, by repeat ((with_reducible first | exact HB.out | apply z0p))⟩
                rw [if_neg c24] at H
                have c24b0 : (t320 == (wrap64 (t316 + 1))) = false := beq_eq_false_iff_ne.mpr c24
                have c24b1 : (t320 != (wrap64 (t316 + 1))) = true := bne_iff_ne.mpr c24
                (skip)
                have H' := y9.mk H
                clear H
                go_wp2_with (((with_reducible refine z0y (f := 25) rfl ?_); refine z1p (some 59) rfl rfl Tryz.func25 (by kernel_rfl) rfl #[.string a0, .int .i64 (wrap64 (t316 + 1))] rfl (by (try simp only [List.map_toArray, List.map_cons, List.map_nil]); rfl) ?_; (with_reducible refine (z0s.calls kj16 a0 (wrap64 (t316 + 1)) t320 _ A23.out).mono ?_); rintro e w' ⟨rfl, ⟨nd, rfl⟩⟩; refine ⟨_, rfl, ?_⟩))
                go_loopg [6, 10] kj16 (fun kq v6 v10 w' => ∃ (x6_5 : List Int) (x10_5 : Int), v10 = .int .i64 x10_5 ∧ y9 (z0b.l1 kq a0 t320 x6_5 (wrap64 (t316 + 1)) x10_5 = some (r1, r2)) ∧ y9 (kq ≤ kj16) ∧ y9 (Kd.R (Kd.int .u64) 26 w' w.heap.size (fun _ => True) v6 x6_5) ∧ y9 (Below w.heap.size w w'))
                case atStart => exact ⟨(x6_3), (wrap64 (t316 + 1)), (by rfl), H', ⟨Nat.le_refl _⟩, ⟨by (with_reducible repeat (apply Kd.z4t)); exact HO_6.out⟩, ⟨by repeat ((with_reducible first | exact HB.out | apply z0p))⟩⟩
                case round =>
                  clear H'
                  (try clear c1); (try clear p1); (try clear q1); (try clear hx1); (try clear c2); (try clear c2b0); (try clear c2b1); (try clear p2); (try clear q2); (try clear hx2); (try clear c4); (try clear c4b0); (try clear c4b1); (try clear p5); (try clear q5); (try clear hx5); (try clear qi5); (try clear p6); (try clear c7); (try clear c9); (try clear c9b0); (try clear c9b1); (try clear c10); (try clear c10b0); (try clear c11); (try clear c11b0); (try clear c12); (try clear c12b0); (try clear p13); (try clear q13); (try clear hx13); (try clear c18); (try clear c18b0); (try clear c19); (try clear c19b0); (try clear p20); (try clear q20); (try clear hx20); (try clear c22); (try clear c24); (try clear c24b0); (try clear c24b1); (try clear p1); (try clear p13); (try clear p2); (try clear p20); (try clear p5); (try clear p6); (try clear q1); (try clear q13); (try clear q2); (try clear q20); (try clear q5)
                  obtain ⟨x6_5, x10_5, rfl, HA, HK5, HO_6, HB⟩ := hrel
                  cases gk with
                  | zero => exact absurd HA.out (by simp [z0b.l1])
                  | succ k5 =>
                    have H := HA.out
                    clear HA
                    simp only [z0b.l1] at H
                    by_cases c25 : x10_5 < t320
                    · rw [if_pos c25] at H
                      have c25b0 : decide (x10_5 < t320) = true := decide_eq_true c25
                      clear c25
                      by_cases c26 : 0 ≤ x10_5
                      · rw [if_pos c26] at H
                        have c26b0 : decide (0 ≤ x10_5) = true := decide_eq_true c26
                        clear c26
                        by_cases c27 : x10_5 < (a0.size : Int)
                        · rw [if_pos c27] at H
                          have c27b0 : decide (x10_5 < (a0.size : Int)) = true := decide_eq_true c27
                          clear c27
                          replace H := Option.bind_eq_some_iff.mp H
                          obtain ⟨t321, A290, H⟩ := H
                          have A29 := y9.mk A290
                          clear A290
                          have H' := y9.mk H
                          clear H
                          have p28 : 0 ≤ (x10_5 : Int) := of_decide_eq_true (by (with_reducible assumption))
                          have q28 : x10_5 < (a0.size : Int) := of_decide_eq_true (by (with_reducible assumption))
                          have hx28 := z4f a0 x10_5
                          replace p28 := eq_true p28
                          replace q28 := eq_true q28
                          obtain ⟨Ao30, co30, eo30⟩ := Kd.z1g HO_6.out
                          subst eo30
                          go_wp2_with (((with_reducible refine z0y (f := 26) rfl ?_); refine z1p (some 73) rfl rfl Tryz.func26 (by kernel_rfl) rfl #[.slice Ao30 x6_5.length co30, .int .u8 (bt a0 x10_5)] rfl (by (try simp only [List.map_toArray, List.map_cons, List.map_nil]); rfl) ?_; (with_reducible refine (z2a.calls k5 _ _ x6_5 (bt a0 x10_5) t321 _ ?side1 ?side2 A29.out).mono ?_); (case side1 => repeat (exact (Kd.z0q HO_6.out).2.2)); (case side2 => exact (Kd.z0q HO_6.out).2.1); rintro e w31 ⟨v322, rfl, ho0, hb⟩; refine ⟨_, rfl, ?_⟩; have n0_ := y9.mk (Kd.z1o (by (with_reducible repeat (fail)); exact HO_6.out) (Kd.z2g ho0) hb); have n1_ := y9.mk (Kd.z1j (Kd.z2f ho0 (Kd.R_lt (by (with_reducible repeat (fail)); exact HO_6.out))) (z0n (by repeat ((with_reducible exact HB.out))))); have n2_ := y9.mk (z0m (by repeat ((with_reducible exact HB.out))) hb); clear HO_6; clear HB; have HO_6 := n0_; have HO323 := n1_; have HB := n2_; clear n0_ n1_ n2_; (try clear hb); (try clear hb2); (try clear hk); (try clear hi); (try clear ho0)))
                          go_roundg k5
                          case measure => have := HJ2.out; have := HJ5.out; have := HK3.out; have := HJ16.out; have := HK5.out; omega
                          case rel => exact ⟨(t321), (wrap64 (x10_5 + 1)), (by rfl), H', ⟨by have := HJ2.out; have := HJ5.out; have := HK3.out; have := HJ16.out; have := HK5.out; omega⟩, ⟨by (with_reducible repeat (fail)); exact Kd.z2l HO323.out (fun _ hk => trivial)⟩, ⟨by repeat ((with_reducible exact HB.out))⟩⟩
                        rw [if_neg c27] at H
                        exact absurd H (by simp)
                      rw [if_neg c26] at H
                      exact absurd H (by simp)
                    rw [if_neg c25] at H
                    have c25b0 : decide (x10_5 < t320) = false := decide_eq_false c25
                    clear c25
                    have H' := y9.mk H
                    clear H
                    go_wp2
                    go_meet
                    case rel => exact ⟨_, (t320), (x6_5), (wrap64 (t320 - (wrap64 (t316 + 1)))), (by rfl), (by rfl), H', ⟨by have := HJ2.out; have := HJ5.out; have := HK3.out; have := HJ16.out; have := HK5.out; omega⟩, ⟨by (with_reducible repeat (fail)); exact HO_6.out⟩, ⟨by repeat ((with_reducible exact HB.out))⟩⟩
              replace c22 := Bool.eq_false_iff.mpr c22
              subst c22
              have H1 : (z0b.j5 kj16 a0 t316 x6_3 0) = some (r1, r2) := by rw [if_neg (show ¬ (false = true) by decide)] at H; exact H
              clear H
              have H := H1
              clear H1
              have H' := y9.mk H
              clear H
              go_wp2
              go_meet
              case rel => exact ⟨_, (t316), (x6_3), (0), (by rfl), (by rfl), H', ⟨by have := HJ2.out; have := HJ5.out; have := HK3.out; have := HJ16.out; omega⟩, ⟨by (with_reducible repeat (fail)); exact HO_6.out⟩, ⟨by repeat ((with_reducible exact HB.out))⟩⟩
            clear HC21
            (try clear c1); (try clear p1); (try clear q1); (try clear hx1); (try clear c2); (try clear c2b0); (try clear c2b1); (try clear p2); (try clear q2); (try clear hx2); (try clear c4); (try clear c4b0); (try clear c4b1); (try clear p5); (try clear q5); (try clear hx5); (try clear qi5); (try clear p6); (try clear c7); (try clear c9); (try clear c9b0); (try clear c9b1); (try clear c10); (try clear c10b0); (try clear c11); (try clear c11b0); (try clear c12); (try clear c12b0); (try clear p13); (try clear q13); (try clear hx13); (try clear c18); (try clear c18b0); (try clear c19); (try clear c19b0); (try clear p20); (try clear q20); (try clear hx20); (try clear c22); (try clear c24); (try clear c24b0); (try clear c24b1); (try clear c25); (try clear c25b0); (try clear c26); (try clear c26b0); (try clear c27); (try clear c27b0); (try clear p28); (try clear q28); (try clear hx28); (try clear p1); (try clear p13); (try clear p2); (try clear p20); (try clear p28); (try clear p5); (try clear p6); (try clear q1); (try clear q13); (try clear q2); (try clear q20); (try clear q28); (try clear q5)
            obtain ⟨kq, x4_20, x6_20, x8_20, rfl, rfl, HA, HJ20, HO_6, HB⟩ := hcut
            cases kq with
            | zero => exact absurd HA.out (by simp [z0b.j5])
            | succ kj20 =>
              have H := HA.out
              clear HA
              simp only [z0b.j5] at H
              replace H := Option.bind_eq_some_iff.mp H
              obtain ⟨⟨t324, t325⟩, A320, H⟩ := H
              have A32 := y9.mk A320
              clear A320
              by_cases c33 : t325 = (a0.size : Int)
              · rw [if_pos c33] at H
                have c33b0 : (t325 == (a0.size : Int)) = true := beq_iff_eq.mpr c33
                have c33b1 : (t325 != (a0.size : Int)) = false := bne_eq_false_iff_eq.mpr c33
                clear c33
                by_cases c34 : 0 < (a0.size : Int)
                · rw [if_pos c34] at H
                  have c34b0 : decide (0 < (a0.size : Int)) = true := decide_eq_true c34
                  have c34b1 : decide (0 < a0.size) = true := decide_eq_true (by omega)
                  clear c34
                  replace H := Option.bind_eq_some_iff.mp H
                  obtain ⟨⟨t326, t327⟩, A360, H⟩ := H
                  have A36 := y9.mk A360
                  clear A360
                  simp only [Option.some.injEq, Prod.mk.injEq] at H
                  obtain ⟨rfl, rfl⟩ := H
                  go_wp2_with (first | ((with_reducible refine z0y (f := 27) rfl ?_); refine z1p (some 80) rfl rfl Tryz.func27 (by kernel_rfl) rfl #[.string a0, .int .i64 x4_20] rfl (by (try simp only [List.map_toArray, List.map_cons, List.map_nil]); rfl) ?_; (with_reducible refine (z0c.calls kj20 a0 x4_20 t324 t325 _ A32.out).mono ?_); rintro e w' ⟨rfl, ⟨nd, rfl⟩⟩; refine ⟨_, rfl, ?_⟩; have p35 : 0 ≤ (0 : Int) := (by omega); have q35 : 0 < a0.size := (by have : (0 : Int) < (a0.size : Int) := of_decide_eq_true (by (with_reducible assumption)); omega); have hx35 : ∀ h : 0 < a0.size, ((a0[0]'h).toNat : Int) = bt a0 0 := z4f a0 0; clear p35; have qi35 : (0 < (a0.size : Int)) = True := eq_true (of_decide_eq_true (by (with_reducible assumption))); replace q35 := eq_true q35; obtain ⟨Ao37, co37, eo37⟩ := Kd.z1g HO_6.out; subst eo37) | ((with_reducible refine z0y (f := 28) rfl ?_); refine z1p (some 94) rfl rfl Tryz.func28 (by kernel_rfl) rfl #[.slice Ao37 x6_20.length co37, .int .i64 (wrap64 (t324 - x8_20)), .bool ((bt a0 0) == 45)] rfl (by (try simp only [List.map_toArray, List.map_cons, List.map_nil]); rfl) ?_; (with_reducible refine (z0v.calls kj20 _ _ x6_20 (wrap64 (t324 - x8_20)) ((bt a0 0) == 45) t326 t327 _ ?side1 ?side2 A36.out).mono ?_); (case side1 => repeat (exact (Kd.z0q HO_6.out).2.2)); (case side2 => exact (Kd.z0q HO_6.out).2.1); rintro e w38 ⟨rfl, hb⟩; refine ⟨_, rfl, ?_⟩; have n0_ := y9.mk (Kd.z4z (by (with_reducible repeat (apply Kd.z4t)); exact HO_6.out) hb); have n1_ := y9.mk (z0m (by repeat ((with_reducible first | exact HB.out | apply z0p))) hb); clear HO_6; clear HB; have HO_6 := n0_; have HB := n1_; clear n0_ n1_; (try clear hb); (try clear hb2); (try clear hk); (try clear hi)))
                  go_ret2
                  exact ⟨by rfl, by repeat ((with_reducible exact HB.out))⟩
                rw [if_neg c34] at H
                exact absurd H (by simp)
              rw [if_neg c33] at H
              have c33b0 : (t325 == (a0.size : Int)) = false := beq_eq_false_iff_ne.mpr c33
              have c33b1 : (t325 != (a0.size : Int)) = true := bne_iff_ne.mpr c33
              simp only [Option.some.injEq, Prod.mk.injEq] at H
              obtain ⟨rfl, rfl⟩ := H
              go_wp2_with (((with_reducible refine z0y (f := 27) rfl ?_); refine z1p (some 80) rfl rfl Tryz.func27 (by kernel_rfl) rfl #[.string a0, .int .i64 x4_20] rfl (by (try simp only [List.map_toArray, List.map_cons, List.map_nil]); rfl) ?_; (with_reducible refine (z0c.calls kj20 a0 x4_20 t324 t325 _ A32.out).mono ?_); rintro e w' ⟨rfl, ⟨nd, rfl⟩⟩; refine ⟨_, rfl, ?_⟩))
              go_ret2
              exact ⟨by rfl, by repeat ((with_reducible first | exact HB.out | apply z0p))⟩
end Go.Proofs.YtjpiplplohapnaaGreatDoor.PText
namespace Go.Proofs.YtjpiplplohapnaaGreatDoor.Big
open Go.RowKit Go.Proofs.YtjpiplplohapnaaGreatDoorW.PrintWords Go.Proofs.YtjpiplplohapnaaGreatDoorW.PrintLast Go.Proofs.YtjpiplplohapnaaGreatDoorW.PrintMore
open Go.Proofs.YtjpiplplohapnaaGreatDoor.PText Go.Proofs.YtjpiplplohapnaaGreatDoor.Num
theorem size_list (s : ByteArray) : s.data.toList.length = s.size := by simp
theorem z7h (s : ByteArray) (j : Nat) (h : j < s.size) : bt s (j : Int) = ((s[j]'h).toNat : Int) := by
  unfold bt
  rw [dif_pos (by simpa using h)]
  simp
theorem drop_cons (s : ByteArray) (j : Nat) (h : j < s.size) : s.data.toList.drop j = s[j]'h :: s.data.toList.drop (j + 1) := by
  rw [List.drop_eq_getElem_cons (by simpa using h)]; rfl
end Go.Proofs.YtjpiplplohapnaaGreatDoor.Big
namespace Go.Proofs.YtjpiplplohapnaaGreatDoor.Big
open Go.RowKit Go.Proofs.YtjpiplplohapnaaGreatDoorW.PrintWords Go.Proofs.YtjpiplplohapnaaGreatDoorW.PrintLast Go.Proofs.YtjpiplplohapnaaGreatDoorW.PrintMore
open Go.Proofs.YtjpiplplohapnaaGreatDoor.PText Nr Us Rf
theorem z5l (s : ByteArray) (hs : s.size ≤ 1000) : ∀ (n i : Nat), i + n = s.size → Ev (fun k => z0s.f k s (i : Int)) ((i + dl (s.data.toList.drop i) : Nat) : Int)
  | 0, i, h => by
    have hd : s.data.toList.drop i = [] := List.drop_of_length_le (by rw [size_list]; omega)
    rw [hd]
    refine Ev.step (g := fun k => z0s.l0 k s (i : Int)) (f := fun _ => some ((i : Int))) (fun k => ?_) (Ev.now _)
    rw [z0s.l0, if_neg (by omega)]
  | n + 1, i, h => by
    have hi : i < s.size := by omega
    have hb := z7h s i hi
    have hd := drop_cons s i hi
    have ih : Ev (fun k => z0s.l0 k s ((i + 1 : Nat) : Int)) ((i + 1 + dl (s.data.toList.drop (i + 1)) : Nat) : Int) := z5l s hs n (i + 1) (by omega)
    have hw : wrap64 ((i : Int) + 1) = ((i + 1 : Nat) : Int) := by rw [w64 (by omega) (by omega)]; rfl
    rw [hd, dl]
    by_cases h1 : 48 ≤ (s[i]'hi).toNat ∧ (s[i]'hi).toNat ≤ 57
    · rw [if_pos h1]
      refine Ev.step (g := fun k => z0s.l0 k s (i : Int)) (f := fun k => z0s.l0 k s ((i + 1 : Nat) : Int)) (fun k => ?_) ?_
      · rw [z0s.l0, if_pos (by omega), if_pos (by omega), hb, if_pos (by omega), if_pos (by omega), hw]
      rw [show i + (dl (s.data.toList.drop (i + 1)) + 1) = i + 1 + dl (s.data.toList.drop (i + 1)) by omega]
      exact ih
    rw [if_neg h1, Nat.add_zero]
    refine Ev.step (g := fun k => z0s.l0 k s (i : Int)) (f := fun _ => some ((i : Int))) (fun k => ?_) (Ev.now _)
    rw [z0s.l0, if_pos (by omega), if_pos (by omega), hb]
    by_cases h2 : ((s[i]'hi).toNat : Int) ≥ 48
    · rw [if_pos h2, if_neg (by omega)]
    rw [if_neg h2]
theorem parse_l0 (s : ByteArray) (hs : s.size ≤ 400) (e : Nat) (he : e ≤ s.size) (r : Int × Int) : ∀ (n i v : Nat), i + n = e → (∀ j (h : j < s.size), i ≤ j → j < e → Num.isD (s[j]'h)) → v < 10 ^ i →
    Ev (fun k => if (e : Int) < (s.size : Int) then (if 0 ≤ (e : Int) then (z0b.j3 k s e (dg (Num.dv v ((s.data.toList.drop i).take n))) 0 ((bt s e) == 46)) else (none)) else (z0b.j3 k s e (dg (Num.dv v ((s.data.toList.drop i).take n))) 0 false)) r →
    Ev (fun k => z0b.l0 k s (e : Int) (dg v) (i : Int)) r
  | 0, i, v, h, _, _, hr => by
    have hne : ¬ ((i : Int) < (e : Int)) := by clear hr; omega
    rw [List.take_zero, Num.z3q] at hr
    refine Ev.step (fun k => ?_) hr
    clear hr
    rw [z0b.l0, if_neg hne]
  | n + 1, i, v, h, hd, hv, hr => by
    have HR := Lib.hid hr
    clear hr
    have hi : i < s.size := by omega
    have hb := z7h s i hi
    have hdc := drop_cons s i hi
    have hc : 48 ≤ (s[i]'hi).toNat ∧ (s[i]'hi).toNat ≤ 57 := hd i hi (Nat.le_refl _) (by omega)
    have hlv := z7f (Nat.le_of_lt hv)
    have htop : 10000 ≤ top := by decide
    have hlm : ln v + 3 ≤ top := by omega
    have hv2 : 10 * v + ((s[i]'hi).toNat - 48) < 10 ^ (i + 1) := by rw [Nat.pow_succ]; omega
    have q1 : (i : Int) < (e : Int) := by omega
    have q2 : (0 : Int) ≤ (i : Int) := by omega
    have q3 : (i : Int) < (s.size : Int) := by omega
    have q4 : i + 1 + n = e := by omega
    have q5 : ∀ j, i + 1 ≤ j → i ≤ j := fun j h => by omega
    have hw : wrap64 ((i : Int) + 1) = ((i + 1 : Nat) : Int) := by rw [w64 (by omega) (by omega)]; rfl
    have hm := more_ev v (s[i]'hi).toNat hc.1 hc.2 hlm
    have ih := parse_l0 s hs e he r n (i + 1) (10 * v + ((s[i]'hi).toNat - 48)) q4 (fun j h1 h2 h3 => hd j h1 (q5 j h2) h3) hv2 (by
      have hr := HR.out
      rw [hdc, List.take_succ_cons, Num.z2u] at hr
      exact hr)
    refine Ev.step (f := fun k => (z2a.f k (dg v) ((s[i]'hi).toNat : Int)).bind fun t => z0b.l0 k s (e : Int) t ((i + 1 : Nat) : Int)) (fun k => ?_) (Ev.bind hm ih)
    rw [z0b.l0, if_pos q1, if_pos q2, if_pos q3, hb, hw]
theorem parse_l1 (s : ByteArray) (hs : s.size ≤ 400) (e b : Nat) (he : e ≤ s.size) (hb0 : b ≤ e) (r : Int × Int) : ∀ (n i v : Nat), i + n = e → (∀ j (h : j < s.size), i ≤ j → j < e → Num.isD (s[j]'h)) → v < 10 ^ i →
    Ev (fun k => z0b.j5 k s (e : Int) (dg (Num.dv v ((s.data.toList.drop i).take n))) ((e - b : Nat) : Int)) r →
    Ev (fun k => z0b.l1 k s (e : Int) (dg v) (b : Int) (i : Int)) r
  | 0, i, v, h, _, _, hr => by
    have hne : ¬ ((i : Int) < (e : Int)) := by clear hr; omega
    have hw : wrap64 ((e : Int) - (b : Int)) = ((e - b : Nat) : Int) := by clear hr; rw [w64 (by omega) (by omega)]; omega
    rw [List.take_zero, Num.z3q] at hr
    refine Ev.step (fun k => ?_) hr
    clear hr
    rw [z0b.l1, if_neg hne, hw]
  | n + 1, i, v, h, hd, hv, hr => by
    have HR := Lib.hid hr
    clear hr
    have hi : i < s.size := by omega
    have hb := z7h s i hi
    have hdc := drop_cons s i hi
    have hc : 48 ≤ (s[i]'hi).toNat ∧ (s[i]'hi).toNat ≤ 57 := hd i hi (Nat.le_refl _) (by omega)
    have hlv := z7f (Nat.le_of_lt hv)
    have htop : 10000 ≤ top := by decide
    have hlm : ln v + 3 ≤ top := by omega
    have hv2 : 10 * v + ((s[i]'hi).toNat - 48) < 10 ^ (i + 1) := by rw [Nat.pow_succ]; omega
    have q1 : (i : Int) < (e : Int) := by omega
    have q2 : (0 : Int) ≤ (i : Int) := by omega
    have q3 : (i : Int) < (s.size : Int) := by omega
    have q4 : i + 1 + n = e := by omega
    have q5 : ∀ j, i + 1 ≤ j → i ≤ j := fun j h => by omega
    have hw : wrap64 ((i : Int) + 1) = ((i + 1 : Nat) : Int) := by rw [w64 (by omega) (by omega)]; rfl
    have hm := more_ev v (s[i]'hi).toNat hc.1 hc.2 hlm
    have ih := parse_l1 s hs e b he hb0 r n (i + 1) (10 * v + ((s[i]'hi).toNat - 48)) q4 (fun j h1 h2 h3 => hd j h1 (q5 j h2) h3) hv2 (by
      have hr := HR.out
      rw [hdc, List.take_succ_cons, Num.z2u] at hr
      exact hr)
    refine Ev.step (f := fun k => (z2a.f k (dg v) ((s[i]'hi).toNat : Int)).bind fun t => z0b.l1 k s (e : Int) t (b : Int) ((i + 1 : Nat) : Int)) (fun k => ?_) (Ev.bind hm ih)
    rw [z0b.l1, if_pos q1, if_pos q2, if_pos q3, hb, hw]
end Go.Proofs.YtjpiplplohapnaaGreatDoor.Big
namespace Go.Proofs.YtjpiplplohapnaaGreatDoor
open Go.RowKit Go.Proofs.YtjpiplplohapnaaGreatDoorW.PrintWords
namespace Ah
end Ah
open Ah
theorem and1_bits (x : Nat) (hx : x < 18446744073709551616) : Go.bits .and .u64 (x : Int) 1 = ((x % 2 : Nat) : Int) := by
  have := Go.u64_and_nat x 1 hx (by omega)
  rw [show ((1 : Nat) : Int) = 1 from rfl] at this
  rw [this]
  exact congrArg _ (Nat.and_two_pow_sub_one_eq_mod x 1)
theorem or1_nat (h y : Nat) (hy : y < 2) : h ||| y = if y = 1 then h / 2 * 2 + 1 else h := by
  by_cases h1 : y = 1
  · subst h1
    rw [if_pos rfl]
    have e : h = h / 2 * 2 + h % 2 := by omega
    have e2 : h / 2 * 2 ||| h % 2 = h / 2 * 2 + h % 2 := Go.nat_join1 _ _ (by omega) (by omega)
    rcases Nat.mod_two_eq_zero_or_one h with h0 | h0
    · rw [h0] at e
      conv => lhs; rw [e]
      exact Go.nat_join1 _ _ (by omega) (by omega)
    rw [h0] at e e2
    conv => lhs; rw [e, ← e2, Nat.or_assoc]
    rw [show (1 ||| 1 : Nat) = 1 from rfl]
    exact Go.nat_join1 _ _ (by omega) (by omega)
  rw [if_neg h1, show y = 0 by omega, Nat.or_zero]
end Go.Proofs.YtjpiplplohapnaaGreatDoor
namespace Go.Proofs.YtjpiplplohapnaaGreatDoor
open Go.RowKit Go.Proofs.YtjpiplplohapnaaGreatDoorW.PrintWords Nr Us
theorem or_one (v : Nat) (hv : v < 18446744073709551616) : Go.bits .or .u64 (v : Int) 1 = ((v / 2 * 2 + 1 : Nat) : Int) := by
  have := Go.u64_or_nat v 1 hv (by omega)
  rw [show ((1 : Nat) : Int) = 1 from rfl] at this
  rw [this, or1_nat _ _ (by decide), if_pos rfl]
theorem or_zero64 (v : Nat) (hv : v < 18446744073709551616) : Go.bits .or .u64 (v : Int) 0 = (v : Int) := by
  have := Go.u64_or_nat v 0 hv (by omega)
  rw [show ((0 : Nat) : Int) = 0 from rfl, Nat.or_zero] at this
  exact this
theorem and63 (s : Nat) (hs : s < 64) : Go.bits .and .i64 (s : Int) 63 = (s : Int) := by
  have key : ∀ s : Fin 64, Go.bits .and .i64 (s.val : Int) 63 = (s.val : Int) := by decide +kernel
  exact key ⟨s, hs⟩
theorem z8w : ∀ (f x : Nat), x < 2 ^ f → Lib.bitLenAux f x = bln x
  | 0, x, h => by
    have : x = 0 := by simpa using h
    subst this; rfl
  | f + 1, x, h => by
    rw [Lib.bitLenAux]
    by_cases h0 : x = 0
    · subst h0; rfl
    rw [if_neg h0, z8w f (x / 2) (by rw [Nat.pow_succ] at h; omega)]
    unfold bln
    rw [if_neg h0]
    by_cases h1 : x / 2 = 0
    · rw [if_pos h1]
      have : x = 1 := by omega
      subst this; rfl
    rw [if_neg h1, Nat.log2_def x, if_pos (by omega)]
    omega
theorem bitLen_eq (x : Nat) (h : x < 18446744073709551616) : Lib.bitLen x = bln x := z8w 64 x (by have : (2 : Nat) ^ 64 = 18446744073709551616 := by decide
                                                                                                  omega)
theorem log2_f (p : Int) (h1 : -100000 < p) (h2 : p < 100000) : PText.z2s.f p = some (lp p) := by
  unfold PText.z2s.f lp
  rw [show wrap64 (p * 108853) = p * 108853 by unfold wrap64; omega]
theorem lp_range (p : Int) (h1 : -400 ≤ p) (h2 : p ≤ 400) : -1400 ≤ lp p ∧ lp p ≤ 1400 := by unfold lp; omega
theorem unmin_f : PText.z4h.f 9007199254740992 = some 36028797018963966 := by decide +kernel
theorem round_f (u : Nat) (h : u < 18446744073709551610) : PText.z1v.f (u : Int) = some ((rnd u : Nat) : Int) := by
  unfold PText.z1v.f rnd
  have e1 : (u : Int) / 4 = ((u / 4 : Nat) : Int) := by omega
  rw [e1, and1_bits _ (by omega), IntWalk.u64_in ((u : Int) + 1) (by omega), IntWalk.u64_in _ (by omega)]
  congr 1
theorem or_sign (v : Nat) (hv : v < 9223372036854775808) : Go.bits .or .u64 9223372036854775808 (v : Int) = ((9223372036854775808 + v : Nat) : Int) := by
  have := Go.u64_or_nat 9223372036854775808 v (by omega) (by omega)
  rw [show ((9223372036854775808 : Nat) : Int) = 9223372036854775808 from rfl] at this
  rw [this]
  congr 1
  have h := Nat.two_pow_add_eq_or_of_lt (i := 63) (b := v) (by have : (2 : Nat) ^ 63 = 9223372036854775808 := by decide
                                                               omega) 1
  rw [Nat.mul_one, show (2 : Nat) ^ 63 = 9223372036854775808 by decide] at h
  exact h.symm
theorem zero_or (v : Nat) (hv : v < 18446744073709551616) : Go.bits .or .u64 0 (v : Int) = (v : Int) := by
  have := Go.u64_or_nat 0 v (by omega) hv
  rw [show ((0 : Nat) : Int) = 0 from rfl, Nat.zero_or] at this
  exact this
def sgB (ng : Bool) : Nat := if ng then 9223372036854775808 else 0
theorem or_sgB (ng : Bool) (v : Nat) (hv : v < 9223372036854775808) : Go.bits .or .u64 (sgB ng : Int) (v : Int) = ((sgB ng + v : Nat) : Int) := by
  cases ng
  · unfold sgB
    rw [if_neg (by decide)]
    have := zero_or v (by omega)
    rw [Nat.zero_add]
    exact this
  unfold sgB
  rw [if_pos rfl]
  exact or_sign v hv
theorem and52 (m : Nat) (hm : m < 18446744073709551616) : Go.bits .and .u64 (m : Int) 4503599627370496 = ((m / 4503599627370496 % 2 * 4503599627370496 : Nat) : Int) := by
  have := Go.u64_and_nat m 4503599627370496 hm (by omega)
  rw [show ((4503599627370496 : Nat) : Int) = 4503599627370496 from rfl] at this
  rw [this, Go.nat_bit52]
theorem andNot52 (m : Nat) (hm : m < 18446744073709551616) (h : m / 4503599627370496 % 2 = 1) : Go.bits .andNot .u64 (m : Int) 4503599627370496 = ((m - 4503599627370496 : Nat) : Int) := by
  have := Go.u64_andNot_nat m 4503599627370496 hm (by omega)
  rw [show ((4503599627370496 : Nat) : Int) = 4503599627370496 from rfl] at this
  rw [this]
  refine congrArg Nat.cast ?_
  obtain ⟨a, ha⟩ : ∃ a, a = m / 9007199254740992 * 9007199254740992 := ⟨_, rfl⟩
  obtain ⟨b, hb⟩ : ∃ b, b = m % 4503599627370496 := ⟨_, rfl⟩
  have hm2 : m = a ||| (4503599627370496 ||| b) := by
    rw [Go.nat_join52 4503599627370496 b (by decide) (by omega), Go.nat_join53 a (4503599627370496 + b) (by omega) (by omega)]
    omega
  have hx : m - 4503599627370496 = a ||| b := by
    rw [Go.nat_join53 a b (by omega) (by omega)]
    omega
  rw [hx]
  apply Nat.eq_of_testBit_eq
  intro i
  rw [hm2, Nat.testBit_and, Nat.testBit_or, Nat.testBit_or, Nat.testBit_or]
  have hlt : ∀ j, 64 ≤ j → a.testBit j = false ∧ b.testBit j = false := by
    intro j hj
    have e : (2 : Nat) ^ 64 = 18446744073709551616 := by decide
    have h1 : 2 ^ 64 ≤ 2 ^ j := Nat.pow_le_pow_right (by decide) hj
    exact ⟨Nat.testBit_lt_two_pow (by omega), Nat.testBit_lt_two_pow (by omega)⟩
  by_cases h64 : i < 64
  · by_cases h52 : i = 52
    · subst h52
      have e1 : a.testBit 52 = false := by
        rw [Nat.testBit_eq_decide_div_mod_eq, show (2 : Nat) ^ 52 = 4503599627370496 by decide]
        rw [decide_eq_false]; omega
      have e2 : b.testBit 52 = false := by
        rw [Nat.testBit_eq_decide_div_mod_eq, show (2 : Nat) ^ 52 = 4503599627370496 by decide]
        rw [decide_eq_false]; omega
      rw [e1, e2]
      decide
    have key : ∀ i : Fin 64, i.val ≠ 52 → Nat.testBit (18446744073709551615 - 4503599627370496) i.val = true ∧ Nat.testBit 4503599627370496 i.val = false := by decide +kernel
    obtain ⟨k1, k2⟩ := key ⟨i, h64⟩ h52
    rw [k1, k2]
    simp
  obtain ⟨e1, e2⟩ := hlt i (by omega)
  rw [e1, e2]
  have : Nat.testBit (18446744073709551615 - 4503599627370496) i = false := by
    have e : (2 : Nat) ^ 64 = 18446744073709551616 := by decide
    have h1 : 2 ^ 64 ≤ 2 ^ i := Nat.pow_le_pow_right (by decide) (by omega)
    exact Nat.testBit_lt_two_pow (by omega)
  rw [this]; simp
theorem andSign (m : Nat) (hm : m < 18446744073709551616) : Go.bits .and .u64 (m : Int) 9223372036854775808 = ((m / 9223372036854775808 % 2 * 9223372036854775808 : Nat) : Int) := by
  have := Go.u64_and_nat m 9223372036854775808 hm (by omega)
  rw [show ((9223372036854775808 : Nat) : Int) = 9223372036854775808 from rfl] at this
  rw [this, Go.nat_bit63]
theorem sgB_andSign (ng : Bool) (v : Nat) (hv : v < 9223372036854775808) : Go.bits .and .u64 ((sgB ng + v : Nat) : Int) 9223372036854775808 = (sgB ng : Int) := by
  rw [andSign _ (by cases ng <;> unfold sgB <;> simp <;> omega)]
  refine congrArg Nat.cast ?_
  cases ng
  · unfold sgB; rw [if_neg (by decide)]; omega
  unfold sgB; rw [if_pos rfl]; omega
theorem z4i (ng : Bool) (r : Nat) : Ieee.double.word ng r = sgB ng + r := by
  rw [z6x]; rfl
end Go.Proofs.YtjpiplplohapnaaGreatDoor
