/- Plain: the document's Int (2.4), as printed, tells what the numeral tells. -/
import Derived.Test.YtjpiplplohapnaaGreatDoorBigB
import Derived.Test.YtjpiplplohapnaaGreatDoorNum
import Derived.Test.YtjpiplplohapnaaGreatDoorRInt
namespace Go.Proofs.YtjpiplplohapnaaGreatDoor.Big
open Go.RowKit Go.Proofs.YtjpiplplohapnaaGreatDoorW.PrintWords Go.Proofs.YtjpiplplohapnaaGreatDoorW.PrintLast Go.Proofs.YtjpiplplohapnaaGreatDoorW.PrintMore
open Go.Proofs.YtjpiplplohapnaaGreatDoor.PText Go.Proofs.YtjpiplplohapnaaGreatDoor.Num

theorem size_list (s : ByteArray) : s.data.toList.length = s.size := by simp

theorem bt_nat (s : ByteArray) (j : Nat) (h : j < s.size) : bt s (j : Int) = ((s[j]'h).toNat : Int) := by
  unfold bt
  rw [dif_pos (by simpa using h)]
  simp

theorem drop_cons (s : ByteArray) (j : Nat) (h : j < s.size) : s.data.toList.drop j = s[j]'h :: s.data.toList.drop (j + 1) := by
  rw [List.drop_eq_getElem_cons (by simpa using h)]; rfl

/-- What is told of the digits' number, by the sign. -/
def finI (i : Nat) (v : Nat) : Int × Bool :=
  if i = 1 then (if v > 9223372036854775808 then (0, false) else (-(v : Int), true)) else (if v ≥ 9223372036854775808 then (0, false) else ((v : Int), true))

theorem int_l1 (i v : Nat) (_hi : i ≤ 1) (hv : v < 18446744073709551616) (h1 : 1 ≤ v ∨ i = 0) : ∀ j : Nat, j ≤ ln v →
    Ev (fun k => tenorref2_Int.l1 k (i : Int) (dg v) ((v / B ^ j : Nat) : Int) ((j : Int) - 1)) (finI i v) := by
  intro j
  have hl : ln v ≤ 2 := ln_two hv
  induction j with
  | zero =>
    intro _
    refine Ev.step (f := fun _ => some (finI i v)) (fun k => ?_) (Ev.now _)
    simp only [tenorref2_Int.l1]
    rw [if_neg (by omega)]
    rw [show v / B ^ 0 = v by simp]
    unfold finI
    by_cases hi1 : i = 1
    · rw [if_pos (by omega), if_pos hi1]
      by_cases hb : v > 9223372036854775808
      · rw [if_pos (by omega), if_pos hb]
      · rw [if_neg (by omega), if_neg hb]
        rw [wu (by omega) (by omega)]
        congr 2
        unfold wrap64; omega
    · rw [if_neg (by omega), if_neg hi1]
      by_cases hb : v ≥ 9223372036854775808
      · rw [if_pos (by omega), if_pos hb]
      · rw [if_neg (by omega), if_neg hb, w64 (by omega) (by omega)]
  | succ j ih =>
    intro hj
    have hB : B = 4294967296 := rfl
    have e : v / B ^ j = v / B ^ (j + 1) * B + dig v j := by
      have := Nat.div_add_mod (v / B ^ j) B
      rw [Nat.div_div_eq_div_mul, ← Nat.pow_succ, Nat.mul_comm B (v / B ^ (j + 1))] at this
      unfold dig; omega
    have hq : v / B ^ j ≤ v := Nat.div_le_self _ _
    have hd := dig_lt v j
    refine Ev.step (fun k => ?_) (ih (by omega))
    simp only [tenorref2_Int.l1]
    have e1 : (((j + 1 : Nat) : Int) - 1) = (j : Int) := by omega
    rw [e1, if_pos (by omega), if_pos (by omega), dg_length, if_pos (by omega), rd_dg _ _ (by omega), w64 (by omega) (by omega)]
    have e2 : ((v / B ^ (j + 1) : Nat) : Int) * 4294967296 = ((v / B ^ (j + 1) * B : Nat) : Int) := by rw [Int.natCast_mul]; rfl
    rw [e2, wun _ (by omega), show ((v / B ^ (j + 1) * B : Nat) : Int) + ((dig v j : Nat) : Int) = ((v / B ^ j : Nat) : Int) by omega, wun _ (by omega)]

theorem int_j3 (i v : Nat) (hi : i ≤ 1) (hv : v < 18446744073709551616) (h1 : 1 ≤ v ∨ i = 0) : Ev (fun k => tenorref2_Int.j3 k (i : Int) (dg v) false) (finI i v) := by
  have h := int_l1 i v hi hv h1 (ln v) (Nat.le_refl _)
  have hl : ln v ≤ 2 := ln_two hv
  rw [Nat.div_eq_of_lt (lt_pow_ln v)] at h
  refine Ev.step (fun k => ?_) h
  simp only [tenorref2_Int.j3]
  rw [if_neg (by simp), dg_length, w64 (by omega) (by omega)]
  rfl

/-- What is told at the end of the digits. -/
def endI (s : ByteArray) (i v : Nat) : Int × Bool :=
  if i = s.size then (0, false) else if s.data.toList.getD i 0 = 48 ∧ 1 < s.size then (0, false) else if 64 < bl v then (0, false) else finI i v

theorem getD_nat (s : ByteArray) (j : Nat) (h : j < s.size) : s.data.toList.getD j 0 = s[j]'h := by
  rw [List.getD_eq_getElem?_getD, List.getElem?_eq_getElem (by simpa using h)]; rfl

theorem int_l0 (s : ByteArray) (hs : s.size ≤ 20) (i : Nat) (hi : i ≤ 1) (his : i ≤ s.size) : ∀ (d j v : Nat), d + j = s.size → i ≤ j → v < 10 ^ j → (j = i → v = 0) →
    (i < j → ∃ h : i < s.size, (s[i]'h).toNat ≠ 48 → 1 ≤ v) →
    Ev (fun k => tenorref2_Int.l0 k s (i : Int) (dg v) (j : Int)) (if ∀ c ∈ s.data.toList.drop j, isD c then endI s i (dv v (s.data.toList.drop j)) else (0, false)) := by
  intro d
  induction d with
  | zero =>
    intro j v hd hij hv h0 h1
    obtain rfl : j = s.size := by omega
    have hnil : s.data.toList.drop s.size = [] := by simp
    rw [hnil, if_pos (by simp), dv_nil]
    have hvs : v < 10 ^ 20 := Nat.lt_of_lt_of_le hv (Nat.pow_le_pow_right (by decide) hs)
    have hpow : (10 : Nat) ^ 20 ≤ B ^ 3 := by decide
    have hlv : ln v ≤ 3 := ln_le (by omega)
    have hlen := len_ev v (by unfold top; omega)
    unfold endI
    by_cases hi0 : i = s.size
    · rw [if_pos hi0]
      refine Ev.step (f := fun k => tenorref2_Int.j3 k (i : Int) (dg v) true) (fun k => ?_) (Ev.step (f := fun _ => some (0, false)) (fun k => ?_) (Ev.now _))
      · simp only [tenorref2_Int.l0]
        rw [if_neg (by omega), if_pos (by omega)]
      · simp only [tenorref2_Int.j3]
        rw [if_pos (by simp)]
    · rw [if_neg hi0]
      have hlt : i < s.size := by omega
      rw [getD_nat s i hlt]
      have hbt := bt_nat s i hlt
      obtain ⟨_, h1⟩ := h1 hlt
      have key : ∀ (hz : (s[i]'hlt).toNat ≠ 48 ∨ s.size = 1), Ev (fun k => (tenorref1_Len.f k (dg v)).bind fun t => tenorref2_Int.j3 k (i : Int) (dg v) (decide (t > 64))) (if 64 < bl v then (0, false) else finI i v) := by
        intro hz
        refine Ev.bind (f := fun k t => tenorref2_Int.j3 k (i : Int) (dg v) (decide (t > 64))) hlen ?_
        by_cases hb : 64 < bl v
        · rw [if_pos hb]
          refine Ev.step (f := fun _ => some (0, false)) (fun k => ?_) (Ev.now _)
          simp only [tenorref2_Int.j3]
          rw [if_pos (by simp; omega)]
        · rw [if_neg hb]
          have h64 : (2 : Nat) ^ bl v ≤ 2 ^ 64 := Nat.pow_le_pow_right (by decide) (by omega)
          have e64 : (2 : Nat) ^ 64 = 18446744073709551616 := by decide
          have hvb : v < 18446744073709551616 := by have := lt_two_bl v; omega
          have hd : decide (((bl v : Nat) : Int) > 64) = false := by simp; omega
          rw [hd]
          refine int_j3 i v hi hvb ?_
          rcases hz with hz | hz
          · exact Or.inl (h1 hz)
          · right; omega
      by_cases hz : s[i]'hlt = 48 ∧ 1 < s.size
      · rw [if_pos hz]
        refine Ev.step (f := fun k => tenorref2_Int.j3 k (i : Int) (dg v) true) (fun k => ?_) (Ev.step (f := fun _ => some (0, false)) (fun k => ?_) (Ev.now _))
        · simp only [tenorref2_Int.l0]
          rw [if_neg (by omega), if_neg (by omega), if_pos (by omega), if_pos (by omega), hbt, hz.1, if_pos (by rfl), if_pos (by omega)]
        · simp only [tenorref2_Int.j3]
          rw [if_pos (by simp)]
      · rw [if_neg hz]
        by_cases hc : s[i]'hlt = 48
        · have hs1 : s.size = 1 := by
            have : ¬ 1 < s.size := fun h => hz ⟨hc, h⟩
            omega
          refine Ev.step (fun k => ?_) (key (Or.inr hs1))
          simp only [tenorref2_Int.l0]
          rw [if_neg (by omega), if_neg (by omega), if_pos (by omega), if_pos (by omega), hbt, hc, if_pos (by rfl), if_neg (by omega)]
        · have hc' : (s[i]'hlt).toNat ≠ 48 := fun e => hc (by rw [← UInt8.ofNat_toNat (x := s[i]'hlt), e]; rfl)
          refine Ev.step (fun k => ?_) (key (Or.inl hc'))
          simp only [tenorref2_Int.l0]
          rw [if_neg (by omega), if_neg (by omega), if_pos (by omega), if_pos (by omega), hbt, if_neg (by omega)]
  | succ d ih =>
    intro j v hd hij hv h0 h1
    have hj : j < s.size := by omega
    have hbt := bt_nat s j hj
    rw [drop_cons s j hj]
    generalize hcc : s[j]'hj = c at *
    by_cases hlo : c.toNat < 48
    · rw [if_neg (by intro h; have := h c (by simp); unfold isD at this; omega)]
      refine Ev.step (f := fun _ => some (0, false)) (fun k => ?_) (Ev.now _)
      simp only [tenorref2_Int.l0]
      rw [if_pos (by omega), if_pos (by omega), hbt, if_pos (by omega)]
    · by_cases hhi : c.toNat > 57
      · rw [if_neg (by intro h; have := h c (by simp); unfold isD at this; omega)]
        refine Ev.step (f := fun _ => some (0, false)) (fun k => ?_) (Ev.now _)
        simp only [tenorref2_Int.l0]
        rw [if_pos (by omega), if_pos (by omega), hbt, if_neg (by omega), if_pos (by omega)]
      · have hvs : v < 10 ^ 20 := Nat.lt_of_lt_of_le hv (Nat.pow_le_pow_right (by decide) (by omega))
        have hpow : (10 : Nat) ^ 20 ≤ B ^ 3 := by decide
        have hlv : ln v ≤ 3 := ln_le (by omega)
        have hm := more_ev v c.toNat (by omega) (by omega) (by unfold top; omega)
        have hrec := ih (j + 1) (10 * v + (c.toNat - 48)) (by omega) (by omega) (by rw [Nat.pow_succ]; omega) (by omega) (by
          intro hlt
          refine ⟨by omega, fun hne => ?_⟩
          by_cases hji : j = i
          · subst hji
            rw [hcc] at hne
            omega
          · obtain ⟨hx, hy⟩ := h1 (by omega)
            have := hy hne
            omega)
        have hall : (if ∀ x ∈ c :: s.data.toList.drop (j + 1), isD x then endI s i (dv v (c :: s.data.toList.drop (j + 1))) else ((0 : Int), false)) = (if ∀ x ∈ s.data.toList.drop (j + 1), isD x then endI s i (dv (10 * v + (c.toNat - 48)) (s.data.toList.drop (j + 1))) else (0, false)) := by
          have hcd : isD c := ⟨by omega, by omega⟩
          by_cases ha : ∀ x ∈ s.data.toList.drop (j + 1), isD x
          · rw [if_pos ha, if_pos (by intro x hx; rcases List.mem_cons.1 hx with rfl | hx; exact hcd; exact ha x hx), dv_cons]
          · rw [if_neg ha, if_neg (by intro h; exact ha (fun x hx => h x (List.mem_cons_of_mem _ hx)))]
        rw [hall]
        refine Ev.step (fun k => ?_) (Ev.bind (f := fun k t => tenorref2_Int.l0 k s (i : Int) t (((j + 1 : Nat)) : Int)) hm hrec)
        simp only [tenorref2_Int.l0]
        rw [if_pos (by omega), if_pos (by omega), hbt, if_neg (by omega), if_neg (by omega), w64 (by omega) (by omega)]
        rfl

theorem dv_big {l : List UInt8} (h : canon l) (hl : 20 ≤ l.length) : 10000000000000000000 ≤ dv 0 l := by
  cases l with
  | nil => simp at hl
  | cons c r =>
    have hc := h.2.1 c (by simp)
    have hne : c.toNat ≠ 48 := by
      intro e
      have hc48 : c = 48 := by rw [← UInt8.ofNat_toNat (x := c), e]; rfl
      have := h.2.2 (by rw [hc48]; rfl)
      omega
    unfold isD at hc
    have h1 := dv_ge r (10 * 0 + (c.toNat - 48))
    rw [dv_cons]
    have h2 : 10 ^ 19 ≤ 10 ^ r.length := Nat.pow_le_pow_right (by decide) (by simp at hl; omega)
    have h3 : 1 * 10 ^ 19 ≤ (10 * 0 + (c.toNat - 48)) * 10 ^ r.length := Nat.mul_le_mul (by omega) h2
    exact Nat.le_trans (Nat.le_trans (by decide) h3) h1

theorem intOf_long {l : List UInt8} (hl : 20 < l.length) : Num.intOf l = none := by
  cases l with
  | nil => rfl
  | cons c r =>
    simp only [Num.intOf]
    by_cases hc : c.toNat = 45
    · rw [if_pos hc, if_neg]
      rintro ⟨h1, _, h3⟩
      have := dv_big h1 (by simp at hl; omega)
      omega
    · rw [if_neg hc, if_neg]
      rintro ⟨h1, h3⟩
      have := dv_big h1 (by omega)
      omega

theorem eq48 (c : UInt8) : c = 48 ↔ c.toNat = 48 := ⟨fun h => by rw [h]; rfl, fun e => by rw [← UInt8.ofNat_toNat (x := c), e]; rfl⟩

theorem dv_pos {c : UInt8} {r : List UInt8} (hc : isD c) (h : c ≠ 48) : 1 ≤ dv 0 (c :: r) := by
  have hn : c.toNat ≠ 48 := fun e => h ((eq48 c).2 e)
  have h1 := dv_ge r (10 * 0 + (c.toNat - 48))
  have h2 : 1 ≤ 10 ^ r.length := Nat.pow_pos (by decide)
  unfold isD at hc
  have h3 : 1 * 1 ≤ (10 * 0 + (c.toNat - 48)) * 10 ^ r.length := Nat.mul_le_mul (by omega) h2
  rw [dv_cons]; omega

theorem bl64 (v : Nat) : 64 < bl v ↔ 18446744073709551616 ≤ v := by
  constructor
  · intro h
    rcases Nat.lt_or_ge v 18446744073709551616 with h1 | h1
    · have := bl_le (k := 64) h1
      omega
    · exact h1
  · intro h; exact lt_bl (k := 64) h

theorem refInt_ev (s : ByteArray) : Ev (fun k => tenorref2_Int.f k s) (told (Num.intOf s.data.toList)) := by
  have hsl := size_list s
  by_cases h0 : s.size = 0
  · have hn : s.data.toList = [] := List.length_eq_zero_iff.1 (by omega)
    rw [hn]
    refine Ev.congr (f := fun k => tenorref2_Int.j0 k s true) (fun k => ?_) (Ev.step (f := fun _ => some (told none)) (fun k => ?_) (Ev.now _))
    · unfold tenorref2_Int.f; rw [if_pos (by omega)]
    · simp only [tenorref2_Int.j0]; rw [if_pos (by simp)]; rfl
  · by_cases h20 : 20 < s.size
    · rw [intOf_long (by omega)]
      refine Ev.congr (f := fun k => tenorref2_Int.j0 k s true) (fun k => ?_) (Ev.step (f := fun _ => some (told none)) (fun k => ?_) (Ev.now _))
      · unfold tenorref2_Int.f; rw [if_neg (by omega)]; congr 1; simp; omega
      · simp only [tenorref2_Int.j0]; rw [if_pos (by simp)]; rfl
    · have hbt := bt_nat s 0 (by omega)
      have hd0 := drop_cons s 0 (by omega)
      rw [List.drop_zero] at hd0
      generalize hcc : s[0]'(by omega) = c at *
      obtain ⟨r, hd0⟩ : ∃ r, s.data.toList = c :: r := ⟨_, hd0⟩
      have hlen : (c :: r).length = s.size := by rw [← hd0]; exact hsl
      have hdr : s.data.toList.drop 1 = r := by rw [hd0]; rfl
      have hf : ∀ k, tenorref2_Int.f k s = tenorref2_Int.j0 k s false := by
        intro k; unfold tenorref2_Int.f; rw [if_neg (by omega)]; congr 1; simp; omega
      refine Ev.congr hf ?_
      rw [hd0]
      simp only [Num.intOf]
      by_cases hc : c.toNat = 45
      · rw [if_pos hc]
        have hrec := int_l0 s (by omega) 1 (by omega) (by omega) (s.size - 1) 1 0 (by omega) (by omega) (by decide) (fun _ => rfl) (by omega)
        refine Ev.step (f := fun k => tenorref2_Int.j1 k s ((1 : Nat) : Int)) (fun k => ?_) (Ev.step (f := fun k => tenorref2_Int.l0 k s ((1 : Nat) : Int) (dg 0) ((1 : Nat) : Int)) (fun k => ?_) ?_)
        · simp only [tenorref2_Int.j0]
          rw [if_neg (by simp), if_pos (by omega), show (0 : Int) = ((0 : Nat) : Int) from rfl, hbt, hc, if_pos (by rfl)]
          rfl
        · simp only [tenorref2_Int.j1]
          simp [dg, ln_zero, dgL]
        · refine Eq.mp (congrArg (Ev _) ?_) hrec
          rw [hdr]
          have hrl : r.length = s.size - 1 := by simp at hlen; omega
          have hg : s.data.toList.getD 1 0 = r.head?.getD 0 := by
            rw [hd0]; cases r <;> simp
          by_cases hall : ∀ x ∈ r, isD x
          · rw [if_pos hall]
            unfold endI
            rw [hg]
            cases r with
            | nil =>
              rw [if_pos (by simp at hrl; omega), if_neg (by rintro ⟨h, _⟩; exact h.1 rfl)]
              rfl
            | cons b q =>
              rw [if_neg (by simp at hrl; omega)]
              have hb := hall b (by simp)
              by_cases hb48 : b = 48
              · rw [if_pos ⟨by simp [hb48], by simp at hrl; omega⟩, if_neg (by rintro ⟨_, h, _⟩; exact h (by simp [hb48]))]
                rfl
              · have hcan : canon (b :: q) := ⟨by simp, hall, fun h => absurd (by simpa using h) hb48⟩
                have hpos := dv_pos (r := q) hb hb48
                rw [if_neg (by simp [hb48])]
                by_cases hv : dv 0 (b :: q) ≤ 9223372036854775808
                · rw [if_neg (by rw [bl64]; omega)]
                  unfold finI
                  rw [if_pos rfl, if_neg (by omega), if_pos ⟨hcan, by simp [hb48], hv⟩]
                  rfl
                · have hx : (if 64 < bl (dv 0 (b :: q)) then ((0 : Int), false) else finI 1 (dv 0 (b :: q))) = (0, false) := by
                    split
                    · rfl
                    · unfold finI; rw [if_pos rfl, if_pos (by omega)]
                  rw [hx, if_neg (by rintro ⟨_, _, h⟩; exact hv h)]
                  rfl
          · rw [if_neg hall, if_neg (by rintro ⟨h, _⟩; exact hall h.2.1)]
            rfl
      · rw [if_neg hc]
        have hrec := int_l0 s (by omega) 0 (by omega) (by omega) s.size 0 0 (by omega) (by omega) (by decide) (fun _ => rfl) (by omega)
        refine Ev.step (f := fun k => tenorref2_Int.j1 k s ((0 : Nat) : Int)) (fun k => ?_) (Ev.step (f := fun k => tenorref2_Int.l0 k s ((0 : Nat) : Int) (dg 0) ((0 : Nat) : Int)) (fun k => ?_) ?_)
        · simp only [tenorref2_Int.j0]
          rw [if_neg (by simp), if_pos (by omega), show (0 : Int) = ((0 : Nat) : Int) from rfl, hbt, if_neg (by omega)]
        · simp only [tenorref2_Int.j1]
          simp [dg, ln_zero, dgL]
        · refine Eq.mp (congrArg (Ev _) ?_) hrec
          have hg : s.data.toList.getD 0 0 = c := by rw [hd0]; simp
          rw [List.drop_zero]
          unfold endI
          rw [hg, hd0]
          by_cases hall : ∀ x ∈ c :: r, isD x
          · rw [if_pos hall, if_neg (by omega)]
            by_cases hz : c = 48 ∧ 1 < s.size
            · rw [if_pos hz, if_neg (by rintro ⟨h, _⟩; have := h.2.2 (by simp [hz.1]); omega)]
              rfl
            · have hcan : canon (c :: r) := ⟨by simp, hall, fun h => by
                have h48 : c = 48 := by simpa using h
                have : ¬ 1 < s.size := fun h => hz ⟨h48, h⟩
                omega⟩
              rw [if_neg hz]
              by_cases hv : dv 0 (c :: r) < 9223372036854775808
              · rw [if_neg (by rw [bl64]; omega)]
                unfold finI
                rw [if_neg (by omega), if_neg (by omega), if_pos ⟨hcan, hv⟩]
                rfl
              · have hx : (if 64 < bl (dv 0 (c :: r)) then ((0 : Int), false) else finI 0 (dv 0 (c :: r))) = (0, false) := by
                  split
                  · rfl
                  · unfold finI; rw [if_neg (by omega), if_pos (by omega)]
                rw [hx, if_neg (by rintro ⟨_, h⟩; exact hv h)]
                rfl
          · rw [if_neg hall, if_neg (by rintro ⟨h, _⟩; exact hall h.2.1)]
            rfl
end Go.Proofs.YtjpiplplohapnaaGreatDoor.Big
