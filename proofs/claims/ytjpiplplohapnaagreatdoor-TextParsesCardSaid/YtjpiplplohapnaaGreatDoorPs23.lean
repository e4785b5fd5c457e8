/- TextParses: text.Parse answers what the document answers, of every text: the nearest float, or the error. Conditions: those of the given card alone. -/
import Derived.Test.YtjpiplplohapnaaGreatDoorPs22
import Derived.Test.YtjpiplplohapnaaGreatDoorCards
import Derived.SizedLaws
import Derived.Lay
import Derived.SevenTiedAt
set_option linter.unusedVariables false
set_option linter.unusedSimpArgs false
namespace Go.Proofs.YtjpiplplohapnaaGreatDoor.Big
open Go.RowKit Go.Proofs.YtjpiplplohapnaaGreatDoorW.PrintWords Go.Proofs.YtjpiplplohapnaaGreatDoorW.PrintLast Go.Proofs.YtjpiplplohapnaaGreatDoorW.PrintMore
open Go.Proofs.YtjpiplplohapnaaGreatDoor.PText Nr Us Rf
theorem dl_at : ∀ (l : List UInt8) (k : Nat) (h : k < l.length), k < dl l → Num.isD l[k]
  | [], k, h, _ => absurd h (by simp)
  | c :: l, k, h, hk => by
    rw [dl] at hk
    by_cases hc : 48 ≤ c.toNat ∧ c.toNat ≤ 57
    · rw [if_pos hc] at hk
      cases k with
      | zero => exact hc
      | succ k => exact dl_at l k (by simpa using h) (by omega)
    rw [if_neg hc] at hk; omega
theorem dl_dig (s : ByteArray) (i : Nat) (j : Nat) (h : j < s.size) (h1 : i ≤ j) (h2 : j < i + dl (s.data.toList.drop i)) : Num.isD (s[j]'h) := by
  have hl : s.data.toList.length = s.size := by simp
  have h3 : j - i < (s.data.toList.drop i).length := by rw [List.length_drop]; omega
  have h4 := dl_at (s.data.toList.drop i) (j - i) h3 (by omega)
  rw [List.getElem_drop] at h4
  have e : s.data.toList[i + (j - i)]'(by omega) = s[j]'h := by
    have : i + (j - i) = j := by omega
    show s.data.toList[i + (j - i)]'_ = s.data.toList[j]'_
    congr 1
  rw [e] at h4
  exact h4
theorem power_l0 (s : ByteArray) (hs : s.size ≤ 400) (neg : Bool) (e : Nat) (he : e ≤ s.size) : ∀ (n i v a : Nat), i + n = e → (∀ j (h : j < s.size), i ≤ j → j < e → Num.isD (s[j]'h)) → v < 10 ^ a → a + n ≤ 4 →
    Ev (fun k => z0c.l0 k s (i : Int) neg (e : Int) (v : Int)) ((if neg then -((Num.dv v ((s.data.toList.drop i).take n) : Nat) : Int) else ((Num.dv v ((s.data.toList.drop i).take n) : Nat) : Int)), (e : Int))
  | 0, i, v, a, h, _, hv, ha => by
    have hie : i = e := by omega
    subst hie
    have h4 : 10 ^ a ≤ 10 ^ 4 := Nat.pow_le_pow_right (by decide) (by omega)
    have hv4 : v < 10000 := by omega
    rw [List.take_zero, Num.z3q]
    cases neg
    · refine Ev.step (f := fun _ => some ((v : Int), (i : Int))) (fun k => ?_) (Ev.now _)
      rw [z0c.l0, if_neg (by omega), if_neg (by decide)]
    refine Ev.step (f := fun _ => some (-(v : Int), (i : Int))) (fun k => ?_) (Ev.now _)
    rw [z0c.l0, if_neg (by omega), if_pos rfl, w64 (by omega) (by omega)]
  | n + 1, i, v, a, h, hd, hv, ha => by
    have hi : i < s.size := by omega
    have hb := z7h s i hi
    have hdc := drop_cons s i hi
    have hc : 48 ≤ (s[i]'hi).toNat ∧ (s[i]'hi).toNat ≤ 57 := hd i hi (Nat.le_refl _) (by omega)
    have h3 : 10 ^ a ≤ 10 ^ 3 := Nat.pow_le_pow_right (by decide) (by omega)
    have hv3 : v < 1000 := by omega
    have hv2 : 10 * v + ((s[i]'hi).toNat - 48) < 10 ^ (a + 1) := by rw [Nat.pow_succ]; omega
    have ih := power_l0 s hs neg e he n (i + 1) (10 * v + ((s[i]'hi).toNat - 48)) (a + 1) (by omega) (fun j h1 h2 h3 => hd j h1 (by omega) h3) hv2 (by omega)
    rw [hdc, List.take_succ_cons, Num.z2u]
    refine Ev.step (fun k => ?_) ih
    have q1 : (i : Int) < (e : Int) := by omega
    have q2 : (0 : Int) ≤ (i : Int) := by omega
    have q3 : (i : Int) < (s.size : Int) := by omega
    have w1 : wrap64 ((i : Int) + 1) = ((i + 1 : Nat) : Int) := by rw [w64 (by omega) (by omega)]; rfl
    have w2 : wrap64 (wrap64 (10 * (v : Int)) + ((((s[i]'hi).toNat : Nat) : Int) - 48) % 256) = ((10 * v + ((s[i]'hi).toNat - 48) : Nat) : Int) := by
      clear w1
      rw [w64 (x := 10 * (v : Int)) (by omega) (by omega), w64 (by omega) (by omega)]
      omega
    rw [z0c.l0, if_pos q1, if_pos q2, if_pos q3, hb, w1, w2]
theorem power_j2 (s : ByteArray) (hs : s.size ≤ 400) (neg : Bool) (j : Nat) (hj : j ≤ s.size) : ∃ P z : Int, Ev (fun k => z0c.j2 k s (j : Int) neg) (P, z) ∧
    (powD (s.data.toList.drop j) = true → P = (if neg then -((Num.dv 0 (s.data.toList.drop j) : Nat) : Int) else ((Num.dv 0 (s.data.toList.drop j) : Nat) : Int)) ∧ z = (s.size : Int)) ∧ (powD (s.data.toList.drop j) = false → z ≠ (s.size : Int)) := by
  have hl : s.data.toList.length = s.size := by simp
  have hlen : (s.data.toList.drop j).length = s.size - j := by rw [List.length_drop, hl]
  have hdg := z5l s (by omega) (s.size - j) j (by omega)
  have hdl := dl_le (s.data.toList.drop j)
  rw [hlen] at hdl
  have hdig := dl_dig s j
  obtain ⟨d, hd⟩ : ∃ d, d = dl (s.data.toList.drop j) := ⟨_, rfl⟩
  rw [← hd] at hdg hdl hdig
  have hpow : powD (s.data.toList.drop j) = decide (d = s.size - j ∧ 1 ≤ s.size - j ∧ s.size - j ≤ 4) := by unfold powD; rw [← hd, hlen]
  by_cases hbad : d = 0 ∨ 4 < d
  · refine ⟨0, -1, ?_, fun h => ?_, fun _ => by omega⟩
    · refine Ev.step (f := fun k => (z0s.f k s (j : Int)).bind fun t189 => (if t189 = (j : Int) then (z0c.j3 k s (j : Int) neg t189 true) else (z0c.j3 k s (j : Int) neg t189 (decide ((wrap64 (t189 - (j : Int))) > 4))))) (fun k => by rw [z0c.j2]) (Ev.bind hdg ?_)
      have hj3 : Ev (fun k => z0c.j3 k s (j : Int) neg ((j + d : Nat) : Int) true) ((0 : Int), (-1 : Int)) := Ev.step (f := fun _ => some ((0 : Int), (-1 : Int))) (fun k => by rw [z0c.j3, if_pos rfl]) (Ev.now _)
      refine Ev.congr (fun k => ?_) hj3
      by_cases h0 : d = 0
      · rw [if_pos (by omega)]
      rw [if_neg (by omega), w64 (by omega) (by omega), decide_eq_true (by omega)]
    rw [hpow] at h
    have := of_decide_eq_true h
    omega
  have hl0 := power_l0 s hs neg (j + d) (by omega) d j 0 0 rfl (fun i h1 h2 h3 => hdig i h1 h2 h3) (by decide) (by omega)
  obtain ⟨P, hP⟩ : ∃ P : Int, P = (if neg = true then -((Num.dv 0 ((s.data.toList.drop j).take d) : Nat) : Int) else ((Num.dv 0 ((s.data.toList.drop j).take d) : Nat) : Int)) := ⟨_, rfl⟩
  rw [← hP] at hl0
  refine ⟨P, ((j + d : Nat) : Int), ?_, fun h => ?_, fun h => ?_⟩
  · refine Ev.step (f := fun k => (z0s.f k s (j : Int)).bind fun t189 => (if t189 = (j : Int) then (z0c.j3 k s (j : Int) neg t189 true) else (z0c.j3 k s (j : Int) neg t189 (decide ((wrap64 (t189 - (j : Int))) > 4))))) (fun k => by rw [z0c.j2]) (Ev.bind hdg ?_)
    have hj3 := Ev.step (g := fun k => z0c.j3 k s (j : Int) neg ((j + d : Nat) : Int) false) (fun k => by rw [z0c.j3, if_neg (by decide)]; rfl) hl0
    refine Ev.congr (fun k => ?_) hj3
    rw [if_neg (by omega), w64 (by omega) (by omega), decide_eq_false (by omega)]
  · rw [hpow] at h
    have h1 := of_decide_eq_true h
    rw [List.take_of_length_le (by rw [hlen]; omega)] at hP
    exact ⟨hP, by omega⟩
  rw [hpow] at h
  have h1 := of_decide_eq_false h
  omega
theorem power_ev (s : ByteArray) (hs : s.size ≤ 400) (i : Nat) (hi : i ≤ s.size) : ∃ P z : Int, Ev (fun k => z0c.f k s (i : Int)) (P, z) ∧
    (powL (s.data.toList.drop i) = true → P = powE (s.data.toList.drop i) ∧ z = (s.size : Int)) ∧ (powL (s.data.toList.drop i) = false → z ≠ (s.size : Int)) := by
  have hl : s.data.toList.length = s.size := by simp
  have stop : ∀ b : Bool, b = true → Ev (fun k => z0c.j0 k s (i : Int) b) ((0 : Int), (i : Int)) := fun b hb =>
    Ev.step (f := fun _ => some ((0 : Int), (i : Int))) (fun k => by rw [z0c.j0, if_pos hb]) (Ev.now _)
  by_cases hend : i = s.size
  · have hn : s.data.toList.drop i = [] := List.drop_of_length_le (by omega)
    rw [hn]
    refine ⟨0, i, Ev.congr (fun k => ?_) (stop true rfl), fun _ => ⟨rfl, by omega⟩, (fun h => by cases h)⟩
    unfold z0c.f
    rw [if_pos (by omega)]
  have hlt : i < s.size := by omega
  have hb := z7h s i hlt
  have hdc := drop_cons s i hlt
  rw [hdc]
  obtain ⟨c, hc⟩ : ∃ c, c = s[i]'hlt := ⟨_, rfl⟩
  rw [← hc] at hb ⊢
  have hf : ∀ k, z0c.f k s (i : Int) = z0c.j0 k s (i : Int) ((bt s i) != 101) := fun k => by
    unfold z0c.f
    rw [if_neg (by omega), if_pos (by omega), if_pos (by omega)]
  by_cases h101 : c.toNat = 101
  · have hpl : powL (c :: s.data.toList.drop (i + 1)) = powD (sgn (s.data.toList.drop (i + 1))) := by
      show (if c.toNat = 101 then _ else false) = _
      rw [if_pos h101]
    have hpe : powE (c :: s.data.toList.drop (i + 1)) = powV (s.data.toList.drop (i + 1)) := rfl
    have hne : ((bt s i) != 101) = false := by rw [hb]; simp; omega
    have W1 := Lib.hid (show wrap64 ((i : Int) + 1) = ((i + 1 : Nat) : Int) by rw [w64 (by omega) (by omega)]; rfl)
    rw [hpl, hpe]
    have key : ∀ (j : Nat) (neg : Bool), j ≤ s.size → sgn (s.data.toList.drop (i + 1)) = s.data.toList.drop j → (z2e (s.data.toList.drop (i + 1))).1 = (if neg then -1 else 1) →
        (∀ {r : Int × Int}, Ev (fun k => z0c.j2 k s (j : Int) neg) r → Ev (fun k => z0c.f k s (i : Int)) r) →
        ∃ P z : Int, Ev (fun k => z0c.f k s (i : Int)) (P, z) ∧ (powD (sgn (s.data.toList.drop (i + 1))) = true → P = powV (s.data.toList.drop (i + 1)) ∧ z = (s.size : Int)) ∧ (powD (sgn (s.data.toList.drop (i + 1))) = false → z ≠ (s.size : Int)) := by
      intro j neg hj h1 h2 h3
      obtain ⟨P, z, a1, a2, a3⟩ := power_j2 s hs neg j hj
      refine ⟨P, z, h3 a1, fun h => ?_, fun h => a3 (by rw [← h1]; exact h)⟩
      obtain ⟨b1, b2⟩ := a2 (by rw [← h1]; exact h)
      refine ⟨?_, b2⟩
      unfold powV
      rw [b1, h2, z6m, h1]
      cases neg
      · rw [if_neg (by decide), if_neg (by decide)]; omega
      rw [if_pos rfl, if_pos rfl]; omega
    by_cases hend2 : i + 1 = s.size
    · have hn : s.data.toList.drop (i + 1) = [] := List.drop_of_length_le (by omega)
      refine key (i + 1) false (by omega) (by rw [hn]; rfl) (by rw [hn]; rfl) (fun h => Ev.congr hf ?_)
      refine Ev.step (g := fun k => z0c.j0 k s (i : Int) ((bt s i) != 101)) (f := fun k => z0c.j1 k s ((i + 1 : Nat) : Int) false false) (fun k => ?_) (Ev.step (fun k => ?_) h)
      · rw [z0c.j0, hne, if_neg (by decide), W1.out, if_neg (by omega)]
      rw [z0c.j1, if_neg (by decide)]
    have hlt2 : i + 1 < s.size := by omega
    have hb2 := z7h s (i + 1) hlt2
    have hdc2 := drop_cons s (i + 1) hlt2
    obtain ⟨e, he⟩ : ∃ e, e = s[i + 1]'hlt2 := ⟨_, rfl⟩
    rw [← he] at hb2 hdc2
    have W2 := Lib.hid (show wrap64 (((i + 1 : Nat) : Int) + 1) = ((i + 2 : Nat) : Int) by rw [w64 (by omega) (by omega)]; rfl)
    have hj0 : ∀ k, z0c.j0 (k + 1) s (i : Int) ((bt s i) != 101) = (if ((e.toNat : Nat) : Int) = 43 then (z0c.j1 k s ((i + 1 : Nat) : Int) false true) else (z0c.j1 k s ((i + 1 : Nat) : Int) false (((e.toNat : Nat) : Int) == 45))) := fun k => by
      rw [z0c.j0, hne, if_neg (by decide), W1.out, if_pos (by omega), if_pos (by omega), hb2]
    by_cases h43 : e.toNat = 43
    · refine key (i + 2) false (by omega) (by rw [hdc2]; unfold sgn; exact if_pos (Or.inl h43)) (by rw [hdc2]; unfold z2e; dsimp only; rw [if_pos h43]; rfl) (fun h => Ev.congr hf ?_)
      refine Ev.step (g := fun k => z0c.j0 k s (i : Int) ((bt s i) != 101)) (f := fun k => z0c.j1 k s ((i + 1 : Nat) : Int) false true) (fun k => ?_) (Ev.step (fun k => ?_) h)
      · rw [hj0, if_pos (by omega)]
      rw [z0c.j1, if_pos rfl, if_pos (by omega), if_pos (by omega), W2.out, hb2]
      have : (((e.toNat : Nat) : Int) == 45) = false := by simp; omega
      rw [this]
    by_cases h45 : e.toNat = 45
    · refine key (i + 2) true (by omega) (by rw [hdc2]; unfold sgn; exact if_pos (Or.inr h45)) (by rw [hdc2]; unfold z2e; dsimp only; rw [if_neg h43, if_pos h45]; rfl) (fun h => Ev.congr hf ?_)
      have h45b : (((e.toNat : Nat) : Int) == 45) = true := by simp; omega
      refine Ev.step (g := fun k => z0c.j0 k s (i : Int) ((bt s i) != 101)) (f := fun k => z0c.j1 k s ((i + 1 : Nat) : Int) false true) (fun k => ?_) (Ev.step (fun k => ?_) h)
      · rw [hj0, if_neg (by omega), h45b]
      rw [z0c.j1, if_pos rfl, if_pos (by omega), if_pos (by omega), W2.out, hb2, h45b]
    refine key (i + 1) false (by omega) (by rw [hdc2]; unfold sgn; exact if_neg (by omega)) (by rw [hdc2]; unfold z2e; dsimp only; rw [if_neg h43, if_neg h45]; rfl) (fun h => Ev.congr hf ?_)
    have h45b : (((e.toNat : Nat) : Int) == 45) = false := by simp; omega
    refine Ev.step (g := fun k => z0c.j0 k s (i : Int) ((bt s i) != 101)) (f := fun k => z0c.j1 k s ((i + 1 : Nat) : Int) false false) (fun k => ?_) (Ev.step (fun k => ?_) h)
    · rw [hj0, if_neg (by omega), h45b]
    rw [z0c.j1, if_neg (by decide)]
  have hpl : powL (c :: s.data.toList.drop (i + 1)) = false := by
    show (if c.toNat = 101 then _ else false) = _
    rw [if_neg h101]
  have hne : ((bt s i) != 101) = true := by rw [hb]; simp; omega
  rw [hpl]
  exact ⟨0, i, Ev.congr hf (stop _ hne), (fun h => by cases h), fun _ => by omega⟩
theorem j5_ev (s : ByteArray) (hs : s.size ≤ 400) (h0 : 0 < s.size) (i : Nat) (hi : i ≤ s.size) (W K : Nat) (hW : W ≤ 10 ^ K) (hK : K ≤ 400) (q : Nat) (hq : q ≤ 400) :
    (powL (s.data.toList.drop i) = true → ∃ r, Near (dN W (powE (s.data.toList.drop i) - q)) (dD (powE (s.data.toList.drop i) - q)) r ∧ Ev (fun k => z0b.j5 k s (i : Int) (dg W) (q : Int)) (mdR ((bt s 0) == 45) r)) ∧
    (powL (s.data.toList.drop i) = false → Ev (fun k => z0b.j5 k s (i : Int) (dg W) (q : Int)) ((0 : Int), (20 : Int))) := by
  obtain ⟨P, z, a1, a2, a3⟩ := power_ev s hs i hi
  have hstep : ∀ {r : Int × Int}, Ev (fun k => (if z = (s.size : Int) then (if 0 < (s.size : Int) then ((z0v.f k (dg W) (wrap64 (P - (q : Int))) ((bt s 0) == 45)).bind fun bt326 => (some (bt326.1, bt326.2))) else (none)) else (some (0, 20)))) r → Ev (fun k => z0b.j5 k s (i : Int) (dg W) (q : Int)) r := by
    intro r hr
    refine Ev.step (f := fun k => (z0c.f k s (i : Int)).bind fun bt324 => (if bt324.2 = (s.size : Int) then (if 0 < (s.size : Int) then ((z0v.f k (dg W) (wrap64 (bt324.1 - (q : Int))) ((bt s 0) == 45)).bind fun bt326 => (some (bt326.1, bt326.2))) else (none)) else (some (0, 20)))) (fun k => by rw [z0b.j5]) (Ev.bind a1 hr)
  refine ⟨fun h => ?_, fun h => ?_⟩
  · obtain ⟨b1, b2⟩ := a2 h
    have hPb : -9999 ≤ P ∧ P ≤ 9999 := by
      rw [b1]
      rcases powL_spec h with e | ⟨p, e, hp⟩
      · rw [e]; exact ⟨by decide, by decide⟩
      rw [e]
      show -9999 ≤ powV p ∧ powV p ≤ 9999
      obtain ⟨c1, c2, c3⟩ := z8b hp
      have hlt := Num.dv_lt (sgn p) c1 0
      have h4 : 10 ^ (sgn p).length ≤ 10 ^ 4 := Nat.pow_le_pow_right (by decide) c3
      have hsg : (z2e p).1 = 1 ∨ (z2e p).1 = -1 := by
        cases p with
        | nil => exact Or.inl rfl
        | cons c l =>
          unfold z2e
          dsimp only
          by_cases h1 : c.toNat = 43
          · rw [if_pos h1]; exact Or.inl rfl
          rw [if_neg h1]
          by_cases h2 : c.toNat = 45
          · rw [if_pos h2]; exact Or.inr rfl
          rw [if_neg h2]; exact Or.inl rfl
      unfold powV
      rw [z6m]
      have hb : Num.dv 0 (sgn p) < 10000 := by omega
      rcases hsg with h1 | h1 <;> rw [h1] <;> omega
    obtain ⟨r, hr, hm⟩ := made_ev W K hW hK (P - q) ((bt s 0) == 45)
    rw [b1] at hr
    refine ⟨r, hr, hstep ?_⟩
    have w1 : wrap64 (P - (q : Int)) = P - q := w64 (by omega) (by omega)
    refine Ev.congr (f := fun k => (z0v.f k (dg W) (P - (q : Int)) ((bt s 0) == 45)).bind fun bt326 => (some (bt326.1, bt326.2))) (fun k => ?_) (Ev.bind hm (Ev.now _))
    rw [if_pos b2, w1, if_pos (show (0 : Int) < (s.size : Int) by clear w1; omega)]
  refine hstep (Ev.congr (f := fun _ => some ((0 : Int), (20 : Int))) (fun k => ?_) (Ev.now _))
  rw [if_neg (a3 h)]
theorem j1_ev (s : ByteArray) (hs : s.size ≤ 400) (h0 : 0 < s.size) (i : Nat) (hi : i ≤ s.size) :
    (z5r (s.data.toList.drop i) = true → ∃ A D dot E r, Rf.Form (s.data.toList.drop i) A D dot E ∧ Near (dN (Num.dv 0 (A ++ D)) (powE E - D.length)) (dD (powE E - D.length)) r ∧ Ev (fun k => z0b.j1 k s (i : Int)) (mdR ((bt s 0) == 45) r)) ∧
    (z5r (s.data.toList.drop i) = false → Ev (fun k => z0b.j1 k s (i : Int)) ((0 : Int), (20 : Int))) := by
  have hl : s.data.toList.length = s.size := by simp
  have hlen : (s.data.toList.drop i).length = s.size - i := by rw [List.length_drop, hl]
  have hdg := z5l s (by omega) (s.size - i) i (by omega)
  have hdl := dl_le (s.data.toList.drop i)
  rw [hlen] at hdl
  have hdig := dl_dig s i
  have hdA := dl_take (s.data.toList.drop i)
  have hnA := @take_ne (s.data.toList.drop i)
  obtain ⟨d, hd⟩ : ∃ d, d = dl (s.data.toList.drop i) := ⟨_, rfl⟩
  rw [← hd] at hdg hdl hdig hdA hnA
  obtain ⟨a, ha⟩ : ∃ a, a = i + d := ⟨_, rfl⟩
  rw [← ha] at hdg hdig
  have hstep : ∀ {r : Int × Int}, Ev (fun k => (if (a : Int) = (i : Int) then (some (0, 20)) else (z0b.l0 k s (a : Int) ([] : List Int) (i : Int)))) r → Ev (fun k => z0b.j1 k s (i : Int)) r := by
    intro r hr
    exact Ev.step (f := fun k => (z0s.f k s (i : Int)).bind fun t316 => (if t316 = (i : Int) then (some (0, 20)) else (z0b.l0 k s t316 ([] : List Int) (i : Int)))) (fun k => by rw [z0b.j1]) (Ev.bind hdg hr)
  have hform : z5r (s.data.toList.drop i) = if d = 0 then false else formT (s.data.toList.drop a) := by
    unfold z5r
    rw [← hd, List.drop_drop, ← ha]
  by_cases hd0 : d = 0
  · rw [hform, if_pos hd0]
    refine ⟨(fun h => by cases h), fun _ => hstep (Ev.congr (f := fun _ => some ((0 : Int), (20 : Int))) (fun k => ?_) (Ev.now _))⟩
    rw [if_pos (by omega)]
  rw [hform, if_neg hd0]
  obtain ⟨A, hA⟩ : ∃ A, A = (s.data.toList.drop i).take d := ⟨_, rfl⟩
  rw [← hA] at hdA hnA
  have hnA' : A ≠ [] := hnA hd0
  have hlA : A.length = d := by rw [hA, List.length_take, hlen]; omega
  have hAv := Num.dv_lt A hdA 0
  rw [Nat.zero_add, Nat.one_mul] at hAv
  have heqA : s.data.toList.drop i = A ++ s.data.toList.drop a := by
    rw [hA, ha, ← List.drop_drop, List.take_append_drop]
  have hl0 : ∀ {r : Int × Int}, Ev (fun k => if (a : Int) < (s.size : Int) then (if 0 ≤ (a : Int) then (z0b.j3 k s a (dg (Num.dv 0 A)) 0 ((bt s a) == 46)) else (none)) else (z0b.j3 k s a (dg (Num.dv 0 A)) 0 false)) r → Ev (fun k => z0b.j1 k s (i : Int)) r := by
    intro r hr
    have h1 := parse_l0 s hs a (by omega) r d i 0 ha.symm hdig (Nat.pow_pos (by decide)) (by rw [← hA]; exact hr)
    rw [dg_zero] at h1
    refine hstep (Ev.congr (fun k => ?_) h1)
    rw [if_neg (by omega)]
  by_cases hend : a = s.size
  · have hn : s.data.toList.drop a = [] := List.drop_of_length_le (by omega)
    rw [hn] at heqA ⊢
    refine ⟨fun _ => ?_, (fun h => by cases h)⟩
    obtain ⟨r, hr, hev⟩ := (j5_ev s hs h0 a (by omega) (Num.dv 0 A) d (by rw [← hlA]; omega) (by omega) 0 (by omega)).1 (by rw [hn]; rfl)
    rw [hn] at hr
    refine ⟨A, [], false, [], r, ⟨by rw [heqA]; rfl, hdA, hnA', (fun c hc => by cases hc), (fun h => by cases h), fun _ => rfl, Or.inl rfl⟩, by rw [List.append_nil]; exact hr, hl0 ?_⟩
    refine Ev.congr (f := fun k => z0b.j3 k s a (dg (Num.dv 0 A)) 0 false) (fun k => by rw [if_neg (by omega)]) (Ev.step (fun k => ?_) hev)
    rw [z0b.j3, if_neg (by decide)]
    rfl
  have hlt : a < s.size := by omega
  have hb := z7h s a hlt
  have hdc := drop_cons s a hlt
  obtain ⟨c, hc⟩ : ∃ c, c = s[a]'hlt := ⟨_, rfl⟩
  rw [← hc] at hb hdc
  by_cases h46 : c.toNat = 46
  · have hbb : ((bt s (a : Int)) == 46) = true := by rw [hb]; simp; omega
    have hc' : c = 46 := UInt8.toNat_inj.1 h46
    have hft : formT (s.data.toList.drop a) = if dl (s.data.toList.drop (a + 1)) = 0 then false else powL ((s.data.toList.drop (a + 1)).drop (dl (s.data.toList.drop (a + 1)))) := by
      rw [hdc]; unfold formT; exact if_pos h46
    have hdg2 := z5l s (by omega) (s.size - (a + 1)) (a + 1) (by omega)
    have hdl2 := dl_le (s.data.toList.drop (a + 1))
    rw [List.length_drop, hl] at hdl2
    have hdig2 := dl_dig s (a + 1)
    have hdD := dl_take (s.data.toList.drop (a + 1))
    have hnD := @take_ne (s.data.toList.drop (a + 1))
    obtain ⟨d2, hd2⟩ : ∃ d2, d2 = dl (s.data.toList.drop (a + 1)) := ⟨_, rfl⟩
    rw [← hd2] at hdg2 hdl2 hdig2 hdD hnD hft
    obtain ⟨b, hbd⟩ : ∃ b, b = a + 1 + d2 := ⟨_, rfl⟩
    rw [← hbd] at hdg2 hdig2
    rw [List.drop_drop, ← hbd] at hft
    have W1 := Lib.hid (show wrap64 ((a : Int) + 1) = ((a + 1 : Nat) : Int) by rw [w64 (by omega) (by omega)]; rfl)
    have hj3 : ∀ {r : Int × Int}, Ev (fun k => (if (b : Int) = ((a + 1 : Nat) : Int) then (some (0, 20)) else (z0b.l1 k s (b : Int) (dg (Num.dv 0 A)) ((a + 1 : Nat) : Int) ((a + 1 : Nat) : Int)))) r → Ev (fun k => z0b.j1 k s (i : Int)) r := by
      intro r hr
      refine hl0 (Ev.congr (f := fun k => z0b.j3 k s a (dg (Num.dv 0 A)) 0 true) (fun k => by rw [if_pos (by omega), if_pos (by omega), hbb]) ?_)
      refine Ev.step (f := fun k => (z0s.f k s ((a + 1 : Nat) : Int)).bind fun t320 => (if t320 = ((a + 1 : Nat) : Int) then (some (0, 20)) else (z0b.l1 k s t320 (dg (Num.dv 0 A)) ((a + 1 : Nat) : Int) ((a + 1 : Nat) : Int)))) (fun k => ?_) (Ev.bind hdg2 hr)
      rw [z0b.j3, if_pos rfl, W1.out]
    by_cases hd20 : d2 = 0
    · rw [hft, if_pos hd20]
      refine ⟨(fun h => by cases h), fun _ => hj3 (Ev.congr (f := fun _ => some ((0 : Int), (20 : Int))) (fun k => ?_) (Ev.now _))⟩
      rw [if_pos (by omega)]
    rw [hft, if_neg hd20]
    obtain ⟨D, hD⟩ : ∃ D, D = (s.data.toList.drop (a + 1)).take d2 := ⟨_, rfl⟩
    rw [← hD] at hdD hnD
    have hnD' : D ≠ [] := hnD hd20
    have hlD : D.length = d2 := by rw [hD, List.length_take, List.length_drop, hl]; omega
    have heqD : s.data.toList.drop (a + 1) = D ++ s.data.toList.drop b := by
      rw [hD, hbd, ← List.drop_drop (i := d2) (j := a + 1), List.take_append_drop]
    have hW : Num.dv 0 (A ++ D) ≤ 10 ^ (d + d2) := by
      have h1 := Num.dv_lt (A ++ D) (fun c hc => by rcases List.mem_append.1 hc with h | h; exact hdA c h; exact hdD c h) 0
      rw [Nat.zero_add, Nat.one_mul, List.length_append, hlA, hlD] at h1
      omega
    have hl1 : ∀ {r : Int × Int}, Ev (fun k => z0b.j5 k s (b : Int) (dg (Num.dv 0 (A ++ D))) ((d2 : Nat) : Int)) r → Ev (fun k => z0b.j1 k s (i : Int)) r := by
      intro r hr
      have hA10 : Num.dv 0 A < 10 ^ (a + 1) := by
        have : (10 : Nat) ^ A.length ≤ 10 ^ (a + 1) := Nat.pow_le_pow_right (by decide) (by omega)
        omega
      have h1 := parse_l1 s hs b (a + 1) (by omega) (by omega) r d2 (a + 1) (Num.dv 0 A) hbd.symm hdig2 hA10 (by
        rw [← hD, ← Num.z7v, show b - (a + 1) = d2 by omega]
        exact hr)
      refine hj3 (Ev.congr (fun k => ?_) h1)
      rw [if_neg (by omega)]
    obtain ⟨k1, k2⟩ := j5_ev s hs h0 b (by omega) (Num.dv 0 (A ++ D)) (d + d2) hW (by omega) d2 (by omega)
    refine ⟨fun h => ?_, fun h => hl1 (k2 h)⟩
    obtain ⟨r, hr, hev⟩ := k1 h
    refine ⟨A, D, true, s.data.toList.drop b, r, ⟨by rw [heqA, hdc, heqD, hc', if_pos rfl, List.cons_append], hdA, hnA', hdD, fun _ => hnD', (fun h => by cases h), powL_spec h⟩, by rw [hlD]; exact hr, hl1 hev⟩
  have hbb : ((bt s (a : Int)) == 46) = false := by rw [hb]; simp; omega
  have hft : formT (s.data.toList.drop a) = powL (s.data.toList.drop a) := by
    rw [hdc]; unfold formT; exact if_neg h46
  rw [hft]
  have hj5 : ∀ {r : Int × Int}, Ev (fun k => z0b.j5 k s (a : Int) (dg (Num.dv 0 A)) ((0 : Nat) : Int)) r → Ev (fun k => z0b.j1 k s (i : Int)) r := by
    intro r hr
    refine hl0 (Ev.congr (f := fun k => z0b.j3 k s a (dg (Num.dv 0 A)) 0 false) (fun k => by rw [if_pos (by omega), if_pos (by omega), hbb]) (Ev.step (fun k => ?_) hr))
    rw [z0b.j3, if_neg (by decide)]
    rfl
  obtain ⟨k1, k2⟩ := j5_ev s hs h0 a (by omega) (Num.dv 0 A) d (by rw [← hlA]; omega) (by omega) 0 (by omega)
  refine ⟨fun h => ?_, fun h => hj5 (k2 h)⟩
  obtain ⟨r, hr, hev⟩ := k1 h
  exact ⟨A, [], false, s.data.toList.drop a, r, ⟨by rw [heqA]; rfl, hdA, hnA', (fun c hc => by cases hc), (fun h => by cases h), fun _ => rfl, powL_spec h⟩, by rw [List.append_nil]; exact hr, hj5 hev⟩
theorem refParse_ev (s : ByteArray) :
    ((s.size ≤ 400 ∧ z5x s.data.toList = true) ∧ ∃ ng l A D dot E r, NumT s ng l A D dot E ∧ Near (dN (Num.dv 0 (A ++ D)) (powE E - D.length)) (dD (powE E - D.length)) r ∧ Ev (fun k => z0b.f k s) (mdR ng r)) ∨
    ((400 < s.size ∨ z5x s.data.toList = false) ∧ Ev (fun k => z0b.f k s) ((0 : Int), (20 : Int))) := by
  have hl : s.data.toList.length = s.size := by simp
  by_cases h400 : 400 < s.size
  · refine Or.inr ⟨Or.inl h400, Ev.congr (f := fun _ => some ((0 : Int), (20 : Int))) (fun k => ?_) (Ev.now _)⟩
    unfold z0b.f
    rw [if_pos (by omega)]
  by_cases h0 : s.size = 0
  · have hnil : s.data.toList = [] := List.length_eq_zero_iff.1 (by omega)
    refine Or.inr ⟨Or.inr (by rw [hnil]; rfl), ?_⟩
    have hdg := z5l s (by omega) 0 0 (by omega)
    rw [hnil] at hdg
    refine Ev.congr (f := fun k => z0b.j0 k s 0 false) (fun k => ?_) ?_
    · unfold z0b.f
      rw [if_neg (by omega), if_neg (by omega)]
    refine Ev.step (f := fun k => z0b.j1 k s 0) (fun k => by rw [z0b.j0, if_neg (by decide)]) ?_
    refine Ev.step (f := fun k => (z0s.f k s 0).bind fun t316 => (if t316 = 0 then (some (0, 20)) else (z0b.l0 k s t316 ([] : List Int) 0))) (fun k => by rw [z0b.j1]) (Ev.bind hdg ?_)
    exact Ev.congr (f := fun _ => some ((0 : Int), (20 : Int))) (fun k => if_pos rfl) (Ev.now _)
  have hpos : 0 < s.size := by omega
  have hb := z7h s 0 hpos
  have hdc := drop_cons s 0 hpos
  rw [List.drop_zero] at hdc
  obtain ⟨c, hc⟩ : ∃ c, c = s[0]'hpos := ⟨_, rfl⟩
  rw [← hc] at hb hdc
  have hf : ∀ k, z0b.f k s = z0b.j0 k s 0 ((bt s 0) == 45) := fun k => by
    unfold z0b.f
    rw [if_neg (by omega), if_pos (by omega)]
  by_cases h45 : c.toNat = 45
  · have hbb : ((bt s 0) == 45) = true := by
      rw [show (0 : Int) = ((0 : Nat) : Int) from rfl, hb]; simp; omega
    have hc' : c = 45 := UInt8.toNat_inj.1 h45
    have hform : z5x s.data.toList = z5r (s.data.toList.drop 1) := by
      conv => lhs; rw [hdc]
      unfold z5x; exact if_pos h45
    have hev : ∀ {r : Int × Int}, Ev (fun k => z0b.j1 k s ((1 : Nat) : Int)) r → Ev (fun k => z0b.f k s) r := by
      intro r hr
      refine Ev.congr hf (Ev.step (g := fun k => z0b.j0 k s 0 ((bt s 0) == 45)) (fun k => ?_) hr)
      rw [z0b.j0, hbb, if_pos rfl, w64 (by omega) (by omega)]
      rfl
    obtain ⟨k1, k2⟩ := j1_ev s (by omega) hpos 1 (by omega)
    rw [hbb] at k1
    cases hfm : z5r (s.data.toList.drop 1) with
    | true =>
      obtain ⟨A, D, dot, E, r, hF, hr, he⟩ := k1 hfm
      exact Or.inl ⟨⟨by omega, hform.trans hfm⟩, true, _, A, D, dot, E, r, ⟨by rw [if_pos rfl]; conv => lhs; rw [hdc, hc'], hF⟩, hr, hev he⟩
    | false => exact Or.inr ⟨Or.inr (hform.trans hfm), hev (k2 hfm)⟩
  have hbb : ((bt s 0) == 45) = false := by
    rw [show (0 : Int) = ((0 : Nat) : Int) from rfl, hb]; simp; omega
  have hform : z5x s.data.toList = z5r (s.data.toList.drop 0) := by
    rw [List.drop_zero]
    conv => lhs; rw [hdc]
    conv => rhs; rw [hdc]
    unfold z5x; exact if_neg h45
  have hev : ∀ {r : Int × Int}, Ev (fun k => z0b.j1 k s ((0 : Nat) : Int)) r → Ev (fun k => z0b.f k s) r := by
    intro r hr
    refine Ev.congr hf (Ev.step (g := fun k => z0b.j0 k s 0 ((bt s 0) == 45)) (fun k => ?_) hr)
    rw [z0b.j0, hbb, if_neg (by decide)]
    rfl
  obtain ⟨k1, k2⟩ := j1_ev s (by omega) hpos 0 (by omega)
  rw [hbb] at k1
  cases hfm : z5r (s.data.toList.drop 0) with
  | true =>
    obtain ⟨A, D, dot, E, r, hF, hr, he⟩ := k1 hfm
    exact Or.inl ⟨⟨by omega, hform.trans hfm⟩, false, _, A, D, dot, E, r, ⟨by rw [if_neg (by decide), List.drop_zero], hF⟩, hr, hev he⟩
  | false => exact Or.inr ⟨Or.inr (hform.trans hfm), hev (k2 hfm)⟩
end Go.Proofs.YtjpiplplohapnaaGreatDoor.Big
namespace Go.Proofs.YtjpiplplohapnaaGreatDoor.PText
open Go.RowKit Go.Proofs.YtjpiplplohapnaaGreatDoorW.PrintWords Go.Proofs.YtjpiplplohapnaaGreatDoorW.PrintLast Go.Proofs.YtjpiplplohapnaaGreatDoorW.PrintMore
attribute [local go_sem] z2i z2j z3i z3k z2d z2c z2q z2r
set_option linter.unusedVariables false
set_option linter.unusedSimpArgs false
def z1x.f (a0 : Int) : Option (Bool) := some (decide ((Go.bits .andNot .u64 a0 9223372036854775808) > 9218868437227405312))
set_option maxHeartbeats 8000000 in
set_option maxRecDepth 100000 in
theorem z1x.calls (a0 : Int) (r : Bool) (w : World) (h : z1x.f a0 = some r) :
    Calls Tryz.prog 65 #[.int .u64 a0] w fun e w' => e = .returned (.bool r) ∧ z0o w w' := by
  have H : (some (decide ((Go.bits .andNot .u64 a0 9223372036854775808) > 9218868437227405312))) = some r := h
  clear h
  obtain rfl := Option.some.inj H
  go_enter Tryz.func65, Tryz.ntmps65
  go_wp2
  go_ret
  exact ⟨by rfl, by repeat (exact z0o.refl _)⟩
def z4v.f (a0 : Int) (a1 : Int) : Option (Bool) := if a0 = a1 then (some true) else ((z1x.f a0).bind fun t328 => (if t328 = true then ((z1x.f a1).bind fun t329 => (some t329)) else (some false)))
set_option maxHeartbeats 8000000 in
set_option maxRecDepth 100000 in
theorem z4v.calls (a0 : Int) (a1 : Int) (r : Bool) (w : World) (h : z4v.f a0 a1 = some r) :
    Calls Tryz.prog 29 #[.int .u64 a0, .int .u64 a1] w fun e w' => e = .returned (.bool r) ∧ z0o w w' := by
  have H : (if a0 = a1 then (some true) else ((z1x.f a0).bind fun t328 => (if t328 = true then ((z1x.f a1).bind fun t329 => (some t329)) else (some false)))) = some r := h
  clear h
  by_cases c3 : a0 = a1
  · rw [if_pos c3] at H
    have c3b0 : (a0 == a1) = true := beq_iff_eq.mpr c3
    have c3b1 : (a0 != a1) = false := bne_eq_false_iff_eq.mpr c3
    clear c3
    obtain rfl := Option.some.inj H
    go_enter Tryz.func29, Tryz.ntmps29
    go_wp2
    go_ret
    exact ⟨by rfl, by repeat (exact z0o.refl _)⟩
  rw [if_neg c3] at H
  have c3b0 : (a0 == a1) = false := beq_eq_false_iff_ne.mpr c3
  have c3b1 : (a0 != a1) = true := bne_iff_ne.mpr c3
  replace H := Option.bind_eq_some_iff.mp H
  obtain ⟨t328, A40, H⟩ := H
  have A4 := y9.mk A40
  clear A40
  by_cases c5 : t328 = true
  · subst c5
    have H1 : ((z1x.f a1).bind fun t329 => (some t329)) = some r := by rw [if_pos rfl] at H; exact H
    clear H
    have H := H1
    clear H1
    replace H := Option.bind_eq_some_iff.mp H
    obtain ⟨t329, A60, H⟩ := H
    have A6 := y9.mk A60
    clear A60
    obtain rfl := Option.some.inj H
    go_enter Tryz.func29, Tryz.ntmps29
    go_wp2_with (first | (go_at_call 65; (with_reducible refine (z1x.calls a0 true _ A4.out).mono ?_); rintro e w' ⟨rfl, ⟨nd, rfl⟩⟩) | (go_at_call 65; (with_reducible refine (z1x.calls a1 t329 _ A6.out).mono ?_); rintro e w' ⟨rfl, ⟨nd, rfl⟩⟩))
    go_ret
    exact ⟨by rfl, by repeat (first | exact z0o.refl _ | apply z0o.step)⟩
  replace c5 := Bool.eq_false_iff.mpr c5
  subst c5
  have H1 : (some false) = some r := by rw [if_neg (show ¬ (false = true) by decide)] at H; exact H
  clear H
  have H := H1
  clear H1
  obtain rfl := Option.some.inj H
  go_enter Tryz.func29, Tryz.ntmps29
  go_wp2_with ((go_at_call 65; (with_reducible refine (z1x.calls a0 false _ A4.out).mono ?_); rintro e w' ⟨rfl, ⟨nd, rfl⟩⟩))
  go_ret
  exact ⟨by rfl, by repeat (first | exact z0o.refl _ | apply z0o.step)⟩
end Go.Proofs.YtjpiplplohapnaaGreatDoor.PText
namespace Go.Proofs.YtjpiplplohapnaaGreatDoor
open Go.RowKit Go.Sort Go.Proofs.YtjpiplplohapnaaGreatDoorW.PrintWords Rf Big PText Nr Us
theorem is_same (b : Nat) (w : World) : Calls Tryz.prog 12 #[.float .f64 b, .int .u64 b] w fun e w' => e = .returned (.bool true) ∧ Below w.heap.size w w' := by
  have h0 := apiBits
  have hS : ∀ w : World, Calls Tryz.prog 29 #[.int .u64 b, .int .u64 b] w fun e w' => e = .returned (.bool true) ∧ Below w.heap.size w w' := fun w =>
    (z4v.calls (b : Int) (b : Int) true w (by unfold z4v.f; rw [if_pos rfl])).mono fun e w' ⟨h1, h2⟩ => ⟨h1, h2.below⟩
  go_enter Tryz.func12, Tryz.ntmps12
  go_wp2_with (go_at_call 16; refine (apiBits _ _).mono ?_; rintro e w1 ⟨rfl, hw1⟩; obtain rfl := hw1.symm)
  refine (hS _).mono ?_
  rintro e w2 ⟨rfl, hb2⟩
  go_wp2_with fail
  go_ret
  exact ⟨rfl, hb2⟩
set_option maxRecDepth 100000 in
set_option maxHeartbeats 1000000 in
theorem parse_not (s : ByteArray) (h : 400 < s.size ∨ z5x s.data.toList = false) (w : World) : Calls Tryz.prog 10 #[.string s] w fun e w' => e = .returned (.tuple #[.float .f64 0, .int .i64 20]) ∧ Below w.heap.size w w' := by
  by_cases hs : 400 < s.size
  · have h1 : (400 : Int) < s.size := by omega
    have h2 : (s.size : Int) > 400 := by omega
    clear hs h
    go_enter Tryz.func10, Tryz.ntmps10
    go_wp2_with fail
    go_ret2
    exact ⟨rfl, Below.refl _ _⟩
  have hf : z5x s.data.toList = false := h.resolve_left hs
  have hF := formed_walk s (by omega)
  rw [hf] at hF
  have HF := Lib.hid hF
  have h1 : ¬ (400 : Int) < s.size := by omega
  clear hs hf hF h
  go_enter Tryz.func10, Tryz.ntmps10
  go_wp2_with fail
  refine (HF.out _).mono ?_
  rintro e w1 ⟨rfl, hb1⟩
  clear HF
  go_wp2_with fail
  go_ret2
  exact ⟨rfl, hb1⟩
theorem parse_both (s : ByteArray) : ∃ (x : Nat) (c : Int),
    (∀ w, z5y w → Calls Tryz.prog 10 #[.string s] w fun e w' => e = .returned (.tuple #[.float .f64 x, .int .i64 c]) ∧ Below w.heap.size w w') ∧
    (∀ w, Calls Tryz.prog 11 #[.string s] w fun e w' => e = .returned (.tuple #[.int .u64 x, .int .i64 c]) ∧ Below w.heap.size w w') := by
  rcases refParse_ev s with ⟨⟨hs, hf⟩, ng, l, A, D, dot, E, r, hN, hr, hev⟩ | ⟨hbad, hev⟩
  · obtain ⟨k, hk⟩ := hev.rounds
    refine ⟨paX ng r, paC r, fun w hL => parse_num hN hs hf r hr w hL, fun w => ?_⟩
    have hm : mdR ng r = ((paX ng r : Int), paC r) := by
      unfold mdR paX paC
      by_cases h : 9218868437227405312 ≤ r
      · rw [if_pos h, if_pos h, if_pos h]; rfl
      rw [if_neg h, if_neg h, if_neg h]
    rw [hm] at hk
    exact (z0b.calls k s _ _ w hk).mono fun e w' ⟨h1, h2⟩ => ⟨h1, by first | exact h2 | exact h2.below⟩
  obtain ⟨k, hk⟩ := hev.rounds
  exact ⟨0, 20, fun w _ => parse_not s hbad w, fun w => (z0b.calls k s _ _ w hk).mono fun e w' ⟨h1, h2⟩ => ⟨h1, by first | exact h2 | exact h2.below⟩⟩
set_option maxRecDepth 100000 in
theorem textParses_walk (s : ByteArray) (w : World) (hL : z5y w) : Calls Tryz.prog 3 #[.string s] w fun e w' => e = .returned (.bool true) ∧ Below w.heap.size w w' := by
  obtain ⟨x, c, H1, H2⟩ := parse_both s
  have H5 := is_same x
  go_enter Tryz.func3, Tryz.ntmps3
  go_wp2_with fail
  refine (H1 _ hL).mono ?_
  rintro e w1 ⟨rfl, hb1⟩
  have hL1 := hL.below hb1
  go_wp2_with fail
  refine (H2 _).mono ?_
  rintro e w2 ⟨rfl, hb2⟩
  have hL2 := hL1.below hb2
  have hb02 := hb1.trans (hb2.mono hb1.size)
  clear hL1 hb1 hb2 H1 H2
  go_wp2_with fail
  refine (H5 _).mono ?_
  rintro e w5 ⟨rfl, hb5⟩
  have hL5 := hL2.below hb5
  have hb05 := hb02.trans (hb5.mono hb02.size)
  clear hL2 hb02 hb5
  go_wp2_with fail
  refine (awake_true _ hL5.laid).mono ?_
  rintro e w6 ⟨rfl, hb6⟩
  have hb06 := hb05.trans (hb6.mono hb05.size)
  go_wp2_with fail
  go_ret
  exact ⟨rfl, hb06⟩
end Go.Proofs.YtjpiplplohapnaaGreatDoor
namespace Go.Proofs.YtjpiplplohapnaaGreatDoor
open Go.ChangeShapes Go.WideShapes Go.ChangeAt Go.RowKit
open Go.ChangeMaps (open_string shut_string)
theorem ownQ : ownKnob Tryz.prog.godebug = none := by kernel_rfl
set_option maxRecDepth 100000 in
theorem z9b (os : Os) (started : os.Started) (H : Type) (enc : TypeId × Value → H) :
    ReturnsInHanded {} Tryz.checked os 3 .any (fun w args => (Rows.textParsesSpec.pre enc Tryz.prog Tryz.f3 Rows.textParsesRow.domain false w args ∧ laidMetH Tryz.prog z5g w) ∧ sizedMet enc Tryz.prog Tryz.f3 (OpenSpec.ofChange Rows.textParsesSpec) false w args)
      (Rows.textParsesSpec.post enc Tryz.prog Tryz.f3 false true false false) := by
  refine returnsInHanded_of_change_and (C := Tryz.checked) (X := fun w _ => laidMetH Tryz.prog z5g w) (fun _ _ _ hh h => h.of_heap hh) ownQ started (by kernel_rfl) Tryz.func3
    (ChangeSpec.witness_shaped (enc := enc) (C := Tryz.checked) (os := os) (X := fun w _ => laidMetH Tryz.prog z5g w) false (World.laidAll Tryz.prog os z5g) #[.string ⟨#[]⟩] 8 (World.laidAll_os _ _ _)
      (World.shaped_of_ZipB (by kernel_rfl) (by kernel_rfl)) (by kernel_rfl) (by kernel_rfl) (by kernel_rfl)
      (by rw [MakeChecks.laidMetH_plain _ _ _ (by kernel_rfl)]; exact laidMet_laidAll _ (by kernel_rfl) (by kernel_rfl))) ?_
  intro W base args ds gs before hval0 hW hc hsz0 hL _
  have hsz : (DataW.weightsEach Tryz.prog (Tryz.f3.params.toList ++ Rows.textParsesSpec.plain.varTypes Tryz.prog) (ds ++ gs)).all (· ≤ reachBytes) = true := hsz0
  clear hsz0
  have hval : ∀ (j : Nat) t v, Tryz.f3.params[j]? = some t → args[j]? = some v → Value.okWide Tryz.prog W .any base t v := hval0
  have hW' := hW
  obtain ⟨p, q, hA0, hV, rfl, _, _⟩ := hW
  have hA : DataW.TrodAll enc Tryz.prog W 0 (fun _ => true) true Tryz.f3.params.toList args.toList ds p := hA0
  rw [Tryz.params3] at hA hval hsz
  obtain ⟨v0, d0, rfl, rfl, h0⟩ := trodAll_one hA
  obtain ⟨rfl, rfl⟩ := trodVars_none hV
  obtain ⟨s, rfl, rfl, rfl, hs⟩ := open_string Tryz.underlying9 (hval 0 9 v0 rfl rfl) h0
  clear hA0 hval0
  simp only [List.append_nil] at hW'
  rw [MakeChecks.laidMetH_plain _ _ _ (by kernel_rfl)] at hL
  refine (textParses_walk s W ⟨laid_of_met hL, met_cheats hL, met_powt hL⟩).mono fun e W' ⟨he, hb⟩ => ?_
  subst he
  refine ⟨_, rfl, _, _, _, [], [], [], hW', ?_, ?_, rfl, hb.frame _, fun h => by cases h⟩
  · exact trodAll_mk1 (shut_bool Tryz.underlying4 _)
  exact trodAll_mk1 (shut_string Tryz.underlying9 hs)
theorem z6q : Rows.TextParsesSaid :=
  OpenClaim.holds_of_wide 3 Tryz.f3 rfl rfl rfl rfl rfl rfl rfl ⟨rfl, rfl, rfl, rfl, rfl⟩ rfl rfl rfl rfl rfl (by kernel_rfl) Tryz.func3 (by kernel_rfl)
    (of_decide_eq_true (by kernel_rfl)) (by unfold Func.isWrapper; first | (rw [if_pos (by decide +kernel)]; kernel_rfl) | (rw [if_neg (by decide +kernel)]; exact ⟨rfl, rfl⟩))
    (fun os started H enc _ => z9b os started H enc)
#print axioms z6q
end Go.Proofs.YtjpiplplohapnaaGreatDoor
namespace Go.Proofs.YtjpiplplohapnaaGreatDoor
open Go
theorem textParses_card : Rows.TextParsesCardSaid :=
  Claim7.holds_tied_plain_at .later [] [.data, .data, .widerDeep, .widerDeep, .data, .data, .data, .data, .data, .data, .sentinel, .sentinel, .pinned, .pinned, .pinned] true (true, "88b106d7fc526b4d2f4990cd12e5310ed366ec0058fe55e1a106d0c7beb3aadc") true
    z6q (fun _ h => by cases h) (by kernel_rfl) (fun _ h => by cases h) textParses_row_tie rfl ⟨rfl, rfl⟩ (by kernel_rfl) rfl
    (fun f fn hf hfn => by
      obtain rfl : f = 3 := Option.some.inj ((show Tryz.prog.funcNamed "tenor/tenorlaw2.TextParses" = some 3 by kernel_rfl).symm.trans hf) |>.symm
      obtain rfl : fn = Tryz.f3 := (Option.some.inj (Tryz.func3.symm.trans hfn)).symm
      exact ⟨by kernel_rfl, fun j t ht => by
        rw [Tryz.params3] at ht
        have hm : t ∈ [9] := by simpa using Array.mem_of_getElem? ht
        have hall : ([9].all fun u => !Tryz.prog.wantsStandIn u) = true := by kernel_rfl
        exact (show Tryz.prog.wantsStandIn t = false by simpa using List.all_eq_true.1 hall t hm)⟩)
    (by kernel_rfl)
#print axioms textParses_card
end Go.Proofs.YtjpiplplohapnaaGreatDoor
